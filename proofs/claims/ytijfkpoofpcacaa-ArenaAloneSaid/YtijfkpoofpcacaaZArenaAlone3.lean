/-
  What the law ArenaAlone needs of the seat's texts (ArenaR, ArenaQ, ArenaS, StackG, ArenaT, ArenaU, ArenaV, CoreRow): the words and functions that the kit's print.sh printed, and our own; no condition of its own.
-/
import Derived.Deep.Fields
import Derived.ChangeSame
import Derived.WideShapes
import Derived.ChangeArms
import Derived.RowKit
import Derived.Test.YtijfkpoofpcacaaZArenaAlone2
set_option linter.unusedVariables false
set_option linter.unusedSectionVars false
set_option linter.unusedSimpArgs false
section
set_option linter.unusedVariables false
set_option linter.unusedSectionVars false
namespace Go.Proofs.Ytijfkpoofpcacaa.ArenaR
open Go.RowKit Go.Proofs.Ytijfkpoofpcacaa.Blk Go.Proofs.Ytijfkpoofpcacaa.Core Go.Proofs.Ytijfkpoofpcacaa.MemC Go.Proofs.Ytijfkpoofpcacaa.MemT Go.Proofs.Ytijfkpoofpcacaa.Memory Go.Proofs.Ytijfkpoofpcacaa.PlanC Go.Proofs.Ytijfkpoofpcacaa.PlanD Go.Proofs.Ytijfkpoofpcacaa.StackC Go.Proofs.Ytijfkpoofpcacaa.StackL Go.Proofs.Ytijfkpoofpcacaa.StackS Go.Proofs.Ytijfkpoofpcacaa.StackF Go.Proofs.Ytijfkpoofpcacaa.StackP Go.Proofs.Ytijfkpoofpcacaa.StackQ Go.Proofs.Ytijfkpoofpcacaa.TakerL Go.Proofs.Ytijfkpoofpcacaa.HeadC Go.Proofs.Ytijfkpoofpcacaa.ArenaL
theorem headN_bd {k m : Int} {g : Bool} {a n s : Int} (h : 0 ≤ k ∧ k ≤ 4 ∧ 0 ≤ m ∧ m ≤ 1 ∧ 0 ≤ a ∧ a ≤ 15 ∧ 0 ≤ n ∧ n ≤ 4294967295 ∧ 0 ≤ s ∧ s ≤ 65535) : 0 ≤ headN k m g a n s ∧ headN k m g a n s < 18446744073709551616 := by
  unfold headN
  split <;> omega
theorem made_bd (k a n e : Int) : 0 ≤ (madeV k a n e).1 ∧ (madeV k a n e).1 < 18446744073709551616 := by
  unfold madeV
  split
  · unfold packV
    split
    · rename_i h
      unfold headB at h
      exact headN_bd (of_decide_eq_true h)
    · exact ⟨Int.le_refl 0, by show (0 : Int) < _; decide⟩
  · exact ⟨Int.le_refl 0, by show (0 : Int) < _; decide⟩
theorem freed_bd (x g : Int) (h0 : 0 ≤ x) (h1 : x < 18446744073709551616) : 0 ≤ (freedV x g).1 ∧ (freedV x g).1 < 18446744073709551616 := by
  have hu := u_bd x h0 h1
  unfold freedV
  split
  · show 0 ≤ (if g ≤ uN x + 1 ∨ uN x = 4294967295 then headN 4 (uM x) (uG x) (uA x) (uN x) (uS x) else headN 0 0 false 0 (uN x + 1) 0) ∧ (if g ≤ uN x + 1 ∨ uN x = 4294967295 then headN 4 (uM x) (uG x) (uA x) (uN x) (uS x) else headN 0 0 false 0 (uN x + 1) 0) < _
    split
    · exact headN_bd (by omega)
    · exact headN_bd (by omega)
  · exact ⟨h0, h1⟩
theorem _root_.Go.Proofs.Ytijfkpoofpcacaa.ArenaL.MkOk.step {c : Cf} {n : Nat} {a : Mk} {M : Ms} (h : MkOk n a) (ok : Ok M) (hn : (n : Int) < 9223372036854775808) : MkOk n (mkS c n a M) := by
  obtain ⟨sl, fu, kd, ar, ep, gn, ix, nx, pop⟩ := a
  have hp : nx = 0 → PopOk pop := h.pop
  have hx : ((nx = 0 ∨ nx = 1 ∨ nx = 2) ∧ 0 ≤ ix ∧ ix < n) ∨ nx = 3 ∨ nx = 5 := h.nx
  have he : 0 ≤ ep ∧ ep < 18446744073709551616 := h.ep
  have ha : ar < 9223372036854775808 := h.ar
  have hg : gn < 9223372036854775808 := h.gn
  rcases hx with ⟨rfl | rfl | rfl, i0, i1⟩ | rfl | rfl
  · have hps := (hp rfl).step (c := c) ok
    cases hd : popD c pop M with
    | false =>
      have hS : mkS c n ⟨sl, fu, kd, ar, ep, gn, ix, 0, pop⟩ M = ⟨sl, fu, kd, ar, ep, gn, ix, 0, popS c pop M⟩ := by simp [mkS, hd]
      rw [hS]; exact ⟨fun _ => hps, .inl ⟨.inl rfl, i0, i1⟩, he, ha, hg⟩
    | true =>
      cases hm : (popS c pop M).em with
      | false =>
        have hS : mkS c n ⟨sl, fu, kd, ar, ep, gn, ix, 0, pop⟩ M = ⟨sl, fu, kd, ar, ep, gn, ix, 1, popS c pop M⟩ := by simp [mkS, hd, hm]
        rw [hS]; exact ⟨fun _ => hps, .inl ⟨.inr (.inl rfl), i0, i1⟩, he, ha, hg⟩
      | true =>
        have hS : mkS c n ⟨sl, fu, kd, ar, ep, gn, ix, 0, pop⟩ M = ⟨sl, true, kd, ar, ep, gn, ix, 5, popS c pop M⟩ := by simp [mkS, hd, hm]
        rw [hS]; exact ⟨fun _ => hps, .inr (.inr rfl), he, ha, hg⟩
  · have hS : mkS c n ⟨sl, fu, kd, ar, ep, gn, ix, 1, pop⟩ M = ⟨sl, fu, kd, ar, ep, uN (M.ldV (c.header pop.sl)), ix, 2, pop⟩ := by simp [mkS]
    obtain ⟨x0, x1⟩ := ldV_bd ok (c.header pop.sl)
    have hu := u_bd _ x0 x1
    rw [hS]; exact ⟨fun k => absurd (show (2 : Int) = 0 from k) (by decide), .inl ⟨.inr (.inr rfl), i0, i1⟩, he, ha, by show uN _ < _; omega⟩
  · by_cases e : ix + 1 = (n : Int)
    · have hS : mkS c n ⟨sl, fu, kd, ar, ep, gn, ix, 2, pop⟩ M = ⟨sl, fu, kd, ar, ep, gn, ix + 1, 3, pop⟩ := by simp [mkS, e]
      rw [hS]; exact ⟨fun k => absurd (show (3 : Int) = 0 from k) (by decide), .inr (.inl rfl), he, ha, hg⟩
    · have hS : mkS c n ⟨sl, fu, kd, ar, ep, gn, ix, 2, pop⟩ M = ⟨sl, fu, kd, ar, ep, gn, ix + 1, 2, pop⟩ := by simp [mkS, e]
      rw [hS]; exact ⟨fun k => absurd (show (2 : Int) = 0 from k) (by decide), .inl ⟨.inr (.inr rfl), by show 0 ≤ ix + 1; omega, by show ix + 1 < n; omega⟩, he, ha, hg⟩
  · have hS : mkS c n ⟨sl, fu, kd, ar, ep, gn, ix, 3, pop⟩ M = ⟨pop.sl, fu, kd, ar, ep, gn, ix, 5, pop⟩ := by simp [mkS]
    rw [hS]; exact ⟨fun k => absurd (show (5 : Int) = 0 from k) (by decide), .inr (.inr rfl), he, ha, hg⟩
  · have hS : mkS c n ⟨sl, fu, kd, ar, ep, gn, ix, 5, pop⟩ M = ⟨sl, fu, kd, ar, ep, gn, ix, 5, pop⟩ := by simp [mkS]
    rw [hS]; exact h
theorem fine_mk {c : Cf} {n N T : Nat} {g : Nat → Int} {a : Mk} {M : Ms} (h : Fine M N T) (ho : MkOk n a) (hg : U g) : Fine (mkM c g a M) N (T + 1) := by
  unfold mkM
  split
  · exact fine_pop h (ho.pop ‹_›).t0
  · split
    · exact h.ld _
    · split
      · exact h.st _ (hg _).1 (hg _).2
      · split
        · have := made_bd a.kd a.ar a.gn a.ep
          exact h.st _ this.1 this.2
        · exact h.mono (Nat.le_succ _)
theorem _root_.Go.Proofs.Ytijfkpoofpcacaa.ArenaL.FreOk.step {c : Cf} {a : Fre} {M : Ms} (h : FreOk c a) (ok : Ok M) : FreOk c (frS c a M) := by
  obtain ⟨bk, gn, sl, nw, nx, pu⟩ := a
  have hs : 0 ≤ sl ∧ sl < c.S := h.sl
  have hw : 0 ≤ nw ∧ nw < 18446744073709551616 := h.nw
  have hx : nx = 1 ∨ nx = 3 ∨ (nx = 4 ∧ ∃ Q, pu = some Q ∧ PushOk Q) ∨ nx = 5 := h.nx
  have p0 : PushOk ⟨sl, 0, 0⟩ := ⟨Int.le_refl 0, by show (0 : Int) < _; decide, .inl rfl⟩
  rcases hx with rfl | rfl | ⟨rfl, Q, rfl, oQ⟩ | rfl
  · obtain ⟨x0, x1⟩ := ldV_bd ok (c.header sl)
    have hf := freed_bd _ c.G x0 x1
    cases hv : (freedV (M.ldV (c.header sl)) c.G).2 with
    | true =>
      have hS : frS c ⟨bk, gn, sl, nw, 1, pu⟩ M = ⟨bk, gn, sl, (freedV (M.ldV (c.header sl)) c.G).1, 3, pu⟩ := by simp [frS, hv]
      rw [hS]; exact ⟨hs, hf, .inr (.inl rfl)⟩
    | false =>
      have hS : frS c ⟨bk, gn, sl, nw, 1, pu⟩ M = ⟨bk, gn, sl, (freedV (M.ldV (c.header sl)) c.G).1, 5, pu⟩ := by simp [frS, hv]
      rw [hS]; exact ⟨hs, hf, .inr (.inr (.inr rfl))⟩
  · by_cases hk : uK nw = 4
    · have hS : frS c ⟨bk, gn, sl, nw, 3, pu⟩ M = ⟨bk, true, sl, nw, 5, some ⟨sl, 0, 0⟩⟩ := by simp [frS, hk]
      rw [hS]; exact ⟨hs, hw, .inr (.inr (.inr rfl))⟩
    · have hS : frS c ⟨bk, gn, sl, nw, 3, pu⟩ M = ⟨bk, gn, sl, nw, 4, some ⟨sl, 0, 0⟩⟩ := by simp [frS, hk]
      rw [hS]; exact ⟨hs, hw, .inr (.inr (.inl ⟨rfl, _, rfl, p0⟩))⟩
  · cases hd : pushD c Q M with
    | true =>
      have hS : frS c ⟨bk, gn, sl, nw, 4, some Q⟩ M = ⟨true, gn, sl, nw, 5, some (pushS c Q M)⟩ := by simp [frS, hd]
      rw [hS]; exact ⟨hs, hw, .inr (.inr (.inr rfl))⟩
    | false =>
      have hS : frS c ⟨bk, gn, sl, nw, 4, some Q⟩ M = ⟨bk, gn, sl, nw, 4, some (pushS c Q M)⟩ := by simp [frS, hd]
      rw [hS]; exact ⟨hs, hw, .inr (.inr (.inl ⟨rfl, _, rfl, oQ.step ok⟩))⟩
  · have hS : frS c ⟨bk, gn, sl, nw, 5, pu⟩ M = ⟨bk, gn, sl, nw, 5, pu⟩ := by simp [frS]
    rw [hS]; exact h
theorem fine_fr {c : Cf} {N T : Nat} {a : Fre} {M : Ms} (h : Fine M N T) (ho : FreOk c a) : Fine (frM c a M) N (T + 1) := by
  obtain ⟨bk, gn, sl, nw, nx, pu⟩ := a
  have hw : 0 ≤ nw ∧ nw < 18446744073709551616 := ho.nw
  have hx : nx = 1 ∨ nx = 3 ∨ (nx = 4 ∧ ∃ Q, pu = some Q ∧ PushOk Q) ∨ nx = 5 := ho.nx
  rcases hx with rfl | rfl | ⟨rfl, Q, rfl, oQ⟩ | rfl
  · rw [show frM c ⟨bk, gn, sl, nw, 1, pu⟩ M = M.ldS (c.header sl) by simp [frM]]; exact h.ld _
  · rw [show frM c ⟨bk, gn, sl, nw, 3, pu⟩ M = M.stS (c.header sl) nw by simp [frM]]; exact h.st _ hw.1 hw.2
  · rw [show frM c ⟨bk, gn, sl, nw, 4, some Q⟩ M = pushM c Q M by simp [frM]]; exact fine_push h oQ.t0
  · rw [show frM c ⟨bk, gn, sl, nw, 5, pu⟩ M = M by simp [frM]]; exact h.mono (Nat.le_succ _)
section
variable {c : Cf} (hr : c.right = true) {M : Ms} {t : Int} {L : List Int} {x tp : Int} (hn : M.n = c.size) (h : Stk c M.f t L)
include hr hn h
theorem pb0 : pushS c ⟨x, 0, tp⟩ M = ⟨x, 1, M.f 3⟩ ∧ pushM c ⟨x, 0, tp⟩ M = M.ldS 3 ∧ pushD c ⟨x, 0, tp⟩ M = false := by
  have e3 : M.ldV 3 = M.f 3 := ld_v (by decide) (by have := size_bd hr; unfold Cf.size at hn; omega)
  have hS : pushS c ⟨x, 0, tp⟩ M = ⟨x, 1, M.f 3⟩ := by simp [pushS, e3]
  exact ⟨hS, by simp [pushM], by unfold pushD; rw [hS]; rfl⟩
theorem pb1 (hx : 0 ≤ x ∧ x < c.S) (hnm : x ∉ L) : pushS c ⟨x, 1, M.f 3⟩ M = ⟨x, 2, M.f 3⟩ ∧ pushD c ⟨x, 1, M.f 3⟩ M = false ∧ (pushM c ⟨x, 1, M.f 3⟩ M).f = upd M.f (c.pl x 1).toNat (hd L) ∧ Stk c (pushM c ⟨x, 1, M.f 3⟩ M).f t L ∧ (pushM c ⟨x, 1, M.f 3⟩ M).f 3 = M.f 3 := by
  have hb := room_bd hr
  have hl := pl_bd hr hx (o := 1) ⟨by decide, by omega⟩
  have h1 := h.first hr
  have hS : pushS c ⟨x, 1, M.f 3⟩ M = ⟨x, 2, M.f 3⟩ := by simp [pushS]
  have e1 : firstI c.S (M.f 3) + 1 = hd L := by rw [h1]; omega
  have hM : (pushM c ⟨x, 1, M.f 3⟩ M).f = upd M.f (c.pl x 1).toNat (hd L) := by
    rw [show pushM c ⟨x, 1, M.f 3⟩ M = M.stS (c.pl x 1) (hd L) by simp [pushM, link_pl hr hx, e1]]
    exact (st_pl hr hn hx ⟨by decide, by omega⟩).1
  refine ⟨hS, by unfold pushD; rw [hS]; rfl, hM, ?_, ?_⟩
  · rw [hM, ← link_pl hr hx]; exact h.store hr hx hnm _
  · rw [hM, upd_ne (by omega)]
theorem pb2 (ht : t + 1 < 281474976710656) (hx : 0 ≤ x ∧ x < c.S) (hnm : x ∉ L) (hl : M.f (c.link x).toNat = hd L) : pushS c ⟨x, 2, M.f 3⟩ M = ⟨x, 3, M.f 3⟩ ∧ pushD c ⟨x, 2, M.f 3⟩ M = true ∧ Stk c (pushM c ⟨x, 2, M.f 3⟩ M).f (t + 1) (x :: L) ∧ (∀ j, j ≠ 3 → (pushM c ⟨x, 2, M.f 3⟩ M).f j = M.f j) := by
  have hsz := size_bd hr
  have hn9 : (9 : Int) ≤ M.n := by unfold Cf.size at hn; omega
  obtain ⟨s1, s2, s3⟩ := sw_yes (M := M) (a := 3) (old := M.f 3) (now := movedV (M.f 3) x) (by decide) (by omega) rfl
  have hS : pushS c ⟨x, 2, M.f 3⟩ M = ⟨x, 3, M.f 3⟩ := by simp [pushS, s1]
  have hM : (pushM c ⟨x, 2, M.f 3⟩ M).f = upd M.f 3 (movedV (M.f 3) x) := by rw [show pushM c ⟨x, 2, M.f 3⟩ M = M.swS 3 (M.f 3) (movedV (M.f 3) x) by simp [pushM]]; exact s2
  refine ⟨hS, by unfold pushD; rw [hS]; rfl, ?_, fun j hj => ?_⟩
  · rw [hM]; exact h.lay hr ht hx hnm hl
  · rw [hM]; exact upd_ne hj
end
def FrI (c : Cf) (f : Nat → Int) (t : Int) (L : List Int) (s x : Int) (i : Nat) (a : Fre) : Prop :=
  a.sl = s ∧ a.bk = false ∧ a.gn = false ∧ Stk c f t L ∧ (
    (i = 0 ∧ a.nx = 1 ∧ f (c.pl s 0).toNat = x) ∨
    ((freedV x c.G).2 = true ∧ a.nw = (freedV x c.G).1 ∧ (
      (i = 1 ∧ a.nx = 3 ∧ f (c.pl s 0).toNat = x) ∨
      (uK (freedV x c.G).1 ≠ 4 ∧ a.nx = 4 ∧ f (c.pl s 0).toNat = (freedV x c.G).1 ∧ (
        (i = 2 ∧ a.pu = some ⟨s, 0, 0⟩) ∨ (i = 3 ∧ a.pu = some ⟨s, 1, f 3⟩) ∨ (i = 4 ∧ a.pu = some ⟨s, 2, f 3⟩ ∧ f (c.link s).toNat = hd L))))))
def FrE (c : Cf) (f : Nat → Int) (t : Int) (L : List Int) (s x : Int) (a : Fre) : Prop :=
  a.nx = 5 ∧ a.sl = s ∧ (
    ((freedV x c.G).2 = false ∧ a.bk = false ∧ a.gn = false ∧ f (c.pl s 0).toNat = x ∧ Stk c f t L) ∨
    ((freedV x c.G).2 = true ∧ f (c.pl s 0).toNat = (freedV x c.G).1 ∧ (
      (uK (freedV x c.G).1 = 4 ∧ a.bk = false ∧ a.gn = true ∧ Stk c f t L) ∨
      (uK (freedV x c.G).1 ≠ 4 ∧ a.bk = true ∧ a.gn = false ∧ Stk c f (t + 1) (s :: L)))))
theorem frStep {c : Cf} (hr : c.right = true) {M : Ms} (hn : M.n = c.size) {t s x : Int} {L : List Int} (hs : 0 ≤ s ∧ s < c.S) (hnm : s ∉ L) (ht : t + 1 < 281474976710656) {i : Nat} {a : Fre} (h : FrI c M.f t L s x i a) :
    (frD c a M = false ∧ FrI c (frM c a M).f t L s x (i + 1) (frS c a M) ∧ i < 4) ∨ (frD c a M = true ∧ FrE c (frM c a M).f t L s x (frS c a M)) := by
  have hb := room_bd hr
  have h00 : (0 : Int) ≤ 0 ∧ (0 : Int) < roomV c.A := ⟨by decide, by omega⟩
  have hp0 := pl_bd hr hs h00
  obtain ⟨bk, gn, sl, nw, nx, pu⟩ := a
  obtain ⟨h1, h2, h3, h4, h5⟩ := h
  obtain rfl : sl = s := h1
  obtain rfl : bk = false := h2
  obtain rfl : gn = false := h3
  have e0 : c.header sl = c.pl sl 0 := header_pl hr hs
  rcases h5 with ⟨rfl, h5, h6⟩ | ⟨hv, h5, ⟨rfl, h6, h7⟩ | ⟨hk, h6, h7, h8⟩⟩
  · obtain rfl : nx = 1 := h5
    have el : M.ldV (c.header sl) = x := by rw [e0, ld_pl hr hn hs h00]; exact h6
    have hM : (frM c ⟨false, false, sl, nw, 1, pu⟩ M).f = M.f := by rw [show frM c ⟨false, false, sl, nw, 1, pu⟩ M = M.ldS (c.header sl) by simp [frM]]; exact (ld_f M _).1
    cases hv : (freedV x c.G).2 with
    | true =>
      have hS : frS c ⟨false, false, sl, nw, 1, pu⟩ M = ⟨false, false, sl, (freedV x c.G).1, 3, pu⟩ := by simp [frS, el, hv]
      refine .inl ⟨by unfold frD; rw [hS]; rfl, ?_, by decide⟩
      rw [hS, hM]; exact ⟨rfl, rfl, rfl, h4, .inr ⟨hv, rfl, .inl ⟨rfl, rfl, h6⟩⟩⟩
    | false =>
      have hS : frS c ⟨false, false, sl, nw, 1, pu⟩ M = ⟨false, false, sl, (freedV x c.G).1, 5, pu⟩ := by simp [frS, el, hv]
      refine .inr ⟨by unfold frD; rw [hS]; rfl, ?_⟩
      rw [hS, hM]; exact ⟨rfl, rfl, .inl ⟨hv, rfl, rfl, h6, h4⟩⟩
  · obtain rfl : nx = 3 := h6
    obtain rfl : nw = (freedV x c.G).1 := h5
    have hM : (frM c ⟨false, false, sl, (freedV x c.G).1, 3, pu⟩ M).f = upd M.f (c.pl sl 0).toNat (freedV x c.G).1 := by
      rw [show frM c ⟨false, false, sl, (freedV x c.G).1, 3, pu⟩ M = M.stS (c.pl sl 0) (freedV x c.G).1 by simp [frM, e0]]
      exact (st_pl hr hn hs h00).1
    have hk4 := Stk.off hr h4 (v := (freedV x c.G).1) hs h00 (by decide)
    by_cases hk : uK (freedV x c.G).1 = 4
    · have hS : frS c ⟨false, false, sl, (freedV x c.G).1, 3, pu⟩ M = ⟨false, true, sl, (freedV x c.G).1, 5, some ⟨sl, 0, 0⟩⟩ := by simp [frS, hk]
      refine .inr ⟨by unfold frD; rw [hS]; rfl, ?_⟩
      rw [hS, hM]; exact ⟨rfl, rfl, .inr ⟨hv, upd_eq, .inl ⟨hk, rfl, rfl, hk4⟩⟩⟩
    · have hS : frS c ⟨false, false, sl, (freedV x c.G).1, 3, pu⟩ M = ⟨false, false, sl, (freedV x c.G).1, 4, some ⟨sl, 0, 0⟩⟩ := by simp [frS, hk]
      refine .inl ⟨by unfold frD; rw [hS]; rfl, ?_, by decide⟩
      rw [hS, hM]; exact ⟨rfl, rfl, rfl, hk4, .inr ⟨hv, rfl, .inr ⟨hk, rfl, upd_eq, .inl ⟨rfl, rfl⟩⟩⟩⟩
  · obtain rfl : nx = 4 := h6
    obtain rfl : nw = (freedV x c.G).1 := h5
    rcases h8 with ⟨rfl, h8⟩ | ⟨rfl, h8⟩ | ⟨rfl, h8, h9⟩
    · obtain rfl : pu = some ⟨sl, 0, 0⟩ := h8
      obtain ⟨p1, p2, p3⟩ := pb0 (x := sl) (tp := 0) hr hn h4
      have hS : frS c ⟨false, false, sl, (freedV x c.G).1, 4, some ⟨sl, 0, 0⟩⟩ M = ⟨false, false, sl, (freedV x c.G).1, 4, some ⟨sl, 1, M.f 3⟩⟩ := by simp [frS, p1, p3]
      have hM : (frM c ⟨false, false, sl, (freedV x c.G).1, 4, some ⟨sl, 0, 0⟩⟩ M).f = M.f := by rw [show frM c ⟨false, false, sl, (freedV x c.G).1, 4, some ⟨sl, 0, 0⟩⟩ M = M.ldS 3 by simp [frM, p2]]; exact (ld_f M _).1
      refine .inl ⟨by unfold frD; rw [hS]; rfl, ?_, by decide⟩
      rw [hS, hM]; exact ⟨rfl, rfl, rfl, h4, .inr ⟨hv, rfl, .inr ⟨hk, rfl, h7, .inr (.inl ⟨rfl, rfl⟩)⟩⟩⟩
    · obtain rfl : pu = some ⟨sl, 1, M.f 3⟩ := h8
      obtain ⟨p1, p3, p2, p4, p5⟩ := pb1 hr hn h4 hs hnm
      have hS : frS c ⟨false, false, sl, (freedV x c.G).1, 4, some ⟨sl, 1, M.f 3⟩⟩ M = ⟨false, false, sl, (freedV x c.G).1, 4, some ⟨sl, 2, M.f 3⟩⟩ := by simp [frS, p1, p3]
      have hM : frM c ⟨false, false, sl, (freedV x c.G).1, 4, some ⟨sl, 1, M.f 3⟩⟩ M = pushM c ⟨sl, 1, M.f 3⟩ M := by simp [frM]
      have hne := pl_ne hr hs hs h00 (j := 1) ⟨by decide, by omega⟩ (.inr (by decide))
      refine .inl ⟨by unfold frD; rw [hS]; rfl, ?_, by decide⟩
      rw [hS, hM]
      refine ⟨rfl, rfl, rfl, p4, .inr ⟨hv, rfl, .inr ⟨hk, rfl, ?_, .inr (.inr ⟨rfl, by rw [p5], ?_⟩)⟩⟩⟩
      · rw [p2, upd_ne hne]; exact h7
      · rw [link_pl hr hs, p2, upd_eq]
    · obtain rfl : pu = some ⟨sl, 2, M.f 3⟩ := h8
      obtain ⟨p1, p3, p4, p5⟩ := pb2 hr hn h4 ht hs hnm h9
      have hS : frS c ⟨false, false, sl, (freedV x c.G).1, 4, some ⟨sl, 2, M.f 3⟩⟩ M = ⟨true, false, sl, (freedV x c.G).1, 5, some ⟨sl, 3, M.f 3⟩⟩ := by simp [frS, p1, p3]
      have hM : frM c ⟨false, false, sl, (freedV x c.G).1, 4, some ⟨sl, 2, M.f 3⟩⟩ M = pushM c ⟨sl, 2, M.f 3⟩ M := by simp [frM]
      refine .inr ⟨by unfold frD; rw [hS]; rfl, ?_⟩
      rw [hS, hM]
      exact ⟨rfl, rfl, .inr ⟨hv, by rw [p5 _ (by omega)]; exact h7, .inr ⟨hk, rfl, rfl, p4⟩⟩⟩
end Go.Proofs.Ytijfkpoofpcacaa.ArenaR
end
section
set_option linter.unusedVariables false
set_option linter.unusedSectionVars false
namespace Go.Proofs.Ytijfkpoofpcacaa.ArenaQ
open Go.RowKit Go.Proofs.YtijfkpoofpcacaaW.PrintWords Go.Proofs.Ytijfkpoofpcacaa.Blk Go.Proofs.Ytijfkpoofpcacaa.Core Go.Proofs.Ytijfkpoofpcacaa.MemC Go.Proofs.Ytijfkpoofpcacaa.MemD Go.Proofs.Ytijfkpoofpcacaa.MemT Go.Proofs.Ytijfkpoofpcacaa.PlanC Go.Proofs.Ytijfkpoofpcacaa.PlanD Go.Proofs.Ytijfkpoofpcacaa.StackC Go.Proofs.Ytijfkpoofpcacaa.StackL Go.Proofs.Ytijfkpoofpcacaa.StackS Go.Proofs.Ytijfkpoofpcacaa.StackP Go.Proofs.Ytijfkpoofpcacaa.HeadC Go.Proofs.Ytijfkpoofpcacaa.ArenaC Go.Proofs.Ytijfkpoofpcacaa.ArenaM Go.Proofs.Ytijfkpoofpcacaa.ArenaN Go.Proofs.Ytijfkpoofpcacaa.ArenaP Go.Proofs.Ytijfkpoofpcacaa.ArenaL Go.Proofs.Ytijfkpoofpcacaa.ArenaR Go.Proofs.Ytijfkpoofpcacaa.Opens
structure MkB (w : World) (p q r : Nat) (c : Cf) (n : Nat) (g : Nat → Int) (a : Mk) : Prop where
  blk : Blk w p 82 (makeA c a.sl a.fu a.kd a.ar a.ep (.slice (some ⟨r, 0, none⟩) n n) (some ⟨q, 0, none⟩) a.gn a.ix a.nx)
  pop : PopB w q c a.pop
  row : RowB w (some ⟨r, 0, none⟩) n r n g
theorem MkB.below {w w' : World} {p q r n : Nat} {c : Cf} {g : Nat → Int} {a : Mk} (h : MkB w p q r c n g a) (hb : Below w.heap.size w w') : MkB w' p q r c n g a :=
  ⟨h.blk.below hb h.blk.lt, Blk.below h.pop hb (Blk.lt h.pop), h.row.below hb (Nat.le_refl _)⟩
theorem MkB.fr {S : Nat → Prop} {w w' : World} {p q r n : Nat} {c : Cf} {g : Nat → Int} {a : Mk} (h : MkB w p q r c n g a) (hf : Fr S w w') (hp : ¬ S p) (hq : ¬ S q) (hr : ¬ S r) : MkB w' p q r c n g a :=
  ⟨h.blk.fr hf hp, Blk.fr h.pop hf hq, h.row.fr hf hr⟩
theorem makeC (c : Cf) (w : World) (p q r m b n : Nat) (M : Ms) (g : Nat → Int) (a : Mk) (hc : c.right = true) (hM : MemB w m b M) (ok : Ok M) (np : ¬ two m b p) (nqm : ¬ two m b q) (nrm : ¬ two m b r) (nqp : q ≠ p) (nrp : r ≠ p) (nrq : r ≠ q) (hn : n ≤ 1000) (h : MkB w p q r c n g a) (ho : MkOk n a) :
    Calls Try.prog 52 #[.pointer (some ⟨p, 0, none⟩), .pointer (some ⟨m, 0, none⟩)] w fun e w' =>
    e = .returned (.bool (mkD c n a M)) ∧ MkB w' p q r c n g (mkS c n a M) ∧ MemB w' m b (mkM c g a M) ∧ Fr (four p q m b) w w' := by
  have hR : ∀ w', Fr (four p q m b) w w' → RowB w' (some ⟨r, 0, none⟩) n r n g := fun w' hf => h.row.fr hf (fun x => x.elim nrp (fun x => x.elim nrq nrm))
  obtain ⟨sl, fu, kd, ar, ep, gn, ix, nx, pop⟩ := a
  obtain ⟨h1, h2, h3⟩ := h
  have hx : ((nx = 0 ∨ nx = 1 ∨ nx = 2) ∧ 0 ≤ ix ∧ ix < n) ∨ nx = 3 ∨ nx = 5 := ho.nx
  rcases hx with ⟨rfl | rfl | rfl, i0, i1⟩ | rfl | rfl
  · have oQ : PopOk pop := ho.pop rfl
    cases hd : popD c pop M with
    | false =>
      refine (make_0b c w p m b M hc hM ok np sl fu kd ar ep _ q pop nqm nqp h2 oQ hd gn ix h1).mono ?_
      rintro e w' ⟨rfl, a1, a2, a3, a4⟩
      have hS : mkS c n ⟨sl, fu, kd, ar, ep, gn, ix, 0, pop⟩ M = ⟨sl, fu, kd, ar, ep, gn, ix, 0, popS c pop M⟩ := by simp [mkS, hd]
      have hM' : mkM c g ⟨sl, fu, kd, ar, ep, gn, ix, 0, pop⟩ M = popM c pop M := by simp [mkM]
      rw [hM']
      refine ⟨by unfold mkD; rw [hS]; rfl, ?_, a3, a4⟩
      rw [hS]; exact ⟨a2, a1, hR _ a4⟩
    | true =>
      cases he : (popS c pop M).em with
      | false =>
        refine (make_0n c w p m b M hc hM ok np sl fu kd ar ep _ q pop nqm nqp h2 oQ hd he gn ix h1).mono ?_
        rintro e w' ⟨rfl, a1, a2, a3, a4⟩
        have hS : mkS c n ⟨sl, fu, kd, ar, ep, gn, ix, 0, pop⟩ M = ⟨sl, fu, kd, ar, ep, gn, ix, 1, popS c pop M⟩ := by simp [mkS, hd, he]
        have hM' : mkM c g ⟨sl, fu, kd, ar, ep, gn, ix, 0, pop⟩ M = popM c pop M := by simp [mkM]
        rw [hM']
        refine ⟨by unfold mkD; rw [hS]; rfl, ?_, a3, a4⟩
        rw [hS]; exact ⟨a2, a1, hR _ a4⟩
      | true =>
        refine (make_0e c w p m b M hc hM ok np sl fu kd ar ep _ q pop nqm nqp h2 oQ hd he gn ix h1).mono ?_
        rintro e w' ⟨rfl, a1, a2, a3, a4⟩
        have hS : mkS c n ⟨sl, fu, kd, ar, ep, gn, ix, 0, pop⟩ M = ⟨sl, true, kd, ar, ep, gn, ix, 5, popS c pop M⟩ := by simp [mkS, hd, he]
        have hM' : mkM c g ⟨sl, fu, kd, ar, ep, gn, ix, 0, pop⟩ M = popM c pop M := by simp [mkM]
        rw [hM']
        refine ⟨by unfold mkD; rw [hS]; rfl, ?_, a3, a4⟩
        rw [hS]; exact ⟨a2, a1, hR _ a4⟩
  · refine (make_1 c w p m b M hM ok np sl fu kd ar ep _ q pop nqm nqp h2 gn ix h1).mono ?_
    rintro e w' ⟨rfl, a1, a2, a3, a4⟩
    have hS : mkS c n ⟨sl, fu, kd, ar, ep, gn, ix, 1, pop⟩ M = ⟨sl, fu, kd, ar, ep, uN (M.ldV (c.header pop.sl)), ix, 2, pop⟩ := by simp [mkS]
    have hM' : mkM c g ⟨sl, fu, kd, ar, ep, gn, ix, 1, pop⟩ M = M.ldS (c.header pop.sl) := by simp [mkM]
    rw [hM']
    refine ⟨by unfold mkD; rw [hS]; rfl, ?_, a3, a4⟩
    rw [hS]; exact ⟨a2, a1, hR _ a4⟩
  · obtain ⟨k, rfl⟩ := Int.eq_ofNat_of_zero_le i0
    have hk : k < n := by omega
    have hM' : mkM c g ⟨sl, fu, kd, ar, ep, gn, (k : Int), 2, pop⟩ M = M.stS (c.body pop.sl k) (g k) := by simp [mkM]
    rw [hM']
    by_cases e : k + 1 = n
    · refine (make_2e c w p m b M hM ok np sl fu kd ar ep q pop nqm nqp h2 gn r n n g h3 hn nrm nrp k hk (by simpa using (by omega : (k : Int) + 1 = (n : Int))) h1).mono ?_
      rintro e w' ⟨rfl, a1, a2, a3, a4, a5⟩
      have hS : mkS c n ⟨sl, fu, kd, ar, ep, gn, (k : Int), 2, pop⟩ M = ⟨sl, fu, kd, ar, ep, gn, (k : Int) + 1, 3, pop⟩ := by simp [mkS, show (k : Int) + 1 = (n : Int) by omega]
      refine ⟨by unfold mkD; rw [hS]; rfl, ?_, a3, a5⟩
      rw [hS]; exact ⟨a2, a1, a4⟩
    · have e' : ¬ (k : Int) + 1 = (n : Int) := by omega
      refine (make_2b c w p m b M hM ok np sl fu kd ar ep q pop nqm nqp h2 gn r n n g h3 hn nrm nrp k hk (by simpa using e') h1).mono ?_
      rintro e w' ⟨rfl, a1, a2, a3, a4, a5⟩
      have hS : mkS c n ⟨sl, fu, kd, ar, ep, gn, (k : Int), 2, pop⟩ M = ⟨sl, fu, kd, ar, ep, gn, (k : Int) + 1, 2, pop⟩ := by simp [mkS, e']
      refine ⟨by unfold mkD; rw [hS]; rfl, ?_, a3, a5⟩
      rw [hS]; exact ⟨a2, a1, a4⟩
  · refine (make_3 c w p m b M hM ok np sl fu kd ar ep q pop nqm nqp h2 _ gn ix ho.ep.1 ho.ep.2 ho.ar ho.gn h1).mono ?_
    rintro e w' ⟨rfl, a1, a2, a3, a4⟩
    have hS : mkS c n ⟨sl, fu, kd, ar, ep, gn, ix, 3, pop⟩ M = ⟨pop.sl, fu, kd, ar, ep, gn, ix, 5, pop⟩ := by simp [mkS]
    have hM' : mkM c g ⟨sl, fu, kd, ar, ep, gn, ix, 3, pop⟩ M = M.stS (c.header pop.sl) (madeV kd ar gn ep).1 := by simp [mkM]
    rw [hM']
    refine ⟨by unfold mkD; rw [hS]; rfl, ?_, a3, a4⟩
    rw [hS]; exact ⟨a2, a1, hR _ a4⟩
  · refine (make_5 c w p m sl fu kd ar ep _ q pop h2 gn ix h1).mono ?_
    rintro e w' ⟨rfl, rfl⟩
    have hS : mkS c n ⟨sl, fu, kd, ar, ep, gn, ix, 5, pop⟩ M = ⟨sl, fu, kd, ar, ep, gn, ix, 5, pop⟩ := by simp [mkS]
    have hM' : mkM c g ⟨sl, fu, kd, ar, ep, gn, ix, 5, pop⟩ M = M := by simp [mkM]
    rw [hM']
    refine ⟨by unfold mkD; rw [hS]; rfl, ?_, hM, Fr.refl _ _⟩
    rw [hS]; exact ⟨h1, h2, h3⟩
structure FrB (w : World) (p : Nat) (c : Cf) (a : Fre) (qa : Option Nat) : Prop where
  blk : Blk w p 95 (freeA c a.bk a.gn a.sl a.nw (qa.map fun q => ⟨q, 0, none⟩) a.nx)
  push : ∀ Q, a.pu = some Q → ∃ q, qa = some q ∧ PushB w q c Q
theorem FrB.below {w w' : World} {p : Nat} {c : Cf} {a : Fre} {qa : Option Nat} (h : FrB w p c a qa) (hb : Below w.heap.size w w') : FrB w' p c a qa :=
  ⟨h.blk.below hb h.blk.lt, fun Q e => by obtain ⟨q, e1, e2⟩ := h.push Q e; exact ⟨q, e1, Blk.below e2 hb (Blk.lt e2)⟩⟩
theorem FrB.fr {S : Nat → Prop} {w w' : World} {p : Nat} {c : Cf} {a : Fre} {qa : Option Nat} (h : FrB w p c a qa) (hf : Fr S w w') (hp : ¬ S p) (hq : ∀ q, qa = some q → ¬ S q) : FrB w' p c a qa :=
  ⟨h.blk.fr hf hp, fun Q e => by obtain ⟨q, e1, e2⟩ := h.push Q e; exact ⟨q, e1, Blk.fr e2 hf (hq q e1)⟩⟩
def fiv (p m b : Nat) (qa : Option Nat) : Nat → Prop := fun k => qa = some k ∨ three p m b k
theorem freC (c : Cf) (w : World) (p m b : Nat) (M : Ms) (a : Fre) (qa : Option Nat) (hc : c.right = true) (hM : MemB w m b M) (ok : Ok M) (np : ¬ two m b p) (nq : ∀ q, qa = some q → ¬ two m b q ∧ q ≠ p) (h : FrB w p c a qa) (ho : FreOk c a) :
    Calls Try.prog 59 #[.pointer (some ⟨p, 0, none⟩), .pointer (some ⟨m, 0, none⟩)] w fun e w' =>
    e = .returned (.bool (frD c a M)) ∧ ∃ qa', FrB w' p c (frS c a M) qa' ∧ (qa' = qa ∨ ∃ q, qa' = some q ∧ w.heap.size ≤ q) ∧ MemB w' m b (frM c a M) ∧ Fr (fiv p m b qa) w w' := by
  obtain ⟨bk, gn, sl, nw, nx, pu⟩ := a
  obtain ⟨h1, h2⟩ := h
  have f3 : ∀ w', Fr (three p m b) w w' → Fr (fiv p m b qa) w w' := fun w' hf => hf.mono (fun _ x => .inr x)
  have h2' : ∀ w', Fr (three p m b) w w' → ∀ Q, pu = some Q → ∃ q, qa = some q ∧ PushB w' q c Q := fun w' hf Q e => by
    obtain ⟨q, e1, e2⟩ := h2 Q e
    have := nq q e1
    exact ⟨q, e1, Blk.fr e2 hf (fun x => x.elim this.2 this.1)⟩
  have hx : nx = 1 ∨ nx = 3 ∨ (nx = 4 ∧ ∃ Q, pu = some Q ∧ PushOk Q) ∨ nx = 5 := ho.nx
  rcases hx with rfl | rfl | ⟨rfl, Q, rfl, oQ⟩ | rfl
  · have hM' : frM c ⟨bk, gn, sl, nw, 1, pu⟩ M = M.ldS (c.header sl) := by simp [frM]
    rw [hM']
    cases hv : (freedV (M.ldV (c.header sl)) c.G).2 with
    | true =>
      refine (free_1y c w p m b M hc hM ok np bk gn sl nw _ hv h1).mono ?_
      rintro e w' ⟨rfl, a1, a2, a3⟩
      have hS : frS c ⟨bk, gn, sl, nw, 1, pu⟩ M = ⟨bk, gn, sl, (freedV (M.ldV (c.header sl)) c.G).1, 3, pu⟩ := by simp [frS, hv]
      refine ⟨by unfold frD; rw [hS]; rfl, qa, ?_, .inl rfl, a2, f3 _ a3⟩
      rw [hS]; exact ⟨a1, h2' _ a3⟩
    | false =>
      refine (free_1n c w p m b M hc hM ok np bk gn sl nw _ hv h1).mono ?_
      rintro e w' ⟨rfl, a1, a2, a3⟩
      have hS : frS c ⟨bk, gn, sl, nw, 1, pu⟩ M = ⟨bk, gn, sl, (freedV (M.ldV (c.header sl)) c.G).1, 5, pu⟩ := by simp [frS, hv]
      refine ⟨by unfold frD; rw [hS]; rfl, qa, ?_, .inl rfl, a2, f3 _ a3⟩
      rw [hS]; exact ⟨a1, h2' _ a3⟩
  · have hM' : frM c ⟨bk, gn, sl, nw, 3, pu⟩ M = M.stS (c.header sl) nw := by simp [frM]
    rw [hM']
    by_cases hk : uK nw = 4
    · refine (free_3d c w p m b M hc hM ok np bk gn sl nw _ ho.sl.1 ho.sl.2 ho.nw.1 ho.nw.2 (by simpa using hk) h1).mono ?_
      rintro e w' ⟨rfl, q, g1, g2, a1, a2, a3⟩
      have hS : frS c ⟨bk, gn, sl, nw, 3, pu⟩ M = ⟨bk, true, sl, nw, 5, some ⟨sl, 0, 0⟩⟩ := by simp [frS, hk]
      refine ⟨by unfold frD; rw [hS]; rfl, some q, ?_, .inr ⟨q, rfl, g1⟩, a2, f3 _ a3⟩
      rw [hS]; exact ⟨a1, fun Q e => ⟨q, rfl, by cases e; exact g2⟩⟩
    · refine (free_3b c w p m b M hc hM ok np bk gn sl nw _ ho.sl.1 ho.sl.2 ho.nw.1 ho.nw.2 (by simpa using hk) h1).mono ?_
      rintro e w' ⟨rfl, q, g1, g2, a1, a2, a3⟩
      have hS : frS c ⟨bk, gn, sl, nw, 3, pu⟩ M = ⟨bk, gn, sl, nw, 4, some ⟨sl, 0, 0⟩⟩ := by simp [frS, hk]
      refine ⟨by unfold frD; rw [hS]; rfl, some q, ?_, .inr ⟨q, rfl, g1⟩, a2, f3 _ a3⟩
      rw [hS]; exact ⟨a1, fun Q e => ⟨q, rfl, by cases e; exact g2⟩⟩
  · have hM' : frM c ⟨bk, gn, sl, nw, 4, some Q⟩ M = pushM c Q M := by simp [frM]
    rw [hM']
    obtain ⟨q, rfl, hQ⟩ := h2 Q rfl
    obtain ⟨nqm, nqp⟩ := nq q rfl
    have f4 : ∀ w', Fr (four p q m b) w w' → Fr (fiv p m b (some q)) w w' := fun w' hf => hf.mono (fun k x => by
      rcases x with x | x | x
      · exact .inr (.inl x)
      · exact .inl (by rw [x])
      · exact .inr (.inr x))
    cases hd : pushD c Q M with
    | true =>
      refine (free_4a c w p m b M hc hM ok np bk gn sl nw q Q nqm nqp hQ oQ hd h1).mono ?_
      rintro e w' ⟨rfl, a0, a1, a2, a3⟩
      have hS : frS c ⟨bk, gn, sl, nw, 4, some Q⟩ M = ⟨true, gn, sl, nw, 5, some (pushS c Q M)⟩ := by simp [frS, hd]
      refine ⟨by unfold frD; rw [hS]; rfl, some q, ?_, .inl rfl, a2, f4 _ a3⟩
      rw [hS]; exact ⟨a1, fun Q' e => ⟨q, rfl, by cases e; exact a0⟩⟩
    | false =>
      refine (free_4b c w p m b M hc hM ok np bk gn sl nw q Q nqm nqp hQ oQ hd h1).mono ?_
      rintro e w' ⟨rfl, a0, a1, a2, a3⟩
      have hS : frS c ⟨bk, gn, sl, nw, 4, some Q⟩ M = ⟨bk, gn, sl, nw, 4, some (pushS c Q M)⟩ := by simp [frS, hd]
      refine ⟨by unfold frD; rw [hS]; rfl, some q, ?_, .inl rfl, a2, f4 _ a3⟩
      rw [hS]; exact ⟨a1, fun Q' e => ⟨q, rfl, by cases e; exact a0⟩⟩
  · refine (free_5 c w p m b M hc hM ok np bk gn sl nw _ h1).mono ?_
    rintro e w' ⟨rfl, rfl⟩
    have hS : frS c ⟨bk, gn, sl, nw, 5, pu⟩ M = ⟨bk, gn, sl, nw, 5, pu⟩ := by simp [frS]
    have hM' : frM c ⟨bk, gn, sl, nw, 5, pu⟩ M = M := by simp [frM]
    rw [hM']
    refine ⟨by unfold frD; rw [hS]; rfl, qa, ?_, .inl rfl, hM, Fr.refl _ _⟩
    rw [hS]; exact ⟨h1, h2⟩
end Go.Proofs.Ytijfkpoofpcacaa.ArenaQ
end
section
set_option linter.unusedVariables false
set_option linter.unusedSectionVars false
namespace Go.Proofs.Ytijfkpoofpcacaa.ArenaS
open Go.RowKit Go.Proofs.YtijfkpoofpcacaaW.PrintWords Go.Proofs.Ytijfkpoofpcacaa.Blk Go.Proofs.Ytijfkpoofpcacaa.Core Go.Proofs.Ytijfkpoofpcacaa.MemC Go.Proofs.Ytijfkpoofpcacaa.MemD Go.Proofs.Ytijfkpoofpcacaa.MemT Go.Proofs.Ytijfkpoofpcacaa.Memory Go.Proofs.Ytijfkpoofpcacaa.PlanC Go.Proofs.Ytijfkpoofpcacaa.PlanD Go.Proofs.Ytijfkpoofpcacaa.StackC Go.Proofs.Ytijfkpoofpcacaa.StackL Go.Proofs.Ytijfkpoofpcacaa.StackS Go.Proofs.Ytijfkpoofpcacaa.StackF Go.Proofs.Ytijfkpoofpcacaa.StackP Go.Proofs.Ytijfkpoofpcacaa.HeadC Go.Proofs.Ytijfkpoofpcacaa.ArenaC Go.Proofs.Ytijfkpoofpcacaa.ArenaM Go.Proofs.Ytijfkpoofpcacaa.ArenaN Go.Proofs.Ytijfkpoofpcacaa.ArenaP Go.Proofs.Ytijfkpoofpcacaa.ArenaL Go.Proofs.Ytijfkpoofpcacaa.ArenaR Go.Proofs.Ytijfkpoofpcacaa.ArenaQ Go.Proofs.Ytijfkpoofpcacaa.Opens
structure Dis (p q r m b : Nat) : Prop where
  np : ¬ two m b p
  nq : ¬ two m b q
  nr : ¬ two m b r
  qp : q ≠ p
  rp : r ≠ p
  rq : r ≠ q
def MkX (c : Cf) (w : World) (p q r m b N T : Nat) (g : Nat → Int) (t x : Int) (rst : List Int) (i : Nat) : Prop :=
  ∃ a M, MkB w p q r c (roomI c) g a ∧ Stg c (roomI c) M.f t x rst i a ∧ MkOk (roomI c) a ∧ MemB w m b M ∧ Fine M N T
theorem fine_n {c : Cf} (hr : c.right = true) {M : Ms} {N T : Nat} (h : Fine M N T) (hN : (N : Int) = c.size) : (M.n : Int) = c.size := by rw [h.n]; exact hN
theorem N_bd {c : Cf} (hr : c.right = true) {N : Nat} (hN : (N : Int) = c.size) : 9 ≤ N ∧ N ≤ 800 := by have := size_bd hr; unfold Cf.size at hN; omega
section
variable {c : Cf} (hr : c.right = true) {w : World} {p q r m b N T : Nat} {g : Nat → Int} {t x : Int} {rst : List Int} (hN : (N : Int) = c.size) (hT : T ≤ 1000000) (hx : 0 ≤ x ∧ x < c.S) (ht : t + 1 < 281474976710656) (hg : U g) (d : Dis p q r m b)
include hr hN hT hg d
theorem mkXC (hx : 0 ≤ x ∧ x < c.S) (ht : t + 1 < 281474976710656) {i : Nat} (hi : i < 5 + roomI c) (h : MkX c w p q r m b N T g t x rst i) : Calls Try.prog 52 #[.pointer (some ⟨p, 0, none⟩), .pointer (some ⟨m, 0, none⟩)] w fun e w' =>
    e = .returned (.bool (i + 1 == 5 + roomI c)) ∧ MkX c w' p q r m b N (T + 1) g t x rst (i + 1) ∧ Fr (four p q m b) w w' := by
  obtain ⟨a, M, h1, h2, h3, h4, h5⟩ := h
  have hb := N_bd hr hN
  have hri := room_i hr
  have ok := h5.ok (by omega) (by omega)
  have hn := fine_n hr h5 hN
  refine (makeC c w p q r m b (roomI c) M g a hr h4 ok d.np d.nq d.nr d.qp d.rp d.rq (by omega) h1 h3).mono ?_
  rintro e w' ⟨rfl, a1, a2, a3⟩
  obtain ⟨s1, s2⟩ := mkStep hr hri.2.2 (g := g) hn hx ht hi h2
  rw [s2]
  exact ⟨rfl, ⟨_, _, a1, s1, h3.step ok (by omega), a2, fine_mk h5 h3 hg⟩, a3⟩
theorem mkFull {M : Ms} {a : Mk} (hs : Stk c M.f t []) (ha : a.nx = 0 ∧ a.fu = false ∧ a.sl = -1 ∧ a.pop = ⟨-1, false, 0, 0, 0⟩) (h1 : MkB w p q r c (roomI c) g a) (h3 : MkOk (roomI c) a) (h4 : MemB w m b M) (h5 : Fine M N T) : Calls Try.prog 52 #[.pointer (some ⟨p, 0, none⟩), .pointer (some ⟨m, 0, none⟩)] w fun e w' =>
    e = .returned (.bool true) ∧ w'.cell? ⟨p, 0, none⟩ = some (.int .i64 (-1)) ∧ w'.cell? ⟨p, 1, none⟩ = some (.bool true) ∧ Fr (four p q m b) w w' := by
  have hb := N_bd hr hN
  have hri := room_i hr
  have ok := h5.ok (by omega) (by omega)
  have hn := fine_n hr h5 hN
  refine (makeC c w p q r m b (roomI c) M g a hr h4 ok d.np d.nq d.nr d.qp d.rp d.rq (by omega) h1 h3).mono ?_
  rintro e w' ⟨rfl, a1, a2, a3⟩
  obtain ⟨sl, fu, kd, ar, ep, gn, ix, nx, pop⟩ := a
  obtain ⟨rfl, rfl, rfl, rfl⟩ : nx = 0 ∧ fu = false ∧ sl = -1 ∧ pop = ⟨-1, false, 0, 0, 0⟩ := ha
  have e3 : M.ldV 3 = M.f 3 := ld_v (by decide) (by omega)
  have h2 : firstI c.S (M.f 3) < 0 := by rw [hs.first hr]; decide
  have p1 : popS c ⟨-1, false, 0, 0, 0⟩ M = ⟨-1, true, 3, M.f 3, 0⟩ := by simp [popS, e3, h2]
  have p2 : popD c ⟨-1, false, 0, 0, 0⟩ M = true := by unfold popD; rw [p1]; rfl
  have hS : mkS c (roomI c) ⟨-1, false, kd, ar, ep, gn, ix, 0, ⟨-1, false, 0, 0, 0⟩⟩ M = ⟨-1, true, kd, ar, ep, gn, ix, 5, ⟨-1, true, 3, M.f 3, 0⟩⟩ := by simp [mkS, p1, p2]
  rw [hS] at a1
  exact ⟨by unfold mkD; rw [hS]; rfl, a1.blk.cell (i := 0) rfl, a1.blk.cell (i := 1) rfl, a3⟩
end
theorem mkX_new {c : Cf} {w : World} {p q r m b N T : Nat} {g : Nat → Int} {t x : Int} {rst : List Int} {M : Ms} {kd ar ep : Int} (hr : c.right = true) (h1 : PopB w q c ⟨-1, false, 0, 0, 0⟩) (h2 : Blk w p 82 (makeA c (-1) false kd ar ep (.slice (some ⟨r, 0, none⟩) (roomI c) (roomI c)) (some ⟨q, 0, none⟩) 0 0 0)) (h3 : RowB w (some ⟨r, 0, none⟩) (roomI c) r (roomI c) g) (hM : MemB w m b M) (hf : Fine M N T) (hs : Stk c M.f t (x :: rst)) (e : 0 ≤ ep ∧ ep < 18446744073709551616) (ha : ar < 9223372036854775808) : MkX c w p q r m b N T g t x rst 0 := by
  have hri := room_i hr
  exact ⟨⟨-1, false, kd, ar, ep, 0, 0, 0, ⟨-1, false, 0, 0, 0⟩⟩, M, ⟨h2, h1, h3⟩, ⟨rfl, .inl ⟨rfl, rfl, rfl, rfl, hs⟩⟩, ⟨fun _ => ⟨Int.le_refl 0, by show (0 : Int) < _; decide, .inl rfl⟩, .inl ⟨.inl rfl, Int.le_refl 0, by show (0 : Int) < _; omega⟩, e, ha, by show (0 : Int) < _; decide⟩, hM, hf⟩
theorem mkX_end {c : Cf} {w : World} {p q r m b N T : Nat} {g : Nat → Int} {t x : Int} {rst : List Int} (h : MkX c w p q r m b N T g t x rst (5 + roomI c)) : ∃ M, MemB w m b M ∧ Fine M N T ∧ Stk c M.f (t + 1) rst ∧ w.cell? ⟨p, 0, none⟩ = some (.int .i64 x) ∧ w.cell? ⟨p, 1, none⟩ = some (.bool false) := by
  obtain ⟨a, M, h1, ⟨h0, h2⟩, h3, h4, h5⟩ := h
  rcases h2 with ⟨h, _⟩ | ⟨h, _⟩ | ⟨h, _⟩ | ⟨h, _⟩ | ⟨j, h, h', _⟩ | ⟨h, _⟩ | ⟨_, _, e1, e2⟩
  · omega
  · omega
  · omega
  · omega
  · omega
  · omega
  · exact ⟨M, h4, h5, e2, by rw [← e1]; exact h1.blk.cell (i := 0) rfl, by rw [← h0]; exact h1.blk.cell (i := 1) rfl⟩
theorem MkX.drew {c : Cf} {w : World} {p q r m b N T : Nat} {g : Nat → Int} {t x : Int} {rst : List Int} {i : Nat} (h : MkX c w p q r m b N T g t x rst i) : MkX c w.drew p q r m b N T g t x rst i := by
  obtain ⟨a, M, ⟨g1, g2, g3⟩, h2, h3, h4, h5⟩ := h
  exact ⟨a, M, ⟨g1.drew, Blk.drew g2, g3.drew⟩, h2, h3, h4.drew, h5⟩
def kF (c : Cf) (x : Int) : Nat := if (freedV x c.G).2 = false then 1 else if uK (freedV x c.G).1 = 4 then 2 else 5
theorem kF_bd (c : Cf) (x : Int) : 1 ≤ kF c x ∧ kF c x ≤ 5 := by unfold kF; split <;> (try split) <;> omega
def FrX (c : Cf) (w : World) (p m b lo N T : Nat) (t : Int) (L : List Int) (s x : Int) (i : Nat) : Prop :=
  ∃ a M qa, FrB w p c a qa ∧ (∀ q, qa = some q → lo ≤ q ∧ ¬ two m b q ∧ q ≠ p) ∧ ((i < kF c x ∧ FrI c M.f t L s x i a) ∨ (i = kF c x ∧ FrE c M.f t L s x a)) ∧ FreOk c a ∧ MemB w m b M ∧ Fine M N T
def frv (p m b lo : Nat) : Nat → Prop := fun k => k = p ∨ two m b k ∨ lo ≤ k
theorem frXC {c : Cf} (hr : c.right = true) {w : World} {p m b lo N T : Nat} {t s x : Int} {L : List Int} (hN : (N : Int) = c.size) (hT : T ≤ 1000000) (hs : 0 ≤ s ∧ s < c.S) (hnm : s ∉ L) (ht : t + 1 < 281474976710656) (np : ¬ two m b p) (hlo : lo ≤ w.heap.size) {i : Nat} (hi : i < kF c x) (h : FrX c w p m b lo N T t L s x i) :
    Calls Try.prog 59 #[.pointer (some ⟨p, 0, none⟩), .pointer (some ⟨m, 0, none⟩)] w fun e w' =>
    e = .returned (.bool (i + 1 == kF c x)) ∧ FrX c w' p m b lo N (T + 1) t L s x (i + 1) ∧ Fr (frv p m b lo) w w' := by
  obtain ⟨a, M, qa, h1, hq, h2, h3, h4, h5⟩ := h
  have hb := N_bd hr hN
  have ok := h5.ok (by omega) (by omega)
  have hn := fine_n hr h5 hN
  have h2' : FrI c M.f t L s x i a := by
    rcases h2 with ⟨_, h⟩ | ⟨h, _⟩
    · exact h
    · omega
  have ltp := h1.blk.lt
  have lm := h4.lm
  have lb := h4.lb
  refine (freC c w p m b M a qa hr h4 ok np (fun q e => (hq q e).2) h1 h3).mono ?_
  rintro e w' ⟨rfl, qa', a1, a2, a3, a4⟩
  have hq' : ∀ q, qa' = some q → lo ≤ q ∧ ¬ two m b q ∧ q ≠ p := by
    intro q e
    rcases a2 with a2 | ⟨q2, a2, a5⟩
    · exact hq q (a2 ▸ e)
    · rw [a2] at e
      cases e
      refine ⟨by omega, fun k => ?_, by omega⟩
      rcases k with k | k
      · omega
      · omega
  have hF : Fr (frv p m b lo) w w' := a4.mono (fun k y => by
    rcases y with y | y | y
    · exact .inr (.inr (hq k y).1)
    · exact .inl y
    · exact .inr (.inl y))
  rcases frStep hr hn hs hnm ht h2' with ⟨d1, d2, d3⟩ | ⟨d1, d2⟩
  · have hlt : i + 1 < kF c x := by
      obtain ⟨_, _, _, _, z⟩ := d2
      unfold kF
      rcases z with ⟨z, _⟩ | ⟨z1, _, ⟨z, _⟩ | ⟨z2, _, _, z⟩⟩
      · omega
      · rw [z1]; simp only [Bool.true_eq_false, if_false]; split <;> omega
      · rw [z1, if_neg (by decide), if_neg z2]; omega
    rw [d1, beq_eq_false_iff_ne.2 (show i + 1 ≠ kF c x by omega)]
    exact ⟨rfl, ⟨_, _, qa', a1, hq', .inl ⟨hlt, d2⟩, h3.step ok, a3, fine_fr h5 h3⟩, hF⟩
  · have heq : i + 1 = kF c x := by
      obtain ⟨_, _, z⟩ := d2
      have h2s := h2'
      obtain ⟨_, b1, b2, b3, y⟩ := h2s
      unfold kF
      have hb := room_bd hr
      have h00 : (0 : Int) ≤ 0 ∧ (0 : Int) < roomV c.A := ⟨by decide, by omega⟩
      have hsl : a.sl = s := h2'.1
      have hD : frD c a M = true := d1
      obtain ⟨bk, gn, sl, nw, nx, pu⟩ := a
      have e0 : c.header sl = c.pl sl 0 := header_pl hr (by rw [show sl = s from hsl]; exact hs)
      have hsl' : sl = s := hsl
      subst hsl'
      rcases y with ⟨rfl, y1, y2⟩ | ⟨yv, y1, ⟨rfl, y2, y3⟩ | ⟨yk, y2, y3, ⟨rfl, y4⟩ | ⟨rfl, y4⟩ | ⟨rfl, y4, y5⟩⟩⟩
      · obtain rfl : nx = 1 := y1
        have el : M.ldV (c.header sl) = x := by rw [e0, ld_pl hr hn hs h00]; exact y2
        cases hv : (freedV x c.G).2 with
        | false => rw [if_pos rfl]
        | true =>
          exfalso
          unfold frD at hD
          rw [show frS c ⟨bk, gn, sl, nw, 1, pu⟩ M = ⟨bk, gn, sl, (freedV x c.G).1, 3, pu⟩ by simp [frS, el, hv]] at hD
          exact absurd hD (by simp)
      · obtain rfl : nx = 3 := y2
        rw [yv, if_neg (by decide)]
        by_cases hk : uK (freedV x c.G).1 = 4
        · rw [if_pos hk]
        · exfalso
          obtain rfl : nw = (freedV x c.G).1 := y1
          unfold frD at hD
          rw [show frS c ⟨bk, gn, sl, (freedV x c.G).1, 3, pu⟩ M = ⟨bk, gn, sl, (freedV x c.G).1, 4, some ⟨sl, 0, 0⟩⟩ by simp [frS, hk]] at hD
          exact absurd hD (by simp)
      · exfalso
        obtain rfl : nx = 4 := y2
        obtain rfl : pu = some ⟨sl, 0, 0⟩ := y4
        obtain ⟨p1, p2, p3⟩ := pb0 (x := sl) (tp := 0) hr hn b3
        unfold frD at hD
        rw [show frS c ⟨bk, gn, sl, nw, 4, some ⟨sl, 0, 0⟩⟩ M = ⟨bk, gn, sl, nw, 4, some ⟨sl, 1, M.f 3⟩⟩ by simp [frS, p1, p3]] at hD
        exact absurd hD (by simp)
      · exfalso
        obtain rfl : nx = 4 := y2
        obtain rfl : pu = some ⟨sl, 1, M.f 3⟩ := y4
        obtain ⟨p1, p3, _⟩ := pb1 hr hn b3 hs hnm
        unfold frD at hD
        rw [show frS c ⟨bk, gn, sl, nw, 4, some ⟨sl, 1, M.f 3⟩⟩ M = ⟨bk, gn, sl, nw, 4, some ⟨sl, 2, M.f 3⟩⟩ by simp [frS, p1, p3]] at hD
        exact absurd hD (by simp)
      · rw [yv, if_neg (by decide), if_neg yk]
    rw [d1, heq, beq_self_eq_true]
    exact ⟨rfl, ⟨_, _, qa', a1, hq', .inr ⟨rfl, d2⟩, h3.step ok, a3, fine_fr h5 h3⟩, hF⟩
theorem frX_new {c : Cf} {w : World} {p m b lo N T : Nat} {t s x : Int} {L : List Int} {M : Ms} (hs : 0 ≤ s ∧ s < c.S) (h1 : Blk w p 95 (freeA c false false s 0 none 1)) (hM : MemB w m b M) (hf : Fine M N T) (hk : Stk c M.f t L) (hx : M.f (c.pl s 0).toNat = x) : FrX c w p m b lo N T t L s x 0 :=
  ⟨⟨false, false, s, 0, 1, none⟩, M, none, ⟨h1, fun Q e => (by cases e)⟩, (fun q e => by cases e), .inl ⟨(kF_bd c x).1, rfl, rfl, rfl, hk, .inl ⟨rfl, rfl, hx⟩⟩, ⟨hs, ⟨Int.le_refl 0, by show (0 : Int) < _; decide⟩, .inl rfl⟩, hM, hf⟩
theorem frX_end {c : Cf} {w : World} {p m b lo N T : Nat} {t s x : Int} {L : List Int} (h : FrX c w p m b lo N T t L s x (kF c x)) : ∃ M bk gn, MemB w m b M ∧ Fine M N T ∧ w.cell? ⟨p, 0, none⟩ = some (.bool bk) ∧ w.cell? ⟨p, 1, none⟩ = some (.bool gn) ∧
    (((freedV x c.G).2 = false ∧ bk = false ∧ gn = false ∧ M.f (c.pl s 0).toNat = x ∧ Stk c M.f t L) ∨
    ((freedV x c.G).2 = true ∧ M.f (c.pl s 0).toNat = (freedV x c.G).1 ∧ (
      (uK (freedV x c.G).1 = 4 ∧ bk = false ∧ gn = true ∧ Stk c M.f t L) ∨
      (uK (freedV x c.G).1 ≠ 4 ∧ bk = true ∧ gn = false ∧ Stk c M.f (t + 1) (s :: L))))) := by
  obtain ⟨a, M, qa, h1, hq, h2, h3, h4, h5⟩ := h
  rcases h2 with ⟨h, _⟩ | ⟨_, h⟩
  · omega
  · exact ⟨M, a.bk, a.gn, h4, h5, h1.blk.cell (i := 0) rfl, h1.blk.cell (i := 1) rfl, h.2.2⟩
end Go.Proofs.Ytijfkpoofpcacaa.ArenaS
end
section
set_option linter.unusedVariables false
namespace Go.Proofs.Ytijfkpoofpcacaa.StackG
open Go.RowKit Go.Proofs.Ytijfkpoofpcacaa.Blk Go.Proofs.Ytijfkpoofpcacaa.Core Go.Proofs.Ytijfkpoofpcacaa.MemC Go.Proofs.Ytijfkpoofpcacaa.MemT Go.Proofs.Ytijfkpoofpcacaa.PlanC Go.Proofs.Ytijfkpoofpcacaa.PlanD Go.Proofs.Ytijfkpoofpcacaa.StackC
def six (w : World) (b : Nat) (c : Cf) : World := (((((w.setCell ⟨b, 0, none⟩ (.int .i64 c.S)).setCell ⟨b, 1, none⟩ (.int .i64 c.A)).setCell ⟨b, 2, none⟩ (.int .i64 c.C)).setCell ⟨b, 3, none⟩ (.int .i64 c.H)).setCell ⟨b, 4, none⟩ (.int .i64 c.G)).setCell ⟨b, 5, none⟩ (.int .i64 c.K)
theorem six_blk {w : World} {b t : Nat} {c a : Cf} (h : Blk w b t #[.int .i64 a.S, .int .i64 a.A, .int .i64 a.C, .int .i64 a.H, .int .i64 a.G, .int .i64 a.K]) : Blk (six w b c) b t #[.int .i64 c.S, .int .i64 c.A, .int .i64 c.C, .int .i64 c.H, .int .i64 c.G, .int .i64 c.K] :=
  (((((h.set 0 _).set 1 _).set 2 _).set 3 _).set 4 _).set 5 _
theorem six_below {w0 w : World} {n b : Nat} {c : Cf} (h : Below n w0 w) (hb : n ≤ b) : Below n w0 (six w b c) :=
  (((((h.setCell (p := ⟨b, 0, none⟩) hb _).setCell (p := ⟨b, 1, none⟩) hb _).setCell (p := ⟨b, 2, none⟩) hb _).setCell (p := ⟨b, 3, none⟩) hb _).setCell (p := ⟨b, 4, none⟩) hb _).setCell (p := ⟨b, 5, none⟩) hb _
theorem not_two {p m b : Nat} (h1 : p ≠ m) (h2 : p ≠ b) : ¬ two m b p := fun c => c.elim h1 h2
end Go.Proofs.Ytijfkpoofpcacaa.StackG
end
section
set_option linter.unusedVariables false
set_option linter.unusedSimpArgs false
namespace Go.Proofs.Ytijfkpoofpcacaa.ArenaT
open Go.RowKit Go.Proofs.YtijfkpoofpcacaaW.PrintWords Go.Proofs.Ytijfkpoofpcacaa.Blk Go.Proofs.Ytijfkpoofpcacaa.Core Go.Proofs.Ytijfkpoofpcacaa.MemC Go.Proofs.Ytijfkpoofpcacaa.MemD Go.Proofs.Ytijfkpoofpcacaa.MemT Go.Proofs.Ytijfkpoofpcacaa.Memory Go.Proofs.Ytijfkpoofpcacaa.PlanC Go.Proofs.Ytijfkpoofpcacaa.PlanD Go.Proofs.Ytijfkpoofpcacaa.StackC Go.Proofs.Ytijfkpoofpcacaa.StackL Go.Proofs.Ytijfkpoofpcacaa.StackS Go.Proofs.Ytijfkpoofpcacaa.StackF Go.Proofs.Ytijfkpoofpcacaa.StackP Go.Proofs.Ytijfkpoofpcacaa.StackG Go.Proofs.Ytijfkpoofpcacaa.HeadC Go.Proofs.Ytijfkpoofpcacaa.ArenaC Go.Proofs.Ytijfkpoofpcacaa.ArenaM Go.Proofs.Ytijfkpoofpcacaa.ArenaN Go.Proofs.Ytijfkpoofpcacaa.ArenaP Go.Proofs.Ytijfkpoofpcacaa.ArenaL Go.Proofs.Ytijfkpoofpcacaa.ArenaR Go.Proofs.Ytijfkpoofpcacaa.ArenaQ Go.Proofs.Ytijfkpoofpcacaa.ArenaS Go.Proofs.Ytijfkpoofpcacaa.Opens
theorem sl_nil (w : World) (V : Nat → Nat → Value) : Sl w none 0 1 V := fun h => absurd h (by decide)
theorem U_pad (bn : Nat) (bf : Nat → Int) (h : ∀ j, j < bn → 0 ≤ bf j ∧ bf j < 18446744073709551616) : U (padF bn bf) := fun j => by
  unfold padF
  split
  · exact h j ‹_›
  · exact ⟨Int.le_refl 0, by show (0 : Int) < _; decide⟩
theorem nodis {p q r m b k : Nat} (h1 : m < k) (h2 : b < k) (hr : k ≤ r) (hq : r < q) (hp : q < p) : Dis p q r m b :=
  ⟨fun x => x.elim (fun e => by omega) (fun e => by omega), fun x => x.elim (fun e => by omega) (fun e => by omega), fun x => x.elim (fun e => by omega) (fun e => by omega), by omega, by omega, by omega⟩
theorem not_four {k p q m b : Nat} (h1 : k ≠ p) (h2 : k ≠ q) (h3 : k ≠ m) (h4 : k ≠ b) : ¬ four p q m b k := fun x => x.elim h1 (fun x => x.elim h2 (fun x => x.elim h3 h4))
theorem not_frv {k p m b lo : Nat} (h1 : k ≠ p) (h3 : k ≠ m) (h4 : k ≠ b) (h5 : k < lo) : ¬ frv p m b lo k := fun x => x.elim h1 (fun x => x.elim (fun x => x.elim h3 h4) (fun e => absurd h5 (by omega)))
def c12 : Cf := ⟨1, 0, 1, 1, 2, 0⟩
theorem c12_f : c12.right = true ∧ c12.header 0 = 8 ∧ c12.pl 0 0 = 8 ∧ c12.size = 13 ∧ roomI c12 = 3 ∧ headN 3 0 false 0 0 0 = 3 ∧ headN 0 0 false 0 1 0 = 65536 ∧ kF c12 3 = 5 ∧ freedV 3 c12.G = (65536, true) ∧ uK 65536 = 0 := by decide +kernel
set_option maxHeartbeats 4000000 in
set_option maxRecDepth 100000 in
theorem awake12C (w : World) : Calls Try.prog 53 #[] w fun e w' => e = .returned (.bool true) ∧ Below w.heap.size w w' := by
  obtain ⟨hr, hh, hpl, hsz, hri, hn1, hn2, hkf, hfv, huk⟩ := c12_f
  have hbx := Lib.hid (Blk.new w 23 #[.int .i64 c12.S, .int .i64 c12.A, .int .i64 c12.C, .int .i64 c12.H, .int .i64 c12.G, .int .i64 c12.K])
  have hcan : canM c12 1 0 0 := ⟨hr, by decide, by omega, .inl ⟨rfl, by decide⟩⟩
  have hst := stk_start hr
  have hst0 : Stk c12 (memF c12.A c12.C c12.H (c12.S - 1).toNat) 0 [0] := hst
  have hfi := fine_of (n := 13) (memF_U c12.A c12.C c12.H (c12.S - 1).toNat (by decide))
  have hUg : U (padF 0 (fun _ => 0)) := U_pad _ _ (fun j hj => absurd hj (by omega))
  have h13 : ((13 : Nat) : Int) = c12.size := by rw [hsz]; rfl
  replace hr := Lib.hid hr
  replace hh := Lib.hid hh
  replace hpl := Lib.hid hpl
  replace hri := Lib.hid hri
  replace hn1 := Lib.hid hn1
  replace hn2 := Lib.hid hn2
  replace hkf := Lib.hid hkf
  replace hfv := Lib.hid hfv
  replace huk := Lib.hid huk
  replace hcan := Lib.hid hcan
  replace h13 := Lib.hid h13
  replace hfi := Lib.hid hfi
  replace hst0 := Lib.hid hst0
  replace hUg := Lib.hid hUg
  have hsz' : c12.size.toNat = 13 := by rw [hsz]; rfl
  replace hsz' := Lib.hid hsz'
  clear hst hsz
  go_enter Try.func53, Try.ntmps53
  generalize hCFe : w.heap.size = CF at *
  go_upto_region 3 with (go_at_call 20; refine (memC c12 _ hr.out).mono ?_; rintro e w1 ⟨m, b, rfl, hM, hm, hb, hb1⟩; rw [hsz'.out] at hM; have hf1 := hbx.out.below hb1 hbx.out.lt; have hX := cfgs hf1.drew; replace hf1 := Lib.hid hf1.drew; replace hM := Lib.hid hM.drew; replace hb1 := Lib.hid hb1)
  have szb : ∀ o : Obj, (w.alloc o).heap.size = CF + 1 := fun o => by rw [← hCFe]; simp
  have hT := Lib.hid (below_pre hb1.out).drew
  have lt1 : CF < w1.drew.heap.size := hf1.out.lt
  have lm : m < w1.drew.heap.size := hM.out.lm
  have lb : b < w1.drew.heap.size := hM.out.lb
  rw [szb] at hm hb
  clear hb1 szb hbx
  go_cut [3, 4] (fun va vb wx => ∃ p q r f, va = .pointer (some ⟨p, 0, none⟩) ∧ vb = .pointer (some ⟨f, 0, none⟩) ∧ PopB wx q c12 ⟨-1, false, 0, 0, 0⟩ ∧ Blk wx p 82 (makeA c12 (-1) false 1 0 0 (.slice (some ⟨r, 0, none⟩) (roomI c12) (roomI c12)) (some ⟨q, 0, none⟩) 0 0 0) ∧ RowB wx (some ⟨r, 0, none⟩) (roomI c12) r (roomI c12) (padF 0 (fun _ => 0)) ∧ Blk wx f 95 (freeA c12 false false 0 0 none 1) ∧ MemB wx m b (Ms.of 13 (memF c12.A c12.C c12.H (c12.S - 1).toNat)) ∧ Blk wx CF 23 #[.int .i64 c12.S, .int .i64 c12.A, .int .i64 c12.C, .int .i64 c12.H, .int .i64 c12.G, .int .i64 c12.K] ∧ Below w.heap.size w wx ∧ (w1.drew.heap.size ≤ r ∧ r < q ∧ q < p ∧ w1.drew.heap.size ≤ f ∧ (f < r ∨ p < f)))
  case first =>
    have hX' : w1.drew.cell? ⟨CF, 0, none⟩ = some (.int .i64 c12.S) ∧ w1.drew.cell? ⟨CF, 1, none⟩ = some (.int .i64 c12.A) ∧ w1.drew.cell? ⟨CF, 2, none⟩ = some (.int .i64 c12.C) ∧ w1.drew.cell? ⟨CF, 3, none⟩ = some (.int .i64 c12.H) ∧ w1.drew.cell? ⟨CF, 4, none⟩ = some (.int .i64 c12.G) ∧ w1.drew.cell? ⟨CF, 5, none⟩ = some (.int .i64 c12.K) := hX
    clear hX
    go_region_held3 (fun w' => w'.cell? ⟨CF, 0, none⟩ = some (.int .i64 c12.S) ∧ w'.cell? ⟨CF, 1, none⟩ = some (.int .i64 c12.A) ∧ w'.cell? ⟨CF, 2, none⟩ = some (.int .i64 c12.C) ∧ w'.cell? ⟨CF, 3, none⟩ = some (.int .i64 c12.H) ∧ w'.cell? ⟨CF, 4, none⟩ = some (.int .i64 c12.G) ∧ w'.cell? ⟨CF, 5, none⟩ = some (.int .i64 c12.K)) (assumption) (first
      | (go_at_call 51; refine (newMakeC c12 _ 1 0 0 none 0 0 (fun _ => 0) (sl_nil _ _) hcan.out).mono ?_; rintro e w4 ⟨p, q, r, rfl, g1, g2, g3, hQ, hP, hR, hb4⟩; replace hf1 := Lib.hid (hf1.out.below hb4 hf1.out.lt); have hY1 := cfgs hf1.out; (try replace hV := Lib.hid (hV.out.below hb4 hV.out.lt)); replace hM := Lib.hid (hM.out.next hb4); replace hT := Lib.hid (MemT.bT hT.out hb4); have lt1 := hP.lt; have zz1 := hb4.size; replace hP := Lib.hid hP; replace hQ := Lib.hid hQ; replace hR := Lib.hid hR; clear hb4)
      | (go_at_call 54; refine (newFreeC c12 _ 0 (by rw [hh.out]; decide)).mono ?_; rintro e w5 ⟨f, rfl, g4, hV, hb5⟩; replace hf1 := Lib.hid (hf1.out.below hb5 hf1.out.lt); have hY2 := cfgs hf1.out; (try (replace hP := Lib.hid (hP.out.below hb5 hP.out.lt); replace hQ := Lib.hid (Blk.below hQ.out hb5 (Blk.lt hQ.out)); replace hR := Lib.hid (hR.out.below hb5 (Nat.le_refl _)))); replace hM := Lib.hid (hM.out.next hb5); replace hT := Lib.hid (MemT.bT hT.out hb5); have lt2 := hV.lt; have zz2 := hb5.size; replace hV := Lib.hid hV; clear hb5))
    all_goals
      clear hX' hY1 hY2
      go_wp2
      go_meet
      case rel => exact ⟨p, q, r, f, rfl, rfl, hQ.out, hP.out, hR.out, hV.out, hM.out, hf1.out, hCFe ▸ hT.out, by omega⟩
  case rest =>
    obtain ⟨p, q, r, f, rfl, rfl, hQ, hP, hR, hV, hM2, hf2, hT2, g1, g2, g3, g4, g5⟩ := hcut
    clear hM hT hf1 hX
    have hd : Dis p q r m b := nodis lm lb g1 g2 g3
    have hX0 := Lib.hid (mkX_new (T := 0) hr.out hQ hP hR hM2 hfi.out hst0.out ⟨by decide, by decide⟩ (by decide))
    replace hV := Lib.hid hV
    replace hf2 := Lib.hid hf2
    replace hT2 := Lib.hid hT2
    replace hd := Lib.hid hd
    clear hQ hP hR hM2
    go_wp2
    go_loopw [5] (fun z wr => ∃ i : Nat, i ≤ 7 ∧ z = .int .i64 (i : Int) ∧ MkX c12 wr p q r m b 13 i (padF 0 (fun _ => 0)) 0 0 [] i ∧ Blk wr f 95 (freeA c12 false false 0 0 none 1) ∧ Blk wr CF 23 #[.int .i64 c12.S, .int .i64 c12.A, .int .i64 c12.C, .int .i64 c12.H, .int .i64 c12.G, .int .i64 c12.K] ∧ Below w.heap.size w wr) (fun z _ => 8 - (intOf z).toNat)
    case atStart => exact ⟨0, by omega, rfl, hX0.out, hV.out, hf2.out, hT2.out⟩
    case round =>
      obtain ⟨i, hi, rfl, hB, hVi, hC, hW⟩ := hrel
      have ef : ∀ j, i + 1 = j → (i + 1 == 5 + roomI c12) = (j == 8) := fun j e => by rw [hri.out, e]
      have lti : i < 5 + roomI c12 := by rw [hri.out]; omega
      have i20 : (i : Int) < 20 := by omega
      replace hB := Lib.hid hB
      replace hVi := Lib.hid hVi
      replace hC := Lib.hid hC
      replace hW := Lib.hid hW
      rcases (show i < 7 ∨ i = 7 by omega) with hlt | rfl
      · have hf8 : (i + 1 == 5 + roomI c12) = false := by rw [hri.out]; simp; omega
        replace hf8 := Lib.hid hf8
        clear ef
        go_wp2_with (go_at_call 52; refine (mkXC hr.out h13.out (by omega) hUg.out hd.out (by decide) (by decide) lti hB.out).mono ?_; rintro e w2 ⟨rfl, hB2, hF2⟩; rw [hf8.out]; replace hVi := Lib.hid (hVi.out.fr hF2 (not_four (by omega) (by omega) (by omega) (by omega))); replace hC := Lib.hid (hC.out.fr hF2 (not_four (by omega) (by omega) (by omega) (by omega))); replace hW := Lib.hid (hW.out.trans (hF2.below (fun k hk => ⟨by have := hW.out.size; omega, not_four (by omega) (by omega) (by omega) (by omega)⟩))); replace hB := Lib.hid hB2; clear hF2 hB2)
        go_roundw
        case rel => exact ⟨i + 1, by omega, by go_num, hB.out, hVi.out, hC.out, hW.out⟩
        case measure => simp [intOf]; omega
      · have hf8 : (7 + 1 == 5 + roomI c12) = true := by rw [hri.out]; rfl
        have h71 : 7 + 1 = 5 + roomI c12 := by rw [hri.out]
        replace hf8 := Lib.hid hf8
        replace h71 := Lib.hid h71
        clear ef
        go_upto_region 9 with (go_at_call 52; refine (mkXC hr.out h13.out (by omega) hUg.out hd.out (by decide) (by decide) lti hB.out).mono ?_; rintro e w2 ⟨rfl, hB2, hF2⟩; rw [hf8.out]; replace hVi := Lib.hid (hVi.out.fr hF2 (not_four (by omega) (by omega) (by omega) (by omega))); replace hC := Lib.hid (hC.out.fr hF2 (not_four (by omega) (by omega) (by omega) (by omega))); replace hW := Lib.hid (hW.out.trans (hF2.below (fun k hk => ⟨by have := hW.out.size; omega, not_four (by omega) (by omega) (by omega) (by omega)⟩))); replace hB := Lib.hid hB2; clear hF2 hB2)
        have hB2 := hB.out
        rw [h71.out] at hB2
        obtain ⟨M, hM, hf, hk, c0, c1⟩ := mkX_end hB2
        clear hB hB2 c1
        have ok := hf.ok (by decide) (by decide)
        replace hM := Lib.hid hM
        obtain ⟨k0, k1, k2, k3, k4, k5⟩ := cfgs hC.out
        have hin : M.inn 8 = true := inn_iff.2 ⟨by decide, by rw [hf.n]; decide⟩
        replace hin := Lib.hid hin
        replace hf := Lib.hid hf
        replace hk := Lib.hid hk
        go_upto_region 11 with (first
          | (go_at_call 72; refine (headerC c12 _ 0).mono ?_; rintro e w3 ⟨rfl, hb3⟩; rw [hh.out]; replace hVi := Lib.hid (hVi.out.below hb3 hVi.out.lt); replace hC := Lib.hid (hC.out.below hb3 hC.out.lt); replace hM := Lib.hid (hM.out.next hb3); replace hW := Lib.hid (hW.out.trans (hb3.mono (by have := hW.out.size; omega))); clear hb3)
          | (go_at_call 58; refine (rPack_c 3 0 false 0 0 0 (by decide) _).mono ?_; rintro e w4 ⟨rfl, hb3⟩; rw [hn1.out]; replace hVi := Lib.hid (hVi.out.below hb3 hVi.out.lt); replace hC := Lib.hid (hC.out.below hb3 hC.out.lt); replace hM := Lib.hid (hM.out.next hb3); replace hW := Lib.hid (hW.out.trans (hb3.mono (by have := hW.out.size; omega))); clear hb3)
          | (go_at_call 57; refine (store_c _ m b M 8 hM.out ok 3).mono ?_; rintro e w5 ⟨rfl, hM', hF'⟩; rw [hin.out]; replace hVi := Lib.hid (hVi.out.fr hF' (not_two (by omega) (by omega))); replace hC := Lib.hid (hC.out.fr hF' (not_two (by omega) (by omega))); replace hW := Lib.hid (hW.out.trans (hF'.below (fun k hk => ⟨by have := hW.out.size; omega, not_two (by omega) (by omega)⟩))); replace hM := Lib.hid hM'; clear hM' hF'))
        have e8 : M.stS 8 3 = M.stS (c12.pl 0 0) 3 := by rw [hpl.out]
        have hnM := fine_n hr.out hf.out h13.out
        have hs8 := (st_pl (M := M) hr.out hnM (s := 0) (o := 0) (v := 3) ⟨by decide, by decide⟩ ⟨by decide, by decide⟩).1
        rw [← e8] at hs8
        have hk2 : Stk c12 (M.stS 8 3).f 1 [] := by rw [hs8]; exact Stk.off hr.out hk.out ⟨by decide, by decide⟩ ⟨by decide, by decide⟩ (by decide)
        have hx2 : (M.stS 8 3).f (c12.pl 0 0).toNat = 3 := by rw [hs8, upd_eq]
        have hf3 := hf.out.st 8 (v := 3) (by decide) (by decide)
        have ltw := hC.out.lt
        have lov : f < w5.heap.size := hVi.out.lt
        have hZ0 := Lib.hid (frX_new (lo := w5.heap.size) (L := []) ⟨by decide, by decide⟩ hVi.out hM.out hf3 hk2 hx2)
        have lm5 := hM.out.lm
        have lb5 := hM.out.lb
        have nf : ¬ two m b f := not_two (by omega) (by omega)
        have hlo := Nat.le_refl w5.heap.size
        generalize hL5 : w5.heap.size = lo at *
        have hlo5 : lo ≤ w5.heap.size := by omega
        clear e8 hs8 hk2 hx2 hf3 hVi hM hnM c0 k0 k1 k2 k3 k4 k5 ok hin hL5 hf hk
        go_wp2
        go_loopw [6] (fun z wr => ∃ i : Nat, i ≤ 4 ∧ z = .int .i64 (i : Int) ∧ FrX c12 wr f m b lo 13 (9 + i) 1 [] 0 3 i ∧ lo ≤ wr.heap.size ∧ Blk wr CF 23 #[.int .i64 c12.S, .int .i64 c12.A, .int .i64 c12.C, .int .i64 c12.H, .int .i64 c12.G, .int .i64 c12.K] ∧ Below w.heap.size w wr) (fun z _ => 5 - (intOf z).toNat)
        case atStart => exact ⟨0, by omega, rfl, hZ0.out, hlo5, hC.out, hW.out⟩
        case round =>
          obtain ⟨i, hi, rfl, hZ, hls, hC, hW⟩ := hrel
          have lti : i < kF c12 3 := by rw [hkf.out]; omega
          have i20 : (i : Int) < 20 := by omega
          replace hZ := Lib.hid hZ
          replace hC := Lib.hid hC
          replace hW := Lib.hid hW
          rcases (show i < 4 ∨ i = 4 by omega) with hlt | rfl
          · have hf8 : (i + 1 == kF c12 3) = false := by rw [hkf.out]; simp; omega
            replace hf8 := Lib.hid hf8
            go_wp2_with (go_at_call 59; refine (frXC hr.out h13.out (by omega) ⟨by decide, by decide⟩ (List.not_mem_nil) (by decide) nf hls lti hZ.out).mono ?_; rintro e w6 ⟨rfl, hZ2, hF2⟩; rw [hf8.out]; replace hC := Lib.hid (hC.out.fr hF2 (not_frv (by omega) (by omega) (by omega) (by omega))); have zs := hF2.size; replace hW := Lib.hid (hW.out.trans (hF2.below (fun k hk => ⟨by have := hW.out.size; omega, not_frv (by omega) (by omega) (by omega) (by omega)⟩))); replace hZ := Lib.hid hZ2; clear hF2 hZ2)
            go_roundw
            case rel => exact ⟨i + 1, by omega, by go_num, hZ.out, by omega, hC.out, hW.out⟩
            case measure => simp [intOf]; omega
          · have hf8 : (4 + 1 == kF c12 3) = true := by rw [hkf.out]; rfl
            have h71 : 4 + 1 = kF c12 3 := by rw [hkf.out]
            replace hf8 := Lib.hid hf8
            replace h71 := Lib.hid h71
            go_upto_region 14 with (go_at_call 59; refine (frXC hr.out h13.out (by omega) ⟨by decide, by decide⟩ (List.not_mem_nil) (by decide) nf hls lti hZ.out).mono ?_; rintro e w6 ⟨rfl, hZ2, hF2⟩; rw [hf8.out]; replace hC := Lib.hid (hC.out.fr hF2 (not_frv (by omega) (by omega) (by omega) (by omega))); have zs := hF2.size; replace hW := Lib.hid (hW.out.trans (hF2.below (fun k hk => ⟨by have := hW.out.size; omega, not_frv (by omega) (by omega) (by omega) (by omega)⟩))); replace hZ := Lib.hid hZ2; clear hF2 hZ2)
            have hZ2 := hZ.out
            rw [h71.out] at hZ2
            obtain ⟨M2, bk, gn, hM2, hf2, c0, c1, hcase⟩ := frX_end hZ2
            have h65 : M2.f 8 = 65536 ∧ bk = true ∧ gn = false := by
              rcases hcase with ⟨e, _⟩ | ⟨_, h8, ⟨e, _⟩ | ⟨_, e1, e2, _⟩⟩
              · rw [hfv.out] at e; cases e
              · rw [hfv.out] at e; rw [show uK (65536, true).1 = 0 from huk.out] at e; exact absurd e (by decide)
              · rw [hpl.out, hfv.out] at h8; exact ⟨h8, e1, e2⟩
            obtain ⟨h65, rfl, rfl⟩ := h65
            have hsn := hf2.n
            clear hZ hZ2 hcase hf8 h71 lti i20 hf2
            have hX : (w6.cell? ⟨f, 0, none⟩ = some (.bool true) ∧ w6.cell? ⟨f, 1, none⟩ = some (.bool false) ∧ w6.cell? ⟨CF, 0, none⟩ = some (.int .i64 c12.S) ∧ w6.cell? ⟨CF, 1, none⟩ = some (.int .i64 c12.A) ∧ w6.cell? ⟨CF, 2, none⟩ = some (.int .i64 c12.C) ∧ w6.cell? ⟨CF, 3, none⟩ = some (.int .i64 c12.H) ∧ w6.cell? ⟨CF, 4, none⟩ = some (.int .i64 c12.G) ∧ w6.cell? ⟨CF, 5, none⟩ = some (.int .i64 c12.K)) := ⟨c0, c1, cfgs hC.out⟩
            have hX' : (w6.drew.cell? ⟨f, 0, none⟩ = some (.bool true) ∧ w6.drew.cell? ⟨f, 1, none⟩ = some (.bool false) ∧ w6.drew.cell? ⟨CF, 0, none⟩ = some (.int .i64 c12.S) ∧ w6.drew.cell? ⟨CF, 1, none⟩ = some (.int .i64 c12.A) ∧ w6.drew.cell? ⟨CF, 2, none⟩ = some (.int .i64 c12.C) ∧ w6.drew.cell? ⟨CF, 3, none⟩ = some (.int .i64 c12.H) ∧ w6.drew.cell? ⟨CF, 4, none⟩ = some (.int .i64 c12.G) ∧ w6.drew.cell? ⟨CF, 5, none⟩ = some (.int .i64 c12.K)) := hX
            clear hX c0 c1
            replace hM2 := Lib.hid hM2.drew
            replace hC := Lib.hid hC.out.drew
            replace hW := Lib.hid hW.out.drew
            replace h65 := Lib.hid h65
            replace hsn := Lib.hid hsn
            have hfl : f < w6.heap.size := by omega
            have hbf := Lib.hid (Below.refl w6.heap.size w6).drew
            have hFf : ∀ w', Below w6.heap.size w6 w' → w'.cell? ⟨f, 0, none⟩ = some (.bool true) ∧ w'.cell? ⟨f, 1, none⟩ = some (.bool false) := fun w' hb => ⟨(hb.cell (p := ⟨f, 0, none⟩) hfl).trans hX'.1, (hb.cell (p := ⟨f, 1, none⟩) hfl).trans hX'.2.1⟩
            replace hFf := Lib.hid hFf
            refine wp_region_held_drew (S := fun w' => w'.cell? ⟨f, 0, none⟩ = some (.bool true) ∧ w'.cell? ⟨f, 1, none⟩ = some (.bool false) ∧ w'.cell? ⟨CF, 0, none⟩ = some (.int .i64 c12.S) ∧ w'.cell? ⟨CF, 1, none⟩ = some (.int .i64 c12.A) ∧ w'.cell? ⟨CF, 2, none⟩ = some (.int .i64 c12.C) ∧ w'.cell? ⟨CF, 3, none⟩ = some (.int .i64 c12.H) ∧ w'.cell? ⟨CF, 4, none⟩ = some (.int .i64 c12.G) ∧ w'.cell? ⟨CF, 5, none⟩ = some (.int .i64 c12.K)) (by kernel_rfl) hX' (fun hHeld => ?_)
            refine wpAnyH_take (i := 0) (oi := { dst := some 58, op := Go.Op.move (Go.Operand.tmp 4), type := 86, pos := "law.go:30", after := #[], guard := none }) (v := ?vq1) rfl (by kernel_rfl) (by kernel_rfl) (by kernel_rfl) (fun _ _ _ h => h) (Or.inl ⟨by rfl, ?hyq1⟩) (by assumption) ?rsq1
            case hyq1 => (intro w hSw; first | (go_simp; done) | (go_simp; with_reducible rfl) | ((try dsimp only at hSw); go_split_ands; go_simp; done) | ((try dsimp only at hSw); go_split_ands; go_simp; with_reducible rfl))
            case' rsq1 => (try simp only [Act.put, List.setIfInBounds_toArray, List.set_cons_zero, List.set_cons_succ])
            refine wpAnyH_take (i := 1) (oi := { dst := some 59, op := Go.Op.nilCheck (Go.Operand.tmp 58), type := 0, pos := "law.go:30", after := #[{ on := 0, ground := Go.Ground.data }], guard := none }) (v := ?vq2) rfl (by kernel_rfl) (by kernel_rfl) (by kernel_rfl) (fun _ _ _ h => h) (Or.inl ⟨by rfl, ?hyq2⟩) (by assumption) ?rsq2
            case hyq2 => (intro w hSw; first | (go_simp; done) | (go_simp; with_reducible rfl) | ((try dsimp only at hSw); go_split_ands; go_simp; done) | ((try dsimp only at hSw); go_split_ands; go_simp; with_reducible rfl))
            case' rsq2 => (try simp only [Act.put, List.setIfInBounds_toArray, List.set_cons_zero, List.set_cons_succ])
            refine wpAnyH_take (i := 2) (oi := { dst := some 60, op := Go.Op.fieldAddr 95 (Go.Operand.tmp 59) 0, type := 0, pos := "law.go:30", after := #[{ on := 1, ground := Go.Ground.data }], guard := none }) (v := ?vq3) rfl (by kernel_rfl) (by kernel_rfl) (by kernel_rfl) (fun _ _ _ h => h) (Or.inl ⟨by rfl, ?hyq3⟩) (by assumption) ?rsq3
            case hyq3 => (intro w hSw; first | (go_simp; done) | (go_simp; with_reducible rfl) | ((try dsimp only at hSw); go_split_ands; go_simp; done) | ((try dsimp only at hSw); go_split_ands; go_simp; with_reducible rfl))
            case' rsq3 => (try simp only [Act.put, List.setIfInBounds_toArray, List.set_cons_zero, List.set_cons_succ])
            refine wpAnyH_take (i := 3) (oi := { dst := some 61, op := Go.Op.load 4 (Go.Operand.tmp 60), type := 4, pos := "law.go:30", after := #[{ on := 2, ground := Go.Ground.data }], guard := none }) (v := ?vq4) rfl (by kernel_rfl) (by kernel_rfl) (by kernel_rfl) (fun _ _ _ h => h) (Or.inl ⟨by rfl, ?hyq4⟩) (by assumption) ?rsq4
            case hyq4 => (intro w hSw; first | (go_simp; done) | (go_simp; with_reducible rfl) | ((try dsimp only at hSw); go_split_ands; go_simp; done) | ((try dsimp only at hSw); go_split_ands; go_simp; with_reducible rfl))
            case' rsq4 => (try simp only [Act.put, List.setIfInBounds_toArray, List.set_cons_zero, List.set_cons_succ])
            refine wpAnyH_take (i := 4) (oi := { dst := some 62, op := Go.Op.move (Go.Operand.tmp 61), type := 4, pos := "law.go:30", after := #[{ on := 3, ground := Go.Ground.data }], guard := none }) (v := ?vq5) rfl (by kernel_rfl) (by kernel_rfl) (by kernel_rfl) (fun _ _ _ h => h) (Or.inl ⟨by rfl, ?hyq5⟩) (by assumption) ?rsq5
            case hyq5 => (intro w hSw; first | (go_simp; done) | (go_simp; with_reducible rfl) | ((try dsimp only at hSw); go_split_ands; go_simp; done) | ((try dsimp only at hSw); go_split_ands; go_simp; with_reducible rfl))
            case' rsq5 => (try simp only [Act.put, List.setIfInBounds_toArray, List.set_cons_zero, List.set_cons_succ])
            refine wpAnyH_take (i := 5) (oi := { dst := some 63, op := Go.Op.move (Go.Operand.tmp 4), type := 86, pos := "law.go:30", after := #[{ on := 4, ground := Go.Ground.guard }], guard := some (4, true) }) (v := ?vq6) rfl (by kernel_rfl) (by kernel_rfl) (by kernel_rfl) (fun _ _ _ h => h) (Or.inl ⟨by rfl, ?hyq6⟩) (by assumption) ?rsq6
            case hyq6 => (intro w hSw; first | (go_simp; done) | (go_simp; with_reducible rfl) | ((try dsimp only at hSw); go_split_ands; go_simp; done) | ((try dsimp only at hSw); go_split_ands; go_simp; with_reducible rfl))
            case' rsq6 => (try simp only [Act.put, List.setIfInBounds_toArray, List.set_cons_zero, List.set_cons_succ])
            refine wpAnyH_take (i := 6) (oi := { dst := some 64, op := Go.Op.nilCheck (Go.Operand.tmp 63), type := 0, pos := "law.go:30", after := #[{ on := 5, ground := Go.Ground.data }, { on := 4, ground := Go.Ground.guard }], guard := some (4, true) }) (v := ?vq7) rfl (by kernel_rfl) (by kernel_rfl) (by kernel_rfl) (fun _ _ _ h => h) (Or.inl ⟨by rfl, ?hyq7⟩) (by assumption) ?rsq7
            case hyq7 => (intro w hSw; first | (go_simp; done) | (go_simp; with_reducible rfl) | ((try dsimp only at hSw); go_split_ands; go_simp; done) | ((try dsimp only at hSw); go_split_ands; go_simp; with_reducible rfl))
            case' rsq7 => (try simp only [Act.put, List.setIfInBounds_toArray, List.set_cons_zero, List.set_cons_succ])
            refine wpAnyH_take (i := 7) (oi := { dst := some 65, op := Go.Op.fieldAddr 95 (Go.Operand.tmp 64) 1, type := 0, pos := "law.go:30", after := #[{ on := 6, ground := Go.Ground.data }, { on := 4, ground := Go.Ground.guard }], guard := some (4, true) }) (v := ?vq8) rfl (by kernel_rfl) (by kernel_rfl) (by kernel_rfl) (fun _ _ _ h => h) (Or.inl ⟨by rfl, ?hyq8⟩) (by assumption) ?rsq8
            case hyq8 => (intro w hSw; first | (go_simp; done) | (go_simp; with_reducible rfl) | ((try dsimp only at hSw); go_split_ands; go_simp; done) | ((try dsimp only at hSw); go_split_ands; go_simp; with_reducible rfl))
            case' rsq8 => (try simp only [Act.put, List.setIfInBounds_toArray, List.set_cons_zero, List.set_cons_succ])
            refine wpAnyH_take (i := 8) (oi := { dst := some 66, op := Go.Op.load 4 (Go.Operand.tmp 65), type := 4, pos := "law.go:30", after := #[{ on := 7, ground := Go.Ground.data }, { on := 4, ground := Go.Ground.guard }], guard := some (4, true) }) (v := ?vq9) rfl (by kernel_rfl) (by kernel_rfl) (by kernel_rfl) (fun _ _ _ h => h) (Or.inl ⟨by rfl, ?hyq9⟩) (by assumption) ?rsq9
            case hyq9 => (intro w hSw; first | (go_simp; done) | (go_simp; with_reducible rfl) | ((try dsimp only at hSw); go_split_ands; go_simp; done) | ((try dsimp only at hSw); go_split_ands; go_simp; with_reducible rfl))
            case' rsq9 => (try simp only [Act.put, List.setIfInBounds_toArray, List.set_cons_zero, List.set_cons_succ])
            refine wpAnyH_take (i := 9) (oi := { dst := some 67, op := Go.Op.unOp Go.UnOp.not 4 (Go.Operand.tmp 66), type := 4, pos := "law.go:30", after := #[{ on := 8, ground := Go.Ground.data }, { on := 4, ground := Go.Ground.guard }], guard := some (4, true) }) (v := ?vq10) rfl (by kernel_rfl) (by kernel_rfl) (by kernel_rfl) (fun _ _ _ h => h) (Or.inl ⟨by rfl, ?hyq10⟩) (by assumption) ?rsq10
            case hyq10 => (intro w hSw; first | (go_simp; done) | (go_simp; with_reducible rfl) | ((try dsimp only at hSw); go_split_ands; go_simp; done) | ((try dsimp only at hSw); go_split_ands; go_simp; with_reducible rfl))
            case' rsq10 => (try simp only [Act.put, List.setIfInBounds_toArray, List.set_cons_zero, List.set_cons_succ])
            refine wpAnyH_take (i := 10) (oi := { dst := some 68, op := Go.Op.pick (Go.Operand.tmp 62) (Go.Operand.tmp 67) (Go.Operand.const (Go.Value.bool false)), type := 4, pos := "law.go:30", after := #[{ on := 4, ground := Go.Ground.data }, { on := 9, ground := Go.Ground.data }], guard := none }) (v := ?vq11) rfl (by kernel_rfl) (by kernel_rfl) (by kernel_rfl) (fun _ _ _ h => h) (Or.inl ⟨by rfl, ?hyq11⟩) (by assumption) ?rsq11
            case hyq11 => (intro w hSw; first | (go_simp; done) | (go_simp; with_reducible rfl) | ((try dsimp only at hSw); go_split_ands; go_simp; done) | ((try dsimp only at hSw); go_split_ands; go_simp; with_reducible rfl))
            case' rsq11 => (try simp only [Act.put, List.setIfInBounds_toArray, List.set_cons_zero, List.set_cons_succ])
            refine wpAnyH_take (i := 11) (oi := { dst := some 69, op := Go.Op.move (Go.Operand.tmp 68), type := 4, pos := "law.go:30", after := #[{ on := 10, ground := Go.Ground.data }, { on := 4, ground := Go.Ground.chain }], guard := none }) (v := ?vq12) rfl (by kernel_rfl) (by kernel_rfl) (by kernel_rfl) (fun _ _ _ h => h) (Or.inl ⟨by rfl, ?hyq12⟩) (by assumption) ?rsq12
            case hyq12 => (intro w hSw; first | (go_simp; done) | (go_simp; with_reducible rfl) | ((try dsimp only at hSw); go_split_ands; go_simp; done) | ((try dsimp only at hSw); go_split_ands; go_simp; with_reducible rfl))
            case' rsq12 => (try simp only [Act.put, List.setIfInBounds_toArray, List.set_cons_zero, List.set_cons_succ])
            refine wpAnyH_take (i := 12) (oi := { dst := some 70, op := Go.Op.move (Go.Operand.tmp 2), type := 24, pos := "law.go:30", after := #[{ on := 11, ground := Go.Ground.guard }], guard := some (11, true) }) (v := ?vq13) rfl (by kernel_rfl) (by kernel_rfl) (by kernel_rfl) (fun _ _ _ h => h) (Or.inl ⟨by rfl, ?hyq13⟩) (by assumption) ?rsq13
            case hyq13 => (intro w hSw; first | (go_simp; done) | (go_simp; with_reducible rfl) | ((try dsimp only at hSw); go_split_ands; go_simp; done) | ((try dsimp only at hSw); go_split_ands; go_simp; with_reducible rfl))
            case' rsq13 => (try simp only [Act.put, List.setIfInBounds_toArray, List.set_cons_zero, List.set_cons_succ])
            refine wpAnyH_take (i := 14) (oi := { dst := some 72, op := Go.Op.load 23 (Go.Operand.tmp 1), type := 23, pos := "law.go:30", after := #[{ on := 11, ground := Go.Ground.guard }], guard := some (11, true) }) (v := ?vq14) rfl (by kernel_rfl) (by kernel_rfl) (by kernel_rfl) (fun _ _ _ h => h) (Or.inl ⟨by rfl, ?hyq14⟩) (by assumption) ?rsq14
            case hyq14 => (intro w hSw; first | (go_simp; done) | (go_simp; with_reducible rfl) | ((try dsimp only at hSw); go_split_ands; go_simp; done) | ((try dsimp only at hSw); go_split_ands; go_simp; with_reducible rfl))
            case' rsq14 => (try simp only [Act.put, List.setIfInBounds_toArray, List.set_cons_zero, List.set_cons_succ])
            refine wpAnyH_take (i := 18) (oi := { dst := some 76, op := Go.Op.build 85 #[(4, Go.Operand.const (Go.Value.int Go.IntKind.i64 1))], type := 85, pos := "law.go:30", after := #[{ on := 11, ground := Go.Ground.guard }], guard := some (11, true) }) (v := ?vq15) rfl (by kernel_rfl) (by kernel_rfl) (by kernel_rfl) (fun _ _ _ h => h) (Or.inl ⟨by rfl, ?hyq15⟩) (by assumption) ?rsq15
            case hyq15 => (intro w hSw; first | (go_simp; done) | (go_simp; with_reducible rfl) | ((try dsimp only at hSw); go_split_ands; go_simp; done) | ((try dsimp only at hSw); go_split_ands; go_simp; with_reducible rfl))
            case' rsq15 => (try simp only [Act.put, List.setIfInBounds_toArray, List.set_cons_zero, List.set_cons_succ])
            refine wpAnyH_ready (rs := [13]) (by kernel_rfl) (by simp) ?_
            refine AllReadyH.cons (o := { dst := some 71, op := Go.Op.call { callee := Go.Callee.value (Go.Operand.func 24), args := #[Go.Operand.tmp 70], argTypes := #[24] }, type := 29, pos := "law.go:30", after := #[{ on := 12, ground := Go.Ground.data }, { on := 11, ground := Go.Ground.chain }, { on := 11, ground := Go.Ground.guard }], guard := some (11, true) }) rfl (fun K hK => ?_) ?_
            · go_simp
              (go_at_call 24; refine (words_n _ m b 13 _ hM2.out hsn.out (by decide)).mono ?_; rintro e wa ⟨A1, ca, b1, rfl, _, hR1, hb9⟩; obtain ⟨hA1, hc1, _⟩ := hR1.cell (i := 8) (by decide); rw [h65.out] at hc1; subst hA1; replace hbf := Lib.hid (hbf.out.trans (hb9.mono hbf.out.size)); replace hC := Lib.hid (hC.out.below hb9 hC.out.lt); have hY1 := And.intro (hFf.out _ hbf.out).1 (And.intro (hFf.out _ hbf.out).2 (cfgs hC.out)); replace hW := Lib.hid (hW.out.trans (hb9.mono (by have := hW.out.size; have := hbf.out.size; omega))); replace hR1 := Lib.hid hR1; replace hM2 := Lib.hid (hM2.out.next hb9); clear hb9)
              refine hK.out _ _ (by assumption) (fun hHeld => ?_)
              clear hK K
              try simp only [Act.put, List.setIfInBounds_toArray, List.set_cons_zero, List.set_cons_succ]
              refine wpAnyH_ready (rs := [15]) (by kernel_rfl) (by simp) ?_
              refine AllReadyH.cons (o := { dst := some 73, op := Go.Op.call { callee := Go.Callee.value (Go.Operand.func 72), args := #[Go.Operand.tmp 72, Go.Operand.const (Go.Value.int Go.IntKind.i64 0)], argTypes := #[23, 3] }, type := 3, pos := "law.go:30", after := #[{ on := 14, ground := Go.Ground.data }, { on := 13, ground := Go.Ground.chain }, { on := 11, ground := Go.Ground.guard }], guard := some (11, true) }) rfl (fun K hK => ?_) ?_
              · go_simp
                (go_at_call 72; refine (headerC c12 _ 0).mono ?_; rintro e wb ⟨rfl, hb9⟩; rw [hh.out]; replace hM2 := Lib.hid (hM2.out.next hb9); replace hbf := Lib.hid (hbf.out.trans (hb9.mono hbf.out.size)); replace hC := Lib.hid (hC.out.below hb9 hC.out.lt); have hY2 := And.intro (hFf.out _ hbf.out).1 (And.intro (hFf.out _ hbf.out).2 (cfgs hC.out)); replace hW := Lib.hid (hW.out.trans (hb9.mono (by have := hW.out.size; have := hbf.out.size; omega))); (try (replace hR1 := Lib.hid (hR1.out.below hb9 (Nat.le_refl _)); have hc2 := (hR1.out.cell (i := 8) (by decide)).2.1; rw [h65.out] at hc2)); clear hb9)
                refine hK.out _ _ (by assumption) (fun hHeld => ?_)
                clear hK K
                try simp only [Act.put, List.setIfInBounds_toArray, List.set_cons_zero, List.set_cons_succ]
                refine wpAnyH_take (i := 16) (oi := { dst := some 74, op := Go.Op.indexAddr 29 (Go.Operand.tmp 71) (Go.Operand.tmp 73), type := 0, pos := "law.go:30", after := #[{ on := 13, ground := Go.Ground.data }, { on := 15, ground := Go.Ground.data }, { on := 11, ground := Go.Ground.guard }], guard := some (11, true) }) (v := ?vq16) rfl (by kernel_rfl) (by kernel_rfl) (by kernel_rfl) (fun _ _ _ h => h) (Or.inl ⟨by rfl, ?hyq16⟩) (by assumption) ?rsq16
                case hyq16 => (intro w hSw; first | (go_simp; done) | (go_simp; with_reducible rfl) | ((try dsimp only at hSw); go_split_ands; go_simp; done) | ((try dsimp only at hSw); go_split_ands; go_simp; with_reducible rfl))
                case' rsq16 => (try simp only [Act.put, List.setIfInBounds_toArray, List.set_cons_zero, List.set_cons_succ])
                refine wpAnyH_ready (rs := [17, 19]) (by kernel_rfl) (by simp) ?_
                refine AllReadyH.cons (o := { dst := some 75, op := Go.Op.load 33 (Go.Operand.tmp 74), type := 33, pos := "law.go:30", after := #[{ on := 16, ground := Go.Ground.data }, { on := 11, ground := Go.Ground.guard }], guard := some (11, true) }) rfl (fun K hK => ?_) ?_
                · go_simp
                  refine hK.out _ _ (by assumption) (fun hHeld => ?_)
                  clear hK K
                  try simp only [Act.put, List.setIfInBounds_toArray, List.set_cons_zero, List.set_cons_succ]
                  refine wpAnyH_ready (rs := [19]) (by kernel_rfl) (by simp) ?_
                  refine AllReadyH.cons (o := { dst := some 77, op := Go.Op.call { callee := Go.Callee.value (Go.Operand.func 58), args := #[Go.Operand.tmp 76], argTypes := #[85] }, type := 33, pos := "law.go:30", after := #[{ on := 18, ground := Go.Ground.data }, { on := 15, ground := Go.Ground.chain }, { on := 11, ground := Go.Ground.guard }], guard := some (11, true) }) rfl (fun K hK => ?_) ?_
                  · go_simp
                    (go_at_call 58; refine (rPack_c 0 0 false 0 1 0 (by decide) _).mono ?_; rintro e wd ⟨rfl, hb9⟩; rw [hn2.out]; replace hM2 := Lib.hid (hM2.out.next hb9); replace hbf := Lib.hid (hbf.out.trans (hb9.mono hbf.out.size)); replace hC := Lib.hid (hC.out.below hb9 hC.out.lt); have hY3 := And.intro (hFf.out _ hbf.out).1 (And.intro (hFf.out _ hbf.out).2 (cfgs hC.out)); replace hW := Lib.hid (hW.out.trans (hb9.mono (by have := hW.out.size; have := hbf.out.size; omega))); (try (replace hR1 := Lib.hid (hR1.out.below hb9 (Nat.le_refl _)); have hc3 := (hR1.out.cell (i := 8) (by decide)).2.1; rw [h65.out] at hc3)); clear hb9)
                    refine hK.out _ _ (by assumption) (fun hHeld => ?_)
                    clear hK K
                    try simp only [Act.put, List.setIfInBounds_toArray, List.set_cons_zero, List.set_cons_succ]
                    refine wpAnyH_take (i := 20) (oi := { dst := some 78, op := Go.Op.binOp Go.BinOp.eql 33 (Go.Operand.tmp 75) (Go.Operand.tmp 77) 33, type := 4, pos := "law.go:30", after := #[{ on := 17, ground := Go.Ground.data }, { on := 19, ground := Go.Ground.data }, { on := 11, ground := Go.Ground.guard }], guard := some (11, true) }) (v := ?vq17) rfl (by kernel_rfl) (by kernel_rfl) (by kernel_rfl) (fun _ _ _ h => h) (Or.inl ⟨by rfl, ?hyq17⟩) (by assumption) ?rsq17
                    case hyq17 => (intro w hSw; first | (go_simp; done) | (go_simp; with_reducible rfl) | ((try dsimp only at hSw); go_split_ands; go_simp; done) | ((try dsimp only at hSw); go_split_ands; go_simp; with_reducible rfl))
                    case' rsq17 => (try simp only [Act.put, List.setIfInBounds_toArray, List.set_cons_zero, List.set_cons_succ])
                    refine wpAnyH_take (i := 21) (oi := { dst := some 79, op := Go.Op.pick (Go.Operand.tmp 69) (Go.Operand.tmp 78) (Go.Operand.const (Go.Value.bool false)), type := 4, pos := "law.go:30", after := #[{ on := 11, ground := Go.Ground.data }, { on := 20, ground := Go.Ground.data }], guard := none }) (v := ?vq18) rfl (by kernel_rfl) (by kernel_rfl) (by kernel_rfl) (fun _ _ _ h => h) (Or.inl ⟨by rfl, ?hyq18⟩) (by assumption) ?rsq18
                    case hyq18 => (intro w hSw; first | (go_simp; done) | (go_simp; with_reducible rfl) | ((try dsimp only at hSw); go_split_ands; go_simp; done) | ((try dsimp only at hSw); go_split_ands; go_simp; with_reducible rfl))
                    case' rsq18 => (try simp only [Act.put, List.setIfInBounds_toArray, List.set_cons_zero, List.set_cons_succ])
                    refine wpAnyH_take (i := 22) (oi := { dst := some 0, op := Go.Op.assign (Go.Operand.tmp 79), type := 4, pos := "law.go:30", after := #[{ on := 21, ground := Go.Ground.data }, { on := 19, ground := Go.Ground.chain }, { on := 0, ground := Go.Ground.phase }, { on := 1, ground := Go.Ground.phase }, { on := 2, ground := Go.Ground.phase }, { on := 3, ground := Go.Ground.phase }, { on := 4, ground := Go.Ground.phase }, { on := 5, ground := Go.Ground.phase }, { on := 6, ground := Go.Ground.phase }, { on := 7, ground := Go.Ground.phase }, { on := 8, ground := Go.Ground.phase }, { on := 9, ground := Go.Ground.phase }, { on := 10, ground := Go.Ground.phase }, { on := 11, ground := Go.Ground.phase }, { on := 12, ground := Go.Ground.phase }, { on := 13, ground := Go.Ground.phase }, { on := 14, ground := Go.Ground.phase }, { on := 15, ground := Go.Ground.phase }, { on := 16, ground := Go.Ground.phase }, { on := 17, ground := Go.Ground.phase }, { on := 18, ground := Go.Ground.phase }, { on := 19, ground := Go.Ground.phase }, { on := 20, ground := Go.Ground.phase }, { on := 21, ground := Go.Ground.phase }], guard := none }) (v := ?vq19) rfl (by kernel_rfl) (by kernel_rfl) (by kernel_rfl) (fun _ _ _ h => h) (Or.inl ⟨by rfl, ?hyq19⟩) (by assumption) ?rsq19
                    case hyq19 => (intro w hSw; first | (go_simp; done) | (go_simp; with_reducible rfl) | ((try dsimp only at hSw); go_split_ands; go_simp; done) | ((try dsimp only at hSw); go_split_ands; go_simp; with_reducible rfl))
                    case' rsq19 => (try simp only [Act.put, List.setIfInBounds_toArray, List.set_cons_zero, List.set_cons_succ])
                    refine wpAnyH_done (by kernel_rfl) ?_ _
                    clear hX'
                    go_wp2
                    go_ret
                    exact ⟨rfl, hCFe ▸ hW.out⟩
                  exact AllReadyH.nil
                refine AllReadyH.cons (o := { dst := some 77, op := Go.Op.call { callee := Go.Callee.value (Go.Operand.func 58), args := #[Go.Operand.tmp 76], argTypes := #[85] }, type := 33, pos := "law.go:30", after := #[{ on := 18, ground := Go.Ground.data }, { on := 15, ground := Go.Ground.chain }, { on := 11, ground := Go.Ground.guard }], guard := some (11, true) }) rfl (fun K hK => ?_) ?_
                · go_simp
                  (go_at_call 58; refine (rPack_c 0 0 false 0 1 0 (by decide) _).mono ?_; rintro e wd ⟨rfl, hb9⟩; rw [hn2.out]; replace hM2 := Lib.hid (hM2.out.next hb9); replace hbf := Lib.hid (hbf.out.trans (hb9.mono hbf.out.size)); replace hC := Lib.hid (hC.out.below hb9 hC.out.lt); have hY3 := And.intro (hFf.out _ hbf.out).1 (And.intro (hFf.out _ hbf.out).2 (cfgs hC.out)); replace hW := Lib.hid (hW.out.trans (hb9.mono (by have := hW.out.size; have := hbf.out.size; omega))); (try (replace hR1 := Lib.hid (hR1.out.below hb9 (Nat.le_refl _)); have hc3 := (hR1.out.cell (i := 8) (by decide)).2.1; rw [h65.out] at hc3)); clear hb9)
                  refine hK.out _ _ (by assumption) (fun hHeld => ?_)
                  clear hK K
                  try simp only [Act.put, List.setIfInBounds_toArray, List.set_cons_zero, List.set_cons_succ]
                  refine wpAnyH_ready (rs := [17]) (by kernel_rfl) (by simp) ?_
                  refine AllReadyH.cons (o := { dst := some 75, op := Go.Op.load 33 (Go.Operand.tmp 74), type := 33, pos := "law.go:30", after := #[{ on := 16, ground := Go.Ground.data }, { on := 11, ground := Go.Ground.guard }], guard := some (11, true) }) rfl (fun K hK => ?_) ?_
                  · go_simp
                    refine hK.out _ _ (by assumption) (fun hHeld => ?_)
                    clear hK K
                    try simp only [Act.put, List.setIfInBounds_toArray, List.set_cons_zero, List.set_cons_succ]
                    refine wpAnyH_take (i := 20) (oi := { dst := some 78, op := Go.Op.binOp Go.BinOp.eql 33 (Go.Operand.tmp 75) (Go.Operand.tmp 77) 33, type := 4, pos := "law.go:30", after := #[{ on := 17, ground := Go.Ground.data }, { on := 19, ground := Go.Ground.data }, { on := 11, ground := Go.Ground.guard }], guard := some (11, true) }) (v := ?vq20) rfl (by kernel_rfl) (by kernel_rfl) (by kernel_rfl) (fun _ _ _ h => h) (Or.inl ⟨by rfl, ?hyq20⟩) (by assumption) ?rsq20
                    case hyq20 => (intro w hSw; first | (go_simp; done) | (go_simp; with_reducible rfl) | ((try dsimp only at hSw); go_split_ands; go_simp; done) | ((try dsimp only at hSw); go_split_ands; go_simp; with_reducible rfl))
                    case' rsq20 => (try simp only [Act.put, List.setIfInBounds_toArray, List.set_cons_zero, List.set_cons_succ])
                    refine wpAnyH_take (i := 21) (oi := { dst := some 79, op := Go.Op.pick (Go.Operand.tmp 69) (Go.Operand.tmp 78) (Go.Operand.const (Go.Value.bool false)), type := 4, pos := "law.go:30", after := #[{ on := 11, ground := Go.Ground.data }, { on := 20, ground := Go.Ground.data }], guard := none }) (v := ?vq21) rfl (by kernel_rfl) (by kernel_rfl) (by kernel_rfl) (fun _ _ _ h => h) (Or.inl ⟨by rfl, ?hyq21⟩) (by assumption) ?rsq21
                    case hyq21 => (intro w hSw; first | (go_simp; done) | (go_simp; with_reducible rfl) | ((try dsimp only at hSw); go_split_ands; go_simp; done) | ((try dsimp only at hSw); go_split_ands; go_simp; with_reducible rfl))
                    case' rsq21 => (try simp only [Act.put, List.setIfInBounds_toArray, List.set_cons_zero, List.set_cons_succ])
                    refine wpAnyH_take (i := 22) (oi := { dst := some 0, op := Go.Op.assign (Go.Operand.tmp 79), type := 4, pos := "law.go:30", after := #[{ on := 21, ground := Go.Ground.data }, { on := 19, ground := Go.Ground.chain }, { on := 0, ground := Go.Ground.phase }, { on := 1, ground := Go.Ground.phase }, { on := 2, ground := Go.Ground.phase }, { on := 3, ground := Go.Ground.phase }, { on := 4, ground := Go.Ground.phase }, { on := 5, ground := Go.Ground.phase }, { on := 6, ground := Go.Ground.phase }, { on := 7, ground := Go.Ground.phase }, { on := 8, ground := Go.Ground.phase }, { on := 9, ground := Go.Ground.phase }, { on := 10, ground := Go.Ground.phase }, { on := 11, ground := Go.Ground.phase }, { on := 12, ground := Go.Ground.phase }, { on := 13, ground := Go.Ground.phase }, { on := 14, ground := Go.Ground.phase }, { on := 15, ground := Go.Ground.phase }, { on := 16, ground := Go.Ground.phase }, { on := 17, ground := Go.Ground.phase }, { on := 18, ground := Go.Ground.phase }, { on := 19, ground := Go.Ground.phase }, { on := 20, ground := Go.Ground.phase }, { on := 21, ground := Go.Ground.phase }], guard := none }) (v := ?vq22) rfl (by kernel_rfl) (by kernel_rfl) (by kernel_rfl) (fun _ _ _ h => h) (Or.inl ⟨by rfl, ?hyq22⟩) (by assumption) ?rsq22
                    case hyq22 => (intro w hSw; first | (go_simp; done) | (go_simp; with_reducible rfl) | ((try dsimp only at hSw); go_split_ands; go_simp; done) | ((try dsimp only at hSw); go_split_ands; go_simp; with_reducible rfl))
                    case' rsq22 => (try simp only [Act.put, List.setIfInBounds_toArray, List.set_cons_zero, List.set_cons_succ])
                    refine wpAnyH_done (by kernel_rfl) ?_ _
                    clear hX'
                    go_wp2
                    go_ret
                    exact ⟨rfl, hCFe ▸ hW.out⟩
                  exact AllReadyH.nil
                exact AllReadyH.nil
              exact AllReadyH.nil
            exact AllReadyH.nil
end Go.Proofs.Ytijfkpoofpcacaa.ArenaT
end
section
set_option linter.unusedVariables false
namespace Go.Proofs.Ytijfkpoofpcacaa.ArenaU
open Go.RowKit Go.Proofs.YtijfkpoofpcacaaW.PrintWords Go.Proofs.Ytijfkpoofpcacaa.PArenaPlays Go.Proofs.Ytijfkpoofpcacaa.PuArenaPlays Go.Proofs.Ytijfkpoofpcacaa.Blk Go.Proofs.Ytijfkpoofpcacaa.Core Go.Proofs.Ytijfkpoofpcacaa.MemC Go.Proofs.Ytijfkpoofpcacaa.MemD Go.Proofs.Ytijfkpoofpcacaa.MemT Go.Proofs.Ytijfkpoofpcacaa.Memory Go.Proofs.Ytijfkpoofpcacaa.PlanC Go.Proofs.Ytijfkpoofpcacaa.PlanD Go.Proofs.Ytijfkpoofpcacaa.StackC Go.Proofs.Ytijfkpoofpcacaa.StackL Go.Proofs.Ytijfkpoofpcacaa.StackS Go.Proofs.Ytijfkpoofpcacaa.StackF Go.Proofs.Ytijfkpoofpcacaa.StackP Go.Proofs.Ytijfkpoofpcacaa.StackG Go.Proofs.Ytijfkpoofpcacaa.HeadC Go.Proofs.Ytijfkpoofpcacaa.ArenaC Go.Proofs.Ytijfkpoofpcacaa.ArenaM Go.Proofs.Ytijfkpoofpcacaa.ArenaN Go.Proofs.Ytijfkpoofpcacaa.ArenaP Go.Proofs.Ytijfkpoofpcacaa.ArenaL Go.Proofs.Ytijfkpoofpcacaa.ArenaR Go.Proofs.Ytijfkpoofpcacaa.ArenaQ Go.Proofs.Ytijfkpoofpcacaa.ArenaS Go.Proofs.Ytijfkpoofpcacaa.ArenaT Go.Proofs.Ytijfkpoofpcacaa.Opens
theorem rRoomC (c : Cf) (w : World) (hr : c.right = true) : Calls Try.prog 50 #[.agg #[.int .i64 c.S, .int .i64 c.A, .int .i64 c.C, .int .i64 c.H, .int .i64 c.G, .int .i64 c.K]] w fun e w' => e = .returned (.int .i64 (roomI c)) ∧ Below w.heap.size w w' := by
  have h := room_i hr
  have e : (roomI c : Int) = if c.A < 3 then 3 else c.A := by rw [h.2.2]; unfold roomV; split <;> omega
  rw [e]
  exact withyref06_Room.calls c.S c.A c.C c.H c.G c.K _ w (p_rRoom _ _ _ _ _ _)
end Go.Proofs.Ytijfkpoofpcacaa.ArenaU
end
section
set_option linter.unusedVariables false
set_option linter.unusedSimpArgs false
namespace Go.Proofs.Ytijfkpoofpcacaa.ArenaV
open Go.RowKit Go.Proofs.YtijfkpoofpcacaaW.PrintWords Go.Proofs.Ytijfkpoofpcacaa.Blk Go.Proofs.Ytijfkpoofpcacaa.Core Go.Proofs.Ytijfkpoofpcacaa.MemC Go.Proofs.Ytijfkpoofpcacaa.MemD Go.Proofs.Ytijfkpoofpcacaa.MemT Go.Proofs.Ytijfkpoofpcacaa.Memory Go.Proofs.Ytijfkpoofpcacaa.PlanC Go.Proofs.Ytijfkpoofpcacaa.PlanD Go.Proofs.Ytijfkpoofpcacaa.StackC Go.Proofs.Ytijfkpoofpcacaa.StackL Go.Proofs.Ytijfkpoofpcacaa.StackS Go.Proofs.Ytijfkpoofpcacaa.StackF Go.Proofs.Ytijfkpoofpcacaa.StackP Go.Proofs.Ytijfkpoofpcacaa.StackG Go.Proofs.Ytijfkpoofpcacaa.HeadC Go.Proofs.Ytijfkpoofpcacaa.ArenaC Go.Proofs.Ytijfkpoofpcacaa.ArenaM Go.Proofs.Ytijfkpoofpcacaa.ArenaN Go.Proofs.Ytijfkpoofpcacaa.ArenaP Go.Proofs.Ytijfkpoofpcacaa.ArenaL Go.Proofs.Ytijfkpoofpcacaa.ArenaR Go.Proofs.Ytijfkpoofpcacaa.ArenaQ Go.Proofs.Ytijfkpoofpcacaa.ArenaS Go.Proofs.Ytijfkpoofpcacaa.ArenaT Go.Proofs.Ytijfkpoofpcacaa.ArenaU Go.Proofs.Ytijfkpoofpcacaa.Opens
theorem wf8 {x : Int} (h : (Lit.int .u8 x).wf = true) : 0 ≤ x ∧ x < 256 := by
  simp [Lit.wf, IntKind.min, IntKind.max, IntKind.signed, IntKind.bits] at h
  omega
theorem below_four {w0 w w' : World} {n p q m b : Nat} (h : Below n w0 w) (hF : Fr (four p q m b) w w') (hn : n ≤ w.heap.size) (hp : n ≤ p) (hq : n ≤ q) (hm : n ≤ m) (hb : n ≤ b) : Below n w0 w' :=
  h.trans (hF.below (fun k hk => ⟨by omega, not_four (by omega) (by omega) (by omega) (by omega)⟩))
set_option maxHeartbeats 4000000 in
set_option maxRecDepth 100000 in
theorem aloneC (c0 : Cf) (ep a : Int) (ep0 : 0 ≤ ep) (ep1 : ep < 18446744073709551616) (a0 : 0 ≤ a) (a1 : a < 256) (w : World) : Calls Try.prog 15 #[.agg #[.int .i64 c0.S, .int .i64 c0.A, .int .i64 c0.C, .int .i64 c0.H, .int .i64 c0.G, .int .i64 c0.K], .int .u64 ep, .int .u8 a] w fun e w' => e = .returned (.bool true) ∧ Below w.heap.size w w' := by
  have hf0 := Lib.hid (Blk.new w 23 #[.int .i64 c0.S, .int .i64 c0.A, .int .i64 c0.C, .int .i64 c0.H, .int .i64 c0.G, .int .i64 c0.K])
  have hT0 := Lib.hid ((Below.refl w.heap.size w).alloc (Nat.le_refl _) (.cells #[.int .i64 c0.S, .int .i64 c0.A, .int .i64 c0.C, .int .i64 c0.H, .int .i64 c0.G, .int .i64 c0.K] 23))
  go_enter Try.func15, Try.ntmps15
  generalize hCFe : w.heap.size = CF at *
  go_upto_region 5 with (first
    | (go_at_call 31; refine (fitC c0 _).mono ?_; rintro e w1 ⟨c, rfl, hs, hb1⟩; have hr := small_right hs; have hf1 := hf0.out.below hb1 hf0.out.lt; obtain ⟨k0, k1, k2, k3, k4, k5⟩ := cfgs hf1; have z0 := hf1.frozen 0; have z1 := hf1.frozen 1; have z2 := hf1.frozen 2; have z3 := hf1.frozen 3; have z4 := hf1.frozen 4; have z5 := hf1.frozen 5; replace hf1 := Lib.hid hf1; replace hT0 := Lib.hid (hT0.out.trans (hb1.mono (by have := hT0.out.size; omega))); clear hb1; replace hr := Lib.hid hr; replace hs := Lib.hid hs)
    | (go_at_call 20; (show Calls _ _ _ (six w1 CF c) _); clear k0 k1 k2 k3 k4 k5 z0 z1 z2 z3 z4 z5; have hf2 := six_blk (c := c) hf1.out; have hT2 := six_below (c := c) hT0.out (b := CF) (by omega); generalize six w1 CF c = w2 at *; refine (memC c _ hr.out).mono ?_; rintro e w3 ⟨m, b, rfl, hM3, hm, hb, hb3⟩; have hf3 := hf2.below hb3 hf2.lt; have lt3 := hf2.lt; replace hT2 := Lib.hid (hT2.trans (hb3.mono (by have := hT2.size; omega))); have hcf := Lib.hid hf3; replace hM3 := Lib.hid hM3; obtain ⟨q0, q1, q2, q3, q4, q5⟩ := cfgs hf3; clear hb3 hf2 hf3))
  obtain ⟨n, hn⟩ : ∃ n : Nat, (n : Int) = c.size := ⟨c.size.toNat, by have := size_bd hr.out; unfold Cf.size; omega⟩
  have hS := S_bd hr.out
  have hf := Lib.hid (fine_of (n := n) (memF_U c.A c.C c.H (c.S - 1).toNat (by omega)))
  have hM : MemB w3 m b (Ms.of n (memF c.A c.C c.H (c.S - 1).toNat)) := by
    have := hM3.out
    rw [← hn, Int.toNat_natCast] at this
    exact this
  replace hM := Lib.hid hM
  have hT := hT2
  have ltm := hM.out.lm
  have ltb := hM.out.lb
  have mCF : CF < m := by omega
  have bCF : CF < b := by omega
  have hn8 := size_bd hr.out
  have hn8' : 9 ≤ n ∧ n ≤ 800 := by unfold Cf.size at hn; omega
  replace hn := Lib.hid hn
  clear hM3 hT0 hf1 hf0 hT2 hS hn8
  have hA := hs.out.2.1
  have hri := room_i hr.out
  obtain ⟨hr3, hr8, _⟩ := hri
  have hSb := S_bd hr.out
  have hS12 := hs.out.1
  obtain ⟨k, hk⟩ := Int.eq_ofNat_of_zero_le (show 0 ≤ c.S by omega)
  have hkk : c.S.toNat = k := by omega
  have hst := stk_start hr.out
  rw [hkk] at hst
  have hk64 : k ≤ 64 := by omega
  replace hk := Lib.hid hk
  replace hst := Lib.hid hst
  have hUg := Lib.hid (U_pad 0 (fun _ => 0) (fun j hj => absurd hj (by omega)))
  obtain ⟨q, hq⟩ : ∃ q : Nat, (q : Int) = a % (c.A + 1) := ⟨(a % (c.A + 1)).toNat, by have := Int.emod_nonneg a (show c.A + 1 ≠ 0 by omega); omega⟩
  have hq1 : (q : Int) < c.A + 1 := by rw [hq]; exact Int.emod_lt_of_pos a (by omega)
  have t1 : a.tmod (c.A + 1) = (q : Int) := by rw [Int.tmod_eq_emod_of_nonneg a0, hq]
  have t2 : IntKind.i64.wrap a = a := IntWalk.i64_in _ (by omega)
  have t3 : IntKind.i64.wrap (c.A + 1) = c.A + 1 := IntWalk.i64_in _ (by omega)
  have t4 : IntKind.i64.wrap (q : Int) = q := IntWalk.i64_in _ (by omega)
  have t5 : ¬ c.A + 1 = 0 := by omega
  have hcan1 : canM c 1 q 0 := ⟨hr.out, by omega, by omega, .inl ⟨rfl, by omega⟩⟩
  have hcan2 : canM c 2 0 0 := ⟨hr.out, Int.le_refl 0, by omega, .inr ⟨rfl, rfl⟩⟩
  have hRR : ∃ R, R = roomI c := ⟨_, rfl⟩
  obtain ⟨R, hR⟩ := hRR
  rw [← hR] at hr3 hr8
  replace hR := Lib.hid hR
  replace hcan1 := Lib.hid hcan1
  replace hcan2 := Lib.hid hcan2
  have hq63 : (q : Int) < 9223372036854775808 := by omega
  replace hq := Lib.hid hq
  replace t1 := Lib.hid t1
  clear hA hSb hS12 hs
  replace t2 := Lib.hid t2
  replace t3 := Lib.hid t3
  replace t4 := Lib.hid t4
  replace t5 := Lib.hid t5
  have hM0 := hM
  have hf0 := hf
  have hcf0 := hcf
  have hT0 := hT
  clear hM hf hcf hT
  go_upto_region 7 with (go_at_call 50; refine (rRoomC c _ hr.out).mono ?_; rintro e w4 ⟨rfl, hb⟩; rw [← hR.out]; replace hcf0 := Lib.hid (hcf0.out.below hb hcf0.out.lt); replace hM0 := Lib.hid (hM0.out.next hb); replace hT0 := Lib.hid (hT0.out.trans (hb.mono (by have := hT0.out.size; omega))); have zz0 := hb.size; clear hb)
  have ltm4 : m < w4.heap.size := by omega
  have ltb4 : b < w4.heap.size := by omega
  go_loopw [9] (fun z wr => ∃ (s : Nat) (M : Ms), s ≤ k ∧ z = .int .i64 (s : Int) ∧ MemB wr m b M ∧ Fine M n (13 * s) ∧ Stk c M.f s (ups s (k - s)) ∧ Blk wr CF 23 #[.int .i64 c.S, .int .i64 c.A, .int .i64 c.C, .int .i64 c.H, .int .i64 c.G, .int .i64 c.K] ∧ Below w.heap.size w wr) (fun z _ => k - (intOf z).toNat)
  case atStart => exact ⟨0, _, Nat.zero_le _, rfl, hM0.out, hf0.out, hst.out, hcf0.out, hCFe.symm ▸ hT0.out⟩
  case round =>
    obtain ⟨s, M, hs', rfl, hMs, hfs, hss, hcs, hWs⟩ := hrel
    obtain ⟨k0, k1, k2, k3, k4, k5⟩ := cfgs hcs
    have lts := hMs.lm
    have ltsb := hMs.lb
    have ltc := hcs.lt
    have hkS := hk.out
    by_cases hlt : s < k
    · have hltS : (s : Int) < c.S := by omega
      obtain ⟨d, hd⟩ : ∃ d, k - s = d + 1 := ⟨k - s - 1, by omega⟩
      rw [hd] at hss
      change Stk c M.f s ((s : Int) :: ups (s + 1) d) at hss
      replace hkS := Lib.hid hkS
      replace hMs := Lib.hid hMs
      replace hfs := Lib.hid hfs
      replace hss := Lib.hid hss
      replace hcs := Lib.hid hcs
      replace hWs := Lib.hid hWs
      replace hd := Lib.hid hd
      have hT1 : 13 * s ≤ 1000 := by omega
      go_upto_region 9 with (fail)
      clear k0 k1 k2 k3 k4 k5
      have hX : wr.drew.cell? ⟨CF, 0, none⟩ = some (.int .i64 c.S) ∧ wr.drew.cell? ⟨CF, 1, none⟩ = some (.int .i64 c.A) ∧ wr.drew.cell? ⟨CF, 2, none⟩ = some (.int .i64 c.C) ∧ wr.drew.cell? ⟨CF, 3, none⟩ = some (.int .i64 c.H) ∧ wr.drew.cell? ⟨CF, 4, none⟩ = some (.int .i64 c.G) ∧ wr.drew.cell? ⟨CF, 5, none⟩ = some (.int .i64 c.K) := cfgs hcs.out.drew
      replace hcs := Lib.hid hcs.out.drew
      replace hMs := Lib.hid hMs.out.drew
      replace hWs := Lib.hid hWs.out.drew
      have u1 := t1.out
      have u2 := t2.out
      have u3 := t3.out
      have u4 := t4.out
      have u5 := t5.out
      go_region_held3 (fun w' => w'.cell? ⟨CF, 0, none⟩ = some (.int .i64 c.S) ∧ w'.cell? ⟨CF, 1, none⟩ = some (.int .i64 c.A) ∧ w'.cell? ⟨CF, 2, none⟩ = some (.int .i64 c.C) ∧ w'.cell? ⟨CF, 3, none⟩ = some (.int .i64 c.H) ∧ w'.cell? ⟨CF, 4, none⟩ = some (.int .i64 c.G) ∧ w'.cell? ⟨CF, 5, none⟩ = some (.int .i64 c.K)) (assumption) (first
        | (go_at_call 51; refine (newMakeC c _ 1 (q : Int) ep none 0 0 (fun _ => 0) (sl_nil _ _) hcan1.out).mono ?_; rintro e w4 ⟨pp, pq, pr, rfl, g1, g2, g3, hQ, hP, hRow, hb4⟩; replace hcs := Lib.hid (hcs.out.below hb4 hcs.out.lt); have hY := cfgs hcs.out; replace hMs := Lib.hid (hMs.out.next hb4); replace hWs := Lib.hid (hWs.out.trans (hb4.mono (by have := hWs.out.size; omega))); have zz4 := hb4.size; replace hQ := Lib.hid hQ; replace hP := Lib.hid hP; replace hRow := Lib.hid hRow; clear hb4))
      all_goals
        clear u1 u2 u3 u4 u5 hX hY
        have hdis : Dis pp pq pr m b := nodis (k := wr.drew.heap.size) lts ltsb g1 g2 g3
        have hX0 := Lib.hid (mkX_new (t := (s : Int)) (T := 13 * s) hr.out hQ.out hP.out hRow.out hMs.out hfs.out hss.out ⟨ep0, ep1⟩ hq63)
        have g1' : wr.heap.size ≤ pr := g1
        clear hQ hP hRow hMs hfs hss
        go_upto_region 11 with (fail)
        go_loopw [11] (fun z wi => ∃ (i j : Nat), i = j + 1 ∧ j ≤ 4 + R ∧ z = .int .i64 (i : Int) ∧ MkX c wi pp pq pr m b n (13 * s + j) (padF 0 (fun _ => 0)) s s (ups (s + 1) d) j ∧ Blk wi CF 23 #[.int .i64 c.S, .int .i64 c.A, .int .i64 c.C, .int .i64 c.H, .int .i64 c.G, .int .i64 c.K] ∧ Below w.heap.size w wi) (fun z _ => 20 - (intOf z).toNat)
        case atStart => exact ⟨1, 0, rfl, by omega, rfl, hX0.out, hcs.out, hWs.out⟩
        case round =>
          obtain ⟨i, j, hij, hj, rfl, hB, hC, hW⟩ := hrel
          have hij' := Lib.hid hij
          have i40 : (i : Int) < 40 := by omega
          have ltj : j < 5 + roomI c := by rw [← hR.out]; omega
          replace hB := Lib.hid hB
          replace hC := Lib.hid hC
          replace hW := Lib.hid hW
          replace hd := Lib.hid hd.out
          have hdD := Lib.hid hdis
          clear hij
          rcases (show j < 4 + R ∨ j = 4 + R by omega) with hjl | hje
          · have hf8 : (j + 1 == 5 + roomI c) = false := by rw [← hR.out]; simp; omega
            replace hf8 := Lib.hid hf8
            go_wp2_with (go_at_call 52; refine (mkXC hr.out hn.out (by omega) hUg.out hdD.out (by omega) (by omega) ltj hB.out).mono ?_; rintro e w6 ⟨rfl, hB2, hF2⟩; rw [hf8.out]; replace hC := Lib.hid (hC.out.fr hF2 (not_four (by omega) (by omega) (by omega) (by omega))); replace hW := Lib.hid (below_four hW.out hF2 (by have := hW.out.size; omega) (by omega) (by omega) (by omega) (by omega)); replace hB := Lib.hid hB2; clear hF2 hB2)
            go_roundw
            case rel => exact ⟨i + 1, j + 1, by have := hij'.out; omega, by omega, by go_num, hB.out, hC.out, hW.out⟩
            case measure =>
              have := hij'.out
              simp [intOf]; omega
          · have hf8 : (j + 1 == 5 + roomI c) = true := by rw [← hR.out]; simp; omega
            have hjR : j + 1 = 5 + roomI c := by rw [← hR.out]; omega
            have hne : ((i : Int) != 4 + (R : Int) + 1) = false := by have := hij'.out; simp; omega
            replace hf8 := Lib.hid hf8
            replace hjR := Lib.hid hjR
            replace hje := Lib.hid hje
            go_upto_region 13 with (go_at_call 52; refine (mkXC hr.out hn.out (by omega) hUg.out hdD.out (by omega) (by omega) ltj hB.out).mono ?_; rintro e w7 ⟨rfl, hB2, hF2⟩; rw [hf8.out]; replace hC := Lib.hid (hC.out.fr hF2 (not_four (by omega) (by omega) (by omega) (by omega))); replace hW := Lib.hid (below_four hW.out hF2 (by have := hW.out.size; omega) (by omega) (by omega) (by omega) (by omega)); replace hB := Lib.hid hB2; clear hF2 hB2)
            have hB3 := hB.out
            rw [hjR.out] at hB3
            obtain ⟨M2, hM2, hf2, hk2, c0, c1⟩ := mkX_end hB3
            clear hB hB3
            have hss : ((s : Int) != (s : Int)) = false := by simp
            replace hM2 := Lib.hid hM2
            replace hf2 := Lib.hid hf2
            replace hk2 := Lib.hid hk2
            go_wp2
            go_roundw
            case rel =>
              have e1 : k - (s + 1) = d := by have := hd.out; omega
              exact ⟨s + 1, M2, by omega, by go_num, hM2.out, hf2.out.mono (by omega), by rw [e1, show ((s + 1 : Nat) : Int) = (s : Int) + 1 by omega]; exact hk2.out, hC.out, hW.out⟩
            case measure => simp [intOf]; omega
    · have : s = k := by omega
      subst this
      have e0 : s - s = 0 := by omega
      rw [e0] at hss
      change Stk c M.f s [] at hss
      have hnS : ¬ (s : Int) < c.S := by omega
      have hT1 : 13 * s ≤ 1000 := by omega
      replace hkS := Lib.hid hkS
      replace hMs := Lib.hid hMs
      replace hfs := Lib.hid hfs
      replace hss := Lib.hid hss
      replace hcs := Lib.hid hcs
      replace hWs := Lib.hid hWs
      have hm1 : ((-1 : Int) == -1) = true := rfl
      go_upto_region 16 with (first
        | (go_at_call 51; refine (newMakeC c _ 2 0 ep none 0 0 (fun _ => 0) (sl_nil _ _) hcan2.out).mono ?_; rintro e w4 ⟨pp, pq, pr, rfl, g1, g2, g3, hQ, hP, hRow, hb4⟩; replace hcs := Lib.hid (hcs.out.below hb4 hcs.out.lt); have hY := cfgs hcs.out; replace hMs := Lib.hid (hMs.out.next hb4); replace hWs := Lib.hid (hWs.out.trans (hb4.mono (by have := hWs.out.size; omega))); have zz4 := hb4.size; replace hQ := Lib.hid hQ; replace hP := Lib.hid hP; replace hRow := Lib.hid hRow; clear hb4))
      have g1' : wr.heap.size ≤ pr := g1
      have hdis : Dis pp pq pr m b := nodis (k := wr.heap.size) lts ltsb g1 g2 g3
      have hB : MkB w4 pp pq pr c (roomI c) (padF 0 (fun _ => 0)) ⟨-1, false, 2, 0, ep, 0, 0, 0, ⟨-1, false, 0, 0, 0⟩⟩ := ⟨hP.out, hQ.out, hRow.out⟩
      have hok : MkOk (roomI c) ⟨-1, false, 2, 0, ep, 0, 0, 0, ⟨-1, false, 0, 0, 0⟩⟩ := ⟨fun _ => ⟨Int.le_refl 0, by show (0 : Int) < _; decide, .inl rfl⟩, .inl ⟨.inl rfl, Int.le_refl 0, by show (0 : Int) < _; rw [← hR.out]; omega⟩, ⟨ep0, ep1⟩, by show (0 : Int) < _; decide, by show (0 : Int) < _; decide⟩
      have hW := hWs
      replace hdis := Lib.hid hdis
      replace hB := Lib.hid hB
      replace hok := Lib.hid hok
      clear hQ hP hRow hWs
      go_wp2_with (first
        | (go_at_call 52; refine (mkFull hr.out hn.out (by omega) hUg.out hdis.out hss.out ⟨rfl, rfl, rfl, rfl⟩ hB.out hok.out hMs.out hfs.out).mono ?_; rintro e w7 ⟨rfl, j0, j1, hF⟩; replace hW := Lib.hid (below_four hW.out hF (by have := hW.out.size; omega) (by omega) (by omega) (by omega) (by omega)); clear hF)
        | (go_at_call 53; refine (awake12C _).mono ?_; rintro e w9 ⟨rfl, hb⟩; replace hW := Lib.hid (hW.out.trans (hb.mono (by have := hW.out.size; omega))); clear hb))
      go_ret
      exact ⟨rfl, hCFe ▸ hW.out⟩
end Go.Proofs.Ytijfkpoofpcacaa.ArenaV
end
section
namespace Go.Proofs.Ytijfkpoofpcacaa.CoreRow
open Go.ChangeShapes Go.WideShapes Go.RowKit Go.Deep
section
variable {H : Type} {enc : TypeId × Value → H} {P : Program} {w : World} {base : Nat} {spare : Nat → Bool} {held : Bool}
theorem open_cells {r : Reach} {b0 : Nat} {t : TypeId} {fs : Array Field} {v : Value} {d : DataW H} {p : List MemPlace} (hs : P.underlying t = some (.struct fs)) (hone : oneCellFields P fs = true) (hC : P.cellsOf t = fs.size)
    (hv : Value.okWide P w r b0 t v) (h : DataW.Trod enc P w base spare held t v d p) :
    ∃ cs : List Value, v = .agg cs.toArray ∧ cs.length = fs.size ∧ ∀ (j : Nat) (f : Field), fs[j]? = some f → ∃ (n : Nat) (y : DataW H × List MemPlace), DataW.trod enc P w base spare held n f.type [cs.getD j undef] = some y := by
  obtain ⟨⟨cs⟩, rfl, hsz⟩ := okWide_struct hs hv
  obtain ⟨fuel, hf⟩ := h
  obtain ⟨xs, n, _, hx, _, hlen, hg⟩ := DataW.trod_struct hs hf
  have hcl : cs.length = fs.size := hsz.trans hC
  refine ⟨cs, rfl, hcl, fun j f hj => ?_⟩
  obtain ⟨ho, hk⟩ := hone_of hone j f hj
  have hjl : j < fs.size := (Array.getElem?_eq_some_iff.1 hj).1
  have h1 := hg j f hj
  rw [ho, hk] at h1
  have e := take1_drop cs j undef (by omega)
  have h2 : DataW.trod enc P w base spare held n f.type [cs.getD j undef] = xs[j]? := by rw [← e]; exact h1
  exact ⟨n, _, h2.trans (List.getElem?_eq_getElem (by omega))⟩
theorem cell_int {fs : Array Field} {cs : List Value} {k : IntKind} {ti : TypeId} (hi : P.underlying ti = some (.int k)) (hg : ∀ (j : Nat) (f : Field), fs[j]? = some f → ∃ (n : Nat) (y : DataW H × List MemPlace), DataW.trod enc P w base spare held n f.type [cs.getD j undef] = some y)
    (j : Nat) (ht : (fs.map (·.type))[j]? = some ti) : ∃ a : Int, cs.getD j undef = .int k a ∧ (Lit.int k a).wf = true := by
  rw [Array.getElem?_map] at ht
  obtain ⟨f, hf, ht⟩ := Option.map_eq_some_iff.1 ht
  obtain ⟨n, y, hy⟩ := hg j f hf
  rw [ht] at hy
  obtain ⟨a, ha, _, hw⟩ := DataW.trod_int hi hy
  exact ⟨a, (List.cons.inj ha).1, hw⟩
theorem open_ints6 {r : Reach} {b0 : Nat} {t ti : TypeId} {fs : Array Field} {v : Value} {d : DataW H} {p : List MemPlace} (hs : P.underlying t = some (.struct fs)) (hi : P.underlying ti = some (.int .i64)) (hone : oneCellFields P fs = true) (hC : P.cellsOf t = fs.size) (h6 : fs.map (·.type) = #[ti, ti, ti, ti, ti, ti])
    (hv : Value.okWide P w r b0 t v) (h : DataW.Trod enc P w base spare held t v d p) :
    ∃ a0 a1 a2 a3 a4 a5 : Int, v = .agg #[.int .i64 a0, .int .i64 a1, .int .i64 a2, .int .i64 a3, .int .i64 a4, .int .i64 a5] ∧ (Lit.int .i64 a0).wf = true ∧ (Lit.int .i64 a1).wf = true ∧ (Lit.int .i64 a2).wf = true ∧ (Lit.int .i64 a3).wf = true ∧ (Lit.int .i64 a4).wf = true ∧ (Lit.int .i64 a5).wf = true := by
  obtain ⟨cs, rfl, hl, hg⟩ := open_cells hs hone hC hv h
  have h6' : fs.size = 6 := by have := congrArg Array.size h6; simpa using this
  obtain ⟨a0, e0, w0⟩ := cell_int hi hg 0 (by rw [h6]; rfl)
  obtain ⟨a1, e1, w1⟩ := cell_int hi hg 1 (by rw [h6]; rfl)
  obtain ⟨a2, e2, w2⟩ := cell_int hi hg 2 (by rw [h6]; rfl)
  obtain ⟨a3, e3, w3⟩ := cell_int hi hg 3 (by rw [h6]; rfl)
  obtain ⟨a4, e4, w4⟩ := cell_int hi hg 4 (by rw [h6]; rfl)
  obtain ⟨a5, e5, w5⟩ := cell_int hi hg 5 (by rw [h6]; rfl)
  refine ⟨a0, a1, a2, a3, a4, a5, ?_, w0, w1, w2, w3, w4, w5⟩
  rw [h6'] at hl
  match cs, hl with
  | [c0, c1, c2, c3, c4, c5], _ =>
    simp at e0 e1 e2 e3 e4 e5
    subst e0 e1 e2 e3 e4 e5
    rfl
end
end Go.Proofs.Ytijfkpoofpcacaa.CoreRow
end
