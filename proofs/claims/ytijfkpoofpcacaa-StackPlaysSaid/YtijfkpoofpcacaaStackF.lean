/-
  Layer 7 (stack): what steps keep (words that are numbers of 64 bits, so many touches), and the document's example; condition: none beyond a right config.
-/
import Derived.Test.YtijfkpoofpcacaaStackT
import Derived.Deep.DeepCutAuto
import Derived.Deep.CutBlock
import Derived.Deep.CutRange
set_option linter.unusedVariables false
namespace Go.Proofs.Ytijfkpoofpcacaa.StackF
open Go.RowKit Go.Proofs.YtijfkpoofpcacaaW.PrintWords Go.Proofs.Ytijfkpoofpcacaa.Blk Go.Proofs.Ytijfkpoofpcacaa.Core Go.Proofs.Ytijfkpoofpcacaa.MemC Go.Proofs.Ytijfkpoofpcacaa.MemD Go.Proofs.Ytijfkpoofpcacaa.MemT Go.Proofs.Ytijfkpoofpcacaa.Memory Go.Proofs.Ytijfkpoofpcacaa.PlanC Go.Proofs.Ytijfkpoofpcacaa.PlanD Go.Proofs.Ytijfkpoofpcacaa.StackC Go.Proofs.Ytijfkpoofpcacaa.StackL Go.Proofs.Ytijfkpoofpcacaa.StackS Go.Proofs.Ytijfkpoofpcacaa.StackT Go.Proofs.Ytijfkpoofpcacaa.Opens
theorem memF_U (A C H : Int) (j : Nat) (hj : j ≤ 64) : U (memF A C H j) := by
  intro k
  unfold memF
  split
  · decide
  · split
    · decide
    · split
      · rename_i h
        have h5 : 0 < roomV A := by unfold roomV; split <;> omega
        have := Int.ediv_nonneg h.1 (Int.le_of_lt h5)
        omega
      · decide
theorem fine_of {n : Nat} {f : Nat → Int} (h : U f) : Fine (Ms.of n f) n 0 := ⟨h, rfl, Int.le_refl 0, Int.le_refl 0⟩
theorem fine_pop {c : Cf} {q : Pop} {M : Ms} {n t : Nat} (h : Fine M n t) (t0 : 0 ≤ q.tp) : Fine (popM c q M) n (t + 1) := by
  unfold popM
  split
  · exact h.ld _
  · split
    · exact h.ld _
    · split
      · have := movedV_bd q.tp q.nx t0
        exact h.sw _ _ this.1 this.2
      · exact h.mono (Nat.le_succ _)
theorem first_bd (S x : Int) : -1 ≤ firstI S x ∧ firstI S x < 65536 := by unfold firstI; split <;> omega
theorem fine_push {c : Cf} {q : Push} {M : Ms} {n t : Nat} (h : Fine M n t) (t0 : 0 ≤ q.tp) : Fine (pushM c q M) n (t + 1) := by
  unfold pushM
  split
  · exact h.ld _
  · split
    · have := first_bd c.S q.tp
      exact h.st _ (by omega) (by omega)
    · split
      · have := movedV_bd q.tp q.sl t0
        exact h.sw _ _ this.1 this.2
      · exact h.mono (Nat.le_succ _)
theorem memC (c : Cf) (w : World) (h : c.right = true) : Calls Try.prog 20 #[.agg #[.int .i64 c.S, .int .i64 c.A, .int .i64 c.C, .int .i64 c.H, .int .i64 c.G, .int .i64 c.K]] w fun e w' =>
    ∃ m b, e = .returned (.pointer (some ⟨m, 0, none⟩)) ∧ MemB w' m b (Ms.of c.size.toNat (memF c.A c.C c.H (c.S - 1).toNat)) ∧ w.heap.size ≤ m ∧ w.heap.size ≤ b ∧ Below w.heap.size w w' := memory_c _ _ _ _ _ _ w h
/-- The example's config. -/
def c7 : Cf := ⟨3, 0, 1, 1, 1, 0⟩
def M7 : Ms := Ms.of c7.size.toNat (memF c7.A c7.C c7.H (c7.S - 1).toNat)
def st7 : Nat → Pop × Pop × Ms
  | 0 => (⟨-1, false, 0, 0, 0⟩, ⟨-1, false, 0, 0, 0⟩, M7)
  | i + 1 => (popS c7 (st7 i).1 (st7 i).2.2, popS c7 (st7 i).2.1 (popM c7 (st7 i).1 (st7 i).2.2), popM c7 (st7 i).2.1 (popM c7 (st7 i).1 (st7 i).2.2))
theorem st7_ok (i : Nat) (hi : i ≤ 1000) : PopOk (st7 i).1 ∧ PopOk (st7 i).2.1 ∧ Fine (st7 i).2.2 23 (2 * i) := by
  induction i with
  | zero => exact ⟨⟨by decide, by decide, .inl rfl⟩, ⟨by decide, by decide, .inl rfl⟩, fine_of (memF_U _ _ _ _ (by decide))⟩
  | succ i ih =>
    obtain ⟨h1, h2, hf⟩ := ih (by omega)
    have hf2 := fine_pop (c := c7) (q := (st7 i).1) hf h1.t0
    have ok1 := hf.ok (by decide) (by omega)
    have ok2 := hf2.ok (by decide) (by omega)
    exact ⟨h1.step ok1, h2.step ok2, fine_pop hf2 h2.t0⟩
theorem st7_end : (st7 6).1.sl = 0 ∧ (st7 6).2.1.sl = 1 ∧ (listV c7 (st7 6).2.2.f).length = 1 := by decide +kernel
set_option maxHeartbeats 4000000 in
set_option maxRecDepth 100000 in
theorem awake7C (w : World) : Calls Try.prog 27 #[] w fun e w' => e = .returned (.bool true) ∧ Below w.heap.size w w' := by
  have hbx := Lib.hid (Blk.new w 23 #[.int .i64 c7.S, .int .i64 c7.A, .int .i64 c7.C, .int .i64 c7.H, .int .i64 c7.G, .int .i64 c7.K])
  have hr : c7.right = true := by decide +kernel
  replace hr := Lib.hid hr
  go_enter Try.func27, Try.ntmps27
  generalize hCFe : w.heap.size = CF at *
  go_upto_region 3 with (go_at_call 20; refine (memC c7 _ hr.out).mono ?_; rintro e w1 ⟨m, b, rfl, hM, hm, hb, hb1⟩; have hf1 := hbx.out.below hb1 hbx.out.lt; have hX := cfgs hf1.drew; replace hf1 := Lib.hid hf1.drew; replace hM := Lib.hid hM.drew; replace hb1 := Lib.hid hb1)
  have szb : ∀ o : Obj, (w.alloc o).heap.size = CF + 1 := fun o => by rw [← hCFe]; simp
  have hT := Lib.hid (below_pre hb1.out).drew
  have lt1 : CF < w1.drew.heap.size := hf1.out.lt
  have lm : m < w1.drew.heap.size := hM.out.lm
  have lb : b < w1.drew.heap.size := hM.out.lb
  rw [szb] at hm hb
  clear hb1 szb hbx
  go_cut [3, 4] (fun va vb wx => ∃ pa pb, va = .pointer (some ⟨pa, 0, none⟩) ∧ vb = .pointer (some ⟨pb, 0, none⟩) ∧ PopB wx pa c7 ⟨-1, false, 0, 0, 0⟩ ∧ PopB wx pb c7 ⟨-1, false, 0, 0, 0⟩ ∧ pa ≠ pb ∧ w1.drew.heap.size ≤ pa ∧ w1.drew.heap.size ≤ pb ∧ Below w1.drew.heap.size w1.drew wx)
  case first =>
    have tok1 : True := trivial
    go_region_held3 (fun w' => w'.cell? ⟨CF, 0, none⟩ = some (.int .i64 c7.S) ∧ w'.cell? ⟨CF, 1, none⟩ = some (.int .i64 c7.A) ∧ w'.cell? ⟨CF, 2, none⟩ = some (.int .i64 c7.C) ∧ w'.cell? ⟨CF, 3, none⟩ = some (.int .i64 c7.H) ∧ w'.cell? ⟨CF, 4, none⟩ = some (.int .i64 c7.G) ∧ w'.cell? ⟨CF, 5, none⟩ = some (.int .i64 c7.K)) (assumption) (first
      | (go_at_call 44; have _t := tok1; refine (newPopC c7 _ hr.out).mono ?_; rintro e w4 ⟨p1, rfl, g1, hp1, hb4⟩; have hf4 := hf1.out.below hb4 hf1.out.lt; have hY := cfgs hf4; replace hf4 := Lib.hid hf4; replace hp1 := Lib.hid hp1; replace hb4 := Lib.hid hb4; clear tok1 _t)
      | (go_at_call 44; refine (newPopC c7 _ hr.out).mono ?_; rintro e w5 ⟨p2, rfl, g2, hp2, hb5⟩; have hZ := cfgs (hf4.out.below hb5 hf4.out.lt); have hp3 := Blk.below hp1.out hb5 (Blk.lt hp1.out); have lt3 := Blk.lt hp1.out; replace hp2 := Lib.hid hp2; replace hp3 := Lib.hid hp3; replace hb5 := Lib.hid hb5))
    all_goals
      go_wp2
      go_meet
      case rel =>
        have z := hb4.out.size
        first
          | exact ⟨p1, p2, rfl, rfl, hp3.out, hp2.out, by omega, g1, by omega, bT hb4.out hb5.out⟩
          | exact ⟨p2, p1, rfl, rfl, hp2.out, hp3.out, by omega, by omega, g1, bT hb4.out hb5.out⟩
  case rest =>
    obtain ⟨pa, pb, rfl, rfl, ha, hb', ne, ga, gb, hbl⟩ := hcut
    have hf2 := hf1.out.below hbl hf1.out.lt
    have hM2 := hM.out.next hbl
    have hT2 := Lib.hid (bT hT.out hbl)
    have sz2 := hbl.size
    clear hf1 hM hbl hX hT
    replace ha := Lib.hid ha
    replace hb' := Lib.hid hb'
    replace hf2 := Lib.hid hf2
    replace hM2 := Lib.hid hM2
    go_wp2
    go_loopw [5] (fun z wr => ∃ i : Nat, i ≤ 6 ∧ z = .int .i64 (i : Int) ∧ PopB wr pa c7 (st7 i).1 ∧ PopB wr pb c7 (st7 i).2.1 ∧ MemB wr m b (st7 i).2.2 ∧ Blk wr CF 23 #[.int .i64 c7.S, .int .i64 c7.A, .int .i64 c7.C, .int .i64 c7.H, .int .i64 c7.G, .int .i64 c7.K] ∧ Below w.heap.size w wr) (fun z _ => 6 - (intOf z).toNat)
    case atStart => exact ⟨0, by omega, rfl, ha.out, hb'.out, hM2.out, hf2.out, hT2.out⟩
    case round =>
      obtain ⟨i, hi, rfl, hA, hB, hMi, hC, hW⟩ := hrel
      obtain ⟨oa, ob, hfi⟩ := st7_ok i (by omega)
      have hle : i < 6 ∨ i = 6 := by omega
      rcases hle with hlt | rfl
      · have ok1 := hfi.ok (by decide) (by omega)
        have ok2 := (fine_pop (c := c7) (q := (st7 i).1) hfi oa.t0).ok (by decide) (by omega)
        have npa : ¬ two m b pa := fun x => x.elim (fun e => by omega) (fun e => by omega)
        have npb : ¬ two m b pb := fun x => x.elim (fun e => by omega) (fun e => by omega)
        have nab : ¬ three pa m b pb := fun x => x.elim (fun e => ne e.symm) npb
        have nba : ¬ three pb m b pa := fun x => x.elim (fun e => ne e) npa
        have nca : ¬ three pa m b CF := fun x => x.elim (fun e => by omega) (fun x => x.elim (fun e => by omega) (fun e => by omega))
        have ncb : ¬ three pb m b CF := fun x => x.elim (fun e => by omega) (fun x => x.elim (fun e => by omega) (fun e => by omega))
        have fw : ∀ k, k < CF → ¬ three pa m b k ∧ ¬ three pb m b k := fun k hk => ⟨fun x => x.elim (fun e => by omega) (fun x => x.elim (fun e => by omega) (fun e => by omega)), fun x => x.elim (fun e => by omega) (fun x => x.elim (fun e => by omega) (fun e => by omega))⟩
        replace hA := Lib.hid hA
        replace hB := Lib.hid hB
        replace hMi := Lib.hid hMi
        replace hC := Lib.hid hC
        replace hW := Lib.hid hW
        replace hfi := Lib.hid hfi
        replace fw := Lib.hid fw
        have tok1 : True := trivial
        go_wp2_with (first
          | (go_at_call 45; have _t := tok1; refine (popC c7 _ pa m b (st7 i).2.2 hr.out hMi.out ok1 npa (st7 i).1 hA.out oa).mono ?_; rintro e w2 ⟨rfl, hA2, hM2, hF2⟩; have hB2 := Lib.hid (Blk.fr hB.out hF2 nab); replace hC := Lib.hid (hC.out.fr hF2 nca); have hF2' := Lib.hid hF2; replace hA := Lib.hid hA2; replace hMi := Lib.hid hM2; clear hA2 hM2 hF2 tok1 _t)
          | (go_at_call 45; refine (popC c7 _ pb m b (popM c7 (st7 i).1 (st7 i).2.2) hr.out hMi.out ok2 npb (st7 i).2.1 hB2.out ob).mono ?_; rintro e w3 ⟨rfl, hB3, hM3, hF3⟩; have hA3 := Lib.hid (Blk.fr hA.out hF3 nba); replace hC := Lib.hid (hC.out.fr hF3 ncb); have hF3' := Lib.hid hF3; replace hB := Lib.hid hB3; replace hMi := Lib.hid hM3; clear hB3 hM3 hF3))
        go_roundw
        case rel =>
          have z := hW.out.size
          have z2 := hF2'.out.size
          refine ⟨i + 1, by omega, by go_num, hA3.out, hB.out, hMi.out, hC.out, ?_⟩
          have g1 := hF2'.out.below (n := w.heap.size) (fun k hk => ⟨by omega, (fw.out k (by omega)).1⟩)
          have g2 := hF3'.out.below (n := w.heap.size) (fun k hk => ⟨by omega, (fw.out k (by omega)).2⟩)
          exact (hW.out.trans g1).trans g2
        case measure => simp [intOf]; omega
      · obtain ⟨e1, e2, e3⟩ := st7_end
        have hu := hfi.u
        have hn23 : ((st7 6).2.2.n : Int) = c7.size := by rw [hfi.n]; rfl
        have hsn := hfi.n
        clear hfi hi oa ob
        generalize st7 6 = s at *
        obtain ⟨⟨sla, ema, aa, tpa, nxa⟩, ⟨slb, emb, ab, tpb, nxb⟩, M⟩ := s
        simp only at e1 e2 e3 hA hB hMi hu hn23 hsn
        subst e1 e2
        have hX := And.intro (Blk.cell hA.drew (i := 0) (v := .int .i64 0) rfl) (And.intro (Blk.cell hB.drew (i := 0) (v := .int .i64 1) rfl) (cfgs hC.drew))
        replace hA := Lib.hid (Blk.drew hA)
        replace hB := Lib.hid (Blk.drew hB)
        replace hMi := Lib.hid hMi.drew
        replace hC := Lib.hid hC.drew
        replace hW := Lib.hid hW.drew
        replace e3 := Lib.hid e3
        go_wp2
        have hX' : wr.drew.cell? ⟨pa, 0, none⟩ = some (.int .i64 0) ∧ wr.drew.cell? ⟨pb, 0, none⟩ = some (.int .i64 1) ∧ wr.drew.cell? ⟨CF, 0, none⟩ = some (.int .i64 c7.S) ∧ wr.drew.cell? ⟨CF, 1, none⟩ = some (.int .i64 c7.A) ∧ wr.drew.cell? ⟨CF, 2, none⟩ = some (.int .i64 c7.C) ∧ wr.drew.cell? ⟨CF, 3, none⟩ = some (.int .i64 c7.H) ∧ wr.drew.cell? ⟨CF, 4, none⟩ = some (.int .i64 c7.G) ∧ wr.drew.cell? ⟨CF, 5, none⟩ = some (.int .i64 c7.K) := hX
        clear hX
        have hn23' : ((23 : Nat) : Int) = c7.size := rfl
        replace hn23' := Lib.hid hn23'
        replace hsn := Lib.hid hsn
        go_region_held3 (fun w' => w'.cell? ⟨pa, 0, none⟩ = some (.int .i64 0) ∧ w'.cell? ⟨pb, 0, none⟩ = some (.int .i64 1) ∧ w'.cell? ⟨CF, 0, none⟩ = some (.int .i64 c7.S) ∧ w'.cell? ⟨CF, 1, none⟩ = some (.int .i64 c7.A) ∧ w'.cell? ⟨CF, 2, none⟩ = some (.int .i64 c7.C) ∧ w'.cell? ⟨CF, 3, none⟩ = some (.int .i64 c7.H) ∧ w'.cell? ⟨CF, 4, none⟩ = some (.int .i64 c7.G) ∧ w'.cell? ⟨CF, 5, none⟩ = some (.int .i64 c7.K)) (assumption) (first
          | (go_at_call 24; refine (words_n _ m b 23 _ hMi.out hsn.out (by decide)).mono ?_; rintro e w3 ⟨A1, c1, b1, rfl, _, hR1, hb⟩; have hA1 := Blk.below hA.out hb (Blk.lt hA.out); have hB1 := Blk.below hB.out hb (Blk.lt hB.out); have hC1 := hC.out.below hb hC.out.lt; have hY := And.intro (Blk.cell hA1 (i := 0) (v := .int .i64 0) rfl) (And.intro (Blk.cell hB1 (i := 0) (v := .int .i64 1) rfl) (cfgs hC1)); replace hA1 := Lib.hid hA1; replace hB1 := Lib.hid hB1; replace hC1 := Lib.hid hC1; replace hR1 := Lib.hid hR1; replace hW := Lib.hid (hW.out.trans (hb.mono (by have := hW.out.size; exact this))); clear hb)
          | (go_at_call 29; refine (listC c7 _ _ _ _ 23 M.f hu hr.out hn23'.out hR1.out).mono ?_; rintro e w4 ⟨v, rfl, hL, hb⟩; obtain ⟨AL, cL, rfl, _, _, _⟩ := Li.cell hL; rw [e3.out]; have hA2 := Blk.below hA1.out hb (Blk.lt hA1.out); have hB2 := Blk.below hB1.out hb (Blk.lt hB1.out); have hC2 := hC1.out.below hb hC1.out.lt; have hZ := And.intro (Blk.cell hA2 (i := 0) (v := .int .i64 0) rfl) (And.intro (Blk.cell hB2 (i := 0) (v := .int .i64 1) rfl) (cfgs hC2)); replace hW := Lib.hid (hW.out.trans (hb.mono (by have := hW.out.size; exact this))); clear hA2 hB2 hC2 hb hL))
        all_goals
          go_wp2
          go_ret
          exact ⟨rfl, hCFe ▸ hW.out⟩
end Go.Proofs.Ytijfkpoofpcacaa.StackF
