/-
  What the law ArenaPlays needs of the seat's texts (MakerW, MakerX, MakerA, MakerY, MakerB, MakerC, MakerD, MakerE): the words and functions that the kit's print.sh printed, and our own; no condition of its own.
-/
import Derived.Test.YtijfkpoofpcacaaZArenaPlays4
set_option linter.unusedVariables false
set_option linter.unusedSectionVars false
set_option linter.unusedSimpArgs false
section
namespace Go.Proofs.Ytijfkpoofpcacaa.MakerW
open Go.RowKit Go.Proofs.YtijfkpoofpcacaaW.PrintWords Go.Proofs.Ytijfkpoofpcacaa.Blk Go.Proofs.Ytijfkpoofpcacaa.Core Go.Proofs.Ytijfkpoofpcacaa.MemC Go.Proofs.Ytijfkpoofpcacaa.MemD Go.Proofs.Ytijfkpoofpcacaa.MemT Go.Proofs.Ytijfkpoofpcacaa.Memory Go.Proofs.Ytijfkpoofpcacaa.PlanC Go.Proofs.Ytijfkpoofpcacaa.PlanD Go.Proofs.Ytijfkpoofpcacaa.RefM Go.Proofs.Ytijfkpoofpcacaa.StackC Go.Proofs.Ytijfkpoofpcacaa.StackL Go.Proofs.Ytijfkpoofpcacaa.StackS Go.Proofs.Ytijfkpoofpcacaa.StackF Go.Proofs.Ytijfkpoofpcacaa.StackP Go.Proofs.Ytijfkpoofpcacaa.StackG Go.Proofs.Ytijfkpoofpcacaa.StackT Go.Proofs.Ytijfkpoofpcacaa.HeadC Go.Proofs.Ytijfkpoofpcacaa.ArenaC Go.Proofs.Ytijfkpoofpcacaa.ArenaM Go.Proofs.Ytijfkpoofpcacaa.ArenaP Go.Proofs.Ytijfkpoofpcacaa.ArenaL Go.Proofs.Ytijfkpoofpcacaa.ArenaR Go.Proofs.Ytijfkpoofpcacaa.ArenaQ Go.Proofs.Ytijfkpoofpcacaa.ArenaW Go.Proofs.Ytijfkpoofpcacaa.MakerL Go.Proofs.Ytijfkpoofpcacaa.MakerT Go.Proofs.Ytijfkpoofpcacaa.MakerU Go.Proofs.Ytijfkpoofpcacaa.MakerV Go.Proofs.Ytijfkpoofpcacaa.Opens
open Go.Proofs.Ytijfkpoofpcacaa.TakerS (IQ blk_one)
def frA (cs : Array Value) (o : Nat) (x : Wk) (v u : Value) (z : Int) : Array Value := (((now5 cs o x).setIfInBounds o v).setIfInBounds (o + 9) (.int .i64 z)).setIfInBounds (o + 6) u
theorem frA_9 {cs : Array Value} {o : Nat} {x : Wk} {v u : Value} {z : Int} (h : o + 10 ≤ cs.size) : (frA cs o x v u z)[o + 9]? = some (.int .i64 z) := by
  unfold frA
  rw [Array.getElem?_setIfInBounds_ne (by omega), Array.getElem?_setIfInBounds_self_of_lt (by unfold now5; first | omega | (simp; omega))]
theorem frA_8 {cs : Array Value} {o : Nat} {x : Wk} {v u y : Value} {z : Int} (h : cs[o + 8]? = some y) : (frA cs o x v u z)[o + 8]? = some y := by
  unfold frA
  rw [Array.getElem?_setIfInBounds_ne (by omega), Array.getElem?_setIfInBounds_ne (by omega), Array.getElem?_setIfInBounds_ne (by omega), now5_ne (by omega)]
  exact h
theorem frA_size {cs : Array Value} {o : Nat} {x : Wk} {v u : Value} {z : Int} : (frA cs o x v u z).size = cs.size := by unfold frA now5; simp
theorem frB_9 {cs : Array Value} {o : Nat} {x : Wk} {v u y : Value} {z : Int} (h : o + 10 ≤ cs.size) : ((frA cs o x v u z).setIfInBounds (o + 8) y)[o + 9]? = some (.int .i64 z) := by
  rw [Array.getElem?_setIfInBounds_ne (by omega)]; exact frA_9 h
theorem frB_8 {cs : Array Value} {o : Nat} {x : Wk} {v u y : Value} {z : Int} (h : o + 10 ≤ cs.size) : ((frA cs o x v u z).setIfInBounds (o + 8) y)[o + 8]? = some y :=
  Array.getElem?_setIfInBounds_self_of_lt (by rw [frA_size]; omega)
def FeAft (c : Cf) (w : World) (B m bb o : Nat) (cs : Array Value) (x : Wk) (v u : Value) (z : Int) (M : Ms) (w' : World) : Prop := ∃ p, w.heap.size ≤ p ∧ Blk w' B 107 ((frA cs o x v u z).setIfInBounds (o + 8) (.pointer (some ⟨p, 0, none⟩))) ∧ Blk w' p 95 (freeA c false false z 0 none 1) ∧
  MemB w' m bb (M.stS (c.pl z 0) (headN 3 (uM (hw c M.f z)) false (uA (hw c M.f z)) (uN (hw c M.f z)) (uS (hw c M.f z)))) ∧ Fr (fun k => k = B ∨ two m bb k) w w'
set_option maxHeartbeats 4000000 in
set_option maxRecDepth 100000 in
theorem beginFe {c : Cf} {w : World} {B WB m RB bb o b q n cc hb hq nh ch N T : Nat} {M : Ms} {cs : Array Value} {x : Wk} {z : Int} {y8 : Value} (hB : Blk w B 107 cs) (x0 : cs[o]? = some (.slice (some ⟨b, q, none⟩) n cc)) (hn : 1 ≤ n) (hc : n ≤ cc)
    (hS : o + 10 ≤ cs.size) (x6 : cs[o + 6]? = some (.slice (some ⟨hb, hq, none⟩) nh ch)) (hnh : 1 ≤ nh) (hch : nh ≤ ch) (x8 : cs[o + 8]? = some y8) (hfr : x.fr = true) (hbn : b ≠ B) (hhb : hb ≠ B) (h0 : w.cell? ⟨b, q, none⟩ = some (.bool x.fr)) (h1 : w.cell? ⟨b, q + 1, none⟩ = some (.bool x.rc)) (h2 : w.cell? ⟨b, q + 2, none⟩ = some (.int .u8 x.ar)) (h3 : w.cell? ⟨b, q + 3, none⟩ = some (.int .u8 x.ep)) (h4 : w.cell? ⟨b, q + 4, none⟩ = some (.int .u64 x.wd))
    (hz : w.cell? ⟨hb, hq, none⟩ = some (.int .i64 z)) (hW : Blk w WB 101 (worldA c m RB)) (neW : WB ≠ B) (hM : MemB w m bb M) (nB : ¬ two m bb B) (nW : ¬ two m bb WB) (hr : c.right = true) (hf : Fine M N T) (hT : T ≤ 1000000) (hNs : (N : Int) = c.size) (hR : InR c z) :
    Calls Try.prog 89 #[.pointer (some ⟨B, o, none⟩), .pointer (some ⟨WB, 0, none⟩)] w fun e w' => e = .returned (.bool true) ∧ FeAft c w B m bb o cs x (.slice (t5 (some ⟨b, q, none⟩) cc) (n - 1) (cc - 1)) (.slice (t1 (some ⟨hb, hq, none⟩) ch) (nh - 1) (ch - 1)) z M w' := by
  obtain ⟨v1, e1⟩ : ∃ v, cs[o + 1]? = some v := ⟨_, Array.getElem?_eq_getElem (by omega)⟩
  obtain ⟨v2, e2⟩ : ∃ v, cs[o + 2]? = some v := ⟨_, Array.getElem?_eq_getElem (by omega)⟩
  obtain ⟨v3, e3⟩ : ∃ v, cs[o + 3]? = some v := ⟨_, Array.getElem?_eq_getElem (by omega)⟩
  obtain ⟨v4, e4⟩ : ∃ v, cs[o + 4]? = some v := ⟨_, Array.getElem?_eq_getElem (by omega)⟩
  obtain ⟨v5, e5⟩ : ∃ v, cs[o + 5]? = some v := ⟨_, Array.getElem?_eq_getElem (by omega)⟩
  obtain ⟨v9, e9⟩ : ∃ v, cs[o + 9]? = some v := ⟨_, Array.getElem?_eq_getElem (by omega)⟩
  have y0 := hB.cell x0
  have y1 : w.cell? ⟨B, o + 1, none⟩ = some v1 := hB.cell e1
  have y2 : w.cell? ⟨B, o + 1 + 1, none⟩ = some v2 := hB.cell e2
  have y3 : w.cell? ⟨B, o + 1 + 2, none⟩ = some v3 := hB.cell e3
  have y4 : w.cell? ⟨B, o + 1 + 3, none⟩ = some v4 := hB.cell e4
  have y5 : w.cell? ⟨B, o + 1 + 4, none⟩ = some v5 := hB.cell e5
  have z1 := hB.frozen (o + 1)
  have z2 := hB.frozen (o + 1 + 1)
  have z3 := hB.frozen (o + 1 + 2)
  have z4 := hB.frozen (o + 1 + 3)
  have z5 := hB.frozen (o + 1 + 4)
  have hn1 : (0 : Int) < (n : Int) := by omega
  have hM0 := Lib.hid hM
  have hW0 := Lib.hid hW
  clear hM hW
  go_enter Try.func89, Try.ntmps89
  go_upto_region 2 with (fail)
  obtain ⟨w2, ew, hB1, hF1⟩ := now5_blk (o := o) (x := x) hB
  rw [hfr] at ew
  rw [ew]
  have hW1 := Lib.hid (hW0.out.fr hF1 neW)
  have hM1 := Lib.hid (hM0.out.fr hF1 (fun e => nB (.inl e.symm)) (fun e => nB (.inr e.symm)))
  have hz1 : w2.cell? ⟨hb, hq, none⟩ = some (.int .i64 z) := fr_cell hF1 hz hhb
  clear y1 y2 y3 y4 y5 z1 z2 z3 z4 z5 e1 e2 e3 e4 e5 y0 h0 h1 h2 h3 h4 ew hM0 hW0 hz
  have y0 : w2.cell? ⟨B, o, none⟩ = some (.slice (some ⟨b, q, none⟩) n cc) := hB1.cell (i := o) (by rw [now5_ne (by omega)]; exact x0)
  have y1 : w2.cell? ⟨B, o + 1, none⟩ = some (.bool true) := hB1.cell (i := o + 1) (by rw [(now5_at hS).1, hfr])
  have y6 : w2.cell? ⟨B, o + 6, none⟩ = some (.slice (some ⟨hb, hq, none⟩) nh ch) := hB1.cell (i := o + 6) (by rw [now5_ne (by omega)]; exact x6)
  have y9 : w2.cell? ⟨B, o + 9, none⟩ = some v9 := hB1.cell (i := o + 9) (by rw [now5_ne (by omega)]; exact e9)
  have z0 := hB1.frozen o
  have z6 := hB1.frozen (o + 6)
  have z9 := hB1.frozen (o + 9)
  have hn4 : (1 : Int) ≤ (n : Int) := by omega
  have hn2 : (n : Int) ≤ (cc : Int) := by omega
  have hn3 : 0 < n := by omega
  have hnh1 : (0 : Int) < (nh : Int) := by omega
  have hnh4 : (1 : Int) ≤ (nh : Int) := by omega
  have hnh2 : (nh : Int) ≤ (ch : Int) := by omega
  have hnh3 : 0 < nh := by omega
  have nh0 : ((nh : Int) == 0) = false := by simp; omega
  have hB2 := ((hB1.set o (.slice (if cc = 1 then some ⟨b, q, none⟩ else some ⟨b, q + 5, none⟩) (n - 1) (cc - 1))).set (o + 9) (.int .i64 z)).set (o + 6) (.slice (if ch = 1 then some ⟨hb, hq, none⟩ else some ⟨hb, hq + 1, none⟩) (nh - 1) (ch - 1))
  have hF2 := ((hF1.trans (Fr.set (fun k => k = B) _ (p := ⟨B, o, none⟩) rfl (.slice (if cc = 1 then some ⟨b, q, none⟩ else some ⟨b, q + 5, none⟩) (n - 1) (cc - 1)))).trans (Fr.set (fun k => k = B) _ (p := ⟨B, o + 9, none⟩) rfl (.int .i64 z))).trans (Fr.set (fun k => k = B) _ (p := ⟨B, o + 6, none⟩) rfl (.slice (if ch = 1 then some ⟨hb, hq, none⟩ else some ⟨hb, hq + 1, none⟩) (nh - 1) (ch - 1)))
  have hF12 := ((Fr.set (fun k => k = B) w2 (p := ⟨B, o, none⟩) rfl (.slice (if cc = 1 then some ⟨b, q, none⟩ else some ⟨b, q + 5, none⟩) (n - 1) (cc - 1))).trans (Fr.set (fun k => k = B) _ (p := ⟨B, o + 9, none⟩) rfl (.int .i64 z))).trans (Fr.set (fun k => k = B) _ (p := ⟨B, o + 6, none⟩) rfl (.slice (if ch = 1 then some ⟨hb, hq, none⟩ else some ⟨hb, hq + 1, none⟩) (nh - 1) (ch - 1)))
  replace hF2 := Lib.hid hF2
  replace hB2 := Lib.hid (show Blk _ B 107 (frA cs o x (.slice (if cc = 1 then some ⟨b, q, none⟩ else some ⟨b, q + 5, none⟩) (n - 1) (cc - 1)) (.slice (if ch = 1 then some ⟨hb, hq, none⟩ else some ⟨hb, hq + 1, none⟩) (nh - 1) (ch - 1)) z) from hB2)
  have hW2 := Lib.hid (hW1.out.fr hF12 neW)
  have hM2 := Lib.hid (hM1.out.fr hF12 (fun e => nB (.inl e.symm)) (fun e => nB (.inr e.symm)))
  clear hF12 hB1 hF1 hW1 hM1
  go_upto_region 8 with (fail)
  clear y0 y1 y6 y9 z0 z6 z9 hz1
  generalize ((w2.setCell ⟨B, o, none⟩ (.slice (if cc = 1 then some ⟨b, q, none⟩ else some ⟨b, q + 5, none⟩) (n - 1) (cc - 1))).setCell ⟨B, o + 9, none⟩ (.int .i64 z)).setCell ⟨B, o + 6, none⟩ (.slice (if ch = 1 then some ⟨hb, hq, none⟩ else some ⟨hb, hq + 1, none⟩) (nh - 1) (ch - 1)) = w3 at *
  obtain ⟨iz, hpl, hiz⟩ : ∃ iz : Nat, c.pl z 0 = (iz : Int) ∧ iz < N := by
    have hb := pl_bd hr hR (o := 0) ⟨Int.le_refl 0, by have := room_bd hr; omega⟩
    exact ⟨(c.pl z 0).toNat, by omega, by omega⟩
  have hizI : (iz : Int) < (N : Int) := by omega
  have hiz0 : (0 : Int) ≤ (iz : Int) := by omega
  have hXe : M.f iz = hw c M.f z := by unfold hw; rw [hpl]; rfl
  have hX0 := (hf.u iz).1
  have hX1 := (hf.u iz).2
  rw [hXe] at hX0 hX1
  generalize hXX : hw c M.f z = X at *
  replace hXX := Lib.hid hXX
  have hPk := Lib.hid (show 0 ≤ (3 : Int) ∧ (3 : Int) ≤ 4 ∧ 0 ≤ uM X ∧ uM X ≤ 1 ∧ 0 ≤ uA X ∧ uA X ≤ 15 ∧ 0 ≤ uN X ∧ uN X ≤ 4294967295 ∧ 0 ≤ uS X ∧ uS X ≤ 65535 by have hu := u_bd X hX0 hX1; omega)
  have hOk := Lib.hid (hf.ok (by have := size_bd hr; unfold Cf.size at hNs; omega) (by omega))
  have hin := Lib.hid (show M.inn (iz : Int) = true from inn_iff.2 ⟨by omega, by rw [hf.n]; omega⟩)
  have hnN := Lib.hid hf.n
  have hN8 : N ≤ 800 := by have := size_bd hr; unfold Cf.size at hNs; omega
  replace hNs := Lib.hid hNs
  replace hf := Lib.hid hf
  replace hpl := Lib.hid hpl
  replace hXe := Lib.hid hXe
  replace hB2 := Lib.hid hB2.out.drew
  replace hW2 := Lib.hid hW2.out.drew
  replace hM2 := Lib.hid hM2.out.drew
  replace hF2 := Lib.hid ((hF2.out.trans (Fr.drew _ w3)).mono (S' := fun k => k = B ∨ two m bb k) (fun k e => .inl e))
  generalize hvs : Value.slice (if cc = 1 then some ⟨b, q, none⟩ else some ⟨b, q + 5, none⟩) (n - 1) (cc - 1) = vs at *
  generalize hus : Value.slice (if ch = 1 then some ⟨hb, hq, none⟩ else some ⟨hb, hq + 1, none⟩) (nh - 1) (ch - 1) = us at *
  replace hvs := Lib.hid hvs
  replace hus := Lib.hid hus
  have hX' : w3.drew.cell? ⟨WB, 6, none⟩ = some (.pointer (some ⟨m, 0, none⟩)) ∧ w3.drew.cell? ⟨B, o + 9, none⟩ = some (.int .i64 z) := And.intro (world_cells hW2.out).2.1 (hB2.out.cell (frA_9 hS))
  go_cut [5] (fun v5 wx => ∃ nb, v5 = .pointer (some ⟨nb, 0, none⟩) ∧ w.heap.size ≤ nb ∧ ¬ (nb = B ∨ nb = WB ∨ nb = m ∨ nb = bb) ∧ Blk wx nb 85 #[.int .i64 (uK X), .int .i64 (uM X), .bool (uG X), .int .i64 (uA X), .int .i64 (uN X), .int .i64 (uS X)] ∧ Blk wx B 107 (frA cs o x vs us z) ∧ Blk wx WB 101 (worldA c m RB) ∧ MemB wx m bb M ∧ Fr (fun k => k = B ∨ two m bb k) w wx)
  case first =>
    refine wp_region_held_drew (S := fun w' => w'.cell? ⟨WB, 6, none⟩ = some (.pointer (some ⟨m, 0, none⟩)) ∧ w'.cell? ⟨B, o + 9, none⟩ = some (.int .i64 z)) (by kernel_rfl) hX' (fun hHeld => ?_)
    generalize w3.drew = w3d at *
    refine wpAnyH_take (i := 0) (oi := ⟨some 55, .move (.tmp 1), 99, "law.go:75", #[], none⟩) (v := ?_) rfl (by kernel_rfl) (by kernel_rfl) (by kernel_rfl) (fun _ _ _ h => h) (Or.inl ⟨by rfl, ?_⟩) (by assumption) ?_
    rotate_left 1
    focus (intro w hSw; first | (go_simp; first | done | with_reducible rfl) | ((try dsimp only at hSw); go_split_ands; go_simp; first | done | with_reducible rfl))
    try simp only [Act.put, pA, pB, pC]
    refine wpAnyH_take (i := 1) (oi := ⟨some 56, .nilCheck (.tmp 55), 0, "law.go:75", #[⟨0, .data⟩], none⟩) (v := ?_) rfl (by kernel_rfl) (by kernel_rfl) (by kernel_rfl) (fun _ _ _ h => h) (Or.inl ⟨by rfl, ?_⟩) (by assumption) ?_
    rotate_left 1
    focus (intro w hSw; first | (go_simp; first | done | with_reducible rfl) | ((try dsimp only at hSw); go_split_ands; go_simp; first | done | with_reducible rfl))
    try simp only [Act.put, pA, pB, pC]
    refine wpAnyH_take (i := 2) (oi := ⟨some 57, .fieldAddr 101 (.tmp 56) 1, 0, "law.go:75", #[⟨1, .data⟩], none⟩) (v := ?_) rfl (by kernel_rfl) (by kernel_rfl) (by kernel_rfl) (fun _ _ _ h => h) (Or.inl ⟨by rfl, ?_⟩) (by assumption) ?_
    rotate_left 1
    focus (intro w hSw; first | (go_simp; first | done | with_reducible rfl) | ((try dsimp only at hSw); go_split_ands; go_simp; first | done | with_reducible rfl))
    try simp only [Act.put, pA, pB, pC]
    refine wpAnyH_take (i := 3) (oi := ⟨some 58, .load 24 (.tmp 57), 24, "law.go:75", #[⟨2, .data⟩], none⟩) (v := ?_) rfl (by kernel_rfl) (by kernel_rfl) (by kernel_rfl) (fun _ _ _ h => h) (Or.inl ⟨by rfl, ?_⟩) (by assumption) ?_
    rotate_left 1
    focus (intro w hSw; first | (go_simp; first | done | with_reducible rfl) | ((try dsimp only at hSw); go_split_ands; go_simp; first | done | with_reducible rfl))
    try simp only [Act.put, pA, pB, pC]
    refine wpAnyH_take (i := 5) (oi := ⟨some 60, .move (.tmp 1), 99, "law.go:75", #[], none⟩) (v := ?_) rfl (by kernel_rfl) (by kernel_rfl) (by kernel_rfl) (fun _ _ _ h => h) (Or.inl ⟨by rfl, ?_⟩) (by assumption) ?_
    rotate_left 1
    focus (intro w hSw; first | (go_simp; first | done | with_reducible rfl) | ((try dsimp only at hSw); go_split_ands; go_simp; first | done | with_reducible rfl))
    try simp only [Act.put, pA, pB, pC]
    refine wpAnyH_take (i := 6) (oi := ⟨some 61, .move (.tmp 0), 141, "law.go:75", #[], none⟩) (v := ?_) rfl (by kernel_rfl) (by kernel_rfl) (by kernel_rfl) (fun _ _ _ h => h) (Or.inl ⟨by rfl, ?_⟩) (by assumption) ?_
    rotate_left 1
    focus (intro w hSw; first | (go_simp; first | done | with_reducible rfl) | ((try dsimp only at hSw); go_split_ands; go_simp; first | done | with_reducible rfl))
    try simp only [Act.put, pA, pB, pC]
    refine wpAnyH_take (i := 7) (oi := ⟨some 62, .nilCheck (.tmp 61), 0, "law.go:75", #[⟨6, .data⟩], none⟩) (v := ?_) rfl (by kernel_rfl) (by kernel_rfl) (by kernel_rfl) (fun _ _ _ h => h) (Or.inl ⟨by rfl, ?_⟩) (by assumption) ?_
    rotate_left 1
    focus (intro w hSw; first | (go_simp; first | done | with_reducible rfl) | ((try dsimp only at hSw); go_split_ands; go_simp; first | done | with_reducible rfl))
    try simp only [Act.put, pA, pB, pC]
    refine wpAnyH_take (i := 8) (oi := ⟨some 63, .fieldAddr 107 (.tmp 62) 5, 0, "law.go:75", #[⟨7, .data⟩], none⟩) (v := ?_) rfl (by kernel_rfl) (by kernel_rfl) (by kernel_rfl) (fun _ _ _ h => h) (Or.inl ⟨by rfl, ?_⟩) (by assumption) ?_
    rotate_left 1
    focus (intro w hSw; first | (go_simp; first | done | with_reducible rfl) | ((try dsimp only at hSw); go_split_ands; go_simp; first | done | with_reducible rfl))
    try simp only [Act.put, pA, pB, pC]
    refine wpAnyH_take (i := 9) (oi := ⟨some 64, .load 3 (.tmp 63), 3, "law.go:75", #[⟨8, .data⟩], none⟩) (v := ?_) rfl (by kernel_rfl) (by kernel_rfl) (by kernel_rfl) (fun _ _ _ h => h) (Or.inl ⟨by rfl, ?_⟩) (by assumption) ?_
    rotate_left 1
    focus (intro w hSw; first | (go_simp; first | done | with_reducible rfl) | ((try dsimp only at hSw); go_split_ands; go_simp; first | done | with_reducible rfl))
    try simp only [Act.put, pA, pB, pC]
    focus refine wpAnyH_ready (rs := [4, 17]) (by kernel_rfl) (by simp) ?_
    focus refine AllReadyH.cons (o := ⟨some 59, .call { callee := .value (.func 24), args := #[.tmp 58], argTypes := #[24] }, 29, "law.go:75", #[⟨3, .data⟩], none⟩) rfl (fun K hK => ?_) (AllReadyH.cons (o := ⟨some 5, .alloc 85, 0, "law.go:75", #[], none⟩) rfl (fun K hK => ?_) AllReadyH.nil)
    rotate_left 1
    focus
      go_simp
      (have hN0 := Blk.new w3d 85 #[.int .i64 0, .int .i64 0, .bool false, .int .i64 0, .int .i64 0, .int .i64 0]; have hb9 := Below.alloc (Below.refl w3d.heap.size w3d) (Nat.le_refl _) (.cells #[.int .i64 0, .int .i64 0, .bool false, .int .i64 0, .int .i64 0, .int .i64 0] 85); obtain ⟨wz, hwz⟩ : ∃ wz, w3d.alloc (.cells #[.int .i64 0, .int .i64 0, .bool false, .int .i64 0, .int .i64 0, .int .i64 0] 85) = wz := ⟨_, rfl⟩; rw [hwz] at hN0 hb9; (try simp only [hwz]); have hN := Lib.hid hN0; have hNL := Lib.hid (hF2.out.size); have hNB := Lib.hid (show ¬ (w3d.heap.size = B ∨ w3d.heap.size = WB ∨ w3d.heap.size = m ∨ w3d.heap.size = bb) from fun x => by have l1 := hB2.out.lt; have l2 := hW2.out.lt; have l3 := hM2.out.lm; have l4 := hM2.out.lb; omega); replace hB2 := Lib.hid (hB2.out.below hb9 hB2.out.lt); replace hW2 := Lib.hid (hW2.out.below hb9 hW2.out.lt); replace hM2 := Lib.hid (hM2.out.next hb9); replace hF2 := Lib.hid (hF2.out.trans (fr_below hb9)); (try replace hR1 := Lib.hid (hR1.out.below hb9 (Nat.le_refl _))); have hY4 := And.intro (world_cells hW2.out).2.1 (hB2.out.cell (frA_9 hS)); (try (have hc4 := (hR1.out.cell hiz).2.1; rw [hXe.out] at hc4)); clear hb9; generalize w3d.heap.size = nb at *)
      refine hK.out _ _ (by assumption) (fun hHeld => ?_)
      clear hK K
      try simp only [Act.put, pA, pB, pC]
    rotate_right 1
    focus
      go_simp
      (go_at_call 24; refine (words_n _ m bb N _ hM2.out hnN.out (by omega)).mono ?_; rintro e wa ⟨A1, ca, b1, rfl, _, hR1, hb9⟩; obtain ⟨hA1, _, _⟩ := hR1.cell hiz; subst hA1; replace hB2 := Lib.hid (hB2.out.below hb9 hB2.out.lt); replace hW2 := Lib.hid (hW2.out.below hb9 hW2.out.lt); replace hM2 := Lib.hid (hM2.out.next hb9); replace hF2 := Lib.hid (hF2.out.trans (fr_below hb9)); replace hR1 := Lib.hid hR1; (try replace hN := Lib.hid (hN.out.below hb9 hN.out.lt)); have hY1 := And.intro (world_cells hW2.out).2.1 (hB2.out.cell (frA_9 hS)); (try (have hc1 := (hR1.out.cell hiz).2.1; rw [hXe.out] at hc1)); clear hb9)
      refine hK.out _ _ (by assumption) (fun hHeld => ?_)
      clear hK K
      try simp only [Act.put, pA, pB, pC]
    all_goals first
      | (have hmark := hN; clear hmark
         refine wpAnyH_ready (rs := [4]) (by kernel_rfl) (by simp) ?_
         refine AllReadyH.cons (o := ⟨some 59, .call { callee := .value (.func 24), args := #[.tmp 58], argTypes := #[24] }, 29, "law.go:75", #[⟨3, .data⟩], none⟩) rfl (fun K hK => ?_) AllReadyH.nil
         go_simp
         (go_at_call 24; refine (words_n _ m bb N _ hM2.out hnN.out (by omega)).mono ?_; rintro e wa ⟨A1, ca, b1, rfl, _, hR1, hb9⟩; obtain ⟨hA1, _, _⟩ := hR1.cell hiz; subst hA1; replace hB2 := Lib.hid (hB2.out.below hb9 hB2.out.lt); replace hW2 := Lib.hid (hW2.out.below hb9 hW2.out.lt); replace hM2 := Lib.hid (hM2.out.next hb9); replace hF2 := Lib.hid (hF2.out.trans (fr_below hb9)); replace hR1 := Lib.hid hR1; (try replace hN := Lib.hid (hN.out.below hb9 hN.out.lt)); have hY1 := And.intro (world_cells hW2.out).2.1 (hB2.out.cell (frA_9 hS)); (try (have hc1 := (hR1.out.cell hiz).2.1; rw [hXe.out] at hc1)); clear hb9)
         refine hK.out _ _ (by assumption) (fun hHeld => ?_)
         clear hK K
         try simp only [Act.put, pA, pB, pC])
      | skip
    focus refine wpAnyH_ready (rs := [10, 17]) (by kernel_rfl) (by simp) ?_
    focus refine AllReadyH.cons (o := ⟨some 65, .call { callee := .value (.func 63), args := #[.tmp 60, .const (.string { data := #[104, 101, 97, 100, 101, 114] }), .tmp 64, .const (.int .i64 0)], argTypes := #[99, 9, 3, 3] }, 3, "law.go:75", #[⟨5, .data⟩, ⟨9, .data⟩, ⟨4, .chain⟩], none⟩) rfl (fun K hK => ?_) (AllReadyH.cons (o := ⟨some 5, .alloc 85, 0, "law.go:75", #[], none⟩) rfl (fun K hK => ?_) AllReadyH.nil)
    rotate_left 1
    focus
      go_simp
      (have hN0 := Blk.new wa 85 #[.int .i64 0, .int .i64 0, .bool false, .int .i64 0, .int .i64 0, .int .i64 0]; have hb9 := Below.alloc (Below.refl wa.heap.size wa) (Nat.le_refl _) (.cells #[.int .i64 0, .int .i64 0, .bool false, .int .i64 0, .int .i64 0, .int .i64 0] 85); obtain ⟨wz, hwz⟩ : ∃ wz, wa.alloc (.cells #[.int .i64 0, .int .i64 0, .bool false, .int .i64 0, .int .i64 0, .int .i64 0] 85) = wz := ⟨_, rfl⟩; rw [hwz] at hN0 hb9; (try simp only [hwz]); have hN := Lib.hid hN0; have hNL := Lib.hid (hF2.out.size); have hNB := Lib.hid (show ¬ (wa.heap.size = B ∨ wa.heap.size = WB ∨ wa.heap.size = m ∨ wa.heap.size = bb) from fun x => by have l1 := hB2.out.lt; have l2 := hW2.out.lt; have l3 := hM2.out.lm; have l4 := hM2.out.lb; omega); replace hB2 := Lib.hid (hB2.out.below hb9 hB2.out.lt); replace hW2 := Lib.hid (hW2.out.below hb9 hW2.out.lt); replace hM2 := Lib.hid (hM2.out.next hb9); replace hF2 := Lib.hid (hF2.out.trans (fr_below hb9)); (try replace hR1 := Lib.hid (hR1.out.below hb9 (Nat.le_refl _))); have hY4 := And.intro (world_cells hW2.out).2.1 (hB2.out.cell (frA_9 hS)); (try (have hc4 := (hR1.out.cell hiz).2.1; rw [hXe.out] at hc4)); clear hb9; generalize wa.heap.size = nb at *)
      refine hK.out _ _ (by assumption) (fun hHeld => ?_)
      clear hK K
      try simp only [Act.put, pA, pB, pC]
    rotate_right 1
    focus
      go_simp
      (go_at_call 63; refine (atHeaderC c _ WB m RB z hW2.out hr hR).mono ?_; rintro e wb ⟨rfl, hb9⟩; rw [hpl.out]; replace hB2 := Lib.hid (hB2.out.below hb9 hB2.out.lt); replace hW2 := Lib.hid (hW2.out.below hb9 hW2.out.lt); replace hM2 := Lib.hid (hM2.out.next hb9); replace hF2 := Lib.hid (hF2.out.trans (fr_below hb9)); (try replace hR1 := Lib.hid (hR1.out.below hb9 (Nat.le_refl _))); (try replace hN := Lib.hid (hN.out.below hb9 hN.out.lt)); have hY2 := And.intro (world_cells hW2.out).2.1 (hB2.out.cell (frA_9 hS)); (try (have hc2 := (hR1.out.cell hiz).2.1; rw [hXe.out] at hc2)); clear hb9)
      refine hK.out _ _ (by assumption) (fun hHeld => ?_)
      clear hK K
      try simp only [Act.put, pA, pB, pC]
      refine wpAnyH_take (i := 11) (oi := ⟨some 66, .indexAddr 29 (.tmp 59) (.tmp 65), 0, "law.go:75", #[⟨4, .data⟩, ⟨10, .data⟩], none⟩) (v := ?_) rfl (by kernel_rfl) (by kernel_rfl) (by kernel_rfl) (fun _ _ _ h => h) (Or.inl ⟨by rfl, ?_⟩) (by assumption) ?_
      rotate_left 1
      focus (intro w hSw; first | (go_simp; first | done | with_reducible rfl) | ((try dsimp only at hSw); go_split_ands; go_simp; first | done | with_reducible rfl))
      try simp only [Act.put, pA, pB, pC]
    all_goals first
      | (have hmark := hN; clear hmark
         refine wpAnyH_ready (rs := [10]) (by kernel_rfl) (by simp) ?_
         refine AllReadyH.cons (o := ⟨some 65, .call { callee := .value (.func 63), args := #[.tmp 60, .const (.string { data := #[104, 101, 97, 100, 101, 114] }), .tmp 64, .const (.int .i64 0)], argTypes := #[99, 9, 3, 3] }, 3, "law.go:75", #[⟨5, .data⟩, ⟨9, .data⟩, ⟨4, .chain⟩], none⟩) rfl (fun K hK => ?_) AllReadyH.nil
         go_simp
         (go_at_call 63; refine (atHeaderC c _ WB m RB z hW2.out hr hR).mono ?_; rintro e wb ⟨rfl, hb9⟩; rw [hpl.out]; replace hB2 := Lib.hid (hB2.out.below hb9 hB2.out.lt); replace hW2 := Lib.hid (hW2.out.below hb9 hW2.out.lt); replace hM2 := Lib.hid (hM2.out.next hb9); replace hF2 := Lib.hid (hF2.out.trans (fr_below hb9)); (try replace hR1 := Lib.hid (hR1.out.below hb9 (Nat.le_refl _))); (try replace hN := Lib.hid (hN.out.below hb9 hN.out.lt)); have hY2 := And.intro (world_cells hW2.out).2.1 (hB2.out.cell (frA_9 hS)); (try (have hc2 := (hR1.out.cell hiz).2.1; rw [hXe.out] at hc2)); clear hb9)
         refine hK.out _ _ (by assumption) (fun hHeld => ?_)
         clear hK K
         try simp only [Act.put, pA, pB, pC]
         refine wpAnyH_take (i := 11) (oi := ⟨some 66, .indexAddr 29 (.tmp 59) (.tmp 65), 0, "law.go:75", #[⟨4, .data⟩, ⟨10, .data⟩], none⟩) (v := ?_) rfl (by kernel_rfl) (by kernel_rfl) (by kernel_rfl) (fun _ _ _ h => h) (Or.inl ⟨by rfl, ?_⟩) (by assumption) ?_
         rotate_left 1
         focus (intro w hSw; first | (go_simp; first | done | with_reducible rfl) | ((try dsimp only at hSw); go_split_ands; go_simp; first | done | with_reducible rfl))
         try simp only [Act.put, pA, pB, pC])
      | skip
    focus refine wpAnyH_ready (rs := [12, 17]) (by kernel_rfl) (by simp) ?_
    focus refine AllReadyH.cons (o := ⟨some 67, .load 33 (.tmp 66), 33, "law.go:75", #[⟨11, .data⟩], none⟩) rfl (fun K hK => ?_) (AllReadyH.cons (o := ⟨some 5, .alloc 85, 0, "law.go:75", #[], none⟩) rfl (fun K hK => ?_) AllReadyH.nil)
    rotate_left 1
    focus
      go_simp
      (have hN0 := Blk.new wb 85 #[.int .i64 0, .int .i64 0, .bool false, .int .i64 0, .int .i64 0, .int .i64 0]; have hb9 := Below.alloc (Below.refl wb.heap.size wb) (Nat.le_refl _) (.cells #[.int .i64 0, .int .i64 0, .bool false, .int .i64 0, .int .i64 0, .int .i64 0] 85); obtain ⟨wz, hwz⟩ : ∃ wz, wb.alloc (.cells #[.int .i64 0, .int .i64 0, .bool false, .int .i64 0, .int .i64 0, .int .i64 0] 85) = wz := ⟨_, rfl⟩; rw [hwz] at hN0 hb9; (try simp only [hwz]); have hN := Lib.hid hN0; have hNL := Lib.hid (hF2.out.size); have hNB := Lib.hid (show ¬ (wb.heap.size = B ∨ wb.heap.size = WB ∨ wb.heap.size = m ∨ wb.heap.size = bb) from fun x => by have l1 := hB2.out.lt; have l2 := hW2.out.lt; have l3 := hM2.out.lm; have l4 := hM2.out.lb; omega); replace hB2 := Lib.hid (hB2.out.below hb9 hB2.out.lt); replace hW2 := Lib.hid (hW2.out.below hb9 hW2.out.lt); replace hM2 := Lib.hid (hM2.out.next hb9); replace hF2 := Lib.hid (hF2.out.trans (fr_below hb9)); (try replace hR1 := Lib.hid (hR1.out.below hb9 (Nat.le_refl _))); have hY4 := And.intro (world_cells hW2.out).2.1 (hB2.out.cell (frA_9 hS)); (try (have hc4 := (hR1.out.cell hiz).2.1; rw [hXe.out] at hc4)); clear hb9; generalize wb.heap.size = nb at *)
      refine hK.out _ _ (by assumption) (fun hHeld => ?_)
      clear hK K
      try simp only [Act.put, pA, pB, pC]
    rotate_right 1
    focus
      go_simp
      refine hK.out _ _ (by assumption) (fun hHeld => ?_)
      clear hK K
      try simp only [Act.put, pA, pB, pC]
    all_goals first
      | (have hmark := hN; clear hmark
         refine wpAnyH_ready (rs := [12]) (by kernel_rfl) (by simp) ?_
         refine AllReadyH.cons (o := ⟨some 67, .load 33 (.tmp 66), 33, "law.go:75", #[⟨11, .data⟩], none⟩) rfl (fun K hK => ?_) AllReadyH.nil
         go_simp
         refine hK.out _ _ (by assumption) (fun hHeld => ?_)
         clear hK K
         try simp only [Act.put, pA, pB, pC])
      | skip
    focus refine wpAnyH_ready (rs := [13, 17]) (by kernel_rfl) (by simp) ?_
    focus refine AllReadyH.cons (o := ⟨some 68, .call { callee := .value (.func 62), args := #[.tmp 67], argTypes := #[33] }, 109, "law.go:75", #[⟨12, .data⟩, ⟨10, .chain⟩], none⟩) rfl (fun K hK => ?_) (AllReadyH.cons (o := ⟨some 5, .alloc 85, 0, "law.go:75", #[], none⟩) rfl (fun K hK => ?_) AllReadyH.nil)
    rotate_left 1
    focus
      go_simp
      (have hN0 := Blk.new wb 85 #[.int .i64 0, .int .i64 0, .bool false, .int .i64 0, .int .i64 0, .int .i64 0]; have hb9 := Below.alloc (Below.refl wb.heap.size wb) (Nat.le_refl _) (.cells #[.int .i64 0, .int .i64 0, .bool false, .int .i64 0, .int .i64 0, .int .i64 0] 85); obtain ⟨wz, hwz⟩ : ∃ wz, wb.alloc (.cells #[.int .i64 0, .int .i64 0, .bool false, .int .i64 0, .int .i64 0, .int .i64 0] 85) = wz := ⟨_, rfl⟩; rw [hwz] at hN0 hb9; (try simp only [hwz]); have hN := Lib.hid hN0; have hNL := Lib.hid (hF2.out.size); have hNB := Lib.hid (show ¬ (wb.heap.size = B ∨ wb.heap.size = WB ∨ wb.heap.size = m ∨ wb.heap.size = bb) from fun x => by have l1 := hB2.out.lt; have l2 := hW2.out.lt; have l3 := hM2.out.lm; have l4 := hM2.out.lb; omega); replace hB2 := Lib.hid (hB2.out.below hb9 hB2.out.lt); replace hW2 := Lib.hid (hW2.out.below hb9 hW2.out.lt); replace hM2 := Lib.hid (hM2.out.next hb9); replace hF2 := Lib.hid (hF2.out.trans (fr_below hb9)); (try replace hR1 := Lib.hid (hR1.out.below hb9 (Nat.le_refl _))); have hY4 := And.intro (world_cells hW2.out).2.1 (hB2.out.cell (frA_9 hS)); (try (have hc4 := (hR1.out.cell hiz).2.1; rw [hXe.out] at hc4)); clear hb9; generalize wb.heap.size = nb at *)
      refine hK.out _ _ (by assumption) (fun hHeld => ?_)
      clear hK K
      try simp only [Act.put, pA, pB, pC]
    rotate_right 1
    focus
      go_simp
      (go_at_call 62; refine (rUnpack_c X hX0 hX1 _).mono ?_; rintro e wd ⟨rfl, hb9⟩; replace hB2 := Lib.hid (hB2.out.below hb9 hB2.out.lt); replace hW2 := Lib.hid (hW2.out.below hb9 hW2.out.lt); replace hM2 := Lib.hid (hM2.out.next hb9); replace hF2 := Lib.hid (hF2.out.trans (fr_below hb9)); (try replace hR1 := Lib.hid (hR1.out.below hb9 (Nat.le_refl _))); (try replace hN := Lib.hid (hN.out.below hb9 hN.out.lt)); have hY3 := And.intro (world_cells hW2.out).2.1 (hB2.out.cell (frA_9 hS)); (try (have hc3 := (hR1.out.cell hiz).2.1; rw [hXe.out] at hc3)); clear hb9)
      refine hK.out _ _ (by assumption) (fun hHeld => ?_)
      clear hK K
      try simp only [Act.put, pA, pB, pC]
      refine wpAnyH_take (i := 14) (oi := ⟨some 54, .move (.tmp 68), 109, "law.go:75", #[⟨13, .data⟩], none⟩) (v := ?_) rfl (by kernel_rfl) (by kernel_rfl) (by kernel_rfl) (fun _ _ _ h => h) (Or.inl ⟨by rfl, ?_⟩) (by assumption) ?_
      rotate_left 1
      focus (intro w hSw; first | (go_simp; first | done | with_reducible rfl) | ((try dsimp only at hSw); go_split_ands; go_simp; first | done | with_reducible rfl))
      try simp only [Act.put, pA, pB, pC]
      refine wpAnyH_take (i := 15) (oi := ⟨some 69, .extract (.tmp 54) 0, 85, "law.go:75", #[⟨14, .data⟩], none⟩) (v := ?_) rfl (by kernel_rfl) (by kernel_rfl) (by kernel_rfl) (fun _ _ _ h => h) (Or.inl ⟨by rfl, ?_⟩) (by assumption) ?_
      rotate_left 1
      focus (intro w hSw; first | (go_simp; first | done | with_reducible rfl) | ((try dsimp only at hSw); go_split_ands; go_simp; first | done | with_reducible rfl))
      try simp only [Act.put, pA, pB, pC]
      refine wpAnyH_take (i := 16) (oi := ⟨some 70, .extract (.tmp 54) 1, 4, "law.go:75", #[⟨14, .data⟩, ⟨18, .gcOnly .lateStores⟩], none⟩) (v := ?_) rfl (by kernel_rfl) (by kernel_rfl) (by kernel_rfl) (fun _ _ _ h => h) (Or.inl ⟨by rfl, ?_⟩) (by assumption) ?_
      rotate_left 1
      focus (intro w hSw; first | (go_simp; first | done | with_reducible rfl) | ((try dsimp only at hSw); go_split_ands; go_simp; first | done | with_reducible rfl))
      try simp only [Act.put, pA, pB, pC]
    all_goals first
      | (have hmark := hN; clear hmark
         refine wpAnyH_ready (rs := [13]) (by kernel_rfl) (by simp) ?_
         refine AllReadyH.cons (o := ⟨some 68, .call { callee := .value (.func 62), args := #[.tmp 67], argTypes := #[33] }, 109, "law.go:75", #[⟨12, .data⟩, ⟨10, .chain⟩], none⟩) rfl (fun K hK => ?_) AllReadyH.nil
         go_simp
         (go_at_call 62; refine (rUnpack_c X hX0 hX1 _).mono ?_; rintro e wd ⟨rfl, hb9⟩; replace hB2 := Lib.hid (hB2.out.below hb9 hB2.out.lt); replace hW2 := Lib.hid (hW2.out.below hb9 hW2.out.lt); replace hM2 := Lib.hid (hM2.out.next hb9); replace hF2 := Lib.hid (hF2.out.trans (fr_below hb9)); (try replace hR1 := Lib.hid (hR1.out.below hb9 (Nat.le_refl _))); (try replace hN := Lib.hid (hN.out.below hb9 hN.out.lt)); have hY3 := And.intro (world_cells hW2.out).2.1 (hB2.out.cell (frA_9 hS)); (try (have hc3 := (hR1.out.cell hiz).2.1; rw [hXe.out] at hc3)); clear hb9)
         refine hK.out _ _ (by assumption) (fun hHeld => ?_)
         clear hK K
         try simp only [Act.put, pA, pB, pC]
         refine wpAnyH_take (i := 14) (oi := ⟨some 54, .move (.tmp 68), 109, "law.go:75", #[⟨13, .data⟩], none⟩) (v := ?_) rfl (by kernel_rfl) (by kernel_rfl) (by kernel_rfl) (fun _ _ _ h => h) (Or.inl ⟨by rfl, ?_⟩) (by assumption) ?_
         rotate_left 1
         focus (intro w hSw; first | (go_simp; first | done | with_reducible rfl) | ((try dsimp only at hSw); go_split_ands; go_simp; first | done | with_reducible rfl))
         try simp only [Act.put, pA, pB, pC]
         refine wpAnyH_take (i := 15) (oi := ⟨some 69, .extract (.tmp 54) 0, 85, "law.go:75", #[⟨14, .data⟩], none⟩) (v := ?_) rfl (by kernel_rfl) (by kernel_rfl) (by kernel_rfl) (fun _ _ _ h => h) (Or.inl ⟨by rfl, ?_⟩) (by assumption) ?_
         rotate_left 1
         focus (intro w hSw; first | (go_simp; first | done | with_reducible rfl) | ((try dsimp only at hSw); go_split_ands; go_simp; first | done | with_reducible rfl))
         try simp only [Act.put, pA, pB, pC]
         refine wpAnyH_take (i := 16) (oi := ⟨some 70, .extract (.tmp 54) 1, 4, "law.go:75", #[⟨14, .data⟩, ⟨18, .gcOnly .lateStores⟩], none⟩) (v := ?_) rfl (by kernel_rfl) (by kernel_rfl) (by kernel_rfl) (fun _ _ _ h => h) (Or.inl ⟨by rfl, ?_⟩) (by assumption) ?_
         rotate_left 1
         focus (intro w hSw; first | (go_simp; first | done | with_reducible rfl) | ((try dsimp only at hSw); go_split_ands; go_simp; first | done | with_reducible rfl))
         try simp only [Act.put, pA, pB, pC])
      | skip
    focus
      refine wpAnyH_ready (rs := [17]) (by kernel_rfl) (by simp) ?_
      refine AllReadyH.cons (o := ⟨some 5, .alloc 85, 0, "law.go:75", #[], none⟩) rfl (fun K hK => ?_) AllReadyH.nil
      go_simp
      (have hN0 := Blk.new wd 85 #[.int .i64 0, .int .i64 0, .bool false, .int .i64 0, .int .i64 0, .int .i64 0]; have hb9 := Below.alloc (Below.refl wd.heap.size wd) (Nat.le_refl _) (.cells #[.int .i64 0, .int .i64 0, .bool false, .int .i64 0, .int .i64 0, .int .i64 0] 85); obtain ⟨wz, hwz⟩ : ∃ wz, wd.alloc (.cells #[.int .i64 0, .int .i64 0, .bool false, .int .i64 0, .int .i64 0, .int .i64 0] 85) = wz := ⟨_, rfl⟩; rw [hwz] at hN0 hb9; (try simp only [hwz]); have hN := Lib.hid hN0; have hNL := Lib.hid (hF2.out.size); have hNB := Lib.hid (show ¬ (wd.heap.size = B ∨ wd.heap.size = WB ∨ wd.heap.size = m ∨ wd.heap.size = bb) from fun x => by have l1 := hB2.out.lt; have l2 := hW2.out.lt; have l3 := hM2.out.lm; have l4 := hM2.out.lb; omega); replace hB2 := Lib.hid (hB2.out.below hb9 hB2.out.lt); replace hW2 := Lib.hid (hW2.out.below hb9 hW2.out.lt); replace hM2 := Lib.hid (hM2.out.next hb9); replace hF2 := Lib.hid (hF2.out.trans (fr_below hb9)); (try replace hR1 := Lib.hid (hR1.out.below hb9 (Nat.le_refl _))); have hY4 := And.intro (world_cells hW2.out).2.1 (hB2.out.cell (frA_9 hS)); (try (have hc4 := (hR1.out.cell hiz).2.1; rw [hXe.out] at hc4)); clear hb9; generalize wd.heap.size = nb at *)
      refine hK.out _ _ (by assumption) (fun hHeld => ?_)
      clear hK K
      try simp only [Act.put, pA, pB, pC]
    all_goals
      refine wpAnyH_ready (rs := [18]) (by kernel_rfl) (by simp) ?_
      refine AllReadyH.cons (o := ⟨none, .store 85 (.tmp 5) (.tmp 69), 0, "law.go:75", #[⟨17, .data⟩, ⟨15, .data⟩, ⟨13, .chain⟩, ⟨0, .phase⟩, ⟨1, .phase⟩, ⟨2, .phase⟩, ⟨3, .phase⟩, ⟨4, .phase⟩, ⟨5, .phase⟩, ⟨6, .phase⟩, ⟨7, .phase⟩, ⟨8, .phase⟩, ⟨9, .phase⟩, ⟨10, .phase⟩, ⟨11, .phase⟩, ⟨12, .phase⟩, ⟨13, .phase⟩, ⟨14, .phase⟩, ⟨15, .phase⟩, ⟨16, .textOnly .lateStores⟩, ⟨17, .phase⟩], none⟩) rfl (fun K hK => ?_) AllReadyH.nil
      obtain ⟨⟨n0, n1, n2, n3, n4, n5⟩, f0, f1, f2, f3, f4, f5⟩ := six_cells hN.out; go_simp
      (obtain ⟨wy, ewy, hNy, hFy⟩ := hdr_blk (b0 := .int .i64 (uK X)) (b1 := .int .i64 (uM X)) (b2 := .bool (uG X)) (b3 := .int .i64 (uA X)) (b4 := .int .i64 (uN X)) (b5 := .int .i64 (uS X)) hN.out; rw [ewy]; clear n0 n1 n2 n3 n4 n5 f0 f1 f2 f3 f4 f5 ewy; have nbB := hNB.out; have nbL := hNL.out; replace hB2 := Lib.hid (hB2.out.fr hFy (fun e => nbB (.inl e.symm))); replace hW2 := Lib.hid (hW2.out.fr hFy (fun e => nbB (.inr (.inl e.symm)))); replace hM2 := Lib.hid (hM2.out.fr hFy (fun e => nbB (.inr (.inr (.inl e.symm)))) (fun e => nbB (.inr (.inr (.inr e.symm))))); replace hF2 := Lib.hid (fr_old ((hF2.out.mono (S' := fun k => (k = B ∨ two m bb k) ∨ w.heap.size ≤ k) (fun k e => .inl e)).trans (hFy.mono (fun k e => .inr (e ▸ nbL))))); have hY5 := And.intro (world_cells hW2.out).2.1 (hB2.out.cell (frA_9 hS)); replace hN := Lib.hid hNy; clear hNy hFy nbB nbL)
      refine hK.out _ _ (by assumption) (fun hHeld => ?_)
      clear hK K
      try simp only [Act.put, pA, pB, pC]
      refine wpAnyH_take (i := 19) (oi := ⟨some 6, .assign (.tmp 70), 4, "law.go:75", #[⟨16, .data⟩, ⟨18, .chain⟩, ⟨0, .phase⟩, ⟨1, .phase⟩, ⟨2, .phase⟩, ⟨3, .phase⟩, ⟨4, .phase⟩, ⟨5, .phase⟩, ⟨6, .phase⟩, ⟨7, .phase⟩, ⟨8, .phase⟩, ⟨9, .phase⟩, ⟨10, .phase⟩, ⟨11, .phase⟩, ⟨12, .phase⟩, ⟨13, .phase⟩, ⟨14, .phase⟩, ⟨15, .phase⟩, ⟨16, .phase⟩, ⟨17, .phase⟩, ⟨18, .phase⟩], none⟩) (v := ?_) rfl (by kernel_rfl) (by kernel_rfl) (by kernel_rfl) (fun _ _ _ h => h) (Or.inl ⟨by rfl, ?_⟩) (by assumption) ?_
      rotate_left 1
      focus (intro w hSw; first | (go_simp; first | done | with_reducible rfl) | ((try dsimp only at hSw); go_split_ands; go_simp; first | done | with_reducible rfl))
      try simp only [Act.put, pA, pB, pC]
      refine wpAnyH_done (by kernel_rfl) ?_ _
      clear hX'
      go_wp2
      go_meet
      case rel => exact ⟨nb, rfl, hNL.out, hNB.out, hN.out, hB2.out, hW2.out, hM2.out, hF2.out⟩
  case rest =>
    obtain ⟨nb, rfl, hnb, hNB, hN', hB', hW', hM', hF'⟩ := hcut
    clear hX' hB2 hW2 hM2 hF2
    obtain ⟨⟨n0, n1, n2, n3, n4, n5⟩, f0, f1, f2, f3, f4, f5⟩ := six_cells hN'
    have hN2 := (hN'.set 0 (.int .i64 3)).set 2 (.bool false)
    have hF9 := (Fr.set (fun k => k = nb) wc (p := ⟨nb, 0, none⟩) rfl (.int .i64 3)).trans (Fr.set (fun k => k = nb) _ (p := ⟨nb, 2, none⟩) rfl (.bool false))
    have hB2 := Lib.hid (hB'.fr hF9 (fun e => hNB (.inl e.symm)))
    have hW2 := Lib.hid (hW'.fr hF9 (fun e => hNB (.inr (.inl e.symm))))
    have hM2 := Lib.hid (hM'.fr hF9 (fun e => hNB (.inr (.inr (.inl e.symm)))) (fun e => hNB (.inr (.inr (.inr e.symm)))))
    have hF2 := Lib.hid (fr_old ((hF'.mono (S' := fun k => (k = B ∨ two m bb k) ∨ w.heap.size ≤ k) (fun k e => .inl e)).trans (hF9.mono (fun k e => .inr (e ▸ hnb)))))
    replace hNB := Lib.hid hNB
    replace hN2 := Lib.hid (show Blk _ nb 85 #[.int .i64 3, .int .i64 (uM X), .bool false, .int .i64 (uA X), .int .i64 (uN X), .int .i64 (uS X)] by simpa using hN2)
    clear hN' hB' hW' hM' hF' hF9
    go_upto_region 11 with (fail)
    clear n0 n1 n2 n3 n4 n5 f0 f1 f2 f3 f4 f5
    generalize (wc.setCell ⟨nb, 0, none⟩ (.int .i64 3)).setCell ⟨nb, 2, none⟩ (.bool false) = w4 at *
    replace hB2 := Lib.hid hB2.out.drew
    replace hW2 := Lib.hid hW2.out.drew
    replace hM2 := Lib.hid hM2.out.drew
    replace hN2 := Lib.hid hN2.out.drew
    replace hF2 := Lib.hid (hF2.out.trans (Fr.drew _ w4))
    have hhd := Lib.hid (show ¬ c.header z < 0 by rw [header_pl hr hR, hpl.out]; omega)
    have x8' := Lib.hid (frA_8 (x := x) (v := vs) (u := us) (z := z) x8)
    have hX' : (w4.drew.cell? ⟨WB, 0, none⟩ = some (.int .i64 c.S) ∧ w4.drew.cell? ⟨WB, 1, none⟩ = some (.int .i64 c.A) ∧ w4.drew.cell? ⟨WB, 2, none⟩ = some (.int .i64 c.C) ∧ w4.drew.cell? ⟨WB, 3, none⟩ = some (.int .i64 c.H) ∧ w4.drew.cell? ⟨WB, 4, none⟩ = some (.int .i64 c.G) ∧ w4.drew.cell? ⟨WB, 5, none⟩ = some (.int .i64 c.K)) ∧ w4.drew.cell? ⟨B, o + 9, none⟩ = some (.int .i64 z) := ⟨(world_cells hW2.out).1, hB2.out.cell (frA_9 hS)⟩
    refine wp_region_held_drew (S := fun w' => (w'.cell? ⟨WB, 0, none⟩ = some (.int .i64 c.S) ∧ w'.cell? ⟨WB, 1, none⟩ = some (.int .i64 c.A) ∧ w'.cell? ⟨WB, 2, none⟩ = some (.int .i64 c.C) ∧ w'.cell? ⟨WB, 3, none⟩ = some (.int .i64 c.H) ∧ w'.cell? ⟨WB, 4, none⟩ = some (.int .i64 c.G) ∧ w'.cell? ⟨WB, 5, none⟩ = some (.int .i64 c.K)) ∧ w'.cell? ⟨B, o + 9, none⟩ = some (.int .i64 z)) (by kernel_rfl) hX' (fun hHeld => ?_)
    generalize w4.drew = w4d at *
    refine wpAnyH_take (i := 0) (oi := ⟨some 73, .move (.tmp 0), 141, "law.go:78", #[], none⟩) (v := ?vr1) rfl (by kernel_rfl) (by kernel_rfl) (by kernel_rfl) (fun _ _ _ h => h) (Or.inl ⟨by rfl, ?hyr1⟩) (by assumption) ?rsr1
    case hyr1 => (intro w hSw; first | (go_simp; first | done | with_reducible rfl) | ((try dsimp only at hSw); go_split_ands; go_simp; first | done | with_reducible rfl))
    case' rsr1 => (try simp only [Act.put, pA, pB, pC])
    refine wpAnyH_take (i := 1) (oi := ⟨some 74, .move (.tmp 1), 99, "law.go:78", #[], none⟩) (v := ?vr2) rfl (by kernel_rfl) (by kernel_rfl) (by kernel_rfl) (fun _ _ _ h => h) (Or.inl ⟨by rfl, ?hyr2⟩) (by assumption) ?rsr2
    case hyr2 => (intro w hSw; first | (go_simp; first | done | with_reducible rfl) | ((try dsimp only at hSw); go_split_ands; go_simp; first | done | with_reducible rfl))
    case' rsr2 => (try simp only [Act.put, pA, pB, pC])
    refine wpAnyH_take (i := 2) (oi := ⟨some 75, .nilCheck (.tmp 74), 0, "law.go:78", #[⟨1, .data⟩], none⟩) (v := ?vr3) rfl (by kernel_rfl) (by kernel_rfl) (by kernel_rfl) (fun _ _ _ h => h) (Or.inl ⟨by rfl, ?hyr3⟩) (by assumption) ?rsr3
    case hyr3 => (intro w hSw; first | (go_simp; first | done | with_reducible rfl) | ((try dsimp only at hSw); go_split_ands; go_simp; first | done | with_reducible rfl))
    case' rsr3 => (try simp only [Act.put, pA, pB, pC])
    refine wpAnyH_take (i := 3) (oi := ⟨some 76, .fieldAddr 101 (.tmp 75) 0, 0, "law.go:78", #[⟨2, .data⟩], none⟩) (v := ?vr4) rfl (by kernel_rfl) (by kernel_rfl) (by kernel_rfl) (fun _ _ _ h => h) (Or.inl ⟨by rfl, ?hyr4⟩) (by assumption) ?rsr4
    case hyr4 => (intro w hSw; first | (go_simp; first | done | with_reducible rfl) | ((try dsimp only at hSw); go_split_ands; go_simp; first | done | with_reducible rfl))
    case' rsr4 => (try simp only [Act.put, pA, pB, pC])
    refine wpAnyH_take (i := 4) (oi := ⟨some 77, .load 23 (.tmp 76), 23, "law.go:78", #[⟨3, .data⟩], none⟩) (v := ?vr5) rfl (by kernel_rfl) (by kernel_rfl) (by kernel_rfl) (fun _ _ _ h => h) (Or.inl ⟨by rfl, ?hyr5⟩) (by assumption) ?rsr5
    case hyr5 => (intro w hSw; first | (go_simp; first | done | with_reducible rfl) | ((try dsimp only at hSw); go_split_ands; go_simp; first | done | with_reducible rfl))
    case' rsr5 => (try simp only [Act.put, pA, pB, pC])
    refine wpAnyH_take (i := 5) (oi := ⟨some 78, .move (.tmp 0), 141, "law.go:78", #[], none⟩) (v := ?vr6) rfl (by kernel_rfl) (by kernel_rfl) (by kernel_rfl) (fun _ _ _ h => h) (Or.inl ⟨by rfl, ?hyr6⟩) (by assumption) ?rsr6
    case hyr6 => (intro w hSw; first | (go_simp; first | done | with_reducible rfl) | ((try dsimp only at hSw); go_split_ands; go_simp; first | done | with_reducible rfl))
    case' rsr6 => (try simp only [Act.put, pA, pB, pC])
    refine wpAnyH_take (i := 6) (oi := ⟨some 79, .nilCheck (.tmp 78), 0, "law.go:78", #[⟨5, .data⟩], none⟩) (v := ?vr7) rfl (by kernel_rfl) (by kernel_rfl) (by kernel_rfl) (fun _ _ _ h => h) (Or.inl ⟨by rfl, ?hyr7⟩) (by assumption) ?rsr7
    case hyr7 => (intro w hSw; first | (go_simp; first | done | with_reducible rfl) | ((try dsimp only at hSw); go_split_ands; go_simp; first | done | with_reducible rfl))
    case' rsr7 => (try simp only [Act.put, pA, pB, pC])
    refine wpAnyH_take (i := 7) (oi := ⟨some 80, .fieldAddr 107 (.tmp 79) 5, 0, "law.go:78", #[⟨6, .data⟩], none⟩) (v := ?vr8) rfl (by kernel_rfl) (by kernel_rfl) (by kernel_rfl) (fun _ _ _ h => h) (Or.inl ⟨by rfl, ?hyr8⟩) (by assumption) ?rsr8
    case hyr8 => (intro w hSw; first | (go_simp; first | done | with_reducible rfl) | ((try dsimp only at hSw); go_split_ands; go_simp; first | done | with_reducible rfl))
    case' rsr8 => (try simp only [Act.put, pA, pB, pC])
    refine wpAnyH_take (i := 8) (oi := ⟨some 81, .load 3 (.tmp 80), 3, "law.go:78", #[⟨7, .data⟩], none⟩) (v := ?vr9) rfl (by kernel_rfl) (by kernel_rfl) (by kernel_rfl) (fun _ _ _ h => h) (Or.inl ⟨by rfl, ?hyr9⟩) (by assumption) ?rsr9
    case hyr9 => (intro w hSw; first | (go_simp; first | done | with_reducible rfl) | ((try dsimp only at hSw); go_split_ands; go_simp; first | done | with_reducible rfl))
    case' rsr9 => (try simp only [Act.put, pA, pB, pC])
    refine wpAnyH_ready (rs := [9]) (by kernel_rfl) (by simp) ?_
    refine AllReadyH.cons (o := ⟨some 82, .call { callee := .value (.func 54), args := #[.tmp 77, .tmp 81], argTypes := #[23, 3] }, 86, "law.go:78", #[⟨4, .data⟩, ⟨8, .data⟩], none⟩) rfl (fun K hK => ?_) ?_
    · go_simp
      (go_at_call 54; refine (newFreeC c _ z hhd.out).mono ?_; rintro e w5 ⟨fp, rfl, gf, hV, hb9⟩; have lf := hV.lt; have l5 := hF2.out.size; have l2 := hB2.out.lt; have l4 := hN2.out.lt; have l6 := hW2.out.lt; have l7 := hM2.out.lm; have l8 := hM2.out.lb; have nfp := Lib.hid (show ¬ (fp = B ∨ fp = nb ∨ fp = WB ∨ fp = m ∨ fp = bb) from fun k => by omega); have gfp := Lib.hid (show w.heap.size ≤ fp by omega); replace hB2 := Lib.hid (hB2.out.below hb9 hB2.out.lt); replace hW2 := Lib.hid (hW2.out.below hb9 hW2.out.lt); replace hM2 := Lib.hid (hM2.out.next hb9); replace hN2 := Lib.hid (hN2.out.below hb9 hN2.out.lt); replace hF2 := Lib.hid (hF2.out.trans (fr_below hb9)); have hV := Lib.hid hV; have hY6 := And.intro (world_cells hW2.out).1 (hB2.out.cell (frA_9 hS)); clear hb9 lf l5 l2 l4 l6 l7 l8 gf)
      refine hK.out _ _ (by assumption) (fun hHeld => ?_)
      clear hK K
      try simp only [Act.put, pA, pB, pC]
      refine wpAnyH_take (i := 10) (oi := ⟨some 83, .nilCheck (.tmp 73), 0, "law.go:78", #[⟨0, .data⟩, ⟨0, .phase⟩, ⟨1, .phase⟩, ⟨2, .phase⟩, ⟨3, .phase⟩, ⟨4, .phase⟩, ⟨5, .phase⟩, ⟨6, .phase⟩, ⟨7, .phase⟩, ⟨8, .phase⟩, ⟨9, .phase⟩], none⟩) (v := ?vr10) rfl (by kernel_rfl) (by kernel_rfl) (by kernel_rfl) (fun _ _ _ h => h) (Or.inl ⟨by rfl, ?hyr10⟩) (by assumption) ?rsr10
      case hyr10 => (intro w hSw; first | (go_simp; first | done | with_reducible rfl) | ((try dsimp only at hSw); go_split_ands; go_simp; first | done | with_reducible rfl))
      case' rsr10 => (try simp only [Act.put, pA, pB, pC])
      refine wpAnyH_take (i := 11) (oi := ⟨some 84, .fieldAddr 107 (.tmp 83) 4, 0, "law.go:78", #[⟨10, .data⟩, ⟨0, .phase⟩, ⟨1, .phase⟩, ⟨2, .phase⟩, ⟨3, .phase⟩, ⟨4, .phase⟩, ⟨5, .phase⟩, ⟨6, .phase⟩, ⟨7, .phase⟩, ⟨8, .phase⟩, ⟨9, .phase⟩], none⟩) (v := ?vr11) rfl (by kernel_rfl) (by kernel_rfl) (by kernel_rfl) (fun _ _ _ h => h) (Or.inl ⟨by rfl, ?hyr11⟩) (by assumption) ?rsr11
      case hyr11 => (intro w hSw; first | (go_simp; first | done | with_reducible rfl) | ((try dsimp only at hSw); go_split_ands; go_simp; first | done | with_reducible rfl))
      case' rsr11 => (try simp only [Act.put, pA, pB, pC])
      refine wpAnyH_ready (rs := [12]) (by kernel_rfl) (by simp) ?_
      refine AllReadyH.cons (o := ⟨none, .store 86 (.tmp 84) (.tmp 82), 0, "law.go:78", #[⟨11, .data⟩, ⟨9, .data⟩, ⟨9, .chain⟩, ⟨0, .phase⟩, ⟨1, .phase⟩, ⟨2, .phase⟩, ⟨3, .phase⟩, ⟨4, .phase⟩, ⟨5, .phase⟩, ⟨6, .phase⟩, ⟨7, .phase⟩, ⟨8, .phase⟩, ⟨9, .phase⟩], none⟩) rfl (fun K hK => ?_) ?_
      · have v8 := hB2.out.cell x8'.out; have q8 := hB2.out.frozen (o + 8); go_simp
        (have hB3 := hB2.out.set (o + 8) (.pointer (some ⟨fp, 0, none⟩)); have hF3 := Fr.set (fun k => k = B) w5 (p := ⟨B, o + 8, none⟩) rfl (.pointer (some ⟨fp, 0, none⟩)); obtain ⟨w6, hw6⟩ : ∃ w6, w5.setCell ⟨B, o + 8, none⟩ (.pointer (some ⟨fp, 0, none⟩)) = w6 := ⟨_, rfl⟩; rw [hw6] at hB3 hF3; (try simp only [hw6]); have nBN := hNB.out; have nfB := nfp.out; replace hB2 := Lib.hid hB3; replace hW2 := Lib.hid (hW2.out.fr hF3 neW); replace hM2 := Lib.hid (hM2.out.fr hF3 (fun e => nB (.inl e.symm)) (fun e => nB (.inr e.symm))); replace hN2 := Lib.hid (hN2.out.fr hF3 (fun e => nBN (.inl e))); replace hV := Lib.hid (hV.out.fr hF3 (fun e => nfB (.inl e))); replace hF2 := Lib.hid (hF2.out.trans (hF3.mono (fun k e => .inl e))); have hB9 := hB2.out.cell (i := o + 9) (v := .int .i64 z) (by rw [Array.getElem?_setIfInBounds_ne (by omega)]; exact frA_9 hS); have hY7 := And.intro (world_cells hW2.out).1 hB9; clear hw6 hB3 hF3 v8 q8 hY6 hX' nBN nfB)
        refine hK.out _ _ (by assumption) (fun hHeld => ?_)
        clear hK K
        try simp only [Act.put, pA, pB, pC]
        refine wpAnyH_done (by kernel_rfl) ?_ _
        clear x8'
        go_upto_region 12 with (fail)
        replace hB2 := Lib.hid hB2.out.drew
        replace hW2 := Lib.hid hW2.out.drew
        replace hM2 := Lib.hid hM2.out.drew
        replace hN2 := Lib.hid hN2.out.drew
        replace hV := Lib.hid hV.out.drew
        replace hF2 := Lib.hid (hF2.out.trans (Fr.drew _ w6))
        obtain ⟨⟨n0, n1, n2, n3, n4, n5⟩, _⟩ := six_cells hN2.out
        have hB9e := Lib.hid (frB_9 (x := x) (v := vs) (u := us) (y := .pointer (some ⟨fp, 0, none⟩)) (z := z) hS)
        have hB8e := Lib.hid (frB_8 (x := x) (v := vs) (u := us) (y := .pointer (some ⟨fp, 0, none⟩)) (z := z) hS)
        have hX' : w6.drew.cell? ⟨WB, 6, none⟩ = some (.pointer (some ⟨m, 0, none⟩)) ∧ w6.drew.cell? ⟨B, o + 9, none⟩ = some (.int .i64 z) ∧ w6.drew.cell? ⟨B, o + 8, none⟩ = some (.pointer (some ⟨fp, 0, none⟩)) ∧ w6.drew.cell? ⟨nb, 0, none⟩ = some (.int .i64 3) ∧ w6.drew.cell? ⟨nb, 1, none⟩ = some (.int .i64 (uM X)) ∧ w6.drew.cell? ⟨nb, 2, none⟩ = some (.bool false) ∧ w6.drew.cell? ⟨nb, 3, none⟩ = some (.int .i64 (uA X)) ∧ w6.drew.cell? ⟨nb, 4, none⟩ = some (.int .i64 (uN X)) ∧ w6.drew.cell? ⟨nb, 5, none⟩ = some (.int .i64 (uS X)) := ⟨(world_cells hW2.out).2.1, hB2.out.cell hB9e.out, hB2.out.cell hB8e.out, n0, n1, n2, n3, n4, n5⟩
        clear n0 n1 n2 n3 n4 n5 hB9 hY7
        refine wp_region_held_drew (S := fun w' => w'.cell? ⟨WB, 6, none⟩ = some (.pointer (some ⟨m, 0, none⟩)) ∧ w'.cell? ⟨B, o + 9, none⟩ = some (.int .i64 z) ∧ w'.cell? ⟨B, o + 8, none⟩ = some (.pointer (some ⟨fp, 0, none⟩)) ∧ w'.cell? ⟨nb, 0, none⟩ = some (.int .i64 3) ∧ w'.cell? ⟨nb, 1, none⟩ = some (.int .i64 (uM X)) ∧ w'.cell? ⟨nb, 2, none⟩ = some (.bool false) ∧ w'.cell? ⟨nb, 3, none⟩ = some (.int .i64 (uA X)) ∧ w'.cell? ⟨nb, 4, none⟩ = some (.int .i64 (uN X)) ∧ w'.cell? ⟨nb, 5, none⟩ = some (.int .i64 (uS X))) (by kernel_rfl) hX' (fun hHeld => ?_)
        generalize w6.drew = w6d at *
        refine wpAnyH_take (i := 0) (oi := ⟨some 85, .move (.tmp 1), 99, "law.go:79", #[], none⟩) (v := ?vs1) rfl (by kernel_rfl) (by kernel_rfl) (by kernel_rfl) (fun _ _ _ h => h) (Or.inl ⟨by rfl, ?hys1⟩) (by assumption) ?rss1
        case hys1 => (intro w hSw; first | (go_simp; first | done | with_reducible rfl) | ((try dsimp only at hSw); go_split_ands; go_simp; first | done | with_reducible rfl))
        case' rss1 => (try simp only [Act.put, pA, pB, pC])
        refine wpAnyH_take (i := 1) (oi := ⟨some 86, .nilCheck (.tmp 85), 0, "law.go:79", #[⟨0, .data⟩], none⟩) (v := ?vs2) rfl (by kernel_rfl) (by kernel_rfl) (by kernel_rfl) (fun _ _ _ h => h) (Or.inl ⟨by rfl, ?hys2⟩) (by assumption) ?rss2
        case hys2 => (intro w hSw; first | (go_simp; first | done | with_reducible rfl) | ((try dsimp only at hSw); go_split_ands; go_simp; first | done | with_reducible rfl))
        case' rss2 => (try simp only [Act.put, pA, pB, pC])
        refine wpAnyH_take (i := 2) (oi := ⟨some 87, .fieldAddr 101 (.tmp 86) 1, 0, "law.go:79", #[⟨1, .data⟩], none⟩) (v := ?vs3) rfl (by kernel_rfl) (by kernel_rfl) (by kernel_rfl) (fun _ _ _ h => h) (Or.inl ⟨by rfl, ?hys3⟩) (by assumption) ?rss3
        case hys3 => (intro w hSw; first | (go_simp; first | done | with_reducible rfl) | ((try dsimp only at hSw); go_split_ands; go_simp; first | done | with_reducible rfl))
        case' rss3 => (try simp only [Act.put, pA, pB, pC])
        refine wpAnyH_take (i := 3) (oi := ⟨some 88, .load 24 (.tmp 87), 24, "law.go:79", #[⟨2, .data⟩], none⟩) (v := ?vs4) rfl (by kernel_rfl) (by kernel_rfl) (by kernel_rfl) (fun _ _ _ h => h) (Or.inl ⟨by rfl, ?hys4⟩) (by assumption) ?rss4
        case hys4 => (intro w hSw; first | (go_simp; first | done | with_reducible rfl) | ((try dsimp only at hSw); go_split_ands; go_simp; first | done | with_reducible rfl))
        case' rss4 => (try simp only [Act.put, pA, pB, pC])
        refine wpAnyH_take (i := 4) (oi := ⟨some 89, .move (.tmp 1), 99, "law.go:79", #[], none⟩) (v := ?vs5) rfl (by kernel_rfl) (by kernel_rfl) (by kernel_rfl) (fun _ _ _ h => h) (Or.inl ⟨by rfl, ?hys5⟩) (by assumption) ?rss5
        case hys5 => (intro w hSw; first | (go_simp; first | done | with_reducible rfl) | ((try dsimp only at hSw); go_split_ands; go_simp; first | done | with_reducible rfl))
        case' rss5 => (try simp only [Act.put, pA, pB, pC])
        refine wpAnyH_take (i := 5) (oi := ⟨some 90, .move (.tmp 0), 141, "law.go:79", #[], none⟩) (v := ?vs6) rfl (by kernel_rfl) (by kernel_rfl) (by kernel_rfl) (fun _ _ _ h => h) (Or.inl ⟨by rfl, ?hys6⟩) (by assumption) ?rss6
        case hys6 => (intro w hSw; first | (go_simp; first | done | with_reducible rfl) | ((try dsimp only at hSw); go_split_ands; go_simp; first | done | with_reducible rfl))
        case' rss6 => (try simp only [Act.put, pA, pB, pC])
        refine wpAnyH_take (i := 6) (oi := ⟨some 91, .nilCheck (.tmp 90), 0, "law.go:79", #[⟨5, .data⟩], none⟩) (v := ?vs7) rfl (by kernel_rfl) (by kernel_rfl) (by kernel_rfl) (fun _ _ _ h => h) (Or.inl ⟨by rfl, ?hys7⟩) (by assumption) ?rss7
        case hys7 => (intro w hSw; first | (go_simp; first | done | with_reducible rfl) | ((try dsimp only at hSw); go_split_ands; go_simp; first | done | with_reducible rfl))
        case' rss7 => (try simp only [Act.put, pA, pB, pC])
        refine wpAnyH_take (i := 7) (oi := ⟨some 92, .fieldAddr 107 (.tmp 91) 5, 0, "law.go:79", #[⟨6, .data⟩], none⟩) (v := ?vs8) rfl (by kernel_rfl) (by kernel_rfl) (by kernel_rfl) (fun _ _ _ h => h) (Or.inl ⟨by rfl, ?hys8⟩) (by assumption) ?rss8
        case hys8 => (intro w hSw; first | (go_simp; first | done | with_reducible rfl) | ((try dsimp only at hSw); go_split_ands; go_simp; first | done | with_reducible rfl))
        case' rss8 => (try simp only [Act.put, pA, pB, pC])
        refine wpAnyH_take (i := 8) (oi := ⟨some 93, .load 3 (.tmp 92), 3, "law.go:79", #[⟨7, .data⟩], none⟩) (v := ?vs9) rfl (by kernel_rfl) (by kernel_rfl) (by kernel_rfl) (fun _ _ _ h => h) (Or.inl ⟨by rfl, ?hys9⟩) (by assumption) ?rss9
        case hys9 => (intro w hSw; first | (go_simp; first | done | with_reducible rfl) | ((try dsimp only at hSw); go_split_ands; go_simp; first | done | with_reducible rfl))
        case' rss9 => (try simp only [Act.put, pA, pB, pC])
        refine wpAnyH_take (i := 10) (oi := ⟨some 95, .load 85 (.tmp 5), 85, "law.go:79", #[], none⟩) (v := ?vs10) rfl (by kernel_rfl) (by kernel_rfl) (by kernel_rfl) (fun _ _ _ h => h) (Or.inl ⟨by rfl, ?hys10⟩) (by assumption) ?rss10
        case hys10 => (intro w hSw; first | (go_simp; first | done | with_reducible rfl) | ((try dsimp only at hSw); go_split_ands; go_simp; first | done | with_reducible rfl))
        case' rss10 => (try simp only [Act.put, pA, pB, pC])
        refine wpAnyH_ready (rs := [9]) (by kernel_rfl) (by simp) ?_
        refine AllReadyH.cons (o := ⟨some 94, .call { callee := .value (.func 63), args := #[.tmp 89, .const (.string { data := #[104, 101, 97, 100, 101, 114] }), .tmp 93, .const (.int .i64 0)], argTypes := #[99, 9, 3, 3] }, 3, "law.go:79", #[⟨4, .data⟩, ⟨8, .data⟩], none⟩) rfl (fun K hK => ?_) ?_
        · go_simp
          (go_at_call 63; refine (atHeaderC c _ WB m RB z hW2.out hr hR).mono ?_; rintro e w7 ⟨rfl, hb9⟩; rw [hpl.out]; replace hB2 := Lib.hid (hB2.out.below hb9 hB2.out.lt); replace hW2 := Lib.hid (hW2.out.below hb9 hW2.out.lt); replace hM2 := Lib.hid (hM2.out.next hb9); replace hN2 := Lib.hid (hN2.out.below hb9 hN2.out.lt); replace hV := Lib.hid (hV.out.below hb9 hV.out.lt); replace hF2 := Lib.hid (hF2.out.trans (fr_below hb9)); clear hb9; have hY8 : w7.cell? ⟨WB, 6, none⟩ = some (.pointer (some ⟨m, 0, none⟩)) ∧ w7.cell? ⟨B, o + 9, none⟩ = some (.int .i64 z) ∧ w7.cell? ⟨B, o + 8, none⟩ = some (.pointer (some ⟨fp, 0, none⟩)) ∧ w7.cell? ⟨nb, 0, none⟩ = some (.int .i64 3) ∧ w7.cell? ⟨nb, 1, none⟩ = some (.int .i64 (uM X)) ∧ w7.cell? ⟨nb, 2, none⟩ = some (.bool false) ∧ w7.cell? ⟨nb, 3, none⟩ = some (.int .i64 (uA X)) ∧ w7.cell? ⟨nb, 4, none⟩ = some (.int .i64 (uN X)) ∧ w7.cell? ⟨nb, 5, none⟩ = some (.int .i64 (uS X)) := ⟨(world_cells hW2.out).2.1, hB2.out.cell hB9e.out, hB2.out.cell hB8e.out, (six_cells hN2.out).1⟩)
          refine hK.out _ _ (by assumption) (fun hHeld => ?_)
          clear hK K
          try simp only [Act.put, pA, pB, pC]
          refine wpAnyH_ready (rs := [11]) (by kernel_rfl) (by simp) ?_
          refine AllReadyH.cons (o := ⟨some 96, .call { callee := .value (.func 58), args := #[.tmp 95], argTypes := #[85] }, 33, "law.go:79", #[⟨10, .data⟩, ⟨9, .chain⟩], none⟩) rfl (fun K hK => ?_) ?_
          · go_simp
            (go_at_call 58; refine (rPack_c 3 (uM X) false (uA X) (uN X) (uS X) hPk.out _).mono ?_; rintro e w8 ⟨rfl, hb9⟩; replace hB2 := Lib.hid (hB2.out.below hb9 hB2.out.lt); replace hW2 := Lib.hid (hW2.out.below hb9 hW2.out.lt); replace hM2 := Lib.hid (hM2.out.next hb9); replace hN2 := Lib.hid (hN2.out.below hb9 hN2.out.lt); replace hV := Lib.hid (hV.out.below hb9 hV.out.lt); replace hF2 := Lib.hid (hF2.out.trans (fr_below hb9)); clear hb9; have hY9 : w8.cell? ⟨WB, 6, none⟩ = some (.pointer (some ⟨m, 0, none⟩)) ∧ w8.cell? ⟨B, o + 9, none⟩ = some (.int .i64 z) ∧ w8.cell? ⟨B, o + 8, none⟩ = some (.pointer (some ⟨fp, 0, none⟩)) ∧ w8.cell? ⟨nb, 0, none⟩ = some (.int .i64 3) ∧ w8.cell? ⟨nb, 1, none⟩ = some (.int .i64 (uM X)) ∧ w8.cell? ⟨nb, 2, none⟩ = some (.bool false) ∧ w8.cell? ⟨nb, 3, none⟩ = some (.int .i64 (uA X)) ∧ w8.cell? ⟨nb, 4, none⟩ = some (.int .i64 (uN X)) ∧ w8.cell? ⟨nb, 5, none⟩ = some (.int .i64 (uS X)) := ⟨(world_cells hW2.out).2.1, hB2.out.cell hB9e.out, hB2.out.cell hB8e.out, (six_cells hN2.out).1⟩)
            refine hK.out _ _ (by assumption) (fun hHeld => ?_)
            clear hK K
            try simp only [Act.put, pA, pB, pC]
            refine wpAnyH_ready (rs := [12]) (by kernel_rfl) (by simp) ?_
            refine AllReadyH.cons (o := ⟨some 97, .call { callee := .value (.func 57), args := #[.tmp 88, .tmp 94, .tmp 96], argTypes := #[24, 3, 33] }, 4, "law.go:79", #[⟨3, .data⟩, ⟨9, .data⟩, ⟨11, .data⟩, ⟨11, .chain⟩], none⟩) rfl (fun K hK => ?_) ?_
            · go_simp
              (go_at_call 57; refine (store_c _ m bb M (iz : Int) hM2.out hOk.out (headN 3 (uM X) false (uA X) (uN X) (uS X))).mono ?_; rintro e w9 ⟨rfl, hM9, hF9⟩; rw [hin.out]; replace hM2 := Lib.hid hM9; replace hB2 := Lib.hid (hB2.out.fr hF9 nB); replace hW2 := Lib.hid (hW2.out.fr hF9 nW); have nNB := hNB.out; have nfB := nfp.out; replace hN2 := Lib.hid (hN2.out.fr hF9 (fun k => k.elim (fun e => nNB (.inr (.inr (.inl e)))) (fun e => nNB (.inr (.inr (.inr e)))))); replace hV := Lib.hid (hV.out.fr hF9 (fun k => k.elim (fun e => nfB (.inr (.inr (.inr (.inl e))))) (fun e => nfB (.inr (.inr (.inr (.inr e))))))); replace hF2 := Lib.hid (hF2.out.trans (hF9.mono (fun k e => .inr e))); clear hM9 hF9 nNB nfB; have hY10 : w9.cell? ⟨WB, 6, none⟩ = some (.pointer (some ⟨m, 0, none⟩)) ∧ w9.cell? ⟨B, o + 9, none⟩ = some (.int .i64 z) ∧ w9.cell? ⟨B, o + 8, none⟩ = some (.pointer (some ⟨fp, 0, none⟩)) ∧ w9.cell? ⟨nb, 0, none⟩ = some (.int .i64 3) ∧ w9.cell? ⟨nb, 1, none⟩ = some (.int .i64 (uM X)) ∧ w9.cell? ⟨nb, 2, none⟩ = some (.bool false) ∧ w9.cell? ⟨nb, 3, none⟩ = some (.int .i64 (uA X)) ∧ w9.cell? ⟨nb, 4, none⟩ = some (.int .i64 (uN X)) ∧ w9.cell? ⟨nb, 5, none⟩ = some (.int .i64 (uS X)) := ⟨(world_cells hW2.out).2.1, hB2.out.cell hB9e.out, hB2.out.cell hB8e.out, (six_cells hN2.out).1⟩)
              refine hK.out _ _ (by assumption) (fun hHeld => ?_)
              clear hK K
              try simp only [Act.put, pA, pB, pC]
              refine wpAnyH_take (i := 13) (oi := ⟨some 98, .move (.tmp 97), 4, "law.go:79", #[⟨12, .data⟩, ⟨12, .chain⟩], none⟩) (v := ?vs11) rfl (by kernel_rfl) (by kernel_rfl) (by kernel_rfl) (fun _ _ _ h => h) (Or.inl ⟨by rfl, ?hys11⟩) (by assumption) ?rss11
              case hys11 => (intro w hSw; first | (go_simp; first | done | with_reducible rfl) | ((try dsimp only at hSw); go_split_ands; go_simp; first | done | with_reducible rfl))
              case' rss11 => (try simp only [Act.put, pA, pB, pC])
              refine wpAnyH_take (i := 14) (oi := ⟨some 99, .move (.tmp 0), 141, "law.go:79", #[⟨13, .guard⟩], some (13, true)⟩) (v := ?vs12) rfl (by kernel_rfl) (by kernel_rfl) (by kernel_rfl) (fun _ _ _ h => h) (Or.inl ⟨by rfl, ?hys12⟩) (by assumption) ?rss12
              case hys12 => (intro w hSw; first | (go_simp; first | done | with_reducible rfl) | ((try dsimp only at hSw); go_split_ands; go_simp; first | done | with_reducible rfl))
              case' rss12 => (try simp only [Act.put, pA, pB, pC])
              refine wpAnyH_take (i := 15) (oi := ⟨some 100, .nilCheck (.tmp 99), 0, "law.go:79", #[⟨14, .data⟩, ⟨13, .guard⟩], some (13, true)⟩) (v := ?vs13) rfl (by kernel_rfl) (by kernel_rfl) (by kernel_rfl) (fun _ _ _ h => h) (Or.inl ⟨by rfl, ?hys13⟩) (by assumption) ?rss13
              case hys13 => (intro w hSw; first | (go_simp; first | done | with_reducible rfl) | ((try dsimp only at hSw); go_split_ands; go_simp; first | done | with_reducible rfl))
              case' rss13 => (try simp only [Act.put, pA, pB, pC])
              refine wpAnyH_take (i := 16) (oi := ⟨some 101, .fieldAddr 107 (.tmp 100) 4, 0, "law.go:79", #[⟨15, .data⟩, ⟨13, .guard⟩], some (13, true)⟩) (v := ?vs14) rfl (by kernel_rfl) (by kernel_rfl) (by kernel_rfl) (fun _ _ _ h => h) (Or.inl ⟨by rfl, ?hys14⟩) (by assumption) ?rss14
              case hys14 => (intro w hSw; first | (go_simp; first | done | with_reducible rfl) | ((try dsimp only at hSw); go_split_ands; go_simp; first | done | with_reducible rfl))
              case' rss14 => (try simp only [Act.put, pA, pB, pC])
              refine wpAnyH_take (i := 17) (oi := ⟨some 102, .load 86 (.tmp 101), 86, "law.go:79", #[⟨16, .data⟩, ⟨13, .guard⟩], some (13, true)⟩) (v := ?vs15) rfl (by kernel_rfl) (by kernel_rfl) (by kernel_rfl) (fun _ _ _ h => h) (Or.inl ⟨by rfl, ?hys15⟩) (by assumption) ?rss15
              case hys15 => (intro w hSw; first | (go_simp; first | done | with_reducible rfl) | ((try dsimp only at hSw); go_split_ands; go_simp; first | done | with_reducible rfl))
              case' rss15 => (try simp only [Act.put, pA, pB, pC])
              refine wpAnyH_take (i := 18) (oi := ⟨some 103, .binOp .neq 86 (.tmp 102) (.const (.pointer none)) 86, 4, "law.go:79", #[⟨17, .data⟩, ⟨13, .guard⟩], some (13, true)⟩) (v := ?vs16) rfl (by kernel_rfl) (by kernel_rfl) (by kernel_rfl) (fun _ _ _ h => h) (Or.inl ⟨by rfl, ?hys16⟩) (by assumption) ?rss16
              case hys16 => (intro w hSw; first | (go_simp; first | done | with_reducible rfl) | ((try dsimp only at hSw); go_split_ands; go_simp; first | done | with_reducible rfl))
              case' rss16 => (try simp only [Act.put, pA, pB, pC])
              refine wpAnyH_take (i := 19) (oi := ⟨some 104, .pick (.tmp 98) (.tmp 103) (.const (.bool false)), 4, "law.go:79", #[⟨13, .data⟩, ⟨18, .data⟩], none⟩) (v := ?vs17) rfl (by kernel_rfl) (by kernel_rfl) (by kernel_rfl) (fun _ _ _ h => h) (Or.inl ⟨by rfl, ?hys17⟩) (by assumption) ?rss17
              case hys17 => (intro w hSw; first | (go_simp; first | done | with_reducible rfl) | ((try dsimp only at hSw); go_split_ands; go_simp; first | done | with_reducible rfl))
              case' rss17 => (try simp only [Act.put, pA, pB, pC])
              refine wpAnyH_take (i := 20) (oi := ⟨some 4, .assign (.tmp 104), 4, "law.go:79", #[⟨19, .data⟩, ⟨13, .chain⟩, ⟨0, .phase⟩, ⟨1, .phase⟩, ⟨2, .phase⟩, ⟨3, .phase⟩, ⟨4, .phase⟩, ⟨5, .phase⟩, ⟨6, .phase⟩, ⟨7, .phase⟩, ⟨8, .phase⟩, ⟨9, .phase⟩, ⟨10, .phase⟩, ⟨11, .phase⟩, ⟨12, .phase⟩, ⟨13, .phase⟩, ⟨14, .phase⟩, ⟨15, .phase⟩, ⟨16, .phase⟩, ⟨17, .phase⟩, ⟨18, .phase⟩, ⟨19, .phase⟩], none⟩) (v := ?vs18) rfl (by kernel_rfl) (by kernel_rfl) (by kernel_rfl) (fun _ _ _ h => h) (Or.inl ⟨by rfl, ?hys18⟩) (by assumption) ?rss18
              case hys18 => (intro w hSw; first | (go_simp; first | done | with_reducible rfl) | ((try dsimp only at hSw); go_split_ands; go_simp; first | done | with_reducible rfl))
              case' rss18 => (try simp only [Act.put, pA, pB, pC])
              refine wpAnyH_done (by kernel_rfl) ?_ _
              clear hX' hY8 hY9 hY10
              go_wp2
              go_ret
              refine ⟨rfl, fp, gfp.out, ?_, hV.out, ?_, hF2.out⟩
              · rw [show (Value.slice (t5 (some ⟨b, q, none⟩) cc) (n - 1) (cc - 1)) = vs by rw [← hvs.out]; unfold t5; simp [Addr.add], show (Value.slice (t1 (some ⟨hb, hq, none⟩) ch) (nh - 1) (ch - 1)) = us by rw [← hus.out]; unfold t1; simp [Addr.add]]; exact hB2.out
              · rw [hXX.out, hpl.out]; exact hM2.out
            exact AllReadyH.nil
          exact AllReadyH.nil
        exact AllReadyH.nil
      exact AllReadyH.nil
    exact AllReadyH.nil
end Go.Proofs.Ytijfkpoofpcacaa.MakerW
end
section
namespace Go.Proofs.Ytijfkpoofpcacaa.MakerX
open Go.RowKit Go.Proofs.YtijfkpoofpcacaaW.PrintWords Go.Proofs.Ytijfkpoofpcacaa.Blk Go.Proofs.Ytijfkpoofpcacaa.Core Go.Proofs.Ytijfkpoofpcacaa.MemC Go.Proofs.Ytijfkpoofpcacaa.MemD Go.Proofs.Ytijfkpoofpcacaa.MemT Go.Proofs.Ytijfkpoofpcacaa.Memory Go.Proofs.Ytijfkpoofpcacaa.PlanC Go.Proofs.Ytijfkpoofpcacaa.PlanD Go.Proofs.Ytijfkpoofpcacaa.RefM Go.Proofs.Ytijfkpoofpcacaa.StackC Go.Proofs.Ytijfkpoofpcacaa.StackL Go.Proofs.Ytijfkpoofpcacaa.StackS Go.Proofs.Ytijfkpoofpcacaa.StackF Go.Proofs.Ytijfkpoofpcacaa.StackP Go.Proofs.Ytijfkpoofpcacaa.StackG Go.Proofs.Ytijfkpoofpcacaa.StackT Go.Proofs.Ytijfkpoofpcacaa.HeadC Go.Proofs.Ytijfkpoofpcacaa.ArenaC Go.Proofs.Ytijfkpoofpcacaa.ArenaM Go.Proofs.Ytijfkpoofpcacaa.ArenaP Go.Proofs.Ytijfkpoofpcacaa.ArenaL Go.Proofs.Ytijfkpoofpcacaa.ArenaR Go.Proofs.Ytijfkpoofpcacaa.ArenaQ Go.Proofs.Ytijfkpoofpcacaa.ArenaW Go.Proofs.Ytijfkpoofpcacaa.MakerL Go.Proofs.Ytijfkpoofpcacaa.MakerT Go.Proofs.Ytijfkpoofpcacaa.MakerU Go.Proofs.Ytijfkpoofpcacaa.MakerV Go.Proofs.Ytijfkpoofpcacaa.Opens
open Go.Proofs.Ytijfkpoofpcacaa.TakerS (IQ blk_one)
def MkAft (c : Cf) (w : World) (B o : Nat) (cs : Array Value) (x : Wk) (v : Value) (kd ar : Int) (w' : World) : Prop := ∃ p q r, w.heap.size ≤ r ∧ r < q ∧ q < p ∧ PopB w' q c ⟨-1, false, 0, 0, 0⟩ ∧
  Blk w' p 82 (makeA c (-1) false kd ar x.ep (.slice (some ⟨r, 0, none⟩) (roomI c) (roomI c)) (some ⟨q, 0, none⟩) 0 0 0) ∧ RowB w' (some ⟨r, 0, none⟩) (roomI c) r (roomI c) (padF 1 (fun _ => x.wd)) ∧
  Blk w' B 107 (((now5 cs o x).setIfInBounds o v).setIfInBounds (o + 7) (.pointer (some ⟨p, 0, none⟩))) ∧ Fr (fun k => k = B) w w'
theorem sl_one (w : World) (x : Int) (t : Nat) : Sl (w.alloc (.cells #[.int .u64 x] t)) (some ⟨w.heap.size, 0, none⟩) 1 1 (fun _ _ => .int .u64 x) := fun _ =>
  ⟨w.heap.size, 0, rfl, (Blk.new w t #[.int .u64 x]).lt, fun i hi j hj => by
    obtain rfl : i = 0 := by omega
    obtain rfl : j = 0 := by omega
    exact (Blk.new w t #[.int .u64 x]).cell rfl⟩
def mkK (cs : Array Value) (o : Nat) (x : Wk) (v : Value) : Array Value := (now5 cs o x).setIfInBounds o v
theorem mkK_size {cs : Array Value} {o : Nat} {x : Wk} {v : Value} : (mkK cs o x v).size = cs.size := by unfold mkK now5; simp
theorem mkK_x {cs : Array Value} {o k : Nat} {x : Wk} {v y : Value} (hk : o < k) (h : (now5 cs o x)[k]? = some y) : (mkK cs o x v)[k]? = some y := (Array.getElem?_setIfInBounds_ne (by omega)).trans h
theorem mkK_now {cs : Array Value} {o : Nat} {x : Wk} {v : Value} (h : o + 10 ≤ cs.size) : (mkK cs o x v)[o + 1]? = some (.bool x.fr) ∧ (mkK cs o x v)[o + 2]? = some (.bool x.rc) ∧ (mkK cs o x v)[o + 3]? = some (.int .u8 x.ar) ∧ (mkK cs o x v)[o + 4]? = some (.int .u8 x.ep) ∧ (mkK cs o x v)[o + 5]? = some (.int .u64 x.wd) := by
  obtain ⟨a, b, d, e, f⟩ := now5_at (x := x) h
  exact ⟨mkK_x (by omega) a, mkK_x (by omega) b, mkK_x (by omega) d, mkK_x (by omega) e, mkK_x (by omega) f⟩
theorem mkK_7 {cs : Array Value} {o : Nat} {x : Wk} {v y : Value} (h : cs[o + 7]? = some y) : (mkK cs o x v)[o + 7]? = some y := by
  unfold mkK
  rw [Array.getElem?_setIfInBounds_ne (by omega), now5_ne (by omega)]; exact h
set_option maxHeartbeats 4000000 in
set_option maxRecDepth 100000 in
theorem beginMk {c : Cf} {w : World} {B WB m RB o b q n cc : Nat} {cs : Array Value} {x : Wk} {y7 : Value} (hB : Blk w B 107 cs) (x0 : cs[o]? = some (.slice (some ⟨b, q, none⟩) n cc)) (hn : 1 ≤ n) (hc : n ≤ cc)
    (hS : o + 10 ≤ cs.size) (x7 : cs[o + 7]? = some y7) (hfr : x.fr = false) (hx : x.ok) (hbn : b ≠ B) (h0 : w.cell? ⟨b, q, none⟩ = some (.bool x.fr)) (h1 : w.cell? ⟨b, q + 1, none⟩ = some (.bool x.rc)) (h2 : w.cell? ⟨b, q + 2, none⟩ = some (.int .u8 x.ar)) (h3 : w.cell? ⟨b, q + 3, none⟩ = some (.int .u8 x.ep)) (h4 : w.cell? ⟨b, q + 4, none⟩ = some (.int .u64 x.wd))
    (hW : Blk w WB 101 (worldA c m RB)) (neW : WB ≠ B) (hr : c.right = true) :
    Calls Try.prog 89 #[.pointer (some ⟨B, o, none⟩), .pointer (some ⟨WB, 0, none⟩)] w fun e w' => e = .returned (.bool true) ∧ MkAft c w B o cs x (.slice (t5 (some ⟨b, q, none⟩) cc) (n - 1) (cc - 1)) (kdOf x) (arOf c x) w' := by
  obtain ⟨v1, e1⟩ : ∃ v, cs[o + 1]? = some v := ⟨_, Array.getElem?_eq_getElem (by omega)⟩
  obtain ⟨v2, e2⟩ : ∃ v, cs[o + 2]? = some v := ⟨_, Array.getElem?_eq_getElem (by omega)⟩
  obtain ⟨v3, e3⟩ : ∃ v, cs[o + 3]? = some v := ⟨_, Array.getElem?_eq_getElem (by omega)⟩
  obtain ⟨v4, e4⟩ : ∃ v, cs[o + 4]? = some v := ⟨_, Array.getElem?_eq_getElem (by omega)⟩
  obtain ⟨v5, e5⟩ : ∃ v, cs[o + 5]? = some v := ⟨_, Array.getElem?_eq_getElem (by omega)⟩
  have y0 := hB.cell x0
  have y1 : w.cell? ⟨B, o + 1, none⟩ = some v1 := hB.cell e1
  have y2 : w.cell? ⟨B, o + 1 + 1, none⟩ = some v2 := hB.cell e2
  have y3 : w.cell? ⟨B, o + 1 + 2, none⟩ = some v3 := hB.cell e3
  have y4 : w.cell? ⟨B, o + 1 + 3, none⟩ = some v4 := hB.cell e4
  have y5 : w.cell? ⟨B, o + 1 + 4, none⟩ = some v5 := hB.cell e5
  have z1 := hB.frozen (o + 1)
  have z2 := hB.frozen (o + 1 + 1)
  have z3 := hB.frozen (o + 1 + 2)
  have z4 := hB.frozen (o + 1 + 3)
  have z5 := hB.frozen (o + 1 + 4)
  have hn1 : (0 : Int) < (n : Int) := by omega
  have hW0 := Lib.hid hW
  clear hW
  go_enter Try.func89, Try.ntmps89
  go_upto_region 2 with (fail)
  obtain ⟨w2, ew, hB1, hF1⟩ := now5_blk (o := o) (x := x) hB
  rw [hfr] at ew
  rw [ew]
  have hW1 := Lib.hid (hW0.out.fr hF1 neW)
  clear y1 y2 y3 y4 y5 z1 z2 z3 z4 z5 e1 e2 e3 e4 e5 y0 h0 h1 h2 h3 h4 ew hW0
  have y0 : w2.cell? ⟨B, o, none⟩ = some (.slice (some ⟨b, q, none⟩) n cc) := hB1.cell (i := o) (by rw [now5_ne (by omega)]; exact x0)
  have y1 : w2.cell? ⟨B, o + 1, none⟩ = some (.bool false) := hB1.cell (i := o + 1) (by rw [(now5_at hS).1, hfr])
  have z0 := hB1.frozen o
  have hn4 : (1 : Int) ≤ (n : Int) := by omega
  have hn2 : (n : Int) ≤ (cc : Int) := by omega
  have hn3 : 0 < n := by omega
  obtain ⟨vs, hvs⟩ : ∃ vs, Value.slice (if cc = 1 then some ⟨b, q, none⟩ else some ⟨b, q + 5, none⟩) (n - 1) (cc - 1) = vs := ⟨_, rfl⟩
  have hB2 := hB1.set o vs
  have hF2 := hF1.trans (Fr.set (fun k => k = B) w2 (p := ⟨B, o, none⟩) rfl vs)
  have hW2 := hW1.out.fr (Fr.set (fun k => k = B) w2 (p := ⟨B, o, none⟩) rfl vs) neW
  rw [← hvs] at hB2 hF2 hW2
  replace hB2 := Lib.hid hB2
  replace hF2 := Lib.hid hF2
  replace hW2 := Lib.hid hW2
  replace hvs := Lib.hid hvs
  clear hB1 hF1 hW1
  go_upto_region 13 with (fail)
  generalize hvs2 : Value.slice (if cc = 1 then some ⟨b, q, none⟩ else some ⟨b, q + 5, none⟩) (n - 1) (cc - 1) = vs2 at *
  have evs : vs2 = vs := hvs.out
  subst evs
  clear hvs
  generalize hw3 : w2.setCell ⟨B, o, none⟩ vs2 = w3 at *
  clear hw3
  have et := Lib.hid (show Value.slice (t5 (some ⟨b, q, none⟩) cc) (n - 1) (cc - 1) = vs2 by rw [← hvs2]; unfold t5; simp [Addr.add])
  replace hvs2 := Lib.hid hvs2
  replace hB2 := Lib.hid (show Blk w3 B 107 (mkK cs o x vs2) from hB2.out)
  have hrI := right_iff.1 hr
  have j1 := mkK_now (x := x) (v := vs2) hS
  have y2 : w3.cell? ⟨B, o + 1 + 1, none⟩ = some (.bool x.rc) := hB2.out.cell j1.2.1
  have y3 : w3.cell? ⟨B, o + 1 + 2, none⟩ = some (.int .u8 x.ar) := hB2.out.cell j1.2.2.1
  have k1 := (world_cells hW2.out).1.2.1
  have a0 : (0 : Int) ≤ c.A := by omega
  have a1 : c.A ≤ 8 := by omega
  have a2 := hx.1.1
  have a3 := hx.1.2
  clear j1
  have s1 : IntKind.i64.wrap (c.A + 1) = c.A + 1 := IntWalk.i64_in _ (by omega)
  have s2 : ¬ c.A + 1 = 0 := by omega
  have s3 : Int.tmod x.ar (c.A + 1) = x.ar % (c.A + 1) := Int.tmod_eq_emod_of_nonneg a2
  go_quiet (fail)
  clear s1 s2 s3 y3 k1
  have y2' : (w3.drewN nq).cell? ⟨B, o + 1 + 1, none⟩ = some (.bool x.rc) := hB2.out.cell (mkK_now (x := x) (v := vs2) hS).2.1
  generalize hw4 : w3.drewN nq = w4 at *
  replace hB2 := Lib.hid (show Blk w4 B 107 (mkK cs o x vs2) from hw4 ▸ hB2.out.drewN nq)
  replace hW2 := Lib.hid (show Blk w4 WB 101 (worldA c m RB) from hw4 ▸ hW2.out.drewN nq)
  replace hF2 := Lib.hid (show Fr (fun k => k = B) w w4 from hw4 ▸ hF2.out.trans (Fr.drewN _ w3 nq))
  clear hw4 y2
  obtain ⟨kd, ekd⟩ : ∃ kd : Int, kdOf x = kd := ⟨_, rfl⟩
  obtain ⟨ar, ear⟩ : ∃ ar : Int, arOf c x = ar := ⟨_, rfl⟩
  have hcan : canM c kd ar 1 := by
    have hm := Int.emod_lt_of_pos x.ar (show (0 : Int) < c.A + 1 by omega)
    have hm0 := Int.emod_nonneg x.ar (show c.A + 1 ≠ 0 by omega)
    have := (room_i hr).1
    cases hrc : x.rc with
    | true => unfold kdOf at ekd; unfold arOf at ear; rw [hrc] at ekd ear; simp at ekd ear; exact ⟨hr, by omega, by omega, .inr ⟨by omega, by omega⟩⟩
    | false => unfold kdOf at ekd; unfold arOf at ear; rw [hrc] at ekd ear; simp at ekd ear; exact ⟨hr, by omega, by omega, .inl ⟨by omega, by omega⟩⟩
  replace hcan := Lib.hid hcan
  replace ekd := Lib.hid ekd
  replace ear := Lib.hid ear
  go_upto_if 122 with (fail)
  go_cut [7, 8] (fun v7 v8 wx => v7 = .int .i64 kd ∧ v8 = .int .i64 ar ∧ wx = w4)
  case first =>
    cases hrc : x.rc with
    | true =>
      have e1 := ekd.out
      have e2 := ear.out
      unfold kdOf at e1
      unfold arOf at e2
      rw [hrc] at e1 e2
      simp at e1 e2
      replace hrc := Lib.hid hrc
      replace e1 := Lib.hid e1
      replace e2 := Lib.hid e2
      go_wp2
      go_meet
      case rel => exact ⟨by rw [← e1.out], by rw [← e2.out], rfl⟩
    | false =>
      have e1 := ekd.out
      have e2 := ear.out
      unfold kdOf at e1
      unfold arOf at e2
      rw [hrc] at e1 e2
      simp at e1 e2
      replace hrc := Lib.hid hrc
      replace e1 := Lib.hid e1
      replace e2 := Lib.hid e2
      go_wp2
      go_meet
      case rel => exact ⟨by rw [← e1.out], by rw [← e2.out], rfl⟩
  case rest =>
    obtain ⟨rfl, rfl, hwc⟩ := hcut
    obtain rfl : w4 = wc := hwc.symm
    clear y2' y0 y1 z0
    have sw : IntKind.u64.wrap x.ep = x.ep := wrap_u64_id x.ep hx.2.1.1 (by have := hx.2.1.2; omega)
    go_upto_region 17 with (fail)
    replace hB2 := Lib.hid hB2.out.drew
    replace hW2 := Lib.hid hW2.out.drew
    replace hF2 := Lib.hid (hF2.out.trans (Fr.drew _ w4))
    have hX' : w4.drew.cell? ⟨WB, 0, none⟩ = some (.int .i64 c.S) ∧ w4.drew.cell? ⟨WB, 1, none⟩ = some (.int .i64 c.A) ∧ w4.drew.cell? ⟨WB, 2, none⟩ = some (.int .i64 c.C) ∧ w4.drew.cell? ⟨WB, 3, none⟩ = some (.int .i64 c.H) ∧ w4.drew.cell? ⟨WB, 4, none⟩ = some (.int .i64 c.G) ∧ w4.drew.cell? ⟨WB, 5, none⟩ = some (.int .i64 c.K) ∧ w4.drew.cell? ⟨B, o + 1 + 3, none⟩ = some (.int .u8 x.ep) ∧ w4.drew.cell? ⟨B, o + 1 + 4, none⟩ = some (.int .u64 x.wd) := by
      have j0 := world_cells hW2.out
      have j1 := mkK_now (x := x) (v := vs2) hS
      exact ⟨j0.1.1, j0.1.2.1, j0.1.2.2.1, j0.1.2.2.2.1, j0.1.2.2.2.2.1, j0.1.2.2.2.2.2, hB2.out.cell j1.2.2.2.1, hB2.out.cell j1.2.2.2.2⟩
    refine wp_region_held_drew (S := fun w' => w'.cell? ⟨WB, 0, none⟩ = some (.int .i64 c.S) ∧ w'.cell? ⟨WB, 1, none⟩ = some (.int .i64 c.A) ∧ w'.cell? ⟨WB, 2, none⟩ = some (.int .i64 c.C) ∧ w'.cell? ⟨WB, 3, none⟩ = some (.int .i64 c.H) ∧ w'.cell? ⟨WB, 4, none⟩ = some (.int .i64 c.G) ∧ w'.cell? ⟨WB, 5, none⟩ = some (.int .i64 c.K) ∧ w'.cell? ⟨B, o + 1 + 3, none⟩ = some (.int .u8 x.ep) ∧ w'.cell? ⟨B, o + 1 + 4, none⟩ = some (.int .u64 x.wd)) (by kernel_rfl) hX' (fun hHeld => ?_)
    generalize w4.drew = w4d at *
    refine wpAnyH_take (i := 0) (oi := ⟨some 123, .move (.tmp 0), 141, "law.go:86", #[], none⟩) (v := ?_) rfl (by kernel_rfl) (by kernel_rfl) (by kernel_rfl) (fun _ _ _ h => h) (Or.inl ⟨by rfl, ?_⟩) (by assumption) ?_
    rotate_left 1
    focus (intro w hSw; first | (go_simp; first | done | with_reducible rfl) | ((try dsimp only at hSw); go_split_ands; go_simp; first | done | with_reducible rfl))
    try simp only [Act.put, pA, pB, pC]
    refine wpAnyH_take (i := 1) (oi := ⟨some 124, .move (.tmp 1), 99, "law.go:86", #[], none⟩) (v := ?_) rfl (by kernel_rfl) (by kernel_rfl) (by kernel_rfl) (fun _ _ _ h => h) (Or.inl ⟨by rfl, ?_⟩) (by assumption) ?_
    rotate_left 1
    focus (intro w hSw; first | (go_simp; first | done | with_reducible rfl) | ((try dsimp only at hSw); go_split_ands; go_simp; first | done | with_reducible rfl))
    try simp only [Act.put, pA, pB, pC]
    refine wpAnyH_take (i := 2) (oi := ⟨some 125, .nilCheck (.tmp 124), 0, "law.go:86", #[⟨1, .data⟩], none⟩) (v := ?_) rfl (by kernel_rfl) (by kernel_rfl) (by kernel_rfl) (fun _ _ _ h => h) (Or.inl ⟨by rfl, ?_⟩) (by assumption) ?_
    rotate_left 1
    focus (intro w hSw; first | (go_simp; first | done | with_reducible rfl) | ((try dsimp only at hSw); go_split_ands; go_simp; first | done | with_reducible rfl))
    try simp only [Act.put, pA, pB, pC]
    refine wpAnyH_take (i := 3) (oi := ⟨some 126, .fieldAddr 101 (.tmp 125) 0, 0, "law.go:86", #[⟨2, .data⟩], none⟩) (v := ?_) rfl (by kernel_rfl) (by kernel_rfl) (by kernel_rfl) (fun _ _ _ h => h) (Or.inl ⟨by rfl, ?_⟩) (by assumption) ?_
    rotate_left 1
    focus (intro w hSw; first | (go_simp; first | done | with_reducible rfl) | ((try dsimp only at hSw); go_split_ands; go_simp; first | done | with_reducible rfl))
    try simp only [Act.put, pA, pB, pC]
    refine wpAnyH_take (i := 4) (oi := ⟨some 127, .load 23 (.tmp 126), 23, "law.go:86", #[⟨3, .data⟩], none⟩) (v := ?_) rfl (by kernel_rfl) (by kernel_rfl) (by kernel_rfl) (fun _ _ _ h => h) (Or.inl ⟨by rfl, ?_⟩) (by assumption) ?_
    rotate_left 1
    focus (intro w hSw; first | (go_simp; first | done | with_reducible rfl) | ((try dsimp only at hSw); go_split_ands; go_simp; first | done | with_reducible rfl))
    try simp only [Act.put, pA, pB, pC]
    refine wpAnyH_take (i := 5) (oi := ⟨some 128, .move (.tmp 7), 3, "law.go:86", #[], none⟩) (v := ?_) rfl (by kernel_rfl) (by kernel_rfl) (by kernel_rfl) (fun _ _ _ h => h) (Or.inl ⟨by rfl, ?_⟩) (by assumption) ?_
    rotate_left 1
    focus (intro w hSw; first | (go_simp; first | done | with_reducible rfl) | ((try dsimp only at hSw); go_split_ands; go_simp; first | done | with_reducible rfl))
    try simp only [Act.put, pA, pB, pC]
    refine wpAnyH_take (i := 6) (oi := ⟨some 129, .move (.tmp 8), 3, "law.go:86", #[], none⟩) (v := ?_) rfl (by kernel_rfl) (by kernel_rfl) (by kernel_rfl) (fun _ _ _ h => h) (Or.inl ⟨by rfl, ?_⟩) (by assumption) ?_
    rotate_left 1
    focus (intro w hSw; first | (go_simp; first | done | with_reducible rfl) | ((try dsimp only at hSw); go_split_ands; go_simp; first | done | with_reducible rfl))
    try simp only [Act.put, pA, pB, pC]
    refine wpAnyH_take (i := 7) (oi := ⟨some 130, .move (.tmp 0), 141, "law.go:86", #[], none⟩) (v := ?_) rfl (by kernel_rfl) (by kernel_rfl) (by kernel_rfl) (fun _ _ _ h => h) (Or.inl ⟨by rfl, ?_⟩) (by assumption) ?_
    rotate_left 1
    focus (intro w hSw; first | (go_simp; first | done | with_reducible rfl) | ((try dsimp only at hSw); go_split_ands; go_simp; first | done | with_reducible rfl))
    try simp only [Act.put, pA, pB, pC]
    refine wpAnyH_take (i := 8) (oi := ⟨some 131, .nilCheck (.tmp 130), 0, "law.go:86", #[⟨7, .data⟩], none⟩) (v := ?_) rfl (by kernel_rfl) (by kernel_rfl) (by kernel_rfl) (fun _ _ _ h => h) (Or.inl ⟨by rfl, ?_⟩) (by assumption) ?_
    rotate_left 1
    focus (intro w hSw; first | (go_simp; first | done | with_reducible rfl) | ((try dsimp only at hSw); go_split_ands; go_simp; first | done | with_reducible rfl))
    try simp only [Act.put, pA, pB, pC]
    refine wpAnyH_take (i := 9) (oi := ⟨some 132, .fieldAddr 107 (.tmp 131) 1, 0, "law.go:86", #[⟨8, .data⟩], none⟩) (v := ?_) rfl (by kernel_rfl) (by kernel_rfl) (by kernel_rfl) (fun _ _ _ h => h) (Or.inl ⟨by rfl, ?_⟩) (by assumption) ?_
    rotate_left 1
    focus (intro w hSw; first | (go_simp; first | done | with_reducible rfl) | ((try dsimp only at hSw); go_split_ands; go_simp; first | done | with_reducible rfl))
    try simp only [Act.put, pA, pB, pC]
    refine wpAnyH_take (i := 10) (oi := ⟨some 133, .fieldAddr 105 (.tmp 132) 3, 0, "law.go:86", #[⟨9, .data⟩], none⟩) (v := ?_) rfl (by kernel_rfl) (by kernel_rfl) (by kernel_rfl) (fun _ _ _ h => h) (Or.inl ⟨by rfl, ?_⟩) (by assumption) ?_
    rotate_left 1
    focus (intro w hSw; first | (go_simp; first | done | with_reducible rfl) | ((try dsimp only at hSw); go_split_ands; go_simp; first | done | with_reducible rfl))
    try simp only [Act.put, pA, pB, pC]
    refine wpAnyH_take (i := 11) (oi := ⟨some 134, .load 5 (.tmp 133), 5, "law.go:86", #[⟨10, .data⟩], none⟩) (v := ?_) rfl (by kernel_rfl) (by kernel_rfl) (by kernel_rfl) (fun _ _ _ h => h) (Or.inl ⟨by rfl, ?_⟩) (by assumption) ?_
    rotate_left 1
    focus (intro w hSw; first | (go_simp; first | done | with_reducible rfl) | ((try dsimp only at hSw); go_split_ands; go_simp; first | done | with_reducible rfl))
    try simp only [Act.put, pA, pB, pC]
    refine wpAnyH_take (i := 12) (oi := ⟨some 135, .convert 5 33 (.tmp 134), 33, "law.go:86", #[⟨11, .data⟩], none⟩) (v := ?_) rfl (by kernel_rfl) (by kernel_rfl) (by kernel_rfl) (fun _ _ _ h => h) (Or.inl ⟨by rfl, ?_⟩) (by assumption) ?_
    rotate_left 1
    focus (intro w hSw; first | (go_simp; first | done | with_reducible rfl) | ((try dsimp only at hSw); go_split_ands; go_simp; first | done | with_reducible rfl))
    try simp only [Act.put, pA, pB, pC]
    refine wpAnyH_take (i := 13) (oi := ⟨some 136, .move (.tmp 0), 141, "law.go:86", #[], none⟩) (v := ?_) rfl (by kernel_rfl) (by kernel_rfl) (by kernel_rfl) (fun _ _ _ h => h) (Or.inl ⟨by rfl, ?_⟩) (by assumption) ?_
    rotate_left 1
    focus (intro w hSw; first | (go_simp; first | done | with_reducible rfl) | ((try dsimp only at hSw); go_split_ands; go_simp; first | done | with_reducible rfl))
    try simp only [Act.put, pA, pB, pC]
    refine wpAnyH_take (i := 14) (oi := ⟨some 137, .nilCheck (.tmp 136), 0, "law.go:86", #[⟨13, .data⟩], none⟩) (v := ?_) rfl (by kernel_rfl) (by kernel_rfl) (by kernel_rfl) (fun _ _ _ h => h) (Or.inl ⟨by rfl, ?_⟩) (by assumption) ?_
    rotate_left 1
    focus (intro w hSw; first | (go_simp; first | done | with_reducible rfl) | ((try dsimp only at hSw); go_split_ands; go_simp; first | done | with_reducible rfl))
    try simp only [Act.put, pA, pB, pC]
    refine wpAnyH_take (i := 15) (oi := ⟨some 138, .fieldAddr 107 (.tmp 137) 1, 0, "law.go:86", #[⟨14, .data⟩], none⟩) (v := ?_) rfl (by kernel_rfl) (by kernel_rfl) (by kernel_rfl) (fun _ _ _ h => h) (Or.inl ⟨by rfl, ?_⟩) (by assumption) ?_
    rotate_left 1
    focus (intro w hSw; first | (go_simp; first | done | with_reducible rfl) | ((try dsimp only at hSw); go_split_ands; go_simp; first | done | with_reducible rfl))
    try simp only [Act.put, pA, pB, pC]
    refine wpAnyH_take (i := 16) (oi := ⟨some 139, .fieldAddr 105 (.tmp 138) 4, 0, "law.go:86", #[⟨15, .data⟩], none⟩) (v := ?_) rfl (by kernel_rfl) (by kernel_rfl) (by kernel_rfl) (fun _ _ _ h => h) (Or.inl ⟨by rfl, ?_⟩) (by assumption) ?_
    rotate_left 1
    focus (intro w hSw; first | (go_simp; first | done | with_reducible rfl) | ((try dsimp only at hSw); go_split_ands; go_simp; first | done | with_reducible rfl))
    try simp only [Act.put, pA, pB, pC]
    refine wpAnyH_take (i := 17) (oi := ⟨some 140, .load 33 (.tmp 139), 33, "law.go:86", #[⟨16, .data⟩], none⟩) (v := ?_) rfl (by kernel_rfl) (by kernel_rfl) (by kernel_rfl) (fun _ _ _ h => h) (Or.inl ⟨by rfl, ?_⟩) (by assumption) ?_
    rotate_left 1
    focus (intro w hSw; first | (go_simp; first | done | with_reducible rfl) | ((try dsimp only at hSw); go_split_ands; go_simp; first | done | with_reducible rfl))
    try simp only [Act.put, pA, pB, pC]
    refine wpAnyH_ready (rs := [18]) (by kernel_rfl) (by simp) ?_
    refine AllReadyH.cons (o := ⟨some 141, .buildSlice 29 1 #[(0, .tmp 140)], 29, "law.go:86", #[⟨17, .data⟩], none⟩) rfl (fun K hK => ?_) ?_
    · go_simp
      (have hb9 := Below.alloc (Below.refl w4d.heap.size w4d) (Nat.le_refl _) (.cells #[.int .u64 x.wd] 33); have hSl := sl_one w4d x.wd 33; obtain ⟨wz, hwz⟩ : ∃ wz, w4d.alloc (.cells #[.int .u64 x.wd] 33) = wz := ⟨_, rfl⟩; rw [hwz] at hSl hb9; (try simp only [hwz]); have hSl := Lib.hid hSl; replace hB2 := Lib.hid (hB2.out.below hb9 hB2.out.lt); replace hW2 := Lib.hid (hW2.out.below hb9 hW2.out.lt); replace hF2 := Lib.hid (hF2.out.trans (fr_below hb9)); clear hb9 hwz; generalize w4d.heap.size = nz at *; have hY1 : wz.cell? ⟨WB, 0, none⟩ = some (.int .i64 c.S) ∧ wz.cell? ⟨WB, 1, none⟩ = some (.int .i64 c.A) ∧ wz.cell? ⟨WB, 2, none⟩ = some (.int .i64 c.C) ∧ wz.cell? ⟨WB, 3, none⟩ = some (.int .i64 c.H) ∧ wz.cell? ⟨WB, 4, none⟩ = some (.int .i64 c.G) ∧ wz.cell? ⟨WB, 5, none⟩ = some (.int .i64 c.K) ∧ wz.cell? ⟨B, o + 1 + 3, none⟩ = some (.int .u8 x.ep) ∧ wz.cell? ⟨B, o + 1 + 4, none⟩ = some (.int .u64 x.wd) := by (have j0 := world_cells hW2.out; have j1 := mkK_now (x := x) (v := vs2) hS; exact ⟨j0.1.1, j0.1.2.1, j0.1.2.2.1, j0.1.2.2.2.1, j0.1.2.2.2.2.1, j0.1.2.2.2.2.2, hB2.out.cell j1.2.2.2.1, hB2.out.cell j1.2.2.2.2⟩))
      refine hK.out _ _ (by assumption) (fun hHeld => ?_)
      clear hK K
      try simp only [Act.put, pA, pB, pC]
      refine wpAnyH_ready (rs := [19]) (by kernel_rfl) (by simp) ?_
      refine AllReadyH.cons (o := ⟨some 142, .call { callee := .value (.func 51), args := #[.tmp 127, .tmp 128, .tmp 129, .tmp 135, .tmp 141], argTypes := #[23, 3, 3, 33, 29] }, 79, "law.go:86", #[⟨4, .data⟩, ⟨5, .data⟩, ⟨6, .data⟩, ⟨12, .data⟩, ⟨18, .data⟩], none⟩) rfl (fun K hK => ?_) ?_
      · go_simp
        (go_at_call 51; (with_reducible refine (newMakeC c _ kd ar x.ep (some ⟨nz, 0, none⟩) 1 1 (fun _ => x.wd) hSl.out hcan.out).mono ?_); rintro e w5 ⟨p, qq, r, rfl, g1, g2, g3, hP, hV, hR, hb9⟩; have l5 := hF2.out.size; have l2 := hB2.out.lt; have l4 := hW2.out.lt; have g4 := hV.lt; have hne := Lib.hid (show w.heap.size ≤ r ∧ r < qq ∧ qq < p ∧ p ≠ B ∧ qq ≠ B ∧ r ≠ B from ⟨by omega, g2, g3, by omega, by omega, by omega⟩); replace hB2 := Lib.hid (hB2.out.below hb9 hB2.out.lt); replace hW2 := Lib.hid (hW2.out.below hb9 hW2.out.lt); replace hF2 := Lib.hid (hF2.out.trans (fr_below hb9)); have hP := Lib.hid hP; have hV := Lib.hid hV; have hR := Lib.hid hR; clear hb9 l5 l2 l4 g1 g2 g3 g4; have hY2 : w5.cell? ⟨WB, 0, none⟩ = some (.int .i64 c.S) ∧ w5.cell? ⟨WB, 1, none⟩ = some (.int .i64 c.A) ∧ w5.cell? ⟨WB, 2, none⟩ = some (.int .i64 c.C) ∧ w5.cell? ⟨WB, 3, none⟩ = some (.int .i64 c.H) ∧ w5.cell? ⟨WB, 4, none⟩ = some (.int .i64 c.G) ∧ w5.cell? ⟨WB, 5, none⟩ = some (.int .i64 c.K) ∧ w5.cell? ⟨B, o + 1 + 3, none⟩ = some (.int .u8 x.ep) ∧ w5.cell? ⟨B, o + 1 + 4, none⟩ = some (.int .u64 x.wd) := by (have j0 := world_cells hW2.out; have j1 := mkK_now (x := x) (v := vs2) hS; exact ⟨j0.1.1, j0.1.2.1, j0.1.2.2.1, j0.1.2.2.2.1, j0.1.2.2.2.2.1, j0.1.2.2.2.2.2, hB2.out.cell j1.2.2.2.1, hB2.out.cell j1.2.2.2.2⟩))
        refine hK.out _ _ (by assumption) (fun hHeld => ?_)
        clear hK K
        try simp only [Act.put, pA, pB, pC]
        refine wpAnyH_take (i := 20) (oi := ⟨some 143, .nilCheck (.tmp 123), 0, "law.go:86", #[⟨0, .data⟩, ⟨0, .phase⟩, ⟨1, .phase⟩, ⟨2, .phase⟩, ⟨3, .phase⟩, ⟨4, .phase⟩, ⟨5, .phase⟩, ⟨6, .phase⟩, ⟨7, .phase⟩, ⟨8, .phase⟩, ⟨9, .phase⟩, ⟨10, .phase⟩, ⟨11, .phase⟩, ⟨12, .phase⟩, ⟨13, .phase⟩, ⟨14, .phase⟩, ⟨15, .phase⟩, ⟨16, .phase⟩, ⟨17, .phase⟩, ⟨18, .phase⟩, ⟨19, .phase⟩], none⟩) (v := ?_) rfl (by kernel_rfl) (by kernel_rfl) (by kernel_rfl) (fun _ _ _ h => h) (Or.inl ⟨by rfl, ?_⟩) (by assumption) ?_
        rotate_left 1
        focus (intro w hSw; first | (go_simp; first | done | with_reducible rfl) | ((try dsimp only at hSw); go_split_ands; go_simp; first | done | with_reducible rfl))
        try simp only [Act.put, pA, pB, pC]
        refine wpAnyH_take (i := 21) (oi := ⟨some 144, .fieldAddr 107 (.tmp 143) 3, 0, "law.go:86", #[⟨20, .data⟩, ⟨0, .phase⟩, ⟨1, .phase⟩, ⟨2, .phase⟩, ⟨3, .phase⟩, ⟨4, .phase⟩, ⟨5, .phase⟩, ⟨6, .phase⟩, ⟨7, .phase⟩, ⟨8, .phase⟩, ⟨9, .phase⟩, ⟨10, .phase⟩, ⟨11, .phase⟩, ⟨12, .phase⟩, ⟨13, .phase⟩, ⟨14, .phase⟩, ⟨15, .phase⟩, ⟨16, .phase⟩, ⟨17, .phase⟩, ⟨18, .phase⟩, ⟨19, .phase⟩], none⟩) (v := ?_) rfl (by kernel_rfl) (by kernel_rfl) (by kernel_rfl) (fun _ _ _ h => h) (Or.inl ⟨by rfl, ?_⟩) (by assumption) ?_
        rotate_left 1
        focus (intro w hSw; first | (go_simp; first | done | with_reducible rfl) | ((try dsimp only at hSw); go_split_ands; go_simp; first | done | with_reducible rfl))
        try simp only [Act.put, pA, pB, pC]
        refine wpAnyH_ready (rs := [22]) (by kernel_rfl) (by simp) ?_
        refine AllReadyH.cons (o := ⟨none, .store 79 (.tmp 144) (.tmp 142), 0, "law.go:86", #[⟨21, .data⟩, ⟨19, .data⟩, ⟨19, .chain⟩, ⟨0, .phase⟩, ⟨1, .phase⟩, ⟨2, .phase⟩, ⟨3, .phase⟩, ⟨4, .phase⟩, ⟨5, .phase⟩, ⟨6, .phase⟩, ⟨7, .phase⟩, ⟨8, .phase⟩, ⟨9, .phase⟩, ⟨10, .phase⟩, ⟨11, .phase⟩, ⟨12, .phase⟩, ⟨13, .phase⟩, ⟨14, .phase⟩, ⟨15, .phase⟩, ⟨16, .phase⟩, ⟨17, .phase⟩, ⟨18, .phase⟩, ⟨19, .phase⟩], none⟩) rfl (fun K hK => ?_) ?_
        · have v7 := hB2.out.cell (mkK_7 (x := x) (v := vs2) x7); have q7 := hB2.out.frozen (o + 7); go_simp
          (have hB3 := hB2.out.set (o + 7) (.pointer (some ⟨p, 0, none⟩)); have hF3 := Fr.set (fun k => k = B) w5 (p := ⟨B, o + 7, none⟩) rfl (.pointer (some ⟨p, 0, none⟩)); obtain ⟨w6, hw6⟩ : ∃ w6, w5.setCell ⟨B, o + 7, none⟩ (.pointer (some ⟨p, 0, none⟩)) = w6 := ⟨_, rfl⟩; rw [hw6] at hB3 hF3; (try simp only [hw6]); have nn := hne.out; have hW3 := hW2.out.fr hF3 neW; have hY3 : w6.cell? ⟨WB, 0, none⟩ = some (.int .i64 c.S) ∧ w6.cell? ⟨WB, 1, none⟩ = some (.int .i64 c.A) ∧ w6.cell? ⟨WB, 2, none⟩ = some (.int .i64 c.C) ∧ w6.cell? ⟨WB, 3, none⟩ = some (.int .i64 c.H) ∧ w6.cell? ⟨WB, 4, none⟩ = some (.int .i64 c.G) ∧ w6.cell? ⟨WB, 5, none⟩ = some (.int .i64 c.K) ∧ w6.cell? ⟨B, o + 1 + 3, none⟩ = some (.int .u8 x.ep) ∧ w6.cell? ⟨B, o + 1 + 4, none⟩ = some (.int .u64 x.wd) := (by have j0 := world_cells hW3; have j1 := mkK_now (x := x) (v := vs2) hS; exact ⟨j0.1.1, j0.1.2.1, j0.1.2.2.1, j0.1.2.2.2.1, j0.1.2.2.2.2.1, j0.1.2.2.2.2.2, hB3.cell (i := o + 4) ((Array.getElem?_setIfInBounds_ne (by omega)).trans j1.2.2.2.1), hB3.cell (i := o + 5) ((Array.getElem?_setIfInBounds_ne (by omega)).trans j1.2.2.2.2)⟩); have y7' : w6.cell? ⟨B, o + 7, none⟩ = some (.pointer (some ⟨p, 0, none⟩)) := hB3.cell (Array.getElem?_setIfInBounds_self_of_lt (by rw [mkK_size]; omega)); replace hB2 := Lib.hid hB3; replace hP := Lib.hid (Blk.fr hP.out hF3 nn.2.2.2.2.1); replace hV := Lib.hid (hV.out.fr hF3 nn.2.2.2.1); replace hR := Lib.hid (hR.out.fr hF3 nn.2.2.2.2.2); replace hF2 := Lib.hid (hF2.out.trans hF3); clear hw6 hF3 v7 q7 hY2 nn hW3)
          refine hK.out _ _ (by assumption) (fun hHeld => ?_)
          clear hK K
          try simp only [Act.put, pA, pB, pC]
          refine wpAnyH_done (by kernel_rfl) ?_ _
          clear hX' hY3 sw
          have hvx := y7'
          go_wp2
          go_ret
          refine ⟨rfl, p, qq, r, hne.out.1, hne.out.2.1, hne.out.2.2.1, hP.out, ?_, hR.out, ?_, hF2.out⟩
          · rw [ekd.out, ear.out]; exact hV.out
          · rw [show (Value.slice (t5 (some ⟨b, q, none⟩) cc) (n - 1) (cc - 1)) = vs2 from et.out]; exact hB2.out
        exact AllReadyH.nil
      exact AllReadyH.nil
    exact AllReadyH.nil
end Go.Proofs.Ytijfkpoofpcacaa.MakerX
end
section
namespace Go.Proofs.Ytijfkpoofpcacaa.MakerA
open Go.RowKit Go.Proofs.YtijfkpoofpcacaaW.PrintWords Go.Proofs.Ytijfkpoofpcacaa.Blk Go.Proofs.Ytijfkpoofpcacaa.Core Go.Proofs.Ytijfkpoofpcacaa.MemC Go.Proofs.Ytijfkpoofpcacaa.MemD Go.Proofs.Ytijfkpoofpcacaa.MemT Go.Proofs.Ytijfkpoofpcacaa.Memory Go.Proofs.Ytijfkpoofpcacaa.PlanC Go.Proofs.Ytijfkpoofpcacaa.PlanD Go.Proofs.Ytijfkpoofpcacaa.RefM Go.Proofs.Ytijfkpoofpcacaa.StackC Go.Proofs.Ytijfkpoofpcacaa.StackL Go.Proofs.Ytijfkpoofpcacaa.StackS Go.Proofs.Ytijfkpoofpcacaa.StackF Go.Proofs.Ytijfkpoofpcacaa.StackP Go.Proofs.Ytijfkpoofpcacaa.StackG Go.Proofs.Ytijfkpoofpcacaa.StackT Go.Proofs.Ytijfkpoofpcacaa.HeadC Go.Proofs.Ytijfkpoofpcacaa.ArenaC Go.Proofs.Ytijfkpoofpcacaa.ArenaM Go.Proofs.Ytijfkpoofpcacaa.ArenaP Go.Proofs.Ytijfkpoofpcacaa.ArenaL Go.Proofs.Ytijfkpoofpcacaa.ArenaR Go.Proofs.Ytijfkpoofpcacaa.ArenaQ Go.Proofs.Ytijfkpoofpcacaa.ArenaU Go.Proofs.Ytijfkpoofpcacaa.ArenaW Go.Proofs.Ytijfkpoofpcacaa.ArenaY Go.Proofs.Ytijfkpoofpcacaa.MakerL Go.Proofs.Ytijfkpoofpcacaa.MakerM Go.Proofs.Ytijfkpoofpcacaa.MakerF Go.Proofs.Ytijfkpoofpcacaa.MakerT Go.Proofs.Ytijfkpoofpcacaa.MakerU Go.Proofs.Ytijfkpoofpcacaa.MakerV Go.Proofs.Ytijfkpoofpcacaa.MakerW Go.Proofs.Ytijfkpoofpcacaa.MakerX Go.Proofs.Ytijfkpoofpcacaa.Opens
open Go.Proofs.Ytijfkpoofpcacaa.TakerS (IQ blk_one fr_grown)
def StAft (c : Cf) (w0 w : World) (lo B WB RB m b K N n : Nat) (t : Int) (w' : World) : Prop := ∃ (M' : Ms) (t' : Int) (L' : List Int) (T' : Nat → Mr) (own' : Int → Nat) (μ' : Int → Int), t' ≤ t + 1 ∧ MemB w' m b M' ∧ Fine M' N (n + 1) ∧ AB c w0 w' lo B WB RB m b K T' μ' ∧ AI c M'.f t' L' K T' own' μ' ∧ Below lo w w'
theorem WV.first {w0 : World} {v : Value} {A : Option Addr} {n cc : Nat} (h : WV w0 v) (e : v = .slice A n cc) (hn : 0 < n) : n ≤ cc ∧ ∃ (b q : Nat) (x : Wk), A = some ⟨b, q, none⟩ ∧ x.ok ∧ b < w0.heap.size ∧ w0.cell? ⟨b, q, none⟩ = some (.bool x.fr) ∧ w0.cell? ⟨b, q + 1, none⟩ = some (.bool x.rc) ∧ w0.cell? ⟨b, q + 2, none⟩ = some (.int .u8 x.ar) ∧ w0.cell? ⟨b, q + 3, none⟩ = some (.int .u8 x.ep) ∧ w0.cell? ⟨b, q + 4, none⟩ = some (.int .u64 x.wd) ∧
    WV w0 (.slice (t5 (some ⟨b, q, none⟩) cc) (n - 1) (cc - 1)) := by
  obtain ⟨A', n', c', g, e', h1, h2, h3⟩ := h
  rw [e] at e'
  injection e' with e1 e2 e3
  subst e1 e2 e3
  obtain ⟨b, q, e4, h4, h5⟩ := h3 hn
  have hc := fun j hj => h5 0 hn j hj
  simp only [Nat.zero_mul, Nat.add_zero] at hc
  refine ⟨h1, b, q, g 0, e4, h2 0 hn, h4, hc 0 (by decide), hc 1 (by decide), hc 2 (by decide), hc 3 (by decide), hc 4 (by decide), ?_⟩
  refine ⟨_, _, _, fun j => g (j + 1), rfl, by omega, fun j hj => h2 (j + 1) (by omega), fun hn1 => ?_⟩
  refine ⟨b, q + 5, ?_, h4, fun i hi j hj => ?_⟩
  · unfold t5
    rw [if_neg (by omega)]
    simp [Addr.add]
  · have := h5 (i + 1) (by omega) j hj
    rw [show q + 5 + i * 5 + j = q + (i + 1) * 5 + j by omega]
    exact this
theorem foot_hv {T : Nat → Mr} {i : Nat} {k : Nat} (h : (T i).hv.ownBlock = some k) : foot (T i) k := .inr (.inr h)
section
variable {c : Cf} (hr : c.right = true) {w0 w : World} {lo B WB RB m b K N n i : Nat} {M : Ms} {t : Int} {L : List Int} {T : Nat → Mr} {own : Int → Nat} {μ : Int → Int}
  (hM : MemB w m b M) (hf : Fine M N n) (hn : n ≤ 1000000) (hNs : (N : Int) = c.size) (hB : AB c w0 w lo B WB RB m b K T μ) (hI : AI c M.f t L K T own μ) (hi : i < K) (hW0 : Below w0.heap.size w0 w) (hl0 : w0.heap.size ≤ lo)
include hr hM hf hn hNs hB hI hi hW0 hl0
theorem stBegin (h1 : (T i).ma = none) (h2 : (T i).fe = none) {A : Option Addr} {l cc : Nat} (ewv : (T i).wv = .slice A l cc) (hl : 0 < l) : Calls Try.prog 89 #[.pointer (some ⟨B, 10 * i, none⟩), .pointer (some ⟨WB, 0, none⟩)] w fun e w' => e = .returned (.bool true) ∧ StAft c w0 w lo B WB RB m b K N n t w' := by
  obtain ⟨hlc, b0, q, x, rfl, hx, hb0, c0, c1, c2, c3, c4, hwv⟩ := WV.first (hB.work i hi) ewv hl
  have cc0 : ∀ {j : Nat} {v : Value}, w0.cell? ⟨b0, j, none⟩ = some v → w.cell? ⟨b0, j, none⟩ = some v := fun {j v} h => by rw [hW0.cell (p := ⟨b0, j, none⟩) hb0]; exact h
  have los := hB.lo_size
  have lB := hB.low B (.inl rfl)
  have hbB : b0 ≠ B := by omega
  obtain ⟨nWB, nRB, nRW, nm⟩ := hB.ne
  have nB : ¬ two m b B := fun h => (nm B h).1 rfl
  have nW : ¬ two m b WB := fun h => (nm WB h).2.1 rfl
  have nR : ¬ two m b RB := fun h => (nm RB h).2.2 rfl
  have hsz : 10 * i + 10 ≤ (marr K T).size := by
    have h9 := marr_get (T := T) (k := 9) hi (by decide)
    have := (Array.getElem?_eq_some_iff.1 h9).1
    omega
  have x0 : (marr K T)[10 * i]? = some (.slice (some ⟨b0, q, none⟩) l cc) := by rw [← ewv]; exact marr_get (T := T) (k := 0) hi (by decide)
  have x6 : (marr K T)[10 * i + 6]? = some (T i).hv := marr_get (T := T) (k := 6) hi (by decide)
  have x7 : (marr K T)[10 * i + 7]? = some (mv (T i) 7) := marr_get (T := T) (k := 7) hi (by decide)
  have x8 : (marr K T)[10 * i + 8]? = some (mv (T i) 8) := marr_get (T := T) (k := 8) hi (by decide)
  have hnow : ∀ v, (now5 (marr K T) (10 * i) x).setIfInBounds (10 * i) v = marr K (put T i { T i with wv := v, fr := x.fr, rc := x.rc, ar := x.ar, ep := x.ep, wd := x.wd }) := fun v => by
    have e : now5 (marr K T) (10 * i) x = marr K (put T i { T i with fr := x.fr, rc := x.rc, ar := x.ar, ep := x.ep, wd := x.wd }) := marr_now hi x.fr x.rc x.ar x.ep x.wd
    rw [e, marr_wv hi v, put_put, put_eq]
  have hQ := hB.has i hi
  have hlen : (T i).h.length ≤ 64 := by
    have h3 : ((T i).h).Nodup := by
      have h1 := hI.nd i hi
      unfold Mr.mine at h1
      split at h1
      · exact (List.nodup_cons.1 h1).2
      · exact h1
    have hS := S_bd hr
    have := nodup_len c.S.toNat _ h3 (fun y hy => by
      have hm := (hI.mine i hi y).1 (h_mine hy)
      have := hm.1.1
      have := hm.1.2
      omega)
    omega
  have mlb : m < w.heap.size ∧ b < w.heap.size := ⟨hM.lm, hM.lb⟩
  have hbelow : ∀ {S : Nat → Prop} {w' : World}, Fr S w w' → (∀ k, S k → lo ≤ k) → Below lo w w' := fun {S w'} hF hS => hF.below (fun k hk => ⟨by omega, fun hs => by have := hS k hs; omega⟩)
  have fx : ∀ k, fixd B WB RB m b k → lo ≤ k := hB.low
  cases hfr : x.fr with
  | false =>
    refine (beginMk hB.blk x0 (by omega) hlc hsz x7 hfr hx hbB (cc0 c0) (cc0 c1) (cc0 c2) (cc0 c3) (cc0 c4) hB.wld nWB hr).mono ?_
    rintro e w' ⟨rfl, p, q', r, g1, g2, g3, hP, hV, hR, hBk, hF⟩
    refine ⟨rfl, M, t, L, put T i { T i with wv := .slice (t5 (some ⟨b0, q, none⟩) cc) (l - 1) (cc - 1), fr := x.fr, rc := x.rc, ar := x.ar, ep := x.ep, wd := x.wd, ma := some ⟨p, q', r, ⟨-1, false, kdOf x, arOf c x, x.ep, 0, 0, 0, ⟨-1, false, 0, 0, 0⟩⟩⟩ }, own, μ, by omega, hM.fr hF (fun k => nB (.inl k.symm)) (fun k => nB (.inr k.symm)), hf.mono (by omega), ?_, ?_, hbelow hF (fun k hk => hk ▸ lB)⟩
    · have hp := Blk.lt hV
      refine hB.set hi hF (fun k _ hk => .inr (.inl hk)) ?_ (hB.wld.fr hF nWB) (hB.row.fr hF nRB) (fun z hz => ?_) (fun z hz => absurd (h2.symm.trans hz) (by simp)) ?_ (fun k hk => ?_) los hwv ⟨hx.1, hx.2.1, hx.2.2⟩ mlb
      · rw [hnow] at hBk
        have e2 := marr_ma (T := put T i { T i with wv := .slice (t5 (some ⟨b0, q, none⟩) cc) (l - 1) (cc - 1), fr := x.fr, rc := x.rc, ar := x.ar, ep := x.ep, wd := x.wd }) hi (some ⟨p, q', r, ⟨-1, false, kdOf x, arOf c x, x.ep, 0, 0, 0, ⟨-1, false, 0, 0, 0⟩⟩⟩)
        rw [put_put, put_eq] at e2
        rw [← e2]
        exact hBk
      · cases hz
        have hab := room_i hr
        refine ⟨⟨hV, hP, hR⟩, ⟨fun _ => ?_, .inl ⟨.inl rfl, Int.le_refl 0, ?_⟩, ?_, ?_, ?_⟩, by show q' ≠ p; omega, by show r ≠ p; omega, by show r ≠ q'; omega⟩
        · exact ⟨Int.le_refl 0, by show (0 : Int) < 18446744073709551616; decide, .inl rfl⟩
        · show (0 : Int) < (roomI c : Int); omega
        · show 0 ≤ x.ep ∧ x.ep < 18446744073709551616; have := hx.2.1; omega
        · show arOf c x < 9223372036854775808
          have hrI := right_iff.1 hr
          unfold arOf
          split
          · omega
          · have := Int.emod_lt_of_pos x.ar (show (0 : Int) < c.A + 1 by omega); omega
        · show (0 : Int) < 9223372036854775808; decide
      · exact IQ.fr hQ hF (fun k e => fun e2 => (hB.ft i hi k (foot_hv e)).2.2 (.inl e2))
      · rcases hk with ⟨z, hz, hk⟩ | ⟨z, hz, hk⟩ | hk
        · cases hz
          refine .inr ?_
          have hk' : k = p ∨ k = q' ∨ k = r := hk
          omega
        · exact absurd (h2.symm.trans hz) (by simp)
        · exact .inl (foot_hv hk)
    · have h3 := AI.idle hr hI hi h1 h2 (.slice (t5 (some ⟨b0, q, none⟩) cc) (l - 1) (cc - 1)) x.fr x.rc x.ar x.ep x.wd
      have h4 := AI.beginMk hr h3 hi (by rw [put_eq]; exact h1) (by rw [put_eq]; exact h2) p q' r
      rw [put_put, put_eq] at h4
      exact h4
  | true =>
    cases hh : (T i).h with
    | nil =>
      rw [hh] at hQ
      obtain ⟨A2, c6, e6, _⟩ := IQ.slice hQ
      rw [e6] at x6
      refine (beginEmpty hB.blk x0 (by omega) hlc hsz x6 hfr hbB (cc0 c0) (cc0 c1) (cc0 c2) (cc0 c3) (cc0 c4)).mono ?_
      rintro e w' ⟨rfl, hBk, hF⟩
      rw [hnow] at hBk
      refine ⟨rfl, M, t, L, _, own, μ, by omega, hM.fr hF (fun k => nB (.inl k.symm)) (fun k => nB (.inr k.symm)), hf.mono (by omega), ?_, AI.idle hr hI hi h1 h2 (.slice (t5 (some ⟨b0, q, none⟩) cc) (l - 1) (cc - 1)) x.fr x.rc x.ar x.ep x.wd, hbelow hF (fun k hk => hk ▸ lB)⟩
      refine hB.set hi hF (fun k _ hk => .inr (.inl hk)) hBk (hB.wld.fr hF nWB) (hB.row.fr hF nRB) (fun z hz => absurd (h1.symm.trans hz) (by simp)) (fun z hz => absurd (h2.symm.trans hz) (by simp)) ?_ (fun k hk => ?_) los hwv ⟨hx.1, hx.2.1, hx.2.2⟩ mlb
      · exact IQ.fr (hB.has i hi) hF (fun k e => fun e2 => (hB.ft i hi k (foot_hv e)).2.2 (.inl e2))
      · rcases hk with ⟨z, hz, hk⟩ | ⟨z, hz, hk⟩ | hk
        · exact absurd (h1.symm.trans hz) (by simp)
        · exact absurd (h2.symm.trans hz) (by simp)
        · exact .inl (foot_hv hk)
    | cons z s =>
      rw [hh] at hQ
      obtain ⟨A2, c6, e6, hc6⟩ := IQ.slice hQ
      rw [e6] at hQ x6
      obtain ⟨_, _, hb, hq, rfl, hz⟩ := IQ.first hQ
      have hbk : (T i).hv.ownBlock = some hb := by rw [e6]; rfl
      have hhb : hb ≠ B := fun e => (hB.ft i hi hb (foot_hv hbk)).2.2 (.inl e)
      obtain ⟨hR, hhr, _⟩ := AI.beginFe hr hI hi h1 h2 hh hf.u (.slice none 0 0) 0 none
      refine (beginFe hB.blk x0 (by omega) hlc hsz x6 (by simp) hc6 x8 hfr hbB hhb (cc0 c0) (cc0 c1) (cc0 c2) (cc0 c3) (cc0 c4) hz hB.wld nWB hM nB nW hr hf hn hNs hR).mono ?_
      rintro e w' ⟨rfl, p, gp, hBk, hV, hM', hF⟩
      have hn' : (M.n : Int) = c.size := by rw [hf.n]; exact hNs
      have h00 : (0 : Int) ≤ 0 ∧ (0 : Int) < roomV c.A := ⟨Int.le_refl 0, by have := room_bd hr; omega⟩
      have hst := (st_pl hr hn' hR h00 (v := headN 3 (uM (hw c M.f z)) false (uA (hw c M.f z)) (uN (hw c M.f z)) (uS (hw c M.f z)))).1
      have hv := headN_bd (g := false) hhr
      refine ⟨rfl, _, t, L, put T i { T i with wv := .slice (t5 (some ⟨b0, q, none⟩) cc) (l - 1) (cc - 1), fr := x.fr, rc := x.rc, ar := x.ar, ep := x.ep, wd := x.wd, hv := .slice (t1 (some ⟨hb, hq, none⟩) c6) ((z :: s).length - 1) (c6 - 1), h := s, fe := some ⟨p, none, ⟨false, false, z, 0, 1, none⟩⟩, fs := z }, own, μ, by omega, hM', hf.st _ hv.1 hv.2, ?_, ?_, hbelow hF (fun k hk => fx k (hk.elim (fun e => .inl e) (fun e => e.elim (fun e => .inr (.inr (.inr (.inl e)))) (fun e => .inr (.inr (.inr (.inr e)))))))⟩
      · have hp := hV.lt
        have ef : frA (marr K T) (10 * i) x (.slice (t5 (some ⟨b0, q, none⟩) cc) (l - 1) (cc - 1)) (.slice (t1 (some ⟨hb, hq, none⟩) c6) ((z :: s).length - 1) (c6 - 1)) z = marr K (put T i { T i with wv := .slice (t5 (some ⟨b0, q, none⟩) cc) (l - 1) (cc - 1), fr := x.fr, rc := x.rc, ar := x.ar, ep := x.ep, wd := x.wd, hv := .slice (t1 (some ⟨hb, hq, none⟩) c6) ((z :: s).length - 1) (c6 - 1), h := s, fs := z }) := by
          unfold frA
          rw [hnow, marr_fs hi z, put_put, put_eq, marr_hv hi _ s, put_put, put_eq]
        have e2 := marr_fe (T := put T i { T i with wv := .slice (t5 (some ⟨b0, q, none⟩) cc) (l - 1) (cc - 1), fr := x.fr, rc := x.rc, ar := x.ar, ep := x.ep, wd := x.wd, hv := .slice (t1 (some ⟨hb, hq, none⟩) c6) ((z :: s).length - 1) (c6 - 1), h := s, fs := z }) hi (some ⟨p, none, ⟨false, false, z, 0, 1, none⟩⟩)
        rw [put_put, put_eq] at e2
        rw [ef] at hBk
        have hft : ∀ k, two m b k → k ≠ B ∧ k ≠ WB ∧ k ≠ RB := nm
        have hob : (Value.slice (t1 (some ⟨hb, hq, none⟩) c6) ((z :: s).length - 1) (c6 - 1)).ownBlock = some hb := by unfold t1; split <;> rfl
        refine hB.set hi hF (fun k _ hk => .inr (hk.elim (fun e => .inl e) (fun e => e.elim (fun e => .inr (.inr (.inr (.inl e)))) (fun e => .inr (.inr (.inr (.inr e))))))) (e2 ▸ hBk) (hB.wld.fr hF (fun k => k.elim nWB nW)) (hB.row.fr hF (fun k => k.elim nRB nR)) (fun z hz => absurd (h1.symm.trans hz) (by simp)) (fun z' hz' => ?_) ?_ (fun k hk => ?_) los hwv ⟨hx.1, hx.2.1, hx.2.2⟩ mlb
        · cases hz'
          exact ⟨⟨hV, fun Q e => by cases e⟩, ⟨hR, ⟨Int.le_refl 0, by show (0 : Int) < 18446744073709551616; decide⟩, .inl rfl⟩, fun q e => by cases e⟩
        · have hQ' : IQ w' lo (.slice (some ⟨hb, hq, none⟩) (z :: s).length c6) (z :: s) := IQ.fr hQ hF (fun k e => fun x9 => by
            have e3 : k = hb := by injection e.symm
            subst e3
            have := (hB.ft i hi k (foot_hv hbk)).2.2
            exact this (x9.elim (fun e => .inl e) (fun e => e.elim (fun e => .inr (.inr (.inr (.inl e)))) (fun e => .inr (.inr (.inr (.inr e)))))))
          exact IQ.tail hQ'
        · rcases hk with ⟨y, hy, hk⟩ | ⟨y, hy, hk⟩ | hk
          · exact absurd (h1.symm.trans hy) (by simp)
          · cases hy
            refine .inr ?_
            have hk' : k = p ∨ none = some k := hk
            rcases hk' with e | e
            · omega
            · cases e
          · have hk' : some hb = some k := hob ▸ hk
            injection hk' with e
            subst e
            exact .inl (foot_hv hbk)
      · obtain ⟨_, _, h6⟩ := AI.beginFe hr (AI.idle hr hI hi h1 h2 (.slice (t5 (some ⟨b0, q, none⟩) cc) (l - 1) (cc - 1)) x.fr x.rc x.ar x.ep x.wd) hi (by rw [put_eq]; exact h1) (by rw [put_eq]; exact h2) (x := z) (s := s) (by rw [put_eq]; exact hh) hf.u (.slice (t1 (some ⟨hb, hq, none⟩) c6) ((z :: s).length - 1) (c6 - 1)) p none
        rw [put_put, put_eq] at h6
        rw [hst]
        exact h6
end
end Go.Proofs.Ytijfkpoofpcacaa.MakerA
end
section
namespace Go.Proofs.Ytijfkpoofpcacaa.MakerY
open Go.RowKit Go.Proofs.YtijfkpoofpcacaaW.PrintWords Go.Proofs.YtijfkpoofpcacaaW.PrintLast Go.Proofs.Ytijfkpoofpcacaa.Blk Go.Proofs.Ytijfkpoofpcacaa.Core Go.Proofs.Ytijfkpoofpcacaa.MemC Go.Proofs.Ytijfkpoofpcacaa.MemD Go.Proofs.Ytijfkpoofpcacaa.MemT Go.Proofs.Ytijfkpoofpcacaa.Memory Go.Proofs.Ytijfkpoofpcacaa.PlanC Go.Proofs.Ytijfkpoofpcacaa.PlanD Go.Proofs.Ytijfkpoofpcacaa.RefM Go.Proofs.Ytijfkpoofpcacaa.StackC Go.Proofs.Ytijfkpoofpcacaa.StackL Go.Proofs.Ytijfkpoofpcacaa.StackS Go.Proofs.Ytijfkpoofpcacaa.StackF Go.Proofs.Ytijfkpoofpcacaa.StackP Go.Proofs.Ytijfkpoofpcacaa.StackG Go.Proofs.Ytijfkpoofpcacaa.StackT Go.Proofs.Ytijfkpoofpcacaa.HeadC Go.Proofs.Ytijfkpoofpcacaa.ArenaC Go.Proofs.Ytijfkpoofpcacaa.ArenaM Go.Proofs.Ytijfkpoofpcacaa.ArenaP Go.Proofs.Ytijfkpoofpcacaa.ArenaL Go.Proofs.Ytijfkpoofpcacaa.ArenaR Go.Proofs.Ytijfkpoofpcacaa.ArenaQ Go.Proofs.Ytijfkpoofpcacaa.ArenaU Go.Proofs.Ytijfkpoofpcacaa.ArenaW Go.Proofs.Ytijfkpoofpcacaa.ArenaY Go.Proofs.Ytijfkpoofpcacaa.MakerL Go.Proofs.Ytijfkpoofpcacaa.MakerM Go.Proofs.Ytijfkpoofpcacaa.MakerT Go.Proofs.Ytijfkpoofpcacaa.MakerU Go.Proofs.Ytijfkpoofpcacaa.MakerV Go.Proofs.Ytijfkpoofpcacaa.Opens
open Go.Proofs.Ytijfkpoofpcacaa.TakerS (IQ blk_one fr_grown)
theorem iq_append {P : Program} {ops : Array Oper} {Q' : Exit → Act → World → Prop} {o : Oper} {rest : List Oper} {a : Act} {W : World} {lo : Nat} (hgd : o.guard = none) (s x : Operand) (t : TypeId)
    (ho : o.op = .call { callee := .builtin .append, args := #[s, x], argTypes := #[t, t] })
    (ht : P.underlying t = some (.slice 3)) (hinfo : (P.info? 3).map (fun i => (i.zero, i.size, i.bytes)) = some (some (.int .i64 0), 1, 8))
    (v : Value) (xs : List Int) (y : Int) (hs : a.eval s = v) (hx : a.eval x = .slice (some ⟨W.heap.size, 0, none⟩) 1 1)
    (HO : IQ W lo v xs) (hbase : lo ≤ W.heap.size) (hl : (xs.length + 1) * 8 ≤ 140737488355328)
    (h : ∀ v1 w1, IQ w1 lo v1 (xs ++ [y]) → W.grownBy w1 v.ownBlock → (v1.ownBlock = v.ownBlock ∨ ∃ b, v1.ownBlock = some b ∧ W.heap.size ≤ b) → wpList P ops Q' rest (a.put o.dst v1) w1) :
    wpList P ops Q' (o :: rest) a (W.alloc (.cells #[.int .i64 y] 3)) :=
  Kd.Q_append (Kd.int .i64) lo hgd s x t 3 (.int .i64 0) 8 ho ht hinfo rfl (by decide) (by decide) v xs y [.int .i64 y] (fun _ => True) (fun _ => False) hs hx rfl (fun k hk => hk.elim) (fun _ _ => trivial) HO (Below.refl lo W) hbase hl
    (fun v1 w1 h1 _ h3 h4 => h v1 w1 h1 h3 h4)
set_option maxHeartbeats 4000000 in
set_option maxRecDepth 100000 in
theorem madeFull {w : World} {B WB o p : Nat} {cs mk : Array Value} (hB : Blk w B 107 cs) (x7 : cs[o + 7]? = some (.pointer (some ⟨p, 0, none⟩))) (hP : Blk w p 82 mk) (m0 : mk[0]? = some (.int .i64 (-1))) (m1 : mk[1]? = some (.bool true)) :
    Calls Try.prog 90 #[.pointer (some ⟨B, o, none⟩), .pointer (some ⟨WB, 0, none⟩)] w fun e w' => e = .returned (.bool true) ∧ Blk w' B 107 (cs.setIfInBounds (o + 7) (.pointer none)) ∧ Fr (fun k => k = B) w w' := by
  have y7 := hB.cell x7
  have z7 := hB.frozen (o + 7)
  have k0 := hP.cell m0
  have k1 := hP.cell m1
  have hB1 := Lib.hid (hB.set (o + 7) (.pointer none))
  have hF1 := Lib.hid (Fr.set (fun k => k = B) w (p := ⟨B, o + 7, none⟩) rfl (.pointer none))
  clear hB hP x7 m0 m1
  go_enter Try.func90, Try.ntmps90
  go_wp2
  go_ret
  exact ⟨rfl, hB1.out, hF1.out⟩
theorem born_bd (e : Int) : 0 ≤ bornI e ∧ bornI e ≤ 1 := by
  have : 0 ≤ blackI e ∧ blackI e ≤ 1 := by unfold blackI; split <;> omega
  unfold bornI
  split <;> omega
theorem arOf_bd {c : Cf} (hr : c.right = true) {x : Wk} (hx : x.ok) : 0 ≤ arOf c x ∧ arOf c x ≤ 8 := by
  have hrI := right_iff.1 hr
  unfold arOf
  split
  · omega
  · have := Int.emod_nonneg x.ar (show c.A + 1 ≠ 0 by omega)
    have := Int.emod_lt_of_pos x.ar (show (0 : Int) < c.A + 1 by omega)
    omega
def MdAft (w : World) (B RB o lo : Nat) (cs : Array Value) (hv : Value) (h : List Int) (s : Int) (S : Nat) (μ : Int → Int) (w' : World) : Prop := ∃ hv', Blk w' B 107 ((cs.setIfInBounds (o + 7) (.pointer none)).setIfInBounds (o + 6) hv') ∧ IQ w' lo hv' (h ++ [s]) ∧
  (hv'.ownBlock = hv.ownBlock ∨ ∃ b, hv'.ownBlock = some b ∧ w.heap.size ≤ b) ∧ Blk w' RB 3 (rowF .i64 S (fun j => mset μ s (μ s + 1) j)) ∧ Fr (fun k => k = B ∨ k = RB ∨ some k = hv.ownBlock) w w'
theorem mset_upd (μ : Int → Int) (s i : Nat) (v : Int) : mset μ s v i = upd (fun j => μ j) s v i := by
  unfold mset upd
  by_cases e : i = s
  · subst e; simp
  · rw [if_neg (show ¬ (i : Int) = (s : Int) by omega), if_neg e]
theorem row_mset {w : World} {RB S : Nat} {μ : Int → Int} {s : Nat} (h : Blk w RB 3 (rowF .i64 S (fun j => μ j))) (v : Int) : Blk (w.setCell ⟨RB, s, none⟩ (.int .i64 v)) RB 3 (rowF .i64 S (fun j => mset μ s v j)) := by
  have := h.set s (.int .i64 v)
  rw [rowF_set] at this
  rw [show rowF .i64 S (fun j => mset μ s v j) = rowF .i64 S (upd (fun j => μ j) s v) from rowF_congr (fun i _ => mset_upd μ s i v)]
  exact this
set_option maxHeartbeats 4000000 in
set_option maxRecDepth 100000 in
theorem madeYes {c : Cf} {w : World} {B WB m RB bb o p lo N T : Nat} {cs mk : Array Value} {x : Wk} {hv : Value} {h : List Int} {s : Nat} {μ : Int → Int} {M : Ms} (hB : Blk w B 107 cs) (hS : o + 10 ≤ cs.size)
    (x1 : cs[o + 1 + 1]? = some (.bool x.rc)) (x2 : cs[o + 1 + 2]? = some (.int .u8 x.ar)) (x3 : cs[o + 1 + 3]? = some (.int .u8 x.ep)) (x4 : cs[o + 1 + 4]? = some (.int .u64 x.wd)) (hx : x.ok)
    (x6 : cs[o + 6]? = some hv) (hQ : IQ w lo hv h) (hh : h.length ≤ 1000) (hlo : lo ≤ w.heap.size)
    (x7 : cs[o + 7]? = some (.pointer (some ⟨p, 0, none⟩))) (hP : Blk w p 82 mk) (m0 : mk[0]? = some (.int .i64 s)) (m1 : mk[1]? = some (.bool false))
    (hW : Blk w WB 101 (worldA c m RB)) (hR : Blk w RB 3 (rowF .i64 c.S.toNat (fun j => μ j))) (neW : WB ≠ B) (neR : RB ≠ B) (neRW : RB ≠ WB) (hM : MemB w m bb M) (nB : ¬ two m bb B) (nW : ¬ two m bb WB) (nR : ¬ two m bb RB)
    (hr : c.right = true) (hf : Fine M N T) (hT : T ≤ 1000000) (hNs : (N : Int) = c.size) (hsR : InR c s) (hmu : 0 ≤ μ s ∧ μ s < c.G) (hvB : ∀ k, hv.ownBlock = some k → ¬ two m bb k ∧ k ≠ WB ∧ k ≠ RB)
    (hX : hw c M.f s = headN (kdOf x) (bornI x.ep) false (arOf c x) (μ s) 0) (hBd : ∀ j, j < roomI c → bw c M.f s j = padF 1 (fun _ => x.wd) j) :
    Calls Try.prog 90 #[.pointer (some ⟨B, o, none⟩), .pointer (some ⟨WB, 0, none⟩)] w fun e w' => e = .returned (.bool true) ∧ MdAft w B RB o lo cs hv h s c.S.toNat μ w' := by
  have y7 := hB.cell x7
  have z7 := hB.frozen (o + 7)
  have k0 := hP.cell m0
  have k1 := hP.cell m1
  obtain ⟨hA, hcc, rfl, hcl⟩ := IQ.slice hQ
  have s0 : (0 : Int) ≤ (s : Int) := hsR.1
  have s1 : (s : Int) < (c.S.toNat : Int) := by have := hsR.2; omega
  have s2 : s < c.S.toNat := by omega
  have s3 : ¬ (s : Int) < 0 := by omega
  have hrI := right_iff.1 hr
  have nqB : ∀ k, (Value.slice hA h.length hcc).ownBlock = some k → ¬ k = B := fun k e q => by
    obtain ⟨_, _, ds, hd⟩ := IQ.typed hQ k e
    exact absurd (blk_one hd (q ▸ hB)).1 (by decide)
  obtain ⟨w1, hw1⟩ : ∃ w1, w.setCell ⟨B, o + 7, none⟩ (.pointer none) = w1 := ⟨_, rfl⟩
  have hF1 : Fr (fun k => k = B) w w1 := hw1 ▸ Fr.set (fun k => k = B) w (p := ⟨B, o + 7, none⟩) rfl (.pointer none)
  have hB1 : Blk w1 B 107 (cs.setIfInBounds (o + 7) (.pointer none)) := hw1 ▸ hB.set (o + 7) (.pointer none)
  have hW1 := hW.fr hF1 neW
  have hR1 := hR.fr hF1 neR
  have hM1 := hM.fr hF1 (fun e => nB (.inl e.symm)) (fun e => nB (.inr e.symm))
  have hQ1 := IQ.fr hQ hF1 nqB
  replace hw1 := Lib.hid hw1
  have q7 := (world_cells hW1).2.2
  have r0 : w1.cell? ⟨RB, s, none⟩ = some (.int .i64 (μ s)) := hR1.cell (rowF_get s2)
  have r1 := hR1.frozen s
  obtain ⟨w2, hw2⟩ : ∃ w2, w1.setCell ⟨RB, s, none⟩ (.int .i64 (μ s + 1)) = w2 := ⟨_, rfl⟩
  have hF2 : Fr (fun k => k = RB) w1 w2 := hw2 ▸ Fr.set (fun k => k = RB) w1 (p := ⟨RB, s, none⟩) rfl (.int .i64 (μ s + 1))
  have hR2 : Blk w2 RB 3 (rowF .i64 c.S.toNat (fun j => mset μ s (μ s + 1) j)) := hw2 ▸ row_mset hR1 _
  have hB2 := hB1.fr hF2 (fun e => neR e.symm)
  have hW2 := hW1.fr hF2 (fun e => neRW e.symm)
  have hM2 := hM1.fr hF2 (fun e => nR (.inl e.symm)) (fun e => nR (.inr e.symm))
  have hQ2 := IQ.fr hQ1 hF2 (fun k e q => (hvB k e).2.2 q)
  replace hw2 := Lib.hid hw2
  have y6 := hB2.cell (i := o + 6) (v := .slice hA h.length hcc) (by rw [Array.getElem?_setIfInBounds_ne (by omega)]; exact x6)
  have z6 := hB2.frozen (o + 6)
  have hm1 : μ s + 1 < 9223372036854775807 := by omega
  have hFa := Lib.hid ((hF1.mono (S' := fun k => k = B ∨ k = RB ∨ some k = (Value.slice hA h.length hcc).ownBlock) (fun k e => .inl e)).trans (hF2.mono (fun k e => .inr (.inl e))))
  have hlo2 : lo ≤ w2.heap.size := by have := hFa.out.size; omega
  replace hB2 := Lib.hid hB2
  replace hW2 := Lib.hid hW2
  replace hR2 := Lib.hid hR2
  replace hM2 := Lib.hid hM2
  replace hQ2 := Lib.hid hQ2
  replace hvB := Lib.hid hvB
  replace hX := Lib.hid hX
  replace hBd := Lib.hid hBd
  replace nqB := Lib.hid nqB
  replace hNs := Lib.hid hNs
  replace hf := Lib.hid hf
  have x6' := x6
  clear hB hW hR hM hQ hP hF1 hB1 hW1 hR1 hM1 hQ1 hF2 x6 x7 m0 m1 hrI
  go_enter Try.func90, Try.ntmps90
  go_upto_region 6 with (fail)
  rw [hw1.out]
  clear y7 z7 k0 k1 hw1
  go_upto_region 7 with (fail)
  rw [hw2.out]
  clear hw2
  go_upto_region 8 with (at_builtin; refine iq_append (by rfl) (.tmp 53) (.tmp 55) 35 (by rfl) Try.underlying35 infoI (Value.slice hA h.length hcc) h s (by rfl) (by rfl) hQ2.out hlo2 (by omega) ?_; intro v1 w3 hq3 hg3 ho3; obtain ⟨A1, c1, rfl, hcc1⟩ := IQ.slice hq3; have nq := nqB.out; have nv := hvB.out; have hFg := fr_grown (S := fun k => some k = (Value.slice hA h.length hcc).ownBlock) hg3 (fun k e => e); have f3 := hFa.out.size; have g3 := hFg.size; replace ho3 := ho3.imp id (fun ⟨b, e, l⟩ => (⟨b, e, Nat.le_trans f3 l⟩ : ∃ b, (Value.slice A1 (h ++ [(s : Int)]).length c1).ownBlock = some b ∧ w.heap.size ≤ b)); have hB3 := hB2.out.fr hFg (fun e => nq B e.symm rfl); replace hW2 := Lib.hid (hW2.out.fr hFg (fun e => (nv WB e.symm).2.1 rfl)); replace hR2 := Lib.hid (hR2.out.fr hFg (fun e => (nv RB e.symm).2.2 rfl)); replace hM2 := Lib.hid (hM2.out.fr hFg (fun e => (nv m e.symm).1 (.inl rfl)) (fun e => (nv bb e.symm).1 (.inr rfl))); replace hFa := Lib.hid (hFa.out.trans (hFg.mono (fun k e => .inr (.inr e)))); replace hB2 := Lib.hid hB3; have y6 := hB2.out.cell (i := o + 6) (v := .slice hA h.length hcc) (by rw [Array.getElem?_setIfInBounds_ne (by omega)]; exact x6'); have z6 := hB2.out.frozen (o + 6); clear hQ2 hFg hg3 nq nv hB3)
  replace ho3 := Lib.hid ho3
  replace hq3 := Lib.hid hq3
  have l2 := hB2.out.lt
  obtain ⟨w4, hw4⟩ : ∃ w4, w3.setCell ⟨B, o + 6, none⟩ (.slice A1 (h.length + 1) c1) = w4 := ⟨_, rfl⟩
  have hF4 : Fr (fun k => k = B) w3 w4 := hw4 ▸ Fr.set (fun k => k = B) w3 (p := ⟨B, o + 6, none⟩) rfl _
  have hv3 : ∀ k, (Value.slice A1 (h ++ [(s : Int)]).length c1).ownBlock = some k → ¬ k = B := fun k e q => by
    obtain ⟨_, _, ds, hd⟩ := IQ.typed hq3.out k e
    exact absurd (blk_one hd (q ▸ hB2.out)).1 (by decide)
  have hq4 := Lib.hid (IQ.fr hq3.out hF4 hv3)
  replace hB2 := Lib.hid (show Blk w4 B 107 ((cs.setIfInBounds (o + 7) (.pointer none)).setIfInBounds (o + 6) (.slice A1 (h.length + 1) c1)) from hw4 ▸ hB2.out.set (o + 6) _)
  replace hW2 := Lib.hid (hW2.out.fr hF4 neW)
  replace hR2 := Lib.hid (hR2.out.fr hF4 neR)
  replace hM2 := Lib.hid (hM2.out.fr hF4 (fun e => nB (.inl e.symm)) (fun e => nB (.inr e.symm)))
  replace hFa := Lib.hid (hFa.out.trans (hF4.mono (fun k e => .inl e)))
  rw [hw4]
  clear hw4 hF4 hv3 hq3 y6 z6
  obtain ⟨iz, hpl, hiz⟩ : ∃ iz : Nat, c.pl s 0 = (iz : Int) ∧ iz < N := by
    have hb := pl_bd hr hsR (o := 0) ⟨Int.le_refl 0, by have := room_bd hr; omega⟩
    have := hNs.out
    exact ⟨(c.pl s 0).toNat, by omega, by omega⟩
  have hizI : (iz : Int) < (N : Int) := by omega
  have hiz0 : (0 : Int) ≤ (iz : Int) := by omega
  have hXe : M.f iz = hw c M.f s := by unfold hw; rw [hpl]; rfl
  have hX0 := (hf.out.u iz).1
  have hX1 := (hf.out.u iz).2
  rw [hXe] at hX0 hX1
  have hXX := hX.out
  have hbe := born_bd x.ep
  have hab : 0 ≤ arOf c x ∧ arOf c x ≤ 8 := arOf_bd hr hx
  have hkb : kdOf x = 1 ∨ kdOf x = 2 := by unfold kdOf; split <;> omega
  obtain ⟨u1, u2, u3, u4, u5, u6, u7⟩ := u_head (k := kdOf x) (m := bornI x.ep) (g := false) (a := arOf c x) (n := μ s) (s := 0) (by have := right_iff.1 hr; unfold hdRight; omega)
  rw [← hXX] at u1 u2 u3 u4 u5 u6 u7
  generalize hw c M.f s = X at *
  have hu := Lib.hid (And.intro u1 (And.intro u2 (And.intro u3 (And.intro u4 (And.intro u5 (And.intro u6 u7))))))
  clear u1 u2 u3 u4 u5 u6 u7 hXX hX
  have hnN := Lib.hid hf.out.n
  have hN8 : N ≤ 800 := by have := size_bd hr; have := hNs.out; unfold Cf.size at this; omega
  replace hpl := Lib.hid hpl
  replace hXe := Lib.hid hXe
  obtain ⟨⟨k0, k1, k2, k3, k4, k5⟩, k6, k7⟩ := world_cells hW2.out
  clear hcl l2 hcc1 q7 r0 r1 s0 s1 hlo2 hm1
  go_upto_region 10 with (first
    | (go_at_call 24; refine (words_n _ m bb N _ hM2.out hnN.out (by omega)).mono ?_; rintro e wa ⟨A2, ca, b1, rfl, _, hRw, hb9⟩; obtain ⟨hA2, cc2, ff2⟩ := hRw.cell hiz; subst hA2; replace hB2 := Lib.hid (hB2.out.below hb9 hB2.out.lt); replace hW2 := Lib.hid (hW2.out.below hb9 hW2.out.lt); replace hR2 := Lib.hid (hR2.out.below hb9 hR2.out.lt); replace hM2 := Lib.hid (hM2.out.next hb9); replace hq4 := Lib.hid (IQ.below hq4.out hb9); replace hFa := Lib.hid (hFa.out.trans (fr_below hb9)); obtain ⟨⟨k0, k1, k2, k3, k4, k5⟩, k6, k7⟩ := world_cells hW2.out; have hRw := Lib.hid hRw; clear hb9 cc2 ff2)
    | (go_at_call 63; refine (atHeaderC c _ WB m RB s hW2.out hr hsR).mono ?_; rintro e wb ⟨rfl, hb9⟩; rw [hpl.out]; replace hB2 := Lib.hid (hB2.out.below hb9 hB2.out.lt); replace hW2 := Lib.hid (hW2.out.below hb9 hW2.out.lt); replace hR2 := Lib.hid (hR2.out.below hb9 hR2.out.lt); replace hM2 := Lib.hid (hM2.out.next hb9); replace hq4 := Lib.hid (IQ.below hq4.out hb9); replace hFa := Lib.hid (hFa.out.trans (fr_below hb9)); replace hRw := Lib.hid (hRw.out.below hb9 (Nat.le_refl _)); have cw := (hRw.out.cell hiz).2.1; rw [hXe.out] at cw; clear hb9)
    | (go_at_call 62; refine (rUnpack_c X hX0 hX1 _).mono ?_; rintro e wd ⟨rfl, hb9⟩; replace hB2 := Lib.hid (hB2.out.below hb9 hB2.out.lt); replace hW2 := Lib.hid (hW2.out.below hb9 hW2.out.lt); replace hR2 := Lib.hid (hR2.out.below hb9 hR2.out.lt); replace hM2 := Lib.hid (hM2.out.next hb9); replace hq4 := Lib.hid (IQ.below hq4.out hb9); replace hFa := Lib.hid (hFa.out.trans (fr_below hb9)); replace hRw := Lib.hid (hRw.out.below hb9 (Nat.le_refl _)); clear hb9))
  obtain ⟨g1, g2, g3, g4, g5, g6, g7⟩ := hu.out
  rw [g1, g2, g3, g4, g5, g6, g7]
  obtain ⟨w5, hw5⟩ : ∃ w5, wd.alloc (.cells #[.int .i64 (kdOf x), .int .i64 (bornI x.ep), .bool false, .int .i64 (arOf c x), .int .i64 (μ s), .int .i64 0] 85) = w5 := ⟨_, rfl⟩
  have hN0 := Blk.new wd 85 #[.int .i64 (kdOf x), .int .i64 (bornI x.ep), .bool false, .int .i64 (arOf c x), .int .i64 (μ s), .int .i64 0]
  have hb9 := Below.alloc (Below.refl wd.heap.size wd) (Nat.le_refl _) (.cells #[.int .i64 (kdOf x), .int .i64 (bornI x.ep), .bool false, .int .i64 (arOf c x), .int .i64 (μ s), .int .i64 0] 85)
  rw [hw5] at hN0 hb9 ⊢
  have hN := Lib.hid hN0
  have hN0' : 0 < N := by omega
  replace hB2 := Lib.hid (hB2.out.below hb9 hB2.out.lt)
  replace hW2 := Lib.hid (hW2.out.below hb9 hW2.out.lt)
  replace hR2 := Lib.hid (hR2.out.below hb9 hR2.out.lt)
  replace hM2 := Lib.hid (hM2.out.next hb9)
  replace hq4 := Lib.hid (IQ.below hq4.out hb9)
  replace hRw := Lib.hid (hRw.out.below hb9 (Nat.le_refl _))
  replace hFa := Lib.hid (hFa.out.trans (fr_below hb9))
  generalize wd.heap.size = nb at *
  clear hN0 hb9 g1 g2 g3 g4 g5 g6 g7 hw5 k0 k1 k2 k3 k4 k5 k6 k7 cw
  have hep0 : 0 ≤ x.ep := hx.2.1.1
  have hep : x.ep < 18446744073709551616 := by have := hx.2.1.2; omega
  have hSx := Lib.hid (show ∀ wq : World, Blk wq B 107 ((cs.setIfInBounds (o + 7) (.pointer none)).setIfInBounds (o + 6) (.slice A1 (h.length + 1) c1)) → Blk wq WB 101 (worldA c m RB) → Blk wq RB 3 (rowF .i64 c.S.toNat (fun j => mset μ s (μ s + 1) j)) → wq.cell? ⟨B, o + 1 + 3, none⟩ = some (.int .u8 x.ep) ∧ wq.cell? ⟨B, o + 1 + 2, none⟩ = some (.int .u8 x.ar) ∧ wq.cell? ⟨WB, 1, none⟩ = some (.int .i64 c.A) ∧ wq.cell? ⟨WB, 7, none⟩ = some (.slice (some ⟨RB, 0, none⟩) c.S.toNat c.S.toNat) ∧ wq.cell? ⟨RB, s, none⟩ = some (.int .i64 (μ s + 1)) from fun wq a b d => ⟨a.cell (by rw [Array.getElem?_setIfInBounds_ne (by omega), Array.getElem?_setIfInBounds_ne (by omega)]; exact x3), a.cell (by rw [Array.getElem?_setIfInBounds_ne (by omega), Array.getElem?_setIfInBounds_ne (by omega)]; exact x2), (world_cells b).1.2.1, (world_cells b).2.2, d.cell ((rowF_get s2).trans (by rw [mset_eq]))⟩)
  have hSy := Lib.hid (show ∀ wq : World, Blk wq B 107 ((cs.setIfInBounds (o + 7) (.pointer none)).setIfInBounds (o + 6) (.slice A1 (h.length + 1) c1)) → wq.cell? ⟨B, o + 1 + 1, none⟩ = some (.bool x.rc) ∧ wq.cell? ⟨B, o + 1 + 4, none⟩ = some (.int .u64 x.wd) from fun wq a => ⟨a.cell (by rw [Array.getElem?_setIfInBounds_ne (by omega), Array.getElem?_setIfInBounds_ne (by omega)]; exact x1), a.cell (by rw [Array.getElem?_setIfInBounds_ne (by omega), Array.getElem?_setIfInBounds_ne (by omega)]; exact x4)⟩)
  replace hx := Lib.hid hx
  clear x1 x2 x3 x4 x6'
  go_cut [10] (fun v10 wx => ∃ nc, v10 = .pointer (some ⟨nc, 0, none⟩) ∧ ¬ (nc = B ∨ nc = WB ∨ nc = RB ∨ nc = m ∨ nc = bb ∨ nc = nb ∨ nc = b1) ∧ w.heap.size ≤ nc ∧ (∀ k, (Value.slice A1 (h ++ [(s : Int)]).length c1).ownBlock = some k → ¬ k = nc) ∧ Blk wx nc 85 #[.int .i64 1, .int .i64 (bornI x.ep), .bool false, .int .i64 (x.ar % (c.A + 1)), .int .i64 (μ s), .int .i64 0] ∧ Blk wx nb 85 #[.int .i64 (kdOf x), .int .i64 (bornI x.ep), .bool false, .int .i64 (arOf c x), .int .i64 (μ s), .int .i64 0] ∧ RowB wx (some ⟨b1, 0, none⟩) ca b1 N M.f ∧ Blk wx B 107 ((cs.setIfInBounds (o + 7) (.pointer none)).setIfInBounds (o + 6) (.slice A1 (h.length + 1) c1)) ∧ Blk wx WB 101 (worldA c m RB) ∧ Blk wx RB 3 (rowF .i64 c.S.toNat (fun j => mset μ s (μ s + 1) j)) ∧ MemB wx m bb M ∧ IQ wx lo (.slice A1 (h ++ [(s : Int)]).length c1) (h ++ [(s : Int)]) ∧ Fr (fun k => k = B ∨ k = RB ∨ some k = (Value.slice hA h.length hcc).ownBlock) w wx)
  case first =>
    replace hB2 := Lib.hid hB2.out.drew
    replace hW2 := Lib.hid hW2.out.drew
    replace hR2 := Lib.hid hR2.out.drew
    replace hM2 := Lib.hid hM2.out.drew
    replace hq4 := Lib.hid (IQ.drew hq4.out)
    replace hRw := Lib.hid hRw.out.drew
    replace hN := Lib.hid hN.out.drew
    replace hFa := Lib.hid (hFa.out.trans (Fr.drew _ w5))
    have hX' : w5.drew.cell? ⟨B, o + 1 + 3, none⟩ = some (.int .u8 x.ep) ∧ w5.drew.cell? ⟨B, o + 1 + 2, none⟩ = some (.int .u8 x.ar) ∧ w5.drew.cell? ⟨WB, 1, none⟩ = some (.int .i64 c.A) ∧ w5.drew.cell? ⟨WB, 7, none⟩ = some (.slice (some ⟨RB, 0, none⟩) c.S.toNat c.S.toNat) ∧ w5.drew.cell? ⟨RB, s, none⟩ = some (.int .i64 (μ s + 1)) := hSx.out _ hB2.out hW2.out hR2.out
    have sw1 : IntKind.u64.wrap x.ep = x.ep := wrap_u64_id x.ep hx.out.2.1.1 hep
    have hrI := right_iff.1 hr
    have a0 : (0 : Int) ≤ c.A := by omega
    have a1 : c.A ≤ 8 := by omega
    have a2 := hx.out.1.1
    have a3 := hx.out.1.2
    have sw2 : IntKind.i64.wrap (c.A + 1) = c.A + 1 := IntWalk.i64_in _ (by omega)
    have sw3 : ¬ c.A + 1 = 0 := by omega
    have sw4 : Int.tmod x.ar (c.A + 1) = x.ar % (c.A + 1) := Int.tmod_eq_emod_of_nonneg a2
    have sw6 : IntKind.i64.wrap x.ar = x.ar := IntWalk.i64_in _ (by omega)
    have m0 : 0 ≤ μ s := hmu.1
    have s0 : (0 : Int) ≤ (s : Int) := by omega
    have s1 : (s : Int) < max c.S 0 := by have := hsR.2; omega
    have m1 : μ s < 9223372036854775807 := by omega
    have sw5 : IntKind.i64.wrap (μ s) = μ s := IntWalk.i64_in _ (by omega)
    clear hrI
    refine wp_region_held_drew (S := fun w' => w'.cell? ⟨B, o + 1 + 3, none⟩ = some (.int .u8 x.ep) ∧ w'.cell? ⟨B, o + 1 + 2, none⟩ = some (.int .u8 x.ar) ∧ w'.cell? ⟨WB, 1, none⟩ = some (.int .i64 c.A) ∧ w'.cell? ⟨WB, 7, none⟩ = some (.slice (some ⟨RB, 0, none⟩) c.S.toNat c.S.toNat) ∧ w'.cell? ⟨RB, s, none⟩ = some (.int .i64 (μ s + 1))) (by kernel_rfl) hX' (fun hHeld => ?_)
    generalize w5.drew = w6 at *
    refine wpAnyH_take (i := 0) (oi := ⟨some 74, .move (.tmp 0), 141, "law.go:130", #[], none⟩) (v := ?_) rfl (by kernel_rfl) (by kernel_rfl) (by kernel_rfl) (fun _ _ _ h => h) (Or.inl ⟨by rfl, ?_⟩) (by assumption) ?_
    rotate_left 1
    focus (intro w hSw; first | (go_simp; first | done | with_reducible rfl) | ((try dsimp only at hSw); go_split_ands; go_simp; first | done | with_reducible rfl))
    try simp only [Act.put, pA, pB, pC]
    refine wpAnyH_take (i := 1) (oi := ⟨some 75, .nilCheck (.tmp 74), 0, "law.go:130", #[⟨0, .data⟩], none⟩) (v := ?_) rfl (by kernel_rfl) (by kernel_rfl) (by kernel_rfl) (fun _ _ _ h => h) (Or.inl ⟨by rfl, ?_⟩) (by assumption) ?_
    rotate_left 1
    focus (intro w hSw; first | (go_simp; first | done | with_reducible rfl) | ((try dsimp only at hSw); go_split_ands; go_simp; first | done | with_reducible rfl))
    try simp only [Act.put, pA, pB, pC]
    refine wpAnyH_take (i := 2) (oi := ⟨some 76, .fieldAddr 107 (.tmp 75) 1, 0, "law.go:130", #[⟨1, .data⟩], none⟩) (v := ?_) rfl (by kernel_rfl) (by kernel_rfl) (by kernel_rfl) (fun _ _ _ h => h) (Or.inl ⟨by rfl, ?_⟩) (by assumption) ?_
    rotate_left 1
    focus (intro w hSw; first | (go_simp; first | done | with_reducible rfl) | ((try dsimp only at hSw); go_split_ands; go_simp; first | done | with_reducible rfl))
    try simp only [Act.put, pA, pB, pC]
    refine wpAnyH_take (i := 3) (oi := ⟨some 77, .fieldAddr 105 (.tmp 76) 3, 0, "law.go:130", #[⟨2, .data⟩], none⟩) (v := ?_) rfl (by kernel_rfl) (by kernel_rfl) (by kernel_rfl) (fun _ _ _ h => h) (Or.inl ⟨by rfl, ?_⟩) (by assumption) ?_
    rotate_left 1
    focus (intro w hSw; first | (go_simp; first | done | with_reducible rfl) | ((try dsimp only at hSw); go_split_ands; go_simp; first | done | with_reducible rfl))
    try simp only [Act.put, pA, pB, pC]
    refine wpAnyH_take (i := 4) (oi := ⟨some 78, .load 5 (.tmp 77), 5, "law.go:130", #[⟨3, .data⟩], none⟩) (v := ?_) rfl (by kernel_rfl) (by kernel_rfl) (by kernel_rfl) (fun _ _ _ h => h) (Or.inl ⟨by rfl, ?_⟩) (by assumption) ?_
    rotate_left 1
    focus (intro w hSw; first | (go_simp; first | done | with_reducible rfl) | ((try dsimp only at hSw); go_split_ands; go_simp; first | done | with_reducible rfl))
    try simp only [Act.put, pA, pB, pC]
    refine wpAnyH_take (i := 5) (oi := ⟨some 79, .convert 5 33 (.tmp 78), 33, "law.go:130", #[⟨4, .data⟩], none⟩) (v := ?_) rfl (by kernel_rfl) (by kernel_rfl) (by kernel_rfl) (fun _ _ _ h => h) (Or.inl ⟨by rfl, ?_⟩) (by assumption) ?_
    rotate_left 1
    focus (intro w hSw; first | (go_simp; first | done | with_reducible rfl) | ((try dsimp only at hSw); go_split_ands; go_simp; first | done | with_reducible rfl))
    try simp only [Act.put, pA, pB, pC]
    refine wpAnyH_take (i := 7) (oi := ⟨some 81, .move (.tmp 0), 141, "law.go:130", #[], none⟩) (v := ?_) rfl (by kernel_rfl) (by kernel_rfl) (by kernel_rfl) (fun _ _ _ h => h) (Or.inl ⟨by rfl, ?_⟩) (by assumption) ?_
    rotate_left 1
    focus (intro w hSw; first | (go_simp; first | done | with_reducible rfl) | ((try dsimp only at hSw); go_split_ands; go_simp; first | done | with_reducible rfl))
    try simp only [Act.put, pA, pB, pC]
    refine wpAnyH_take (i := 8) (oi := ⟨some 82, .nilCheck (.tmp 81), 0, "law.go:130", #[⟨7, .data⟩], none⟩) (v := ?_) rfl (by kernel_rfl) (by kernel_rfl) (by kernel_rfl) (fun _ _ _ h => h) (Or.inl ⟨by rfl, ?_⟩) (by assumption) ?_
    rotate_left 1
    focus (intro w hSw; first | (go_simp; first | done | with_reducible rfl) | ((try dsimp only at hSw); go_split_ands; go_simp; first | done | with_reducible rfl))
    try simp only [Act.put, pA, pB, pC]
    refine wpAnyH_take (i := 9) (oi := ⟨some 83, .fieldAddr 107 (.tmp 82) 1, 0, "law.go:130", #[⟨8, .data⟩], none⟩) (v := ?_) rfl (by kernel_rfl) (by kernel_rfl) (by kernel_rfl) (fun _ _ _ h => h) (Or.inl ⟨by rfl, ?_⟩) (by assumption) ?_
    rotate_left 1
    focus (intro w hSw; first | (go_simp; first | done | with_reducible rfl) | ((try dsimp only at hSw); go_split_ands; go_simp; first | done | with_reducible rfl))
    try simp only [Act.put, pA, pB, pC]
    refine wpAnyH_take (i := 10) (oi := ⟨some 84, .fieldAddr 105 (.tmp 83) 2, 0, "law.go:130", #[⟨9, .data⟩], none⟩) (v := ?_) rfl (by kernel_rfl) (by kernel_rfl) (by kernel_rfl) (fun _ _ _ h => h) (Or.inl ⟨by rfl, ?_⟩) (by assumption) ?_
    rotate_left 1
    focus (intro w hSw; first | (go_simp; first | done | with_reducible rfl) | ((try dsimp only at hSw); go_split_ands; go_simp; first | done | with_reducible rfl))
    try simp only [Act.put, pA, pB, pC]
    refine wpAnyH_take (i := 11) (oi := ⟨some 85, .load 5 (.tmp 84), 5, "law.go:130", #[⟨10, .data⟩], none⟩) (v := ?_) rfl (by kernel_rfl) (by kernel_rfl) (by kernel_rfl) (fun _ _ _ h => h) (Or.inl ⟨by rfl, ?_⟩) (by assumption) ?_
    rotate_left 1
    focus (intro w hSw; first | (go_simp; first | done | with_reducible rfl) | ((try dsimp only at hSw); go_split_ands; go_simp; first | done | with_reducible rfl))
    try simp only [Act.put, pA, pB, pC]
    refine wpAnyH_take (i := 12) (oi := ⟨some 86, .convert 5 3 (.tmp 85), 3, "law.go:130", #[⟨11, .data⟩], none⟩) (v := ?_) rfl (by kernel_rfl) (by kernel_rfl) (by kernel_rfl) (fun _ _ _ h => h) (Or.inl ⟨by rfl, ?_⟩) (by assumption) ?_
    rotate_left 1
    focus (intro w hSw; first | (go_simp; first | done | with_reducible rfl) | ((try dsimp only at hSw); go_split_ands; go_simp; first | done | with_reducible rfl))
    try simp only [Act.put, pA, pB, pC]
    refine wpAnyH_take (i := 13) (oi := ⟨some 87, .move (.tmp 1), 99, "law.go:130", #[], none⟩) (v := ?_) rfl (by kernel_rfl) (by kernel_rfl) (by kernel_rfl) (fun _ _ _ h => h) (Or.inl ⟨by rfl, ?_⟩) (by assumption) ?_
    rotate_left 1
    focus (intro w hSw; first | (go_simp; first | done | with_reducible rfl) | ((try dsimp only at hSw); go_split_ands; go_simp; first | done | with_reducible rfl))
    try simp only [Act.put, pA, pB, pC]
    refine wpAnyH_take (i := 14) (oi := ⟨some 88, .nilCheck (.tmp 87), 0, "law.go:130", #[⟨13, .data⟩], none⟩) (v := ?_) rfl (by kernel_rfl) (by kernel_rfl) (by kernel_rfl) (fun _ _ _ h => h) (Or.inl ⟨by rfl, ?_⟩) (by assumption) ?_
    rotate_left 1
    focus (intro w hSw; first | (go_simp; first | done | with_reducible rfl) | ((try dsimp only at hSw); go_split_ands; go_simp; first | done | with_reducible rfl))
    try simp only [Act.put, pA, pB, pC]
    refine wpAnyH_take (i := 15) (oi := ⟨some 89, .fieldAddr 101 (.tmp 88) 0, 0, "law.go:130", #[⟨14, .data⟩], none⟩) (v := ?_) rfl (by kernel_rfl) (by kernel_rfl) (by kernel_rfl) (fun _ _ _ h => h) (Or.inl ⟨by rfl, ?_⟩) (by assumption) ?_
    rotate_left 1
    focus (intro w hSw; first | (go_simp; first | done | with_reducible rfl) | ((try dsimp only at hSw); go_split_ands; go_simp; first | done | with_reducible rfl))
    try simp only [Act.put, pA, pB, pC]
    refine wpAnyH_take (i := 16) (oi := ⟨some 90, .fieldAddr 23 (.tmp 89) 1, 0, "law.go:130", #[⟨15, .data⟩], none⟩) (v := ?_) rfl (by kernel_rfl) (by kernel_rfl) (by kernel_rfl) (fun _ _ _ h => h) (Or.inl ⟨by rfl, ?_⟩) (by assumption) ?_
    rotate_left 1
    focus (intro w hSw; first | (go_simp; first | done | with_reducible rfl) | ((try dsimp only at hSw); go_split_ands; go_simp; first | done | with_reducible rfl))
    try simp only [Act.put, pA, pB, pC]
    refine wpAnyH_take (i := 17) (oi := ⟨some 91, .load 3 (.tmp 90), 3, "law.go:130", #[⟨16, .data⟩], none⟩) (v := ?_) rfl (by kernel_rfl) (by kernel_rfl) (by kernel_rfl) (fun _ _ _ h => h) (Or.inl ⟨by rfl, ?_⟩) (by assumption) ?_
    rotate_left 1
    focus (intro w hSw; first | (go_simp; first | done | with_reducible rfl) | ((try dsimp only at hSw); go_split_ands; go_simp; first | done | with_reducible rfl))
    try simp only [Act.put, pA, pB, pC]
    refine wpAnyH_take (i := 18) (oi := ⟨some 92, .binOp .add 3 (.tmp 91) (.const (.int .i64 1)) 3, 3, "law.go:130", #[⟨17, .data⟩], none⟩) (v := ?_) rfl (by kernel_rfl) (by kernel_rfl) (by kernel_rfl) (fun _ _ _ h => h) (Or.inl ⟨by rfl, ?_⟩) (by assumption) ?_
    rotate_left 1
    focus (intro w hSw; first | (go_simp; first | done | with_reducible rfl) | ((try dsimp only at hSw); go_split_ands; go_simp; first | done | with_reducible rfl))
    try simp only [Act.put, pA, pB, pC]
    refine wpAnyH_take (i := 19) (oi := ⟨some 93, .binOp .rem 3 (.tmp 86) (.tmp 92) 3, 3, "law.go:130", #[⟨12, .data⟩, ⟨18, .data⟩], none⟩) (v := ?_) rfl (by kernel_rfl) (by kernel_rfl) (by kernel_rfl) (fun _ _ _ h => h) (Or.inl ⟨by rfl, ?_⟩) (by assumption) ?_
    rotate_left 1
    focus (intro w hSw; first | (go_simp; first | done | with_reducible rfl) | ((try dsimp only at hSw); go_split_ands; go_simp; first | done | with_reducible rfl))
    try simp only [Act.put, pA, pB, pC]
    refine wpAnyH_take (i := 20) (oi := ⟨some 94, .move (.tmp 1), 99, "law.go:130", #[], none⟩) (v := ?_) rfl (by kernel_rfl) (by kernel_rfl) (by kernel_rfl) (fun _ _ _ h => h) (Or.inl ⟨by rfl, ?_⟩) (by assumption) ?_
    rotate_left 1
    focus (intro w hSw; first | (go_simp; first | done | with_reducible rfl) | ((try dsimp only at hSw); go_split_ands; go_simp; first | done | with_reducible rfl))
    try simp only [Act.put, pA, pB, pC]
    refine wpAnyH_take (i := 21) (oi := ⟨some 95, .nilCheck (.tmp 94), 0, "law.go:130", #[⟨20, .data⟩], none⟩) (v := ?_) rfl (by kernel_rfl) (by kernel_rfl) (by kernel_rfl) (fun _ _ _ h => h) (Or.inl ⟨by rfl, ?_⟩) (by assumption) ?_
    rotate_left 1
    focus (intro w hSw; first | (go_simp; first | done | with_reducible rfl) | ((try dsimp only at hSw); go_split_ands; go_simp; first | done | with_reducible rfl))
    try simp only [Act.put, pA, pB, pC]
    refine wpAnyH_take (i := 22) (oi := ⟨some 96, .fieldAddr 101 (.tmp 95) 2, 0, "law.go:130", #[⟨21, .data⟩], none⟩) (v := ?_) rfl (by kernel_rfl) (by kernel_rfl) (by kernel_rfl) (fun _ _ _ h => h) (Or.inl ⟨by rfl, ?_⟩) (by assumption) ?_
    rotate_left 1
    focus (intro w hSw; first | (go_simp; first | done | with_reducible rfl) | ((try dsimp only at hSw); go_split_ands; go_simp; first | done | with_reducible rfl))
    try simp only [Act.put, pA, pB, pC]
    refine wpAnyH_take (i := 23) (oi := ⟨some 97, .load 35 (.tmp 96), 35, "law.go:130", #[⟨22, .data⟩], none⟩) (v := ?_) rfl (by kernel_rfl) (by kernel_rfl) (by kernel_rfl) (fun _ _ _ h => h) (Or.inl ⟨by rfl, ?_⟩) (by assumption) ?_
    rotate_left 1
    focus (intro w hSw; first | (go_simp; first | done | with_reducible rfl) | ((try dsimp only at hSw); go_split_ands; go_simp; first | done | with_reducible rfl))
    try simp only [Act.put, pA, pB, pC]
    refine wpAnyH_take (i := 24) (oi := ⟨some 98, .move (.tmp 5), 3, "law.go:130", #[], none⟩) (v := ?_) rfl (by kernel_rfl) (by kernel_rfl) (by kernel_rfl) (fun _ _ _ h => h) (Or.inl ⟨by rfl, ?_⟩) (by assumption) ?_
    rotate_left 1
    focus (intro w hSw; first | (go_simp; first | done | with_reducible rfl) | ((try dsimp only at hSw); go_split_ands; go_simp; first | done | with_reducible rfl))
    try simp only [Act.put, pA, pB, pC]
    refine wpAnyH_take (i := 25) (oi := ⟨some 99, .indexAddr 35 (.tmp 97) (.tmp 98), 0, "law.go:130", #[⟨23, .data⟩, ⟨24, .data⟩], none⟩) (v := ?_) rfl (by kernel_rfl) (by kernel_rfl) (by kernel_rfl) (fun _ _ _ h => h) (Or.inl ⟨by rfl, ?_⟩) (by assumption) ?_
    rotate_left 1
    focus (intro w hSw; first | (go_simp; first | done | with_reducible rfl) | ((try dsimp only at hSw); go_split_ands; go_simp; first | done | with_reducible rfl))
    try simp only [Act.put, pA, pB, pC]
    refine wpAnyH_take (i := 26) (oi := ⟨some 100, .load 3 (.tmp 99), 3, "law.go:130", #[⟨25, .data⟩], none⟩) (v := ?_) rfl (by kernel_rfl) (by kernel_rfl) (by kernel_rfl) (fun _ _ _ h => h) (Or.inl ⟨by rfl, ?_⟩) (by assumption) ?_
    rotate_left 1
    focus (intro w hSw; first | (go_simp; first | done | with_reducible rfl) | ((try dsimp only at hSw); go_split_ands; go_simp; first | done | with_reducible rfl))
    try simp only [Act.put, pA, pB, pC]
    refine wpAnyH_take (i := 27) (oi := ⟨some 101, .binOp .sub 3 (.tmp 100) (.const (.int .i64 1)) 3, 3, "law.go:130", #[⟨26, .data⟩], none⟩) (v := ?_) rfl (by kernel_rfl) (by kernel_rfl) (by kernel_rfl) (fun _ _ _ h => h) (Or.inl ⟨by rfl, ?_⟩) (by assumption) ?_
    rotate_left 1
    focus (intro w hSw; first | (go_simp; first | done | with_reducible rfl) | ((try dsimp only at hSw); go_split_ands; go_simp; first | done | with_reducible rfl))
    try simp only [Act.put, pA, pB, pC]
    focus refine wpAnyH_ready (rs := [6, 29]) (by kernel_rfl) (by simp) ?_
    focus refine AllReadyH.cons (o := ⟨some 80, .call { callee := .value (.func 102), args := #[.tmp 79], argTypes := #[33] }, 3, "law.go:130", #[⟨5, .data⟩], none⟩) rfl (fun K hK => ?_) (AllReadyH.cons (o := ⟨some 10, .alloc 85, 0, "law.go:130", #[], none⟩) rfl (fun K hK => ?_) AllReadyH.nil)
    rotate_left 1
    focus
      go_simp
      (have hN0 := Blk.new w6 85 #[.int .i64 0, .int .i64 0, .bool false, .int .i64 0, .int .i64 0, .int .i64 0]; have hb9 := Below.alloc (Below.refl w6.heap.size w6) (Nat.le_refl _) (.cells #[.int .i64 0, .int .i64 0, .bool false, .int .i64 0, .int .i64 0, .int .i64 0] 85); obtain ⟨wz, hwz⟩ : ∃ wz, w6.alloc (.cells #[.int .i64 0, .int .i64 0, .bool false, .int .i64 0, .int .i64 0, .int .i64 0] 85) = wz := ⟨_, rfl⟩; rw [hwz] at hN0 hb9; (try simp only [hwz]); have hNL := Lib.hid (show ¬ (w6.heap.size = B ∨ w6.heap.size = WB ∨ w6.heap.size = RB ∨ w6.heap.size = m ∨ w6.heap.size = bb ∨ w6.heap.size = nb ∨ w6.heap.size = b1) from fun k => by have l1 := hB2.out.lt; have l2 := hW2.out.lt; have l3 := hR2.out.lt; have l4 := hM2.out.lm; have l5 := hM2.out.lb; have l6 := hN.out.lt; have l7 := hRw.out.lt hN0'; omega); have hNg := Lib.hid (hFa.out.size); have hNq := Lib.hid (show ∀ k, (Value.slice A1 (h ++ [(s : Int)]).length c1).ownBlock = some k → ¬ k = w6.heap.size from fun k e q => by have := (IQ.typed hq4.out k e).2.1; omega); replace hB2 := Lib.hid (hB2.out.below hb9 hB2.out.lt); replace hW2 := Lib.hid (hW2.out.below hb9 hW2.out.lt); replace hR2 := Lib.hid (hR2.out.below hb9 hR2.out.lt); replace hM2 := Lib.hid (hM2.out.next hb9); replace hq4 := Lib.hid (IQ.below hq4.out hb9); replace hFa := Lib.hid (hFa.out.trans (fr_below hb9)); replace hRw := Lib.hid (hRw.out.below hb9 (Nat.le_refl _)); replace hN := Lib.hid (hN.out.below hb9 hN.out.lt); clear hb9; have hN2 := Lib.hid hN0; clear hwz hN0; generalize w6.heap.size = nc at *; have hY2 : wz.cell? ⟨B, o + 1 + 3, none⟩ = some (.int .u8 x.ep) ∧ wz.cell? ⟨B, o + 1 + 2, none⟩ = some (.int .u8 x.ar) ∧ wz.cell? ⟨WB, 1, none⟩ = some (.int .i64 c.A) ∧ wz.cell? ⟨WB, 7, none⟩ = some (.slice (some ⟨RB, 0, none⟩) c.S.toNat c.S.toNat) ∧ wz.cell? ⟨RB, s, none⟩ = some (.int .i64 (μ s + 1)) := hSx.out _ hB2.out hW2.out hR2.out)
      refine hK.out _ _ (by assumption) (fun hHeld => ?_)
      clear hK K
      try simp only [Act.put, pA, pB, pC]
    rotate_right 1
    focus
      go_simp
      (go_at_call 102; (with_reducible refine (rBorn_c x.ep hep0 hep _).mono ?_); rintro e we ⟨rfl, hd⟩; have hb9 := hd.below; clear hd; replace hB2 := Lib.hid (hB2.out.below hb9 hB2.out.lt); replace hW2 := Lib.hid (hW2.out.below hb9 hW2.out.lt); replace hR2 := Lib.hid (hR2.out.below hb9 hR2.out.lt); replace hM2 := Lib.hid (hM2.out.next hb9); replace hq4 := Lib.hid (IQ.below hq4.out hb9); replace hFa := Lib.hid (hFa.out.trans (fr_below hb9)); replace hRw := Lib.hid (hRw.out.below hb9 (Nat.le_refl _)); replace hN := Lib.hid (hN.out.below hb9 hN.out.lt); (try replace hN2 := Lib.hid (hN2.out.below hb9 hN2.out.lt)); clear hb9; have hY1 : we.cell? ⟨B, o + 1 + 3, none⟩ = some (.int .u8 x.ep) ∧ we.cell? ⟨B, o + 1 + 2, none⟩ = some (.int .u8 x.ar) ∧ we.cell? ⟨WB, 1, none⟩ = some (.int .i64 c.A) ∧ we.cell? ⟨WB, 7, none⟩ = some (.slice (some ⟨RB, 0, none⟩) c.S.toNat c.S.toNat) ∧ we.cell? ⟨RB, s, none⟩ = some (.int .i64 (μ s + 1)) := hSx.out _ hB2.out hW2.out hR2.out)
      refine hK.out _ _ (by assumption) (fun hHeld => ?_)
      clear hK K
      try simp only [Act.put, pA, pB, pC]
      refine wpAnyH_take (i := 28) (oi := ⟨some 102, .build 85 #[(0, .const (.int .i64 1)), (1, .tmp 80), (3, .tmp 93), (4, .tmp 101)], 85, "law.go:130", #[⟨6, .data⟩, ⟨19, .data⟩, ⟨27, .data⟩], none⟩) (v := ?_) rfl (by kernel_rfl) (by kernel_rfl) (by kernel_rfl) (fun _ _ _ h => h) (Or.inl ⟨by rfl, ?_⟩) (by assumption) ?_
      rotate_left 1
      focus (intro w hSw; first | (go_simp; first | done | with_reducible rfl) | ((try dsimp only at hSw); go_split_ands; go_simp; first | done | with_reducible rfl))
      try simp only [Act.put, pA, pB, pC]
    all_goals first
      | (have hmark := hN2; clear hmark
         refine wpAnyH_ready (rs := [6]) (by kernel_rfl) (by simp) ?_
         refine AllReadyH.cons (o := ⟨some 80, .call { callee := .value (.func 102), args := #[.tmp 79], argTypes := #[33] }, 3, "law.go:130", #[⟨5, .data⟩], none⟩) rfl (fun K hK => ?_) AllReadyH.nil
         go_simp
         (go_at_call 102; (with_reducible refine (rBorn_c x.ep hep0 hep _).mono ?_); rintro e we ⟨rfl, hd⟩; have hb9 := hd.below; clear hd; replace hB2 := Lib.hid (hB2.out.below hb9 hB2.out.lt); replace hW2 := Lib.hid (hW2.out.below hb9 hW2.out.lt); replace hR2 := Lib.hid (hR2.out.below hb9 hR2.out.lt); replace hM2 := Lib.hid (hM2.out.next hb9); replace hq4 := Lib.hid (IQ.below hq4.out hb9); replace hFa := Lib.hid (hFa.out.trans (fr_below hb9)); replace hRw := Lib.hid (hRw.out.below hb9 (Nat.le_refl _)); replace hN := Lib.hid (hN.out.below hb9 hN.out.lt); (try replace hN2 := Lib.hid (hN2.out.below hb9 hN2.out.lt)); clear hb9; have hY1 : we.cell? ⟨B, o + 1 + 3, none⟩ = some (.int .u8 x.ep) ∧ we.cell? ⟨B, o + 1 + 2, none⟩ = some (.int .u8 x.ar) ∧ we.cell? ⟨WB, 1, none⟩ = some (.int .i64 c.A) ∧ we.cell? ⟨WB, 7, none⟩ = some (.slice (some ⟨RB, 0, none⟩) c.S.toNat c.S.toNat) ∧ we.cell? ⟨RB, s, none⟩ = some (.int .i64 (μ s + 1)) := hSx.out _ hB2.out hW2.out hR2.out)
         refine hK.out _ _ (by assumption) (fun hHeld => ?_)
         clear hK K
         try simp only [Act.put, pA, pB, pC]
         refine wpAnyH_take (i := 28) (oi := ⟨some 102, .build 85 #[(0, .const (.int .i64 1)), (1, .tmp 80), (3, .tmp 93), (4, .tmp 101)], 85, "law.go:130", #[⟨6, .data⟩, ⟨19, .data⟩, ⟨27, .data⟩], none⟩) (v := ?_) rfl (by kernel_rfl) (by kernel_rfl) (by kernel_rfl) (fun _ _ _ h => h) (Or.inl ⟨by rfl, ?_⟩) (by assumption) ?_
         rotate_left 1
         focus (intro w hSw; first | (go_simp; first | done | with_reducible rfl) | ((try dsimp only at hSw); go_split_ands; go_simp; first | done | with_reducible rfl))
         try simp only [Act.put, pA, pB, pC])
      | skip
    focus
      refine wpAnyH_ready (rs := [29]) (by kernel_rfl) (by simp) ?_
      refine AllReadyH.cons (o := ⟨some 10, .alloc 85, 0, "law.go:130", #[], none⟩) rfl (fun K hK => ?_) AllReadyH.nil
      go_simp
      (have hN0 := Blk.new we 85 #[.int .i64 0, .int .i64 0, .bool false, .int .i64 0, .int .i64 0, .int .i64 0]; have hb9 := Below.alloc (Below.refl we.heap.size we) (Nat.le_refl _) (.cells #[.int .i64 0, .int .i64 0, .bool false, .int .i64 0, .int .i64 0, .int .i64 0] 85); obtain ⟨wz, hwz⟩ : ∃ wz, we.alloc (.cells #[.int .i64 0, .int .i64 0, .bool false, .int .i64 0, .int .i64 0, .int .i64 0] 85) = wz := ⟨_, rfl⟩; rw [hwz] at hN0 hb9; (try simp only [hwz]); have hNL := Lib.hid (show ¬ (we.heap.size = B ∨ we.heap.size = WB ∨ we.heap.size = RB ∨ we.heap.size = m ∨ we.heap.size = bb ∨ we.heap.size = nb ∨ we.heap.size = b1) from fun k => by have l1 := hB2.out.lt; have l2 := hW2.out.lt; have l3 := hR2.out.lt; have l4 := hM2.out.lm; have l5 := hM2.out.lb; have l6 := hN.out.lt; have l7 := hRw.out.lt hN0'; omega); have hNg := Lib.hid (hFa.out.size); have hNq := Lib.hid (show ∀ k, (Value.slice A1 (h ++ [(s : Int)]).length c1).ownBlock = some k → ¬ k = we.heap.size from fun k e q => by have := (IQ.typed hq4.out k e).2.1; omega); replace hB2 := Lib.hid (hB2.out.below hb9 hB2.out.lt); replace hW2 := Lib.hid (hW2.out.below hb9 hW2.out.lt); replace hR2 := Lib.hid (hR2.out.below hb9 hR2.out.lt); replace hM2 := Lib.hid (hM2.out.next hb9); replace hq4 := Lib.hid (IQ.below hq4.out hb9); replace hFa := Lib.hid (hFa.out.trans (fr_below hb9)); replace hRw := Lib.hid (hRw.out.below hb9 (Nat.le_refl _)); replace hN := Lib.hid (hN.out.below hb9 hN.out.lt); clear hb9; have hN2 := Lib.hid hN0; clear hwz hN0; generalize we.heap.size = nc at *; have hY2 : wz.cell? ⟨B, o + 1 + 3, none⟩ = some (.int .u8 x.ep) ∧ wz.cell? ⟨B, o + 1 + 2, none⟩ = some (.int .u8 x.ar) ∧ wz.cell? ⟨WB, 1, none⟩ = some (.int .i64 c.A) ∧ wz.cell? ⟨WB, 7, none⟩ = some (.slice (some ⟨RB, 0, none⟩) c.S.toNat c.S.toNat) ∧ wz.cell? ⟨RB, s, none⟩ = some (.int .i64 (μ s + 1)) := hSx.out _ hB2.out hW2.out hR2.out)
      refine hK.out _ _ (by assumption) (fun hHeld => ?_)
      clear hK K
      try simp only [Act.put, pA, pB, pC]
    all_goals
      refine wpAnyH_ready (rs := [30]) (by kernel_rfl) (by simp) ?_
      refine AllReadyH.cons (o := ⟨none, .store 85 (.tmp 10) (.tmp 102), 0, "law.go:130", #[⟨29, .data⟩, ⟨28, .data⟩, ⟨6, .chain⟩, ⟨0, .phase⟩, ⟨1, .phase⟩, ⟨2, .phase⟩, ⟨3, .phase⟩, ⟨4, .phase⟩, ⟨5, .phase⟩, ⟨6, .phase⟩, ⟨7, .phase⟩, ⟨8, .phase⟩, ⟨9, .phase⟩, ⟨10, .phase⟩, ⟨11, .phase⟩, ⟨12, .phase⟩, ⟨13, .phase⟩, ⟨14, .phase⟩, ⟨15, .phase⟩, ⟨16, .phase⟩, ⟨17, .phase⟩, ⟨18, .phase⟩, ⟨19, .phase⟩, ⟨20, .phase⟩, ⟨21, .phase⟩, ⟨22, .phase⟩, ⟨23, .phase⟩, ⟨24, .phase⟩, ⟨25, .phase⟩, ⟨26, .phase⟩, ⟨27, .phase⟩, ⟨28, .phase⟩, ⟨29, .phase⟩], none⟩) rfl (fun K hK => ?_) AllReadyH.nil
      obtain ⟨⟨n0, n1, n2, n3, n4, n5⟩, f0, f1, f2, f3, f4, f5⟩ := six_cells hN2.out; go_simp
      (obtain ⟨wy, ewy, hNy, hFy⟩ := hdr_blk (b0 := .int .i64 1) (b1 := .int .i64 (bornI x.ep)) (b2 := .bool false) (b3 := .int .i64 (x.ar % (c.A + 1))) (b4 := .int .i64 (μ s)) (b5 := .int .i64 0) hN2.out; rw [ewy]; clear n0 n1 n2 n3 n4 n5 f0 f1 f2 f3 f4 f5 ewy; have nn := hNL.out; have nq := hNq.out; replace hB2 := Lib.hid (hB2.out.fr hFy (fun e => nn (.inl e.symm))); replace hW2 := Lib.hid (hW2.out.fr hFy (fun e => nn (.inr (.inl e.symm)))); replace hR2 := Lib.hid (hR2.out.fr hFy (fun e => nn (.inr (.inr (.inl e.symm))))); replace hM2 := Lib.hid (hM2.out.fr hFy (fun e => nn (.inr (.inr (.inr (.inl e.symm))))) (fun e => nn (.inr (.inr (.inr (.inr (.inl e.symm))))))); replace hN := Lib.hid (hN.out.fr hFy (fun e => nn (.inr (.inr (.inr (.inr (.inr (.inl e.symm)))))))); replace hRw := Lib.hid (hRw.out.fr hFy (fun e => nn (.inr (.inr (.inr (.inr (.inr (.inr e.symm)))))))); replace hq4 := Lib.hid (IQ.fr hq4.out hFy nq); have ng := hNg.out; replace hFa := Lib.hid (fr_old ((hFa.out.mono (S' := fun k => (k = B ∨ k = RB ∨ some k = (Value.slice hA h.length hcc).ownBlock) ∨ w.heap.size ≤ k) (fun k e => .inl e)).trans (hFy.mono (fun k e => .inr (e ▸ ng))))); replace hN2 := Lib.hid hNy; clear hNy hFy nn nq ng; have hY3 : wy.cell? ⟨B, o + 1 + 3, none⟩ = some (.int .u8 x.ep) ∧ wy.cell? ⟨B, o + 1 + 2, none⟩ = some (.int .u8 x.ar) ∧ wy.cell? ⟨WB, 1, none⟩ = some (.int .i64 c.A) ∧ wy.cell? ⟨WB, 7, none⟩ = some (.slice (some ⟨RB, 0, none⟩) c.S.toNat c.S.toNat) ∧ wy.cell? ⟨RB, s, none⟩ = some (.int .i64 (μ s + 1)) := hSx.out _ hB2.out hW2.out hR2.out)
      refine hK.out _ _ (by assumption) (fun hHeld => ?_)
      clear hK K
      try simp only [Act.put, pA, pB, pC]
      refine wpAnyH_done (by kernel_rfl) ?_ _
      clear hX'
      go_wp2
      go_meet
      case rel => exact ⟨nc, rfl, hNL.out, hNg.out, hNq.out, hN2.out, hN.out, hRw.out, hB2.out, hW2.out, hR2.out, hM2.out, hq4.out, hFa.out⟩
  case rest =>
    obtain ⟨nc, rfl, hNL, hNg, hNq, hN2', hN', hRw', hB', hW', hR', hM', hq', hF'⟩ := hcut
    clear hB2 hW2 hR2 hM2 hq4 hRw hN hFa y6 z6
    have hB2 := Lib.hid hB'
    have hW2 := Lib.hid hW'
    have hR2 := Lib.hid hR'
    have hM2 := Lib.hid hM'
    have hq4 := Lib.hid hq'
    have hRw := Lib.hid hRw'
    have hN := Lib.hid hN'
    have hN2 := Lib.hid hN2'
    have hFa := Lib.hid hF'
    replace hNL := Lib.hid hNL
    replace hNq := Lib.hid hNq
    clear hB' hW' hR' hM' hq' hRw' hN' hN2' hF'
    obtain ⟨kd, ekd⟩ : ∃ kd : Int, kdOf x = kd := ⟨_, rfl⟩
    obtain ⟨ar, ear⟩ : ∃ ar : Int, arOf c x = ar := ⟨_, rfl⟩
    replace ekd := Lib.hid ekd
    replace ear := Lib.hid ear
    have yrc := (hSy.out _ hB2.out).1
    go_upto_if 107 with (fail)
    go_cut [] (fun wx => Blk wx nc 85 #[.int .i64 (kdOf x), .int .i64 (bornI x.ep), .bool false, .int .i64 (arOf c x), .int .i64 (μ s), .int .i64 0] ∧ Blk wx nb 85 #[.int .i64 (kdOf x), .int .i64 (bornI x.ep), .bool false, .int .i64 (arOf c x), .int .i64 (μ s), .int .i64 0] ∧ RowB wx (some ⟨b1, 0, none⟩) ca b1 N M.f ∧ Blk wx B 107 ((cs.setIfInBounds (o + 7) (.pointer none)).setIfInBounds (o + 6) (.slice A1 (h.length + 1) c1)) ∧ Blk wx WB 101 (worldA c m RB) ∧ Blk wx RB 3 (rowF .i64 c.S.toNat (fun j => mset μ s (μ s + 1) j)) ∧ MemB wx m bb M ∧ IQ wx lo (.slice A1 (h ++ [(s : Int)]).length c1) (h ++ [(s : Int)]) ∧ Fr (fun k => k = B ∨ k = RB ∨ some k = (Value.slice hA h.length hcc).ownBlock) w wx)
    case first =>
      obtain ⟨⟨n0, n1, n2, n3, n4, n5⟩, f0, f1, f2, f3, f4, f5⟩ := six_cells hN2.out
      cases hrc : x.rc with
      | true =>
        have e1 : kdOf x = 2 := by unfold kdOf; simp [hrc]
        have e2 : arOf c x = 0 := by unfold arOf; simp [hrc]
        have hFy := (Fr.set (fun k => k = nc) wc (p := ⟨nc, 0, none⟩) rfl (.int .i64 2)).trans (Fr.set (fun k => k = nc) _ (p := ⟨nc, 3, none⟩) rfl (.int .i64 0))
        have hNy := (hN2.out.set 0 (.int .i64 2)).set 3 (.int .i64 0)
        replace hFy := Lib.hid hFy
        replace hNy := Lib.hid hNy
        replace e1 := Lib.hid e1
        replace e2 := Lib.hid e2
        replace hrc := Lib.hid hrc
        go_wp2
        go_meet
        case rel =>
          have nn := hNL.out
          have nq := hNq.out
          refine ⟨?_, hN.out.fr hFy.out (fun e => nn (.inr (.inr (.inr (.inr (.inr (.inl e.symm))))))), hRw.out.fr hFy.out (fun e => nn (.inr (.inr (.inr (.inr (.inr (.inr e.symm))))))), hB2.out.fr hFy.out (fun e => nn (.inl e.symm)), hW2.out.fr hFy.out (fun e => nn (.inr (.inl e.symm))), hR2.out.fr hFy.out (fun e => nn (.inr (.inr (.inl e.symm)))), hM2.out.fr hFy.out (fun e => nn (.inr (.inr (.inr (.inl e.symm))))) (fun e => nn (.inr (.inr (.inr (.inr (.inl e.symm)))))), IQ.fr hq4.out hFy.out nq, fr_old ((hFa.out.mono (S' := fun k => (k = B ∨ k = RB ∨ some k = (Value.slice hA h.length hcc).ownBlock) ∨ w.heap.size ≤ k) (fun k e => .inl e)).trans (hFy.out.mono (fun k e => .inr (e ▸ hNg))))⟩
          rw [e1.out, e2.out]
          simpa using hNy.out
      | false =>
        have e1 : kdOf x = 1 := by unfold kdOf; simp [hrc]
        have e2 : arOf c x = x.ar % (c.A + 1) := by unfold arOf; simp [hrc]
        replace e1 := Lib.hid e1
        replace e2 := Lib.hid e2
        replace hrc := Lib.hid hrc
        go_wp2
        go_meet
        case rel => exact ⟨by rw [e1.out, e2.out]; exact hN2.out, hN.out, hRw.out, hB2.out, hW2.out, hR2.out, hM2.out, hq4.out, hFa.out⟩
    case rest =>
      obtain ⟨hN2', hN', hRw', hB', hW', hR', hM', hq', hF'⟩ := hcut
      clear hB2 hW2 hR2 hM2 hq4 hRw hN hN2 hFa yrc
      have hB2 := Lib.hid hB'
      have hW2 := Lib.hid hW'
      have hR2 := Lib.hid hR'
      have hM2 := Lib.hid hM'
      have hq4 := Lib.hid hq'
      have hRw := Lib.hid hRw'
      have hN := Lib.hid hN'
      have hN2 := Lib.hid hN2'
      have hFa := Lib.hid hF'
      clear hB' hW' hR' hM' hq' hRw' hN' hN2' hF'
      have hri := room_i hr
      obtain ⟨hd6, ehd⟩ : ∃ hd6, #[Value.int .i64 (kdOf x), .int .i64 (bornI x.ep), .bool false, .int .i64 (arOf c x), .int .i64 (μ s), .int .i64 0] = hd6 := ⟨_, rfl⟩
      replace hN := Lib.hid (ehd ▸ hN.out)
      replace hN2 := Lib.hid (ehd ▸ hN2.out)
      replace ehd := Lib.hid ehd
      go_wp2
      go_loopw [11] (fun vi wr => ∃ i : Nat, i ≤ roomI c ∧ vi = .int .i64 (i : Int) ∧ Blk wr nc 85 hd6 ∧ Blk wr nb 85 hd6 ∧ RowB wr (some ⟨b1, 0, none⟩) ca b1 N M.f ∧ Blk wr B 107 ((cs.setIfInBounds (o + 7) (.pointer none)).setIfInBounds (o + 6) (.slice A1 (h.length + 1) c1)) ∧ Blk wr WB 101 (worldA c m RB) ∧ Blk wr RB 3 (rowF .i64 c.S.toNat (fun j => mset μ s (μ s + 1) j)) ∧ MemB wr m bb M ∧ IQ wr lo (.slice A1 (h ++ [(s : Int)]).length c1) (h ++ [(s : Int)]) ∧ Fr (fun k => k = B ∨ k = RB ∨ some k = (Value.slice hA h.length hcc).ownBlock) w wr) (fun vi _ => roomI c - (intOf vi).toNat)
      case atStart => exact ⟨0, Nat.zero_le _, rfl, hN2.out, hN.out, hRw.out, hB2.out, hW2.out, hR2.out, hM2.out, hq4.out, hFa.out⟩
      case round =>
        obtain ⟨i, hi, rfl, hN2', hN', hRw', hB', hW', hR', hM', hq', hF'⟩ := hrel
        clear hB2 hW2 hR2 hM2 hq4 hRw hN hN2 hFa
        have hB2 := Lib.hid hB'
        have hW2 := Lib.hid hW'
        have hR2 := Lib.hid hR'
        have hM2 := Lib.hid hM'
        have hq4 := Lib.hid hq'
        have hRw := Lib.hid hRw'
        have hN := Lib.hid hN'
        have hN2 := Lib.hid hN2'
        have hFa := Lib.hid hF'
        clear hB' hW' hR' hM' hq' hRw' hN' hN2' hF'
        obtain ⟨⟨k0, k1, k2, k3, k4, k5⟩, k6, k7⟩ := world_cells hW2.out
        by_cases hlt : i < roomI c
        · obtain ⟨jx, hj, hjN, hjv⟩ : ∃ jx : Nat, c.body s i = (jx : Int) ∧ jx < N ∧ M.f jx = padF 1 (fun _ => x.wd) i := by
            have e1 := body_pl hr hsR (i := (i : Int)) ⟨by omega, by omega⟩
            have hb := pl_bd hr hsR (o := 2 + (i : Int)) ⟨by omega, by omega⟩
            have := hNs.out
            exact ⟨(c.body s i).toNat, by omega, by omega, by rw [e1]; exact hBd.out i hlt⟩
          have hjI : (jx : Int) < (N : Int) := by omega
          have hj0 : (0 : Int) ≤ (jx : Int) := by omega
          have hltI : (i : Int) < (roomI c : Int) := by omega
          have hww : (x.wd != x.wd) = false := by simp
          have ywd := (hSy.out _ hB2.out).2
          obtain ⟨_, cc2, ff2⟩ := hRw.out.cell hjN
          by_cases h0 : i = 0
          · have hv : M.f jx = x.wd := by rw [hjv, h0]; rfl
            subst h0
            replace hv := Lib.hid hv
            replace hj := Lib.hid hj
            clear hjv
            have hj' := hj.out
            replace hj' := Lib.hid hj'
            go_wp2_with (first
              | (go_at_call 50; (with_reducible refine (rRoomC c _ hr).mono ?_); rintro e wa ⟨rfl, hb9⟩; replace hB2 := Lib.hid (hB2.out.below hb9 hB2.out.lt); replace hW2 := Lib.hid (hW2.out.below hb9 hW2.out.lt); replace hR2 := Lib.hid (hR2.out.below hb9 hR2.out.lt); replace hM2 := Lib.hid (hM2.out.next hb9); replace hq4 := Lib.hid (IQ.below hq4.out hb9); replace hFa := Lib.hid (hFa.out.trans (fr_below hb9)); replace hRw := Lib.hid (hRw.out.below hb9 (Nat.le_refl _)); replace hN := Lib.hid (hN.out.below hb9 hN.out.lt); (try replace hN2 := Lib.hid (hN2.out.below hb9 hN2.out.lt)); clear hb9; obtain ⟨⟨k0, k1, k2, k3, k4, k5⟩, k6, k7⟩ := world_cells hW2.out)
              | (go_at_call 63; refine (atBodyC c _ WB m RB s ((0 : Nat) : Int) hW2.out hr).mono ?_; rintro e wb ⟨rfl, hb9⟩; rw [hj.out]; replace hB2 := Lib.hid (hB2.out.below hb9 hB2.out.lt); replace hW2 := Lib.hid (hW2.out.below hb9 hW2.out.lt); replace hR2 := Lib.hid (hR2.out.below hb9 hR2.out.lt); replace hM2 := Lib.hid (hM2.out.next hb9); replace hq4 := Lib.hid (IQ.below hq4.out hb9); replace hFa := Lib.hid (hFa.out.trans (fr_below hb9)); replace hRw := Lib.hid (hRw.out.below hb9 (Nat.le_refl _)); replace hN := Lib.hid (hN.out.below hb9 hN.out.lt); (try replace hN2 := Lib.hid (hN2.out.below hb9 hN2.out.lt)); clear hb9; have cw := (hRw.out.cell hjN).2.1; rw [hv.out] at cw; have ywd := (hSy.out _ hB2.out).2))
            go_roundw
            case measure => simp [intOf]; omega
            case rel => exact ⟨1, by omega, rfl, hN2.out, hN.out, hRw.out, hB2.out, hW2.out, hR2.out, hM2.out, hq4.out, hFa.out⟩
          · have hv : M.f jx = 0 := by rw [hjv]; unfold padF; rw [if_neg (by omega)]
            have hi0 : ((i : Int) == 0) = false := by rw [beq_eq_false_iff_ne]; omega
            have hi1 : (0 : Int) < (i : Int) := by omega
            replace hv := Lib.hid hv
            replace hj := Lib.hid hj
            clear hjv
            go_wp2_with (first
              | (go_at_call 50; (with_reducible refine (rRoomC c _ hr).mono ?_); rintro e wa ⟨rfl, hb9⟩; replace hB2 := Lib.hid (hB2.out.below hb9 hB2.out.lt); replace hW2 := Lib.hid (hW2.out.below hb9 hW2.out.lt); replace hR2 := Lib.hid (hR2.out.below hb9 hR2.out.lt); replace hM2 := Lib.hid (hM2.out.next hb9); replace hq4 := Lib.hid (IQ.below hq4.out hb9); replace hFa := Lib.hid (hFa.out.trans (fr_below hb9)); replace hRw := Lib.hid (hRw.out.below hb9 (Nat.le_refl _)); replace hN := Lib.hid (hN.out.below hb9 hN.out.lt); (try replace hN2 := Lib.hid (hN2.out.below hb9 hN2.out.lt)); clear hb9; obtain ⟨⟨k0, k1, k2, k3, k4, k5⟩, k6, k7⟩ := world_cells hW2.out)
              | (go_at_call 63; refine (atBodyC c _ WB m RB s i hW2.out hr).mono ?_; rintro e wb ⟨rfl, hb9⟩; rw [hj.out]; replace hB2 := Lib.hid (hB2.out.below hb9 hB2.out.lt); replace hW2 := Lib.hid (hW2.out.below hb9 hW2.out.lt); replace hR2 := Lib.hid (hR2.out.below hb9 hR2.out.lt); replace hM2 := Lib.hid (hM2.out.next hb9); replace hq4 := Lib.hid (IQ.below hq4.out hb9); replace hFa := Lib.hid (hFa.out.trans (fr_below hb9)); replace hRw := Lib.hid (hRw.out.below hb9 (Nat.le_refl _)); replace hN := Lib.hid (hN.out.below hb9 hN.out.lt); (try replace hN2 := Lib.hid (hN2.out.below hb9 hN2.out.lt)); clear hb9; have cw := (hRw.out.cell hjN).2.1; rw [hv.out] at cw; have ywd := (hSy.out _ hB2.out).2))
            go_roundw
            case measure => simp [intOf]; omega
            case rel => exact ⟨i + 1, by omega, by go_num, hN2.out, hN.out, hRw.out, hB2.out, hW2.out, hR2.out, hM2.out, hq4.out, hFa.out⟩
        · have hltI : ¬ (i : Int) < (roomI c : Int) := by omega
          go_upto_region 20 with (first
              | (go_at_call 50; (with_reducible refine (rRoomC c _ hr).mono ?_); rintro e wa ⟨rfl, hb9⟩; replace hB2 := Lib.hid (hB2.out.below hb9 hB2.out.lt); replace hW2 := Lib.hid (hW2.out.below hb9 hW2.out.lt); replace hR2 := Lib.hid (hR2.out.below hb9 hR2.out.lt); replace hM2 := Lib.hid (hM2.out.next hb9); replace hq4 := Lib.hid (IQ.below hq4.out hb9); replace hFa := Lib.hid (hFa.out.trans (fr_below hb9)); replace hRw := Lib.hid (hRw.out.below hb9 (Nat.le_refl _)); replace hN := Lib.hid (hN.out.below hb9 hN.out.lt); (try replace hN2 := Lib.hid (hN2.out.below hb9 hN2.out.lt)); clear hb9; obtain ⟨⟨k0, k1, k2, k3, k4, k5⟩, k6, k7⟩ := world_cells hW2.out))
          have hN3 := hN.out
          have hN4 := hN2.out
          rw [← ehd.out] at hN3 hN4
          obtain ⟨⟨n0, n1, n2, n3, n4, n5⟩, _⟩ := six_cells hN3
          obtain ⟨⟨p0, p1, p2, p3, p4, p5⟩, _⟩ := six_cells hN4
          have r0 : wa.cell? ⟨RB, s, none⟩ = some (.int .i64 (μ s + 1)) := hR2.out.cell ((rowF_get s2).trans (by rw [mset_eq]))
          have s0 : (0 : Int) ≤ (s : Int) := by omega
          have s1 : (s : Int) < max c.S 0 := by have := hsR.2; omega
          have hG : μ s + 1 ≤ c.G := by omega
          clear hN3 hN4
          go_quiet (fail)
          go_wp2
          go_ret
          refine ⟨rfl, .slice A1 (h.length + 1) c1, hB2.out.drewN nq, ?_, ?_, hR2.out.drewN nq, hFa.out.trans (Fr.drewN _ wa nq)⟩
          · have e : (h ++ [(s : Int)]).length = h.length + 1 := by simp
            rw [← e]
            exact IQ.fr hq4.out (Fr.drewN (fun _ => False) wa nq) (fun _ _ => id)
          · have e : (h ++ [(s : Int)]).length = h.length + 1 := by simp
            rw [← e]
            exact ho3.out
end Go.Proofs.Ytijfkpoofpcacaa.MakerY
end
section
namespace Go.Proofs.Ytijfkpoofpcacaa.MakerB
open Go.RowKit Go.Proofs.YtijfkpoofpcacaaW.PrintWords Go.Proofs.Ytijfkpoofpcacaa.Blk Go.Proofs.Ytijfkpoofpcacaa.Core Go.Proofs.Ytijfkpoofpcacaa.MemC Go.Proofs.Ytijfkpoofpcacaa.MemD Go.Proofs.Ytijfkpoofpcacaa.MemT Go.Proofs.Ytijfkpoofpcacaa.Memory Go.Proofs.Ytijfkpoofpcacaa.PlanC Go.Proofs.Ytijfkpoofpcacaa.PlanD Go.Proofs.Ytijfkpoofpcacaa.RefM Go.Proofs.Ytijfkpoofpcacaa.StackC Go.Proofs.Ytijfkpoofpcacaa.StackL Go.Proofs.Ytijfkpoofpcacaa.StackS Go.Proofs.Ytijfkpoofpcacaa.StackF Go.Proofs.Ytijfkpoofpcacaa.StackP Go.Proofs.Ytijfkpoofpcacaa.StackG Go.Proofs.Ytijfkpoofpcacaa.StackT Go.Proofs.Ytijfkpoofpcacaa.HeadC Go.Proofs.Ytijfkpoofpcacaa.ArenaC Go.Proofs.Ytijfkpoofpcacaa.ArenaM Go.Proofs.Ytijfkpoofpcacaa.ArenaP Go.Proofs.Ytijfkpoofpcacaa.ArenaL Go.Proofs.Ytijfkpoofpcacaa.ArenaR Go.Proofs.Ytijfkpoofpcacaa.ArenaQ Go.Proofs.Ytijfkpoofpcacaa.ArenaU Go.Proofs.Ytijfkpoofpcacaa.ArenaW Go.Proofs.Ytijfkpoofpcacaa.ArenaY Go.Proofs.Ytijfkpoofpcacaa.MakerL Go.Proofs.Ytijfkpoofpcacaa.MakerM Go.Proofs.Ytijfkpoofpcacaa.MakerF Go.Proofs.Ytijfkpoofpcacaa.MakerT Go.Proofs.Ytijfkpoofpcacaa.MakerU Go.Proofs.Ytijfkpoofpcacaa.MakerV Go.Proofs.Ytijfkpoofpcacaa.MakerW Go.Proofs.Ytijfkpoofpcacaa.MakerX Go.Proofs.Ytijfkpoofpcacaa.MakerY Go.Proofs.Ytijfkpoofpcacaa.MakerA Go.Proofs.Ytijfkpoofpcacaa.Opens
open Go.Proofs.Ytijfkpoofpcacaa.TakerS (IQ blk_one fr_grown)
theorem same_t (M : Ms) : M.t ≤ M.t + 1 := by omega
theorem ld_t (M : Ms) (a : Int) : (M.ldS a).t ≤ M.t + 1 := by
  unfold Ms.ldS
  split
  · exact Int.le_refl _
  · exact same_t M
theorem st_t (M : Ms) (a v : Int) : (M.stS a v).t ≤ M.t + 1 := by
  unfold Ms.stS
  split
  · exact Int.le_refl _
  · exact same_t M
theorem sw_t (M : Ms) (a o v : Int) : (M.swS a o v).t ≤ M.t + 1 := by
  unfold Ms.swS
  split
  · exact Int.le_refl _
  · exact same_t M
theorem pop_t (c : Cf) (q : Pop) (M : Ms) : (popM c q M).t ≤ M.t + 1 := by
  unfold popM
  repeat' split
  all_goals first | exact ld_t _ _ | exact sw_t _ _ _ _ | exact same_t _
theorem push_t (c : Cf) (q : Push) (M : Ms) : (pushM c q M).t ≤ M.t + 1 := by
  unfold pushM
  repeat' split
  all_goals first | exact ld_t _ _ | exact st_t _ _ _ | exact sw_t _ _ _ _ | exact same_t _
theorem mk_t (c : Cf) (g : Nat → Int) (a : Mk) (M : Ms) : (mkM c g a M).t ≤ M.t + 1 := by
  unfold mkM
  repeat' split
  all_goals first | exact pop_t _ _ _ | exact ld_t _ _ | exact st_t _ _ _ | exact same_t _
theorem fr_t (c : Cf) (a : Fre) (M : Ms) : (frM c a M).t ≤ M.t + 1 := by
  unfold frM
  repeat' split
  all_goals first | exact push_t _ _ _ | exact ld_t _ _ | exact st_t _ _ _ | exact same_t _
def YesAft (c : Cf) (w : World) (B RB lo m b p q K i s : Nat) (T : Nat → Mr) (μ : Int → Int) (M1 : Ms) (w' : World) : Prop := ∃ w2, Fr (four p q m b) w w2 ∧ MemB w2 m b M1 ∧ MdAft w2 B RB (10 * i) lo (marr K T) (T i).hv (T i).h s c.S.toNat μ w'
theorem g_U {c : Cf} {w0 w : World} {lo B WB RB m b K i : Nat} {T : Nat → Mr} {μ : Int → Int} (hB : AB c w0 w lo B WB RB m b K T μ) (hi : i < K) : U (T i).g := fun j => by
  have h := (hB.num i hi).2.2
  unfold Mr.g padF
  split
  · exact h
  · exact ⟨Int.le_refl 0, by decide⟩
def Mr.wk (τ : Mr) : Wk := ⟨τ.fr, τ.rc, τ.ar, τ.ep, τ.wd⟩
section
variable {c : Cf} (hr : c.right = true) {w0 w : World} {lo B WB RB m b K N n i : Nat} {M : Ms} {t : Int} {L : List Int} {T : Nat → Mr} {own : Int → Nat} {μ : Int → Int}
  (hM : MemB w m b M) (hf : Fine M N n) (hn : n ≤ 900000) (hNs : (N : Int) = c.size) (ht : t + 1 < 281474976710656) (hB : AB c w0 w lo B WB RB m b K T μ) (hI : AI c M.f t L K T own μ) (hi : i < K)
include hr hM hf hn hNs ht hB hI hi
set_option maxHeartbeats 4000000 in
set_option maxRecDepth 100000 in
theorem stGo {z : MkP} (hz : (T i).ma = some z) (hd : mkD c (roomI c) z.a M = false) : Calls Try.prog 60 #[.pointer (some ⟨B, 10 * i, none⟩), .pointer (some ⟨WB, 0, none⟩)] w fun e w' => e = .returned (.bool true) ∧
    MkB w' z.p z.q z.r c (roomI c) (T i).g (mkS c (roomI c) z.a M) ∧ MemB w' m b (mkM c (T i).g z.a M) ∧ Fr (four z.p z.q m b) w w' := by
  obtain ⟨hMk, hOk, n1, n2, n3⟩ := hB.ma i hi z hz
  have hft := fun k h => hB.ft i hi k (.inl ⟨z, hz, h⟩)
  have np := (hft z.p (.inl rfl)).2.2
  have nq := (hft z.q (.inr (.inl rfl))).2.2
  have nr := (hft z.r (.inr (.inr rfl))).2.2
  have tw : ∀ {k}, ¬ fixd B WB RB m b k → ¬ two m b k := fun h e => h (e.elim (fun e => .inr (.inr (.inr (.inl e)))) (fun e => .inr (.inr (.inr (.inr e)))))
  obtain ⟨nWB, nRB, nRW, nm⟩ := hB.ne
  have n8 : N ≤ 65536 := by have := size_bd hr; unfold Cf.size at hNs; omega
  have ok : Ok M := hf.ok n8 (by omega)
  have hri := room_i hr
  have y7 : w.cell? ⟨B, 10 * i + 7, none⟩ = some (.pointer (some ⟨z.p, 0, none⟩)) := hB.blk.cell (i := 10 * i + 7) (by have := marr_get (T := T) (k := 7) hi (by decide); rw [show mv (T i) 7 = .pointer (some ⟨z.p, 0, none⟩) by show Value.pointer ((T i).ma.map _) = _; rw [hz]; rfl] at this; exact this)
  have k6 := (world_cells hB.wld).2.1
  have hstep := Lib.hid (makeC c w z.p z.q z.r m b (roomI c) M (T i).g z.a hr hM ok (tw np) (tw nq) (tw nr) n1 n2 n3 (by omega) hMk hOk)
  have htt := mk_t c (T i).g z.a M
  have hne4 : ∀ k, fixd B WB RB m b k → k ≠ m → k ≠ b → ¬ four z.p z.q m b k := fun k h e1 e2 h4 => by
    rcases h4 with h4 | h4 | h4 | h4
    · exact np (h4 ▸ h)
    · exact nq (h4 ▸ h)
    · exact e1 h4
    · exact e2 h4
  have f0 := hf.t0
  have f1 := hf.t
  have hMd := hM.drew
  have hMkd : MkB w.drew z.p z.q z.r c (roomI c) (T i).g z.a := hMk.fr (Fr.drew (fun _ => False) w) id id id
  have hstep := makeC c w.drew z.p z.q z.r m b (roomI c) M (T i).g z.a hr hMd ok (tw np) (tw nq) (tw nr) n1 n2 n3 (by omega) hMkd hOk
  rw [hd] at hstep
  have hW0 := hB.wld
  have hB0 := hB.blk
  generalize mkM c (T i).g z.a M = M1 at *
  generalize mkS c (roomI c) z.a M = z1 at *
  have hle : ¬ M.t + 1 < M1.t := by omega
  have hM0 := Lib.hid hM
  have f2 : M.t + 1 < 9223372036854775807 := by omega
  have b7 := Lib.hid (show (marr K T)[10 * i + 7]? = some (.pointer (some ⟨z.p, 0, none⟩)) from by have := marr_get (T := T) (k := 7) hi (by decide); rw [show mv (T i) 7 = .pointer (some ⟨z.p, 0, none⟩) by show Value.pointer ((T i).ma.map _) = _; rw [hz]; rfl] at this; exact this)
  obtain ⟨nB4, nW4⟩ : ¬ four z.p z.q m b B ∧ ¬ four z.p z.q m b WB := ⟨hne4 B (.inl rfl) (fun e => (nm B (.inl e)).1 rfl) (fun e => (nm B (.inr e)).1 rfl), hne4 WB (.inr (.inl rfl)) (fun e => (nm WB (.inl e)).2.1 rfl) (fun e => (nm WB (.inr e)).2.1 rfl)⟩
  replace hstep := Lib.hid hstep
  have hBd := Lib.hid hB0.drew
  have hWd := Lib.hid hW0.drew
  have hX' : w.drew.cell? ⟨B, 10 * i + 7, none⟩ = some (.pointer (some ⟨z.p, 0, none⟩)) ∧ w.drew.cell? ⟨WB, 6, none⟩ = some (.pointer (some ⟨m, 0, none⟩)) := ⟨y7, k6⟩
  replace hz := Lib.hid hz
  replace hd := Lib.hid hd
  replace hf := Lib.hid hf
  replace hNs := Lib.hid hNs
  clear hB0 hW0 hM hMd hMkd htt
  go_enter Try.func60, Try.ntmps60
  go_upto_region 6 with (go_at_call 26; refine (touches_c _ m b M hM0.out).mono ?_; rintro e w1 ⟨rfl, rfl⟩)
  go_region_held3 (fun w' => w'.cell? ⟨B, 10 * i + 7, none⟩ = some (.pointer (some ⟨z.p, 0, none⟩)) ∧ w'.cell? ⟨WB, 6, none⟩ = some (.pointer (some ⟨m, 0, none⟩))) (assumption) ((go_at_call 52; refine hstep.out.mono ?_; rintro e w2 ⟨rfl, hMk2, hM2, hF2⟩; have hB2 := hBd.out.fr hF2 nB4; have hW2 := hWd.out.fr hF2 nW4; have hY := And.intro (hB2.cell b7.out) (world_cells hW2).2.1; have hFw := (Fr.drew (four z.p z.q m b) w).trans hF2; replace hMk2 := Lib.hid hMk2; replace hM2 := Lib.hid hM2; replace hB2 := Lib.hid hB2; replace hW2 := Lib.hid hW2; replace hFw := Lib.hid hFw; clear hF2))
  clear hX' y7 k6
  obtain ⟨y7, k6⟩ := hY
  go_wp2_with (go_at_call 26; refine (touches_c _ m b M1 hM2.out).mono ?_; rintro e w3 ⟨rfl, rfl⟩)
  go_ret
  exact ⟨rfl, hMk2.out, hM2.out, hFw.out⟩
set_option maxHeartbeats 4000000 in
set_option maxRecDepth 100000 in
theorem stFull {z : MkP} (hz : (T i).ma = some z) (hd : mkD c (roomI c) z.a M = true) (hfu : (mkS c (roomI c) z.a M).fu = true) (hsl : (mkS c (roomI c) z.a M).sl = -1) : Calls Try.prog 60 #[.pointer (some ⟨B, 10 * i, none⟩), .pointer (some ⟨WB, 0, none⟩)] w fun e w' => e = .returned (.bool true) ∧
    Blk w' B 107 ((marr K T).setIfInBounds (10 * i + 7) (.pointer none)) ∧ MemB w' m b (mkM c (T i).g z.a M) ∧ Fr (fun k => k = B ∨ four z.p z.q m b k) w w' := by
  obtain ⟨hMk, hOk, n1, n2, n3⟩ := hB.ma i hi z hz
  have hft := fun k h => hB.ft i hi k (.inl ⟨z, hz, h⟩)
  have np := (hft z.p (.inl rfl)).2.2
  have nq := (hft z.q (.inr (.inl rfl))).2.2
  have nr := (hft z.r (.inr (.inr rfl))).2.2
  have tw : ∀ {k}, ¬ fixd B WB RB m b k → ¬ two m b k := fun h e => h (e.elim (fun e => .inr (.inr (.inr (.inl e)))) (fun e => .inr (.inr (.inr (.inr e)))))
  obtain ⟨nWB, nRB, nRW, nm⟩ := hB.ne
  have n8 : N ≤ 65536 := by have := size_bd hr; unfold Cf.size at hNs; omega
  have ok : Ok M := hf.ok n8 (by omega)
  have hri := room_i hr
  have y7 : w.cell? ⟨B, 10 * i + 7, none⟩ = some (.pointer (some ⟨z.p, 0, none⟩)) := hB.blk.cell (i := 10 * i + 7) (by have := marr_get (T := T) (k := 7) hi (by decide); rw [show mv (T i) 7 = .pointer (some ⟨z.p, 0, none⟩) by show Value.pointer ((T i).ma.map _) = _; rw [hz]; rfl] at this; exact this)
  have k6 := (world_cells hB.wld).2.1
  have hstep := Lib.hid (makeC c w z.p z.q z.r m b (roomI c) M (T i).g z.a hr hM ok (tw np) (tw nq) (tw nr) n1 n2 n3 (by omega) hMk hOk)
  have htt := mk_t c (T i).g z.a M
  have hne4 : ∀ k, fixd B WB RB m b k → k ≠ m → k ≠ b → ¬ four z.p z.q m b k := fun k h e1 e2 h4 => by
    rcases h4 with h4 | h4 | h4 | h4
    · exact np (h4 ▸ h)
    · exact nq (h4 ▸ h)
    · exact e1 h4
    · exact e2 h4
  have f0 := hf.t0
  have f1 := hf.t
  have hMd := hM.drew
  have hMkd : MkB w.drew z.p z.q z.r c (roomI c) (T i).g z.a := hMk.fr (Fr.drew (fun _ => False) w) id id id
  have hstep := makeC c w.drew z.p z.q z.r m b (roomI c) M (T i).g z.a hr hMd ok (tw np) (tw nq) (tw nr) n1 n2 n3 (by omega) hMkd hOk
  rw [hd] at hstep
  have hW0 := hB.wld
  have hB0 := hB.blk
  generalize mkM c (T i).g z.a M = M1 at *
  generalize mkS c (roomI c) z.a M = z1 at *
  have hle : ¬ M.t + 1 < M1.t := by omega
  have hM0 := Lib.hid hM
  have f2 : M.t + 1 < 9223372036854775807 := by omega
  have b7 := Lib.hid (show (marr K T)[10 * i + 7]? = some (.pointer (some ⟨z.p, 0, none⟩)) from by have := marr_get (T := T) (k := 7) hi (by decide); rw [show mv (T i) 7 = .pointer (some ⟨z.p, 0, none⟩) by show Value.pointer ((T i).ma.map _) = _; rw [hz]; rfl] at this; exact this)
  obtain ⟨nB4, nW4⟩ : ¬ four z.p z.q m b B ∧ ¬ four z.p z.q m b WB := ⟨hne4 B (.inl rfl) (fun e => (nm B (.inl e)).1 rfl) (fun e => (nm B (.inr e)).1 rfl), hne4 WB (.inr (.inl rfl)) (fun e => (nm WB (.inl e)).2.1 rfl) (fun e => (nm WB (.inr e)).2.1 rfl)⟩
  replace hstep := Lib.hid hstep
  have hBd := Lib.hid hB0.drew
  have hWd := Lib.hid hW0.drew
  have nmB : m ≠ B ∧ b ≠ B := ⟨(nm m (.inl rfl)).1, (nm b (.inr rfl)).1⟩
  have hX' : w.drew.cell? ⟨B, 10 * i + 7, none⟩ = some (.pointer (some ⟨z.p, 0, none⟩)) ∧ w.drew.cell? ⟨WB, 6, none⟩ = some (.pointer (some ⟨m, 0, none⟩)) := ⟨y7, k6⟩
  replace hz := Lib.hid hz
  replace hd := Lib.hid hd
  replace hf := Lib.hid hf
  replace hNs := Lib.hid hNs
  clear hB0 hW0 hM hMd hMkd htt
  go_enter Try.func60, Try.ntmps60
  go_upto_region 6 with (go_at_call 26; refine (touches_c _ m b M hM0.out).mono ?_; rintro e w1 ⟨rfl, rfl⟩)
  go_region_held3 (fun w' => w'.cell? ⟨B, 10 * i + 7, none⟩ = some (.pointer (some ⟨z.p, 0, none⟩)) ∧ w'.cell? ⟨WB, 6, none⟩ = some (.pointer (some ⟨m, 0, none⟩))) (assumption) ((go_at_call 52; refine hstep.out.mono ?_; rintro e w2 ⟨rfl, hMk2, hM2, hF2⟩; have hB2 := hBd.out.fr hF2 nB4; have hW2 := hWd.out.fr hF2 nW4; have hY := And.intro (hB2.cell b7.out) (world_cells hW2).2.1; have hFw := (Fr.drew (four z.p z.q m b) w).trans hF2; replace hMk2 := Lib.hid hMk2; replace hM2 := Lib.hid hM2; replace hB2 := Lib.hid hB2; replace hW2 := Lib.hid hW2; replace hFw := Lib.hid hFw; clear hF2))
  clear hX' y7 k6
  obtain ⟨y7, k6⟩ := hY
  have hm0 := Lib.hid (show (makeA c z1.sl z1.fu z1.kd z1.ar z1.ep (.slice (some ⟨z.r, 0, none⟩) (roomI c) (roomI c)) (some ⟨z.q, 0, none⟩) z1.gn z1.ix z1.nx)[0]? = some (.int .i64 (-1)) by rw [← hsl]; rfl)
  have hm1 := Lib.hid (show (makeA c z1.sl z1.fu z1.kd z1.ar z1.ep (.slice (some ⟨z.r, 0, none⟩) (roomI c) (roomI c)) (some ⟨z.q, 0, none⟩) z1.gn z1.ix z1.nx)[1]? = some (.bool true) by rw [← hfu]; rfl)
  replace hsl := Lib.hid hsl
  replace hfu := Lib.hid hfu
  go_wp2_with (first
    | (go_at_call 26; refine (touches_c _ m b M1 hM2.out).mono ?_; rintro e w3 ⟨rfl, rfl⟩)
    | (go_at_call 90; refine (madeFull (WB := WB) hB2.out b7.out hMk2.out.blk hm0.out hm1.out).mono ?_; rintro e w4 ⟨rfl, hB4, hF4⟩; have hM4 := Lib.hid (hM2.out.fr hF4 (fun e => nmB.1 e) (fun e => nmB.2 e)); replace hFw := Lib.hid ((hFw.out.mono (S' := fun k => k = B ∨ four z.p z.q m b k) (fun k e => .inr e)).trans (hF4.mono (fun k e => .inl e))); replace hB4 := Lib.hid hB4; clear hF4))
  go_ret
  exact ⟨rfl, hB4.out, hM4.out, hFw.out⟩
set_option maxHeartbeats 4000000 in
set_option maxRecDepth 100000 in
theorem stYes {z : MkP} (hz : (T i).ma = some z) (hd : mkD c (roomI c) z.a M = true) (hfu : (mkS c (roomI c) z.a M).fu = false) {s : Nat} (hsl : (mkS c (roomI c) z.a M).sl = s) (hsR : InR c s) (hmu : 0 ≤ μ s ∧ μ s < c.G) (hX : hw c (mkM c (T i).g z.a M).f s = headN (T i).kd (bornI (T i).ep) false ((T i).an c) (μ s) 0) (hBy : ∀ j, j < roomI c → bw c (mkM c (T i).g z.a M).f s j = (T i).g j) : Calls Try.prog 60 #[.pointer (some ⟨B, 10 * i, none⟩), .pointer (some ⟨WB, 0, none⟩)] w fun e w' => e = .returned (.bool true) ∧
    YesAft c w B RB lo m b z.p z.q K i s T μ (mkM c (T i).g z.a M) w' := by
  obtain ⟨hMk, hOk, n1, n2, n3⟩ := hB.ma i hi z hz
  have hft := fun k h => hB.ft i hi k (.inl ⟨z, hz, h⟩)
  have np := (hft z.p (.inl rfl)).2.2
  have nq := (hft z.q (.inr (.inl rfl))).2.2
  have nr := (hft z.r (.inr (.inr rfl))).2.2
  have tw : ∀ {k}, ¬ fixd B WB RB m b k → ¬ two m b k := fun h e => h (e.elim (fun e => .inr (.inr (.inr (.inl e)))) (fun e => .inr (.inr (.inr (.inr e)))))
  obtain ⟨nWB, nRB, nRW, nm⟩ := hB.ne
  have n8 : N ≤ 65536 := by have := size_bd hr; unfold Cf.size at hNs; omega
  have ok : Ok M := hf.ok n8 (by omega)
  have hri := room_i hr
  have y7 : w.cell? ⟨B, 10 * i + 7, none⟩ = some (.pointer (some ⟨z.p, 0, none⟩)) := hB.blk.cell (i := 10 * i + 7) (by have := marr_get (T := T) (k := 7) hi (by decide); rw [show mv (T i) 7 = .pointer (some ⟨z.p, 0, none⟩) by show Value.pointer ((T i).ma.map _) = _; rw [hz]; rfl] at this; exact this)
  have k6 := (world_cells hB.wld).2.1
  have hstep := Lib.hid (makeC c w z.p z.q z.r m b (roomI c) M (T i).g z.a hr hM ok (tw np) (tw nq) (tw nr) n1 n2 n3 (by omega) hMk hOk)
  have htt := mk_t c (T i).g z.a M
  have hne4 : ∀ k, fixd B WB RB m b k → k ≠ m → k ≠ b → ¬ four z.p z.q m b k := fun k h e1 e2 h4 => by
    rcases h4 with h4 | h4 | h4 | h4
    · exact np (h4 ▸ h)
    · exact nq (h4 ▸ h)
    · exact e1 h4
    · exact e2 h4
  have hnp : ∀ k, (T i).hv.ownBlock = some k → k ≠ z.p := fun k e h => by
    obtain ⟨_, _, ds, hd⟩ := IQ.typed (hB.has i hi) k e
    exact absurd (blk_one hd (h ▸ hMk.blk)).1 (by decide)
  have hnq : ∀ k, (T i).hv.ownBlock = some k → k ≠ z.q := fun k e h => by
    obtain ⟨_, _, ds, hd⟩ := IQ.typed (hB.has i hi) k e
    exact absurd (blk_one hd (h ▸ hMk.pop)).1 (by decide)
  have hlen : (T i).h.length ≤ 1000 := by
    have h3 : ((T i).h).Nodup := by
      have h1 := hI.nd i hi
      unfold Mr.mine at h1
      split at h1
      · exact (List.nodup_cons.1 h1).2
      · exact h1
    have hS := S_bd hr
    have := nodup_len c.S.toNat _ h3 (fun y hy => by
      have hm := (hI.mine i hi y).1 (h_mine hy)
      have := hm.1.1
      have := hm.1.2
      omega)
    omega
  have f0 := hf.t0
  have f1 := hf.t
  have hMd := hM.drew
  have hMkd : MkB w.drew z.p z.q z.r c (roomI c) (T i).g z.a := hMk.fr (Fr.drew (fun _ => False) w) id id id
  have hstep := makeC c w.drew z.p z.q z.r m b (roomI c) M (T i).g z.a hr hMd ok (tw np) (tw nq) (tw nr) n1 n2 n3 (by omega) hMkd hOk
  rw [hd] at hstep
  have hW0 := hB.wld
  have hB0 := hB.blk
  have hfm := fine_mk (c := c) (g := (T i).g) hf hOk (g_U hB hi)
  generalize mkM c (T i).g z.a M = M1 at *
  generalize mkS c (roomI c) z.a M = z1 at *
  have hle : ¬ M.t + 1 < M1.t := by omega
  have hM0 := Lib.hid hM
  have f2 : M.t + 1 < 9223372036854775807 := by omega
  have b7 := Lib.hid (show (marr K T)[10 * i + 7]? = some (.pointer (some ⟨z.p, 0, none⟩)) from by have := marr_get (T := T) (k := 7) hi (by decide); rw [show mv (T i) 7 = .pointer (some ⟨z.p, 0, none⟩) by show Value.pointer ((T i).ma.map _) = _; rw [hz]; rfl] at this; exact this)
  obtain ⟨nB4, nW4⟩ : ¬ four z.p z.q m b B ∧ ¬ four z.p z.q m b WB := ⟨hne4 B (.inl rfl) (fun e => (nm B (.inl e)).1 rfl) (fun e => (nm B (.inr e)).1 rfl), hne4 WB (.inr (.inl rfl)) (fun e => (nm WB (.inl e)).2.1 rfl) (fun e => (nm WB (.inr e)).2.1 rfl)⟩
  replace hstep := Lib.hid hstep
  have hBd := Lib.hid hB0.drew
  have hWd := Lib.hid hW0.drew
  have hX' : w.drew.cell? ⟨B, 10 * i + 7, none⟩ = some (.pointer (some ⟨z.p, 0, none⟩)) ∧ w.drew.cell? ⟨WB, 6, none⟩ = some (.pointer (some ⟨m, 0, none⟩)) := ⟨y7, k6⟩
  replace hz := Lib.hid hz
  replace hd := Lib.hid hd
  replace hf := Lib.hid hf
  replace hfm := Lib.hid hfm
  replace hX := Lib.hid hX
  replace hBy := Lib.hid hBy
  replace hNs := Lib.hid hNs
  clear hB0 hW0 hM hMd hMkd htt
  go_enter Try.func60, Try.ntmps60
  go_upto_region 6 with (go_at_call 26; refine (touches_c _ m b M hM0.out).mono ?_; rintro e w1 ⟨rfl, rfl⟩)
  go_region_held3 (fun w' => w'.cell? ⟨B, 10 * i + 7, none⟩ = some (.pointer (some ⟨z.p, 0, none⟩)) ∧ w'.cell? ⟨WB, 6, none⟩ = some (.pointer (some ⟨m, 0, none⟩))) (assumption) ((go_at_call 52; refine hstep.out.mono ?_; rintro e w2 ⟨rfl, hMk2, hM2, hF2⟩; have hB2 := hBd.out.fr hF2 nB4; have hW2 := hWd.out.fr hF2 nW4; have hY := And.intro (hB2.cell b7.out) (world_cells hW2).2.1; have hFw := (Fr.drew (four z.p z.q m b) w).trans hF2; replace hMk2 := Lib.hid hMk2; replace hM2 := Lib.hid hM2; replace hB2 := Lib.hid hB2; replace hW2 := Lib.hid hW2; replace hFw := Lib.hid hFw; clear hF2))
  clear hX' y7 k6
  obtain ⟨y7, k6⟩ := hY
  have hm0 := Lib.hid (show (makeA c z1.sl z1.fu z1.kd z1.ar z1.ep (.slice (some ⟨z.r, 0, none⟩) (roomI c) (roomI c)) (some ⟨z.q, 0, none⟩) z1.gn z1.ix z1.nx)[0]? = some (.int .i64 s) by rw [← hsl]; rfl)
  have hm1 := Lib.hid (show (makeA c z1.sl z1.fu z1.kd z1.ar z1.ep (.slice (some ⟨z.r, 0, none⟩) (roomI c) (roomI c)) (some ⟨z.q, 0, none⟩) z1.gn z1.ix z1.nx)[1]? = some (.bool false) by rw [← hfu]; rfl)
  have nSh : ∀ k, (T i).hv.ownBlock = some k → ¬ four z.p z.q m b k := fun k e h4 => by
    have h5 := hB.ft i hi k (foot_hv e)
    rcases h4 with h4 | h4 | h4 | h4
    · exact hnp k e h4
    · exact hnq k e h4
    · exact h5.2.2 (.inr (.inr (.inr (.inl h4))))
    · exact h5.2.2 (.inr (.inr (.inr (.inr h4))))
  have hQ2 := IQ.fr (hB.has i hi) hFw.out nSh
  have hR2 := hB.row.fr hFw.out (hne4 RB (.inr (.inr (.inl rfl))) (fun e => (nm RB (.inl e)).2.2 rfl) (fun e => (nm RB (.inr e)).2.2 rfl))
  have hlo2 : lo ≤ w2.heap.size := by have := hFw.out.size; have := hB.lo_size; omega
  have hsz : 10 * i + 10 ≤ (marr K T).size := by
    have h9 := marr_get (T := T) (k := 9) hi (by decide)
    have := (Array.getElem?_eq_some_iff.1 h9).1
    omega
  have hmade := Lib.hid (madeYes (x := Mr.wk (T i)) (T := n + 1) hB2.out hsz (marr_get (T := T) (k := 2) hi (by decide)) (marr_get (T := T) (k := 3) hi (by decide)) (marr_get (T := T) (k := 4) hi (by decide)) (marr_get (T := T) (k := 5) hi (by decide)) (hB.num i hi) (marr_get (T := T) (k := 6) hi (by decide)) hQ2 hlen hlo2 b7.out hMk2.out.blk hm0.out hm1.out hW2.out hR2 nWB nRB nRW hM2.out (fun k => (nm B k).1 rfl) (fun k => (nm WB k).2.1 rfl) (fun k => (nm RB k).2.2 rfl) hr hfm.out (by omega) hNs.out hsR hmu (fun k e => by have h5 := (hB.ft i hi k (foot_hv e)).2.2; exact ⟨fun h => h5 (h.elim (fun e => .inr (.inr (.inr (.inl e)))) (fun e => .inr (.inr (.inr (.inr e))))), fun h => h5 (.inr (.inl h)), fun h => h5 (.inr (.inr (.inl h)))⟩) hX.out hBy.out)
  replace hsl := Lib.hid hsl
  replace hfu := Lib.hid hfu
  replace hsR := Lib.hid hsR
  replace hmu := Lib.hid hmu
  clear hQ2 hR2 nSh hnp hnq
  go_wp2_with (first
    | (go_at_call 26; refine (touches_c _ m b M1 hM2.out).mono ?_; rintro e w3 ⟨rfl, rfl⟩)
    | (go_at_call 90; refine hmade.out.mono ?_; rintro e w4 ⟨rfl, hA4⟩; replace hA4 := Lib.hid hA4))
  go_ret
  exact ⟨rfl, w2, hFw.out, hM2.out, hA4.out⟩
end
end Go.Proofs.Ytijfkpoofpcacaa.MakerB
end
section
namespace Go.Proofs.Ytijfkpoofpcacaa.MakerC
open Go.RowKit Go.Proofs.YtijfkpoofpcacaaW.PrintWords Go.Proofs.Ytijfkpoofpcacaa.Blk Go.Proofs.Ytijfkpoofpcacaa.Core Go.Proofs.Ytijfkpoofpcacaa.MemC Go.Proofs.Ytijfkpoofpcacaa.MemD Go.Proofs.Ytijfkpoofpcacaa.MemT Go.Proofs.Ytijfkpoofpcacaa.Memory Go.Proofs.Ytijfkpoofpcacaa.PlanC Go.Proofs.Ytijfkpoofpcacaa.PlanD Go.Proofs.Ytijfkpoofpcacaa.RefM Go.Proofs.Ytijfkpoofpcacaa.StackC Go.Proofs.Ytijfkpoofpcacaa.StackL Go.Proofs.Ytijfkpoofpcacaa.StackS Go.Proofs.Ytijfkpoofpcacaa.StackF Go.Proofs.Ytijfkpoofpcacaa.StackP Go.Proofs.Ytijfkpoofpcacaa.StackG Go.Proofs.Ytijfkpoofpcacaa.StackT Go.Proofs.Ytijfkpoofpcacaa.HeadC Go.Proofs.Ytijfkpoofpcacaa.ArenaC Go.Proofs.Ytijfkpoofpcacaa.ArenaM Go.Proofs.Ytijfkpoofpcacaa.ArenaP Go.Proofs.Ytijfkpoofpcacaa.ArenaL Go.Proofs.Ytijfkpoofpcacaa.ArenaR Go.Proofs.Ytijfkpoofpcacaa.ArenaQ Go.Proofs.Ytijfkpoofpcacaa.ArenaU Go.Proofs.Ytijfkpoofpcacaa.ArenaW Go.Proofs.Ytijfkpoofpcacaa.ArenaY Go.Proofs.Ytijfkpoofpcacaa.MakerL Go.Proofs.Ytijfkpoofpcacaa.MakerM Go.Proofs.Ytijfkpoofpcacaa.MakerF Go.Proofs.Ytijfkpoofpcacaa.MakerT Go.Proofs.Ytijfkpoofpcacaa.MakerU Go.Proofs.Ytijfkpoofpcacaa.MakerV Go.Proofs.Ytijfkpoofpcacaa.MakerW Go.Proofs.Ytijfkpoofpcacaa.MakerX Go.Proofs.Ytijfkpoofpcacaa.MakerY Go.Proofs.Ytijfkpoofpcacaa.MakerA Go.Proofs.Ytijfkpoofpcacaa.MakerB Go.Proofs.Ytijfkpoofpcacaa.Opens
open Go.Proofs.Ytijfkpoofpcacaa.TakerS (IQ blk_one fr_grown)
def FrGoAft (c : Cf) (w : World) (p m b : Nat) (qa : Option Nat) (z1 : Fre) (M1 : Ms) (w' : World) : Prop := ∃ qa', FrB w' p c z1 qa' ∧ (qa' = qa ∨ ∃ q, qa' = some q ∧ w.heap.size ≤ q ∧ q < w'.heap.size) ∧ MemB w' m b M1 ∧ Fr (fiv p m b qa) w w'
section
variable {c : Cf} (hr : c.right = true) {w0 w : World} {lo B WB RB m b K N n i : Nat} {M : Ms} {t : Int} {L : List Int} {T : Nat → Mr} {own : Int → Nat} {μ : Int → Int}
  (hM : MemB w m b M) (hf : Fine M N n) (hn : n ≤ 900000) (hNs : (N : Int) = c.size) (ht : t + 1 < 281474976710656) (hB : AB c w0 w lo B WB RB m b K T μ) (hI : AI c M.f t L K T own μ) (hi : i < K)
include hr hM hf hn hNs ht hB hI hi
set_option maxHeartbeats 4000000 in
set_option maxRecDepth 100000 in
theorem stFrGo {z : FeP} (hz : (T i).fe = some z) (hd : frD c z.a M = false) : Calls Try.prog 60 #[.pointer (some ⟨B, 10 * i, none⟩), .pointer (some ⟨WB, 0, none⟩)] w fun e w' => e = .returned (.bool true) ∧
    FrGoAft c w z.p m b z.qa (frS c z.a M) (frM c z.a M) w' := by
  obtain ⟨hFe, hOk, n1⟩ := hB.fe i hi z hz
  have hft := fun k h => hB.ft i hi k (.inr (.inl ⟨z, hz, h⟩))
  have np := (hft z.p (.inl rfl)).2.2
  have nq := fun q e => (hft q (.inr e)).2.2
  have tw : ∀ {k}, ¬ fixd B WB RB m b k → ¬ two m b k := fun h e => h (e.elim (fun e => .inr (.inr (.inr (.inl e)))) (fun e => .inr (.inr (.inr (.inr e)))))
  obtain ⟨nWB, nRB, nRW, nm⟩ := hB.ne
  have n8 : N ≤ 65536 := by have := size_bd hr; unfold Cf.size at hNs; omega
  have ok : Ok M := hf.ok n8 (by omega)
  have hma := (hI.fe i hi z hz).2
  have b7 := Lib.hid (show (marr K T)[10 * i + 7]? = some (.pointer none) from by have := marr_get (T := T) (k := 7) hi (by decide); rw [show mv (T i) 7 = .pointer none by show Value.pointer ((T i).ma.map _) = _; rw [hma]; rfl] at this; exact this)
  have b8 := Lib.hid (show (marr K T)[10 * i + 8]? = some (.pointer (some ⟨z.p, 0, none⟩)) from by have := marr_get (T := T) (k := 8) hi (by decide); rw [show mv (T i) 8 = .pointer (some ⟨z.p, 0, none⟩) by show Value.pointer ((T i).fe.map _) = _; rw [hz]; rfl] at this; exact this)
  have b9 := Lib.hid (show (marr K T)[10 * i + 9]? = some (.int .i64 (T i).fs) from marr_get (T := T) (k := 9) hi (by decide))
  have y7 := hB.blk.cell b7.out
  have y8 := hB.blk.cell b8.out
  have k6 := (world_cells hB.wld).2.1
  have htt := fr_t c z.a M
  have hfm := fine_fr (c := c) hf hOk
  have hne5 : ∀ k, fixd B WB RB m b k → k ≠ m → k ≠ b → ¬ fiv z.p m b z.qa k := fun k h e1 e2 h4 => by
    rcases h4 with h4 | h4 | h4 | h4
    · exact nq k h4 h
    · exact np (h4 ▸ h)
    · exact e1 h4
    · exact e2 h4
  have f0 := hf.t0
  have f1 := hf.t
  have hMd := hM.drew
  have hFed : FrB w.drew z.p c z.a z.qa := hFe.fr (Fr.drew (fun _ => False) w) id (fun _ _ => id)
  have hstep := freC2 c w.drew z.p m b M z.a z.qa hr hMd ok (tw np) (fun q e => ⟨tw (nq q e), (n1 q e).1⟩) hFed hOk
  rw [hd] at hstep
  have hW0 := hB.wld
  have hB0 := hB.blk
  have hR0 := hB.row
  generalize frM c z.a M = M1 at *
  generalize frS c z.a M = z1 at *
  have hle : ¬ M.t + 1 < M1.t := by omega
  have hM0 := Lib.hid hM
  have f2 : M.t + 1 < 9223372036854775807 := by omega
  obtain ⟨nB5, nW5, nR5⟩ : ¬ fiv z.p m b z.qa B ∧ ¬ fiv z.p m b z.qa WB ∧ ¬ fiv z.p m b z.qa RB := ⟨hne5 B (.inl rfl) (fun e => (nm B (.inl e)).1 rfl) (fun e => (nm B (.inr e)).1 rfl), hne5 WB (.inr (.inl rfl)) (fun e => (nm WB (.inl e)).2.1 rfl) (fun e => (nm WB (.inr e)).2.1 rfl), hne5 RB (.inr (.inr (.inl rfl))) (fun e => (nm RB (.inl e)).2.2 rfl) (fun e => (nm RB (.inr e)).2.2 rfl)⟩
  replace hstep := Lib.hid hstep
  have hBd := Lib.hid hB0.drew
  have hWd := Lib.hid hW0.drew
  have hRd := Lib.hid hR0.drew
  have hX' : w.drew.cell? ⟨B, 10 * i + 8, none⟩ = some (.pointer (some ⟨z.p, 0, none⟩)) ∧ w.drew.cell? ⟨WB, 6, none⟩ = some (.pointer (some ⟨m, 0, none⟩)) := ⟨y8, k6⟩
  replace hz := Lib.hid hz
  replace hd := Lib.hid hd
  replace hf := Lib.hid hf
  replace hfm := Lib.hid hfm
  replace hNs := Lib.hid hNs
  replace hma := Lib.hid hma
  clear hB0 hW0 hR0 hM hMd hFed htt
  go_enter Try.func60, Try.ntmps60
  go_upto_region 7 with (go_at_call 26; refine (touches_c _ m b M hM0.out).mono ?_; rintro e w1 ⟨rfl, rfl⟩)
  go_region_held3 (fun w' => w'.cell? ⟨B, 10 * i + 8, none⟩ = some (.pointer (some ⟨z.p, 0, none⟩)) ∧ w'.cell? ⟨WB, 6, none⟩ = some (.pointer (some ⟨m, 0, none⟩))) (assumption) ((go_at_call 59; refine hstep.out.mono ?_; rintro e w2 ⟨rfl, qa, hFe2, hqa, hM2, hF2⟩; have hB2 := hBd.out.fr hF2 nB5; have hW2 := hWd.out.fr hF2 nW5; have hR2 := hRd.out.fr hF2 nR5; have hY := And.intro (hB2.cell b8.out) (world_cells hW2).2.1; have hFw := (Fr.drew (fiv z.p m b z.qa) w).trans hF2; replace hFe2 := Lib.hid hFe2; replace hqa := Lib.hid hqa; replace hM2 := Lib.hid hM2; replace hB2 := Lib.hid hB2; replace hW2 := Lib.hid hW2; replace hR2 := Lib.hid hR2; replace hFw := Lib.hid hFw; clear hF2))
  clear hX' y7 y8 k6
  obtain ⟨y8, k6⟩ := hY
  have y7 := hB2.out.cell b7.out
  go_wp2_with (go_at_call 26; refine (touches_c _ m b M1 hM2.out).mono ?_; rintro e w3 ⟨rfl, rfl⟩)
  go_ret
  exact ⟨rfl, qa, hFe2.out, hqa.out.imp id (fun ⟨q, e, l, g⟩ => ⟨q, e, l, g⟩), hM2.out, hFw.out⟩
set_option maxHeartbeats 4000000 in
set_option maxRecDepth 100000 in
theorem stFrDone {z : FeP} (hz : (T i).fe = some z) (hd : frD c z.a M = true) {s : Nat} (hs : (T i).fs = s) (hsR : InR c s) (hok : okW (hw c (frM c z.a M).f s) = true) (hcs : (c.G ≤ μ s ∧ (frS c z.a M).gn = true ∧ (frS c z.a M).bk = false ∧ uK (hw c (frM c z.a M).f s) = 4) ∨ (μ s < c.G ∧ (frS c z.a M).gn = false ∧ (frS c z.a M).bk = true ∧ uK (hw c (frM c z.a M).f s) = 0)) :
    Calls Try.prog 60 #[.pointer (some ⟨B, 10 * i, none⟩), .pointer (some ⟨WB, 0, none⟩)] w fun e w' => e = .returned (.bool true) ∧
    Blk w' B 107 ((marr K T).setIfInBounds (10 * i + 8) (.pointer none)) ∧ MemB w' m b (frM c z.a M) ∧ Fr (fun k => k = B ∨ fiv z.p m b z.qa k) w w' := by
  obtain ⟨hFe, hOk, n1⟩ := hB.fe i hi z hz
  have hft := fun k h => hB.ft i hi k (.inr (.inl ⟨z, hz, h⟩))
  have np := (hft z.p (.inl rfl)).2.2
  have nq := fun q e => (hft q (.inr e)).2.2
  have tw : ∀ {k}, ¬ fixd B WB RB m b k → ¬ two m b k := fun h e => h (e.elim (fun e => .inr (.inr (.inr (.inl e)))) (fun e => .inr (.inr (.inr (.inr e)))))
  obtain ⟨nWB, nRB, nRW, nm⟩ := hB.ne
  have n8 : N ≤ 65536 := by have := size_bd hr; unfold Cf.size at hNs; omega
  have ok : Ok M := hf.ok n8 (by omega)
  have hma := (hI.fe i hi z hz).2
  have b7 := Lib.hid (show (marr K T)[10 * i + 7]? = some (.pointer none) from by have := marr_get (T := T) (k := 7) hi (by decide); rw [show mv (T i) 7 = .pointer none by show Value.pointer ((T i).ma.map _) = _; rw [hma]; rfl] at this; exact this)
  have b8 := Lib.hid (show (marr K T)[10 * i + 8]? = some (.pointer (some ⟨z.p, 0, none⟩)) from by have := marr_get (T := T) (k := 8) hi (by decide); rw [show mv (T i) 8 = .pointer (some ⟨z.p, 0, none⟩) by show Value.pointer ((T i).fe.map _) = _; rw [hz]; rfl] at this; exact this)
  have b9 := Lib.hid (show (marr K T)[10 * i + 9]? = some (.int .i64 (T i).fs) from marr_get (T := T) (k := 9) hi (by decide))
  have y7 := hB.blk.cell b7.out
  have y8 := hB.blk.cell b8.out
  have k6 := (world_cells hB.wld).2.1
  have htt := fr_t c z.a M
  have hfm := fine_fr (c := c) hf hOk
  have hne5 : ∀ k, fixd B WB RB m b k → k ≠ m → k ≠ b → ¬ fiv z.p m b z.qa k := fun k h e1 e2 h4 => by
    rcases h4 with h4 | h4 | h4 | h4
    · exact nq k h4 h
    · exact np (h4 ▸ h)
    · exact e1 h4
    · exact e2 h4
  have f0 := hf.t0
  have f1 := hf.t
  have hMd := hM.drew
  have hFed : FrB w.drew z.p c z.a z.qa := hFe.fr (Fr.drew (fun _ => False) w) id (fun _ _ => id)
  have hstep := freC2 c w.drew z.p m b M z.a z.qa hr hMd ok (tw np) (fun q e => ⟨tw (nq q e), (n1 q e).1⟩) hFed hOk
  rw [hd] at hstep
  have hW0 := hB.wld
  have hB0 := hB.blk
  have hR0 := hB.row
  generalize frM c z.a M = M1 at *
  generalize frS c z.a M = z1 at *
  have hle : ¬ M.t + 1 < M1.t := by omega
  have hM0 := Lib.hid hM
  have f2 : M.t + 1 < 9223372036854775807 := by omega
  obtain ⟨nB5, nW5, nR5⟩ : ¬ fiv z.p m b z.qa B ∧ ¬ fiv z.p m b z.qa WB ∧ ¬ fiv z.p m b z.qa RB := ⟨hne5 B (.inl rfl) (fun e => (nm B (.inl e)).1 rfl) (fun e => (nm B (.inr e)).1 rfl), hne5 WB (.inr (.inl rfl)) (fun e => (nm WB (.inl e)).2.1 rfl) (fun e => (nm WB (.inr e)).2.1 rfl), hne5 RB (.inr (.inr (.inl rfl))) (fun e => (nm RB (.inl e)).2.2 rfl) (fun e => (nm RB (.inr e)).2.2 rfl)⟩
  replace hstep := Lib.hid hstep
  have hBd := Lib.hid hB0.drew
  have hWd := Lib.hid hW0.drew
  have hRd := Lib.hid hR0.drew
  have hX' : w.drew.cell? ⟨B, 10 * i + 8, none⟩ = some (.pointer (some ⟨z.p, 0, none⟩)) ∧ w.drew.cell? ⟨WB, 6, none⟩ = some (.pointer (some ⟨m, 0, none⟩)) := ⟨y8, k6⟩
  rw [hs] at b9
  have hXU := Lib.hid hfm
  replace hz := Lib.hid hz
  replace hs := Lib.hid hs
  replace hok := Lib.hid hok
  replace hcs := Lib.hid hcs
  replace hd := Lib.hid hd
  replace hf := Lib.hid hf
  replace hfm := Lib.hid hfm
  replace hNs := Lib.hid hNs
  replace hma := Lib.hid hma
  clear hB0 hW0 hR0 hM hMd hFed htt
  go_enter Try.func60, Try.ntmps60
  go_upto_region 7 with (go_at_call 26; refine (touches_c _ m b M hM0.out).mono ?_; rintro e w1 ⟨rfl, rfl⟩)
  go_region_held3 (fun w' => w'.cell? ⟨B, 10 * i + 8, none⟩ = some (.pointer (some ⟨z.p, 0, none⟩)) ∧ w'.cell? ⟨WB, 6, none⟩ = some (.pointer (some ⟨m, 0, none⟩))) (assumption) ((go_at_call 59; refine hstep.out.mono ?_; rintro e w2 ⟨rfl, qa, hFe2, hqa, hM2, hF2⟩; have hB2 := hBd.out.fr hF2 nB5; have hW2 := hWd.out.fr hF2 nW5; have hR2 := hRd.out.fr hF2 nR5; have hY := And.intro (hB2.cell b8.out) (world_cells hW2).2.1; have hFw := (Fr.drew (fiv z.p m b z.qa) w).trans hF2; replace hFe2 := Lib.hid hFe2; replace hqa := Lib.hid hqa; replace hM2 := Lib.hid hM2; replace hB2 := Lib.hid hB2; replace hW2 := Lib.hid hW2; replace hR2 := Lib.hid hR2; replace hFw := Lib.hid hFw; clear hF2))
  clear hX' y7 y8 k6
  obtain ⟨y8, k6⟩ := hY
  have y7 := hB2.out.cell b7.out
  have hP2 := Lib.hid hFe2.out.blk
  obtain ⟨iz, hpl, hiz⟩ : ∃ iz : Nat, c.pl s 0 = (iz : Int) ∧ iz < N := by
    have hb := pl_bd hr hsR (o := 0) ⟨Int.le_refl 0, by have := room_bd hr; omega⟩
    have := hNs.out
    exact ⟨(c.pl s 0).toNat, by omega, by omega⟩
  have hizI : (iz : Int) < (N : Int) := by omega
  have hiz0 : (0 : Int) ≤ (iz : Int) := by omega
  have hXe : M1.f iz = hw c M1.f s := by unfold hw; rw [hpl]; rfl
  have hX0 := (hfm.out.u iz).1
  have hX1 := (hfm.out.u iz).2
  rw [hXe] at hX0 hX1
  generalize hw c M1.f s = X at *
  have hnN := Lib.hid hfm.out.n
  have hN8 : N ≤ 800 := by have := size_bd hr; have := hNs.out; unfold Cf.size at this; omega
  replace hpl := Lib.hid hpl
  replace hXe := Lib.hid hXe
  go_upto_region 14 with (go_at_call 26; refine (touches_c _ m b M1 hM2.out).mono ?_; rintro e w3 ⟨rfl, rfl⟩)
  clear y7 y8 k6
  replace hB2 := Lib.hid hB2.out.drew
  replace hW2 := Lib.hid hW2.out.drew
  replace hR2 := Lib.hid hR2.out.drew
  replace hP2 := Lib.hid hP2.out.drew
  replace hM2 := Lib.hid hM2.out.drew
  replace hFw := Lib.hid (hFw.out.trans (Fr.drew _ w2))
  have hX' : w2.drew.cell? ⟨WB, 6, none⟩ = some (.pointer (some ⟨m, 0, none⟩)) ∧ w2.drew.cell? ⟨B, 10 * i + 9, none⟩ = some (.int .i64 s) := And.intro (world_cells hW2.out).2.1 (hB2.out.cell b9.out)
  go_cut [7, 8] (fun v7 v8 wx => ∃ nb, v7 = .pointer (some ⟨nb, 0, none⟩) ∧ v8 = .bool (okW X) ∧ Blk wx nb 85 #[.int .i64 (uK X), .int .i64 (uM X), .bool (uG X), .int .i64 (uA X), .int .i64 (uN X), .int .i64 (uS X)] ∧ Blk wx z.p 95 (freeA c z1.bk z1.gn z1.sl z1.nw (qa.map fun q => ⟨q, 0, none⟩) z1.nx) ∧ Blk wx B 107 (marr K T) ∧ Blk wx WB 101 (worldA c m RB) ∧ Blk wx RB 3 (rowF .i64 c.S.toNat (fun j => μ j)) ∧ MemB wx m b M1 ∧ Fr (fiv z.p m b z.qa) w wx)
  case first =>
    refine wp_region_held_drew (S := fun w' => w'.cell? ⟨WB, 6, none⟩ = some (.pointer (some ⟨m, 0, none⟩)) ∧ w'.cell? ⟨B, 10 * i + 9, none⟩ = some (.int .i64 s)) (by kernel_rfl) hX' (fun hHeld => ?_)
    generalize w2.drew = w3d at *
    refine wpAnyH_take (i := 0) (oi := ⟨some 81, .move (.tmp 1), 99, "law.go:111", #[], none⟩) (v := ?_) rfl (by kernel_rfl) (by kernel_rfl) (by kernel_rfl) (fun _ _ _ h => h) (Or.inl ⟨by rfl, ?_⟩) (by assumption) ?_
    rotate_left 1
    focus (intro w hSw; first | (go_simp; first | done | with_reducible rfl) | ((try dsimp only at hSw); go_split_ands; go_simp; first | done | with_reducible rfl))
    try simp only [Act.put, pA, pB, pC]
    refine wpAnyH_take (i := 1) (oi := ⟨some 82, .nilCheck (.tmp 81), 0, "law.go:111", #[⟨0, .data⟩], none⟩) (v := ?_) rfl (by kernel_rfl) (by kernel_rfl) (by kernel_rfl) (fun _ _ _ h => h) (Or.inl ⟨by rfl, ?_⟩) (by assumption) ?_
    rotate_left 1
    focus (intro w hSw; first | (go_simp; first | done | with_reducible rfl) | ((try dsimp only at hSw); go_split_ands; go_simp; first | done | with_reducible rfl))
    try simp only [Act.put, pA, pB, pC]
    refine wpAnyH_take (i := 2) (oi := ⟨some 83, .fieldAddr 101 (.tmp 82) 1, 0, "law.go:111", #[⟨1, .data⟩], none⟩) (v := ?_) rfl (by kernel_rfl) (by kernel_rfl) (by kernel_rfl) (fun _ _ _ h => h) (Or.inl ⟨by rfl, ?_⟩) (by assumption) ?_
    rotate_left 1
    focus (intro w hSw; first | (go_simp; first | done | with_reducible rfl) | ((try dsimp only at hSw); go_split_ands; go_simp; first | done | with_reducible rfl))
    try simp only [Act.put, pA, pB, pC]
    refine wpAnyH_take (i := 3) (oi := ⟨some 84, .load 24 (.tmp 83), 24, "law.go:111", #[⟨2, .data⟩], none⟩) (v := ?_) rfl (by kernel_rfl) (by kernel_rfl) (by kernel_rfl) (fun _ _ _ h => h) (Or.inl ⟨by rfl, ?_⟩) (by assumption) ?_
    rotate_left 1
    focus (intro w hSw; first | (go_simp; first | done | with_reducible rfl) | ((try dsimp only at hSw); go_split_ands; go_simp; first | done | with_reducible rfl))
    try simp only [Act.put, pA, pB, pC]
    refine wpAnyH_take (i := 5) (oi := ⟨some 86, .move (.tmp 1), 99, "law.go:111", #[], none⟩) (v := ?_) rfl (by kernel_rfl) (by kernel_rfl) (by kernel_rfl) (fun _ _ _ h => h) (Or.inl ⟨by rfl, ?_⟩) (by assumption) ?_
    rotate_left 1
    focus (intro w hSw; first | (go_simp; first | done | with_reducible rfl) | ((try dsimp only at hSw); go_split_ands; go_simp; first | done | with_reducible rfl))
    try simp only [Act.put, pA, pB, pC]
    refine wpAnyH_take (i := 6) (oi := ⟨some 87, .move (.tmp 0), 141, "law.go:111", #[], none⟩) (v := ?_) rfl (by kernel_rfl) (by kernel_rfl) (by kernel_rfl) (fun _ _ _ h => h) (Or.inl ⟨by rfl, ?_⟩) (by assumption) ?_
    rotate_left 1
    focus (intro w hSw; first | (go_simp; first | done | with_reducible rfl) | ((try dsimp only at hSw); go_split_ands; go_simp; first | done | with_reducible rfl))
    try simp only [Act.put, pA, pB, pC]
    refine wpAnyH_take (i := 7) (oi := ⟨some 88, .nilCheck (.tmp 87), 0, "law.go:111", #[⟨6, .data⟩], none⟩) (v := ?_) rfl (by kernel_rfl) (by kernel_rfl) (by kernel_rfl) (fun _ _ _ h => h) (Or.inl ⟨by rfl, ?_⟩) (by assumption) ?_
    rotate_left 1
    focus (intro w hSw; first | (go_simp; first | done | with_reducible rfl) | ((try dsimp only at hSw); go_split_ands; go_simp; first | done | with_reducible rfl))
    try simp only [Act.put, pA, pB, pC]
    refine wpAnyH_take (i := 8) (oi := ⟨some 89, .fieldAddr 107 (.tmp 88) 5, 0, "law.go:111", #[⟨7, .data⟩], none⟩) (v := ?_) rfl (by kernel_rfl) (by kernel_rfl) (by kernel_rfl) (fun _ _ _ h => h) (Or.inl ⟨by rfl, ?_⟩) (by assumption) ?_
    rotate_left 1
    focus (intro w hSw; first | (go_simp; first | done | with_reducible rfl) | ((try dsimp only at hSw); go_split_ands; go_simp; first | done | with_reducible rfl))
    try simp only [Act.put, pA, pB, pC]
    refine wpAnyH_take (i := 9) (oi := ⟨some 90, .load 3 (.tmp 89), 3, "law.go:111", #[⟨8, .data⟩], none⟩) (v := ?_) rfl (by kernel_rfl) (by kernel_rfl) (by kernel_rfl) (fun _ _ _ h => h) (Or.inl ⟨by rfl, ?_⟩) (by assumption) ?_
    rotate_left 1
    focus (intro w hSw; first | (go_simp; first | done | with_reducible rfl) | ((try dsimp only at hSw); go_split_ands; go_simp; first | done | with_reducible rfl))
    try simp only [Act.put, pA, pB, pC]
    focus refine wpAnyH_ready (rs := [4, 17]) (by kernel_rfl) (by simp) ?_
    focus refine AllReadyH.cons (o := ⟨some 85, .call { callee := .value (.func 24), args := #[.tmp 84], argTypes := #[24] }, 29, "law.go:111", #[⟨3, .data⟩], none⟩) rfl (fun K hK => ?_) (AllReadyH.cons (o := ⟨some 7, .alloc 85, 0, "law.go:111", #[], none⟩) rfl (fun K hK => ?_) AllReadyH.nil)
    rotate_left 1
    focus
      go_simp
      (have hN0 := Blk.new w3d 85 #[.int .i64 0, .int .i64 0, .bool false, .int .i64 0, .int .i64 0, .int .i64 0]; have hb9 := Below.alloc (Below.refl w3d.heap.size w3d) (Nat.le_refl _) (.cells #[.int .i64 0, .int .i64 0, .bool false, .int .i64 0, .int .i64 0, .int .i64 0] 85); obtain ⟨wz, hwz⟩ : ∃ wz, w3d.alloc (.cells #[.int .i64 0, .int .i64 0, .bool false, .int .i64 0, .int .i64 0, .int .i64 0] 85) = wz := ⟨_, rfl⟩; rw [hwz] at hN0 hb9; (try simp only [hwz]); have hNL := Lib.hid (hFw.out.size); have hNB := Lib.hid (show ¬ (w3d.heap.size = B ∨ w3d.heap.size = WB ∨ w3d.heap.size = RB ∨ w3d.heap.size = m ∨ w3d.heap.size = b ∨ w3d.heap.size = z.p) from fun x => by have l1 := hB2.out.lt; have l2 := hW2.out.lt; have l3 := hM2.out.lm; have l4 := hM2.out.lb; have l5 := hR2.out.lt; have l6 := hP2.out.lt; omega); replace hB2 := Lib.hid (hB2.out.below hb9 hB2.out.lt); replace hW2 := Lib.hid (hW2.out.below hb9 hW2.out.lt); replace hR2 := Lib.hid (hR2.out.below hb9 hR2.out.lt); replace hP2 := Lib.hid (hP2.out.below hb9 hP2.out.lt); replace hM2 := Lib.hid (hM2.out.next hb9); replace hFw := Lib.hid (hFw.out.trans (fr_below hb9)); (try replace hR1 := Lib.hid (hR1.out.below hb9 (Nat.le_refl _))); have hY4 := And.intro (world_cells hW2.out).2.1 (hB2.out.cell b9.out); (try (have hc4 := (hR1.out.cell hiz).2.1; rw [hXe.out] at hc4)); clear hb9; have hN := Lib.hid hN0; clear hwz hN0; generalize w3d.heap.size = nb at *)
      refine hK.out _ _ (by assumption) (fun hHeld => ?_)
      clear hK K
      try simp only [Act.put, pA, pB, pC]
    rotate_right 1
    focus
      go_simp
      (go_at_call 24; (with_reducible refine (words_n _ m b N _ hM2.out hnN.out (by omega)).mono ?_); rintro e wa ⟨A1, ca, b1, rfl, _, hR1, hb9⟩; obtain ⟨hA1, _, _⟩ := hR1.cell hiz; subst hA1; replace hR1 := Lib.hid hR1; replace hB2 := Lib.hid (hB2.out.below hb9 hB2.out.lt); replace hW2 := Lib.hid (hW2.out.below hb9 hW2.out.lt); replace hR2 := Lib.hid (hR2.out.below hb9 hR2.out.lt); replace hP2 := Lib.hid (hP2.out.below hb9 hP2.out.lt); replace hM2 := Lib.hid (hM2.out.next hb9); replace hFw := Lib.hid (hFw.out.trans (fr_below hb9)); (try replace hN := Lib.hid (hN.out.below hb9 hN.out.lt)); have hY1 := And.intro (world_cells hW2.out).2.1 (hB2.out.cell b9.out); (try (have hc1 := (hR1.out.cell hiz).2.1; rw [hXe.out] at hc1)); clear hb9)
      refine hK.out _ _ (by assumption) (fun hHeld => ?_)
      clear hK K
      try simp only [Act.put, pA, pB, pC]
    all_goals first
      | (have hmark := hN; clear hmark
         refine wpAnyH_ready (rs := [4]) (by kernel_rfl) (by simp) ?_
         refine AllReadyH.cons (o := ⟨some 85, .call { callee := .value (.func 24), args := #[.tmp 84], argTypes := #[24] }, 29, "law.go:111", #[⟨3, .data⟩], none⟩) rfl (fun K hK => ?_) AllReadyH.nil
         go_simp
         (go_at_call 24; (with_reducible refine (words_n _ m b N _ hM2.out hnN.out (by omega)).mono ?_); rintro e wa ⟨A1, ca, b1, rfl, _, hR1, hb9⟩; obtain ⟨hA1, _, _⟩ := hR1.cell hiz; subst hA1; replace hR1 := Lib.hid hR1; replace hB2 := Lib.hid (hB2.out.below hb9 hB2.out.lt); replace hW2 := Lib.hid (hW2.out.below hb9 hW2.out.lt); replace hR2 := Lib.hid (hR2.out.below hb9 hR2.out.lt); replace hP2 := Lib.hid (hP2.out.below hb9 hP2.out.lt); replace hM2 := Lib.hid (hM2.out.next hb9); replace hFw := Lib.hid (hFw.out.trans (fr_below hb9)); (try replace hN := Lib.hid (hN.out.below hb9 hN.out.lt)); have hY1 := And.intro (world_cells hW2.out).2.1 (hB2.out.cell b9.out); (try (have hc1 := (hR1.out.cell hiz).2.1; rw [hXe.out] at hc1)); clear hb9)
         refine hK.out _ _ (by assumption) (fun hHeld => ?_)
         clear hK K
         try simp only [Act.put, pA, pB, pC])
      | skip
    focus refine wpAnyH_ready (rs := [10, 17]) (by kernel_rfl) (by simp) ?_
    focus refine AllReadyH.cons (o := ⟨some 91, .call { callee := .value (.func 63), args := #[.tmp 86, .const (.string { data := #[104, 101, 97, 100, 101, 114] }), .tmp 90, .const (.int .i64 0)], argTypes := #[99, 9, 3, 3] }, 3, "law.go:111", #[⟨5, .data⟩, ⟨9, .data⟩, ⟨4, .chain⟩], none⟩) rfl (fun K hK => ?_) (AllReadyH.cons (o := ⟨some 7, .alloc 85, 0, "law.go:111", #[], none⟩) rfl (fun K hK => ?_) AllReadyH.nil)
    rotate_left 1
    focus
      go_simp
      (have hN0 := Blk.new wa 85 #[.int .i64 0, .int .i64 0, .bool false, .int .i64 0, .int .i64 0, .int .i64 0]; have hb9 := Below.alloc (Below.refl wa.heap.size wa) (Nat.le_refl _) (.cells #[.int .i64 0, .int .i64 0, .bool false, .int .i64 0, .int .i64 0, .int .i64 0] 85); obtain ⟨wz, hwz⟩ : ∃ wz, wa.alloc (.cells #[.int .i64 0, .int .i64 0, .bool false, .int .i64 0, .int .i64 0, .int .i64 0] 85) = wz := ⟨_, rfl⟩; rw [hwz] at hN0 hb9; (try simp only [hwz]); have hNL := Lib.hid (hFw.out.size); have hNB := Lib.hid (show ¬ (wa.heap.size = B ∨ wa.heap.size = WB ∨ wa.heap.size = RB ∨ wa.heap.size = m ∨ wa.heap.size = b ∨ wa.heap.size = z.p) from fun x => by have l1 := hB2.out.lt; have l2 := hW2.out.lt; have l3 := hM2.out.lm; have l4 := hM2.out.lb; have l5 := hR2.out.lt; have l6 := hP2.out.lt; omega); replace hB2 := Lib.hid (hB2.out.below hb9 hB2.out.lt); replace hW2 := Lib.hid (hW2.out.below hb9 hW2.out.lt); replace hR2 := Lib.hid (hR2.out.below hb9 hR2.out.lt); replace hP2 := Lib.hid (hP2.out.below hb9 hP2.out.lt); replace hM2 := Lib.hid (hM2.out.next hb9); replace hFw := Lib.hid (hFw.out.trans (fr_below hb9)); (try replace hR1 := Lib.hid (hR1.out.below hb9 (Nat.le_refl _))); have hY4 := And.intro (world_cells hW2.out).2.1 (hB2.out.cell b9.out); (try (have hc4 := (hR1.out.cell hiz).2.1; rw [hXe.out] at hc4)); clear hb9; have hN := Lib.hid hN0; clear hwz hN0; generalize wa.heap.size = nb at *)
      refine hK.out _ _ (by assumption) (fun hHeld => ?_)
      clear hK K
      try simp only [Act.put, pA, pB, pC]
    rotate_right 1
    focus
      go_simp
      (go_at_call 63; refine (atHeaderC c _ WB m RB s hW2.out hr hsR).mono ?_; rintro e wb ⟨rfl, hb9⟩; rw [hpl.out]; replace hB2 := Lib.hid (hB2.out.below hb9 hB2.out.lt); replace hW2 := Lib.hid (hW2.out.below hb9 hW2.out.lt); replace hR2 := Lib.hid (hR2.out.below hb9 hR2.out.lt); replace hP2 := Lib.hid (hP2.out.below hb9 hP2.out.lt); replace hM2 := Lib.hid (hM2.out.next hb9); replace hFw := Lib.hid (hFw.out.trans (fr_below hb9)); (try replace hR1 := Lib.hid (hR1.out.below hb9 (Nat.le_refl _))); (try replace hN := Lib.hid (hN.out.below hb9 hN.out.lt)); have hY2 := And.intro (world_cells hW2.out).2.1 (hB2.out.cell b9.out); (try (have hc2 := (hR1.out.cell hiz).2.1; rw [hXe.out] at hc2)); clear hb9)
      refine hK.out _ _ (by assumption) (fun hHeld => ?_)
      clear hK K
      try simp only [Act.put, pA, pB, pC]
      refine wpAnyH_take (i := 11) (oi := ⟨some 92, .indexAddr 29 (.tmp 85) (.tmp 91), 0, "law.go:111", #[⟨4, .data⟩, ⟨10, .data⟩], none⟩) (v := ?_) rfl (by kernel_rfl) (by kernel_rfl) (by kernel_rfl) (fun _ _ _ h => h) (Or.inl ⟨by rfl, ?_⟩) (by assumption) ?_
      rotate_left 1
      focus (intro w hSw; first | (go_simp; first | done | with_reducible rfl) | ((try dsimp only at hSw); go_split_ands; go_simp; first | done | with_reducible rfl))
      try simp only [Act.put, pA, pB, pC]
    all_goals first
      | (have hmark := hN; clear hmark
         refine wpAnyH_ready (rs := [10]) (by kernel_rfl) (by simp) ?_
         refine AllReadyH.cons (o := ⟨some 91, .call { callee := .value (.func 63), args := #[.tmp 86, .const (.string { data := #[104, 101, 97, 100, 101, 114] }), .tmp 90, .const (.int .i64 0)], argTypes := #[99, 9, 3, 3] }, 3, "law.go:111", #[⟨5, .data⟩, ⟨9, .data⟩, ⟨4, .chain⟩], none⟩) rfl (fun K hK => ?_) AllReadyH.nil
         go_simp
         (go_at_call 63; refine (atHeaderC c _ WB m RB s hW2.out hr hsR).mono ?_; rintro e wb ⟨rfl, hb9⟩; rw [hpl.out]; replace hB2 := Lib.hid (hB2.out.below hb9 hB2.out.lt); replace hW2 := Lib.hid (hW2.out.below hb9 hW2.out.lt); replace hR2 := Lib.hid (hR2.out.below hb9 hR2.out.lt); replace hP2 := Lib.hid (hP2.out.below hb9 hP2.out.lt); replace hM2 := Lib.hid (hM2.out.next hb9); replace hFw := Lib.hid (hFw.out.trans (fr_below hb9)); (try replace hR1 := Lib.hid (hR1.out.below hb9 (Nat.le_refl _))); (try replace hN := Lib.hid (hN.out.below hb9 hN.out.lt)); have hY2 := And.intro (world_cells hW2.out).2.1 (hB2.out.cell b9.out); (try (have hc2 := (hR1.out.cell hiz).2.1; rw [hXe.out] at hc2)); clear hb9)
         refine hK.out _ _ (by assumption) (fun hHeld => ?_)
         clear hK K
         try simp only [Act.put, pA, pB, pC]
         refine wpAnyH_take (i := 11) (oi := ⟨some 92, .indexAddr 29 (.tmp 85) (.tmp 91), 0, "law.go:111", #[⟨4, .data⟩, ⟨10, .data⟩], none⟩) (v := ?_) rfl (by kernel_rfl) (by kernel_rfl) (by kernel_rfl) (fun _ _ _ h => h) (Or.inl ⟨by rfl, ?_⟩) (by assumption) ?_
         rotate_left 1
         focus (intro w hSw; first | (go_simp; first | done | with_reducible rfl) | ((try dsimp only at hSw); go_split_ands; go_simp; first | done | with_reducible rfl))
         try simp only [Act.put, pA, pB, pC])
      | skip
    focus refine wpAnyH_ready (rs := [12, 17]) (by kernel_rfl) (by simp) ?_
    focus refine AllReadyH.cons (o := ⟨some 93, .load 33 (.tmp 92), 33, "law.go:111", #[⟨11, .data⟩], none⟩) rfl (fun K hK => ?_) (AllReadyH.cons (o := ⟨some 7, .alloc 85, 0, "law.go:111", #[], none⟩) rfl (fun K hK => ?_) AllReadyH.nil)
    rotate_left 1
    focus
      go_simp
      (have hN0 := Blk.new wb 85 #[.int .i64 0, .int .i64 0, .bool false, .int .i64 0, .int .i64 0, .int .i64 0]; have hb9 := Below.alloc (Below.refl wb.heap.size wb) (Nat.le_refl _) (.cells #[.int .i64 0, .int .i64 0, .bool false, .int .i64 0, .int .i64 0, .int .i64 0] 85); obtain ⟨wz, hwz⟩ : ∃ wz, wb.alloc (.cells #[.int .i64 0, .int .i64 0, .bool false, .int .i64 0, .int .i64 0, .int .i64 0] 85) = wz := ⟨_, rfl⟩; rw [hwz] at hN0 hb9; (try simp only [hwz]); have hNL := Lib.hid (hFw.out.size); have hNB := Lib.hid (show ¬ (wb.heap.size = B ∨ wb.heap.size = WB ∨ wb.heap.size = RB ∨ wb.heap.size = m ∨ wb.heap.size = b ∨ wb.heap.size = z.p) from fun x => by have l1 := hB2.out.lt; have l2 := hW2.out.lt; have l3 := hM2.out.lm; have l4 := hM2.out.lb; have l5 := hR2.out.lt; have l6 := hP2.out.lt; omega); replace hB2 := Lib.hid (hB2.out.below hb9 hB2.out.lt); replace hW2 := Lib.hid (hW2.out.below hb9 hW2.out.lt); replace hR2 := Lib.hid (hR2.out.below hb9 hR2.out.lt); replace hP2 := Lib.hid (hP2.out.below hb9 hP2.out.lt); replace hM2 := Lib.hid (hM2.out.next hb9); replace hFw := Lib.hid (hFw.out.trans (fr_below hb9)); (try replace hR1 := Lib.hid (hR1.out.below hb9 (Nat.le_refl _))); have hY4 := And.intro (world_cells hW2.out).2.1 (hB2.out.cell b9.out); (try (have hc4 := (hR1.out.cell hiz).2.1; rw [hXe.out] at hc4)); clear hb9; have hN := Lib.hid hN0; clear hwz hN0; generalize wb.heap.size = nb at *)
      refine hK.out _ _ (by assumption) (fun hHeld => ?_)
      clear hK K
      try simp only [Act.put, pA, pB, pC]
    rotate_right 1
    focus
      go_simp
      refine hK.out _ _ (by assumption) (fun hHeld => ?_)
      clear hK K
      try simp only [Act.put, pA, pB, pC]
    all_goals first
      | (have hmark := hN; clear hmark
         refine wpAnyH_ready (rs := [12]) (by kernel_rfl) (by simp) ?_
         refine AllReadyH.cons (o := ⟨some 93, .load 33 (.tmp 92), 33, "law.go:111", #[⟨11, .data⟩], none⟩) rfl (fun K hK => ?_) AllReadyH.nil
         go_simp
         refine hK.out _ _ (by assumption) (fun hHeld => ?_)
         clear hK K
         try simp only [Act.put, pA, pB, pC])
      | skip
    focus refine wpAnyH_ready (rs := [13, 17]) (by kernel_rfl) (by simp) ?_
    focus refine AllReadyH.cons (o := ⟨some 94, .call { callee := .value (.func 62), args := #[.tmp 93], argTypes := #[33] }, 109, "law.go:111", #[⟨12, .data⟩, ⟨10, .chain⟩], none⟩) rfl (fun K hK => ?_) (AllReadyH.cons (o := ⟨some 7, .alloc 85, 0, "law.go:111", #[], none⟩) rfl (fun K hK => ?_) AllReadyH.nil)
    rotate_left 1
    focus
      go_simp
      (have hN0 := Blk.new wb 85 #[.int .i64 0, .int .i64 0, .bool false, .int .i64 0, .int .i64 0, .int .i64 0]; have hb9 := Below.alloc (Below.refl wb.heap.size wb) (Nat.le_refl _) (.cells #[.int .i64 0, .int .i64 0, .bool false, .int .i64 0, .int .i64 0, .int .i64 0] 85); obtain ⟨wz, hwz⟩ : ∃ wz, wb.alloc (.cells #[.int .i64 0, .int .i64 0, .bool false, .int .i64 0, .int .i64 0, .int .i64 0] 85) = wz := ⟨_, rfl⟩; rw [hwz] at hN0 hb9; (try simp only [hwz]); have hNL := Lib.hid (hFw.out.size); have hNB := Lib.hid (show ¬ (wb.heap.size = B ∨ wb.heap.size = WB ∨ wb.heap.size = RB ∨ wb.heap.size = m ∨ wb.heap.size = b ∨ wb.heap.size = z.p) from fun x => by have l1 := hB2.out.lt; have l2 := hW2.out.lt; have l3 := hM2.out.lm; have l4 := hM2.out.lb; have l5 := hR2.out.lt; have l6 := hP2.out.lt; omega); replace hB2 := Lib.hid (hB2.out.below hb9 hB2.out.lt); replace hW2 := Lib.hid (hW2.out.below hb9 hW2.out.lt); replace hR2 := Lib.hid (hR2.out.below hb9 hR2.out.lt); replace hP2 := Lib.hid (hP2.out.below hb9 hP2.out.lt); replace hM2 := Lib.hid (hM2.out.next hb9); replace hFw := Lib.hid (hFw.out.trans (fr_below hb9)); (try replace hR1 := Lib.hid (hR1.out.below hb9 (Nat.le_refl _))); have hY4 := And.intro (world_cells hW2.out).2.1 (hB2.out.cell b9.out); (try (have hc4 := (hR1.out.cell hiz).2.1; rw [hXe.out] at hc4)); clear hb9; have hN := Lib.hid hN0; clear hwz hN0; generalize wb.heap.size = nb at *)
      refine hK.out _ _ (by assumption) (fun hHeld => ?_)
      clear hK K
      try simp only [Act.put, pA, pB, pC]
    rotate_right 1
    focus
      go_simp
      (go_at_call 62; refine (rUnpack_c X hX0 hX1 _).mono ?_; rintro e wd ⟨rfl, hb9⟩; replace hB2 := Lib.hid (hB2.out.below hb9 hB2.out.lt); replace hW2 := Lib.hid (hW2.out.below hb9 hW2.out.lt); replace hR2 := Lib.hid (hR2.out.below hb9 hR2.out.lt); replace hP2 := Lib.hid (hP2.out.below hb9 hP2.out.lt); replace hM2 := Lib.hid (hM2.out.next hb9); replace hFw := Lib.hid (hFw.out.trans (fr_below hb9)); (try replace hR1 := Lib.hid (hR1.out.below hb9 (Nat.le_refl _))); (try replace hN := Lib.hid (hN.out.below hb9 hN.out.lt)); have hY3 := And.intro (world_cells hW2.out).2.1 (hB2.out.cell b9.out); (try (have hc3 := (hR1.out.cell hiz).2.1; rw [hXe.out] at hc3)); clear hb9)
      refine hK.out _ _ (by assumption) (fun hHeld => ?_)
      clear hK K
      try simp only [Act.put, pA, pB, pC]
      refine wpAnyH_take (i := 14) (oi := ⟨some 80, .move (.tmp 94), 109, "law.go:111", #[⟨13, .data⟩], none⟩) (v := ?_) rfl (by kernel_rfl) (by kernel_rfl) (by kernel_rfl) (fun _ _ _ h => h) (Or.inl ⟨by rfl, ?_⟩) (by assumption) ?_
      rotate_left 1
      focus (intro w hSw; first | (go_simp; first | done | with_reducible rfl) | ((try dsimp only at hSw); go_split_ands; go_simp; first | done | with_reducible rfl))
      try simp only [Act.put, pA, pB, pC]
      refine wpAnyH_take (i := 15) (oi := ⟨some 95, .extract (.tmp 80) 0, 85, "law.go:111", #[⟨14, .data⟩], none⟩) (v := ?_) rfl (by kernel_rfl) (by kernel_rfl) (by kernel_rfl) (fun _ _ _ h => h) (Or.inl ⟨by rfl, ?_⟩) (by assumption) ?_
      rotate_left 1
      focus (intro w hSw; first | (go_simp; first | done | with_reducible rfl) | ((try dsimp only at hSw); go_split_ands; go_simp; first | done | with_reducible rfl))
      try simp only [Act.put, pA, pB, pC]
      refine wpAnyH_take (i := 16) (oi := ⟨some 96, .extract (.tmp 80) 1, 4, "law.go:111", #[⟨14, .data⟩, ⟨18, .gcOnly .lateStores⟩], none⟩) (v := ?_) rfl (by kernel_rfl) (by kernel_rfl) (by kernel_rfl) (fun _ _ _ h => h) (Or.inl ⟨by rfl, ?_⟩) (by assumption) ?_
      rotate_left 1
      focus (intro w hSw; first | (go_simp; first | done | with_reducible rfl) | ((try dsimp only at hSw); go_split_ands; go_simp; first | done | with_reducible rfl))
      try simp only [Act.put, pA, pB, pC]
    all_goals first
      | (have hmark := hN; clear hmark
         refine wpAnyH_ready (rs := [13]) (by kernel_rfl) (by simp) ?_
         refine AllReadyH.cons (o := ⟨some 94, .call { callee := .value (.func 62), args := #[.tmp 93], argTypes := #[33] }, 109, "law.go:111", #[⟨12, .data⟩, ⟨10, .chain⟩], none⟩) rfl (fun K hK => ?_) AllReadyH.nil
         go_simp
         (go_at_call 62; refine (rUnpack_c X hX0 hX1 _).mono ?_; rintro e wd ⟨rfl, hb9⟩; replace hB2 := Lib.hid (hB2.out.below hb9 hB2.out.lt); replace hW2 := Lib.hid (hW2.out.below hb9 hW2.out.lt); replace hR2 := Lib.hid (hR2.out.below hb9 hR2.out.lt); replace hP2 := Lib.hid (hP2.out.below hb9 hP2.out.lt); replace hM2 := Lib.hid (hM2.out.next hb9); replace hFw := Lib.hid (hFw.out.trans (fr_below hb9)); (try replace hR1 := Lib.hid (hR1.out.below hb9 (Nat.le_refl _))); (try replace hN := Lib.hid (hN.out.below hb9 hN.out.lt)); have hY3 := And.intro (world_cells hW2.out).2.1 (hB2.out.cell b9.out); (try (have hc3 := (hR1.out.cell hiz).2.1; rw [hXe.out] at hc3)); clear hb9)
         refine hK.out _ _ (by assumption) (fun hHeld => ?_)
         clear hK K
         try simp only [Act.put, pA, pB, pC]
         refine wpAnyH_take (i := 14) (oi := ⟨some 80, .move (.tmp 94), 109, "law.go:111", #[⟨13, .data⟩], none⟩) (v := ?_) rfl (by kernel_rfl) (by kernel_rfl) (by kernel_rfl) (fun _ _ _ h => h) (Or.inl ⟨by rfl, ?_⟩) (by assumption) ?_
         rotate_left 1
         focus (intro w hSw; first | (go_simp; first | done | with_reducible rfl) | ((try dsimp only at hSw); go_split_ands; go_simp; first | done | with_reducible rfl))
         try simp only [Act.put, pA, pB, pC]
         refine wpAnyH_take (i := 15) (oi := ⟨some 95, .extract (.tmp 80) 0, 85, "law.go:111", #[⟨14, .data⟩], none⟩) (v := ?_) rfl (by kernel_rfl) (by kernel_rfl) (by kernel_rfl) (fun _ _ _ h => h) (Or.inl ⟨by rfl, ?_⟩) (by assumption) ?_
         rotate_left 1
         focus (intro w hSw; first | (go_simp; first | done | with_reducible rfl) | ((try dsimp only at hSw); go_split_ands; go_simp; first | done | with_reducible rfl))
         try simp only [Act.put, pA, pB, pC]
         refine wpAnyH_take (i := 16) (oi := ⟨some 96, .extract (.tmp 80) 1, 4, "law.go:111", #[⟨14, .data⟩, ⟨18, .gcOnly .lateStores⟩], none⟩) (v := ?_) rfl (by kernel_rfl) (by kernel_rfl) (by kernel_rfl) (fun _ _ _ h => h) (Or.inl ⟨by rfl, ?_⟩) (by assumption) ?_
         rotate_left 1
         focus (intro w hSw; first | (go_simp; first | done | with_reducible rfl) | ((try dsimp only at hSw); go_split_ands; go_simp; first | done | with_reducible rfl))
         try simp only [Act.put, pA, pB, pC])
      | skip
    focus
      refine wpAnyH_ready (rs := [17]) (by kernel_rfl) (by simp) ?_
      refine AllReadyH.cons (o := ⟨some 7, .alloc 85, 0, "law.go:111", #[], none⟩) rfl (fun K hK => ?_) AllReadyH.nil
      go_simp
      (have hN0 := Blk.new wd 85 #[.int .i64 0, .int .i64 0, .bool false, .int .i64 0, .int .i64 0, .int .i64 0]; have hb9 := Below.alloc (Below.refl wd.heap.size wd) (Nat.le_refl _) (.cells #[.int .i64 0, .int .i64 0, .bool false, .int .i64 0, .int .i64 0, .int .i64 0] 85); obtain ⟨wz, hwz⟩ : ∃ wz, wd.alloc (.cells #[.int .i64 0, .int .i64 0, .bool false, .int .i64 0, .int .i64 0, .int .i64 0] 85) = wz := ⟨_, rfl⟩; rw [hwz] at hN0 hb9; (try simp only [hwz]); have hNL := Lib.hid (hFw.out.size); have hNB := Lib.hid (show ¬ (wd.heap.size = B ∨ wd.heap.size = WB ∨ wd.heap.size = RB ∨ wd.heap.size = m ∨ wd.heap.size = b ∨ wd.heap.size = z.p) from fun x => by have l1 := hB2.out.lt; have l2 := hW2.out.lt; have l3 := hM2.out.lm; have l4 := hM2.out.lb; have l5 := hR2.out.lt; have l6 := hP2.out.lt; omega); replace hB2 := Lib.hid (hB2.out.below hb9 hB2.out.lt); replace hW2 := Lib.hid (hW2.out.below hb9 hW2.out.lt); replace hR2 := Lib.hid (hR2.out.below hb9 hR2.out.lt); replace hP2 := Lib.hid (hP2.out.below hb9 hP2.out.lt); replace hM2 := Lib.hid (hM2.out.next hb9); replace hFw := Lib.hid (hFw.out.trans (fr_below hb9)); (try replace hR1 := Lib.hid (hR1.out.below hb9 (Nat.le_refl _))); have hY4 := And.intro (world_cells hW2.out).2.1 (hB2.out.cell b9.out); (try (have hc4 := (hR1.out.cell hiz).2.1; rw [hXe.out] at hc4)); clear hb9; have hN := Lib.hid hN0; clear hwz hN0; generalize wd.heap.size = nb at *)
      refine hK.out _ _ (by assumption) (fun hHeld => ?_)
      clear hK K
      try simp only [Act.put, pA, pB, pC]
    all_goals
      refine wpAnyH_ready (rs := [18]) (by kernel_rfl) (by simp) ?_
      refine AllReadyH.cons (o := ⟨none, .store 85 (.tmp 7) (.tmp 95), 0, "law.go:111", #[⟨17, .data⟩, ⟨15, .data⟩, ⟨13, .chain⟩, ⟨0, .phase⟩, ⟨1, .phase⟩, ⟨2, .phase⟩, ⟨3, .phase⟩, ⟨4, .phase⟩, ⟨5, .phase⟩, ⟨6, .phase⟩, ⟨7, .phase⟩, ⟨8, .phase⟩, ⟨9, .phase⟩, ⟨10, .phase⟩, ⟨11, .phase⟩, ⟨12, .phase⟩, ⟨13, .phase⟩, ⟨14, .phase⟩, ⟨15, .phase⟩, ⟨16, .textOnly .lateStores⟩, ⟨17, .phase⟩], none⟩) rfl (fun K hK => ?_) AllReadyH.nil
      obtain ⟨⟨n0, n1, n2, n3, n4, n5⟩, f0, f1, f2, f3, f4, f5⟩ := six_cells hN.out; go_simp
      (obtain ⟨wy, ewy, hNy, hFy⟩ := hdr_blk (b0 := .int .i64 (uK X)) (b1 := .int .i64 (uM X)) (b2 := .bool (uG X)) (b3 := .int .i64 (uA X)) (b4 := .int .i64 (uN X)) (b5 := .int .i64 (uS X)) hN.out; rw [ewy]; clear n0 n1 n2 n3 n4 n5 f0 f1 f2 f3 f4 f5 ewy; have nn := hNB.out; have nbL := hNL.out; replace hB2 := Lib.hid (hB2.out.fr hFy (fun e => nn (.inl e.symm))); replace hW2 := Lib.hid (hW2.out.fr hFy (fun e => nn (.inr (.inl e.symm)))); replace hR2 := Lib.hid (hR2.out.fr hFy (fun e => nn (.inr (.inr (.inl e.symm))))); replace hM2 := Lib.hid (hM2.out.fr hFy (fun e => nn (.inr (.inr (.inr (.inl e.symm))))) (fun e => nn (.inr (.inr (.inr (.inr (.inl e.symm))))))); replace hP2 := Lib.hid (hP2.out.fr hFy (fun e => nn (.inr (.inr (.inr (.inr (.inr e.symm))))))); replace hFw := Lib.hid (fr_old ((hFw.out.mono (S' := fun k => (fiv z.p m b z.qa k) ∨ w.heap.size ≤ k) (fun k e => .inl e)).trans (hFy.mono (fun k e => .inr (e ▸ nbL))))); have hY5 := And.intro (world_cells hW2.out).2.1 (hB2.out.cell b9.out); replace hN := Lib.hid hNy; clear hNy hFy nn nbL)
      refine hK.out _ _ (by assumption) (fun hHeld => ?_)
      clear hK K
      try simp only [Act.put, pA, pB, pC]
      refine wpAnyH_take (i := 19) (oi := ⟨some 8, .assign (.tmp 96), 4, "law.go:111", #[⟨16, .data⟩, ⟨18, .chain⟩, ⟨0, .phase⟩, ⟨1, .phase⟩, ⟨2, .phase⟩, ⟨3, .phase⟩, ⟨4, .phase⟩, ⟨5, .phase⟩, ⟨6, .phase⟩, ⟨7, .phase⟩, ⟨8, .phase⟩, ⟨9, .phase⟩, ⟨10, .phase⟩, ⟨11, .phase⟩, ⟨12, .phase⟩, ⟨13, .phase⟩, ⟨14, .phase⟩, ⟨15, .phase⟩, ⟨16, .phase⟩, ⟨17, .phase⟩, ⟨18, .phase⟩], none⟩) (v := ?_) rfl (by kernel_rfl) (by kernel_rfl) (by kernel_rfl) (fun _ _ _ h => h) (Or.inl ⟨by rfl, ?_⟩) (by assumption) ?_
      rotate_left 1
      focus (intro w hSw; first | (go_simp; first | done | with_reducible rfl) | ((try dsimp only at hSw); go_split_ands; go_simp; first | done | with_reducible rfl))
      try simp only [Act.put, pA, pB, pC]
      refine wpAnyH_done (by kernel_rfl) ?_ _
      clear hX'
      go_wp2
      go_meet
      case rel => exact ⟨nb, rfl, rfl, hN.out, hP2.out, hB2.out, hW2.out, hR2.out, hM2.out, hFw.out⟩
  case rest =>
    obtain ⟨nb, rfl, rfl, hN', hP', hB', hW', hR', hM', hF'⟩ := hcut
    clear hB2 hW2 hR2 hP2 hM2 hFw hX' hFe2
    rw [hok.out]
    have s0 : (0 : Int) ≤ (s : Int) := by omega
    have s2 : s < c.S.toNat := by have := hsR.2; omega
    have s1 : (s : Int) < max c.S 0 := by have := hsR.2; omega
    have r0 : wc.cell? ⟨RB, s, none⟩ = some (.int .i64 (μ s)) := hR'.cell (rowF_get s2)
    have k4 := (world_cells hW').1.2.2.2.2.1
    have k7 := (world_cells hW').2.2
    have n0 := (six_cells hN').1.1
    have p0 : wc.cell? ⟨z.p, 0, none⟩ = some (.bool z1.bk) := hP'.cell rfl
    have p1 : wc.cell? ⟨z.p, 1, none⟩ = some (.bool z1.gn) := hP'.cell rfl
    have y8 := hB'.cell b8.out
    have y9 := hB'.cell b9.out
    have q8 := hB'.frozen (10 * i + 8)
    have hB2 := Lib.hid hB'
    have hM2 := Lib.hid hM'
    have hFw := Lib.hid hF'
    have nmB := Lib.hid (show m ≠ B ∧ b ≠ B from ⟨(nm m (.inl rfl)).1, (nm b (.inr rfl)).1⟩)
    clear hN' hP' hB' hW' hR' hM' hF'
    replace hsR := Lib.hid hsR
    rcases hcs.out with ⟨d1, d2, d3, d4⟩ | ⟨d1, d2, d3, d4⟩
    · rw [d2] at p1
      rw [d3] at p0
      rw [d4] at n0
      clear d2 d3 d4
      go_upto_region 15 with (fail)
      go_quiet (fail)
      have n0' : (wc.drewN nq).cell? ⟨nb, 0, none⟩ = _ := n0
      have p0' : (wc.drewN nq).cell? ⟨z.p, 0, none⟩ = _ := p0
      have p1' : (wc.drewN nq).cell? ⟨z.p, 1, none⟩ = _ := p1
      have y8' : (wc.drewN nq).cell? ⟨B, 10 * i + 8, none⟩ = _ := y8
      have q8' : (wc.drewN nq).frozen? ⟨B, 10 * i + 8, none⟩ = _ := q8
      have hB3 := hB2.out.drewN nq
      have hM3 := hM2.out.drewN nq
      have hF3 := hFw.out.trans (Fr.drewN _ wc nq)
      generalize wc.drewN nq = w4 at *
      clear n0 p0 p1 y8 q8 r0 k4 k7 y9 hB2 hM2 hFw
      have hFs := Fr.set (fun k => k = B) w4 (p := ⟨B, 10 * i + 8, none⟩) rfl (.pointer none)
      have hB4 := Lib.hid (hB3.set (10 * i + 8) (.pointer none))
      have hM4 := Lib.hid (hM3.fr hFs (fun e => nmB.out.1 e) (fun e => nmB.out.2 e))
      have hF4 := Lib.hid ((hF3.mono (S' := fun k => k = B ∨ fiv z.p m b z.qa k) (fun k e => .inr e)).trans (hFs.mono (fun k e => .inl e)))
      clear hB3 hM3 hF3 hFs
      go_wp2
      go_ret
      exact ⟨rfl, hB4.out, hM4.out, hF4.out⟩
    · rw [d2] at p1
      rw [d3] at p0
      rw [d4] at n0
      have d5 : ¬ c.G ≤ μ s := by omega
      clear d2 d3 d4
      go_upto_region 15 with (fail)
      go_quiet (fail)
      have n0' : (wc.drewN nq).cell? ⟨nb, 0, none⟩ = _ := n0
      have p0' : (wc.drewN nq).cell? ⟨z.p, 0, none⟩ = _ := p0
      have p1' : (wc.drewN nq).cell? ⟨z.p, 1, none⟩ = _ := p1
      have y8' : (wc.drewN nq).cell? ⟨B, 10 * i + 8, none⟩ = _ := y8
      have q8' : (wc.drewN nq).frozen? ⟨B, 10 * i + 8, none⟩ = _ := q8
      have hB3 := hB2.out.drewN nq
      have hM3 := hM2.out.drewN nq
      have hF3 := hFw.out.trans (Fr.drewN _ wc nq)
      generalize wc.drewN nq = w4 at *
      clear n0 p0 p1 y8 q8 r0 k4 k7 y9 hB2 hM2 hFw
      have hFs := Fr.set (fun k => k = B) w4 (p := ⟨B, 10 * i + 8, none⟩) rfl (.pointer none)
      have hB4 := Lib.hid (hB3.set (10 * i + 8) (.pointer none))
      have hM4 := Lib.hid (hM3.fr hFs (fun e => nmB.out.1 e) (fun e => nmB.out.2 e))
      have hF4 := Lib.hid ((hF3.mono (S' := fun k => k = B ∨ fiv z.p m b z.qa k) (fun k e => .inr e)).trans (hFs.mono (fun k e => .inl e)))
      clear hB3 hM3 hF3 hFs
      go_wp2
      go_ret
      exact ⟨rfl, hB4.out, hM4.out, hF4.out⟩
end
end Go.Proofs.Ytijfkpoofpcacaa.MakerC
end
section
namespace Go.Proofs.Ytijfkpoofpcacaa.MakerD
open Go.RowKit Go.Proofs.YtijfkpoofpcacaaW.PrintWords Go.Proofs.Ytijfkpoofpcacaa.Blk Go.Proofs.Ytijfkpoofpcacaa.Core Go.Proofs.Ytijfkpoofpcacaa.MemC Go.Proofs.Ytijfkpoofpcacaa.MemD Go.Proofs.Ytijfkpoofpcacaa.MemT Go.Proofs.Ytijfkpoofpcacaa.Memory Go.Proofs.Ytijfkpoofpcacaa.PlanC Go.Proofs.Ytijfkpoofpcacaa.PlanD Go.Proofs.Ytijfkpoofpcacaa.RefM Go.Proofs.Ytijfkpoofpcacaa.StackC Go.Proofs.Ytijfkpoofpcacaa.StackL Go.Proofs.Ytijfkpoofpcacaa.StackS Go.Proofs.Ytijfkpoofpcacaa.StackF Go.Proofs.Ytijfkpoofpcacaa.StackP Go.Proofs.Ytijfkpoofpcacaa.StackG Go.Proofs.Ytijfkpoofpcacaa.StackT Go.Proofs.Ytijfkpoofpcacaa.HeadC Go.Proofs.Ytijfkpoofpcacaa.ArenaC Go.Proofs.Ytijfkpoofpcacaa.ArenaM Go.Proofs.Ytijfkpoofpcacaa.ArenaP Go.Proofs.Ytijfkpoofpcacaa.ArenaL Go.Proofs.Ytijfkpoofpcacaa.ArenaR Go.Proofs.Ytijfkpoofpcacaa.ArenaQ Go.Proofs.Ytijfkpoofpcacaa.ArenaU Go.Proofs.Ytijfkpoofpcacaa.ArenaW Go.Proofs.Ytijfkpoofpcacaa.ArenaY Go.Proofs.Ytijfkpoofpcacaa.MakerL Go.Proofs.Ytijfkpoofpcacaa.MakerM Go.Proofs.Ytijfkpoofpcacaa.MakerF Go.Proofs.Ytijfkpoofpcacaa.MakerT Go.Proofs.Ytijfkpoofpcacaa.MakerU Go.Proofs.Ytijfkpoofpcacaa.MakerV Go.Proofs.Ytijfkpoofpcacaa.MakerW Go.Proofs.Ytijfkpoofpcacaa.MakerX Go.Proofs.Ytijfkpoofpcacaa.MakerY Go.Proofs.Ytijfkpoofpcacaa.MakerA Go.Proofs.Ytijfkpoofpcacaa.MakerB Go.Proofs.Ytijfkpoofpcacaa.MakerC Go.Proofs.Ytijfkpoofpcacaa.Opens
open Go.Proofs.Ytijfkpoofpcacaa.TakerS (IQ blk_one fr_grown)
theorem marr_same {K i : Nat} {T : Nat → Mr} {τ : Mr} (h : ∀ k, k < 10 → mv τ k = mv (T i) k) : marr K (put T i τ) = marr K T := marr_congr fun j _ k hk => by
  by_cases e : j = i
  · subst e; rw [put_eq]; exact h k hk
  · rw [put_ne e]
section
variable {c : Cf} (hr : c.right = true) {w0 w : World} {lo B WB RB m b K N n i : Nat} {M : Ms} {t : Int} {L : List Int} {T : Nat → Mr} {own : Int → Nat} {μ : Int → Int}
  (hM : MemB w m b M) (hf : Fine M N n) (hn : n ≤ 900000) (hNs : (N : Int) = c.size) (ht : t + 1 < 281474976710656) (hB : AB c w0 w lo B WB RB m b K T μ) (hI : AI c M.f t L K T own μ) (hi : i < K) (hW0 : Below w0.heap.size w0 w) (hl0 : w0.heap.size ≤ lo)
include hr hM hf hn hNs ht hB hI hi hW0 hl0
set_option maxHeartbeats 4000000 in
set_option maxRecDepth 100000 in
theorem stIdle0 (h1 : (T i).ma = none) (h2 : (T i).fe = none) {A : Option Addr} {cc : Nat} (ewv : (T i).wv = .slice A 0 cc) : Calls Try.prog 60 #[.pointer (some ⟨B, 10 * i, none⟩), .pointer (some ⟨WB, 0, none⟩)] w fun e w' => e = .returned (.bool true) ∧ w = w' := by
  have y7 : w.cell? ⟨B, 10 * i + 7, none⟩ = some (.pointer none) := hB.blk.cell (i := 10 * i + 7) (by have := marr_get (T := T) (k := 7) hi (by decide); rw [show mv (T i) 7 = .pointer none by show Value.pointer ((T i).ma.map _) = _; rw [h1]; rfl] at this; exact this)
  have y8 : w.cell? ⟨B, 10 * i + 8, none⟩ = some (.pointer none) := hB.blk.cell (i := 10 * i + 8) (by have := marr_get (T := T) (k := 8) hi (by decide); rw [show mv (T i) 8 = .pointer none by show Value.pointer ((T i).fe.map _) = _; rw [h2]; rfl] at this; exact this)
  have y0 : w.cell? ⟨B, 10 * i, none⟩ = some (.slice A 0 cc) := hB.blk.cell (i := 10 * i) (by have := marr_get (T := T) (k := 0) hi (by decide); rw [show mv (T i) 0 = .slice A 0 cc from ewv] at this; exact this)
  clear ewv h1 h2 hB hI hf hM hNs hr hW0
  go_enter Try.func60, Try.ntmps60
  go_wp2
  go_ret
  exact ⟨rfl, rfl⟩
set_option maxHeartbeats 4000000 in
set_option maxRecDepth 100000 in
theorem stIdle (h1 : (T i).ma = none) (h2 : (T i).fe = none) {A : Option Addr} {l cc : Nat} (ewv : (T i).wv = .slice A l cc) (hl : 0 < l) : Calls Try.prog 60 #[.pointer (some ⟨B, 10 * i, none⟩), .pointer (some ⟨WB, 0, none⟩)] w fun e w' => e = .returned (.bool true) ∧ StAft c w0 w lo B WB RB m b K N n t w' := by
  have y7 : w.cell? ⟨B, 10 * i + 7, none⟩ = some (.pointer none) := hB.blk.cell (i := 10 * i + 7) (by have := marr_get (T := T) (k := 7) hi (by decide); rw [show mv (T i) 7 = .pointer none by show Value.pointer ((T i).ma.map _) = _; rw [h1]; rfl] at this; exact this)
  have y8 : w.cell? ⟨B, 10 * i + 8, none⟩ = some (.pointer none) := hB.blk.cell (i := 10 * i + 8) (by have := marr_get (T := T) (k := 8) hi (by decide); rw [show mv (T i) 8 = .pointer none by show Value.pointer ((T i).fe.map _) = _; rw [h2]; rfl] at this; exact this)
  have y0 : w.cell? ⟨B, 10 * i, none⟩ = some (.slice A l cc) := hB.blk.cell (i := 10 * i) (by have := marr_get (T := T) (k := 0) hi (by decide); rw [show mv (T i) 0 = .slice A l cc from ewv] at this; exact this)
  have hl0' : ((l : Int) == 0) = false := by rw [beq_eq_false_iff_ne]; omega
  have hbeg := Lib.hid (stBegin hr hM hf (by omega) hNs hB hI hi hW0 hl0 h1 h2 ewv hl)
  clear ewv h1 h2 hB hI hf hM hNs hr hW0
  go_enter Try.func60, Try.ntmps60
  go_wp2_with (go_at_call 89; refine hbeg.out.mono ?_; rintro e w1 ⟨rfl, hA⟩; replace hA := Lib.hid hA)
  go_ret
  exact ⟨rfl, hA.out⟩
theorem stStep : Calls Try.prog 60 #[.pointer (some ⟨B, 10 * i, none⟩), .pointer (some ⟨WB, 0, none⟩)] w fun e w' => e = .returned (.bool true) ∧ StAft c w0 w lo B WB RB m b K N n t w' := by
  have los := hB.lo_size
  have lB := hB.low B (.inl rfl)
  obtain ⟨nWB, nRB, nRW, nm⟩ := hB.ne
  have hn' : (M.n : Int) = c.size := by rw [hf.n]; exact hNs
  have hnum := hB.num i hi
  have mlb : m < w.heap.size ∧ b < w.heap.size := ⟨hM.lm, hM.lb⟩
  have hbelow : ∀ {S : Nat → Prop} {w' : World}, Fr S w w' → (∀ k, S k → lo ≤ k) → Below lo w w' := fun {S w'} hF hS => hF.below (fun k hk => ⟨by omega, fun hs => by have := hS k hs; omega⟩)
  have twf : ∀ k, two m b k → fixd B WB RB m b k := fun k e => e.elim (fun e => .inr (.inr (.inr (.inl e)))) (fun e => .inr (.inr (.inr (.inr e))))
  have hhv : ∀ k, (T i).hv.ownBlock = some k → ¬ fixd B WB RB m b k := fun k e => (hB.ft i hi k (foot_hv e)).2.2
  cases hma : (T i).ma with
  | some z =>
    have hfe := (hI.ma i hi z hma).2
    obtain ⟨hMk, hOk, n1, n2, n3⟩ := hB.ma i hi z hma
    have hfz : ∀ k, (k = z.p ∨ k = z.q ∨ k = z.r) → foot (T i) k := fun k h => .inl ⟨z, hma, h⟩
    have hS4 : ∀ k, four z.p z.q m b k → foot (T i) k ∨ fixd B WB RB m b k := fun k h => by
      rcases h with h | h | h
      · exact .inl (hfz k (.inl h))
      · exact .inl (hfz k (.inr (.inl h)))
      · exact .inr (twf k h)
    have hlo4 : ∀ k, foot (T i) k ∨ fixd B WB RB m b k → lo ≤ k := fun k h => h.elim (fun h => (hB.ft i hi k h).1) (hB.low k)
    have n4 : ∀ k, fixd B WB RB m b k → k ≠ m → k ≠ b → ¬ four z.p z.q m b k := fun k h e1 e2 h4 => by
      rcases h4 with h4 | h4 | h4 | h4
      · exact (hB.ft i hi k (hfz k (.inl h4))).2.2 h
      · exact (hB.ft i hi k (hfz k (.inr (.inl h4)))).2.2 h
      · exact e1 h4
      · exact e2 h4
    have nB4 := n4 B (.inl rfl) (fun e => (nm B (.inl e)).1 rfl) (fun e => (nm B (.inr e)).1 rfl)
    have nW4 := n4 WB (.inr (.inl rfl)) (fun e => (nm WB (.inl e)).2.1 rfl) (fun e => (nm WB (.inr e)).2.1 rfl)
    have nR4 := n4 RB (.inr (.inr (.inl rfl))) (fun e => (nm RB (.inl e)).2.2 rfl) (fun e => (nm RB (.inr e)).2.2 rfl)
    have hnp : ∀ k, (T i).hv.ownBlock = some k → k ≠ z.p := fun k e h => by
      obtain ⟨_, _, ds, hd⟩ := IQ.typed (hB.has i hi) k e
      exact absurd (blk_one hd (h ▸ hMk.blk)).1 (by decide)
    have hnq : ∀ k, (T i).hv.ownBlock = some k → k ≠ z.q := fun k e h => by
      obtain ⟨_, _, ds, hd⟩ := IQ.typed (hB.has i hi) k e
      exact absurd (blk_one hd (h ▸ hMk.pop)).1 (by decide)
    have nh4 : ∀ k, (T i).hv.ownBlock = some k → ¬ four z.p z.q m b k := fun k e h4 => by
      rcases h4 with h4 | h4 | h4
      · exact hnp k e h4
      · exact hnq k e h4
      · exact hhv k e (twf k h4)
    have hfm := fine_mk (c := c) (g := (T i).g) hf hOk (g_U hB hi)
    have ok : Ok M := hf.ok (by have := size_bd hr; unfold Cf.size at hNs; omega) (by omega)
    rcases AI.mkStep hr hn' hf.u ht hI hi hma hnum.2.1 with ⟨hd, t', L', own', ht', hAI⟩ | ⟨hd, hfu, hsl, hAI⟩ | ⟨hd, hfu, x, hsl, hxR, m0, m1, hX, hBd, hAI⟩
    · refine (stGo hr hM hf hn hNs ht hB hI hi hma hd).mono ?_
      rintro e w' ⟨rfl, hMk', hM', hF⟩
      refine ⟨rfl, _, t', L', _, own', μ, ht', hM', hfm, ?_, hAI, hbelow hF (fun k hk => hlo4 k (hS4 k hk))⟩
      refine hB.set hi hF (fun k _ hk => hS4 k hk) ?_ (hB.wld.fr hF nW4) (hB.row.fr hF nR4) (fun y hy => ?_) (fun y hy => absurd (hfe.symm.trans hy) (by simp)) (IQ.fr (hB.has i hi) hF nh4) (fun k hk => ?_) los (hB.work i hi) hnum mlb
      · rw [marr_same (τ := { T i with ma := some ⟨z.p, z.q, z.r, mkS c (roomI c) z.a M⟩ }) (ten rfl rfl rfl rfl rfl rfl rfl (by show Value.pointer (some _) = Value.pointer ((T i).ma.map _); rw [hma]; rfl) rfl rfl)]
        exact hB.blk.fr hF nB4
      · cases hy
        exact ⟨hMk', hOk.step ok (by have := room_i hr; omega), n1, n2, n3⟩
      · rcases hk with ⟨y, hy, hk⟩ | ⟨y, hy, hk⟩ | hk
        · cases hy; exact .inl (hfz k hk)
        · exact absurd (hfe.symm.trans hy) (by simp)
        · exact .inl (foot_hv hk)
    · refine (stFull hr hM hf hn hNs ht hB hI hi hma hd hfu hsl).mono ?_
      rintro e w' ⟨rfl, hBk, hM', hF⟩
      have hS5 : ∀ k, (k = B ∨ four z.p z.q m b k) → foot (T i) k ∨ fixd B WB RB m b k := fun k h => h.elim (fun e => .inr (.inl e)) (hS4 k)
      refine ⟨rfl, _, t, L, _, own, μ, by omega, hM', hfm, ?_, hAI, hbelow hF (fun k hk => hlo4 k (hS5 k hk))⟩
      refine hB.set hi hF (fun k _ hk => hS5 k hk) ?_ (hB.wld.fr hF (fun k => k.elim nWB nW4)) (hB.row.fr hF (fun k => k.elim nRB nR4)) (fun y hy => by cases hy) (fun y hy => absurd (hfe.symm.trans hy) (by simp)) (IQ.fr (hB.has i hi) hF (fun k e h => h.elim (fun h => hhv k e (.inl h)) (nh4 k e))) (fun k hk => ?_) los (hB.work i hi) hnum mlb
      · have e2 := marr_ma (T := T) hi none
        exact e2 ▸ hBk
      · rcases hk with ⟨y, hy, hk⟩ | ⟨y, hy, hk⟩ | hk
        · cases hy
        · exact absurd (hfe.symm.trans hy) (by simp)
        · exact .inl (foot_hv hk)
    · obtain ⟨s, rfl⟩ := Int.eq_ofNat_of_zero_le hxR.1
      refine (stYes hr hM hf hn hNs ht hB hI hi hma hd hfu hsl hxR ⟨m0, m1⟩ hX hBd).mono ?_
      rintro e w' ⟨rfl, w2, hF2, hM2, hv', hBk, hQ', hob, hR', hF'⟩
      have h22 := hF2.size
      have nmB : ∀ k, two m b k → k ≠ B ∧ k ≠ WB ∧ k ≠ RB := nm
      have hF3 : Fr (fun k => (k = B ∨ k = RB ∨ some k = (T i).hv.ownBlock) ∨ four z.p z.q m b k) w w' := (hF2.mono (fun k e => .inr e)).trans (hF'.mono (fun k e => .inl e))
      have hS5 : ∀ k, ((k = B ∨ k = RB ∨ some k = (T i).hv.ownBlock) ∨ four z.p z.q m b k) → foot (T i) k ∨ fixd B WB RB m b k := fun k h => by
        rcases h with (h | h | h) | h
        · exact .inr (.inl h)
        · exact .inr (.inr (.inr (.inl h)))
        · exact .inl (foot_hv h.symm)
        · exact hS4 k h
      refine ⟨rfl, _, t, L, _, own, _, by omega, hM2.fr hF' (fun k => ?_) (fun k => ?_), hfm, ?_, hAI hv', hbelow hF3 (fun k hk => hlo4 k (hS5 k hk))⟩
      · rcases k with k | k | k
        · exact (nm m (.inl rfl)).1 k
        · exact (nm m (.inl rfl)).2.2 k
        · exact hhv m k.symm (twf m (.inl rfl))
      · rcases k with k | k | k
        · exact (nm b (.inr rfl)).1 k
        · exact (nm b (.inr rfl)).2.2 k
        · exact hhv b k.symm (twf b (.inr rfl))
      refine hB.set hi hF3 (fun k _ hk => hS5 k hk) ?_ (hB.wld.fr hF3 (fun k => ?_)) hR' (fun y hy => by cases hy) (fun y hy => absurd (hfe.symm.trans hy) (by simp)) hQ' (fun k hk => ?_) los (hB.work i hi) hnum mlb
      · have e2 : (marr K T).setIfInBounds (10 * i + 7) (.pointer none) = marr K (put T i { T i with ma := none }) := marr_ma (T := T) hi none
        have e3 := marr_hv (T := put T i { T i with ma := none }) hi hv' ((T i).h ++ [(s : Int)])
        rw [put_put, put_eq] at e3
        rw [e2, e3] at hBk
        exact hBk
      · rcases k with (k | k | k) | k
        · exact nWB k
        · exact nRW k.symm
        · exact hhv WB k.symm (.inr (.inl rfl))
        · exact nW4 k
      · rcases hk with ⟨y, hy, hk⟩ | ⟨y, hy, hk⟩ | hk
        · cases hy
        · exact absurd (hfe.symm.trans hy) (by simp)
        · have hk' : hv'.ownBlock = some k := hk
          rcases hob with e | ⟨b', e, l⟩
          · exact .inl (foot_hv (e ▸ hk'))
          · rw [e] at hk'
            injection hk' with hk'
            subst hk'
            obtain ⟨_, h3, _⟩ := IQ.typed hQ' b' e
            exact .inr ⟨by omega, h3⟩
  | none =>
    cases hfe : (T i).fe with
    | some z =>
      obtain ⟨hFe, hOk, n1⟩ := hB.fe i hi z hfe
      have hfz : ∀ k, (k = z.p ∨ z.qa = some k) → foot (T i) k := fun k h => .inr (.inl ⟨z, hfe, h⟩)
      have hS5 : ∀ k, fiv z.p m b z.qa k → foot (T i) k ∨ fixd B WB RB m b k := fun k h => by
        rcases h with h | h | h
        · exact .inl (hfz k (.inr h))
        · exact .inl (hfz k (.inl h))
        · exact .inr (twf k h)
      have hlo4 : ∀ k, foot (T i) k ∨ fixd B WB RB m b k → lo ≤ k := fun k h => h.elim (fun h => (hB.ft i hi k h).1) (hB.low k)
      have n5 : ∀ k, fixd B WB RB m b k → k ≠ m → k ≠ b → ¬ fiv z.p m b z.qa k := fun k h e1 e2 h4 => by
        rcases h4 with h4 | h4 | h4 | h4
        · exact (hB.ft i hi k (hfz k (.inr h4))).2.2 h
        · exact (hB.ft i hi k (hfz k (.inl h4))).2.2 h
        · exact e1 h4
        · exact e2 h4
      have nB5 := n5 B (.inl rfl) (fun e => (nm B (.inl e)).1 rfl) (fun e => (nm B (.inr e)).1 rfl)
      have nW5 := n5 WB (.inr (.inl rfl)) (fun e => (nm WB (.inl e)).2.1 rfl) (fun e => (nm WB (.inr e)).2.1 rfl)
      have nR5 := n5 RB (.inr (.inr (.inl rfl))) (fun e => (nm RB (.inl e)).2.2 rfl) (fun e => (nm RB (.inr e)).2.2 rfl)
      have nh5 : ∀ k, (T i).hv.ownBlock = some k → ¬ fiv z.p m b z.qa k := fun k e h4 => by
        obtain ⟨_, _, ds, hd⟩ := IQ.typed (hB.has i hi) k e
        rcases h4 with h4 | h4 | h4
        · exact (n1 k h4).2 e
        · exact absurd (blk_one hd (h4 ▸ hFe.blk)).1 (by decide)
        · exact hhv k e (twf k h4)
      have hfm := fine_fr (c := c) hf hOk
      have ok : Ok M := hf.ok (by have := size_bd hr; unfold Cf.size at hNs; omega) (by omega)
      rcases AI.feStep hr hn' hf.u ht hI hi hfe with ⟨hd, t', L', own', ht', hAI⟩ | ⟨hd, hxR, hok, hcs, t', L', own', ht', hAI⟩
      · refine (stFrGo hr hM hf hn hNs ht hB hI hi hfe hd).mono ?_
        rintro e w' ⟨rfl, qa', hFe', hqa, hM', hF⟩
        refine ⟨rfl, _, t', L', _, own', μ, ht', hM', hfm, ?_, hAI qa', hbelow hF (fun k hk => hlo4 k (hS5 k hk))⟩
        refine hB.set hi hF (fun k _ hk => hS5 k hk) ?_ (hB.wld.fr hF nW5) (hB.row.fr hF nR5) (fun y hy => absurd (hma.symm.trans hy) (by simp)) (fun y hy => ?_) (IQ.fr (hB.has i hi) hF nh5) (fun k hk => ?_) los (hB.work i hi) hnum mlb
        · rw [marr_same (τ := { T i with fe := some ⟨z.p, qa', frS c z.a M⟩ }) (ten rfl rfl rfl rfl rfl rfl rfl rfl (by show Value.pointer (some _) = Value.pointer ((T i).fe.map _); rw [hfe]; rfl) rfl)]
          exact hB.blk.fr hF nB5
        · cases hy
          refine ⟨hFe', hOk.step ok, fun q e => ?_⟩
          rcases hqa with h | ⟨q', h, l, _⟩
          · exact n1 q (h ▸ e)
          · have e' : qa' = some q := e
            rw [h] at e'
            injection e' with e'
            subst e'
            have := hFe.blk.lt
            exact ⟨by show q' ≠ z.p; omega, fun h => by have := (hB.ft i hi q' (foot_hv h)).2.1; omega⟩
        · rcases hk with ⟨y, hy, hk⟩ | ⟨y, hy, hk⟩ | hk
          · exact absurd (hma.symm.trans hy) (by simp)
          · cases hy
            have hk' : k = z.p ∨ qa' = some k := hk
            rcases hk' with h | h
            · exact .inl (hfz k (.inl h))
            · rcases hqa with e | ⟨q', e, l, g⟩
              · exact .inl (hfz k (.inr (e ▸ h)))
              · rw [e] at h
                injection h with h
                subst h
                exact .inr ⟨l, g⟩
          · exact .inl (foot_hv hk)
      · obtain ⟨s, hs⟩ := Int.eq_ofNat_of_zero_le hxR.1
        rw [hs] at hxR hok hcs
        refine (stFrDone hr hM hf hn hNs ht hB hI hi hfe hd hs hxR hok hcs).mono ?_
        rintro e w' ⟨rfl, hBk, hM', hF⟩
        have hS6 : ∀ k, (k = B ∨ fiv z.p m b z.qa k) → foot (T i) k ∨ fixd B WB RB m b k := fun k h => h.elim (fun e => .inr (.inl e)) (hS5 k)
        refine ⟨rfl, _, t', L', _, own', μ, ht', hM', hfm, ?_, hAI, hbelow hF (fun k hk => hlo4 k (hS6 k hk))⟩
        refine hB.set hi hF (fun k _ hk => hS6 k hk) ?_ (hB.wld.fr hF (fun k => k.elim nWB nW5)) (hB.row.fr hF (fun k => k.elim nRB nR5)) (fun y hy => absurd (hma.symm.trans hy) (by simp)) (fun y hy => by cases hy) (IQ.fr (hB.has i hi) hF (fun k e h => h.elim (fun h => hhv k e (.inl h)) (nh5 k e))) (fun k hk => ?_) los (hB.work i hi) hnum mlb
        · have e2 : (marr K T).setIfInBounds (10 * i + 8) (.pointer none) = marr K (put T i { T i with fe := none }) := marr_fe (T := T) hi none
          exact e2 ▸ hBk
        · rcases hk with ⟨y, hy, hk⟩ | ⟨y, hy, hk⟩ | hk
          · exact absurd (hma.symm.trans hy) (by simp)
          · cases hy
          · exact .inl (foot_hv hk)
    | none =>
      obtain ⟨A, l, cc, g, ewv, _⟩ := hB.work i hi
      by_cases hl : l = 0
      · subst hl
        refine (stIdle0 hr hM hf hn hNs ht hB hI hi hW0 hl0 hma hfe ewv).mono ?_
        rintro e w' ⟨rfl, rfl⟩
        exact ⟨rfl, M, t, L, T, own, μ, by omega, hM, hf.mono (by omega), hB, hI, Below.refl lo w⟩
      · exact stIdle hr hM hf hn hNs ht hB hI hi hW0 hl0 hma hfe ewv (by omega)
end
end Go.Proofs.Ytijfkpoofpcacaa.MakerD
end
section
namespace Go.Proofs.Ytijfkpoofpcacaa.MakerE
open Go.RowKit Go.Proofs.YtijfkpoofpcacaaW.PrintWords Go.Proofs.Ytijfkpoofpcacaa.Blk Go.Proofs.Ytijfkpoofpcacaa.Core Go.Proofs.Ytijfkpoofpcacaa.MemC Go.Proofs.Ytijfkpoofpcacaa.MemD Go.Proofs.Ytijfkpoofpcacaa.MemT Go.Proofs.Ytijfkpoofpcacaa.Memory Go.Proofs.Ytijfkpoofpcacaa.PlanC Go.Proofs.Ytijfkpoofpcacaa.PlanD Go.Proofs.Ytijfkpoofpcacaa.RefM Go.Proofs.Ytijfkpoofpcacaa.StackC Go.Proofs.Ytijfkpoofpcacaa.StackL Go.Proofs.Ytijfkpoofpcacaa.StackS Go.Proofs.Ytijfkpoofpcacaa.StackF Go.Proofs.Ytijfkpoofpcacaa.StackP Go.Proofs.Ytijfkpoofpcacaa.StackG Go.Proofs.Ytijfkpoofpcacaa.StackT Go.Proofs.Ytijfkpoofpcacaa.HeadC Go.Proofs.Ytijfkpoofpcacaa.ArenaC Go.Proofs.Ytijfkpoofpcacaa.ArenaM Go.Proofs.Ytijfkpoofpcacaa.ArenaP Go.Proofs.Ytijfkpoofpcacaa.ArenaL Go.Proofs.Ytijfkpoofpcacaa.ArenaR Go.Proofs.Ytijfkpoofpcacaa.ArenaQ Go.Proofs.Ytijfkpoofpcacaa.ArenaU Go.Proofs.Ytijfkpoofpcacaa.ArenaW Go.Proofs.Ytijfkpoofpcacaa.ArenaY Go.Proofs.Ytijfkpoofpcacaa.MakerL Go.Proofs.Ytijfkpoofpcacaa.MakerM Go.Proofs.Ytijfkpoofpcacaa.MakerF Go.Proofs.Ytijfkpoofpcacaa.MakerT Go.Proofs.Ytijfkpoofpcacaa.MakerU Go.Proofs.Ytijfkpoofpcacaa.MakerV Go.Proofs.Ytijfkpoofpcacaa.MakerW Go.Proofs.Ytijfkpoofpcacaa.MakerX Go.Proofs.Ytijfkpoofpcacaa.MakerY Go.Proofs.Ytijfkpoofpcacaa.StackQ Go.Proofs.Ytijfkpoofpcacaa.TakerL Go.Proofs.Ytijfkpoofpcacaa.MakerA Go.Proofs.Ytijfkpoofpcacaa.MakerD Go.Proofs.Ytijfkpoofpcacaa.Opens
open Go.Proofs.Ytijfkpoofpcacaa.TakerS (IQ blk_one fr_grown)
open Go.Proofs.Ytijfkpoofpcacaa.TakerT (sarr sarr_get sarr_set sarr_size)
theorem infoK : (Try.prog.info? 107).map (fun i => (i.zero, i.size, i.bytes)) = some (some (.agg #[.slice none 0 0, .bool false, .bool false, .int .u8 0, .int .u8 0, .int .u64 0, .slice none 0 0, .pointer none, .pointer none, .int .i64 0]), 10, 88) := by kernel_rfl
theorem zero_cells : (Value.agg #[.slice none 0 0, .bool false, .bool false, .int .u8 0, .int .u8 0, .int .u64 0, .slice none 0 0, .pointer none, .pointer none, .int .i64 0]).cells = #[.slice none 0 0, .bool false, .bool false, .int .u8 0, .int .u8 0, .int .u64 0, .slice none 0 0, .pointer none, .pointer none, .int .i64 0] := by kernel_rfl
theorem made_mk (C : Nat) : madeCells (Value.agg #[.slice none 0 0, .bool false, .bool false, .int .u8 0, .int .u8 0, .int .u64 0, .slice none 0 0, .pointer none, .pointer none, .int .i64 0]).cells (C * 10) = marr C (fun _ => Mr.new) := by
  rw [zero_cells]
  refine Array.ext_getElem? fun x => ?_
  by_cases hx : x < C * 10
  · have h1 : x < (madeCells (#[.slice none 0 0, .bool false, .bool false, .int .u8 0, .int .u8 0, .int .u64 0, .slice none 0 0, .pointer none, .pointer none, .int .i64 0] : Array Value) (C * 10)).size := by rw [size_madeCells]; exact hx
    have h2 : x < (marr C (fun _ => Mr.new)).size := by unfold marr; rw [sarr_size]; omega
    rw [Array.getElem?_eq_getElem h1, Array.getElem?_eq_getElem h2]
    have hr : x % 10 < 10 := by omega
    simp only [madeCells, marr, sarr, Array.getElem_map, Array.getElem_range]
    generalize x % 10 = r at *
    exact congrArg some (ten (P := fun r => (#[.slice none 0 0, .bool false, .bool false, .int .u8 0, .int .u8 0, .int .u64 0, .slice none 0 0, .pointer none, .pointer none, .int .i64 0] : Array Value)[r]! = mv Mr.new r) rfl rfl rfl rfl rfl rfl rfl rfl rfl rfl r hr)
  · rw [Array.getElem?_eq_none (by rw [size_madeCells]; omega), Array.getElem?_eq_none (by unfold marr; rw [sarr_size]; omega)]
theorem make_mk (C : Nat) (h1 : C ≤ 1000) (w : World) : (Instr.makeSlice 102 (.int .i64 (C : Int)) (.int .i64 (C : Int))).run Try.prog w = .ok (.slice (some ⟨w.heap.size, 0, none⟩) C C) (w.alloc (.cells (marr C (fun _ => Mr.new)) 107)) := by
  obtain ⟨i, hi, e⟩ := Option.map_eq_some_iff.1 infoK
  simp only [Prod.mk.injEq] at e
  obtain ⟨e0, e1, e2⟩ := e
  have := run_make w 102 107 i _ Try.underlying102 hi e0 .i64 .i64 C C (by omega) (Int.le_refl _) (by rw [e2]; omega) (by omega)
  rw [e1, Int.toNat_natCast, made_mk] at this
  exact this
def Mn (V : Nat → Value) (i : Nat) : Nat → Mr := fun j => if j < i then { Mr.new with wv := V j } else Mr.new
theorem Mn_put (V : Nat → Value) (i : Nat) : put (Mn V i) i { Mr.new with wv := V i } = Mn V (i + 1) := by
  funext j
  unfold put Mn
  by_cases e : j = i
  · rw [if_pos e, if_pos (by omega), e]
  · rw [if_neg e]
    by_cases h : j < i
    · rw [if_pos h, if_pos (by omega)]
    · rw [if_neg h, if_neg (by omega)]
theorem ups_all : ∀ (n k : Nat) (x : Int), (k : Int) ≤ x → x < (k : Int) + n → x ∈ ups k n := by
  intro n
  induction n with
  | zero => intro k x h1 h2; omega
  | succ n ih =>
    intro k x h1 h2
    show x ∈ (k : Int) :: ups (k + 1) n
    by_cases e : x = k
    · subst e; exact List.mem_cons_self ..
    · exact List.mem_cons_of_mem _ (ih (k + 1) x (by omega) (by omega))
theorem memF2 (A C H : Int) (j : Nat) (h4 : 4 ≤ slotsV C H) : memF A C H j 2 = 0 := by
  unfold memF
  rw [if_neg (by decide), if_neg (by decide), if_neg (by omega)]
theorem memF_head {c : Cf} (hr : c.right = true) {j : Nat} {x : Int} (hx : InR c x) : hw c (memF c.A c.C c.H j) x = 0 := by
  have hb := room_bd hr
  have hz := size_bd hr
  have hp := pl_bd hr hx (o := 0) ⟨Int.le_refl 0, by omega⟩
  have hx0 := hx.1
  have hm : 0 ≤ x * roomV c.A := Int.mul_nonneg hx0 (by omega)
  unfold hw
  have e : ((c.pl x 0).toNat : Int) = slotsV c.C c.H + x * roomV c.A + 0 := by rw [Int.toNat_of_nonneg (by omega)]; rfl
  generalize (c.pl x 0).toNat = k at *
  unfold memF
  rw [if_neg (by omega), if_neg (by omega), if_neg]
  rintro ⟨_, h, _⟩
  rw [e, show slotsV c.C c.H + x * roomV c.A + 0 - slotsV c.C c.H = x * roomV c.A by omega, Int.mul_emod_left] at h
  omega
theorem mn_ai {c : Cf} (hr : c.right = true) {k : Nat} (hk : (k : Int) = c.S) (hs : Stk c (memF c.A c.C c.H (c.S - 1).toNat) 0 (ups 0 k)) (V : Nat → Value) (K : Nat) : AI c (memF c.A c.C c.H (c.S - 1).toNat) 0 (ups 0 k) K (Mn V K) (fun _ => 0) (fun _ => 0) := by
  have hT : ∀ i, i < K → Mn V K i = { Mr.new with wv := V i } := fun i hi => if_pos hi
  have hrI := right_iff.1 hr
  refine ⟨hs, memF2 _ _ _ _ (size_bd hr).1, fun x => ⟨fun h => ⟨?_, rfl⟩, fun h => ups_all k 0 x (by have := h.1.1; omega) (by have := h.1.2; omega)⟩, fun x _ => Nat.zero_le _, fun x _ => ⟨Int.le_refl 0, by show (0 : Int) ≤ c.G; omega⟩, fun x hx _ => ⟨hx, ?_, ?_, by show (0 : Int) < c.G; omega⟩, fun x _ h => absurd h (by simp), fun i hi x => ?_, fun i hi => ?_, fun i hi x hx => ?_, fun i hi z hz => ?_, fun i hi z hz => ?_⟩
  · have := ups_mem h; exact ⟨by omega, by rw [← hk]; omega⟩
  · rw [memF_head hr hx]; decide
  · rw [memF_head hr hx]; show uN 0 = 0; decide
  · rw [hT i hi]; show x ∈ ([] : List Int) ↔ _; simp
  · rw [hT i hi]; exact List.nodup_nil
  · rw [hT i hi] at hx; exact absurd hx (by show x ∉ ([] : List Int); simp)
  · rw [hT i hi] at hz; cases hz
  · rw [hT i hi] at hz; cases hz
theorem mn_ab {c : Cf} {w0 w : World} {lo B WB RB m b K : Nat} {V : Nat → Value} (hb : Blk w B 107 (marr K (Mn V K))) (hw : Blk w WB 101 (worldA c m RB)) (hrw : Blk w RB 3 (rowF .i64 c.S.toNat (fun _ => 0))) (hne : WB ≠ B ∧ RB ≠ B ∧ RB ≠ WB ∧ (∀ k, two m b k → k ≠ B ∧ k ≠ WB ∧ k ≠ RB)) (hlo : ∀ k, fixd B WB RB m b k → lo ≤ k) (hV : ∀ i, i < K → WV w0 (V i)) : AB c w0 w lo B WB RB m b K (Mn V K) (fun _ => 0) := by
  have hT : ∀ i, i < K → Mn V K i = { Mr.new with wv := V i } := fun i hi => if_pos hi
  refine ⟨hb, hw, hrw, hne, hlo, (fun i hi z a => by rw [hT i hi] at a; cases a), (fun i hi z a => by rw [hT i hi] at a; cases a), (fun i hi => by rw [hT i hi]; exact IQ.nil _ _), (fun i hi k a => ?_), (fun i j hi hj _ k a => ?_), (fun i hi => by rw [hT i hi]; exact hV i hi), (fun i hi => by rw [hT i hi]; exact ⟨⟨Int.le_refl 0, by show (0 : Int) < 256; decide⟩, ⟨Int.le_refl 0, by show (0 : Int) < 256; decide⟩, Int.le_refl 0, by show (0 : Int) < 18446744073709551616; decide⟩)⟩
  · rw [hT i hi] at a; rcases a with ⟨z, hz, _⟩ | ⟨z, hz, _⟩ | hz <;> cases hz
  · rw [hT i hi] at a; rcases a with ⟨z, hz, _⟩ | ⟨z, hz, _⟩ | hz <;> cases hz
theorem has_ap {c : Cf} {f : Nat → Int} {t : Int} {L : List Int} {K : Nat} {T : Nat → Mr} {own : Int → Nat} {μ : Int → Int} (h : AI c f t L K T own μ) {i j : Nat} (hi : i < K) (hj : j < K) (hne : i ≠ j) : ∀ x, x ∈ (T i).h → x ∉ (T j).h := fun x h1 h2 => by
  have e1 := ((h.mine i hi x).1 (h_mine h1)).2
  have e2 := ((h.mine j hj x).1 (h_mine h2)).2
  omega
theorem has_len {c : Cf} (hr : c.right = true) {f : Nat → Int} {t : Int} {L : List Int} {K : Nat} {T : Nat → Mr} {own : Int → Nat} {μ : Int → Int} (h : AI c f t L K T own μ) {i : Nat} (hi : i < K) : (T i).h.length ≤ 1000 := by
  have h3 : ((T i).h).Nodup := by
    have h1 := h.nd i hi
    unfold Mr.mine at h1
    split at h1
    · exact (List.nodup_cons.1 h1).2
    · exact h1
  have hS := S_bd hr
  have := nodup_len c.S.toNat _ h3 (fun y hy => by
    have hm := (h.mine i hi y).1 (h_mine hy)
    have := hm.1.1
    have := hm.1.2
    omega)
  omega
def cm (T : Nat → Mr) (s d : Int) : Nat → Int
  | 0 => d
  | j + 1 => cm T s d j + if s ∈ (T j).h then 1 else 0
theorem cm_bd (T : Nat → Mr) (s d : Int) (h0 : 0 ≤ d) (h1 : d ≤ 1) : ∀ j, 0 ≤ cm T s d j ∧ cm T s d j ≤ 1 + j
  | 0 => ⟨h0, by show d ≤ _; omega⟩
  | j + 1 => by
    have := cm_bd T s d h0 h1 j
    show 0 ≤ cm T s d j + _ ∧ cm T s d j + _ ≤ 1 + ((j + 1 : Nat) : Int)
    split <;> omega
theorem cm_no {T : Nat → Mr} {s d : Int} : ∀ {j : Nat}, (∀ i, i < j → s ∉ (T i).h) → cm T s d j = d
  | 0, _ => rfl
  | j + 1, h => by
    show cm T s d j + _ = d
    rw [cm_no (fun i hi => h i (by omega)), if_neg (h j (by omega))]; omega
theorem cm_one {T : Nat → Mr} {s d : Int} {i0 : Nat} (h0 : s ∈ (T i0).h) : ∀ {j : Nat}, (∀ i, i < j → i ≠ i0 → s ∉ (T i).h) → cm T s d j = d + if i0 < j then 1 else 0
  | 0, _ => by show d = _; rw [if_neg (by omega)]; omega
  | j + 1, h => by
    show cm T s d j + _ = _
    rw [cm_one h0 (fun i hi => h i (by omega))]
    by_cases e : j = i0
    · subst e
      rw [if_pos h0, if_neg (Nat.lt_irrefl j), if_pos (by omega)]; omega
    · rw [if_neg (h j (by omega) e)]
      by_cases l : i0 < j
      · rw [if_pos l, if_pos (by omega)]; omega
      · rw [if_neg l, if_neg (by omega)]; omega
theorem fin_ok {c : Cf} (hr : c.right = true) {f : Nat → Int} {t : Int} {L : List Int} {K : Nat} {T : Nat → Mr} {own : Int → Nat} {μ : Int → Int} (h : AI c f t L K T own μ) {s : Int} (hs : InR c s) {d : Int} (hd : d = if s ∈ L ∨ uK (hw c f s) = 4 then 1 else 0) :
    cm T s d K ≤ 1 ∧ (uK (hw c f s) = 0 → cm T s d K = 1 → uN (hw c f s) = μ s) := by
  have hl := h.lst s
  have hle := h.le s hs
  have hno : ∀ j, (∀ i, i < j → i < K → own s ≠ i + 1) → j ≤ K → cm T s d j = d := fun j h2 hj => cm_no (fun i hi hm => h2 i hi (by omega) ((h.mine i (by omega) s).1 (h_mine hm)).2)
  have hd1 : 0 ≤ d ∧ d ≤ 1 := by rw [hd]; split <;> omega
  by_cases o0 : own s = 0
  · have e := hno K (fun i _ _ => by omega) (Nat.le_refl _)
    exact ⟨by omega, fun _ _ => (h.free s hs o0).2.2.1⟩
  · by_cases o1 : own s = K + 1
    · have e := hno K (fun i _ hi => by omega) (Nat.le_refl _)
      have := h.dead s hs o1
      exact ⟨by omega, fun h0 => by omega⟩
    · obtain ⟨i, hi⟩ : ∃ i, own s = i + 1 := ⟨own s - 1, by omega⟩
      have hiK : i < K := by omega
      have hmi := (h.mine i hiK s).2 ⟨hs, hi⟩
      have hsL : s ∉ L := fun k => by have := (hl.1 k).2; omega
      have hoth : ∀ j, j < K → j ≠ i → s ∉ (T j).h := fun j hj hne hm => by have := ((h.mine j hj s).1 (h_mine hm)).2; omega
      by_cases hm : s ∈ (T i).h
      · have hH := h.has i hiK s hm
        have hk : uK (hw c f s) = 1 ∨ uK (hw c f s) = 2 := hH.2.2.2.2
        have hd0 : d = 0 := by rw [hd, if_neg (fun x => x.elim hsL (fun x => by omega))]
        rw [cm_one hm (fun j hj => hoth j hj)]
        rw [hd0, if_pos hiK]
        exact ⟨by decide, fun h0 => by omega⟩
      · have hh : (T i).hand = some s := by
          unfold Mr.mine at hmi
          split at hmi
          · rename_i x e
            rcases List.mem_cons.1 hmi with k | k
            · rw [e, k]
            · exact absurd k hm
          · exact absurd hmi hm
        have hk : uK (hw c f s) ≠ 4 := by
          unfold Mr.hand at hh
          cases hma : (T i).ma with
          | some z =>
            rw [hma] at hh
            simp only at hh
            obtain ⟨_, hI⟩ := (h.ma i hiK z hma).1
            by_cases e : z.a.nx = 0
            · rw [if_pos e] at hh; cases hh
            · rw [if_neg e] at hh
              injection hh with hh
              rcases hI with ⟨k, _⟩ | ⟨k, _⟩
              · exact absurd k e
              · have := k.2.1
                rw [hh] at this
                omega
          | none =>
            rw [hma] at hh
            simp only at hh
            cases hfe : (T i).fe with
            | some z =>
              rw [hfe] at hh
              injection hh with hh
              obtain ⟨_, _, _, hI⟩ := (h.fe i hiK z hfe).1
              rw [hh] at hI
              rcases hI with ⟨_, k⟩ | ⟨_, k, _⟩ | ⟨_, _, k1, k, _⟩
              · have := k.2.2.1; omega
              · have := k.2.2.1; omega
              · have hmu := h.mu s hs
                rw [k]
                have hrI := right_iff.1 hr
                obtain ⟨u1, u2, _⟩ := u_head (k := 0) (m := 0) (g := false) (a := 0) (n := μ s) (s := 0) (by unfold hdRight; omega)
                rw [u2]; decide
            | none => rw [hfe] at hh; cases hh
        have hd0 : d = 0 := by rw [hd, if_neg (fun x => x.elim hsL hk)]
        have e : cm T s d K = d := cm_no (fun j hj => by
          by_cases e : j = i
          · subst e; exact hm
          · exact hoth j hj e)
        rw [e, hd0]
        exact ⟨by decide, fun _ k => by cases k⟩
end Go.Proofs.Ytijfkpoofpcacaa.MakerE
end
