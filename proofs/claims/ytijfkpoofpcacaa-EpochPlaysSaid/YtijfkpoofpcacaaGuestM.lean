/-
  Layer 8 (epoch), the law EpochPlays' plain side: guests that pin themselves, stay and leave beside one who advances the epoch; no program in it.
  Layer 8 (epoch): what a guest's step in the law EpochPlays does to its five cells, its machine and the memory, a lemma for each way; condition: a right config, as many touches as fit a number.
  Layer 8 (epoch), the law EpochPlays: all guests as one block of cells and their machines; a guest's step, whatever it is; condition: a right config, as many touches as fit a number.
  The law EpochPlays' walk; condition: the arguments as they are read.
-/
import Derived.Test.YtijfkpoofpcacaaEpochC
import Derived.Test.YtijfkpoofpcacaaEpochS
import Derived.Deep.DeepCutAuto
import Derived.Test.YtijfkpoofpcacaaEpochM
import Derived.Test.YtijfkpoofpcacaaOpen
import Derived.Deep.QuietTactic
import Derived.Deep.CutBlock
import Derived.BigQuiet
set_option linter.unusedVariables false
namespace Go.Proofs.Ytijfkpoofpcacaa.GuestL
open Go.Proofs.Ytijfkpoofpcacaa.Blk Go.Proofs.Ytijfkpoofpcacaa.EpochC
/-- A guest: its pinning machine (block, epoch, where it is), its leaving one, whether it is in, in which epoch, how long it stays. -/
structure Gst where
  pin : Option (Nat × Int × Int)
  lev : Option Nat
  inn : Bool
  e : Int
  stay : Int
def Gst.new : Gst := ⟨none, none, false, 0, 0⟩
/-- Another guest in the place of the i-th. -/
def put (G : Nat → Gst) (i : Nat) (g : Gst) : Nat → Gst := fun j => if j = i then g else G j
theorem put_eq (G : Nat → Gst) (i : Nat) (g : Gst) : put G i g i = g := if_pos rfl
theorem put_ne {G : Nat → Gst} {i j : Nat} {g : Gst} (h : j ≠ i) : put G i g j = G j := if_neg h
structure GI (C : Nat) (f : Nat → Int) (E : Int) (G : Nat → Gst) (nw wh nx : Int) : Prop where
  e1 : f 1 = E
  E0 : 0 ≤ E
  inn : ∀ j, j < C → (G j).inn = true → f (4 + j) = pinV (G j).e ∧ (G j).pin = none ∧ 0 ≤ (G j).e ∧ (E = (G j).e ∨ E = (G j).e + 1)
  lev : ∀ j, j < C → ∀ p, (G j).lev = some p → (G j).inn = true
  pin : ∀ j, j < C → ∀ p ee x, (G j).pin = some (p, ee, x) → (x = 0 ∨ ((x = 1 ∨ x = 2) ∧ 0 ≤ ee ∧ ee ≤ E)) ∧ (x = 2 → f (4 + j) = pinV ee)
  adv : nx = 0 ∨ (nx = 1 ∧ nw = E ∧ 0 ≤ wh ∧ wh < C ∧ ∀ j : Nat, j < C → (j : Int) < wh → (G j).inn = true → (G j).e = E) ∨ (nx = 2 ∧ nw = E ∧ ∀ j, j < C → (G j).inn = true → (G j).e = E)
theorem GI.new (C : Nat) {f : Nat → Int} (h : f 1 = 0) : GI C f 0 (fun _ => Gst.new) 0 0 0 :=
  ⟨h, Int.le_refl 0, (fun j _ h => by cases h), (fun j _ p h => by cases h), (fun j _ p ee x h => by cases h), .inl rfl⟩
section
variable {C : Nat} {f f' : Nat → Int} {E : Int} {G : Nat → Gst} {nw wh nx : Int} {i : Nat} {g : Gst}
theorem GI.set (h : GI C f E G nw wh nx) (hi : i < C) (hf : ∀ k, k ≠ 4 + i → f' k = f k)
    (hinn : g.inn = true → f' (4 + i) = pinV g.e ∧ g.pin = none ∧ (g.e = E ∨ ((G i).inn = true ∧ g.e = (G i).e)))
    (hlev : ∀ p, g.lev = some p → g.inn = true)
    (hpin : ∀ p ee x, g.pin = some (p, ee, x) → (x = 0 ∨ ((x = 1 ∨ x = 2) ∧ 0 ≤ ee ∧ ee ≤ E)) ∧ (x = 2 → f' (4 + i) = pinV ee)) : GI C f' E (put G i g) nw wh nx := by
  have hE : g.inn = true → 0 ≤ g.e ∧ (E = g.e ∨ E = g.e + 1) := by
    intro a
    rcases (hinn a).2.2 with e | ⟨b, e⟩
    · have := h.E0; omega
    · have := h.inn i hi b; rw [e]; exact this.2.2
  refine ⟨by rw [hf 1 (by omega)]; exact h.e1, h.E0, fun j hj a => ?_, fun j hj p a => ?_, fun j hj p ee x a => ?_, ?_⟩
  · by_cases q : j = i
    · subst q; rw [put_eq] at a ⊢; exact ⟨(hinn a).1, (hinn a).2.1, hE a⟩
    · rw [put_ne q] at a ⊢; rw [hf _ (by omega)]; exact h.inn j hj a
  · by_cases q : j = i
    · subst q; rw [put_eq] at a ⊢; exact hlev p a
    · rw [put_ne q] at a ⊢; exact h.lev j hj p a
  · by_cases q : j = i
    · subst q; rw [put_eq] at a; exact hpin p ee x a
    · rw [put_ne q] at a; rw [hf _ (by omega)]; exact h.pin j hj p ee x a
  · have key : ∀ j, j < C → (j ≠ i → (G j).inn = true → (G j).e = E) → (j = i → (G i).inn = true → (G i).e = E) → (put G i g j).inn = true → (put G i g j).e = E := by
      intro j hj k1 k2 a
      by_cases q : j = i
      · subst q; rw [put_eq] at a ⊢
        rcases (hinn a).2.2 with e | ⟨b, e⟩
        · exact e
        · rw [e]; exact k2 rfl b
      · rw [put_ne q] at a ⊢; exact k1 q a
    rcases h.adv with a | ⟨a1, a2, a3, a4, a5⟩ | ⟨a1, a2, a5⟩
    · exact .inl a
    · exact .inr (.inl ⟨a1, a2, a3, a4, fun j hj hw => key j hj (fun _ => a5 j hj hw) (fun e => by subst e; exact a5 j hj hw)⟩)
    · exact .inr (.inr ⟨a1, a2, fun j hj => key j hj (fun _ => a5 j hj) (fun e => by subst e; exact a5 j hj)⟩)
theorem GI.leave (h : GI C f E G nw wh nx) (hi : i < C) {p : Nat} (hl : (G i).lev = some p) : GI C (upd f (4 + i) 0) E (put G i ⟨(G i).pin, none, false, (G i).e, (G i).stay⟩) nw wh nx := by
  refine h.set hi (fun k hk => if_neg hk) (fun a => by cases a) (fun p a => by cases a) (fun p ee x a => ?_)
  have := (h.inn i hi (h.lev i hi _ hl)).2.1
  rw [this] at a; cases a
theorem GI.stays (h : GI C f E G nw wh nx) (hi : i < C) (hn : (G i).inn = true) (s : Int) : GI C f E (put G i ⟨(G i).pin, (G i).lev, (G i).inn, (G i).e, s⟩) nw wh nx :=
  h.set hi (fun k hk => rfl) (fun a => ⟨(h.inn i hi hn).1, (h.inn i hi hn).2.1, .inr ⟨hn, rfl⟩⟩) (fun p a => hn) (h.pin i hi)
theorem GI.goes (h : GI C f E G nw wh nx) (hi : i < C) (hn : (G i).inn = true) (p : Nat) : GI C f E (put G i ⟨(G i).pin, some p, (G i).inn, (G i).e, (G i).stay⟩) nw wh nx :=
  h.set hi (fun k hk => rfl) (fun a => ⟨(h.inn i hi hn).1, (h.inn i hi hn).2.1, .inr ⟨hn, rfl⟩⟩) (fun p a => hn) (h.pin i hi)
theorem GI.comes (h : GI C f E G nw wh nx) (hi : i < C) (hl : (G i).lev = none) (hn : (G i).inn = false) (p : Nat) : GI C f E (put G i ⟨some (p, 0, 0), (G i).lev, (G i).inn, (G i).e, (G i).stay⟩) nw wh nx :=
  h.set hi (fun k hk => rfl) (fun a => by rw [hn] at a; cases a) (fun p a => by rw [hl] at a; cases a) (fun p ee x a => by cases a; exact ⟨.inl rfl, fun a => by cases a⟩)
theorem GI.pin0 (h : GI C f E G nw wh nx) (hi : i < C) (hn : (G i).inn = false) {p : Nat} : GI C f E (put G i ⟨some (p, f 1, 1), (G i).lev, (G i).inn, (G i).e, (G i).stay⟩) nw wh nx := by
  have := h.E0
  have e1 := h.e1
  exact h.set hi (fun k hk => rfl) (fun a => by rw [hn] at a; cases a) (fun p a => by have := h.lev i hi p a; rw [hn] at this; cases this) (fun p ee x a => by cases a; exact ⟨.inr ⟨.inl rfl, by omega, by omega⟩, fun a => by cases a⟩)
theorem GI.pin1 (h : GI C f E G nw wh nx) (hi : i < C) (hn : (G i).inn = false) {p : Nat} {ee : Int} (hp : (G i).pin = some (p, ee, 1)) : GI C (upd f (4 + i) (pinV ee)) E (put G i ⟨some (p, ee, 2), (G i).lev, (G i).inn, (G i).e, (G i).stay⟩) nw wh nx := by
  have h1 := (h.pin i hi _ _ _ hp).1
  exact h.set hi (fun k hk => if_neg hk) (fun a => by rw [hn] at a; cases a) (fun p a => by have := h.lev i hi p a; rw [hn] at this; cases this) (fun p ee x a => by cases a; exact ⟨.inr ⟨.inr rfl, by omega, by omega⟩, fun _ => if_pos rfl⟩)
theorem GI.pin2 (h : GI C f E G nw wh nx) (hi : i < C) (hn : (G i).inn = false) {p : Nat} {ee : Int} (hp : (G i).pin = some (p, ee, 2)) (he : f 1 = ee) (s : Int) : GI C f E (put G i ⟨none, (G i).lev, true, ee, s⟩) nw wh nx := by
  have h1 := (h.pin i hi _ _ _ hp).2 rfl
  have e1 := h.e1
  exact h.set hi (fun k hk => rfl) (fun a => ⟨h1, rfl, .inl (by show ee = E; omega)⟩) (fun p a => rfl) (fun p ee x a => by cases a)
theorem GI.adv0 (h : GI C f E G nw wh 0) (hC : 0 < C) : GI C f E G (f 1) 0 1 :=
  ⟨h.e1, h.E0, h.inn, h.lev, h.pin, .inr (.inl ⟨rfl, h.e1, Int.le_refl 0, by omega, fun j hj hw => by omega⟩)⟩
theorem GI.adv1 (h : GI C f E G nw wh 1) (hp : f (4 + wh).toNat = 0 ∨ f (4 + wh).toNat = pinV nw) (hE : E < 4611686018427387904) : GI C f E G nw (wh + 1) (if wh + 1 = C then 2 else 1) := by
  rcases h.adv with a | ⟨_, a2, a3, a4, a5⟩ | ⟨a1, _⟩
  · omega
  · have key : ∀ j : Nat, j < C → (j : Int) < wh + 1 → (G j).inn = true → (G j).e = E := by
      intro j hj hw a
      rcases Int.lt_or_le (j : Int) wh with q | q
      · exact a5 j hj q a
      · have e : (4 + wh).toNat = 4 + j := by omega
        obtain ⟨b1, b2, b3, b4⟩ := h.inn j hj a
        rw [e, b1, a2] at hp
        unfold pinV at hp
        omega
    refine ⟨h.e1, h.E0, h.inn, h.lev, h.pin, ?_⟩
    by_cases q : wh + 1 = C
    · rw [if_pos q]; exact .inr (.inr ⟨rfl, a2, fun j hj => key j hj (by omega)⟩)
    · rw [if_neg q]; exact .inr (.inl ⟨rfl, a2, by omega, by omega, key⟩)
  · omega
theorem GI.adv2 (h : GI C f E G nw wh 2) (hE : E < 4611686018427387904) {nw' wh' : Int} : GI C (upd f 1 ((nw + 1) % 18446744073709551616)) (E + 1) G nw' wh' 0 := by
  rcases h.adv with a | ⟨a1, _⟩ | ⟨_, a2, a5⟩
  · omega
  · omega
  · have hE0 := h.E0
    refine ⟨by show (if 1 = 1 then _ else _) = _; rw [if_pos rfl]; omega, by omega, fun j hj a => ?_, h.lev, fun j hj p ee x a => ?_, .inl rfl⟩
    · obtain ⟨b1, b2, b3, b4⟩ := h.inn j hj a
      have := a5 j hj a
      exact ⟨by unfold upd; rw [if_neg (by omega)]; exact b1, b2, b3, .inr (by omega)⟩
    · obtain ⟨b1, b2⟩ := h.pin j hj p ee x a
      exact ⟨by omega, fun q => by unfold upd; rw [if_neg (by omega)]; exact b2 q⟩
/-- What the law looks at behind each pick. -/
theorem GI.look (h : GI C f E G nw wh nx) {j : Nat} (hj : j < C) (hn : (G j).inn = true) (hE : E < 4611686018427387904) : (f 1 = (G j).e ∨ f 1 = (G j).e + 1) ∧ f (4 + j) = 2 * (G j).e + 1 ∧ 0 ≤ (G j).e ∧ (G j).e ≤ E := by
  obtain ⟨b1, b2, b3, b4⟩ := h.inn j hj hn
  have e1 := h.e1
  rw [b1]
  unfold pinV
  omega
end
end Go.Proofs.Ytijfkpoofpcacaa.GuestL
set_option linter.unusedVariables false
set_option linter.unusedSectionVars false
set_option linter.unusedSimpArgs false
namespace Go.Proofs.Ytijfkpoofpcacaa.GuestS
open Go.RowKit Go.Proofs.Ytijfkpoofpcacaa.Blk Go.Proofs.Ytijfkpoofpcacaa.Core Go.Proofs.Ytijfkpoofpcacaa.MemC Go.Proofs.Ytijfkpoofpcacaa.MemT Go.Proofs.Ytijfkpoofpcacaa.Memory Go.Proofs.Ytijfkpoofpcacaa.PlanC Go.Proofs.Ytijfkpoofpcacaa.PlanD Go.Proofs.Ytijfkpoofpcacaa.StackC Go.Proofs.Ytijfkpoofpcacaa.StackF Go.Proofs.Ytijfkpoofpcacaa.StackP Go.Proofs.Ytijfkpoofpcacaa.StackG Go.Proofs.Ytijfkpoofpcacaa.EpochC Go.Proofs.Ytijfkpoofpcacaa.EpochS Go.Proofs.Ytijfkpoofpcacaa.GuestL
section
variable {c : Cf} (hr : c.right = true) {w : World} {B m b n T o : Nat} {M : Ms} {k : Int} {cs : Array Value} (hM : MemB w m b M) (hf : Fine M n T) (hn : (n : Int) = c.size) (hT : T ≤ 1000000) (hk : 0 ≤ k ∧ k < c.C) (hB : Blk w B 59 cs) (nB : ¬ two m b B) (s : Int)
include hr hM hf hn hT hk hB nB
set_option maxHeartbeats 4000000 in
set_option maxRecDepth 100000 in
theorem g_leave {p : Nat} (hp : LevB w p (4 + k) false) (np : ¬ two m b p) (nq : B ≠ p) (x1 : cs[o + 1]? = some (.pointer (some ⟨p, 0, none⟩))) (x2 : cs[o + 2]? = some (.bool true)) : Calls Try.prog 42 #[.pointer (some ⟨B, o, none⟩), .agg #[.int .i64 c.S, .int .i64 c.A, .int .i64 c.C, .int .i64 c.H, .int .i64 c.G, .int .i64 c.K], .pointer (some ⟨m, 0, none⟩), .int .i64 k, .int .i64 s] w fun e w' =>
    e = .returned (.bool true) ∧ Blk w' B 59 ((cs.setIfInBounds (o + 2) (.bool false)).setIfInBounds (o + 1) (.pointer none)) ∧ ∃ M', MemB w' m b M' ∧ M'.f = upd M.f (4 + k).toNat 0 ∧ Fine M' n (T + 1) ∧ Fr (fun k => k = B ∨ k = p ∨ two m b k) w w' := by
  have hF := Lib.hid ((Fr.refl (fun k => k = B ∨ k = p ∨ two m b k) w).trans (Fr.alloc _ _ (.cells #[.int .i64 c.S, .int .i64 c.A, .int .i64 c.C, .int .i64 c.H, .int .i64 c.G, .int .i64 c.K] 23)))
  have lw : w.heap.size ≤ (w.alloc (.cells #[.int .i64 c.S, .int .i64 c.A, .int .i64 c.C, .int .i64 c.H, .int .i64 c.G, .int .i64 c.K] 23)).heap.size := by simp
  have nq' : p ≠ B := fun h => nq h.symm
  replace hp := Lib.hid (Blk.alloc hp (.cells #[.int .i64 c.S, .int .i64 c.A, .int .i64 c.C, .int .i64 c.H, .int .i64 c.G, .int .i64 c.K] 23))
  have t0 := hf.t0
  have t1 := hf.t
  have hc0 := Lib.hid (Blk.new w 23 #[.int .i64 c.S, .int .i64 c.A, .int .i64 c.C, .int .i64 c.H, .int .i64 c.G, .int .i64 c.K])
  replace hM := Lib.hid (hM.alloc (.cells #[.int .i64 c.S, .int .i64 c.A, .int .i64 c.C, .int .i64 c.H, .int .i64 c.G, .int .i64 c.K] 23))
  replace hf := Lib.hid hf
  replace hB := Lib.hid (hB.alloc (.cells #[.int .i64 c.S, .int .i64 c.A, .int .i64 c.C, .int .i64 c.H, .int .i64 c.G, .int .i64 c.K] 23))
  go_enter Try.func42, Try.ntmps42
  go_upto_region 1 with (fail)
  generalize hCF : w.heap.size = CF at *
  generalize w.alloc (.cells #[.int .i64 c.S, .int .i64 c.A, .int .i64 c.C, .int .i64 c.H, .int .i64 c.G, .int .i64 c.K] 23) = w1 at *
  have y1 := hB.out.cell x1
  have y2 := hB.out.cell x2
  have z2 := hB.out.frozen (o + 2)
  go_upto_region 17 with (first
    | (go_at_call 26; refine (touches_c _ m b _ hM.out).mono ?_; rintro e w3 ⟨rfl, rfl⟩)
    | (go_at_call 40; refine (lvA hr (MemB.set hM.out nB (o + 2) (.bool false)) hf.out hn hT np hk (Blk.other hp.out ⟨B, o + 2, none⟩ nq' (.bool false))).mono ?_; rintro e w2 ⟨rfl, M', hP', hM', ef', et', hf', hF'⟩; replace hB := Lib.hid (Blk.fr (Blk.set hB.out (o + 2) (.bool false)) hF' (fun h => h.elim nq nB)); replace hM := Lib.hid hM'; replace hF := Lib.hid ((hF.out.trans (Fr.set _ _ (p := ⟨B, o + 2, none⟩) (.inl rfl) (.bool false))).trans (hF'.mono (fun k h => .inr h))); replace ef' := Lib.hid ef'; replace hf := Lib.hid hf'; have v1 := hB.out.cell (i := (o + 1)) (v := (.pointer (some ⟨p, 0, none⟩))) (by simpa [Array.getElem?_setIfInBounds_ne] using x1); have u1 := hB.out.frozen (o + 1); have hle : M'.t ≤ M.t + 1 := (by omega); replace hp := Lib.hid hP'; clear hP' hM' hf' hF' et'))
  go_wp2_with (go_at_call 26; refine (touches_c _ m b _ (MemB.set hM.out nB (o + 1) (.pointer none))).mono ?_; rintro e w3 ⟨rfl, rfl⟩)
  go_ret
  exact ⟨rfl, (Blk.set hB.out (o + 1) (.pointer none)), M', (MemB.set hM.out nB (o + 1) (.pointer none)), ef'.out, hf.out, (hF.out.trans (Fr.set _ _ (p := ⟨B, o + 1, none⟩) (.inl rfl) (.pointer none)))⟩
set_option maxHeartbeats 4000000 in
set_option maxRecDepth 100000 in
theorem g_stay {z : Int} (z0 : 0 < z) (z1 : z < 1000) (x1 : cs[o + 1]? = some (.pointer none)) (x2 : cs[o + 2]? = some (.bool true)) (x4 : cs[o + 4]? = some (.int .i64 z)) : Calls Try.prog 42 #[.pointer (some ⟨B, o, none⟩), .agg #[.int .i64 c.S, .int .i64 c.A, .int .i64 c.C, .int .i64 c.H, .int .i64 c.G, .int .i64 c.K], .pointer (some ⟨m, 0, none⟩), .int .i64 k, .int .i64 s] w fun e w' =>
    e = .returned (.bool true) ∧ Blk w' B 59 (cs.setIfInBounds (o + 4) (.int .i64 (z - 1))) ∧ MemB w' m b M ∧ Fr (fun k => k = B) w w' := by
  have hF := Lib.hid ((Fr.refl (fun k => k = B) w).trans (Fr.alloc _ _ (.cells #[.int .i64 c.S, .int .i64 c.A, .int .i64 c.C, .int .i64 c.H, .int .i64 c.G, .int .i64 c.K] 23)))
  have lw : w.heap.size ≤ (w.alloc (.cells #[.int .i64 c.S, .int .i64 c.A, .int .i64 c.C, .int .i64 c.H, .int .i64 c.G, .int .i64 c.K] 23)).heap.size := by simp
  have t0 := hf.t0
  have t1 := hf.t
  have hc0 := Lib.hid (Blk.new w 23 #[.int .i64 c.S, .int .i64 c.A, .int .i64 c.C, .int .i64 c.H, .int .i64 c.G, .int .i64 c.K])
  replace hM := Lib.hid (hM.alloc (.cells #[.int .i64 c.S, .int .i64 c.A, .int .i64 c.C, .int .i64 c.H, .int .i64 c.G, .int .i64 c.K] 23))
  replace hf := Lib.hid hf
  replace hB := Lib.hid (hB.alloc (.cells #[.int .i64 c.S, .int .i64 c.A, .int .i64 c.C, .int .i64 c.H, .int .i64 c.G, .int .i64 c.K] 23))
  go_enter Try.func42, Try.ntmps42
  go_upto_region 1 with (fail)
  generalize hCF : w.heap.size = CF at *
  generalize w.alloc (.cells #[.int .i64 c.S, .int .i64 c.A, .int .i64 c.C, .int .i64 c.H, .int .i64 c.G, .int .i64 c.K] 23) = w1 at *
  have y1 := hB.out.cell x1
  have y2 := hB.out.cell x2
  have y4 := hB.out.cell x4
  have z4 := hB.out.frozen (o + 4)
  have hle : M.t ≤ M.t + 1 := by omega
  go_upto_region 17 with (first
    | (go_at_call 26; refine (touches_c _ m b _ hM.out).mono ?_; rintro e w3 ⟨rfl, rfl⟩))
  go_wp2_with (go_at_call 26; refine (touches_c _ m b _ (MemB.set hM.out nB (o + 4) (.int .i64 (z - 1)))).mono ?_; rintro e w3 ⟨rfl, rfl⟩)
  go_ret
  exact ⟨rfl, (Blk.set hB.out (o + 4) _), (MemB.set hM.out nB (o + 4) _), (hF.out.trans (Fr.set (fun k => k = B) _ (p := ⟨B, o + 4, none⟩) rfl _))⟩
set_option maxHeartbeats 4000000 in
set_option maxRecDepth 100000 in
theorem g_goes {z : Int} (z0 : ¬ 0 < z) (x1 : cs[o + 1]? = some (.pointer none)) (x2 : cs[o + 2]? = some (.bool true)) (x4 : cs[o + 4]? = some (.int .i64 z)) : Calls Try.prog 42 #[.pointer (some ⟨B, o, none⟩), .agg #[.int .i64 c.S, .int .i64 c.A, .int .i64 c.C, .int .i64 c.H, .int .i64 c.G, .int .i64 c.K], .pointer (some ⟨m, 0, none⟩), .int .i64 k, .int .i64 s] w fun e w' =>
    e = .returned (.bool true) ∧ ∃ p, w.heap.size ≤ p ∧ LevB w' p (4 + k) false ∧ Blk w' B 59 (cs.setIfInBounds (o + 1) (.pointer (some ⟨p, 0, none⟩))) ∧ MemB w' m b M ∧ Fr (fun k => k = B) w w' := by
  have hF := Lib.hid ((Fr.refl (fun k => k = B) w).trans (Fr.alloc _ _ (.cells #[.int .i64 c.S, .int .i64 c.A, .int .i64 c.C, .int .i64 c.H, .int .i64 c.G, .int .i64 c.K] 23)))
  have lw : w.heap.size ≤ (w.alloc (.cells #[.int .i64 c.S, .int .i64 c.A, .int .i64 c.C, .int .i64 c.H, .int .i64 c.G, .int .i64 c.K] 23)).heap.size := by simp
  have t0 := hf.t0
  have t1 := hf.t
  have hc0 := Lib.hid (Blk.new w 23 #[.int .i64 c.S, .int .i64 c.A, .int .i64 c.C, .int .i64 c.H, .int .i64 c.G, .int .i64 c.K])
  replace hM := Lib.hid (hM.alloc (.cells #[.int .i64 c.S, .int .i64 c.A, .int .i64 c.C, .int .i64 c.H, .int .i64 c.G, .int .i64 c.K] 23))
  replace hf := Lib.hid hf
  replace hB := Lib.hid (hB.alloc (.cells #[.int .i64 c.S, .int .i64 c.A, .int .i64 c.C, .int .i64 c.H, .int .i64 c.G, .int .i64 c.K] 23))
  go_enter Try.func42, Try.ntmps42
  go_upto_region 1 with (fail)
  generalize hCF : w.heap.size = CF at *
  generalize w.alloc (.cells #[.int .i64 c.S, .int .i64 c.A, .int .i64 c.C, .int .i64 c.H, .int .i64 c.G, .int .i64 c.K] 23) = w1 at *
  have y1 := hB.out.cell x1
  have y2 := hB.out.cell x2
  have y4 := hB.out.cell x4
  have hle : M.t ≤ M.t + 1 := by omega
  have hlB := Blk.lt hB.out
  obtain ⟨k0, k1, k2, k3, k4, k5⟩ := cfgs hc0.out
  go_upto_region 17 with (first
    | (go_at_call 26; refine (touches_c _ m b _ hM.out).mono ?_; rintro e w3 ⟨rfl, rfl⟩)
    | (go_at_call 38; refine (newLevC c _ hr k hk.1 hk.2).mono ?_; rintro e w2 ⟨p, rfl, hz, hp, hb⟩; replace hB := Lib.hid (hB.out.below hb (Blk.lt hB.out)); replace hM := Lib.hid (hM.out.next hb); replace hF := Lib.hid (hF.out.trans (fr_below hb)); have zz := hB.out.frozen (o + 1); have vv := hB.out.cell (i := (o + 1)) (v := (.pointer none)) x1; have lB := Blk.lt hB.out; have np : p ≠ B := (by have := hlB; omega); replace hp := Lib.hid hp; clear hb))
  go_wp2_with (go_at_call 26; refine (touches_c _ m b _ (MemB.set hM.out nB (o + 1) (.pointer (some ⟨p, 0, none⟩)))).mono ?_; rintro e w3 ⟨rfl, rfl⟩)
  go_ret
  exact ⟨rfl, p, by omega, Blk.other hp.out ⟨B, o + 1, none⟩ np _, (Blk.set hB.out (o + 1) _), (MemB.set hM.out nB (o + 1) _), (hF.out.trans (Fr.set (fun k => k = B) _ (p := ⟨B, o + 1, none⟩) rfl _))⟩
set_option maxHeartbeats 4000000 in
set_option maxRecDepth 100000 in
theorem g_comes  (x0 : cs[o]? = some (.pointer none)) (x1 : cs[o + 1]? = some (.pointer none)) (x2 : cs[o + 2]? = some (.bool false)) : Calls Try.prog 42 #[.pointer (some ⟨B, o, none⟩), .agg #[.int .i64 c.S, .int .i64 c.A, .int .i64 c.C, .int .i64 c.H, .int .i64 c.G, .int .i64 c.K], .pointer (some ⟨m, 0, none⟩), .int .i64 k, .int .i64 s] w fun e w' =>
    e = .returned (.bool true) ∧ ∃ p, w.heap.size ≤ p ∧ PinB w' p 0 (4 + k) 0 ∧ Blk w' B 59 (cs.setIfInBounds o (.pointer (some ⟨p, 0, none⟩))) ∧ MemB w' m b M ∧ Fr (fun k => k = B) w w' := by
  have hF := Lib.hid ((Fr.refl (fun k => k = B) w).trans (Fr.alloc _ _ (.cells #[.int .i64 c.S, .int .i64 c.A, .int .i64 c.C, .int .i64 c.H, .int .i64 c.G, .int .i64 c.K] 23)))
  have lw : w.heap.size ≤ (w.alloc (.cells #[.int .i64 c.S, .int .i64 c.A, .int .i64 c.C, .int .i64 c.H, .int .i64 c.G, .int .i64 c.K] 23)).heap.size := by simp
  have t0 := hf.t0
  have t1 := hf.t
  have hc0 := Lib.hid (Blk.new w 23 #[.int .i64 c.S, .int .i64 c.A, .int .i64 c.C, .int .i64 c.H, .int .i64 c.G, .int .i64 c.K])
  replace hM := Lib.hid (hM.alloc (.cells #[.int .i64 c.S, .int .i64 c.A, .int .i64 c.C, .int .i64 c.H, .int .i64 c.G, .int .i64 c.K] 23))
  replace hf := Lib.hid hf
  replace hB := Lib.hid (hB.alloc (.cells #[.int .i64 c.S, .int .i64 c.A, .int .i64 c.C, .int .i64 c.H, .int .i64 c.G, .int .i64 c.K] 23))
  go_enter Try.func42, Try.ntmps42
  go_upto_region 1 with (fail)
  generalize hCF : w.heap.size = CF at *
  generalize w.alloc (.cells #[.int .i64 c.S, .int .i64 c.A, .int .i64 c.C, .int .i64 c.H, .int .i64 c.G, .int .i64 c.K] 23) = w1 at *
  have y0 := hB.out.cell x0
  have y1 := hB.out.cell x1
  have y2 := hB.out.cell x2
  have hle : M.t ≤ M.t + 1 := by omega
  have hlB := Blk.lt hB.out
  obtain ⟨k0, k1, k2, k3, k4, k5⟩ := cfgs hc0.out
  go_upto_region 17 with (first
    | (go_at_call 26; refine (touches_c _ m b _ hM.out).mono ?_; rintro e w3 ⟨rfl, rfl⟩)
    | (go_at_call 32; refine (newPinC c _ hr k hk.1 hk.2).mono ?_; rintro e w2 ⟨p, rfl, hz, hp, hb⟩; replace hB := Lib.hid (hB.out.below hb (Blk.lt hB.out)); replace hM := Lib.hid (hM.out.next hb); replace hF := Lib.hid (hF.out.trans (fr_below hb)); have zz := hB.out.frozen o; have vv := hB.out.cell (i := o) (v := (.pointer none)) x0; have lB := Blk.lt hB.out; have np : p ≠ B := (by have := hlB; omega); replace hp := Lib.hid hp; clear hb))
  go_wp2_with (go_at_call 26; refine (touches_c _ m b _ (MemB.set hM.out nB o (.pointer (some ⟨p, 0, none⟩)))).mono ?_; rintro e w3 ⟨rfl, rfl⟩)
  go_ret
  exact ⟨rfl, p, by omega, Blk.other hp.out ⟨B, o, none⟩ np _, (Blk.set hB.out o _), (MemB.set hM.out nB o _), (hF.out.trans (Fr.set (fun k => k = B) _ (p := ⟨B, o, none⟩) rfl _))⟩
set_option maxHeartbeats 4000000 in
set_option maxRecDepth 100000 in
theorem g_pin0 {p : Nat} {ee : Int} (hp : PinB w p ee (4 + k) 0) (np : ¬ two m b p) (nq : B ≠ p) (x0 : cs[o]? = some (.pointer (some ⟨p, 0, none⟩))) (x1 : cs[o + 1]? = some (.pointer none)) (x2 : cs[o + 2]? = some (.bool false)) : Calls Try.prog 42 #[.pointer (some ⟨B, o, none⟩), .agg #[.int .i64 c.S, .int .i64 c.A, .int .i64 c.C, .int .i64 c.H, .int .i64 c.G, .int .i64 c.K], .pointer (some ⟨m, 0, none⟩), .int .i64 k, .int .i64 s] w fun e w' =>
    e = .returned (.bool true) ∧ Blk w' B 59 cs ∧ ∃ M', PinB w' p (M.f 1) (4 + k) 1 ∧ MemB w' m b M' ∧ M'.f = M.f ∧ Fine M' n (T + 1) ∧ Fr (fun k => k = B ∨ k = p ∨ two m b k) w w' := by
  have hF := Lib.hid ((Fr.refl (fun k => k = B ∨ k = p ∨ two m b k) w).trans (Fr.alloc _ _ (.cells #[.int .i64 c.S, .int .i64 c.A, .int .i64 c.C, .int .i64 c.H, .int .i64 c.G, .int .i64 c.K] 23)))
  have lw : w.heap.size ≤ (w.alloc (.cells #[.int .i64 c.S, .int .i64 c.A, .int .i64 c.C, .int .i64 c.H, .int .i64 c.G, .int .i64 c.K] 23)).heap.size := by simp
  have nq' : p ≠ B := fun h => nq h.symm
  replace hp := Lib.hid (Blk.alloc hp (.cells #[.int .i64 c.S, .int .i64 c.A, .int .i64 c.C, .int .i64 c.H, .int .i64 c.G, .int .i64 c.K] 23))
  have t0 := hf.t0
  have t1 := hf.t
  have hc0 := Lib.hid (Blk.new w 23 #[.int .i64 c.S, .int .i64 c.A, .int .i64 c.C, .int .i64 c.H, .int .i64 c.G, .int .i64 c.K])
  replace hM := Lib.hid (hM.alloc (.cells #[.int .i64 c.S, .int .i64 c.A, .int .i64 c.C, .int .i64 c.H, .int .i64 c.G, .int .i64 c.K] 23))
  replace hf := Lib.hid hf
  replace hB := Lib.hid (hB.alloc (.cells #[.int .i64 c.S, .int .i64 c.A, .int .i64 c.C, .int .i64 c.H, .int .i64 c.G, .int .i64 c.K] 23))
  go_enter Try.func42, Try.ntmps42
  go_upto_region 1 with (fail)
  generalize hCF : w.heap.size = CF at *
  generalize w.alloc (.cells #[.int .i64 c.S, .int .i64 c.A, .int .i64 c.C, .int .i64 c.H, .int .i64 c.G, .int .i64 c.K] 23) = w1 at *
  have y0 := hB.out.cell x0
  have y1 := hB.out.cell x1
  have y2 := hB.out.cell x2
  go_upto_region 17 with (first
    | (go_at_call 26; refine (touches_c _ m b _ hM.out).mono ?_; rintro e w3 ⟨rfl, rfl⟩)
    | (go_at_call 33; refine (pnA hr hM.out hf.out hn hT np  hp.out).mono ?_; rintro e w2 ⟨rfl, M', hP', hM', ef', et', hf', hF'⟩; replace hB := Lib.hid (Blk.fr hB.out hF' (fun h => h.elim nq nB)); replace hM := Lib.hid hM'; replace hF := Lib.hid (hF.out.trans (hF'.mono (fun k h => .inr h))); replace ef' := Lib.hid ef'; replace hf := Lib.hid hf'; have hle : M'.t ≤ M.t + 1 := (by omega); replace hp := Lib.hid hP'; clear hP' hM' hf' hF' et'))
  go_wp2_with (go_at_call 26; refine (touches_c _ m b _ hM.out).mono ?_; rintro e w3 ⟨rfl, rfl⟩)
  go_ret
  exact ⟨rfl, hB.out, M', hp.out, hM.out, ef'.out, hf.out, hF.out⟩
set_option maxHeartbeats 4000000 in
set_option maxRecDepth 100000 in
theorem g_pin1 {p : Nat} {ee : Int} (hp : PinB w p ee (4 + k) 1) (np : ¬ two m b p) (nq : B ≠ p) (x0 : cs[o]? = some (.pointer (some ⟨p, 0, none⟩))) (x1 : cs[o + 1]? = some (.pointer none)) (x2 : cs[o + 2]? = some (.bool false)) : Calls Try.prog 42 #[.pointer (some ⟨B, o, none⟩), .agg #[.int .i64 c.S, .int .i64 c.A, .int .i64 c.C, .int .i64 c.H, .int .i64 c.G, .int .i64 c.K], .pointer (some ⟨m, 0, none⟩), .int .i64 k, .int .i64 s] w fun e w' =>
    e = .returned (.bool true) ∧ Blk w' B 59 cs ∧ ∃ M', PinB w' p ee (4 + k) 2 ∧ MemB w' m b M' ∧ M'.f = upd M.f (4 + k).toNat (pinV ee) ∧ Fine M' n (T + 1) ∧ Fr (fun k => k = B ∨ k = p ∨ two m b k) w w' := by
  have hF := Lib.hid ((Fr.refl (fun k => k = B ∨ k = p ∨ two m b k) w).trans (Fr.alloc _ _ (.cells #[.int .i64 c.S, .int .i64 c.A, .int .i64 c.C, .int .i64 c.H, .int .i64 c.G, .int .i64 c.K] 23)))
  have lw : w.heap.size ≤ (w.alloc (.cells #[.int .i64 c.S, .int .i64 c.A, .int .i64 c.C, .int .i64 c.H, .int .i64 c.G, .int .i64 c.K] 23)).heap.size := by simp
  have nq' : p ≠ B := fun h => nq h.symm
  replace hp := Lib.hid (Blk.alloc hp (.cells #[.int .i64 c.S, .int .i64 c.A, .int .i64 c.C, .int .i64 c.H, .int .i64 c.G, .int .i64 c.K] 23))
  have t0 := hf.t0
  have t1 := hf.t
  have hc0 := Lib.hid (Blk.new w 23 #[.int .i64 c.S, .int .i64 c.A, .int .i64 c.C, .int .i64 c.H, .int .i64 c.G, .int .i64 c.K])
  replace hM := Lib.hid (hM.alloc (.cells #[.int .i64 c.S, .int .i64 c.A, .int .i64 c.C, .int .i64 c.H, .int .i64 c.G, .int .i64 c.K] 23))
  replace hf := Lib.hid hf
  replace hB := Lib.hid (hB.alloc (.cells #[.int .i64 c.S, .int .i64 c.A, .int .i64 c.C, .int .i64 c.H, .int .i64 c.G, .int .i64 c.K] 23))
  go_enter Try.func42, Try.ntmps42
  go_upto_region 1 with (fail)
  generalize hCF : w.heap.size = CF at *
  generalize w.alloc (.cells #[.int .i64 c.S, .int .i64 c.A, .int .i64 c.C, .int .i64 c.H, .int .i64 c.G, .int .i64 c.K] 23) = w1 at *
  have y0 := hB.out.cell x0
  have y1 := hB.out.cell x1
  have y2 := hB.out.cell x2
  go_upto_region 17 with (first
    | (go_at_call 26; refine (touches_c _ m b _ hM.out).mono ?_; rintro e w3 ⟨rfl, rfl⟩)
    | (go_at_call 33; refine (pnB hr hM.out hf.out hn hT np hk hp.out).mono ?_; rintro e w2 ⟨rfl, M', hP', hM', ef', et', hf', hF'⟩; replace hB := Lib.hid (Blk.fr hB.out hF' (fun h => h.elim nq nB)); replace hM := Lib.hid hM'; replace hF := Lib.hid (hF.out.trans (hF'.mono (fun k h => .inr h))); replace ef' := Lib.hid ef'; replace hf := Lib.hid hf'; have hle : M'.t ≤ M.t + 1 := (by omega); replace hp := Lib.hid hP'; clear hP' hM' hf' hF' et'))
  go_wp2_with (go_at_call 26; refine (touches_c _ m b _ hM.out).mono ?_; rintro e w3 ⟨rfl, rfl⟩)
  go_ret
  exact ⟨rfl, hB.out, M', hp.out, hM.out, ef'.out, hf.out, hF.out⟩
set_option maxHeartbeats 4000000 in
set_option maxRecDepth 100000 in
theorem g_pin2n {p : Nat} {ee : Int} (he : M.f 1 ≠ ee) (hp : PinB w p ee (4 + k) 2) (np : ¬ two m b p) (nq : B ≠ p) (x0 : cs[o]? = some (.pointer (some ⟨p, 0, none⟩))) (x1 : cs[o + 1]? = some (.pointer none)) (x2 : cs[o + 2]? = some (.bool false)) : Calls Try.prog 42 #[.pointer (some ⟨B, o, none⟩), .agg #[.int .i64 c.S, .int .i64 c.A, .int .i64 c.C, .int .i64 c.H, .int .i64 c.G, .int .i64 c.K], .pointer (some ⟨m, 0, none⟩), .int .i64 k, .int .i64 s] w fun e w' =>
    e = .returned (.bool true) ∧ Blk w' B 59 cs ∧ ∃ M', PinB w' p (M.f 1) (4 + k) 1 ∧ MemB w' m b M' ∧ M'.f = M.f ∧ Fine M' n (T + 1) ∧ Fr (fun k => k = B ∨ k = p ∨ two m b k) w w' := by
  have hF := Lib.hid ((Fr.refl (fun k => k = B ∨ k = p ∨ two m b k) w).trans (Fr.alloc _ _ (.cells #[.int .i64 c.S, .int .i64 c.A, .int .i64 c.C, .int .i64 c.H, .int .i64 c.G, .int .i64 c.K] 23)))
  have lw : w.heap.size ≤ (w.alloc (.cells #[.int .i64 c.S, .int .i64 c.A, .int .i64 c.C, .int .i64 c.H, .int .i64 c.G, .int .i64 c.K] 23)).heap.size := by simp
  have nq' : p ≠ B := fun h => nq h.symm
  replace hp := Lib.hid (Blk.alloc hp (.cells #[.int .i64 c.S, .int .i64 c.A, .int .i64 c.C, .int .i64 c.H, .int .i64 c.G, .int .i64 c.K] 23))
  have t0 := hf.t0
  have t1 := hf.t
  have hc0 := Lib.hid (Blk.new w 23 #[.int .i64 c.S, .int .i64 c.A, .int .i64 c.C, .int .i64 c.H, .int .i64 c.G, .int .i64 c.K])
  replace hM := Lib.hid (hM.alloc (.cells #[.int .i64 c.S, .int .i64 c.A, .int .i64 c.C, .int .i64 c.H, .int .i64 c.G, .int .i64 c.K] 23))
  replace hf := Lib.hid hf
  replace hB := Lib.hid (hB.alloc (.cells #[.int .i64 c.S, .int .i64 c.A, .int .i64 c.C, .int .i64 c.H, .int .i64 c.G, .int .i64 c.K] 23))
  go_enter Try.func42, Try.ntmps42
  go_upto_region 1 with (fail)
  generalize hCF : w.heap.size = CF at *
  generalize w.alloc (.cells #[.int .i64 c.S, .int .i64 c.A, .int .i64 c.C, .int .i64 c.H, .int .i64 c.G, .int .i64 c.K] 23) = w1 at *
  have y0 := hB.out.cell x0
  have y1 := hB.out.cell x1
  have y2 := hB.out.cell x2
  go_upto_region 17 with (first
    | (go_at_call 26; refine (touches_c _ m b _ hM.out).mono ?_; rintro e w3 ⟨rfl, rfl⟩)
    | (go_at_call 33; refine (pnC' hr hM.out hf.out hn hT np he hp.out).mono ?_; rintro e w2 ⟨rfl, M', hP', hM', ef', et', hf', hF'⟩; replace hB := Lib.hid (Blk.fr hB.out hF' (fun h => h.elim nq nB)); replace hM := Lib.hid hM'; replace hF := Lib.hid (hF.out.trans (hF'.mono (fun k h => .inr h))); replace ef' := Lib.hid ef'; replace hf := Lib.hid hf'; have hle : M'.t ≤ M.t + 1 := (by omega); replace hp := Lib.hid hP'; clear hP' hM' hf' hF' et'))
  go_wp2_with (go_at_call 26; refine (touches_c _ m b _ hM.out).mono ?_; rintro e w3 ⟨rfl, rfl⟩)
  go_ret
  exact ⟨rfl, hB.out, M', hp.out, hM.out, ef'.out, hf.out, hF.out⟩
set_option maxHeartbeats 4000000 in
set_option maxRecDepth 100000 in
theorem g_pin2y {p : Nat} {ee : Int} {v3 v4 : Value} (he : Hid (M.f 1 = ee)) (hp : PinB w p ee (4 + k) 2) (np : ¬ two m b p) (nq : B ≠ p) (x0 : cs[o]? = some (.pointer (some ⟨p, 0, none⟩))) (x1 : cs[o + 1]? = some (.pointer none)) (x2 : cs[o + 2]? = some (.bool false)) (x3 : cs[o + 3]? = some v3) (x4 : cs[o + 4]? = some v4) : Calls Try.prog 42 #[.pointer (some ⟨B, o, none⟩), .agg #[.int .i64 c.S, .int .i64 c.A, .int .i64 c.C, .int .i64 c.H, .int .i64 c.G, .int .i64 c.K], .pointer (some ⟨m, 0, none⟩), .int .i64 k, .int .i64 s] w fun e w' =>
    e = .returned (.bool true) ∧ Blk w' B 59 ((((cs.setIfInBounds (o + 2) (.bool true)).setIfInBounds (o + 3) (.int .u64 ee)).setIfInBounds (o + 4) (.int .i64 s)).setIfInBounds o (.pointer none)) ∧ ∃ M', MemB w' m b M' ∧ M'.f = M.f ∧ Fine M' n (T + 1) ∧ Fr (fun k => k = B ∨ k = p ∨ two m b k) w w' := by
  have hF := Lib.hid ((Fr.refl (fun k => k = B ∨ k = p ∨ two m b k) w).trans (Fr.alloc _ _ (.cells #[.int .i64 c.S, .int .i64 c.A, .int .i64 c.C, .int .i64 c.H, .int .i64 c.G, .int .i64 c.K] 23)))
  have lw : w.heap.size ≤ (w.alloc (.cells #[.int .i64 c.S, .int .i64 c.A, .int .i64 c.C, .int .i64 c.H, .int .i64 c.G, .int .i64 c.K] 23)).heap.size := by simp
  have nq' : p ≠ B := fun h => nq h.symm
  replace hp := Lib.hid (Blk.alloc hp (.cells #[.int .i64 c.S, .int .i64 c.A, .int .i64 c.C, .int .i64 c.H, .int .i64 c.G, .int .i64 c.K] 23))
  have t0 := hf.t0
  have t1 := hf.t
  have hc0 := Lib.hid (Blk.new w 23 #[.int .i64 c.S, .int .i64 c.A, .int .i64 c.C, .int .i64 c.H, .int .i64 c.G, .int .i64 c.K])
  replace hM := Lib.hid (hM.alloc (.cells #[.int .i64 c.S, .int .i64 c.A, .int .i64 c.C, .int .i64 c.H, .int .i64 c.G, .int .i64 c.K] 23))
  replace hf := Lib.hid hf
  replace hB := Lib.hid (hB.alloc (.cells #[.int .i64 c.S, .int .i64 c.A, .int .i64 c.C, .int .i64 c.H, .int .i64 c.G, .int .i64 c.K] 23))
  go_enter Try.func42, Try.ntmps42
  go_upto_region 1 with (fail)
  generalize hCF : w.heap.size = CF at *
  generalize w.alloc (.cells #[.int .i64 c.S, .int .i64 c.A, .int .i64 c.C, .int .i64 c.H, .int .i64 c.G, .int .i64 c.K] 23) = w1 at *
  have y0 := hB.out.cell x0
  have y1 := hB.out.cell x1
  have y2 := hB.out.cell x2
  have y3 := hB.out.cell x3
  have y4 := hB.out.cell x4
  go_upto_region 17 with (first
    | (go_at_call 26; refine (touches_c _ m b _ hM.out).mono ?_; rintro e w3 ⟨rfl, rfl⟩)
    | (go_at_call 33; refine (pnC hr hM.out hf.out hn hT np he.out hp.out).mono ?_; rintro e w2 ⟨rfl, M', hP', hM', ef', et', hf', hF'⟩; replace hB := Lib.hid (Blk.fr hB.out hF' (fun h => h.elim nq nB)); replace hM := Lib.hid hM'; replace hF := Lib.hid (hF.out.trans (hF'.mono (fun k h => .inr h))); replace ef' := Lib.hid ef'; replace hf := Lib.hid hf'; have v0 := hB.out.cell (i := o) (v := (.pointer (some ⟨p, 0, none⟩))) (by simpa [Array.getElem?_setIfInBounds_ne] using x0); have v2 := hB.out.cell (i := (o + 2)) (v := (.bool false)) (by simpa [Array.getElem?_setIfInBounds_ne] using x2); have v3 := hB.out.cell (i := (o + 3)) (v := v3) (by simpa [Array.getElem?_setIfInBounds_ne] using x3); have v4 := hB.out.cell (i := (o + 4)) (v := v4) (by simpa [Array.getElem?_setIfInBounds_ne] using x4); have u0 := hB.out.frozen o; have u2 := hB.out.frozen (o + 2); have u3 := hB.out.frozen (o + 3); have u4 := hB.out.frozen (o + 4); have j0 := Blk.cell hP' (i := 0) (v := (.int .u64 ee)) rfl; have hle : M'.t ≤ M.t + 1 := (by omega); replace hp := Lib.hid hP'; clear hP' hM' hf' hF' et'))
  go_wp2_with (go_at_call 26; refine (touches_c _ m b _ (MemB.set (MemB.set (MemB.set (MemB.set hM.out nB (o + 2) (.bool true)) nB (o + 3) (.int .u64 ee)) nB (o + 4) (.int .i64 s)) nB o (.pointer none))).mono ?_; rintro e w3 ⟨rfl, rfl⟩)
  go_ret
  exact ⟨rfl, (Blk.set (Blk.set (Blk.set (Blk.set hB.out (o + 2) (.bool true)) (o + 3) (.int .u64 ee)) (o + 4) (.int .i64 s)) o (.pointer none)), M', (MemB.set (MemB.set (MemB.set (MemB.set hM.out nB (o + 2) (.bool true)) nB (o + 3) (.int .u64 ee)) nB (o + 4) (.int .i64 s)) nB o (.pointer none)), ef'.out, hf.out, ((((hF.out.trans (Fr.set _ _ (p := ⟨B, o + 2, none⟩) (.inl rfl) (.bool true))).trans (Fr.set _ _ (p := ⟨B, o + 3, none⟩) (.inl rfl) (.int .u64 ee))).trans (Fr.set _ _ (p := ⟨B, o + 4, none⟩) (.inl rfl) (.int .i64 s))).trans (Fr.set _ _ (p := ⟨B, o, none⟩) (.inl rfl) (.pointer none)))⟩
end
end Go.Proofs.Ytijfkpoofpcacaa.GuestS
set_option linter.unusedVariables false
set_option linter.unusedSectionVars false
namespace Go.Proofs.Ytijfkpoofpcacaa.GuestT
open Go.RowKit Go.Proofs.Ytijfkpoofpcacaa.Blk Go.Proofs.Ytijfkpoofpcacaa.Core Go.Proofs.Ytijfkpoofpcacaa.MemC Go.Proofs.Ytijfkpoofpcacaa.MemT Go.Proofs.Ytijfkpoofpcacaa.Memory Go.Proofs.Ytijfkpoofpcacaa.PlanC Go.Proofs.Ytijfkpoofpcacaa.PlanD Go.Proofs.Ytijfkpoofpcacaa.StackC Go.Proofs.Ytijfkpoofpcacaa.StackF Go.Proofs.Ytijfkpoofpcacaa.StackP Go.Proofs.Ytijfkpoofpcacaa.StackG Go.Proofs.Ytijfkpoofpcacaa.EpochC Go.Proofs.Ytijfkpoofpcacaa.EpochS Go.Proofs.Ytijfkpoofpcacaa.GuestL Go.Proofs.Ytijfkpoofpcacaa.GuestS
/-- A guest's five cells. -/
def gv (g : Gst) (k : Nat) : Value :=
  if k = 0 then .pointer (g.pin.map fun x => ⟨x.1, 0, none⟩) else if k = 1 then .pointer (g.lev.map fun p => ⟨p, 0, none⟩) else if k = 2 then .bool g.inn else if k = 3 then .int .u64 g.e else .int .i64 g.stay
def garr (C : Nat) (G : Nat → Gst) : Array Value := (Array.range (5 * C)).map fun x => gv (G (x / 5)) (x % 5)
theorem garr_get {C : Nat} {G : Nat → Gst} {i k : Nat} (hi : i < C) (hk : k < 5) : (garr C G)[5 * i + k]? = some (gv (G i) k) := by
  have h1 : 5 * i + k < 5 * C := by omega
  have h2 : (5 * i + k) / 5 = i := by omega
  have h3 : (5 * i + k) % 5 = k := by omega
  simp [garr, h1, h2, h3]
theorem garr_set {C : Nat} {G : Nat → Gst} {i k : Nat} {v : Value} {g : Gst} (hi : i < C) (hk : k < 5) (h : ∀ j, j < 5 → gv g j = if j = k then v else gv (G i) j) : (garr C G).setIfInBounds (5 * i + k) v = garr C (put G i g) := by
  have hs : ∀ G : Nat → Gst, (garr C G).size = 5 * C := fun G => by simp [garr]
  refine Array.ext_getElem? fun x => ?_
  rw [Array.getElem?_setIfInBounds, hs]
  by_cases hx : x < 5 * C
  · obtain ⟨j, r, rfl, hr⟩ : ∃ j r, x = 5 * j + r ∧ r < 5 := ⟨x / 5, x % 5, by omega, by omega⟩
    have hj : j < C := by omega
    rw [garr_get hj hr, garr_get hj hr]
    by_cases q : j = i
    · subst q
      rw [put_eq, h r hr]
      by_cases e : r = k
      · subst e; rw [if_pos rfl, if_pos hx, if_pos rfl]
      · rw [if_neg (by omega), if_neg e]
    · rw [put_ne q, if_neg (by omega)]
  · rw [if_neg (by omega), Array.getElem?_eq_none (by rw [hs]; omega), Array.getElem?_eq_none (by rw [hs]; omega)]
theorem put_put {G : Nat → Gst} {i : Nat} {a b : Gst} : put (put G i a) i b = put G i b := by
  funext j; unfold put; split <;> simp_all
theorem five {P : Nat → Prop} (h0 : P 0) (h1 : P 1) (h2 : P 2) (h3 : P 3) (h4 : P 4) : ∀ j, j < 5 → P j := by
  intro j hj
  match j, hj with
  | 0, _ => exact h0
  | 1, _ => exact h1
  | 2, _ => exact h2
  | 3, _ => exact h3
  | 4, _ => exact h4
theorem blk_one {w : World} {b t t' : Nat} {cs cs' : Array Value} (h : Blk w b t cs) (h' : Blk w b t' cs') : t = t' ∧ cs = cs' := by
  unfold Blk at h h'
  rw [h] at h'
  cases h'
  exact ⟨rfl, rfl⟩
structure GB (w : World) (lo B C : Nat) (G : Nat → Gst) : Prop where
  blk : Blk w B 59 (garr C G)
  low : lo ≤ B
  pin : ∀ j : Nat, j < C → ∀ p ee x, (G j).pin = some (p, ee, x) → PinB w p ee (4 + (j : Int)) x ∧ lo ≤ p
  lev : ∀ j : Nat, j < C → ∀ p, (G j).lev = some p → LevB w p (4 + (j : Int)) false ∧ lo ≤ p
  stay : ∀ j, j < C → (G j).stay < 1000
/-- A type that is none of what a guest's step may write. -/
def okT (t : Nat) : Prop := t ≠ 59 ∧ t ≠ 124 ∧ t ≠ 33 ∧ t ≠ 44 ∧ t ≠ 132
/-- Blocks of other types, and what lies ahead, are as they were. -/
def Keeps (lo : Nat) (w w' : World) : Prop := (∀ q t cs, okT t → Blk w q t cs → Blk w' q t cs) ∧ Below lo w w'
theorem memB_ne {w : World} {m b B t : Nat} {M : Ms} {cs : Array Value} (hM : MemB w m b M) (hn : 0 < M.n) (h : Blk w B t cs) (h1 : t ≠ 124) (h2 : t ≠ 33) : ¬ two m b B := by
  obtain ⟨A, c, g1, _, g3⟩ := hM.blk
  obtain ⟨_, cs', g4, _⟩ := g3 hn
  rintro (rfl | rfl)
  · exact h1 (blk_one h g1).1
  · exact h2 (blk_one h g4).1
theorem GB.below {w w' : World} {lo B C N : Nat} {G : Nat → Gst} (h : GB w lo B C G) (hb : Below N w w') (hN : w.heap.size ≤ N) : GB w' lo B C G :=
  ⟨h.blk.below hb (Nat.lt_of_lt_of_le h.blk.lt hN), h.low, fun j hj p ee x a => ⟨Blk.below (h.pin j hj p ee x a).1 hb (Nat.lt_of_lt_of_le (Blk.lt (h.pin j hj p ee x a).1) hN), (h.pin j hj p ee x a).2⟩, fun j hj p a => ⟨Blk.below (h.lev j hj p a).1 hb (Nat.lt_of_lt_of_le (Blk.lt (h.lev j hj p a).1) hN), (h.lev j hj p a).2⟩, h.stay⟩
theorem GB.fr {S : Nat → Prop} {w w' : World} {lo B C : Nat} {G : Nat → Gst} (h : GB w lo B C G) (hf : Fr S w w') (hB : ¬ S B) (hp : ∀ q pa ee x, S q → ¬ PinB w q ee pa x) (hl : ∀ q pa x, S q → ¬ LevB w q pa x) : GB w' lo B C G :=
  ⟨h.blk.fr hf hB, h.low, fun j hj p ee x a => ⟨Blk.fr (h.pin j hj p ee x a).1 hf (fun s => hp p _ _ _ s (h.pin j hj p ee x a).1), (h.pin j hj p ee x a).2⟩, fun j hj p a => ⟨Blk.fr (h.lev j hj p a).1 hf (fun s => hl p _ _ s (h.lev j hj p a).1), (h.lev j hj p a).2⟩, h.stay⟩
/-- Behind a step of guest i. -/
theorem GB.step {S : Nat → Prop} {w w' : World} {lo B C i : Nat} {G : Nat → Gst} {g : Gst} (h : GB w lo B C G) (hi : i < C) (hf : Fr S w w') (hb : Blk w' B 59 (garr C (put G i g)))
    (hS : ∀ q, S q → (∃ cs, Blk w q 59 cs) ∨ (∃ cs, Blk w q 124 cs) ∨ (∃ cs, Blk w q 33 cs) ∨ (∃ ee x, PinB w q ee (4 + (i : Int)) x) ∨ ∃ x, LevB w q (4 + (i : Int)) x)
    (hp : ∀ p ee x, g.pin = some (p, ee, x) → PinB w' p ee (4 + (i : Int)) x ∧ lo ≤ p) (hl : ∀ p, g.lev = some p → LevB w' p (4 + (i : Int)) false ∧ lo ≤ p) (hs : g.stay < 1000) : GB w' lo B C (put G i g) := by
  have kp : ∀ q ee (j : Nat) x, j ≠ i → PinB w q ee (4 + (j : Int)) x → ¬ S q := by
    intro q ee j x hj h1 s
    rcases hS q s with ⟨cs, h2⟩ | ⟨cs, h2⟩ | ⟨cs, h2⟩ | ⟨e2, x2, h2⟩ | ⟨x2, h2⟩
    · exact absurd (blk_one h1 h2).1 (by decide)
    · exact absurd (blk_one h1 h2).1 (by decide)
    · exact absurd (blk_one h1 h2).1 (by decide)
    · have e := (blk_one h1 h2).2
      simp at e
      omega
    · exact absurd (blk_one h1 h2).1 (by decide)
  have kl : ∀ q (j : Nat) x, j ≠ i → LevB w q (4 + (j : Int)) x → ¬ S q := by
    intro q j x hj h1 s
    rcases hS q s with ⟨cs, h2⟩ | ⟨cs, h2⟩ | ⟨cs, h2⟩ | ⟨e2, x2, h2⟩ | ⟨x2, h2⟩
    · exact absurd (blk_one h1 h2).1 (by decide)
    · exact absurd (blk_one h1 h2).1 (by decide)
    · exact absurd (blk_one h1 h2).1 (by decide)
    · exact absurd (blk_one h1 h2).1 (by decide)
    · have e := (blk_one h1 h2).2
      simp at e
      omega
  refine ⟨hb, h.low, fun j hj p ee x a => ?_, fun j hj p a => ?_, fun j hj => ?_⟩
  · by_cases q : j = i
    · subst q; rw [put_eq] at a; exact hp p ee x a
    · rw [put_ne q] at a
      obtain ⟨b1, b2⟩ := h.pin j hj p ee x a
      exact ⟨Blk.fr b1 hf (kp _ _ _ _ q b1), b2⟩
  · by_cases q : j = i
    · subst q; rw [put_eq] at a; exact hl p a
    · rw [put_ne q] at a
      obtain ⟨b1, b2⟩ := h.lev j hj p a
      exact ⟨Blk.fr b1 hf (kl _ _ _ q b1), b2⟩
  · by_cases q : j = i
    · subst q; rw [put_eq]; exact hs
    · rw [put_ne q]; exact h.stay j hj
theorem keeps_of {S : Nat → Prop} {w w' : World} {lo : Nat} (hf : Fr S w w') (hlo : lo ≤ w.heap.size)
    (hS : ∀ q, S q → lo ≤ q ∧ ∃ t cs, ¬ okT t ∧ Blk w q t cs) : Keeps lo w w' :=
  ⟨fun q t cs ht h => h.fr hf (fun s => by obtain ⟨_, t', cs', n, h'⟩ := hS q s; exact n ((blk_one h h').1 ▸ ht)),
    hf.below (fun k hk => ⟨Nat.lt_of_lt_of_le hk hlo, fun s => by have := (hS k s).1; omega⟩)⟩
section
variable {c : Cf} (hr : c.right = true) {w : World} {B m b n T lo C i : Nat} {M : Ms} {G : Nat → Gst} {E nw wh nx : Int} (hM : MemB w m b M) (hf : Fine M n T) (hn : (n : Int) = c.size) (hT : T ≤ 1000000) (hC : (C : Int) = c.C) (hi : i < C) (hG : GB w lo B C G) (hI : GI C M.f E G nw wh nx) (lm : lo ≤ m) (lb : lo ≤ b) {s : Int} (s0 : s < 1000)
include hr hM hf hn hT hC hi hG hI lm lb s0
theorem stepC : Calls Try.prog 42 #[.pointer (some ⟨B, 5 * i, none⟩), .agg #[.int .i64 c.S, .int .i64 c.A, .int .i64 c.C, .int .i64 c.H, .int .i64 c.G, .int .i64 c.K], .pointer (some ⟨m, 0, none⟩), .int .i64 (i : Int), .int .i64 s] w fun e w' =>
    e = .returned (.bool true) ∧ ∃ M' G', MemB w' m b M' ∧ Fine M' n (T + 1) ∧ GB w' lo B C G' ∧ GI C M'.f E G' nw wh nx ∧ Keeps lo w w' := by
  have hn8 : 9 ≤ n ∧ n ≤ 800 := by have := size_bd hr; unfold Cf.size at hn; omega
  have hn0 : 0 < M.n := by rw [hf.n]; omega
  have hk : 0 ≤ (i : Int) ∧ (i : Int) < c.C := by omega
  have nB := memB_ne hM hn0 hG.blk (by decide) (by decide)
  have hlo : lo ≤ w.heap.size := by have := hG.low; have := Blk.lt hG.blk; omega
  have n4 : (4 + (i : Int)).toNat = 4 + i := by omega
  have x0 : (garr C G)[5 * i]? = some (gv (G i) 0) := garr_get (k := 0) hi (by decide)
  have x1 : (garr C G)[5 * i + 1]? = some (gv (G i) 1) := garr_get hi (by decide)
  have x2 : (garr C G)[5 * i + 2]? = some (gv (G i) 2) := garr_get hi (by decide)
  have x3 : (garr C G)[5 * i + 3]? = some (gv (G i) 3) := garr_get hi (by decide)
  have x4 : (garr C G)[5 * i + 4]? = some (gv (G i) 4) := garr_get hi (by decide)
  have tw : ∀ q, two m b q → lo ≤ q ∧ ((∃ cs, Blk w q 124 cs) ∨ ∃ cs, Blk w q 33 cs) := by
    obtain ⟨A, cc, g1, _, g3⟩ := hM.blk
    obtain ⟨_, cs', g4, _⟩ := g3 hn0
    rintro q (rfl | rfl)
    · exact ⟨lm, .inl ⟨_, g1⟩⟩
    · exact ⟨lb, .inr ⟨_, g4⟩⟩
  have kB : ∀ {w'}, Fr (fun k => k = B) w w' → Keeps lo w w' := fun hF => keeps_of hF hlo (by rintro q rfl; exact ⟨hG.low, _, _, (fun h => h.1 rfl), hG.blk⟩)
  have kP : ∀ {w' p t cs}, Fr (fun k => k = B ∨ k = p ∨ two m b k) w w' → lo ≤ p → Blk w p t cs → ¬ okT t → Keeps lo w w' := by
    intro w' p t cs hF h1 h2 h3
    refine keeps_of hF hlo ?_
    rintro q (rfl | rfl | h)
    · exact ⟨hG.low, _, _, (fun h => h.1 rfl), hG.blk⟩
    · exact ⟨h1, t, cs, h3, h2⟩
    · obtain ⟨a, ⟨cs, h⟩ | ⟨cs, h⟩⟩ := tw q h
      · exact ⟨a, _, _, (fun h => h.2.1 rfl), h⟩
      · exact ⟨a, _, _, (fun h => h.2.2.1 rfl), h⟩
  generalize hg : G i = g at *
  obtain ⟨gp, gl, gi, ge, gs⟩ := g
  cases gl with
  | some p =>
    obtain ⟨hp, lp⟩ := hG.lev i hi p (by rw [hg])
    have hin := hI.lev i hi p (by rw [hg])
    rw [hg] at hin
    obtain rfl : gi = true := hin
    have nq : B ≠ p := fun e => by subst e; exact absurd (blk_one hG.blk hp).1 (by decide)
    refine (g_leave hr hM hf hn hT hk hG.blk nB s hp (memB_ne hM hn0 hp (by decide) (by decide)) nq x1 x2).mono ?_
    rintro e w' ⟨rfl, a1, M', a2, a3, a4, a5⟩
    rw [n4] at a3
    rw [garr_set (g := ⟨gp, some p, false, ge, gs⟩) hi (by decide) (by rw [hg]; exact five rfl rfl rfl rfl rfl), garr_set (g := ⟨gp, none, false, ge, gs⟩) hi (by decide) (by rw [put_eq]; exact five rfl rfl rfl rfl rfl), put_put] at a1
    have hI' := hI.leave hi (p := p) (by rw [hg])
    rw [hg, ← a3] at hI'
    refine ⟨rfl, M', _, a2, a4, hG.step hi a5 a1 ?_ ?_ ?_ ?_, hI', kP a5 lp hp (fun h => h.2.2.2.2 rfl)⟩
    · rintro q (rfl | rfl | h)
      · exact .inl ⟨_, hG.blk⟩
      · exact .inr (.inr (.inr (.inr ⟨_, hp⟩)))
      · obtain ⟨_, h | h⟩ := tw q h
        · exact .inr (.inl h)
        · exact .inr (.inr (.inl h))
    · intro p ee x h
      have := (hI.inn i hi (by rw [hg])).2.1
      rw [hg] at this
      simp only at this h
      rw [this] at h; cases h
    · intro p h; cases h
    · have := hG.stay i hi; rw [hg] at this; exact this
  | none =>
    cases gi with
    | true =>
      have hpn := (hI.inn i hi (by rw [hg])).2.1
      rw [hg] at hpn
      obtain rfl : gp = none := hpn
      have hst := hG.stay i hi
      rw [hg] at hst
      have hst' : gs < 1000 := hst
      have hS : ∀ q, q = B → (∃ cs, Blk w q 59 cs) ∨ (∃ cs, Blk w q 124 cs) ∨ (∃ cs, Blk w q 33 cs) ∨ (∃ ee x, PinB w q ee (4 + (i : Int)) x) ∨ ∃ x, LevB w q (4 + (i : Int)) x := by
        rintro q rfl; exact .inl ⟨_, hG.blk⟩
      rcases Int.lt_or_le 0 gs with z0 | z0
      · refine (g_stay hr hM hf hn hT hk hG.blk nB s z0 hst' x1 x2 x4).mono ?_
        rintro e w' ⟨rfl, a1, a2, a5⟩
        rw [garr_set (g := ⟨none, none, true, ge, gs - 1⟩) hi (by decide) (by rw [hg]; exact five rfl rfl rfl rfl rfl)] at a1
        have hI' := hI.stays hi (by rw [hg]) (gs - 1)
        rw [hg] at hI'
        refine ⟨rfl, M, _, a2, hf.mono (by omega), hG.step hi a5 a1 hS ?_ ?_ (by show gs - 1 < 1000; omega), hI', kB a5⟩
        · intro p ee x h; cases h
        · intro p h; cases h
      · refine (g_goes hr hM hf hn hT hk hG.blk nB s (z := gs) (by omega) x1 x2 x4).mono ?_
        rintro e w' ⟨rfl, p, lp, hp, a1, a2, a5⟩
        rw [garr_set (g := ⟨none, some p, true, ge, gs⟩) hi (by decide) (by rw [hg]; exact five rfl rfl rfl rfl rfl)] at a1
        have hI' := hI.goes hi (by rw [hg]) p
        rw [hg] at hI'
        refine ⟨rfl, M, _, a2, hf.mono (by omega), hG.step hi a5 a1 hS ?_ ?_ hst', hI', kB a5⟩
        · intro p ee x h; cases h
        · intro p h; cases h; exact ⟨hp, by omega⟩
    | false =>
      have hst := hG.stay i hi
      rw [hg] at hst
      have hst' : gs < 1000 := hst
      cases gp with
      | none =>
        refine (g_comes hr hM hf hn hT hk hG.blk nB s x0 x1 x2).mono ?_
        rintro e w' ⟨rfl, p, lp, hp, a1, a2, a5⟩
        have a1' : Blk w' B 59 ((garr C G).setIfInBounds (5 * i + 0) (.pointer (some ⟨p, 0, none⟩))) := a1
        rw [garr_set (g := ⟨some (p, 0, 0), none, false, ge, gs⟩) hi (by decide) (by rw [hg]; exact five rfl rfl rfl rfl rfl)] at a1'
        have hI' := hI.comes hi (by rw [hg]) (by rw [hg]) p
        rw [hg] at hI'
        refine ⟨rfl, M, _, a2, hf.mono (by omega), hG.step hi a5 a1' ?_ ?_ ?_ hst', hI', kB a5⟩
        · rintro q rfl; exact .inl ⟨_, hG.blk⟩
        · intro p ee x h; cases h; exact ⟨hp, by omega⟩
        · intro p h; cases h
      | some y =>
        obtain ⟨p, ee, x⟩ := y
        obtain ⟨hp, lp⟩ := hG.pin i hi p ee x (by rw [hg])
        have hx := (hI.pin i hi p ee x (by rw [hg])).1
        have nq : B ≠ p := fun e => by subst e; exact absurd (blk_one hG.blk hp).1 (by decide)
        have np := memB_ne hM hn0 hp (by decide) (by decide)
        have hS : ∀ q, (q = B ∨ q = p ∨ two m b q) → (∃ cs, Blk w q 59 cs) ∨ (∃ cs, Blk w q 124 cs) ∨ (∃ cs, Blk w q 33 cs) ∨ (∃ ee x, PinB w q ee (4 + (i : Int)) x) ∨ ∃ x, LevB w q (4 + (i : Int)) x := by
          rintro q (rfl | rfl | h)
          · exact .inl ⟨_, hG.blk⟩
          · exact .inr (.inr (.inr (.inl ⟨_, _, hp⟩)))
          · obtain ⟨_, h | h⟩ := tw q h
            · exact .inr (.inl h)
            · exact .inr (.inr (.inl h))
        have nok : ¬ okT 44 := fun h => h.2.2.2.1 rfl
        have same : ∀ ee' x', garr C G = garr C (put G i ⟨some (p, ee', x'), none, false, ge, gs⟩) := by
          intro ee' x'
          rw [← garr_set (k := 4) (v := .int .i64 gs) hi (by decide) (by rw [hg]; exact five rfl rfl rfl rfl rfl)]
          refine Array.ext_getElem? fun z => ?_
          rw [Array.getElem?_setIfInBounds]
          by_cases q : 5 * i + 4 = z
          · subst q; rw [if_pos rfl, x4]; split
            · rfl
            · rename_i h; rw [Array.getElem?_eq_none (by omega)] at x4; cases x4
          · rw [if_neg q]
        rcases hx with rfl | ⟨rfl | rfl, hx⟩
        · refine (g_pin0 hr hM hf hn hT hk hG.blk nB s hp np nq x0 x1 x2).mono ?_
          rintro e w' ⟨rfl, a1, M', a0, a2, a3, a4, a5⟩
          rw [same (M.f 1) 1] at a1
          have hI' := hI.pin0 hi (by rw [hg]) (p := p)
          rw [hg, ← a3] at hI'
          refine ⟨rfl, M', _, a2, a4, hG.step hi a5 (by rw [a3]; exact a1) hS ?_ ?_ hst', hI', kP a5 lp hp nok⟩
          · intro p ee x h; cases h; rw [a3]; exact ⟨a0, lp⟩
          · intro p h; cases h
        · refine (g_pin1 hr hM hf hn hT hk hG.blk nB s hp np nq x0 x1 x2).mono ?_
          rintro e w' ⟨rfl, a1, M', a0, a2, a3, a4, a5⟩
          rw [n4] at a3
          rw [same ee 2] at a1
          have hI' := hI.pin1 hi (by rw [hg]) (p := p) (ee := ee) (by rw [hg])
          rw [hg, ← a3] at hI'
          refine ⟨rfl, M', _, a2, a4, hG.step hi a5 a1 hS ?_ ?_ hst', hI', kP a5 lp hp nok⟩
          · intro p ee x h; cases h; exact ⟨a0, lp⟩
          · intro p h; cases h
        · by_cases he : M.f 1 = ee
          · refine (g_pin2y hr hM hf hn hT hk hG.blk nB s (Lib.hid he) hp np nq x0 x1 x2 x3 x4).mono ?_
            rintro e w' ⟨rfl, a1, M', a2, a3, a4, a5⟩
            have a1' : Blk w' B 59 (((((garr C G).setIfInBounds (5 * i + 2) (.bool true)).setIfInBounds (5 * i + 3) (.int .u64 ee)).setIfInBounds (5 * i + 4) (.int .i64 s)).setIfInBounds (5 * i + 0) (.pointer none)) := a1
            rw [garr_set (g := ⟨some (p, ee, 2), none, true, ge, gs⟩) hi (by decide) (by rw [hg]; exact five rfl rfl rfl rfl rfl), garr_set (g := ⟨some (p, ee, 2), none, true, ee, gs⟩) hi (by decide) (by rw [put_eq]; exact five rfl rfl rfl rfl rfl), put_put, garr_set (g := ⟨some (p, ee, 2), none, true, ee, s⟩) hi (by decide) (by rw [put_eq]; exact five rfl rfl rfl rfl rfl), put_put, garr_set (g := ⟨none, none, true, ee, s⟩) hi (by decide) (by rw [put_eq]; exact five rfl rfl rfl rfl rfl), put_put] at a1'
            have hI' := hI.pin2 hi (by rw [hg]) (p := p) (ee := ee) (by rw [hg]) he s
            rw [hg, ← a3] at hI'
            refine ⟨rfl, M', _, a2, a4, hG.step hi a5 a1' hS ?_ ?_ s0, hI', kP a5 lp hp nok⟩
            · intro p ee x h; cases h
            · intro p h; cases h
          · refine (g_pin2n hr hM hf hn hT hk hG.blk nB s he hp np nq x0 x1 x2).mono ?_
            rintro e w' ⟨rfl, a1, M', a0, a2, a3, a4, a5⟩
            rw [same (M.f 1) 1] at a1
            have hI' := hI.pin0 hi (by rw [hg]) (p := p)
            rw [hg, ← a3] at hI'
            refine ⟨rfl, M', _, a2, a4, hG.step hi a5 (by rw [a3]; exact a1) hS ?_ ?_ hst', hI', kP a5 lp hp nok⟩
            · intro p ee x h; cases h; rw [a3]; exact ⟨a0, lp⟩
            · intro p h; cases h
theorem stepC' {o : Nat} (ho : o = 5 * i) : Calls Try.prog 42 #[.pointer (some ⟨B, o, none⟩), .agg #[.int .i64 c.S, .int .i64 c.A, .int .i64 c.C, .int .i64 c.H, .int .i64 c.G, .int .i64 c.K], .pointer (some ⟨m, 0, none⟩), .int .i64 (i : Int), .int .i64 s] w fun e w' =>
    e = .returned (.bool true) ∧ ∃ M' G', MemB w' m b M' ∧ Fine M' n (T + 1) ∧ GB w' lo B C G' ∧ GI C M'.f E G' nw wh nx ∧ Keeps lo w w' := by
  subst ho
  exact stepC hr hM hf hn hT hC hi hG hI lm lb s0
end
end Go.Proofs.Ytijfkpoofpcacaa.GuestT
set_option linter.unusedVariables false
set_option linter.unusedSimpArgs false
namespace Go.Proofs.Ytijfkpoofpcacaa.GuestU
open Go.RowKit Go.Proofs.Ytijfkpoofpcacaa.Blk Go.Proofs.Ytijfkpoofpcacaa.Core Go.Proofs.Ytijfkpoofpcacaa.MemC Go.Proofs.Ytijfkpoofpcacaa.MemD Go.Proofs.Ytijfkpoofpcacaa.MemT Go.Proofs.Ytijfkpoofpcacaa.Memory Go.Proofs.Ytijfkpoofpcacaa.PlanC Go.Proofs.Ytijfkpoofpcacaa.PlanD Go.Proofs.Ytijfkpoofpcacaa.StackC Go.Proofs.Ytijfkpoofpcacaa.StackF Go.Proofs.Ytijfkpoofpcacaa.StackP Go.Proofs.Ytijfkpoofpcacaa.StackG Go.Proofs.Ytijfkpoofpcacaa.EpochC Go.Proofs.Ytijfkpoofpcacaa.EpochS Go.Proofs.Ytijfkpoofpcacaa.EpochA Go.Proofs.Ytijfkpoofpcacaa.EpochM Go.Proofs.Ytijfkpoofpcacaa.GuestL Go.Proofs.Ytijfkpoofpcacaa.GuestS Go.Proofs.Ytijfkpoofpcacaa.GuestT Go.Proofs.Ytijfkpoofpcacaa.Opens
theorem infoG : (Try.prog.info? 59).map (fun i => (i.zero, i.size, i.bytes)) = some (some (.agg #[.pointer none, .pointer none, .bool false, .int .u64 0, .int .i64 0]), 5, 40) := by kernel_rfl
theorem made_g (C : Nat) : madeCells (Value.agg #[.pointer none, .pointer none, .bool false, .int .u64 0, .int .i64 0]).cells (C * 5) = garr C (fun _ => Gst.new) := by
  refine Array.ext_getElem? fun x => ?_
  by_cases hx : x < C * 5
  · have h1 : x < (madeCells (Value.agg #[.pointer none, .pointer none, .bool false, .int .u64 0, .int .i64 0]).cells (C * 5)).size := by rw [size_madeCells]; exact hx
    have h2 : x < (garr C (fun _ => Gst.new)).size := by simp [garr]; omega
    rw [Array.getElem?_eq_getElem h1, Array.getElem?_eq_getElem h2]
    have hr : x % 5 < 5 := by omega
    simp only [madeCells, garr, Array.getElem_map, Array.getElem_range, Value.cells]
    generalize x % 5 = r at *
    exact congrArg some (five (P := fun r => (#[Value.pointer none, Value.pointer none, Value.bool false, Value.int IntKind.u64 0, Value.int IntKind.i64 0] : Array Value)[r]! = gv Gst.new r) rfl rfl rfl rfl rfl r hr)
  · rw [Array.getElem?_eq_none (by rw [size_madeCells]; omega), Array.getElem?_eq_none (by simp [garr]; omega)]
theorem make_g (C : Nat) (h1 : C ≤ 1000) (w : World) : (Instr.makeSlice 57 (.int .i64 (C : Int)) (.int .i64 (C : Int))).run Try.prog w = .ok (.slice (some ⟨w.heap.size, 0, none⟩) C C) (w.alloc (.cells (garr C (fun _ => Gst.new)) 59)) := by
  obtain ⟨i, hi, e⟩ := Option.map_eq_some_iff.1 infoG
  simp only [Prod.mk.injEq] at e
  obtain ⟨e0, e1, e2⟩ := e
  have := run_make w 57 59 i _ Try.underlying57 hi e0 .i64 .i64 C C (by omega) (Int.le_refl _) (by rw [e2]; omega) (by omega)
  rw [e1, Int.toNat_natCast, made_g] at this
  exact this
theorem wordsC8 (w : World) (m b n : Nat) (s : Ms) (h : MemB w m b s) (e : s.n = n) (hn : n ≤ 65536) : Calls Try.prog 43 #[.pointer (some ⟨m, 0, none⟩)] w fun e w' => ∃ A c b', e = .returned (.slice A n c) ∧ w.heap.size ≤ b' ∧ RowB w' A c b' n s.f ∧ Below w.heap.size w w' := by
  replace h := Lib.hid h
  replace e := Lib.hid e
  go_enter Try.func43, Try.ntmps43
  go_wp2_with (go_at_call 24; refine (words_n _ m b n _ h.out e.out hn).mono ?_; rintro e w2 ⟨A, c, b', rfl, h1, h2, h3⟩; replace h2 := Lib.hid h2; replace h3 := Lib.hid h3)
  go_ret
  exact ⟨A, c, b', rfl, h1, h2.out, h3.out⟩
theorem okAdv : okT 54 := by unfold okT; decide
theorem okCfg : okT 23 := by unfold okT; decide
theorem below_drew0 (w : World) : Below w.heap.size w w.drew := (Below.refl w.heap.size w).drew
theorem below_drewN (w : World) (k : Nat) : Below w.heap.size w (w.drewN k) := below_drewN' (Below.refl w.heap.size w)
theorem adv_keep {w w' : World} {lo B C m b pa : Nat} {M : Ms} {G : Nat → Gst} {cs : Array Value} (hG : GB w lo B C G) (hM : MemB w m b M) (hn0 : 0 < M.n) (hA : Blk w pa 54 cs) (hF : Fr (three pa m b) w w') (lm : lo ≤ m) (lb : lo ≤ b) (lp : lo ≤ pa) :
    GB w' lo B C G ∧ (∀ q cs, Blk w q 23 cs → Blk w' q 23 cs) ∧ Below lo w w' := by
  have key : ∀ q t cs, Blk w q t cs → t ≠ 124 → t ≠ 33 → t ≠ 54 → ¬ three pa m b q := by
    rintro q t cs h h1 h2 h3 (rfl | h4)
    · exact h3 (blk_one h hA).1
    · exact memB_ne hM hn0 h h1 h2 h4
  have hlo : lo ≤ w.heap.size := by have := hG.low; have := Blk.lt hG.blk; omega
  refine ⟨hG.fr hF (key _ _ _ hG.blk (by decide) (by decide) (by decide)) (fun q pa ee x s h => key q _ _ h (by decide) (by decide) (by decide) s) (fun q pa x s h => key q _ _ h (by decide) (by decide) (by decide) s), fun q cs h => h.fr hF (key q _ _ h (by decide) (by decide) (by decide)), hF.below (fun k hk => ⟨Nat.lt_of_lt_of_le hk hlo, ?_⟩)⟩
  rintro (rfl | rfl | rfl) <;> omega
set_option maxHeartbeats 4000000 in
set_option maxRecDepth 100000 in
theorem playsC (c0 : Cf) (w : World) (A1 A2 : Option Addr) (n1 c1 n2 c2 : Nat) (g : Nat → Int) (q : Nat → Int) (hl1 : n1 ≤ c1) (hl2 : n2 ≤ c2) (hS1 : Sl w A1 n1 1 (fun i _ => .int .u8 (g i))) (hS2 : Sl w A2 n2 1 (fun i _ => .int .i64 (q i))) (hg : ∀ i, i < n1 → 0 ≤ g i ∧ g i < 256) (hq : ∀ i, i < n2 → -9223372036854775808 ≤ q i ∧ q i < 9223372036854775808) (hn1 : n1 ≤ 1152921504606846976) (hn2 : n2 ≤ 1152921504606846976) :
    Calls Try.prog 9 #[.agg #[.int .i64 c0.S, .int .i64 c0.A, .int .i64 c0.C, .int .i64 c0.H, .int .i64 c0.G, .int .i64 c0.K], .slice A1 n1 c1, .slice A2 n2 c2] w fun e w' => e = .returned (.bool true) ∧ Below w.heap.size w w' := by
  replace hS1 := Lib.hid hS1
  replace hS2 := Lib.hid hS2
  replace hg := Lib.hid hg
  replace hq := Lib.hid hq
  have hf0 := Lib.hid (Blk.new w 23 #[.int .i64 c0.S, .int .i64 c0.A, .int .i64 c0.C, .int .i64 c0.H, .int .i64 c0.G, .int .i64 c0.K])
  have hT0 := Lib.hid ((Below.refl w.heap.size w).alloc (Nat.le_refl _) (.cells #[.int .i64 c0.S, .int .i64 c0.A, .int .i64 c0.C, .int .i64 c0.H, .int .i64 c0.G, .int .i64 c0.K] 23))
  go_enter Try.func9, Try.ntmps9
  generalize hCFe : w.heap.size = CF at *
  go_upto_region 5 with (first
      | (go_at_call 31; refine (fitC c0 _).mono ?_; rintro e w1 ⟨c, rfl, hs, hb1⟩; have hr := small_right hs; have hf1 := hf0.out.below hb1 hf0.out.lt; obtain ⟨k0, k1, k2, k3, k4, k5⟩ := cfgs hf1; have z0 := hf1.frozen 0; have z1 := hf1.frozen 1; have z2 := hf1.frozen 2; have z3 := hf1.frozen 3; have z4 := hf1.frozen 4; have z5 := hf1.frozen 5; replace hf1 := Lib.hid hf1; replace hT0 := Lib.hid (hT0.out.trans (hb1.mono (by have := hT0.out.size; omega))); clear hb1; replace hr := Lib.hid hr; replace hs := Lib.hid hs)
      | (go_at_call 20; (show Calls _ _ _ (six w1 CF c) _); clear k0 k1 k2 k3 k4 k5 z0 z1 z2 z3 z4 z5; have hf2 := six_blk (c := c) hf1.out; have hT2 := six_below (c := c) hT0.out (b := CF) (by omega); generalize six w1 CF c = w2 at *; refine (memC c _ hr.out).mono ?_; rintro e w3 ⟨m, b, rfl, hM3, hm, hb, hb3⟩; have hf3 := hf2.below hb3 hf2.lt; have lt3 := hf2.lt; replace hT2 := Lib.hid (hT2.trans (hb3.mono (by have := hT2.size; omega))); have hcf := Lib.hid hf3; replace hM3 := Lib.hid hM3; obtain ⟨q0, q1, q2, q3, q4, q5⟩ := cfgs hf3; clear hb3 hf2 hf3)
      | (go_at_call 37; refine (awake8C _).mono ?_; rintro e w4 ⟨rfl, hb'⟩; replace hT2 := Lib.hid (hT2.trans (hb'.mono (by have := hT2.size; omega))); replace hcf := Lib.hid (hcf.out.below hb' hcf.out.lt); replace hM3 := Lib.hid (hM3.out.next hb'); obtain ⟨q0, q1, q2, q3, q4, q5⟩ := cfgs hcf.out; have z9 := hb'.size; clear hb'))
  obtain ⟨n, hn⟩ : ∃ n : Nat, (n : Int) = c.size := ⟨c.size.toNat, by have := size_bd hr.out; unfold Cf.size; omega⟩
  have hS := S_bd hr.out
  have hf := Lib.hid (fine_of (n := n) (memF_U c.A c.C c.H (c.S - 1).toNat (by omega)))
  have hM : MemB w4 m b (Ms.of n (memF c.A c.C c.H (c.S - 1).toNat)) := by
    have := hM3.out
    rw [← hn, Int.toNat_natCast] at this
    exact this
  replace hM := Lib.hid hM
  have hT := hT2
  have ltm := hM.out.lm
  have ltb := hM.out.lb
  have mCF : CF < m := by omega
  have bCF : CF < b := by omega
  have hn8 := size_bd hr.out
  have hn8' : 9 ≤ n ∧ n ≤ 800 := by unfold Cf.size at hn; omega
  have hF1 : memF c.A c.C c.H (c.S - 1).toNat 1 = 0 := memF1 _ _ _ _ (by omega)
  replace hF1 := Lib.hid hF1
  replace hn := Lib.hid hn
  clear hM3 hT0 hf1 hf0 hT2 hS hn8
  have hc1 := hs.out
  unfold Cf.small at hc1
  obtain ⟨C, hC⟩ := Int.eq_ofNat_of_zero_le (show 0 ≤ c.C by omega)
  have hC1 : 1 ≤ C := by omega
  have hC4 : C ≤ 4 := by omega
  have hmk : ∀ w : World, (Instr.makeSlice 57 (.int .i64 c.C) (.int .i64 c.C)).run Try.prog w = .ok (.slice (some ⟨w.heap.size, 0, none⟩) C C) (w.alloc (.cells (garr C (fun _ => Gst.new)) 59)) := by
    intro w; rw [hC]; exact make_g C (by omega) w
  clear hc1
  replace hC := Lib.hid hC
  have hG0 := Blk.new w4 59 (garr C (fun _ => Gst.new))
  have hM5 := hM.out.alloc (.cells (garr C (fun _ => Gst.new)) 59)
  have hcf5 := hcf.out.alloc (.cells (garr C (fun _ => Gst.new)) 59)
  have hT5 := hT.out.alloc (by have := hT.out.size; omega) (.cells (garr C (fun _ => Gst.new)) 59)
  have lB : CF < w4.heap.size := hcf.out.lt
  go_upto_region 6 with (fail)
  clear hmk hM hcf hT q0 q1 q2 q3 q4 q5
  generalize hB : w4.heap.size = B at *
  generalize w4.alloc (.cells (garr C (fun _ => Gst.new)) 59) = w5 at *
  have hM := Lib.hid hM5
  have hT := Lib.hid hT5
  have hcf := Lib.hid hcf5
  obtain ⟨q0, q1, q2, q3, q4, q5⟩ := cfgs hcf5
  have hG : Hid (GB w5 CF B C (fun _ => Gst.new)) := Lib.hid ⟨hG0, by omega, (fun j _ p ee x h => by cases h), (fun j _ p h => by cases h), (fun j _ => by decide)⟩
  clear hM5 hT5 hcf5 hG0 hB
  go_upto_region 7 with (first
      | (go_at_call 39; refine (newAdvC c _ hr.out).mono ?_; rintro e w6 ⟨pa, rfl, lpa, hA0, hb'⟩; replace hcf := Lib.hid (hcf.out.below hb' hcf.out.lt); replace hM := Lib.hid (hM.out.next hb'); replace hG := Lib.hid (hG.out.below hb' (Nat.le_refl _)); have sz5 := hT.out.size; replace hT := Lib.hid (hT.out.trans (hb'.mono (by omega))); obtain ⟨q0, q1, q2, q3, q4, q5⟩ := cfgs hcf.out; have hA := Lib.hid hA0; clear hb' hA0))
  have hI0 := GI.new C (f := memF c.A c.C c.H (c.S - 1).toNat) hF1.out
  replace hI0 := Lib.hid hI0
  go_wp2
  go_loopw [9, 10, 11] (fun va vl vk wr => ∃ (k : Nat) (E ee nw wh nx : Int) (pa : Nat) (G : Nat → Gst) (M : Ms), k ≤ n2 ∧ k ≤ 500 ∧ va = .pointer (some ⟨pa, 0, none⟩) ∧ vl = .int .u64 E ∧ vk = .int .i64 (k : Int) ∧ E ≤ k ∧ CF ≤ pa ∧ AdvB wr pa c ee nw wh nx ∧ GI C M.f E G nw wh nx ∧ GB wr CF B C G ∧ MemB wr m b M ∧ Fine M n k ∧ Blk wr CF 23 #[.int .i64 c.S, .int .i64 c.A, .int .i64 c.C, .int .i64 c.H, .int .i64 c.G, .int .i64 c.K] ∧ Below CF w wr) (fun _ _ vk _ => n2 - (intOf vk).toNat)
  case atStart => exact ⟨0, 0, 0, 0, 0, 0, pa, _, _, by omega, by omega, rfl, rfl, rfl, by omega, by omega, hA.out, hI0.out, hG.out, hM.out, hf.out, hcf.out, hT.out⟩
  case round =>
    obtain ⟨k, E, ee, nw, wh, nx, pa, G, M, hk, hk5, rfl, rfl, rfl, hE, lpa, c1, c2, c3, c4, c5, c6, c7⟩ := hrel
    clear hA hI0 hG hM hf hcf hT q0 q1 q2 q3 q4 q5 hF1
    have hA := Lib.hid c1
    have hI := Lib.hid c2
    have hG := Lib.hid c3
    have hM := Lib.hid c4
    have hf := Lib.hid c5
    have hcf := Lib.hid c6
    have hT := Lib.hid c7
    obtain ⟨q0, q1, q2, q3, q4, q5⟩ := cfgs c6
    have E0 := c2.E0
    clear c1 c2 c3 c4 c5 c6 c7
    by_cases hlt : k < n2
    · by_cases h5 : k < 500
      · have hlt' : (k : Int) < (n2 : Int) := by omega
        have h5' : (k : Int) < 500 := by omega
        obtain ⟨bq, oq, hAq, _, jq⟩ := (hS2.out.below hT.out (by omega)).num hlt
        subst hAq
        have hkq := hq.out k hlt
        generalize q k = i at *
        go_upto_block 2 with (fail)
        go_cut [9] (fun va wx => ∃ (E' ee nw wh nx : Int) (pa : Nat) (G : Nat → Gst) (M : Ms), va = .pointer (some ⟨pa, 0, none⟩) ∧ (E' = E ∨ E' = E + 1) ∧ CF ≤ pa ∧ AdvB wx pa c ee nw wh nx ∧ GI C M.f E' G nw wh nx ∧ GB wx CF B C G ∧ MemB wx m b M ∧ Fine M n (k + 1) ∧ Blk wx CF 23 #[.int .i64 c.S, .int .i64 c.A, .int .i64 c.C, .int .i64 c.H, .int .i64 c.G, .int .i64 c.K] ∧ Below CF w wx)
        case first =>
          have npa := memB_ne hM.out (by rw [hf.out.n]; omega) hA.out (by decide) (by decide)
          have hnM : 0 < M.n := by rw [hf.out.n]; omega
          have ft := hf.out.t
          have ft0 := hf.out.t0
          clear jq
          by_cases hi0 : 0 ≤ i
          · by_cases hi1 : i < c.C
            · obtain ⟨j, rfl⟩ := Int.eq_ofNat_of_zero_le hi0
              have hjC : j < C := by have := hC.out; omega
              have hjC' : (j : Int) < (C : Int) := by omega
              by_cases hz : n1 = 0
              · subst hz
                go_upto_region 16 with (fail)
                replace hM := Lib.hid hM.out.drew
                replace hA := Lib.hid (Blk.drew hA.out)
                replace hG := Lib.hid (hG.out.below (below_drew0 wr) (Nat.le_refl _))
                replace hcf := Lib.hid (Blk.drew hcf.out)
                replace hT := Lib.hid hT.out.drew
                have hX : wr.drew.cell? ⟨CF, 0, none⟩ = some (.int .i64 c.S) ∧ wr.drew.cell? ⟨CF, 1, none⟩ = some (.int .i64 c.A) ∧ wr.drew.cell? ⟨CF, 2, none⟩ = some (.int .i64 c.C) ∧ wr.drew.cell? ⟨CF, 3, none⟩ = some (.int .i64 c.H) ∧ wr.drew.cell? ⟨CF, 4, none⟩ = some (.int .i64 c.G) ∧ wr.drew.cell? ⟨CF, 5, none⟩ = some (.int .i64 c.K) := cfgs hcf.out
                clear q0 q1 q2 q3 q4 q5
                go_region_held3 (fun w' => w'.cell? ⟨CF, 0, none⟩ = some (.int .i64 c.S) ∧ w'.cell? ⟨CF, 1, none⟩ = some (.int .i64 c.A) ∧ w'.cell? ⟨CF, 2, none⟩ = some (.int .i64 c.C) ∧ w'.cell? ⟨CF, 3, none⟩ = some (.int .i64 c.H) ∧ w'.cell? ⟨CF, 4, none⟩ = some (.int .i64 c.G) ∧ w'.cell? ⟨CF, 5, none⟩ = some (.int .i64 c.K)) (assumption) (first | (go_at_call 42; refine (stepC' hr.out hM.out hf.out hn.out (by omega) hC.out.symm hjC hG.out hI.out (by omega) (by omega) (s := (0 : Int)) (by omega) (by omega)).mono ?_; rintro e v1 ⟨rfl, M', G', hM', hf', hG', hI', hKp⟩; replace hA := Lib.hid (hKp.1 _ _ _ okAdv hA.out); replace hcf := Lib.hid (hKp.1 _ _ _ okCfg hcf.out); replace hT := Lib.hid (hT.out.trans hKp.2); have hY := cfgs hcf.out; clear hKp))
                all_goals
                  go_wp2
                  go_meet
                  case rel => exact ⟨E, _, _, _, _, pa, G', M', rfl, .inl rfl, lpa, hA.out, hI', hG', hM', hf', hcf.out, hT.out⟩
              · have hz1 : (1 : Int) ≤ (n1 : Int) := by omega
                have hz2 : 0 < n1 := by omega
                have hz3 : (0 : Int) < (n1 : Int) := by omega
                have hkm : k % n1 < n1 := Nat.mod_lt _ (by omega)
                have hkm' : (k : Int) % (n1 : Int) < (n1 : Int) := by omega
                have hkm0 : 0 ≤ (k : Int) % (n1 : Int) := by omega
                obtain ⟨bs, os, hAs, _, js⟩ := (hS1.out.below hT.out (by omega)).num hkm
                subst hAs
                obtain ⟨g0, g1⟩ := hg.out _ hkm
                generalize g (k % n1) = y at *
                have y1 : y.tmod 12 = y % 12 := Int.tmod_eq_emod_of_nonneg g0
                go_upto_region 16 with (fail)
                replace hM := Lib.hid hM.out.drew
                replace hA := Lib.hid (Blk.drew hA.out)
                replace hG := Lib.hid (hG.out.below (below_drew0 wr) (Nat.le_refl _))
                replace hcf := Lib.hid (Blk.drew hcf.out)
                replace hT := Lib.hid hT.out.drew
                have hX : wr.drew.cell? ⟨CF, 0, none⟩ = some (.int .i64 c.S) ∧ wr.drew.cell? ⟨CF, 1, none⟩ = some (.int .i64 c.A) ∧ wr.drew.cell? ⟨CF, 2, none⟩ = some (.int .i64 c.C) ∧ wr.drew.cell? ⟨CF, 3, none⟩ = some (.int .i64 c.H) ∧ wr.drew.cell? ⟨CF, 4, none⟩ = some (.int .i64 c.G) ∧ wr.drew.cell? ⟨CF, 5, none⟩ = some (.int .i64 c.K) := cfgs hcf.out
                clear q0 q1 q2 q3 q4 q5
                go_region_held3 (fun w' => w'.cell? ⟨CF, 0, none⟩ = some (.int .i64 c.S) ∧ w'.cell? ⟨CF, 1, none⟩ = some (.int .i64 c.A) ∧ w'.cell? ⟨CF, 2, none⟩ = some (.int .i64 c.C) ∧ w'.cell? ⟨CF, 3, none⟩ = some (.int .i64 c.H) ∧ w'.cell? ⟨CF, 4, none⟩ = some (.int .i64 c.G) ∧ w'.cell? ⟨CF, 5, none⟩ = some (.int .i64 c.K)) (assumption) (first | (go_at_call 42; refine (stepC' hr.out hM.out hf.out hn.out (by omega) hC.out.symm hjC hG.out hI.out (by omega) (by omega) (s := (y % 12)) (by omega) (by omega)).mono ?_; rintro e v1 ⟨rfl, M', G', hM', hf', hG', hI', hKp⟩; replace hA := Lib.hid (hKp.1 _ _ _ okAdv hA.out); replace hcf := Lib.hid (hKp.1 _ _ _ okCfg hcf.out); replace hT := Lib.hid (hT.out.trans hKp.2); have hY := cfgs hcf.out; clear hKp))
                all_goals
                  go_wp2
                  go_meet
                  case rel => exact ⟨E, _, _, _, _, pa, G', M', rfl, .inl rfl, lpa, hA.out, hI', hG', hM', hf', hcf.out, hT.out⟩
            · by_cases hi2 : i = c.C
              · have hi2' : (i == c.C) = true := by simp [hi2]
                have hnx : nx = 0 ∨ nx = 1 ∨ nx = 2 := by rcases hI.out.adv with a | a | a <;> omega
                replace hi2 := Lib.hid hi2
                rcases hnx with rfl | rfl | rfl
                · go_wp2_with (first
      | (go_at_call 26; refine (touches_c _ m b _ hM.out).mono ?_; rintro e w2 ⟨rfl, rfl⟩)
      | (go_at_call 41; refine (adS hr.out hM.out hf.out hn.out (by omega) npa  hA.out).mono ?_; rintro e v1 ⟨rfl, M', hP', hM', ef', et', hf', hF'⟩; obtain ⟨hG', hc', hT'⟩ := adv_keep hG.out hM.out hnM hA.out hF' (by omega) (by omega) (by omega); rw [← ef'] at hP'; have hI' := hI.out.adv0 (by omega); rw [← ef'] at hI'; replace hG := Lib.hid hG'; replace hcf := Lib.hid (hc' _ _ hcf.out); replace hT := Lib.hid (hT.out.trans hT'); replace hI := Lib.hid hI'; replace hM := Lib.hid hM'; replace hf := Lib.hid hf'; have hle : M'.t ≤ M.t + 1 := (by omega); replace hA := Lib.hid hP'; clear hG' hc' hT' hI' hM' hf' hF' et' ef' hP'))
                  go_meet
                  case rel => exact ⟨E, _, _, _, _, pa, G, _, rfl, .inl rfl, lpa, hA.out, hI.out, hG.out, hM.out, hf.out, hcf.out, hT.out⟩
                · have hwh : 0 ≤ wh ∧ wh < c.C := by have := hC.out; rcases hI.out.adv with a | ⟨_, _, a3, a4, _⟩ | ⟨a, _⟩ <;> omega
                  by_cases hp : M.f (4 + wh).toNat = 0 ∨ M.f (4 + wh).toNat = pinV nw
                  · replace hp := Lib.hid hp
                    replace hwh := Lib.hid hwh
                    go_wp2_with (first
      | (go_at_call 26; refine (touches_c _ m b _ hM.out).mono ?_; rintro e w2 ⟨rfl, rfl⟩)
      | (go_at_call 41; refine (adN hr.out hM.out hf.out hn.out (by omega) npa hwh.out hp.out hA.out).mono ?_; rintro e v1 ⟨rfl, M', hP', hM', ef', et', hf', hF'⟩; obtain ⟨hG', hc', hT'⟩ := adv_keep hG.out hM.out hnM hA.out hF' (by omega) (by omega) (by omega); have hI1 := hI.out.adv1 hp.out (by omega); rw [← hC.out] at hI1; have hI' := hI1; rw [← ef'] at hI'; replace hG := Lib.hid hG'; replace hcf := Lib.hid (hc' _ _ hcf.out); replace hT := Lib.hid (hT.out.trans hT'); replace hI := Lib.hid hI'; replace hM := Lib.hid hM'; replace hf := Lib.hid hf'; have hle : M'.t ≤ M.t + 1 := (by omega); replace hA := Lib.hid hP'; clear hG' hc' hT' hI' hM' hf' hF' et' ef' hP' hI1))
                    go_meet
                    case rel => exact ⟨E, _, _, _, _, pa, G, _, rfl, .inl rfl, lpa, hA.out, hI.out, hG.out, hM.out, hf.out, hcf.out, hT.out⟩
                  · replace hp := Lib.hid hp
                    replace hwh := Lib.hid hwh
                    go_wp2_with (first
      | (go_at_call 26; refine (touches_c _ m b _ hM.out).mono ?_; rintro e w2 ⟨rfl, rfl⟩)
      | (go_at_call 41; refine (adB hr.out hM.out hf.out hn.out (by omega) npa hwh.out hp.out hA.out).mono ?_; rintro e v1 ⟨rfl, M', hP', hM', ef', et', hf', hF'⟩; obtain ⟨hG', hc', hT'⟩ := adv_keep hG.out hM.out hnM hA.out hF' (by omega) (by omega) (by omega); have hI' := hI.out; rw [← ef'] at hI'; replace hG := Lib.hid hG'; replace hcf := Lib.hid (hc' _ _ hcf.out); replace hT := Lib.hid (hT.out.trans hT'); replace hI := Lib.hid hI'; replace hM := Lib.hid hM'; replace hf := Lib.hid hf'; have hle : M'.t ≤ M.t + 1 := (by omega); replace hA := Lib.hid hP'; clear hG' hc' hT' hI' hM' hf' hF' et' ef' hP'))
                    go_meet
                    case rel => exact ⟨E, _, _, _, _, pa, G, _, rfl, .inl rfl, lpa, hA.out, hI.out, hG.out, hM.out, hf.out, hcf.out, hT.out⟩
                · have hnw : nw = E := by rcases hI.out.adv with a | ⟨a, _⟩ | ⟨_, a, _⟩ <;> omega
                  have hMw : M.f 1 = nw := by rw [hI.out.e1, hnw]
                  replace hMw := Lib.hid hMw
                  have hEE : (nw + 1) % 18446744073709551616 = E + 1 := by omega
                  replace hEE := Lib.hid hEE
                  have hne : (E + 1 != E + 1) = false := by simp
                  have hwr : IntKind.u64.wrap (E + 1) = E + 1 := Core.wrap_u64_id _ (by omega) (by omega)
                  replace hnw := Lib.hid hnw
                  go_wp2_with (first
      | (go_at_call 26; refine (touches_c _ m b _ hM.out).mono ?_; rintro e w2 ⟨rfl, rfl⟩)
      | (go_at_call 41; refine (adW hr.out hM.out hf.out hn.out (by omega) npa hMw.out hA.out).mono ?_; rintro e v1 ⟨rfl, M', hP', hM', ef', et', hf', hF'⟩; obtain ⟨hG', hc', hT'⟩ := adv_keep hG.out hM.out hnM hA.out hF' (by omega) (by omega) (by omega); have hI1 := hI.out.adv2 (nw' := 0) (wh' := 0) (by omega); have hI' := hI1; rw [← ef'] at hI'; replace hG := Lib.hid hG'; replace hcf := Lib.hid (hc' _ _ hcf.out); replace hT := Lib.hid (hT.out.trans hT'); replace hI := Lib.hid hI'; replace hM := Lib.hid hM'; replace hf := Lib.hid hf'; have hle : M'.t ≤ M.t + 1 := (by omega); rw [hEE.out] at hP'; have j0 := Blk.cell hP' (i := 0) (v := .int .u64 (E + 1)) rfl; obtain ⟨r0, r1, r2, r3, r4, r5⟩ := cfgs hcf.out; replace hA := Lib.hid hP'; clear hG' hc' hT' hI' hM' hf' hF' et' ef' hP' hI1)
      | (go_at_call 39; refine (newAdvC c _ hr.out).mono ?_; rintro e w6 ⟨pb, rfl, lpb0, hA0, hb'⟩; have lpb : CF ≤ pb := (by have := hcf.out.lt; omega); replace hcf := Lib.hid (hcf.out.below hb' hcf.out.lt); replace hM := Lib.hid (hM.out.next hb'); replace hG := Lib.hid (hG.out.below hb' (Nat.le_refl _)); replace hT := Lib.hid (hT.out.trans (hb'.mono (by have := hcf.out.lt; have := hT.out.size; omega))); replace hA := Lib.hid hA0; clear hb' hA0))
                  go_meet
                  case rel => exact ⟨E + 1, _, _, _, _, pb, G, _, rfl, .inr rfl, lpb, hA.out, hI.out, hG.out, hM.out, hf.out, hcf.out, hT.out⟩
              · have hi2' : (i == c.C) = false := by simp [hi2]
                replace hi2 := Lib.hid hi2
                go_wp2
                go_meet
                case rel => exact ⟨E, _, _, _, _, pa, G, _, rfl, .inl rfl, lpa, hA.out, hI.out, hG.out, hM.out, hf.out.mono (by omega), hcf.out, hT.out⟩
          · have hC0 : 0 ≤ c.C := by have := hC.out; omega
            have hi2' : (i == c.C) = false := by simp; omega
            go_wp2
            go_meet
            case rel => exact ⟨E, _, _, _, _, pa, G, _, rfl, .inl rfl, lpa, hA.out, hI.out, hG.out, hM.out, hf.out.mono (by omega), hcf.out, hT.out⟩
        case rest =>
          obtain ⟨E', ee', nw', wh', nx', pa', G', M', rfl, hEE, lpa', c1, c2, c3, c4, c5, c6, c7⟩ := hcut
          clear hA hI hG hM hf hcf hT q0 q1 q2 q3 q4 q5 jq
          have hA := Lib.hid c1
          have hI := Lib.hid c2
          have hG := Lib.hid c3
          have hM := Lib.hid c4
          have hf := Lib.hid c5
          have hcf := Lib.hid c6
          have hT := Lib.hid c7
          have e1 := Lib.hid c2.e1
          have hnn := Lib.hid c5.n
          clear c1 c2 c3 c4 c5 c6 c7
          go_upto_region 28 with (first
      | (go_at_call 43; refine (wordsC8 _ m b n _ hM.out hnn.out (by omega)).mono ?_; rintro e u1 ⟨A1, cc1, b1, rfl, lb1, hR1, hb'⟩; obtain ⟨hA1, j1, _⟩ := hR1.cell (i := 1) (by omega); subst hA1; rw [e1.out] at j1; replace hcf := Lib.hid (hcf.out.below hb' hcf.out.lt); replace hG := Lib.hid (hG.out.below hb' (Nat.le_refl _)); replace hA := Lib.hid (Blk.below hA.out hb' (Blk.lt hA.out)); replace hM := Lib.hid (hM.out.next hb'); have zw := hb'.size; replace hT := Lib.hid (hT.out.trans (hb'.mono (by have := hT.out.size; omega))); replace hR1 := Lib.hid hR1; clear hb'))
          go_cut [114] (fun v wx => v = .bool false ∧ wx = u1)
          case first =>
            rcases hEE with rfl | rfl
            · have x1 : (E' != E') = false := by simp
              go_wp2
              go_meet
              case rel => exact ⟨rfl, rfl⟩
            · have x1 : (E + 1 != E) = true := by simp; omega
              have x2 : (E + 1 != E + 1) = false := by simp
              have x3 : IntKind.u64.wrap (E + 1) = E + 1 := Core.wrap_u64_id _ (by omega) (by omega)
              go_wp2
              go_meet
              case rel => exact ⟨rfl, rfl⟩
          case rest =>
            obtain ⟨rfl, rfl⟩ := hcut
            have E1 : 0 ≤ E' ∧ E' ≤ 501 := by omega
            have hEk : E' ≤ (k : Int) + 1 := by omega
            clear hEE
            go_wp2
            go_loopw [17] (fun vj wz => ∃ (j q : Nat), j ≤ C ∧ vj = .int .i64 (j : Int) ∧ wz = wc.drewN q) (fun vj _ => C - (intOf vj).toNat)
            case atStart => exact ⟨0, 0, by omega, rfl, rfl⟩
            case round =>
              obtain ⟨j, qd, hj, rfl, rfl⟩ := hrel
              obtain ⟨g0, g1, g2, g3, g4, g5⟩ := cfgs (Blk.drewN hcf.out qd)
              by_cases hjl : j < C
              · have hjl' : (j : Int) < c.C := by have := hC.out; omega
                have hjl2 : (j : Int) < (C : Int) := by omega
                have b2 : (wc.drewN qd).cell? ⟨B, j * 5 + 2, none⟩ = some (gv (G' j) 2) := (Blk.drewN hG.out.blk qd).cell (by rw [Nat.mul_comm]; exact garr_get hjl (by decide))
                have b3 : (wc.drewN qd).cell? ⟨B, j * 5 + 3, none⟩ = some (gv (G' j) 3) := (Blk.drewN hG.out.blk qd).cell (by rw [Nat.mul_comm]; exact garr_get hjl (by decide))
                have lk := hI.out.look hjl
                generalize hgj : G' j = gj at *
                obtain ⟨gp, gl, gi, ge, gs⟩ := gj
                replace b2 : (wc.drewN qd).cell? ⟨B, j * 5 + 2, none⟩ = some (.bool gi) := b2
                replace b3 : (wc.drewN qd).cell? ⟨B, j * 5 + 3, none⟩ = some (.int .u64 ge) := b3
                have hj0 : (0 : Int) ≤ (j : Int) := by omega
                have d2 : wc.cell? ⟨B, j * 5 + 2, none⟩ = some (.bool gi) := b2
                have d3 : wc.cell? ⟨B, j * 5 + 3, none⟩ = some (.int .u64 ge) := b3
                cases gi with
                | false =>
                  clear lk
                  replace hgj := Lib.hid hgj
                  go_upto_region 34 with (fail)
                  go_quiet (fail)
                  go_wp2
                  go_roundw
                  case rel => exact ⟨j + 1, qd + nq, by omega, by go_num, rfl⟩
                  case measure => simp [intOf]; omega
                | true =>
                  obtain ⟨l1, l2, l3, l4⟩ := lk rfl (by omega)
                  rw [e1.out] at l1
                  have l3' : 0 ≤ ge := l3
                  have l4' : ge ≤ E' := l4
                  have b4 : (wc.drewN qd).cell? ⟨b1, 4 + j, none⟩ = some (.int .u64 (2 * ge + 1)) := by
                    have := (hR1.out.cell (i := 4 + j) (by have := pin_lt hr.out (who := (j : Int)) (by omega) hjl'; have := hn.out; omega)).2.1
                    rw [l2] at this
                    exact this
                  have d4 : wc.cell? ⟨b1, 4 + j, none⟩ = some (.int .u64 (2 * ge + 1)) := b4
                  clear lk l2 l3 l4
                  have l1' : E' = ge ∨ E' = ge + 1 := l1
                  clear l1
                  have p1 := pin_lt hr.out (who := (j : Int)) (by omega) hjl'
                  have hn4 : 4 + j < n := by have := hn.out; omega
                  clear p1
                  have hn4' : 4 + (j : Int) < (n : Int) := by omega
                  have hj4 : 0 ≤ 4 + (j : Int) := by omega
                  have w1 : IntKind.i64.wrap (4 + (j : Int)) = 4 + (j : Int) := IntWalk.i64_in _ (by omega)
                  have w1' : (4 + (j : Int)).toNat = 4 + j := by omega
                  have w2 : IntKind.u64.wrap (2 * ge) = 2 * ge := Core.wrap_u64_id _ (by omega) (by omega)
                  have w3 : IntKind.u64.wrap (2 * ge + 1) = 2 * ge + 1 := Core.wrap_u64_id _ (by omega) (by omega)
                  have w4 : (2 * ge + 1 != 2 * ge + 1) = false := by simp
                  have w5 : IntKind.u64.wrap (ge + 1) = ge + 1 := Core.wrap_u64_id _ (by omega) (by omega)
                  replace hgj := Lib.hid hgj
                  rcases l1' with q | q
                  · have y1 : (E' != ge) = false := by simp; omega
                    replace q := Lib.hid q
                    go_upto_region 34 with (fail)
                    go_quiet (fail)
                    go_wp2
                    go_roundw
                    case rel => exact ⟨j + 1, qd + nq, by omega, by go_num, rfl⟩
                    case measure => simp [intOf]; omega
                  · have y1 : (E' != ge) = true := by simp; omega
                    have y2 : (E' != ge + 1) = false := by simp; omega
                    replace q := Lib.hid q
                    go_upto_region 34 with (fail)
                    go_quiet (fail)
                    go_wp2
                    go_roundw
                    case rel => exact ⟨j + 1, qd + nq, by omega, by go_num, rfl⟩
                    case measure => simp [intOf]; omega
              · have hjl' : ¬ (j : Int) < c.C := by have := hC.out; omega
                go_wp2
                go_roundw
                case rel => exact ⟨k + 1, E', ee', nw', wh', nx', pa', G', M', by omega, by omega, rfl, by go_num, by go_num, by omega, lpa', Blk.drewN hA.out qd, hI.out, hG.out.below (below_drewN _ qd) (Nat.le_refl _), hM.out.drewN qd, hf.out, Blk.drewN hcf.out qd, hT.out.trans ((below_drewN _ qd).mono (by have := hT.out.size; omega))⟩
                case measure => simp [intOf]; omega
      · have h5' : ¬ (k : Int) < 500 := by omega
        have hlt' : (k : Int) < (n2 : Int) := by omega
        go_wp2_with (go_at_call 37; refine (awake8C _).mono ?_; rintro e w4 ⟨rfl, hb'⟩; replace hT := Lib.hid (hT.out.trans (hb'.mono (by have := hT.out.size; omega))); clear hb')
        go_ret
        exact ⟨rfl, hCFe ▸ hT.out⟩
    · have hlt' : ¬ (k : Int) < (n2 : Int) := by omega
      go_wp2_with (go_at_call 37; refine (awake8C _).mono ?_; rintro e w4 ⟨rfl, hb'⟩; replace hT := Lib.hid (hT.out.trans (hb'.mono (by have := hT.out.size; omega))); clear hb')
      go_ret
      exact ⟨rfl, hCFe ▸ hT.out⟩
end Go.Proofs.Ytijfkpoofpcacaa.GuestU
