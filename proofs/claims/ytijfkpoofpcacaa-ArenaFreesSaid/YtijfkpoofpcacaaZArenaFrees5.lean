/-
  What the law ArenaFrees needs of the seat's texts (ArenaZ, CoreRow): the words and functions that the kit's print.sh printed, and our own; no condition of its own.
-/
import Derived.Deep.Fields
import Derived.ChangeSame
import Derived.WideShapes
import Derived.ChangeArms
import Derived.RowKit
import Derived.Test.YtijfkpoofpcacaaZArenaFrees4
set_option linter.unusedVariables false
set_option linter.unusedSectionVars false
set_option linter.unusedSimpArgs false
section
set_option linter.unusedVariables false
set_option linter.unusedSimpArgs false
namespace Go.Proofs.Ytijfkpoofpcacaa.ArenaZ
open Go.RowKit Go.Proofs.YtijfkpoofpcacaaW.PrintWords Go.Proofs.Ytijfkpoofpcacaa.Blk Go.Proofs.Ytijfkpoofpcacaa.Core Go.Proofs.Ytijfkpoofpcacaa.MemC Go.Proofs.Ytijfkpoofpcacaa.MemD Go.Proofs.Ytijfkpoofpcacaa.MemT Go.Proofs.Ytijfkpoofpcacaa.Memory Go.Proofs.Ytijfkpoofpcacaa.PlanC Go.Proofs.Ytijfkpoofpcacaa.PlanD Go.Proofs.Ytijfkpoofpcacaa.RefM Go.Proofs.Ytijfkpoofpcacaa.StackC Go.Proofs.Ytijfkpoofpcacaa.StackL Go.Proofs.Ytijfkpoofpcacaa.StackS Go.Proofs.Ytijfkpoofpcacaa.StackT Go.Proofs.Ytijfkpoofpcacaa.StackF Go.Proofs.Ytijfkpoofpcacaa.StackP Go.Proofs.Ytijfkpoofpcacaa.StackG Go.Proofs.Ytijfkpoofpcacaa.HeadC Go.Proofs.Ytijfkpoofpcacaa.ArenaC Go.Proofs.Ytijfkpoofpcacaa.ArenaM Go.Proofs.Ytijfkpoofpcacaa.ArenaN Go.Proofs.Ytijfkpoofpcacaa.ArenaP Go.Proofs.Ytijfkpoofpcacaa.ArenaL Go.Proofs.Ytijfkpoofpcacaa.ArenaR Go.Proofs.Ytijfkpoofpcacaa.ArenaQ Go.Proofs.Ytijfkpoofpcacaa.ArenaS Go.Proofs.Ytijfkpoofpcacaa.ArenaT Go.Proofs.Ytijfkpoofpcacaa.ArenaU Go.Proofs.Ytijfkpoofpcacaa.ArenaV Go.Proofs.Ytijfkpoofpcacaa.ArenaW Go.Proofs.Ytijfkpoofpcacaa.ArenaY Go.Proofs.Ytijfkpoofpcacaa.Opens
theorem six_other {w : World} {b B t : Nat} {c : Cf} {cs : Array Value} (h : Blk w B t cs) (hne : B ≠ b) : Blk (six w b c) B t cs :=
  (((((h.other ⟨b, 0, none⟩ hne _).other ⟨b, 1, none⟩ hne _).other ⟨b, 2, none⟩ hne _).other ⟨b, 3, none⟩ hne _).other ⟨b, 4, none⟩ hne _).other ⟨b, 5, none⟩ hne _
theorem rHRight_yes (k m : Int) (g : Bool) (a n s : Int) (w : World) (h : hdRight k m a n s) : Calls Try.prog 55 #[.agg #[.int .i64 k, .int .i64 m, .bool g, .int .i64 a, .int .i64 n, .int .i64 s]] w fun e w' => e = .returned (.bool true) ∧ Below w.heap.size w w' := by
  obtain ⟨d, hd, hc⟩ := rHRightC k m g a n s w
  rw [← hd.2 h]; exact hc
theorem rHRight_no (k m : Int) (g : Bool) (a n s : Int) (w : World) (h : ¬ hdRight k m a n s) : Calls Try.prog 55 #[.agg #[.int .i64 k, .int .i64 m, .bool g, .int .i64 a, .int .i64 n, .int .i64 s]] w fun e w' => e = .returned (.bool false) ∧ Below w.heap.size w w' := by
  obtain ⟨d, hd, hc⟩ := rHRightC k m g a n s w
  cases d with
  | true => exact absurd (hd.1 rfl) h
  | false => exact hc
theorem hds {w : World} {t : Nat} {kd mk ar gn st : Int} {gr : Bool} {HB : Nat} (h : Blk w HB t #[.int .i64 kd, .int .i64 mk, .bool gr, .int .i64 ar, .int .i64 gn, .int .i64 st]) : w.cell? ⟨HB, 0, none⟩ = some (.int .i64 kd) ∧ w.cell? ⟨HB, 1, none⟩ = some (.int .i64 mk) ∧ w.cell? ⟨HB, 2, none⟩ = some (.bool gr) ∧ w.cell? ⟨HB, 3, none⟩ = some (.int .i64 ar) ∧ w.cell? ⟨HB, 4, none⟩ = some (.int .i64 gn) ∧ w.cell? ⟨HB, 5, none⟩ = some (.int .i64 st) :=
  ⟨h.cell (i := 0) rfl, h.cell (i := 1) rfl, h.cell (i := 2) rfl, h.cell (i := 3) rfl, h.cell (i := 4) rfl, h.cell (i := 5) rfl⟩
theorem _root_.Go.Proofs.Ytijfkpoofpcacaa.ArenaS.MkX.below {c : Cf} {w w' : World} {p q r m b N T : Nat} {g : Nat → Int} {t x : Int} {rst : List Int} {i : Nat} (h : MkX c w p q r m b N T g t x rst i) (hb : Below w.heap.size w w') : MkX c w' p q r m b N T g t x rst i := by
  obtain ⟨a, M, h1, h2, h3, h4, h5⟩ := h
  exact ⟨a, M, h1.below hb, h2, h3, h4.next hb, h5⟩
theorem ups_len' : ∀ (n k : Nat), (ups k n).length = n
  | 0, _ => rfl
  | n + 1, k => by show (ups (k + 1) n).length + 1 = n + 1; rw [ups_len' n (k + 1)]
theorem li_n {w : World} {B n cc : Nat} {A : Option Addr} {l : List Int} (h : Li w B (.slice A n cc) l) : n = l.length ∧ n ≤ cc := by
  obtain ⟨A', cc', e, hc, _⟩ := h
  injection e with e1 e2 e3
  omega
theorem li_tail' {w : World} {B n cc : Nat} {A : Option Addr} {x : Int} {l : List Int} (h : Li w B (.slice A n cc) (x :: l)) : Li w B (.slice (if cc = 1 then A else A.map (·.add 1)) (n - 1) (cc - 1)) l := by
  have hn := (li_n h).1
  subst hn
  exact li_tail h
theorem li_first {w : World} {B n cc : Nat} {A : Option Addr} {x : Int} {l : List Int} (h : Li w B (.slice A n cc) (x :: l)) : ∃ bl ol, A = some ⟨bl, ol, none⟩ ∧ bl < w.heap.size ∧ w.cell? ⟨bl, ol, none⟩ = some (.int .i64 x) := by
  obtain ⟨A', cc', e, _, hS, _⟩ := h
  injection e with e1 e2 e3
  subst e1
  obtain ⟨b, o, rfl, hl, hc⟩ := hS (Nat.succ_pos _)
  exact ⟨b, o, rfl, hl, hc 0 (Nat.succ_pos _) 0 (by decide)⟩
theorem cell_oth {w : World} {a p : Addr} {x v : Value} (h : w.cell? a = some x) (hne : a.block ≠ p.block) : (w.setCell p v).cell? a = some x :=
  (World.cell?_setCell_other _ _ _ _ (fun e => hne (by rw [e]))).trans h
theorem not_zero' (d : Nat) : (0 : Int) ∉ ups 1 d := fun c => by have := ups_mem c; omega
theorem li_frv {w w' : World} {B p m b : Nat} {v : Value} {l : List Int} (h : Li w B v l) (hf : Fr (frv p m b w.heap.size) w w') (h1 : p < B) (h2 : m < B) (h3 : b < B) : Li w' B v l := by
  obtain ⟨A, cc, e, hc, hS, hB, hl⟩ := h
  refine ⟨A, cc, e, hc, hS.fr hf (fun k o e hn => ?_), hB, hl⟩
  obtain ⟨k', o', e', hlt, _⟩ := hS hn
  rw [e] at e'
  cases e'
  have := hB k o e hn
  exact not_frv (by omega) (by omega) (by omega) hlt
set_option maxHeartbeats 4000000 in
set_option maxRecDepth 100000 in
theorem frees_nr (c0 : Cf) (kd mk : Int) (gr : Bool) (ar gn st : Int) (w : World) (hnr : ¬ hdRight kd mk ar gn st) : Calls Try.prog 16 #[.agg #[.int .i64 c0.S, .int .i64 c0.A, .int .i64 c0.C, .int .i64 c0.H, .int .i64 c0.G, .int .i64 c0.K], .agg #[.int .i64 kd, .int .i64 mk, .bool gr, .int .i64 ar, .int .i64 gn, .int .i64 st]] w fun e w' => e = .returned (.bool true) ∧ Below w.heap.size w w' := by
  have hf0 := Lib.hid ((Blk.new w 23 #[.int .i64 c0.S, .int .i64 c0.A, .int .i64 c0.C, .int .i64 c0.H, .int .i64 c0.G, .int .i64 c0.K]).alloc (.cells #[.int .i64 kd, .int .i64 mk, .bool gr, .int .i64 ar, .int .i64 gn, .int .i64 st] 85))
  have hh0 := Lib.hid (Blk.new (w.alloc (.cells #[.int .i64 c0.S, .int .i64 c0.A, .int .i64 c0.C, .int .i64 c0.H, .int .i64 c0.G, .int .i64 c0.K] 23)) 85 #[.int .i64 kd, .int .i64 mk, .bool gr, .int .i64 ar, .int .i64 gn, .int .i64 st])
  have hT0 := Lib.hid (((Below.refl w.heap.size w).alloc (Nat.le_refl _) (.cells #[.int .i64 c0.S, .int .i64 c0.A, .int .i64 c0.C, .int .i64 c0.H, .int .i64 c0.G, .int .i64 c0.K] 23)).alloc (by simp) (.cells #[.int .i64 kd, .int .i64 mk, .bool gr, .int .i64 ar, .int .i64 gn, .int .i64 st] 85))
  have hHB : (w.alloc (.cells #[.int .i64 c0.S, .int .i64 c0.A, .int .i64 c0.C, .int .i64 c0.H, .int .i64 c0.G, .int .i64 c0.K] 23)).heap.size = w.heap.size + 1 := by simp
  rw [hHB] at hh0
  go_enter Try.func16, Try.ntmps16
  have hHB2 : ∃ HB, HB = w.heap.size + 1 := ⟨_, rfl⟩
  obtain ⟨HB, hHB2⟩ := hHB2
  generalize hCFe : w.heap.size = CF at *
  rw [← hHB2] at hHB hh0
  have hCH : CF < HB := by omega
  replace hHB2 := Lib.hid hHB2
  go_upto_region 3 with (first
    | (go_at_call 31; refine (fitC c0 _).mono ?_; rintro e w1 ⟨c, rfl, hs, hb1⟩; have hr := small_right hs; replace hh0 := Lib.hid (hh0.out.below hb1 hh0.out.lt); have hf1 := hf0.out.below hb1 hf0.out.lt; obtain ⟨k0, k1, k2, k3, k4, k5⟩ := cfgs hf1; have z0 := hf1.frozen 0; have z1 := hf1.frozen 1; have z2 := hf1.frozen 2; have z3 := hf1.frozen 3; have z4 := hf1.frozen 4; have z5 := hf1.frozen 5; replace hf1 := Lib.hid hf1; replace hT0 := Lib.hid (hT0.out.trans (hb1.mono (by have := hT0.out.size; omega))); clear hb1; replace hr := Lib.hid hr; replace hs := Lib.hid hs)
    | (go_at_call 20; (show Calls _ _ _ (six w1 CF c) _); clear k0 k1 k2 k3 k4 k5 z0 z1 z2 z3 z4 z5; have hh2 := six_other (c := c) hh0.out (b := CF) (by omega); have hf2 := six_blk (c := c) hf1.out; have hT2 := six_below (c := c) hT0.out (b := CF) (by omega); generalize six w1 CF c = w2 at *; refine (memC c _ hr.out).mono ?_; rintro e w3 ⟨m, b, rfl, hM3, hm, hb, hb3⟩; have hf3 := hf2.below hb3 hf2.lt; have lt3 := hf2.lt; have lt3h := hh2.lt; have hh3 := Lib.hid (hh2.below hb3 hh2.lt); replace hT2 := Lib.hid (hT2.trans (hb3.mono (by have := hT2.size; omega))); have hcf := Lib.hid hf3; replace hM3 := Lib.hid hM3; clear hb3 hf2 hf3 hh2))
  obtain ⟨N, hN⟩ : ∃ N : Nat, (N : Int) = c.size := ⟨c.size.toNat, by have := size_bd hr.out; unfold Cf.size; omega⟩
  have hN8 := N_bd hr.out hN
  have hSb := S_bd hr.out
  have hAb := hs.out.2.1
  have hGb := hs.out.2.2.2.2.1
  have hf := Lib.hid (fine_of (n := N) (memF_U c.A c.C c.H (c.S - 1).toNat (by omega)))
  have hM : MemB w3 m b (Ms.of N (memF c.A c.C c.H (c.S - 1).toNat)) := by
    have := hM3.out
    rw [← hN, Int.toNat_natCast] at this
    exact this
  replace hM := Lib.hid hM
  have hT := hT2
  have hh := hh3
  have ltm := hM.out.lm
  have ltb := hM.out.lb
  have mCF : HB < m := by omega
  have bCF : HB < b := by omega
  have hs0 : (0 : Int) ≤ 0 ∧ (0 : Int) < c.S := by omega
  have hrm := room_bd hr.out
  have hz0 : (0 : Int) ≤ 0 ∧ (0 : Int) < roomV c.A := by omega
  have hplb := pl_bd hr.out hs0 hz0
  obtain ⟨P, hP0⟩ : ∃ P : Nat, (P : Int) = c.header 0 := ⟨(c.header 0).toNat, by rw [header_pl hr.out hs0]; omega⟩
  have hPp : P = (c.pl 0 0).toNat := by rw [← header_pl hr.out hs0, ← hP0]; omega
  have hPN : P < N := by rw [header_pl hr.out hs0] at hP0; omega
  have hr3 := (room_i hr.out).1
  have hr8 := (room_i hr.out).2.1
  obtain ⟨d, hd⟩ : ∃ d, c.S.toNat = d + 1 := ⟨c.S.toNat - 1, by omega⟩
  have hst := stk_start hr.out
  rw [hd] at hst
  change Stk c _ 0 (0 :: ups 1 d) at hst
  have hcan : canM c 1 0 0 := ⟨hr.out, Int.le_refl 0, Nat.zero_le _, .inl ⟨rfl, hAb.1⟩⟩
  have hUg := Lib.hid (U_pad 0 (fun _ => 0) (fun j hj => absurd hj (by omega)))
  have hG40 : c.G ≤ 1000 := by omega
  have hd63 : d ≤ 63 := by omega
  obtain ⟨R, hR⟩ : ∃ R, R = roomI c := ⟨_, rfl⟩
  rw [← hR] at hr3 hr8
  replace hR := Lib.hid hR
  replace hcan := Lib.hid hcan
  replace hst := Lib.hid hst
  replace hP0 := Lib.hid hP0
  replace hPp := Lib.hid hPp
  replace hN := Lib.hid hN
  replace hd := Lib.hid hd
  replace hz0 := Lib.hid hz0
  replace hs0 := Lib.hid hs0
  clear hM3 hT0 hf1 hf0 hT2 hSb hAb hGb hrm hplb hh0 hh3 hHB hs
  replace hcf := Lib.hid hcf.out.drew
  replace hM := Lib.hid hM.out.drew
  replace hT := Lib.hid hT.out.drew
  replace hh := Lib.hid hh.out.drew
  have lt1' : CF < w3.drew.heap.size := hcf.out.lt
  have ltm' : m < w3.drew.heap.size := ltm
  have ltb' : b < w3.drew.heap.size := ltb
  have lth' : HB < w3.drew.heap.size := hh.out.lt
  go_cut [6, 7] (fun va vb wx => ∃ p q r f, va = .pointer (some ⟨p, 0, none⟩) ∧ vb = .pointer (some ⟨f, 0, none⟩) ∧ PopB wx q c ⟨-1, false, 0, 0, 0⟩ ∧ Blk wx p 82 (makeA c (-1) false 1 0 0 (.slice (some ⟨r, 0, none⟩) (roomI c) (roomI c)) (some ⟨q, 0, none⟩) 0 0 0) ∧ RowB wx (some ⟨r, 0, none⟩) (roomI c) r (roomI c) (padF 0 (fun _ => 0)) ∧ Blk wx f 95 (freeA c false false 0 0 none 1) ∧ MemB wx m b (Ms.of N (memF c.A c.C c.H (c.S - 1).toNat)) ∧ Blk wx CF 23 #[.int .i64 c.S, .int .i64 c.A, .int .i64 c.C, .int .i64 c.H, .int .i64 c.G, .int .i64 c.K] ∧ Blk wx HB 85 #[.int .i64 kd, .int .i64 mk, .bool gr, .int .i64 ar, .int .i64 gn, .int .i64 st] ∧ Below CF w wx ∧ (w3.drew.heap.size ≤ r ∧ r < q ∧ q < p ∧ w3.drew.heap.size ≤ f ∧ (f < r ∨ p < f)))
  case first =>
    have hX : w3.drew.cell? ⟨CF, 0, none⟩ = some (.int .i64 c.S) ∧ w3.drew.cell? ⟨CF, 1, none⟩ = some (.int .i64 c.A) ∧ w3.drew.cell? ⟨CF, 2, none⟩ = some (.int .i64 c.C) ∧ w3.drew.cell? ⟨CF, 3, none⟩ = some (.int .i64 c.H) ∧ w3.drew.cell? ⟨CF, 4, none⟩ = some (.int .i64 c.G) ∧ w3.drew.cell? ⟨CF, 5, none⟩ = some (.int .i64 c.K) := cfgs hcf.out
    go_region_held3 (fun w' => w'.cell? ⟨CF, 0, none⟩ = some (.int .i64 c.S) ∧ w'.cell? ⟨CF, 1, none⟩ = some (.int .i64 c.A) ∧ w'.cell? ⟨CF, 2, none⟩ = some (.int .i64 c.C) ∧ w'.cell? ⟨CF, 3, none⟩ = some (.int .i64 c.H) ∧ w'.cell? ⟨CF, 4, none⟩ = some (.int .i64 c.G) ∧ w'.cell? ⟨CF, 5, none⟩ = some (.int .i64 c.K)) (assumption) (first
      | (go_at_call 51; refine (newMakeC c _ 1 0 0 none 0 0 (fun _ => 0) (sl_nil _ _) hcan.out).mono ?_; rintro e w4 ⟨p, q, r, rfl, g1, g2, g3, hQ, hP, hRow, hb4⟩; replace hcf := Lib.hid (hcf.out.below hb4 hcf.out.lt); have hY1 := cfgs hcf.out; (try replace hV := Lib.hid (hV.out.below hb4 hV.out.lt)); replace hM := Lib.hid (hM.out.next hb4); replace hh := Lib.hid (hh.out.below hb4 hh.out.lt); replace hT := Lib.hid (hT.out.trans (hb4.mono (by have := hT.out.size; omega))); have lt1 := hP.lt; have zz1 := hb4.size; replace hP := Lib.hid hP; replace hQ := Lib.hid hQ; replace hRow := Lib.hid hRow; clear hb4)
      | (go_at_call 54; refine (newFreeC c _ 0 (by rw [← hP0.out]; omega)).mono ?_; rintro e w5 ⟨f, rfl, g4, hV, hb5⟩; replace hcf := Lib.hid (hcf.out.below hb5 hcf.out.lt); have hY2 := cfgs hcf.out; (try (replace hP := Lib.hid (hP.out.below hb5 hP.out.lt); replace hQ := Lib.hid (Blk.below hQ.out hb5 (Blk.lt hQ.out)); replace hRow := Lib.hid (hRow.out.below hb5 (Nat.le_refl _)))); replace hM := Lib.hid (hM.out.next hb5); replace hh := Lib.hid (hh.out.below hb5 hh.out.lt); replace hT := Lib.hid (hT.out.trans (hb5.mono (by have := hT.out.size; omega))); have lt2 := hV.lt; have zz2 := hb5.size; replace hV := Lib.hid hV; clear hb5))
    all_goals
      clear hX hY1 hY2
      go_wp2
      go_meet
      case rel => exact ⟨p, q, r, f, rfl, rfl, hQ.out, hP.out, hRow.out, hV.out, hM.out, hcf.out, hh.out, hT.out, by omega⟩
  case rest =>
    obtain ⟨p, q, r, f, rfl, rfl, hQ, hP, hRow, hV, hM2, hcf2, hh2, hT2, g1, g2, g3, g4, g5⟩ := hcut
    clear hM hT hcf hh
    have hdis := Lib.hid (nodis ltm' ltb' g1 g2 g3)
    have hX0 := Lib.hid (mkX_new (T := 0) hr.out hQ hP hRow hM2 hf.out hst.out ⟨by decide, by decide⟩ (by decide))
    have hV := Lib.hid hV
    have hcf := Lib.hid hcf2
    have hh := Lib.hid hh2
    have hT := Lib.hid hT2
    clear hQ hP hRow hM2 hcf2 hh2 hT2
    obtain ⟨k0, k1, k2, k3, k4, k5⟩ := cfgs hcf.out
    obtain ⟨j0, j1, j2, j3, j4, j5⟩ := hds hh.out
    go_wp2_with (first
      | (go_at_call 55; refine (rHRight_no kd mk gr ar gn st _ hnr).mono ?_; rintro e w6 ⟨rfl, hb⟩; replace hcf := Lib.hid (hcf.out.below hb hcf.out.lt); replace hh := Lib.hid (hh.out.below hb hh.out.lt); replace hT := Lib.hid (hT.out.trans (hb.mono (by have := hT.out.size; omega))); clear hb)
      | (go_at_call 53; refine (awake12C _).mono ?_; rintro e w9 ⟨rfl, hb⟩; replace hT := Lib.hid (hT.out.trans (hb.mono (by have := hT.out.size; omega))); clear hb))
    go_ret
    exact ⟨rfl, hT.out⟩
set_option maxHeartbeats 4000000 in
set_option maxRecDepth 100000 in
theorem frees_k (c0 : Cf) (kd mk : Int) (gr : Bool) (ar gn st : Int) (w : World) (hnr0 : hdRight kd mk ar gn st) (hk3 : kd ≠ 3) : Calls Try.prog 16 #[.agg #[.int .i64 c0.S, .int .i64 c0.A, .int .i64 c0.C, .int .i64 c0.H, .int .i64 c0.G, .int .i64 c0.K], .agg #[.int .i64 kd, .int .i64 mk, .bool gr, .int .i64 ar, .int .i64 gn, .int .i64 st]] w fun e w' => e = .returned (.bool true) ∧ Below w.heap.size w w' := by
  have hf0 := Lib.hid ((Blk.new w 23 #[.int .i64 c0.S, .int .i64 c0.A, .int .i64 c0.C, .int .i64 c0.H, .int .i64 c0.G, .int .i64 c0.K]).alloc (.cells #[.int .i64 kd, .int .i64 mk, .bool gr, .int .i64 ar, .int .i64 gn, .int .i64 st] 85))
  have hh0 := Lib.hid (Blk.new (w.alloc (.cells #[.int .i64 c0.S, .int .i64 c0.A, .int .i64 c0.C, .int .i64 c0.H, .int .i64 c0.G, .int .i64 c0.K] 23)) 85 #[.int .i64 kd, .int .i64 mk, .bool gr, .int .i64 ar, .int .i64 gn, .int .i64 st])
  have hT0 := Lib.hid (((Below.refl w.heap.size w).alloc (Nat.le_refl _) (.cells #[.int .i64 c0.S, .int .i64 c0.A, .int .i64 c0.C, .int .i64 c0.H, .int .i64 c0.G, .int .i64 c0.K] 23)).alloc (by simp) (.cells #[.int .i64 kd, .int .i64 mk, .bool gr, .int .i64 ar, .int .i64 gn, .int .i64 st] 85))
  have hHB : (w.alloc (.cells #[.int .i64 c0.S, .int .i64 c0.A, .int .i64 c0.C, .int .i64 c0.H, .int .i64 c0.G, .int .i64 c0.K] 23)).heap.size = w.heap.size + 1 := by simp
  rw [hHB] at hh0
  have hnr := Lib.hid hnr0
  have hk1 : (kd != 3) = true := by simpa using hk3
  have hfv := Lib.hid (fun G => freed_k (g := gr) (G := G) hnr0 hk3)
  replace hk3 := Lib.hid hk3
  clear hnr0
  go_enter Try.func16, Try.ntmps16
  have hHB2 : ∃ HB, HB = w.heap.size + 1 := ⟨_, rfl⟩
  obtain ⟨HB, hHB2⟩ := hHB2
  generalize hCFe : w.heap.size = CF at *
  rw [← hHB2] at hHB hh0
  have hCH : CF < HB := by omega
  replace hHB2 := Lib.hid hHB2
  go_upto_region 3 with (first
    | (go_at_call 31; refine (fitC c0 _).mono ?_; rintro e w1 ⟨c, rfl, hs, hb1⟩; have hr := small_right hs; replace hh0 := Lib.hid (hh0.out.below hb1 hh0.out.lt); have hf1 := hf0.out.below hb1 hf0.out.lt; obtain ⟨k0, k1, k2, k3, k4, k5⟩ := cfgs hf1; have z0 := hf1.frozen 0; have z1 := hf1.frozen 1; have z2 := hf1.frozen 2; have z3 := hf1.frozen 3; have z4 := hf1.frozen 4; have z5 := hf1.frozen 5; replace hf1 := Lib.hid hf1; replace hT0 := Lib.hid (hT0.out.trans (hb1.mono (by have := hT0.out.size; omega))); clear hb1; replace hr := Lib.hid hr; replace hs := Lib.hid hs)
    | (go_at_call 20; (show Calls _ _ _ (six w1 CF c) _); clear k0 k1 k2 k3 k4 k5 z0 z1 z2 z3 z4 z5; have hh2 := six_other (c := c) hh0.out (b := CF) (by omega); have hf2 := six_blk (c := c) hf1.out; have hT2 := six_below (c := c) hT0.out (b := CF) (by omega); generalize six w1 CF c = w2 at *; refine (memC c _ hr.out).mono ?_; rintro e w3 ⟨m, b, rfl, hM3, hm, hb, hb3⟩; have hf3 := hf2.below hb3 hf2.lt; have lt3 := hf2.lt; have lt3h := hh2.lt; have hh3 := Lib.hid (hh2.below hb3 hh2.lt); replace hT2 := Lib.hid (hT2.trans (hb3.mono (by have := hT2.size; omega))); have hcf := Lib.hid hf3; replace hM3 := Lib.hid hM3; clear hb3 hf2 hf3 hh2))
  obtain ⟨N, hN⟩ : ∃ N : Nat, (N : Int) = c.size := ⟨c.size.toNat, by have := size_bd hr.out; unfold Cf.size; omega⟩
  have hN8 := N_bd hr.out hN
  have hSb := S_bd hr.out
  have hAb := hs.out.2.1
  have hGb := hs.out.2.2.2.2.1
  have hf := Lib.hid (fine_of (n := N) (memF_U c.A c.C c.H (c.S - 1).toNat (by omega)))
  have hM : MemB w3 m b (Ms.of N (memF c.A c.C c.H (c.S - 1).toNat)) := by
    have := hM3.out
    rw [← hN, Int.toNat_natCast] at this
    exact this
  replace hM := Lib.hid hM
  have hT := hT2
  have hh := hh3
  have ltm := hM.out.lm
  have ltb := hM.out.lb
  have mCF : HB < m := by omega
  have bCF : HB < b := by omega
  have hs0 : (0 : Int) ≤ 0 ∧ (0 : Int) < c.S := by omega
  have hrm := room_bd hr.out
  have hz0 : (0 : Int) ≤ 0 ∧ (0 : Int) < roomV c.A := by omega
  have hplb := pl_bd hr.out hs0 hz0
  obtain ⟨P, hP0⟩ : ∃ P : Nat, (P : Int) = c.header 0 := ⟨(c.header 0).toNat, by rw [header_pl hr.out hs0]; omega⟩
  have hPp : P = (c.pl 0 0).toNat := by rw [← header_pl hr.out hs0, ← hP0]; omega
  have hPN : P < N := by rw [header_pl hr.out hs0] at hP0; omega
  have hr3 := (room_i hr.out).1
  have hr8 := (room_i hr.out).2.1
  obtain ⟨d, hd⟩ : ∃ d, c.S.toNat = d + 1 := ⟨c.S.toNat - 1, by omega⟩
  have hst := stk_start hr.out
  rw [hd] at hst
  change Stk c _ 0 (0 :: ups 1 d) at hst
  have hcan : canM c 1 0 0 := ⟨hr.out, Int.le_refl 0, Nat.zero_le _, .inl ⟨rfl, hAb.1⟩⟩
  have hUg := Lib.hid (U_pad 0 (fun _ => 0) (fun j hj => absurd hj (by omega)))
  have hG40 : c.G ≤ 1000 := by omega
  have hd63 : d ≤ 63 := by omega
  obtain ⟨R, hR⟩ : ∃ R, R = roomI c := ⟨_, rfl⟩
  rw [← hR] at hr3 hr8
  replace hR := Lib.hid hR
  replace hcan := Lib.hid hcan
  replace hst := Lib.hid hst
  replace hP0 := Lib.hid hP0
  replace hPp := Lib.hid hPp
  replace hN := Lib.hid hN
  replace hd := Lib.hid hd
  replace hz0 := Lib.hid hz0
  replace hs0 := Lib.hid hs0
  clear hM3 hT0 hf1 hf0 hT2 hSb hAb hGb hrm hplb hh0 hh3 hHB hs
  replace hcf := Lib.hid hcf.out.drew
  replace hM := Lib.hid hM.out.drew
  replace hT := Lib.hid hT.out.drew
  replace hh := Lib.hid hh.out.drew
  have lt1' : CF < w3.drew.heap.size := hcf.out.lt
  have ltm' : m < w3.drew.heap.size := ltm
  have ltb' : b < w3.drew.heap.size := ltb
  have lth' : HB < w3.drew.heap.size := hh.out.lt
  go_cut [6, 7] (fun va vb wx => ∃ p q r f, va = .pointer (some ⟨p, 0, none⟩) ∧ vb = .pointer (some ⟨f, 0, none⟩) ∧ PopB wx q c ⟨-1, false, 0, 0, 0⟩ ∧ Blk wx p 82 (makeA c (-1) false 1 0 0 (.slice (some ⟨r, 0, none⟩) (roomI c) (roomI c)) (some ⟨q, 0, none⟩) 0 0 0) ∧ RowB wx (some ⟨r, 0, none⟩) (roomI c) r (roomI c) (padF 0 (fun _ => 0)) ∧ Blk wx f 95 (freeA c false false 0 0 none 1) ∧ MemB wx m b (Ms.of N (memF c.A c.C c.H (c.S - 1).toNat)) ∧ Blk wx CF 23 #[.int .i64 c.S, .int .i64 c.A, .int .i64 c.C, .int .i64 c.H, .int .i64 c.G, .int .i64 c.K] ∧ Blk wx HB 85 #[.int .i64 kd, .int .i64 mk, .bool gr, .int .i64 ar, .int .i64 gn, .int .i64 st] ∧ Below CF w wx ∧ (w3.drew.heap.size ≤ r ∧ r < q ∧ q < p ∧ w3.drew.heap.size ≤ f ∧ (f < r ∨ p < f)))
  case first =>
    have hX : w3.drew.cell? ⟨CF, 0, none⟩ = some (.int .i64 c.S) ∧ w3.drew.cell? ⟨CF, 1, none⟩ = some (.int .i64 c.A) ∧ w3.drew.cell? ⟨CF, 2, none⟩ = some (.int .i64 c.C) ∧ w3.drew.cell? ⟨CF, 3, none⟩ = some (.int .i64 c.H) ∧ w3.drew.cell? ⟨CF, 4, none⟩ = some (.int .i64 c.G) ∧ w3.drew.cell? ⟨CF, 5, none⟩ = some (.int .i64 c.K) := cfgs hcf.out
    go_region_held3 (fun w' => w'.cell? ⟨CF, 0, none⟩ = some (.int .i64 c.S) ∧ w'.cell? ⟨CF, 1, none⟩ = some (.int .i64 c.A) ∧ w'.cell? ⟨CF, 2, none⟩ = some (.int .i64 c.C) ∧ w'.cell? ⟨CF, 3, none⟩ = some (.int .i64 c.H) ∧ w'.cell? ⟨CF, 4, none⟩ = some (.int .i64 c.G) ∧ w'.cell? ⟨CF, 5, none⟩ = some (.int .i64 c.K)) (assumption) (first
      | (go_at_call 51; refine (newMakeC c _ 1 0 0 none 0 0 (fun _ => 0) (sl_nil _ _) hcan.out).mono ?_; rintro e w4 ⟨p, q, r, rfl, g1, g2, g3, hQ, hP, hRow, hb4⟩; replace hcf := Lib.hid (hcf.out.below hb4 hcf.out.lt); have hY1 := cfgs hcf.out; (try replace hV := Lib.hid (hV.out.below hb4 hV.out.lt)); replace hM := Lib.hid (hM.out.next hb4); replace hh := Lib.hid (hh.out.below hb4 hh.out.lt); replace hT := Lib.hid (hT.out.trans (hb4.mono (by have := hT.out.size; omega))); have lt1 := hP.lt; have zz1 := hb4.size; replace hP := Lib.hid hP; replace hQ := Lib.hid hQ; replace hRow := Lib.hid hRow; clear hb4)
      | (go_at_call 54; refine (newFreeC c _ 0 (by rw [← hP0.out]; omega)).mono ?_; rintro e w5 ⟨f, rfl, g4, hV, hb5⟩; replace hcf := Lib.hid (hcf.out.below hb5 hcf.out.lt); have hY2 := cfgs hcf.out; (try (replace hP := Lib.hid (hP.out.below hb5 hP.out.lt); replace hQ := Lib.hid (Blk.below hQ.out hb5 (Blk.lt hQ.out)); replace hRow := Lib.hid (hRow.out.below hb5 (Nat.le_refl _)))); replace hM := Lib.hid (hM.out.next hb5); replace hh := Lib.hid (hh.out.below hb5 hh.out.lt); replace hT := Lib.hid (hT.out.trans (hb5.mono (by have := hT.out.size; omega))); have lt2 := hV.lt; have zz2 := hb5.size; replace hV := Lib.hid hV; clear hb5))
    all_goals
      clear hX hY1 hY2
      go_wp2
      go_meet
      case rel => exact ⟨p, q, r, f, rfl, rfl, hQ.out, hP.out, hRow.out, hV.out, hM.out, hcf.out, hh.out, hT.out, by omega⟩
  case rest =>
    obtain ⟨p, q, r, f, rfl, rfl, hQ, hP, hRow, hV, hM2, hcf2, hh2, hT2, g1, g2, g3, g4, g5⟩ := hcut
    clear hM hT hcf hh
    have hdis := Lib.hid (nodis ltm' ltb' g1 g2 g3)
    have hX0 := Lib.hid (mkX_new (T := 0) hr.out hQ hP hRow hM2 hf.out hst.out ⟨by decide, by decide⟩ (by decide))
    have hV := Lib.hid hV
    have hcf := Lib.hid hcf2
    have hh := Lib.hid hh2
    have hT := Lib.hid hT2
    clear hQ hP hRow hM2 hcf2 hh2 hT2
    obtain ⟨k0, k1, k2, k3, k4, k5⟩ := cfgs hcf.out
    obtain ⟨j0, j1, j2, j3, j4, j5⟩ := hds hh.out
    replace hf := Lib.hid hf.out
    clear k0 k1 k2 k3 k4 k5 j0 j1 j2 j3 j4 j5
    obtain ⟨j0, j1, j2, j3, j4, j5⟩ := hds hh.out
    go_upto_region 7 with (go_at_call 55; refine (rHRight_yes kd mk gr ar gn st _ hnr.out).mono ?_; rintro e w6 ⟨rfl, hb⟩; replace hV := Lib.hid (hV.out.below hb hV.out.lt); replace hX0 := Lib.hid (hX0.out.below hb); replace hcf := Lib.hid (hcf.out.below hb hcf.out.lt); replace hh := Lib.hid (hh.out.below hb hh.out.lt); replace hT := Lib.hid (hT.out.trans (hb.mono (by have := hT.out.size; omega))); clear hb)
    clear j0 j1 j2 j3 j4 j5
    go_loopw [8] (fun z wr => ∃ i : Nat, i ≤ 4 + R ∧ z = .int .i64 (i : Int) ∧ MkX c wr p q r m b N i (padF 0 (fun _ => 0)) 0 0 (ups 1 d) i ∧ Blk wr f 95 (freeA c false false 0 0 none 1) ∧ Blk wr CF 23 #[.int .i64 c.S, .int .i64 c.A, .int .i64 c.C, .int .i64 c.H, .int .i64 c.G, .int .i64 c.K] ∧ Blk wr HB 85 #[.int .i64 kd, .int .i64 mk, .bool gr, .int .i64 ar, .int .i64 gn, .int .i64 st] ∧ Below CF w wr) (fun z _ => 20 - (intOf z).toNat)
    case atStart => exact ⟨0, by omega, rfl, hX0.out, hV.out, hcf.out, hh.out, hT.out⟩
    case round =>
      obtain ⟨i, hi, rfl, hB, hV', hC', hh', hT'⟩ := hrel
      clear hX0 hV hcf hh hT
      have hV := Lib.hid hV'
      have hcf := Lib.hid hC'
      have hh := Lib.hid hh'
      have hT := Lib.hid hT'
      replace hB := Lib.hid hB
      have i40 : (i : Int) < 40 := by omega
      have lti : i < 5 + roomI c := by rw [← hR.out]; omega
      clear hV' hC' hh' hT'
      rcases (show i < 4 + R ∨ i = 4 + R by omega) with hjl | hje
      · have hf8 : (i + 1 == 5 + roomI c) = false := by rw [← hR.out]; simp; omega
        replace hf8 := Lib.hid hf8
        go_wp2_with (go_at_call 52; refine (mkXC hr.out hN.out (by omega) hUg.out hdis.out hs0.out (by decide) lti hB.out).mono ?_; rintro e w2 ⟨rfl, hB2, hF2⟩; rw [hf8.out]; replace hV := Lib.hid (hV.out.fr hF2 (not_four (by omega) (by omega) (by omega) (by omega))); replace hcf := Lib.hid (hcf.out.fr hF2 (not_four (by omega) (by omega) (by omega) (by omega))); replace hh := Lib.hid (hh.out.fr hF2 (not_four (by omega) (by omega) (by omega) (by omega))); have hTT := below_four hT.out hF2 (by have := hT.out.size; omega) (by omega) (by omega) (by omega) (by omega); replace hT := Lib.hid hTT; replace hB := Lib.hid hB2; clear hF2 hB2 hTT)
        go_roundw
        case rel => exact ⟨i + 1, by omega, by go_num, hB.out, hV.out, hcf.out, hh.out, hT.out⟩
        case measure => simp [intOf]; omega
      · have hf8 : (i + 1 == 5 + roomI c) = true := by rw [← hR.out]; simp; omega
        have hjR : i + 1 = 5 + roomI c := by rw [← hR.out]; omega
        replace hf8 := Lib.hid hf8
        replace hjR := Lib.hid hjR
        replace hje := Lib.hid hje
        go_upto_region 9 with (go_at_call 52; refine (mkXC hr.out hN.out (by omega) hUg.out hdis.out hs0.out (by decide) lti hB.out).mono ?_; rintro e w2 ⟨rfl, hB2, hF2⟩; rw [hf8.out]; replace hV := Lib.hid (hV.out.fr hF2 (not_four (by omega) (by omega) (by omega) (by omega))); replace hcf := Lib.hid (hcf.out.fr hF2 (not_four (by omega) (by omega) (by omega) (by omega))); replace hh := Lib.hid (hh.out.fr hF2 (not_four (by omega) (by omega) (by omega) (by omega))); have hTT := below_four hT.out hF2 (by have := hT.out.size; omega) (by omega) (by omega) (by omega) (by omega); replace hT := Lib.hid hTT; replace hB := Lib.hid hB2; clear hF2 hB2 hTT)
        have hB3 := hB.out
        rw [hjR.out] at hB3
        obtain ⟨M, hM', hfM', hk', _, _⟩ := mkX_end hB3
        clear hB hB3 hf
        have hin : M.inn (P : Int) = true := inn_iff.2 ⟨by omega, by rw [hfM'.n]; omega⟩
        have ok := hfM'.ok (by omega) (by have := hje.out; have := hR.out; omega)
        have hM := Lib.hid hM'
        have hfM := Lib.hid hfM'
        have hk := Lib.hid hk'
        clear hM' hfM' hk'
        have hXb := headN_bd hnr.out (g := gr)
        obtain ⟨X, hX⟩ : ∃ X, X = headN kd mk gr ar gn st := ⟨_, rfl⟩
        rw [← hX] at hXb
        replace hX := Lib.hid hX
        obtain ⟨k0, k1, k2, k3, k4, k5⟩ := cfgs hcf.out
        obtain ⟨j0, j1, j2, j3, j4, j5⟩ := hds hh.out
        go_upto_region 11 with (first
          | (go_at_call 56; refine (refHeaderC c _ 0).mono ?_; rintro e w3 ⟨rfl, hb⟩; rw [← hP0.out]; replace hV := Lib.hid (hV.out.below hb hV.out.lt); replace hM := Lib.hid (hM.out.next hb); replace hcf := Lib.hid (hcf.out.below hb hcf.out.lt); replace hh := Lib.hid (hh.out.below hb hh.out.lt); replace hT := Lib.hid (hT.out.trans (hb.mono (by have := hT.out.size; omega))); obtain ⟨k0, k1, k2, k3, k4, k5⟩ := cfgs hcf.out; obtain ⟨j0, j1, j2, j3, j4, j5⟩ := hds hh.out; clear hb)
          | (go_at_call 58; refine (rPack_c kd mk gr ar gn st hnr.out _).mono ?_; rintro e w4 ⟨rfl, hb⟩; rw [← hX.out]; replace hV := Lib.hid (hV.out.below hb hV.out.lt); replace hM := Lib.hid (hM.out.next hb); replace hcf := Lib.hid (hcf.out.below hb hcf.out.lt); replace hh := Lib.hid (hh.out.below hb hh.out.lt); replace hT := Lib.hid (hT.out.trans (hb.mono (by have := hT.out.size; omega))); clear hb)
          | (go_at_call 57; refine (store_c _ m b M (P : Int) hM.out ok X).mono ?_; rintro e w5 ⟨rfl, hM', hF'⟩; replace hV := Lib.hid (hV.out.fr hF' (not_two (by omega) (by omega))); replace hcf := Lib.hid (hcf.out.fr hF' (not_two (by omega) (by omega))); replace hh := Lib.hid (hh.out.fr hF' (not_two (by omega) (by omega))); replace hT := Lib.hid (hT.out.trans (hF'.below (fun k hk => ⟨by have := hT.out.size; omega, not_two (by omega) (by omega)⟩))); replace hM := Lib.hid hM'; have zs5 := hF'.size; clear hM' hF'))
        clear k0 k1 k2 k3 k4 k5 j0 j1 j2 j3 j4 j5
        have hnM := fine_n hr.out hfM.out hN.out
        have hPi : (P : Int) = c.pl 0 0 := by rw [← header_pl hr.out hs0.out]; exact hP0.out
        have hs8 := (st_pl (M := M) hr.out hnM (s := 0) (o := 0) (v := X) hs0.out hz0.out).1
        rw [← hPi] at hs8
        have hs8' : (M.stS (P : Int) X).f = upd M.f P X := by rw [hs8]; congr 1
        have hk2 : Stk c (M.stS (P : Int) X).f 1 (ups 1 d) := by rw [hs8', hPp.out]; exact Stk.off hr.out hk.out hs0.out hz0.out (by decide)
        have hx2 : (M.stS (P : Int) X).f (c.pl 0 0).toNat = X := by rw [hs8', ← hPp.out, upd_eq]
        have hf3 := hfM.out.st (P : Int) (v := X) hXb.1 hXb.2
        have hsn := Lib.hid hf3.n
        have hUf := Lib.hid hf3.u
        clear hs8 hs8' hnM hPi hin ok
        generalize hMg : M.stS (P : Int) X = M2 at *
        clear hMg hk hfM
        have hL0 := hk2.list hr.out
        have hX1 : w5.drew.cell? ⟨CF, 0, none⟩ = some (.int .i64 c.S) ∧ w5.drew.cell? ⟨CF, 1, none⟩ = some (.int .i64 c.A) ∧ w5.drew.cell? ⟨CF, 2, none⟩ = some (.int .i64 c.C) ∧ w5.drew.cell? ⟨CF, 3, none⟩ = some (.int .i64 c.H) ∧ w5.drew.cell? ⟨CF, 4, none⟩ = some (.int .i64 c.G) ∧ w5.drew.cell? ⟨CF, 5, none⟩ = some (.int .i64 c.K) := cfgs hcf.out.drew
        replace hcf := Lib.hid hcf.out.drew
        replace hM := Lib.hid hM.out.drew
        replace hT := Lib.hid hT.out.drew
        replace hh := Lib.hid hh.out.drew
        replace hV := Lib.hid hV.out.drew
        have ltm5 : m < w5.drew.heap.size := hM.out.lm
        have ltb5 : b < w5.drew.heap.size := hM.out.lb
        have ltf5 : f < w5.drew.heap.size := hV.out.lt
        have lth5 : HB < w5.drew.heap.size := hh.out.lt
        replace hk2 := Lib.hid hk2
        replace hx2 := Lib.hid hx2
        replace hf3 := Lib.hid hf3
        replace hL0 := Lib.hid hL0
        go_region_held3 (fun w' => w'.cell? ⟨CF, 0, none⟩ = some (.int .i64 c.S) ∧ w'.cell? ⟨CF, 1, none⟩ = some (.int .i64 c.A) ∧ w'.cell? ⟨CF, 2, none⟩ = some (.int .i64 c.C) ∧ w'.cell? ⟨CF, 3, none⟩ = some (.int .i64 c.H) ∧ w'.cell? ⟨CF, 4, none⟩ = some (.int .i64 c.G) ∧ w'.cell? ⟨CF, 5, none⟩ = some (.int .i64 c.K)) (assumption) (first
          | (go_at_call 24; refine (words_n _ m b N _ hM.out hsn.out (by omega)).mono ?_; rintro e w7 ⟨A1, c1, b1, rfl, _, hR1, hb⟩; replace hV := Lib.hid (hV.out.below hb hV.out.lt); replace hM := Lib.hid (hM.out.next hb); replace hcf := Lib.hid (hcf.out.below hb hcf.out.lt); replace hh := Lib.hid (hh.out.below hb hh.out.lt); replace hT := Lib.hid (hT.out.trans (hb.mono (by have := hT.out.size; omega))); have hY1 := cfgs hcf.out; replace hR1 := Lib.hid hR1; have zs7 := hb.size; clear hb)
          | (go_at_call 30; refine (refListC c _ _ _ _ N M2.f hUf.out hr.out hN.out hR1.out).mono ?_; rintro e w8 ⟨vL, rfl, hL, hb⟩; rw [hL0.out] at hL; replace hV := Lib.hid (hV.out.below hb hV.out.lt); replace hM := Lib.hid (hM.out.next hb); replace hcf := Lib.hid (hcf.out.below hb hcf.out.lt); replace hh := Lib.hid (hh.out.below hb hh.out.lt); replace hT := Lib.hid (hT.out.trans (hb.mono (by have := hT.out.size; omega))); have hY2 := cfgs hcf.out; have zs8 := hb.size; replace hL := Lib.hid hL; clear hb))
        all_goals
          clear hX1 hY1 hY2 hR1
          have zs7' : w5.drew.heap.size ≤ w7.heap.size := zs7
          have hZ0 := Lib.hid (frX_new (lo := w8.heap.size) hs0.out hV.out hM.out hf3.out hk2.out hx2.out)
          have nf : ¬ two m b f := not_two (by omega) (by omega)
          have hnm := Lib.hid (not_zero' d)
          have hTF := hT.out.size
          have hFw := Lib.hid (Fr.refl (frv f m b w8.heap.size) w8)
          have hKb := kF_bd c X
          obtain ⟨K, hK⟩ : ∃ K, K = kF c X := ⟨_, rfl⟩
          rw [← hK] at hKb
          replace hK := Lib.hid hK
          go_upto_region 13 with (fail)
          go_loopw [11] (fun z wr => ∃ i : Nat, i + 1 ≤ K ∧ z = .int .i64 (i : Int) ∧ FrX c wr f m b w8.heap.size N (14 + i) 1 (ups 1 d) 0 X i ∧ Fr (frv f m b w8.heap.size) w8 wr) (fun z _ => 20 - (intOf z).toNat)
          case atStart => exact ⟨0, by omega, rfl, by obtain ⟨a, M, qa, h1, h2, h3, h4, h5, h6⟩ := hZ0.out; exact ⟨a, M, qa, h1, h2, h3, h4, h5, h6.mono (by have := hje.out; have := hR.out; omega)⟩, hFw.out⟩
          case round =>
            obtain ⟨i, hi, rfl, hZ, hFw'⟩ := hrel
            clear hFw hZ0
            have hls := hFw'.size
            have hFw := Lib.hid hFw'
            replace hZ := Lib.hid hZ
            have i40 : (i : Int) < 40 := by omega
            have lti : i < kF c X := by rw [← hK.out]; omega
            rcases (show i + 1 < K ∨ i + 1 = K by omega) with hjl | hjk
            · have hf8 : (i + 1 == kF c X) = false := by rw [← hK.out]; simp; omega
              replace hf8 := Lib.hid hf8
              go_wp2_with (go_at_call 59; refine (frXC hr.out hN.out (by omega) hs0.out hnm.out (by decide) nf hls lti hZ.out).mono ?_; rintro e w12 ⟨rfl, hZ2, hF2⟩; rw [hf8.out]; have zs := hF2.size; replace hFw := Lib.hid (hFw.out.trans hF2); replace hZ := Lib.hid hZ2; clear hF2 hZ2)
              go_roundw
              case rel => exact ⟨i + 1, by omega, by go_num, hZ.out, hFw.out⟩
              case measure => simp [intOf]; omega
            · have hf8 : (i + 1 == kF c X) = true := by rw [← hK.out]; simp; omega
              have hjR : i + 1 = kF c X := by rw [← hK.out]; omega
              replace hf8 := Lib.hid hf8
              replace hjR := Lib.hid hjR
              go_upto_region 15 with (go_at_call 59; refine (frXC hr.out hN.out (by omega) hs0.out hnm.out (by decide) nf hls lti hZ.out).mono ?_; rintro e w12 ⟨rfl, hZ2, hF2⟩; rw [hf8.out]; have zs := hF2.size; replace hFw := Lib.hid (hFw.out.trans hF2); replace hZ := Lib.hid hZ2; clear hF2 hZ2)
              have hZ3 := hZ.out
              rw [hjR.out] at hZ3
              obtain ⟨M3, bk, gv, hM3, hfM3, f0, f1, hcase⟩ := frX_end hZ3
              clear hZ hZ3 hM
              have hh12 := Lib.hid (hh.out.fr hFw.out (not_frv (by omega) (by omega) (by omega) hh.out.lt))
              have hcf12 := Lib.hid (hcf.out.fr hFw.out (not_frv (by omega) (by omega) (by omega) hcf.out.lt))
              have hV12 : w12.cell? ⟨f, 0, none⟩ = some (.bool bk) ∧ w12.cell? ⟨f, 1, none⟩ = some (.bool gv) := ⟨f0, f1⟩
              have hL12 := Lib.hid (li_frv hL.out hFw.out (by omega) (by omega) (by omega))
              have hT12 := Lib.hid (hT.out.trans (hFw.out.below (n := CF) (fun k hk => ⟨by omega, not_frv (by omega) (by omega) (by omega) (by omega)⟩)))
              have hsn3 := Lib.hid hfM3.n
              have hU3 := Lib.hid hfM3.u
              have hM := Lib.hid hM3
              clear hh hcf hL hT hFw hFw' hM3 f0 f1 hf8
              have hYX : ∃ Y, Y = X := ⟨_, rfl⟩
              obtain ⟨Y, hYX⟩ := hYX
              replace hYX := Lib.hid hYX
              have hlen : (ups 1 d).length = d := by simp [ups_len']
              have hlen0 : (ups 1 d).length = d := ups_len' d 1
              obtain ⟨A0, c0', e0⟩ : ∃ A0 c0', vL = .slice A0 d c0' := by
                obtain ⟨A0, c0', e, _⟩ := hL12.out
                exact ⟨A0, c0', by rw [e, hlen0]⟩
              subst e0
              have hPi1 : (P : Int) < (N : Int) := by omega
              have hPi0 : 0 ≤ (P : Int) := by omega
              have hres : bk = false ∧ gv = false ∧ M3.f P = Y ∧ Stk c M3.f 1 (ups 1 d) := by
                rw [hPp.out]
                have hfvX : freedV X c.G = (X, false) := by rw [hX.out]; exact hfv.out c.G
                rw [hfvX] at hcase
                rcases hcase with ⟨_, e1, e2, e3, e4⟩ | ⟨e, _⟩
                · exact ⟨e1, e2, by rw [e3, hYX.out], e4⟩
                · cases e
              obtain ⟨rfl, rfl, hY, hk3'⟩ := hres
              have hLn := Lib.hid (hk3'.list hr.out)
              replace hY := Lib.hid hY
              clear hcase hk3'
              have hM := hM
              have hcf := hcf12
              have hh := hh12
              have hT := hT12
              have lo12 : HB < w12.heap.size := hh.out.lt
              have ltf12 : f < w12.heap.size := by omega
              clear hcf12 hh12 hT12
              obtain ⟨k0, k1, k2, k3, k4, k5⟩ := cfgs hcf.out
              obtain ⟨j0, j1, j2, j3, j4, j5⟩ := hds hh.out
              go_upto_region 17 with (first
                | (go_at_call 24; refine (words_n _ m b N _ hM.out hsn3.out (by omega)).mono ?_; rintro e w13 ⟨A1, c1, b1, rfl, hb10, hR1, hb⟩; have hV13 := (show w13.cell? ⟨f, 0, none⟩ = some (.bool false) ∧ w13.cell? ⟨f, 1, none⟩ = some (.bool false) from ⟨(hb.cell (p := ⟨f, 0, none⟩) ltf12).trans hV12.1, (hb.cell (p := ⟨f, 1, none⟩) ltf12).trans hV12.2⟩); replace hcf := Lib.hid (hcf.out.below hb hcf.out.lt); replace hh := Lib.hid (hh.out.below hb hh.out.lt); replace hT := Lib.hid (hT.out.trans (hb.mono (by have := hT.out.size; omega))); have zs13 := hb.size; have hL13 := Lib.hid (hL12.out.below hb); replace hR1 := Lib.hid hR1; obtain ⟨k0, k1, k2, k3, k4, k5⟩ := cfgs hcf.out; obtain ⟨j0, j1, j2, j3, j4, j5⟩ := hds hh.out; clear hb)
                | (go_at_call 30; refine (refListC c _ _ _ _ N M3.f hU3.out hr.out hN.out hR1.out).mono ?_; rintro e w14 ⟨vB, rfl, hB4, hb⟩; rw [hLn.out] at hB4; have hV14 := (show w14.cell? ⟨f, 0, none⟩ = some (.bool false) ∧ w14.cell? ⟨f, 1, none⟩ = some (.bool false) from ⟨(hb.cell (p := ⟨f, 0, none⟩) (Nat.lt_of_lt_of_le ltf12 zs13)).trans hV13.1, (hb.cell (p := ⟨f, 1, none⟩) (Nat.lt_of_lt_of_le ltf12 zs13)).trans hV13.2⟩); replace hcf := Lib.hid (hcf.out.below hb hcf.out.lt); replace hh := Lib.hid (hh.out.below hb hh.out.lt); replace hT := Lib.hid (hT.out.trans (hb.mono (by have := hT.out.size; omega))); have zs14 := hb.size; have hL14 := Lib.hid (hL13.out.below hb); replace hR1 := Lib.hid (hR1.out.below hb (Nat.le_refl _)); replace hB4 := Lib.hid hB4; obtain ⟨k0, k1, k2, k3, k4, k5⟩ := cfgs hcf.out; obtain ⟨j0, j1, j2, j3, j4, j5⟩ := hds hh.out; clear hb))
              obtain ⟨A2, c2, e2⟩ : ∃ A2 c2, vB = .slice A2 (d) c2 := by
                obtain ⟨A2, c2, e, _⟩ := hB4.out
                exact ⟨A2, c2, by rw [e, hlen]⟩
              subst e2
              obtain ⟨hA1, hrow, _⟩ := hR1.out.cell hPN
              subst hA1
              rw [hY.out] at hrow
              go_upto_region 18 with (fail)
              have hX2 : w14.cell? ⟨f, 0, none⟩ = some (.bool false) ∧ w14.cell? ⟨f, 1, none⟩ = some (.bool false) ∧ w14.cell? ⟨b1, P, none⟩ = some (.int .u64 Y) ∧ w14.cell? ⟨HB, 0, none⟩ = some (.int .i64 kd) ∧ w14.cell? ⟨HB, 1, none⟩ = some (.int .i64 mk) ∧ w14.cell? ⟨HB, 2, none⟩ = some (.bool gr) ∧ w14.cell? ⟨HB, 3, none⟩ = some (.int .i64 ar) ∧ w14.cell? ⟨HB, 4, none⟩ = some (.int .i64 gn) ∧ w14.cell? ⟨HB, 5, none⟩ = some (.int .i64 st) := ⟨hV14.1, hV14.2, hrow, hds hh.out⟩
              clear k0 k1 k2 k3 k4 k5 j0 j1 j2 j3 j4 j5 hV12 hV13 hV14 hrow hR1 hL12 hL13 hcf hh
              have hX3 : w14.drew.cell? ⟨f, 0, none⟩ = some (.bool false) ∧ w14.drew.cell? ⟨f, 1, none⟩ = some (.bool false) ∧ w14.drew.cell? ⟨b1, P, none⟩ = some (.int .u64 Y) ∧ w14.drew.cell? ⟨HB, 0, none⟩ = some (.int .i64 kd) ∧ w14.drew.cell? ⟨HB, 1, none⟩ = some (.int .i64 mk) ∧ w14.drew.cell? ⟨HB, 2, none⟩ = some (.bool gr) ∧ w14.drew.cell? ⟨HB, 3, none⟩ = some (.int .i64 ar) ∧ w14.drew.cell? ⟨HB, 4, none⟩ = some (.int .i64 gn) ∧ w14.drew.cell? ⟨HB, 5, none⟩ = some (.int .i64 st) := hX2
              clear hX2
              have hsz15 := hT.out.size
              replace hT := Lib.hid hT.out.drew
              replace hL14 := Lib.hid (show Li w14.drew _ _ _ from hL14.out)
              replace hB4 := Lib.hid (show Li w14.drew _ _ _ from hB4.out)
              have hbw := Lib.hid (Below.refl w14.drew.heap.size w14.drew)
              have hSS : ∀ w', Below w14.drew.heap.size w14.drew w' → w'.cell? ⟨f, 0, none⟩ = some (.bool false) ∧ w'.cell? ⟨f, 1, none⟩ = some (.bool false) ∧ w'.cell? ⟨b1, P, none⟩ = some (.int .u64 Y) ∧ w'.cell? ⟨HB, 0, none⟩ = some (.int .i64 kd) ∧ w'.cell? ⟨HB, 1, none⟩ = some (.int .i64 mk) ∧ w'.cell? ⟨HB, 2, none⟩ = some (.bool gr) ∧ w'.cell? ⟨HB, 3, none⟩ = some (.int .i64 ar) ∧ w'.cell? ⟨HB, 4, none⟩ = some (.int .i64 gn) ∧ w'.cell? ⟨HB, 5, none⟩ = some (.int .i64 st) := fun w' hb => by
                obtain ⟨x0, x1, x2, x3, x4, x5, x6, x7, x8⟩ := hX3
                have e : ∀ (k i : Nat) (v : Value), w14.drew.cell? ⟨k, i, none⟩ = some v → w'.cell? ⟨k, i, none⟩ = some v := fun k i v h => (hb.cell (p := ⟨k, i, none⟩) (Opens.cell_lt h)).trans h
                exact ⟨e _ _ _ x0, e _ _ _ x1, e _ _ _ x2, e _ _ _ x3, e _ _ _ x4, e _ _ _ x5, e _ _ _ x6, e _ _ _ x7, e _ _ _ x8⟩
              replace hSS := Lib.hid hSS
              go_region_held3 (fun w' => w'.cell? ⟨f, 0, none⟩ = some (.bool false) ∧ w'.cell? ⟨f, 1, none⟩ = some (.bool false) ∧ w'.cell? ⟨b1, P, none⟩ = some (.int .u64 Y) ∧ w'.cell? ⟨HB, 0, none⟩ = some (.int .i64 kd) ∧ w'.cell? ⟨HB, 1, none⟩ = some (.int .i64 mk) ∧ w'.cell? ⟨HB, 2, none⟩ = some (.bool gr) ∧ w'.cell? ⟨HB, 3, none⟩ = some (.int .i64 ar) ∧ w'.cell? ⟨HB, 4, none⟩ = some (.int .i64 gn) ∧ w'.cell? ⟨HB, 5, none⟩ = some (.int .i64 st)) (assumption) (first
                | (go_at_call 58; refine (rPack_c kd mk gr ar gn st hnr.out _).mono ?_; rintro e w16 ⟨rfl, hb⟩; rw [← hX.out, ← hYX.out]; (try replace hL14 := Lib.hid (hL14.out.below hb)); (try replace hB4 := Lib.hid (hB4.out.below hb)); replace hbw := Lib.hid (hbw.out.trans (hb.mono hbw.out.size)); have hY1 := hSS.out _ hbw.out; replace hT := Lib.hid (hT.out.trans (hb.mono (by have := hT.out.size; omega))); clear hb)
                | (go_at_call 28; refine (sameC _ _ _ _ _ _ _ hL14.out hB4.out).mono ?_; rintro e w17 ⟨rfl, hb⟩; rw [decide_eq_true rfl]; replace hL14 := Lib.hid (hL14.out.below hb); replace hB4 := Lib.hid (hB4.out.below hb); replace hbw := Lib.hid (hbw.out.trans (hb.mono hbw.out.size)); have hY2 := hSS.out _ hbw.out; replace hT := Lib.hid (hT.out.trans (hb.mono (by have := hT.out.size; omega))); clear hb))
              all_goals
                clear hX3
                go_wp2
                go_ret
                exact ⟨rfl, hT.out⟩
set_option maxHeartbeats 4000000 in
set_option maxRecDepth 100000 in
theorem frees_3 (c0 : Cf) (mk : Int) (gr : Bool) (ar gn st : Int) (w : World) (hnr0 : hdRight 3 mk ar gn st) : Calls Try.prog 16 #[.agg #[.int .i64 c0.S, .int .i64 c0.A, .int .i64 c0.C, .int .i64 c0.H, .int .i64 c0.G, .int .i64 c0.K], .agg #[.int .i64 3, .int .i64 mk, .bool gr, .int .i64 ar, .int .i64 gn, .int .i64 st]] w fun e w' => e = .returned (.bool true) ∧ Below w.heap.size w w' := by
  have hf0 := Lib.hid ((Blk.new w 23 #[.int .i64 c0.S, .int .i64 c0.A, .int .i64 c0.C, .int .i64 c0.H, .int .i64 c0.G, .int .i64 c0.K]).alloc (.cells #[.int .i64 3, .int .i64 mk, .bool gr, .int .i64 ar, .int .i64 gn, .int .i64 st] 85))
  have hh0 := Lib.hid (Blk.new (w.alloc (.cells #[.int .i64 c0.S, .int .i64 c0.A, .int .i64 c0.C, .int .i64 c0.H, .int .i64 c0.G, .int .i64 c0.K] 23)) 85 #[.int .i64 3, .int .i64 mk, .bool gr, .int .i64 ar, .int .i64 gn, .int .i64 st])
  have hT0 := Lib.hid (((Below.refl w.heap.size w).alloc (Nat.le_refl _) (.cells #[.int .i64 c0.S, .int .i64 c0.A, .int .i64 c0.C, .int .i64 c0.H, .int .i64 c0.G, .int .i64 c0.K] 23)).alloc (by simp) (.cells #[.int .i64 3, .int .i64 mk, .bool gr, .int .i64 ar, .int .i64 gn, .int .i64 st] 85))
  have hHB : (w.alloc (.cells #[.int .i64 c0.S, .int .i64 c0.A, .int .i64 c0.C, .int .i64 c0.H, .int .i64 c0.G, .int .i64 c0.K] 23)).heap.size = w.heap.size + 1 := by simp
  rw [hHB] at hh0
  have hnr := Lib.hid hnr0
  have hk1 : ((3 : Int) != 3) = false := rfl
  have hfv := Lib.hid (fun G (h : G ≤ gn + 1) => freed_d (g := gr) (G := G) hnr0 h)
  have hfb := Lib.hid (fun G (h : ¬ G ≤ gn + 1) (h2 : G ≤ 1000) => freed_b (g := gr) (G := G) hnr0 h h2)
  have hn4 := Lib.hid (show hdRight 4 mk ar gn st from ⟨by decide, by decide, hnr0.2.2⟩)
  have hgb : 0 ≤ gn ∧ gn ≤ 4294967295 := by have := hnr0; unfold hdRight at this; omega
  clear hnr0
  go_enter Try.func16, Try.ntmps16
  have hHB2 : ∃ HB, HB = w.heap.size + 1 := ⟨_, rfl⟩
  obtain ⟨HB, hHB2⟩ := hHB2
  generalize hCFe : w.heap.size = CF at *
  rw [← hHB2] at hHB hh0
  have hCH : CF < HB := by omega
  replace hHB2 := Lib.hid hHB2
  go_upto_region 3 with (first
    | (go_at_call 31; refine (fitC c0 _).mono ?_; rintro e w1 ⟨c, rfl, hs, hb1⟩; have hr := small_right hs; replace hh0 := Lib.hid (hh0.out.below hb1 hh0.out.lt); have hf1 := hf0.out.below hb1 hf0.out.lt; obtain ⟨k0, k1, k2, k3, k4, k5⟩ := cfgs hf1; have z0 := hf1.frozen 0; have z1 := hf1.frozen 1; have z2 := hf1.frozen 2; have z3 := hf1.frozen 3; have z4 := hf1.frozen 4; have z5 := hf1.frozen 5; replace hf1 := Lib.hid hf1; replace hT0 := Lib.hid (hT0.out.trans (hb1.mono (by have := hT0.out.size; omega))); clear hb1; replace hr := Lib.hid hr; replace hs := Lib.hid hs)
    | (go_at_call 20; (show Calls _ _ _ (six w1 CF c) _); clear k0 k1 k2 k3 k4 k5 z0 z1 z2 z3 z4 z5; have hh2 := six_other (c := c) hh0.out (b := CF) (by omega); have hf2 := six_blk (c := c) hf1.out; have hT2 := six_below (c := c) hT0.out (b := CF) (by omega); generalize six w1 CF c = w2 at *; refine (memC c _ hr.out).mono ?_; rintro e w3 ⟨m, b, rfl, hM3, hm, hb, hb3⟩; have hf3 := hf2.below hb3 hf2.lt; have lt3 := hf2.lt; have lt3h := hh2.lt; have hh3 := Lib.hid (hh2.below hb3 hh2.lt); replace hT2 := Lib.hid (hT2.trans (hb3.mono (by have := hT2.size; omega))); have hcf := Lib.hid hf3; replace hM3 := Lib.hid hM3; clear hb3 hf2 hf3 hh2))
  obtain ⟨N, hN⟩ : ∃ N : Nat, (N : Int) = c.size := ⟨c.size.toNat, by have := size_bd hr.out; unfold Cf.size; omega⟩
  have hN8 := N_bd hr.out hN
  have hSb := S_bd hr.out
  have hAb := hs.out.2.1
  have hGb := hs.out.2.2.2.2.1
  have hf := Lib.hid (fine_of (n := N) (memF_U c.A c.C c.H (c.S - 1).toNat (by omega)))
  have hM : MemB w3 m b (Ms.of N (memF c.A c.C c.H (c.S - 1).toNat)) := by
    have := hM3.out
    rw [← hN, Int.toNat_natCast] at this
    exact this
  replace hM := Lib.hid hM
  have hT := hT2
  have hh := hh3
  have ltm := hM.out.lm
  have ltb := hM.out.lb
  have mCF : HB < m := by omega
  have bCF : HB < b := by omega
  have hs0 : (0 : Int) ≤ 0 ∧ (0 : Int) < c.S := by omega
  have hrm := room_bd hr.out
  have hz0 : (0 : Int) ≤ 0 ∧ (0 : Int) < roomV c.A := by omega
  have hplb := pl_bd hr.out hs0 hz0
  obtain ⟨P, hP0⟩ : ∃ P : Nat, (P : Int) = c.header 0 := ⟨(c.header 0).toNat, by rw [header_pl hr.out hs0]; omega⟩
  have hPp : P = (c.pl 0 0).toNat := by rw [← header_pl hr.out hs0, ← hP0]; omega
  have hPN : P < N := by rw [header_pl hr.out hs0] at hP0; omega
  have hr3 := (room_i hr.out).1
  have hr8 := (room_i hr.out).2.1
  obtain ⟨d, hd⟩ : ∃ d, c.S.toNat = d + 1 := ⟨c.S.toNat - 1, by omega⟩
  have hst := stk_start hr.out
  rw [hd] at hst
  change Stk c _ 0 (0 :: ups 1 d) at hst
  have hcan : canM c 1 0 0 := ⟨hr.out, Int.le_refl 0, Nat.zero_le _, .inl ⟨rfl, hAb.1⟩⟩
  have hUg := Lib.hid (U_pad 0 (fun _ => 0) (fun j hj => absurd hj (by omega)))
  have hG40 : c.G ≤ 1000 := by omega
  have hd63 : d ≤ 63 := by omega
  obtain ⟨R, hR⟩ : ∃ R, R = roomI c := ⟨_, rfl⟩
  rw [← hR] at hr3 hr8
  replace hR := Lib.hid hR
  replace hcan := Lib.hid hcan
  replace hst := Lib.hid hst
  replace hP0 := Lib.hid hP0
  replace hPp := Lib.hid hPp
  replace hN := Lib.hid hN
  replace hd := Lib.hid hd
  replace hz0 := Lib.hid hz0
  replace hs0 := Lib.hid hs0
  clear hM3 hT0 hf1 hf0 hT2 hSb hAb hGb hrm hplb hh0 hh3 hHB hs
  replace hcf := Lib.hid hcf.out.drew
  replace hM := Lib.hid hM.out.drew
  replace hT := Lib.hid hT.out.drew
  replace hh := Lib.hid hh.out.drew
  have lt1' : CF < w3.drew.heap.size := hcf.out.lt
  have ltm' : m < w3.drew.heap.size := ltm
  have ltb' : b < w3.drew.heap.size := ltb
  have lth' : HB < w3.drew.heap.size := hh.out.lt
  go_cut [6, 7] (fun va vb wx => ∃ p q r f, va = .pointer (some ⟨p, 0, none⟩) ∧ vb = .pointer (some ⟨f, 0, none⟩) ∧ PopB wx q c ⟨-1, false, 0, 0, 0⟩ ∧ Blk wx p 82 (makeA c (-1) false 1 0 0 (.slice (some ⟨r, 0, none⟩) (roomI c) (roomI c)) (some ⟨q, 0, none⟩) 0 0 0) ∧ RowB wx (some ⟨r, 0, none⟩) (roomI c) r (roomI c) (padF 0 (fun _ => 0)) ∧ Blk wx f 95 (freeA c false false 0 0 none 1) ∧ MemB wx m b (Ms.of N (memF c.A c.C c.H (c.S - 1).toNat)) ∧ Blk wx CF 23 #[.int .i64 c.S, .int .i64 c.A, .int .i64 c.C, .int .i64 c.H, .int .i64 c.G, .int .i64 c.K] ∧ Blk wx HB 85 #[.int .i64 3, .int .i64 mk, .bool gr, .int .i64 ar, .int .i64 gn, .int .i64 st] ∧ Below CF w wx ∧ (w3.drew.heap.size ≤ r ∧ r < q ∧ q < p ∧ w3.drew.heap.size ≤ f ∧ (f < r ∨ p < f)))
  case first =>
    have hX : w3.drew.cell? ⟨CF, 0, none⟩ = some (.int .i64 c.S) ∧ w3.drew.cell? ⟨CF, 1, none⟩ = some (.int .i64 c.A) ∧ w3.drew.cell? ⟨CF, 2, none⟩ = some (.int .i64 c.C) ∧ w3.drew.cell? ⟨CF, 3, none⟩ = some (.int .i64 c.H) ∧ w3.drew.cell? ⟨CF, 4, none⟩ = some (.int .i64 c.G) ∧ w3.drew.cell? ⟨CF, 5, none⟩ = some (.int .i64 c.K) := cfgs hcf.out
    go_region_held3 (fun w' => w'.cell? ⟨CF, 0, none⟩ = some (.int .i64 c.S) ∧ w'.cell? ⟨CF, 1, none⟩ = some (.int .i64 c.A) ∧ w'.cell? ⟨CF, 2, none⟩ = some (.int .i64 c.C) ∧ w'.cell? ⟨CF, 3, none⟩ = some (.int .i64 c.H) ∧ w'.cell? ⟨CF, 4, none⟩ = some (.int .i64 c.G) ∧ w'.cell? ⟨CF, 5, none⟩ = some (.int .i64 c.K)) (assumption) (first
      | (go_at_call 51; refine (newMakeC c _ 1 0 0 none 0 0 (fun _ => 0) (sl_nil _ _) hcan.out).mono ?_; rintro e w4 ⟨p, q, r, rfl, g1, g2, g3, hQ, hP, hRow, hb4⟩; replace hcf := Lib.hid (hcf.out.below hb4 hcf.out.lt); have hY1 := cfgs hcf.out; (try replace hV := Lib.hid (hV.out.below hb4 hV.out.lt)); replace hM := Lib.hid (hM.out.next hb4); replace hh := Lib.hid (hh.out.below hb4 hh.out.lt); replace hT := Lib.hid (hT.out.trans (hb4.mono (by have := hT.out.size; omega))); have lt1 := hP.lt; have zz1 := hb4.size; replace hP := Lib.hid hP; replace hQ := Lib.hid hQ; replace hRow := Lib.hid hRow; clear hb4)
      | (go_at_call 54; refine (newFreeC c _ 0 (by rw [← hP0.out]; omega)).mono ?_; rintro e w5 ⟨f, rfl, g4, hV, hb5⟩; replace hcf := Lib.hid (hcf.out.below hb5 hcf.out.lt); have hY2 := cfgs hcf.out; (try (replace hP := Lib.hid (hP.out.below hb5 hP.out.lt); replace hQ := Lib.hid (Blk.below hQ.out hb5 (Blk.lt hQ.out)); replace hRow := Lib.hid (hRow.out.below hb5 (Nat.le_refl _)))); replace hM := Lib.hid (hM.out.next hb5); replace hh := Lib.hid (hh.out.below hb5 hh.out.lt); replace hT := Lib.hid (hT.out.trans (hb5.mono (by have := hT.out.size; omega))); have lt2 := hV.lt; have zz2 := hb5.size; replace hV := Lib.hid hV; clear hb5))
    all_goals
      clear hX hY1 hY2
      go_wp2
      go_meet
      case rel => exact ⟨p, q, r, f, rfl, rfl, hQ.out, hP.out, hRow.out, hV.out, hM.out, hcf.out, hh.out, hT.out, by omega⟩
  case rest =>
    obtain ⟨p, q, r, f, rfl, rfl, hQ, hP, hRow, hV, hM2, hcf2, hh2, hT2, g1, g2, g3, g4, g5⟩ := hcut
    clear hM hT hcf hh
    have hdis := Lib.hid (nodis ltm' ltb' g1 g2 g3)
    have hX0 := Lib.hid (mkX_new (T := 0) hr.out hQ hP hRow hM2 hf.out hst.out ⟨by decide, by decide⟩ (by decide))
    have hV := Lib.hid hV
    have hcf := Lib.hid hcf2
    have hh := Lib.hid hh2
    have hT := Lib.hid hT2
    clear hQ hP hRow hM2 hcf2 hh2 hT2
    obtain ⟨k0, k1, k2, k3, k4, k5⟩ := cfgs hcf.out
    obtain ⟨j0, j1, j2, j3, j4, j5⟩ := hds hh.out
    replace hf := Lib.hid hf.out
    clear k0 k1 k2 k3 k4 k5 j0 j1 j2 j3 j4 j5
    obtain ⟨j0, j1, j2, j3, j4, j5⟩ := hds hh.out
    go_upto_region 7 with (go_at_call 55; refine (rHRight_yes 3 mk gr ar gn st _ hnr.out).mono ?_; rintro e w6 ⟨rfl, hb⟩; replace hV := Lib.hid (hV.out.below hb hV.out.lt); replace hX0 := Lib.hid (hX0.out.below hb); replace hcf := Lib.hid (hcf.out.below hb hcf.out.lt); replace hh := Lib.hid (hh.out.below hb hh.out.lt); replace hT := Lib.hid (hT.out.trans (hb.mono (by have := hT.out.size; omega))); clear hb)
    clear j0 j1 j2 j3 j4 j5
    go_loopw [8] (fun z wr => ∃ i : Nat, i ≤ 4 + R ∧ z = .int .i64 (i : Int) ∧ MkX c wr p q r m b N i (padF 0 (fun _ => 0)) 0 0 (ups 1 d) i ∧ Blk wr f 95 (freeA c false false 0 0 none 1) ∧ Blk wr CF 23 #[.int .i64 c.S, .int .i64 c.A, .int .i64 c.C, .int .i64 c.H, .int .i64 c.G, .int .i64 c.K] ∧ Blk wr HB 85 #[.int .i64 3, .int .i64 mk, .bool gr, .int .i64 ar, .int .i64 gn, .int .i64 st] ∧ Below CF w wr) (fun z _ => 20 - (intOf z).toNat)
    case atStart => exact ⟨0, by omega, rfl, hX0.out, hV.out, hcf.out, hh.out, hT.out⟩
    case round =>
      obtain ⟨i, hi, rfl, hB, hV', hC', hh', hT'⟩ := hrel
      clear hX0 hV hcf hh hT
      have hV := Lib.hid hV'
      have hcf := Lib.hid hC'
      have hh := Lib.hid hh'
      have hT := Lib.hid hT'
      replace hB := Lib.hid hB
      have i40 : (i : Int) < 40 := by omega
      have lti : i < 5 + roomI c := by rw [← hR.out]; omega
      clear hV' hC' hh' hT'
      rcases (show i < 4 + R ∨ i = 4 + R by omega) with hjl | hje
      · have hf8 : (i + 1 == 5 + roomI c) = false := by rw [← hR.out]; simp; omega
        replace hf8 := Lib.hid hf8
        go_wp2_with (go_at_call 52; refine (mkXC hr.out hN.out (by omega) hUg.out hdis.out hs0.out (by decide) lti hB.out).mono ?_; rintro e w2 ⟨rfl, hB2, hF2⟩; rw [hf8.out]; replace hV := Lib.hid (hV.out.fr hF2 (not_four (by omega) (by omega) (by omega) (by omega))); replace hcf := Lib.hid (hcf.out.fr hF2 (not_four (by omega) (by omega) (by omega) (by omega))); replace hh := Lib.hid (hh.out.fr hF2 (not_four (by omega) (by omega) (by omega) (by omega))); have hTT := below_four hT.out hF2 (by have := hT.out.size; omega) (by omega) (by omega) (by omega) (by omega); replace hT := Lib.hid hTT; replace hB := Lib.hid hB2; clear hF2 hB2 hTT)
        go_roundw
        case rel => exact ⟨i + 1, by omega, by go_num, hB.out, hV.out, hcf.out, hh.out, hT.out⟩
        case measure => simp [intOf]; omega
      · have hf8 : (i + 1 == 5 + roomI c) = true := by rw [← hR.out]; simp; omega
        have hjR : i + 1 = 5 + roomI c := by rw [← hR.out]; omega
        replace hf8 := Lib.hid hf8
        replace hjR := Lib.hid hjR
        replace hje := Lib.hid hje
        go_upto_region 9 with (go_at_call 52; refine (mkXC hr.out hN.out (by omega) hUg.out hdis.out hs0.out (by decide) lti hB.out).mono ?_; rintro e w2 ⟨rfl, hB2, hF2⟩; rw [hf8.out]; replace hV := Lib.hid (hV.out.fr hF2 (not_four (by omega) (by omega) (by omega) (by omega))); replace hcf := Lib.hid (hcf.out.fr hF2 (not_four (by omega) (by omega) (by omega) (by omega))); replace hh := Lib.hid (hh.out.fr hF2 (not_four (by omega) (by omega) (by omega) (by omega))); have hTT := below_four hT.out hF2 (by have := hT.out.size; omega) (by omega) (by omega) (by omega) (by omega); replace hT := Lib.hid hTT; replace hB := Lib.hid hB2; clear hF2 hB2 hTT)
        have hB3 := hB.out
        rw [hjR.out] at hB3
        obtain ⟨M, hM', hfM', hk', _, _⟩ := mkX_end hB3
        clear hB hB3 hf
        have hin : M.inn (P : Int) = true := inn_iff.2 ⟨by omega, by rw [hfM'.n]; omega⟩
        have ok := hfM'.ok (by omega) (by have := hje.out; have := hR.out; omega)
        have hM := Lib.hid hM'
        have hfM := Lib.hid hfM'
        have hk := Lib.hid hk'
        clear hM' hfM' hk'
        have hXb := headN_bd hnr.out (g := gr)
        obtain ⟨X, hX⟩ : ∃ X, X = headN 3 mk gr ar gn st := ⟨_, rfl⟩
        rw [← hX] at hXb
        replace hX := Lib.hid hX
        obtain ⟨k0, k1, k2, k3, k4, k5⟩ := cfgs hcf.out
        obtain ⟨j0, j1, j2, j3, j4, j5⟩ := hds hh.out
        go_upto_region 11 with (first
          | (go_at_call 56; refine (refHeaderC c _ 0).mono ?_; rintro e w3 ⟨rfl, hb⟩; rw [← hP0.out]; replace hV := Lib.hid (hV.out.below hb hV.out.lt); replace hM := Lib.hid (hM.out.next hb); replace hcf := Lib.hid (hcf.out.below hb hcf.out.lt); replace hh := Lib.hid (hh.out.below hb hh.out.lt); replace hT := Lib.hid (hT.out.trans (hb.mono (by have := hT.out.size; omega))); obtain ⟨k0, k1, k2, k3, k4, k5⟩ := cfgs hcf.out; obtain ⟨j0, j1, j2, j3, j4, j5⟩ := hds hh.out; clear hb)
          | (go_at_call 58; refine (rPack_c 3 mk gr ar gn st hnr.out _).mono ?_; rintro e w4 ⟨rfl, hb⟩; rw [← hX.out]; replace hV := Lib.hid (hV.out.below hb hV.out.lt); replace hM := Lib.hid (hM.out.next hb); replace hcf := Lib.hid (hcf.out.below hb hcf.out.lt); replace hh := Lib.hid (hh.out.below hb hh.out.lt); replace hT := Lib.hid (hT.out.trans (hb.mono (by have := hT.out.size; omega))); clear hb)
          | (go_at_call 57; refine (store_c _ m b M (P : Int) hM.out ok X).mono ?_; rintro e w5 ⟨rfl, hM', hF'⟩; replace hV := Lib.hid (hV.out.fr hF' (not_two (by omega) (by omega))); replace hcf := Lib.hid (hcf.out.fr hF' (not_two (by omega) (by omega))); replace hh := Lib.hid (hh.out.fr hF' (not_two (by omega) (by omega))); replace hT := Lib.hid (hT.out.trans (hF'.below (fun k hk => ⟨by have := hT.out.size; omega, not_two (by omega) (by omega)⟩))); replace hM := Lib.hid hM'; have zs5 := hF'.size; clear hM' hF'))
        clear k0 k1 k2 k3 k4 k5 j0 j1 j2 j3 j4 j5
        have hnM := fine_n hr.out hfM.out hN.out
        have hPi : (P : Int) = c.pl 0 0 := by rw [← header_pl hr.out hs0.out]; exact hP0.out
        have hs8 := (st_pl (M := M) hr.out hnM (s := 0) (o := 0) (v := X) hs0.out hz0.out).1
        rw [← hPi] at hs8
        have hs8' : (M.stS (P : Int) X).f = upd M.f P X := by rw [hs8]; congr 1
        have hk2 : Stk c (M.stS (P : Int) X).f 1 (ups 1 d) := by rw [hs8', hPp.out]; exact Stk.off hr.out hk.out hs0.out hz0.out (by decide)
        have hx2 : (M.stS (P : Int) X).f (c.pl 0 0).toNat = X := by rw [hs8', ← hPp.out, upd_eq]
        have hf3 := hfM.out.st (P : Int) (v := X) hXb.1 hXb.2
        have hsn := Lib.hid hf3.n
        have hUf := Lib.hid hf3.u
        clear hs8 hs8' hnM hPi hin ok
        generalize hMg : M.stS (P : Int) X = M2 at *
        clear hMg hk hfM
        have hL0 := hk2.list hr.out
        have hX1 : w5.drew.cell? ⟨CF, 0, none⟩ = some (.int .i64 c.S) ∧ w5.drew.cell? ⟨CF, 1, none⟩ = some (.int .i64 c.A) ∧ w5.drew.cell? ⟨CF, 2, none⟩ = some (.int .i64 c.C) ∧ w5.drew.cell? ⟨CF, 3, none⟩ = some (.int .i64 c.H) ∧ w5.drew.cell? ⟨CF, 4, none⟩ = some (.int .i64 c.G) ∧ w5.drew.cell? ⟨CF, 5, none⟩ = some (.int .i64 c.K) := cfgs hcf.out.drew
        replace hcf := Lib.hid hcf.out.drew
        replace hM := Lib.hid hM.out.drew
        replace hT := Lib.hid hT.out.drew
        replace hh := Lib.hid hh.out.drew
        replace hV := Lib.hid hV.out.drew
        have ltm5 : m < w5.drew.heap.size := hM.out.lm
        have ltb5 : b < w5.drew.heap.size := hM.out.lb
        have ltf5 : f < w5.drew.heap.size := hV.out.lt
        have lth5 : HB < w5.drew.heap.size := hh.out.lt
        replace hk2 := Lib.hid hk2
        replace hx2 := Lib.hid hx2
        replace hf3 := Lib.hid hf3
        replace hL0 := Lib.hid hL0
        go_region_held3 (fun w' => w'.cell? ⟨CF, 0, none⟩ = some (.int .i64 c.S) ∧ w'.cell? ⟨CF, 1, none⟩ = some (.int .i64 c.A) ∧ w'.cell? ⟨CF, 2, none⟩ = some (.int .i64 c.C) ∧ w'.cell? ⟨CF, 3, none⟩ = some (.int .i64 c.H) ∧ w'.cell? ⟨CF, 4, none⟩ = some (.int .i64 c.G) ∧ w'.cell? ⟨CF, 5, none⟩ = some (.int .i64 c.K)) (assumption) (first
          | (go_at_call 24; refine (words_n _ m b N _ hM.out hsn.out (by omega)).mono ?_; rintro e w7 ⟨A1, c1, b1, rfl, _, hR1, hb⟩; replace hV := Lib.hid (hV.out.below hb hV.out.lt); replace hM := Lib.hid (hM.out.next hb); replace hcf := Lib.hid (hcf.out.below hb hcf.out.lt); replace hh := Lib.hid (hh.out.below hb hh.out.lt); replace hT := Lib.hid (hT.out.trans (hb.mono (by have := hT.out.size; omega))); have hY1 := cfgs hcf.out; replace hR1 := Lib.hid hR1; have zs7 := hb.size; clear hb)
          | (go_at_call 30; refine (refListC c _ _ _ _ N M2.f hUf.out hr.out hN.out hR1.out).mono ?_; rintro e w8 ⟨vL, rfl, hL, hb⟩; rw [hL0.out] at hL; replace hV := Lib.hid (hV.out.below hb hV.out.lt); replace hM := Lib.hid (hM.out.next hb); replace hcf := Lib.hid (hcf.out.below hb hcf.out.lt); replace hh := Lib.hid (hh.out.below hb hh.out.lt); replace hT := Lib.hid (hT.out.trans (hb.mono (by have := hT.out.size; omega))); have hY2 := cfgs hcf.out; have zs8 := hb.size; replace hL := Lib.hid hL; clear hb))
        all_goals
          clear hX1 hY1 hY2 hR1
          have zs7' : w5.drew.heap.size ≤ w7.heap.size := zs7
          have hZ0 := Lib.hid (frX_new (lo := w8.heap.size) hs0.out hV.out hM.out hf3.out hk2.out hx2.out)
          have nf : ¬ two m b f := not_two (by omega) (by omega)
          have hnm := Lib.hid (not_zero' d)
          have hTF := hT.out.size
          have hFw := Lib.hid (Fr.refl (frv f m b w8.heap.size) w8)
          have hKb := kF_bd c X
          obtain ⟨K, hK⟩ : ∃ K, K = kF c X := ⟨_, rfl⟩
          rw [← hK] at hKb
          replace hK := Lib.hid hK
          go_upto_region 13 with (fail)
          go_loopw [11] (fun z wr => ∃ i : Nat, i + 1 ≤ K ∧ z = .int .i64 (i : Int) ∧ FrX c wr f m b w8.heap.size N (14 + i) 1 (ups 1 d) 0 X i ∧ Fr (frv f m b w8.heap.size) w8 wr) (fun z _ => 20 - (intOf z).toNat)
          case atStart => exact ⟨0, by omega, rfl, by obtain ⟨a, M, qa, h1, h2, h3, h4, h5, h6⟩ := hZ0.out; exact ⟨a, M, qa, h1, h2, h3, h4, h5, h6.mono (by have := hje.out; have := hR.out; omega)⟩, hFw.out⟩
          case round =>
            obtain ⟨i, hi, rfl, hZ, hFw'⟩ := hrel
            clear hFw hZ0
            have hls := hFw'.size
            have hFw := Lib.hid hFw'
            replace hZ := Lib.hid hZ
            have i40 : (i : Int) < 40 := by omega
            have lti : i < kF c X := by rw [← hK.out]; omega
            rcases (show i + 1 < K ∨ i + 1 = K by omega) with hjl | hjk
            · have hf8 : (i + 1 == kF c X) = false := by rw [← hK.out]; simp; omega
              replace hf8 := Lib.hid hf8
              go_wp2_with (go_at_call 59; refine (frXC hr.out hN.out (by omega) hs0.out hnm.out (by decide) nf hls lti hZ.out).mono ?_; rintro e w12 ⟨rfl, hZ2, hF2⟩; rw [hf8.out]; have zs := hF2.size; replace hFw := Lib.hid (hFw.out.trans hF2); replace hZ := Lib.hid hZ2; clear hF2 hZ2)
              go_roundw
              case rel => exact ⟨i + 1, by omega, by go_num, hZ.out, hFw.out⟩
              case measure => simp [intOf]; omega
            · have hf8 : (i + 1 == kF c X) = true := by rw [← hK.out]; simp; omega
              have hjR : i + 1 = kF c X := by rw [← hK.out]; omega
              replace hf8 := Lib.hid hf8
              replace hjR := Lib.hid hjR
              go_upto_region 15 with (go_at_call 59; refine (frXC hr.out hN.out (by omega) hs0.out hnm.out (by decide) nf hls lti hZ.out).mono ?_; rintro e w12 ⟨rfl, hZ2, hF2⟩; rw [hf8.out]; have zs := hF2.size; replace hFw := Lib.hid (hFw.out.trans hF2); replace hZ := Lib.hid hZ2; clear hF2 hZ2)
              have hZ3 := hZ.out
              rw [hjR.out] at hZ3
              obtain ⟨M3, bk, gv, hM3, hfM3, f0, f1, hcase⟩ := frX_end hZ3
              clear hZ hZ3 hM
              have hh12 := Lib.hid (hh.out.fr hFw.out (not_frv (by omega) (by omega) (by omega) hh.out.lt))
              have hcf12 := Lib.hid (hcf.out.fr hFw.out (not_frv (by omega) (by omega) (by omega) hcf.out.lt))
              have hV12 : w12.cell? ⟨f, 0, none⟩ = some (.bool bk) ∧ w12.cell? ⟨f, 1, none⟩ = some (.bool gv) := ⟨f0, f1⟩
              have hL12 := Lib.hid (li_frv hL.out hFw.out (by omega) (by omega) (by omega))
              have hT12 := Lib.hid (hT.out.trans (hFw.out.below (n := CF) (fun k hk => ⟨by omega, not_frv (by omega) (by omega) (by omega) (by omega)⟩)))
              have hsn3 := Lib.hid hfM3.n
              have hU3 := Lib.hid hfM3.u
              have hM := Lib.hid hM3
              clear hh hcf hL hT hFw hFw' hM3 f0 f1 hf8
              by_cases hGn0 : c.G ≤ gn + 1
              · have hGn := Lib.hid hGn0
                have hnr4 := hn4
                have hYX : ∃ Y, Y = headN 4 mk gr ar gn st := ⟨_, rfl⟩
                obtain ⟨Y, hYX⟩ := hYX
                replace hYX := Lib.hid hYX
                have hlen : (ups 1 d).length = d := by simp [ups_len']
                have hlen0 : (ups 1 d).length = d := ups_len' d 1
                obtain ⟨A0, c0', e0⟩ : ∃ A0 c0', vL = .slice A0 d c0' := by
                  obtain ⟨A0, c0', e, _⟩ := hL12.out
                  exact ⟨A0, c0', by rw [e, hlen0]⟩
                subst e0
                have hPi1 : (P : Int) < (N : Int) := by omega
                have hPi0 : 0 ≤ (P : Int) := by omega
                have hres : bk = false ∧ gv = true ∧ M3.f P = Y ∧ Stk c M3.f 1 (ups 1 d) := by
                  rw [hPp.out]
                  have hfvX : freedV X c.G = (headN 4 mk gr ar gn st, true) := by rw [hX.out]; exact hfv.out c.G (by have := hGn.out; omega)
                  rw [hfvX] at hcase
                  rcases hcase with ⟨e, _⟩ | ⟨_, e3, ⟨_, e1, e2, e4⟩ | ⟨e5, _⟩⟩
                  · cases e
                  · exact ⟨e1, e2, by rw [e3]; exact hYX.out.symm, e4⟩
                  · exact absurd (u_head (g := gr) hnr4.out).2.1 e5
                obtain ⟨rfl, rfl, hY, hk3'⟩ := hres
                have hLn := Lib.hid (hk3'.list hr.out)
                replace hY := Lib.hid hY
                clear hcase hk3'
                have hM := hM
                have hcf := hcf12
                have hh := hh12
                have hT := hT12
                have lo12 : HB < w12.heap.size := hh.out.lt
                have ltf12 : f < w12.heap.size := by omega
                clear hcf12 hh12 hT12
                obtain ⟨k0, k1, k2, k3, k4, k5⟩ := cfgs hcf.out
                obtain ⟨j0, j1, j2, j3, j4, j5⟩ := hds hh.out
                go_upto_region 17 with (first
                  | (go_at_call 24; refine (words_n _ m b N _ hM.out hsn3.out (by omega)).mono ?_; rintro e w13 ⟨A1, c1, b1, rfl, hb10, hR1, hb⟩; have hV13 := (show w13.cell? ⟨f, 0, none⟩ = some (.bool false) ∧ w13.cell? ⟨f, 1, none⟩ = some (.bool true) from ⟨(hb.cell (p := ⟨f, 0, none⟩) ltf12).trans hV12.1, (hb.cell (p := ⟨f, 1, none⟩) ltf12).trans hV12.2⟩); replace hcf := Lib.hid (hcf.out.below hb hcf.out.lt); replace hh := Lib.hid (hh.out.below hb hh.out.lt); replace hT := Lib.hid (hT.out.trans (hb.mono (by have := hT.out.size; omega))); have zs13 := hb.size; have hL13 := Lib.hid (hL12.out.below hb); replace hR1 := Lib.hid hR1; obtain ⟨k0, k1, k2, k3, k4, k5⟩ := cfgs hcf.out; obtain ⟨j0, j1, j2, j3, j4, j5⟩ := hds hh.out; clear hb)
                  | (go_at_call 30; refine (refListC c _ _ _ _ N M3.f hU3.out hr.out hN.out hR1.out).mono ?_; rintro e w14 ⟨vB, rfl, hB4, hb⟩; rw [hLn.out] at hB4; have hV14 := (show w14.cell? ⟨f, 0, none⟩ = some (.bool false) ∧ w14.cell? ⟨f, 1, none⟩ = some (.bool true) from ⟨(hb.cell (p := ⟨f, 0, none⟩) (Nat.lt_of_lt_of_le ltf12 zs13)).trans hV13.1, (hb.cell (p := ⟨f, 1, none⟩) (Nat.lt_of_lt_of_le ltf12 zs13)).trans hV13.2⟩); replace hcf := Lib.hid (hcf.out.below hb hcf.out.lt); replace hh := Lib.hid (hh.out.below hb hh.out.lt); replace hT := Lib.hid (hT.out.trans (hb.mono (by have := hT.out.size; omega))); have zs14 := hb.size; have hL14 := Lib.hid (hL13.out.below hb); replace hR1 := Lib.hid (hR1.out.below hb (Nat.le_refl _)); replace hB4 := Lib.hid hB4; obtain ⟨k0, k1, k2, k3, k4, k5⟩ := cfgs hcf.out; obtain ⟨j0, j1, j2, j3, j4, j5⟩ := hds hh.out; clear hb))
                obtain ⟨A2, c2, e2⟩ : ∃ A2 c2, vB = .slice A2 (d) c2 := by
                  obtain ⟨A2, c2, e, _⟩ := hB4.out
                  exact ⟨A2, c2, by rw [e, hlen]⟩
                subst e2
                obtain ⟨hA1, hrow, _⟩ := hR1.out.cell hPN
                subst hA1
                rw [hY.out] at hrow
                have hHz := hh.out.frozen 0
                have hg1 := hGn.out
                go_upto_region 21 with (fail)
                have ne1 : f ≠ HB := by omega
                have ne2 : b1 ≠ HB := by omega
                have hX2 : (w14.setCell ⟨HB, 0, none⟩ (.int .i64 4)).cell? ⟨f, 0, none⟩ = some (.bool false) ∧ (w14.setCell ⟨HB, 0, none⟩ (.int .i64 4)).cell? ⟨f, 1, none⟩ = some (.bool true) ∧ (w14.setCell ⟨HB, 0, none⟩ (.int .i64 4)).cell? ⟨b1, P, none⟩ = some (.int .u64 Y) ∧ (w14.setCell ⟨HB, 0, none⟩ (.int .i64 4)).cell? ⟨HB, 0, none⟩ = some (.int .i64 4) ∧ (w14.setCell ⟨HB, 0, none⟩ (.int .i64 4)).cell? ⟨HB, 1, none⟩ = some (.int .i64 mk) ∧ (w14.setCell ⟨HB, 0, none⟩ (.int .i64 4)).cell? ⟨HB, 2, none⟩ = some (.bool gr) ∧ (w14.setCell ⟨HB, 0, none⟩ (.int .i64 4)).cell? ⟨HB, 3, none⟩ = some (.int .i64 ar) ∧ (w14.setCell ⟨HB, 0, none⟩ (.int .i64 4)).cell? ⟨HB, 4, none⟩ = some (.int .i64 gn) ∧ (w14.setCell ⟨HB, 0, none⟩ (.int .i64 4)).cell? ⟨HB, 5, none⟩ = some (.int .i64 st) := ⟨cell_oth hV14.1 ne1, cell_oth hV14.2 ne1, cell_oth hrow ne2, hds (hh.out.set 0 _)⟩
                have hL15 := Lib.hid (hL14.out.fr (Fr.set (fun k => k = HB) w14 (p := ⟨HB, 0, none⟩) rfl (.int .i64 4)) (fun k e => by omega))
                have hB5 := Lib.hid (hB4.out.fr (Fr.set (fun k => k = HB) w14 (p := ⟨HB, 0, none⟩) rfl (.int .i64 4)) (fun k e => by omega))
                have hT5 := Lib.hid (hT.out.setCell (p := ⟨HB, 0, none⟩) (by show CF ≤ HB; omega) (.int .i64 4))
                have hsz5 : (w14.setCell ⟨HB, 0, none⟩ (.int .i64 4)).heap.size = w14.heap.size := by simp
                clear k0 k1 k2 k3 k4 k5 j0 j1 j2 j3 j4 j5 hHz hV12 hV13 hV14 hrow hR1 hL12 hL13 hL14 hB4 hT hcf hh
                generalize w14.setCell ⟨HB, 0, none⟩ (.int .i64 4) = w15 at *
                have hL14 := hL15
                have hB4 := hB5
                have hT := hT5
                have hX3 : w15.drew.cell? ⟨f, 0, none⟩ = some (.bool false) ∧ w15.drew.cell? ⟨f, 1, none⟩ = some (.bool true) ∧ w15.drew.cell? ⟨b1, P, none⟩ = some (.int .u64 Y) ∧ w15.drew.cell? ⟨HB, 0, none⟩ = some (.int .i64 4) ∧ w15.drew.cell? ⟨HB, 1, none⟩ = some (.int .i64 mk) ∧ w15.drew.cell? ⟨HB, 2, none⟩ = some (.bool gr) ∧ w15.drew.cell? ⟨HB, 3, none⟩ = some (.int .i64 ar) ∧ w15.drew.cell? ⟨HB, 4, none⟩ = some (.int .i64 gn) ∧ w15.drew.cell? ⟨HB, 5, none⟩ = some (.int .i64 st) := hX2
                clear hX2
                have hsz15 := hT.out.size
                replace hT := Lib.hid hT.out.drew
                replace hL14 := Lib.hid (show Li w15.drew _ _ _ from hL14.out)
                replace hB4 := Lib.hid (show Li w15.drew _ _ _ from hB4.out)
                have hbw := Lib.hid (Below.refl w15.drew.heap.size w15.drew)
                have hSS : ∀ w', Below w15.drew.heap.size w15.drew w' → w'.cell? ⟨f, 0, none⟩ = some (.bool false) ∧ w'.cell? ⟨f, 1, none⟩ = some (.bool true) ∧ w'.cell? ⟨b1, P, none⟩ = some (.int .u64 Y) ∧ w'.cell? ⟨HB, 0, none⟩ = some (.int .i64 4) ∧ w'.cell? ⟨HB, 1, none⟩ = some (.int .i64 mk) ∧ w'.cell? ⟨HB, 2, none⟩ = some (.bool gr) ∧ w'.cell? ⟨HB, 3, none⟩ = some (.int .i64 ar) ∧ w'.cell? ⟨HB, 4, none⟩ = some (.int .i64 gn) ∧ w'.cell? ⟨HB, 5, none⟩ = some (.int .i64 st) := fun w' hb => by
                  obtain ⟨x0, x1, x2, x3, x4, x5, x6, x7, x8⟩ := hX3
                  have e : ∀ (k i : Nat) (v : Value), w15.drew.cell? ⟨k, i, none⟩ = some v → w'.cell? ⟨k, i, none⟩ = some v := fun k i v h => (hb.cell (p := ⟨k, i, none⟩) (Opens.cell_lt h)).trans h
                  exact ⟨e _ _ _ x0, e _ _ _ x1, e _ _ _ x2, e _ _ _ x3, e _ _ _ x4, e _ _ _ x5, e _ _ _ x6, e _ _ _ x7, e _ _ _ x8⟩
                replace hSS := Lib.hid hSS
                go_region_held3 (fun w' => w'.cell? ⟨f, 0, none⟩ = some (.bool false) ∧ w'.cell? ⟨f, 1, none⟩ = some (.bool true) ∧ w'.cell? ⟨b1, P, none⟩ = some (.int .u64 Y) ∧ w'.cell? ⟨HB, 0, none⟩ = some (.int .i64 4) ∧ w'.cell? ⟨HB, 1, none⟩ = some (.int .i64 mk) ∧ w'.cell? ⟨HB, 2, none⟩ = some (.bool gr) ∧ w'.cell? ⟨HB, 3, none⟩ = some (.int .i64 ar) ∧ w'.cell? ⟨HB, 4, none⟩ = some (.int .i64 gn) ∧ w'.cell? ⟨HB, 5, none⟩ = some (.int .i64 st)) (assumption) (first
                  | (go_at_call 58; refine (rPack_c 4 mk gr ar gn st hnr4.out _).mono ?_; rintro e w16 ⟨rfl, hb⟩; rw [← hYX.out]; (try replace hL14 := Lib.hid (hL14.out.below hb)); (try replace hB4 := Lib.hid (hB4.out.below hb)); replace hbw := Lib.hid (hbw.out.trans (hb.mono hbw.out.size)); have hY1 := hSS.out _ hbw.out; replace hT := Lib.hid (hT.out.trans (hb.mono (by have := hT.out.size; omega))); clear hb)
                  | (go_at_call 28; refine (sameC _ _ _ _ _ _ _ hL14.out hB4.out).mono ?_; rintro e w17 ⟨rfl, hb⟩; rw [decide_eq_true rfl]; replace hL14 := Lib.hid (hL14.out.below hb); replace hB4 := Lib.hid (hB4.out.below hb); replace hbw := Lib.hid (hbw.out.trans (hb.mono hbw.out.size)); have hY2 := hSS.out _ hbw.out; replace hT := Lib.hid (hT.out.trans (hb.mono (by have := hT.out.size; omega))); clear hb))
                all_goals
                  clear hX3
                  go_wp2
                  go_ret
                  exact ⟨rfl, hT.out⟩
              · have hGn := Lib.hid hGn0
                have hnr4 := Lib.hid (show hdRight 0 0 0 (gn + 1) 0 from by have := hGn.out; unfold hdRight; omega)
                have hYX : ∃ Y, Y = headN 0 0 false 0 (gn + 1) 0 := ⟨_, rfl⟩
                obtain ⟨Y, hYX⟩ := hYX
                replace hYX := Lib.hid hYX
                have hlen : (0 :: ups 1 d).length = d + 1 := by simp [ups_len']
                have hlen0 : (ups 1 d).length = d := ups_len' d 1
                obtain ⟨A0, c0', e0⟩ : ∃ A0 c0', vL = .slice A0 d c0' := by
                  obtain ⟨A0, c0', e, _⟩ := hL12.out
                  exact ⟨A0, c0', by rw [e, hlen0]⟩
                subst e0
                have hPi1 : (P : Int) < (N : Int) := by omega
                have hPi0 : 0 ≤ (P : Int) := by omega
                have hres : bk = true ∧ gv = false ∧ M3.f P = Y ∧ Stk c M3.f (1 + 1) (0 :: ups 1 d) := by
                  rw [hPp.out]
                  have hfvX : freedV X c.G = (headN 0 0 false 0 (gn + 1) 0, true) := by rw [hX.out]; exact hfb.out c.G (by have := hGn.out; omega) hG40
                  rw [hfvX] at hcase
                  rcases hcase with ⟨e, _⟩ | ⟨_, e3, ⟨e5, _⟩ | ⟨_, e1, e2, e4⟩⟩
                  · cases e
                  · exact absurd ((u_head (g := false) hnr4.out).2.1.symm.trans e5) (by decide)
                  · exact ⟨e1, e2, by rw [e3]; exact hYX.out.symm, e4⟩
                obtain ⟨rfl, rfl, hY, hk3'⟩ := hres
                have hLn := Lib.hid (hk3'.list hr.out)
                replace hY := Lib.hid hY
                clear hcase hk3'
                have hM := hM
                have hcf := hcf12
                have hh := hh12
                have hT := hT12
                have lo12 : HB < w12.heap.size := hh.out.lt
                have ltf12 : f < w12.heap.size := by omega
                clear hcf12 hh12 hT12
                obtain ⟨k0, k1, k2, k3, k4, k5⟩ := cfgs hcf.out
                obtain ⟨j0, j1, j2, j3, j4, j5⟩ := hds hh.out
                go_upto_region 17 with (first
                  | (go_at_call 24; refine (words_n _ m b N _ hM.out hsn3.out (by omega)).mono ?_; rintro e w13 ⟨A1, c1, b1, rfl, hb10, hR1, hb⟩; have hV13 := (show w13.cell? ⟨f, 0, none⟩ = some (.bool true) ∧ w13.cell? ⟨f, 1, none⟩ = some (.bool false) from ⟨(hb.cell (p := ⟨f, 0, none⟩) ltf12).trans hV12.1, (hb.cell (p := ⟨f, 1, none⟩) ltf12).trans hV12.2⟩); replace hcf := Lib.hid (hcf.out.below hb hcf.out.lt); replace hh := Lib.hid (hh.out.below hb hh.out.lt); replace hT := Lib.hid (hT.out.trans (hb.mono (by have := hT.out.size; omega))); have zs13 := hb.size; have hL13 := Lib.hid (hL12.out.below hb); replace hR1 := Lib.hid hR1; obtain ⟨k0, k1, k2, k3, k4, k5⟩ := cfgs hcf.out; obtain ⟨j0, j1, j2, j3, j4, j5⟩ := hds hh.out; clear hb)
                  | (go_at_call 30; refine (refListC c _ _ _ _ N M3.f hU3.out hr.out hN.out hR1.out).mono ?_; rintro e w14 ⟨vB, rfl, hB4, hb⟩; rw [hLn.out] at hB4; have hV14 := (show w14.cell? ⟨f, 0, none⟩ = some (.bool true) ∧ w14.cell? ⟨f, 1, none⟩ = some (.bool false) from ⟨(hb.cell (p := ⟨f, 0, none⟩) (Nat.lt_of_lt_of_le ltf12 zs13)).trans hV13.1, (hb.cell (p := ⟨f, 1, none⟩) (Nat.lt_of_lt_of_le ltf12 zs13)).trans hV13.2⟩); replace hcf := Lib.hid (hcf.out.below hb hcf.out.lt); replace hh := Lib.hid (hh.out.below hb hh.out.lt); replace hT := Lib.hid (hT.out.trans (hb.mono (by have := hT.out.size; omega))); have zs14 := hb.size; have hL14 := Lib.hid (hL13.out.below hb); replace hR1 := Lib.hid (hR1.out.below hb (Nat.le_refl _)); replace hB4 := Lib.hid hB4; obtain ⟨k0, k1, k2, k3, k4, k5⟩ := cfgs hcf.out; obtain ⟨j0, j1, j2, j3, j4, j5⟩ := hds hh.out; clear hb))
                obtain ⟨A2, c2, e2⟩ : ∃ A2 c2, vB = .slice A2 (d + 1) c2 := by
                  obtain ⟨A2, c2, e, _⟩ := hB4.out
                  exact ⟨A2, c2, by rw [e, hlen]⟩
                subst e2
                obtain ⟨hA1, hrow, _⟩ := hR1.out.cell hPN
                subst hA1
                rw [hY.out] at hrow
                have hg1 : ¬ gn + 1 ≥ c.G := by have := hGn.out; omega
                go_upto_region 22 with (fail)
                obtain ⟨bl, ol, rfl, hbl, hfirst⟩ := li_first hB4.out
                have hX2 : w14.cell? ⟨f, 0, none⟩ = some (.bool true) ∧ w14.cell? ⟨f, 1, none⟩ = some (.bool false) ∧ w14.cell? ⟨b1, P, none⟩ = some (.int .u64 Y) ∧ w14.cell? ⟨HB, 4, none⟩ = some (.int .i64 gn) ∧ w14.cell? ⟨bl, ol, none⟩ = some (.int .i64 0) := ⟨hV14.1, hV14.2, hrow, j4, hfirst⟩
                have hLt := Lib.hid (li_tail' hB4.out)
                have hcc1 := (li_n hB4.out).2
                have hct := cut_int (some ⟨bl, ol, none⟩) (d + 1) c2 (by omega)
                rw [Nat.add_sub_cancel] at hct
                have hLt2 := hLt.out
                rw [Nat.add_sub_cancel] at hLt2
                clear hLt
                generalize (if c2 = 1 then some ⟨bl, ol, none⟩ else (some (⟨bl, ol, none⟩ : Addr)).map (·.add 1)) = A3 at *
                have hwg : IntKind.i64.wrap (gn + 1) = gn + 1 := IntWalk.i64_in _ (by omega)
                have hwd : IntKind.i64.wrap ((d : Int) + 1) = (d : Int) + 1 := IntWalk.i64_in _ (by omega)
                have hd1 : ((d + 1 : Nat) : Int) = (d : Int) + 1 := by omega
                have hd0 : (0 : Int) < (d : Int) + 1 := by omega
                clear k0 k1 k2 k3 k4 k5 j0 j1 j2 j3 j4 j5 hV12 hV13 hV14 hrow hR1 hL12 hL13 hcf hh hB4 hfirst
                have hX3 : w14.drew.cell? ⟨f, 0, none⟩ = some (.bool true) ∧ w14.drew.cell? ⟨f, 1, none⟩ = some (.bool false) ∧ w14.drew.cell? ⟨b1, P, none⟩ = some (.int .u64 Y) ∧ w14.drew.cell? ⟨HB, 4, none⟩ = some (.int .i64 gn) ∧ w14.drew.cell? ⟨bl, ol, none⟩ = some (.int .i64 0) := hX2
                clear hX2
                have hsz15 := hT.out.size
                replace hT := Lib.hid hT.out.drew
                replace hL14 := Lib.hid (show Li w14.drew _ _ _ from hL14.out)
                have hB4 := Lib.hid (show Li w14.drew _ _ _ from hLt2)
                clear hLt2
                have hbw := Lib.hid (Below.refl w14.drew.heap.size w14.drew)
                have hSS : ∀ w', Below w14.drew.heap.size w14.drew w' → w'.cell? ⟨f, 0, none⟩ = some (.bool true) ∧ w'.cell? ⟨f, 1, none⟩ = some (.bool false) ∧ w'.cell? ⟨b1, P, none⟩ = some (.int .u64 Y) ∧ w'.cell? ⟨HB, 4, none⟩ = some (.int .i64 gn) ∧ w'.cell? ⟨bl, ol, none⟩ = some (.int .i64 0) := fun w' hb => by
                  obtain ⟨x0, x1, x2, x3, x4⟩ := hX3
                  have e : ∀ (k i : Nat) (v : Value), w14.drew.cell? ⟨k, i, none⟩ = some v → w'.cell? ⟨k, i, none⟩ = some v := fun k i v h => (hb.cell (p := ⟨k, i, none⟩) (Opens.cell_lt h)).trans h
                  exact ⟨e _ _ _ x0, e _ _ _ x1, e _ _ _ x2, e _ _ _ x3, e _ _ _ x4⟩
                replace hSS := Lib.hid hSS
                go_region_held3 (fun w' => w'.cell? ⟨f, 0, none⟩ = some (.bool true) ∧ w'.cell? ⟨f, 1, none⟩ = some (.bool false) ∧ w'.cell? ⟨b1, P, none⟩ = some (.int .u64 Y) ∧ w'.cell? ⟨HB, 4, none⟩ = some (.int .i64 gn) ∧ w'.cell? ⟨bl, ol, none⟩ = some (.int .i64 0)) (assumption) (first
                  | (go_at_call 58; refine (rPack_c 0 0 false 0 (gn + 1) 0 hnr4.out _).mono ?_; rintro e w16 ⟨rfl, hb⟩; rw [← hYX.out]; (try replace hL14 := Lib.hid (hL14.out.below hb)); (try replace hB4 := Lib.hid (hB4.out.below hb)); replace hbw := Lib.hid (hbw.out.trans (hb.mono hbw.out.size)); have hY1 := hSS.out _ hbw.out; replace hT := Lib.hid (hT.out.trans (hb.mono (by have := hT.out.size; omega))); clear hb)
                  | (go_at_call 28; refine (sameC _ _ _ _ _ _ _ hB4.out hL14.out).mono ?_; rintro e w17 ⟨rfl, hb⟩; rw [decide_eq_true rfl]; replace hL14 := Lib.hid (hL14.out.below hb); replace hB4 := Lib.hid (hB4.out.below hb); replace hbw := Lib.hid (hbw.out.trans (hb.mono hbw.out.size)); have hY2 := hSS.out _ hbw.out; replace hT := Lib.hid (hT.out.trans (hb.mono (by have := hT.out.size; omega))); clear hb)
                  | (go_at_call 53; refine (awake12C _).mono ?_; rintro e w18 ⟨rfl, hb⟩; (try replace hL14 := Lib.hid (hL14.out.below hb)); (try replace hB4 := Lib.hid (hB4.out.below hb)); replace hbw := Lib.hid (hbw.out.trans (hb.mono hbw.out.size)); have hY3 := hSS.out _ hbw.out; replace hT := Lib.hid (hT.out.trans (hb.mono (by have := hT.out.size; omega))); clear hb))
                all_goals
                  clear hX3
                  go_wp2
                  go_ret
                  exact ⟨rfl, hT.out⟩
theorem freesC (c0 : Cf) (kd mk : Int) (gr : Bool) (ar gn st : Int) (w : World) : Calls Try.prog 16 #[.agg #[.int .i64 c0.S, .int .i64 c0.A, .int .i64 c0.C, .int .i64 c0.H, .int .i64 c0.G, .int .i64 c0.K], .agg #[.int .i64 kd, .int .i64 mk, .bool gr, .int .i64 ar, .int .i64 gn, .int .i64 st]] w fun e w' => e = .returned (.bool true) ∧ Below w.heap.size w w' := by
  by_cases h : hdRight kd mk ar gn st
  · by_cases h3 : kd = 3
    · subst h3; exact frees_3 c0 mk gr ar gn st w h
    · exact frees_k c0 kd mk gr ar gn st w h h3
  · exact frees_nr c0 kd mk gr ar gn st w h
end Go.Proofs.Ytijfkpoofpcacaa.ArenaZ
end
section
namespace Go.Proofs.Ytijfkpoofpcacaa.CoreRow
open Go.ChangeShapes Go.WideShapes Go.RowKit Go.Deep
section
variable {H : Type} {enc : TypeId × Value → H} {P : Program} {w : World} {base : Nat} {spare : Nat → Bool} {held : Bool}
theorem open_cells {r : Reach} {b0 : Nat} {t : TypeId} {fs : Array Field} {v : Value} {d : DataW H} {p : List MemPlace} (hs : P.underlying t = some (.struct fs)) (hone : oneCellFields P fs = true) (hC : P.cellsOf t = fs.size)
    (hv : Value.okWide P w r b0 t v) (h : DataW.Trod enc P w base spare held t v d p) :
    ∃ cs : List Value, v = .agg cs.toArray ∧ cs.length = fs.size ∧ ∀ (j : Nat) (f : Field), fs[j]? = some f → ∃ (n : Nat) (y : DataW H × List MemPlace), DataW.trod enc P w base spare held n f.type [cs.getD j undef] = some y := by
  obtain ⟨⟨cs⟩, rfl, hsz⟩ := okWide_struct hs hv
  obtain ⟨fuel, hf⟩ := h
  obtain ⟨xs, n, _, hx, _, hlen, hg⟩ := DataW.trod_struct hs hf
  have hcl : cs.length = fs.size := hsz.trans hC
  refine ⟨cs, rfl, hcl, fun j f hj => ?_⟩
  obtain ⟨ho, hk⟩ := hone_of hone j f hj
  have hjl : j < fs.size := (Array.getElem?_eq_some_iff.1 hj).1
  have h1 := hg j f hj
  rw [ho, hk] at h1
  have e := take1_drop cs j undef (by omega)
  have h2 : DataW.trod enc P w base spare held n f.type [cs.getD j undef] = xs[j]? := by rw [← e]; exact h1
  exact ⟨n, _, h2.trans (List.getElem?_eq_getElem (by omega))⟩
theorem cell_int {fs : Array Field} {cs : List Value} {k : IntKind} {ti : TypeId} (hi : P.underlying ti = some (.int k)) (hg : ∀ (j : Nat) (f : Field), fs[j]? = some f → ∃ (n : Nat) (y : DataW H × List MemPlace), DataW.trod enc P w base spare held n f.type [cs.getD j undef] = some y)
    (j : Nat) (ht : (fs.map (·.type))[j]? = some ti) : ∃ a : Int, cs.getD j undef = .int k a ∧ (Lit.int k a).wf = true := by
  rw [Array.getElem?_map] at ht
  obtain ⟨f, hf, ht⟩ := Option.map_eq_some_iff.1 ht
  obtain ⟨n, y, hy⟩ := hg j f hf
  rw [ht] at hy
  obtain ⟨a, ha, _, hw⟩ := DataW.trod_int hi hy
  exact ⟨a, (List.cons.inj ha).1, hw⟩
theorem cell_bool {fs : Array Field} {cs : List Value} {ti : TypeId} (hi : P.underlying ti = some .bool) (hg : ∀ (j : Nat) (f : Field), fs[j]? = some f → ∃ (n : Nat) (y : DataW H × List MemPlace), DataW.trod enc P w base spare held n f.type [cs.getD j undef] = some y)
    (j : Nat) (ht : (fs.map (·.type))[j]? = some ti) : ∃ a : Bool, cs.getD j undef = .bool a := by
  rw [Array.getElem?_map] at ht
  obtain ⟨f, hf, ht⟩ := Option.map_eq_some_iff.1 ht
  obtain ⟨n, y, hy⟩ := hg j f hf
  rw [ht] at hy
  obtain ⟨a, ha, _⟩ := DataW.trod_bool hi hy
  exact ⟨a, (List.cons.inj ha).1⟩
theorem open_ints6 {r : Reach} {b0 : Nat} {t ti : TypeId} {fs : Array Field} {v : Value} {d : DataW H} {p : List MemPlace} (hs : P.underlying t = some (.struct fs)) (hi : P.underlying ti = some (.int .i64)) (hone : oneCellFields P fs = true) (hC : P.cellsOf t = fs.size) (h6 : fs.map (·.type) = #[ti, ti, ti, ti, ti, ti])
    (hv : Value.okWide P w r b0 t v) (h : DataW.Trod enc P w base spare held t v d p) :
    ∃ a0 a1 a2 a3 a4 a5 : Int, v = .agg #[.int .i64 a0, .int .i64 a1, .int .i64 a2, .int .i64 a3, .int .i64 a4, .int .i64 a5] ∧ (Lit.int .i64 a0).wf = true ∧ (Lit.int .i64 a1).wf = true ∧ (Lit.int .i64 a2).wf = true ∧ (Lit.int .i64 a3).wf = true ∧ (Lit.int .i64 a4).wf = true ∧ (Lit.int .i64 a5).wf = true := by
  obtain ⟨cs, rfl, hl, hg⟩ := open_cells hs hone hC hv h
  have h6' : fs.size = 6 := by have := congrArg Array.size h6; simpa using this
  obtain ⟨a0, e0, w0⟩ := cell_int hi hg 0 (by rw [h6]; rfl)
  obtain ⟨a1, e1, w1⟩ := cell_int hi hg 1 (by rw [h6]; rfl)
  obtain ⟨a2, e2, w2⟩ := cell_int hi hg 2 (by rw [h6]; rfl)
  obtain ⟨a3, e3, w3⟩ := cell_int hi hg 3 (by rw [h6]; rfl)
  obtain ⟨a4, e4, w4⟩ := cell_int hi hg 4 (by rw [h6]; rfl)
  obtain ⟨a5, e5, w5⟩ := cell_int hi hg 5 (by rw [h6]; rfl)
  refine ⟨a0, a1, a2, a3, a4, a5, ?_, w0, w1, w2, w3, w4, w5⟩
  rw [h6'] at hl
  match cs, hl with
  | [c0, c1, c2, c3, c4, c5], _ =>
    simp at e0 e1 e2 e3 e4 e5
    subst e0 e1 e2 e3 e4 e5
    rfl
theorem open_header {r : Reach} {b0 : Nat} {t ti tb : TypeId} {fs : Array Field} {v : Value} {d : DataW H} {p : List MemPlace} (hs : P.underlying t = some (.struct fs)) (hi : P.underlying ti = some (.int .i64)) (hb : P.underlying tb = some .bool) (hone : oneCellFields P fs = true) (hC : P.cellsOf t = fs.size) (h6 : fs.map (·.type) = #[ti, ti, tb, ti, ti, ti])
    (hv : Value.okWide P w r b0 t v) (h : DataW.Trod enc P w base spare held t v d p) :
    ∃ (a0 a1 : Int) (a2 : Bool) (a3 a4 a5 : Int), v = .agg #[.int .i64 a0, .int .i64 a1, .bool a2, .int .i64 a3, .int .i64 a4, .int .i64 a5] ∧ (Lit.int .i64 a0).wf = true ∧ (Lit.int .i64 a1).wf = true ∧ (Lit.int .i64 a3).wf = true ∧ (Lit.int .i64 a4).wf = true ∧ (Lit.int .i64 a5).wf = true := by
  obtain ⟨cs, rfl, hl, hg⟩ := open_cells hs hone hC hv h
  have h6' : fs.size = 6 := by have := congrArg Array.size h6; simpa using this
  obtain ⟨a0, e0, w0⟩ := cell_int hi hg 0 (by rw [h6]; rfl)
  obtain ⟨a1, e1, w1⟩ := cell_int hi hg 1 (by rw [h6]; rfl)
  obtain ⟨a2, e2⟩ := cell_bool hb hg 2 (by rw [h6]; rfl)
  obtain ⟨a3, e3, w3⟩ := cell_int hi hg 3 (by rw [h6]; rfl)
  obtain ⟨a4, e4, w4⟩ := cell_int hi hg 4 (by rw [h6]; rfl)
  obtain ⟨a5, e5, w5⟩ := cell_int hi hg 5 (by rw [h6]; rfl)
  refine ⟨a0, a1, a2, a3, a4, a5, ?_, w0, w1, w3, w4, w5⟩
  rw [h6'] at hl
  match cs, hl with
  | [c0, c1, c2, c3, c4, c5], _ =>
    simp at e0 e1 e2 e3 e4 e5
    subst e0 e1 e2 e3 e4 e5
    rfl
end
end Go.Proofs.Ytijfkpoofpcacaa.CoreRow
end
