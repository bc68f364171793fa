/-
  The law StackOld's walk; condition: the arguments as they are read.
-/
import Derived.Test.YtijfkpoofpcacaaStackI
set_option linter.unusedVariables false
set_option linter.unusedSimpArgs false
namespace Go.Proofs.Ytijfkpoofpcacaa.StackO
open Go.RowKit Go.Proofs.YtijfkpoofpcacaaW.PrintWords Go.Proofs.Ytijfkpoofpcacaa.Blk Go.Proofs.Ytijfkpoofpcacaa.Core Go.Proofs.Ytijfkpoofpcacaa.MemC Go.Proofs.Ytijfkpoofpcacaa.MemD Go.Proofs.Ytijfkpoofpcacaa.MemT Go.Proofs.Ytijfkpoofpcacaa.Memory Go.Proofs.Ytijfkpoofpcacaa.PlanC Go.Proofs.Ytijfkpoofpcacaa.PlanD Go.Proofs.Ytijfkpoofpcacaa.StackC Go.Proofs.Ytijfkpoofpcacaa.StackL Go.Proofs.Ytijfkpoofpcacaa.StackS Go.Proofs.Ytijfkpoofpcacaa.StackT Go.Proofs.Ytijfkpoofpcacaa.StackF Go.Proofs.Ytijfkpoofpcacaa.StackP Go.Proofs.Ytijfkpoofpcacaa.StackQ Go.Proofs.Ytijfkpoofpcacaa.StackG Go.Proofs.Ytijfkpoofpcacaa.StackI Go.Proofs.Ytijfkpoofpcacaa.Opens
def seven (w : World) (b : Nat) (c : Cf) (v : Int) : World := (six w b c).setCell ⟨b, 0, none⟩ (.int .i64 v)
theorem seven_blk {w : World} {b t : Nat} {c a : Cf} {v : Int} (h : Blk w b t #[.int .i64 a.S, .int .i64 a.A, .int .i64 a.C, .int .i64 a.H, .int .i64 a.G, .int .i64 a.K]) : Blk (seven w b c v) b t #[.int .i64 v, .int .i64 c.A, .int .i64 c.C, .int .i64 c.H, .int .i64 c.G, .int .i64 c.K] := (six_blk h).set 0 _
theorem seven_below {w0 w : World} {n b : Nat} {c : Cf} {v : Int} (h : Below n w0 w) (hb : n ≤ b) : Below n w0 (seven w b c v) := (six_below h hb).setCell (p := ⟨b, 0, none⟩) hb _
theorem ups_len : ∀ (n k : Nat), (ups k n).length = n
  | 0, _ => rfl
  | n + 1, k => by show (ups (k + 1) n).length + 1 = n + 1; rw [ups_len n (k + 1)]
theorem ups_snoc' : ∀ (n k : Nat), ups k n ++ [((k + n : Nat) : Int)] = ups k (n + 1)
  | 0, k => rfl
  | n + 1, k => by
    show (k : Int) :: (ups (k + 1) n ++ [((k + (n + 1) : Nat) : Int)]) = (k : Int) :: ups (k + 1) (n + 1)
    rw [show k + (n + 1) = k + 1 + n by omega, ups_snoc' n (k + 1)]
theorem ups_snoc (n : Nat) : ups 0 n ++ [(n : Int)] = ups 0 (n + 1) := by
  have := ups_snoc' n 0
  rwa [show 0 + n = n by omega] at this
theorem take_cons {w : World} {p : Nat} {c : Cf} {f : Nat → Int} {t x : Int} {r : List Int} (h : TakeI w p c f t (x :: r) 3) : ∃ tp nx, PopB w p c ⟨x, false, 3, tp, nx⟩ ∧ Stk c f (t + 1) r := by
  rcases h with ⟨e, _⟩ | ⟨y, s, e, ⟨h, _⟩ | ⟨h, _⟩ | ⟨h, _⟩ | ⟨_, h1, tp, nx, h2⟩⟩
  · cases e
  · omega
  · omega
  · omega
  · cases e; exact ⟨tp, nx, h2, h1⟩
theorem Stk.castT {c : Cf} {f : Nat → Int} {t t' : Int} {L : List Int} (h : Stk c f t L) (e : t = t') : Stk c f t' L := e ▸ h
theorem own_first {w : World} {B i c : Nat} {A : Option Addr} (h : w.ownsRow B 3 1 (.slice A (ups 0 i).length c) (ups 0 i).length (nums .i64 (ups 0 i))) (hi : 0 < i) (hl : i ≤ 100 := by omega) : ∃ b o, A = some ⟨b, o, none⟩ ∧ B ≤ b := by
  obtain ⟨A', c', e, h1, h2, h3⟩ := Li.cell (li_of_own h (by rw [ups_len]; omega))
  obtain ⟨b, o, hA, hc⟩ := h3 0 (by rw [ups_len]; exact hi)
  injection e with e1 e2 e3
  subst e1
  subst hA
  exact ⟨b, o, rfl, own_base h b rfl⟩
theorem first_cell {w : World} {B i c b o : Nat} (h : w.ownsRow B 3 1 (.slice (some ⟨b, o, none⟩) (ups 0 i).length c) (ups 0 i).length (nums .i64 (ups 0 i))) (hi : 0 < i) (hl : i ≤ 100 := by omega) : w.cell? ⟨b, o, none⟩ = some (.int .i64 0) := by
  obtain ⟨A', c', e, h1, h2, h3⟩ := Li.cell (li_of_own h (by rw [ups_len]; omega))
  obtain ⟨b', o', hA, hc⟩ := h3 0 (by rw [ups_len]; exact hi)
  injection e with e1 e2 e3
  subst hA
  injection e1 with e1
  injection e1 with e4 e5
  subst e4
  subst e5
  cases i with
  | zero => omega
  | succ i => exact hc
theorem not_zero {k n : Nat} (h : 0 < k) : (0 : Int) ∉ ups k n := fun c => by have := ups_mem c; omega
def wider (c : Cf) : Cf := ⟨max c.S 3, c.A, c.C, c.H, c.G, c.K⟩
theorem wider_small {c : Cf} (h : c.small) : (wider c).small ∧ 3 ≤ (wider c).S := by
  unfold Cf.small at h ⊢
  have e : (wider c).S = max c.S 3 := rfl
  rw [e]
  exact ⟨⟨by omega, h.2⟩, by omega⟩
set_option maxHeartbeats 4000000 in
set_option maxRecDepth 100000 in
theorem oldC (c0 : Cf) (a : Int) (a0 : 0 ≤ a) (a1 : a < 256) (w : World) : Calls Try.prog 10 #[.agg #[.int .i64 c0.S, .int .i64 c0.A, .int .i64 c0.C, .int .i64 c0.H, .int .i64 c0.G, .int .i64 c0.K], .int .u8 a] w fun e w' => e = .returned (.bool true) ∧ Below w.heap.size w w' := by
  have hf0 := Lib.hid (Blk.new w 23 #[.int .i64 c0.S, .int .i64 c0.A, .int .i64 c0.C, .int .i64 c0.H, .int .i64 c0.G, .int .i64 c0.K])
  have hT0 := Lib.hid ((Below.refl w.heap.size w).alloc (Nat.le_refl _) (.cells #[.int .i64 c0.S, .int .i64 c0.A, .int .i64 c0.C, .int .i64 c0.H, .int .i64 c0.G, .int .i64 c0.K] 23))
  go_enter Try.func10, Try.ntmps10
  generalize hCFe : w.heap.size = CF at *
  go_wp2_with (first
      | (go_at_call 31; refine (fitC c0 _).mono ?_; rintro e w1 ⟨c, rfl, hs, hb1⟩; have hr := small_right hs; have hf1 := hf0.out.below hb1 hf0.out.lt; obtain ⟨k0, k1, k2, k3, k4, k5⟩ := cfgs hf1; have z0 := hf1.frozen 0; have z1 := hf1.frozen 1; have z2 := hf1.frozen 2; have z3 := hf1.frozen 3; have z4 := hf1.frozen 4; have z5 := hf1.frozen 5; replace hf1 := Lib.hid hf1; replace hT0 := Lib.hid (hT0.out.trans (hb1.mono (by have := hT0.out.size; omega))); clear hb1; replace hr := Lib.hid hr; replace hs := Lib.hid hs)
      | (go_at_call 20; (show Calls _ _ _ (seven w1 CF c (max c.S 3)) _); clear k0 k1 k2 k3 k4 k5 z0 z1 z2 z3 z4 z5; have hf2 : Blk (seven w1 CF c (max c.S 3)) CF 23 #[.int .i64 (wider c).S, .int .i64 (wider c).A, .int .i64 (wider c).C, .int .i64 (wider c).H, .int .i64 (wider c).G, .int .i64 (wider c).K] := seven_blk (c := c) (v := max c.S 3) hf1.out; have hT2 := seven_below (c := c) (v := max c.S 3) hT0.out (b := CF) (by omega); generalize seven w1 CF c (max c.S 3) = w2 at *; refine (memC (wider c) _ (small_right (wider_small hs.out).1)).mono ?_; rintro e w3 ⟨m, b, rfl, hM3, hm, hb, hb3⟩; have hf3 := hf2.below hb3 hf2.lt; have lt3 := hf2.lt; replace hT2 := Lib.hid (hT2.trans (hb3.mono (by have := hT2.size; omega))); have hcf := Lib.hid hf3; replace hM3 := Lib.hid hM3; obtain ⟨q0, q1, q2, q3, q4, q5⟩ := cfgs hf3; clear hb3 hf2 hf3))
  obtain ⟨hs2, hS3⟩ := wider_small hs.out
  clear hr hs
  generalize wider c = d at *
  have hr := Lib.hid (small_right hs2)
  replace hs2 := Lib.hid hs2
  obtain ⟨n, hn⟩ : ∃ n : Nat, (n : Int) = d.size := ⟨d.size.toNat, by have := size_bd hr.out; unfold Cf.size; omega⟩
  have hS := S_bd hr.out
  have hf := Lib.hid (fine_of (n := n) (memF_U d.A d.C d.H (d.S - 1).toNat (by omega)))
  have hM : MemB w3 m b (Ms.of n (memF d.A d.C d.H (d.S - 1).toNat)) := by
    have := hM3.out
    rw [← hn, Int.toNat_natCast] at this
    exact this
  replace hM := Lib.hid hM
  have hT := hT2
  have ltm := hM.out.lm
  have ltb := hM.out.lb
  have mCF : CF < m := by omega
  have bCF : CF < b := by omega
  have hn8 := size_bd hr.out
  have hn8' : 9 ≤ n ∧ n ≤ 800 := by unfold Cf.size at hn; omega
  obtain ⟨k, hk⟩ := Int.eq_ofNat_of_zero_le (show 0 ≤ d.S by omega)
  have hkk : d.S.toNat = k := by omega
  have hst := stk_start hr.out
  rw [hkk] at hst
  have hE := Lib.hid hst
  replace hn := Lib.hid hn
  clear hM3 hT0 hf1 hf0 hT2 hS hn8 hst hkk
  have hS12 : d.S ≤ 12 := by have := hs2.out; unfold Cf.small at this; omega
  obtain ⟨j, hj⟩ : ∃ j : Nat, (j : Int) + 3 = d.S := ⟨(d.S - 3).toNat, by omega⟩
  have hkj : k = j + 3 := by omega
  subst hkj
  have hE0 : Stk d (Ms.of n (memF d.A d.C d.H (d.S - 1).toNat)).f 0 (0 :: ups 1 (j + 2)) := hE.out
  replace hE := Lib.hid hE0
  clear hE0
  obtain ⟨q, hq⟩ : ∃ q : Nat, (q : Int) = a % (d.S - 1) := ⟨(a % (d.S - 1)).toNat, by have := Int.emod_nonneg a (show d.S - 1 ≠ 0 by omega); omega⟩
  have hqS : (q : Int) < d.S - 1 := by rw [hq]; exact Int.emod_lt_of_pos a (by omega)
  have e1 : a.tmod (d.S - 1) = (q : Int) := by rw [Int.tmod_eq_emod_of_nonneg a0, hq]
  have e2 : IntKind.i64.wrap a = a := IntWalk.i64_in _ (by omega)
  have e3 : IntKind.i64.wrap (d.S - 1) = d.S - 1 := IntWalk.i64_in _ (by omega)
  have e4 : IntKind.i64.wrap (q : Int) = q := IntWalk.i64_in _ (by omega)
  have e5 : IntKind.i64.wrap (1 + (q : Int)) = 1 + (q : Int) := IntWalk.i64_in _ (by omega)
  have hS0 : ¬ d.S - 1 = 0 := by omega
  replace hj := Lib.hid hj
  replace hk := Lib.hid hk
  clear hq
  have bt : MemB w3 m b (Ms.of n (memF d.A d.C d.H (d.S - 1).toNat)) := hM.out
  clear bt
  go_wp2_with (first
      | (go_at_call 44; refine (newPopC d _ hr.out).mono ?_; rintro e w4 ⟨pa, rfl, hp, hP, hb'⟩; have lcc := hcf.out.lt; replace hcf := Lib.hid (hcf.out.below hb' hcf.out.lt); have lmm := hM.out.lm; have lbb := hM.out.lb; have lpa := Blk.lt hP; have hA := Lib.hid hP; replace hM := Lib.hid (hM.out.next hb'); replace hT := Lib.hid (hT.out.trans (hb'.mono (by have := hT.out.size; omega))); have zz0 := hb'.size; clear hb' hP q0 q1 q2 q3 q4 q5; obtain ⟨q0, q1, q2, q3, q4, q5⟩ := cfgs hcf.out)
      | (go_at_call 45; refine (al1 hr.out hM.out hf.out hn.out (by omega) (not_two (by omega) (by omega)) hE.out hA.out (by decide) (by decide)).mono ?_; rintro e v1 ⟨rfl, M', hP', hM', ef', hf', hF'⟩; have hE' := (show Stk d M'.f 0 (0 :: ups 1 (j + 2)) by rw [ef']; exact hE.out); replace hcf := Lib.hid (Blk.fr hcf.out hF' (not_three (by omega) (by omega) (by omega))); have hTT := below_three hT.out hF' (by have := hT.out.size; omega) (by omega) (by omega) (by omega); replace hT := Lib.hid hTT; have zz1 := hF'.size; clear hTT hF'; replace hA := Lib.hid hP'; replace hM := Lib.hid hM'; clear hP' hM'; replace hf := Lib.hid hf'; clear hf'; replace hE := Lib.hid hE'; clear hE'; clear ef')
      | (go_at_call 45; refine (al2 hr.out hM.out hf.out hn.out (by omega) (not_two (by omega) (by omega)) hE.out hA.out).mono ?_; rintro e v2 ⟨rfl, M', hP', hM', ef', hf', hF'⟩; have hE' := (show Stk d M'.f 0 (0 :: ups 1 (j + 2)) by rw [ef']; exact hE.out); replace hcf := Lib.hid (Blk.fr hcf.out hF' (not_three (by omega) (by omega) (by omega))); have hTT := below_three hT.out hF' (by have := hT.out.size; omega) (by omega) (by omega) (by omega); replace hT := Lib.hid hTT; have zz2 := hF'.size; clear hTT hF'; obtain ⟨q0, q1, q2, q3, q4, q5⟩ := cfgs hcf.out; replace hA := Lib.hid hP'; replace hM := Lib.hid hM'; clear hP' hM'; replace hf := Lib.hid hf'; clear hf'; replace hE := Lib.hid hE'; clear hE'; clear ef'))
  have hA1 : PopB v2 pa d ⟨-1, false, 2, 1, hd (ups 1 (j + 2)) - 1⟩ := by
    have e := hE.out.top
    rw [show M'.f 3 = 1 from e] at hA
    exact hA.out
  replace hA := Lib.hid hA1
  clear hA1
  obtain ⟨B, hB⟩ : ∃ B : Nat, B = v2.heap.size := ⟨_, rfl⟩
  have pB : pa < B := by omega
  have mB : m < B := by omega
  have bB : b < B := by omega
  have cB : CF < B := by omega
  have hO : v2.ownsRow B 3 1 (.slice none 0 0) (ups 0 0).length (nums .i64 (ups 0 0)) := World.ownsRow_nil _ _ _ _
  replace hO := Lib.hid hO
  go_loopw [7, 9] (fun v z wr => ∃ (i : Nat) (M : Ms), i ≤ q + 1 ∧ z = .int .i64 (i : Int) ∧ PopB wr pa d ⟨-1, false, 2, 1, hd (ups 1 (j + 2)) - 1⟩ ∧ MemB wr m b M ∧ Stk d M.f (i : Int) (ups i (j + 3 - i)) ∧ Fine M n (2 + 3 * i) ∧ wr.ownsRow B 3 1 v (ups 0 i).length (nums .i64 (ups 0 i)) ∧ Blk wr CF 23 #[.int .i64 d.S, .int .i64 d.A, .int .i64 d.C, .int .i64 d.H, .int .i64 d.G, .int .i64 d.K] ∧ Below CF w wr ∧ B ≤ wr.heap.size) (fun _ z _ => q + 1 - (intOf z).toNat)
  case atStart => exact ⟨0, _, by omega, rfl, hA.out, hM.out, hE.out, hf.out, hO.out, hcf.out, hT.out, by omega⟩
  case round =>
    obtain ⟨i, M, hi, rfl, c1, c2, c3, c4, c5, c6, c7, c8⟩ := hrel
    clear hA hM hE hf hO hcf hT q0 q1 q2 q3 q4 q5 hB
    obtain ⟨AL, cL, rfl, hRd⟩ := own_reads c5
    have hkq := Lib.hid (fun (k : Nat) (hk : (Value.slice AL (ups 0 i).length cL).ownBlock = some k) => And.intro (own_base c5 k hk) (own_lt c5 k hk))
    have ul := Lib.hid (ups_len i 0)
    have hA := Lib.hid c1
    have hM := Lib.hid c2
    have hf := Lib.hid c4
    have hO := Lib.hid c5
    have hcf := Lib.hid c6
    have hT := Lib.hid c7
    replace hRd := Lib.hid hRd
    obtain ⟨q0, q1, q2, q3, q4, q5⟩ := cfgs c6
    by_cases hlt : i < q + 1
    · have hlt' : (i : Int) < 1 + (q : Int) := by omega
      have hj' := hj.out
      obtain ⟨r, hr'⟩ : ∃ r, j + 3 - i = r + 1 := ⟨j + 2 - i, by omega⟩
      rw [hr'] at c3
      have hE : Hid (Stk d M.f (i : Int) ((i : Int) :: ups (i + 1) r)) := Lib.hid c3
      have hr2 : r = j + 3 - (i + 1) := by omega
      replace hr2 := Lib.hid hr2
      clear c1 c2 c3 c4 c5 c6 c7 hr' hj'
      go_wp2_with (first
      | (go_at_call 44; refine (newPopC d _ hr.out).mono ?_; rintro e v1 ⟨p, rfl, gp, hP, hb'⟩; replace hA := Lib.hid (Blk.below hA.out hb' (Blk.lt hA.out)); replace hcf := Lib.hid (Blk.below hcf.out hb' (Blk.lt hcf.out)); replace hM := Lib.hid (hM.out.next hb'); replace hT := Lib.hid (hT.out.trans (hb'.mono (by have := hT.out.size; omega))); replace hO := Lib.hid (pw_own_below hO.out hb'); have hI := Lib.hid (take_new hE.out hP); have lp := Blk.lt hP; have gp1 := hb'.size; clear hP; have zz1 := hb'.size; clear hb'))
      go_loopw [11] (fun z wr => ∃ (e : Nat) (M : Ms), e ≤ 3 ∧ z = .int .i64 (e : Int) ∧ TakeI wr p d M.f (i : Int) ((i : Int) :: ups (i + 1) r) e ∧ PopB wr pa d ⟨-1, false, 2, 1, hd (ups 1 (j + 2)) - 1⟩ ∧ MemB wr m b M ∧ Fine M n (2 + 3 * i + e) ∧ wr.ownsRow B 3 1 (.slice AL (ups 0 i).length cL) (ups 0 i).length (nums .i64 (ups 0 i)) ∧ Blk wr CF 23 #[.int .i64 d.S, .int .i64 d.A, .int .i64 d.C, .int .i64 d.H, .int .i64 d.G, .int .i64 d.K] ∧ Below CF w wr ∧ v1.heap.size ≤ wr.heap.size) (fun z _ => 3 - (intOf z).toNat)
      case atStart => exact ⟨0, _, by omega, rfl, hI.out, hA.out, hM.out, hf.out, hO.out, hcf.out, hT.out, by omega⟩
      case round =>
        obtain ⟨e, M2, he, rfl, c0', c1, c2, c4, c5, c6, c7, d8⟩ := hrel
        clear hI hA hM hf hO hcf hT q0 q1 q2 q3 q4 q5 hE
        have hI := Lib.hid c0'
        have hA := Lib.hid c1
        have hM := Lib.hid c2
        have hf := Lib.hid c4
        have hO := Lib.hid c5
        have hcf := Lib.hid c6
        have hT := Lib.hid c7
        obtain ⟨q0, q1, q2, q3, q4, q5⟩ := cfgs c6
        clear c0' c1 c2 c4 c5 c6 c7
        by_cases hle : e < 3
        · have hle' : (e : Int) < 3 := by omega
          go_wp2_with (first
      | (go_at_call 45; refine (tkC hr.out hM.out hf.out hn.out (by omega) (not_two (by omega) (by omega)) (t := (i : Int)) (by omega) hle hI.out).mono ?_; rintro e v1 ⟨dd, rfl, M', hP', hM', hf', hF'⟩; replace hA := Lib.hid (Blk.fr hA.out hF' (not_three (by omega) (by omega) (by omega))); replace hcf := Lib.hid (Blk.fr hcf.out hF' (not_three (by omega) (by omega) (by omega))); replace hO := Lib.hid (own_move hO.out (fun k hk => hF'.keep k (own_lt hO.out k hk) (not_three (by have := hkq.out k hk; omega) (by have := hkq.out k hk; omega) (by have := hkq.out k hk; omega)))); have hTT := below_three hT.out hF' (by have := hT.out.size; omega) (by omega) (by omega) (by omega); replace hT := Lib.hid hTT; have zz1 := hF'.size; clear hTT hF'; replace hI := Lib.hid hP'; replace hM := Lib.hid hM'; clear hP' hM'; replace hf := Lib.hid hf'; clear hf'))
          go_roundw
          case rel => exact ⟨e + 1, _, by omega, by go_num, hI.out, hA.out, hM.out, hf.out, hO.out, hcf.out, hT.out, by omega⟩
          case measure => simp [intOf]; omega
        · have hge : ¬ (e : Int) < 3 := by omega
          have e3' : e = 3 := by omega
          have hI3 := hI.out
          rw [e3'] at hI3
          obtain ⟨tp, nx, hP0, hE0⟩ := take_cons hI3
          have hP := Lib.hid hP0
          have hE := Lib.hid hE0
          have j0 := Blk.cell hP0 (i := 0) (v := .int .i64 (i : Int)) rfl
          replace hf := Lib.hid (hf.out.mono (show 2 + 3 * i + e ≤ 2 + 3 * (i + 1) by omega))
          clear hI hI3 hP0 hE0 e3'
          go_wp2_with ((with_reducible refine gate_builtin (b := .append) (xs := #[.tmp 62, .tmp 67]) rfl ?_); at_builtin; refine print_append_num (w0 := wr) B rfl (.tmp 62) (.tmp 67) 35 3 .i64 8 rfl Try.underlying35 infoI (by decide) (.slice AL (ups 0 i).length cL) (ups 0 i) (i : Int) rfl rfl hO.out (Below.refl B wr) (by omega) (by rw [ul.out]; omega) ?_; intro v1' w10 ho1 hb10 _ _; have hO1 := Lib.hid ho1; replace hA := Lib.hid (Blk.below hA.out hb10 pB); replace hcf := Lib.hid (Blk.below hcf.out hb10 cB); replace hM := Lib.hid (hM.out.below hb10 mB bB); replace hT := Lib.hid (hT.out.trans (hb10.mono (by omega))); have z10 := hb10.size; clear hb10 ho1)
          go_roundw
          case rel =>
            have hE2 := hE.out
            rw [hr2.out] at hE2
            have ho2 := hO1.out
            rw [ups_snoc] at ho2
            exact ⟨i + 1, _, by omega, by go_num, hA.out, hM.out, Stk.castT hE2 (by omega), hf.out, ho2, hcf.out, hT.out, by omega⟩
          case measure => simp [intOf]; omega
    · have hiq : i = q + 1 := by omega
      have hlt' : ¬ (i : Int) < 1 + (q : Int) := by omega
      obtain ⟨b0, o0, rfl, hB0⟩ := own_first c5 (by omega)
      obtain ⟨r, hr2⟩ : ∃ r : Nat, j + 3 - i = r := ⟨_, rfl⟩
      rw [hr2] at c3
      have hE := Lib.hid c3
      have hn0 := not_zero (k := i) (n := r) (by omega)
      have hlen : r + i = j + 3 := by have := hj.out; omega
      have hpos : (0 : Int) < ((ups 0 i).length : Int) := by rw [ups_len]; omega
      have hpos' : 0 < (ups 0 i).length := by rw [ups_len]; omega
      have jO := first_cell c5 (by omega)
      have zr : (0 : Int) < d.S := by omega
      have hi1 : 1 ≤ i := by omega
      have hi12 : i ≤ 12 := by omega
      replace hr2 := Lib.hid hr2
      replace hiq := Lib.hid hiq
      replace hlen := Lib.hid hlen
      clear c1 c2 c3 c4 c5 c6 c7
      go_wp2
      replace hA := Lib.hid (Blk.drew hA.out)
      replace hM := Lib.hid hM.out.drew
      replace hO := Lib.hid (own_drew hO.out)
      replace hcf := Lib.hid (Blk.drew hcf.out)
      replace hT := Lib.hid hT.out.drew
      have hX : (wr.drew.cell? ⟨CF, 0, none⟩ = some (.int .i64 d.S) ∧ wr.drew.cell? ⟨CF, 1, none⟩ = some (.int .i64 d.A) ∧ wr.drew.cell? ⟨CF, 2, none⟩ = some (.int .i64 d.C) ∧ wr.drew.cell? ⟨CF, 3, none⟩ = some (.int .i64 d.H) ∧ wr.drew.cell? ⟨CF, 4, none⟩ = some (.int .i64 d.G) ∧ wr.drew.cell? ⟨CF, 5, none⟩ = some (.int .i64 d.K)) ∧ wr.drew.cell? ⟨b0, o0, none⟩ = some (.int .i64 0) := ⟨cfgs hcf.out, jO⟩
      have z0r : wr.drew.heap.size = wr.heap.size := rfl
      clear q0 q1 q2 q3 q4 q5
      go_cut [12] (fun va wx => ∃ p, va = .pointer (some ⟨p, 0, none⟩) ∧ wr.heap.size ≤ p ∧ LayI wx p d M.f (i : Int) (ups i r) 0 0 ∧ p < wx.heap.size ∧ PopB wx pa d ⟨-1, false, 2, 1, hd (ups 1 (j + 2)) - 1⟩ ∧ MemB wx m b M ∧ wx.ownsRow B 3 1 (.slice (some ⟨b0, o0, none⟩) (ups 0 i).length cL) (ups 0 i).length (nums .i64 (ups 0 i)) ∧ Blk wx CF 23 #[.int .i64 d.S, .int .i64 d.A, .int .i64 d.C, .int .i64 d.H, .int .i64 d.G, .int .i64 d.K] ∧ Below CF w wx)
      case first =>
        go_region_held3 (fun w' => (w'.cell? ⟨CF, 0, none⟩ = some (.int .i64 d.S) ∧ w'.cell? ⟨CF, 1, none⟩ = some (.int .i64 d.A) ∧ w'.cell? ⟨CF, 2, none⟩ = some (.int .i64 d.C) ∧ w'.cell? ⟨CF, 3, none⟩ = some (.int .i64 d.H) ∧ w'.cell? ⟨CF, 4, none⟩ = some (.int .i64 d.G) ∧ w'.cell? ⟨CF, 5, none⟩ = some (.int .i64 d.K)) ∧ w'.cell? ⟨b0, o0, none⟩ = some (.int .i64 0)) (assumption) (first
      | (go_at_call 46; refine (newPushC d _ 0 hr.out (by decide) zr).mono ?_; rintro e v1 ⟨p, rfl, gp, hP, hb'⟩; replace hA := Lib.hid (Blk.below hA.out hb' (Blk.lt hA.out)); replace hcf := Lib.hid (Blk.below hcf.out hb' (Blk.lt hcf.out)); replace hM := Lib.hid (hM.out.next hb'); replace hT := Lib.hid (hT.out.trans (hb'.mono (by have := hT.out.size; omega))); replace hO := Lib.hid (pw_own_below hO.out hb'); have hI := Lib.hid (lay_new hE.out hP); have lp := Blk.lt hP; have gp1 := hb'.size; have hY : (v1.cell? ⟨CF, 0, none⟩ = some (.int .i64 d.S) ∧ v1.cell? ⟨CF, 1, none⟩ = some (.int .i64 d.A) ∧ v1.cell? ⟨CF, 2, none⟩ = some (.int .i64 d.C) ∧ v1.cell? ⟨CF, 3, none⟩ = some (.int .i64 d.H) ∧ v1.cell? ⟨CF, 4, none⟩ = some (.int .i64 d.G) ∧ v1.cell? ⟨CF, 5, none⟩ = some (.int .i64 d.K)) ∧ v1.cell? ⟨b0, o0, none⟩ = some (.int .i64 0) := ⟨cfgs hcf.out, first_cell hO.out (by have := hiq.out; omega)⟩; clear hP; have zz1 := hb'.size; clear hb'))
        all_goals
          go_wp2
          go_meet
          case rel => exact ⟨p, rfl, gp, hI.out, lp, hA.out, hM.out, hO.out, hcf.out, hT.out⟩
      case rest =>
        obtain ⟨p, rfl, gp, c0', lp, c1, c2, c5, c6, c7⟩ := hcut
        clear hA hM hO hcf hT hX jO
        have hI := Lib.hid c0'
        have hA := Lib.hid c1
        have hM := Lib.hid c2
        have hO := Lib.hid c5
        have hcf := Lib.hid c6
        have hT := Lib.hid c7
        obtain ⟨q0, q1, q2, q3, q4, q5⟩ := cfgs c6
        have lp2 : p < wc.heap.size := lp
        clear c0' c1 c2 c5 c6 c7
        have lO := own_lt hO.out b0 rfl
        go_wp2
        go_loopw [13] (fun z wz => ∃ (e : Nat) (M : Ms), e ≤ 3 ∧ z = .int .i64 (e : Int) ∧ LayI wz p d M.f (i : Int) (ups i r) 0 e ∧ PopB wz pa d ⟨-1, false, 2, 1, hd (ups 1 (j + 2)) - 1⟩ ∧ MemB wz m b M ∧ Fine M n (100 + e) ∧ wz.ownsRow B 3 1 (.slice (some ⟨b0, o0, none⟩) (ups 0 i).length cL) (ups 0 i).length (nums .i64 (ups 0 i)) ∧ Blk wz CF 23 #[.int .i64 d.S, .int .i64 d.A, .int .i64 d.C, .int .i64 d.H, .int .i64 d.G, .int .i64 d.K] ∧ Below CF w wz ∧ wc.heap.size ≤ wz.heap.size) (fun z _ => 3 - (intOf z).toNat)
        case atStart => exact ⟨0, _, by omega, rfl, hI.out, hA.out, hM.out, hf.out.mono (by omega), hO.out, hcf.out, hT.out, by omega⟩
        case round =>
          obtain ⟨e, M2, he, rfl, c0', c1, c2, c4, c5, c6, c7, d8⟩ := hrel
          clear hI hA hM hf hO hcf hT q0 q1 q2 q3 q4 q5 hE
          have hI := Lib.hid c0'
          have hA := Lib.hid c1
          have hM := Lib.hid c2
          have hf := Lib.hid c4
          have hO := Lib.hid c5
          have hcf := Lib.hid c6
          have hT := Lib.hid c7
          obtain ⟨q0, q1, q2, q3, q4, q5⟩ := cfgs c6
          have jO := first_cell c5 (by omega)
          clear c0' c1 c2 c4 c5 c6 c7
          by_cases hle : e < 3
          · have hle' : (e : Int) < 3 := by omega
            go_wp2_with (first
      | (go_at_call 47; refine (lyC hr.out hM.out hf.out hn.out (by omega) (not_two (by omega) (by omega)) (t := (i : Int)) (by omega) hle ⟨by decide, zr⟩ hn0 hI.out).mono ?_; rintro e v1 ⟨dd, rfl, M', hP', hM', hf', hF'⟩; replace hA := Lib.hid (Blk.fr hA.out hF' (not_three (by omega) (by omega) (by omega))); replace hcf := Lib.hid (Blk.fr hcf.out hF' (not_three (by omega) (by omega) (by omega))); replace hO := Lib.hid (own_move hO.out (fun k hk => hF'.keep k (own_lt hO.out k hk) (not_three (by have := hkq.out k hk; omega) (by have := hkq.out k hk; omega) (by have := hkq.out k hk; omega)))); have hTT := below_three hT.out hF' (by have := hT.out.size; omega) (by omega) (by omega) (by omega); replace hT := Lib.hid hTT; have zz1 := hF'.size; clear hTT hF'; replace hI := Lib.hid hP'; replace hM := Lib.hid hM'; clear hP' hM'; replace hf := Lib.hid hf'; clear hf'))
            go_roundw
            case rel => exact ⟨e + 1, _, by omega, by go_num, hI.out, hA.out, hM.out, hf.out, hO.out, hcf.out, hT.out, by omega⟩
            case measure => simp [intOf]; omega
          · have hge : ¬ (e : Int) < 3 := by omega
            have e3' : e = 3 := by omega
            have hI3 := hI.out
            rw [e3'] at hI3
            have hE := Lib.hid (lay_end hI3)
            replace hf := Lib.hid (hf.out.mono (show 100 + e ≤ 103 by omega))
            clear hI hI3 e3'
            have hLL := hE.out.list hr.out
            have hu := hf.out.u
            have hnn := hf.out.n
            have hn800 : n ≤ 800 := by omega
            go_wp2
            replace hA := Lib.hid (Blk.drew hA.out)
            replace hM := Lib.hid hM.out.drew
            replace hO := Lib.hid (own_drew hO.out)
            replace hcf := Lib.hid (Blk.drew hcf.out)
            replace hT := Lib.hid hT.out.drew
            replace hLL := Lib.hid hLL
            replace hnn := Lib.hid hnn
            have hX : (wr.drew.cell? ⟨CF, 0, none⟩ = some (.int .i64 d.S) ∧ wr.drew.cell? ⟨CF, 1, none⟩ = some (.int .i64 d.A) ∧ wr.drew.cell? ⟨CF, 2, none⟩ = some (.int .i64 d.C) ∧ wr.drew.cell? ⟨CF, 3, none⟩ = some (.int .i64 d.H) ∧ wr.drew.cell? ⟨CF, 4, none⟩ = some (.int .i64 d.G) ∧ wr.drew.cell? ⟨CF, 5, none⟩ = some (.int .i64 d.K)) ∧ wr.drew.cell? ⟨b0, o0, none⟩ = some (.int .i64 0) := ⟨cfgs hcf.out, jO⟩
            have z0s : wr.drew.heap.size = wr.heap.size := rfl
            clear q0 q1 q2 q3 q4 q5
            go_cut [14] (fun va wy => ∃ B1, wc.heap.size ≤ B1 ∧ Li wy B1 va (0 :: ups i r) ∧ PopB wy pa d ⟨-1, false, 2, 1, hd (ups 1 (j + 2)) - 1⟩ ∧ MemB wy m b M2 ∧ wy.ownsRow B 3 1 (.slice (some ⟨b0, o0, none⟩) (ups 0 i).length cL) (ups 0 i).length (nums .i64 (ups 0 i)) ∧ Blk wy CF 23 #[.int .i64 d.S, .int .i64 d.A, .int .i64 d.C, .int .i64 d.H, .int .i64 d.G, .int .i64 d.K] ∧ Below CF w wy ∧ wc.heap.size ≤ wy.heap.size)
            case first =>
              go_region_held3 (fun w' => (w'.cell? ⟨CF, 0, none⟩ = some (.int .i64 d.S) ∧ w'.cell? ⟨CF, 1, none⟩ = some (.int .i64 d.A) ∧ w'.cell? ⟨CF, 2, none⟩ = some (.int .i64 d.C) ∧ w'.cell? ⟨CF, 3, none⟩ = some (.int .i64 d.H) ∧ w'.cell? ⟨CF, 4, none⟩ = some (.int .i64 d.G) ∧ w'.cell? ⟨CF, 5, none⟩ = some (.int .i64 d.K)) ∧ w'.cell? ⟨b0, o0, none⟩ = some (.int .i64 0)) (assumption) (first
      | (go_at_call 24; refine (words_n _ m b n _ hM.out hnn.out (by omega)).mono ?_; rintro e u1 ⟨A1, c1, b1, rfl, _, hR1, hb'⟩; replace hA := Lib.hid (Blk.below hA.out hb' (Blk.lt hA.out)); replace hcf := Lib.hid (Blk.below hcf.out hb' (Blk.lt hcf.out)); replace hM := Lib.hid (hM.out.next hb'); replace hO := Lib.hid (pw_own_below hO.out hb'); replace hT := Lib.hid (hT.out.trans (hb'.mono (by have := hT.out.size; omega))); have hY1 : (u1.cell? ⟨CF, 0, none⟩ = some (.int .i64 d.S) ∧ u1.cell? ⟨CF, 1, none⟩ = some (.int .i64 d.A) ∧ u1.cell? ⟨CF, 2, none⟩ = some (.int .i64 d.C) ∧ u1.cell? ⟨CF, 3, none⟩ = some (.int .i64 d.H) ∧ u1.cell? ⟨CF, 4, none⟩ = some (.int .i64 d.G) ∧ u1.cell? ⟨CF, 5, none⟩ = some (.int .i64 d.K)) ∧ u1.cell? ⟨b0, o0, none⟩ = some (.int .i64 0) := ⟨cfgs hcf.out, first_cell hO.out (by omega)⟩; have zu1 := hb'.size; replace hR1 := Lib.hid hR1; clear hb')
      | (go_at_call 29; refine (listC d _ _ _ _ n M2.f hu hr.out hn.out hR1.out).mono ?_; rintro e u2 ⟨u, rfl, hLu, hb'⟩; rw [hLL.out] at hLu; have gL := (by have := z0s; omega : wc.heap.size ≤ u1.heap.size); replace hA := Lib.hid (Blk.below hA.out hb' (Blk.lt hA.out)); replace hcf := Lib.hid (Blk.below hcf.out hb' (Blk.lt hcf.out)); replace hM := Lib.hid (hM.out.next hb'); replace hO := Lib.hid (pw_own_below hO.out hb'); replace hT := Lib.hid (hT.out.trans (hb'.mono (by have := hT.out.size; omega))); have hY2 : (u2.cell? ⟨CF, 0, none⟩ = some (.int .i64 d.S) ∧ u2.cell? ⟨CF, 1, none⟩ = some (.int .i64 d.A) ∧ u2.cell? ⟨CF, 2, none⟩ = some (.int .i64 d.C) ∧ u2.cell? ⟨CF, 3, none⟩ = some (.int .i64 d.H) ∧ u2.cell? ⟨CF, 4, none⟩ = some (.int .i64 d.G) ∧ u2.cell? ⟨CF, 5, none⟩ = some (.int .i64 d.K)) ∧ u2.cell? ⟨b0, o0, none⟩ = some (.int .i64 0) := ⟨cfgs hcf.out, first_cell hO.out (by omega)⟩; have zu2 := hb'.size; have hLi := Lib.hid hLu; clear hb' hLu))
              all_goals
                go_wp2
                go_meet
                case rel => exact ⟨_, gL, hLi.out, hA.out, hM.out, hO.out, hcf.out, hT.out, by omega⟩
            case rest =>
              obtain ⟨B1, gB, c8', c1, c2, c5, c6, c7, d9⟩ := hcut
              clear hA hM hO hcf hT hX jO
              have hLi := Lib.hid c8'
              have hA := Lib.hid c1
              have hM := Lib.hid c2
              have hO := Lib.hid c5
              have hcf := Lib.hid c6
              have hT := Lib.hid c7
              obtain ⟨q0, q1, q2, q3, q4, q5⟩ := cfgs c6
              have jO := first_cell c5 (by omega)
              have jA := Blk.cell c1 (i := 0) (v := .int .i64 (-1)) rfl
              obtain ⟨AB, cB', hva, _⟩ := c8'
              clear c1 c2 c5 c6 c7
              have hne : M2.f 3 ≠ 1 := by
                have := hE.out.top
                rw [this]
                show 65536 * ((i : Int) + 1) + (0 + 1) ≠ 1
                omega
              replace hne := Lib.hid hne
              subst hva
              go_wp2
              replace hLi := Lib.hid (hLi.out.below (Below.refl _ _).drew)
              replace hA := Lib.hid (Blk.drew hA.out)
              replace hM := Lib.hid hM.out.drew
              replace hO := Lib.hid (own_drew hO.out)
              replace hcf := Lib.hid (Blk.drew hcf.out)
              replace hT := Lib.hid hT.out.drew
              have hX : (wc.drew.cell? ⟨CF, 0, none⟩ = some (.int .i64 d.S) ∧ wc.drew.cell? ⟨CF, 1, none⟩ = some (.int .i64 d.A) ∧ wc.drew.cell? ⟨CF, 2, none⟩ = some (.int .i64 d.C) ∧ wc.drew.cell? ⟨CF, 3, none⟩ = some (.int .i64 d.H) ∧ wc.drew.cell? ⟨CF, 4, none⟩ = some (.int .i64 d.G) ∧ wc.drew.cell? ⟨CF, 5, none⟩ = some (.int .i64 d.K)) ∧ wc.drew.cell? ⟨pa, 0, none⟩ = some (.int .i64 (-1)) := ⟨cfgs hcf.out, jA⟩
              have z0t : wc.drew.heap.size = wc.heap.size := rfl
              clear q0 q1 q2 q3 q4 q5
              go_region_held3 (fun w' => (w'.cell? ⟨CF, 0, none⟩ = some (.int .i64 d.S) ∧ w'.cell? ⟨CF, 1, none⟩ = some (.int .i64 d.A) ∧ w'.cell? ⟨CF, 2, none⟩ = some (.int .i64 d.C) ∧ w'.cell? ⟨CF, 3, none⟩ = some (.int .i64 d.H) ∧ w'.cell? ⟨CF, 4, none⟩ = some (.int .i64 d.G) ∧ w'.cell? ⟨CF, 5, none⟩ = some (.int .i64 d.K)) ∧ w'.cell? ⟨pa, 0, none⟩ = some (.int .i64 (-1))) (assumption) (first
      | (go_at_call 45; refine (alB hr.out hM.out hf.out hn.out (by omega) (not_two (by omega) (by omega)) (by decide) (by decide) hne.out hA.out).mono ?_; rintro e v1 ⟨rfl, M', hP', hM', ef', hf', hF'⟩; have hE' := (show Stk d M'.f (i + 1) (0 :: ups i r) by rw [ef']; exact hE.out); replace hcf := Lib.hid (Blk.fr hcf.out hF' (not_three (by omega) (by omega) (by omega))); replace hO := Lib.hid (own_move hO.out (fun k hk => hF'.keep k (own_lt hO.out k hk) (not_three (by have := hkq.out k hk; omega) (by have := hkq.out k hk; omega) (by have := hkq.out k hk; omega)))); replace hLi := Lib.hid (hLi.out.fr hF' (fun k hk => by rcases hk with rfl | rfl | rfl <;> omega)); have hTT := below_three hT.out hF' (by have := hT.out.size; omega) (by omega) (by omega) (by omega); replace hT := Lib.hid hTT; have zz1 := hF'.size; clear hTT hF'; have hY9 : (v1.cell? ⟨CF, 0, none⟩ = some (.int .i64 d.S) ∧ v1.cell? ⟨CF, 1, none⟩ = some (.int .i64 d.A) ∧ v1.cell? ⟨CF, 2, none⟩ = some (.int .i64 d.C) ∧ v1.cell? ⟨CF, 3, none⟩ = some (.int .i64 d.H) ∧ v1.cell? ⟨CF, 4, none⟩ = some (.int .i64 d.G) ∧ v1.cell? ⟨CF, 5, none⟩ = some (.int .i64 d.K)) ∧ v1.cell? ⟨pa, 0, none⟩ = some (.int .i64 (-1)) := ⟨cfgs hcf.out, Blk.cell hP' (i := 0) (v := .int .i64 (-1)) rfl⟩; have hL9 := Lib.hid (hE'.list hr.out); have hn9 := Lib.hid hf'.n; have hu9 := hf'.u; replace hA := Lib.hid hP'; replace hM := Lib.hid hM'; clear hP' hM'; replace hf := Lib.hid hf'; clear hf'; replace hE := Lib.hid hE'; clear hE'; clear ef')
      | (go_at_call 24; refine (words_n _ m b n _ hM.out hn9.out (by omega)).mono ?_; rintro e u3 ⟨A1, c1, b1, rfl, _, hR1, hb'⟩; replace hA := Lib.hid (Blk.below hA.out hb' (Blk.lt hA.out)); replace hLi := Lib.hid (hLi.out.below hb'); replace hcf := Lib.hid (Blk.below hcf.out hb' (Blk.lt hcf.out)); replace hM := Lib.hid (hM.out.next hb'); replace hO := Lib.hid (pw_own_below hO.out hb'); replace hT := Lib.hid (hT.out.trans (hb'.mono (by have := hT.out.size; omega))); have hY1 : (u3.cell? ⟨CF, 0, none⟩ = some (.int .i64 d.S) ∧ u3.cell? ⟨CF, 1, none⟩ = some (.int .i64 d.A) ∧ u3.cell? ⟨CF, 2, none⟩ = some (.int .i64 d.C) ∧ u3.cell? ⟨CF, 3, none⟩ = some (.int .i64 d.H) ∧ u3.cell? ⟨CF, 4, none⟩ = some (.int .i64 d.G) ∧ u3.cell? ⟨CF, 5, none⟩ = some (.int .i64 d.K)) ∧ u3.cell? ⟨pa, 0, none⟩ = some (.int .i64 (-1)) := ⟨cfgs hcf.out, Blk.cell hA.out (i := 0) (v := .int .i64 (-1)) rfl⟩; have zu3 := hb'.size; replace hR1 := Lib.hid hR1; clear hb')
      | (go_at_call 29; refine (listC d _ _ _ _ n M'.f hu9 hr.out hn.out hR1.out).mono ?_; rintro e u4 ⟨u, rfl, hLu, hb'⟩; rw [hL9.out] at hLu; replace hA := Lib.hid (Blk.below hA.out hb' (Blk.lt hA.out)); replace hLi := Lib.hid (hLi.out.below hb'); replace hcf := Lib.hid (Blk.below hcf.out hb' (Blk.lt hcf.out)); replace hM := Lib.hid (hM.out.next hb'); replace hO := Lib.hid (pw_own_below hO.out hb'); replace hT := Lib.hid (hT.out.trans (hb'.mono (by have := hT.out.size; omega))); have hY2 : (u4.cell? ⟨CF, 0, none⟩ = some (.int .i64 d.S) ∧ u4.cell? ⟨CF, 1, none⟩ = some (.int .i64 d.A) ∧ u4.cell? ⟨CF, 2, none⟩ = some (.int .i64 d.C) ∧ u4.cell? ⟨CF, 3, none⟩ = some (.int .i64 d.H) ∧ u4.cell? ⟨CF, 4, none⟩ = some (.int .i64 d.G) ∧ u4.cell? ⟨CF, 5, none⟩ = some (.int .i64 d.K)) ∧ u4.cell? ⟨pa, 0, none⟩ = some (.int .i64 (-1)) := ⟨cfgs hcf.out, Blk.cell hA.out (i := 0) (v := .int .i64 (-1)) rfl⟩; have zu4 := hb'.size; replace hLu := Lib.hid hLu; clear hb')
      | (go_at_call 28; refine (sameC _ _ _ _ _ (0 :: ups i r) (0 :: ups i r) hLu.out hLi.out).mono ?_; rintro e u5 ⟨rfl, hb'⟩; rw [decide_eq_true rfl]; replace hA := Lib.hid (Blk.below hA.out hb' (Blk.lt hA.out)); replace hLi := Lib.hid (hLi.out.below hb'); replace hcf := Lib.hid (Blk.below hcf.out hb' (Blk.lt hcf.out)); replace hM := Lib.hid (hM.out.next hb'); replace hO := Lib.hid (pw_own_below hO.out hb'); replace hT := Lib.hid (hT.out.trans (hb'.mono (by have := hT.out.size; omega))); have hY3 : (u5.cell? ⟨CF, 0, none⟩ = some (.int .i64 d.S) ∧ u5.cell? ⟨CF, 1, none⟩ = some (.int .i64 d.A) ∧ u5.cell? ⟨CF, 2, none⟩ = some (.int .i64 d.C) ∧ u5.cell? ⟨CF, 3, none⟩ = some (.int .i64 d.H) ∧ u5.cell? ⟨CF, 4, none⟩ = some (.int .i64 d.G) ∧ u5.cell? ⟨CF, 5, none⟩ = some (.int .i64 d.K)) ∧ u5.cell? ⟨pa, 0, none⟩ = some (.int .i64 (-1)) := ⟨cfgs hcf.out, Blk.cell hA.out (i := 0) (v := .int .i64 (-1)) rfl⟩; have zu5 := hb'.size; clear hb'))
              all_goals
                have jO := first_cell hO.out (by omega)
                go_wp2
                replace hA := Lib.hid (Blk.drew hA.out)
                replace hM := Lib.hid hM.out.drew
                replace hO := Lib.hid (own_drew hO.out)
                replace hT := Lib.hid hT.out.drew
                have hX := first_cell hO.out (by omega)
                refine wp_region_held_drew (S := fun w' => w'.cell? ⟨b0, o0, none⟩ = some (.int .i64 0)) (by kernel_rfl) hX (fun hHeld => ?_)
                refine wpAnyH_take (i := 0) (oi := { dst := some 104, op := Op.move (Operand.tmp 6), type := 63, pos := "law.go:203", after := #[], guard := none }) (v := ?vc0) rfl (by kernel_rfl) (by kernel_rfl) (by kernel_rfl) (fun _ _ _ h => h) (Or.inl ⟨by rfl, ?hyc0⟩) (by assumption) ?rsc0
                case hyc0 => (intro w hSw; first | (go_simp; done) | (go_simp; with_reducible rfl) | ((try dsimp only at hSw); go_split_ands; go_simp; done) | ((try dsimp only at hSw); go_split_ands; go_simp; with_reducible rfl))
                case' rsc0 => (try simp only [Act.put, List.setIfInBounds_toArray, List.set_cons_zero, List.set_cons_succ])
                refine wpAnyH_take (i := 1) (oi := { dst := some 105, op := Op.move (Operand.tmp 5), type := 24, pos := "law.go:203", after := #[], guard := none }) (v := ?vc1) rfl (by kernel_rfl) (by kernel_rfl) (by kernel_rfl) (fun _ _ _ h => h) (Or.inl ⟨by rfl, ?hyc1⟩) (by assumption) ?rsc1
                case hyc1 => (intro w hSw; first | (go_simp; done) | (go_simp; with_reducible rfl) | ((try dsimp only at hSw); go_split_ands; go_simp; done) | ((try dsimp only at hSw); go_split_ands; go_simp; with_reducible rfl))
                case' rsc1 => (try simp only [Act.put, List.setIfInBounds_toArray, List.set_cons_zero, List.set_cons_succ])
                refine wpAnyH_ready (rs := [2]) (by kernel_rfl) (by simp) ?_
                refine AllReadyH.cons (o := { dst := some 106, op := Op.call { callee := Callee.value (Operand.func 45), args := #[Operand.tmp 104, Operand.tmp 105], argTypes := #[63, 24] }, type := 4, pos := "law.go:203", after := #[{ on := 0, ground := Ground.data }, { on := 1, ground := Ground.data }], guard := none }) rfl (fun K hK => ?_) AllReadyH.nil
                go_simp
                (go_at_call 45; refine (al1 hr.out hM.out hf.out hn.out (by omega) (not_two (by omega) (by omega)) hE.out hA.out (by decide) (by decide)).mono ?_; rintro e v1 ⟨rfl, M', hP', hM', ef', hf', hF'⟩; have hE' := (show Stk d M'.f (i + 1) (0 :: ups i r) by rw [ef']; exact hE.out); replace hO := Lib.hid (own_move hO.out (fun k hk => hF'.keep k (own_lt hO.out k hk) (not_three (by have := hkq.out k hk; omega) (by have := hkq.out k hk; omega) (by have := hkq.out k hk; omega)))); have hTT := below_three hT.out hF' (by have := hT.out.size; omega) (by omega) (by omega) (by omega); replace hT := Lib.hid hTT; have zz1 := hF'.size; clear hTT hF'; have hY9 : v1.cell? ⟨b0, o0, none⟩ = some (.int .i64 0) := first_cell hO.out (by omega); replace hA := Lib.hid hP'; replace hM := Lib.hid hM'; clear hP' hM'; replace hf := Lib.hid hf'; clear hf'; replace hE := Lib.hid hE'; clear hE'; clear ef')
                refine hK.out _ _ (by assumption) (fun hHeld => ?_)
                clear hK K
                try simp only [Act.put, List.setIfInBounds_toArray, List.set_cons_zero, List.set_cons_succ]
                refine wpAnyH_take (i := 3) (oi := { dst := some 107, op := Op.unOp UnOp.not 4 (Operand.tmp 106), type := 4, pos := "law.go:203", after := #[{ on := 2, ground := Ground.data }], guard := none }) (v := ?vc3) rfl (by kernel_rfl) (by kernel_rfl) (by kernel_rfl) (fun _ _ _ h => h) (Or.inl ⟨by rfl, ?hyc3⟩) (by assumption) ?rsc3
                case hyc3 => (intro w hSw; first | (go_simp; done) | (go_simp; with_reducible rfl) | ((try dsimp only at hSw); go_split_ands; go_simp; done) | ((try dsimp only at hSw); go_split_ands; go_simp; with_reducible rfl))
                case' rsc3 => (try simp only [Act.put, List.setIfInBounds_toArray, List.set_cons_zero, List.set_cons_succ])
                refine wpAnyH_take (i := 4) (oi := { dst := some 108, op := Op.move (Operand.tmp 107), type := 4, pos := "law.go:203", after := #[{ on := 3, ground := Ground.data }, { on := 2, ground := Ground.chain }], guard := none }) (v := ?vc4) rfl (by kernel_rfl) (by kernel_rfl) (by kernel_rfl) (fun _ _ _ h => h) (Or.inl ⟨by rfl, ?hyc4⟩) (by assumption) ?rsc4
                case hyc4 => (intro w hSw; first | (go_simp; done) | (go_simp; with_reducible rfl) | ((try dsimp only at hSw); go_split_ands; go_simp; done) | ((try dsimp only at hSw); go_split_ands; go_simp; with_reducible rfl))
                case' rsc4 => (try simp only [Act.put, List.setIfInBounds_toArray, List.set_cons_zero, List.set_cons_succ])
                refine wpAnyH_take (i := 5) (oi := { dst := some 109, op := Op.move (Operand.tmp 6), type := 63, pos := "law.go:203", after := #[{ on := 4, ground := Ground.guard }], guard := some (4, true) }) (v := ?vc5) rfl (by kernel_rfl) (by kernel_rfl) (by kernel_rfl) (fun _ _ _ h => h) (Or.inl ⟨by rfl, ?hyc5⟩) (by assumption) ?rsc5
                case hyc5 => (intro w hSw; first | (go_simp; done) | (go_simp; with_reducible rfl) | ((try dsimp only at hSw); go_split_ands; go_simp; done) | ((try dsimp only at hSw); go_split_ands; go_simp; with_reducible rfl))
                case' rsc5 => (try simp only [Act.put, List.setIfInBounds_toArray, List.set_cons_zero, List.set_cons_succ])
                refine wpAnyH_take (i := 6) (oi := { dst := some 110, op := Op.move (Operand.tmp 5), type := 24, pos := "law.go:203", after := #[{ on := 4, ground := Ground.guard }], guard := some (4, true) }) (v := ?vc6) rfl (by kernel_rfl) (by kernel_rfl) (by kernel_rfl) (fun _ _ _ h => h) (Or.inl ⟨by rfl, ?hyc6⟩) (by assumption) ?rsc6
                case hyc6 => (intro w hSw; first | (go_simp; done) | (go_simp; with_reducible rfl) | ((try dsimp only at hSw); go_split_ands; go_simp; done) | ((try dsimp only at hSw); go_split_ands; go_simp; with_reducible rfl))
                case' rsc6 => (try simp only [Act.put, List.setIfInBounds_toArray, List.set_cons_zero, List.set_cons_succ])
                refine wpAnyH_ready (rs := [7]) (by kernel_rfl) (by simp) ?_
                refine AllReadyH.cons (o := { dst := some 111, op := Op.call { callee := Callee.value (Operand.func 45), args := #[Operand.tmp 109, Operand.tmp 110], argTypes := #[63, 24] }, type := 4, pos := "law.go:203", after := #[{ on := 5, ground := Ground.data }, { on := 6, ground := Ground.data }, { on := 4, ground := Ground.chain }, { on := 4, ground := Ground.guard }], guard := some (4, true) }) rfl (fun K hK => ?_) AllReadyH.nil
                go_simp
                (go_at_call 45; refine (al2 hr.out hM.out hf.out hn.out (by omega) (not_two (by omega) (by omega)) hE.out hA.out).mono ?_; rintro e v2 ⟨rfl, M', hP', hM', ef', hf', hF'⟩; have hE' := (show Stk d M'.f (i + 1) (0 :: ups i r) by rw [ef']; exact hE.out); replace hO := Lib.hid (own_move hO.out (fun k hk => hF'.keep k (own_lt hO.out k hk) (not_three (by have := hkq.out k hk; omega) (by have := hkq.out k hk; omega) (by have := hkq.out k hk; omega)))); have hTT := below_three hT.out hF' (by have := hT.out.size; omega) (by omega) (by omega) (by omega); replace hT := Lib.hid hTT; have zz2 := hF'.size; clear hTT hF'; have hY9 : v2.cell? ⟨b0, o0, none⟩ = some (.int .i64 0) := first_cell hO.out (by omega); replace hA := Lib.hid hP'; replace hM := Lib.hid hM'; clear hP' hM'; replace hf := Lib.hid hf'; clear hf'; replace hE := Lib.hid hE'; clear hE'; clear ef')
                refine hK.out _ _ (by assumption) (fun hHeld => ?_)
                clear hK K
                try simp only [Act.put, List.setIfInBounds_toArray, List.set_cons_zero, List.set_cons_succ]
                refine wpAnyH_take (i := 8) (oi := { dst := some 112, op := Op.unOp UnOp.not 4 (Operand.tmp 111), type := 4, pos := "law.go:203", after := #[{ on := 7, ground := Ground.data }, { on := 4, ground := Ground.guard }], guard := some (4, true) }) (v := ?vc8) rfl (by kernel_rfl) (by kernel_rfl) (by kernel_rfl) (fun _ _ _ h => h) (Or.inl ⟨by rfl, ?hyc8⟩) (by assumption) ?rsc8
                case hyc8 => (intro w hSw; first | (go_simp; done) | (go_simp; with_reducible rfl) | ((try dsimp only at hSw); go_split_ands; go_simp; done) | ((try dsimp only at hSw); go_split_ands; go_simp; with_reducible rfl))
                case' rsc8 => (try simp only [Act.put, List.setIfInBounds_toArray, List.set_cons_zero, List.set_cons_succ])
                refine wpAnyH_take (i := 9) (oi := { dst := some 113, op := Op.pick (Operand.tmp 108) (Operand.tmp 112) (Operand.const (Value.bool false)), type := 4, pos := "law.go:203", after := #[{ on := 4, ground := Ground.data }, { on := 8, ground := Ground.data }], guard := none }) (v := ?vc9) rfl (by kernel_rfl) (by kernel_rfl) (by kernel_rfl) (fun _ _ _ h => h) (Or.inl ⟨by rfl, ?hyc9⟩) (by assumption) ?rsc9
                case hyc9 => (intro w hSw; first | (go_simp; done) | (go_simp; with_reducible rfl) | ((try dsimp only at hSw); go_split_ands; go_simp; done) | ((try dsimp only at hSw); go_split_ands; go_simp; with_reducible rfl))
                case' rsc9 => (try simp only [Act.put, List.setIfInBounds_toArray, List.set_cons_zero, List.set_cons_succ])
                refine wpAnyH_take (i := 10) (oi := { dst := some 114, op := Op.move (Operand.tmp 113), type := 4, pos := "law.go:203", after := #[{ on := 9, ground := Ground.data }, { on := 7, ground := Ground.chain }], guard := none }) (v := ?vc10) rfl (by kernel_rfl) (by kernel_rfl) (by kernel_rfl) (fun _ _ _ h => h) (Or.inl ⟨by rfl, ?hyc10⟩) (by assumption) ?rsc10
                case hyc10 => (intro w hSw; first | (go_simp; done) | (go_simp; with_reducible rfl) | ((try dsimp only at hSw); go_split_ands; go_simp; done) | ((try dsimp only at hSw); go_split_ands; go_simp; with_reducible rfl))
                case' rsc10 => (try simp only [Act.put, List.setIfInBounds_toArray, List.set_cons_zero, List.set_cons_succ])
                refine wpAnyH_take (i := 11) (oi := { dst := some 115, op := Op.move (Operand.tmp 6), type := 63, pos := "law.go:203", after := #[{ on := 10, ground := Ground.guard }], guard := some (10, true) }) (v := ?vc11) rfl (by kernel_rfl) (by kernel_rfl) (by kernel_rfl) (fun _ _ _ h => h) (Or.inl ⟨by rfl, ?hyc11⟩) (by assumption) ?rsc11
                case hyc11 => (intro w hSw; first | (go_simp; done) | (go_simp; with_reducible rfl) | ((try dsimp only at hSw); go_split_ands; go_simp; done) | ((try dsimp only at hSw); go_split_ands; go_simp; with_reducible rfl))
                case' rsc11 => (try simp only [Act.put, List.setIfInBounds_toArray, List.set_cons_zero, List.set_cons_succ])
                refine wpAnyH_take (i := 12) (oi := { dst := some 116, op := Op.move (Operand.tmp 5), type := 24, pos := "law.go:203", after := #[{ on := 10, ground := Ground.guard }], guard := some (10, true) }) (v := ?vc12) rfl (by kernel_rfl) (by kernel_rfl) (by kernel_rfl) (fun _ _ _ h => h) (Or.inl ⟨by rfl, ?hyc12⟩) (by assumption) ?rsc12
                case hyc12 => (intro w hSw; first | (go_simp; done) | (go_simp; with_reducible rfl) | ((try dsimp only at hSw); go_split_ands; go_simp; done) | ((try dsimp only at hSw); go_split_ands; go_simp; with_reducible rfl))
                case' rsc12 => (try simp only [Act.put, List.setIfInBounds_toArray, List.set_cons_zero, List.set_cons_succ])
                refine wpAnyH_ready (rs := [13]) (by kernel_rfl) (by simp) ?_
                refine AllReadyH.cons (o := { dst := some 117, op := Op.call { callee := Callee.value (Operand.func 45), args := #[Operand.tmp 115, Operand.tmp 116], argTypes := #[63, 24] }, type := 4, pos := "law.go:203", after := #[{ on := 11, ground := Ground.data }, { on := 12, ground := Ground.data }, { on := 10, ground := Ground.chain }, { on := 10, ground := Ground.guard }], guard := some (10, true) }) rfl (fun K hK => ?_) AllReadyH.nil
                go_simp
                (go_at_call 45; refine (al3 hr.out hM.out hf.out hn.out (by omega) (not_two (by omega) (by omega)) hE.out (by omega) hA.out).mono ?_; rintro e v3 ⟨rfl, M', hP', hM', hE', hf', hF'⟩; replace hO := Lib.hid (own_move hO.out (fun k hk => hF'.keep k (own_lt hO.out k hk) (not_three (by have := hkq.out k hk; omega) (by have := hkq.out k hk; omega) (by have := hkq.out k hk; omega)))); have hTT := below_three hT.out hF' (by have := hT.out.size; omega) (by omega) (by omega) (by omega); replace hT := Lib.hid hTT; have zz3 := hF'.size; clear hTT hF'; have hY9 : v3.cell? ⟨b0, o0, none⟩ = some (.int .i64 0) := first_cell hO.out (by omega); have j9 := Blk.cell hP' (i := 0) (v := .int .i64 0) rfl; replace hA := Lib.hid hP'; replace hM := Lib.hid hM'; clear hP' hM'; replace hf := Lib.hid hf'; clear hf'; replace hE := Lib.hid hE'; clear hE')
                refine hK.out _ _ (by assumption) (fun hHeld => ?_)
                clear hK K
                try simp only [Act.put, List.setIfInBounds_toArray, List.set_cons_zero, List.set_cons_succ]
                refine wpAnyH_take (i := 14) (oi := { dst := some 118, op := Op.pick (Operand.tmp 114) (Operand.tmp 117) (Operand.const (Value.bool false)), type := 4, pos := "law.go:203", after := #[{ on := 10, ground := Ground.data }, { on := 13, ground := Ground.data }], guard := none }) (v := ?vc14) rfl (by kernel_rfl) (by kernel_rfl) (by kernel_rfl) (fun _ _ _ h => h) (Or.inl ⟨by rfl, ?hyc14⟩) (by assumption) ?rsc14
                case hyc14 => (intro w hSw; first | (go_simp; done) | (go_simp; with_reducible rfl) | ((try dsimp only at hSw); go_split_ands; go_simp; done) | ((try dsimp only at hSw); go_split_ands; go_simp; with_reducible rfl))
                case' rsc14 => (try simp only [Act.put, List.setIfInBounds_toArray, List.set_cons_zero, List.set_cons_succ])
                refine wpAnyH_take (i := 15) (oi := { dst := some 119, op := Op.move (Operand.tmp 118), type := 4, pos := "law.go:203", after := #[{ on := 14, ground := Ground.data }, { on := 13, ground := Ground.chain }], guard := none }) (v := ?vc15) rfl (by kernel_rfl) (by kernel_rfl) (by kernel_rfl) (fun _ _ _ h => h) (Or.inl ⟨by rfl, ?hyc15⟩) (by assumption) ?rsc15
                case hyc15 => (intro w hSw; first | (go_simp; done) | (go_simp; with_reducible rfl) | ((try dsimp only at hSw); go_split_ands; go_simp; done) | ((try dsimp only at hSw); go_split_ands; go_simp; with_reducible rfl))
                case' rsc15 => (try simp only [Act.put, List.setIfInBounds_toArray, List.set_cons_zero, List.set_cons_succ])
                refine wpAnyH_take (i := 16) (oi := { dst := some 120, op := Op.move (Operand.tmp 6), type := 63, pos := "law.go:203", after := #[{ on := 15, ground := Ground.guard }], guard := some (15, true) }) (v := ?vc16) rfl (by kernel_rfl) (by kernel_rfl) (by kernel_rfl) (fun _ _ _ h => h) (Or.inl ⟨by rfl, ?hyc16⟩) (by assumption) ?rsc16
                case hyc16 => (intro w hSw; first | (go_simp; done) | (go_simp; with_reducible rfl) | ((try dsimp only at hSw); go_split_ands; go_simp; done) | ((try dsimp only at hSw); go_split_ands; go_simp; with_reducible rfl))
                case' rsc16 => (try simp only [Act.put, List.setIfInBounds_toArray, List.set_cons_zero, List.set_cons_succ])
                refine wpAnyH_take (i := 17) (oi := { dst := some 121, op := Op.nilCheck (Operand.tmp 120), type := 0, pos := "law.go:203", after := #[{ on := 16, ground := Ground.data }, { on := 15, ground := Ground.guard }], guard := some (15, true) }) (v := ?vc17) rfl (by kernel_rfl) (by kernel_rfl) (by kernel_rfl) (fun _ _ _ h => h) (Or.inl ⟨by rfl, ?hyc17⟩) (by assumption) ?rsc17
                case hyc17 => (intro w hSw; first | (go_simp; done) | (go_simp; with_reducible rfl) | ((try dsimp only at hSw); go_split_ands; go_simp; done) | ((try dsimp only at hSw); go_split_ands; go_simp; with_reducible rfl))
                case' rsc17 => (try simp only [Act.put, List.setIfInBounds_toArray, List.set_cons_zero, List.set_cons_succ])
                refine wpAnyH_take (i := 18) (oi := { dst := some 122, op := Op.fieldAddr 66 (Operand.tmp 121) 0, type := 0, pos := "law.go:203", after := #[{ on := 17, ground := Ground.data }, { on := 15, ground := Ground.guard }], guard := some (15, true) }) (v := ?vc18) rfl (by kernel_rfl) (by kernel_rfl) (by kernel_rfl) (fun _ _ _ h => h) (Or.inl ⟨by rfl, ?hyc18⟩) (by assumption) ?rsc18
                case hyc18 => (intro w hSw; first | (go_simp; done) | (go_simp; with_reducible rfl) | ((try dsimp only at hSw); go_split_ands; go_simp; done) | ((try dsimp only at hSw); go_split_ands; go_simp; with_reducible rfl))
                case' rsc18 => (try simp only [Act.put, List.setIfInBounds_toArray, List.set_cons_zero, List.set_cons_succ])
                refine wpAnyH_take (i := 20) (oi := { dst := some 124, op := Op.move (Operand.tmp 7), type := 35, pos := "law.go:203", after := #[{ on := 15, ground := Ground.guard }], guard := some (15, true) }) (v := ?vc20) rfl (by kernel_rfl) (by kernel_rfl) (by kernel_rfl) (fun _ _ _ h => h) (Or.inl ⟨by rfl, ?hyc20⟩) (by assumption) ?rsc20
                case hyc20 => (intro w hSw; first | (go_simp; done) | (go_simp; with_reducible rfl) | ((try dsimp only at hSw); go_split_ands; go_simp; done) | ((try dsimp only at hSw); go_split_ands; go_simp; with_reducible rfl))
                case' rsc20 => (try simp only [Act.put, List.setIfInBounds_toArray, List.set_cons_zero, List.set_cons_succ])
                refine wpAnyH_take (i := 21) (oi := { dst := some 125, op := Op.indexAddr 35 (Operand.tmp 124) (Operand.const (Value.int IntKind.i64 0)), type := 0, pos := "law.go:203", after := #[{ on := 20, ground := Ground.data }, { on := 15, ground := Ground.guard }], guard := some (15, true) }) (v := ?vc21) rfl (by kernel_rfl) (by kernel_rfl) (by kernel_rfl) (fun _ _ _ h => h) (Or.inl ⟨by rfl, ?hyc21⟩) (by assumption) ?rsc21
                case hyc21 => (intro w hSw; first | (go_simp; done) | (go_simp; with_reducible rfl) | ((try dsimp only at hSw); go_split_ands; go_simp; done) | ((try dsimp only at hSw); go_split_ands; go_simp; with_reducible rfl))
                case' rsc21 => (try simp only [Act.put, List.setIfInBounds_toArray, List.set_cons_zero, List.set_cons_succ])
                refine wpAnyH_take (i := 22) (oi := { dst := some 126, op := Op.load 3 (Operand.tmp 125), type := 3, pos := "law.go:203", after := #[{ on := 21, ground := Ground.data }, { on := 15, ground := Ground.guard }], guard := some (15, true) }) (v := ?vc22) rfl (by kernel_rfl) (by kernel_rfl) (by kernel_rfl) (fun _ _ _ h => h) (Or.inl ⟨by rfl, ?hyc22⟩) (by assumption) ?rsc22
                case hyc22 => (intro w hSw; first | (go_simp; done) | (go_simp; with_reducible rfl) | ((try dsimp only at hSw); go_split_ands; go_simp; done) | ((try dsimp only at hSw); go_split_ands; go_simp; with_reducible rfl))
                case' rsc22 => (try simp only [Act.put, List.setIfInBounds_toArray, List.set_cons_zero, List.set_cons_succ])
                refine wpAnyH_ready (rs := [19]) (by kernel_rfl) (by simp) ?_
                refine AllReadyH.cons (o := { dst := some 123, op := Op.load 3 (Operand.tmp 122), type := 3, pos := "law.go:203", after := #[{ on := 18, ground := Ground.data }, { on := 15, ground := Ground.guard }], guard := some (15, true) }) rfl (fun K hK => ?_) AllReadyH.nil
                go_simp
                refine hK.out _ _ (by assumption) (fun hHeld => ?_)
                clear hK K
                try simp only [Act.put, List.setIfInBounds_toArray, List.set_cons_zero, List.set_cons_succ]
                refine wpAnyH_take (i := 23) (oi := { dst := some 127, op := Op.binOp BinOp.eql 3 (Operand.tmp 123) (Operand.tmp 126) 3, type := 4, pos := "law.go:203", after := #[{ on := 19, ground := Ground.data }, { on := 22, ground := Ground.data }, { on := 15, ground := Ground.guard }], guard := some (15, true) }) (v := ?vc23) rfl (by kernel_rfl) (by kernel_rfl) (by kernel_rfl) (fun _ _ _ h => h) (Or.inl ⟨by rfl, ?hyc23⟩) (by assumption) ?rsc23
                case hyc23 => (intro w hSw; first | (go_simp; done) | (go_simp; with_reducible rfl) | ((try dsimp only at hSw); go_split_ands; go_simp; done) | ((try dsimp only at hSw); go_split_ands; go_simp; with_reducible rfl))
                case' rsc23 => (try simp only [Act.put, List.setIfInBounds_toArray, List.set_cons_zero, List.set_cons_succ])
                refine wpAnyH_take (i := 24) (oi := { dst := some 128, op := Op.pick (Operand.tmp 119) (Operand.tmp 127) (Operand.const (Value.bool false)), type := 4, pos := "law.go:203", after := #[{ on := 15, ground := Ground.data }, { on := 23, ground := Ground.data }], guard := none }) (v := ?vc24) rfl (by kernel_rfl) (by kernel_rfl) (by kernel_rfl) (fun _ _ _ h => h) (Or.inl ⟨by rfl, ?hyc24⟩) (by assumption) ?rsc24
                case hyc24 => (intro w hSw; first | (go_simp; done) | (go_simp; with_reducible rfl) | ((try dsimp only at hSw); go_split_ands; go_simp; done) | ((try dsimp only at hSw); go_split_ands; go_simp; with_reducible rfl))
                case' rsc24 => (try simp only [Act.put, List.setIfInBounds_toArray, List.set_cons_zero, List.set_cons_succ])
                refine wpAnyH_take (i := 25) (oi := { dst := some 129, op := Op.move (Operand.tmp 128), type := 4, pos := "law.go:203", after := #[{ on := 24, ground := Ground.data }, { on := 15, ground := Ground.chain }], guard := none }) (v := ?vc25) rfl (by kernel_rfl) (by kernel_rfl) (by kernel_rfl) (fun _ _ _ h => h) (Or.inl ⟨by rfl, ?hyc25⟩) (by assumption) ?rsc25
                case hyc25 => (intro w hSw; first | (go_simp; done) | (go_simp; with_reducible rfl) | ((try dsimp only at hSw); go_split_ands; go_simp; done) | ((try dsimp only at hSw); go_split_ands; go_simp; with_reducible rfl))
                case' rsc25 => (try simp only [Act.put, List.setIfInBounds_toArray, List.set_cons_zero, List.set_cons_succ])
                refine wpAnyH_ready (rs := [26]) (by kernel_rfl) (by simp) ?_
                refine AllReadyH.cons (o := { dst := some 130, op := Op.call { callee := Callee.value (Operand.func 27), args := #[], argTypes := #[] }, type := 4, pos := "law.go:203", after := #[{ on := 25, ground := Ground.chain }, { on := 25, ground := Ground.guard }], guard := some (25, true) }) rfl (fun K hK => ?_) AllReadyH.nil
                go_simp
                (go_at_call 27; refine (awake7C _).mono ?_; rintro e v4 ⟨rfl, hb'⟩; replace hO := Lib.hid (pw_own_below hO.out hb'); replace hT := Lib.hid (hT.out.trans (hb'.mono (by have := hT.out.size; omega))); have hY9 : v4.cell? ⟨b0, o0, none⟩ = some (.int .i64 0) := first_cell hO.out (by omega); clear hb')
                refine hK.out _ _ (by assumption) (fun hHeld => ?_)
                clear hK K
                try simp only [Act.put, List.setIfInBounds_toArray, List.set_cons_zero, List.set_cons_succ]
                refine wpAnyH_take (i := 27) (oi := { dst := some 131, op := Op.pick (Operand.tmp 129) (Operand.tmp 130) (Operand.const (Value.bool false)), type := 4, pos := "law.go:203", after := #[{ on := 25, ground := Ground.data }, { on := 26, ground := Ground.data }], guard := none }) (v := ?vc27) rfl (by kernel_rfl) (by kernel_rfl) (by kernel_rfl) (fun _ _ _ h => h) (Or.inl ⟨by rfl, ?hyc27⟩) (by assumption) ?rsc27
                case hyc27 => (intro w hSw; first | (go_simp; done) | (go_simp; with_reducible rfl) | ((try dsimp only at hSw); go_split_ands; go_simp; done) | ((try dsimp only at hSw); go_split_ands; go_simp; with_reducible rfl))
                case' rsc27 => (try simp only [Act.put, List.setIfInBounds_toArray, List.set_cons_zero, List.set_cons_succ])
                refine wpAnyH_take (i := 28) (oi := { dst := some 4, op := Op.assign (Operand.tmp 131), type := 4, pos := "law.go:203", after := #[{ on := 27, ground := Ground.data }, { on := 26, ground := Ground.chain }, { on := 0, ground := Ground.phase }, { on := 1, ground := Ground.phase }, { on := 2, ground := Ground.phase }, { on := 3, ground := Ground.phase }, { on := 4, ground := Ground.phase }, { on := 5, ground := Ground.phase }, { on := 6, ground := Ground.phase }, { on := 7, ground := Ground.phase }, { on := 8, ground := Ground.phase }, { on := 9, ground := Ground.phase }, { on := 10, ground := Ground.phase }, { on := 11, ground := Ground.phase }, { on := 12, ground := Ground.phase }, { on := 13, ground := Ground.phase }, { on := 14, ground := Ground.phase }, { on := 15, ground := Ground.phase }, { on := 16, ground := Ground.phase }, { on := 17, ground := Ground.phase }, { on := 18, ground := Ground.phase }, { on := 19, ground := Ground.phase }, { on := 20, ground := Ground.phase }, { on := 21, ground := Ground.phase }, { on := 22, ground := Ground.phase }, { on := 23, ground := Ground.phase }, { on := 24, ground := Ground.phase }, { on := 25, ground := Ground.phase }, { on := 26, ground := Ground.phase }, { on := 27, ground := Ground.phase }], guard := none }) (v := ?vc28) rfl (by kernel_rfl) (by kernel_rfl) (by kernel_rfl) (fun _ _ _ h => h) (Or.inl ⟨by rfl, ?hyc28⟩) (by assumption) ?rsc28
                case hyc28 => (intro w hSw; first | (go_simp; done) | (go_simp; with_reducible rfl) | ((try dsimp only at hSw); go_split_ands; go_simp; done) | ((try dsimp only at hSw); go_split_ands; go_simp; with_reducible rfl))
                case' rsc28 => (try simp only [Act.put, List.setIfInBounds_toArray, List.set_cons_zero, List.set_cons_succ])
                refine wpAnyH_done (by kernel_rfl) ?_ _
                go_wp2
                go_ret
                exact ⟨rfl, hCFe ▸ hT.out⟩
end Go.Proofs.Ytijfkpoofpcacaa.StackO
