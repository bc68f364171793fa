/-
  Contracts of the functions of layer 4 (headers) and of its reference, in closed form; conditions: the words' kinds.
-/
import Derived.Test.YtnphakngfkmpiaaHeadP
import Derived.Test.YtnphakngfkmpiaaPHeadMadex1
import Derived.Test.YtnphakngfkmpiaaPHeadShadesx3
import Derived.StillTailTactics
namespace Go.Proofs.Ytnphakngfkmpiaa.HeadC
open Go.RowKit Go.Proofs.Ytnphakngfkmpiaa.PHeadShades Go.Proofs.YtnphakngfkmpiaaW.PrintWords Go.Proofs.YtnphakngfkmpiaaW.PrintLast Go.Proofs.Ytnphakngfkmpiaa.Core

def okW (x : Int) : Bool := decide (x % 8 ≤ 4 ∧ x / 512 % 128 = 0)
def uK (x : Int) : Int := if okW x = true then x % 8 else 0
def uM (x : Int) : Int := if okW x = true then x / 8 % 2 else 0
def uG (x : Int) : Bool := okW x && (x / 16 % 2 == 1)
def uA (x : Int) : Int := if okW x = true then x / 32 % 16 else 0
def uN (x : Int) : Int := if okW x = true then x / 65536 % 4294967296 else 0
def uS (x : Int) : Int := if okW x = true then x / 281474976710656 else 0
def livesB (x : Int) : Bool := okW x && (uK x == 1 || uK x == 2)
def blackI (e : Int) : Int := if e / 4 % 2 = 0 then 1 else 0
def bornI (e : Int) : Int := if e % 4 = 0 then 1 - blackI e else blackI e
def markedB (x e : Int) : Bool := livesB x && (uM x == blackI e)
theorem u_yes {x : Int} (h : okW x = true) : uK x = x % 8 ∧ uM x = x / 8 % 2 ∧ uG x = (x / 16 % 2 == 1) ∧ uA x = x / 32 % 16 ∧ uN x = x / 65536 % 4294967296 ∧ uS x = x / 281474976710656 := by
  unfold uK uM uG uA uN uS; simp [h]
theorem u_no {x : Int} (h : okW x = false) : uK x = 0 ∧ uM x = 0 ∧ uG x = false ∧ uA x = 0 ∧ uN x = 0 ∧ uS x = 0 := by
  unfold uK uM uG uA uN uS; simp [h]
theorem u_bd (x : Int) (h0 : 0 ≤ x) (h1 : x < 18446744073709551616) : 0 ≤ uK x ∧ uK x ≤ 4 ∧ 0 ≤ uM x ∧ uM x ≤ 1 ∧ 0 ≤ uA x ∧ uA x ≤ 15 ∧ 0 ≤ uN x ∧ uN x ≤ 4294967295 ∧ 0 ≤ uS x ∧ uS x ≤ 65535 := by
  cases h : okW x with
  | true =>
    obtain ⟨e1, e2, e3, e4, e5, e6⟩ := u_yes h
    rw [e1, e2, e4, e5, e6]
    simp only [okW, decide_eq_true_eq] at h
    omega
  | false =>
    obtain ⟨e1, e2, e3, e4, e5, e6⟩ := u_no h
    rw [e1, e2, e4, e5, e6]
    decide
theorem black_bd (e : Int) : 0 ≤ blackI e ∧ blackI e ≤ 1 := by unfold blackI; split <;> decide
theorem black_eq (e : Int) (h0 : 0 ≤ e) (h1 : e < 18446744073709551616) : turn_Black.f e = some (blackI e) := by
  unfold turn_Black.f turn_Cycle.f blackI
  have t : Int.tdiv e 4 = e / 4 := Int.tdiv_eq_ediv_of_nonneg h0
  rw [Option.bind_some, t, wrap_u64_id (e / 4) (by omega) (by omega), wrap_u64_id _ (by omega) (by omega)]
  have t2 : Int.tmod (e / 4 + 1) 2 = (e / 4 + 1) % 2 := Int.tmod_eq_emod_of_nonneg (by omega)
  rw [t2, wrap64_id _ (by omega) (by omega)]
  congr 1
  split <;> omega
theorem black_c (e : Int) (h0 : 0 ≤ e) (h1 : e < 18446744073709551616) (w : World) : Calls Try.prog 64 #[.int .u64 e] w fun r w' => r = .returned (.int .i64 (blackI e)) ∧ Drawn0 w w' :=
  turn_Black.calls e _ w (black_eq e h0 h1)
theorem born_c (e : Int) (h0 : 0 ≤ e) (h1 : e < 18446744073709551616) (w : World) : Calls Try.prog 58 #[.int .u64 e] w fun r w' => r = .returned (.int .i64 (bornI e)) ∧ Drawn0 w w' := by
  refine PHeadMade.turn_Born.calls e _ w ?_
  unfold PHeadMade.turn_Born.f bornI
  have b : PHeadMade.turn_Black.f e = some (blackI e) := black_eq e h0 h1
  have bb := black_bd e
  rw [b, Option.bind_some, Option.bind_some, wrap64_id _ (by omega) (by omega), show Int.tmod e 4 = e % 4 from Int.tmod_eq_emod_of_nonneg h0]
  split <;> rfl
theorem rBlack_eq (e : Int) (h0 : 0 ≤ e) (h1 : e < 18446744073709551616) : withyref03_Black.f e = some (blackI e) := by
  unfold withyref03_Black.f blackI
  have t : Int.tdiv e 4 = e / 4 := Int.tdiv_eq_ediv_of_nonneg h0
  rw [t, wrap_u64_id (e / 4) (by omega) (by omega), show Int.tmod (e / 4) 2 = e / 4 % 2 from Int.tmod_eq_emod_of_nonneg (by omega)]
  split <;> rfl
theorem rBlack_c (e : Int) (h0 : 0 ≤ e) (h1 : e < 18446744073709551616) (w : World) : Calls Try.prog 45 #[.int .u64 e] w fun r w' => r = .returned (.int .i64 (blackI e)) ∧ Drawn0 w w' :=
  withyref03_Black.calls e _ w (rBlack_eq e h0 h1)
theorem rBorn_c (e : Int) (h0 : 0 ≤ e) (h1 : e < 18446744073709551616) (w : World) : Calls Try.prog 32 #[.int .u64 e] w fun r w' => r = .returned (.int .i64 (bornI e)) ∧ Drawn0 w w' := by
  refine PHeadMade.withyref03_Born.calls e _ w ?_
  unfold PHeadMade.withyref03_Born.f PHeadMade.withyref03_Phase.f bornI
  have b : PHeadMade.withyref03_Black.f e = some (blackI e) := rBlack_eq e h0 h1
  have bb := black_bd e
  rw [b, Option.bind_some, Option.bind_some, Option.bind_some, wrap64_id (1 - blackI e) (by omega) (by omega), show Int.tmod e 4 = e % 4 from Int.tmod_eq_emod_of_nonneg h0, wrap64_id _ (by omega) (by omega)]
  split <;> rfl
theorem unpack_eq (x : Int) (h0 : 0 ≤ x) (h1 : x < 18446744073709551616) : head_Unpack.f 10 x = some (uK x, uM x, uG x, uA x, uN x, uS x, okW x) := by
  unfold head_Unpack.f
  rw [p_Unpack 10 x _ (by simp) (by simp) h0 h1, Option.bind_some]
  have e : unpF x [3, 1, 1, 4, 7, 32, 16] 0 [] = ([x % 8, x / 8 % 2, x / 16 % 2, x / 32 % 16, x / 512 % 128, x / 65536 % 4294967296, x / 281474976710656 % 65536], true) := by simp [unpF, okB, getV]
  rw [e]
  generalize hl : [x % 8, x / 8 % 2, x / 16 % 2, x / 32 % 16, x / 512 % 128, x / 65536 % 4294967296, x / 281474976710656 % 65536] = l
  have l7 : l.length = 7 := by rw [← hl]; rfl
  have r0 : rd l 0 = x % 8 := by rw [← hl]; rfl
  have r1 : rd l 1 = x / 8 % 2 := by rw [← hl]; rfl
  have r2 : rd l 2 = x / 16 % 2 := by rw [← hl]; rfl
  have r3 : rd l 3 = x / 32 % 16 := by rw [← hl]; rfl
  have r4 : rd l 4 = x / 512 % 128 := by rw [← hl]; rfl
  have r5 : rd l 5 = x / 65536 % 4294967296 := by rw [← hl]; rfl
  have r6 : rd l 6 = x / 281474976710656 % 65536 := by rw [← hl]; rfl
  simp only [l7, r0, r1, r2, r3, r4, r5, r6]
  rw [if_neg (by decide), if_pos (by decide)]
  by_cases c : x % 8 > 4
  · have h : okW x = false := by simp [okW]; omega
    obtain ⟨e1, e2, e3, e4, e5, e6⟩ := u_no h
    rw [if_pos c, e1, e2, e3, e4, e5, e6, h]
  · rw [if_neg c, if_pos (by decide)]
    by_cases d : x / 512 % 128 = 0
    · have h : okW x = true := by simp [okW]; omega
      obtain ⟨e1, e2, e3, e4, e5, e6⟩ := u_yes h
      rw [if_pos d, if_pos (by decide), if_pos (by decide), if_pos (by decide), if_pos (by decide), if_pos (by decide), e1, e2, e3, e4, e5, e6, h, wrap64_id (x % 8) (by omega) (by omega), wrap64_id (x / 8 % 2) (by omega) (by omega), wrap64_id (x / 32 % 16) (by omega) (by omega), wrap64_id (x / 65536 % 4294967296) (by omega) (by omega), wrap64_id (x / 281474976710656 % 65536) (by omega) (by omega), show x / 281474976710656 % 65536 = x / 281474976710656 from by omega]
    · have h : okW x = false := by simp [okW]; omega
      obtain ⟨e1, e2, e3, e4, e5, e6⟩ := u_no h
      rw [if_neg d, e1, e2, e3, e4, e5, e6, h]
theorem unpack_c (x : Int) (h0 : 0 ≤ x) (h1 : x < 18446744073709551616) (w : World) :
    Calls Try.prog 37 #[.int .u64 x] w fun e w' => e = .returned (.tuple #[.agg #[.int .i64 (uK x), .int .i64 (uM x), .bool (uG x), .int .i64 (uA x), .int .i64 (uN x), .int .i64 (uS x)], .bool (okW x)]) ∧ Below w.heap.size w w' :=
  head_Unpack.calls 10 x _ _ _ _ _ _ _ w (unpack_eq x h0 h1)
theorem rUnpack_eq (x : Int) (h0 : 0 ≤ x) (h1 : x < 18446744073709551616) : withyref04_Unpack.f x = some (uK x, uM x, uG x, uA x, uN x, uS x, okW x) := by
  unfold withyref04_Unpack.f
  have t1 : Int.tmod x 8 = x % 8 := Int.tmod_eq_emod_of_nonneg h0
  have t2 : Int.tdiv x 512 = x / 512 := Int.tdiv_eq_ediv_of_nonneg h0
  have t3 : Int.tdiv x 8 = x / 8 := Int.tdiv_eq_ediv_of_nonneg h0
  have t4 : Int.tdiv x 16 = x / 16 := Int.tdiv_eq_ediv_of_nonneg h0
  have t5 : Int.tdiv x 32 = x / 32 := Int.tdiv_eq_ediv_of_nonneg h0
  have t6 : Int.tdiv x 65536 = x / 65536 := Int.tdiv_eq_ediv_of_nonneg h0
  have t7 : Int.tdiv x 281474976710656 = x / 281474976710656 := Int.tdiv_eq_ediv_of_nonneg h0
  have s2 : Int.tmod (x / 512) 128 = x / 512 % 128 := Int.tmod_eq_emod_of_nonneg (by omega)
  have s3 : Int.tmod (x / 8) 2 = x / 8 % 2 := Int.tmod_eq_emod_of_nonneg (by omega)
  have s4 : Int.tmod (x / 16) 2 = x / 16 % 2 := Int.tmod_eq_emod_of_nonneg (by omega)
  have s5 : Int.tmod (x / 32) 16 = x / 32 % 16 := Int.tmod_eq_emod_of_nonneg (by omega)
  have s6 : Int.tmod (x / 65536) 4294967296 = x / 65536 % 4294967296 := Int.tmod_eq_emod_of_nonneg (by omega)
  rw [t1, t2, t3, t4, t5, t6, t7, wrap_u64_id (x / 512) (by omega) (by omega), wrap_u64_id (x / 8) (by omega) (by omega), wrap_u64_id (x / 16) (by omega) (by omega), wrap_u64_id (x / 32) (by omega) (by omega), wrap_u64_id (x / 65536) (by omega) (by omega), wrap_u64_id (x / 281474976710656) (by omega) (by omega), s2, s3, s4, s5, s6,
    wrap64_id (x % 8) (by omega) (by omega), wrap64_id (x / 8 % 2) (by omega) (by omega), wrap64_id (x / 32 % 16) (by omega) (by omega), wrap64_id (x / 65536 % 4294967296) (by omega) (by omega), wrap64_id (x / 281474976710656) (by omega) (by omega)]
  by_cases c : x % 8 > 4
  · have h : okW x = false := by simp [okW]; omega
    obtain ⟨e1, e2, e3, e4, e5, e6⟩ := u_no h
    rw [if_pos c, e1, e2, e3, e4, e5, e6, h]
  · rw [if_neg c]
    by_cases d : x / 512 % 128 = 0
    · have h : okW x = true := by simp [okW]; omega
      obtain ⟨e1, e2, e3, e4, e5, e6⟩ := u_yes h
      rw [if_pos d, e1, e2, e3, e4, e5, e6, h]
    · have h : okW x = false := by simp [okW]; omega
      obtain ⟨e1, e2, e3, e4, e5, e6⟩ := u_no h
      rw [if_neg d, e1, e2, e3, e4, e5, e6, h]
theorem rUnpack_c (x : Int) (h0 : 0 ≤ x) (h1 : x < 18446744073709551616) (w : World) :
    Calls Try.prog 38 #[.int .u64 x] w fun e w' => e = .returned (.tuple #[.agg #[.int .i64 (uK x), .int .i64 (uM x), .bool (uG x), .int .i64 (uA x), .int .i64 (uN x), .int .i64 (uS x)], .bool (okW x)]) ∧ Below w.heap.size w w' :=
  withyref04_Unpack.calls x _ _ _ _ _ _ _ w (rUnpack_eq x h0 h1)
theorem lives_c (x : Int) (h0 : 0 ≤ x) (h1 : x < 18446744073709551616) (w : World) :
    Calls Try.prog 63 #[.int .u64 x] w fun e w' => e = .returned (.tuple #[.agg #[.int .i64 (uK x), .int .i64 (uM x), .bool (uG x), .int .i64 (uA x), .int .i64 (uN x), .int .i64 (uS x)], .bool (livesB x)]) ∧ Below w.heap.size w w' := by
  refine head_lives.calls 10 x _ _ _ _ _ _ _ w ?_
  unfold head_lives.f livesB
  rw [unpack_eq x h0 h1, Option.bind_some]
  simp only
  cases h : okW x with
  | false => rfl
  | true =>
    rw [if_pos rfl]
    by_cases c : uK x = 1
    · rw [if_pos c]; simp [c]
    · rw [if_neg c]; simp [c]
theorem rLives_eq (x : Int) (h0 : 0 ≤ x) (h1 : x < 18446744073709551616) : withyref04_Lives.f x = some (livesB x) := by
  unfold withyref04_Lives.f livesB
  rw [rUnpack_eq x h0 h1, Option.bind_some]
  simp only
  cases h : okW x with
  | false => rfl
  | true =>
    rw [if_pos rfl]
    by_cases c : uK x = 1
    · rw [if_pos c]; simp [c]
    · rw [if_neg c]; simp [c]
theorem rLives_c (x : Int) (h0 : 0 ≤ x) (h1 : x < 18446744073709551616) (w : World) :
    Calls Try.prog 41 #[.int .u64 x] w fun e w' => e = .returned (.bool (livesB x)) ∧ Below w.heap.size w w' :=
  withyref04_Lives.calls x _ w (rLives_eq x h0 h1)
theorem rMarked_c (x e : Int) (h0 : 0 ≤ x) (h1 : x < 18446744073709551616) (h2 : 0 ≤ e) (h3 : e < 18446744073709551616) (w : World) :
    Calls Try.prog 42 #[.int .u64 x, .int .u64 e] w fun r w' => r = .returned (.bool (markedB x e)) ∧ Below w.heap.size w w' := by
  refine withyref04_Marked.calls x e _ w ?_
  unfold withyref04_Marked.f markedB
  rw [rUnpack_eq x h0 h1, Option.bind_some, rLives_eq x h0 h1, Option.bind_some, rBlack_eq e h2 h3]
  cases livesB x <;> rfl
theorem marked_c (x e : Int) (h0 : 0 ≤ x) (h1 : x < 18446744073709551616) (h2 : 0 ≤ e) (h3 : e < 18446744073709551616) (w : World) :
    Calls Try.prog 46 #[.int .u64 x, .int .u64 e] w fun r w' => r = .returned (.bool (markedB x e)) ∧ Below w.heap.size w w' := by
  refine head_Marked.calls 10 x e _ w ?_
  unfold head_Marked.f head_lives.f markedB livesB
  rw [unpack_eq x h0 h1, Option.bind_some, black_eq e h2 h3]
  simp only
  cases h : okW x with
  | false => rfl
  | true =>
    rw [if_pos rfl]
    by_cases c : uK x = 1
    · rw [if_pos c]; simp [c]
    · rw [if_neg c]
      have c' : (uK x == 1) = false := by simpa using c
      cases hk : (uK x == 2) <;> simp [c']
theorem packV_yes (k m : Int) (g : Bool) (a n s : Int) (h : 0 ≤ k ∧ k ≤ 4 ∧ 0 ≤ m ∧ m ≤ 1 ∧ 0 ≤ a ∧ a ≤ 15 ∧ 0 ≤ n ∧ n ≤ 4294967295 ∧ 0 ≤ s ∧ s ≤ 65535) : packV k m g a n s = (headN k m g a n s, true) := by
  unfold packV headB; rw [if_pos (by simpa using h)]
theorem rPack_c (k m : Int) (g : Bool) (a n s : Int) (h : 0 ≤ k ∧ k ≤ 4 ∧ 0 ≤ m ∧ m ≤ 1 ∧ 0 ≤ a ∧ a ≤ 15 ∧ 0 ≤ n ∧ n ≤ 4294967295 ∧ 0 ≤ s ∧ s ≤ 65535) (w : World) :
    Calls Try.prog 35 #[.agg #[.int .i64 k, .int .i64 m, .bool g, .int .i64 a, .int .i64 n, .int .i64 s]] w fun e w' => e = .returned (.int .u64 (headN k m g a n s)) ∧ Below w.heap.size w w' := by
  refine withyref04_Pack.calls k m g a n s _ w ?_
  unfold withyref04_Pack.f headN
  rw [wrap_u64_id k (by omega) (by omega), wrap_u64_id m (by omega) (by omega), wrap_u64_id a (by omega) (by omega), wrap_u64_id n (by omega) (by omega), wrap_u64_id s (by omega) (by omega), wrap_u64_id (8 * m) (by omega) (by omega), wrap_u64_id (32 * a) (by omega) (by omega), wrap_u64_id (65536 * n) (by omega) (by omega), wrap_u64_id (281474976710656 * s) (by omega) (by omega),
    wrap_u64_id (k + 8 * m) (by omega) (by omega), wrap_u64_id (k + 8 * m + 32 * a) (by omega) (by omega), wrap_u64_id (k + 8 * m + 32 * a + 65536 * n) (by omega) (by omega), wrap_u64_id (k + 8 * m + 32 * a + 65536 * n + 281474976710656 * s) (by omega) (by omega)]
  split
  · rw [wrap_u64_id _ (by omega) (by omega)]; congr 1; omega
  · congr 1; omega
theorem rRight_c (k m : Int) (g : Bool) (a n s : Int) (w : World) :
    Calls Try.prog 33 #[.agg #[.int .i64 k, .int .i64 m, .bool g, .int .i64 a, .int .i64 n, .int .i64 s]] w fun e w' => e = .returned (.bool (headB k m a n s)) ∧ Below w.heap.size w w' := by
  refine PHeadMade.withyref04_Right.calls k m g a n s _ w ?_
  unfold PHeadMade.withyref04_Right.f headB
  (repeat' split) <;> first | (congr 1; rw [Bool.eq_iff_iff]; simp only [decide_eq_true_eq]; omega) | (congr 1; symm; apply decide_eq_false; omega)
theorem pack_ok (k m : Int) (g : Bool) (a n s : Int) (h : 0 ≤ k ∧ k ≤ 4 ∧ 0 ≤ m ∧ m ≤ 1 ∧ 0 ≤ a ∧ a ≤ 15 ∧ 0 ≤ n ∧ n ≤ 4294967295 ∧ 0 ≤ s ∧ s ≤ 65535) (w : World) :
    Calls Try.prog 36 #[.agg #[.int .i64 k, .int .i64 m, .bool g, .int .i64 a, .int .i64 n, .int .i64 s]] w fun e w' => e = .returned (.tuple #[.int .u64 (headN k m g a n s), .bool true]) ∧ Below w.heap.size w w' := by
  have := pack_c k m g a n s (by omega) (by omega) (by omega) (by omega) (by omega) w
  rw [packV_yes k m g a n s h] at this
  exact this
theorem bT {w w1 w2 : World} (h : Below w.heap.size w w1) (k : Below w1.heap.size w1 w2) : Below w.heap.size w w2 := below_then h h.size k
def shadedV (x e : Int) : Int × Bool := if livesB x = true ∧ uM x ≠ blackI e then (headN (uK x) (blackI e) true (uA x) (uN x) (uS x), true) else (x, false)
def blackenedV (x : Int) : Int × Bool := if okW x = true ∧ uG x = true then (headN (uK x) (uM x) false (uA x) (uN x) (uS x), true) else (x, false)
def retiredV (x e : Int) : Int × Bool := if livesB x = true ∧ uM x ≠ blackI e then (headN 3 (uM x) false (uA x) (uN x) (e % 65536), true) else (x, false)
def freedV (x g : Int) : Int × Bool := if okW x = true ∧ uK x = 3 then ((if g ≤ uN x + 1 ∨ uN x = 4294967295 then headN 4 (uM x) (uG x) (uA x) (uN x) (uS x) else headN 0 0 false 0 (uN x + 1) 0), true) else (x, false)
def madeV (k a n e : Int) : Int × Bool := if k = 1 ∨ k = 2 then packV k (bornI e) false a n 0 else (0, false)
end Go.Proofs.Ytnphakngfkmpiaa.HeadC
