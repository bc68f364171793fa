/-
  The word of a header: head.Pack walked by hand; what it comes to, as a plain function.
-/
import Derived.Test.YtnphakngfkmpiaaPHeadShadesx2
import Derived.Test.YtnphakngfkmpiaaCore
import Derived.Lib.Hide
import Derived.Outline
import Derived.WalkLawsBesides
namespace Go.Proofs.Ytnphakngfkmpiaa.HeadC
open Go.RowKit Go.Proofs.Ytnphakngfkmpiaa.PHeadShades Go.Proofs.YtnphakngfkmpiaaW.PrintWords Go.Proofs.YtnphakngfkmpiaaW.PrintLast Go.Proofs.Ytnphakngfkmpiaa.Core

theorem p_some (a n : Int) : word_some.f a n = some (okB a n) := by
  unfold word_some.f okB
  by_cases h1 : n ≥ 1
  · by_cases h2 : n ≤ 64
    · by_cases h3 : a ≥ 0
      · rw [if_pos h1, if_pos h2, if_pos h3, wrap64_id _ (by omega) (by omega)]
        simp [show 1 ≤ n from h1, h2, show 0 ≤ a from h3]
      · rw [if_pos h1, if_pos h2, if_neg h3]; simp [show ¬ 0 ≤ a from h3]
    · rw [if_pos h1, if_neg h2]; simp [h2]
  · rw [if_neg h1]; simp [show ¬ 1 ≤ n from h1]
theorem p_mask (n : Nat) (h : n ≤ 64) : word_mask.f (n : Int) = some ((2 ^ n - 1 : Nat) : Int) := by
  unfold word_mask.f shl
  rw [if_pos (by omega), Int.toNat_natCast, show IntKind.bits .u64 = 64 from rfl, Nat.min_eq_left h]
  have h1 := Nat.pow_le_pow_right (show 0 < 2 by decide) h
  rw [p64] at h1
  have h2 : ((2 ^ n : Nat) : Int) = (2 : Int) ^ n := by simp
  have h3 := Nat.two_pow_pos n
  rw [wrap_u64, wrap_u64, ← h2]
  congr 1
  omega
theorem p_Get (w a n : Int) (h0 : 0 ≤ w) (h1 : w < 18446744073709551616) : word_Get.f w a n = some (getV w a n) := by
  unfold word_Get.f getV
  rw [p_some, Option.bind_some]
  by_cases h : okB a n = true
  · rw [if_pos h, if_pos h]
    rw [okB_iff] at h
    obtain ⟨w, rfl⟩ := Int.eq_ofNat_of_zero_le h0
    obtain ⟨a, rfl⟩ := Int.eq_ofNat_of_zero_le h.2.2.1
    obtain ⟨n, rfl⟩ := Int.eq_ofNat_of_zero_le (show 0 ≤ n by omega)
    rw [if_pos (by omega), p_mask n (by omega), Option.bind_some]
    unfold shr
    rw [Int.toNat_natCast, Int.toNat_natCast, show IntKind.bits .u64 = 64 from rfl, Nat.min_eq_left (by omega)]
    have e1 : (w : Int) / 2 ^ a = ((w / 2 ^ a : Nat) : Int) := by simp
    have e2 : (w : Int) / 2 ^ a % 2 ^ n = ((w / 2 ^ a % 2 ^ n : Nat) : Int) := by simp
    have h2 := Nat.pow_le_pow_right (show 0 < 2 by decide) (show n ≤ 64 by omega)
    have h3 : w / 2 ^ a ≤ w := Nat.div_le_self _ _
    have h4 := Nat.two_pow_pos n
    rw [p64] at h2
    rw [e2, e1, bits_and _ _ (by rw [p64]; omega) (by rw [p64]; omega), Nat.and_two_pow_sub_one_eq_mod]
  · rw [if_neg h, if_neg h]
theorem p_Fits (v n : Int) (h0 : 0 ≤ v) (h1 : v < 18446744073709551616) : word_Fits.f v n = some (fitsB v n) := by
  unfold word_Fits.f fitsB
  by_cases ha : n ≥ 0
  · by_cases hb : n > 63
    · rw [if_pos ha, if_pos hb]; simp [show 0 ≤ n from ha, show 63 < n from hb]
    · rw [if_pos ha, if_neg hb, if_pos ha]
      unfold shr
      rw [show IntKind.bits .u64 = 64 from rfl, Nat.min_eq_left (by omega)]
      obtain ⟨n, rfl⟩ := Int.eq_ofNat_of_zero_le (show 0 ≤ n from ha)
      obtain ⟨v, rfl⟩ := Int.eq_ofNat_of_zero_le h0
      rw [Int.toNat_natCast]
      congr 1
      have e1 : (v : Int) / 2 ^ n = ((v / 2 ^ n : Nat) : Int) := by simp
      have e2 : (2 : Int) ^ n = ((2 ^ n : Nat) : Int) := by simp
      rw [e1, e2, Bool.eq_iff_iff]
      have h3 := Nat.div_eq_zero_iff (a := v) (b := 2 ^ n)
      have h4 := Nat.two_pow_pos n
      simp only [beq_iff_eq, Bool.and_eq_true, Bool.or_eq_true, decide_eq_true_eq]
      constructor
      · intro h
        have := h3.1 (by omega)
        omega
      · intro h
        have := h3.2 (by omega)
        omega
  · rw [if_neg ha]; simp [show ¬ 0 ≤ n from ha]
def packF : List S70 → Int → Int → Int × Bool
  | [], w, _ => (w, true)
  | b :: l, w, a => if okB a b.f0 = true ∧ fitsB b.f1 b.f0 = true then packF l (w + b.f1 * 2 ^ a.toNat) (a + b.f0) else (0, false)
theorem pack_step {w a v n : Int} (h : okB a n = true) (hv : fitsB v n = true) (hw0 : 0 ≤ w) (hw : w < 2 ^ a.toNat) (hv0 : 0 ≤ v) (hv1 : v < 18446744073709551616) :
    Go.bits .or .u64 w (shl .u64 v a) = w + v * 2 ^ a.toNat ∧ w + v * 2 ^ a.toNat < 2 ^ (a + n).toNat ∧ 0 ≤ w + v * 2 ^ a.toNat := by
  rw [okB_iff] at h
  obtain ⟨w, rfl⟩ := Int.eq_ofNat_of_zero_le hw0
  obtain ⟨v, rfl⟩ := Int.eq_ofNat_of_zero_le hv0
  obtain ⟨a, rfl⟩ := Int.eq_ofNat_of_zero_le h.2.2.1
  obtain ⟨n, rfl⟩ := Int.eq_ofNat_of_zero_le (show 0 ≤ n by omega)
  rw [show ((a : Int) + (n : Int)).toNat = a + n from by omega]
  simp only [Int.toNat_natCast] at hw ⊢
  have hv2 : v < 2 ^ n := by
    simp only [fitsB, Bool.and_eq_true, Bool.or_eq_true, decide_eq_true_eq, Int.toNat_natCast] at hv
    have e : ((2 ^ n : Nat) : Int) = (2 : Int) ^ n := by simp
    rcases hv.2 with h1 | h1
    · rw [show n = 64 from by omega, p64]; omega
    · omega
  have hw2 : w < 2 ^ a := by
    have e : ((2 ^ a : Nat) : Int) = (2 : Int) ^ a := by simp
    omega
  have hsum : w + v * 2 ^ a < 2 ^ (a + n) := by
    have h3 : (v + 1) * 2 ^ a ≤ 2 ^ n * 2 ^ a := Nat.mul_le_mul_right _ hv2
    rw [Nat.add_mul, Nat.one_mul, ← Nat.pow_add, Nat.add_comm n a] at h3
    omega
  have hle := Nat.pow_le_pow_right (show 0 < 2 by decide) (show a + n ≤ 64 by omega)
  have e3 : (w : Int) + (v : Int) * 2 ^ a = ((w + v * 2 ^ a : Nat) : Int) := by simp
  rw [p64] at hle
  rw [shl_nat v a (v * 2 ^ a) (by omega) (by rw [p64]; omega), bits_or _ _ (by rw [p64]; omega) (by rw [p64]; omega), e3]
  refine ⟨?_, ?_, by omega⟩
  · have := Nat.two_pow_add_eq_or_of_lt hw2 v
    rw [Nat.or_comm, Nat.mul_comm v, ← this, Nat.add_comm]
  · have e4 : ((2 ^ (a + n) : Nat) : Int) = (2 : Int) ^ (a + n) := by simp
    omega
theorem p_Pack_l (l : List S70) : ∀ (pre : List S70) (k : Nat) (w a : Int), l.length < k → (pre ++ l).length < 2 ^ 60 → 0 ≤ w → w < 2 ^ a.toNat → 0 ≤ a → a ≤ 64 → (∀ b ∈ l, 0 ≤ b.f1 ∧ b.f1 < 18446744073709551616) →
    word_Pack.l0 k w a (pre ++ l) ((pre ++ l).length : Int) (pre.length : Int) = some (packF l w a) := by
  induction l with
  | nil =>
    intro pre k w a hk hl h0 h1 h2 h3 hb
    obtain ⟨k, rfl⟩ : ∃ m, k = m + 1 := ⟨k - 1, by omega⟩
    simp only [word_Pack.l0]
    rw [if_neg (by simp)]; rfl
  | cons b l ih =>
    intro pre k w a hk hl h0 h1 h2 h3 hb
    obtain ⟨k, rfl⟩ : ∃ m, k = m + 1 := ⟨k - 1, by omega⟩
    have hlen : (pre ++ b :: l).length = pre.length + 1 + l.length := by simp; omega
    have hrd : rd_T70 (pre ++ b :: l) (pre.length : Int) = b := by simp [rd_T70]
    have hb1 := hb b (by simp)
    simp only [word_Pack.l0]
    rw [if_pos (by omega), if_pos (by omega), if_pos (by omega), hrd, p_some, Option.bind_some]
    simp only [packF]
    by_cases c1 : okB a b.f0 = true
    · rw [if_pos c1, p_Fits b.f1 b.f0 hb1.1 hb1.2, Option.bind_some]
      by_cases c2 : fitsB b.f1 b.f0 = true
      · obtain ⟨e1, e2, e3⟩ := pack_step c1 c2 h0 h1 hb1.1 hb1.2
        have c1' := okB_iff.1 c1
        rw [if_pos c2, if_pos h2, if_pos ⟨c1, c2⟩, e1, wrap64_id _ (by omega) (by omega), wrap64_id _ (by omega) (by omega)]
        have := ih (pre ++ [b]) k (w + b.f1 * 2 ^ a.toNat) (a + b.f0) (by simpa using hk) (by simpa using hl) e3 e2 (by omega) (by omega) (fun x hx => hb x (by simp [hx]))
        simp only [List.append_assoc, List.cons_append, List.nil_append, List.length_append, List.length_cons, List.length_nil] at this
        rw [← this]
        simp
      · rw [if_neg c2, if_neg (fun h => c2 h.2)]
    · rw [if_neg c1, if_neg (fun h => c1 h.1)]
theorem p_Pack (k : Nat) (l : List S70) (hk : l.length < k) (hl : l.length < 2 ^ 60) (hb : ∀ b ∈ l, 0 ≤ b.f1 ∧ b.f1 < 18446744073709551616) : word_Pack.f k l = some (packF l 0 0) :=
  p_Pack_l l [] k 0 0 hk hl (by decide) (by decide) (by decide) (by decide) hb
theorem packF_yes {n v : Int} {l : List S70} {w a : Int} (h1 : okB a n = true) (h2 : fitsB v n = true) : packF (⟨n, v⟩ :: l) w a = packF l (w + v * 2 ^ a.toNat) (a + n) := by
  simp only [packF]; rw [if_pos ⟨h1, h2⟩]
theorem packF_no {n v : Int} {l : List S70} {w a : Int} (h2 : fitsB v n = false) : packF (⟨n, v⟩ :: l) w a = (0, false) := by
  simp only [packF]; rw [if_neg (by rw [h2]; simp)]
def unpF (w : Int) : List Int → Int → List Int → List Int × Bool
  | [], _, acc => (acc, true)
  | n :: l, a, acc => if okB a n = true then unpF w l (a + n) (acc ++ [getV w a n]) else ([], false)
theorem p_Unpack_l (w : Int) (h0 : 0 ≤ w) (h1 : w < 18446744073709551616) (l : List Int) : ∀ (pre : List Int) (k : Nat) (a : Int) (acc : List Int), l.length < k → (pre ++ l).length < 17592186044416 → acc.length ≤ pre.length →
    word_Unpack.l0 k w acc a (pre ++ l) ((pre ++ l).length : Int) (pre.length : Int) = some (unpF w l a acc) := by
  induction l with
  | nil =>
    intro pre k a acc hk hl ha
    obtain ⟨k, rfl⟩ : ∃ m, k = m + 1 := ⟨k - 1, by omega⟩
    simp only [word_Unpack.l0]
    rw [if_neg (by simp)]; rfl
  | cons n l ih =>
    intro pre k a acc hk hl ha
    obtain ⟨k, rfl⟩ : ∃ m, k = m + 1 := ⟨k - 1, by omega⟩
    have hlen : (pre ++ n :: l).length = pre.length + 1 + l.length := by simp; omega
    have hrd : rd (pre ++ n :: l) (pre.length : Int) = n := by simp [rd]
    simp only [word_Unpack.l0]
    rw [if_pos (by omega), if_pos (by omega), if_pos (by omega), hrd, p_some, Option.bind_some]
    simp only [unpF]
    by_cases c1 : okB a n = true
    · have c1' := okB_iff.1 c1
      rw [if_pos c1, if_pos c1, p_Get w a n h0 h1, Option.bind_some, if_pos (by omega), wrap64_id _ (by omega) (by omega), wrap64_id _ (by omega) (by omega)]
      have := ih (pre ++ [n]) k (a + n) (acc ++ [getV w a n]) (by simpa using hk) (by simpa using hl) (by simp; omega)
      simp only [List.append_assoc, List.cons_append, List.nil_append, List.length_append, List.length_cons, List.length_nil] at this
      rw [← this]
      simp
    · rw [if_neg c1, if_neg c1]
theorem p_Unpack (k : Nat) (w : Int) (l : List Int) (hk : l.length < k) (hl : l.length < 17592186044416) (h0 : 0 ≤ w) (h1 : w < 18446744073709551616) : word_Unpack.f k w l = some (unpF w l 0 []) :=
  p_Unpack_l w h0 h1 l [] k 0 [] hk hl (by decide)

def headB (k m a n s : Int) : Bool := decide (0 ≤ k ∧ k ≤ 4 ∧ 0 ≤ m ∧ m ≤ 1 ∧ 0 ≤ a ∧ a ≤ 15 ∧ 0 ≤ n ∧ n ≤ 4294967295 ∧ 0 ≤ s ∧ s ≤ 65535)
def headN (k m : Int) (g : Bool) (a n s : Int) : Int := k + 8 * m + (if g = true then 16 else 0) + 32 * a + 65536 * n + 281474976710656 * s
def packV (k m : Int) (g : Bool) (a n s : Int) : Int × Bool := if headB k m a n s = true then (headN k m g a n s, true) else (0, false)
def bitI (g : Bool) : Int := if g = true then 1 else 0
def rowV (k m : Int) (g : Bool) (a n s : Int) : List S70 := [⟨3, IntKind.u64.wrap k⟩, ⟨1, IntKind.u64.wrap m⟩, ⟨1, bitI g⟩, ⟨4, IntKind.u64.wrap a⟩, ⟨7, 0⟩, ⟨32, IntKind.u64.wrap n⟩, ⟨16, IntKind.u64.wrap s⟩]
theorem bit_c (g : Bool) (w : World) : Calls Try.prog 61 #[.bool g] w fun e w' => e = .returned (.int .u64 (bitI g)) ∧ Drawn0 w w' :=
  head_bit.calls g _ w (by unfold head_bit.f bitI; split <;> rfl)
theorem flat2 {α : Type} (f : α → List Value) (h2 : ∀ x, (f x).length = 2) (l : List α) : ∀ (j i : Nat) (p : α), l[j]? = some p → i < 2 → (l.flatMap f)[j * 2 + i]? = (f p)[i]? := by
  induction l with
  | nil => intro j i p h; simp at h
  | cons a l ih =>
    intro j i p h hi
    rw [List.flatMap_cons]
    match j, h with
    | 0, h =>
      simp at h; subst h
      rw [List.getElem?_append_left (by rw [h2]; omega)]
      simp
    | j + 1, h =>
      rw [List.getElem?_cons_succ] at h
      rw [List.getElem?_append_right (by rw [h2]; omega), h2, show (j + 1) * 2 + i - 2 = j * 2 + i from by omega]
      exact ih j i p h hi
theorem bits_row (W : World) (b : Nat) (l : List S70) (cs : Array Value) (t : TypeId) (hh : W.heap[b]? = some (.cells cs t (0, 0))) (hc : cs.toList = l.flatMap fun x => [.int .i64 x.f0, .int .u64 x.f1]) (hl : l.length ≤ 9223372036854775807) : Kd.C k70 W (some ⟨b, 0, none⟩) l.length l := by
  refine ⟨rfl, hl, fun _ => ⟨_, rfl, fun j p hj => ⟨[.int .i64 p.f0, .int .u64 p.f1], rfl, ⟨[.int .i64 p.f0], [.int .u64 p.f1], rfl, rfl, rfl⟩, fun i u hi => ?_⟩⟩⟩
  have hi2 : i < 2 := by
    have := (List.getElem?_eq_some_iff.1 hi).1
    simpa using this
  have h1 := flat2 (fun x : S70 => [Value.int .i64 x.f0, Value.int .u64 x.f1]) (fun _ => rfl) l j i p hj hi2
  rw [← hc, Array.getElem?_toList] at h1
  have e : (⟨b, 0, none⟩ : Addr).add (j * 2 + i) = ⟨b, j * 2 + i, none⟩ := by unfold Addr.add; split <;> simp_all
  show W.cell? ((⟨b, 0, none⟩ : Addr).add (j * 2 + i)) = some u
  rw [e]
  simp only [World.cell?, hh]
  rw [h1]
  simpa using hi
theorem heap_at (W : World) (o : Obj) (b : Nat) (h : W.heap.size = b) : (W.alloc o).heap[b]? = some o := by subst h; exact heap_alloc_new W o
theorem pack_eq (k m : Int) (g : Bool) (a n s : Int) (h1 : 0 ≤ k ∧ k < 9223372036854775808) (h2 : 0 ≤ m ∧ m < 9223372036854775808) (h3 : 0 ≤ a ∧ a < 9223372036854775808) (h4 : 0 ≤ n ∧ n < 9223372036854775808) (h5 : 0 ≤ s ∧ s < 9223372036854775808) :
    word_Pack.f 8 (rowV k m g a n s) = some (packF (rowV k m g a n s) 0 0) ∧ packV k m g a n s = if (packF (rowV k m g a n s) 0 0).2 = true ∧ k ≤ 4 then ((packF (rowV k m g a n s) 0 0).1, true) else (0, false) := by
  have hg : 0 ≤ bitI g ∧ bitI g < 2 := by unfold bitI; split <;> decide
  have e1 := wrap_u64_id k (by omega) (by omega)
  have e2 := wrap_u64_id m (by omega) (by omega)
  have e3 := wrap_u64_id a (by omega) (by omega)
  have e4 := wrap_u64_id n (by omega) (by omega)
  have e5 := wrap_u64_id s (by omega) (by omega)
  constructor
  · refine p_Pack 8 _ (by simp [rowV]) (by simp [rowV]) ?_
    intro b hb
    simp only [rowV, List.mem_cons, List.not_mem_nil, or_false] at hb
    rcases hb with rfl | rfl | rfl | rfl | rfl | rfl | rfl <;> simp only [e1, e2, e3, e4, e5] <;> omega
  · unfold rowV
    rw [e1, e2, e3, e4, e5]
    have no : ¬ (0 ≤ k ∧ k ≤ 4 ∧ 0 ≤ m ∧ m ≤ 1 ∧ 0 ≤ a ∧ a ≤ 15 ∧ 0 ≤ n ∧ n ≤ 4294967295 ∧ 0 ≤ s ∧ s ≤ 65535) → packV k m g a n s = (0, false) := by
      intro h; unfold packV headB; rw [if_neg (by simpa using h)]
    by_cases c1 : k < 8
    · rw [packF_yes (by decide) (by simp [fitsB]; omega)]
      by_cases c2 : m < 2
      · rw [packF_yes (by decide) (by simp [fitsB]; omega), packF_yes (by decide) (by simp [fitsB]; omega)]
        by_cases c3 : a < 16
        · rw [packF_yes (by decide) (by simp [fitsB]; omega), packF_yes (by decide) (by decide)]
          by_cases c4 : n < 4294967296
          · rw [packF_yes (by decide) (by simp [fitsB]; omega)]
            by_cases c5 : s < 65536
            · rw [packF_yes (by decide) (by simp [fitsB]; omega)]
              by_cases c6 : k ≤ 4
              · rw [if_pos ⟨rfl, c6⟩]
                unfold packV headB
                rw [if_pos (by simp; omega)]
                simp only [packF, headN, bitI]
                simp
                split <;> omega
              · rw [if_neg (fun h => c6 h.2), no (by omega)]
            · rw [packF_no (by simp [fitsB]; omega), if_neg (by simp), no (by omega)]
          · rw [packF_no (by simp [fitsB]; omega), if_neg (by simp), no (by omega)]
        · rw [packF_no (by simp [fitsB]; omega), if_neg (by simp), no (by omega)]
      · rw [packF_no (by simp [fitsB]; omega), if_neg (by simp), no (by omega)]
    · rw [packF_no (by simp [fitsB]; omega), if_neg (by simp), no (by omega)]
set_option maxHeartbeats 2000000 in
theorem pack_pos (k m : Int) (g : Bool) (a n s : Int) (h1 : 0 ≤ k ∧ k < 9223372036854775808) (h2 : 0 ≤ m ∧ m < 9223372036854775808) (h3 : 0 ≤ a ∧ a < 9223372036854775808) (h4 : 0 ≤ n ∧ n < 9223372036854775808) (h5 : 0 ≤ s ∧ s < 9223372036854775808) (w : World) :
    Calls Try.prog 36 #[.agg #[.int .i64 k, .int .i64 m, .bool g, .int .i64 a, .int .i64 n, .int .i64 s]] w fun e w' => e = .returned (.tuple #[.int .u64 (packV k m g a n s).1, .bool (packV k m g a n s).2]) ∧ Below w.heap.size w w' := by
  obtain ⟨hp, hv⟩ := pack_eq k m g a n s h1 h2 h3 h4 h5
  generalize packF (rowV k m g a n s) 0 0 = r at hp hv
  obtain ⟨r1, r2⟩ := r
  have HP := Lib.hid hp
  have HV := Lib.hid hv
  clear hp hv
  obtain ⟨h1, h1'⟩ := h1
  obtain ⟨h2, h2'⟩ := h2
  obtain ⟨h3, h3'⟩ := h3
  obtain ⟨h4, h4'⟩ := h4
  obtain ⟨h5, h5'⟩ := h5
  have i0 : ∀ w, (Instr.index 67 (.agg #[.int .i64 k, .int .i64 m, .int .i64 a, .int .i64 n, .int .i64 s]) (.int .i64 0)).run Try.prog w = .ok (.int .i64 k) w := fun _ => by kernel_rfl
  have i1 : ∀ w, (Instr.index 67 (.agg #[.int .i64 k, .int .i64 m, .int .i64 a, .int .i64 n, .int .i64 s]) (.int .i64 1)).run Try.prog w = .ok (.int .i64 m) w := fun _ => by kernel_rfl
  have i2 : ∀ w, (Instr.index 67 (.agg #[.int .i64 k, .int .i64 m, .int .i64 a, .int .i64 n, .int .i64 s]) (.int .i64 2)).run Try.prog w = .ok (.int .i64 a) w := fun _ => by kernel_rfl
  have i3 : ∀ w, (Instr.index 67 (.agg #[.int .i64 k, .int .i64 m, .int .i64 a, .int .i64 n, .int .i64 s]) (.int .i64 3)).run Try.prog w = .ok (.int .i64 n) w := fun _ => by kernel_rfl
  have i4 : ∀ w, (Instr.index 67 (.agg #[.int .i64 k, .int .i64 m, .int .i64 a, .int .i64 n, .int .i64 s]) (.int .i64 4)).run Try.prog w = .ok (.int .i64 s) w := fun _ => by kernel_rfl
  go_enter Try.func36, Try.ntmps36
  go_wp2
  go_loop [19] (fun u => ∃ j : Nat, j ≤ 5 ∧ u = .int .i64 (j : Int)) (fun u => 5 - (intOf u).toNat)
  case atStart => exact ⟨0, by omega, rfl⟩
  case round =>
    obtain ⟨j, hj, rfl⟩ := hrel
    match j, hj with
    | 0, _ =>
      clear i1 i2 i3 i4
      go_wp2
      go_round
      case rel => exact ⟨1, by omega, rfl⟩
      case measure => simp [intOf]
    | 1, _ =>
      clear i0 i2 i3 i4
      go_wp2
      go_round
      case rel => exact ⟨2, by omega, rfl⟩
      case measure => simp [intOf]
    | 2, _ =>
      clear i0 i1 i3 i4
      go_wp2
      go_round
      case rel => exact ⟨3, by omega, rfl⟩
      case measure => simp [intOf]
    | 3, _ =>
      clear i0 i1 i2 i4
      go_wp2
      go_round
      case rel => exact ⟨4, by omega, rfl⟩
      case measure => simp [intOf]
    | 4, _ =>
      clear i0 i1 i2 i3
      go_wp2
      go_round
      case rel => exact ⟨5, by omega, rfl⟩
      case measure => simp [intOf]
    | 5, _ =>
      clear i0 i1 i2 i3 i4
      go_wp2
      go_region_held3 (fun w' => w'.cell? ⟨w.heap.size, 0, none⟩ = some (.int .i64 k) ∧ w'.cell? ⟨w.heap.size, 1, none⟩ = some (.int .i64 m) ∧ w'.cell? ⟨w.heap.size, 2, none⟩ = some (.bool g) ∧ w'.cell? ⟨w.heap.size, 3, none⟩ = some (.int .i64 a) ∧ w'.cell? ⟨w.heap.size, 4, none⟩ = some (.int .i64 n) ∧ w'.cell? ⟨w.heap.size, 5, none⟩ = some (.int .i64 s)) (first | assumption | (simp [go_sem, World.cell?_alloc_past]; done))
        (first
          | (go_at_call 61; refine (bit_c g _).mono ?_; rintro e w' ⟨rfl, ⟨nd, rfl⟩⟩)
          | (go_at_call 60; refine (word_Pack.calls 8 _ 7 (rowV k m g a n s) r1 r2 _ (bits_row _ _ (rowV k m g a n s) _ 70 (heap_at _ _ _ (by simp)) rfl (by simp [rowV])) (by simp [rowV]) HP.out).mono ?_; rintro e w1 ⟨rfl, hb⟩; have hS : w1.cell? ⟨w.heap.size, 0, none⟩ = some (.int .i64 k) ∧ w1.cell? ⟨w.heap.size, 1, none⟩ = some (.int .i64 m) ∧ w1.cell? ⟨w.heap.size, 2, none⟩ = some (.bool g) ∧ w1.cell? ⟨w.heap.size, 3, none⟩ = some (.int .i64 a) ∧ w1.cell? ⟨w.heap.size, 4, none⟩ = some (.int .i64 n) ∧ w1.cell? ⟨w.heap.size, 5, none⟩ = some (.int .i64 s) := (by refine ⟨?_, ?_, ?_, ?_, ?_, ?_⟩ <;> (refine (hb.cell ?_).trans ?_ <;> simp [go_sem, World.cell?_alloc_past] <;> omega)); replace hb := Lib.hid hb))
      obtain ⟨q0, q1, q2, q3, q4, q5⟩ := hS
      have hB : Hid (Below w.heap.size w w1) := Lib.hid (((pw_below_drewN ((Below.refl _ _).alloc (Nat.le_refl _) _) _).alloc (by simp) _).trans (hb.out.mono (by simp <;> omega)))
      clear hb q1 q2 q3 q4 q5
      cases r2 with
      | false =>
        go_wp2
        go_ret2
        exact ⟨by rw [HV.out]; rfl, hB.out⟩
      | true =>
        by_cases hk : k ≤ 4
        · go_wp2
          go_ret2
          exact ⟨by rw [HV.out, if_pos ⟨trivial, hk⟩]; rfl, hB.out⟩
        · go_wp2
          go_ret2
          exact ⟨by rw [HV.out, if_neg (fun h => absurd h.2 (by omega))]; rfl, hB.out⟩
theorem packV_neg (k m : Int) (g : Bool) (a n s : Int) (h : ¬ (0 ≤ k ∧ 0 ≤ m ∧ 0 ≤ a ∧ 0 ≤ n ∧ 0 ≤ s)) : packV k m g a n s = (0, false) := by
  unfold packV headB; rw [if_neg (by simp; omega)]
set_option maxHeartbeats 2000000 in
theorem pack_neg0 (k m : Int) (g : Bool) (a n s : Int)  (h : k < 0) (w : World) :
    Calls Try.prog 36 #[.agg #[.int .i64 k, .int .i64 m, .bool g, .int .i64 a, .int .i64 n, .int .i64 s]] w fun e w' => e = .returned (.tuple #[.int .u64 0, .bool false]) ∧ Below w.heap.size w w' := by
  have i0 : ∀ w, (Instr.index 67 (.agg #[.int .i64 k, .int .i64 m, .int .i64 a, .int .i64 n, .int .i64 s]) (.int .i64 0)).run Try.prog w = .ok (.int .i64 k) w := fun _ => by kernel_rfl
  go_enter Try.func36, Try.ntmps36
  go_wp2
  go_loop [19] (fun u => ∃ j : Nat, j ≤ 0 ∧ u = .int .i64 (j : Int)) (fun u => 0 - (intOf u).toNat)
  case atStart => exact ⟨0, by omega, rfl⟩
  case round =>
    obtain ⟨j, hj, rfl⟩ := hrel
    match j, hj with
    | 0, _ =>
      skip
      go_wp2
      go_ret2
      exact ⟨rfl, (Below.refl _ _).alloc (Nat.le_refl _) _⟩
set_option maxHeartbeats 2000000 in
theorem pack_neg1 (k m : Int) (g : Bool) (a n s : Int) (h1 : 0 ≤ k) (h : m < 0) (w : World) :
    Calls Try.prog 36 #[.agg #[.int .i64 k, .int .i64 m, .bool g, .int .i64 a, .int .i64 n, .int .i64 s]] w fun e w' => e = .returned (.tuple #[.int .u64 0, .bool false]) ∧ Below w.heap.size w w' := by
  have i0 : ∀ w, (Instr.index 67 (.agg #[.int .i64 k, .int .i64 m, .int .i64 a, .int .i64 n, .int .i64 s]) (.int .i64 0)).run Try.prog w = .ok (.int .i64 k) w := fun _ => by kernel_rfl
  have i1 : ∀ w, (Instr.index 67 (.agg #[.int .i64 k, .int .i64 m, .int .i64 a, .int .i64 n, .int .i64 s]) (.int .i64 1)).run Try.prog w = .ok (.int .i64 m) w := fun _ => by kernel_rfl
  go_enter Try.func36, Try.ntmps36
  go_wp2
  go_loop [19] (fun u => ∃ j : Nat, j ≤ 1 ∧ u = .int .i64 (j : Int)) (fun u => 1 - (intOf u).toNat)
  case atStart => exact ⟨0, by omega, rfl⟩
  case round =>
    obtain ⟨j, hj, rfl⟩ := hrel
    match j, hj with
    | 0, _ =>
      clear i1
      go_wp2
      go_round
      case rel => exact ⟨1, by omega, rfl⟩
      case measure => simp [intOf]
    | 1, _ =>
      clear i0
      go_wp2
      go_ret2
      exact ⟨rfl, (Below.refl _ _).alloc (Nat.le_refl _) _⟩
set_option maxHeartbeats 2000000 in
theorem pack_neg2 (k m : Int) (g : Bool) (a n s : Int) (h1 : 0 ≤ k) (h2 : 0 ≤ m) (h : a < 0) (w : World) :
    Calls Try.prog 36 #[.agg #[.int .i64 k, .int .i64 m, .bool g, .int .i64 a, .int .i64 n, .int .i64 s]] w fun e w' => e = .returned (.tuple #[.int .u64 0, .bool false]) ∧ Below w.heap.size w w' := by
  have i0 : ∀ w, (Instr.index 67 (.agg #[.int .i64 k, .int .i64 m, .int .i64 a, .int .i64 n, .int .i64 s]) (.int .i64 0)).run Try.prog w = .ok (.int .i64 k) w := fun _ => by kernel_rfl
  have i1 : ∀ w, (Instr.index 67 (.agg #[.int .i64 k, .int .i64 m, .int .i64 a, .int .i64 n, .int .i64 s]) (.int .i64 1)).run Try.prog w = .ok (.int .i64 m) w := fun _ => by kernel_rfl
  have i2 : ∀ w, (Instr.index 67 (.agg #[.int .i64 k, .int .i64 m, .int .i64 a, .int .i64 n, .int .i64 s]) (.int .i64 2)).run Try.prog w = .ok (.int .i64 a) w := fun _ => by kernel_rfl
  go_enter Try.func36, Try.ntmps36
  go_wp2
  go_loop [19] (fun u => ∃ j : Nat, j ≤ 2 ∧ u = .int .i64 (j : Int)) (fun u => 2 - (intOf u).toNat)
  case atStart => exact ⟨0, by omega, rfl⟩
  case round =>
    obtain ⟨j, hj, rfl⟩ := hrel
    match j, hj with
    | 0, _ =>
      clear i1 i2
      go_wp2
      go_round
      case rel => exact ⟨1, by omega, rfl⟩
      case measure => simp [intOf]
    | 1, _ =>
      clear i0 i2
      go_wp2
      go_round
      case rel => exact ⟨2, by omega, rfl⟩
      case measure => simp [intOf]
    | 2, _ =>
      clear i0 i1
      go_wp2
      go_ret2
      exact ⟨rfl, (Below.refl _ _).alloc (Nat.le_refl _) _⟩
set_option maxHeartbeats 2000000 in
theorem pack_neg3 (k m : Int) (g : Bool) (a n s : Int) (h1 : 0 ≤ k) (h2 : 0 ≤ m) (h3 : 0 ≤ a) (h : n < 0) (w : World) :
    Calls Try.prog 36 #[.agg #[.int .i64 k, .int .i64 m, .bool g, .int .i64 a, .int .i64 n, .int .i64 s]] w fun e w' => e = .returned (.tuple #[.int .u64 0, .bool false]) ∧ Below w.heap.size w w' := by
  have i0 : ∀ w, (Instr.index 67 (.agg #[.int .i64 k, .int .i64 m, .int .i64 a, .int .i64 n, .int .i64 s]) (.int .i64 0)).run Try.prog w = .ok (.int .i64 k) w := fun _ => by kernel_rfl
  have i1 : ∀ w, (Instr.index 67 (.agg #[.int .i64 k, .int .i64 m, .int .i64 a, .int .i64 n, .int .i64 s]) (.int .i64 1)).run Try.prog w = .ok (.int .i64 m) w := fun _ => by kernel_rfl
  have i2 : ∀ w, (Instr.index 67 (.agg #[.int .i64 k, .int .i64 m, .int .i64 a, .int .i64 n, .int .i64 s]) (.int .i64 2)).run Try.prog w = .ok (.int .i64 a) w := fun _ => by kernel_rfl
  have i3 : ∀ w, (Instr.index 67 (.agg #[.int .i64 k, .int .i64 m, .int .i64 a, .int .i64 n, .int .i64 s]) (.int .i64 3)).run Try.prog w = .ok (.int .i64 n) w := fun _ => by kernel_rfl
  go_enter Try.func36, Try.ntmps36
  go_wp2
  go_loop [19] (fun u => ∃ j : Nat, j ≤ 3 ∧ u = .int .i64 (j : Int)) (fun u => 3 - (intOf u).toNat)
  case atStart => exact ⟨0, by omega, rfl⟩
  case round =>
    obtain ⟨j, hj, rfl⟩ := hrel
    match j, hj with
    | 0, _ =>
      clear i1 i2 i3
      go_wp2
      go_round
      case rel => exact ⟨1, by omega, rfl⟩
      case measure => simp [intOf]
    | 1, _ =>
      clear i0 i2 i3
      go_wp2
      go_round
      case rel => exact ⟨2, by omega, rfl⟩
      case measure => simp [intOf]
    | 2, _ =>
      clear i0 i1 i3
      go_wp2
      go_round
      case rel => exact ⟨3, by omega, rfl⟩
      case measure => simp [intOf]
    | 3, _ =>
      clear i0 i1 i2
      go_wp2
      go_ret2
      exact ⟨rfl, (Below.refl _ _).alloc (Nat.le_refl _) _⟩
set_option maxHeartbeats 2000000 in
theorem pack_neg4 (k m : Int) (g : Bool) (a n s : Int) (h1 : 0 ≤ k) (h2 : 0 ≤ m) (h3 : 0 ≤ a) (h4 : 0 ≤ n) (h : s < 0) (w : World) :
    Calls Try.prog 36 #[.agg #[.int .i64 k, .int .i64 m, .bool g, .int .i64 a, .int .i64 n, .int .i64 s]] w fun e w' => e = .returned (.tuple #[.int .u64 0, .bool false]) ∧ Below w.heap.size w w' := by
  have i0 : ∀ w, (Instr.index 67 (.agg #[.int .i64 k, .int .i64 m, .int .i64 a, .int .i64 n, .int .i64 s]) (.int .i64 0)).run Try.prog w = .ok (.int .i64 k) w := fun _ => by kernel_rfl
  have i1 : ∀ w, (Instr.index 67 (.agg #[.int .i64 k, .int .i64 m, .int .i64 a, .int .i64 n, .int .i64 s]) (.int .i64 1)).run Try.prog w = .ok (.int .i64 m) w := fun _ => by kernel_rfl
  have i2 : ∀ w, (Instr.index 67 (.agg #[.int .i64 k, .int .i64 m, .int .i64 a, .int .i64 n, .int .i64 s]) (.int .i64 2)).run Try.prog w = .ok (.int .i64 a) w := fun _ => by kernel_rfl
  have i3 : ∀ w, (Instr.index 67 (.agg #[.int .i64 k, .int .i64 m, .int .i64 a, .int .i64 n, .int .i64 s]) (.int .i64 3)).run Try.prog w = .ok (.int .i64 n) w := fun _ => by kernel_rfl
  have i4 : ∀ w, (Instr.index 67 (.agg #[.int .i64 k, .int .i64 m, .int .i64 a, .int .i64 n, .int .i64 s]) (.int .i64 4)).run Try.prog w = .ok (.int .i64 s) w := fun _ => by kernel_rfl
  go_enter Try.func36, Try.ntmps36
  go_wp2
  go_loop [19] (fun u => ∃ j : Nat, j ≤ 4 ∧ u = .int .i64 (j : Int)) (fun u => 4 - (intOf u).toNat)
  case atStart => exact ⟨0, by omega, rfl⟩
  case round =>
    obtain ⟨j, hj, rfl⟩ := hrel
    match j, hj with
    | 0, _ =>
      clear i1 i2 i3 i4
      go_wp2
      go_round
      case rel => exact ⟨1, by omega, rfl⟩
      case measure => simp [intOf]
    | 1, _ =>
      clear i0 i2 i3 i4
      go_wp2
      go_round
      case rel => exact ⟨2, by omega, rfl⟩
      case measure => simp [intOf]
    | 2, _ =>
      clear i0 i1 i3 i4
      go_wp2
      go_round
      case rel => exact ⟨3, by omega, rfl⟩
      case measure => simp [intOf]
    | 3, _ =>
      clear i0 i1 i2 i4
      go_wp2
      go_round
      case rel => exact ⟨4, by omega, rfl⟩
      case measure => simp [intOf]
    | 4, _ =>
      clear i0 i1 i2 i3
      go_wp2
      go_ret2
      exact ⟨rfl, (Below.refl _ _).alloc (Nat.le_refl _) _⟩
theorem pack_c (k m : Int) (g : Bool) (a n s : Int) (h1 : k < 9223372036854775808) (h2 : m < 9223372036854775808) (h3 : a < 9223372036854775808) (h4 : n < 9223372036854775808) (h5 : s < 9223372036854775808) (w : World) :
    Calls Try.prog 36 #[.agg #[.int .i64 k, .int .i64 m, .bool g, .int .i64 a, .int .i64 n, .int .i64 s]] w fun e w' => e = .returned (.tuple #[.int .u64 (packV k m g a n s).1, .bool (packV k m g a n s).2]) ∧ Below w.heap.size w w' := by
  by_cases c1 : 0 ≤ k
  · by_cases c2 : 0 ≤ m
    · by_cases c3 : 0 ≤ a
      · by_cases c4 : 0 ≤ n
        · by_cases c5 : 0 ≤ s
          · exact pack_pos k m g a n s ⟨c1, h1⟩ ⟨c2, h2⟩ ⟨c3, h3⟩ ⟨c4, h4⟩ ⟨c5, h5⟩ w
          · rw [packV_neg _ _ _ _ _ _ (by omega)]; exact pack_neg4 k m g a n s c1 c2 c3 c4 (by omega) w
        · rw [packV_neg _ _ _ _ _ _ (by omega)]; exact pack_neg3 k m g a n s c1 c2 c3 (by omega) w
      · rw [packV_neg _ _ _ _ _ _ (by omega)]; exact pack_neg2 k m g a n s c1 c2 (by omega) w
    · rw [packV_neg _ _ _ _ _ _ (by omega)]; exact pack_neg1 k m g a n s c1 (by omega) w
  · rw [packV_neg _ _ _ _ _ _ (by omega)]; exact pack_neg0 k m g a n s (by omega) w
end Go.Proofs.Ytnphakngfkmpiaa.HeadC
