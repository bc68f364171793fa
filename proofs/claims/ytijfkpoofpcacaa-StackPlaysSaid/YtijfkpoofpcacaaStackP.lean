/-
  Layer 7 (stack), the plain law: a list of free slots in words, what a taken and a laid slot does to it; one machine alone. No program; condition: a right config, tags below 2^48.
-/
import Derived.Test.YtijfkpoofpcacaaStackF
set_option linter.unusedVariables false
namespace Go.Proofs.Ytijfkpoofpcacaa.StackP
open Go.RowKit Go.Proofs.Ytijfkpoofpcacaa.Blk Go.Proofs.Ytijfkpoofpcacaa.Core Go.Proofs.Ytijfkpoofpcacaa.MemC Go.Proofs.Ytijfkpoofpcacaa.MemT Go.Proofs.Ytijfkpoofpcacaa.Memory Go.Proofs.Ytijfkpoofpcacaa.PlanC Go.Proofs.Ytijfkpoofpcacaa.PlanD Go.Proofs.Ytijfkpoofpcacaa.StackC Go.Proofs.Ytijfkpoofpcacaa.StackL Go.Proofs.Ytijfkpoofpcacaa.StackS Go.Proofs.Ytijfkpoofpcacaa.StackF
def hd : List Int → Int
  | [] => 0
  | x :: _ => x + 1
def Lk (c : Cf) (f : Nat → Int) : List Int → Prop
  | [] => True
  | x :: r => (0 ≤ x ∧ x < c.S) ∧ f (c.link x).toNat = hd r ∧ Lk c f r
structure Stk (c : Cf) (f : Nat → Int) (t : Int) (L : List Int) : Prop where
  top : f 3 = 65536 * t + hd L
  t0 : 0 ≤ t
  lk : Lk c f L
  nd : L.Nodup
theorem Lk.mem {c : Cf} {f : Nat → Int} : ∀ {L : List Int}, Lk c f L → ∀ x ∈ L, 0 ≤ x ∧ x < c.S := by
  intro L
  induction L with
  | nil => intro _ x hx; cases hx
  | cons y r ih =>
    intro h x hx
    rcases List.mem_cons.1 hx with rfl | hx
    · exact h.1
    · exact ih h.2.2 x hx
theorem hd_bd {c : Cf} {f : Nat → Int} {L : List Int} (h : Lk c f L) : 0 ≤ hd L ∧ (0 ≤ c.S → hd L ≤ c.S) := by
  cases L with
  | nil => exact ⟨Int.le_refl 0, fun h => h⟩
  | cons x r => have := h.1; show 0 ≤ x + 1 ∧ (0 ≤ c.S → x + 1 ≤ c.S); omega
theorem link_inj {c : Cf} (hr : c.right = true) {x y : Int} (hx : 0 ≤ x ∧ x < c.S) (hy : 0 ≤ y ∧ y < c.S) (h : c.link x = c.link y) : x = y := by
  have hb := size_bd hr
  unfold Cf.link at h
  rw [if_pos ⟨hr, hx.1, hx.2⟩, if_pos ⟨hr, hy.1, hy.2⟩] at h
  have h2 : x * roomV c.A = y * roomV c.A := by omega
  exact Int.eq_of_mul_eq_mul_right (by omega) h2
theorem Lk.congr {c : Cf} {f g : Nat → Int} : ∀ {L : List Int}, Lk c f L → (∀ x ∈ L, g (c.link x).toNat = f (c.link x).toNat) → Lk c g L := by
  intro L
  induction L with
  | nil => intro _ _; trivial
  | cons y r ih =>
    intro h hg
    exact ⟨h.1, (hg y List.mem_cons_self).trans h.2.1, ih h.2.2 (fun x hx => hg x (List.mem_cons_of_mem _ hx))⟩
theorem upd_ne {f : Nat → Int} {a i : Nat} {v : Int} (h : i ≠ a) : upd f a v i = f i := if_neg h
theorem upd_eq {f : Nat → Int} {a : Nat} {v : Int} : upd f a v a = v := if_pos rfl
theorem nodup_len : ∀ (n : Nat) (l : List Int), l.Nodup → (∀ x ∈ l, 0 ≤ x ∧ x < (n : Int)) → l.length ≤ n := by
  intro n
  induction n with
  | zero =>
    intro l _ h
    cases l with
    | nil => exact Nat.le_refl _
    | cons a l => have := h a List.mem_cons_self; omega
  | succ n ih =>
    intro l hn h
    by_cases hm : (n : Int) ∈ l
    · have h1 := ih (l.erase (n : Int)) (hn.erase _) (fun x hx => by
        have hx' := (hn.mem_erase_iff).1 hx
        have := h x hx'.2
        have := hx'.1
        omega)
      rw [List.length_erase_of_mem hm] at h1
      omega
    · have h1 := ih l hn (fun x hx => by
        have := h x hx
        have : x ≠ n := fun e => hm (e ▸ hx)
        omega)
      omega
theorem chain_of {c : Cf} {f : Nat → Int} : ∀ {L : List Int} {n : Nat}, Lk c f L → L.length ≤ n → chain c f n (hd L) = L := by
  intro L
  induction L with
  | nil =>
    intro n _ _
    cases n with
    | zero => rfl
    | succ n => simp [chain, hd]
  | cons x r ih =>
    intro n h hl
    cases n with
    | zero => simp at hl
    | succ n =>
      obtain ⟨h1, h2, h3⟩ := h
      unfold chain
      have e : hd (x :: r) - 1 = x := by show x + 1 - 1 = x; omega
      rw [if_pos (by show 1 ≤ x + 1 ∧ x + 1 ≤ c.S; omega), e, h2, ih h3 (by simpa using hl)]
theorem moved_eq {t : Int} (ht : 0 ≤ t) (t1 : t + 1 < 281474976710656) {a s : Int} (ha : 0 ≤ a ∧ a < 65536) (hs : -1 ≤ s ∧ s < 64) : movedV (65536 * t + a) s = 65536 * (t + 1) + (s + 1) := by
  unfold movedV
  rw [if_pos hs]
  have e : (65536 * t + a) / 65536 = t := by omega
  rw [e]
  omega
section
variable {c : Cf} (hr : c.right = true) {f : Nat → Int} {t : Int} {L r : List Int} {x : Int}
include hr
theorem S_bd : 1 ≤ c.S ∧ c.S ≤ 64 := by have := right_iff.1 hr; omega
theorem Stk.len (h : Stk c f t L) : L.length ≤ c.S.toNat := nodup_len _ _ h.nd (fun x hx => by have := h.lk.mem x hx; have := S_bd hr; omega)
theorem Stk.list (h : Stk c f t L) : listV c f = L := by
  have hb := hd_bd h.lk
  have hS := S_bd hr
  unfold listV
  have e : f 3 % 65536 = hd L := by rw [h.top]; omega
  rw [e]
  exact chain_of h.lk (h.len hr)
theorem Stk.first (h : Stk c f t L) : firstI c.S (f 3) = hd L - 1 := by
  have hb := hd_bd h.lk
  have hS := S_bd hr
  have e : f 3 % 65536 = hd L := by rw [h.top]; omega
  unfold firstI
  rw [e]
  split
  · cases L with
    | nil => rfl
    | cons x r => have := h.lk.1; have : hd (x :: r) = x + 1 := rfl; omega
  · rfl
theorem link_ge (hx : 0 ≤ x ∧ x < c.S) : 4 ≤ (c.link x).toNat := by have := link_lt hr hx.1 hx.2; omega
theorem Stk.link_top (h : Stk c f t L) (v : Int) : ∀ y ∈ L, upd f 3 v (c.link y).toNat = f (c.link y).toNat := fun y hy => upd_ne (by have := link_ge hr (h.lk.mem y hy); omega)
theorem Stk.take (h : Stk c f t (x :: r)) (t1 : t + 1 < 281474976710656) : Stk c (upd f 3 (movedV (f 3) (hd r - 1))) (t + 1) r := by
  have hS := S_bd hr
  have hx := h.lk.1
  have hb := hd_bd h.lk.2.2
  have ht := h.t0
  refine ⟨?_, by omega, h.lk.2.2.congr (fun y hy => h.link_top hr _ y (List.mem_cons_of_mem _ hy)), (List.nodup_cons.1 h.nd).2⟩
  rw [upd_eq, h.top, moved_eq ht t1 (by show 0 ≤ x + 1 ∧ x + 1 < 65536; omega) (by omega)]
  omega
theorem Stk.lay (h : Stk c f t L) (t1 : t + 1 < 281474976710656) (hx : 0 ≤ x ∧ x < c.S) (hn : x ∉ L) (hl : f (c.link x).toNat = hd L) : Stk c (upd f 3 (movedV (f 3) x)) (t + 1) (x :: L) := by
  have hS := S_bd hr
  have hb := hd_bd h.lk
  have ht := h.t0
  refine ⟨?_, by omega, ⟨hx, ?_, h.lk.congr (fun y hy => h.link_top hr _ y hy)⟩, List.nodup_cons.2 ⟨hn, h.nd⟩⟩
  · rw [upd_eq, h.top, moved_eq ht t1 (by omega) (by omega)]
    rfl
  · rw [upd_ne (by have := link_ge hr hx; omega)]; exact hl
theorem Stk.store (h : Stk c f t L) (hx : 0 ≤ x ∧ x < c.S) (hn : x ∉ L) (v : Int) : Stk c (upd f (c.link x).toNat v) t L := by
  refine ⟨?_, h.t0, h.lk.congr (fun y hy => upd_ne (fun e => ?_)), h.nd⟩
  · rw [upd_ne (by have := link_ge hr hx; omega)]; exact h.top
  · have h1 := link_lt hr (h.lk.mem y hy).1 (h.lk.mem y hy).2
    have h2 := link_lt hr hx.1 hx.2
    have := link_inj hr (h.lk.mem y hy) hx (by omega)
    exact hn (this ▸ hy)
end
/-- What is read of words that are there. -/
theorem ld_f (M : Ms) (a : Int) : (M.ldS a).f = M.f ∧ (M.ldS a).n = M.n := by
  unfold Ms.ldS
  split
  · refine ⟨?_, rfl⟩
    funext i
    show upd M.f a.toNat (M.f a.toNat) i = M.f i
    unfold upd
    split
    · rename_i e; rw [e]
    · rfl
  · exact ⟨rfl, rfl⟩
theorem ld_v {M : Ms} {a : Int} (h0 : 0 ≤ a) (h1 : a < M.n) : M.ldV a = M.f a.toNat := by unfold Ms.ldV; rw [if_pos (inn_iff.2 ⟨h0, h1⟩)]
theorem sw_yes {M : Ms} {a old now : Int} (h0 : 0 ≤ a) (h1 : a < M.n) (h : M.f a.toNat = old) : M.swV a old = true ∧ (M.swS a old now).f = upd M.f a.toNat now ∧ (M.swS a old now).n = M.n := by
  have hi : M.inn a = true := inn_iff.2 ⟨h0, h1⟩
  refine ⟨by unfold Ms.swV; rw [hi, decide_eq_true h]; rfl, ?_, ?_⟩
  · unfold Ms.swS; rw [if_pos hi, if_pos h]; rfl
  · unfold Ms.swS; rw [if_pos hi]; rfl
theorem sw_no {M : Ms} {a old now : Int} (h : M.f a.toNat ≠ old) : M.swV a old = false ∧ (M.swS a old now).f = M.f ∧ (M.swS a old now).n = M.n := by
  refine ⟨by unfold Ms.swV; rw [decide_eq_false h, Bool.and_false], ?_, ?_⟩
  · unfold Ms.swS
    by_cases hi : M.inn a = true
    · rw [if_pos hi, if_neg h]
      funext i
      show upd M.f a.toNat (M.f a.toNat) i = M.f i
      unfold upd
      split
      · rename_i e; rw [e]
      · rfl
    · rw [if_neg hi]
  · unfold Ms.swS; split <;> rfl
theorem st_f {M : Ms} {a v : Int} (h0 : 0 ≤ a) (h1 : a < M.n) : (M.stS a v).f = upd M.f a.toNat v ∧ (M.stS a v).n = M.n := by
  unfold Ms.stS; rw [if_pos (inn_iff.2 ⟨h0, h1⟩)]; exact ⟨rfl, rfl⟩
/-- The first words. -/
def ups (k : Nat) : Nat → List Int
  | 0 => []
  | n + 1 => (k : Int) :: ups (k + 1) n
theorem ups_mem : ∀ {n k : Nat} {x : Int}, x ∈ ups k n → (k : Int) ≤ x ∧ x < (k : Int) + n := by
  intro n
  induction n with
  | zero => intro k x h; cases h
  | succ n ih =>
    intro k x h
    rcases List.mem_cons.1 h with rfl | h
    · omega
    · have := ih h; omega
theorem ups_nodup : ∀ (n k : Nat), (ups k n).Nodup := by
  intro n
  induction n with
  | zero => intro k; exact List.nodup_nil
  | succ n ih => intro k; exact List.nodup_cons.2 ⟨fun h => by have := ups_mem h; omega, ih _⟩
theorem memF_last {A C H : Int} {j : Nat} (h4 : 4 ≤ slotsV C H) (h5 : 5 ≤ roomV A) : memF A C H j (slotsV C H + j * roomV A + 1).toNat = 0 := by
  have hm : 0 ≤ (j : Int) * roomV A := Int.mul_nonneg (by omega) (by omega)
  unfold memF
  have e : (((slotsV C H + j * roomV A + 1).toNat : Nat) : Int) - slotsV C H = 1 + j * roomV A := by omega
  rw [if_neg (by omega), if_neg (by omega), e]
  have e2 : (1 + (j : Int) * roomV A) / roomV A = j := by rw [Int.add_mul_ediv_right _ _ (by omega), Int.ediv_eq_zero_of_lt (by omega) (by omega)]; omega
  rw [e2, if_neg (by omega)]
theorem stk_lk {c : Cf} (hr : c.right = true) : ∀ (n k : Nat), ((k + n : Nat) : Int) = c.S → Lk c (memF c.A c.C c.H (c.S - 1).toNat) (ups k n) := by
  have hb := size_bd hr
  have hS := S_bd hr
  intro n
  induction n with
  | zero => intro k _; trivial
  | succ n ih =>
    intro k hk
    refine ⟨by omega, ?_, ih (k + 1) (by omega)⟩
    unfold Cf.link
    rw [if_pos ⟨hr, by omega, by omega⟩]
    cases n with
    | zero =>
      have : (c.S - 1).toNat = k := by omega
      rw [this]
      exact memF_last (by omega) (by omega)
    | succ n =>
      rw [memF_link (by omega) (by omega) (by omega)]
      show (k : Int) + 2 = ((k + 1 : Nat) : Int) + 1
      omega
theorem stk_start {c : Cf} (hr : c.right = true) : Stk c (memF c.A c.C c.H (c.S - 1).toNat) 0 (ups 0 c.S.toNat) := by
  have hS := S_bd hr
  refine ⟨?_, Int.le_refl 0, stk_lk hr _ 0 (by omega), ups_nodup _ _⟩
  obtain ⟨k, hk⟩ : ∃ k, c.S.toNat = k + 1 := ⟨c.S.toNat - 1, by omega⟩
  rw [hk]
  rfl
end Go.Proofs.Ytijfkpoofpcacaa.StackP
