/-
  Layer 7 (stack), the free list: the document's list of any words is the chain of the links; lists of numbers that are read, compared and searched; condition: a right config, as many words as it has.
-/
import Derived.Test.YtijfkpoofpcacaaStackC
import Derived.Test.YtijfkpoofpcacaaOpen
import Derived.Deep.QuietTactic
import Derived.BigQuiet
set_option linter.unusedVariables false
namespace Go.Proofs.Ytijfkpoofpcacaa.StackL
open Go.RowKit Go.Proofs.Ytijfkpoofpcacaa.PArenaPlays Go.Proofs.YtijfkpoofpcacaaW.PrintWords Go.Proofs.Ytijfkpoofpcacaa.Blk Go.Proofs.Ytijfkpoofpcacaa.Core Go.Proofs.Ytijfkpoofpcacaa.PuArenaPlays Go.Proofs.Ytijfkpoofpcacaa.MemC Go.Proofs.Ytijfkpoofpcacaa.MemD Go.Proofs.Ytijfkpoofpcacaa.MemT Go.Proofs.Ytijfkpoofpcacaa.PlanC Go.Proofs.Ytijfkpoofpcacaa.PlanD Go.Proofs.Ytijfkpoofpcacaa.StackC Go.Proofs.Ytijfkpoofpcacaa.Opens
/-- The slots from a link on, so many at most. -/
def chain (c : Cf) (f : Nat → Int) : Nat → Int → List Int
  | 0, _ => []
  | n + 1, x => if 1 ≤ x ∧ x ≤ c.S then (x - 1) :: chain c f n (f (c.link (x - 1)).toNat) else []
def listV (c : Cf) (f : Nat → Int) : List Int := chain c f c.S.toNat (f 3 % 65536)
theorem chain_len (c : Cf) (f : Nat → Int) : ∀ n x, (chain c f n x).length ≤ n := by
  intro n
  induction n with
  | zero => intro x; exact Nat.le_refl _
  | succ n ih => intro x; unfold chain; split
                 · exact Nat.succ_le_succ (ih _)
                 · exact Nat.zero_le _
theorem chain_mem {c : Cf} {f : Nat → Int} : ∀ {n x y}, y ∈ chain c f n x → 0 ≤ y ∧ y < c.S := by
  intro n
  induction n with
  | zero => intro x y h; simp [chain] at h
  | succ n ih =>
    intro x y h
    unfold chain at h
    split at h
    · rcases List.mem_cons.1 h with rfl | h
      · omega
      · exact ih h
    · cases h
/-- A list of numbers that is read; its block is not below base. -/
def Li (w : World) (base : Nat) (v : Value) (l : List Int) : Prop :=
  ∃ A cc, v = .slice A l.length cc ∧ l.length ≤ cc ∧ Sl w A l.length 1 (fun i _ => .int .i64 (l.getD i 0)) ∧ (∀ b o, A = some ⟨b, o, none⟩ → 0 < l.length → base ≤ b) ∧ l.length ≤ 100000
theorem Li.below {w w' : World} {B : Nat} {v : Value} {l : List Int} (h : Li w B v l) (hb : Below w.heap.size w w') : Li w' B v l := by
  obtain ⟨A, cc, e, hc, hS, hB, hl⟩ := h
  exact ⟨A, cc, e, hc, hS.below hb (Nat.le_refl _), hB, hl⟩
theorem Li.fr {P : Nat → Prop} {w w' : World} {B : Nat} {v : Value} {l : List Int} (h : Li w B v l) (hf : Fr P w w') (hP : ∀ k, P k → k < B) : Li w' B v l := by
  obtain ⟨A, cc, e, hc, hS, hB, hl⟩ := h
  refine ⟨A, cc, e, hc, fun hn => ?_, hB, hl⟩
  obtain ⟨b, off, e', hlt, hcl⟩ := hS hn
  refine ⟨b, off, e', Nat.lt_of_lt_of_le hlt hf.size, fun i hi j hj => ?_⟩
  have := hf.keep b hlt (fun q => by have := hP b q; have := hB b off e' hn; omega)
  have h2 := hcl i hi j hj
  simp only [World.cell?] at h2 ⊢
  rw [this]; exact h2
theorem li_of_C {w : World} {A : Option Addr} {n : Nat} {xs : List Int} (h : Kd.C (Kd.int .i64) w A n xs) : Sl w A n 1 (fun i _ => .int .i64 (xs.getD i 0)) := by
  have key : ∀ i : Nat, i < n → ∃ ad, A = some ad ∧ w.cell? (ad.add i) = some (.int .i64 (xs.getD i 0)) := by
    intro i hi
    obtain ⟨ad, c, e, _, hK, hc⟩ := Kd.C_get h 0 (i : Int) (by omega) (by omega)
    have hK' : c = [Value.int .i64 (xs.getD (i : Int).toNat 0)] := hK
    subst hK'
    have h0 := hc 0 _ rfl
    rw [Int.toNat_natCast] at h0
    refine ⟨ad, e, ?_⟩
    have : i * (Kd.int .i64).sz + 0 = i := by show i * 1 + 0 = i; omega
    rw [this] at h0
    exact h0
  intro hn
  obtain ⟨ad, e, c0⟩ := key 0 hn
  obtain ⟨b, o, spot⟩ := ad
  have hspot : spot = none := by simpa [Addr.add] using World.cell?_spot c0
  subst hspot
  refine ⟨b, o, e, ?_, fun i hi j hj => ?_⟩
  · rw [Go.WideShapes.add_plain] at c0; exact cell_lt c0
  · obtain ⟨ad', e', x0⟩ := key i hi
    rw [e] at e'
    obtain rfl := (Option.some.inj e').symm
    rw [Go.WideShapes.add_plain] at x0
    obtain rfl : j = 0 := by omega
    rw [Nat.mul_one]
    exact x0
theorem li_of_R {w : World} {B : Nat} {ok : Nat → Prop} {v : Value} {xs : List Int} (h : Kd.R (Kd.int .i64) 3 w B ok v xs) (hl : xs.length ≤ 100000) : Li w B v xs := by
  obtain ⟨A, cc, rfl, hc, hC⟩ := Kd.R_reads h
  refine ⟨A, cc, rfl, hc, li_of_C hC, fun b o e hn => ?_, hl⟩
  obtain ⟨h0, inner, ho, hr⟩ := h
  exact own_base ho b (by subst e; rfl)
/-- A row of words that is read: from cell off of block b on. -/
structure RdB (w : World) (b off n : Nat) (f : Nat → Int) : Prop where
  lt : b < w.heap.size
  cell : ∀ i, i < n → w.cell? ⟨b, off + i, none⟩ = some (.int .u64 (f i))
theorem RdB.below {w w' : World} {b off n : Nat} {f : Nat → Int} (h : RdB w b off n f) (hb : Below w.heap.size w w') : RdB w' b off n f :=
  ⟨Nat.lt_of_lt_of_le h.lt hb.size, fun i hi => (hb.cell (p := ⟨b, off + i, none⟩) h.lt).trans (h.cell i hi)⟩
theorem RdB.fr {P : Nat → Prop} {w w' : World} {b off n : Nat} {f : Nat → Int} (h : RdB w b off n f) (hf : Fr P w w') (hb : ¬ P b) : RdB w' b off n f := by
  refine ⟨Nat.lt_of_lt_of_le h.lt hf.size, fun i hi => ?_⟩
  have h2 := h.cell i hi
  simp only [World.cell?] at h2 ⊢
  rw [hf.keep b h.lt hb]; exact h2
theorem RdB.alloc {w : World} {b off n : Nat} {f : Nat → Int} (h : RdB w b off n f) (o : Obj) : RdB (w.alloc o) b off n f := h.fr (P := fun _ => False) (Fr.alloc _ w o) id
theorem RdB.drew {w : World} {b off n : Nat} {f : Nat → Int} (h : RdB w b off n f) : RdB w.drew b off n f := ⟨h.lt, h.cell⟩
theorem rd_of_row {w : World} {A : Option Addr} {c b n : Nat} {f : Nat → Int} (h : RowB w A c b n f) (hn : 0 < n) : A = some ⟨b, 0, none⟩ ∧ n ≤ c ∧ RdB w b 0 n f :=
  ⟨(h.cell hn).1, h.cap, h.lt hn, fun i hi => by rw [Nat.zero_add]; exact (h.cell hi).2.1⟩
theorem C_of_rd {w : World} {b off n : Nat} {f : Nat → Int} (h : RdB w b off n f) (hn : n ≤ 100000) : Kd.C (Kd.int .u64) w (some ⟨b, off, none⟩) ((List.range n).map f).length ((List.range n).map f) := by
  have hlen : ((List.range n).map f).length = n := by simp
  rw [hlen]
  refine Kd.C_of_reads (enc := fun x => Value.int .u64 x) (d := 0) ⟨hlen, by omega, fun h0 => ⟨_, rfl, fun j hj => ?_⟩⟩
  rw [Go.WideShapes.add_plain, h.cell j hj]
  simp [List.getD_eq_getElem?_getD, List.getElem?_map, List.getElem?_range hj]
/-- The word's place is the link's. -/
theorem at_link (k S C H : Nat) (A G K : Int) (s : Int) (hk : 2000 ≤ k) (h : rightB S A C H G K = true) : withyref06_At.f k S A C H G K ⟨#[108, 105, 110, 107]⟩ s 0 = some ((Cf.mk S A C H G K).link s) := by
  have hr := right_iff.1 h
  rw [p_rAt k S C H A G K ⟨#[108, 105, 110, 107]⟩ s 0 hk h (0 ≤ s ∧ s < S) mem_link]
  unfold Cf.link Cf.right
  congr 1
  by_cases d : 0 ≤ s ∧ s < S
  · rw [if_pos d, if_pos ⟨h, d.1, d.2⟩]
    have : (2 : Int) + (roomN A : Nat) = roomV A := by unfold roomN roomV; split <;> omega
    simp [posW, slotsV, this]
  · rw [if_neg d, if_neg (fun x => d x.2)]
theorem rd_row (f : Nat → Int) (n : Nat) (i : Int) (h0 : 0 ≤ i) (h1 : i < n) : rd ((List.range n).map f) i = f i.toNat := by
  unfold rd
  rw [List.getD_eq_getElem?_getD, List.getElem?_map, List.getElem?_range (by omega)]
  rfl
theorem link_lt {c : Cf} (h : c.right = true) {s : Int} (s0 : 0 ≤ s) (s1 : s < c.S) : 4 ≤ c.link s ∧ c.link s < c.size := by
  have hb := size_bd h
  have ha := at_bd h s0 s1 (i := 1) (by decide) (by omega)
  unfold Cf.link
  rw [if_pos ⟨h, s0, s1⟩]
  unfold Cf.size
  omega
theorem ref_l (S C H : Nat) (A G K : Int) (f : Nat → Int) (hf : U f) (n : Nat) (h : rightB S A C H G K = true) (hn : (n : Int) = sizeV S A C H) (d : Nat) : ∀ (k : Nat) (x : Int) (acc : List Int), 2000 + d < k → 0 ≤ x → x < 18446744073709551616 → acc.length + d = S →
    withyref07_List.l0 k ((List.range n).map f) acc x S A C H G K = some (acc ++ chain ⟨S, A, C, H, G, K⟩ f d x) := by
  have hr := right_iff.1 h
  have ew : IntKind.u64.wrap (S : Int) = S := wrap_u64_id _ (by omega) (by omega)
  have hlen : (((List.range n).map f).length : Int) = n := by simp
  induction d with
  | zero =>
    intro k x acc hk x0 x1 ha
    obtain ⟨k, rfl⟩ : ∃ m, k = m + 1 := ⟨k - 1, by omega⟩
    simp only [withyref07_List.l0, chain, List.append_nil]
    rw [ew]
    by_cases h1 : x ≥ 1
    · rw [if_pos h1]
      by_cases h2 : x ≤ S
      · rw [if_pos h2, if_neg (by omega)]
      · rw [if_neg h2]
    · rw [if_neg h1]
  | succ d ih =>
    intro k x acc hk x0 x1 ha
    obtain ⟨k, rfl⟩ : ∃ m, k = m + 1 := ⟨k - 1, by omega⟩
    simp only [withyref07_List.l0, chain]
    rw [ew]
    by_cases h1 : x ≥ 1
    · rw [if_pos h1]
      by_cases h2 : x ≤ S
      · have e1 : wrap64 x = x := wrap64_id _ (by omega) (by omega)
        have e2 : wrap64 (x - 1) = x - 1 := wrap64_id _ (by omega) (by omega)
        have hl := link_lt (c := ⟨S, A, C, H, G, K⟩) h (s := x - 1) (by omega) (by show x - 1 < (S : Int); omega)
        have hl2 : (Cf.mk S A C H G K).link (x - 1) < n := by rw [hn]; exact hl.2
        rw [if_pos h2, if_pos (by omega), if_pos (by omega), e1, e2, at_link k S C H A G K (x - 1) (by omega) h, Option.bind_some, if_pos (by omega), if_pos (by omega), rd_row f n _ (by omega) hl2]
        rw [ih k _ _ (by omega) (hf _).1 (hf _).2 (by rw [List.length_append, List.length_singleton]; omega), if_pos ⟨h1, h2⟩]
        simp
      · rw [if_neg h2, if_neg (fun q => h2 q.2)]; simp
    · rw [if_neg h1, if_neg (fun q => h1 q.1)]; simp
theorem ref_f (S C H : Nat) (A G K : Int) (f : Nat → Int) (hf : U f) (n : Nat) (h : rightB S A C H G K = true) (hn : (n : Int) = sizeV S A C H) : withyref07_List.f 3000 S A C H G K ((List.range n).map f) = some (listV ⟨S, A, C, H, G, K⟩ f) := by
  have hr := right_iff.1 h
  have hb := size_bd h
  unfold withyref07_List.f
  rw [p_rRight, Option.bind_some, if_pos h, p_rWords 3000 S C H A G K (by decide) (by omega) (by omega) (by omega) (by omega), Option.bind_some]
  have hlen : (((List.range n).map f).length : Int) = n := by simp
  have e : ((((List.range n).map f).length : Int) != ((wordsL S C H (roomN A)).length : Int)) = false := by rw [hlen, sizes_eq, hn]; simp
  rw [e]
  simp only [withyref07_List.j0]
  rw [if_neg (by decide), if_pos (by omega), rd_row f n 3 (by decide) (by omega)]
  have h3 := hf 3
  rw [show Int.toNat 3 = 3 from rfl, Int.tmod_eq_emod_of_nonneg h3.1, ref_l S C H A G K f hf n h hn S 2999 _ [] (by omega) (by omega) (by omega) (by simp)]
  rfl
theorem refListR (c : Cf) (w : World) (cc b off n : Nat) (f : Nat → Int) (hf : U f) (h : c.right = true) (hn : (n : Int) = c.size) (hc : n ≤ cc) (hR : RdB w b off n f) : Calls Try.prog 30 #[.agg #[.int .i64 c.S, .int .i64 c.A, .int .i64 c.C, .int .i64 c.H, .int .i64 c.G, .int .i64 c.K], .slice (some ⟨b, off, none⟩) n cc] w fun e w' =>
    ∃ v, e = .returned v ∧ Li w' w.heap.size v (listV c f) ∧ Below w.heap.size w w' := by
  obtain ⟨S, X, C, H, G, K⟩ := c
  have h' : rightB S X C H G K = true := h
  have hr := right_iff.1 h'
  have hb := size_bd h'
  obtain ⟨s, rfl⟩ := Int.eq_ofNat_of_zero_le (show 0 ≤ S by omega)
  obtain ⟨c, rfl⟩ := Int.eq_ofNat_of_zero_le (show 0 ≤ C by omega)
  obtain ⟨hh, rfl⟩ := Int.eq_ofNat_of_zero_le (show 0 ≤ H by omega)
  have hn' : (n : Int) = sizeV s X c hh := hn
  have hC := C_of_rd hR (by omega)
  have hlen : ((List.range n).map f).length = n := by simp
  have hcl := withyref07_List.calls 3000 s X c hh G K (some ⟨b, off, none⟩) cc ((List.range n).map f) _ w hC (by rw [hlen]; exact hc) (ref_f s c hh X G K f hf n h hn')
  rw [hlen] at hcl
  refine hcl.mono ?_
  rintro e w' ⟨v, rfl, hv, hbl⟩
  have hle := chain_len ⟨s, X, c, hh, G, K⟩ f s (f 3 % 65536)
  exact ⟨v, rfl, li_of_R hv (by show (chain _ f (Int.toNat (s : Int)) _).length ≤ _; rw [Int.toNat_natCast]; omega), hbl⟩
theorem refListC (c : Cf) (w : World) (A : Option Addr) (cc b n : Nat) (f : Nat → Int) (hf : U f) (h : c.right = true) (hn : (n : Int) = c.size) (hR : RowB w A cc b n f) : Calls Try.prog 30 #[.agg #[.int .i64 c.S, .int .i64 c.A, .int .i64 c.C, .int .i64 c.H, .int .i64 c.G, .int .i64 c.K], .slice A n cc] w fun e w' =>
    ∃ v, e = .returned v ∧ Li w' w.heap.size v (listV c f) ∧ Below w.heap.size w w' := by
  have hb := size_bd h
  obtain ⟨rfl, hc, hR'⟩ := rd_of_row hR (by unfold Cf.size at hn; omega)
  exact refListR c w cc b 0 n f hf h hn hc hR'
end Go.Proofs.Ytijfkpoofpcacaa.StackL
