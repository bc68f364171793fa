/-
  Layer 6: the words of a memory in which nothing was done, as its links are laid one by one. No program.
-/
import Derived.Test.YtijfkpoofpcacaaCore
import Derived.Test.YtijfkpoofpcacaaBlk
namespace Go.Proofs.Ytijfkpoofpcacaa.Memory
open Go.RowKit Go.Proofs.Ytijfkpoofpcacaa.Blk Go.Proofs.Ytijfkpoofpcacaa.Core
/-- The first words: the clock, the top, and the first j links. -/
def memF (A C H : Int) (j : Nat) : Nat → Int := fun k => if k = 0 then 1 else if k = 3 then 1 else
  if 0 ≤ (k : Int) - slotsV C H ∧ ((k : Int) - slotsV C H) % roomV A = 1 ∧ ((k : Int) - slotsV C H) / roomV A < (j : Int) then ((k : Int) - slotsV C H) / roomV A + 2 else 0
theorem memF_link {A C H : Int} {j s : Nat} (h4 : 4 ≤ slotsV C H) (hr : 5 ≤ roomV A) (hs : s < j) : memF A C H j (slotsV C H + s * roomV A + 1).toNat = s + 2 := by
  have hm : 0 ≤ (s : Int) * roomV A := Int.mul_nonneg (by omega) (by omega)
  unfold memF
  have e : (((slotsV C H + s * roomV A + 1).toNat : Nat) : Int) - slotsV C H = 1 + s * roomV A := by omega
  rw [if_neg (by omega), if_neg (by omega), e]
  have e1 : (1 + (s : Int) * roomV A) % roomV A = 1 := by rw [Int.add_mul_emod_self_right, Int.emod_eq_of_lt (by omega) (by omega)]
  have e2 : (1 + (s : Int) * roomV A) / roomV A = s := by rw [Int.add_mul_ediv_right _ _ (by omega), Int.ediv_eq_zero_of_lt (by omega) (by omega)]; omega
  rw [e1, e2, if_pos ⟨by omega, rfl, by omega⟩]
theorem memF_succ {A C H : Int} {j : Nat} (h4 : 4 ≤ slotsV C H) (hr : 5 ≤ roomV A) : upd (memF A C H j) (slotsV C H + j * roomV A + 1).toNat ((j : Int) + 2) = memF A C H (j + 1) := by
  have hm : 0 ≤ (j : Int) * roomV A := Int.mul_nonneg (by omega) (by omega)
  funext k
  unfold upd
  by_cases c : k = (slotsV C H + j * roomV A + 1).toNat
  · rw [if_pos c, c, memF_link h4 hr (Nat.lt_succ_self j)]
  · rw [if_neg c]
    unfold memF
    by_cases k0 : k = 0
    · rw [if_pos k0, if_pos k0]
    · rw [if_neg k0, if_neg k0]
      by_cases k3 : k = 3
      · rw [if_pos k3, if_pos k3]
      · rw [if_neg k3, if_neg k3]
        by_cases d : 0 ≤ (k : Int) - slotsV C H ∧ ((k : Int) - slotsV C H) % roomV A = 1 ∧ ((k : Int) - slotsV C H) / roomV A < (j : Int)
        · rw [if_pos d, if_pos ⟨d.1, d.2.1, by have := d.2.2; omega⟩]
        · rw [if_neg d, if_neg (fun x => d ⟨x.1, x.2.1, by
            have h1 := x.2.2
            rcases Int.lt_or_le (((k : Int) - slotsV C H) / roomV A) (j : Int) with g | g
            · exact g
            · exfalso
              have e : ((k : Int) - slotsV C H) / roomV A = j := by omega
              have := Int.mul_ediv_add_emod ((k : Int) - slotsV C H) (roomV A)
              rw [e, x.2.1, Int.mul_comm] at this
              exact c (by omega)⟩)]
end Go.Proofs.Ytijfkpoofpcacaa.Memory
