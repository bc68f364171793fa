/-
  No cell of these rows narrows 'for every input' (looked for: loops, veiled, ifaces, maps, wideKeys, modest, calm, conditions, laid).
  DERIVED. THE GIVEN ROWS OF THIS SEAT. 11 by the template 'for every input the law returns true; each argument reads behind the call as it read before'; 0 by the template 'total and deterministic' (their statements: YtnphakngfkmpiaaTotals.lean).
  GIVEN WITH THE SEED: the statements are not yours to turn. If you find one false, say at which input.
  Laid BY PROGRAM, IN A SANDBOX (cutbox-rows.mjs): the forced cells as the released guide's own fill.sh prints them over the translation 18fd0a4279be9df7… (all of the seat's roots in one cut). By AI agents, Wed Nov 11 2026. No macro, syntax, notation, axiom, sorry.
-/
import Derived.Test.YtnphakngfkmpiaaChecked
import GoSem.Claim
import GoSem.ClaimJoined
import GoSem.ClaimMapViews
import Derived.JoinedTies
import Derived.KernelRfl
namespace Go.Proofs.Ytnphakngfkmpiaa
/- THE CELL 'sum', in the pinned program and in every row, IS THE sha256 OF THE DUMP (.gsa) THAT YtnphakngfkmpiaaProg.lean LOADS. Nothing in Lean hashes anything: it is a label: what it is worth is what the hold of that sum in a sandbox is worth. -/
noncomputable def Try.pinned : Pinned := { name := "ytnphakngfkmpiaa", sum := "18fd0a4279be9df7d6359bfdb37d90ed0178023725a16567746af209810a09a7", checked := Try.checked }
namespace Rows
def none {H : Type} : Left H := { results := [], args := [] }

/-- 'withylaw06.PlanSizes': WHATEVER THE INPUT: true; the input reads as it did. -/
def planSizesSpec : ChangeSpec := { name := "planSizes", fn := fun _ => fun
  | [d] => { results := [.lit (.bool true)], args := [d] }
  | _ => none }
def planSizesRow : OpenClaim := { program := "ytnphakngfkmpiaa", sum := "18fd0a4279be9df7d6359bfdb37d90ed0178023725a16567746af209810a09a7", func := "withy/withylaw06.PlanSizes", spec := "planSizes", apart := false }
def PlanSizesSaid : Prop := planSizesRow.holds Try.pinned (OpenSpec.ofChange planSizesSpec)

/-- ITS FALSE NEIGHBOUR: 'it returns false'. Refute it at one input. -/
def planSizesWrong : ChangeSpec := { name := "planSizes", fn := fun _ => fun
  | [d] => { results := [.lit (.bool false)], args := [d] }
  | _ => none }
def PlanSizesWrongFalsely : Prop := planSizesRow.holds Try.pinned (OpenSpec.ofChange planSizesWrong)

/-- 'withylaw06.PlanPlaces': WHATEVER THE INPUT: true; the input reads as it did. -/
def planPlacesSpec : ChangeSpec := { name := "planPlaces", fn := fun _ => fun
  | [d1, d2, d3] => { results := [.lit (.bool true)], args := [d1, d2, d3] }
  | _ => none }
def planPlacesRow : OpenClaim := { program := "ytnphakngfkmpiaa", sum := "18fd0a4279be9df7d6359bfdb37d90ed0178023725a16567746af209810a09a7", func := "withy/withylaw06.PlanPlaces", spec := "planPlaces", apart := false }
def PlanPlacesSaid : Prop := planPlacesRow.holds Try.pinned (OpenSpec.ofChange planPlacesSpec)

/-- ITS FALSE NEIGHBOUR: 'it returns false'. Refute it at one input. -/
def planPlacesWrong : ChangeSpec := { name := "planPlaces", fn := fun _ => fun
  | [d1, d2, d3] => { results := [.lit (.bool false)], args := [d1, d2, d3] }
  | _ => none }
def PlanPlacesWrongFalsely : Prop := planPlacesRow.holds Try.pinned (OpenSpec.ofChange planPlacesWrong)

/-- 'withylaw06.PlanSlots': WHATEVER THE INPUT: true; the input reads as it did. -/
def planSlotsSpec : ChangeSpec := { name := "planSlots", fn := fun _ => fun
  | [d1, d2, d3, d4] => { results := [.lit (.bool true)], args := [d1, d2, d3, d4] }
  | _ => none }
def planSlotsRow : OpenClaim := { program := "ytnphakngfkmpiaa", sum := "18fd0a4279be9df7d6359bfdb37d90ed0178023725a16567746af209810a09a7", func := "withy/withylaw06.PlanSlots", spec := "planSlots", apart := false }
def PlanSlotsSaid : Prop := planSlotsRow.holds Try.pinned (OpenSpec.ofChange planSlotsSpec)

/-- ITS FALSE NEIGHBOUR: 'it returns false'. Refute it at one input. -/
def planSlotsWrong : ChangeSpec := { name := "planSlots", fn := fun _ => fun
  | [d1, d2, d3, d4] => { results := [.lit (.bool false)], args := [d1, d2, d3, d4] }
  | _ => none }
def PlanSlotsWrongFalsely : Prop := planSlotsRow.holds Try.pinned (OpenSpec.ofChange planSlotsWrong)

/-- 'withylaw06.PlanApart': WHATEVER THE INPUT: true; the input reads as it did. -/
def planApartSpec : ChangeSpec := { name := "planApart", fn := fun _ => fun
  | [d] => { results := [.lit (.bool true)], args := [d] }
  | _ => none }
def planApartRow : OpenClaim := { program := "ytnphakngfkmpiaa", sum := "18fd0a4279be9df7d6359bfdb37d90ed0178023725a16567746af209810a09a7", func := "withy/withylaw06.PlanApart", spec := "planApart", apart := false }
def PlanApartSaid : Prop := planApartRow.holds Try.pinned (OpenSpec.ofChange planApartSpec)

/-- ITS FALSE NEIGHBOUR: 'it returns false'. Refute it at one input. -/
def planApartWrong : ChangeSpec := { name := "planApart", fn := fun _ => fun
  | [d] => { results := [.lit (.bool false)], args := [d] }
  | _ => none }
def PlanApartWrongFalsely : Prop := planApartRow.holds Try.pinned (OpenSpec.ofChange planApartWrong)

/-- 'withylaw04.HeadMade': WHATEVER THE INPUT: true; the input reads as it did. -/
def headMadeSpec : ChangeSpec := { name := "headMade", fn := fun _ => fun
  | [d1, d2, d3, d4] => { results := [.lit (.bool true)], args := [d1, d2, d3, d4] }
  | _ => none }
def headMadeRow : OpenClaim := { program := "ytnphakngfkmpiaa", sum := "18fd0a4279be9df7d6359bfdb37d90ed0178023725a16567746af209810a09a7", func := "withy/withylaw04.HeadMade", spec := "headMade", apart := false }
def HeadMadeSaid : Prop := headMadeRow.holds Try.pinned (OpenSpec.ofChange headMadeSpec)

/-- ITS FALSE NEIGHBOUR: 'it returns false'. Refute it at one input. -/
def headMadeWrong : ChangeSpec := { name := "headMade", fn := fun _ => fun
  | [d1, d2, d3, d4] => { results := [.lit (.bool false)], args := [d1, d2, d3, d4] }
  | _ => none }
def HeadMadeWrongFalsely : Prop := headMadeRow.holds Try.pinned (OpenSpec.ofChange headMadeWrong)

/-- 'withylaw04.HeadPacks': WHATEVER THE INPUT: true; the input reads as it did. -/
def headPacksSpec : ChangeSpec := { name := "headPacks", fn := fun _ => fun
  | [d] => { results := [.lit (.bool true)], args := [d] }
  | _ => none }
def headPacksRow : OpenClaim := { program := "ytnphakngfkmpiaa", sum := "18fd0a4279be9df7d6359bfdb37d90ed0178023725a16567746af209810a09a7", func := "withy/withylaw04.HeadPacks", spec := "headPacks", apart := false }
def HeadPacksSaid : Prop := headPacksRow.holds Try.pinned (OpenSpec.ofChange headPacksSpec)

/-- ITS FALSE NEIGHBOUR: 'it returns false'. Refute it at one input. -/
def headPacksWrong : ChangeSpec := { name := "headPacks", fn := fun _ => fun
  | [d] => { results := [.lit (.bool false)], args := [d] }
  | _ => none }
def HeadPacksWrongFalsely : Prop := headPacksRow.holds Try.pinned (OpenSpec.ofChange headPacksWrong)

/-- 'withylaw04.HeadUnpacks': WHATEVER THE INPUT: true; the input reads as it did. -/
def headUnpacksSpec : ChangeSpec := { name := "headUnpacks", fn := fun _ => fun
  | [d] => { results := [.lit (.bool true)], args := [d] }
  | _ => none }
def headUnpacksRow : OpenClaim := { program := "ytnphakngfkmpiaa", sum := "18fd0a4279be9df7d6359bfdb37d90ed0178023725a16567746af209810a09a7", func := "withy/withylaw04.HeadUnpacks", spec := "headUnpacks", apart := false }
def HeadUnpacksSaid : Prop := headUnpacksRow.holds Try.pinned (OpenSpec.ofChange headUnpacksSpec)

/-- ITS FALSE NEIGHBOUR: 'it returns false'. Refute it at one input. -/
def headUnpacksWrong : ChangeSpec := { name := "headUnpacks", fn := fun _ => fun
  | [d] => { results := [.lit (.bool false)], args := [d] }
  | _ => none }
def HeadUnpacksWrongFalsely : Prop := headUnpacksRow.holds Try.pinned (OpenSpec.ofChange headUnpacksWrong)

/-- 'withylaw04.HeadRetires': WHATEVER THE INPUT: true; the input reads as it did. -/
def headRetiresSpec : ChangeSpec := { name := "headRetires", fn := fun _ => fun
  | [d1, d2, d3] => { results := [.lit (.bool true)], args := [d1, d2, d3] }
  | _ => none }
def headRetiresRow : OpenClaim := { program := "ytnphakngfkmpiaa", sum := "18fd0a4279be9df7d6359bfdb37d90ed0178023725a16567746af209810a09a7", func := "withy/withylaw04.HeadRetires", spec := "headRetires", apart := false }
def HeadRetiresSaid : Prop := headRetiresRow.holds Try.pinned (OpenSpec.ofChange headRetiresSpec)

/-- ITS FALSE NEIGHBOUR: 'it returns false'. Refute it at one input. -/
def headRetiresWrong : ChangeSpec := { name := "headRetires", fn := fun _ => fun
  | [d1, d2, d3] => { results := [.lit (.bool false)], args := [d1, d2, d3] }
  | _ => none }
def HeadRetiresWrongFalsely : Prop := headRetiresRow.holds Try.pinned (OpenSpec.ofChange headRetiresWrong)

/-- 'withylaw04.HeadShades': WHATEVER THE INPUT: true; the input reads as it did. -/
def headShadesSpec : ChangeSpec := { name := "headShades", fn := fun _ => fun
  | [d1, d2] => { results := [.lit (.bool true)], args := [d1, d2] }
  | _ => none }
def headShadesRow : OpenClaim := { program := "ytnphakngfkmpiaa", sum := "18fd0a4279be9df7d6359bfdb37d90ed0178023725a16567746af209810a09a7", func := "withy/withylaw04.HeadShades", spec := "headShades", apart := false }
def HeadShadesSaid : Prop := headShadesRow.holds Try.pinned (OpenSpec.ofChange headShadesSpec)

/-- ITS FALSE NEIGHBOUR: 'it returns false'. Refute it at one input. -/
def headShadesWrong : ChangeSpec := { name := "headShades", fn := fun _ => fun
  | [d1, d2] => { results := [.lit (.bool false)], args := [d1, d2] }
  | _ => none }
def HeadShadesWrongFalsely : Prop := headShadesRow.holds Try.pinned (OpenSpec.ofChange headShadesWrong)

/-- 'withylaw04.HeadFollows': WHATEVER THE INPUT: true; the input reads as it did. -/
def headFollowsSpec : ChangeSpec := { name := "headFollows", fn := fun _ => fun
  | [d1, d2] => { results := [.lit (.bool true)], args := [d1, d2] }
  | _ => none }
def headFollowsRow : OpenClaim := { program := "ytnphakngfkmpiaa", sum := "18fd0a4279be9df7d6359bfdb37d90ed0178023725a16567746af209810a09a7", func := "withy/withylaw04.HeadFollows", spec := "headFollows", apart := false }
def HeadFollowsSaid : Prop := headFollowsRow.holds Try.pinned (OpenSpec.ofChange headFollowsSpec)

/-- ITS FALSE NEIGHBOUR: 'it returns false'. Refute it at one input. -/
def headFollowsWrong : ChangeSpec := { name := "headFollows", fn := fun _ => fun
  | [d1, d2] => { results := [.lit (.bool false)], args := [d1, d2] }
  | _ => none }
def HeadFollowsWrongFalsely : Prop := headFollowsRow.holds Try.pinned (OpenSpec.ofChange headFollowsWrong)

/-- 'withylaw06.PlanMemories': WHATEVER THE INPUT: true; the input reads as it did. -/
def planMemoriesSpec : ChangeSpec := { name := "planMemories", fn := fun _ => fun
  | [d] => { results := [.lit (.bool true)], args := [d] }
  | _ => none }
def planMemoriesRow : OpenClaim := { program := "ytnphakngfkmpiaa", sum := "18fd0a4279be9df7d6359bfdb37d90ed0178023725a16567746af209810a09a7", func := "withy/withylaw06.PlanMemories", spec := "planMemories", apart := false }
def PlanMemoriesSaid : Prop := planMemoriesRow.holds Try.pinned (OpenSpec.ofChange planMemoriesSpec)

/-- ITS FALSE NEIGHBOUR: 'it returns false'. Refute it at one input. -/
def planMemoriesWrong : ChangeSpec := { name := "planMemories", fn := fun _ => fun
  | [d] => { results := [.lit (.bool false)], args := [d] }
  | _ => none }
def PlanMemoriesWrongFalsely : Prop := planMemoriesRow.holds Try.pinned (OpenSpec.ofChange planMemoriesWrong)

/- THE SECOND FORM. 'bulk': how many values and letters a reading holds, each counted each time it is reached (what is shared counts as often as it is met; a slice's spare places count too). A statement '..UptoSaid' is the law's where the arguments, and the package variables that the reading takes, are together of bulk at most 1048576: NARROWER than '..Said'. Prove '..Said' where nothing that the law and all that it calls make is longer than what came in: it says more and counts as full. Else prove '..UptoSaid'. A law counts once. -/
mutual
def uptoBulk {H : Type} : DataW H → Nat
  | .lit (.string bytes) => bytes.length + 1
  | .lit _ => 1
  | .nil => 1
  | .ptr d => uptoBulk d + 1
  | .slice elems spare => uptoBulkAll elems + uptoBulkAll spare + 1
  | .agg parts => uptoBulkAll parts + 1
  | .iface _ d => uptoBulk d + 1
  | .map entries => uptoBulkEntries entries + 1
  | .held _ => 1
def uptoBulkAll {H : Type} : List (DataW H) → Nat
  | [] => 0
  | d :: r => uptoBulk d + uptoBulkAll r
def uptoBulkEntries {H : Type} : List (Lit × DataW H) → Nat
  | [] => 0
  | x :: r => uptoBulkEntry x + uptoBulkEntries r
def uptoBulkEntry {H : Type} : Lit × DataW H → Nat
  | (.string bytes, d) => bytes.length + uptoBulk d + 1
  | (_, d) => uptoBulk d + 1
 end
def uptoSmall : (H : Type) → List (DataW H) → Bool := fun _ ds => decide (uptoBulkAll ds ≤ 1048576)
def OpenSpec.upto (s : _root_.Go.ChangeSpec) : _root_.Go.OpenSpec := { _root_.Go.OpenSpec.ofChange s with cond := some uptoSmall }

/-- 'withylaw06.PlanSizes', WHERE WHAT IT READS IS OF BULK AT MOST 1048576: true; the input reads as it did. -/
def planSizesUptoRow : OpenClaim := { program := "ytnphakngfkmpiaa", sum := "18fd0a4279be9df7d6359bfdb37d90ed0178023725a16567746af209810a09a7", func := "withy/withylaw06.PlanSizes", spec := "planSizes", apart := false, narrowed := true }
def PlanSizesUptoSaid : Prop := planSizesUptoRow.holds Try.pinned (OpenSpec.upto planSizesSpec)

/-- 'withylaw06.PlanPlaces', WHERE WHAT IT READS IS OF BULK AT MOST 1048576: true; the input reads as it did. -/
def planPlacesUptoRow : OpenClaim := { program := "ytnphakngfkmpiaa", sum := "18fd0a4279be9df7d6359bfdb37d90ed0178023725a16567746af209810a09a7", func := "withy/withylaw06.PlanPlaces", spec := "planPlaces", apart := false, narrowed := true }
def PlanPlacesUptoSaid : Prop := planPlacesUptoRow.holds Try.pinned (OpenSpec.upto planPlacesSpec)

/-- 'withylaw06.PlanSlots', WHERE WHAT IT READS IS OF BULK AT MOST 1048576: true; the input reads as it did. -/
def planSlotsUptoRow : OpenClaim := { program := "ytnphakngfkmpiaa", sum := "18fd0a4279be9df7d6359bfdb37d90ed0178023725a16567746af209810a09a7", func := "withy/withylaw06.PlanSlots", spec := "planSlots", apart := false, narrowed := true }
def PlanSlotsUptoSaid : Prop := planSlotsUptoRow.holds Try.pinned (OpenSpec.upto planSlotsSpec)

/-- 'withylaw06.PlanApart', WHERE WHAT IT READS IS OF BULK AT MOST 1048576: true; the input reads as it did. -/
def planApartUptoRow : OpenClaim := { program := "ytnphakngfkmpiaa", sum := "18fd0a4279be9df7d6359bfdb37d90ed0178023725a16567746af209810a09a7", func := "withy/withylaw06.PlanApart", spec := "planApart", apart := false, narrowed := true }
def PlanApartUptoSaid : Prop := planApartUptoRow.holds Try.pinned (OpenSpec.upto planApartSpec)

/-- 'withylaw04.HeadMade', WHERE WHAT IT READS IS OF BULK AT MOST 1048576: true; the input reads as it did. -/
def headMadeUptoRow : OpenClaim := { program := "ytnphakngfkmpiaa", sum := "18fd0a4279be9df7d6359bfdb37d90ed0178023725a16567746af209810a09a7", func := "withy/withylaw04.HeadMade", spec := "headMade", apart := false, narrowed := true }
def HeadMadeUptoSaid : Prop := headMadeUptoRow.holds Try.pinned (OpenSpec.upto headMadeSpec)

/-- 'withylaw04.HeadPacks', WHERE WHAT IT READS IS OF BULK AT MOST 1048576: true; the input reads as it did. -/
def headPacksUptoRow : OpenClaim := { program := "ytnphakngfkmpiaa", sum := "18fd0a4279be9df7d6359bfdb37d90ed0178023725a16567746af209810a09a7", func := "withy/withylaw04.HeadPacks", spec := "headPacks", apart := false, narrowed := true }
def HeadPacksUptoSaid : Prop := headPacksUptoRow.holds Try.pinned (OpenSpec.upto headPacksSpec)

/-- 'withylaw04.HeadUnpacks', WHERE WHAT IT READS IS OF BULK AT MOST 1048576: true; the input reads as it did. -/
def headUnpacksUptoRow : OpenClaim := { program := "ytnphakngfkmpiaa", sum := "18fd0a4279be9df7d6359bfdb37d90ed0178023725a16567746af209810a09a7", func := "withy/withylaw04.HeadUnpacks", spec := "headUnpacks", apart := false, narrowed := true }
def HeadUnpacksUptoSaid : Prop := headUnpacksUptoRow.holds Try.pinned (OpenSpec.upto headUnpacksSpec)

/-- 'withylaw04.HeadRetires', WHERE WHAT IT READS IS OF BULK AT MOST 1048576: true; the input reads as it did. -/
def headRetiresUptoRow : OpenClaim := { program := "ytnphakngfkmpiaa", sum := "18fd0a4279be9df7d6359bfdb37d90ed0178023725a16567746af209810a09a7", func := "withy/withylaw04.HeadRetires", spec := "headRetires", apart := false, narrowed := true }
def HeadRetiresUptoSaid : Prop := headRetiresUptoRow.holds Try.pinned (OpenSpec.upto headRetiresSpec)

/-- 'withylaw04.HeadShades', WHERE WHAT IT READS IS OF BULK AT MOST 1048576: true; the input reads as it did. -/
def headShadesUptoRow : OpenClaim := { program := "ytnphakngfkmpiaa", sum := "18fd0a4279be9df7d6359bfdb37d90ed0178023725a16567746af209810a09a7", func := "withy/withylaw04.HeadShades", spec := "headShades", apart := false, narrowed := true }
def HeadShadesUptoSaid : Prop := headShadesUptoRow.holds Try.pinned (OpenSpec.upto headShadesSpec)

/-- 'withylaw04.HeadFollows', WHERE WHAT IT READS IS OF BULK AT MOST 1048576: true; the input reads as it did. -/
def headFollowsUptoRow : OpenClaim := { program := "ytnphakngfkmpiaa", sum := "18fd0a4279be9df7d6359bfdb37d90ed0178023725a16567746af209810a09a7", func := "withy/withylaw04.HeadFollows", spec := "headFollows", apart := false, narrowed := true }
def HeadFollowsUptoSaid : Prop := headFollowsUptoRow.holds Try.pinned (OpenSpec.upto headFollowsSpec)

/-- 'withylaw06.PlanMemories', WHERE WHAT IT READS IS OF BULK AT MOST 1048576: true; the input reads as it did. -/
def planMemoriesUptoRow : OpenClaim := { program := "ytnphakngfkmpiaa", sum := "18fd0a4279be9df7d6359bfdb37d90ed0178023725a16567746af209810a09a7", func := "withy/withylaw06.PlanMemories", spec := "planMemories", apart := false, narrowed := true }
def PlanMemoriesUptoSaid : Prop := planMemoriesUptoRow.holds Try.pinned (OpenSpec.upto planMemoriesSpec)

end Rows
end Go.Proofs.Ytnphakngfkmpiaa
