/-
  No cell of these rows narrows 'for every input' (looked for: loops, veiled, ifaces, maps, wideKeys, modest, calm, conditions, laid).
  DERIVED. THE GIVEN ROWS OF THIS SEAT. 8 by the template 'for every input the law returns true; each argument reads behind the call as it read before'; 0 by the template 'total and deterministic' (their statements: YtiakpmagbnccmaaTotals.lean).
  GIVEN WITH THE SEED: the statements are not yours to turn. If you find one false, say at which input.
  Laid BY PROGRAM, IN A SANDBOX (cutbox-rows.mjs): the forced cells as the released guide's own fill.sh prints them over the translation ed27e798efc45a30… (all of the seat's roots in one cut). By AI agents, Wed Nov 11 2026. No macro, syntax, notation, axiom, sorry.
-/
import Derived.Test.YtiakpmagbnccmaaChecked
import GoSem.Claim
import GoSem.ClaimJoined
import GoSem.ClaimMapViews
import Derived.JoinedTies
import Derived.KernelRfl
namespace Go.Proofs.Ytiakpmagbnccmaa
/- THE CELL 'sum', in the pinned program and in every row, IS THE sha256 OF THE DUMP (.gsa) THAT YtiakpmagbnccmaaProg.lean LOADS. Nothing in Lean hashes anything: it is a label: what it is worth is what the hold of that sum in a sandbox is worth. -/
noncomputable def Try.pinned : Pinned := { name := "ytiakpmagbnccmaa", sum := "ed27e798efc45a30ce34bf31ae485735bd90292efd7d295aa5221bfdffa96434", checked := Try.checked }
namespace Rows
def none {H : Type} : Left H := { results := [], args := [] }

/-- 'withylaw03.TurnAts': WHATEVER THE INPUT: true; the input reads as it did. -/
def turnAtsSpec : ChangeSpec := { name := "turnAts", fn := fun _ => fun
  | [d] => { results := [.lit (.bool true)], args := [d] }
  | _ => none }
def turnAtsRow : OpenClaim := { program := "ytiakpmagbnccmaa", sum := "ed27e798efc45a30ce34bf31ae485735bd90292efd7d295aa5221bfdffa96434", func := "withy/withylaw03.TurnAts", spec := "turnAts", apart := false }
def TurnAtsSaid : Prop := turnAtsRow.holds Try.pinned (OpenSpec.ofChange turnAtsSpec)

/-- ITS FALSE NEIGHBOUR: 'it returns false'. Refute it at one input. -/
def turnAtsWrong : ChangeSpec := { name := "turnAts", fn := fun _ => fun
  | [d] => { results := [.lit (.bool false)], args := [d] }
  | _ => none }
def TurnAtsWrongFalsely : Prop := turnAtsRow.holds Try.pinned (OpenSpec.ofChange turnAtsWrong)

/-- 'withylaw03.TurnBetweens': WHATEVER THE INPUT: true; the input reads as it did. -/
def turnBetweensSpec : ChangeSpec := { name := "turnBetweens", fn := fun _ => fun
  | [d1, d2, d3, d4] => { results := [.lit (.bool true)], args := [d1, d2, d3, d4] }
  | _ => none }
def turnBetweensRow : OpenClaim := { program := "ytiakpmagbnccmaa", sum := "ed27e798efc45a30ce34bf31ae485735bd90292efd7d295aa5221bfdffa96434", func := "withy/withylaw03.TurnBetweens", spec := "turnBetweens", apart := false }
def TurnBetweensSaid : Prop := turnBetweensRow.holds Try.pinned (OpenSpec.ofChange turnBetweensSpec)

/-- ITS FALSE NEIGHBOUR: 'it returns false'. Refute it at one input. -/
def turnBetweensWrong : ChangeSpec := { name := "turnBetweens", fn := fun _ => fun
  | [d1, d2, d3, d4] => { results := [.lit (.bool false)], args := [d1, d2, d3, d4] }
  | _ => none }
def TurnBetweensWrongFalsely : Prop := turnBetweensRow.holds Try.pinned (OpenSpec.ofChange turnBetweensWrong)

/-- 'withylaw03.TurnBorn': WHATEVER THE INPUT: true; the input reads as it did. -/
def turnBornSpec : ChangeSpec := { name := "turnBorn", fn := fun _ => fun
  | [d] => { results := [.lit (.bool true)], args := [d] }
  | _ => none }
def turnBornRow : OpenClaim := { program := "ytiakpmagbnccmaa", sum := "ed27e798efc45a30ce34bf31ae485735bd90292efd7d295aa5221bfdffa96434", func := "withy/withylaw03.TurnBorn", spec := "turnBorn", apart := false }
def TurnBornSaid : Prop := turnBornRow.holds Try.pinned (OpenSpec.ofChange turnBornSpec)

/-- ITS FALSE NEIGHBOUR: 'it returns false'. Refute it at one input. -/
def turnBornWrong : ChangeSpec := { name := "turnBorn", fn := fun _ => fun
  | [d] => { results := [.lit (.bool false)], args := [d] }
  | _ => none }
def TurnBornWrongFalsely : Prop := turnBornRow.holds Try.pinned (OpenSpec.ofChange turnBornWrong)

/-- 'withylaw03.TurnWhite': WHATEVER THE INPUT: true; the input reads as it did. -/
def turnWhiteSpec : ChangeSpec := { name := "turnWhite", fn := fun _ => fun
  | [d] => { results := [.lit (.bool true)], args := [d] }
  | _ => none }
def turnWhiteRow : OpenClaim := { program := "ytiakpmagbnccmaa", sum := "ed27e798efc45a30ce34bf31ae485735bd90292efd7d295aa5221bfdffa96434", func := "withy/withylaw03.TurnWhite", spec := "turnWhite", apart := false }
def TurnWhiteSaid : Prop := turnWhiteRow.holds Try.pinned (OpenSpec.ofChange turnWhiteSpec)

/-- ITS FALSE NEIGHBOUR: 'it returns false'. Refute it at one input. -/
def turnWhiteWrong : ChangeSpec := { name := "turnWhite", fn := fun _ => fun
  | [d] => { results := [.lit (.bool false)], args := [d] }
  | _ => none }
def TurnWhiteWrongFalsely : Prop := turnWhiteRow.holds Try.pinned (OpenSpec.ofChange turnWhiteWrong)

/-- 'withylaw03.TurnProduct': WHATEVER THE INPUT: true; the input reads as it did. -/
def turnProductSpec : ChangeSpec := { name := "turnProduct", fn := fun _ => fun
  | [d1, d2] => { results := [.lit (.bool true)], args := [d1, d2] }
  | _ => none }
def turnProductRow : OpenClaim := { program := "ytiakpmagbnccmaa", sum := "ed27e798efc45a30ce34bf31ae485735bd90292efd7d295aa5221bfdffa96434", func := "withy/withylaw03.TurnProduct", spec := "turnProduct", apart := false }
def TurnProductSaid : Prop := turnProductRow.holds Try.pinned (OpenSpec.ofChange turnProductSpec)

/-- ITS FALSE NEIGHBOUR: 'it returns false'. Refute it at one input. -/
def turnProductWrong : ChangeSpec := { name := "turnProduct", fn := fun _ => fun
  | [d1, d2] => { results := [.lit (.bool false)], args := [d1, d2] }
  | _ => none }
def TurnProductWrongFalsely : Prop := turnProductRow.holds Try.pinned (OpenSpec.ofChange turnProductWrong)

/-- 'withylaw03.TurnSteps': WHATEVER THE INPUT: true; the input reads as it did. -/
def turnStepsSpec : ChangeSpec := { name := "turnSteps", fn := fun _ => fun
  | [d1, d2] => { results := [.lit (.bool true)], args := [d1, d2] }
  | _ => none }
def turnStepsRow : OpenClaim := { program := "ytiakpmagbnccmaa", sum := "ed27e798efc45a30ce34bf31ae485735bd90292efd7d295aa5221bfdffa96434", func := "withy/withylaw03.TurnSteps", spec := "turnSteps", apart := false }
def TurnStepsSaid : Prop := turnStepsRow.holds Try.pinned (OpenSpec.ofChange turnStepsSpec)

/-- ITS FALSE NEIGHBOUR: 'it returns false'. Refute it at one input. -/
def turnStepsWrong : ChangeSpec := { name := "turnSteps", fn := fun _ => fun
  | [d1, d2] => { results := [.lit (.bool false)], args := [d1, d2] }
  | _ => none }
def TurnStepsWrongFalsely : Prop := turnStepsRow.holds Try.pinned (OpenSpec.ofChange turnStepsWrong)

/-- 'withylaw03.TurnRound': WHATEVER THE INPUT: true; the input reads as it did. -/
def turnRoundSpec : ChangeSpec := { name := "turnRound", fn := fun _ => fun
  | [d1, d2, d3] => { results := [.lit (.bool true)], args := [d1, d2, d3] }
  | _ => none }
def turnRoundRow : OpenClaim := { program := "ytiakpmagbnccmaa", sum := "ed27e798efc45a30ce34bf31ae485735bd90292efd7d295aa5221bfdffa96434", func := "withy/withylaw03.TurnRound", spec := "turnRound", apart := false }
def TurnRoundSaid : Prop := turnRoundRow.holds Try.pinned (OpenSpec.ofChange turnRoundSpec)

/-- ITS FALSE NEIGHBOUR: 'it returns false'. Refute it at one input. -/
def turnRoundWrong : ChangeSpec := { name := "turnRound", fn := fun _ => fun
  | [d1, d2, d3] => { results := [.lit (.bool false)], args := [d1, d2, d3] }
  | _ => none }
def TurnRoundWrongFalsely : Prop := turnRoundRow.holds Try.pinned (OpenSpec.ofChange turnRoundWrong)

/-- 'withylaw03.TurnBarriers': WHATEVER THE INPUT: true; the input reads as it did. -/
def turnBarriersSpec : ChangeSpec := { name := "turnBarriers", fn := fun _ => fun
  | [d1, d2, d3] => { results := [.lit (.bool true)], args := [d1, d2, d3] }
  | _ => none }
def turnBarriersRow : OpenClaim := { program := "ytiakpmagbnccmaa", sum := "ed27e798efc45a30ce34bf31ae485735bd90292efd7d295aa5221bfdffa96434", func := "withy/withylaw03.TurnBarriers", spec := "turnBarriers", apart := false }
def TurnBarriersSaid : Prop := turnBarriersRow.holds Try.pinned (OpenSpec.ofChange turnBarriersSpec)

/-- ITS FALSE NEIGHBOUR: 'it returns false'. Refute it at one input. -/
def turnBarriersWrong : ChangeSpec := { name := "turnBarriers", fn := fun _ => fun
  | [d1, d2, d3] => { results := [.lit (.bool false)], args := [d1, d2, d3] }
  | _ => none }
def TurnBarriersWrongFalsely : Prop := turnBarriersRow.holds Try.pinned (OpenSpec.ofChange turnBarriersWrong)

/- THE SECOND FORM. 'bulk': how many values and letters a reading holds, each counted each time it is reached (what is shared counts as often as it is met; a slice's spare places count too). A statement '..UptoSaid' is the law's where the arguments, and the package variables that the reading takes, are together of bulk at most 1048576: NARROWER than '..Said'. Prove '..Said' where nothing that the law and all that it calls make is longer than what came in: it says more and counts as full. Else prove '..UptoSaid'. A law counts once. -/
mutual
def uptoBulk {H : Type} : DataW H → Nat
  | .lit (.string bytes) => bytes.length + 1
  | .lit _ => 1
  | .nil => 1
  | .ptr d => uptoBulk d + 1
  | .slice elems spare => uptoBulkAll elems + uptoBulkAll spare + 1
  | .agg parts => uptoBulkAll parts + 1
  | .iface _ d => uptoBulk d + 1
  | .map entries => uptoBulkEntries entries + 1
  | .held _ => 1
def uptoBulkAll {H : Type} : List (DataW H) → Nat
  | [] => 0
  | d :: r => uptoBulk d + uptoBulkAll r
def uptoBulkEntries {H : Type} : List (Lit × DataW H) → Nat
  | [] => 0
  | x :: r => uptoBulkEntry x + uptoBulkEntries r
def uptoBulkEntry {H : Type} : Lit × DataW H → Nat
  | (.string bytes, d) => bytes.length + uptoBulk d + 1
  | (_, d) => uptoBulk d + 1
 end
def uptoSmall : (H : Type) → List (DataW H) → Bool := fun _ ds => decide (uptoBulkAll ds ≤ 1048576)
def OpenSpec.upto (s : _root_.Go.ChangeSpec) : _root_.Go.OpenSpec := { _root_.Go.OpenSpec.ofChange s with cond := some uptoSmall }

/-- 'withylaw03.TurnAts', WHERE WHAT IT READS IS OF BULK AT MOST 1048576: true; the input reads as it did. -/
def turnAtsUptoRow : OpenClaim := { program := "ytiakpmagbnccmaa", sum := "ed27e798efc45a30ce34bf31ae485735bd90292efd7d295aa5221bfdffa96434", func := "withy/withylaw03.TurnAts", spec := "turnAts", apart := false, narrowed := true }
def TurnAtsUptoSaid : Prop := turnAtsUptoRow.holds Try.pinned (OpenSpec.upto turnAtsSpec)

/-- 'withylaw03.TurnBetweens', WHERE WHAT IT READS IS OF BULK AT MOST 1048576: true; the input reads as it did. -/
def turnBetweensUptoRow : OpenClaim := { program := "ytiakpmagbnccmaa", sum := "ed27e798efc45a30ce34bf31ae485735bd90292efd7d295aa5221bfdffa96434", func := "withy/withylaw03.TurnBetweens", spec := "turnBetweens", apart := false, narrowed := true }
def TurnBetweensUptoSaid : Prop := turnBetweensUptoRow.holds Try.pinned (OpenSpec.upto turnBetweensSpec)

/-- 'withylaw03.TurnBorn', WHERE WHAT IT READS IS OF BULK AT MOST 1048576: true; the input reads as it did. -/
def turnBornUptoRow : OpenClaim := { program := "ytiakpmagbnccmaa", sum := "ed27e798efc45a30ce34bf31ae485735bd90292efd7d295aa5221bfdffa96434", func := "withy/withylaw03.TurnBorn", spec := "turnBorn", apart := false, narrowed := true }
def TurnBornUptoSaid : Prop := turnBornUptoRow.holds Try.pinned (OpenSpec.upto turnBornSpec)

/-- 'withylaw03.TurnWhite', WHERE WHAT IT READS IS OF BULK AT MOST 1048576: true; the input reads as it did. -/
def turnWhiteUptoRow : OpenClaim := { program := "ytiakpmagbnccmaa", sum := "ed27e798efc45a30ce34bf31ae485735bd90292efd7d295aa5221bfdffa96434", func := "withy/withylaw03.TurnWhite", spec := "turnWhite", apart := false, narrowed := true }
def TurnWhiteUptoSaid : Prop := turnWhiteUptoRow.holds Try.pinned (OpenSpec.upto turnWhiteSpec)

/-- 'withylaw03.TurnProduct', WHERE WHAT IT READS IS OF BULK AT MOST 1048576: true; the input reads as it did. -/
def turnProductUptoRow : OpenClaim := { program := "ytiakpmagbnccmaa", sum := "ed27e798efc45a30ce34bf31ae485735bd90292efd7d295aa5221bfdffa96434", func := "withy/withylaw03.TurnProduct", spec := "turnProduct", apart := false, narrowed := true }
def TurnProductUptoSaid : Prop := turnProductUptoRow.holds Try.pinned (OpenSpec.upto turnProductSpec)

/-- 'withylaw03.TurnSteps', WHERE WHAT IT READS IS OF BULK AT MOST 1048576: true; the input reads as it did. -/
def turnStepsUptoRow : OpenClaim := { program := "ytiakpmagbnccmaa", sum := "ed27e798efc45a30ce34bf31ae485735bd90292efd7d295aa5221bfdffa96434", func := "withy/withylaw03.TurnSteps", spec := "turnSteps", apart := false, narrowed := true }
def TurnStepsUptoSaid : Prop := turnStepsUptoRow.holds Try.pinned (OpenSpec.upto turnStepsSpec)

/-- 'withylaw03.TurnRound', WHERE WHAT IT READS IS OF BULK AT MOST 1048576: true; the input reads as it did. -/
def turnRoundUptoRow : OpenClaim := { program := "ytiakpmagbnccmaa", sum := "ed27e798efc45a30ce34bf31ae485735bd90292efd7d295aa5221bfdffa96434", func := "withy/withylaw03.TurnRound", spec := "turnRound", apart := false, narrowed := true }
def TurnRoundUptoSaid : Prop := turnRoundUptoRow.holds Try.pinned (OpenSpec.upto turnRoundSpec)

/-- 'withylaw03.TurnBarriers', WHERE WHAT IT READS IS OF BULK AT MOST 1048576: true; the input reads as it did. -/
def turnBarriersUptoRow : OpenClaim := { program := "ytiakpmagbnccmaa", sum := "ed27e798efc45a30ce34bf31ae485735bd90292efd7d295aa5221bfdffa96434", func := "withy/withylaw03.TurnBarriers", spec := "turnBarriers", apart := false, narrowed := true }
def TurnBarriersUptoSaid : Prop := turnBarriersUptoRow.holds Try.pinned (OpenSpec.upto turnBarriersSpec)

end Rows
end Go.Proofs.Ytiakpmagbnccmaa
