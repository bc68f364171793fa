/-
  No cell of these rows narrows 'for every input' (looked for: loops, veiled, ifaces, maps, wideKeys, modest, calm, conditions, laid).
  DERIVED. THE GIVEN ROWS OF THIS SEAT. 12 by the template 'for every input the law returns true; each argument reads behind the call as it read before'; 0 by the template 'total and deterministic' (their statements: YtfbdkdhpmpeipaaTotals.lean).
  GIVEN WITH THE SEED: the statements are not yours to turn. If you find one false, say at which input.
  Laid BY PROGRAM, IN A SANDBOX (cutbox-rows.mjs): the forced cells as the released guide's own fill.sh prints them over the translation 58dcd2e4b0af84ad… (all of the seat's roots in one cut). By AI agents, Wed Nov 11 2026. No macro, syntax, notation, axiom, sorry.
-/
import Derived.Test.YtfbdkdhpmpeipaaChecked
import GoSem.Claim
import GoSem.ClaimJoined
import GoSem.ClaimMapViews
import Derived.JoinedTies
import Derived.KernelRfl
namespace Go.Proofs.Ytfbdkdhpmpeipaa
/- THE CELL 'sum', in the pinned program and in every row, IS THE sha256 OF THE DUMP (.gsa) THAT YtfbdkdhpmpeipaaProg.lean LOADS. Nothing in Lean hashes anything: it is a label: what it is worth is what the hold of that sum in a sandbox is worth. -/
noncomputable def Try.pinned : Pinned := { name := "ytfbdkdhpmpeipaa", sum := "58dcd2e4b0af84ad69431b4654e8c649bb469dc220fcbfedd3ec07549120f6e6", checked := Try.checked }
namespace Rows
def none {H : Type} : Left H := { results := [], args := [] }

/-- 'withylaw01.WordGets': WHATEVER THE INPUT: true; the input reads as it did. -/
def wordGetsSpec : ChangeSpec := { name := "wordGets", fn := fun _ => fun
  | [d1, d2, d3] => { results := [.lit (.bool true)], args := [d1, d2, d3] }
  | _ => none }
def wordGetsRow : OpenClaim := { program := "ytfbdkdhpmpeipaa", sum := "58dcd2e4b0af84ad69431b4654e8c649bb469dc220fcbfedd3ec07549120f6e6", func := "withy/withylaw01.WordGets", spec := "wordGets", apart := false }
def WordGetsSaid : Prop := wordGetsRow.holds Try.pinned (OpenSpec.ofChange wordGetsSpec)

/-- ITS FALSE NEIGHBOUR: 'it returns false'. Refute it at one input. -/
def wordGetsWrong : ChangeSpec := { name := "wordGets", fn := fun _ => fun
  | [d1, d2, d3] => { results := [.lit (.bool false)], args := [d1, d2, d3] }
  | _ => none }
def WordGetsWrongFalsely : Prop := wordGetsRow.holds Try.pinned (OpenSpec.ofChange wordGetsWrong)

/-- 'withylaw01.WordSets': WHATEVER THE INPUT: true; the input reads as it did. -/
def wordSetsSpec : ChangeSpec := { name := "wordSets", fn := fun _ => fun
  | [d1, d2, d3, d4] => { results := [.lit (.bool true)], args := [d1, d2, d3, d4] }
  | _ => none }
def wordSetsRow : OpenClaim := { program := "ytfbdkdhpmpeipaa", sum := "58dcd2e4b0af84ad69431b4654e8c649bb469dc220fcbfedd3ec07549120f6e6", func := "withy/withylaw01.WordSets", spec := "wordSets", apart := false }
def WordSetsSaid : Prop := wordSetsRow.holds Try.pinned (OpenSpec.ofChange wordSetsSpec)

/-- ITS FALSE NEIGHBOUR: 'it returns false'. Refute it at one input. -/
def wordSetsWrong : ChangeSpec := { name := "wordSets", fn := fun _ => fun
  | [d1, d2, d3, d4] => { results := [.lit (.bool false)], args := [d1, d2, d3, d4] }
  | _ => none }
def WordSetsWrongFalsely : Prop := wordSetsRow.holds Try.pinned (OpenSpec.ofChange wordSetsWrong)

/-- 'withylaw01.WordFits': WHATEVER THE INPUT: true; the input reads as it did. -/
def wordFitsSpec : ChangeSpec := { name := "wordFits", fn := fun _ => fun
  | [d1, d2] => { results := [.lit (.bool true)], args := [d1, d2] }
  | _ => none }
def wordFitsRow : OpenClaim := { program := "ytfbdkdhpmpeipaa", sum := "58dcd2e4b0af84ad69431b4654e8c649bb469dc220fcbfedd3ec07549120f6e6", func := "withy/withylaw01.WordFits", spec := "wordFits", apart := false }
def WordFitsSaid : Prop := wordFitsRow.holds Try.pinned (OpenSpec.ofChange wordFitsSpec)

/-- ITS FALSE NEIGHBOUR: 'it returns false'. Refute it at one input. -/
def wordFitsWrong : ChangeSpec := { name := "wordFits", fn := fun _ => fun
  | [d1, d2] => { results := [.lit (.bool false)], args := [d1, d2] }
  | _ => none }
def WordFitsWrongFalsely : Prop := wordFitsRow.holds Try.pinned (OpenSpec.ofChange wordFitsWrong)

/-- 'withylaw01.WordBack': WHATEVER THE INPUT: true; the input reads as it did. -/
def wordBackSpec : ChangeSpec := { name := "wordBack", fn := fun _ => fun
  | [d1, d2, d3, d4, d5] => { results := [.lit (.bool true)], args := [d1, d2, d3, d4, d5] }
  | _ => none }
def wordBackRow : OpenClaim := { program := "ytfbdkdhpmpeipaa", sum := "58dcd2e4b0af84ad69431b4654e8c649bb469dc220fcbfedd3ec07549120f6e6", func := "withy/withylaw01.WordBack", spec := "wordBack", apart := false }
def WordBackSaid : Prop := wordBackRow.holds Try.pinned (OpenSpec.ofChange wordBackSpec)

/-- ITS FALSE NEIGHBOUR: 'it returns false'. Refute it at one input. -/
def wordBackWrong : ChangeSpec := { name := "wordBack", fn := fun _ => fun
  | [d1, d2, d3, d4, d5] => { results := [.lit (.bool false)], args := [d1, d2, d3, d4, d5] }
  | _ => none }
def WordBackWrongFalsely : Prop := wordBackRow.holds Try.pinned (OpenSpec.ofChange wordBackWrong)

/-- 'withylaw01.WordPacks': WHATEVER THE INPUT: true; the input reads as it did. -/
def wordPacksSpec : ChangeSpec := { name := "wordPacks", fn := fun _ => fun
  | [d] => { results := [.lit (.bool true)], args := [d] }
  | _ => none }
def wordPacksRow : OpenClaim := { program := "ytfbdkdhpmpeipaa", sum := "58dcd2e4b0af84ad69431b4654e8c649bb469dc220fcbfedd3ec07549120f6e6", func := "withy/withylaw01.WordPacks", spec := "wordPacks", apart := false }
def WordPacksSaid : Prop := wordPacksRow.holds Try.pinned (OpenSpec.ofChange wordPacksSpec)

/-- ITS FALSE NEIGHBOUR: 'it returns false'. Refute it at one input. -/
def wordPacksWrong : ChangeSpec := { name := "wordPacks", fn := fun _ => fun
  | [d] => { results := [.lit (.bool false)], args := [d] }
  | _ => none }
def WordPacksWrongFalsely : Prop := wordPacksRow.holds Try.pinned (OpenSpec.ofChange wordPacksWrong)

/-- 'withylaw01.WordUnpacks': WHATEVER THE INPUT: true; the input reads as it did. -/
def wordUnpacksSpec : ChangeSpec := { name := "wordUnpacks", fn := fun _ => fun
  | [d1, d2] => { results := [.lit (.bool true)], args := [d1, d2] }
  | _ => none }
def wordUnpacksRow : OpenClaim := { program := "ytfbdkdhpmpeipaa", sum := "58dcd2e4b0af84ad69431b4654e8c649bb469dc220fcbfedd3ec07549120f6e6", func := "withy/withylaw01.WordUnpacks", spec := "wordUnpacks", apart := false }
def WordUnpacksSaid : Prop := wordUnpacksRow.holds Try.pinned (OpenSpec.ofChange wordUnpacksSpec)

/-- ITS FALSE NEIGHBOUR: 'it returns false'. Refute it at one input. -/
def wordUnpacksWrong : ChangeSpec := { name := "wordUnpacks", fn := fun _ => fun
  | [d1, d2] => { results := [.lit (.bool false)], args := [d1, d2] }
  | _ => none }
def WordUnpacksWrongFalsely : Prop := wordUnpacksRow.holds Try.pinned (OpenSpec.ofChange wordUnpacksWrong)

/-- 'withylaw05.TagTops': WHATEVER THE INPUT: true; the input reads as it did. -/
def tagTopsSpec : ChangeSpec := { name := "tagTops", fn := fun _ => fun
  | [d1, d2, d3] => { results := [.lit (.bool true)], args := [d1, d2, d3] }
  | _ => none }
def tagTopsRow : OpenClaim := { program := "ytfbdkdhpmpeipaa", sum := "58dcd2e4b0af84ad69431b4654e8c649bb469dc220fcbfedd3ec07549120f6e6", func := "withy/withylaw05.TagTops", spec := "tagTops", apart := false }
def TagTopsSaid : Prop := tagTopsRow.holds Try.pinned (OpenSpec.ofChange tagTopsSpec)

/-- ITS FALSE NEIGHBOUR: 'it returns false'. Refute it at one input. -/
def tagTopsWrong : ChangeSpec := { name := "tagTops", fn := fun _ => fun
  | [d1, d2, d3] => { results := [.lit (.bool false)], args := [d1, d2, d3] }
  | _ => none }
def TagTopsWrongFalsely : Prop := tagTopsRow.holds Try.pinned (OpenSpec.ofChange tagTopsWrong)

/-- 'withylaw05.TagMoves': WHATEVER THE INPUT: true; the input reads as it did. -/
def tagMovesSpec : ChangeSpec := { name := "tagMoves", fn := fun _ => fun
  | [d1, d2] => { results := [.lit (.bool true)], args := [d1, d2] }
  | _ => none }
def tagMovesRow : OpenClaim := { program := "ytfbdkdhpmpeipaa", sum := "58dcd2e4b0af84ad69431b4654e8c649bb469dc220fcbfedd3ec07549120f6e6", func := "withy/withylaw05.TagMoves", spec := "tagMoves", apart := false }
def TagMovesSaid : Prop := tagMovesRow.holds Try.pinned (OpenSpec.ofChange tagMovesSpec)

/-- ITS FALSE NEIGHBOUR: 'it returns false'. Refute it at one input. -/
def tagMovesWrong : ChangeSpec := { name := "tagMoves", fn := fun _ => fun
  | [d1, d2] => { results := [.lit (.bool false)], args := [d1, d2] }
  | _ => none }
def TagMovesWrongFalsely : Prop := tagMovesRow.holds Try.pinned (OpenSpec.ofChange tagMovesWrong)

/-- 'withylaw05.TagEntries': WHATEVER THE INPUT: true; the input reads as it did. -/
def tagEntriesSpec : ChangeSpec := { name := "tagEntries", fn := fun _ => fun
  | [d1, d2, d3] => { results := [.lit (.bool true)], args := [d1, d2, d3] }
  | _ => none }
def tagEntriesRow : OpenClaim := { program := "ytfbdkdhpmpeipaa", sum := "58dcd2e4b0af84ad69431b4654e8c649bb469dc220fcbfedd3ec07549120f6e6", func := "withy/withylaw05.TagEntries", spec := "tagEntries", apart := false }
def TagEntriesSaid : Prop := tagEntriesRow.holds Try.pinned (OpenSpec.ofChange tagEntriesSpec)

/-- ITS FALSE NEIGHBOUR: 'it returns false'. Refute it at one input. -/
def tagEntriesWrong : ChangeSpec := { name := "tagEntries", fn := fun _ => fun
  | [d1, d2, d3] => { results := [.lit (.bool false)], args := [d1, d2, d3] }
  | _ => none }
def TagEntriesWrongFalsely : Prop := tagEntriesRow.holds Try.pinned (OpenSpec.ofChange tagEntriesWrong)

/-- 'withylaw05.TagHandles': WHATEVER THE INPUT: true; the input reads as it did. -/
def tagHandlesSpec : ChangeSpec := { name := "tagHandles", fn := fun _ => fun
  | [d1, d2, d3] => { results := [.lit (.bool true)], args := [d1, d2, d3] }
  | _ => none }
def tagHandlesRow : OpenClaim := { program := "ytfbdkdhpmpeipaa", sum := "58dcd2e4b0af84ad69431b4654e8c649bb469dc220fcbfedd3ec07549120f6e6", func := "withy/withylaw05.TagHandles", spec := "tagHandles", apart := false }
def TagHandlesSaid : Prop := tagHandlesRow.holds Try.pinned (OpenSpec.ofChange tagHandlesSpec)

/-- ITS FALSE NEIGHBOUR: 'it returns false'. Refute it at one input. -/
def tagHandlesWrong : ChangeSpec := { name := "tagHandles", fn := fun _ => fun
  | [d1, d2, d3] => { results := [.lit (.bool false)], args := [d1, d2, d3] }
  | _ => none }
def TagHandlesWrongFalsely : Prop := tagHandlesRow.holds Try.pinned (OpenSpec.ofChange tagHandlesWrong)

/-- 'withylaw05.TagReads': WHATEVER THE INPUT: true; the input reads as it did. -/
def tagReadsSpec : ChangeSpec := { name := "tagReads", fn := fun _ => fun
  | [d] => { results := [.lit (.bool true)], args := [d] }
  | _ => none }
def tagReadsRow : OpenClaim := { program := "ytfbdkdhpmpeipaa", sum := "58dcd2e4b0af84ad69431b4654e8c649bb469dc220fcbfedd3ec07549120f6e6", func := "withy/withylaw05.TagReads", spec := "tagReads", apart := false }
def TagReadsSaid : Prop := tagReadsRow.holds Try.pinned (OpenSpec.ofChange tagReadsSpec)

/-- ITS FALSE NEIGHBOUR: 'it returns false'. Refute it at one input. -/
def tagReadsWrong : ChangeSpec := { name := "tagReads", fn := fun _ => fun
  | [d] => { results := [.lit (.bool false)], args := [d] }
  | _ => none }
def TagReadsWrongFalsely : Prop := tagReadsRow.holds Try.pinned (OpenSpec.ofChange tagReadsWrong)

/-- 'withylaw05.TagApart': WHATEVER THE INPUT: true; the input reads as it did. -/
def tagApartSpec : ChangeSpec := { name := "tagApart", fn := fun _ => fun
  | [d1, d2] => { results := [.lit (.bool true)], args := [d1, d2] }
  | _ => none }
def tagApartRow : OpenClaim := { program := "ytfbdkdhpmpeipaa", sum := "58dcd2e4b0af84ad69431b4654e8c649bb469dc220fcbfedd3ec07549120f6e6", func := "withy/withylaw05.TagApart", spec := "tagApart", apart := false }
def TagApartSaid : Prop := tagApartRow.holds Try.pinned (OpenSpec.ofChange tagApartSpec)

/-- ITS FALSE NEIGHBOUR: 'it returns false'. Refute it at one input. -/
def tagApartWrong : ChangeSpec := { name := "tagApart", fn := fun _ => fun
  | [d1, d2] => { results := [.lit (.bool false)], args := [d1, d2] }
  | _ => none }
def TagApartWrongFalsely : Prop := tagApartRow.holds Try.pinned (OpenSpec.ofChange tagApartWrong)

/- THE SECOND FORM. 'bulk': how many values and letters a reading holds, each counted each time it is reached (what is shared counts as often as it is met; a slice's spare places count too). A statement '..UptoSaid' is the law's where the arguments, and the package variables that the reading takes, are together of bulk at most 1048576: NARROWER than '..Said'. Prove '..Said' where nothing that the law and all that it calls make is longer than what came in: it says more and counts as full. Else prove '..UptoSaid'. A law counts once. -/
mutual
def uptoBulk {H : Type} : DataW H → Nat
  | .lit (.string bytes) => bytes.length + 1
  | .lit _ => 1
  | .nil => 1
  | .ptr d => uptoBulk d + 1
  | .slice elems spare => uptoBulkAll elems + uptoBulkAll spare + 1
  | .agg parts => uptoBulkAll parts + 1
  | .iface _ d => uptoBulk d + 1
  | .map entries => uptoBulkEntries entries + 1
  | .held _ => 1
def uptoBulkAll {H : Type} : List (DataW H) → Nat
  | [] => 0
  | d :: r => uptoBulk d + uptoBulkAll r
def uptoBulkEntries {H : Type} : List (Lit × DataW H) → Nat
  | [] => 0
  | x :: r => uptoBulkEntry x + uptoBulkEntries r
def uptoBulkEntry {H : Type} : Lit × DataW H → Nat
  | (.string bytes, d) => bytes.length + uptoBulk d + 1
  | (_, d) => uptoBulk d + 1
 end
def uptoSmall : (H : Type) → List (DataW H) → Bool := fun _ ds => decide (uptoBulkAll ds ≤ 1048576)
def OpenSpec.upto (s : _root_.Go.ChangeSpec) : _root_.Go.OpenSpec := { _root_.Go.OpenSpec.ofChange s with cond := some uptoSmall }

/-- 'withylaw01.WordGets', WHERE WHAT IT READS IS OF BULK AT MOST 1048576: true; the input reads as it did. -/
def wordGetsUptoRow : OpenClaim := { program := "ytfbdkdhpmpeipaa", sum := "58dcd2e4b0af84ad69431b4654e8c649bb469dc220fcbfedd3ec07549120f6e6", func := "withy/withylaw01.WordGets", spec := "wordGets", apart := false, narrowed := true }
def WordGetsUptoSaid : Prop := wordGetsUptoRow.holds Try.pinned (OpenSpec.upto wordGetsSpec)

/-- 'withylaw01.WordSets', WHERE WHAT IT READS IS OF BULK AT MOST 1048576: true; the input reads as it did. -/
def wordSetsUptoRow : OpenClaim := { program := "ytfbdkdhpmpeipaa", sum := "58dcd2e4b0af84ad69431b4654e8c649bb469dc220fcbfedd3ec07549120f6e6", func := "withy/withylaw01.WordSets", spec := "wordSets", apart := false, narrowed := true }
def WordSetsUptoSaid : Prop := wordSetsUptoRow.holds Try.pinned (OpenSpec.upto wordSetsSpec)

/-- 'withylaw01.WordFits', WHERE WHAT IT READS IS OF BULK AT MOST 1048576: true; the input reads as it did. -/
def wordFitsUptoRow : OpenClaim := { program := "ytfbdkdhpmpeipaa", sum := "58dcd2e4b0af84ad69431b4654e8c649bb469dc220fcbfedd3ec07549120f6e6", func := "withy/withylaw01.WordFits", spec := "wordFits", apart := false, narrowed := true }
def WordFitsUptoSaid : Prop := wordFitsUptoRow.holds Try.pinned (OpenSpec.upto wordFitsSpec)

/-- 'withylaw01.WordBack', WHERE WHAT IT READS IS OF BULK AT MOST 1048576: true; the input reads as it did. -/
def wordBackUptoRow : OpenClaim := { program := "ytfbdkdhpmpeipaa", sum := "58dcd2e4b0af84ad69431b4654e8c649bb469dc220fcbfedd3ec07549120f6e6", func := "withy/withylaw01.WordBack", spec := "wordBack", apart := false, narrowed := true }
def WordBackUptoSaid : Prop := wordBackUptoRow.holds Try.pinned (OpenSpec.upto wordBackSpec)

/-- 'withylaw01.WordPacks', WHERE WHAT IT READS IS OF BULK AT MOST 1048576: true; the input reads as it did. -/
def wordPacksUptoRow : OpenClaim := { program := "ytfbdkdhpmpeipaa", sum := "58dcd2e4b0af84ad69431b4654e8c649bb469dc220fcbfedd3ec07549120f6e6", func := "withy/withylaw01.WordPacks", spec := "wordPacks", apart := false, narrowed := true }
def WordPacksUptoSaid : Prop := wordPacksUptoRow.holds Try.pinned (OpenSpec.upto wordPacksSpec)

/-- 'withylaw01.WordUnpacks', WHERE WHAT IT READS IS OF BULK AT MOST 1048576: true; the input reads as it did. -/
def wordUnpacksUptoRow : OpenClaim := { program := "ytfbdkdhpmpeipaa", sum := "58dcd2e4b0af84ad69431b4654e8c649bb469dc220fcbfedd3ec07549120f6e6", func := "withy/withylaw01.WordUnpacks", spec := "wordUnpacks", apart := false, narrowed := true }
def WordUnpacksUptoSaid : Prop := wordUnpacksUptoRow.holds Try.pinned (OpenSpec.upto wordUnpacksSpec)

/-- 'withylaw05.TagTops', WHERE WHAT IT READS IS OF BULK AT MOST 1048576: true; the input reads as it did. -/
def tagTopsUptoRow : OpenClaim := { program := "ytfbdkdhpmpeipaa", sum := "58dcd2e4b0af84ad69431b4654e8c649bb469dc220fcbfedd3ec07549120f6e6", func := "withy/withylaw05.TagTops", spec := "tagTops", apart := false, narrowed := true }
def TagTopsUptoSaid : Prop := tagTopsUptoRow.holds Try.pinned (OpenSpec.upto tagTopsSpec)

/-- 'withylaw05.TagMoves', WHERE WHAT IT READS IS OF BULK AT MOST 1048576: true; the input reads as it did. -/
def tagMovesUptoRow : OpenClaim := { program := "ytfbdkdhpmpeipaa", sum := "58dcd2e4b0af84ad69431b4654e8c649bb469dc220fcbfedd3ec07549120f6e6", func := "withy/withylaw05.TagMoves", spec := "tagMoves", apart := false, narrowed := true }
def TagMovesUptoSaid : Prop := tagMovesUptoRow.holds Try.pinned (OpenSpec.upto tagMovesSpec)

/-- 'withylaw05.TagEntries', WHERE WHAT IT READS IS OF BULK AT MOST 1048576: true; the input reads as it did. -/
def tagEntriesUptoRow : OpenClaim := { program := "ytfbdkdhpmpeipaa", sum := "58dcd2e4b0af84ad69431b4654e8c649bb469dc220fcbfedd3ec07549120f6e6", func := "withy/withylaw05.TagEntries", spec := "tagEntries", apart := false, narrowed := true }
def TagEntriesUptoSaid : Prop := tagEntriesUptoRow.holds Try.pinned (OpenSpec.upto tagEntriesSpec)

/-- 'withylaw05.TagHandles', WHERE WHAT IT READS IS OF BULK AT MOST 1048576: true; the input reads as it did. -/
def tagHandlesUptoRow : OpenClaim := { program := "ytfbdkdhpmpeipaa", sum := "58dcd2e4b0af84ad69431b4654e8c649bb469dc220fcbfedd3ec07549120f6e6", func := "withy/withylaw05.TagHandles", spec := "tagHandles", apart := false, narrowed := true }
def TagHandlesUptoSaid : Prop := tagHandlesUptoRow.holds Try.pinned (OpenSpec.upto tagHandlesSpec)

/-- 'withylaw05.TagReads', WHERE WHAT IT READS IS OF BULK AT MOST 1048576: true; the input reads as it did. -/
def tagReadsUptoRow : OpenClaim := { program := "ytfbdkdhpmpeipaa", sum := "58dcd2e4b0af84ad69431b4654e8c649bb469dc220fcbfedd3ec07549120f6e6", func := "withy/withylaw05.TagReads", spec := "tagReads", apart := false, narrowed := true }
def TagReadsUptoSaid : Prop := tagReadsUptoRow.holds Try.pinned (OpenSpec.upto tagReadsSpec)

/-- 'withylaw05.TagApart', WHERE WHAT IT READS IS OF BULK AT MOST 1048576: true; the input reads as it did. -/
def tagApartUptoRow : OpenClaim := { program := "ytfbdkdhpmpeipaa", sum := "58dcd2e4b0af84ad69431b4654e8c649bb469dc220fcbfedd3ec07549120f6e6", func := "withy/withylaw05.TagApart", spec := "tagApart", apart := false, narrowed := true }
def TagApartUptoSaid : Prop := tagApartUptoRow.holds Try.pinned (OpenSpec.upto tagApartSpec)

end Rows
end Go.Proofs.Ytfbdkdhpmpeipaa
