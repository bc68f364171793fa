/-
  No cell of these rows narrows 'for every input' (looked for: loops, veiled, ifaces, maps, wideKeys, modest, calm, conditions, laid).
  DERIVED. THE GIVEN ROWS OF THIS SEAT. 17 by the template 'for every input the law returns true; each argument reads behind the call as it read before'; 0 by the template 'total and deterministic' (their statements: YtijfkpoofpcacaaTotals.lean).
  GIVEN WITH THE SEED: the statements are not yours to turn. If you find one false, say at which input.
  Laid BY PROGRAM, IN A SANDBOX (cutbox-rows.mjs): the forced cells as the released guide's own fill.sh prints them over the translation b2221dcad1b14a4e… (all of the seat's roots in one cut). By AI agents, Wed Nov 11 2026. No macro, syntax, notation, axiom, sorry.
-/
import Derived.Test.YtijfkpoofpcacaaChecked
import GoSem.Claim
import GoSem.ClaimJoined
import GoSem.ClaimMapViews
import Derived.JoinedTies
import Derived.KernelRfl
namespace Go.Proofs.Ytijfkpoofpcacaa
/- THE CELL 'sum', in the pinned program and in every row, IS THE sha256 OF THE DUMP (.gsa) THAT YtijfkpoofpcacaaProg.lean LOADS. Nothing in Lean hashes anything: it is a label: what it is worth is what the hold of that sum in a sandbox is worth. -/
noncomputable def Try.pinned : Pinned := { name := "ytijfkpoofpcacaa", sum := "b2221dcad1b14a4e629d5f9c8153c44860177fa8026ce8c04c0870386cffdb91", checked := Try.checked }
namespace Rows
def none {H : Type} : Left H := { results := [], args := [] }

/-- 'withylaw06.PlanMemories': WHATEVER THE INPUT: true; the input reads as it did. -/
def planMemoriesSpec : ChangeSpec := { name := "planMemories", fn := fun _ => fun
  | [d] => { results := [.lit (.bool true)], args := [d] }
  | _ => none }
def planMemoriesRow : OpenClaim := { program := "ytijfkpoofpcacaa", sum := "b2221dcad1b14a4e629d5f9c8153c44860177fa8026ce8c04c0870386cffdb91", func := "withy/withylaw06.PlanMemories", spec := "planMemories", apart := false }
def PlanMemoriesSaid : Prop := planMemoriesRow.holds Try.pinned (OpenSpec.ofChange planMemoriesSpec)

/-- ITS FALSE NEIGHBOUR: 'it returns false'. Refute it at one input. -/
def planMemoriesWrong : ChangeSpec := { name := "planMemories", fn := fun _ => fun
  | [d] => { results := [.lit (.bool false)], args := [d] }
  | _ => none }
def PlanMemoriesWrongFalsely : Prop := planMemoriesRow.holds Try.pinned (OpenSpec.ofChange planMemoriesWrong)

/-- 'withylaw07.StackLists': WHATEVER THE INPUT: true; the input reads as it did. -/
def stackListsSpec : ChangeSpec := { name := "stackLists", fn := fun _ => fun
  | [d1, d2, d3] => { results := [.lit (.bool true)], args := [d1, d2, d3] }
  | _ => none }
def stackListsRow : OpenClaim := { program := "ytijfkpoofpcacaa", sum := "b2221dcad1b14a4e629d5f9c8153c44860177fa8026ce8c04c0870386cffdb91", func := "withy/withylaw07.StackLists", spec := "stackLists", apart := false }
def StackListsSaid : Prop := stackListsRow.holds Try.pinned (OpenSpec.ofChange stackListsSpec)

/-- ITS FALSE NEIGHBOUR: 'it returns false'. Refute it at one input. -/
def stackListsWrong : ChangeSpec := { name := "stackLists", fn := fun _ => fun
  | [d1, d2, d3] => { results := [.lit (.bool false)], args := [d1, d2, d3] }
  | _ => none }
def StackListsWrongFalsely : Prop := stackListsRow.holds Try.pinned (OpenSpec.ofChange stackListsWrong)

/-- 'withylaw08.EpochMoves': WHATEVER THE INPUT: true; the input reads as it did. -/
def epochMovesSpec : ChangeSpec := { name := "epochMoves", fn := fun _ => fun
  | [d1, d2] => { results := [.lit (.bool true)], args := [d1, d2] }
  | _ => none }
def epochMovesRow : OpenClaim := { program := "ytijfkpoofpcacaa", sum := "b2221dcad1b14a4e629d5f9c8153c44860177fa8026ce8c04c0870386cffdb91", func := "withy/withylaw08.EpochMoves", spec := "epochMoves", apart := false }
def EpochMovesSaid : Prop := epochMovesRow.holds Try.pinned (OpenSpec.ofChange epochMovesSpec)

/-- ITS FALSE NEIGHBOUR: 'it returns false'. Refute it at one input. -/
def epochMovesWrong : ChangeSpec := { name := "epochMoves", fn := fun _ => fun
  | [d1, d2] => { results := [.lit (.bool false)], args := [d1, d2] }
  | _ => none }
def EpochMovesWrongFalsely : Prop := epochMovesRow.holds Try.pinned (OpenSpec.ofChange epochMovesWrong)

/-- 'withylaw08.EpochNone': WHATEVER THE INPUT: true; the input reads as it did. -/
def epochNoneSpec : ChangeSpec := { name := "epochNone", fn := fun _ => fun
  | [d1, d2] => { results := [.lit (.bool true)], args := [d1, d2] }
  | _ => none }
def epochNoneRow : OpenClaim := { program := "ytijfkpoofpcacaa", sum := "b2221dcad1b14a4e629d5f9c8153c44860177fa8026ce8c04c0870386cffdb91", func := "withy/withylaw08.EpochNone", spec := "epochNone", apart := false }
def EpochNoneSaid : Prop := epochNoneRow.holds Try.pinned (OpenSpec.ofChange epochNoneSpec)

/-- ITS FALSE NEIGHBOUR: 'it returns false'. Refute it at one input. -/
def epochNoneWrong : ChangeSpec := { name := "epochNone", fn := fun _ => fun
  | [d1, d2] => { results := [.lit (.bool false)], args := [d1, d2] }
  | _ => none }
def EpochNoneWrongFalsely : Prop := epochNoneRow.holds Try.pinned (OpenSpec.ofChange epochNoneWrong)

/-- 'withylaw08.EpochAlone': WHATEVER THE INPUT: true; the input reads as it did. -/
def epochAloneSpec : ChangeSpec := { name := "epochAlone", fn := fun _ => fun
  | [d1, d2, d3] => { results := [.lit (.bool true)], args := [d1, d2, d3] }
  | _ => none }
def epochAloneRow : OpenClaim := { program := "ytijfkpoofpcacaa", sum := "b2221dcad1b14a4e629d5f9c8153c44860177fa8026ce8c04c0870386cffdb91", func := "withy/withylaw08.EpochAlone", spec := "epochAlone", apart := false }
def EpochAloneSaid : Prop := epochAloneRow.holds Try.pinned (OpenSpec.ofChange epochAloneSpec)

/-- ITS FALSE NEIGHBOUR: 'it returns false'. Refute it at one input. -/
def epochAloneWrong : ChangeSpec := { name := "epochAlone", fn := fun _ => fun
  | [d1, d2, d3] => { results := [.lit (.bool false)], args := [d1, d2, d3] }
  | _ => none }
def EpochAloneWrongFalsely : Prop := epochAloneRow.holds Try.pinned (OpenSpec.ofChange epochAloneWrong)

/-- 'withylaw08.EpochDone': WHATEVER THE INPUT: true; the input reads as it did. -/
def epochDoneSpec : ChangeSpec := { name := "epochDone", fn := fun _ => fun
  | [d1, d2] => { results := [.lit (.bool true)], args := [d1, d2] }
  | _ => none }
def epochDoneRow : OpenClaim := { program := "ytijfkpoofpcacaa", sum := "b2221dcad1b14a4e629d5f9c8153c44860177fa8026ce8c04c0870386cffdb91", func := "withy/withylaw08.EpochDone", spec := "epochDone", apart := false }
def EpochDoneSaid : Prop := epochDoneRow.holds Try.pinned (OpenSpec.ofChange epochDoneSpec)

/-- ITS FALSE NEIGHBOUR: 'it returns false'. Refute it at one input. -/
def epochDoneWrong : ChangeSpec := { name := "epochDone", fn := fun _ => fun
  | [d1, d2] => { results := [.lit (.bool false)], args := [d1, d2] }
  | _ => none }
def EpochDoneWrongFalsely : Prop := epochDoneRow.holds Try.pinned (OpenSpec.ofChange epochDoneWrong)

/-- 'withylaw08.EpochPlays': WHATEVER THE INPUT: true; the input reads as it did. -/
def epochPlaysSpec : ChangeSpec := { name := "epochPlays", fn := fun _ => fun
  | [d1, d2, d3] => { results := [.lit (.bool true)], args := [d1, d2, d3] }
  | _ => none }
def epochPlaysRow : OpenClaim := { program := "ytijfkpoofpcacaa", sum := "b2221dcad1b14a4e629d5f9c8153c44860177fa8026ce8c04c0870386cffdb91", func := "withy/withylaw08.EpochPlays", spec := "epochPlays", apart := false }
def EpochPlaysSaid : Prop := epochPlaysRow.holds Try.pinned (OpenSpec.ofChange epochPlaysSpec)

/-- ITS FALSE NEIGHBOUR: 'it returns false'. Refute it at one input. -/
def epochPlaysWrong : ChangeSpec := { name := "epochPlays", fn := fun _ => fun
  | [d1, d2, d3] => { results := [.lit (.bool false)], args := [d1, d2, d3] }
  | _ => none }
def EpochPlaysWrongFalsely : Prop := epochPlaysRow.holds Try.pinned (OpenSpec.ofChange epochPlaysWrong)

/-- 'withylaw07.StackOld': WHATEVER THE INPUT: true; the input reads as it did. -/
def stackOldSpec : ChangeSpec := { name := "stackOld", fn := fun _ => fun
  | [d1, d2] => { results := [.lit (.bool true)], args := [d1, d2] }
  | _ => none }
def stackOldRow : OpenClaim := { program := "ytijfkpoofpcacaa", sum := "b2221dcad1b14a4e629d5f9c8153c44860177fa8026ce8c04c0870386cffdb91", func := "withy/withylaw07.StackOld", spec := "stackOld", apart := false }
def StackOldSaid : Prop := stackOldRow.holds Try.pinned (OpenSpec.ofChange stackOldSpec)

/-- ITS FALSE NEIGHBOUR: 'it returns false'. Refute it at one input. -/
def stackOldWrong : ChangeSpec := { name := "stackOld", fn := fun _ => fun
  | [d1, d2] => { results := [.lit (.bool false)], args := [d1, d2] }
  | _ => none }
def StackOldWrongFalsely : Prop := stackOldRow.holds Try.pinned (OpenSpec.ofChange stackOldWrong)

/-- 'withylaw07.StackNone': WHATEVER THE INPUT: true; the input reads as it did. -/
def stackNoneSpec : ChangeSpec := { name := "stackNone", fn := fun _ => fun
  | [d1, d2] => { results := [.lit (.bool true)], args := [d1, d2] }
  | _ => none }
def stackNoneRow : OpenClaim := { program := "ytijfkpoofpcacaa", sum := "b2221dcad1b14a4e629d5f9c8153c44860177fa8026ce8c04c0870386cffdb91", func := "withy/withylaw07.StackNone", spec := "stackNone", apart := false }
def StackNoneSaid : Prop := stackNoneRow.holds Try.pinned (OpenSpec.ofChange stackNoneSpec)

/-- ITS FALSE NEIGHBOUR: 'it returns false'. Refute it at one input. -/
def stackNoneWrong : ChangeSpec := { name := "stackNone", fn := fun _ => fun
  | [d1, d2] => { results := [.lit (.bool false)], args := [d1, d2] }
  | _ => none }
def StackNoneWrongFalsely : Prop := stackNoneRow.holds Try.pinned (OpenSpec.ofChange stackNoneWrong)

/-- 'withylaw07.StackTags': WHATEVER THE INPUT: true; the input reads as it did. -/
def stackTagsSpec : ChangeSpec := { name := "stackTags", fn := fun _ => fun
  | [d1, d2] => { results := [.lit (.bool true)], args := [d1, d2] }
  | _ => none }
def stackTagsRow : OpenClaim := { program := "ytijfkpoofpcacaa", sum := "b2221dcad1b14a4e629d5f9c8153c44860177fa8026ce8c04c0870386cffdb91", func := "withy/withylaw07.StackTags", spec := "stackTags", apart := false }
def StackTagsSaid : Prop := stackTagsRow.holds Try.pinned (OpenSpec.ofChange stackTagsSpec)

/-- ITS FALSE NEIGHBOUR: 'it returns false'. Refute it at one input. -/
def stackTagsWrong : ChangeSpec := { name := "stackTags", fn := fun _ => fun
  | [d1, d2] => { results := [.lit (.bool false)], args := [d1, d2] }
  | _ => none }
def StackTagsWrongFalsely : Prop := stackTagsRow.holds Try.pinned (OpenSpec.ofChange stackTagsWrong)

/-- 'withylaw07.StackPlays': WHATEVER THE INPUT: true; the input reads as it did. -/
def stackPlaysSpec : ChangeSpec := { name := "stackPlays", fn := fun _ => fun
  | [d1, d2, d3] => { results := [.lit (.bool true)], args := [d1, d2, d3] }
  | _ => none }
def stackPlaysRow : OpenClaim := { program := "ytijfkpoofpcacaa", sum := "b2221dcad1b14a4e629d5f9c8153c44860177fa8026ce8c04c0870386cffdb91", func := "withy/withylaw07.StackPlays", spec := "stackPlays", apart := false }
def StackPlaysSaid : Prop := stackPlaysRow.holds Try.pinned (OpenSpec.ofChange stackPlaysSpec)

/-- ITS FALSE NEIGHBOUR: 'it returns false'. Refute it at one input. -/
def stackPlaysWrong : ChangeSpec := { name := "stackPlays", fn := fun _ => fun
  | [d1, d2, d3] => { results := [.lit (.bool false)], args := [d1, d2, d3] }
  | _ => none }
def StackPlaysWrongFalsely : Prop := stackPlaysRow.holds Try.pinned (OpenSpec.ofChange stackPlaysWrong)

/-- 'withylaw07.StackAlone': WHATEVER THE INPUT: true; the input reads as it did. -/
def stackAloneSpec : ChangeSpec := { name := "stackAlone", fn := fun _ => fun
  | [d] => { results := [.lit (.bool true)], args := [d] }
  | _ => none }
def stackAloneRow : OpenClaim := { program := "ytijfkpoofpcacaa", sum := "b2221dcad1b14a4e629d5f9c8153c44860177fa8026ce8c04c0870386cffdb91", func := "withy/withylaw07.StackAlone", spec := "stackAlone", apart := false }
def StackAloneSaid : Prop := stackAloneRow.holds Try.pinned (OpenSpec.ofChange stackAloneSpec)

/-- ITS FALSE NEIGHBOUR: 'it returns false'. Refute it at one input. -/
def stackAloneWrong : ChangeSpec := { name := "stackAlone", fn := fun _ => fun
  | [d] => { results := [.lit (.bool false)], args := [d] }
  | _ => none }
def StackAloneWrongFalsely : Prop := stackAloneRow.holds Try.pinned (OpenSpec.ofChange stackAloneWrong)

/-- 'withylaw12.ArenaAlone': WHATEVER THE INPUT: true; the input reads as it did. -/
def arenaAloneSpec : ChangeSpec := { name := "arenaAlone", fn := fun _ => fun
  | [d1, d2, d3] => { results := [.lit (.bool true)], args := [d1, d2, d3] }
  | _ => none }
def arenaAloneRow : OpenClaim := { program := "ytijfkpoofpcacaa", sum := "b2221dcad1b14a4e629d5f9c8153c44860177fa8026ce8c04c0870386cffdb91", func := "withy/withylaw12.ArenaAlone", spec := "arenaAlone", apart := false }
def ArenaAloneSaid : Prop := arenaAloneRow.holds Try.pinned (OpenSpec.ofChange arenaAloneSpec)

/-- ITS FALSE NEIGHBOUR: 'it returns false'. Refute it at one input. -/
def arenaAloneWrong : ChangeSpec := { name := "arenaAlone", fn := fun _ => fun
  | [d1, d2, d3] => { results := [.lit (.bool false)], args := [d1, d2, d3] }
  | _ => none }
def ArenaAloneWrongFalsely : Prop := arenaAloneRow.holds Try.pinned (OpenSpec.ofChange arenaAloneWrong)

/-- 'withylaw12.ArenaFrees': WHATEVER THE INPUT: true; the input reads as it did. -/
def arenaFreesSpec : ChangeSpec := { name := "arenaFrees", fn := fun _ => fun
  | [d1, d2] => { results := [.lit (.bool true)], args := [d1, d2] }
  | _ => none }
def arenaFreesRow : OpenClaim := { program := "ytijfkpoofpcacaa", sum := "b2221dcad1b14a4e629d5f9c8153c44860177fa8026ce8c04c0870386cffdb91", func := "withy/withylaw12.ArenaFrees", spec := "arenaFrees", apart := false }
def ArenaFreesSaid : Prop := arenaFreesRow.holds Try.pinned (OpenSpec.ofChange arenaFreesSpec)

/-- ITS FALSE NEIGHBOUR: 'it returns false'. Refute it at one input. -/
def arenaFreesWrong : ChangeSpec := { name := "arenaFrees", fn := fun _ => fun
  | [d1, d2] => { results := [.lit (.bool false)], args := [d1, d2] }
  | _ => none }
def ArenaFreesWrongFalsely : Prop := arenaFreesRow.holds Try.pinned (OpenSpec.ofChange arenaFreesWrong)

/-- 'withylaw12.ArenaNone': WHATEVER THE INPUT: true; the input reads as it did. -/
def arenaNoneSpec : ChangeSpec := { name := "arenaNone", fn := fun _ => fun
  | [d1, d2, d3, d4, d5] => { results := [.lit (.bool true)], args := [d1, d2, d3, d4, d5] }
  | _ => none }
def arenaNoneRow : OpenClaim := { program := "ytijfkpoofpcacaa", sum := "b2221dcad1b14a4e629d5f9c8153c44860177fa8026ce8c04c0870386cffdb91", func := "withy/withylaw12.ArenaNone", spec := "arenaNone", apart := false }
def ArenaNoneSaid : Prop := arenaNoneRow.holds Try.pinned (OpenSpec.ofChange arenaNoneSpec)

/-- ITS FALSE NEIGHBOUR: 'it returns false'. Refute it at one input. -/
def arenaNoneWrong : ChangeSpec := { name := "arenaNone", fn := fun _ => fun
  | [d1, d2, d3, d4, d5] => { results := [.lit (.bool false)], args := [d1, d2, d3, d4, d5] }
  | _ => none }
def ArenaNoneWrongFalsely : Prop := arenaNoneRow.holds Try.pinned (OpenSpec.ofChange arenaNoneWrong)

/-- 'withylaw12.ArenaPlays': WHATEVER THE INPUT: true; the input reads as it did. -/
def arenaPlaysSpec : ChangeSpec := { name := "arenaPlays", fn := fun _ => fun
  | [d1, d2, d3] => { results := [.lit (.bool true)], args := [d1, d2, d3] }
  | _ => none }
def arenaPlaysRow : OpenClaim := { program := "ytijfkpoofpcacaa", sum := "b2221dcad1b14a4e629d5f9c8153c44860177fa8026ce8c04c0870386cffdb91", func := "withy/withylaw12.ArenaPlays", spec := "arenaPlays", apart := false }
def ArenaPlaysSaid : Prop := arenaPlaysRow.holds Try.pinned (OpenSpec.ofChange arenaPlaysSpec)

/-- ITS FALSE NEIGHBOUR: 'it returns false'. Refute it at one input. -/
def arenaPlaysWrong : ChangeSpec := { name := "arenaPlays", fn := fun _ => fun
  | [d1, d2, d3] => { results := [.lit (.bool false)], args := [d1, d2, d3] }
  | _ => none }
def ArenaPlaysWrongFalsely : Prop := arenaPlaysRow.holds Try.pinned (OpenSpec.ofChange arenaPlaysWrong)

/-- 'withylaw12.ArenaBodies': WHATEVER THE INPUT: true; the input reads as it did. -/
def arenaBodiesSpec : ChangeSpec := { name := "arenaBodies", fn := fun _ => fun
  | [d1, d2, d3, d4] => { results := [.lit (.bool true)], args := [d1, d2, d3, d4] }
  | _ => none }
def arenaBodiesRow : OpenClaim := { program := "ytijfkpoofpcacaa", sum := "b2221dcad1b14a4e629d5f9c8153c44860177fa8026ce8c04c0870386cffdb91", func := "withy/withylaw12.ArenaBodies", spec := "arenaBodies", apart := false }
def ArenaBodiesSaid : Prop := arenaBodiesRow.holds Try.pinned (OpenSpec.ofChange arenaBodiesSpec)

/-- ITS FALSE NEIGHBOUR: 'it returns false'. Refute it at one input. -/
def arenaBodiesWrong : ChangeSpec := { name := "arenaBodies", fn := fun _ => fun
  | [d1, d2, d3, d4] => { results := [.lit (.bool false)], args := [d1, d2, d3, d4] }
  | _ => none }
def ArenaBodiesWrongFalsely : Prop := arenaBodiesRow.holds Try.pinned (OpenSpec.ofChange arenaBodiesWrong)

/- THE SECOND FORM. 'bulk': how many values and letters a reading holds, each counted each time it is reached (what is shared counts as often as it is met; a slice's spare places count too). A statement '..UptoSaid' is the law's where the arguments, and the package variables that the reading takes, are together of bulk at most 1048576: NARROWER than '..Said'. Prove '..Said' where nothing that the law and all that it calls make is longer than what came in: it says more and counts as full. Else prove '..UptoSaid'. A law counts once. -/
mutual
def uptoBulk {H : Type} : DataW H → Nat
  | .lit (.string bytes) => bytes.length + 1
  | .lit _ => 1
  | .nil => 1
  | .ptr d => uptoBulk d + 1
  | .slice elems spare => uptoBulkAll elems + uptoBulkAll spare + 1
  | .agg parts => uptoBulkAll parts + 1
  | .iface _ d => uptoBulk d + 1
  | .map entries => uptoBulkEntries entries + 1
  | .held _ => 1
def uptoBulkAll {H : Type} : List (DataW H) → Nat
  | [] => 0
  | d :: r => uptoBulk d + uptoBulkAll r
def uptoBulkEntries {H : Type} : List (Lit × DataW H) → Nat
  | [] => 0
  | x :: r => uptoBulkEntry x + uptoBulkEntries r
def uptoBulkEntry {H : Type} : Lit × DataW H → Nat
  | (.string bytes, d) => bytes.length + uptoBulk d + 1
  | (_, d) => uptoBulk d + 1
 end
def uptoSmall : (H : Type) → List (DataW H) → Bool := fun _ ds => decide (uptoBulkAll ds ≤ 1048576)
def OpenSpec.upto (s : _root_.Go.ChangeSpec) : _root_.Go.OpenSpec := { _root_.Go.OpenSpec.ofChange s with cond := some uptoSmall }

/-- 'withylaw06.PlanMemories', WHERE WHAT IT READS IS OF BULK AT MOST 1048576: true; the input reads as it did. -/
def planMemoriesUptoRow : OpenClaim := { program := "ytijfkpoofpcacaa", sum := "b2221dcad1b14a4e629d5f9c8153c44860177fa8026ce8c04c0870386cffdb91", func := "withy/withylaw06.PlanMemories", spec := "planMemories", apart := false, narrowed := true }
def PlanMemoriesUptoSaid : Prop := planMemoriesUptoRow.holds Try.pinned (OpenSpec.upto planMemoriesSpec)

/-- 'withylaw07.StackLists', WHERE WHAT IT READS IS OF BULK AT MOST 1048576: true; the input reads as it did. -/
def stackListsUptoRow : OpenClaim := { program := "ytijfkpoofpcacaa", sum := "b2221dcad1b14a4e629d5f9c8153c44860177fa8026ce8c04c0870386cffdb91", func := "withy/withylaw07.StackLists", spec := "stackLists", apart := false, narrowed := true }
def StackListsUptoSaid : Prop := stackListsUptoRow.holds Try.pinned (OpenSpec.upto stackListsSpec)

/-- 'withylaw08.EpochMoves', WHERE WHAT IT READS IS OF BULK AT MOST 1048576: true; the input reads as it did. -/
def epochMovesUptoRow : OpenClaim := { program := "ytijfkpoofpcacaa", sum := "b2221dcad1b14a4e629d5f9c8153c44860177fa8026ce8c04c0870386cffdb91", func := "withy/withylaw08.EpochMoves", spec := "epochMoves", apart := false, narrowed := true }
def EpochMovesUptoSaid : Prop := epochMovesUptoRow.holds Try.pinned (OpenSpec.upto epochMovesSpec)

/-- 'withylaw08.EpochNone', WHERE WHAT IT READS IS OF BULK AT MOST 1048576: true; the input reads as it did. -/
def epochNoneUptoRow : OpenClaim := { program := "ytijfkpoofpcacaa", sum := "b2221dcad1b14a4e629d5f9c8153c44860177fa8026ce8c04c0870386cffdb91", func := "withy/withylaw08.EpochNone", spec := "epochNone", apart := false, narrowed := true }
def EpochNoneUptoSaid : Prop := epochNoneUptoRow.holds Try.pinned (OpenSpec.upto epochNoneSpec)

/-- 'withylaw08.EpochAlone', WHERE WHAT IT READS IS OF BULK AT MOST 1048576: true; the input reads as it did. -/
def epochAloneUptoRow : OpenClaim := { program := "ytijfkpoofpcacaa", sum := "b2221dcad1b14a4e629d5f9c8153c44860177fa8026ce8c04c0870386cffdb91", func := "withy/withylaw08.EpochAlone", spec := "epochAlone", apart := false, narrowed := true }
def EpochAloneUptoSaid : Prop := epochAloneUptoRow.holds Try.pinned (OpenSpec.upto epochAloneSpec)

/-- 'withylaw08.EpochDone', WHERE WHAT IT READS IS OF BULK AT MOST 1048576: true; the input reads as it did. -/
def epochDoneUptoRow : OpenClaim := { program := "ytijfkpoofpcacaa", sum := "b2221dcad1b14a4e629d5f9c8153c44860177fa8026ce8c04c0870386cffdb91", func := "withy/withylaw08.EpochDone", spec := "epochDone", apart := false, narrowed := true }
def EpochDoneUptoSaid : Prop := epochDoneUptoRow.holds Try.pinned (OpenSpec.upto epochDoneSpec)

/-- 'withylaw08.EpochPlays', WHERE WHAT IT READS IS OF BULK AT MOST 1048576: true; the input reads as it did. -/
def epochPlaysUptoRow : OpenClaim := { program := "ytijfkpoofpcacaa", sum := "b2221dcad1b14a4e629d5f9c8153c44860177fa8026ce8c04c0870386cffdb91", func := "withy/withylaw08.EpochPlays", spec := "epochPlays", apart := false, narrowed := true }
def EpochPlaysUptoSaid : Prop := epochPlaysUptoRow.holds Try.pinned (OpenSpec.upto epochPlaysSpec)

/-- 'withylaw07.StackOld', WHERE WHAT IT READS IS OF BULK AT MOST 1048576: true; the input reads as it did. -/
def stackOldUptoRow : OpenClaim := { program := "ytijfkpoofpcacaa", sum := "b2221dcad1b14a4e629d5f9c8153c44860177fa8026ce8c04c0870386cffdb91", func := "withy/withylaw07.StackOld", spec := "stackOld", apart := false, narrowed := true }
def StackOldUptoSaid : Prop := stackOldUptoRow.holds Try.pinned (OpenSpec.upto stackOldSpec)

/-- 'withylaw07.StackNone', WHERE WHAT IT READS IS OF BULK AT MOST 1048576: true; the input reads as it did. -/
def stackNoneUptoRow : OpenClaim := { program := "ytijfkpoofpcacaa", sum := "b2221dcad1b14a4e629d5f9c8153c44860177fa8026ce8c04c0870386cffdb91", func := "withy/withylaw07.StackNone", spec := "stackNone", apart := false, narrowed := true }
def StackNoneUptoSaid : Prop := stackNoneUptoRow.holds Try.pinned (OpenSpec.upto stackNoneSpec)

/-- 'withylaw07.StackTags', WHERE WHAT IT READS IS OF BULK AT MOST 1048576: true; the input reads as it did. -/
def stackTagsUptoRow : OpenClaim := { program := "ytijfkpoofpcacaa", sum := "b2221dcad1b14a4e629d5f9c8153c44860177fa8026ce8c04c0870386cffdb91", func := "withy/withylaw07.StackTags", spec := "stackTags", apart := false, narrowed := true }
def StackTagsUptoSaid : Prop := stackTagsUptoRow.holds Try.pinned (OpenSpec.upto stackTagsSpec)

/-- 'withylaw07.StackPlays', WHERE WHAT IT READS IS OF BULK AT MOST 1048576: true; the input reads as it did. -/
def stackPlaysUptoRow : OpenClaim := { program := "ytijfkpoofpcacaa", sum := "b2221dcad1b14a4e629d5f9c8153c44860177fa8026ce8c04c0870386cffdb91", func := "withy/withylaw07.StackPlays", spec := "stackPlays", apart := false, narrowed := true }
def StackPlaysUptoSaid : Prop := stackPlaysUptoRow.holds Try.pinned (OpenSpec.upto stackPlaysSpec)

/-- 'withylaw07.StackAlone', WHERE WHAT IT READS IS OF BULK AT MOST 1048576: true; the input reads as it did. -/
def stackAloneUptoRow : OpenClaim := { program := "ytijfkpoofpcacaa", sum := "b2221dcad1b14a4e629d5f9c8153c44860177fa8026ce8c04c0870386cffdb91", func := "withy/withylaw07.StackAlone", spec := "stackAlone", apart := false, narrowed := true }
def StackAloneUptoSaid : Prop := stackAloneUptoRow.holds Try.pinned (OpenSpec.upto stackAloneSpec)

/-- 'withylaw12.ArenaAlone', WHERE WHAT IT READS IS OF BULK AT MOST 1048576: true; the input reads as it did. -/
def arenaAloneUptoRow : OpenClaim := { program := "ytijfkpoofpcacaa", sum := "b2221dcad1b14a4e629d5f9c8153c44860177fa8026ce8c04c0870386cffdb91", func := "withy/withylaw12.ArenaAlone", spec := "arenaAlone", apart := false, narrowed := true }
def ArenaAloneUptoSaid : Prop := arenaAloneUptoRow.holds Try.pinned (OpenSpec.upto arenaAloneSpec)

/-- 'withylaw12.ArenaFrees', WHERE WHAT IT READS IS OF BULK AT MOST 1048576: true; the input reads as it did. -/
def arenaFreesUptoRow : OpenClaim := { program := "ytijfkpoofpcacaa", sum := "b2221dcad1b14a4e629d5f9c8153c44860177fa8026ce8c04c0870386cffdb91", func := "withy/withylaw12.ArenaFrees", spec := "arenaFrees", apart := false, narrowed := true }
def ArenaFreesUptoSaid : Prop := arenaFreesUptoRow.holds Try.pinned (OpenSpec.upto arenaFreesSpec)

/-- 'withylaw12.ArenaNone', WHERE WHAT IT READS IS OF BULK AT MOST 1048576: true; the input reads as it did. -/
def arenaNoneUptoRow : OpenClaim := { program := "ytijfkpoofpcacaa", sum := "b2221dcad1b14a4e629d5f9c8153c44860177fa8026ce8c04c0870386cffdb91", func := "withy/withylaw12.ArenaNone", spec := "arenaNone", apart := false, narrowed := true }
def ArenaNoneUptoSaid : Prop := arenaNoneUptoRow.holds Try.pinned (OpenSpec.upto arenaNoneSpec)

/-- 'withylaw12.ArenaPlays', WHERE WHAT IT READS IS OF BULK AT MOST 1048576: true; the input reads as it did. -/
def arenaPlaysUptoRow : OpenClaim := { program := "ytijfkpoofpcacaa", sum := "b2221dcad1b14a4e629d5f9c8153c44860177fa8026ce8c04c0870386cffdb91", func := "withy/withylaw12.ArenaPlays", spec := "arenaPlays", apart := false, narrowed := true }
def ArenaPlaysUptoSaid : Prop := arenaPlaysUptoRow.holds Try.pinned (OpenSpec.upto arenaPlaysSpec)

/-- 'withylaw12.ArenaBodies', WHERE WHAT IT READS IS OF BULK AT MOST 1048576: true; the input reads as it did. -/
def arenaBodiesUptoRow : OpenClaim := { program := "ytijfkpoofpcacaa", sum := "b2221dcad1b14a4e629d5f9c8153c44860177fa8026ce8c04c0870386cffdb91", func := "withy/withylaw12.ArenaBodies", spec := "arenaBodies", apart := false, narrowed := true }
def ArenaBodiesUptoSaid : Prop := arenaBodiesUptoRow.holds Try.pinned (OpenSpec.upto arenaBodiesSpec)

end Rows
end Go.Proofs.Ytijfkpoofpcacaa
