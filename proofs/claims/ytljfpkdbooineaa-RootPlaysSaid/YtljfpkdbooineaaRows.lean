/-
  No cell of these rows narrows 'for every input' (looked for: loops, veiled, ifaces, maps, wideKeys, modest, calm, conditions, laid).
  DERIVED. THE GIVEN ROWS OF THIS SEAT. 10 by the template 'for every input the law returns true; each argument reads behind the call as it read before'; 0 by the template 'total and deterministic' (their statements: YtljfpkdbooineaaTotals.lean).
  GIVEN WITH THE SEED: the statements are not yours to turn. If you find one false, say at which input.
  Laid BY PROGRAM, IN A SANDBOX (cutbox-rows.mjs): the forced cells as the released guide's own fill.sh prints them over the translation 433b00bc75258811… (all of the seat's roots in one cut). By AI agents, Wed Nov 11 2026. No macro, syntax, notation, axiom, sorry.
-/
import Derived.Test.YtljfpkdbooineaaChecked
import GoSem.Claim
import GoSem.ClaimJoined
import GoSem.ClaimMapViews
import Derived.JoinedTies
import Derived.KernelRfl
namespace Go.Proofs.Ytljfpkdbooineaa
/- THE CELL 'sum', in the pinned program and in every row, IS THE sha256 OF THE DUMP (.gsa) THAT YtljfpkdbooineaaProg.lean LOADS. Nothing in Lean hashes anything: it is a label: what it is worth is what the hold of that sum in a sandbox is worth. -/
noncomputable def Try.pinned : Pinned := { name := "ytljfpkdbooineaa", sum := "433b00bc752588112da00fe0a2266d225c692ed383981f97acacd3a1d8ce286d", checked := Try.checked }
namespace Rows
def none {H : Type} : Left H := { results := [], args := [] }

/-- 'withylaw02.MemAdds': WHATEVER THE INPUT: true; the input reads as it did. -/
def memAddsSpec : ChangeSpec := { name := "memAdds", fn := fun _ => fun
  | [d] => { results := [.lit (.bool true)], args := [d] }
  | _ => none }
def memAddsRow : OpenClaim := { program := "ytljfpkdbooineaa", sum := "433b00bc752588112da00fe0a2266d225c692ed383981f97acacd3a1d8ce286d", func := "withy/withylaw02.MemAdds", spec := "memAdds", apart := false }
def MemAddsSaid : Prop := memAddsRow.holds Try.pinned (OpenSpec.ofChange memAddsSpec)

/-- ITS FALSE NEIGHBOUR: 'it returns false'. Refute it at one input. -/
def memAddsWrong : ChangeSpec := { name := "memAdds", fn := fun _ => fun
  | [d] => { results := [.lit (.bool false)], args := [d] }
  | _ => none }
def MemAddsWrongFalsely : Prop := memAddsRow.holds Try.pinned (OpenSpec.ofChange memAddsWrong)

/-- 'withylaw02.MemPlays': WHATEVER THE INPUT: true; the input reads as it did. -/
def memPlaysSpec : ChangeSpec := { name := "memPlays", fn := fun _ => fun
  | [d1, d2] => { results := [.lit (.bool true)], args := [d1, d2] }
  | _ => none }
def memPlaysRow : OpenClaim := { program := "ytljfpkdbooineaa", sum := "433b00bc752588112da00fe0a2266d225c692ed383981f97acacd3a1d8ce286d", func := "withy/withylaw02.MemPlays", spec := "memPlays", apart := false }
def MemPlaysSaid : Prop := memPlaysRow.holds Try.pinned (OpenSpec.ofChange memPlaysSpec)

/-- ITS FALSE NEIGHBOUR: 'it returns false'. Refute it at one input. -/
def memPlaysWrong : ChangeSpec := { name := "memPlays", fn := fun _ => fun
  | [d1, d2] => { results := [.lit (.bool false)], args := [d1, d2] }
  | _ => none }
def MemPlaysWrongFalsely : Prop := memPlaysRow.holds Try.pinned (OpenSpec.ofChange memPlaysWrong)

/-- 'withylaw02.MemCopies': WHATEVER THE INPUT: true; the input reads as it did. -/
def memCopiesSpec : ChangeSpec := { name := "memCopies", fn := fun _ => fun
  | [d1, d2, d3, d4] => { results := [.lit (.bool true)], args := [d1, d2, d3, d4] }
  | _ => none }
def memCopiesRow : OpenClaim := { program := "ytljfpkdbooineaa", sum := "433b00bc752588112da00fe0a2266d225c692ed383981f97acacd3a1d8ce286d", func := "withy/withylaw02.MemCopies", spec := "memCopies", apart := false }
def MemCopiesSaid : Prop := memCopiesRow.holds Try.pinned (OpenSpec.ofChange memCopiesSpec)

/-- ITS FALSE NEIGHBOUR: 'it returns false'. Refute it at one input. -/
def memCopiesWrong : ChangeSpec := { name := "memCopies", fn := fun _ => fun
  | [d1, d2, d3, d4] => { results := [.lit (.bool false)], args := [d1, d2, d3, d4] }
  | _ => none }
def MemCopiesWrongFalsely : Prop := memCopiesRow.holds Try.pinned (OpenSpec.ofChange memCopiesWrong)

/-- 'withylaw02.MemNone': WHATEVER THE INPUT: true; the input reads as it did. -/
def memNoneSpec : ChangeSpec := { name := "memNone", fn := fun _ => fun
  | [d] => { results := [.lit (.bool true)], args := [d] }
  | _ => none }
def memNoneRow : OpenClaim := { program := "ytljfpkdbooineaa", sum := "433b00bc752588112da00fe0a2266d225c692ed383981f97acacd3a1d8ce286d", func := "withy/withylaw02.MemNone", spec := "memNone", apart := false }
def MemNoneSaid : Prop := memNoneRow.holds Try.pinned (OpenSpec.ofChange memNoneSpec)

/-- ITS FALSE NEIGHBOUR: 'it returns false'. Refute it at one input. -/
def memNoneWrong : ChangeSpec := { name := "memNone", fn := fun _ => fun
  | [d] => { results := [.lit (.bool false)], args := [d] }
  | _ => none }
def MemNoneWrongFalsely : Prop := memNoneRow.holds Try.pinned (OpenSpec.ofChange memNoneWrong)

/-- 'withylaw02.MemOwn': WHATEVER THE INPUT: true; the input reads as it did. -/
def memOwnSpec : ChangeSpec := { name := "memOwn", fn := fun _ => fun
  | [d] => { results := [.lit (.bool true)], args := [d] }
  | _ => none }
def memOwnRow : OpenClaim := { program := "ytljfpkdbooineaa", sum := "433b00bc752588112da00fe0a2266d225c692ed383981f97acacd3a1d8ce286d", func := "withy/withylaw02.MemOwn", spec := "memOwn", apart := false }
def MemOwnSaid : Prop := memOwnRow.holds Try.pinned (OpenSpec.ofChange memOwnSpec)

/-- ITS FALSE NEIGHBOUR: 'it returns false'. Refute it at one input. -/
def memOwnWrong : ChangeSpec := { name := "memOwn", fn := fun _ => fun
  | [d] => { results := [.lit (.bool false)], args := [d] }
  | _ => none }
def MemOwnWrongFalsely : Prop := memOwnRow.holds Try.pinned (OpenSpec.ofChange memOwnWrong)

/-- 'withylaw11.RootFull': WHATEVER THE INPUT: true; the input reads as it did. -/
def rootFullSpec : ChangeSpec := { name := "rootFull", fn := fun _ => fun
  | [d1, d2] => { results := [.lit (.bool true)], args := [d1, d2] }
  | _ => none }
def rootFullRow : OpenClaim := { program := "ytljfpkdbooineaa", sum := "433b00bc752588112da00fe0a2266d225c692ed383981f97acacd3a1d8ce286d", func := "withy/withylaw11.RootFull", spec := "rootFull", apart := false }
def RootFullSaid : Prop := rootFullRow.holds Try.pinned (OpenSpec.ofChange rootFullSpec)

/-- ITS FALSE NEIGHBOUR: 'it returns false'. Refute it at one input. -/
def rootFullWrong : ChangeSpec := { name := "rootFull", fn := fun _ => fun
  | [d1, d2] => { results := [.lit (.bool false)], args := [d1, d2] }
  | _ => none }
def RootFullWrongFalsely : Prop := rootFullRow.holds Try.pinned (OpenSpec.ofChange rootFullWrong)

/-- 'withylaw11.RootPlays': WHATEVER THE INPUT: true; the input reads as it did. -/
def rootPlaysSpec : ChangeSpec := { name := "rootPlays", fn := fun _ => fun
  | [d1, d2, d3, d4] => { results := [.lit (.bool true)], args := [d1, d2, d3, d4] }
  | _ => none }
def rootPlaysRow : OpenClaim := { program := "ytljfpkdbooineaa", sum := "433b00bc752588112da00fe0a2266d225c692ed383981f97acacd3a1d8ce286d", func := "withy/withylaw11.RootPlays", spec := "rootPlays", apart := false }
def RootPlaysSaid : Prop := rootPlaysRow.holds Try.pinned (OpenSpec.ofChange rootPlaysSpec)

/-- ITS FALSE NEIGHBOUR: 'it returns false'. Refute it at one input. -/
def rootPlaysWrong : ChangeSpec := { name := "rootPlays", fn := fun _ => fun
  | [d1, d2, d3, d4] => { results := [.lit (.bool false)], args := [d1, d2, d3, d4] }
  | _ => none }
def RootPlaysWrongFalsely : Prop := rootPlaysRow.holds Try.pinned (OpenSpec.ofChange rootPlaysWrong)

/-- 'withylaw11.RootFresh': WHATEVER THE INPUT: true; the input reads as it did. -/
def rootFreshSpec : ChangeSpec := { name := "rootFresh", fn := fun _ => fun
  | [d1, d2] => { results := [.lit (.bool true)], args := [d1, d2] }
  | _ => none }
def rootFreshRow : OpenClaim := { program := "ytljfpkdbooineaa", sum := "433b00bc752588112da00fe0a2266d225c692ed383981f97acacd3a1d8ce286d", func := "withy/withylaw11.RootFresh", spec := "rootFresh", apart := false }
def RootFreshSaid : Prop := rootFreshRow.holds Try.pinned (OpenSpec.ofChange rootFreshSpec)

/-- ITS FALSE NEIGHBOUR: 'it returns false'. Refute it at one input. -/
def rootFreshWrong : ChangeSpec := { name := "rootFresh", fn := fun _ => fun
  | [d1, d2] => { results := [.lit (.bool false)], args := [d1, d2] }
  | _ => none }
def RootFreshWrongFalsely : Prop := rootFreshRow.holds Try.pinned (OpenSpec.ofChange rootFreshWrong)

/-- 'withylaw11.RootApart': WHATEVER THE INPUT: true; the input reads as it did. -/
def rootApartSpec : ChangeSpec := { name := "rootApart", fn := fun _ => fun
  | [d1, d2, d3] => { results := [.lit (.bool true)], args := [d1, d2, d3] }
  | _ => none }
def rootApartRow : OpenClaim := { program := "ytljfpkdbooineaa", sum := "433b00bc752588112da00fe0a2266d225c692ed383981f97acacd3a1d8ce286d", func := "withy/withylaw11.RootApart", spec := "rootApart", apart := false }
def RootApartSaid : Prop := rootApartRow.holds Try.pinned (OpenSpec.ofChange rootApartSpec)

/-- ITS FALSE NEIGHBOUR: 'it returns false'. Refute it at one input. -/
def rootApartWrong : ChangeSpec := { name := "rootApart", fn := fun _ => fun
  | [d1, d2, d3] => { results := [.lit (.bool false)], args := [d1, d2, d3] }
  | _ => none }
def RootApartWrongFalsely : Prop := rootApartRow.holds Try.pinned (OpenSpec.ofChange rootApartWrong)

/-- 'withylaw11.RootNone': WHATEVER THE INPUT: true; the input reads as it did. -/
def rootNoneSpec : ChangeSpec := { name := "rootNone", fn := fun _ => fun
  | [d1, d2] => { results := [.lit (.bool true)], args := [d1, d2] }
  | _ => none }
def rootNoneRow : OpenClaim := { program := "ytljfpkdbooineaa", sum := "433b00bc752588112da00fe0a2266d225c692ed383981f97acacd3a1d8ce286d", func := "withy/withylaw11.RootNone", spec := "rootNone", apart := false }
def RootNoneSaid : Prop := rootNoneRow.holds Try.pinned (OpenSpec.ofChange rootNoneSpec)

/-- ITS FALSE NEIGHBOUR: 'it returns false'. Refute it at one input. -/
def rootNoneWrong : ChangeSpec := { name := "rootNone", fn := fun _ => fun
  | [d1, d2] => { results := [.lit (.bool false)], args := [d1, d2] }
  | _ => none }
def RootNoneWrongFalsely : Prop := rootNoneRow.holds Try.pinned (OpenSpec.ofChange rootNoneWrong)

/- THE SECOND FORM. 'bulk': how many values and letters a reading holds, each counted each time it is reached (what is shared counts as often as it is met; a slice's spare places count too). A statement '..UptoSaid' is the law's where the arguments, and the package variables that the reading takes, are together of bulk at most 1048576: NARROWER than '..Said'. Prove '..Said' where nothing that the law and all that it calls make is longer than what came in: it says more and counts as full. Else prove '..UptoSaid'. A law counts once. -/
mutual
def uptoBulk {H : Type} : DataW H → Nat
  | .lit (.string bytes) => bytes.length + 1
  | .lit _ => 1
  | .nil => 1
  | .ptr d => uptoBulk d + 1
  | .slice elems spare => uptoBulkAll elems + uptoBulkAll spare + 1
  | .agg parts => uptoBulkAll parts + 1
  | .iface _ d => uptoBulk d + 1
  | .map entries => uptoBulkEntries entries + 1
  | .held _ => 1
def uptoBulkAll {H : Type} : List (DataW H) → Nat
  | [] => 0
  | d :: r => uptoBulk d + uptoBulkAll r
def uptoBulkEntries {H : Type} : List (Lit × DataW H) → Nat
  | [] => 0
  | x :: r => uptoBulkEntry x + uptoBulkEntries r
def uptoBulkEntry {H : Type} : Lit × DataW H → Nat
  | (.string bytes, d) => bytes.length + uptoBulk d + 1
  | (_, d) => uptoBulk d + 1
 end
def uptoSmall : (H : Type) → List (DataW H) → Bool := fun _ ds => decide (uptoBulkAll ds ≤ 1048576)
def OpenSpec.upto (s : _root_.Go.ChangeSpec) : _root_.Go.OpenSpec := { _root_.Go.OpenSpec.ofChange s with cond := some uptoSmall }

/-- 'withylaw02.MemAdds', WHERE WHAT IT READS IS OF BULK AT MOST 1048576: true; the input reads as it did. -/
def memAddsUptoRow : OpenClaim := { program := "ytljfpkdbooineaa", sum := "433b00bc752588112da00fe0a2266d225c692ed383981f97acacd3a1d8ce286d", func := "withy/withylaw02.MemAdds", spec := "memAdds", apart := false, narrowed := true }
def MemAddsUptoSaid : Prop := memAddsUptoRow.holds Try.pinned (OpenSpec.upto memAddsSpec)

/-- 'withylaw02.MemPlays', WHERE WHAT IT READS IS OF BULK AT MOST 1048576: true; the input reads as it did. -/
def memPlaysUptoRow : OpenClaim := { program := "ytljfpkdbooineaa", sum := "433b00bc752588112da00fe0a2266d225c692ed383981f97acacd3a1d8ce286d", func := "withy/withylaw02.MemPlays", spec := "memPlays", apart := false, narrowed := true }
def MemPlaysUptoSaid : Prop := memPlaysUptoRow.holds Try.pinned (OpenSpec.upto memPlaysSpec)

/-- 'withylaw02.MemCopies', WHERE WHAT IT READS IS OF BULK AT MOST 1048576: true; the input reads as it did. -/
def memCopiesUptoRow : OpenClaim := { program := "ytljfpkdbooineaa", sum := "433b00bc752588112da00fe0a2266d225c692ed383981f97acacd3a1d8ce286d", func := "withy/withylaw02.MemCopies", spec := "memCopies", apart := false, narrowed := true }
def MemCopiesUptoSaid : Prop := memCopiesUptoRow.holds Try.pinned (OpenSpec.upto memCopiesSpec)

/-- 'withylaw02.MemNone', WHERE WHAT IT READS IS OF BULK AT MOST 1048576: true; the input reads as it did. -/
def memNoneUptoRow : OpenClaim := { program := "ytljfpkdbooineaa", sum := "433b00bc752588112da00fe0a2266d225c692ed383981f97acacd3a1d8ce286d", func := "withy/withylaw02.MemNone", spec := "memNone", apart := false, narrowed := true }
def MemNoneUptoSaid : Prop := memNoneUptoRow.holds Try.pinned (OpenSpec.upto memNoneSpec)

/-- 'withylaw02.MemOwn', WHERE WHAT IT READS IS OF BULK AT MOST 1048576: true; the input reads as it did. -/
def memOwnUptoRow : OpenClaim := { program := "ytljfpkdbooineaa", sum := "433b00bc752588112da00fe0a2266d225c692ed383981f97acacd3a1d8ce286d", func := "withy/withylaw02.MemOwn", spec := "memOwn", apart := false, narrowed := true }
def MemOwnUptoSaid : Prop := memOwnUptoRow.holds Try.pinned (OpenSpec.upto memOwnSpec)

/-- 'withylaw11.RootFull', WHERE WHAT IT READS IS OF BULK AT MOST 1048576: true; the input reads as it did. -/
def rootFullUptoRow : OpenClaim := { program := "ytljfpkdbooineaa", sum := "433b00bc752588112da00fe0a2266d225c692ed383981f97acacd3a1d8ce286d", func := "withy/withylaw11.RootFull", spec := "rootFull", apart := false, narrowed := true }
def RootFullUptoSaid : Prop := rootFullUptoRow.holds Try.pinned (OpenSpec.upto rootFullSpec)

/-- 'withylaw11.RootPlays', WHERE WHAT IT READS IS OF BULK AT MOST 1048576: true; the input reads as it did. -/
def rootPlaysUptoRow : OpenClaim := { program := "ytljfpkdbooineaa", sum := "433b00bc752588112da00fe0a2266d225c692ed383981f97acacd3a1d8ce286d", func := "withy/withylaw11.RootPlays", spec := "rootPlays", apart := false, narrowed := true }
def RootPlaysUptoSaid : Prop := rootPlaysUptoRow.holds Try.pinned (OpenSpec.upto rootPlaysSpec)

/-- 'withylaw11.RootFresh', WHERE WHAT IT READS IS OF BULK AT MOST 1048576: true; the input reads as it did. -/
def rootFreshUptoRow : OpenClaim := { program := "ytljfpkdbooineaa", sum := "433b00bc752588112da00fe0a2266d225c692ed383981f97acacd3a1d8ce286d", func := "withy/withylaw11.RootFresh", spec := "rootFresh", apart := false, narrowed := true }
def RootFreshUptoSaid : Prop := rootFreshUptoRow.holds Try.pinned (OpenSpec.upto rootFreshSpec)

/-- 'withylaw11.RootApart', WHERE WHAT IT READS IS OF BULK AT MOST 1048576: true; the input reads as it did. -/
def rootApartUptoRow : OpenClaim := { program := "ytljfpkdbooineaa", sum := "433b00bc752588112da00fe0a2266d225c692ed383981f97acacd3a1d8ce286d", func := "withy/withylaw11.RootApart", spec := "rootApart", apart := false, narrowed := true }
def RootApartUptoSaid : Prop := rootApartUptoRow.holds Try.pinned (OpenSpec.upto rootApartSpec)

/-- 'withylaw11.RootNone', WHERE WHAT IT READS IS OF BULK AT MOST 1048576: true; the input reads as it did. -/
def rootNoneUptoRow : OpenClaim := { program := "ytljfpkdbooineaa", sum := "433b00bc752588112da00fe0a2266d225c692ed383981f97acacd3a1d8ce286d", func := "withy/withylaw11.RootNone", spec := "rootNone", apart := false, narrowed := true }
def RootNoneUptoSaid : Prop := rootNoneUptoRow.holds Try.pinned (OpenSpec.upto rootNoneSpec)

end Rows
end Go.Proofs.Ytljfpkdbooineaa
