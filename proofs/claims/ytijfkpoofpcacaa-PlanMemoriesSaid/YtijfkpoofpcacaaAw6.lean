/-
  The document's example of layer 6 (plan), by the printed functions; no condition.
-/
import Derived.Test.YtijfkpoofpcacaaPPlanMemoriesx3
import Derived.Test.YtijfkpoofpcacaaCore
namespace Go.Proofs.Ytijfkpoofpcacaa.Aw6
open Go.RowKit Go.Proofs.Ytijfkpoofpcacaa.PPlanMemories Go.Proofs.YtijfkpoofpcacaaW.PrintWords Go.Proofs.YtijfkpoofpcacaaW.PrintLast Go.Proofs.Ytijfkpoofpcacaa.Core
theorem p_awake6 (k : Nat) (hk : 3 ≤ k) : withylaw06_awake.f k = some true := at_rounds withylaw06_awake.mono hk (by decide +kernel : withylaw06_awake.f 3 = some true)
theorem awake_c (w : World) : Calls Try.prog 22 #[] w fun e w' => e = .returned (.bool true) ∧ Below w.heap.size w w' := withylaw06_awake.calls 3 true w (p_awake6 3 (by decide))
end Go.Proofs.Ytijfkpoofpcacaa.Aw6
