/- The head of all statements of layer 1 answers true. -/
import Derived.Test.YtofnhgpiipmegaaDoorPVx16
namespace Go.Proofs.YtofnhgpiipmegaaDoor.PV
open Go.RowKit Go.Proofs.YtofnhgpiipmegaaDoorW.PrintWords Go.Proofs.YtofnhgpiipmegaaDoorW.PrintLast Go.Proofs.YtofnhgpiipmegaaDoorW.PrintMore
theorem awake_f : turnoutlaw01_awake.f 40 = some true := by decide +kernel
theorem awake_calls (w : World) (hG : GlobalsAt w) : Calls Tryd.prog 8 #[] w fun e w' => e = .returned (.bool true) ∧ Below w.heap.size w w' :=
  turnoutlaw01_awake.calls 40 true w hG awake_f
#print axioms awake_calls
end Go.Proofs.YtofnhgpiipmegaaDoor.PV
