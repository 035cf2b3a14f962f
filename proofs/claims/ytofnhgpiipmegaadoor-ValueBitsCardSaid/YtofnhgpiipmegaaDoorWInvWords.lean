import Derived.Test.YtofnhgpiipmegaaDoorWInv
import Derived.Test.YtofnhgpiipmegaaDoorWFootNe
namespace Go.Proofs.YtofnhgpiipmegaaDoorW.PrintWords
open Go.RowKit
end Go.Proofs.YtofnhgpiipmegaaDoorW.PrintWords
namespace Go.Proofs.YtofnhgpiipmegaaDoorW.PrintLast
section
variable {ops : Array Oper} {a : Act} {o og : Oper} {g : Nat} {t : Tmp} {u : Bool}
end
end Go.Proofs.YtofnhgpiipmegaaDoorW.PrintLast
