/- What the hand-written contracts of this seat lean on of the package-level variables: the table 'signs' (block g of the globals) reads as the sixteen digits, and stays so below a call. -/
import Derived.Test.YtofnhgpiipmegaaDoorProg
import Derived.Below
import Derived.Test.YtofnhgpiipmegaaDoorWWords
namespace Go.Proofs.YtofnhgpiipmegaaDoor.PV
open Go.RowKit Go.Proofs.YtofnhgpiipmegaaDoorW.PrintWords
/-- The sixteen digits. -/
def signsL : List Int := [48, 49, 50, 51, 52, 53, 54, 55, 56, 57, 97, 98, 99, 100, 101, 102]
/-- The number of the variable 'signs'. -/
def signsG : Nat := 0
/-- The table reads as the digits. -/
def GlobalsAt (w : World) : Prop := ∀ i : Nat, i < 16 → w.cell? ⟨signsG, i, none⟩ = some (.int .u8 (signsL.getD i 0))
theorem GlobalsAt.below {w w' : World} (h : GlobalsAt w) (hb : Below w.heap.size w w') : GlobalsAt w' := fun i hi => pw_cell_below hb (h i hi)
end Go.Proofs.YtofnhgpiipmegaaDoor.PV
