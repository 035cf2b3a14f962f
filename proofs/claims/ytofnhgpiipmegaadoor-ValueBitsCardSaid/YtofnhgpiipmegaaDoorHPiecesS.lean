/- value.pieces is not entered by what this text serves: its plain function tells nothing. -/
import Derived.Test.YtofnhgpiipmegaaDoorPVA
namespace Go.Proofs.YtofnhgpiipmegaaDoor.PV
open Go.RowKit
def value_pieces.f (_a0 _a1 : ByteArray) (_a2 _a3 : Int) : Option (ByteArray × Bool) := none
theorem value_pieces.calls (a0 a1 : ByteArray) (a2 a3 : Int) (r1 : ByteArray) (r2 : Bool) (w : World) (h : value_pieces.f a0 a1 a2 a3 = some (r1, r2)) :
    Calls Tryd.prog 45 #[.string a0, .string a1, .int .u64 a2, .int .i64 a3] w fun e w' => e = .returned (.tuple #[.string r1, .bool r2]) ∧ Below w.heap.size w w' := by
  unfold value_pieces.f at h
  cases h
end Go.Proofs.YtofnhgpiipmegaaDoor.PV
