/- A function of the program and what its Go code comes to. -/
import Derived.Test.YtofnhgpiipmegaaDoorProg
import Derived.Below
import Derived.Deep.Draws
import Derived.Deep.AppendLies
import Derived.Maps.AppendAt
import Derived.OwnWalk
import Derived.Laws.BytesArg
import Derived.Laws.MakeOwn
import Derived.Laws.OwnMore
import Derived.Deep.OwnRows
import Derived.Tactics
import Derived.Lib.ConvBytes
import Derived.Laws.Slices
import Derived.WalkKit
import Derived.KernelRfl
import Derived.RowKit3
import Derived.Deep.LoopGhost
import Derived.Deep.QuietTactic
import Derived.BigQuiet
import Derived.WideLaws
import Derived.Deep.DeepCutAuto
import Derived.Deep.CutBlock
import Derived.Deep.RegionHeld3
import Derived.Laws.Rows
import Derived.Lib.AppendStr
import Derived.ArgAppend
import Derived.Laws.IdiomCopy
import Derived.OrdersHeld
import Derived.Laws.BitsLemmas
import Derived.RowKit
import Derived.Test.YtofnhgpiipmegaaDoorG
import Derived.Test.YtofnhgpiipmegaaDoorWWords
import Derived.Test.YtofnhgpiipmegaaDoorWLast
import Derived.Test.YtofnhgpiipmegaaDoorWTab
import Derived.Test.YtofnhgpiipmegaaDoorWApart
import Derived.Test.YtofnhgpiipmegaaDoorWFoot
import Derived.Test.YtofnhgpiipmegaaDoorWKept
import Derived.Test.YtofnhgpiipmegaaDoorWShare
import Derived.Test.YtofnhgpiipmegaaDoorWN
import Derived.Test.YtofnhgpiipmegaaDoorWAt
import Derived.Test.YtofnhgpiipmegaaDoorWEqStruct
import Derived.Test.YtofnhgpiipmegaaDoorWRepsOne
import Derived.Test.YtofnhgpiipmegaaDoorWGuard
import Derived.Test.YtofnhgpiipmegaaDoorWMore
-- Printed by this session's gprint.py (the kit's printer, with functions given by hand). Not trusted: Lean checks it.
namespace Go.Proofs.YtofnhgpiipmegaaDoor.PV
open Go.RowKit Go.Proofs.YtofnhgpiipmegaaDoorW.PrintWords Go.Proofs.YtofnhgpiipmegaaDoorW.PrintLast Go.Proofs.YtofnhgpiipmegaaDoorW.PrintMore
attribute [local go_sem] max2_int min2_int max_two min_two max_three min_three max_four min_four   -- for this text's walks alone
set_option linter.unusedVariables false
set_option linter.unusedSimpArgs false
def errW : Option Int → Value
 | none => .nilIface
 | some c => .iface 0 (.int .i64 c)
theorem errW_none : errW none = .nilIface := rfl
theorem errW_some (c : Int) : errW (some c) = .iface 0 (.int .i64 c) := rfl
theorem info5 : (Tryd.prog.info? 5).map (fun i => (i.zero, i.size, i.bytes)) = some (some (.int .u8 0), 1, 1) := by kernel_rfl
theorem info9 : (Tryd.prog.info? 9).map (fun i => (i.zero, i.size, i.bytes)) = some (some (.string ⟨#[]⟩), 1, 16) := by kernel_rfl
-- the values' own types
@[go_sem high] theorem fld24_1 (c0 c1 : Value) (w : World) : (Instr.field 24 (.agg #[c0, c1]) 1).run Tryd.prog w = .ok (c1) w := by kernel_rfl
end Go.Proofs.YtofnhgpiipmegaaDoor.PV
