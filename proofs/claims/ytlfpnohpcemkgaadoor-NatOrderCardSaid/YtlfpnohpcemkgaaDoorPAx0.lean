/- Written by a program of this session, wip/tools/patch_print.py, over the kit's print of the loaded functions. -/
import Derived.Test.YtlfpnohpcemkgaaDoorProg
import Derived.Below
import Derived.Deep.Draws
import Derived.Deep.AppendLies
import Derived.Maps.AppendAt
import Derived.OwnWalk
import Derived.Laws.BytesArg
import Derived.Laws.MakeOwn
import Derived.Laws.OwnMore
import Derived.Deep.OwnRows
import Derived.Tactics
import Derived.Lib.ConvBytes
import Derived.Laws.Slices
import Derived.WalkKit
import Derived.KernelRfl
import Derived.RowKit3
import Derived.Deep.LoopGhost
import Derived.Deep.QuietTactic
import Derived.BigQuiet
import Derived.WideLaws
import Derived.Deep.DeepCutAuto
import Derived.Deep.CutBlock
import Derived.Deep.RegionHeld3
import Derived.Laws.Rows
import Derived.Lib.AppendStr
import Derived.ArgAppend
import Derived.Laws.IdiomCopy
import Derived.OrdersHeld
import Derived.Laws.BitsLemmas
import Derived.RowKit
import Derived.Test.YtlfpnohpcemkgaaDoorWWords
import Derived.Test.YtlfpnohpcemkgaaDoorWLast
import Derived.Test.YtlfpnohpcemkgaaDoorWTab
import Derived.Test.YtlfpnohpcemkgaaDoorWFour
import Derived.Test.YtlfpnohpcemkgaaDoorWQPut
import Derived.Test.YtlfpnohpcemkgaaDoorWApart
import Derived.Test.YtlfpnohpcemkgaaDoorWArr
import Derived.Test.YtlfpnohpcemkgaaDoorWZeros
import Derived.Test.YtlfpnohpcemkgaaDoorWFoot
import Derived.Test.YtlfpnohpcemkgaaDoorWKept
import Derived.Test.YtlfpnohpcemkgaaDoorWShare
import Derived.Test.YtlfpnohpcemkgaaDoorWN
import Derived.Test.YtlfpnohpcemkgaaDoorWFootNe
import Derived.Test.YtlfpnohpcemkgaaDoorWAt
import Derived.Test.YtlfpnohpcemkgaaDoorWEqStruct
import Derived.Test.YtlfpnohpcemkgaaDoorWRepsOne
import Derived.Test.YtlfpnohpcemkgaaDoorWInv
import Derived.Test.YtlfpnohpcemkgaaDoorWInvWords
import Derived.Test.YtlfpnohpcemkgaaDoorWGuard
import Derived.Test.YtlfpnohpcemkgaaDoorWNEv
import Derived.Test.YtlfpnohpcemkgaaDoorWMore
namespace Go.Proofs.YtlfpnohpcemkgaaDoor.H
end Go.Proofs.YtlfpnohpcemkgaaDoor.H
namespace Go.Proofs.YtlfpnohpcemkgaaDoor.PA
open Go.RowKit Go.Proofs.YtlfpnohpcemkgaaDoorW.PrintWords Go.Proofs.YtlfpnohpcemkgaaDoorW.PrintLast Go.Proofs.YtlfpnohpcemkgaaDoorW.PrintMore Go.Proofs.YtlfpnohpcemkgaaDoor.H
attribute [local go_sem] max2_int min2_int max_two min_two max_three min_three max_four min_four   -- for this text's walks alone
set_option linter.unusedVariables false
set_option linter.unusedSimpArgs false



def errW : Option Int → Value
  | none => .nilIface
  | some c => .iface 0 (.int .i64 c)
theorem errW_none : errW none = .nilIface := rfl
theorem errW_some (c : Int) : errW (some c) = .iface 0 (.int .i64 c) := rfl

theorem info3 : (Tryd.prog.info? 3).map (fun i => (i.zero, i.size, i.bytes)) = some (some (.int .i64 0), 1, 8) := by kernel_rfl
theorem info4 : (Tryd.prog.info? 4).map (fun i => (i.zero, i.size, i.bytes)) = some (some (.bool false), 1, 1) := by kernel_rfl
theorem info5 : (Tryd.prog.info? 5).map (fun i => (i.zero, i.size, i.bytes)) = some (some (.int .u8 0), 1, 1) := by kernel_rfl
theorem info43 : (Tryd.prog.info? 43).map (fun i => (i.zero, i.size, i.bytes)) = some (some (.int .u32 0), 1, 4) := by kernel_rfl
-- the values' own types

end Go.Proofs.YtlfpnohpcemkgaaDoor.PA
