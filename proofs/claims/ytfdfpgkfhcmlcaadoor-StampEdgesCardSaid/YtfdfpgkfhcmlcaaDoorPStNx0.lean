-- Laid by this session's prt.py (the kit's print.py, some callees proved by hand).
import Derived.Test.YtfdfpgkfhcmlcaaDoorProg
import Derived.Below
import Derived.Deep.Draws
import Derived.Deep.AppendLies
import Derived.Maps.AppendAt
import Derived.OwnWalk
import Derived.Laws.BytesArg
import Derived.Laws.MakeOwn
import Derived.Laws.OwnMore
import Derived.Deep.OwnRows
import Derived.Tactics
import Derived.Lib.ConvBytes
import Derived.Laws.Slices
import Derived.WalkKit
import Derived.KernelRfl
import Derived.RowKit3
import Derived.Deep.LoopGhost
import Derived.Deep.QuietTactic
import Derived.BigQuiet
import Derived.WideLaws
import Derived.Deep.DeepCutAuto
import Derived.Deep.CutBlock
import Derived.Deep.RegionHeld3
import Derived.Laws.Rows
import Derived.Lib.AppendStr
import Derived.ArgAppend
import Derived.Laws.IdiomCopy
import Derived.OrdersHeld
import Derived.Laws.BitsLemmas
import Derived.RowKit
import Derived.Test.YtfdfpgkfhcmlcaaDoorWWords
import Derived.Test.YtfdfpgkfhcmlcaaDoorWLast
import Derived.Test.YtfdfpgkfhcmlcaaDoorWTab
import Derived.Test.YtfdfpgkfhcmlcaaDoorWFour
import Derived.Test.YtfdfpgkfhcmlcaaDoorWQPut
import Derived.Test.YtfdfpgkfhcmlcaaDoorWApart
import Derived.Test.YtfdfpgkfhcmlcaaDoorWArr
import Derived.Test.YtfdfpgkfhcmlcaaDoorWZeros
import Derived.Test.YtfdfpgkfhcmlcaaDoorWFoot
import Derived.Test.YtfdfpgkfhcmlcaaDoorWKept
import Derived.Test.YtfdfpgkfhcmlcaaDoorWShare
import Derived.Test.YtfdfpgkfhcmlcaaDoorWN
import Derived.Test.YtfdfpgkfhcmlcaaDoorWFootNe
import Derived.Test.YtfdfpgkfhcmlcaaDoorWAt
import Derived.Test.YtfdfpgkfhcmlcaaDoorWEqStruct
import Derived.Test.YtfdfpgkfhcmlcaaDoorWRepsOne
import Derived.Test.YtfdfpgkfhcmlcaaDoorWInv
import Derived.Test.YtfdfpgkfhcmlcaaDoorWInvWords
import Derived.Test.YtfdfpgkfhcmlcaaDoorWGuard
import Derived.Test.YtfdfpgkfhcmlcaaDoorWNEv
import Derived.Test.YtfdfpgkfhcmlcaaDoorWMore
namespace Go.Proofs.YtfdfpgkfhcmlcaaDoor.PStN
open Go.RowKit Go.Proofs.YtfdfpgkfhcmlcaaDoorW.PrintWords Go.Proofs.YtfdfpgkfhcmlcaaDoorW.PrintLast Go.Proofs.YtfdfpgkfhcmlcaaDoorW.PrintMore
attribute [local go_sem] max2_int min2_int max_two min_two max_three min_three max_four min_four   -- for this text's walks alone
set_option linter.unusedVariables false
set_option linter.unusedSimpArgs false



def errW : Option Int → Value
  | none => .nilIface
  | some c => .iface 0 (.int .i64 c)
theorem errW_none : errW none = .nilIface := rfl
theorem errW_some (c : Int) : errW (some c) = .iface 0 (.int .i64 c) := rfl

theorem info5 : (Tryd.prog.info? 5).map (fun i => (i.zero, i.size, i.bytes)) = some (some (.int .u8 0), 1, 1) := by kernel_rfl
-- the values' own types

end Go.Proofs.YtfdfpgkfhcmlcaaDoor.PStN
