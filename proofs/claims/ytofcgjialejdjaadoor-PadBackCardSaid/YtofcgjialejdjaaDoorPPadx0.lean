-- Laid by this session's prt.py (the kit's print.py, some callees proved by hand).
import Derived.Test.YtofcgjialejdjaaDoorProg
import Derived.Below
import Derived.Deep.Draws
import Derived.Deep.AppendLies
import Derived.Maps.AppendAt
import Derived.OwnWalk
import Derived.Laws.BytesArg
import Derived.Laws.MakeOwn
import Derived.Laws.OwnMore
import Derived.Deep.OwnRows
import Derived.Tactics
import Derived.Lib.ConvBytes
import Derived.Laws.Slices
import Derived.WalkKit
import Derived.KernelRfl
import Derived.RowKit3
import Derived.Deep.LoopGhost
import Derived.Deep.QuietTactic
import Derived.BigQuiet
import Derived.WideLaws
import Derived.Deep.DeepCutAuto
import Derived.Deep.CutBlock
import Derived.Deep.RegionHeld3
import Derived.Laws.Rows
import Derived.Lib.AppendStr
import Derived.ArgAppend
import Derived.Laws.IdiomCopy
import Derived.OrdersHeld
import Derived.Laws.BitsLemmas
import Derived.RowKit
import Derived.Test.YtofcgjialejdjaaDoorPadA
import Derived.Test.YtofcgjialejdjaaDoorStr
import Derived.Test.YtofcgjialejdjaaDoorWWords
import Derived.Test.YtofcgjialejdjaaDoorWLast
import Derived.Test.YtofcgjialejdjaaDoorWTab
import Derived.Test.YtofcgjialejdjaaDoorWFour
import Derived.Test.YtofcgjialejdjaaDoorWQPut
import Derived.Test.YtofcgjialejdjaaDoorWApart
import Derived.Test.YtofcgjialejdjaaDoorWArr
import Derived.Test.YtofcgjialejdjaaDoorWZeros
import Derived.Test.YtofcgjialejdjaaDoorWFoot
import Derived.Test.YtofcgjialejdjaaDoorWKept
import Derived.Test.YtofcgjialejdjaaDoorWShare
import Derived.Test.YtofcgjialejdjaaDoorWN
import Derived.Test.YtofcgjialejdjaaDoorWFootNe
import Derived.Test.YtofcgjialejdjaaDoorWAt
import Derived.Test.YtofcgjialejdjaaDoorWEqStruct
import Derived.Test.YtofcgjialejdjaaDoorWRepsOne
import Derived.Test.YtofcgjialejdjaaDoorWInv
import Derived.Test.YtofcgjialejdjaaDoorWInvWords
import Derived.Test.YtofcgjialejdjaaDoorWGuard
import Derived.Test.YtofcgjialejdjaaDoorWNEv
import Derived.Test.YtofcgjialejdjaaDoorWMore
namespace Go.Proofs.YtofcgjialejdjaaDoor.PPad
open Go.RowKit Go.Proofs.YtofcgjialejdjaaDoorW.PrintWords Go.Proofs.YtofcgjialejdjaaDoorW.PrintLast Go.Proofs.YtofcgjialejdjaaDoorW.PrintMore
attribute [local go_sem] max2_int min2_int max_two min_two max_three min_three max_four min_four   -- for this text's walks alone
set_option linter.unusedVariables false
set_option linter.unusedSimpArgs false



def errW : Option Int → Value
  | none => .nilIface
  | some c => .iface 0 (.int .i64 c)
theorem errW_none : errW none = .nilIface := rfl
theorem errW_some (c : Int) : errW (some c) = .iface 0 (.int .i64 c) := rfl

theorem info5 : (Tryd.prog.info? 5).map (fun i => (i.zero, i.size, i.bytes)) = some (some (.int .u8 0), 1, 1) := by kernel_rfl
-- the values' own types

end Go.Proofs.YtofcgjialejdjaaDoor.PPad
