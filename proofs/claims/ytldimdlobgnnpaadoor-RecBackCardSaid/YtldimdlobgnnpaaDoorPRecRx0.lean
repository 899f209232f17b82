-- Laid by this session's prt.py (the kit's print.py, some callees proved by hand).
import Derived.Test.YtldimdlobgnnpaaDoorProg
import Derived.Below
import Derived.Deep.Draws
import Derived.Deep.AppendLies
import Derived.Maps.AppendAt
import Derived.OwnWalk
import Derived.Laws.BytesArg
import Derived.Laws.MakeOwn
import Derived.Laws.OwnMore
import Derived.Deep.OwnRows
import Derived.Tactics
import Derived.Lib.ConvBytes
import Derived.Laws.Slices
import Derived.WalkKit
import Derived.KernelRfl
import Derived.RowKit3
import Derived.Deep.LoopGhost
import Derived.Deep.QuietTactic
import Derived.BigQuiet
import Derived.WideLaws
import Derived.Deep.DeepCutAuto
import Derived.Deep.CutBlock
import Derived.Deep.RegionHeld3
import Derived.Laws.Rows
import Derived.Lib.AppendStr
import Derived.ArgAppend
import Derived.Laws.IdiomCopy
import Derived.OrdersHeld
import Derived.Laws.BitsLemmas
import Derived.RowKit
import Derived.Test.YtldimdlobgnnpaaDoorBase
import Derived.Test.YtldimdlobgnnpaaDoorKinds
import Derived.Test.YtldimdlobgnnpaaDoorPRecNx
import Derived.Test.YtldimdlobgnnpaaDoorRecRef
import Derived.Test.YtldimdlobgnnpaaDoorWWords
import Derived.Test.YtldimdlobgnnpaaDoorWLast
import Derived.Test.YtldimdlobgnnpaaDoorWTab
import Derived.Test.YtldimdlobgnnpaaDoorWFour
import Derived.Test.YtldimdlobgnnpaaDoorWQPut
import Derived.Test.YtldimdlobgnnpaaDoorWApart
import Derived.Test.YtldimdlobgnnpaaDoorWArr
import Derived.Test.YtldimdlobgnnpaaDoorWZeros
import Derived.Test.YtldimdlobgnnpaaDoorWFoot
import Derived.Test.YtldimdlobgnnpaaDoorWKept
import Derived.Test.YtldimdlobgnnpaaDoorWShare
import Derived.Test.YtldimdlobgnnpaaDoorWN
import Derived.Test.YtldimdlobgnnpaaDoorWFootNe
import Derived.Test.YtldimdlobgnnpaaDoorWAt
import Derived.Test.YtldimdlobgnnpaaDoorWEqStruct
import Derived.Test.YtldimdlobgnnpaaDoorWRepsOne
import Derived.Test.YtldimdlobgnnpaaDoorWInv
import Derived.Test.YtldimdlobgnnpaaDoorWInvWords
import Derived.Test.YtldimdlobgnnpaaDoorWGuard
import Derived.Test.YtldimdlobgnnpaaDoorWNEv
import Derived.Test.YtldimdlobgnnpaaDoorWMore
namespace Go.Proofs.YtldimdlobgnnpaaDoor.PRecR
open Go.RowKit Go.Proofs.YtldimdlobgnnpaaDoorW.PrintWords Go.Proofs.YtldimdlobgnnpaaDoorW.PrintLast Go.Proofs.YtldimdlobgnnpaaDoorW.PrintMore
attribute [local go_sem] max2_int min2_int max_two min_two max_three min_three max_four min_four   -- for this text's walks alone
set_option linter.unusedVariables false
set_option linter.unusedSimpArgs false



def errW : Option Int → Value
  | none => .nilIface
  | some c => .iface 0 (.int .i64 c)
theorem errW_none : errW none = .nilIface := rfl
theorem errW_some (c : Int) : errW (some c) = .iface 0 (.int .i64 c) := rfl

-- the values' own types

end Go.Proofs.YtldimdlobgnnpaaDoor.PRecR
