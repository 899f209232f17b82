/- What the library's tables hold, for head: kept by whatever only makes memory. -/
import Derived.Test.YtpmiddhdgidimaaGreatDoorBase
import Derived.Test.YtpmiddhdgidimaaGreatDoorPlain
import Derived.Test.YtpmiddhdgidimaaGreatDoorShelf
import Derived.ChangeAgain
import Derived.Lib.LaidTab
import Derived.Lib.SmallJoins
set_option linter.unusedVariables false
set_option linter.unusedSimpArgs false
namespace Go.Proofs.YtpmiddhdgidimaaGreatDoor
open Go.RowKit Go.Sort Go.Proofs.YtpmiddhdgidimaaGreatDoorW.PrintWords

/-- The library's variables are as they were laid. -/
structure Good (w : World) : Prop where
  shaped : w.ShapedOpen Tryz.prog
  tz : w.cell? ⟨5, 7, none⟩ = some (.int .u8 3)
theorem lt_of_cell {w : World} {a : Addr} {v : Value} (h : w.cell? a = some v) : a.block < w.heap.size := World.block_lt_of_cell? w a h
theorem Good.below {w w' : World} (h : Good w) (hb : Below w.heap.size w w') : Good w' :=
  ⟨h.shaped.keptBut (may := fun _ => False) (hb.frame _) (fun _ h => h.elim), (hb.cell (lt_of_cell h.tz)).trans h.tz⟩
end Go.Proofs.YtpmiddhdgidimaaGreatDoor
