/- A header as the machine has it. -/
import Derived.Test.YtpmiddhdgidimaaGreatDoorHeadSum
set_option linter.unusedVariables false
set_option linter.unusedSimpArgs false
namespace Go.Proofs.YtpmiddhdgidimaaGreatDoor
open Go.RowKit Go.Proofs.YtpmiddhdgidimaaGreatDoorW.PrintWords

/-- A header's cells. -/
def hdCells (h : Hd) : Array Value :=
  #[.string (mkS h.name), .int .i64 h.mode, .int .i64 h.uid, .int .i64 h.gid, .int .i64 h.size, .int .i64 h.mtime, .int .u8 (h.typ.toNat : Int), .string (mkS h.link), .string (mkS h.uname), .string (mkS h.gname), .int .i64 h.major, .int .i64 h.minor, .string (mkS h.pre)]
/-- Texts that have room in memory, numbers that the machine has. -/
structure Fits (h : Hd) : Prop where
  ints : Ints h
  name : h.name.length ≤ 140737488351232
  link : h.link.length ≤ 140737488351232
  uname : h.uname.length ≤ 140737488351232
  gname : h.gname.length ≤ 140737488351232
  pre : h.pre.length ≤ 140737488351232
end Go.Proofs.YtpmiddhdgidimaaGreatDoor
