/- Two headers that are the same. -/
import Derived.Test.YtpmiddhdgidimaaGreatDoorHeadCells
import Derived.Test.YtpmiddhdgidimaaGreatDoorWEqStruct
set_option linter.unusedVariables false
set_option linter.unusedSimpArgs false
namespace Go.Proofs.YtpmiddhdgidimaaGreatDoor
open Go.RowKit Go.Proofs.YtpmiddhdgidimaaGreatDoorW.PrintWords
theorem eqHd (d : Nat) (w : World) (x0 x7 x8 x9 x12 y0 y7 y8 y9 y12 : ByteArray) (x1 x2 x3 x4 x5 x6 x10 x11 y1 y2 y3 y4 y5 y6 y10 y11 : Int) :
    (Op.equalIn (d + 2) 23 (.agg #[.string x0, .int .i64 x1, .int .i64 x2, .int .i64 x3, .int .i64 x4, .int .i64 x5, .int .u8 x6, .string x7, .string x8, .string x9, .int .i64 x10, .int .i64 x11, .string x12]) (.agg #[.string y0, .int .i64 y1, .int .i64 y2, .int .i64 y3, .int .i64 y4, .int .i64 y5, .int .u8 y6, .string y7, .string y8, .string y9, .int .i64 y10, .int .i64 y11, .string y12])).run Tryz.prog w = .ok (x0.toList == y0.toList && (x1 == y1 && (x2 == y2 && (x3 == y3 && (x4 == y4 && (x5 == y5 && (x6 == y6 && (x7.toList == y7.toList && (x8.toList == y8.toList && (x9.toList == y9.toList && (x10 == y10 && (x11 == y11 && x12.toList == y12.toList)))))))))))) w := by
  refine eqA_of Tryz.underlying23 (by kernel_rfl) ?_
  iterate 12 refine eqf_cons (by rfl) (by go_simp; rfl) (by go_simp; rfl) (by go_simp) ?_
  exact eqf_last (by rfl) (by go_simp; rfl) (by go_simp; rfl) (by go_simp)
theorem eqHd_same (d : Nat) (w : World) (h : Hd) : (Op.equalIn (d + 2) 23 (.agg (hdCells h)) (.agg (hdCells h))).run Tryz.prog w = .ok true w := by
  unfold hdCells
  rw [eqHd]
  simp
end Go.Proofs.YtpmiddhdgidimaaGreatDoor
