/- The start world of the rows of this seat is Good. -/
import Derived.Test.YtpmiddhdgidimaaDoorHeadGood
import Derived.Test.YtpmiddhdgidimaaDoorCards
import Derived.Lay
import Derived.Stop.LaidErr
import Derived.LaidSub
set_option linter.unusedVariables false
namespace Go.Proofs.YtpmiddhdgidimaaDoor
open Go.RowKit Go.Sort
theorem one_laid {W : World} {l : List (String × DataW Unit)} {x : String × DataW Unit} (nm : String) (h : laidMetH Tryd.prog l W) (e : ((l.filter fun x => x.2.handleName?.isNone).filter fun y => y.1 == nm) = [x]) : laidMet Tryd.prog [x] W := by
  have := (laidMetH_iff.1 h).1.filter (fun y => y.1 == nm)
  rw [e] at this
  exact this
def tab64 : List Int := [0, 1, 56, 2, 57, 49, 28, 3, 61, 58, 42, 50, 38, 29, 17, 4, 62, 47, 59, 36, 45, 43, 51, 22, 53, 39, 33, 30, 24, 18, 12, 5, 63, 55, 48, 27, 60, 41, 37, 16, 46, 35, 44, 21, 52, 32, 23, 11, 54, 26, 40, 15, 34, 20, 31, 10, 25, 14, 19, 9, 13, 8, 7, 6]
theorem gTab : Tryd.prog.globalNamed "math/bits.deBruijn64tab" = some 5 := by kernel_rfl
theorem good_start {W : World} (hs : W.ShapedOpen Tryd.prog) (h : laidMetH Tryd.prog Rows.headBackRow.laid W) : Good W := by
  refine ⟨hs, ?_⟩
  have ht : Lib.TabIs Tryd.prog W "math/bits.deBruijn64tab" .u8 tab64 := Lib.tabIs_of_head (t := 128) (e := 5) (n := 64) gTab (by kernel_rfl) (by kernel_rfl) (by kernel_rfl) (by kernel_rfl) (by kernel_rfl) (one_laid (x := ("math/bits.deBruijn64tab", Lib.tabData .u8 tab64)) "math/bits.deBruijn64tab" h (by kernel_rfl))
  exact ht.cell gTab 7 (by decide)
end Go.Proofs.YtpmiddhdgidimaaDoor
