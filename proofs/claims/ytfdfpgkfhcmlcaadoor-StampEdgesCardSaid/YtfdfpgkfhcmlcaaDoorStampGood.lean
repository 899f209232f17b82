/- The start world of the rows of this seat is Good. -/
import Derived.Test.YtfdfpgkfhcmlcaaDoorGood
import Derived.Test.YtfdfpgkfhcmlcaaDoorCards
import Derived.Lay
import Derived.Stop.LaidErr
import Derived.LaidSub
set_option linter.unusedVariables false
namespace Go.Proofs.YtfdfpgkfhcmlcaaDoor
open Go.RowKit Go.Sort
theorem one_laid {W : World} {l : List (String × DataW Unit)} {x : String × DataW Unit} (nm : String) (h : laidMetH Tryd.prog l W) (e : ((l.filter fun x => x.2.handleName?.isNone).filter fun y => y.1 == nm) = [x]) : laidMet Tryd.prog [x] W := by
  have := (laidMetH_iff.1 h).1.filter (fun y => y.1 == nm)
  rw [e] at this
  exact this
theorem row_es (u : TypeId) (h : Tryd.prog.typeName? 3 u = some "*errors.errorString") : u = 130 :=
  typeName_ptr_named (nm := "errors.errorString") (by rw [show "*" ++ "errors.errorString" = "*errors.errorString" by decide]; kernel_rfl) (by kernel_rfl) (by decide) u (by rw [show "*" ++ "errors.errorString" = "*errors.errorString" by decide]; exact h)
theorem good_start {W : World} (hs : W.ShapedOpen Tryd.prog) (h : laidMetH Tryd.prog Rows.stampFarRow.laid W) : Good W := by
  refine ⟨hs, ?_, ?_, ?_⟩
  · exact Lib.tabIs_of_head (t := 123) (e := 83) (n := 20) gPow (by kernel_rfl) (by kernel_rfl) (by kernel_rfl) (by kernel_rfl) (by kernel_rfl) (one_laid (x := ("internal/strconv.uint64pow10", Lib.tabData .u64 Lib.pow10Tab)) "internal/strconv.uint64pow10" h (by kernel_rfl))
  · have hg : Tryd.prog.globalNamed "strconv.ErrSyntax" = some 2 := by kernel_rfl
    obtain ⟨a, s, hv, -, -, -⟩ := laid_sentinel (one_laid (x := ("strconv.ErrSyntax", Rows.laid_strconv_ErrSyntax)) "strconv.ErrSyntax" h (by kernel_rfl)) hg (ti := 54) (by kernel_rfl) Tryd.underlying54 row_es Tryd.underlying130 Tryd.underlying132 rfl rfl Tryd.underlying9 (by kernel_rfl) (by kernel_rfl)
    exact ⟨_, _, by have h0 := World.var?_cell hg hv 0; simpa using h0⟩
  · have hg : Tryd.prog.globalNamed "strconv.ErrRange" = some 3 := by kernel_rfl
    obtain ⟨a, s, hv, -, -, -⟩ := laid_sentinel (one_laid (x := ("strconv.ErrRange", Rows.laid_strconv_ErrRange)) "strconv.ErrRange" h (by kernel_rfl)) hg (ti := 54) (by kernel_rfl) Tryd.underlying54 row_es Tryd.underlying130 Tryd.underlying132 rfl rfl Tryd.underlying9 (by kernel_rfl) (by kernel_rfl)
    exact ⟨_, _, by have h0 := World.var?_cell hg hv 0; simpa using h0⟩
end Go.Proofs.YtfdfpgkfhcmlcaaDoor
