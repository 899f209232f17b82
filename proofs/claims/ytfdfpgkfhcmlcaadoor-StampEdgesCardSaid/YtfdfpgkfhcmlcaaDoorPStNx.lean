-- Laid by this session's prt.py (the kit's print.py, some callees proved by hand).
import Derived.Test.YtfdfpgkfhcmlcaaDoorPStNx0
import Derived.Test.YtfdfpgkfhcmlcaaDoorPStNx1
namespace Go.Proofs.YtfdfpgkfhcmlcaaDoor.PStN
open Go.RowKit Go.Proofs.YtfdfpgkfhcmlcaaDoorW.PrintWords Go.Proofs.YtfdfpgkfhcmlcaaDoorW.PrintLast Go.Proofs.YtfdfpgkfhcmlcaaDoorW.PrintMore
attribute [local go_sem] max2_int min2_int max_two min_two max_three min_three max_four min_four   -- for this text's walks alone
set_option linter.unusedVariables false
set_option linter.unusedSimpArgs false

end Go.Proofs.YtfdfpgkfhcmlcaaDoor.PStN
