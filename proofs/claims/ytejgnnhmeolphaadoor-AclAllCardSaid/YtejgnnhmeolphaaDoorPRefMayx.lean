-- Laid by this session's prt.py (the kit's print.py, some callees proved by hand).
import Derived.Test.YtejgnnhmeolphaaDoorPRefMayx0
import Derived.Test.YtejgnnhmeolphaaDoorPRefMayx1
import Derived.Test.YtejgnnhmeolphaaDoorPRefMayx2
namespace Go.Proofs.YtejgnnhmeolphaaDoor.PRefMay
open Go.RowKit Go.Proofs.YtejgnnhmeolphaaDoorW.PrintWords Go.Proofs.YtejgnnhmeolphaaDoorW.PrintLast Go.Proofs.YtejgnnhmeolphaaDoorW.PrintMore
attribute [local go_sem] max2_int min2_int max_two min_two max_three min_three max_four min_four   -- for this text's walks alone
set_option linter.unusedVariables false
set_option linter.unusedSimpArgs false

end Go.Proofs.YtejgnnhmeolphaaDoor.PRefMay
