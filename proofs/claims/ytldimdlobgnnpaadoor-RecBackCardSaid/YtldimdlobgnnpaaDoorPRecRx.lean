-- Laid by this session's prt.py (the kit's print.py, some callees proved by hand).
import Derived.Test.YtldimdlobgnnpaaDoorPRecRx0
import Derived.Test.YtldimdlobgnnpaaDoorPRecRx1
import Derived.Test.YtldimdlobgnnpaaDoorPRecRx2
import Derived.Test.YtldimdlobgnnpaaDoorPRecRx3
namespace Go.Proofs.YtldimdlobgnnpaaDoor.PRecR
open Go.RowKit Go.Proofs.YtldimdlobgnnpaaDoorW.PrintWords Go.Proofs.YtldimdlobgnnpaaDoorW.PrintLast Go.Proofs.YtldimdlobgnnpaaDoorW.PrintMore
attribute [local go_sem] max2_int min2_int max_two min_two max_three min_three max_four min_four   -- for this text's walks alone
set_option linter.unusedVariables false
set_option linter.unusedSimpArgs false

end Go.Proofs.YtldimdlobgnnpaaDoor.PRecR
