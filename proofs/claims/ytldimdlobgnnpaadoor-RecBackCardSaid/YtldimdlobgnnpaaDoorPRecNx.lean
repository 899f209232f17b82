-- Laid by this session's prt.py (the kit's print.py, some callees proved by hand).
import Derived.Test.YtldimdlobgnnpaaDoorPRecNx0
import Derived.Test.YtldimdlobgnnpaaDoorPRecNx1
import Derived.Test.YtldimdlobgnnpaaDoorPRecNx2
namespace Go.Proofs.YtldimdlobgnnpaaDoor.PRecN
open Go.RowKit Go.Proofs.YtldimdlobgnnpaaDoorW.PrintWords Go.Proofs.YtldimdlobgnnpaaDoorW.PrintLast Go.Proofs.YtldimdlobgnnpaaDoorW.PrintMore
attribute [local go_sem] max2_int min2_int max_two min_two max_three min_three max_four min_four   -- for this text's walks alone
set_option linter.unusedVariables false
set_option linter.unusedSimpArgs false

end Go.Proofs.YtldimdlobgnnpaaDoor.PRecN
