-- written by a program of this session, a turned copy of the print tool
import Derived.Test.YtlhjjjpldmekdaaDoorPFnx0
import Derived.Test.YtlhjjjpldmekdaaDoorPFnx1
import Derived.Test.YtlhjjjpldmekdaaDoorPFnx2
import Derived.Test.YtlhjjjpldmekdaaDoorPFnx3
import Derived.Test.YtlhjjjpldmekdaaDoorPFnx4
namespace Go.Proofs.YtlhjjjpldmekdaaDoor.PFn
open Go.RowKit Go.Proofs.YtlhjjjpldmekdaaDoorW.PrintWords Go.Proofs.YtlhjjjpldmekdaaDoorW.PrintLast Go.Proofs.YtlhjjjpldmekdaaDoorW.PrintMore
attribute [local go_sem] max2_int min2_int max_two min_two max_three min_three max_four min_four   -- for this text's walks alone
set_option linter.unusedVariables false
set_option linter.unusedSimpArgs false

end Go.Proofs.YtlhjjjpldmekdaaDoor.PFn
