-- written by a program of this session, a turned copy of the print tool
import Derived.Test.YtjcllneibeemgaaDoorPFnx0
import Derived.Test.YtjcllneibeemgaaDoorPFnx1
import Derived.Test.YtjcllneibeemgaaDoorPFnx2
import Derived.Test.YtjcllneibeemgaaDoorPFnx3
import Derived.Test.YtjcllneibeemgaaDoorPFnx4
namespace Go.Proofs.YtjcllneibeemgaaDoor.PFn
open Go.RowKit Go.Proofs.YtjcllneibeemgaaDoorW.PrintWords Go.Proofs.YtjcllneibeemgaaDoorW.PrintLast Go.Proofs.YtjcllneibeemgaaDoorW.PrintMore
attribute [local go_sem] max2_int min2_int max_two min_two max_three min_three max_four min_four   -- for this text's walks alone
set_option linter.unusedVariables false
set_option linter.unusedSimpArgs false

end Go.Proofs.YtjcllneibeemgaaDoor.PFn
