-- Written by xprint.py, a program of this session over the kit's print: not the print's own text.
import Derived.Test.YtkfehogefclhdaaDoorPLtx0
import Derived.Test.YtkfehogefclhdaaDoorPLtx1
import Derived.Test.YtkfehogefclhdaaDoorPLtx2
import Derived.Test.YtkfehogefclhdaaDoorPLtx3
import Derived.Test.YtkfehogefclhdaaDoorPLtx4
import Derived.Test.YtkfehogefclhdaaDoorPLtx5
import Derived.Test.YtkfehogefclhdaaDoorPLtx6
import Derived.Test.YtkfehogefclhdaaDoorPLtx7
namespace Go.Proofs.YtkfehogefclhdaaDoor.PLt
open Go.RowKit Go.Proofs.YtkfehogefclhdaaDoorW.PrintWords Go.Proofs.YtkfehogefclhdaaDoorW.PrintLast Go.Proofs.YtkfehogefclhdaaDoorW.PrintMore
attribute [local go_sem] max2_int min2_int max_two min_two max_three min_three max_four min_four   -- for this text's walks alone
set_option linter.unusedVariables false
set_option linter.unusedSimpArgs false

end Go.Proofs.YtkfehogefclhdaaDoor.PLt
