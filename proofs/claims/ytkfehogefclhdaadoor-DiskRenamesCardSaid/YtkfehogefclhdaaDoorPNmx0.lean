-- Written by xprint.py, a program of this session over the kit's print: not the print's own text.
import Derived.Test.YtkfehogefclhdaaDoorProg
import Derived.Below
import Derived.Deep.Draws
import Derived.Deep.AppendLies
import Derived.Maps.AppendAt
import Derived.OwnWalk
import Derived.Laws.BytesArg
import Derived.Laws.MakeOwn
import Derived.Laws.OwnMore
import Derived.Deep.OwnRows
import Derived.Tactics
import Derived.Lib.ConvBytes
import Derived.Laws.Slices
import Derived.WalkKit
import Derived.KernelRfl
import Derived.RowKit3
import Derived.Deep.LoopGhost
import Derived.Deep.QuietTactic
import Derived.BigQuiet
import Derived.WideLaws
import Derived.Deep.DeepCutAuto
import Derived.Deep.CutBlock
import Derived.Deep.RegionHeld3
import Derived.Laws.Rows
import Derived.Lib.AppendStr
import Derived.ArgAppend
import Derived.Laws.IdiomCopy
import Derived.OrdersHeld
import Derived.Laws.BitsLemmas
import Derived.RowKit
import Derived.Test.YtkfehogefclhdaaDoorWWords
import Derived.Test.YtkfehogefclhdaaDoorWLast
import Derived.Test.YtkfehogefclhdaaDoorWTab
import Derived.Test.YtkfehogefclhdaaDoorWFour
import Derived.Test.YtkfehogefclhdaaDoorWQPut
import Derived.Test.YtkfehogefclhdaaDoorWApart
import Derived.Test.YtkfehogefclhdaaDoorWArr
import Derived.Test.YtkfehogefclhdaaDoorWZeros
import Derived.Test.YtkfehogefclhdaaDoorWFoot
import Derived.Test.YtkfehogefclhdaaDoorWKept
import Derived.Test.YtkfehogefclhdaaDoorWShare
import Derived.Test.YtkfehogefclhdaaDoorWN
import Derived.Test.YtkfehogefclhdaaDoorWFootNe
import Derived.Test.YtkfehogefclhdaaDoorWAt
import Derived.Test.YtkfehogefclhdaaDoorWEqStruct
import Derived.Test.YtkfehogefclhdaaDoorWRepsOne
import Derived.Test.YtkfehogefclhdaaDoorWInv
import Derived.Test.YtkfehogefclhdaaDoorWInvWords
import Derived.Test.YtkfehogefclhdaaDoorWGuard
import Derived.Test.YtkfehogefclhdaaDoorWNEv
import Derived.Test.YtkfehogefclhdaaDoorWMore
namespace Go.Proofs.YtkfehogefclhdaaDoor.PNm
open Go.RowKit Go.Proofs.YtkfehogefclhdaaDoorW.PrintWords Go.Proofs.YtkfehogefclhdaaDoorW.PrintLast Go.Proofs.YtkfehogefclhdaaDoorW.PrintMore
attribute [local go_sem] max2_int min2_int max_two min_two max_three min_three max_four min_four   -- for this text's walks alone
set_option linter.unusedVariables false
set_option linter.unusedSimpArgs false



def errW : Option Int → Value
  | none => .nilIface
  | some c => .iface 0 (.int .i64 c)
theorem errW_none : errW none = .nilIface := rfl
theorem errW_some (c : Int) : errW (some c) = .iface 0 (.int .i64 c) := rfl

-- the values' own types

end Go.Proofs.YtkfehogefclhdaaDoor.PNm
