-- Written by xprint.py, a program of this session over the kit's print: not the print's own text.
import Derived.Test.YtkfehogefclhdaaProg
import Derived.Below
import Derived.Deep.Draws
import Derived.Deep.AppendLies
import Derived.Maps.AppendAt
import Derived.OwnWalk
import Derived.Laws.BytesArg
import Derived.Laws.MakeOwn
import Derived.Laws.OwnMore
import Derived.Deep.OwnRows
import Derived.Tactics
import Derived.Lib.ConvBytes
import Derived.Laws.Slices
import Derived.WalkKit
import Derived.KernelRfl
import Derived.RowKit3
import Derived.Deep.LoopGhost
import Derived.Deep.QuietTactic
import Derived.BigQuiet
import Derived.WideLaws
import Derived.Deep.DeepCutAuto
import Derived.Deep.CutBlock
import Derived.Deep.RegionHeld3
import Derived.Laws.Rows
import Derived.Lib.AppendStr
import Derived.ArgAppend
import Derived.Laws.IdiomCopy
import Derived.OrdersHeld
import Derived.Laws.BitsLemmas
import Derived.RowKit
import Derived.Test.YtkfehogefclhdaaExtA
import Derived.Test.YtkfehogefclhdaaShelf
import Derived.Test.YtkfehogefclhdaaWWords
import Derived.Test.YtkfehogefclhdaaWLast
import Derived.Test.YtkfehogefclhdaaWTab
import Derived.Test.YtkfehogefclhdaaWFour
import Derived.Test.YtkfehogefclhdaaWQPut
import Derived.Test.YtkfehogefclhdaaWApart
import Derived.Test.YtkfehogefclhdaaWArr
import Derived.Test.YtkfehogefclhdaaWZeros
import Derived.Test.YtkfehogefclhdaaWFoot
import Derived.Test.YtkfehogefclhdaaWKept
import Derived.Test.YtkfehogefclhdaaWShare
import Derived.Test.YtkfehogefclhdaaWN
import Derived.Test.YtkfehogefclhdaaWFootNe
import Derived.Test.YtkfehogefclhdaaWAt
import Derived.Test.YtkfehogefclhdaaWEqStruct
import Derived.Test.YtkfehogefclhdaaWRepsOne
import Derived.Test.YtkfehogefclhdaaWInv
import Derived.Test.YtkfehogefclhdaaWInvWords
import Derived.Test.YtkfehogefclhdaaWGuard
import Derived.Test.YtkfehogefclhdaaWNEv
import Derived.Test.YtkfehogefclhdaaWMore
namespace Go.Proofs.Ytkfehogefclhdaa.PLc
open Go.RowKit Go.Proofs.YtkfehogefclhdaaW.PrintWords Go.Proofs.YtkfehogefclhdaaW.PrintLast Go.Proofs.YtkfehogefclhdaaW.PrintMore
attribute [local go_sem] max2_int min2_int max_two min_two max_three min_three max_four min_four   -- for this text's walks alone
set_option linter.unusedVariables false
set_option linter.unusedSimpArgs false



def errW : Option Int → Value
  | none => .nilIface
  | some c => .iface 0 (.int .i64 c)
theorem errW_none : errW none = .nilIface := rfl
theorem errW_some (c : Int) : errW (some c) = .iface 0 (.int .i64 c) := rfl

-- the values' own types

end Go.Proofs.Ytkfehogefclhdaa.PLc
