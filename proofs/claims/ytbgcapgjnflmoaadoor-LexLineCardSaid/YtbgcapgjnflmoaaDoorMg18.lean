/- Contracts of the functions that the statement reaches, and plain lemmas: PLyx0. -/
import Derived.Test.YtbgcapgjnflmoaaDoorProg
import Derived.Below
import Derived.Deep.Draws
import Derived.Deep.AppendLies
import Derived.Maps.AppendAt
import Derived.OwnWalk
import Derived.Laws.BytesArg
import Derived.Laws.MakeOwn
import Derived.Laws.OwnMore
import Derived.Deep.OwnRows
import Derived.Tactics
import Derived.Lib.ConvBytes
import Derived.Laws.Slices
import Derived.WalkKit
import Derived.KernelRfl
import Derived.RowKit3
import Derived.Deep.LoopGhost
import Derived.Deep.QuietTactic
import Derived.BigQuiet
import Derived.WideLaws
import Derived.Deep.DeepCutAuto
import Derived.Deep.CutBlock
import Derived.Deep.RegionHeld3
import Derived.Laws.Rows
import Derived.Lib.AppendStr
import Derived.ArgAppend
import Derived.Laws.IdiomCopy
import Derived.OrdersHeld
import Derived.Laws.BitsLemmas
import Derived.RowKit
import Derived.Test.YtbgcapgjnflmoaaDoorMg0
import Derived.Test.YtbgcapgjnflmoaaDoorWWords
import Derived.Test.YtbgcapgjnflmoaaDoorWLast
import Derived.Test.YtbgcapgjnflmoaaDoorWTab
import Derived.Test.YtbgcapgjnflmoaaDoorWFour
import Derived.Test.YtbgcapgjnflmoaaDoorWQPut
import Derived.Test.YtbgcapgjnflmoaaDoorWApart
import Derived.Test.YtbgcapgjnflmoaaDoorWArr
import Derived.Test.YtbgcapgjnflmoaaDoorWZeros
import Derived.Test.YtbgcapgjnflmoaaDoorWFoot
import Derived.Test.YtbgcapgjnflmoaaDoorWKept
import Derived.Test.YtbgcapgjnflmoaaDoorWShare
import Derived.Test.YtbgcapgjnflmoaaDoorWN
import Derived.Test.YtbgcapgjnflmoaaDoorWFootNe
import Derived.Test.YtbgcapgjnflmoaaDoorWAt
import Derived.Test.YtbgcapgjnflmoaaDoorWEqStruct
import Derived.Test.YtbgcapgjnflmoaaDoorWRepsOne
import Derived.Test.YtbgcapgjnflmoaaDoorWInv
import Derived.Test.YtbgcapgjnflmoaaDoorWInvWords
import Derived.Test.YtbgcapgjnflmoaaDoorWGuard
import Derived.Test.YtbgcapgjnflmoaaDoorWNEv
import Derived.Test.YtbgcapgjnflmoaaDoorWMore
set_option linter.unusedVariables false
set_option linter.unusedSimpArgs false
set_option linter.unnecessarySimpa false
-- Written by xprint.py, a program of this session over the kit's print: not the print's own text.
namespace Go.Proofs.YtbgcapgjnflmoaaDoor.PLy
open Go.RowKit Go.Proofs.YtbgcapgjnflmoaaDoorW.PrintWords Go.Proofs.YtbgcapgjnflmoaaDoorW.PrintLast Go.Proofs.YtbgcapgjnflmoaaDoorW.PrintMore
attribute [local go_sem] max2_int min2_int max_two min_two max_three min_three max_four min_four   -- for this text's walks alone
set_option linter.unusedVariables false
set_option linter.unusedSimpArgs false



def errW : Option Int → Value
  | none => .nilIface
  | some c => .iface 0 (.int .i64 c)
theorem errW_none : errW none = .nilIface := rfl
theorem errW_some (c : Int) : errW (some c) = .iface 0 (.int .i64 c) := rfl

-- the values' own types

end Go.Proofs.YtbgcapgjnflmoaaDoor.PLy
