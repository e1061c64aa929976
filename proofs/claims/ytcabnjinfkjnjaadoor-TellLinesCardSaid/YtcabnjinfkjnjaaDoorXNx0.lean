-- Written by a program of this session (xprint.py over the kit's print): functions, their contracts, laws.
import Derived.Test.YtcabnjinfkjnjaaDoorProg
import Derived.Below
import Derived.Deep.Draws
import Derived.Deep.AppendLies
import Derived.Maps.AppendAt
import Derived.OwnWalk
import Derived.Laws.BytesArg
import Derived.Laws.MakeOwn
import Derived.Laws.OwnMore
import Derived.Deep.OwnRows
import Derived.Tactics
import Derived.Lib.ConvBytes
import Derived.Laws.Slices
import Derived.WalkKit
import Derived.KernelRfl
import Derived.RowKit3
import Derived.Deep.LoopGhost
import Derived.Deep.QuietTactic
import Derived.BigQuiet
import Derived.WideLaws
import Derived.Deep.DeepCutAuto
import Derived.Deep.CutBlock
import Derived.Deep.RegionHeld3
import Derived.Laws.Rows
import Derived.Lib.AppendStr
import Derived.ArgAppend
import Derived.Laws.IdiomCopy
import Derived.OrdersHeld
import Derived.Laws.BitsLemmas
import Derived.RowKit
import Derived.Test.YtcabnjinfkjnjaaDoorWWords
import Derived.Test.YtcabnjinfkjnjaaDoorWLast
import Derived.Test.YtcabnjinfkjnjaaDoorWTab
import Derived.Test.YtcabnjinfkjnjaaDoorWFour
import Derived.Test.YtcabnjinfkjnjaaDoorWQPut
import Derived.Test.YtcabnjinfkjnjaaDoorWApart
import Derived.Test.YtcabnjinfkjnjaaDoorWArr
import Derived.Test.YtcabnjinfkjnjaaDoorWZeros
import Derived.Test.YtcabnjinfkjnjaaDoorWFoot
import Derived.Test.YtcabnjinfkjnjaaDoorWKept
import Derived.Test.YtcabnjinfkjnjaaDoorWShare
import Derived.Test.YtcabnjinfkjnjaaDoorWN
import Derived.Test.YtcabnjinfkjnjaaDoorWFootNe
import Derived.Test.YtcabnjinfkjnjaaDoorWAt
import Derived.Test.YtcabnjinfkjnjaaDoorWEqStruct
import Derived.Test.YtcabnjinfkjnjaaDoorWRepsOne
import Derived.Test.YtcabnjinfkjnjaaDoorWInv
import Derived.Test.YtcabnjinfkjnjaaDoorWInvWords
import Derived.Test.YtcabnjinfkjnjaaDoorWGuard
import Derived.Test.YtcabnjinfkjnjaaDoorWNEv
import Derived.Test.YtcabnjinfkjnjaaDoorWMore
import Derived.Test.YtcabnjinfkjnjaaDoorWSized
namespace Go.Proofs.YtcabnjinfkjnjaaDoor.X
open Go.RowKit Go.Proofs.YtcabnjinfkjnjaaDoorW.PrintWords Go.Proofs.YtcabnjinfkjnjaaDoorW.PrintLast Go.Proofs.YtcabnjinfkjnjaaDoorW.PrintMore
attribute [local go_sem] max2_int min2_int max_two min_two max_three min_three max_four min_four   -- for this text's walks alone
set_option linter.unusedVariables false
set_option linter.unusedSimpArgs false



def errW : Option Int → Value
  | none => .nilIface
  | some c => .iface 0 (.int .i64 c)
theorem errW_none : errW none = .nilIface := rfl
theorem errW_some (c : Int) : errW (some c) = .iface 0 (.int .i64 c) := rfl

theorem info5 : (Tryd.prog.info? 5).map (fun i => (i.zero, i.size, i.bytes)) = some (some (.int .u8 0), 1, 1) := by kernel_rfl
-- the values' own types

end Go.Proofs.YtcabnjinfkjnjaaDoor.X
