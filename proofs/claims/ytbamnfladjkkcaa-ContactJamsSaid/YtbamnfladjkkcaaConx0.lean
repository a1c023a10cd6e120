/- What single functions of the program come to, each with the proof that its Go text does so; turned to this claim by a program of this session. -/
import Derived.Test.YtbamnfladjkkcaaProg
import Derived.Below
import Derived.Deep.Draws
import Derived.Deep.AppendLies
import Derived.Maps.AppendAt
import Derived.OwnWalk
import Derived.Laws.BytesArg
import Derived.Laws.MakeOwn
import Derived.Laws.OwnMore
import Derived.Deep.OwnRows
import Derived.Tactics
import Derived.Lib.ConvBytes
import Derived.Laws.Slices
import Derived.WalkKit
import Derived.KernelRfl
import Derived.RowKit3
import Derived.Deep.LoopGhost
import Derived.Deep.QuietTactic
import Derived.BigQuiet
import Derived.WideLaws
import Derived.Deep.DeepCutAuto
import Derived.Deep.CutBlock
import Derived.Deep.RegionHeld3
import Derived.Laws.Rows
import Derived.Lib.AppendStr
import Derived.ArgAppend
import Derived.Laws.IdiomCopy
import Derived.OrdersHeld
import Derived.Laws.BitsLemmas
import Derived.RowKit
import Derived.Test.YtbamnfladjkkcaaWWords
import Derived.Test.YtbamnfladjkkcaaWLast
import Derived.Test.YtbamnfladjkkcaaWTab
import Derived.Test.YtbamnfladjkkcaaWFour
import Derived.Test.YtbamnfladjkkcaaWQPut
import Derived.Test.YtbamnfladjkkcaaWApart
import Derived.Test.YtbamnfladjkkcaaWArr
import Derived.Test.YtbamnfladjkkcaaWZeros
import Derived.Test.YtbamnfladjkkcaaWFoot
import Derived.Test.YtbamnfladjkkcaaWKept
import Derived.Test.YtbamnfladjkkcaaWShare
import Derived.Test.YtbamnfladjkkcaaWN
import Derived.Test.YtbamnfladjkkcaaWFootNe
import Derived.Test.YtbamnfladjkkcaaWAt
import Derived.Test.YtbamnfladjkkcaaWEqStruct
import Derived.Test.YtbamnfladjkkcaaWRepsOne
import Derived.Test.YtbamnfladjkkcaaWInv
import Derived.Test.YtbamnfladjkkcaaWInvWords
import Derived.Test.YtbamnfladjkkcaaWGuard
import Derived.Test.YtbamnfladjkkcaaWNEv
import Derived.Test.YtbamnfladjkkcaaWMore
namespace Go.Proofs.Ytbamnfladjkkcaa.Con
open Go.RowKit Go.Proofs.YtbamnfladjkkcaaW.PrintWords Go.Proofs.YtbamnfladjkkcaaW.PrintLast Go.Proofs.YtbamnfladjkkcaaW.PrintMore
attribute [local go_sem] max2_int min2_int max_two min_two max_three min_three max_four min_four   -- for this text's walks alone
set_option linter.unusedVariables false
set_option linter.unusedSimpArgs false



def errW : Option Int → Value
  | none => .nilIface
  | some c => .iface 0 (.int .i64 c)
theorem errW_none : errW none = .nilIface := rfl
theorem errW_some (c : Int) : errW (some c) = .iface 0 (.int .i64 c) := rfl

-- the values' own types

end Go.Proofs.Ytbamnfladjkkcaa.Con
