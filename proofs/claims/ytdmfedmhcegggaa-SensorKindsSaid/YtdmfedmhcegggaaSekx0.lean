/- What single functions of the program come to, each with the proof that its Go text does so; turned to this claim by a program of this session. -/
import Derived.Test.YtdmfedmhcegggaaProg
import Derived.Below
import Derived.Deep.Draws
import Derived.Deep.AppendLies
import Derived.Maps.AppendAt
import Derived.OwnWalk
import Derived.Laws.BytesArg
import Derived.Laws.MakeOwn
import Derived.Laws.OwnMore
import Derived.Deep.OwnRows
import Derived.Tactics
import Derived.Lib.ConvBytes
import Derived.Laws.Slices
import Derived.WalkKit
import Derived.KernelRfl
import Derived.RowKit3
import Derived.Deep.LoopGhost
import Derived.Deep.QuietTactic
import Derived.BigQuiet
import Derived.WideLaws
import Derived.Deep.DeepCutAuto
import Derived.Deep.CutBlock
import Derived.Deep.RegionHeld3
import Derived.Laws.Rows
import Derived.Lib.AppendStr
import Derived.ArgAppend
import Derived.Laws.IdiomCopy
import Derived.OrdersHeld
import Derived.Laws.BitsLemmas
import Derived.RowKit
import Derived.Test.YtdmfedmhcegggaaWWords
import Derived.Test.YtdmfedmhcegggaaWLast
import Derived.Test.YtdmfedmhcegggaaWTab
import Derived.Test.YtdmfedmhcegggaaWFour
import Derived.Test.YtdmfedmhcegggaaWQPut
import Derived.Test.YtdmfedmhcegggaaWApart
import Derived.Test.YtdmfedmhcegggaaWArr
import Derived.Test.YtdmfedmhcegggaaWZeros
import Derived.Test.YtdmfedmhcegggaaWFoot
import Derived.Test.YtdmfedmhcegggaaWKept
import Derived.Test.YtdmfedmhcegggaaWShare
import Derived.Test.YtdmfedmhcegggaaWN
import Derived.Test.YtdmfedmhcegggaaWFootNe
import Derived.Test.YtdmfedmhcegggaaWAt
import Derived.Test.YtdmfedmhcegggaaWEqStruct
import Derived.Test.YtdmfedmhcegggaaWRepsOne
import Derived.Test.YtdmfedmhcegggaaWInv
import Derived.Test.YtdmfedmhcegggaaWInvWords
import Derived.Test.YtdmfedmhcegggaaWGuard
import Derived.Test.YtdmfedmhcegggaaWNEv
import Derived.Test.YtdmfedmhcegggaaWMore
namespace Go.Proofs.Ytdmfedmhcegggaa.Sek
open Go.RowKit Go.Proofs.YtdmfedmhcegggaaW.PrintWords Go.Proofs.YtdmfedmhcegggaaW.PrintLast Go.Proofs.YtdmfedmhcegggaaW.PrintMore
attribute [local go_sem] max2_int min2_int max_two min_two max_three min_three max_four min_four   -- for this text's walks alone
set_option linter.unusedVariables false
set_option linter.unusedSimpArgs false



def errW : Option Int → Value
  | none => .nilIface
  | some c => .iface 0 (.int .i64 c)
theorem errW_none : errW none = .nilIface := rfl
theorem errW_some (c : Int) : errW (some c) = .iface 0 (.int .i64 c) := rfl

theorem info2 : (Try.prog.info? 2).map (fun i => (i.zero, i.size, i.bytes)) = some (some (.int .i64 0), 1, 8) := by kernel_rfl
theorem info3 : (Try.prog.info? 3).map (fun i => (i.zero, i.size, i.bytes)) = some (some (.int .i64 0), 1, 8) := by kernel_rfl
-- the values' own types

end Go.Proofs.Ytdmfedmhcegggaa.Sek
