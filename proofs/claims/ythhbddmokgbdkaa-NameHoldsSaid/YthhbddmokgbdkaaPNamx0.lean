-- Written by this session's program gprint.py out of the translation; Lean checks it.
import Derived.Test.YthhbddmokgbdkaaProg
import Derived.Below
import Derived.Deep.Draws
import Derived.Deep.AppendLies
import Derived.Maps.AppendAt
import Derived.OwnWalk
import Derived.Laws.BytesArg
import Derived.Laws.MakeOwn
import Derived.Laws.OwnMore
import Derived.Deep.OwnRows
import Derived.Tactics
import Derived.Lib.ConvBytes
import Derived.Laws.Slices
import Derived.WalkKit
import Derived.KernelRfl
import Derived.RowKit3
import Derived.Deep.LoopGhost
import Derived.Deep.QuietTactic
import Derived.BigQuiet
import Derived.WideLaws
import Derived.Deep.DeepCutAuto
import Derived.Deep.CutBlock
import Derived.Deep.RegionHeld3
import Derived.Laws.Rows
import Derived.Lib.AppendStr
import Derived.ArgAppend
import Derived.Laws.IdiomCopy
import Derived.OrdersHeld
import Derived.Laws.BitsLemmas
import Derived.RowKit
import Derived.Test.YthhbddmokgbdkaaOctCut
import Derived.Test.YthhbddmokgbdkaaNameLabels
import Derived.Test.YthhbddmokgbdkaaNameFolded
import Derived.Test.YthhbddmokgbdkaaCmpString
import Derived.Test.YthhbddmokgbdkaaDotText
import Derived.Test.YthhbddmokgbdkaaStrWords
import Derived.Test.YthhbddmokgbdkaaWWords
import Derived.Test.YthhbddmokgbdkaaWLast
import Derived.Test.YthhbddmokgbdkaaWTab
import Derived.Test.YthhbddmokgbdkaaWFour
import Derived.Test.YthhbddmokgbdkaaWQPut
import Derived.Test.YthhbddmokgbdkaaWApart
import Derived.Test.YthhbddmokgbdkaaWArr
import Derived.Test.YthhbddmokgbdkaaWZeros
import Derived.Test.YthhbddmokgbdkaaWFoot
import Derived.Test.YthhbddmokgbdkaaWKept
import Derived.Test.YthhbddmokgbdkaaWShare
import Derived.Test.YthhbddmokgbdkaaWN
import Derived.Test.YthhbddmokgbdkaaWFootNe
import Derived.Test.YthhbddmokgbdkaaWAt
import Derived.Test.YthhbddmokgbdkaaWEqStruct
import Derived.Test.YthhbddmokgbdkaaWRepsOne
import Derived.Test.YthhbddmokgbdkaaWInv
import Derived.Test.YthhbddmokgbdkaaWInvWords
import Derived.Test.YthhbddmokgbdkaaWGuard
import Derived.Test.YthhbddmokgbdkaaWNEv
import Derived.Test.YthhbddmokgbdkaaWMore
namespace Go.Proofs.Ythhbddmokgbdkaa.PNam
open Go.RowKit Go.Proofs.YthhbddmokgbdkaaW.PrintWords Go.Proofs.YthhbddmokgbdkaaW.PrintLast Go.Proofs.YthhbddmokgbdkaaW.PrintMore Go.Proofs.Ythhbddmokgbdkaa.Given
attribute [local go_sem] max2_int min2_int max_two min_two max_three min_three max_four min_four   -- for this text's walks alone
set_option linter.unusedVariables false
set_option linter.unusedSimpArgs false



def errW : Option Int → Value
  | none => .nilIface
  | some c => .iface 0 (.int .i64 c)
theorem errW_none : errW none = .nilIface := rfl
theorem errW_some (c : Int) : errW (some c) = .iface 0 (.int .i64 c) := rfl

theorem info5 : (Try.prog.info? 5).map (fun i => (i.zero, i.size, i.bytes)) = some (some (.int .u8 0), 1, 1) := by kernel_rfl
theorem info9 : (Try.prog.info? 9).map (fun i => (i.zero, i.size, i.bytes)) = some (some (.string ⟨#[]⟩), 1, 16) := by kernel_rfl
-- the values' own types

end Go.Proofs.Ythhbddmokgbdkaa.PNam
