-- Written by this session's program gprint.py out of the translation; Lean checks it.
import Derived.Test.YtekbecpcbfhdmaaProg
import Derived.Below
import Derived.Deep.Draws
import Derived.Deep.AppendLies
import Derived.Maps.AppendAt
import Derived.OwnWalk
import Derived.Laws.BytesArg
import Derived.Laws.MakeOwn
import Derived.Laws.OwnMore
import Derived.Deep.OwnRows
import Derived.Tactics
import Derived.Lib.ConvBytes
import Derived.Laws.Slices
import Derived.WalkKit
import Derived.KernelRfl
import Derived.RowKit3
import Derived.Deep.LoopGhost
import Derived.Deep.QuietTactic
import Derived.BigQuiet
import Derived.WideLaws
import Derived.Deep.DeepCutAuto
import Derived.Deep.CutBlock
import Derived.Deep.RegionHeld3
import Derived.Laws.Rows
import Derived.Lib.AppendStr
import Derived.ArgAppend
import Derived.Laws.IdiomCopy
import Derived.OrdersHeld
import Derived.Laws.BitsLemmas
import Derived.RowKit
import Derived.Test.YtekbecpcbfhdmaaOctCut
import Derived.Test.YtekbecpcbfhdmaaOctSplit
import Derived.Test.YtekbecpcbfhdmaaNameRP
import Derived.Test.YtekbecpcbfhdmaaPackAwake
import Derived.Test.YtekbecpcbfhdmaaWWords
import Derived.Test.YtekbecpcbfhdmaaWLast
import Derived.Test.YtekbecpcbfhdmaaWTab
import Derived.Test.YtekbecpcbfhdmaaWFour
import Derived.Test.YtekbecpcbfhdmaaWQPut
import Derived.Test.YtekbecpcbfhdmaaWApart
import Derived.Test.YtekbecpcbfhdmaaWArr
import Derived.Test.YtekbecpcbfhdmaaWZeros
import Derived.Test.YtekbecpcbfhdmaaWFoot
import Derived.Test.YtekbecpcbfhdmaaWKept
import Derived.Test.YtekbecpcbfhdmaaWShare
import Derived.Test.YtekbecpcbfhdmaaWN
import Derived.Test.YtekbecpcbfhdmaaWFootNe
import Derived.Test.YtekbecpcbfhdmaaWAt
import Derived.Test.YtekbecpcbfhdmaaWEqStruct
import Derived.Test.YtekbecpcbfhdmaaWRepsOne
import Derived.Test.YtekbecpcbfhdmaaWInv
import Derived.Test.YtekbecpcbfhdmaaWInvWords
import Derived.Test.YtekbecpcbfhdmaaWGuard
import Derived.Test.YtekbecpcbfhdmaaWNEv
import Derived.Test.YtekbecpcbfhdmaaWMore
namespace Go.Proofs.Ytekbecpcbfhdmaa.PPak
open Go.RowKit Go.Proofs.YtekbecpcbfhdmaaW.PrintWords Go.Proofs.YtekbecpcbfhdmaaW.PrintLast Go.Proofs.YtekbecpcbfhdmaaW.PrintMore Go.Proofs.Ytekbecpcbfhdmaa.Given
attribute [local go_sem] max2_int min2_int max_two min_two max_three min_three max_four min_four   -- for this text's walks alone
set_option linter.unusedVariables false
set_option linter.unusedSimpArgs false



def errW : Option Int → Value
  | none => .nilIface
  | some c => .iface 0 (.int .i64 c)
theorem errW_none : errW none = .nilIface := rfl
theorem errW_some (c : Int) : errW (some c) = .iface 0 (.int .i64 c) := rfl

theorem info3 : (Try.prog.info? 3).map (fun i => (i.zero, i.size, i.bytes)) = some (some (.int .i64 0), 1, 8) := by kernel_rfl
theorem info4 : (Try.prog.info? 4).map (fun i => (i.zero, i.size, i.bytes)) = some (some (.bool false), 1, 1) := by kernel_rfl
theorem info5 : (Try.prog.info? 5).map (fun i => (i.zero, i.size, i.bytes)) = some (some (.int .u8 0), 1, 1) := by kernel_rfl
theorem info9 : (Try.prog.info? 9).map (fun i => (i.zero, i.size, i.bytes)) = some (some (.string ⟨#[]⟩), 1, 16) := by kernel_rfl
-- the values' own types

end Go.Proofs.Ytekbecpcbfhdmaa.PPak
