-- Written by this session's program gprint.py out of the translation; Lean checks it.
import Derived.Test.YthcbgoldkoobdaaProg
import Derived.Below
import Derived.Deep.Draws
import Derived.Deep.AppendLies
import Derived.Maps.AppendAt
import Derived.OwnWalk
import Derived.Laws.BytesArg
import Derived.Laws.MakeOwn
import Derived.Laws.OwnMore
import Derived.Deep.OwnRows
import Derived.Tactics
import Derived.Lib.ConvBytes
import Derived.Laws.Slices
import Derived.WalkKit
import Derived.KernelRfl
import Derived.RowKit3
import Derived.Deep.LoopGhost
import Derived.Deep.QuietTactic
import Derived.BigQuiet
import Derived.WideLaws
import Derived.Deep.DeepCutAuto
import Derived.Deep.CutBlock
import Derived.Deep.RegionHeld3
import Derived.Laws.Rows
import Derived.Lib.AppendStr
import Derived.ArgAppend
import Derived.Laws.IdiomCopy
import Derived.OrdersHeld
import Derived.Laws.BitsLemmas
import Derived.RowKit
import Derived.Test.YthcbgoldkoobdaaOctCut
import Derived.Test.YthcbgoldkoobdaaOctSplit
import Derived.Test.YthcbgoldkoobdaaOctPieces
import Derived.Test.YthcbgoldkoobdaaCrcParts
import Derived.Test.YthcbgoldkoobdaaWWords
import Derived.Test.YthcbgoldkoobdaaWLast
import Derived.Test.YthcbgoldkoobdaaWTab
import Derived.Test.YthcbgoldkoobdaaWFour
import Derived.Test.YthcbgoldkoobdaaWQPut
import Derived.Test.YthcbgoldkoobdaaWApart
import Derived.Test.YthcbgoldkoobdaaWArr
import Derived.Test.YthcbgoldkoobdaaWZeros
import Derived.Test.YthcbgoldkoobdaaWFoot
import Derived.Test.YthcbgoldkoobdaaWKept
import Derived.Test.YthcbgoldkoobdaaWShare
import Derived.Test.YthcbgoldkoobdaaWN
import Derived.Test.YthcbgoldkoobdaaWFootNe
import Derived.Test.YthcbgoldkoobdaaWAt
import Derived.Test.YthcbgoldkoobdaaWEqStruct
import Derived.Test.YthcbgoldkoobdaaWRepsOne
import Derived.Test.YthcbgoldkoobdaaWInv
import Derived.Test.YthcbgoldkoobdaaWInvWords
import Derived.Test.YthcbgoldkoobdaaWGuard
import Derived.Test.YthcbgoldkoobdaaWNEv
import Derived.Test.YthcbgoldkoobdaaWMore
namespace Go.Proofs.Ythcbgoldkoobdaa.POct
open Go.RowKit Go.Proofs.YthcbgoldkoobdaaW.PrintWords Go.Proofs.YthcbgoldkoobdaaW.PrintLast Go.Proofs.YthcbgoldkoobdaaW.PrintMore Go.Proofs.Ythcbgoldkoobdaa.Given
attribute [local go_sem] max2_int min2_int max_two min_two max_three min_three max_four min_four   -- for this text's walks alone
set_option linter.unusedVariables false
set_option linter.unusedSimpArgs false



def errW : Option Int → Value
  | none => .nilIface
  | some c => .iface 0 (.int .i64 c)
theorem errW_none : errW none = .nilIface := rfl
theorem errW_some (c : Int) : errW (some c) = .iface 0 (.int .i64 c) := rfl

theorem info3 : (Try.prog.info? 3).map (fun i => (i.zero, i.size, i.bytes)) = some (some (.int .i64 0), 1, 8) := by kernel_rfl
theorem info5 : (Try.prog.info? 5).map (fun i => (i.zero, i.size, i.bytes)) = some (some (.int .u8 0), 1, 1) := by kernel_rfl
theorem info9 : (Try.prog.info? 9).map (fun i => (i.zero, i.size, i.bytes)) = some (some (.string ⟨#[]⟩), 1, 16) := by kernel_rfl
theorem info55 : (Try.prog.info? 55).map (fun i => (i.zero, i.size, i.bytes)) = some (some (.int .u64 0), 1, 8) := by kernel_rfl
-- the values' own types

end Go.Proofs.Ythcbgoldkoobdaa.POct
