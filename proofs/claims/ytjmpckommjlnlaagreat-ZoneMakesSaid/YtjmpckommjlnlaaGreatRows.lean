/-
  No cell of these rows narrows 'for every input' (looked for: loops, veiled, ifaces, maps, wideKeys, modest, calm, conditions, laid).
  DERIVED. THE GIVEN ROWS OF THIS SEAT. 12 by the template 'for every input the law returns true; each argument reads behind the call as it read before'; 0 by the template 'total and deterministic' (their statements: YtjmpckommjlnlaaGreatTotals.lean).
  GIVEN WITH THE SEED: the statements are not yours to turn. If you find one false, say at which input.
  Laid BY PROGRAM, IN A SANDBOX (cutbox-rows.mjs): the forced cells as the released guide's own fill.sh prints them over the translation 61370f5805ddc22d… (all of the seat's roots in one cut). By AI agents, Wed Nov 11 2026. No macro, syntax, notation, axiom, sorry.
-/
import Derived.Test.YtjmpckommjlnlaaGreatChecked
import GoSem.Claim
import GoSem.ClaimJoined
import GoSem.ClaimMapViews
import Derived.JoinedTies
import Derived.KernelRfl
namespace Go.Proofs.YtjmpckommjlnlaaGreat
/- THE CELL 'sum', in the pinned program and in every row, IS THE sha256 OF THE DUMP (.gsa) THAT YtjmpckommjlnlaaGreatProg.lean LOADS. Nothing in Lean hashes anything: it is a label: what it is worth is what the hold of that sum in a sandbox is worth. -/
noncomputable def Tryz.pinned : Pinned := { name := "ytjmpckommjlnlaagreat", sum := "61370f5805ddc22dffd7ddf622db8e420dd3c386f32720d1b59784ba87cdaad7", checked := Tryz.checked }
namespace Rows
def none {H : Type} : Left H := { results := [], args := [] }

/-- 'beadrolllaw14.ZoneMakes': WHATEVER THE INPUT: true; the input reads as it did. -/
def zoneMakesSpec : ChangeSpec := { name := "zoneMakes", fn := fun _ => fun
  | [d1, d2] => { results := [.lit (.bool true)], args := [d1, d2] }
  | _ => none }
def zoneMakesRow : OpenClaim := { program := "ytjmpckommjlnlaagreat", sum := "61370f5805ddc22dffd7ddf622db8e420dd3c386f32720d1b59784ba87cdaad7", func := "beadroll/beadrolllaw14.ZoneMakes", spec := "zoneMakes", inPlace := ["internal/abi.NoEscape", "internal/bytealg.MakeNoZero"], unfollowed := true, recurses := true, apart := false }
def ZoneMakesSaid : Prop := zoneMakesRow.holds Tryz.pinned (OpenSpec.ofChange zoneMakesSpec)

/-- ITS FALSE NEIGHBOUR: 'it returns false'. Refute it at one input. -/
def zoneMakesWrong : ChangeSpec := { name := "zoneMakes", fn := fun _ => fun
  | [d1, d2] => { results := [.lit (.bool false)], args := [d1, d2] }
  | _ => none }
def ZoneMakesWrongFalsely : Prop := zoneMakesRow.holds Tryz.pinned (OpenSpec.ofChange zoneMakesWrong)

/-- 'beadrolllaw14.ZoneSerials': WHATEVER THE INPUT: true; the input reads as it did. -/
def zoneSerialsSpec : ChangeSpec := { name := "zoneSerials", fn := fun _ => fun
  | [d1, d2, d3] => { results := [.lit (.bool true)], args := [d1, d2, d3] }
  | _ => none }
def zoneSerialsRow : OpenClaim := { program := "ytjmpckommjlnlaagreat", sum := "61370f5805ddc22dffd7ddf622db8e420dd3c386f32720d1b59784ba87cdaad7", func := "beadroll/beadrolllaw14.ZoneSerials", spec := "zoneSerials", inPlace := ["internal/abi.NoEscape", "internal/bytealg.MakeNoZero"], unfollowed := true, recurses := true, apart := false }
def ZoneSerialsSaid : Prop := zoneSerialsRow.holds Tryz.pinned (OpenSpec.ofChange zoneSerialsSpec)

/-- ITS FALSE NEIGHBOUR: 'it returns false'. Refute it at one input. -/
def zoneSerialsWrong : ChangeSpec := { name := "zoneSerials", fn := fun _ => fun
  | [d1, d2, d3] => { results := [.lit (.bool false)], args := [d1, d2, d3] }
  | _ => none }
def ZoneSerialsWrongFalsely : Prop := zoneSerialsRow.holds Tryz.pinned (OpenSpec.ofChange zoneSerialsWrong)

/-- 'beadrolllaw16.DiffTells': WHATEVER THE INPUT: true; the input reads as it did. -/
def diffTellsSpec : ChangeSpec := { name := "diffTells", fn := fun _ => fun
  | [d1, d2] => { results := [.lit (.bool true)], args := [d1, d2] }
  | _ => none }
def diffTellsRow : OpenClaim := { program := "ytjmpckommjlnlaagreat", sum := "61370f5805ddc22dffd7ddf622db8e420dd3c386f32720d1b59784ba87cdaad7", func := "beadroll/beadrolllaw16.DiffTells", spec := "diffTells", inPlace := ["internal/abi.NoEscape", "internal/bytealg.MakeNoZero"], unfollowed := true, recurses := true, apart := false }
def DiffTellsSaid : Prop := diffTellsRow.holds Tryz.pinned (OpenSpec.ofChange diffTellsSpec)

/-- ITS FALSE NEIGHBOUR: 'it returns false'. Refute it at one input. -/
def diffTellsWrong : ChangeSpec := { name := "diffTells", fn := fun _ => fun
  | [d1, d2] => { results := [.lit (.bool false)], args := [d1, d2] }
  | _ => none }
def DiffTellsWrongFalsely : Prop := diffTellsRow.holds Tryz.pinned (OpenSpec.ofChange diffTellsWrong)

/-- 'beadrolllaw24.UpdateApplies': WHATEVER THE INPUT: true; the input reads as it did. -/
def updateAppliesSpec : ChangeSpec := { name := "updateApplies", fn := fun _ => fun
  | [d1, d2] => { results := [.lit (.bool true)], args := [d1, d2] }
  | _ => none }
def updateAppliesRow : OpenClaim := { program := "ytjmpckommjlnlaagreat", sum := "61370f5805ddc22dffd7ddf622db8e420dd3c386f32720d1b59784ba87cdaad7", func := "beadroll/beadrolllaw24.UpdateApplies", spec := "updateApplies", inPlace := ["internal/abi.NoEscape", "internal/bytealg.MakeNoZero", "slices.overlaps[beadroll/api.RR]"], unfollowed := true, recurses := true, apart := false }
def UpdateAppliesSaid : Prop := updateAppliesRow.holds Tryz.pinned (OpenSpec.ofChange updateAppliesSpec)

/-- ITS FALSE NEIGHBOUR: 'it returns false'. Refute it at one input. -/
def updateAppliesWrong : ChangeSpec := { name := "updateApplies", fn := fun _ => fun
  | [d1, d2] => { results := [.lit (.bool false)], args := [d1, d2] }
  | _ => none }
def UpdateAppliesWrongFalsely : Prop := updateAppliesRow.holds Tryz.pinned (OpenSpec.ofChange updateAppliesWrong)

/-- 'beadrolllaw24.UpdateSerials': WHATEVER THE INPUT: true; the input reads as it did. -/
def updateSerialsSpec : ChangeSpec := { name := "updateSerials", fn := fun _ => fun
  | [d1, d2] => { results := [.lit (.bool true)], args := [d1, d2] }
  | _ => none }
def updateSerialsRow : OpenClaim := { program := "ytjmpckommjlnlaagreat", sum := "61370f5805ddc22dffd7ddf622db8e420dd3c386f32720d1b59784ba87cdaad7", func := "beadroll/beadrolllaw24.UpdateSerials", spec := "updateSerials", inPlace := ["internal/abi.NoEscape", "internal/bytealg.MakeNoZero", "slices.overlaps[beadroll/api.RR]"], unfollowed := true, recurses := true, apart := false }
def UpdateSerialsSaid : Prop := updateSerialsRow.holds Tryz.pinned (OpenSpec.ofChange updateSerialsSpec)

/-- ITS FALSE NEIGHBOUR: 'it returns false'. Refute it at one input. -/
def updateSerialsWrong : ChangeSpec := { name := "updateSerials", fn := fun _ => fun
  | [d1, d2] => { results := [.lit (.bool false)], args := [d1, d2] }
  | _ => none }
def UpdateSerialsWrongFalsely : Prop := updateSerialsRow.holds Tryz.pinned (OpenSpec.ofChange updateSerialsWrong)

/-- 'beadrolllaw24.UpdateTwice': WHATEVER THE INPUT: true; the input reads as it did. -/
def updateTwiceSpec : ChangeSpec := { name := "updateTwice", fn := fun _ => fun
  | [d1, d2, d3] => { results := [.lit (.bool true)], args := [d1, d2, d3] }
  | _ => none }
def updateTwiceRow : OpenClaim := { program := "ytjmpckommjlnlaagreat", sum := "61370f5805ddc22dffd7ddf622db8e420dd3c386f32720d1b59784ba87cdaad7", func := "beadroll/beadrolllaw24.UpdateTwice", spec := "updateTwice", inPlace := ["internal/abi.NoEscape", "internal/bytealg.MakeNoZero", "slices.overlaps[beadroll/api.RR]"], unfollowed := true, recurses := true, apart := false }
def UpdateTwiceSaid : Prop := updateTwiceRow.holds Tryz.pinned (OpenSpec.ofChange updateTwiceSpec)

/-- ITS FALSE NEIGHBOUR: 'it returns false'. Refute it at one input. -/
def updateTwiceWrong : ChangeSpec := { name := "updateTwice", fn := fun _ => fun
  | [d1, d2, d3] => { results := [.lit (.bool false)], args := [d1, d2, d3] }
  | _ => none }
def UpdateTwiceWrongFalsely : Prop := updateTwiceRow.holds Tryz.pinned (OpenSpec.ofChange updateTwiceWrong)

/-- 'beadrolllaw24.UpdateKeeps': WHATEVER THE INPUT: true; the input reads as it did. -/
def updateKeepsSpec : ChangeSpec := { name := "updateKeeps", fn := fun _ => fun
  | [d1, d2] => { results := [.lit (.bool true)], args := [d1, d2] }
  | _ => none }
def updateKeepsRow : OpenClaim := { program := "ytjmpckommjlnlaagreat", sum := "61370f5805ddc22dffd7ddf622db8e420dd3c386f32720d1b59784ba87cdaad7", func := "beadroll/beadrolllaw24.UpdateKeeps", spec := "updateKeeps", inPlace := ["internal/abi.NoEscape", "internal/bytealg.MakeNoZero", "slices.overlaps[beadroll/api.RR]"], unfollowed := true, recurses := true, apart := false }
def UpdateKeepsSaid : Prop := updateKeepsRow.holds Tryz.pinned (OpenSpec.ofChange updateKeepsSpec)

/-- ITS FALSE NEIGHBOUR: 'it returns false'. Refute it at one input. -/
def updateKeepsWrong : ChangeSpec := { name := "updateKeeps", fn := fun _ => fun
  | [d1, d2] => { results := [.lit (.bool false)], args := [d1, d2] }
  | _ => none }
def UpdateKeepsWrongFalsely : Prop := updateKeepsRow.holds Tryz.pinned (OpenSpec.ofChange updateKeepsWrong)

/-- 'beadrolllaw24.UpdatePuts': WHATEVER THE INPUT: true; the input reads as it did. -/
def updatePutsSpec : ChangeSpec := { name := "updatePuts", fn := fun _ => fun
  | [d1, d2] => { results := [.lit (.bool true)], args := [d1, d2] }
  | _ => none }
def updatePutsRow : OpenClaim := { program := "ytjmpckommjlnlaagreat", sum := "61370f5805ddc22dffd7ddf622db8e420dd3c386f32720d1b59784ba87cdaad7", func := "beadroll/beadrolllaw24.UpdatePuts", spec := "updatePuts", inPlace := ["internal/abi.NoEscape", "internal/bytealg.MakeNoZero", "slices.overlaps[beadroll/api.RR]"], unfollowed := true, recurses := true, apart := false }
def UpdatePutsSaid : Prop := updatePutsRow.holds Tryz.pinned (OpenSpec.ofChange updatePutsSpec)

/-- ITS FALSE NEIGHBOUR: 'it returns false'. Refute it at one input. -/
def updatePutsWrong : ChangeSpec := { name := "updatePuts", fn := fun _ => fun
  | [d1, d2] => { results := [.lit (.bool false)], args := [d1, d2] }
  | _ => none }
def UpdatePutsWrongFalsely : Prop := updatePutsRow.holds Tryz.pinned (OpenSpec.ofChange updatePutsWrong)

/-- 'beadrolllaw16.DiffApplies': WHATEVER THE INPUT: true; the input reads as it did. -/
def diffAppliesSpec : ChangeSpec := { name := "diffApplies", fn := fun _ => fun
  | [d1, d2, d3] => { results := [.lit (.bool true)], args := [d1, d2, d3] }
  | _ => none }
def diffAppliesRow : OpenClaim := { program := "ytjmpckommjlnlaagreat", sum := "61370f5805ddc22dffd7ddf622db8e420dd3c386f32720d1b59784ba87cdaad7", func := "beadroll/beadrolllaw16.DiffApplies", spec := "diffApplies", inPlace := ["internal/abi.NoEscape", "internal/bytealg.MakeNoZero"], unfollowed := true, recurses := true, apart := false }
def DiffAppliesSaid : Prop := diffAppliesRow.holds Tryz.pinned (OpenSpec.ofChange diffAppliesSpec)

/-- ITS FALSE NEIGHBOUR: 'it returns false'. Refute it at one input. -/
def diffAppliesWrong : ChangeSpec := { name := "diffApplies", fn := fun _ => fun
  | [d1, d2, d3] => { results := [.lit (.bool false)], args := [d1, d2, d3] }
  | _ => none }
def DiffAppliesWrongFalsely : Prop := diffAppliesRow.holds Tryz.pinned (OpenSpec.ofChange diffAppliesWrong)

/-- 'beadrolllaw16.DiffRow': WHATEVER THE INPUT: true; the input reads as it did. -/
def diffRowSpec : ChangeSpec := { name := "diffRow", fn := fun _ => fun
  | [d1, d2, d3] => { results := [.lit (.bool true)], args := [d1, d2, d3] }
  | _ => none }
def diffRowRow : OpenClaim := { program := "ytjmpckommjlnlaagreat", sum := "61370f5805ddc22dffd7ddf622db8e420dd3c386f32720d1b59784ba87cdaad7", func := "beadroll/beadrolllaw16.DiffRow", spec := "diffRow", inPlace := ["internal/abi.NoEscape", "internal/bytealg.MakeNoZero"], unfollowed := true, recurses := true, apart := false }
def DiffRowSaid : Prop := diffRowRow.holds Tryz.pinned (OpenSpec.ofChange diffRowSpec)

/-- ITS FALSE NEIGHBOUR: 'it returns false'. Refute it at one input. -/
def diffRowWrong : ChangeSpec := { name := "diffRow", fn := fun _ => fun
  | [d1, d2, d3] => { results := [.lit (.bool false)], args := [d1, d2, d3] }
  | _ => none }
def DiffRowWrongFalsely : Prop := diffRowRow.holds Tryz.pinned (OpenSpec.ofChange diffRowWrong)

/-- 'beadrolllaw16.DiffBack': WHATEVER THE INPUT: true; the input reads as it did. -/
def diffBackSpec : ChangeSpec := { name := "diffBack", fn := fun _ => fun
  | [d1, d2] => { results := [.lit (.bool true)], args := [d1, d2] }
  | _ => none }
def diffBackRow : OpenClaim := { program := "ytjmpckommjlnlaagreat", sum := "61370f5805ddc22dffd7ddf622db8e420dd3c386f32720d1b59784ba87cdaad7", func := "beadroll/beadrolllaw16.DiffBack", spec := "diffBack", inPlace := ["internal/abi.NoEscape", "internal/bytealg.MakeNoZero"], unfollowed := true, recurses := true, apart := false }
def DiffBackSaid : Prop := diffBackRow.holds Tryz.pinned (OpenSpec.ofChange diffBackSpec)

/-- ITS FALSE NEIGHBOUR: 'it returns false'. Refute it at one input. -/
def diffBackWrong : ChangeSpec := { name := "diffBack", fn := fun _ => fun
  | [d1, d2] => { results := [.lit (.bool false)], args := [d1, d2] }
  | _ => none }
def DiffBackWrongFalsely : Prop := diffBackRow.holds Tryz.pinned (OpenSpec.ofChange diffBackWrong)

/-- 'beadrolllaw16.DiffNone': WHATEVER THE INPUT: true; the input reads as it did. -/
def diffNoneSpec : ChangeSpec := { name := "diffNone", fn := fun _ => fun
  | [d1, d2] => { results := [.lit (.bool true)], args := [d1, d2] }
  | _ => none }
def diffNoneRow : OpenClaim := { program := "ytjmpckommjlnlaagreat", sum := "61370f5805ddc22dffd7ddf622db8e420dd3c386f32720d1b59784ba87cdaad7", func := "beadroll/beadrolllaw16.DiffNone", spec := "diffNone", inPlace := ["internal/abi.NoEscape", "internal/bytealg.MakeNoZero"], unfollowed := true, recurses := true, apart := false }
def DiffNoneSaid : Prop := diffNoneRow.holds Tryz.pinned (OpenSpec.ofChange diffNoneSpec)

/-- ITS FALSE NEIGHBOUR: 'it returns false'. Refute it at one input. -/
def diffNoneWrong : ChangeSpec := { name := "diffNone", fn := fun _ => fun
  | [d1, d2] => { results := [.lit (.bool false)], args := [d1, d2] }
  | _ => none }
def DiffNoneWrongFalsely : Prop := diffNoneRow.holds Tryz.pinned (OpenSpec.ofChange diffNoneWrong)

/- THE SECOND FORM. 'bulk': how many values and letters a reading holds, each counted each time it is reached (what is shared counts as often as it is met; a slice's spare places count too). A statement '..UptoSaid' is the law's where the arguments, and the package variables that the reading takes, are together of bulk at most 1048576: NARROWER than '..Said'. Prove '..Said' where nothing that the law and all that it calls make is longer than what came in: it says more and counts as full. Else prove '..UptoSaid'. A law counts once. -/
mutual
def uptoBulk {H : Type} : DataW H → Nat
  | .lit (.string bytes) => bytes.length + 1
  | .lit _ => 1
  | .nil => 1
  | .ptr d => uptoBulk d + 1
  | .slice elems spare => uptoBulkAll elems + uptoBulkAll spare + 1
  | .agg parts => uptoBulkAll parts + 1
  | .iface _ d => uptoBulk d + 1
  | .map entries => uptoBulkEntries entries + 1
  | .held _ => 1
def uptoBulkAll {H : Type} : List (DataW H) → Nat
  | [] => 0
  | d :: r => uptoBulk d + uptoBulkAll r
def uptoBulkEntries {H : Type} : List (Lit × DataW H) → Nat
  | [] => 0
  | x :: r => uptoBulkEntry x + uptoBulkEntries r
def uptoBulkEntry {H : Type} : Lit × DataW H → Nat
  | (.string bytes, d) => bytes.length + uptoBulk d + 1
  | (_, d) => uptoBulk d + 1
 end
def uptoSmall : (H : Type) → List (DataW H) → Bool := fun _ ds => decide (uptoBulkAll ds ≤ 1048576)
def OpenSpec.upto (s : _root_.Go.ChangeSpec) : _root_.Go.OpenSpec := { _root_.Go.OpenSpec.ofChange s with cond := some uptoSmall }

/-- 'beadrolllaw14.ZoneMakes', WHERE WHAT IT READS IS OF BULK AT MOST 1048576: true; the input reads as it did. -/
def zoneMakesUptoRow : OpenClaim := { program := "ytjmpckommjlnlaagreat", sum := "61370f5805ddc22dffd7ddf622db8e420dd3c386f32720d1b59784ba87cdaad7", func := "beadroll/beadrolllaw14.ZoneMakes", spec := "zoneMakes", inPlace := ["internal/abi.NoEscape", "internal/bytealg.MakeNoZero"], unfollowed := true, recurses := true, apart := false, narrowed := true }
def ZoneMakesUptoSaid : Prop := zoneMakesUptoRow.holds Tryz.pinned (OpenSpec.upto zoneMakesSpec)

/-- 'beadrolllaw14.ZoneSerials', WHERE WHAT IT READS IS OF BULK AT MOST 1048576: true; the input reads as it did. -/
def zoneSerialsUptoRow : OpenClaim := { program := "ytjmpckommjlnlaagreat", sum := "61370f5805ddc22dffd7ddf622db8e420dd3c386f32720d1b59784ba87cdaad7", func := "beadroll/beadrolllaw14.ZoneSerials", spec := "zoneSerials", inPlace := ["internal/abi.NoEscape", "internal/bytealg.MakeNoZero"], unfollowed := true, recurses := true, apart := false, narrowed := true }
def ZoneSerialsUptoSaid : Prop := zoneSerialsUptoRow.holds Tryz.pinned (OpenSpec.upto zoneSerialsSpec)

/-- 'beadrolllaw16.DiffTells', WHERE WHAT IT READS IS OF BULK AT MOST 1048576: true; the input reads as it did. -/
def diffTellsUptoRow : OpenClaim := { program := "ytjmpckommjlnlaagreat", sum := "61370f5805ddc22dffd7ddf622db8e420dd3c386f32720d1b59784ba87cdaad7", func := "beadroll/beadrolllaw16.DiffTells", spec := "diffTells", inPlace := ["internal/abi.NoEscape", "internal/bytealg.MakeNoZero"], unfollowed := true, recurses := true, apart := false, narrowed := true }
def DiffTellsUptoSaid : Prop := diffTellsUptoRow.holds Tryz.pinned (OpenSpec.upto diffTellsSpec)

/-- 'beadrolllaw24.UpdateApplies', WHERE WHAT IT READS IS OF BULK AT MOST 1048576: true; the input reads as it did. -/
def updateAppliesUptoRow : OpenClaim := { program := "ytjmpckommjlnlaagreat", sum := "61370f5805ddc22dffd7ddf622db8e420dd3c386f32720d1b59784ba87cdaad7", func := "beadroll/beadrolllaw24.UpdateApplies", spec := "updateApplies", inPlace := ["internal/abi.NoEscape", "internal/bytealg.MakeNoZero", "slices.overlaps[beadroll/api.RR]"], unfollowed := true, recurses := true, apart := false, narrowed := true }
def UpdateAppliesUptoSaid : Prop := updateAppliesUptoRow.holds Tryz.pinned (OpenSpec.upto updateAppliesSpec)

/-- 'beadrolllaw24.UpdateSerials', WHERE WHAT IT READS IS OF BULK AT MOST 1048576: true; the input reads as it did. -/
def updateSerialsUptoRow : OpenClaim := { program := "ytjmpckommjlnlaagreat", sum := "61370f5805ddc22dffd7ddf622db8e420dd3c386f32720d1b59784ba87cdaad7", func := "beadroll/beadrolllaw24.UpdateSerials", spec := "updateSerials", inPlace := ["internal/abi.NoEscape", "internal/bytealg.MakeNoZero", "slices.overlaps[beadroll/api.RR]"], unfollowed := true, recurses := true, apart := false, narrowed := true }
def UpdateSerialsUptoSaid : Prop := updateSerialsUptoRow.holds Tryz.pinned (OpenSpec.upto updateSerialsSpec)

/-- 'beadrolllaw24.UpdateTwice', WHERE WHAT IT READS IS OF BULK AT MOST 1048576: true; the input reads as it did. -/
def updateTwiceUptoRow : OpenClaim := { program := "ytjmpckommjlnlaagreat", sum := "61370f5805ddc22dffd7ddf622db8e420dd3c386f32720d1b59784ba87cdaad7", func := "beadroll/beadrolllaw24.UpdateTwice", spec := "updateTwice", inPlace := ["internal/abi.NoEscape", "internal/bytealg.MakeNoZero", "slices.overlaps[beadroll/api.RR]"], unfollowed := true, recurses := true, apart := false, narrowed := true }
def UpdateTwiceUptoSaid : Prop := updateTwiceUptoRow.holds Tryz.pinned (OpenSpec.upto updateTwiceSpec)

/-- 'beadrolllaw24.UpdateKeeps', WHERE WHAT IT READS IS OF BULK AT MOST 1048576: true; the input reads as it did. -/
def updateKeepsUptoRow : OpenClaim := { program := "ytjmpckommjlnlaagreat", sum := "61370f5805ddc22dffd7ddf622db8e420dd3c386f32720d1b59784ba87cdaad7", func := "beadroll/beadrolllaw24.UpdateKeeps", spec := "updateKeeps", inPlace := ["internal/abi.NoEscape", "internal/bytealg.MakeNoZero", "slices.overlaps[beadroll/api.RR]"], unfollowed := true, recurses := true, apart := false, narrowed := true }
def UpdateKeepsUptoSaid : Prop := updateKeepsUptoRow.holds Tryz.pinned (OpenSpec.upto updateKeepsSpec)

/-- 'beadrolllaw24.UpdatePuts', WHERE WHAT IT READS IS OF BULK AT MOST 1048576: true; the input reads as it did. -/
def updatePutsUptoRow : OpenClaim := { program := "ytjmpckommjlnlaagreat", sum := "61370f5805ddc22dffd7ddf622db8e420dd3c386f32720d1b59784ba87cdaad7", func := "beadroll/beadrolllaw24.UpdatePuts", spec := "updatePuts", inPlace := ["internal/abi.NoEscape", "internal/bytealg.MakeNoZero", "slices.overlaps[beadroll/api.RR]"], unfollowed := true, recurses := true, apart := false, narrowed := true }
def UpdatePutsUptoSaid : Prop := updatePutsUptoRow.holds Tryz.pinned (OpenSpec.upto updatePutsSpec)

/-- 'beadrolllaw16.DiffApplies', WHERE WHAT IT READS IS OF BULK AT MOST 1048576: true; the input reads as it did. -/
def diffAppliesUptoRow : OpenClaim := { program := "ytjmpckommjlnlaagreat", sum := "61370f5805ddc22dffd7ddf622db8e420dd3c386f32720d1b59784ba87cdaad7", func := "beadroll/beadrolllaw16.DiffApplies", spec := "diffApplies", inPlace := ["internal/abi.NoEscape", "internal/bytealg.MakeNoZero"], unfollowed := true, recurses := true, apart := false, narrowed := true }
def DiffAppliesUptoSaid : Prop := diffAppliesUptoRow.holds Tryz.pinned (OpenSpec.upto diffAppliesSpec)

/-- 'beadrolllaw16.DiffRow', WHERE WHAT IT READS IS OF BULK AT MOST 1048576: true; the input reads as it did. -/
def diffRowUptoRow : OpenClaim := { program := "ytjmpckommjlnlaagreat", sum := "61370f5805ddc22dffd7ddf622db8e420dd3c386f32720d1b59784ba87cdaad7", func := "beadroll/beadrolllaw16.DiffRow", spec := "diffRow", inPlace := ["internal/abi.NoEscape", "internal/bytealg.MakeNoZero"], unfollowed := true, recurses := true, apart := false, narrowed := true }
def DiffRowUptoSaid : Prop := diffRowUptoRow.holds Tryz.pinned (OpenSpec.upto diffRowSpec)

/-- 'beadrolllaw16.DiffBack', WHERE WHAT IT READS IS OF BULK AT MOST 1048576: true; the input reads as it did. -/
def diffBackUptoRow : OpenClaim := { program := "ytjmpckommjlnlaagreat", sum := "61370f5805ddc22dffd7ddf622db8e420dd3c386f32720d1b59784ba87cdaad7", func := "beadroll/beadrolllaw16.DiffBack", spec := "diffBack", inPlace := ["internal/abi.NoEscape", "internal/bytealg.MakeNoZero"], unfollowed := true, recurses := true, apart := false, narrowed := true }
def DiffBackUptoSaid : Prop := diffBackUptoRow.holds Tryz.pinned (OpenSpec.upto diffBackSpec)

/-- 'beadrolllaw16.DiffNone', WHERE WHAT IT READS IS OF BULK AT MOST 1048576: true; the input reads as it did. -/
def diffNoneUptoRow : OpenClaim := { program := "ytjmpckommjlnlaagreat", sum := "61370f5805ddc22dffd7ddf622db8e420dd3c386f32720d1b59784ba87cdaad7", func := "beadroll/beadrolllaw16.DiffNone", spec := "diffNone", inPlace := ["internal/abi.NoEscape", "internal/bytealg.MakeNoZero"], unfollowed := true, recurses := true, apart := false, narrowed := true }
def DiffNoneUptoSaid : Prop := diffNoneUptoRow.holds Tryz.pinned (OpenSpec.upto diffNoneSpec)

end Rows
end Go.Proofs.YtjmpckommjlnlaaGreat
