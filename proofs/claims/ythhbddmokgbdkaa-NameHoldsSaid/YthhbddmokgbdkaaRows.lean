/-
  No cell of these rows narrows 'for every input' (looked for: loops, veiled, ifaces, maps, wideKeys, modest, calm, conditions, laid).
  DERIVED. THE GIVEN ROWS OF THIS SEAT. 10 by the template 'for every input the law returns true; each argument reads behind the call as it read before'; 0 by the template 'total and deterministic' (their statements: YthhbddmokgbdkaaTotals.lean).
  GIVEN WITH THE SEED: the statements are not yours to turn. If you find one false, say at which input.
  Laid BY PROGRAM, IN A SANDBOX (cutbox-rows.mjs): the forced cells as the released guide's own fill.sh prints them over the translation 1d687b2b8c4eece8… (all of the seat's roots in one cut). By AI agents, Wed Nov 11 2026. No macro, syntax, notation, axiom, sorry.
-/
import Derived.Test.YthhbddmokgbdkaaChecked
import GoSem.Claim
import GoSem.ClaimJoined
import GoSem.ClaimMapViews
import Derived.JoinedTies
import Derived.KernelRfl
namespace Go.Proofs.Ythhbddmokgbdkaa
/- THE CELL 'sum', in the pinned program and in every row, IS THE sha256 OF THE DUMP (.gsa) THAT YthhbddmokgbdkaaProg.lean LOADS. Nothing in Lean hashes anything: it is a label: what it is worth is what the hold of that sum in a sandbox is worth. -/
noncomputable def Try.pinned : Pinned := { name := "ythhbddmokgbdkaa", sum := "1d687b2b8c4eece81755e52e7b4c00a52a88c3e5b5c5a58fd8041badb017d1c4", checked := Try.checked }
namespace Rows
def none {H : Type} : Left H := { results := [], args := [] }

/-- 'beadrolllaw08.DottedTexts': WHATEVER THE INPUT: true; the input reads as it did. -/
def dottedTextsSpec : ChangeSpec := { name := "dottedTexts", fn := fun _ => fun
  | [d] => { results := [.lit (.bool true)], args := [d] }
  | _ => none }
def dottedTextsRow : OpenClaim := { program := "ythhbddmokgbdkaa", sum := "1d687b2b8c4eece81755e52e7b4c00a52a88c3e5b5c5a58fd8041badb017d1c4", func := "beadroll/beadrolllaw08.DottedTexts", spec := "dottedTexts", inPlace := ["internal/abi.NoEscape"], unfollowed := true, recurses := true, apart := false }
def DottedTextsSaid : Prop := dottedTextsRow.holds Try.pinned (OpenSpec.ofChange dottedTextsSpec)

/-- ITS FALSE NEIGHBOUR: 'it returns false'. Refute it at one input. -/
def dottedTextsWrong : ChangeSpec := { name := "dottedTexts", fn := fun _ => fun
  | [d] => { results := [.lit (.bool false)], args := [d] }
  | _ => none }
def DottedTextsWrongFalsely : Prop := dottedTextsRow.holds Try.pinned (OpenSpec.ofChange dottedTextsWrong)

/-- 'beadrolllaw08.DottedJoins': WHATEVER THE INPUT: true; the input reads as it did. -/
def dottedJoinsSpec : ChangeSpec := { name := "dottedJoins", fn := fun _ => fun
  | [d1, d2] => { results := [.lit (.bool true)], args := [d1, d2] }
  | _ => none }
def dottedJoinsRow : OpenClaim := { program := "ythhbddmokgbdkaa", sum := "1d687b2b8c4eece81755e52e7b4c00a52a88c3e5b5c5a58fd8041badb017d1c4", func := "beadroll/beadrolllaw08.DottedJoins", spec := "dottedJoins", inPlace := ["internal/abi.NoEscape"], unfollowed := true, recurses := true, apart := false }
def DottedJoinsSaid : Prop := dottedJoinsRow.holds Try.pinned (OpenSpec.ofChange dottedJoinsSpec)

/-- ITS FALSE NEIGHBOUR: 'it returns false'. Refute it at one input. -/
def dottedJoinsWrong : ChangeSpec := { name := "dottedJoins", fn := fun _ => fun
  | [d1, d2] => { results := [.lit (.bool false)], args := [d1, d2] }
  | _ => none }
def DottedJoinsWrongFalsely : Prop := dottedJoinsRow.holds Try.pinned (OpenSpec.ofChange dottedJoinsWrong)

/-- 'beadrolllaw07.NameLabels': WHATEVER THE INPUT: true; the input reads as it did. -/
def nameLabelsSpec : ChangeSpec := { name := "nameLabels", fn := fun _ => fun
  | [d1, d2] => { results := [.lit (.bool true)], args := [d1, d2] }
  | _ => none }
def nameLabelsRow : OpenClaim := { program := "ythhbddmokgbdkaa", sum := "1d687b2b8c4eece81755e52e7b4c00a52a88c3e5b5c5a58fd8041badb017d1c4", func := "beadroll/beadrolllaw07.NameLabels", spec := "nameLabels", unfollowed := true, recurses := true, apart := false }
def NameLabelsSaid : Prop := nameLabelsRow.holds Try.pinned (OpenSpec.ofChange nameLabelsSpec)

/-- ITS FALSE NEIGHBOUR: 'it returns false'. Refute it at one input. -/
def nameLabelsWrong : ChangeSpec := { name := "nameLabels", fn := fun _ => fun
  | [d1, d2] => { results := [.lit (.bool false)], args := [d1, d2] }
  | _ => none }
def NameLabelsWrongFalsely : Prop := nameLabelsRow.holds Try.pinned (OpenSpec.ofChange nameLabelsWrong)

/-- 'beadrolllaw07.NameBack': WHATEVER THE INPUT: true; the input reads as it did. -/
def nameBackSpec : ChangeSpec := { name := "nameBack", fn := fun _ => fun
  | [d1, d2] => { results := [.lit (.bool true)], args := [d1, d2] }
  | _ => none }
def nameBackRow : OpenClaim := { program := "ythhbddmokgbdkaa", sum := "1d687b2b8c4eece81755e52e7b4c00a52a88c3e5b5c5a58fd8041badb017d1c4", func := "beadroll/beadrolllaw07.NameBack", spec := "nameBack", unfollowed := true, recurses := true, apart := false }
def NameBackSaid : Prop := nameBackRow.holds Try.pinned (OpenSpec.ofChange nameBackSpec)

/-- ITS FALSE NEIGHBOUR: 'it returns false'. Refute it at one input. -/
def nameBackWrong : ChangeSpec := { name := "nameBack", fn := fun _ => fun
  | [d1, d2] => { results := [.lit (.bool false)], args := [d1, d2] }
  | _ => none }
def NameBackWrongFalsely : Prop := nameBackRow.holds Try.pinned (OpenSpec.ofChange nameBackWrong)

/-- 'beadrolllaw07.NameHolds': WHATEVER THE INPUT: true; the input reads as it did. -/
def nameHoldsSpec : ChangeSpec := { name := "nameHolds", fn := fun _ => fun
  | [d1, d2] => { results := [.lit (.bool true)], args := [d1, d2] }
  | _ => none }
def nameHoldsRow : OpenClaim := { program := "ythhbddmokgbdkaa", sum := "1d687b2b8c4eece81755e52e7b4c00a52a88c3e5b5c5a58fd8041badb017d1c4", func := "beadroll/beadrolllaw07.NameHolds", spec := "nameHolds", unfollowed := true, recurses := true, apart := false }
def NameHoldsSaid : Prop := nameHoldsRow.holds Try.pinned (OpenSpec.ofChange nameHoldsSpec)

/-- ITS FALSE NEIGHBOUR: 'it returns false'. Refute it at one input. -/
def nameHoldsWrong : ChangeSpec := { name := "nameHolds", fn := fun _ => fun
  | [d1, d2] => { results := [.lit (.bool false)], args := [d1, d2] }
  | _ => none }
def NameHoldsWrongFalsely : Prop := nameHoldsRow.holds Try.pinned (OpenSpec.ofChange nameHoldsWrong)

/-- 'beadrolllaw07.NameOrders': WHATEVER THE INPUT: true; the input reads as it did. -/
def nameOrdersSpec : ChangeSpec := { name := "nameOrders", fn := fun _ => fun
  | [d1, d2, d3] => { results := [.lit (.bool true)], args := [d1, d2, d3] }
  | _ => none }
def nameOrdersRow : OpenClaim := { program := "ythhbddmokgbdkaa", sum := "1d687b2b8c4eece81755e52e7b4c00a52a88c3e5b5c5a58fd8041badb017d1c4", func := "beadroll/beadrolllaw07.NameOrders", spec := "nameOrders", unfollowed := true, recurses := true, apart := false }
def NameOrdersSaid : Prop := nameOrdersRow.holds Try.pinned (OpenSpec.ofChange nameOrdersSpec)

/-- ITS FALSE NEIGHBOUR: 'it returns false'. Refute it at one input. -/
def nameOrdersWrong : ChangeSpec := { name := "nameOrders", fn := fun _ => fun
  | [d1, d2, d3] => { results := [.lit (.bool false)], args := [d1, d2, d3] }
  | _ => none }
def NameOrdersWrongFalsely : Prop := nameOrdersRow.holds Try.pinned (OpenSpec.ofChange nameOrdersWrong)

/-- 'beadrolllaw08.DottedReads': WHATEVER THE INPUT: true; the input reads as it did. -/
def dottedReadsSpec : ChangeSpec := { name := "dottedReads", fn := fun _ => fun
  | [d] => { results := [.lit (.bool true)], args := [d] }
  | _ => none }
def dottedReadsRow : OpenClaim := { program := "ythhbddmokgbdkaa", sum := "1d687b2b8c4eece81755e52e7b4c00a52a88c3e5b5c5a58fd8041badb017d1c4", func := "beadroll/beadrolllaw08.DottedReads", spec := "dottedReads", inPlace := ["internal/abi.NoEscape"], unfollowed := true, recurses := true, apart := false }
def DottedReadsSaid : Prop := dottedReadsRow.holds Try.pinned (OpenSpec.ofChange dottedReadsSpec)

/-- ITS FALSE NEIGHBOUR: 'it returns false'. Refute it at one input. -/
def dottedReadsWrong : ChangeSpec := { name := "dottedReads", fn := fun _ => fun
  | [d] => { results := [.lit (.bool false)], args := [d] }
  | _ => none }
def DottedReadsWrongFalsely : Prop := dottedReadsRow.holds Try.pinned (OpenSpec.ofChange dottedReadsWrong)

/-- 'beadrolllaw08.DottedBack': WHATEVER THE INPUT: true; the input reads as it did. -/
def dottedBackSpec : ChangeSpec := { name := "dottedBack", fn := fun _ => fun
  | [d] => { results := [.lit (.bool true)], args := [d] }
  | _ => none }
def dottedBackRow : OpenClaim := { program := "ythhbddmokgbdkaa", sum := "1d687b2b8c4eece81755e52e7b4c00a52a88c3e5b5c5a58fd8041badb017d1c4", func := "beadroll/beadrolllaw08.DottedBack", spec := "dottedBack", inPlace := ["internal/abi.NoEscape"], unfollowed := true, recurses := true, apart := false }
def DottedBackSaid : Prop := dottedBackRow.holds Try.pinned (OpenSpec.ofChange dottedBackSpec)

/-- ITS FALSE NEIGHBOUR: 'it returns false'. Refute it at one input. -/
def dottedBackWrong : ChangeSpec := { name := "dottedBack", fn := fun _ => fun
  | [d] => { results := [.lit (.bool false)], args := [d] }
  | _ => none }
def DottedBackWrongFalsely : Prop := dottedBackRow.holds Try.pinned (OpenSpec.ofChange dottedBackWrong)

/-- 'beadrolllaw07.NameTells': WHATEVER THE INPUT: true; the input reads as it did. -/
def nameTellsSpec : ChangeSpec := { name := "nameTells", fn := fun _ => fun
  | [d] => { results := [.lit (.bool true)], args := [d] }
  | _ => none }
def nameTellsRow : OpenClaim := { program := "ythhbddmokgbdkaa", sum := "1d687b2b8c4eece81755e52e7b4c00a52a88c3e5b5c5a58fd8041badb017d1c4", func := "beadroll/beadrolllaw07.NameTells", spec := "nameTells", inPlace := ["slices.overlaps[string]"], unfollowed := true, recurses := true, apart := false }
def NameTellsSaid : Prop := nameTellsRow.holds Try.pinned (OpenSpec.ofChange nameTellsSpec)

/-- ITS FALSE NEIGHBOUR: 'it returns false'. Refute it at one input. -/
def nameTellsWrong : ChangeSpec := { name := "nameTells", fn := fun _ => fun
  | [d] => { results := [.lit (.bool false)], args := [d] }
  | _ => none }
def NameTellsWrongFalsely : Prop := nameTellsRow.holds Try.pinned (OpenSpec.ofChange nameTellsWrong)

/-- 'beadrolllaw08.DottedLines': WHATEVER THE INPUT: true; the input reads as it did. -/
def dottedLinesSpec : ChangeSpec := { name := "dottedLines", fn := fun _ => fun
  | [d] => { results := [.lit (.bool true)], args := [d] }
  | _ => none }
def dottedLinesRow : OpenClaim := { program := "ythhbddmokgbdkaa", sum := "1d687b2b8c4eece81755e52e7b4c00a52a88c3e5b5c5a58fd8041badb017d1c4", func := "beadroll/beadrolllaw08.DottedLines", spec := "dottedLines", inPlace := ["internal/abi.NoEscape", "internal/bytealg.MakeNoZero"], unfollowed := true, recurses := true, apart := false }
def DottedLinesSaid : Prop := dottedLinesRow.holds Try.pinned (OpenSpec.ofChange dottedLinesSpec)

/-- ITS FALSE NEIGHBOUR: 'it returns false'. Refute it at one input. -/
def dottedLinesWrong : ChangeSpec := { name := "dottedLines", fn := fun _ => fun
  | [d] => { results := [.lit (.bool false)], args := [d] }
  | _ => none }
def DottedLinesWrongFalsely : Prop := dottedLinesRow.holds Try.pinned (OpenSpec.ofChange dottedLinesWrong)

/- THE SECOND FORM. 'bulk': how many values and letters a reading holds, each counted each time it is reached (what is shared counts as often as it is met; a slice's spare places count too). A statement '..UptoSaid' is the law's where the arguments, and the package variables that the reading takes, are together of bulk at most 1048576: NARROWER than '..Said'. Prove '..Said' where nothing that the law and all that it calls make is longer than what came in: it says more and counts as full. Else prove '..UptoSaid'. A law counts once. -/
mutual
def uptoBulk {H : Type} : DataW H → Nat
  | .lit (.string bytes) => bytes.length + 1
  | .lit _ => 1
  | .nil => 1
  | .ptr d => uptoBulk d + 1
  | .slice elems spare => uptoBulkAll elems + uptoBulkAll spare + 1
  | .agg parts => uptoBulkAll parts + 1
  | .iface _ d => uptoBulk d + 1
  | .map entries => uptoBulkEntries entries + 1
  | .held _ => 1
def uptoBulkAll {H : Type} : List (DataW H) → Nat
  | [] => 0
  | d :: r => uptoBulk d + uptoBulkAll r
def uptoBulkEntries {H : Type} : List (Lit × DataW H) → Nat
  | [] => 0
  | x :: r => uptoBulkEntry x + uptoBulkEntries r
def uptoBulkEntry {H : Type} : Lit × DataW H → Nat
  | (.string bytes, d) => bytes.length + uptoBulk d + 1
  | (_, d) => uptoBulk d + 1
 end
def uptoSmall : (H : Type) → List (DataW H) → Bool := fun _ ds => decide (uptoBulkAll ds ≤ 1048576)
def OpenSpec.upto (s : _root_.Go.ChangeSpec) : _root_.Go.OpenSpec := { _root_.Go.OpenSpec.ofChange s with cond := some uptoSmall }

/-- 'beadrolllaw08.DottedTexts', WHERE WHAT IT READS IS OF BULK AT MOST 1048576: true; the input reads as it did. -/
def dottedTextsUptoRow : OpenClaim := { program := "ythhbddmokgbdkaa", sum := "1d687b2b8c4eece81755e52e7b4c00a52a88c3e5b5c5a58fd8041badb017d1c4", func := "beadroll/beadrolllaw08.DottedTexts", spec := "dottedTexts", inPlace := ["internal/abi.NoEscape"], unfollowed := true, recurses := true, apart := false, narrowed := true }
def DottedTextsUptoSaid : Prop := dottedTextsUptoRow.holds Try.pinned (OpenSpec.upto dottedTextsSpec)

/-- 'beadrolllaw08.DottedJoins', WHERE WHAT IT READS IS OF BULK AT MOST 1048576: true; the input reads as it did. -/
def dottedJoinsUptoRow : OpenClaim := { program := "ythhbddmokgbdkaa", sum := "1d687b2b8c4eece81755e52e7b4c00a52a88c3e5b5c5a58fd8041badb017d1c4", func := "beadroll/beadrolllaw08.DottedJoins", spec := "dottedJoins", inPlace := ["internal/abi.NoEscape"], unfollowed := true, recurses := true, apart := false, narrowed := true }
def DottedJoinsUptoSaid : Prop := dottedJoinsUptoRow.holds Try.pinned (OpenSpec.upto dottedJoinsSpec)

/-- 'beadrolllaw07.NameLabels', WHERE WHAT IT READS IS OF BULK AT MOST 1048576: true; the input reads as it did. -/
def nameLabelsUptoRow : OpenClaim := { program := "ythhbddmokgbdkaa", sum := "1d687b2b8c4eece81755e52e7b4c00a52a88c3e5b5c5a58fd8041badb017d1c4", func := "beadroll/beadrolllaw07.NameLabels", spec := "nameLabels", unfollowed := true, recurses := true, apart := false, narrowed := true }
def NameLabelsUptoSaid : Prop := nameLabelsUptoRow.holds Try.pinned (OpenSpec.upto nameLabelsSpec)

/-- 'beadrolllaw07.NameBack', WHERE WHAT IT READS IS OF BULK AT MOST 1048576: true; the input reads as it did. -/
def nameBackUptoRow : OpenClaim := { program := "ythhbddmokgbdkaa", sum := "1d687b2b8c4eece81755e52e7b4c00a52a88c3e5b5c5a58fd8041badb017d1c4", func := "beadroll/beadrolllaw07.NameBack", spec := "nameBack", unfollowed := true, recurses := true, apart := false, narrowed := true }
def NameBackUptoSaid : Prop := nameBackUptoRow.holds Try.pinned (OpenSpec.upto nameBackSpec)

/-- 'beadrolllaw07.NameHolds', WHERE WHAT IT READS IS OF BULK AT MOST 1048576: true; the input reads as it did. -/
def nameHoldsUptoRow : OpenClaim := { program := "ythhbddmokgbdkaa", sum := "1d687b2b8c4eece81755e52e7b4c00a52a88c3e5b5c5a58fd8041badb017d1c4", func := "beadroll/beadrolllaw07.NameHolds", spec := "nameHolds", unfollowed := true, recurses := true, apart := false, narrowed := true }
def NameHoldsUptoSaid : Prop := nameHoldsUptoRow.holds Try.pinned (OpenSpec.upto nameHoldsSpec)

/-- 'beadrolllaw07.NameOrders', WHERE WHAT IT READS IS OF BULK AT MOST 1048576: true; the input reads as it did. -/
def nameOrdersUptoRow : OpenClaim := { program := "ythhbddmokgbdkaa", sum := "1d687b2b8c4eece81755e52e7b4c00a52a88c3e5b5c5a58fd8041badb017d1c4", func := "beadroll/beadrolllaw07.NameOrders", spec := "nameOrders", unfollowed := true, recurses := true, apart := false, narrowed := true }
def NameOrdersUptoSaid : Prop := nameOrdersUptoRow.holds Try.pinned (OpenSpec.upto nameOrdersSpec)

/-- 'beadrolllaw08.DottedReads', WHERE WHAT IT READS IS OF BULK AT MOST 1048576: true; the input reads as it did. -/
def dottedReadsUptoRow : OpenClaim := { program := "ythhbddmokgbdkaa", sum := "1d687b2b8c4eece81755e52e7b4c00a52a88c3e5b5c5a58fd8041badb017d1c4", func := "beadroll/beadrolllaw08.DottedReads", spec := "dottedReads", inPlace := ["internal/abi.NoEscape"], unfollowed := true, recurses := true, apart := false, narrowed := true }
def DottedReadsUptoSaid : Prop := dottedReadsUptoRow.holds Try.pinned (OpenSpec.upto dottedReadsSpec)

/-- 'beadrolllaw08.DottedBack', WHERE WHAT IT READS IS OF BULK AT MOST 1048576: true; the input reads as it did. -/
def dottedBackUptoRow : OpenClaim := { program := "ythhbddmokgbdkaa", sum := "1d687b2b8c4eece81755e52e7b4c00a52a88c3e5b5c5a58fd8041badb017d1c4", func := "beadroll/beadrolllaw08.DottedBack", spec := "dottedBack", inPlace := ["internal/abi.NoEscape"], unfollowed := true, recurses := true, apart := false, narrowed := true }
def DottedBackUptoSaid : Prop := dottedBackUptoRow.holds Try.pinned (OpenSpec.upto dottedBackSpec)

/-- 'beadrolllaw07.NameTells', WHERE WHAT IT READS IS OF BULK AT MOST 1048576: true; the input reads as it did. -/
def nameTellsUptoRow : OpenClaim := { program := "ythhbddmokgbdkaa", sum := "1d687b2b8c4eece81755e52e7b4c00a52a88c3e5b5c5a58fd8041badb017d1c4", func := "beadroll/beadrolllaw07.NameTells", spec := "nameTells", inPlace := ["slices.overlaps[string]"], unfollowed := true, recurses := true, apart := false, narrowed := true }
def NameTellsUptoSaid : Prop := nameTellsUptoRow.holds Try.pinned (OpenSpec.upto nameTellsSpec)

/-- 'beadrolllaw08.DottedLines', WHERE WHAT IT READS IS OF BULK AT MOST 1048576: true; the input reads as it did. -/
def dottedLinesUptoRow : OpenClaim := { program := "ythhbddmokgbdkaa", sum := "1d687b2b8c4eece81755e52e7b4c00a52a88c3e5b5c5a58fd8041badb017d1c4", func := "beadroll/beadrolllaw08.DottedLines", spec := "dottedLines", inPlace := ["internal/abi.NoEscape", "internal/bytealg.MakeNoZero"], unfollowed := true, recurses := true, apart := false, narrowed := true }
def DottedLinesUptoSaid : Prop := dottedLinesUptoRow.holds Try.pinned (OpenSpec.upto dottedLinesSpec)

end Rows
end Go.Proofs.Ythhbddmokgbdkaa
