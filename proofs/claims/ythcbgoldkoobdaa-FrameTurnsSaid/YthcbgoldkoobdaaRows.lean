/-
  No cell of these rows narrows 'for every input' (looked for: loops, veiled, ifaces, maps, wideKeys, modest, calm, conditions, laid).
  DERIVED. THE GIVEN ROWS OF THIS SEAT. 11 by the template 'for every input the law returns true; each argument reads behind the call as it read before'; 0 by the template 'total and deterministic' (their statements: YthcbgoldkoobdaaTotals.lean).
  GIVEN WITH THE SEED: the statements are not yours to turn. If you find one false, say at which input.
  Laid BY PROGRAM, IN A SANDBOX (cutbox-rows.mjs): the forced cells as the released guide's own fill.sh prints them over the translation 06bab2759eceb2e2… (all of the seat's roots in one cut). By AI agents, Wed Nov 11 2026. No macro, syntax, notation, axiom, sorry.
-/
import Derived.Test.YthcbgoldkoobdaaChecked
import GoSem.Claim
import GoSem.ClaimJoined
import GoSem.ClaimMapViews
import Derived.JoinedTies
import Derived.KernelRfl
namespace Go.Proofs.Ythcbgoldkoobdaa
/- THE CELL 'sum', in the pinned program and in every row, IS THE sha256 OF THE DUMP (.gsa) THAT YthcbgoldkoobdaaProg.lean LOADS. Nothing in Lean hashes anything: it is a label: what it is worth is what the hold of that sum in a sandbox is worth. -/
noncomputable def Try.pinned : Pinned := { name := "ythcbgoldkoobdaa", sum := "06bab2759eceb2e2b9d6e0107745f240c5b128e132603031513d4df18f5a66d8", checked := Try.checked }
namespace Rows
def none {H : Type} : Left H := { results := [], args := [] }

/-- 'beadrolllaw01.OctetsSplits': WHATEVER THE INPUT: true; the input reads as it did. -/
def octetsSplitsSpec : ChangeSpec := { name := "octetsSplits", fn := fun _ => fun
  | [d1, d2] => { results := [.lit (.bool true)], args := [d1, d2] }
  | _ => none }
def octetsSplitsRow : OpenClaim := { program := "ythcbgoldkoobdaa", sum := "06bab2759eceb2e2b9d6e0107745f240c5b128e132603031513d4df18f5a66d8", func := "beadroll/beadrolllaw01.OctetsSplits", spec := "octetsSplits", unfollowed := true, recurses := true, apart := false }
def OctetsSplitsSaid : Prop := octetsSplitsRow.holds Try.pinned (OpenSpec.ofChange octetsSplitsSpec)

/-- ITS FALSE NEIGHBOUR: 'it returns false'. Refute it at one input. -/
def octetsSplitsWrong : ChangeSpec := { name := "octetsSplits", fn := fun _ => fun
  | [d1, d2] => { results := [.lit (.bool false)], args := [d1, d2] }
  | _ => none }
def OctetsSplitsWrongFalsely : Prop := octetsSplitsRow.holds Try.pinned (OpenSpec.ofChange octetsSplitsWrong)

/-- 'beadrolllaw01.OctetsPieces': WHATEVER THE INPUT: true; the input reads as it did. -/
def octetsPiecesSpec : ChangeSpec := { name := "octetsPieces", fn := fun _ => fun
  | [d1, d2] => { results := [.lit (.bool true)], args := [d1, d2] }
  | _ => none }
def octetsPiecesRow : OpenClaim := { program := "ythcbgoldkoobdaa", sum := "06bab2759eceb2e2b9d6e0107745f240c5b128e132603031513d4df18f5a66d8", func := "beadroll/beadrolllaw01.OctetsPieces", spec := "octetsPieces", unfollowed := true, recurses := true, apart := false }
def OctetsPiecesSaid : Prop := octetsPiecesRow.holds Try.pinned (OpenSpec.ofChange octetsPiecesSpec)

/-- ITS FALSE NEIGHBOUR: 'it returns false'. Refute it at one input. -/
def octetsPiecesWrong : ChangeSpec := { name := "octetsPieces", fn := fun _ => fun
  | [d1, d2] => { results := [.lit (.bool false)], args := [d1, d2] }
  | _ => none }
def OctetsPiecesWrongFalsely : Prop := octetsPiecesRow.holds Try.pinned (OpenSpec.ofChange octetsPiecesWrong)

/-- 'beadrolllaw06.FrameMakes': WHATEVER THE INPUT: true; the input reads as it did. -/
def frameMakesSpec : ChangeSpec := { name := "frameMakes", fn := fun _ => fun
  | [d] => { results := [.lit (.bool true)], args := [d] }
  | _ => none }
def frameMakesRow : OpenClaim := { program := "ythcbgoldkoobdaa", sum := "06bab2759eceb2e2b9d6e0107745f240c5b128e132603031513d4df18f5a66d8", func := "beadroll/beadrolllaw06.FrameMakes", spec := "frameMakes", apart := false }
def FrameMakesSaid : Prop := frameMakesRow.holds Try.pinned (OpenSpec.ofChange frameMakesSpec)

/-- ITS FALSE NEIGHBOUR: 'it returns false'. Refute it at one input. -/
def frameMakesWrong : ChangeSpec := { name := "frameMakes", fn := fun _ => fun
  | [d] => { results := [.lit (.bool false)], args := [d] }
  | _ => none }
def FrameMakesWrongFalsely : Prop := frameMakesRow.holds Try.pinned (OpenSpec.ofChange frameMakesWrong)

/-- 'beadrolllaw01.OctetsJoins': WHATEVER THE INPUT: true; the input reads as it did. -/
def octetsJoinsSpec : ChangeSpec := { name := "octetsJoins", fn := fun _ => fun
  | [d1, d2] => { results := [.lit (.bool true)], args := [d1, d2] }
  | _ => none }
def octetsJoinsRow : OpenClaim := { program := "ythcbgoldkoobdaa", sum := "06bab2759eceb2e2b9d6e0107745f240c5b128e132603031513d4df18f5a66d8", func := "beadroll/beadrolllaw01.OctetsJoins", spec := "octetsJoins", unfollowed := true, recurses := true, apart := false }
def OctetsJoinsSaid : Prop := octetsJoinsRow.holds Try.pinned (OpenSpec.ofChange octetsJoinsSpec)

/-- ITS FALSE NEIGHBOUR: 'it returns false'. Refute it at one input. -/
def octetsJoinsWrong : ChangeSpec := { name := "octetsJoins", fn := fun _ => fun
  | [d1, d2] => { results := [.lit (.bool false)], args := [d1, d2] }
  | _ => none }
def OctetsJoinsWrongFalsely : Prop := octetsJoinsRow.holds Try.pinned (OpenSpec.ofChange octetsJoinsWrong)

/-- 'beadrolllaw01.OctetsBack': WHATEVER THE INPUT: true; the input reads as it did. -/
def octetsBackSpec : ChangeSpec := { name := "octetsBack", fn := fun _ => fun
  | [d1, d2, d3] => { results := [.lit (.bool true)], args := [d1, d2, d3] }
  | _ => none }
def octetsBackRow : OpenClaim := { program := "ythcbgoldkoobdaa", sum := "06bab2759eceb2e2b9d6e0107745f240c5b128e132603031513d4df18f5a66d8", func := "beadroll/beadrolllaw01.OctetsBack", spec := "octetsBack", unfollowed := true, recurses := true, apart := false }
def OctetsBackSaid : Prop := octetsBackRow.holds Try.pinned (OpenSpec.ofChange octetsBackSpec)

/-- ITS FALSE NEIGHBOUR: 'it returns false'. Refute it at one input. -/
def octetsBackWrong : ChangeSpec := { name := "octetsBack", fn := fun _ => fun
  | [d1, d2, d3] => { results := [.lit (.bool false)], args := [d1, d2, d3] }
  | _ => none }
def OctetsBackWrongFalsely : Prop := octetsBackRow.holds Try.pinned (OpenSpec.ofChange octetsBackWrong)

/-- 'beadrolllaw01.OctetsCuts': WHATEVER THE INPUT: true; the input reads as it did. -/
def octetsCutsSpec : ChangeSpec := { name := "octetsCuts", fn := fun _ => fun
  | [d1, d2] => { results := [.lit (.bool true)], args := [d1, d2] }
  | _ => none }
def octetsCutsRow : OpenClaim := { program := "ythcbgoldkoobdaa", sum := "06bab2759eceb2e2b9d6e0107745f240c5b128e132603031513d4df18f5a66d8", func := "beadroll/beadrolllaw01.OctetsCuts", spec := "octetsCuts", unfollowed := true, recurses := true, apart := false }
def OctetsCutsSaid : Prop := octetsCutsRow.holds Try.pinned (OpenSpec.ofChange octetsCutsSpec)

/-- ITS FALSE NEIGHBOUR: 'it returns false'. Refute it at one input. -/
def octetsCutsWrong : ChangeSpec := { name := "octetsCuts", fn := fun _ => fun
  | [d1, d2] => { results := [.lit (.bool false)], args := [d1, d2] }
  | _ => none }
def OctetsCutsWrongFalsely : Prop := octetsCutsRow.holds Try.pinned (OpenSpec.ofChange octetsCutsWrong)

/-- 'beadrolllaw01.OctetsRow': WHATEVER THE INPUT: true; the input reads as it did. -/
def octetsRowSpec : ChangeSpec := { name := "octetsRow", fn := fun _ => fun
  | [d1, d2] => { results := [.lit (.bool true)], args := [d1, d2] }
  | _ => none }
def octetsRowRow : OpenClaim := { program := "ythcbgoldkoobdaa", sum := "06bab2759eceb2e2b9d6e0107745f240c5b128e132603031513d4df18f5a66d8", func := "beadroll/beadrolllaw01.OctetsRow", spec := "octetsRow", unfollowed := true, recurses := true, apart := false }
def OctetsRowSaid : Prop := octetsRowRow.holds Try.pinned (OpenSpec.ofChange octetsRowSpec)

/-- ITS FALSE NEIGHBOUR: 'it returns false'. Refute it at one input. -/
def octetsRowWrong : ChangeSpec := { name := "octetsRow", fn := fun _ => fun
  | [d1, d2] => { results := [.lit (.bool false)], args := [d1, d2] }
  | _ => none }
def OctetsRowWrongFalsely : Prop := octetsRowRow.holds Try.pinned (OpenSpec.ofChange octetsRowWrong)

/-- 'beadrolllaw06.FrameScans': WHATEVER THE INPUT: true; the input reads as it did. -/
def frameScansSpec : ChangeSpec := { name := "frameScans", fn := fun _ => fun
  | [d] => { results := [.lit (.bool true)], args := [d] }
  | _ => none }
def frameScansRow : OpenClaim := { program := "ythcbgoldkoobdaa", sum := "06bab2759eceb2e2b9d6e0107745f240c5b128e132603031513d4df18f5a66d8", func := "beadroll/beadrolllaw06.FrameScans", spec := "frameScans", unfollowed := true, recurses := true, apart := false }
def FrameScansSaid : Prop := frameScansRow.holds Try.pinned (OpenSpec.ofChange frameScansSpec)

/-- ITS FALSE NEIGHBOUR: 'it returns false'. Refute it at one input. -/
def frameScansWrong : ChangeSpec := { name := "frameScans", fn := fun _ => fun
  | [d] => { results := [.lit (.bool false)], args := [d] }
  | _ => none }
def FrameScansWrongFalsely : Prop := frameScansRow.holds Try.pinned (OpenSpec.ofChange frameScansWrong)

/-- 'beadrolllaw06.FrameBack': WHATEVER THE INPUT: true; the input reads as it did. -/
def frameBackSpec : ChangeSpec := { name := "frameBack", fn := fun _ => fun
  | [d1, d2] => { results := [.lit (.bool true)], args := [d1, d2] }
  | _ => none }
def frameBackRow : OpenClaim := { program := "ythcbgoldkoobdaa", sum := "06bab2759eceb2e2b9d6e0107745f240c5b128e132603031513d4df18f5a66d8", func := "beadroll/beadrolllaw06.FrameBack", spec := "frameBack", unfollowed := true, recurses := true, apart := false }
def FrameBackSaid : Prop := frameBackRow.holds Try.pinned (OpenSpec.ofChange frameBackSpec)

/-- ITS FALSE NEIGHBOUR: 'it returns false'. Refute it at one input. -/
def frameBackWrong : ChangeSpec := { name := "frameBack", fn := fun _ => fun
  | [d1, d2] => { results := [.lit (.bool false)], args := [d1, d2] }
  | _ => none }
def FrameBackWrongFalsely : Prop := frameBackRow.holds Try.pinned (OpenSpec.ofChange frameBackWrong)

/-- 'beadrolllaw06.FrameTurns': WHATEVER THE INPUT: true; the input reads as it did. -/
def frameTurnsSpec : ChangeSpec := { name := "frameTurns", fn := fun _ => fun
  | [d1, d2] => { results := [.lit (.bool true)], args := [d1, d2] }
  | _ => none }
def frameTurnsRow : OpenClaim := { program := "ythcbgoldkoobdaa", sum := "06bab2759eceb2e2b9d6e0107745f240c5b128e132603031513d4df18f5a66d8", func := "beadroll/beadrolllaw06.FrameTurns", spec := "frameTurns", unfollowed := true, recurses := true, apart := false }
def FrameTurnsSaid : Prop := frameTurnsRow.holds Try.pinned (OpenSpec.ofChange frameTurnsSpec)

/-- ITS FALSE NEIGHBOUR: 'it returns false'. Refute it at one input. -/
def frameTurnsWrong : ChangeSpec := { name := "frameTurns", fn := fun _ => fun
  | [d1, d2] => { results := [.lit (.bool false)], args := [d1, d2] }
  | _ => none }
def FrameTurnsWrongFalsely : Prop := frameTurnsRow.holds Try.pinned (OpenSpec.ofChange frameTurnsWrong)

/-- 'beadrolllaw06.FrameTail': WHATEVER THE INPUT: true; the input reads as it did. -/
def frameTailSpec : ChangeSpec := { name := "frameTail", fn := fun _ => fun
  | [d1, d2] => { results := [.lit (.bool true)], args := [d1, d2] }
  | _ => none }
def frameTailRow : OpenClaim := { program := "ythcbgoldkoobdaa", sum := "06bab2759eceb2e2b9d6e0107745f240c5b128e132603031513d4df18f5a66d8", func := "beadroll/beadrolllaw06.FrameTail", spec := "frameTail", unfollowed := true, recurses := true, apart := false }
def FrameTailSaid : Prop := frameTailRow.holds Try.pinned (OpenSpec.ofChange frameTailSpec)

/-- ITS FALSE NEIGHBOUR: 'it returns false'. Refute it at one input. -/
def frameTailWrong : ChangeSpec := { name := "frameTail", fn := fun _ => fun
  | [d1, d2] => { results := [.lit (.bool false)], args := [d1, d2] }
  | _ => none }
def FrameTailWrongFalsely : Prop := frameTailRow.holds Try.pinned (OpenSpec.ofChange frameTailWrong)

/- THE SECOND FORM. 'bulk': how many values and letters a reading holds, each counted each time it is reached (what is shared counts as often as it is met; a slice's spare places count too). A statement '..UptoSaid' is the law's where the arguments, and the package variables that the reading takes, are together of bulk at most 1048576: NARROWER than '..Said'. Prove '..Said' where nothing that the law and all that it calls make is longer than what came in: it says more and counts as full. Else prove '..UptoSaid'. A law counts once. -/
mutual
def uptoBulk {H : Type} : DataW H → Nat
  | .lit (.string bytes) => bytes.length + 1
  | .lit _ => 1
  | .nil => 1
  | .ptr d => uptoBulk d + 1
  | .slice elems spare => uptoBulkAll elems + uptoBulkAll spare + 1
  | .agg parts => uptoBulkAll parts + 1
  | .iface _ d => uptoBulk d + 1
  | .map entries => uptoBulkEntries entries + 1
  | .held _ => 1
def uptoBulkAll {H : Type} : List (DataW H) → Nat
  | [] => 0
  | d :: r => uptoBulk d + uptoBulkAll r
def uptoBulkEntries {H : Type} : List (Lit × DataW H) → Nat
  | [] => 0
  | x :: r => uptoBulkEntry x + uptoBulkEntries r
def uptoBulkEntry {H : Type} : Lit × DataW H → Nat
  | (.string bytes, d) => bytes.length + uptoBulk d + 1
  | (_, d) => uptoBulk d + 1
 end
def uptoSmall : (H : Type) → List (DataW H) → Bool := fun _ ds => decide (uptoBulkAll ds ≤ 1048576)
def OpenSpec.upto (s : _root_.Go.ChangeSpec) : _root_.Go.OpenSpec := { _root_.Go.OpenSpec.ofChange s with cond := some uptoSmall }

/-- 'beadrolllaw01.OctetsSplits', WHERE WHAT IT READS IS OF BULK AT MOST 1048576: true; the input reads as it did. -/
def octetsSplitsUptoRow : OpenClaim := { program := "ythcbgoldkoobdaa", sum := "06bab2759eceb2e2b9d6e0107745f240c5b128e132603031513d4df18f5a66d8", func := "beadroll/beadrolllaw01.OctetsSplits", spec := "octetsSplits", unfollowed := true, recurses := true, apart := false, narrowed := true }
def OctetsSplitsUptoSaid : Prop := octetsSplitsUptoRow.holds Try.pinned (OpenSpec.upto octetsSplitsSpec)

/-- 'beadrolllaw01.OctetsPieces', WHERE WHAT IT READS IS OF BULK AT MOST 1048576: true; the input reads as it did. -/
def octetsPiecesUptoRow : OpenClaim := { program := "ythcbgoldkoobdaa", sum := "06bab2759eceb2e2b9d6e0107745f240c5b128e132603031513d4df18f5a66d8", func := "beadroll/beadrolllaw01.OctetsPieces", spec := "octetsPieces", unfollowed := true, recurses := true, apart := false, narrowed := true }
def OctetsPiecesUptoSaid : Prop := octetsPiecesUptoRow.holds Try.pinned (OpenSpec.upto octetsPiecesSpec)

/-- 'beadrolllaw06.FrameMakes', WHERE WHAT IT READS IS OF BULK AT MOST 1048576: true; the input reads as it did. -/
def frameMakesUptoRow : OpenClaim := { program := "ythcbgoldkoobdaa", sum := "06bab2759eceb2e2b9d6e0107745f240c5b128e132603031513d4df18f5a66d8", func := "beadroll/beadrolllaw06.FrameMakes", spec := "frameMakes", apart := false, narrowed := true }
def FrameMakesUptoSaid : Prop := frameMakesUptoRow.holds Try.pinned (OpenSpec.upto frameMakesSpec)

/-- 'beadrolllaw01.OctetsJoins', WHERE WHAT IT READS IS OF BULK AT MOST 1048576: true; the input reads as it did. -/
def octetsJoinsUptoRow : OpenClaim := { program := "ythcbgoldkoobdaa", sum := "06bab2759eceb2e2b9d6e0107745f240c5b128e132603031513d4df18f5a66d8", func := "beadroll/beadrolllaw01.OctetsJoins", spec := "octetsJoins", unfollowed := true, recurses := true, apart := false, narrowed := true }
def OctetsJoinsUptoSaid : Prop := octetsJoinsUptoRow.holds Try.pinned (OpenSpec.upto octetsJoinsSpec)

/-- 'beadrolllaw01.OctetsBack', WHERE WHAT IT READS IS OF BULK AT MOST 1048576: true; the input reads as it did. -/
def octetsBackUptoRow : OpenClaim := { program := "ythcbgoldkoobdaa", sum := "06bab2759eceb2e2b9d6e0107745f240c5b128e132603031513d4df18f5a66d8", func := "beadroll/beadrolllaw01.OctetsBack", spec := "octetsBack", unfollowed := true, recurses := true, apart := false, narrowed := true }
def OctetsBackUptoSaid : Prop := octetsBackUptoRow.holds Try.pinned (OpenSpec.upto octetsBackSpec)

/-- 'beadrolllaw01.OctetsCuts', WHERE WHAT IT READS IS OF BULK AT MOST 1048576: true; the input reads as it did. -/
def octetsCutsUptoRow : OpenClaim := { program := "ythcbgoldkoobdaa", sum := "06bab2759eceb2e2b9d6e0107745f240c5b128e132603031513d4df18f5a66d8", func := "beadroll/beadrolllaw01.OctetsCuts", spec := "octetsCuts", unfollowed := true, recurses := true, apart := false, narrowed := true }
def OctetsCutsUptoSaid : Prop := octetsCutsUptoRow.holds Try.pinned (OpenSpec.upto octetsCutsSpec)

/-- 'beadrolllaw01.OctetsRow', WHERE WHAT IT READS IS OF BULK AT MOST 1048576: true; the input reads as it did. -/
def octetsRowUptoRow : OpenClaim := { program := "ythcbgoldkoobdaa", sum := "06bab2759eceb2e2b9d6e0107745f240c5b128e132603031513d4df18f5a66d8", func := "beadroll/beadrolllaw01.OctetsRow", spec := "octetsRow", unfollowed := true, recurses := true, apart := false, narrowed := true }
def OctetsRowUptoSaid : Prop := octetsRowUptoRow.holds Try.pinned (OpenSpec.upto octetsRowSpec)

/-- 'beadrolllaw06.FrameScans', WHERE WHAT IT READS IS OF BULK AT MOST 1048576: true; the input reads as it did. -/
def frameScansUptoRow : OpenClaim := { program := "ythcbgoldkoobdaa", sum := "06bab2759eceb2e2b9d6e0107745f240c5b128e132603031513d4df18f5a66d8", func := "beadroll/beadrolllaw06.FrameScans", spec := "frameScans", unfollowed := true, recurses := true, apart := false, narrowed := true }
def FrameScansUptoSaid : Prop := frameScansUptoRow.holds Try.pinned (OpenSpec.upto frameScansSpec)

/-- 'beadrolllaw06.FrameBack', WHERE WHAT IT READS IS OF BULK AT MOST 1048576: true; the input reads as it did. -/
def frameBackUptoRow : OpenClaim := { program := "ythcbgoldkoobdaa", sum := "06bab2759eceb2e2b9d6e0107745f240c5b128e132603031513d4df18f5a66d8", func := "beadroll/beadrolllaw06.FrameBack", spec := "frameBack", unfollowed := true, recurses := true, apart := false, narrowed := true }
def FrameBackUptoSaid : Prop := frameBackUptoRow.holds Try.pinned (OpenSpec.upto frameBackSpec)

/-- 'beadrolllaw06.FrameTurns', WHERE WHAT IT READS IS OF BULK AT MOST 1048576: true; the input reads as it did. -/
def frameTurnsUptoRow : OpenClaim := { program := "ythcbgoldkoobdaa", sum := "06bab2759eceb2e2b9d6e0107745f240c5b128e132603031513d4df18f5a66d8", func := "beadroll/beadrolllaw06.FrameTurns", spec := "frameTurns", unfollowed := true, recurses := true, apart := false, narrowed := true }
def FrameTurnsUptoSaid : Prop := frameTurnsUptoRow.holds Try.pinned (OpenSpec.upto frameTurnsSpec)

/-- 'beadrolllaw06.FrameTail', WHERE WHAT IT READS IS OF BULK AT MOST 1048576: true; the input reads as it did. -/
def frameTailUptoRow : OpenClaim := { program := "ythcbgoldkoobdaa", sum := "06bab2759eceb2e2b9d6e0107745f240c5b128e132603031513d4df18f5a66d8", func := "beadroll/beadrolllaw06.FrameTail", spec := "frameTail", unfollowed := true, recurses := true, apart := false, narrowed := true }
def FrameTailUptoSaid : Prop := frameTailUptoRow.holds Try.pinned (OpenSpec.upto frameTailSpec)

end Rows
end Go.Proofs.Ythcbgoldkoobdaa
