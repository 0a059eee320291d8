/-
  No cell of these rows narrows 'for every input' (looked for: loops, veiled, ifaces, maps, wideKeys, modest, calm, conditions, laid).
  DERIVED. THE GIVEN ROWS OF THIS SEAT. 10 by the template 'for every input the law returns true; each argument reads behind the call as it read before'; 0 by the template 'total and deterministic' (their statements: YtfkfmnffcnfehaaTotals.lean).
  GIVEN WITH THE SEED: the statements are not yours to turn. If you find one false, say at which input.
  Laid BY PROGRAM, IN A SANDBOX (cutbox-rows.mjs): the forced cells as the released guide's own fill.sh prints them over the translation b3f1413b093d5cd0… (all of the seat's roots in one cut). By AI agents, Wed Nov 11 2026. No macro, syntax, notation, axiom, sorry.
-/
import Derived.Test.YtfkfmnffcnfehaaChecked
import GoSem.Claim
import GoSem.ClaimJoined
import GoSem.ClaimMapViews
import Derived.JoinedTies
import Derived.KernelRfl
namespace Go.Proofs.Ytfkfmnffcnfehaa
/- THE CELL 'sum', in the pinned program and in every row, IS THE sha256 OF THE DUMP (.gsa) THAT YtfkfmnffcnfehaaProg.lean LOADS. Nothing in Lean hashes anything: it is a label: what it is worth is what the hold of that sum in a sandbox is worth. -/
noncomputable def Try.pinned : Pinned := { name := "ytfkfmnffcnfehaa", sum := "b3f1413b093d5cd07323d9ef78777c16262d4c25e72c658b77448f83045f2852", checked := Try.checked }
namespace Rows
def none {H : Type} : Left H := { results := [], args := [] }

/-- 'beadrolllaw02.SerialBetween': WHATEVER THE INPUT: true; the input reads as it did. -/
def serialBetweenSpec : ChangeSpec := { name := "serialBetween", fn := fun _ => fun
  | [d1, d2, d3] => { results := [.lit (.bool true)], args := [d1, d2, d3] }
  | _ => none }
def serialBetweenRow : OpenClaim := { program := "ytfkfmnffcnfehaa", sum := "b3f1413b093d5cd07323d9ef78777c16262d4c25e72c658b77448f83045f2852", func := "beadroll/beadrolllaw02.SerialBetween", spec := "serialBetween", apart := false }
def SerialBetweenSaid : Prop := serialBetweenRow.holds Try.pinned (OpenSpec.ofChange serialBetweenSpec)

/-- ITS FALSE NEIGHBOUR: 'it returns false'. Refute it at one input. -/
def serialBetweenWrong : ChangeSpec := { name := "serialBetween", fn := fun _ => fun
  | [d1, d2, d3] => { results := [.lit (.bool false)], args := [d1, d2, d3] }
  | _ => none }
def SerialBetweenWrongFalsely : Prop := serialBetweenRow.holds Try.pinned (OpenSpec.ofChange serialBetweenWrong)

/-- 'beadrolllaw02.SerialAdds': WHATEVER THE INPUT: true; the input reads as it did. -/
def serialAddsSpec : ChangeSpec := { name := "serialAdds", fn := fun _ => fun
  | [d1, d2] => { results := [.lit (.bool true)], args := [d1, d2] }
  | _ => none }
def serialAddsRow : OpenClaim := { program := "ytfkfmnffcnfehaa", sum := "b3f1413b093d5cd07323d9ef78777c16262d4c25e72c658b77448f83045f2852", func := "beadroll/beadrolllaw02.SerialAdds", spec := "serialAdds", apart := false }
def SerialAddsSaid : Prop := serialAddsRow.holds Try.pinned (OpenSpec.ofChange serialAddsSpec)

/-- ITS FALSE NEIGHBOUR: 'it returns false'. Refute it at one input. -/
def serialAddsWrong : ChangeSpec := { name := "serialAdds", fn := fun _ => fun
  | [d1, d2] => { results := [.lit (.bool false)], args := [d1, d2] }
  | _ => none }
def SerialAddsWrongFalsely : Prop := serialAddsRow.holds Try.pinned (OpenSpec.ofChange serialAddsWrong)

/-- 'beadrolllaw02.SerialRuns': WHATEVER THE INPUT: true; the input reads as it did. -/
def serialRunsSpec : ChangeSpec := { name := "serialRuns", fn := fun _ => fun
  | [d1, d2, d3] => { results := [.lit (.bool true)], args := [d1, d2, d3] }
  | _ => none }
def serialRunsRow : OpenClaim := { program := "ytfkfmnffcnfehaa", sum := "b3f1413b093d5cd07323d9ef78777c16262d4c25e72c658b77448f83045f2852", func := "beadroll/beadrolllaw02.SerialRuns", spec := "serialRuns", apart := false }
def SerialRunsSaid : Prop := serialRunsRow.holds Try.pinned (OpenSpec.ofChange serialRunsSpec)

/-- ITS FALSE NEIGHBOUR: 'it returns false'. Refute it at one input. -/
def serialRunsWrong : ChangeSpec := { name := "serialRuns", fn := fun _ => fun
  | [d1, d2, d3] => { results := [.lit (.bool false)], args := [d1, d2, d3] }
  | _ => none }
def SerialRunsWrongFalsely : Prop := serialRunsRow.holds Try.pinned (OpenSpec.ofChange serialRunsWrong)

/-- 'beadrolllaw02.SerialTells': WHATEVER THE INPUT: true; the input reads as it did. -/
def serialTellsSpec : ChangeSpec := { name := "serialTells", fn := fun _ => fun
  | [d1, d2] => { results := [.lit (.bool true)], args := [d1, d2] }
  | _ => none }
def serialTellsRow : OpenClaim := { program := "ytfkfmnffcnfehaa", sum := "b3f1413b093d5cd07323d9ef78777c16262d4c25e72c658b77448f83045f2852", func := "beadroll/beadrolllaw02.SerialTells", spec := "serialTells", apart := false }
def SerialTellsSaid : Prop := serialTellsRow.holds Try.pinned (OpenSpec.ofChange serialTellsSpec)

/-- ITS FALSE NEIGHBOUR: 'it returns false'. Refute it at one input. -/
def serialTellsWrong : ChangeSpec := { name := "serialTells", fn := fun _ => fun
  | [d1, d2] => { results := [.lit (.bool false)], args := [d1, d2] }
  | _ => none }
def SerialTellsWrongFalsely : Prop := serialTellsRow.holds Try.pinned (OpenSpec.ofChange serialTellsWrong)

/-- 'beadrolllaw02.SerialTurns': WHATEVER THE INPUT: true; the input reads as it did. -/
def serialTurnsSpec : ChangeSpec := { name := "serialTurns", fn := fun _ => fun
  | [d1, d2] => { results := [.lit (.bool true)], args := [d1, d2] }
  | _ => none }
def serialTurnsRow : OpenClaim := { program := "ytfkfmnffcnfehaa", sum := "b3f1413b093d5cd07323d9ef78777c16262d4c25e72c658b77448f83045f2852", func := "beadroll/beadrolllaw02.SerialTurns", spec := "serialTurns", apart := false }
def SerialTurnsSaid : Prop := serialTurnsRow.holds Try.pinned (OpenSpec.ofChange serialTurnsSpec)

/-- ITS FALSE NEIGHBOUR: 'it returns false'. Refute it at one input. -/
def serialTurnsWrong : ChangeSpec := { name := "serialTurns", fn := fun _ => fun
  | [d1, d2] => { results := [.lit (.bool false)], args := [d1, d2] }
  | _ => none }
def SerialTurnsWrongFalsely : Prop := serialTurnsRow.holds Try.pinned (OpenSpec.ofChange serialTurnsWrong)

/-- 'beadrolllaw05.CrcSums': WHATEVER THE INPUT: true; the input reads as it did. -/
def crcSumsSpec : ChangeSpec := { name := "crcSums", fn := fun _ => fun
  | [d1, d2] => { results := [.lit (.bool true)], args := [d1, d2] }
  | _ => none }
def crcSumsRow : OpenClaim := { program := "ytfkfmnffcnfehaa", sum := "b3f1413b093d5cd07323d9ef78777c16262d4c25e72c658b77448f83045f2852", func := "beadroll/beadrolllaw05.CrcSums", spec := "crcSums", apart := false }
def CrcSumsSaid : Prop := crcSumsRow.holds Try.pinned (OpenSpec.ofChange crcSumsSpec)

/-- ITS FALSE NEIGHBOUR: 'it returns false'. Refute it at one input. -/
def crcSumsWrong : ChangeSpec := { name := "crcSums", fn := fun _ => fun
  | [d1, d2] => { results := [.lit (.bool false)], args := [d1, d2] }
  | _ => none }
def CrcSumsWrongFalsely : Prop := crcSumsRow.holds Try.pinned (OpenSpec.ofChange crcSumsWrong)

/-- 'beadrolllaw05.CrcFlips': WHATEVER THE INPUT: true; the input reads as it did. -/
def crcFlipsSpec : ChangeSpec := { name := "crcFlips", fn := fun _ => fun
  | [d1, d2] => { results := [.lit (.bool true)], args := [d1, d2] }
  | _ => none }
def crcFlipsRow : OpenClaim := { program := "ytfkfmnffcnfehaa", sum := "b3f1413b093d5cd07323d9ef78777c16262d4c25e72c658b77448f83045f2852", func := "beadroll/beadrolllaw05.CrcFlips", spec := "crcFlips", apart := false }
def CrcFlipsSaid : Prop := crcFlipsRow.holds Try.pinned (OpenSpec.ofChange crcFlipsSpec)

/-- ITS FALSE NEIGHBOUR: 'it returns false'. Refute it at one input. -/
def crcFlipsWrong : ChangeSpec := { name := "crcFlips", fn := fun _ => fun
  | [d1, d2] => { results := [.lit (.bool false)], args := [d1, d2] }
  | _ => none }
def CrcFlipsWrongFalsely : Prop := crcFlipsRow.holds Try.pinned (OpenSpec.ofChange crcFlipsWrong)

/-- 'beadrolllaw05.CrcBursts': WHATEVER THE INPUT: true; the input reads as it did. -/
def crcBurstsSpec : ChangeSpec := { name := "crcBursts", fn := fun _ => fun
  | [d1, d2, d3] => { results := [.lit (.bool true)], args := [d1, d2, d3] }
  | _ => none }
def crcBurstsRow : OpenClaim := { program := "ytfkfmnffcnfehaa", sum := "b3f1413b093d5cd07323d9ef78777c16262d4c25e72c658b77448f83045f2852", func := "beadroll/beadrolllaw05.CrcBursts", spec := "crcBursts", apart := false }
def CrcBurstsSaid : Prop := crcBurstsRow.holds Try.pinned (OpenSpec.ofChange crcBurstsSpec)

/-- ITS FALSE NEIGHBOUR: 'it returns false'. Refute it at one input. -/
def crcBurstsWrong : ChangeSpec := { name := "crcBursts", fn := fun _ => fun
  | [d1, d2, d3] => { results := [.lit (.bool false)], args := [d1, d2, d3] }
  | _ => none }
def CrcBurstsWrongFalsely : Prop := crcBurstsRow.holds Try.pinned (OpenSpec.ofChange crcBurstsWrong)

/-- 'beadrolllaw05.CrcTurns': WHATEVER THE INPUT: true; the input reads as it did. -/
def crcTurnsSpec : ChangeSpec := { name := "crcTurns", fn := fun _ => fun
  | [d1, d2, d3] => { results := [.lit (.bool true)], args := [d1, d2, d3] }
  | _ => none }
def crcTurnsRow : OpenClaim := { program := "ytfkfmnffcnfehaa", sum := "b3f1413b093d5cd07323d9ef78777c16262d4c25e72c658b77448f83045f2852", func := "beadroll/beadrolllaw05.CrcTurns", spec := "crcTurns", apart := false }
def CrcTurnsSaid : Prop := crcTurnsRow.holds Try.pinned (OpenSpec.ofChange crcTurnsSpec)

/-- ITS FALSE NEIGHBOUR: 'it returns false'. Refute it at one input. -/
def crcTurnsWrong : ChangeSpec := { name := "crcTurns", fn := fun _ => fun
  | [d1, d2, d3] => { results := [.lit (.bool false)], args := [d1, d2, d3] }
  | _ => none }
def CrcTurnsWrongFalsely : Prop := crcTurnsRow.holds Try.pinned (OpenSpec.ofChange crcTurnsWrong)

/-- 'beadrolllaw05.CrcParts': WHATEVER THE INPUT: true; the input reads as it did. -/
def crcPartsSpec : ChangeSpec := { name := "crcParts", fn := fun _ => fun
  | [d] => { results := [.lit (.bool true)], args := [d] }
  | _ => none }
def crcPartsRow : OpenClaim := { program := "ytfkfmnffcnfehaa", sum := "b3f1413b093d5cd07323d9ef78777c16262d4c25e72c658b77448f83045f2852", func := "beadroll/beadrolllaw05.CrcParts", spec := "crcParts", apart := false }
def CrcPartsSaid : Prop := crcPartsRow.holds Try.pinned (OpenSpec.ofChange crcPartsSpec)

/-- ITS FALSE NEIGHBOUR: 'it returns false'. Refute it at one input. -/
def crcPartsWrong : ChangeSpec := { name := "crcParts", fn := fun _ => fun
  | [d] => { results := [.lit (.bool false)], args := [d] }
  | _ => none }
def CrcPartsWrongFalsely : Prop := crcPartsRow.holds Try.pinned (OpenSpec.ofChange crcPartsWrong)

/- THE SECOND FORM. 'bulk': how many values and letters a reading holds, each counted each time it is reached (what is shared counts as often as it is met; a slice's spare places count too). A statement '..UptoSaid' is the law's where the arguments, and the package variables that the reading takes, are together of bulk at most 1048576: NARROWER than '..Said'. Prove '..Said' where nothing that the law and all that it calls make is longer than what came in: it says more and counts as full. Else prove '..UptoSaid'. A law counts once. -/
mutual
def uptoBulk {H : Type} : DataW H → Nat
  | .lit (.string bytes) => bytes.length + 1
  | .lit _ => 1
  | .nil => 1
  | .ptr d => uptoBulk d + 1
  | .slice elems spare => uptoBulkAll elems + uptoBulkAll spare + 1
  | .agg parts => uptoBulkAll parts + 1
  | .iface _ d => uptoBulk d + 1
  | .map entries => uptoBulkEntries entries + 1
  | .held _ => 1
def uptoBulkAll {H : Type} : List (DataW H) → Nat
  | [] => 0
  | d :: r => uptoBulk d + uptoBulkAll r
def uptoBulkEntries {H : Type} : List (Lit × DataW H) → Nat
  | [] => 0
  | x :: r => uptoBulkEntry x + uptoBulkEntries r
def uptoBulkEntry {H : Type} : Lit × DataW H → Nat
  | (.string bytes, d) => bytes.length + uptoBulk d + 1
  | (_, d) => uptoBulk d + 1
 end
def uptoSmall : (H : Type) → List (DataW H) → Bool := fun _ ds => decide (uptoBulkAll ds ≤ 1048576)
def OpenSpec.upto (s : _root_.Go.ChangeSpec) : _root_.Go.OpenSpec := { _root_.Go.OpenSpec.ofChange s with cond := some uptoSmall }

/-- 'beadrolllaw02.SerialBetween', WHERE WHAT IT READS IS OF BULK AT MOST 1048576: true; the input reads as it did. -/
def serialBetweenUptoRow : OpenClaim := { program := "ytfkfmnffcnfehaa", sum := "b3f1413b093d5cd07323d9ef78777c16262d4c25e72c658b77448f83045f2852", func := "beadroll/beadrolllaw02.SerialBetween", spec := "serialBetween", apart := false, narrowed := true }
def SerialBetweenUptoSaid : Prop := serialBetweenUptoRow.holds Try.pinned (OpenSpec.upto serialBetweenSpec)

/-- 'beadrolllaw02.SerialAdds', WHERE WHAT IT READS IS OF BULK AT MOST 1048576: true; the input reads as it did. -/
def serialAddsUptoRow : OpenClaim := { program := "ytfkfmnffcnfehaa", sum := "b3f1413b093d5cd07323d9ef78777c16262d4c25e72c658b77448f83045f2852", func := "beadroll/beadrolllaw02.SerialAdds", spec := "serialAdds", apart := false, narrowed := true }
def SerialAddsUptoSaid : Prop := serialAddsUptoRow.holds Try.pinned (OpenSpec.upto serialAddsSpec)

/-- 'beadrolllaw02.SerialRuns', WHERE WHAT IT READS IS OF BULK AT MOST 1048576: true; the input reads as it did. -/
def serialRunsUptoRow : OpenClaim := { program := "ytfkfmnffcnfehaa", sum := "b3f1413b093d5cd07323d9ef78777c16262d4c25e72c658b77448f83045f2852", func := "beadroll/beadrolllaw02.SerialRuns", spec := "serialRuns", apart := false, narrowed := true }
def SerialRunsUptoSaid : Prop := serialRunsUptoRow.holds Try.pinned (OpenSpec.upto serialRunsSpec)

/-- 'beadrolllaw02.SerialTells', WHERE WHAT IT READS IS OF BULK AT MOST 1048576: true; the input reads as it did. -/
def serialTellsUptoRow : OpenClaim := { program := "ytfkfmnffcnfehaa", sum := "b3f1413b093d5cd07323d9ef78777c16262d4c25e72c658b77448f83045f2852", func := "beadroll/beadrolllaw02.SerialTells", spec := "serialTells", apart := false, narrowed := true }
def SerialTellsUptoSaid : Prop := serialTellsUptoRow.holds Try.pinned (OpenSpec.upto serialTellsSpec)

/-- 'beadrolllaw02.SerialTurns', WHERE WHAT IT READS IS OF BULK AT MOST 1048576: true; the input reads as it did. -/
def serialTurnsUptoRow : OpenClaim := { program := "ytfkfmnffcnfehaa", sum := "b3f1413b093d5cd07323d9ef78777c16262d4c25e72c658b77448f83045f2852", func := "beadroll/beadrolllaw02.SerialTurns", spec := "serialTurns", apart := false, narrowed := true }
def SerialTurnsUptoSaid : Prop := serialTurnsUptoRow.holds Try.pinned (OpenSpec.upto serialTurnsSpec)

/-- 'beadrolllaw05.CrcSums', WHERE WHAT IT READS IS OF BULK AT MOST 1048576: true; the input reads as it did. -/
def crcSumsUptoRow : OpenClaim := { program := "ytfkfmnffcnfehaa", sum := "b3f1413b093d5cd07323d9ef78777c16262d4c25e72c658b77448f83045f2852", func := "beadroll/beadrolllaw05.CrcSums", spec := "crcSums", apart := false, narrowed := true }
def CrcSumsUptoSaid : Prop := crcSumsUptoRow.holds Try.pinned (OpenSpec.upto crcSumsSpec)

/-- 'beadrolllaw05.CrcFlips', WHERE WHAT IT READS IS OF BULK AT MOST 1048576: true; the input reads as it did. -/
def crcFlipsUptoRow : OpenClaim := { program := "ytfkfmnffcnfehaa", sum := "b3f1413b093d5cd07323d9ef78777c16262d4c25e72c658b77448f83045f2852", func := "beadroll/beadrolllaw05.CrcFlips", spec := "crcFlips", apart := false, narrowed := true }
def CrcFlipsUptoSaid : Prop := crcFlipsUptoRow.holds Try.pinned (OpenSpec.upto crcFlipsSpec)

/-- 'beadrolllaw05.CrcBursts', WHERE WHAT IT READS IS OF BULK AT MOST 1048576: true; the input reads as it did. -/
def crcBurstsUptoRow : OpenClaim := { program := "ytfkfmnffcnfehaa", sum := "b3f1413b093d5cd07323d9ef78777c16262d4c25e72c658b77448f83045f2852", func := "beadroll/beadrolllaw05.CrcBursts", spec := "crcBursts", apart := false, narrowed := true }
def CrcBurstsUptoSaid : Prop := crcBurstsUptoRow.holds Try.pinned (OpenSpec.upto crcBurstsSpec)

/-- 'beadrolllaw05.CrcTurns', WHERE WHAT IT READS IS OF BULK AT MOST 1048576: true; the input reads as it did. -/
def crcTurnsUptoRow : OpenClaim := { program := "ytfkfmnffcnfehaa", sum := "b3f1413b093d5cd07323d9ef78777c16262d4c25e72c658b77448f83045f2852", func := "beadroll/beadrolllaw05.CrcTurns", spec := "crcTurns", apart := false, narrowed := true }
def CrcTurnsUptoSaid : Prop := crcTurnsUptoRow.holds Try.pinned (OpenSpec.upto crcTurnsSpec)

/-- 'beadrolllaw05.CrcParts', WHERE WHAT IT READS IS OF BULK AT MOST 1048576: true; the input reads as it did. -/
def crcPartsUptoRow : OpenClaim := { program := "ytfkfmnffcnfehaa", sum := "b3f1413b093d5cd07323d9ef78777c16262d4c25e72c658b77448f83045f2852", func := "beadroll/beadrolllaw05.CrcParts", spec := "crcParts", apart := false, narrowed := true }
def CrcPartsUptoSaid : Prop := crcPartsUptoRow.holds Try.pinned (OpenSpec.upto crcPartsSpec)

end Rows
end Go.Proofs.Ytfkfmnffcnfehaa
