/-
  No cell of these rows narrows 'for every input' (looked for: loops, veiled, ifaces, maps, wideKeys, modest, calm, conditions, laid).
  DERIVED. THE GIVEN ROWS OF THIS SEAT. 5 by the template 'for every input the law returns true; each argument reads behind the call as it read before'; 0 by the template 'total and deterministic' (their statements: YtekbecpcbfhdmaaTotals.lean).
  GIVEN WITH THE SEED: the statements are not yours to turn. If you find one false, say at which input.
  Laid BY PROGRAM, IN A SANDBOX (cutbox-rows.mjs): the forced cells as the released guide's own fill.sh prints them over the translation 907609cf53df0320… (all of the seat's roots in one cut). By AI agents, Wed Nov 11 2026. No macro, syntax, notation, axiom, sorry.
-/
import Derived.Test.YtekbecpcbfhdmaaChecked
import GoSem.Claim
import GoSem.ClaimJoined
import GoSem.ClaimMapViews
import Derived.JoinedTies
import Derived.KernelRfl
namespace Go.Proofs.Ytekbecpcbfhdmaa
/- THE CELL 'sum', in the pinned program and in every row, IS THE sha256 OF THE DUMP (.gsa) THAT YtekbecpcbfhdmaaProg.lean LOADS. Nothing in Lean hashes anything: it is a label: what it is worth is what the hold of that sum in a sandbox is worth. -/
noncomputable def Try.pinned : Pinned := { name := "ytekbecpcbfhdmaa", sum := "907609cf53df0320755be9974b1f151d78389a52e2c9367f9cc3034da2bed9b8", checked := Try.checked }
namespace Rows
def none {H : Type} : Left H := { results := [], args := [] }

/-- 'beadrolllaw09.PackMakes': WHATEVER THE INPUT: true; the input reads as it did. -/
def packMakesSpec : ChangeSpec := { name := "packMakes", fn := fun _ => fun
  | [d] => { results := [.lit (.bool true)], args := [d] }
  | _ => none }
def packMakesRow : OpenClaim := { program := "ytekbecpcbfhdmaa", sum := "907609cf53df0320755be9974b1f151d78389a52e2c9367f9cc3034da2bed9b8", func := "beadroll/beadrolllaw09.PackMakes", spec := "packMakes", unfollowed := true, recurses := true, apart := false }
def PackMakesSaid : Prop := packMakesRow.holds Try.pinned (OpenSpec.ofChange packMakesSpec)

/-- ITS FALSE NEIGHBOUR: 'it returns false'. Refute it at one input. -/
def packMakesWrong : ChangeSpec := { name := "packMakes", fn := fun _ => fun
  | [d] => { results := [.lit (.bool false)], args := [d] }
  | _ => none }
def PackMakesWrongFalsely : Prop := packMakesRow.holds Try.pinned (OpenSpec.ofChange packMakesWrong)

/-- 'beadrolllaw09.PackPlain': WHATEVER THE INPUT: true; the input reads as it did. -/
def packPlainSpec : ChangeSpec := { name := "packPlain", fn := fun _ => fun
  | [d1, d2] => { results := [.lit (.bool true)], args := [d1, d2] }
  | _ => none }
def packPlainRow : OpenClaim := { program := "ytekbecpcbfhdmaa", sum := "907609cf53df0320755be9974b1f151d78389a52e2c9367f9cc3034da2bed9b8", func := "beadroll/beadrolllaw09.PackPlain", spec := "packPlain", unfollowed := true, recurses := true, apart := false }
def PackPlainSaid : Prop := packPlainRow.holds Try.pinned (OpenSpec.ofChange packPlainSpec)

/-- ITS FALSE NEIGHBOUR: 'it returns false'. Refute it at one input. -/
def packPlainWrong : ChangeSpec := { name := "packPlain", fn := fun _ => fun
  | [d1, d2] => { results := [.lit (.bool false)], args := [d1, d2] }
  | _ => none }
def PackPlainWrongFalsely : Prop := packPlainRow.holds Try.pinned (OpenSpec.ofChange packPlainWrong)

/-- 'beadrolllaw09.PackReads': WHATEVER THE INPUT: true; the input reads as it did. -/
def packReadsSpec : ChangeSpec := { name := "packReads", fn := fun _ => fun
  | [d1, d2] => { results := [.lit (.bool true)], args := [d1, d2] }
  | _ => none }
def packReadsRow : OpenClaim := { program := "ytekbecpcbfhdmaa", sum := "907609cf53df0320755be9974b1f151d78389a52e2c9367f9cc3034da2bed9b8", func := "beadroll/beadrolllaw09.PackReads", spec := "packReads", unfollowed := true, recurses := true, apart := false }
def PackReadsSaid : Prop := packReadsRow.holds Try.pinned (OpenSpec.ofChange packReadsSpec)

/-- ITS FALSE NEIGHBOUR: 'it returns false'. Refute it at one input. -/
def packReadsWrong : ChangeSpec := { name := "packReads", fn := fun _ => fun
  | [d1, d2] => { results := [.lit (.bool false)], args := [d1, d2] }
  | _ => none }
def PackReadsWrongFalsely : Prop := packReadsRow.holds Try.pinned (OpenSpec.ofChange packReadsWrong)

/-- 'beadrolllaw09.PackBack': WHATEVER THE INPUT: true; the input reads as it did. -/
def packBackSpec : ChangeSpec := { name := "packBack", fn := fun _ => fun
  | [d] => { results := [.lit (.bool true)], args := [d] }
  | _ => none }
def packBackRow : OpenClaim := { program := "ytekbecpcbfhdmaa", sum := "907609cf53df0320755be9974b1f151d78389a52e2c9367f9cc3034da2bed9b8", func := "beadroll/beadrolllaw09.PackBack", spec := "packBack", unfollowed := true, recurses := true, apart := false }
def PackBackSaid : Prop := packBackRow.holds Try.pinned (OpenSpec.ofChange packBackSpec)

/-- ITS FALSE NEIGHBOUR: 'it returns false'. Refute it at one input. -/
def packBackWrong : ChangeSpec := { name := "packBack", fn := fun _ => fun
  | [d] => { results := [.lit (.bool false)], args := [d] }
  | _ => none }
def PackBackWrongFalsely : Prop := packBackRow.holds Try.pinned (OpenSpec.ofChange packBackWrong)

/-- 'beadrolllaw09.PackLoops': WHATEVER THE INPUT: true; the input reads as it did. -/
def packLoopsSpec : ChangeSpec := { name := "packLoops", fn := fun _ => fun
  | [d1, d2] => { results := [.lit (.bool true)], args := [d1, d2] }
  | _ => none }
def packLoopsRow : OpenClaim := { program := "ytekbecpcbfhdmaa", sum := "907609cf53df0320755be9974b1f151d78389a52e2c9367f9cc3034da2bed9b8", func := "beadroll/beadrolllaw09.PackLoops", spec := "packLoops", unfollowed := true, recurses := true, apart := false }
def PackLoopsSaid : Prop := packLoopsRow.holds Try.pinned (OpenSpec.ofChange packLoopsSpec)

/-- ITS FALSE NEIGHBOUR: 'it returns false'. Refute it at one input. -/
def packLoopsWrong : ChangeSpec := { name := "packLoops", fn := fun _ => fun
  | [d1, d2] => { results := [.lit (.bool false)], args := [d1, d2] }
  | _ => none }
def PackLoopsWrongFalsely : Prop := packLoopsRow.holds Try.pinned (OpenSpec.ofChange packLoopsWrong)

/- THE SECOND FORM. 'bulk': how many values and letters a reading holds, each counted each time it is reached (what is shared counts as often as it is met; a slice's spare places count too). A statement '..UptoSaid' is the law's where the arguments, and the package variables that the reading takes, are together of bulk at most 1048576: NARROWER than '..Said'. Prove '..Said' where nothing that the law and all that it calls make is longer than what came in: it says more and counts as full. Else prove '..UptoSaid'. A law counts once. -/
mutual
def uptoBulk {H : Type} : DataW H → Nat
  | .lit (.string bytes) => bytes.length + 1
  | .lit _ => 1
  | .nil => 1
  | .ptr d => uptoBulk d + 1
  | .slice elems spare => uptoBulkAll elems + uptoBulkAll spare + 1
  | .agg parts => uptoBulkAll parts + 1
  | .iface _ d => uptoBulk d + 1
  | .map entries => uptoBulkEntries entries + 1
  | .held _ => 1
def uptoBulkAll {H : Type} : List (DataW H) → Nat
  | [] => 0
  | d :: r => uptoBulk d + uptoBulkAll r
def uptoBulkEntries {H : Type} : List (Lit × DataW H) → Nat
  | [] => 0
  | x :: r => uptoBulkEntry x + uptoBulkEntries r
def uptoBulkEntry {H : Type} : Lit × DataW H → Nat
  | (.string bytes, d) => bytes.length + uptoBulk d + 1
  | (_, d) => uptoBulk d + 1
 end
def uptoSmall : (H : Type) → List (DataW H) → Bool := fun _ ds => decide (uptoBulkAll ds ≤ 1048576)
def OpenSpec.upto (s : _root_.Go.ChangeSpec) : _root_.Go.OpenSpec := { _root_.Go.OpenSpec.ofChange s with cond := some uptoSmall }

/-- 'beadrolllaw09.PackMakes', WHERE WHAT IT READS IS OF BULK AT MOST 1048576: true; the input reads as it did. -/
def packMakesUptoRow : OpenClaim := { program := "ytekbecpcbfhdmaa", sum := "907609cf53df0320755be9974b1f151d78389a52e2c9367f9cc3034da2bed9b8", func := "beadroll/beadrolllaw09.PackMakes", spec := "packMakes", unfollowed := true, recurses := true, apart := false, narrowed := true }
def PackMakesUptoSaid : Prop := packMakesUptoRow.holds Try.pinned (OpenSpec.upto packMakesSpec)

/-- 'beadrolllaw09.PackPlain', WHERE WHAT IT READS IS OF BULK AT MOST 1048576: true; the input reads as it did. -/
def packPlainUptoRow : OpenClaim := { program := "ytekbecpcbfhdmaa", sum := "907609cf53df0320755be9974b1f151d78389a52e2c9367f9cc3034da2bed9b8", func := "beadroll/beadrolllaw09.PackPlain", spec := "packPlain", unfollowed := true, recurses := true, apart := false, narrowed := true }
def PackPlainUptoSaid : Prop := packPlainUptoRow.holds Try.pinned (OpenSpec.upto packPlainSpec)

/-- 'beadrolllaw09.PackReads', WHERE WHAT IT READS IS OF BULK AT MOST 1048576: true; the input reads as it did. -/
def packReadsUptoRow : OpenClaim := { program := "ytekbecpcbfhdmaa", sum := "907609cf53df0320755be9974b1f151d78389a52e2c9367f9cc3034da2bed9b8", func := "beadroll/beadrolllaw09.PackReads", spec := "packReads", unfollowed := true, recurses := true, apart := false, narrowed := true }
def PackReadsUptoSaid : Prop := packReadsUptoRow.holds Try.pinned (OpenSpec.upto packReadsSpec)

/-- 'beadrolllaw09.PackBack', WHERE WHAT IT READS IS OF BULK AT MOST 1048576: true; the input reads as it did. -/
def packBackUptoRow : OpenClaim := { program := "ytekbecpcbfhdmaa", sum := "907609cf53df0320755be9974b1f151d78389a52e2c9367f9cc3034da2bed9b8", func := "beadroll/beadrolllaw09.PackBack", spec := "packBack", unfollowed := true, recurses := true, apart := false, narrowed := true }
def PackBackUptoSaid : Prop := packBackUptoRow.holds Try.pinned (OpenSpec.upto packBackSpec)

/-- 'beadrolllaw09.PackLoops', WHERE WHAT IT READS IS OF BULK AT MOST 1048576: true; the input reads as it did. -/
def packLoopsUptoRow : OpenClaim := { program := "ytekbecpcbfhdmaa", sum := "907609cf53df0320755be9974b1f151d78389a52e2c9367f9cc3034da2bed9b8", func := "beadroll/beadrolllaw09.PackLoops", spec := "packLoops", unfollowed := true, recurses := true, apart := false, narrowed := true }
def PackLoopsUptoSaid : Prop := packLoopsUptoRow.holds Try.pinned (OpenSpec.upto packLoopsSpec)

end Rows
end Go.Proofs.Ytekbecpcbfhdmaa
