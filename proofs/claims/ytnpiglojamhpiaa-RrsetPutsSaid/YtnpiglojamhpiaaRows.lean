/-
  No cell of these rows narrows 'for every input' (looked for: loops, veiled, ifaces, maps, wideKeys, modest, calm, conditions, laid).
  DERIVED. THE GIVEN ROWS OF THIS SEAT. 2 by the template 'for every input the law returns true; each argument reads behind the call as it read before'; 0 by the template 'total and deterministic' (their statements: YtnpiglojamhpiaaTotals.lean).
  GIVEN WITH THE SEED: the statements are not yours to turn. If you find one false, say at which input.
  Laid BY PROGRAM, IN A SANDBOX (cutbox-rows.mjs): the forced cells as the released guide's own fill.sh prints them over the translation aba4505e151f6077… (all of the seat's roots in one cut). By AI agents, Wed Nov 11 2026. No macro, syntax, notation, axiom, sorry.
-/
import Derived.Test.YtnpiglojamhpiaaChecked
import GoSem.Claim
import GoSem.ClaimJoined
import GoSem.ClaimMapViews
import Derived.JoinedTies
import Derived.KernelRfl
namespace Go.Proofs.Ytnpiglojamhpiaa
/- THE CELL 'sum', in the pinned program and in every row, IS THE sha256 OF THE DUMP (.gsa) THAT YtnpiglojamhpiaaProg.lean LOADS. Nothing in Lean hashes anything: it is a label: what it is worth is what the hold of that sum in a sandbox is worth. -/
noncomputable def Try.pinned : Pinned := { name := "ytnpiglojamhpiaa", sum := "aba4505e151f6077d07aadf700253ce79719718c0a30579f0ba9c14d2b477fa9", checked := Try.checked }
namespace Rows
def none {H : Type} : Left H := { results := [], args := [] }

/-- 'beadrolllaw13.RrsetPuts': WHATEVER THE INPUT: true; the input reads as it did. -/
def rrsetPutsSpec : ChangeSpec := { name := "rrsetPuts", fn := fun _ => fun
  | [d1, d2] => { results := [.lit (.bool true)], args := [d1, d2] }
  | _ => none }
def rrsetPutsRow : OpenClaim := { program := "ytnpiglojamhpiaa", sum := "aba4505e151f6077d07aadf700253ce79719718c0a30579f0ba9c14d2b477fa9", func := "beadroll/beadrolllaw13.RrsetPuts", spec := "rrsetPuts", inPlace := ["internal/abi.NoEscape", "slices.overlaps[beadroll/api.RR]"], unfollowed := true, recurses := true, apart := false }
def RrsetPutsSaid : Prop := rrsetPutsRow.holds Try.pinned (OpenSpec.ofChange rrsetPutsSpec)

/-- ITS FALSE NEIGHBOUR: 'it returns false'. Refute it at one input. -/
def rrsetPutsWrong : ChangeSpec := { name := "rrsetPuts", fn := fun _ => fun
  | [d1, d2] => { results := [.lit (.bool false)], args := [d1, d2] }
  | _ => none }
def RrsetPutsWrongFalsely : Prop := rrsetPutsRow.holds Try.pinned (OpenSpec.ofChange rrsetPutsWrong)

/-- 'beadrolllaw13.RrsetFinds': WHATEVER THE INPUT: true; the input reads as it did. -/
def rrsetFindsSpec : ChangeSpec := { name := "rrsetFinds", fn := fun _ => fun
  | [d1, d2] => { results := [.lit (.bool true)], args := [d1, d2] }
  | _ => none }
def rrsetFindsRow : OpenClaim := { program := "ytnpiglojamhpiaa", sum := "aba4505e151f6077d07aadf700253ce79719718c0a30579f0ba9c14d2b477fa9", func := "beadroll/beadrolllaw13.RrsetFinds", spec := "rrsetFinds", inPlace := ["internal/abi.NoEscape", "slices.overlaps[beadroll/api.RR]"], unfollowed := true, recurses := true, apart := false }
def RrsetFindsSaid : Prop := rrsetFindsRow.holds Try.pinned (OpenSpec.ofChange rrsetFindsSpec)

/-- ITS FALSE NEIGHBOUR: 'it returns false'. Refute it at one input. -/
def rrsetFindsWrong : ChangeSpec := { name := "rrsetFinds", fn := fun _ => fun
  | [d1, d2] => { results := [.lit (.bool false)], args := [d1, d2] }
  | _ => none }
def RrsetFindsWrongFalsely : Prop := rrsetFindsRow.holds Try.pinned (OpenSpec.ofChange rrsetFindsWrong)

/- THE SECOND FORM. 'bulk': how many values and letters a reading holds, each counted each time it is reached (what is shared counts as often as it is met; a slice's spare places count too). A statement '..UptoSaid' is the law's where the arguments, and the package variables that the reading takes, are together of bulk at most 1048576: NARROWER than '..Said'. Prove '..Said' where nothing that the law and all that it calls make is longer than what came in: it says more and counts as full. Else prove '..UptoSaid'. A law counts once. -/
mutual
def uptoBulk {H : Type} : DataW H → Nat
  | .lit (.string bytes) => bytes.length + 1
  | .lit _ => 1
  | .nil => 1
  | .ptr d => uptoBulk d + 1
  | .slice elems spare => uptoBulkAll elems + uptoBulkAll spare + 1
  | .agg parts => uptoBulkAll parts + 1
  | .iface _ d => uptoBulk d + 1
  | .map entries => uptoBulkEntries entries + 1
  | .held _ => 1
def uptoBulkAll {H : Type} : List (DataW H) → Nat
  | [] => 0
  | d :: r => uptoBulk d + uptoBulkAll r
def uptoBulkEntries {H : Type} : List (Lit × DataW H) → Nat
  | [] => 0
  | x :: r => uptoBulkEntry x + uptoBulkEntries r
def uptoBulkEntry {H : Type} : Lit × DataW H → Nat
  | (.string bytes, d) => bytes.length + uptoBulk d + 1
  | (_, d) => uptoBulk d + 1
 end
def uptoSmall : (H : Type) → List (DataW H) → Bool := fun _ ds => decide (uptoBulkAll ds ≤ 1048576)
def OpenSpec.upto (s : _root_.Go.ChangeSpec) : _root_.Go.OpenSpec := { _root_.Go.OpenSpec.ofChange s with cond := some uptoSmall }

/-- 'beadrolllaw13.RrsetPuts', WHERE WHAT IT READS IS OF BULK AT MOST 1048576: true; the input reads as it did. -/
def rrsetPutsUptoRow : OpenClaim := { program := "ytnpiglojamhpiaa", sum := "aba4505e151f6077d07aadf700253ce79719718c0a30579f0ba9c14d2b477fa9", func := "beadroll/beadrolllaw13.RrsetPuts", spec := "rrsetPuts", inPlace := ["internal/abi.NoEscape", "slices.overlaps[beadroll/api.RR]"], unfollowed := true, recurses := true, apart := false, narrowed := true }
def RrsetPutsUptoSaid : Prop := rrsetPutsUptoRow.holds Try.pinned (OpenSpec.upto rrsetPutsSpec)

/-- 'beadrolllaw13.RrsetFinds', WHERE WHAT IT READS IS OF BULK AT MOST 1048576: true; the input reads as it did. -/
def rrsetFindsUptoRow : OpenClaim := { program := "ytnpiglojamhpiaa", sum := "aba4505e151f6077d07aadf700253ce79719718c0a30579f0ba9c14d2b477fa9", func := "beadroll/beadrolllaw13.RrsetFinds", spec := "rrsetFinds", inPlace := ["internal/abi.NoEscape", "slices.overlaps[beadroll/api.RR]"], unfollowed := true, recurses := true, apart := false, narrowed := true }
def RrsetFindsUptoSaid : Prop := rrsetFindsUptoRow.holds Try.pinned (OpenSpec.upto rrsetFindsSpec)

end Rows
end Go.Proofs.Ytnpiglojamhpiaa
