/-
  No cell of these rows narrows 'for every input' (looked for: loops, veiled, ifaces, maps, wideKeys, modest, calm, conditions, laid).
  DERIVED. THE GIVEN ROWS OF THIS SEAT. 3 by the template 'for every input the law returns true; each argument reads behind the call as it read before'; 0 by the template 'total and deterministic' (their statements: YtehdkopjgcoclaaTotals.lean).
  GIVEN WITH THE SEED: the statements are not yours to turn. If you find one false, say at which input.
  Laid BY PROGRAM, IN A SANDBOX (cutbox-rows.mjs): the forced cells as the released guide's own fill.sh prints them over the translation 5bfb3700fa904c9e… (all of the seat's roots in one cut). By AI agents, Wed Nov 11 2026. No macro, syntax, notation, axiom, sorry.
-/
import Derived.Test.YtehdkopjgcoclaaChecked
import GoSem.Claim
import GoSem.ClaimJoined
import GoSem.ClaimMapViews
import Derived.JoinedTies
import Derived.KernelRfl
namespace Go.Proofs.Ytehdkopjgcoclaa
/- THE CELL 'sum', in the pinned program and in every row, IS THE sha256 OF THE DUMP (.gsa) THAT YtehdkopjgcoclaaProg.lean LOADS. Nothing in Lean hashes anything: it is a label: what it is worth is what the hold of that sum in a sandbox is worth. -/
noncomputable def Try.pinned : Pinned := { name := "ytehdkopjgcoclaa", sum := "5bfb3700fa904c9ea2317b9065f275544b3efb484cd55ad8b6f948257af99fb0", checked := Try.checked }
namespace Rows
def none {H : Type} : Left H := { results := [], args := [] }

/-- 'beadrolllaw14.ZoneTypes': WHATEVER THE INPUT: true; the input reads as it did. -/
def zoneTypesSpec : ChangeSpec := { name := "zoneTypes", fn := fun _ => fun
  | [d] => { results := [.lit (.bool true)], args := [d] }
  | _ => none }
def zoneTypesRow : OpenClaim := { program := "ytehdkopjgcoclaa", sum := "5bfb3700fa904c9ea2317b9065f275544b3efb484cd55ad8b6f948257af99fb0", func := "beadroll/beadrolllaw14.ZoneTypes", spec := "zoneTypes", inPlace := ["internal/abi.NoEscape"], unfollowed := true, recurses := true, apart := false }
def ZoneTypesSaid : Prop := zoneTypesRow.holds Try.pinned (OpenSpec.ofChange zoneTypesSpec)

/-- ITS FALSE NEIGHBOUR: 'it returns false'. Refute it at one input. -/
def zoneTypesWrong : ChangeSpec := { name := "zoneTypes", fn := fun _ => fun
  | [d] => { results := [.lit (.bool false)], args := [d] }
  | _ => none }
def ZoneTypesWrongFalsely : Prop := zoneTypesRow.holds Try.pinned (OpenSpec.ofChange zoneTypesWrong)

/-- 'beadrolllaw14.ZoneTurns': WHATEVER THE INPUT: true; the input reads as it did. -/
def zoneTurnsSpec : ChangeSpec := { name := "zoneTurns", fn := fun _ => fun
  | [d1, d2, d3] => { results := [.lit (.bool true)], args := [d1, d2, d3] }
  | _ => none }
def zoneTurnsRow : OpenClaim := { program := "ytehdkopjgcoclaa", sum := "5bfb3700fa904c9ea2317b9065f275544b3efb484cd55ad8b6f948257af99fb0", func := "beadroll/beadrolllaw14.ZoneTurns", spec := "zoneTurns", inPlace := ["internal/abi.NoEscape"], unfollowed := true, recurses := true, apart := false }
def ZoneTurnsSaid : Prop := zoneTurnsRow.holds Try.pinned (OpenSpec.ofChange zoneTurnsSpec)

/-- ITS FALSE NEIGHBOUR: 'it returns false'. Refute it at one input. -/
def zoneTurnsWrong : ChangeSpec := { name := "zoneTurns", fn := fun _ => fun
  | [d1, d2, d3] => { results := [.lit (.bool false)], args := [d1, d2, d3] }
  | _ => none }
def ZoneTurnsWrongFalsely : Prop := zoneTurnsRow.holds Try.pinned (OpenSpec.ofChange zoneTurnsWrong)

/-- 'beadrolllaw22.PrereqHolds': WHATEVER THE INPUT: true; the input reads as it did. -/
def prereqHoldsSpec : ChangeSpec := { name := "prereqHolds", fn := fun _ => fun
  | [d1, d2, d3] => { results := [.lit (.bool true)], args := [d1, d2, d3] }
  | _ => none }
def prereqHoldsRow : OpenClaim := { program := "ytehdkopjgcoclaa", sum := "5bfb3700fa904c9ea2317b9065f275544b3efb484cd55ad8b6f948257af99fb0", func := "beadroll/beadrolllaw22.PrereqHolds", spec := "prereqHolds", inPlace := ["internal/abi.NoEscape"], unfollowed := true, recurses := true, apart := false }
def PrereqHoldsSaid : Prop := prereqHoldsRow.holds Try.pinned (OpenSpec.ofChange prereqHoldsSpec)

/-- ITS FALSE NEIGHBOUR: 'it returns false'. Refute it at one input. -/
def prereqHoldsWrong : ChangeSpec := { name := "prereqHolds", fn := fun _ => fun
  | [d1, d2, d3] => { results := [.lit (.bool false)], args := [d1, d2, d3] }
  | _ => none }
def PrereqHoldsWrongFalsely : Prop := prereqHoldsRow.holds Try.pinned (OpenSpec.ofChange prereqHoldsWrong)

/- THE SECOND FORM. 'bulk': how many values and letters a reading holds, each counted each time it is reached (what is shared counts as often as it is met; a slice's spare places count too). A statement '..UptoSaid' is the law's where the arguments, and the package variables that the reading takes, are together of bulk at most 1048576: NARROWER than '..Said'. Prove '..Said' where nothing that the law and all that it calls make is longer than what came in: it says more and counts as full. Else prove '..UptoSaid'. A law counts once. -/
mutual
def uptoBulk {H : Type} : DataW H → Nat
  | .lit (.string bytes) => bytes.length + 1
  | .lit _ => 1
  | .nil => 1
  | .ptr d => uptoBulk d + 1
  | .slice elems spare => uptoBulkAll elems + uptoBulkAll spare + 1
  | .agg parts => uptoBulkAll parts + 1
  | .iface _ d => uptoBulk d + 1
  | .map entries => uptoBulkEntries entries + 1
  | .held _ => 1
def uptoBulkAll {H : Type} : List (DataW H) → Nat
  | [] => 0
  | d :: r => uptoBulk d + uptoBulkAll r
def uptoBulkEntries {H : Type} : List (Lit × DataW H) → Nat
  | [] => 0
  | x :: r => uptoBulkEntry x + uptoBulkEntries r
def uptoBulkEntry {H : Type} : Lit × DataW H → Nat
  | (.string bytes, d) => bytes.length + uptoBulk d + 1
  | (_, d) => uptoBulk d + 1
 end
def uptoSmall : (H : Type) → List (DataW H) → Bool := fun _ ds => decide (uptoBulkAll ds ≤ 1048576)
def OpenSpec.upto (s : _root_.Go.ChangeSpec) : _root_.Go.OpenSpec := { _root_.Go.OpenSpec.ofChange s with cond := some uptoSmall }

/-- 'beadrolllaw14.ZoneTypes', WHERE WHAT IT READS IS OF BULK AT MOST 1048576: true; the input reads as it did. -/
def zoneTypesUptoRow : OpenClaim := { program := "ytehdkopjgcoclaa", sum := "5bfb3700fa904c9ea2317b9065f275544b3efb484cd55ad8b6f948257af99fb0", func := "beadroll/beadrolllaw14.ZoneTypes", spec := "zoneTypes", inPlace := ["internal/abi.NoEscape"], unfollowed := true, recurses := true, apart := false, narrowed := true }
def ZoneTypesUptoSaid : Prop := zoneTypesUptoRow.holds Try.pinned (OpenSpec.upto zoneTypesSpec)

/-- 'beadrolllaw14.ZoneTurns', WHERE WHAT IT READS IS OF BULK AT MOST 1048576: true; the input reads as it did. -/
def zoneTurnsUptoRow : OpenClaim := { program := "ytehdkopjgcoclaa", sum := "5bfb3700fa904c9ea2317b9065f275544b3efb484cd55ad8b6f948257af99fb0", func := "beadroll/beadrolllaw14.ZoneTurns", spec := "zoneTurns", inPlace := ["internal/abi.NoEscape"], unfollowed := true, recurses := true, apart := false, narrowed := true }
def ZoneTurnsUptoSaid : Prop := zoneTurnsUptoRow.holds Try.pinned (OpenSpec.upto zoneTurnsSpec)

/-- 'beadrolllaw22.PrereqHolds', WHERE WHAT IT READS IS OF BULK AT MOST 1048576: true; the input reads as it did. -/
def prereqHoldsUptoRow : OpenClaim := { program := "ytehdkopjgcoclaa", sum := "5bfb3700fa904c9ea2317b9065f275544b3efb484cd55ad8b6f948257af99fb0", func := "beadroll/beadrolllaw22.PrereqHolds", spec := "prereqHolds", inPlace := ["internal/abi.NoEscape"], unfollowed := true, recurses := true, apart := false, narrowed := true }
def PrereqHoldsUptoSaid : Prop := prereqHoldsUptoRow.holds Try.pinned (OpenSpec.upto prereqHoldsSpec)

end Rows
end Go.Proofs.Ytehdkopjgcoclaa
