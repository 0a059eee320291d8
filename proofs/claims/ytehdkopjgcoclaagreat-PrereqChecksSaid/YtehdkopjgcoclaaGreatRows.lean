/-
  No cell of these rows narrows 'for every input' (looked for: loops, veiled, ifaces, maps, wideKeys, modest, calm, conditions, laid).
  DERIVED. THE GIVEN ROWS OF THIS SEAT. 6 by the template 'for every input the law returns true; each argument reads behind the call as it read before'; 0 by the template 'total and deterministic' (their statements: YtehdkopjgcoclaaGreatTotals.lean).
  GIVEN WITH THE SEED: the statements are not yours to turn. If you find one false, say at which input.
  Laid BY PROGRAM, IN A SANDBOX (cutbox-rows.mjs): the forced cells as the released guide's own fill.sh prints them over the translation 49763fddfd94e8ce… (all of the seat's roots in one cut). By AI agents, Wed Nov 11 2026. No macro, syntax, notation, axiom, sorry.
-/
import Derived.Test.YtehdkopjgcoclaaGreatChecked
import GoSem.Claim
import GoSem.ClaimJoined
import GoSem.ClaimMapViews
import Derived.JoinedTies
import Derived.KernelRfl
namespace Go.Proofs.YtehdkopjgcoclaaGreat
/- THE CELL 'sum', in the pinned program and in every row, IS THE sha256 OF THE DUMP (.gsa) THAT YtehdkopjgcoclaaGreatProg.lean LOADS. Nothing in Lean hashes anything: it is a label: what it is worth is what the hold of that sum in a sandbox is worth. -/
noncomputable def Tryz.pinned : Pinned := { name := "ytehdkopjgcoclaagreat", sum := "49763fddfd94e8ce04357458ec99b68385e450c976e9f7167dfb49bbf41b9443", checked := Tryz.checked }
namespace Rows
def none {H : Type} : Left H := { results := [], args := [] }

/-- 'beadrolllaw14.ZoneTells': WHATEVER THE INPUT: true; the input reads as it did. -/
def zoneTellsSpec : ChangeSpec := { name := "zoneTells", fn := fun _ => fun
  | [d1, d2, d3] => { results := [.lit (.bool true)], args := [d1, d2, d3] }
  | _ => none }
def zoneTellsRow : OpenClaim := { program := "ytehdkopjgcoclaagreat", sum := "49763fddfd94e8ce04357458ec99b68385e450c976e9f7167dfb49bbf41b9443", func := "beadroll/beadrolllaw14.ZoneTells", spec := "zoneTells", inPlace := ["internal/abi.NoEscape"], unfollowed := true, recurses := true, apart := false }
def ZoneTellsSaid : Prop := zoneTellsRow.holds Tryz.pinned (OpenSpec.ofChange zoneTellsSpec)

/-- ITS FALSE NEIGHBOUR: 'it returns false'. Refute it at one input. -/
def zoneTellsWrong : ChangeSpec := { name := "zoneTells", fn := fun _ => fun
  | [d1, d2, d3] => { results := [.lit (.bool false)], args := [d1, d2, d3] }
  | _ => none }
def ZoneTellsWrongFalsely : Prop := zoneTellsRow.holds Tryz.pinned (OpenSpec.ofChange zoneTellsWrong)

/-- 'beadrolllaw22.PrereqChecks': WHATEVER THE INPUT: true; the input reads as it did. -/
def prereqChecksSpec : ChangeSpec := { name := "prereqChecks", fn := fun _ => fun
  | [d1, d2] => { results := [.lit (.bool true)], args := [d1, d2] }
  | _ => none }
def prereqChecksRow : OpenClaim := { program := "ytehdkopjgcoclaagreat", sum := "49763fddfd94e8ce04357458ec99b68385e450c976e9f7167dfb49bbf41b9443", func := "beadroll/beadrolllaw22.PrereqChecks", spec := "prereqChecks", inPlace := ["internal/abi.NoEscape"], unfollowed := true, recurses := true, apart := false }
def PrereqChecksSaid : Prop := prereqChecksRow.holds Tryz.pinned (OpenSpec.ofChange prereqChecksSpec)

/-- ITS FALSE NEIGHBOUR: 'it returns false'. Refute it at one input. -/
def prereqChecksWrong : ChangeSpec := { name := "prereqChecks", fn := fun _ => fun
  | [d1, d2] => { results := [.lit (.bool false)], args := [d1, d2] }
  | _ => none }
def PrereqChecksWrongFalsely : Prop := prereqChecksRow.holds Tryz.pinned (OpenSpec.ofChange prereqChecksWrong)

/-- 'beadrolllaw22.PrereqTurns': WHATEVER THE INPUT: true; the input reads as it did. -/
def prereqTurnsSpec : ChangeSpec := { name := "prereqTurns", fn := fun _ => fun
  | [d1, d2, d3] => { results := [.lit (.bool true)], args := [d1, d2, d3] }
  | _ => none }
def prereqTurnsRow : OpenClaim := { program := "ytehdkopjgcoclaagreat", sum := "49763fddfd94e8ce04357458ec99b68385e450c976e9f7167dfb49bbf41b9443", func := "beadroll/beadrolllaw22.PrereqTurns", spec := "prereqTurns", inPlace := ["internal/abi.NoEscape"], unfollowed := true, recurses := true, apart := false }
def PrereqTurnsSaid : Prop := prereqTurnsRow.holds Tryz.pinned (OpenSpec.ofChange prereqTurnsSpec)

/-- ITS FALSE NEIGHBOUR: 'it returns false'. Refute it at one input. -/
def prereqTurnsWrong : ChangeSpec := { name := "prereqTurns", fn := fun _ => fun
  | [d1, d2, d3] => { results := [.lit (.bool false)], args := [d1, d2, d3] }
  | _ => none }
def PrereqTurnsWrongFalsely : Prop := prereqTurnsRow.holds Tryz.pinned (OpenSpec.ofChange prereqTurnsWrong)

/-- 'beadrolllaw22.PrereqFirst': WHATEVER THE INPUT: true; the input reads as it did. -/
def prereqFirstSpec : ChangeSpec := { name := "prereqFirst", fn := fun _ => fun
  | [d1, d2, d3] => { results := [.lit (.bool true)], args := [d1, d2, d3] }
  | _ => none }
def prereqFirstRow : OpenClaim := { program := "ytehdkopjgcoclaagreat", sum := "49763fddfd94e8ce04357458ec99b68385e450c976e9f7167dfb49bbf41b9443", func := "beadroll/beadrolllaw22.PrereqFirst", spec := "prereqFirst", inPlace := ["internal/abi.NoEscape"], unfollowed := true, recurses := true, apart := false }
def PrereqFirstSaid : Prop := prereqFirstRow.holds Tryz.pinned (OpenSpec.ofChange prereqFirstSpec)

/-- ITS FALSE NEIGHBOUR: 'it returns false'. Refute it at one input. -/
def prereqFirstWrong : ChangeSpec := { name := "prereqFirst", fn := fun _ => fun
  | [d1, d2, d3] => { results := [.lit (.bool false)], args := [d1, d2, d3] }
  | _ => none }
def PrereqFirstWrongFalsely : Prop := prereqFirstRow.holds Tryz.pinned (OpenSpec.ofChange prereqFirstWrong)

/-- 'beadrolllaw14.ZoneMakes': WHATEVER THE INPUT: true; the input reads as it did. -/
def zoneMakesSpec : ChangeSpec := { name := "zoneMakes", fn := fun _ => fun
  | [d1, d2] => { results := [.lit (.bool true)], args := [d1, d2] }
  | _ => none }
def zoneMakesRow : OpenClaim := { program := "ytehdkopjgcoclaagreat", sum := "49763fddfd94e8ce04357458ec99b68385e450c976e9f7167dfb49bbf41b9443", func := "beadroll/beadrolllaw14.ZoneMakes", spec := "zoneMakes", inPlace := ["internal/abi.NoEscape", "internal/bytealg.MakeNoZero"], unfollowed := true, recurses := true, apart := false }
def ZoneMakesSaid : Prop := zoneMakesRow.holds Tryz.pinned (OpenSpec.ofChange zoneMakesSpec)

/-- ITS FALSE NEIGHBOUR: 'it returns false'. Refute it at one input. -/
def zoneMakesWrong : ChangeSpec := { name := "zoneMakes", fn := fun _ => fun
  | [d1, d2] => { results := [.lit (.bool false)], args := [d1, d2] }
  | _ => none }
def ZoneMakesWrongFalsely : Prop := zoneMakesRow.holds Tryz.pinned (OpenSpec.ofChange zoneMakesWrong)

/-- 'beadrolllaw14.ZoneSerials': WHATEVER THE INPUT: true; the input reads as it did. -/
def zoneSerialsSpec : ChangeSpec := { name := "zoneSerials", fn := fun _ => fun
  | [d1, d2, d3] => { results := [.lit (.bool true)], args := [d1, d2, d3] }
  | _ => none }
def zoneSerialsRow : OpenClaim := { program := "ytehdkopjgcoclaagreat", sum := "49763fddfd94e8ce04357458ec99b68385e450c976e9f7167dfb49bbf41b9443", func := "beadroll/beadrolllaw14.ZoneSerials", spec := "zoneSerials", inPlace := ["internal/abi.NoEscape", "internal/bytealg.MakeNoZero"], unfollowed := true, recurses := true, apart := false }
def ZoneSerialsSaid : Prop := zoneSerialsRow.holds Tryz.pinned (OpenSpec.ofChange zoneSerialsSpec)

/-- ITS FALSE NEIGHBOUR: 'it returns false'. Refute it at one input. -/
def zoneSerialsWrong : ChangeSpec := { name := "zoneSerials", fn := fun _ => fun
  | [d1, d2, d3] => { results := [.lit (.bool false)], args := [d1, d2, d3] }
  | _ => none }
def ZoneSerialsWrongFalsely : Prop := zoneSerialsRow.holds Tryz.pinned (OpenSpec.ofChange zoneSerialsWrong)

/- THE SECOND FORM. 'bulk': how many values and letters a reading holds, each counted each time it is reached (what is shared counts as often as it is met; a slice's spare places count too). A statement '..UptoSaid' is the law's where the arguments, and the package variables that the reading takes, are together of bulk at most 1048576: NARROWER than '..Said'. Prove '..Said' where nothing that the law and all that it calls make is longer than what came in: it says more and counts as full. Else prove '..UptoSaid'. A law counts once. -/
mutual
def uptoBulk {H : Type} : DataW H → Nat
  | .lit (.string bytes) => bytes.length + 1
  | .lit _ => 1
  | .nil => 1
  | .ptr d => uptoBulk d + 1
  | .slice elems spare => uptoBulkAll elems + uptoBulkAll spare + 1
  | .agg parts => uptoBulkAll parts + 1
  | .iface _ d => uptoBulk d + 1
  | .map entries => uptoBulkEntries entries + 1
  | .held _ => 1
def uptoBulkAll {H : Type} : List (DataW H) → Nat
  | [] => 0
  | d :: r => uptoBulk d + uptoBulkAll r
def uptoBulkEntries {H : Type} : List (Lit × DataW H) → Nat
  | [] => 0
  | x :: r => uptoBulkEntry x + uptoBulkEntries r
def uptoBulkEntry {H : Type} : Lit × DataW H → Nat
  | (.string bytes, d) => bytes.length + uptoBulk d + 1
  | (_, d) => uptoBulk d + 1
 end
def uptoSmall : (H : Type) → List (DataW H) → Bool := fun _ ds => decide (uptoBulkAll ds ≤ 1048576)
def OpenSpec.upto (s : _root_.Go.ChangeSpec) : _root_.Go.OpenSpec := { _root_.Go.OpenSpec.ofChange s with cond := some uptoSmall }

/-- 'beadrolllaw14.ZoneTells', WHERE WHAT IT READS IS OF BULK AT MOST 1048576: true; the input reads as it did. -/
def zoneTellsUptoRow : OpenClaim := { program := "ytehdkopjgcoclaagreat", sum := "49763fddfd94e8ce04357458ec99b68385e450c976e9f7167dfb49bbf41b9443", func := "beadroll/beadrolllaw14.ZoneTells", spec := "zoneTells", inPlace := ["internal/abi.NoEscape"], unfollowed := true, recurses := true, apart := false, narrowed := true }
def ZoneTellsUptoSaid : Prop := zoneTellsUptoRow.holds Tryz.pinned (OpenSpec.upto zoneTellsSpec)

/-- 'beadrolllaw22.PrereqChecks', WHERE WHAT IT READS IS OF BULK AT MOST 1048576: true; the input reads as it did. -/
def prereqChecksUptoRow : OpenClaim := { program := "ytehdkopjgcoclaagreat", sum := "49763fddfd94e8ce04357458ec99b68385e450c976e9f7167dfb49bbf41b9443", func := "beadroll/beadrolllaw22.PrereqChecks", spec := "prereqChecks", inPlace := ["internal/abi.NoEscape"], unfollowed := true, recurses := true, apart := false, narrowed := true }
def PrereqChecksUptoSaid : Prop := prereqChecksUptoRow.holds Tryz.pinned (OpenSpec.upto prereqChecksSpec)

/-- 'beadrolllaw22.PrereqTurns', WHERE WHAT IT READS IS OF BULK AT MOST 1048576: true; the input reads as it did. -/
def prereqTurnsUptoRow : OpenClaim := { program := "ytehdkopjgcoclaagreat", sum := "49763fddfd94e8ce04357458ec99b68385e450c976e9f7167dfb49bbf41b9443", func := "beadroll/beadrolllaw22.PrereqTurns", spec := "prereqTurns", inPlace := ["internal/abi.NoEscape"], unfollowed := true, recurses := true, apart := false, narrowed := true }
def PrereqTurnsUptoSaid : Prop := prereqTurnsUptoRow.holds Tryz.pinned (OpenSpec.upto prereqTurnsSpec)

/-- 'beadrolllaw22.PrereqFirst', WHERE WHAT IT READS IS OF BULK AT MOST 1048576: true; the input reads as it did. -/
def prereqFirstUptoRow : OpenClaim := { program := "ytehdkopjgcoclaagreat", sum := "49763fddfd94e8ce04357458ec99b68385e450c976e9f7167dfb49bbf41b9443", func := "beadroll/beadrolllaw22.PrereqFirst", spec := "prereqFirst", inPlace := ["internal/abi.NoEscape"], unfollowed := true, recurses := true, apart := false, narrowed := true }
def PrereqFirstUptoSaid : Prop := prereqFirstUptoRow.holds Tryz.pinned (OpenSpec.upto prereqFirstSpec)

/-- 'beadrolllaw14.ZoneMakes', WHERE WHAT IT READS IS OF BULK AT MOST 1048576: true; the input reads as it did. -/
def zoneMakesUptoRow : OpenClaim := { program := "ytehdkopjgcoclaagreat", sum := "49763fddfd94e8ce04357458ec99b68385e450c976e9f7167dfb49bbf41b9443", func := "beadroll/beadrolllaw14.ZoneMakes", spec := "zoneMakes", inPlace := ["internal/abi.NoEscape", "internal/bytealg.MakeNoZero"], unfollowed := true, recurses := true, apart := false, narrowed := true }
def ZoneMakesUptoSaid : Prop := zoneMakesUptoRow.holds Tryz.pinned (OpenSpec.upto zoneMakesSpec)

/-- 'beadrolllaw14.ZoneSerials', WHERE WHAT IT READS IS OF BULK AT MOST 1048576: true; the input reads as it did. -/
def zoneSerialsUptoRow : OpenClaim := { program := "ytehdkopjgcoclaagreat", sum := "49763fddfd94e8ce04357458ec99b68385e450c976e9f7167dfb49bbf41b9443", func := "beadroll/beadrolllaw14.ZoneSerials", spec := "zoneSerials", inPlace := ["internal/abi.NoEscape", "internal/bytealg.MakeNoZero"], unfollowed := true, recurses := true, apart := false, narrowed := true }
def ZoneSerialsUptoSaid : Prop := zoneSerialsUptoRow.holds Tryz.pinned (OpenSpec.upto zoneSerialsSpec)

end Rows
end Go.Proofs.YtehdkopjgcoclaaGreat
