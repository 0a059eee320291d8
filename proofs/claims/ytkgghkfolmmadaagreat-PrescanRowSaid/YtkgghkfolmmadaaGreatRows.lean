/-
  No cell of these rows narrows 'for every input' (looked for: loops, veiled, ifaces, maps, wideKeys, modest, calm, conditions, laid).
  DERIVED. THE GIVEN ROWS OF THIS SEAT. 6 by the template 'for every input the law returns true; each argument reads behind the call as it read before'; 0 by the template 'total and deterministic' (their statements: YtkgghkfolmmadaaGreatTotals.lean).
  GIVEN WITH THE SEED: the statements are not yours to turn. If you find one false, say at which input.
  Laid BY PROGRAM, IN A SANDBOX (cutbox-rows.mjs): the forced cells as the released guide's own fill.sh prints them over the translation 079f132cb36a094f… (all of the seat's roots in one cut). By AI agents, Wed Nov 11 2026. No macro, syntax, notation, axiom, sorry.
-/
import Derived.Test.YtkgghkfolmmadaaGreatChecked
import GoSem.Claim
import GoSem.ClaimJoined
import GoSem.ClaimMapViews
import Derived.JoinedTies
import Derived.KernelRfl
namespace Go.Proofs.YtkgghkfolmmadaaGreat
/- THE CELL 'sum', in the pinned program and in every row, IS THE sha256 OF THE DUMP (.gsa) THAT YtkgghkfolmmadaaGreatProg.lean LOADS. Nothing in Lean hashes anything: it is a label: what it is worth is what the hold of that sum in a sandbox is worth. -/
noncomputable def Tryz.pinned : Pinned := { name := "ytkgghkfolmmadaagreat", sum := "079f132cb36a094f07a36e80c5810572619361b168d5e589c4cbdfbbe7b56221", checked := Tryz.checked }
namespace Rows
def none {H : Type} : Left H := { results := [], args := [] }

/-- 'beadrolllaw13.RrsetMakes': WHATEVER THE INPUT: true; the input reads as it did. -/
def rrsetMakesSpec : ChangeSpec := { name := "rrsetMakes", fn := fun _ => fun
  | [d1, d2] => { results := [.lit (.bool true)], args := [d1, d2] }
  | _ => none }
def rrsetMakesRow : OpenClaim := { program := "ytkgghkfolmmadaagreat", sum := "079f132cb36a094f07a36e80c5810572619361b168d5e589c4cbdfbbe7b56221", func := "beadroll/beadrolllaw13.RrsetMakes", spec := "rrsetMakes", inPlace := ["internal/abi.NoEscape", "slices.overlaps[beadroll/api.RR]"], unfollowed := true, recurses := true, apart := false }
def RrsetMakesSaid : Prop := rrsetMakesRow.holds Tryz.pinned (OpenSpec.ofChange rrsetMakesSpec)

/-- ITS FALSE NEIGHBOUR: 'it returns false'. Refute it at one input. -/
def rrsetMakesWrong : ChangeSpec := { name := "rrsetMakes", fn := fun _ => fun
  | [d1, d2] => { results := [.lit (.bool false)], args := [d1, d2] }
  | _ => none }
def RrsetMakesWrongFalsely : Prop := rrsetMakesRow.holds Tryz.pinned (OpenSpec.ofChange rrsetMakesWrong)

/-- 'beadrolllaw13.RrsetTurns': WHATEVER THE INPUT: true; the input reads as it did. -/
def rrsetTurnsSpec : ChangeSpec := { name := "rrsetTurns", fn := fun _ => fun
  | [d1, d2] => { results := [.lit (.bool true)], args := [d1, d2] }
  | _ => none }
def rrsetTurnsRow : OpenClaim := { program := "ytkgghkfolmmadaagreat", sum := "079f132cb36a094f07a36e80c5810572619361b168d5e589c4cbdfbbe7b56221", func := "beadroll/beadrolllaw13.RrsetTurns", spec := "rrsetTurns", inPlace := ["internal/abi.NoEscape", "slices.overlaps[beadroll/api.RR]"], unfollowed := true, recurses := true, apart := false }
def RrsetTurnsSaid : Prop := rrsetTurnsRow.holds Tryz.pinned (OpenSpec.ofChange rrsetTurnsSpec)

/-- ITS FALSE NEIGHBOUR: 'it returns false'. Refute it at one input. -/
def rrsetTurnsWrong : ChangeSpec := { name := "rrsetTurns", fn := fun _ => fun
  | [d1, d2] => { results := [.lit (.bool false)], args := [d1, d2] }
  | _ => none }
def RrsetTurnsWrongFalsely : Prop := rrsetTurnsRow.holds Tryz.pinned (OpenSpec.ofChange rrsetTurnsWrong)

/-- 'beadrolllaw23.PrescanTells': WHATEVER THE INPUT: true; the input reads as it did. -/
def prescanTellsSpec : ChangeSpec := { name := "prescanTells", fn := fun _ => fun
  | [d1, d2] => { results := [.lit (.bool true)], args := [d1, d2] }
  | _ => none }
def prescanTellsRow : OpenClaim := { program := "ytkgghkfolmmadaagreat", sum := "079f132cb36a094f07a36e80c5810572619361b168d5e589c4cbdfbbe7b56221", func := "beadroll/beadrolllaw23.PrescanTells", spec := "prescanTells", inPlace := ["internal/abi.NoEscape"], unfollowed := true, recurses := true, apart := false }
def PrescanTellsSaid : Prop := prescanTellsRow.holds Tryz.pinned (OpenSpec.ofChange prescanTellsSpec)

/-- ITS FALSE NEIGHBOUR: 'it returns false'. Refute it at one input. -/
def prescanTellsWrong : ChangeSpec := { name := "prescanTells", fn := fun _ => fun
  | [d1, d2] => { results := [.lit (.bool false)], args := [d1, d2] }
  | _ => none }
def PrescanTellsWrongFalsely : Prop := prescanTellsRow.holds Tryz.pinned (OpenSpec.ofChange prescanTellsWrong)

/-- 'beadrolllaw23.PrescanRow': WHATEVER THE INPUT: true; the input reads as it did. -/
def prescanRowSpec : ChangeSpec := { name := "prescanRow", fn := fun _ => fun
  | [d1, d2, d3] => { results := [.lit (.bool true)], args := [d1, d2, d3] }
  | _ => none }
def prescanRowRow : OpenClaim := { program := "ytkgghkfolmmadaagreat", sum := "079f132cb36a094f07a36e80c5810572619361b168d5e589c4cbdfbbe7b56221", func := "beadroll/beadrolllaw23.PrescanRow", spec := "prescanRow", inPlace := ["internal/abi.NoEscape"], unfollowed := true, recurses := true, apart := false }
def PrescanRowSaid : Prop := prescanRowRow.holds Tryz.pinned (OpenSpec.ofChange prescanRowSpec)

/-- ITS FALSE NEIGHBOUR: 'it returns false'. Refute it at one input. -/
def prescanRowWrong : ChangeSpec := { name := "prescanRow", fn := fun _ => fun
  | [d1, d2, d3] => { results := [.lit (.bool false)], args := [d1, d2, d3] }
  | _ => none }
def PrescanRowWrongFalsely : Prop := prescanRowRow.holds Tryz.pinned (OpenSpec.ofChange prescanRowWrong)

/-- 'beadrolllaw23.PrescanBars': WHATEVER THE INPUT: true; the input reads as it did. -/
def prescanBarsSpec : ChangeSpec := { name := "prescanBars", fn := fun _ => fun
  | [d1, d2] => { results := [.lit (.bool true)], args := [d1, d2] }
  | _ => none }
def prescanBarsRow : OpenClaim := { program := "ytkgghkfolmmadaagreat", sum := "079f132cb36a094f07a36e80c5810572619361b168d5e589c4cbdfbbe7b56221", func := "beadroll/beadrolllaw23.PrescanBars", spec := "prescanBars", inPlace := ["internal/abi.NoEscape"], unfollowed := true, recurses := true, apart := false }
def PrescanBarsSaid : Prop := prescanBarsRow.holds Tryz.pinned (OpenSpec.ofChange prescanBarsSpec)

/-- ITS FALSE NEIGHBOUR: 'it returns false'. Refute it at one input. -/
def prescanBarsWrong : ChangeSpec := { name := "prescanBars", fn := fun _ => fun
  | [d1, d2] => { results := [.lit (.bool false)], args := [d1, d2] }
  | _ => none }
def PrescanBarsWrongFalsely : Prop := prescanBarsRow.holds Tryz.pinned (OpenSpec.ofChange prescanBarsWrong)

/-- 'beadrolllaw23.PrescanZone': WHATEVER THE INPUT: true; the input reads as it did. -/
def prescanZoneSpec : ChangeSpec := { name := "prescanZone", fn := fun _ => fun
  | [d] => { results := [.lit (.bool true)], args := [d] }
  | _ => none }
def prescanZoneRow : OpenClaim := { program := "ytkgghkfolmmadaagreat", sum := "079f132cb36a094f07a36e80c5810572619361b168d5e589c4cbdfbbe7b56221", func := "beadroll/beadrolllaw23.PrescanZone", spec := "prescanZone", inPlace := ["internal/abi.NoEscape"], unfollowed := true, recurses := true, apart := false }
def PrescanZoneSaid : Prop := prescanZoneRow.holds Tryz.pinned (OpenSpec.ofChange prescanZoneSpec)

/-- ITS FALSE NEIGHBOUR: 'it returns false'. Refute it at one input. -/
def prescanZoneWrong : ChangeSpec := { name := "prescanZone", fn := fun _ => fun
  | [d] => { results := [.lit (.bool false)], args := [d] }
  | _ => none }
def PrescanZoneWrongFalsely : Prop := prescanZoneRow.holds Tryz.pinned (OpenSpec.ofChange prescanZoneWrong)

/- THE SECOND FORM. 'bulk': how many values and letters a reading holds, each counted each time it is reached (what is shared counts as often as it is met; a slice's spare places count too). A statement '..UptoSaid' is the law's where the arguments, and the package variables that the reading takes, are together of bulk at most 1048576: NARROWER than '..Said'. Prove '..Said' where nothing that the law and all that it calls make is longer than what came in: it says more and counts as full. Else prove '..UptoSaid'. A law counts once. -/
mutual
def uptoBulk {H : Type} : DataW H → Nat
  | .lit (.string bytes) => bytes.length + 1
  | .lit _ => 1
  | .nil => 1
  | .ptr d => uptoBulk d + 1
  | .slice elems spare => uptoBulkAll elems + uptoBulkAll spare + 1
  | .agg parts => uptoBulkAll parts + 1
  | .iface _ d => uptoBulk d + 1
  | .map entries => uptoBulkEntries entries + 1
  | .held _ => 1
def uptoBulkAll {H : Type} : List (DataW H) → Nat
  | [] => 0
  | d :: r => uptoBulk d + uptoBulkAll r
def uptoBulkEntries {H : Type} : List (Lit × DataW H) → Nat
  | [] => 0
  | x :: r => uptoBulkEntry x + uptoBulkEntries r
def uptoBulkEntry {H : Type} : Lit × DataW H → Nat
  | (.string bytes, d) => bytes.length + uptoBulk d + 1
  | (_, d) => uptoBulk d + 1
 end
def uptoSmall : (H : Type) → List (DataW H) → Bool := fun _ ds => decide (uptoBulkAll ds ≤ 1048576)
def OpenSpec.upto (s : _root_.Go.ChangeSpec) : _root_.Go.OpenSpec := { _root_.Go.OpenSpec.ofChange s with cond := some uptoSmall }

/-- 'beadrolllaw13.RrsetMakes', WHERE WHAT IT READS IS OF BULK AT MOST 1048576: true; the input reads as it did. -/
def rrsetMakesUptoRow : OpenClaim := { program := "ytkgghkfolmmadaagreat", sum := "079f132cb36a094f07a36e80c5810572619361b168d5e589c4cbdfbbe7b56221", func := "beadroll/beadrolllaw13.RrsetMakes", spec := "rrsetMakes", inPlace := ["internal/abi.NoEscape", "slices.overlaps[beadroll/api.RR]"], unfollowed := true, recurses := true, apart := false, narrowed := true }
def RrsetMakesUptoSaid : Prop := rrsetMakesUptoRow.holds Tryz.pinned (OpenSpec.upto rrsetMakesSpec)

/-- 'beadrolllaw13.RrsetTurns', WHERE WHAT IT READS IS OF BULK AT MOST 1048576: true; the input reads as it did. -/
def rrsetTurnsUptoRow : OpenClaim := { program := "ytkgghkfolmmadaagreat", sum := "079f132cb36a094f07a36e80c5810572619361b168d5e589c4cbdfbbe7b56221", func := "beadroll/beadrolllaw13.RrsetTurns", spec := "rrsetTurns", inPlace := ["internal/abi.NoEscape", "slices.overlaps[beadroll/api.RR]"], unfollowed := true, recurses := true, apart := false, narrowed := true }
def RrsetTurnsUptoSaid : Prop := rrsetTurnsUptoRow.holds Tryz.pinned (OpenSpec.upto rrsetTurnsSpec)

/-- 'beadrolllaw23.PrescanTells', WHERE WHAT IT READS IS OF BULK AT MOST 1048576: true; the input reads as it did. -/
def prescanTellsUptoRow : OpenClaim := { program := "ytkgghkfolmmadaagreat", sum := "079f132cb36a094f07a36e80c5810572619361b168d5e589c4cbdfbbe7b56221", func := "beadroll/beadrolllaw23.PrescanTells", spec := "prescanTells", inPlace := ["internal/abi.NoEscape"], unfollowed := true, recurses := true, apart := false, narrowed := true }
def PrescanTellsUptoSaid : Prop := prescanTellsUptoRow.holds Tryz.pinned (OpenSpec.upto prescanTellsSpec)

/-- 'beadrolllaw23.PrescanRow', WHERE WHAT IT READS IS OF BULK AT MOST 1048576: true; the input reads as it did. -/
def prescanRowUptoRow : OpenClaim := { program := "ytkgghkfolmmadaagreat", sum := "079f132cb36a094f07a36e80c5810572619361b168d5e589c4cbdfbbe7b56221", func := "beadroll/beadrolllaw23.PrescanRow", spec := "prescanRow", inPlace := ["internal/abi.NoEscape"], unfollowed := true, recurses := true, apart := false, narrowed := true }
def PrescanRowUptoSaid : Prop := prescanRowUptoRow.holds Tryz.pinned (OpenSpec.upto prescanRowSpec)

/-- 'beadrolllaw23.PrescanBars', WHERE WHAT IT READS IS OF BULK AT MOST 1048576: true; the input reads as it did. -/
def prescanBarsUptoRow : OpenClaim := { program := "ytkgghkfolmmadaagreat", sum := "079f132cb36a094f07a36e80c5810572619361b168d5e589c4cbdfbbe7b56221", func := "beadroll/beadrolllaw23.PrescanBars", spec := "prescanBars", inPlace := ["internal/abi.NoEscape"], unfollowed := true, recurses := true, apart := false, narrowed := true }
def PrescanBarsUptoSaid : Prop := prescanBarsUptoRow.holds Tryz.pinned (OpenSpec.upto prescanBarsSpec)

/-- 'beadrolllaw23.PrescanZone', WHERE WHAT IT READS IS OF BULK AT MOST 1048576: true; the input reads as it did. -/
def prescanZoneUptoRow : OpenClaim := { program := "ytkgghkfolmmadaagreat", sum := "079f132cb36a094f07a36e80c5810572619361b168d5e589c4cbdfbbe7b56221", func := "beadroll/beadrolllaw23.PrescanZone", spec := "prescanZone", inPlace := ["internal/abi.NoEscape"], unfollowed := true, recurses := true, apart := false, narrowed := true }
def PrescanZoneUptoSaid : Prop := prescanZoneUptoRow.holds Tryz.pinned (OpenSpec.upto prescanZoneSpec)

end Rows
end Go.Proofs.YtkgghkfolmmadaaGreat
