/-
  No cell of these rows narrows 'for every input' (looked for: loops, veiled, ifaces, maps, wideKeys, modest, calm, conditions, laid).
  DERIVED. THE GIVEN ROWS OF THIS SEAT. 6 by the template 'for every input the law returns true; each argument reads behind the call as it read before'; 0 by the template 'total and deterministic' (their statements: YtepmbagflbkooaaTotals.lean).
  GIVEN WITH THE SEED: the statements are not yours to turn. If you find one false, say at which input.
  Laid BY PROGRAM, IN A SANDBOX (cutbox-rows.mjs): the forced cells as the released guide's own fill.sh prints them over the translation 67107939f2961051… (all of the seat's roots in one cut). By AI agents, Wed Nov 11 2026. No macro, syntax, notation, axiom, sorry.
-/
import Derived.Test.YtepmbagflbkooaaChecked
import GoSem.Claim
import GoSem.ClaimJoined
import GoSem.ClaimMapViews
import Derived.JoinedTies
import Derived.KernelRfl
namespace Go.Proofs.Ytepmbagflbkooaa
/- THE CELL 'sum', in the pinned program and in every row, IS THE sha256 OF THE DUMP (.gsa) THAT YtepmbagflbkooaaProg.lean LOADS. Nothing in Lean hashes anything: it is a label: what it is worth is what the hold of that sum in a sandbox is worth. -/
noncomputable def Try.pinned : Pinned := { name := "ytepmbagflbkooaa", sum := "67107939f296105182c0283cbbe09cc1675de8aa9c6fe5f5983705b232809c64", checked := Try.checked }
namespace Rows
def none {H : Type} : Left H := { results := [], args := [] }

/-- 'beadrolllaw03.RatioOrders': WHATEVER THE INPUT: true; the input reads as it did. -/
def ratioOrdersSpec : ChangeSpec := { name := "ratioOrders", fn := fun _ => fun
  | [d1, d2] => { results := [.lit (.bool true)], args := [d1, d2] }
  | _ => none }
def ratioOrdersRow : OpenClaim := { program := "ytepmbagflbkooaa", sum := "67107939f296105182c0283cbbe09cc1675de8aa9c6fe5f5983705b232809c64", func := "beadroll/beadrolllaw03.RatioOrders", spec := "ratioOrders", inPlace := ["math.Float64frombits", "math.Float64bits"], apart := false }
def RatioOrdersSaid : Prop := ratioOrdersRow.holds Try.pinned (OpenSpec.ofChange ratioOrdersSpec)

/-- ITS FALSE NEIGHBOUR: 'it returns false'. Refute it at one input. -/
def ratioOrdersWrong : ChangeSpec := { name := "ratioOrders", fn := fun _ => fun
  | [d1, d2] => { results := [.lit (.bool false)], args := [d1, d2] }
  | _ => none }
def RatioOrdersWrongFalsely : Prop := ratioOrdersRow.holds Try.pinned (OpenSpec.ofChange ratioOrdersWrong)

/-- 'beadrolllaw03.RatioShares': WHATEVER THE INPUT: true; the input reads as it did. -/
def ratioSharesSpec : ChangeSpec := { name := "ratioShares", fn := fun _ => fun
  | [d1, d2, d3] => { results := [.lit (.bool true)], args := [d1, d2, d3] }
  | _ => none }
def ratioSharesRow : OpenClaim := { program := "ytepmbagflbkooaa", sum := "67107939f296105182c0283cbbe09cc1675de8aa9c6fe5f5983705b232809c64", func := "beadroll/beadrolllaw03.RatioShares", spec := "ratioShares", inPlace := ["math.Float64frombits", "math.Float64bits"], apart := false }
def RatioSharesSaid : Prop := ratioSharesRow.holds Try.pinned (OpenSpec.ofChange ratioSharesSpec)

/-- ITS FALSE NEIGHBOUR: 'it returns false'. Refute it at one input. -/
def ratioSharesWrong : ChangeSpec := { name := "ratioShares", fn := fun _ => fun
  | [d1, d2, d3] => { results := [.lit (.bool false)], args := [d1, d2, d3] }
  | _ => none }
def RatioSharesWrongFalsely : Prop := ratioSharesRow.holds Try.pinned (OpenSpec.ofChange ratioSharesWrong)

/-- 'beadrolllaw03.RatioTurns': WHATEVER THE INPUT: true; the input reads as it did. -/
def ratioTurnsSpec : ChangeSpec := { name := "ratioTurns", fn := fun _ => fun
  | [d1, d2, d3] => { results := [.lit (.bool true)], args := [d1, d2, d3] }
  | _ => none }
def ratioTurnsRow : OpenClaim := { program := "ytepmbagflbkooaa", sum := "67107939f296105182c0283cbbe09cc1675de8aa9c6fe5f5983705b232809c64", func := "beadroll/beadrolllaw03.RatioTurns", spec := "ratioTurns", inPlace := ["math.Float64frombits", "math.Float64bits"], apart := false }
def RatioTurnsSaid : Prop := ratioTurnsRow.holds Try.pinned (OpenSpec.ofChange ratioTurnsSpec)

/-- ITS FALSE NEIGHBOUR: 'it returns false'. Refute it at one input. -/
def ratioTurnsWrong : ChangeSpec := { name := "ratioTurns", fn := fun _ => fun
  | [d1, d2, d3] => { results := [.lit (.bool false)], args := [d1, d2, d3] }
  | _ => none }
def RatioTurnsWrongFalsely : Prop := ratioTurnsRow.holds Try.pinned (OpenSpec.ofChange ratioTurnsWrong)

/-- 'beadrolllaw03.RatioWhole': WHATEVER THE INPUT: true; the input reads as it did. -/
def ratioWholeSpec : ChangeSpec := { name := "ratioWhole", fn := fun _ => fun
  | [d] => { results := [.lit (.bool true)], args := [d] }
  | _ => none }
def ratioWholeRow : OpenClaim := { program := "ytepmbagflbkooaa", sum := "67107939f296105182c0283cbbe09cc1675de8aa9c6fe5f5983705b232809c64", func := "beadroll/beadrolllaw03.RatioWhole", spec := "ratioWhole", inPlace := ["math.Float64frombits", "math.Float64bits"], apart := false }
def RatioWholeSaid : Prop := ratioWholeRow.holds Try.pinned (OpenSpec.ofChange ratioWholeSpec)

/-- ITS FALSE NEIGHBOUR: 'it returns false'. Refute it at one input. -/
def ratioWholeWrong : ChangeSpec := { name := "ratioWhole", fn := fun _ => fun
  | [d] => { results := [.lit (.bool false)], args := [d] }
  | _ => none }
def RatioWholeWrongFalsely : Prop := ratioWholeRow.holds Try.pinned (OpenSpec.ofChange ratioWholeWrong)

/-- 'beadrolllaw03.RatioClamps': WHATEVER THE INPUT: true; the input reads as it did. -/
def ratioClampsSpec : ChangeSpec := { name := "ratioClamps", fn := fun _ => fun
  | [d1, d2, d3] => { results := [.lit (.bool true)], args := [d1, d2, d3] }
  | _ => none }
def ratioClampsRow : OpenClaim := { program := "ytepmbagflbkooaa", sum := "67107939f296105182c0283cbbe09cc1675de8aa9c6fe5f5983705b232809c64", func := "beadroll/beadrolllaw03.RatioClamps", spec := "ratioClamps", inPlace := ["math.Float64frombits", "math.Float64bits"], apart := false }
def RatioClampsSaid : Prop := ratioClampsRow.holds Try.pinned (OpenSpec.ofChange ratioClampsSpec)

/-- ITS FALSE NEIGHBOUR: 'it returns false'. Refute it at one input. -/
def ratioClampsWrong : ChangeSpec := { name := "ratioClamps", fn := fun _ => fun
  | [d1, d2, d3] => { results := [.lit (.bool false)], args := [d1, d2, d3] }
  | _ => none }
def RatioClampsWrongFalsely : Prop := ratioClampsRow.holds Try.pinned (OpenSpec.ofChange ratioClampsWrong)

/-- 'beadrolllaw03.RatioLeast': WHATEVER THE INPUT: true; the input reads as it did. -/
def ratioLeastSpec : ChangeSpec := { name := "ratioLeast", fn := fun _ => fun
  | [d] => { results := [.lit (.bool true)], args := [d] }
  | _ => none }
def ratioLeastRow : OpenClaim := { program := "ytepmbagflbkooaa", sum := "67107939f296105182c0283cbbe09cc1675de8aa9c6fe5f5983705b232809c64", func := "beadroll/beadrolllaw03.RatioLeast", spec := "ratioLeast", inPlace := ["math.Float64frombits", "math.Float64bits"], apart := false }
def RatioLeastSaid : Prop := ratioLeastRow.holds Try.pinned (OpenSpec.ofChange ratioLeastSpec)

/-- ITS FALSE NEIGHBOUR: 'it returns false'. Refute it at one input. -/
def ratioLeastWrong : ChangeSpec := { name := "ratioLeast", fn := fun _ => fun
  | [d] => { results := [.lit (.bool false)], args := [d] }
  | _ => none }
def RatioLeastWrongFalsely : Prop := ratioLeastRow.holds Try.pinned (OpenSpec.ofChange ratioLeastWrong)

/- THE SECOND FORM. 'bulk': how many values and letters a reading holds, each counted each time it is reached (what is shared counts as often as it is met; a slice's spare places count too). A statement '..UptoSaid' is the law's where the arguments, and the package variables that the reading takes, are together of bulk at most 1048576: NARROWER than '..Said'. Prove '..Said' where nothing that the law and all that it calls make is longer than what came in: it says more and counts as full. Else prove '..UptoSaid'. A law counts once. -/
mutual
def uptoBulk {H : Type} : DataW H → Nat
  | .lit (.string bytes) => bytes.length + 1
  | .lit _ => 1
  | .nil => 1
  | .ptr d => uptoBulk d + 1
  | .slice elems spare => uptoBulkAll elems + uptoBulkAll spare + 1
  | .agg parts => uptoBulkAll parts + 1
  | .iface _ d => uptoBulk d + 1
  | .map entries => uptoBulkEntries entries + 1
  | .held _ => 1
def uptoBulkAll {H : Type} : List (DataW H) → Nat
  | [] => 0
  | d :: r => uptoBulk d + uptoBulkAll r
def uptoBulkEntries {H : Type} : List (Lit × DataW H) → Nat
  | [] => 0
  | x :: r => uptoBulkEntry x + uptoBulkEntries r
def uptoBulkEntry {H : Type} : Lit × DataW H → Nat
  | (.string bytes, d) => bytes.length + uptoBulk d + 1
  | (_, d) => uptoBulk d + 1
 end
def uptoSmall : (H : Type) → List (DataW H) → Bool := fun _ ds => decide (uptoBulkAll ds ≤ 1048576)
def OpenSpec.upto (s : _root_.Go.ChangeSpec) : _root_.Go.OpenSpec := { _root_.Go.OpenSpec.ofChange s with cond := some uptoSmall }

/-- 'beadrolllaw03.RatioOrders', WHERE WHAT IT READS IS OF BULK AT MOST 1048576: true; the input reads as it did. -/
def ratioOrdersUptoRow : OpenClaim := { program := "ytepmbagflbkooaa", sum := "67107939f296105182c0283cbbe09cc1675de8aa9c6fe5f5983705b232809c64", func := "beadroll/beadrolllaw03.RatioOrders", spec := "ratioOrders", inPlace := ["math.Float64frombits", "math.Float64bits"], apart := false, narrowed := true }
def RatioOrdersUptoSaid : Prop := ratioOrdersUptoRow.holds Try.pinned (OpenSpec.upto ratioOrdersSpec)

/-- 'beadrolllaw03.RatioShares', WHERE WHAT IT READS IS OF BULK AT MOST 1048576: true; the input reads as it did. -/
def ratioSharesUptoRow : OpenClaim := { program := "ytepmbagflbkooaa", sum := "67107939f296105182c0283cbbe09cc1675de8aa9c6fe5f5983705b232809c64", func := "beadroll/beadrolllaw03.RatioShares", spec := "ratioShares", inPlace := ["math.Float64frombits", "math.Float64bits"], apart := false, narrowed := true }
def RatioSharesUptoSaid : Prop := ratioSharesUptoRow.holds Try.pinned (OpenSpec.upto ratioSharesSpec)

/-- 'beadrolllaw03.RatioTurns', WHERE WHAT IT READS IS OF BULK AT MOST 1048576: true; the input reads as it did. -/
def ratioTurnsUptoRow : OpenClaim := { program := "ytepmbagflbkooaa", sum := "67107939f296105182c0283cbbe09cc1675de8aa9c6fe5f5983705b232809c64", func := "beadroll/beadrolllaw03.RatioTurns", spec := "ratioTurns", inPlace := ["math.Float64frombits", "math.Float64bits"], apart := false, narrowed := true }
def RatioTurnsUptoSaid : Prop := ratioTurnsUptoRow.holds Try.pinned (OpenSpec.upto ratioTurnsSpec)

/-- 'beadrolllaw03.RatioWhole', WHERE WHAT IT READS IS OF BULK AT MOST 1048576: true; the input reads as it did. -/
def ratioWholeUptoRow : OpenClaim := { program := "ytepmbagflbkooaa", sum := "67107939f296105182c0283cbbe09cc1675de8aa9c6fe5f5983705b232809c64", func := "beadroll/beadrolllaw03.RatioWhole", spec := "ratioWhole", inPlace := ["math.Float64frombits", "math.Float64bits"], apart := false, narrowed := true }
def RatioWholeUptoSaid : Prop := ratioWholeUptoRow.holds Try.pinned (OpenSpec.upto ratioWholeSpec)

/-- 'beadrolllaw03.RatioClamps', WHERE WHAT IT READS IS OF BULK AT MOST 1048576: true; the input reads as it did. -/
def ratioClampsUptoRow : OpenClaim := { program := "ytepmbagflbkooaa", sum := "67107939f296105182c0283cbbe09cc1675de8aa9c6fe5f5983705b232809c64", func := "beadroll/beadrolllaw03.RatioClamps", spec := "ratioClamps", inPlace := ["math.Float64frombits", "math.Float64bits"], apart := false, narrowed := true }
def RatioClampsUptoSaid : Prop := ratioClampsUptoRow.holds Try.pinned (OpenSpec.upto ratioClampsSpec)

/-- 'beadrolllaw03.RatioLeast', WHERE WHAT IT READS IS OF BULK AT MOST 1048576: true; the input reads as it did. -/
def ratioLeastUptoRow : OpenClaim := { program := "ytepmbagflbkooaa", sum := "67107939f296105182c0283cbbe09cc1675de8aa9c6fe5f5983705b232809c64", func := "beadroll/beadrolllaw03.RatioLeast", spec := "ratioLeast", inPlace := ["math.Float64frombits", "math.Float64bits"], apart := false, narrowed := true }
def RatioLeastUptoSaid : Prop := ratioLeastUptoRow.holds Try.pinned (OpenSpec.upto ratioLeastSpec)

end Rows
end Go.Proofs.Ytepmbagflbkooaa
