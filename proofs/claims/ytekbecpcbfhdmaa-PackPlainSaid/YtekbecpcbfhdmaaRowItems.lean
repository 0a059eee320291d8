/- The pack laws' items as arguments. -/
import Derived.Test.YtekbecpcbfhdmaaRowStructs
import Derived.Test.YtekbecpcbfhdmaaPPakx0
namespace Go.Proofs.Ytekbecpcbfhdmaa.RowStructs
open Go.RowKit Go.ChangeShapes Go.WideShapes Go.Deep Go.Proofs.YtekbecpcbfhdmaaW.PrintWords Go.Proofs.Ytekbecpcbfhdmaa.PPak
section
variable {H : Type} {enc : TypeId × Value → H} {W : World} {base : Nat} {spare : Nat → Bool} {held : Bool}
theorem item_of {fuel : Nat} {cs : List Value} {x : DataW H × List MemPlace} (h : DataW.trod enc Try.prog W base spare held fuel 31 cs = some x) : ∃ s : S31, k31.K W s cs ∧ True := by
  obtain ⟨hl, n, hf⟩ := fields_of Try.underlying31 (by kernel_rfl) (by kernel_rfl) h
  obtain ⟨v0, y0, c0, h0⟩ := hf 0 _ rfl
  obtain ⟨v1, y1, c1, h1⟩ := hf 1 _ rfl
  obtain ⟨v2, y2, c2, h2⟩ := hf 2 _ rfl
  obtain ⟨b, e0, _⟩ := DataW.trod_bool Try.underlying4 h0
  obtain ⟨s, e1, _⟩ := DataW.trod_string Try.underlying9 h1
  obtain ⟨m, e2, _⟩ := DataW.trod_bool Try.underlying4 h2
  obtain rfl : v0 = .bool b := by simpa using e0
  obtain rfl : v1 = .string s := by simpa using e1
  obtain rfl : v2 = .bool m := by simpa using e2
  have : cs = [.bool b, .string s, .bool m] := by
    match cs, hl with
    | [x, y, z], _ => simp at c0 c1 c2; rw [c0, c1, c2]
  rw [this]
  exact ⟨⟨b, s, m⟩, k31_mk W ⟨b, s, m⟩, trivial⟩
theorem of_T31 {t : TypeId} {a : Option Addr} {len cap : Nat} {d : DataW H} {ps : List MemPlace} (hu : Try.prog.underlying t = some (.slice 31)) (h : DataW.Trod enc Try.prog W base spare held t (.slice a len cap) d ps) :
    ∃ l : List S31, len = l.length ∧ Kd.C k31 W a l.length l ∧ l.length ≤ cap ∧ l.length ≤ maxLen ∧ ∀ s ∈ l, True :=
  structs_of k31 (fun _ => True) hu (by kernel_rfl) (by decide) (fun _ _ _ h => item_of h) h
end
end Go.Proofs.Ytekbecpcbfhdmaa.RowStructs
