/- What a row needs of an argument that is a slice of strings: the list that it holds, as the printed contracts read it. -/
import Derived.Test.YtekbecpcbfhdmaaWWords
import Derived.SliceStrings
import Derived.ProofKit
namespace Go.Proofs.Ytekbecpcbfhdmaa.RowWords
open Go.RowKit Go.ChangeShapes Go.WideShapes Go.Proofs.YtekbecpcbfhdmaaW.PrintWords

theorem strs_of {H : Type} {enc : TypeId × Value → H} {P : Program} {W : World} {base : Nat} {spare : Nat → Bool} {held : Bool} {t e : TypeId} {a : Option Addr} {len cap : Nat} {d : DataW H} {ps : List MemPlace}
    (hu : P.underlying t = some (.slice e)) (he : P.underlying e = some .string) (hc : P.cellsOf e = 1)
    (h : DataW.Trod enc P W base spare held t (.slice a len cap) d ps) :
    ∃ l : List ByteArray, len = l.length ∧ Kd.C Kd.string W a l.length l ∧ l.length ≤ cap ∧ l.length ≤ maxLen ∧ ∀ s ∈ l, s.size ≤ maxLen := by
  obtain ⟨fuel, hf⟩ := h
  rcases open_strings hu he hc hf with ⟨hcs, _⟩ | ⟨x, l, c, ss, hcs, _, hl, hm, hz, _, hcell, hs⟩
  · simp [Value.cells] at hcs
    obtain ⟨rfl, rfl, rfl⟩ := hcs
    exact ⟨[], rfl, Kd.C_nil _ _, Nat.le_refl _, Nat.zero_le _, by simp⟩
  · simp [Value.cells] at hcs
    obtain ⟨rfl, rfl, rfl⟩ := hcs
    have hlen : len ≤ ss.length := by
      rw [hz]; split
      · exact hl
      · exact Nat.le_refl _
    have hlt : (ss.take len).length = len := by rw [List.length_take]; omega
    refine ⟨ss.take len, hlt.symm, ?_, by omega, by omega, fun s hmem => hs s (List.mem_of_mem_take hmem)⟩
    refine Kd.C_of_reads (d := ByteArray.empty) (h1 := fun _ => rfl) ⟨rfl, by unfold maxLen at hm; omega, fun _ => ⟨x, rfl, fun i hi => ?_⟩⟩
    rw [hcell i (by omega)]
    simp [List.getD_eq_getElem?_getD, show i < len from by omega]

end Go.Proofs.Ytekbecpcbfhdmaa.RowWords
