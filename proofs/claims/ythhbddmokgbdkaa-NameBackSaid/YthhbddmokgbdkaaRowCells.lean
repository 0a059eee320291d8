/- What a row needs of an argument that is a slice whose elements are one cell each: the values that it holds. -/
import Derived.Test.YthhbddmokgbdkaaWWords
import Derived.ChangeSlices
import Derived.SliceStrings
import Derived.ProofKit
namespace Go.Proofs.Ythhbddmokgbdkaa.RowWords
open Go.RowKit Go.ChangeShapes Go.WideShapes Go.Proofs.YthhbddmokgbdkaaW.PrintWords

theorem cells_of {H : Type} {enc : TypeId × Value → H} {P : Program} {W : World} {base : Nat} {spare : Nat → Bool} {held : Bool} {t e : TypeId} {a : Option Addr} {len cap : Nat} {d : DataW H} {ps : List MemPlace}
    {Good : Value → Prop} (hu : P.underlying t = some (.slice e)) (hc : P.cellsOf e = 1) (hg : ∀ n cs y, DataW.trod enc P W base spare held n e cs = some y → ∃ v, cs = [v] ∧ Good v)
    (h : DataW.Trod enc P W base spare held t (.slice a len cap) d ps) :
    ∃ vs : List Value, len = vs.length ∧ vs.length ≤ cap ∧ vs.length ≤ maxLen ∧ (∀ v ∈ vs, Good v) ∧ (vs ≠ [] → ∃ x, a = some x ∧ ∀ i, i < vs.length → W.cell? (x.add i) = some (vs.getD i (.bool false))) := by
  obtain ⟨fuel, hf⟩ := h
  rcases DataW.trod_slice hu hf with ⟨h0, _⟩ | ⟨x, l, c, elems, rest, n, _, hcs, _, hb, hl, hm, hlen, hel, _, _⟩
  · simp [Value.cells] at h0
    obtain ⟨rfl, rfl, rfl⟩ := h0
    exact ⟨[], rfl, Nat.le_refl _, Nat.zero_le _, by simp, by simp⟩
  · simp [Value.cells] at hcs
    obtain ⟨rfl, rfl, rfl⟩ := hcs
    have each : ∀ i, i < len → ∃ v, W.cell? (x.add i) = some v ∧ Good v := by
      intro i hi
      have h1 := hel i hi
      rw [List.getElem?_eq_getElem (by omega), hc, Nat.mul_one, Option.bind_eq_some_iff] at h1
      obtain ⟨cs', hcs, hy⟩ := h1
      obtain ⟨v, rfl, hv⟩ := hg _ _ _ hy
      exact ⟨v, cell_of_cells?_one hcs, hv⟩
    refine ⟨(List.range len).map fun i => (W.cell? (x.add i)).getD (.bool false), by simp, by simpa using hl, by simp; omega, ?_, fun _ => ⟨x, rfl, ?_⟩⟩
    · intro v hv
      obtain ⟨i, hi, rfl⟩ := List.mem_map.1 hv
      obtain ⟨v, h1, h2⟩ := each i (by simpa using hi)
      rw [h1]; exact h2
    · intro i hi
      simp at hi
      obtain ⟨v, h1, _⟩ := each i hi
      rw [h1, List.getD, List.getElem?_map, List.getElem?_range hi]
      simp [h1]

def floatOf : Value → Nat | .float _ b => b | _ => 0
theorem floats_of {H : Type} {enc : TypeId × Value → H} {P : Program} {W : World} {base : Nat} {spare : Nat → Bool} {held : Bool} {t e : TypeId} {a : Option Addr} {len cap : Nat} {d : DataW H} {ps : List MemPlace}
    (hu : P.underlying t = some (.slice e)) (he : P.underlying e = some (.float .f64)) (hc : P.cellsOf e = 1)
    (h : DataW.Trod enc P W base spare held t (.slice a len cap) d ps) :
    ∃ l : List Nat, len = l.length ∧ l.length ≤ cap ∧ l.length ≤ maxLen ∧ (∀ b ∈ l, b < 18446744073709551616) ∧ (l ≠ [] → ∃ x, a = some x ∧ ∀ i, i < l.length → W.cell? (x.add i) = some (.float .f64 (l.getD i 0))) := by
  obtain ⟨vs, rfl, h1, h2, h3, h4⟩ := cells_of (Good := fun v => ∃ b, v = .float .f64 b ∧ b < 18446744073709551616) hu hc (by
    intro n cs y hy
    cases n with
    | zero => simp [DataW.trod] at hy
    | succ n =>
      unfold DataW.trod at hy
      rw [he] at hy
      split at hy <;> try (simp_all; done)
      rename_i heq
      simp only [Option.some.injEq, TypeDesc.float.injEq] at heq
      subst heq
      split at hy
      · rename_i hk
        obtain ⟨rfl, hw⟩ := hk
        exact ⟨_, rfl, by simpa [Lit.wf] using hw⟩
      · cases hy) h
  refine ⟨vs.map floatOf, by simp, by simpa using h1, by simpa using h2, ?_, ?_⟩
  · intro b hb
    obtain ⟨v, hv, rfl⟩ := List.mem_map.1 hb
    obtain ⟨b', rfl, hb'⟩ := h3 v hv
    exact hb'
  · intro hne
    obtain ⟨x, rfl, hx⟩ := h4 (by rintro rfl; simp at hne)
    refine ⟨x, rfl, fun i hi => ?_⟩
    simp at hi
    rw [hx i hi]
    obtain ⟨b, hb, _⟩ := h3 vs[i] (List.getElem_mem hi)
    simp [List.getD, List.getElem?_eq_getElem hi, hb, floatOf]
def boolOf : Value → Bool | .bool b => b | _ => false
theorem bools_of {H : Type} {enc : TypeId × Value → H} {P : Program} {W : World} {base : Nat} {spare : Nat → Bool} {held : Bool} {t e : TypeId} {a : Option Addr} {len cap : Nat} {d : DataW H} {ps : List MemPlace}
    (hu : P.underlying t = some (.slice e)) (he : P.underlying e = some .bool) (hc : P.cellsOf e = 1)
    (h : DataW.Trod enc P W base spare held t (.slice a len cap) d ps) :
    ∃ l : List Bool, len = l.length ∧ l.length ≤ cap ∧ l.length ≤ maxLen ∧ (l ≠ [] → ∃ x, a = some x ∧ ∀ i, i < l.length → W.cell? (x.add i) = some (.bool (l.getD i false))) := by
  obtain ⟨vs, rfl, h1, h2, h3, h4⟩ := cells_of (Good := fun v => ∃ b, v = .bool b) hu hc (by
    intro n cs y hy
    cases n with
    | zero => simp [DataW.trod] at hy
    | succ n =>
      unfold DataW.trod at hy
      rw [he] at hy
      split at hy <;> simp_all) h
  refine ⟨vs.map boolOf, by simp, by simpa using h1, by simpa using h2, ?_⟩
  intro hne
  obtain ⟨x, rfl, hx⟩ := h4 (by rintro rfl; simp at hne)
  refine ⟨x, rfl, fun i hi => ?_⟩
  simp at hi
  rw [hx i hi]
  obtain ⟨b, hb⟩ := h3 vs[i] (List.getElem_mem hi)
  simp [List.getD, List.getElem?_eq_getElem hi, hb, boolOf]
theorem bools_C {H : Type} {enc : TypeId × Value → H} {P : Program} {W : World} {base : Nat} {spare : Nat → Bool} {held : Bool} {t e : TypeId} {a : Option Addr} {len cap : Nat} {d : DataW H} {ps : List MemPlace}
    (hu : P.underlying t = some (.slice e)) (he : P.underlying e = some .bool) (hc : P.cellsOf e = 1)
    (h : DataW.Trod enc P W base spare held t (.slice a len cap) d ps) :
    ∃ l : List Bool, len = l.length ∧ Kd.C Kd.bool W a l.length l ∧ l.length ≤ cap ∧ l.length ≤ maxLen := by
  obtain ⟨l, rfl, h1, h2, h3⟩ := bools_of hu he hc h
  refine ⟨l, rfl, ?_, h1, h2⟩
  refine Kd.C_of_reads (d := false) (h1 := fun _ => rfl) ⟨rfl, by unfold maxLen at h2; omega, fun hn => ?_⟩
  obtain ⟨x, rfl, hx⟩ := h3 (by rintro rfl; simp at hn)
  exact ⟨x, rfl, fun i hi => by rw [hx i hi]⟩
end Go.Proofs.Ythhbddmokgbdkaa.RowWords
