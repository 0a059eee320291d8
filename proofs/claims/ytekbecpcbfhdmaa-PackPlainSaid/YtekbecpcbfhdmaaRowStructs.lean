/- What a row needs of an argument that is a slice of structs of one-cell fields: the list that it holds, as the printed contracts read it. -/
import Derived.Test.YtekbecpcbfhdmaaWWords
import Derived.Deep.Slices
import Derived.Deep.Fields
import Derived.ProofKit
namespace Go.Proofs.Ytekbecpcbfhdmaa.RowStructs
open Go.RowKit Go.ChangeShapes Go.WideShapes Go.Deep Go.Proofs.YtekbecpcbfhdmaaW.PrintWords
set_option linter.unusedVariables false
section
variable {H : Type} {enc : TypeId × Value → H} {P : Program} {W : World} {base : Nat} {spare : Nat → Bool} {held : Bool}
/-- A struct's fields, cell by cell. -/
theorem fields_of {e : TypeId} {fs : Array Field} {fuel : Nat} {cs : List Value} {x : DataW H × List MemPlace} (he : P.underlying e = some (.struct fs)) (hone : oneCellFields P fs = true) (hC : P.cellsOf e = fs.size)
    (h : DataW.trod enc P W base spare held fuel e cs = some x) : cs.length = fs.size ∧ ∃ n, ∀ (j : Nat) (f : Field), fs[j]? = some f → ∃ v y, cs[j]? = some v ∧ DataW.trod enc P W base spare held n f.type [v] = some y := by
  obtain ⟨ys, n, _, _, hl, hyl, hf⟩ := DataW.trod_struct he h
  refine ⟨hl.trans hC, n, fun j f hj => ?_⟩
  obtain ⟨ho, hk⟩ := hone_of hone j f hj
  have hjl : j < fs.size := (Array.getElem?_eq_some_iff.1 hj).1
  have hcl : j < cs.length := by omega
  have hyj : j < ys.length := by omega
  have h1 := hf j f hj
  rw [ho, hk, List.drop_eq_getElem_cons hcl, List.take_succ_cons, List.take_zero] at h1
  exact ⟨cs[j], ys[j], List.getElem?_eq_getElem hcl, h1.trans (List.getElem?_eq_getElem hyj)⟩
theorem list_of {S : Type} (n : Nat) (R : Nat → S → Prop) (h : ∀ i, i < n → ∃ s, R i s) : ∃ l : List S, l.length = n ∧ ∀ i s, l[i]? = some s → R i s := by
  induction n with
  | zero => exact ⟨[], rfl, fun i s hs => by simp at hs⟩
  | succ n ih =>
    obtain ⟨l, hl, hr⟩ := ih fun i hi => h i (by omega)
    obtain ⟨s, hs⟩ := h n (by omega)
    refine ⟨l ++ [s], by simp [hl], fun i t ht => ?_⟩
    by_cases hi : i < n
    · rw [List.getElem?_append_left (by omega)] at ht; exact hr i t ht
    · rw [List.getElem?_append_right (by omega)] at ht
      by_cases e : i = n
      · subst e; rw [hl, Nat.sub_self] at ht; simp at ht; subst ht; exact hs
      · rw [List.getElem?_eq_none (by simp; omega)] at ht; cases ht
theorem structs_of {S : Type} (k : Kd S) (good : S → Prop) {t e : TypeId} {a : Option Addr} {len cap : Nat} {d : DataW H} {ps : List MemPlace} (hu : P.underlying t = some (.slice e)) (hC : P.cellsOf e = k.sz) (hpos : 0 < k.sz)
    (open1 : ∀ fuel cs x, DataW.trod enc P W base spare held fuel e cs = some x → ∃ s, k.K W s cs ∧ good s) (h : DataW.Trod enc P W base spare held t (.slice a len cap) d ps) :
    ∃ l : List S, len = l.length ∧ Kd.C k W a l.length l ∧ l.length ≤ cap ∧ l.length ≤ maxLen ∧ ∀ s ∈ l, good s := by
  obtain ⟨fuel, hf⟩ := h
  rcases open_slice hu hf with ⟨hcs, _⟩ | ⟨x, l, c, m, n, D, Pl, hcs, _, hl, hm, hmm, _, hi⟩
  · simp [Value.cells] at hcs
    obtain ⟨rfl, rfl, rfl⟩ := hcs
    exact ⟨[], rfl, Kd.C_nil _ _, Nat.le_refl _, Nat.zero_le _, by simp⟩
  · simp [Value.cells] at hcs
    obtain ⟨rfl, rfl, rfl⟩ := hcs
    have hlm : len ≤ m := by rw [hmm]; split <;> omega
    obtain ⟨L, hL, hR⟩ := list_of len (fun i s => good s ∧ ∃ cs', k.K W s cs' ∧ cs'.length = k.sz ∧ ∀ j u, cs'[j]? = some u → W.cell? (x.add (i * k.sz + j)) = some u) (fun i hi' => by
      obtain ⟨cs', hc, ht⟩ := hi i (by omega)
      obtain ⟨s, hs, hg⟩ := open1 _ _ _ ht
      rw [hC] at hc
      obtain ⟨_, hcl, hat⟩ := World.cells?_some hc
      refine ⟨s, hg, cs', hs, hcl, fun j u hj => ?_⟩
      have hjl : j < k.sz := by rw [← hcl]; exact (List.getElem?_eq_some_iff.1 hj).1
      have := hat j hjl
      rw [← Go.Deep.add_add]; rw [this]; exact hj)
    refine ⟨L, hL.symm, ⟨rfl, by unfold maxLen at hm; omega, fun _ => ⟨x, rfl, fun j p hp => ?_⟩⟩, by omega, by omega, fun s hs => ?_⟩
    · obtain ⟨_, c, h1, h2, h3⟩ := hR j p hp
      exact ⟨c, h2, h1, h3⟩
    · obtain ⟨i, hi', he⟩ := List.getElem_of_mem hs
      exact (hR i s (by rw [List.getElem?_eq_getElem hi', he])).1
end
end Go.Proofs.Ytekbecpcbfhdmaa.RowStructs
