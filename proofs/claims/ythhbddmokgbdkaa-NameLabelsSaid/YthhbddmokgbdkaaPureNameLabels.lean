/- The pure statement of the law NameLabels. -/
import Derived.Test.YthhbddmokgbdkaaNameFacts2
namespace Go.Proofs.Ythhbddmokgbdkaa.Pure
open Go.RowKit Go.Proofs.Ythhbddmokgbdkaa.PNam Go.Proofs.YthhbddmokgbdkaaW.PrintWords Go.Proofs.YthhbddmokgbdkaaW.PrintLast Go.Proofs.YthhbddmokgbdkaaW.PrintMore Go.Proofs.Ythhbddmokgbdkaa.Given Go.Proofs.Ythhbddmokgbdkaa.Oct Go.Proofs.Ythhbddmokgbdkaa.Name Go.Proofs.Ythhbddmokgbdkaa.NameFacts
set_option linter.unusedVariables false
theorem labels_end (n : ByteArray) (l : List ByteArray) (hl : l.length ≤ 140) (k : Nat) (hk : 1000 ≤ k) (i : Int) (hi : ¬ i < (l.length : Int)) : beadrolllaw07_NameLabels.l0 k n l i = some true := by
  obtain ⟨k, rfl⟩ : ∃ j, k = j + 1 := ⟨k - 1, by omega⟩
  rw [beadrolllaw07_NameLabels.l0, if_neg hi, of_f l k (by omega) (by omega), rof_f l k (by omega) (by omega)]
  cases h : rightB n with
  | false =>
    obtain ⟨m, e⟩ := rlabels_no n k h (by omega)
    rw [labels_no_f n h, e, right_f, h]
    simp
  | true =>
    obtain ⟨m, hg, rfl, hs⟩ := (right_iff n).mp h
    have hm := name_len m hg
    rw [labels_yes_f m hg hs, rlabels_yes m k hg hs (by omega), right_f, h]
    simp [texts_f m k (by omega) (by omega)]
theorem labels_at (n : ByteArray) (l : List ByteArray) (hl : l.length ≤ 140) : ∀ (d i k : Nat), i + d = l.length → d + 1000 ≤ k → beadrolllaw07_NameLabels.l0 k n l (i : Int) = some true := by
  intro d
  induction d with
  | zero => intro i k hi hk; exact labels_end n l hl k (by omega) _ (by omega)
  | succ d ih =>
    intro i k hi hk
    obtain ⟨k, rfl⟩ : ∃ j, k = j + 1 := ⟨k - 1, by omega⟩
    rw [beadrolllaw07_NameLabels.l0, if_pos (by omega), if_pos (by omega), w64_id (x := (i : Int) + 1) (by omega) (by omega)]
    split
    · rfl
    · exact ih (i + 1) k (by omega) (by omega)
theorem NameLabels (a0 : ByteArray) (l1 : List ByteArray) (w0 : a0.size ≤ 140737488351232) (hm : l1.length ≤ maxLen) (hs : ∀ s ∈ l1, s.size ≤ maxLen) : ∃ k, beadrolllaw07_NameLabels.f k a0 l1 = some true := by
  refine ⟨2001, ?_⟩
  unfold beadrolllaw07_NameLabels.f
  rw [awake07_f, Option.bind_some, if_pos rfl]
  split
  · rw [beadrolllaw07_NameLabels.j0, if_pos rfl, awake07_f]; rfl
  · by_cases h : l1.length ≤ 140
    · rw [decide_eq_false (by omega), beadrolllaw07_NameLabels.j0, if_neg (by decide)]
      exact labels_at a0 l1 h l1.length 0 2000 (by omega) (by omega)
    · rw [decide_eq_true (by omega), beadrolllaw07_NameLabels.j0, if_pos rfl, awake07_f]; rfl
end Go.Proofs.Ythhbddmokgbdkaa.Pure
