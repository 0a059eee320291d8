/- For any at most 40 numbers and any at most 40 widths, Join returns the reference's bytes and its error: no other condition. -/
import Derived.Test.YthcbgoldkoobdaaOctFacts
namespace Go.Proofs.Ythcbgoldkoobdaa.Pure
open Go.RowKit Go.Proofs.Ythcbgoldkoobdaa.POct Go.Proofs.YthcbgoldkoobdaaW.PrintWords Go.Proofs.YthcbgoldkoobdaaW.PrintLast Go.Proofs.YthcbgoldkoobdaaW.PrintMore Go.Proofs.Ythcbgoldkoobdaa.Given Go.Proofs.Ythcbgoldkoobdaa.Oct Go.Proofs.Ythcbgoldkoobdaa.OctFacts
set_option linter.unusedSimpArgs false

theorem OctetsJoins : beadrolllaw01_OctetsJoins.Pure := by
  intro vs ws hm hm8 hv hm' hm8' hw
  refine ⟨101, ?_⟩
  unfold beadrolllaw01_OctetsJoins.f
  rw [awake01_f, Option.bind_some, if_pos rfl]
  by_cases h1 : (vs.length : Int) > 40
  · rw [if_pos h1, beadrolllaw01_OctetsJoins.j0, if_pos rfl, awake01_f]; rfl
  · rw [if_neg h1]
    by_cases h2 : (ws.length : Int) > 40
    · rw [decide_eq_true h2, beadrolllaw01_OctetsJoins.j0, if_pos rfl, awake01_f]; rfl
    · have hv' : ∀ v ∈ vs, 0 ≤ v ∧ v ≤ 18446744073709551615 := fun v h => wfu64 (hv v h)
      rw [decide_eq_false h2, beadrolllaw01_OctetsJoins.j0, if_neg (by simp), join_f vs ws 100 (by omega) (by omega) hv' (by omega), Option.bind_some, rjoin_f vs ws 100 (by omega) hv' (by omega), Option.bind_some, if_pos rfl]
      simp

end Go.Proofs.Ythcbgoldkoobdaa.Pure
