/- For any bytes of at most 2000, Frame returns the reference's frame, and Size its size: no other condition. -/
import Derived.Test.YthcbgoldkoobdaaFrameFacts2
namespace Go.Proofs.Ythcbgoldkoobdaa.Pure
open Go.RowKit Go.Proofs.Ythcbgoldkoobdaa.POct Go.Proofs.YthcbgoldkoobdaaW.PrintWords Go.Proofs.YthcbgoldkoobdaaW.PrintLast Go.Proofs.YthcbgoldkoobdaaW.PrintMore Go.Proofs.Ythcbgoldkoobdaa.Given Go.Proofs.Ythcbgoldkoobdaa.Oct Go.Proofs.Ythcbgoldkoobdaa.OctFacts
set_option linter.unusedSimpArgs false
set_option linter.unusedVariables false

theorem FrameMakes : beadrolllaw06_FrameMakes.Pure := by
  intro b hb
  refine ⟨20 * 2000 + 1001, ?_⟩
  unfold beadrolllaw06_FrameMakes.f
  rw [awake06_f _ (by omega), Option.bind_some, if_pos rfl]
  by_cases h1 : (b.size : Int) > 2000
  · rw [decide_eq_true h1, beadrolllaw06_FrameMakes.j0, if_pos rfl, awake06_f _ (by omega)]; rfl
  · rw [decide_eq_false h1, beadrolllaw06_FrameMakes.j0, if_neg (by simp), frame_f b _ (by omega) (by omega), Option.bind_some, if_pos rfl, rframe_f b _ (by omega) (by omega), Option.bind_some, if_pos rfl, frsize_f b (by omega), Option.bind_some]
    simp only [frame_size, beq_self_eq_true]

end Go.Proofs.Ythcbgoldkoobdaa.Pure
