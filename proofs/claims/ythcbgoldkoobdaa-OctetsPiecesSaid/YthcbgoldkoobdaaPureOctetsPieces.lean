/- For any bytes of at most 70000 and any width, Piece returns the reference's bytes and its error: no other condition. -/
import Derived.Test.YthcbgoldkoobdaaOctFacts2
namespace Go.Proofs.Ythcbgoldkoobdaa.Pure
open Go.RowKit Go.Proofs.Ythcbgoldkoobdaa.POct Go.Proofs.YthcbgoldkoobdaaW.PrintWords Go.Proofs.YthcbgoldkoobdaaW.PrintLast Go.Proofs.YthcbgoldkoobdaaW.PrintMore Go.Proofs.Ythcbgoldkoobdaa.Given Go.Proofs.Ythcbgoldkoobdaa.Oct Go.Proofs.Ythcbgoldkoobdaa.OctFacts
set_option linter.unusedSimpArgs false
set_option linter.unusedVariables false

theorem OctetsPieces : beadrolllaw01_OctetsPieces.Pure := by
  intro b n hb hn
  refine ⟨101, ?_⟩
  unfold beadrolllaw01_OctetsPieces.f
  rw [awake01_f, Option.bind_some, if_pos rfl]
  by_cases h1 : (b.size : Int) > 70000
  · rw [decide_eq_true h1, beadrolllaw01_OctetsPieces.j0, if_pos rfl, awake01_f]; rfl
  · rw [decide_eq_false h1, beadrolllaw01_OctetsPieces.j0, if_neg (by simp), piece_f b n 100 (by omega) (by omega), Option.bind_some, rpiece_f b n 100 (by omega) (by omega), Option.bind_some, if_pos rfl]
    simp

end Go.Proofs.Ythcbgoldkoobdaa.Pure
