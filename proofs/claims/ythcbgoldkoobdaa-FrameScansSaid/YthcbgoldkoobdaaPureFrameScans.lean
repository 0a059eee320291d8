/- For any bytes of at most 2000, First and Scan return what the references do: no other condition. -/
import Derived.Test.YthcbgoldkoobdaaFrameFacts2
namespace Go.Proofs.Ythcbgoldkoobdaa.Pure
open Go.RowKit Go.Proofs.Ythcbgoldkoobdaa.POct Go.Proofs.YthcbgoldkoobdaaW.PrintWords Go.Proofs.YthcbgoldkoobdaaW.PrintLast Go.Proofs.YthcbgoldkoobdaaW.PrintMore Go.Proofs.Ythcbgoldkoobdaa.Given Go.Proofs.Ythcbgoldkoobdaa.Oct Go.Proofs.Ythcbgoldkoobdaa.OctFacts
set_option linter.unusedSimpArgs false
set_option linter.unusedVariables false

theorem FrameScans : beadrolllaw06_FrameScans.Pure := by
  intro b hb
  refine ⟨20 * 2000 + 3001, ?_⟩
  unfold beadrolllaw06_FrameScans.f
  rw [awake06_f _ (by omega), Option.bind_some, if_pos rfl]
  by_cases h1 : (b.size : Int) > 2000
  · rw [decide_eq_true h1, beadrolllaw06_FrameScans.j0, if_pos rfl, awake06_f _ (by omega)]; rfl
  · have hl := (scanS_size b.size b).2
    rw [decide_eq_false h1, beadrolllaw06_FrameScans.j0, if_neg (by simp), first_f b _ (by omega) (by omega), Option.bind_some, rfirst_f b _ (by omega) (by omega), Option.bind_some, scan_f b _ (by omega) (by omega), Option.bind_some, rscan_f b _ (by omega) (by omega), Option.bind_some, if_pos rfl, if_pos rfl, if_pos rfl, if_pos rfl, texts_f (scanS b.size b).1 _ (by omega) (by omega)]
    rfl

end Go.Proofs.Ythcbgoldkoobdaa.Pure
