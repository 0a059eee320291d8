/- For any bytes of at most 400 and any width, Cut and Pieces return what the references do: no other condition. -/
import Derived.Test.YthcbgoldkoobdaaOctFacts2
namespace Go.Proofs.Ythcbgoldkoobdaa.Pure
open Go.RowKit Go.Proofs.Ythcbgoldkoobdaa.POct Go.Proofs.YthcbgoldkoobdaaW.PrintWords Go.Proofs.YthcbgoldkoobdaaW.PrintLast Go.Proofs.YthcbgoldkoobdaaW.PrintMore Go.Proofs.Ythcbgoldkoobdaa.Given Go.Proofs.Ythcbgoldkoobdaa.Oct Go.Proofs.Ythcbgoldkoobdaa.OctFacts
set_option linter.unusedSimpArgs false
set_option linter.unusedVariables false

theorem OctetsCuts : beadrolllaw01_OctetsCuts.Pure := by
  intro b n hb hn
  refine ⟨1002, ?_⟩
  unfold beadrolllaw01_OctetsCuts.f
  rw [awake01_f, Option.bind_some, if_pos rfl]
  by_cases h1 : (b.size : Int) > 400
  · rw [decide_eq_true h1, beadrolllaw01_OctetsCuts.j0, if_pos rfl, awake01_f]; rfl
  · rw [decide_eq_false h1, beadrolllaw01_OctetsCuts.j0, if_neg (by simp), cut_f b n (by omega), Option.bind_some, rcut_f b n 1001 (by omega) (by omega), Option.bind_some, pieces_f b n (by omega), Option.bind_some, rpieces_f b n 1001 (by omega) (by omega), Option.bind_some, if_pos rfl, if_pos rfl, if_pos rfl, if_pos rfl]
    rw [texts_f _ _ ?_ ?_]
    · rfl
    all_goals
      unfold piecesR
      split
      · cases hs : piecesL n.toNat b.size b [] with
        | none => simp
        | some xs => have := piecesL_len n.toNat (by omega) b.size b [] xs hs; simp only [List.length_nil] at this; simp only []; omega
      · simp

end Go.Proofs.Ythcbgoldkoobdaa.Pure
