/- For any bytes of at most 200 and any at most 40 widths, Split returns the reference's numbers, its rest and its error: no other condition. -/
import Derived.Test.YthcbgoldkoobdaaOctFacts
namespace Go.Proofs.Ythcbgoldkoobdaa.Pure
open Go.RowKit Go.Proofs.Ythcbgoldkoobdaa.POct Go.Proofs.YthcbgoldkoobdaaW.PrintWords Go.Proofs.YthcbgoldkoobdaaW.PrintLast Go.Proofs.YthcbgoldkoobdaaW.PrintMore Go.Proofs.Ythcbgoldkoobdaa.Given Go.Proofs.Ythcbgoldkoobdaa.Oct Go.Proofs.Ythcbgoldkoobdaa.OctFacts
set_option linter.unusedSimpArgs false

theorem OctetsSplits : beadrolllaw01_OctetsSplits.Pure := by
  intro b ws hb hm hm8 hw
  refine ⟨101, ?_⟩
  unfold beadrolllaw01_OctetsSplits.f
  rw [awake01_f, Option.bind_some, if_pos rfl]
  by_cases h1 : (b.size : Int) > 200
  · rw [if_pos h1, beadrolllaw01_OctetsSplits.j0, if_pos rfl, awake01_f]; rfl
  · rw [if_neg h1]
    by_cases h2 : (ws.length : Int) > 40
    · rw [decide_eq_true h2, beadrolllaw01_OctetsSplits.j0, if_pos rfl, awake01_f]; rfl
    · rw [decide_eq_false h2, beadrolllaw01_OctetsSplits.j0, if_neg (by simp), split_f b ws (by omega) (by omega), Option.bind_some, rsplit_f b ws 100 (by omega) (by omega) (by omega), Option.bind_some, if_pos rfl, if_pos rfl]
      rw [same_f _ _ ?_ ?_]
      · rfl
      all_goals
        unfold splitR
        split
        · cases hs : splitL b ws [] with
          | none => simp
          | some x => obtain ⟨xs, r⟩ := x; have := splitL_len ws b xs r hs; simp only []; omega
        · simp

end Go.Proofs.Ythcbgoldkoobdaa.Pure
