/- The pure statement of the law DottedReads. -/
import Derived.Test.YthhbddmokgbdkaaDotRead
namespace Go.Proofs.Ythhbddmokgbdkaa.Pure
open Go.RowKit Go.Proofs.Ythhbddmokgbdkaa.PNam Go.Proofs.YthhbddmokgbdkaaW.PrintWords Go.Proofs.YthhbddmokgbdkaaW.PrintLast Go.Proofs.YthhbddmokgbdkaaW.PrintMore Go.Proofs.Ythhbddmokgbdkaa.Given Go.Proofs.Ythhbddmokgbdkaa.Oct Go.Proofs.Ythhbddmokgbdkaa.Name Go.Proofs.Ythhbddmokgbdkaa.NameFacts Go.Proofs.Ythhbddmokgbdkaa.Dot Go.Proofs.Ythhbddmokgbdkaa.DotFacts
theorem DottedReads : beadrolllaw08_DottedReads.Pure := by
  intro s w0
  refine ⟨800001, ?_⟩
  unfold beadrolllaw08_DottedReads.f
  rw [awake08_f, Option.bind_some, if_pos rfl]
  by_cases h : (s.size : Int) > 1200
  · rw [decide_eq_true h, beadrolllaw08_DottedReads.j0, if_pos rfl, awake08_f]; rfl
  · rw [decide_eq_false h, beadrolllaw08_DottedReads.j0, if_neg (by decide), read_f s 800000 (by omega) (by omega), Option.bind_some, rread_f s 800000 (by omega) (by omega), Option.bind_some]
    simp
end Go.Proofs.Ythhbddmokgbdkaa.Pure
