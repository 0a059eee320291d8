/- The pure statement of the law DottedTexts. -/
import Derived.Test.YthhbddmokgbdkaaDotFacts
namespace Go.Proofs.Ythhbddmokgbdkaa.Pure
open Go.RowKit Go.Proofs.Ythhbddmokgbdkaa.PNam Go.Proofs.YthhbddmokgbdkaaW.PrintWords Go.Proofs.YthhbddmokgbdkaaW.PrintLast Go.Proofs.YthhbddmokgbdkaaW.PrintMore Go.Proofs.Ythhbddmokgbdkaa.Given Go.Proofs.Ythhbddmokgbdkaa.Oct Go.Proofs.Ythhbddmokgbdkaa.Name Go.Proofs.Ythhbddmokgbdkaa.NameFacts Go.Proofs.Ythhbddmokgbdkaa.Dot Go.Proofs.Ythhbddmokgbdkaa.DotFacts
theorem DottedTexts : beadrolllaw08_DottedTexts.Pure := by
  intro n w0
  refine ⟨20001, ?_⟩
  unfold beadrolllaw08_DottedTexts.f
  rw [awake08_f, Option.bind_some, if_pos rfl]
  by_cases h : (n.size : Int) > 400
  · rw [decide_eq_true h, beadrolllaw08_DottedTexts.j0, if_pos rfl, awake08_f]; rfl
  · rw [decide_eq_false h, beadrolllaw08_DottedTexts.j0, if_neg (by decide), text_f, Option.bind_some, rtext_f n 20000 (by omega), Option.bind_some]
    simp
end Go.Proofs.Ythhbddmokgbdkaa.Pure
