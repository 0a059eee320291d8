/- For any serial and any integer Add returns the reference's sum or the error ErrArg, and the sum is ahead just if the addend is 1 or more: no condition. -/
import Derived.Test.YtfkfmnffcnfehaaPSerialAddsx1
namespace Go.Proofs.Ytfkfmnffcnfehaa.Pure
open Go.RowKit Go.Proofs.Ytfkfmnffcnfehaa.PSerialAdds Go.Proofs.YtfkfmnffcnfehaaW.PrintWords Go.Proofs.YtfkfmnffcnfehaaW.PrintLast

theorem wf32 {a : Int} (h : (Lit.int .u32 a).wf = true) : 0 ≤ a ∧ a < 4294967296 := by
  simp [Lit.wf, IntKind.min, IntKind.max, IntKind.signed, IntKind.bits] at h; omega

theorem w64 {n : Int} (h0 : -9223372036854775808 ≤ n) (h1 : n < 9223372036854775808) : wrap64 n = n := by
  unfold wrap64; omega

theorem tm {n : Int} (h : 0 ≤ n) : Int.tmod n 4294967296 = n % 4294967296 := Int.tmod_eq_emod_of_nonneg h

theorem awake_some : beadrolllaw02_awake.f = some true := by simp [beadrolllaw02_awake.f, serial_Next.f, serial_Ahead.f, wrap32]

theorem wfi {a : Int} (h : (Lit.int .i64 a).wf = true) : -9223372036854775808 ≤ a ∧ a < 9223372036854775808 := by
  simp [Lit.wf, IntKind.min, IntKind.max, IntKind.signed, IntKind.bits] at h; omega

theorem SerialAdds : beadrolllaw02_SerialAdds.Pure := by
  intro a n ha hn
  have ha := wf32 ha; have hn := wfi hn
  refine ⟨1, ?_⟩
  unfold beadrolllaw02_SerialAdds.f serial_Add.f
  rw [awake_some]
  simp only [Option.bind_some, if_true]
  by_cases h0 : n < 0
  · simp [h0, beadrolllaw02_SerialAdds.j0]
  · rw [if_neg h0]
    by_cases h1 : n > 2147483647
    · simp [beadrolllaw02_SerialAdds.j0, h0, h1]
    · rw [if_neg h1]
      simp only [Option.bind_some]
      rw [if_neg h0, decide_eq_false h1]
      simp only [beadrolllaw02_SerialAdds.j0]
      unfold beadrollref02_Add.f serial_Ahead.f
      rw [if_neg (by simp), if_pos trivial, w64 (n := a) (by omega) (by omega), w64 (n := a + n) (by omega) (by omega), tm (by omega)]
      simp only [Option.bind_some]
      rw [if_pos (by omega)]
      congr 1
      rw [beq_iff_eq]
      apply Bool.eq_iff_iff.mpr
      simp only [decide_eq_true_eq]
      unfold wrap32
      omega

end Go.Proofs.Ytfkfmnffcnfehaa.Pure
