/- For any three serials Between returns what the reference's differences say: no condition. -/
import Derived.Test.YtfkfmnffcnfehaaPSerialBetweenx1
namespace Go.Proofs.Ytfkfmnffcnfehaa.Pure
open Go.RowKit Go.Proofs.Ytfkfmnffcnfehaa.PSerialBetween Go.Proofs.YtfkfmnffcnfehaaW.PrintWords Go.Proofs.YtfkfmnffcnfehaaW.PrintLast

theorem wf32 {a : Int} (h : (Lit.int .u32 a).wf = true) : 0 ≤ a ∧ a < 4294967296 := by
  simp [Lit.wf, IntKind.min, IntKind.max, IntKind.signed, IntKind.bits] at h; omega

theorem w64 {n : Int} (h0 : -9223372036854775808 ≤ n) (h1 : n < 9223372036854775808) : wrap64 n = n := by
  unfold wrap64; omega

theorem tm {n : Int} (h : 0 ≤ n) : Int.tmod n 4294967296 = n % 4294967296 := Int.tmod_eq_emod_of_nonneg h

theorem awake_some : beadrolllaw02_awake.f = some true := by simp [beadrolllaw02_awake.f, serial_Next.f, serial_Ahead.f, wrap32]

theorem less_f {a b : Int} (ha : 0 ≤ a ∧ a < 4294967296) (hb : 0 ≤ b ∧ b < 4294967296) :
    beadrollref02_Less.f a b = some ((b - a) % 4294967296) := by
  unfold beadrollref02_Less.f
  rw [w64 (n := a) (by omega) (by omega), w64 (n := b) (by omega) (by omega), w64 (n := b - a) (by omega) (by omega), w64 (by omega) (by omega), tm (by omega)]
  congr 1; omega

theorem SerialBetween : beadrolllaw02_SerialBetween.Pure := by
  intro a b c ha hb hc
  have ha := wf32 ha; have hb := wf32 hb; have hc := wf32 hc
  unfold beadrolllaw02_SerialBetween.f serial_Between.f
  rw [awake_some, less_f ha hb, less_f ha hc]
  simp

end Go.Proofs.Ytfkfmnffcnfehaa.Pure
