/- Facts that the laws of the checksum share: Sum's plain function, and that the program isn't one that does nothing. -/
import Derived.Test.YtfkfmnffcnfehaaPCrcx1
import Derived.Test.YtfkfmnffcnfehaaCrcLaw
namespace Go.Proofs.Ytfkfmnffcnfehaa.CrcFacts
open Go.RowKit Go.Proofs.Ytfkfmnffcnfehaa.PCrc Go.Proofs.YtfkfmnffcnfehaaW.PrintWords Go.Proofs.YtfkfmnffcnfehaaW.PrintLast Go.Proofs.YtfkfmnffcnfehaaW.PrintMore Go.Proofs.Ytfkfmnffcnfehaa.Given Go.Proofs.Ytfkfmnffcnfehaa.Crc

theorem w64 {n : Int} (h0 : -9223372036854775808 ≤ n) (h1 : n < 9223372036854775808) : wrap64 n = n := by
  unfold wrap64; omega
theorem wf32 {a : Int} (h : (Lit.int .u32 a).wf = true) : 0 ≤ a ∧ a < 4294967296 := by
  simp [Lit.wf, IntKind.min, IntKind.max, IntKind.signed, IntKind.bits] at h; omega
theorem sum_f (s : ByteArray) (hs : s.size ≤ 9223372036854775807) : crc_Sum.f s = some ((sumN 0 s.data.toList : Nat) : Int) := by
  unfold crc_Sum.f
  have := more_f 0 s (by omega) hs
  rw [show ((0 : Nat) : Int) = 0 from rfl] at this
  rw [this]; rfl
theorem awake_some : beadrolllaw05_awake.f = some true := by
  unfold beadrolllaw05_awake.f
  rw [sum_f _ (by decide)]
  have : sumN 0 [49, 50, 51, 52, 53, 54, 55, 56, 57] = 3421780262 := by decide +kernel
  simp [this]


end Go.Proofs.Ytfkfmnffcnfehaa.CrcFacts
