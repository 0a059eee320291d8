/- For any two serials Ahead, Compare and Next return the reference's results: no condition. -/
import Derived.Test.YtfkfmnffcnfehaaPSerialTellsx1
namespace Go.Proofs.Ytfkfmnffcnfehaa.Pure
open Go.RowKit Go.Proofs.Ytfkfmnffcnfehaa.PSerialTells Go.Proofs.YtfkfmnffcnfehaaW.PrintWords Go.Proofs.YtfkfmnffcnfehaaW.PrintLast

theorem wf32 {a : Int} (h : (Lit.int .u32 a).wf = true) : 0 ≤ a ∧ a < 4294967296 := by
  simp [Lit.wf, IntKind.min, IntKind.max, IntKind.signed, IntKind.bits] at h; omega

theorem w64 {n : Int} (h0 : -9223372036854775808 ≤ n) (h1 : n < 9223372036854775808) : wrap64 n = n := by
  unfold wrap64; omega

theorem tm {n : Int} (h : 0 ≤ n) : Int.tmod n 4294967296 = n % 4294967296 := Int.tmod_eq_emod_of_nonneg h

theorem awake_some : beadrolllaw02_awake.f = some true := by simp [beadrolllaw02_awake.f, serial_Next.f, serial_Ahead.f, wrap32]

theorem less_f {a b : Int} (ha : 0 ≤ a ∧ a < 4294967296) (hb : 0 ≤ b ∧ b < 4294967296) :
    beadrollref02_Less.f a b = some ((b - a) % 4294967296) := by
  unfold beadrollref02_Less.f
  rw [w64 (n := a) (by omega) (by omega), w64 (n := b) (by omega) (by omega), w64 (n := b - a) (by omega) (by omega), w64 (by omega) (by omega), tm (by omega)]
  congr 1; omega

theorem ahead_ref {a b : Int} (ha : 0 ≤ a ∧ a < 4294967296) (hb : 0 ≤ b ∧ b < 4294967296) :
    beadrollref02_Ahead.f a b = serial_Ahead.f a b := by
  unfold beadrollref02_Ahead.f serial_Ahead.f
  rw [less_f ha hb]
  simp only [Option.bind_some]
  unfold wrap32
  split
  · congr 1; apply Bool.eq_iff_iff.mpr; simp only [decide_eq_true_eq]; omega
  · congr 1; symm; rw [decide_eq_false_iff_not]; omega

theorem compare_ref {a b : Int} (ha : 0 ≤ a ∧ a < 4294967296) (hb : 0 ≤ b ∧ b < 4294967296) :
    beadrollref02_Compare.f a b = serial_Compare.f a b := by
  unfold beadrollref02_Compare.f serial_Compare.f
  rw [less_f ha hb, ahead_ref ha hb]
  simp only [Option.bind_some]

theorem next_ref {a : Int} (ha : 0 ≤ a ∧ a < 4294967296) : beadrollref02_Next.f a = serial_Next.f a := by
  unfold beadrollref02_Next.f serial_Next.f beadrollref02_Add.f
  rw [w64 (n := a) (by omega) (by omega), w64 (n := a + 1) (by omega) (by omega), tm (by omega), Int.emod_emod]
  simp only [Option.bind_some]

theorem SerialTells : beadrolllaw02_SerialTells.Pure := by
  intro a b ha hb
  have ha := wf32 ha; have hb := wf32 hb
  unfold beadrolllaw02_SerialTells.f
  rw [awake_some, compare_ref ha hb, ahead_ref ha hb, next_ref ha]
  obtain ⟨c, hc⟩ : ∃ c, serial_Compare.f a b = some c := by
    unfold serial_Compare.f serial_Ahead.f; simp only [Option.bind_some]; repeat (first | exact ⟨_, rfl⟩ | split)
  obtain ⟨d, hd⟩ : ∃ d, serial_Ahead.f a b = some d := ⟨_, rfl⟩
  obtain ⟨e, he⟩ : ∃ e, serial_Next.f a = some e := by unfold serial_Next.f; repeat (first | exact ⟨_, rfl⟩ | split)
  rw [hc, hd, he]
  simp

end Go.Proofs.Ytfkfmnffcnfehaa.Pure
