/- Successive serials, up to 2147483000 and 199 steps in total, are each ahead of the first one, and none is 0: no condition beyond the law's own. -/
import Derived.Test.YtfkfmnffcnfehaaPSerialRunsx1
namespace Go.Proofs.Ytfkfmnffcnfehaa.Pure
open Go.RowKit Go.Proofs.Ytfkfmnffcnfehaa.PSerialRuns Go.Proofs.YtfkfmnffcnfehaaW.PrintWords Go.Proofs.YtfkfmnffcnfehaaW.PrintLast

theorem wf32 {a : Int} (h : (Lit.int .u32 a).wf = true) : 0 ≤ a ∧ a < 4294967296 := by
  simp [Lit.wf, IntKind.min, IntKind.max, IntKind.signed, IntKind.bits] at h; omega

theorem w64 {n : Int} (h0 : -9223372036854775808 ≤ n) (h1 : n < 9223372036854775808) : wrap64 n = n := by
  unfold wrap64; omega

theorem tm {n : Int} (h : 0 ≤ n) : Int.tmod n 4294967296 = n % 4294967296 := Int.tmod_eq_emod_of_nonneg h

theorem awake_some : beadrolllaw02_awake.f = some true := by simp [beadrolllaw02_awake.f, serial_Next.f, serial_Ahead.f, wrap32]

theorem wfi {a : Int} (h : (Lit.int .i64 a).wf = true) : -9223372036854775808 ≤ a ∧ a < 9223372036854775808 := by
  simp [Lit.wf, IntKind.min, IntKind.max, IntKind.signed, IntKind.bits] at h; omega

theorem wf8 {a : Int} (h : (Lit.int .u8 a).wf = true) : 0 ≤ a ∧ a < 256 := by
  simp [Lit.wf, IntKind.min, IntKind.max, IntKind.signed, IntKind.bits] at h; omega

theorem steps_some (a s : Int) (hs : 0 ≤ s ∧ s < 256) (d : Nat) :
    ∀ (k : Nat) (b i : Int), 0 ≤ b ∧ b < 4294967296 → 0 ≤ i → i ≤ s % 200 → s % 200 - i = d → d < k → (b - a) % 4294967296 + 2 * (d : Int) ≤ 2147483647 →
    beadrolllaw02_SerialRuns.l0 k a s b i = some true := by
  induction d with
  | zero =>
    intro k b i hb h0 h1 hd hk hm
    obtain ⟨k, rfl⟩ : ∃ m, k = m + 1 := ⟨k - 1, by omega⟩
    simp only [beadrolllaw02_SerialRuns.l0]
    rw [Int.tmod_eq_emod_of_nonneg (by omega), w64 (by omega) (by omega), if_neg (by omega)]
  | succ d ih =>
    intro k b i hb h0 h1 hd hk hm
    obtain ⟨k, rfl⟩ : ∃ m, k = m + 1 := ⟨k - 1, by omega⟩
    simp only [beadrolllaw02_SerialRuns.l0]
    rw [Int.tmod_eq_emod_of_nonneg (by omega), w64 (n := s % 200) (by omega) (by omega), if_pos (by omega), w64 (n := i + 1) (by omega) (by omega)]
    unfold serial_Next.f serial_Ahead.f
    by_cases hz : (b + 1) % 4294967296 = 0
    · rw [if_pos hz]
      simp only [Option.bind_some]
      rw [if_neg (by omega), if_pos (by rw [decide_eq_true_eq]; unfold wrap32; omega), if_pos (by rw [decide_eq_true_eq]; unfold wrap32; omega)]
      exact ih k 1 (i + 1) (by omega) (by omega) (by omega) (by omega) (by omega) (by omega)
    · rw [if_neg hz]
      simp only [Option.bind_some]
      rw [if_neg (by omega), if_pos (by rw [decide_eq_true_eq]; unfold wrap32; omega), if_pos (by rw [decide_eq_true_eq]; unfold wrap32; omega)]
      exact ih k _ (i + 1) (by omega) (by omega) (by omega) (by omega) (by omega) (by omega)

theorem SerialRuns : beadrolllaw02_SerialRuns.Pure := by
  intro a s m ha hs hm
  have ha := wf32 ha; have hs := wf8 hs; have hm := wfi hm
  refine ⟨302, ?_⟩
  unfold beadrolllaw02_SerialRuns.f
  rw [awake_some]
  simp only [Option.bind_some, if_true]
  by_cases h0 : m < 0
  · rw [if_pos h0]; simp [beadrolllaw02_SerialRuns.j0, awake_some]
  · rw [if_neg h0]
    by_cases h1 : m > 2147483000
    · rw [decide_eq_true h1]; simp [beadrolllaw02_SerialRuns.j0, awake_some]
    · rw [decide_eq_false h1]
      simp only [beadrolllaw02_SerialRuns.j0]
      unfold serial_Add.f
      rw [if_neg (by simp), if_neg h0, if_neg (by omega)]
      simp only [Option.bind_some, if_true]
      exact steps_some a s hs (s % 200).toNat 301 _ 0 (by omega) (by omega) (by omega) (by omega) (by omega) (by omega)

end Go.Proofs.Ytfkfmnffcnfehaa.Pure
