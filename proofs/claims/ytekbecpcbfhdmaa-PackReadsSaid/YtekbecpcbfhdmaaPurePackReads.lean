import Derived.Test.YtekbecpcbfhdmaaPackRead2
namespace Go.Proofs.Ytekbecpcbfhdmaa.Pure
open Go.RowKit Go.Proofs.Ytekbecpcbfhdmaa.PPak Go.Proofs.YtekbecpcbfhdmaaW.PrintWords Go.Proofs.YtekbecpcbfhdmaaW.PrintLast Go.Proofs.Ytekbecpcbfhdmaa.PackFacts Go.Proofs.Ytekbecpcbfhdmaa.Given
theorem PackReads : beadrolllaw09_PackReads.Pure := by
  intro a0 a1 _ _
  refine ⟨fuel a0 + 1, ?_⟩
  unfold beadrolllaw09_PackReads.f
  rw [show beadrolllaw09_awake.f = some true from rfl, Option.bind_some, if_pos rfl, beadrolllaw09_PackReads.j0]
  by_cases hs : (a0.size : Int) > 2000
  · rw [decide_eq_true hs, if_pos rfl]; rfl
  · rw [decide_eq_false hs, if_neg (by decide)]
    have same : ∀ x : ByteArray × Int × Int, pack_Read.f (fuel a0) a0 a1 = some x → beadrollref09_Read.f (fuel a0) a0 a1 = some x →
        ((pack_Read.f (fuel a0) a0 a1).bind fun bt132 => ((beadrollref09_Read.f (fuel a0) a0 a1).bind fun bt135 => (if bt132.1.toList = bt135.1.toList then (if bt132.2.1 = bt135.2.1 then (some (bt132.2.2 == bt135.2.2)) else (some false)) else (some false)))) = some true := by
      intro x h1 h2
      rw [h1, Option.bind_some, h2, Option.bind_some, if_pos rfl, if_pos rfl]; simp
    by_cases ha : a1 < 0 ∨ (a0.size : Int) < a1
    · obtain ⟨h1, h2⟩ := read_arg a0 a1 (fuel a0) ha (by unfold fuel; omega)
      exact same _ h1 h2
    · obtain ⟨i, rfl⟩ := Int.eq_ofNat_of_zero_le (show 0 ≤ a1 by omega)
      exact same _ (pread_f a0 (by omega) i _ (by omega) (Nat.le_refl _)) (rread_f a0 (by omega) i _ (by omega) (Nat.le_refl _))
end Go.Proofs.Ytekbecpcbfhdmaa.Pure
