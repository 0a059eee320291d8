/- Two strings in their order: what one test tells of the others. -/
import Derived.Test.YthhbddmokgbdkaaProg
namespace Go.Proofs.Ythhbddmokgbdkaa.Given
theorem less_self : ∀ x : List UInt8, Op.bytesLess x x = false
  | [] => rfl
  | a :: x => by
    rw [Op.bytesLess, less_self x]
    simp
theorem less_ne {x y : List UInt8} (h : Op.bytesLess x y = true) : (y == x) = false := by
  rw [beq_eq_false_iff_ne]
  rintro rfl
  rw [less_self] at h; exact absurd h (by decide)
theorem less_eq : ∀ {x y : List UInt8}, Op.bytesLess y x = false → Op.bytesLess x y = false → (y == x) = true
  | [], [], _, _ => rfl
  | [], _ :: _, _, h => by rw [Op.bytesLess] at h; exact absurd h (by decide)
  | _ :: _, [], h, _ => by rw [Op.bytesLess] at h; exact absurd h (by decide)
  | a :: x, b :: y, h1, h2 => by
    rw [Op.bytesLess, Bool.or_eq_false_iff, Bool.and_eq_false_iff] at h1 h2
    have e : a = b := by
      have n1 : ¬ b < a := by simpa using h1.1
      have n2 : ¬ a < b := by simpa using h2.1
      exact UInt8.toNat_inj.mp (by rw [UInt8.lt_iff_toNat_lt] at n1 n2; omega)
    subst e
    have k1 : Op.bytesLess y x = false := by rcases h1.2 with h | h; · simp at h
                                             · exact h
    have k2 : Op.bytesLess x y = false := by rcases h2.2 with h | h; · simp at h
                                             · exact h
    have := less_eq k1 k2
    rw [beq_iff_eq] at this ⊢
    rw [this]
end Go.Proofs.Ythhbddmokgbdkaa.Given
