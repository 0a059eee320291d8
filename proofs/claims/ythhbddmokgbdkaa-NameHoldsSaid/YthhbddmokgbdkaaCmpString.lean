/- cmp.Compare at strings: its contract. -/
import Derived.Test.YthhbddmokgbdkaaProg
import Derived.Test.YthhbddmokgbdkaaWWords
import Derived.WalkKit
import Derived.WalkLawsBesides
import Derived.Laws.Strings
namespace Go.Proofs.Ythhbddmokgbdkaa.Cmp
open Go.RowKit Go.Proofs.YthhbddmokgbdkaaW.PrintWords
theorem isnan (a : ByteArray) (w : World) : Calls Try.prog 79 #[.string a] w fun e w' => e = .returned (.bool false) ∧ w = w' := by
  have t0 : (a.toList == a.toList) = true := by simp
  go_enter Try.func79, Try.ntmps79
  go_wp2
  go_ret
  exact ⟨by simp, rfl⟩
/-- -1, 0, 1. -/
def cmpB (a b : List UInt8) : Int := if Op.bytesLess a b = true then -1 else if (a == b) = true then 0 else 1
set_option maxHeartbeats 1000000 in
theorem compare_any (a b : ByteArray) (x y : Bool) (w : World) (hx : Op.bytesLess a.toList b.toList = x) (hy : (a.toList == b.toList) = y) (r : Int) (hr : (if x = true then -1 else if y = true then 0 else 1) = r) :
    Calls Try.prog 66 #[.string a, .string b] w fun e w' => e = .returned (.int .i64 r) ∧ w = w' := by
  go_enter Try.func66, Try.ntmps66
  go_wp2_with fail
  refine (isnan a _).mono ?_
  rintro e w' ⟨rfl, rfl⟩
  go_wp2_with fail
  refine (isnan b _).mono ?_
  rintro e w' ⟨rfl, rfl⟩
  cases x with
  | true =>
    rw [if_pos rfl] at hr
    subst hr
    go_wp2_with fail
    go_ret
    exact ⟨rfl, rfl⟩
  | false =>
    rw [if_neg (by decide)] at hr
    cases y with
    | true =>
      rw [if_pos rfl] at hr
      subst hr
      go_wp2_with fail
      go_ret
      exact ⟨rfl, rfl⟩
    | false =>
      rw [if_neg (by decide)] at hr
      subst hr
      go_wp2_with fail
      go_ret
      exact ⟨rfl, rfl⟩
end Go.Proofs.Ythhbddmokgbdkaa.Cmp
namespace Go.Proofs.Ythhbddmokgbdkaa.Given
open Go.RowKit Go.Proofs.YthhbddmokgbdkaaW.PrintWords Go.Proofs.Ythhbddmokgbdkaa.Cmp
def cmp_Compare_string.f (a0 : ByteArray) (a1 : ByteArray) : Option Int := some (cmpB a0.toList a1.toList)
theorem cmp_Compare_string.calls (a0 : ByteArray) (a1 : ByteArray) (r : Int) (w : World) (h : cmp_Compare_string.f a0 a1 = some r) :
    Calls Try.prog 66 #[.string a0, .string a1] w fun e w' => e = .returned (.int .i64 r) ∧ Below w.heap.size w w' := by
  refine (compare_any a0 a1 _ _ w rfl rfl r (Option.some.inj h)).mono ?_
  rintro e w' ⟨rfl, rfl⟩
  exact ⟨rfl, Below.refl _ _⟩
end Go.Proofs.Ythhbddmokgbdkaa.Given
