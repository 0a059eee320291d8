/- awake of the pack laws. -/
import Derived.Test.YtekbecpcbfhdmaaPackName
namespace Go.Proofs.Ytekbecpcbfhdmaa.Given
open Go.RowKit Go.Proofs.YtekbecpcbfhdmaaW.PrintWords Go.Proofs.Ytekbecpcbfhdmaa.Oct Go.Proofs.Ytekbecpcbfhdmaa.Name Go.Proofs.Ytekbecpcbfhdmaa.Pack
set_option linter.unusedVariables false
def one : ByteArray := ⟨#[1, 97, 0]⟩
theorem one_right : rightB one = true := by decide +kernel
theorem one_put : putName one true ([], []) = ([1, 97, 0], [(one, 0)]) := by decide +kernel
set_option maxHeartbeats 1000000 in
set_option maxRecDepth 100000 in
theorem awake_any (w : World) : Calls Try.prog 8 #[] w fun e w' => e = .returned (.bool true) ∧ Below w.heap.size w w' := by
  go_enter Try.func8, Try.ntmps8
  go_wp2_with fail
  refine (New w.heap.size w (Nat.le_refl _)).mono ?_
  rintro e w1 ⟨p, mb, rfl, hpk, hp, hm, hb1⟩
  have HPK := Lib.hid hpk
  have HB1 := Lib.hid hb1
  clear hpk hb1
  go_wp2_with fail
  have hn := Name w.heap.size p mb none [] [] one true w1 HPK.out one_right small_nil (by decide +kernel) (by decide +kernel) HB1.out.size
  rw [one_put] at hn
  refine hn.mono ?_
  rintro e w2 ⟨rfl, hS2⟩
  have hB2 : Below w.heap.size w1 w2 := hS2.touch.below HB1.out.size fun k hk => HPK.out.own_lo k hk
  obtain ⟨⟨g2, hp2, _⟩, _⟩ := hS2
  have HP2 := Lib.hid hp2
  have HB2 := Lib.hid hB2
  clear hp2 hB2 hn
  go_wp2_with fail
  refine (Len w.heap.size p mb g2 _ _ w2 HP2.out).mono ?_
  rintro e w3 ⟨rfl, rfl⟩
  go_wp2_with fail
  refine (Bytes w.heap.size p mb g2 _ _ w2 HP2.out (by decide)).mono ?_
  rintro e w3 ⟨rfl, rfl⟩
  have e1 : arr [1, 97, 0] = ⟨#[1, 97, 0]⟩ := rfl
  rw [e1]
  go_wp2_with fail
  go_ret
  exact ⟨rfl, HB1.out.trans HB2.out⟩
def beadrolllaw09_awake.f : Option Bool := some true
theorem beadrolllaw09_awake.calls (r : Bool) (w : World) (h : beadrolllaw09_awake.f = some r) : Calls Try.prog 8 #[] w fun e w' => e = .returned (.bool r) ∧ Below w.heap.size w w' := by
  obtain rfl := Option.some.inj h
  exact awake_any w
end Go.Proofs.Ytekbecpcbfhdmaa.Given
