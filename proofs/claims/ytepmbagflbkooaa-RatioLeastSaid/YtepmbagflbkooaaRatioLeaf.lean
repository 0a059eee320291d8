/- The small functions of ratio, its reference and of math that they call: their contracts. -/
import Derived.Test.YtepmbagflbkooaaProg
import Derived.Test.YtepmbagflbkooaaWWords
import Derived.Test.YtepmbagflbkooaaFloatLaw
import Derived.WalkKit
import Derived.WalkLawsBesides
import Derived.Laws.Strings
import Derived.Laws.Externs
import Derived.Laws.BitsAll
namespace Go.Proofs.Ytepmbagflbkooaa.Ratio
open Go.RowKit Go.Proofs.YtepmbagflbkooaaW.PrintWords Go.Proofs.Ytepmbagflbkooaa.FloatLaw
theorem fmt : FloatKind.f64.format = Ieee.double := rfl
theorem bits_run (b : Nat) (w : World) : (callFunc 29 #[.float .f64 b]).run Try.prog w = .ok (.value (.int .u64 (b : Int))) w := by
  rw [run_callFunc_extern Try.func29 (by kernel_rfl) (by kernel_rfl) (by kernel_rfl) (e := Extern.MathFloatBits.float64bits) (by kernel_rfl)]; rfl
theorem from_run (b : Int) (w : World) : (callFunc 35 #[.int .u64 b]).run Try.prog w = .ok (.value (.float .f64 b.toNat)) w := by
  rw [run_callFunc_extern Try.func35 (by kernel_rfl) (by kernel_rfl) (by kernel_rfl) (e := Extern.MathFloatBits.float64frombits) (by kernel_rfl)]; rfl
def b1 : Bool → Int | true => 1 | false => 0
def zeroOf : Bool → Nat | true => 9223372036854775808 | false => 0
def infOf : Bool → Nat | true => 18442240474082181120 | false => 9218868437227405312
def cmpI (a b : Int) : Int := if a < b then -1 else if b < a then 1 else 0
theorem andNot_top (z : Int) (h0 : 0 ≤ z) (h1 : z < 18446744073709551616) : bits .andNot .u64 z 9223372036854775808 = z % 9223372036854775808 := by go_bits2
theorem and_top (z : Int) (h0 : 0 ≤ z) (h1 : z < 18446744073709551616) : bits .and .u64 z 9223372036854775808 = z / 9223372036854775808 * 9223372036854775808 := by go_bits2
theorem ne_self (a : Nat) : (FloatKind.f64.format.order a a != some .eq) = isnan a := by
  rw [fmt, ne_true]; cases isnan a <;> simp

theorem IsNaN (a : Nat) (w : World) : Calls Try.prog 23 #[.float .f64 a] w fun e w' => e = .returned (.bool (isnan a)) ∧ w = w' := by
  have t0 := ne_self a
  go_enter Try.func23, Try.ntmps23
  go_wp2
  go_ret
  exact ⟨by simp, rfl⟩
theorem nan (a : Nat) (w : World) : Calls Try.prog 28 #[.float .f64 a] w fun e w' => e = .returned (.bool (isnan a)) ∧ w = w' := by
  have t0 := ne_self a
  go_enter Try.func28, Try.ntmps28
  go_wp2
  go_ret
  exact ⟨by simp, rfl⟩
set_option linter.unusedVariables false in
theorem below (a : Nat) (ha : a < 18446744073709551616) (w : World) : Calls Try.prog 37 #[.float .f64 a] w fun e w' => e = .returned (.bool (neg a)) ∧ w = w' := by
  have t0 := bits_run a
  have t1 : decide ((9223372036854775808 : Int) ≤ (a : Int)) = neg a := by
    unfold FloatLaw.neg
    by_cases h : (9223372036854775808 : Int) ≤ (a : Int)
    · have : a / 9223372036854775808 % 2 = 1 := by omega
      simp [h, this]
    · have : a / 9223372036854775808 % 2 = 0 := by omega
      simp [h, this]
  go_enter Try.func37, Try.ntmps37
  go_wp2
  go_ret
  exact ⟨by simp, rfl⟩
theorem wrap_neg (a : Nat) (_ha : a < 18446744073709551616) : decide (wrap64 (a : Int) < 0) = neg a := by
  unfold FloatLaw.neg wrap64
  by_cases h : a / 9223372036854775808 % 2 = 1
  · simp [h]; omega
  · have h' : a / 9223372036854775808 % 2 = 0 := by omega
    simp [h']; omega
set_option linter.unusedVariables false in
theorem Signbit (a : Nat) (ha : a < 18446744073709551616) (w : World) : Calls Try.prog 39 #[.float .f64 a] w fun e w' => e = .returned (.bool (neg a)) ∧ w = w' := by
  have t0 := bits_run a
  have t1 := wrap_neg a ha
  go_enter Try.func39, Try.ntmps39
  go_wp2
  go_ret
  exact ⟨by simp, rfl⟩
theorem rank (a : Nat) (w : World) : Calls Try.prog 25 #[.float .f64 a] w fun e w' => e = .returned (.int .i64 (b1 (isnan a))) ∧ w = w' := by
  go_enter Try.func25, Try.ntmps25
  go_wp2_with fail
  refine (IsNaN a _).mono ?_
  rintro e w' ⟨rfl, rfl⟩
  cases hn : isnan a with
  | true =>
    go_wp2_with fail
    go_ret
    exact ⟨by simp [b1, hn], rfl⟩
  | false =>
    go_wp2_with fail
    go_ret
    exact ⟨by simp [b1, hn], rfl⟩
theorem sign (a : Nat) (ha : a < 18446744073709551616) (w : World) : Calls Try.prog 26 #[.float .f64 a] w fun e w' => e = .returned (.int .i64 (b1 (!neg a))) ∧ w = w' := by
  go_enter Try.func26, Try.ntmps26
  go_wp2_with fail
  refine (Signbit a ha _).mono ?_
  rintro e w' ⟨rfl, rfl⟩
  cases hn : neg a with
  | true =>
    go_wp2_with fail
    go_ret
    exact ⟨by simp [b1, hn], rfl⟩
  | false =>
    go_wp2_with fail
    go_ret
    exact ⟨by simp [b1, hn], rfl⟩
theorem ints (a b : Int) (w : World) : Calls Try.prog 24 #[.int .i64 a, .int .i64 b] w fun e w' => e = .returned (.int .i64 (cmpI a b)) ∧ w = w' := by
  obtain ⟨x, hx⟩ : ∃ x, decide (a < b) = x := ⟨_, rfl⟩
  obtain ⟨y, hy⟩ : ∃ y, decide (b < a) = y := ⟨_, rfl⟩
  go_enter Try.func24, Try.ntmps24
  cases x with
  | true =>
    go_wp2_with fail
    go_ret
    exact ⟨by have := of_decide_eq_true hx; simp [cmpI, this], rfl⟩
  | false =>
    cases y with
    | true =>
      go_wp2_with fail
      go_ret
      exact ⟨by have := of_decide_eq_false hx; have := of_decide_eq_true hy; simp [cmpI, *], rfl⟩
    | false =>
      go_wp2_with fail
      go_ret
      exact ⟨by have := of_decide_eq_false hx; have := of_decide_eq_false hy; simp [cmpI, *], rfl⟩
/-- A number's place in the order. -/
def pl (a : Nat) : Int := if isnan a then 9223372036854775807 else if neg a then -(rung a : Int) - 1 else (rung a : Int)
theorem rung_neg {a : Nat} (ha : a < 18446744073709551616) (h : neg a = true) : a = 9223372036854775808 + rung a ∧ rung a < 9223372036854775808 := by
  unfold FloatLaw.neg at h; unfold rung
  have : a / 9223372036854775808 % 2 = 1 := by simpa using h
  omega
theorem rung_pos {a : Nat} (ha : a < 18446744073709551616) (h : neg a = false) : a = rung a ∧ rung a < 9223372036854775808 := by
  unfold FloatLaw.neg at h; unfold rung
  have : ¬ a / 9223372036854775808 % 2 = 1 := by simpa using h
  omega
theorem ge_neg (a : Nat) (ha : a < 18446744073709551616) : decide ((9223372036854775808 : Int) ≤ (a : Int)) = neg a := by
  cases h : neg a
  · have := rung_pos ha h; simp; omega
  · have := rung_neg ha h; simp; omega
theorem place (a : Nat) (ha : a < 18446744073709551616) (w : World) : Calls Try.prog 27 #[.float .f64 a] w fun e w' => e = .returned (.int .i64 (pl a)) ∧ w = w' := by
  have t0 := bits_run a
  have t1 := ge_neg a ha
  go_enter Try.func27, Try.ntmps27
  go_wp2_with fail
  refine (nan a _).mono ?_
  rintro e w' ⟨rfl, rfl⟩
  cases hn : isnan a with
  | true =>
    go_wp2_with fail
    go_ret
    exact ⟨by simp [pl, hn], rfl⟩
  | false =>
    cases hg : neg a with
    | true =>
      rw [hg] at t1
      go_wp2_with fail
      go_ret
      refine ⟨?_, rfl⟩
      have hr := rung_neg ha hg
      have e : wrap64 (wrap64 (-wrap64 (IntKind.u64.wrap (↑a - 9223372036854775808))) - 1) = pl a := by
        rw [pl, hn, hg, IntKind.wrap_u64]
        simp only [Bool.false_eq_true, if_false, if_true]
        unfold wrap64
        omega
      simp [e]
    | false =>
      rw [hg] at t1
      go_wp2_with fail
      go_ret
      refine ⟨?_, rfl⟩
      have hr := rung_pos ha hg
      have e : wrap64 (a : Int) = pl a := by
        rw [pl, hn, hg]
        simp only [Bool.false_eq_true, if_false]
        unfold wrap64
        omega
      simp [e]
theorem zero (b : Bool) (w : World) : Calls Try.prog 36 #[.bool b] w fun e w' => e = .returned (.float .f64 (zeroOf b)) ∧ w = w' := by
  have t0 := from_run 9223372036854775808
  go_enter Try.func36, Try.ntmps36
  cases b with
  | true =>
    go_wp2_with fail
    go_ret
    exact ⟨rfl, rfl⟩
  | false =>
    go_wp2_with fail
    go_ret
    exact ⟨rfl, rfl⟩
theorem infinity (b : Bool) (w : World) : Calls Try.prog 38 #[.bool b] w fun e w' => e = .returned (.float .f64 (infOf b)) ∧ w = w' := by
  have t0 := from_run 18442240474082181120
  have t1 := from_run 9218868437227405312
  go_enter Try.func38, Try.ntmps38
  cases b with
  | true =>
    go_wp2_with fail
    go_ret
    exact ⟨rfl, rfl⟩
  | false =>
    go_wp2_with fail
    go_ret
    exact ⟨rfl, rfl⟩
theorem NaN (w : World) : Calls Try.prog 30 #[] w fun e w' => e = .returned (.float .f64 9221120237041090561) ∧ w = w' := by
  have t0 := from_run 9221120237041090561
  go_enter Try.func30, Try.ntmps30
  go_wp2
  go_ret
  exact ⟨rfl, rfl⟩
theorem Inf (n : Int) (x : Bool) (hx : decide (0 ≤ n) = x) (w : World) : Calls Try.prog 31 #[.int .i64 n] w fun e w' => e = .returned (.float .f64 (infOf (!x))) ∧ w = w' := by
  have t0 := from_run 18442240474082181120
  have t1 := from_run 9218868437227405312
  go_enter Try.func31, Try.ntmps31
  cases x with
  | true =>
    go_wp2_with fail
    go_ret
    exact ⟨rfl, rfl⟩
  | false =>
    go_wp2_with fail
    go_ret
    exact ⟨rfl, rfl⟩
theorem Abs (a : Nat) (ha : a < 18446744073709551616) (w : World) : Calls Try.prog 40 #[.float .f64 a] w fun e w' => e = .returned (.float .f64 (rung a)) ∧ w = w' := by
  have t0 := bits_run a
  have t1 := from_run
  go_enter Try.func40, Try.ntmps40
  go_wp2
  go_ret
  refine ⟨?_, rfl⟩
  have e : (bits BinOp.andNot IntKind.u64 (↑a) 9223372036854775808).toNat = rung a := by
    rw [andNot_top _ (by omega) (by omega)]; unfold rung; omega
  simp [e]
theorem Copysign (b : Nat) (hb : b < 18446744073709551616) (w : World) : Calls Try.prog 33 #[.float .f64 0, .float .f64 b] w fun e w' => e = .returned (.float .f64 (zeroOf (neg b))) ∧ w = w' := by
  have t0 := bits_run
  have t1 := from_run
  go_enter Try.func33, Try.ntmps33
  go_wp2
  go_ret
  refine ⟨?_, rfl⟩
  have e : (bits BinOp.or IntKind.u64 (bits BinOp.andNot IntKind.u64 0 9223372036854775808) (bits BinOp.and IntKind.u64 (↑b) 9223372036854775808)).toNat = zeroOf (neg b) := by
    rw [andNot_top _ (by omega) (by omega), and_top _ (by omega) (by omega)]
    have h : b / 9223372036854775808 = 0 ∨ b / 9223372036854775808 = 1 := by omega
    rcases h with h | h
    · have h' : (b : Int) / 9223372036854775808 = 0 := by omega
      rw [h']
      have : neg b = false := by unfold FloatLaw.neg; simp [h]
      rw [this]; rfl
    · have h' : (b : Int) / 9223372036854775808 = 1 := by omega
      rw [h']
      have : neg b = true := by unfold FloatLaw.neg; simp [h]
      rw [this]; rfl
  simp [e]
end Go.Proofs.Ytepmbagflbkooaa.Ratio
