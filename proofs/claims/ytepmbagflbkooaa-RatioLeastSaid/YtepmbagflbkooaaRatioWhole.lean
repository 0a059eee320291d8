/- Whole of ratio and of its reference. -/
import Derived.Test.YtepmbagflbkooaaRatioClamp
namespace Go.Proofs.Ytepmbagflbkooaa.Ratio
open Go.RowKit Go.Proofs.YtepmbagflbkooaaW.PrintWords Go.Proofs.Ytepmbagflbkooaa.FloatLaw
def wholeN (x : Nat) : Nat :=
  if rung x / 4503599627370496 < 1023 then 0
  else if rung x / 4503599627370496 ≤ 1075 then (rung x % 4503599627370496 + 4503599627370496) / 2 ^ (1075 - rung x / 4503599627370496)
  else (rung x % 4503599627370496 + 4503599627370496) * 2 ^ (rung x / 4503599627370496 - 1075)
def wholeOk (x : Nat) : Bool := decide (x = 14114281232179134464) || decide (rung x < 4890909195324358656)
def wholeI (x : Nat) : Int :=
  if x = 14114281232179134464 then -9223372036854775808 else if rung x < 4890909195324358656 then (if neg x then -(wholeN x : Int) else (wholeN x : Int)) else 0
theorem wholeN_small {x : Nat} (h : rung x / 4503599627370496 < 1023) : wholeN x = 0 := by
  unfold wholeN; rw [if_pos h]
theorem wholeN_lt {x : Nat} (h : rung x < 4890909195324358656) : wholeN x < 9223372036854775808 := by
  unfold wholeN
  split
  · omega
  · split
    · exact Nat.lt_of_le_of_lt (Nat.div_le_self _ _) (by omega)
    · have h1 : 2 ^ (rung x / 4503599627370496 - 1075) ≤ 2 ^ 10 := Nat.pow_le_pow_right (by omega) (by omega)
      have h2 : (rung x % 4503599627370496 + 4503599627370496) * 2 ^ (rung x / 4503599627370496 - 1075) ≤ 9007199254740991 * 2 ^ 10 := Nat.mul_le_mul (by omega) h1
      omega
theorem eq_edge {x : Nat} (hx : x < 18446744073709551616) : (FloatKind.f64.format.order x 14114281232179134464 == some .eq) = decide (x = 14114281232179134464) := by
  rw [fmt, FloatLaw.eq_true, show isnan 14114281232179134464 = false from rfl, show sv 14114281232179134464 = -4890909195324358656 from rfl, Bool.eq_iff_iff]
  simp only [Bool.not_false, Bool.and_true, Bool.and_eq_true, Bool.not_eq_true', decide_eq_true_eq]
  constructor
  · rintro ⟨-, h⟩
    cases hn : neg x
    · unfold sv at h; rw [hn] at h; simp at h <;> omega
    · have := rung_neg hx hn
      unfold sv at h; rw [hn] at h; simp at h; omega
  · rintro rfl; exact ⟨rfl, rfl⟩
theorem ok_is {x : Nat} (hx : x < 18446744073709551616) (h : isnan x = false) :
    wholeOk x = !((FloatKind.f64.format.order x 14114281232179134464 == some .lt) || (FloatKind.f64.format.order x 4890909195324358656 == some .gt || FloatKind.f64.format.order x 4890909195324358656 == some .eq)) := by
  rw [fmt, lt_true, ge_true, h, show isnan 14114281232179134464 = false from rfl, show sv 14114281232179134464 = -4890909195324358656 from rfl, show isnan 4890909195324358656 = false from rfl, show sv 4890909195324358656 = 4890909195324358656 from rfl]
  unfold wholeOk sv
  cases hn : neg x
  · have := rung_pos hx hn
    rw [Bool.eq_iff_iff]; simp; omega
  · have := rung_neg hx hn
    rw [Bool.eq_iff_iff]; simp; omega
theorem ok_nan {x : Nat} (h : isnan x = true) : wholeOk x = false := by
  have h1 := rung_gt h
  unfold wholeOk
  have h2 : x ≠ 14114281232179134464 := by rintro rfl; exact absurd h (by decide)
  simp [h2]; omega
theorem not_ok {x : Nat} (h : wholeOk x = false) : wholeI x = 0 := by
  unfold wholeOk at h
  simp at h
  unfold wholeI
  rw [if_neg h.1, if_neg (by omega)]
theorem to_int {x : Nat} (h : wholeOk x = true) : floatToIntVal .f64 x .i64 = some (wholeI x) := by
  have hr : rung x ≤ 4890909195324358656 := by
    unfold wholeOk at h; simp at h
    rcases h with rfl | h
    · decide
    · omega
  obtain ⟨m, i, e, hi, -, h1, h2⟩ := read_fin (b := x) (by omega)
  have key : (FloatKind.f64.decode x).toInt .zero = some (wholeI x) := by
    show (Ieee.double.read x).toInt .zero = _
    rw [e, toInt_number]
    by_cases c : rung x < 4503599627370496
    · obtain ⟨rfl, rfl⟩ := h1 c
      have z : rung x * 2 ^ (Int.toNat (-1074)) / 2 ^ (Int.toNat (- -1074)) = 0 := by
        apply Nat.div_eq_of_lt
        have : 2 ^ 52 ≤ 2 ^ (Int.toNat (- -1074)) := Nat.pow_le_pow_right (by omega) (by decide)
        have e0 : Int.toNat (-1074) = 0 := rfl
        rw [e0]; omega
      rw [z]
      have hx : x ≠ 14114281232179134464 := by rintro rfl; exact absurd c (by decide)
      have e1 : wholeI x = 0 := by
        unfold wholeI; rw [if_neg hx, if_pos (by omega), wholeN_small (by omega)]; split <;> rfl
      rw [e1]; cases neg x <;> rfl
    · obtain ⟨rfl, hi2⟩ := h2 c
      by_cases hx : x = 14114281232179134464
      · subst hx
        have ei : i = 11 := hi2
        subst ei
        rfl
      · have hr' : rung x < 4890909195324358656 := by
          unfold wholeOk at h; simp [hx] at h; exact h
        unfold wholeI
        rw [if_neg hx, if_pos hr']
        suffices hk : (4503599627370496 + rung x % 4503599627370496) * 2 ^ i.toNat / 2 ^ (-i).toNat = wholeN x by rw [hk]
        unfold wholeN
        by_cases c1 : rung x / 4503599627370496 < 1023
        · rw [if_pos c1]
          have e0 : i.toNat = 0 := by omega
          rw [e0]
          apply Nat.div_eq_of_lt
          have : 2 ^ 53 ≤ 2 ^ (-i).toNat := Nat.pow_le_pow_right (by omega) (by omega)
          omega
        · rw [if_neg c1]
          by_cases c2 : rung x / 4503599627370496 ≤ 1075
          · rw [if_pos c2]
            have e0 : i.toNat = 0 := by omega
            have e1 : (-i).toNat = 1075 - rung x / 4503599627370496 := by omega
            rw [e0, e1, Nat.pow_zero, Nat.mul_one, Nat.add_comm]
          · rw [if_neg c2]
            have e0 : i.toNat = rung x / 4503599627370496 - 1075 := by omega
            have e1 : (-i).toNat = 0 := by omega
            rw [e0, e1, Nat.pow_zero, Nat.div_one, Nat.add_comm]
  unfold floatToIntVal
  rw [key]
  have hb : IntKind.i64.min ≤ wholeI x ∧ wholeI x ≤ IntKind.i64.max := by
    have e1 : IntKind.i64.min = -9223372036854775808 := rfl
    have e2 : IntKind.i64.max = 9223372036854775807 := rfl
    rw [e1, e2]
    unfold wholeI
    split
    · omega
    · split
      · rename_i h3
        have := wholeN_lt h3
        split <;> omega
      · omega
  show (if _ then _ else _) = _
  rw [if_pos hb]
theorem RatioWhole (x : Nat) (hx : x < 18446744073709551616) (w : World) : Calls Try.prog 17 #[.float .f64 x] w fun e w' =>
    e = .returned (.tuple #[.int .i64 (wholeI x), .bool (wholeOk x)]) ∧ w = w' := by
  obtain ⟨a1, h1⟩ : ∃ c, (FloatKind.f64.format.order x 14114281232179134464 == some .lt) = c := ⟨_, rfl⟩
  obtain ⟨a2, h2⟩ : ∃ c, (FloatKind.f64.format.order x 4890909195324358656 == some .gt || FloatKind.f64.format.order x 4890909195324358656 == some .eq) = c := ⟨_, rfl⟩
  go_enter Try.func17, Try.ntmps17
  go_wp2_with fail
  refine (IsNaN x _).mono ?_
  rintro e w' ⟨rfl, rfl⟩
  cases hn : isnan x with
  | true =>
    go_wp2_with fail
    go_ret2
    have e := ok_nan hn
    exact ⟨by simp [e, not_ok e], rfl⟩
  | false =>
    have hk := ok_is hx hn
    rw [h1, h2] at hk
    cases a1 with
    | true =>
      go_wp2_with fail
      go_ret2
      exact ⟨by simp at hk; simp [hk, not_ok hk], rfl⟩
    | false =>
      cases a2 with
      | true =>
        go_wp2_with fail
        go_ret2
        exact ⟨by simp at hk; simp [hk, not_ok hk], rfl⟩
      | false =>
        have hk' : wholeOk x = true := by simpa using hk
        have t5 : ∀ w, (convert 22 3 (.float .f64 x)).run Try.prog w = .ok (.int .i64 (wholeI x)) w := fun w => run_convert_float_int w _ _ .f64 .i64 x _ (by kernel_rfl) (by kernel_rfl) (to_int hk')
        go_wp2_with fail
        go_ret2
        exact ⟨by simp [hk'], rfl⟩
theorem exp_is (x : Nat) : (x : Int) / 4503599627370496 % 2048 = ((rung x / 4503599627370496 : Nat) : Int) := by
  unfold rung; omega
theorem frac_is (x : Nat) : (x : Int) % 4503599627370496 + 4503599627370496 = ((rung x % 4503599627370496 + 4503599627370496 : Nat) : Int) := by
  unfold rung; omega
theorem edge_rung {x : Nat} (h : x = 14114281232179134464) : rung x = 4890909195324358656 := by subst h; rfl
theorem case4 (x : Nat) (h2 : ¬ (x : Int) / 4503599627370496 % 2048 < 1023) (h3 : (x : Int) / 4503599627370496 % 2048 ≤ 1075) :
    ((x : Int) % 4503599627370496 + 4503599627370496) / 2 ^ (1075 - (x : Int) / 4503599627370496 % 2048).toNat = (wholeN x : Int) := by
  rw [exp_is] at h2 h3 ⊢
  rw [frac_is]
  unfold wholeN
  rw [if_neg (by omega), if_pos (by omega)]
  have e : (1075 - ((rung x / 4503599627370496 : Nat) : Int)).toNat = 1075 - rung x / 4503599627370496 := by omega
  rw [e, Int.natCast_ediv, Int.natCast_pow]; rfl
theorem case5 (x : Nat) (h1 : ¬ 1086 ≤ (x : Int) / 4503599627370496 % 2048) (h3 : ¬ (x : Int) / 4503599627370496 % 2048 ≤ 1075) :
    IntKind.u64.wrap (((x : Int) % 4503599627370496 + 4503599627370496) * 2 ^ ((x : Int) / 4503599627370496 % 2048 - 1023 - 52).toNat) = (wholeN x : Int) := by
  have hl : wholeN x < 9223372036854775808 := by
    rw [exp_is] at h1; exact wholeN_lt (by omega)
  have e0 : ((x : Int) % 4503599627370496 + 4503599627370496) * 2 ^ ((x : Int) / 4503599627370496 % 2048 - 1023 - 52).toNat = (wholeN x : Int) := by
    rw [exp_is] at h1 h3 ⊢
    rw [frac_is]
    unfold wholeN
    rw [if_neg (by omega), if_neg (by omega)]
    have e : (((rung x / 4503599627370496 : Nat) : Int) - 1023 - 52).toNat = rung x / 4503599627370496 - 1075 := by omega
    rw [e, Int.natCast_mul, Int.natCast_pow]; rfl
  rw [e0, IntKind.wrap_u64]; omega
set_option maxRecDepth 100000 in
theorem RefWhole (x : Nat) (hx : x < 18446744073709551616) (w : World) : Calls Try.prog 18 #[.float .f64 x] w fun e w' =>
    e = .returned (.tuple #[.int .i64 (wholeI x), .bool (wholeOk x)]) ∧ w = w' := by
  have t0 := bits_run
  obtain ⟨c, hc⟩ : ∃ c, (FloatKind.f64.format.order x 14114281232179134464 == some .eq) = c := ⟨_, rfl⟩
  obtain ⟨c1, hc1⟩ : ∃ c, decide (1086 ≤ (x : Int) / 4503599627370496 % 2048) = c := ⟨_, rfl⟩
  obtain ⟨c2, hc2⟩ : ∃ c, decide ((x : Int) / 4503599627370496 % 2048 < 1023) = c := ⟨_, rfl⟩
  obtain ⟨c3, hc3⟩ : ∃ c, decide ((x : Int) / 4503599627370496 % 2048 ≤ 1075) = c := ⟨_, rfl⟩
  go_enter Try.func18, Try.ntmps18
  cases c with
  | true =>
    go_wp2_with fail
    go_ret2
    have e : x = 14114281232179134464 := by rw [eq_edge hx] at hc; exact of_decide_eq_true hc
    exact ⟨by simp [wholeI, wholeOk, e], rfl⟩
  | false =>
    have hne : ¬ x = 14114281232179134464 := by rw [eq_edge hx] at hc; exact of_decide_eq_false hc
    cases c1 with
    | true =>
      go_wp2_with fail
      go_ret2
      have h1 := of_decide_eq_true hc1
      rw [exp_is] at h1
      have e : ¬ rung x < 4890909195324358656 := by omega
      exact ⟨by simp [wholeI, wholeOk, hne, e], rfl⟩
    | false =>
      have hlt : rung x < 4890909195324358656 := by
        have h1 := of_decide_eq_false hc1
        rw [exp_is] at h1; omega
      have hl := wholeN_lt hlt
      have eo : wholeOk x = true := by simp [wholeOk, hlt]
      have ei : wholeI x = if neg x then -(wholeN x : Int) else (wholeN x : Int) := by unfold wholeI; rw [if_neg hne, if_pos hlt]
      cases c2 with
      | true =>
        go_wp2_with fail
        go_ret2
        have h1 := of_decide_eq_true hc2
        rw [exp_is] at h1
        have e : wholeI x = 0 := by
          rw [ei, wholeN_small (by omega)]; split <;> rfl
        exact ⟨by simp [e, eo], rfl⟩
      | false =>
        cases c3 with
        | true =>
          have h0 : 0 ≤ 1075 - (x : Int) / 4503599627370496 % 2048 := by have := of_decide_eq_true hc3; omega
          have t1 := shift_shr .u64 .i64 ((x : Int) % 4503599627370496 + 4503599627370496) (1075 - (x : Int) / 4503599627370496 % 2048) h0 (by have := of_decide_eq_false hc2; show _ ≤ ((64 : Nat) : Int); omega)
          rw [case4 x (of_decide_eq_false hc2) (of_decide_eq_true hc3)] at t1
          have t2 : wrap64 (wholeN x : Int) = (wholeN x : Int) := by unfold wrap64; omega
          have t3 : wrap64 (-(wholeN x : Int)) = -(wholeN x : Int) := by unfold wrap64; omega
          go_wp2_with fail
          refine (below x hx _).mono ?_
          rintro e w' ⟨rfl, rfl⟩
          cases hn : neg x with
          | true =>
            rw [hn] at ei
            go_wp2_with fail
            go_ret2
            exact ⟨by simp [ei, eo], rfl⟩
          | false =>
            rw [hn] at ei
            go_wp2_with fail
            go_ret2
            exact ⟨by simp [ei, eo], rfl⟩
        | false =>
          have h0 : 0 ≤ (x : Int) / 4503599627370496 % 2048 - 1023 - 52 := by have := of_decide_eq_false hc3; omega
          have t1 := shift_shl .u64 .i64 ((x : Int) % 4503599627370496 + 4503599627370496) ((x : Int) / 4503599627370496 % 2048 - 1023 - 52) h0 (by have := of_decide_eq_false hc1; show _ ≤ ((64 : Nat) : Int); omega)
          rw [case5 x (of_decide_eq_false hc1) (of_decide_eq_false hc3)] at t1
          have t2 : wrap64 (wholeN x : Int) = (wholeN x : Int) := by unfold wrap64; omega
          have t3 : wrap64 (-(wholeN x : Int)) = -(wholeN x : Int) := by unfold wrap64; omega
          go_wp2_with fail
          refine (below x hx _).mono ?_
          rintro e w' ⟨rfl, rfl⟩
          cases hn : neg x with
          | true =>
            rw [hn] at ei
            go_wp2_with fail
            go_ret2
            exact ⟨by simp [ei, eo], rfl⟩
          | false =>
            rw [hn] at ei
            go_wp2_with fail
            go_ret2
            exact ⟨by simp [ei, eo], rfl⟩
end Go.Proofs.Ytepmbagflbkooaa.Ratio
