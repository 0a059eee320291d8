/- Share, Above, Clamp of ratio and of its reference. -/
import Derived.Test.YtepmbagflbkooaaRatioOrder
import Derived.Below
namespace Go.Proofs.Ytepmbagflbkooaa.Ratio
open Go.RowKit Go.Proofs.YtepmbagflbkooaaW.PrintWords Go.Proofs.Ytepmbagflbkooaa.FloatLaw
theorem then_below {w w1 w2 : World} (h : Below w.heap.size w w1) (h' : Below w1.heap.size w1 w2) : Below w.heap.size w w2 := h.trans ⟨h'.os, h'.tape, h'.output, h'.size, fun k hk => h'.block k (Nat.lt_of_lt_of_le hk h.size)⟩
theorem sub_fin {a : Nat} (h : rung a < 9218868437227405312) (w : World) : (binOp .sub 22 (.float .f64 a) (.float .f64 a)).run Try.prog w = .ok (.float .f64 0) w :=
  run_float_arith w .sub _ .f64 a a 0 (sub_self_fin h)
theorem sub_inf {a : Nat} (h : rung a = 9218868437227405312) (w : World) : (binOp .sub 22 (.float .f64 a) (.float .f64 a)).run Try.prog w = .ok (.float .f64 ((Question.nanBits .f64 a a).cut (w.tape w.drawn (.nanBits .f64 a a)))) w.drew := by
  have e : FloatKind.f64.format.sub a a = none := sub_self_inf h
  simp [binOp, Op.floatArith, e, Question.forced]
theorem quo_some {a b r : Nat} (h : Ieee.double.div a b = some r) (w : World) : (binOp .quo 22 (.float .f64 a) (.float .f64 b)).run Try.prog w = .ok (.float .f64 r) w :=
  run_float_arith w .quo _ .f64 a b r h
theorem quo_inf {a b : Nat} (ha : rung a = 9218868437227405312) (hb : rung b = 9218868437227405312) (w : World) : (binOp .quo 22 (.float .f64 a) (.float .f64 b)).run Try.prog w = .ok (.float .f64 ((Question.nanBits .f64 a b).cut (w.tape w.drawn (.nanBits .f64 a b)))) w.drew := by
  have e : FloatKind.f64.format.div a b = none := div_inf_inf ha hb
  simp [binOp, Op.floatArith, e, Question.forced]
def isinf (a : Nat) : Bool := decide (rung a = 9218868437227405312)
theorem infinite (a : Nat) (w : World) : Calls Try.prog 34 #[.float .f64 a] w fun e w' => e = .returned (.bool (isinf a)) ∧ Below w.heap.size w w' := by
  cases na : isnan a with
  | true =>
    have hi : isinf a = false := by have := rung_gt na; unfold isinf; simp; omega
    go_enter Try.func34, Try.ntmps34
    go_wp2_with fail
    refine (nan a _).mono ?_
    rintro e w' ⟨rfl, rfl⟩
    rw [na]
    go_wp2_with fail
    go_ret
    exact ⟨by simp [hi], Below.refl _ _⟩
  | false =>
    cases hi : isinf a with
    | true =>
      have t0 := sub_inf (a := a) (of_decide_eq_true hi)
      go_enter Try.func34, Try.ntmps34
      go_wp2_with fail
      refine (nan a _).mono ?_
      rintro e w' ⟨rfl, rfl⟩
      rw [na]
      go_wp2_with fail
      refine (nan _ _).mono ?_
      rintro e w' ⟨rfl, rfl⟩
      rw [cut_nan]
      go_wp2_with fail
      go_ret
      exact ⟨by simp, (Below.refl _ _).drew⟩
    | false =>
      have t0 := sub_fin (a := a) (by have := rung_le na; have := of_decide_eq_false hi; omega)
      go_enter Try.func34, Try.ntmps34
      go_wp2_with fail
      refine (nan a _).mono ?_
      rintro e w' ⟨rfl, rfl⟩
      rw [na]
      go_wp2_with fail
      refine (nan _ _).mono ?_
      rintro e w' ⟨rfl, rfl⟩
      rw [show isnan 0 = false from rfl]
      go_wp2_with fail
      go_ret
      exact ⟨by simp, Below.refl _ _⟩
theorem inf_gt (a : Nat) : (FloatKind.f64.format.order (rung a) 9218868437227405311 == some .gt) = isinf a := by
  have h0 := rung_lt a
  have h1 : rung (rung a) = rung a := by unfold rung; omega
  have h2 : neg (rung a) = false := by
    unfold FloatLaw.neg
    have : rung a / 9223372036854775808 % 2 = 0 := by omega
    simp [this]
  rw [fmt, gt_true]
  unfold isinf isnan sv
  rw [h1, h2]
  have h3 : rung 9218868437227405311 = 9218868437227405311 := rfl
  have h4 : neg 9218868437227405311 = false := rfl
  rw [h3, h4, Bool.eq_iff_iff]
  simp
  omega
theorem IsInf (a : Nat) (ha : a < 18446744073709551616) (w : World) : Calls Try.prog 32 #[.float .f64 a, .int .i64 0] w fun e w' => e = .returned (.bool (isinf a)) ∧ w = w' := by
  have t0 := inf_gt a
  go_enter Try.func32, Try.ntmps32
  go_wp2_with fail
  refine (Abs a ha _).mono ?_
  rintro e w' ⟨rfl, rfl⟩
  go_wp2_with fail
  go_ret
  exact ⟨by simp, rfl⟩
/-- The share, by its bits. -/
def shB (p q : Nat) : Nat :=
  if isnan p || isnan q || isinf p && isinf q then 9221120237041090561 else if isinf q then zeroOf (neg p)
  else if decide (sv q = 0) && decide (sv p = 0) then zeroOf (neg p) else if decide (sv q = 0) then infOf (neg p) else (Ieee.double.div p q).getD 0
theorem zero_same {p : Nat} (hp : p < 18446744073709551616) (h : sv p = 0) : p = zeroOf (neg p) := by
  have h0 : rung p = 0 := by unfold sv at h; split at h <;> omega
  cases hn : neg p
  · have := rung_pos hp hn; simp [zeroOf]; omega
  · have := rung_neg hp hn; simp [zeroOf]; omega
theorem inf_sv {p : Nat} (h : isinf p = true) : sv p ≠ 0 := by
  have := of_decide_eq_true h
  unfold sv; split <;> omega
theorem isnan_inf {p : Nat} (h : isinf p = true) : isnan p = false := by
  have := of_decide_eq_true h
  unfold isnan; rw [this]; rfl
theorem div_ok {p q : Nat} (np : isnan p = false) (nq : isnan q = false) (h1 : (isinf p && isinf q) = false) (h2 : (decide (sv q = 0) && decide (sv p = 0)) = false) :
    ∃ r, Ieee.double.div p q = some r ∧ isnan r = false ∧ r < 18446744073709551616 := by
  refine div_some np nq ?_ ?_
  · rintro ⟨a, b⟩; simp [isinf, a, b] at h1
  · rintro ⟨a, b⟩; simp [a, b] at h2
theorem shB_wf (p q : Nat) : shB p q < 18446744073709551616 := by
  unfold shB
  split
  · omega
  · rename_i h0
    split
    · cases neg p <;> decide
    · split
      · cases neg p <;> decide
      · split
        · cases neg p <;> decide
        · rename_i h1 h2 h3
          simp at h0
          obtain ⟨r, e, -, h⟩ := div_ok (p := p) (q := q) (by simpa using h0.1.1) (by simpa using h0.1.2) (by simp; exact h0.2) (by simp at h3 ⊢; intro a; exact absurd a h3)
          rw [e]; exact h

theorem inf_arg (n : Bool) : decide (0 ≤ wrap64 (wrap64 (2 * b1 (!n)) - 1)) = !n := by
  cases n <;> simp [b1, wrap64]
set_option maxHeartbeats 2000000 in
theorem RefShare (p q : Nat) (hp : p < 18446744073709551616) (w : World) : Calls Try.prog 14 #[.float .f64 p, .float .f64 q] w fun e w' => e = .returned (.float .f64 (shB p q)) ∧ Below w.heap.size w w' := by
  have t0 := from_run 9221120237041090561
  obtain ⟨xp, hzp⟩ : ∃ x, (FloatKind.f64.format.order p 0 == some .eq) = x := ⟨_, rfl⟩
  obtain ⟨xq, hzq⟩ : ∃ x, (FloatKind.f64.format.order q 0 == some .eq) = x := ⟨_, rfl⟩
  go_enter Try.func14, Try.ntmps14
  go_wp2_with fail
  refine (nan p _).mono ?_
  rintro e w' ⟨rfl, rfl⟩
  cases np : isnan p with
  | true =>
    go_wp2_with fail
    go_ret
    exact ⟨by simp [shB, np], Below.refl _ _⟩
  | false =>
    go_wp2_with fail
    refine (nan q _).mono ?_
    rintro e w' ⟨rfl, rfl⟩
    cases nq : isnan q with
    | true =>
      go_wp2_with fail
      go_ret
      exact ⟨by simp [shB, nq], Below.refl _ _⟩
    | false =>
      go_wp2_with fail
      refine (infinite p _).mono ?_
      rintro e w1 ⟨rfl, b1⟩
      cases ip : isinf p with
      | true =>
        go_wp2_with fail
        refine (infinite q _).mono ?_
        rintro e w2 ⟨rfl, b2⟩
        cases iq : isinf q with
        | true =>
          go_wp2_with fail
          go_ret
          exact ⟨by simp [shB, np, nq, ip, iq], then_below b1 b2⟩
        | false =>
          go_wp2_with fail
          refine (infinite q _).mono ?_
          rintro e w3 ⟨rfl, b3⟩
          rw [iq]
          cases xq with
          | true =>
            have szq : sv q = 0 := by rw [zero_eq nq] at hzq; exact of_decide_eq_true hzq
            cases xp with
            | true =>
              have szp : sv p = 0 := by rw [zero_eq np] at hzp; exact of_decide_eq_true hzp
              go_wp2_with fail
              refine (below p hp _).mono ?_
              rintro e w' ⟨rfl, rfl⟩
              go_wp2_with fail
              refine (zero _ _).mono ?_
              rintro e w' ⟨rfl, rfl⟩
              go_wp2_with fail
              go_ret
              exact ⟨by simp [shB, np, nq, iq, szp, szq], then_below b1 (then_below b2 b3)⟩
            | false =>
              have szp : ¬ sv p = 0 := by rw [zero_eq np] at hzp; exact of_decide_eq_false hzp
              go_wp2_with fail
              refine (below p hp _).mono ?_
              rintro e w' ⟨rfl, rfl⟩
              go_wp2_with fail
              refine (infinity _ _).mono ?_
              rintro e w' ⟨rfl, rfl⟩
              go_wp2_with fail
              go_ret
              exact ⟨by simp [shB, np, nq, iq, szp, szq], then_below b1 (then_below b2 b3)⟩
          | false =>
            have szq : ¬ sv q = 0 := by rw [zero_eq nq] at hzq; exact of_decide_eq_false hzq
            obtain ⟨r, hr, -, -⟩ := div_ok np nq (by simp [iq]) (by simp [szq])
            have t5 := quo_some hr
            go_wp2_with fail
            go_ret
            exact ⟨by simp [shB, np, nq, iq, szq, hr], then_below b1 (then_below b2 b3)⟩
      | false =>
        go_wp2_with fail
        refine (infinite q _).mono ?_
        rintro e w2 ⟨rfl, b2⟩
        cases iq : isinf q with
        | true =>
          go_wp2_with fail
          refine (below p hp _).mono ?_
          rintro e w' ⟨rfl, rfl⟩
          go_wp2_with fail
          refine (zero _ _).mono ?_
          rintro e w' ⟨rfl, rfl⟩
          go_wp2_with fail
          go_ret
          exact ⟨by simp [shB, np, nq, ip, iq], then_below b1 b2⟩
        | false =>
          cases xq with
          | true =>
            have szq : sv q = 0 := by rw [zero_eq nq] at hzq; exact of_decide_eq_true hzq
            cases xp with
            | true =>
              have szp : sv p = 0 := by rw [zero_eq np] at hzp; exact of_decide_eq_true hzp
              go_wp2_with fail
              refine (below p hp _).mono ?_
              rintro e w' ⟨rfl, rfl⟩
              go_wp2_with fail
              refine (zero _ _).mono ?_
              rintro e w' ⟨rfl, rfl⟩
              go_wp2_with fail
              go_ret
              exact ⟨by simp [shB, np, nq, iq, szp, szq], then_below b1 b2⟩
            | false =>
              have szp : ¬ sv p = 0 := by rw [zero_eq np] at hzp; exact of_decide_eq_false hzp
              go_wp2_with fail
              refine (below p hp _).mono ?_
              rintro e w' ⟨rfl, rfl⟩
              go_wp2_with fail
              refine (infinity _ _).mono ?_
              rintro e w' ⟨rfl, rfl⟩
              go_wp2_with fail
              go_ret
              exact ⟨by simp [shB, np, nq, iq, szp, szq], then_below b1 b2⟩
          | false =>
            have szq : ¬ sv q = 0 := by rw [zero_eq nq] at hzq; exact of_decide_eq_false hzq
            obtain ⟨r, hr, -, -⟩ := div_ok np nq (by simp [iq]) (by simp [szq])
            have t5 := quo_some hr
            go_wp2_with fail
            go_ret
            exact ⟨by simp [shB, np, nq, iq, szq, hr], then_below b1 b2⟩

set_option maxHeartbeats 2000000 in
theorem RatioShare (p q : Nat) (hp : p < 18446744073709551616) (hq : q < 18446744073709551616) (w : World) : Calls Try.prog 13 #[.float .f64 p, .float .f64 q] w fun e w' =>
    ∃ r, e = .returned (.float .f64 r) ∧ Below w.heap.size w w' ∧ r < 18446744073709551616 ∧ (r = shB p q ∨ isnan r = true ∧ isnan (shB p q) = true) := by
  obtain ⟨xp, hzp⟩ : ∃ x, (FloatKind.f64.format.order p 0 == some .eq) = x := ⟨_, rfl⟩
  obtain ⟨xq, hzq⟩ : ∃ x, (FloatKind.f64.format.order q 0 == some .eq) = x := ⟨_, rfl⟩
  go_enter Try.func13, Try.ntmps13
  go_wp2_with fail
  refine (IsNaN p _).mono ?_
  rintro e w' ⟨rfl, rfl⟩
  cases np : isnan p with
  | true =>
    go_wp2_with fail
    refine (NaN _).mono ?_
    rintro e w' ⟨rfl, rfl⟩
    go_wp2_with fail
    go_ret
    refine ⟨shB p q, by simp [shB, np], Below.refl _ _, shB_wf p q, .inl rfl⟩
  | false =>
    go_wp2_with fail
    refine (IsNaN q _).mono ?_
    rintro e w' ⟨rfl, rfl⟩
    cases nq : isnan q with
    | true =>
      go_wp2_with fail
      refine (NaN _).mono ?_
      rintro e w' ⟨rfl, rfl⟩
      go_wp2_with fail
      go_ret
      refine ⟨shB p q, by simp [shB, nq], Below.refl _ _, shB_wf p q, .inl rfl⟩
    | false =>
      cases xq with
      | true =>
        have szq : sv q = 0 := by rw [zero_eq nq] at hzq; exact of_decide_eq_true hzq
        have iq : isinf q = false := by cases iq : isinf q with | false => rfl | true => exact absurd szq (inf_sv iq)
        cases xp with
        | true =>
          have szp : sv p = 0 := by rw [zero_eq np] at hzp; exact of_decide_eq_true hzp
          go_wp2_with fail
          go_ret
          refine ⟨shB p q, ?_, Below.refl _ _, shB_wf p q, .inl rfl⟩
          have h := zero_same hp szp
          simp [shB, np, nq, iq, szp, szq]
          exact h
        | false =>
          have szp : ¬ sv p = 0 := by rw [zero_eq np] at hzp; exact of_decide_eq_false hzp
          go_wp2_with fail
          refine (sign p hp _).mono ?_
          rintro e w' ⟨rfl, rfl⟩
          go_wp2_with fail
          refine (Inf _ (!neg p) (inf_arg (neg p)) _).mono ?_
          rintro e w' ⟨rfl, rfl⟩
          go_wp2_with fail
          go_ret
          refine ⟨shB p q, ?_, Below.refl _ _, shB_wf p q, .inl rfl⟩
          simp [shB, np, nq, iq, szp, szq]
      | false =>
        have szq : ¬ sv q = 0 := by rw [zero_eq nq] at hzq; exact of_decide_eq_false hzq
        go_wp2_with fail
        refine (IsInf q hq _).mono ?_
        rintro e w' ⟨rfl, rfl⟩
        cases iq : isinf q with
        | true =>
          go_wp2_with fail
          refine (IsInf p hp _).mono ?_
          rintro e w' ⟨rfl, rfl⟩
          cases ip : isinf p with
          | true =>
            have t5 := quo_inf (a := p) (b := q) (of_decide_eq_true ip) (of_decide_eq_true iq)
            go_wp2_with fail
            go_ret
            refine ⟨_, by simp; rfl, (Below.refl _ _).drew, cut_lt .., .inr ⟨cut_nan .., ?_⟩⟩
            simp [shB, ip, iq]; rfl
          | false =>
            go_wp2_with fail
            refine (Copysign p hp _).mono ?_
            rintro e w' ⟨rfl, rfl⟩
            go_wp2_with fail
            go_ret
            refine ⟨shB p q, ?_, Below.refl _ _, shB_wf p q, .inl rfl⟩
            simp [shB, np, nq, ip, iq]
        | false =>
          obtain ⟨r, hr, -, -⟩ := div_ok np nq (by simp [iq]) (by simp [szq])
          have t5 := quo_some hr
          go_wp2_with fail
          go_ret
          refine ⟨shB p q, ?_, Below.refl _ _, shB_wf p q, .inl rfl⟩
          simp [shB, np, nq, iq, szq, hr]
end Go.Proofs.Ytepmbagflbkooaa.Ratio
