/- Order of ratio and of its reference: both compare the places. -/
import Derived.Test.YtepmbagflbkooaaRatioLeaf
namespace Go.Proofs.Ytepmbagflbkooaa.Ratio
open Go.RowKit Go.Proofs.YtepmbagflbkooaaW.PrintWords Go.Proofs.Ytepmbagflbkooaa.FloatLaw
theorem rung_le {a : Nat} (h : isnan a = false) : rung a ≤ 9218868437227405312 := by simpa [isnan] using h
theorem rung_gt {a : Nat} (h : isnan a = true) : 9218868437227405312 < rung a := by simpa [isnan] using h
theorem rung_lt (a : Nat) : rung a < 9223372036854775808 := by unfold rung; omega
/-- The order of two numbers. -/
def ordI (a b : Nat) : Int := cmpI (pl a) (pl b)
theorem ord_nan {a b : Nat} (h : isnan a = true ∨ isnan b = true) : cmpI (b1 (isnan a)) (b1 (isnan b)) = ordI a b := by
  unfold ordI
  cases ha : isnan a <;> cases hb : isnan b
  · simp [ha, hb] at h
  · have h1 := rung_le ha
    have : pl a < pl b := by unfold pl; rw [ha, hb]; simp; split <;> omega
    rw [show cmpI (b1 false) (b1 true) = -1 from rfl]; unfold cmpI; rw [if_pos this]
  · have h1 := rung_le hb
    have : pl b < pl a := by unfold pl; rw [ha, hb]; simp; split <;> omega
    rw [show cmpI (b1 true) (b1 false) = 1 from rfl]; unfold cmpI; rw [if_neg (by omega), if_pos this]
  · have : pl b = pl a := by unfold pl; rw [ha, hb]; rfl
    rw [show cmpI (b1 true) (b1 true) = 0 from rfl]; unfold cmpI; rw [this, if_neg (by omega), if_neg (by omega)]
theorem pl_num {a : Nat} (h : isnan a = false) : pl a = if neg a then -(rung a : Int) - 1 else (rung a : Int) := by unfold pl; rw [h]; simp
theorem sv_pl {a b : Nat} (ha : isnan a = false) (hb : isnan b = false) : (sv a < sv b → pl a < pl b) ∧ (sv b < sv a → pl b < pl a) ∧ (sv a = sv b → sv a ≠ 0 → pl a = pl b) ∧ (sv a = sv b → sv a = 0 → cmpI (b1 (!neg a)) (b1 (!neg b)) = ordI a b) := by
  unfold ordI
  rw [pl_num ha, pl_num hb]
  unfold sv
  cases neg a <;> cases neg b <;> simp [b1, cmpI] <;> omega
theorem ord_lt {a b : Nat} (h : (FloatKind.f64.format.order a b == some .lt) = true) : -1 = ordI a b := by
  rw [fmt, lt_true] at h
  simp only [Bool.and_eq_true, Bool.not_eq_true', decide_eq_true_eq] at h
  have := (sv_pl h.1.1 h.1.2).1 h.2
  unfold ordI cmpI; rw [if_pos this]
theorem ord_gt {a b : Nat} (h : (FloatKind.f64.format.order a b == some .gt) = true) : 1 = ordI a b := by
  rw [fmt, gt_true] at h
  simp only [Bool.and_eq_true, Bool.not_eq_true', decide_eq_true_eq] at h
  have := (sv_pl h.1.1 h.1.2).2.1 h.2
  unfold ordI cmpI; rw [if_neg (by omega), if_pos this]
theorem ord_same {a b : Nat} (ha : isnan a = false) (hb : isnan b = false) (h : (FloatKind.f64.format.order a b == some .lt) = false) (g : (FloatKind.f64.format.order a b == some .gt) = false) : sv a = sv b := by
  rw [fmt, lt_true] at h
  rw [fmt, gt_true] at g
  simp [ha, hb] at h g
  omega
theorem zero_eq {a : Nat} (ha : isnan a = false) : (FloatKind.f64.format.order a 0 == some .eq) = decide (sv a = 0) := by
  rw [fmt, FloatLaw.eq_true, ha]; rfl
theorem ord_z {a b : Nat} (ha : isnan a = false) (hb : isnan b = false) (h : (FloatKind.f64.format.order a b == some .lt) = false) (g : (FloatKind.f64.format.order a b == some .gt) = false)
    (z : (FloatKind.f64.format.order a 0 == some .eq) = true) : cmpI (b1 (!neg a)) (b1 (!neg b)) = ordI a b := by
  rw [zero_eq ha] at z
  exact (sv_pl ha hb).2.2.2 (ord_same ha hb h g) (of_decide_eq_true z)
theorem ord_nz {a b : Nat} (ha : isnan a = false) (hb : isnan b = false) (h : (FloatKind.f64.format.order a b == some .lt) = false) (g : (FloatKind.f64.format.order a b == some .gt) = false)
    (z : (FloatKind.f64.format.order a 0 == some .eq) = false) : 0 = ordI a b := by
  rw [zero_eq ha] at z
  have := (sv_pl ha hb).2.2.1 (ord_same ha hb h g) (of_decide_eq_false z)
  unfold ordI cmpI; rw [if_neg (by omega), if_neg (by omega)]

theorem Order (a b : Nat) (ha : a < 18446744073709551616) (hb : b < 18446744073709551616) (w : World) : Calls Try.prog 10 #[.float .f64 a, .float .f64 b] w fun e w' => e = .returned (.int .i64 (ordI a b)) ∧ w = w' := by
  obtain ⟨l, hl⟩ : ∃ l, (FloatKind.f64.format.order a b == some .lt) = l := ⟨_, rfl⟩
  obtain ⟨g, hg⟩ : ∃ g, (FloatKind.f64.format.order a b == some .gt) = g := ⟨_, rfl⟩
  obtain ⟨z, hz⟩ : ∃ z, (FloatKind.f64.format.order a 0 == some .eq) = z := ⟨_, rfl⟩
  go_enter Try.func10, Try.ntmps10
  go_wp2_with fail
  refine (IsNaN a _).mono ?_
  rintro e w' ⟨rfl, rfl⟩
  cases na : isnan a with
  | true =>
    go_wp2_with fail
    refine (rank a _).mono ?_
    rintro e w' ⟨rfl, rfl⟩
    go_wp2_with fail
    refine (rank b _).mono ?_
    rintro e w' ⟨rfl, rfl⟩
    go_wp2_with fail
    refine (ints _ _ _).mono ?_
    rintro e w' ⟨rfl, rfl⟩
    go_wp2_with fail
    go_ret
    exact ⟨by simp [← ord_nan (b := b) (.inl na), na], rfl⟩
  | false =>
    go_wp2_with fail
    refine (IsNaN b _).mono ?_
    rintro e w' ⟨rfl, rfl⟩
    cases nb : isnan b with
    | true =>
      go_wp2_with fail
      refine (rank a _).mono ?_
      rintro e w' ⟨rfl, rfl⟩
      go_wp2_with fail
      refine (rank b _).mono ?_
      rintro e w' ⟨rfl, rfl⟩
      go_wp2_with fail
      refine (ints _ _ _).mono ?_
      rintro e w' ⟨rfl, rfl⟩
      go_wp2_with fail
      go_ret
      exact ⟨by simp [← ord_nan (a := a) (.inr nb), nb, na], rfl⟩
    | false =>
      cases l with
      | true =>
        go_wp2_with fail
        go_ret
        exact ⟨by simp [← ord_lt hl], rfl⟩
      | false =>
        cases g with
        | true =>
          go_wp2_with fail
          go_ret
          exact ⟨by simp [← ord_gt hg], rfl⟩
        | false =>
          cases z with
          | true =>
            go_wp2_with fail
            refine (sign a ha _).mono ?_
            rintro e w' ⟨rfl, rfl⟩
            go_wp2_with fail
            refine (sign b hb _).mono ?_
            rintro e w' ⟨rfl, rfl⟩
            go_wp2_with fail
            refine (ints _ _ _).mono ?_
            rintro e w' ⟨rfl, rfl⟩
            go_wp2_with fail
            go_ret
            exact ⟨by simp [← ord_z na nb hl hg hz], rfl⟩
          | false =>
            go_wp2_with fail
            go_ret
            exact ⟨by simp [← ord_nz na nb hl hg hz], rfl⟩

theorem RefOrder (a b : Nat) (ha : a < 18446744073709551616) (hb : b < 18446744073709551616) (w : World) : Calls Try.prog 11 #[.float .f64 a, .float .f64 b] w fun e w' => e = .returned (.int .i64 (ordI a b)) ∧ w = w' := by
  obtain ⟨x, hx⟩ : ∃ x, decide (pl a < pl b) = x := ⟨_, rfl⟩
  obtain ⟨y, hy⟩ : ∃ y, decide (pl b < pl a) = y := ⟨_, rfl⟩
  go_enter Try.func11, Try.ntmps11
  go_wp2_with fail
  refine (place a ha _).mono ?_
  rintro e w' ⟨rfl, rfl⟩
  go_wp2_with fail
  refine (place b hb _).mono ?_
  rintro e w' ⟨rfl, rfl⟩
  cases x with
  | true =>
    go_wp2_with fail
    go_ret
    exact ⟨by have := of_decide_eq_true hx; simp [ordI, cmpI, this], rfl⟩
  | false =>
    go_wp2_with fail
    refine (place a ha _).mono ?_
    rintro e w' ⟨rfl, rfl⟩
    go_wp2_with fail
    refine (place b hb _).mono ?_
    rintro e w' ⟨rfl, rfl⟩
    cases y with
    | true =>
      go_wp2_with fail
      go_ret
      exact ⟨by have h1 := of_decide_eq_false hx; have h2 := of_decide_eq_true hy; simp [ordI, cmpI, h1, h2], rfl⟩
    | false =>
      go_wp2_with fail
      go_ret
      exact ⟨by have h1 := of_decide_eq_false hx; have h2 := of_decide_eq_false hy; simp [ordI, cmpI, h1, h2], rfl⟩

def same (a b : Nat) : Bool := isnan a && isnan b || decide (a = b)
theorem Same (a b : Nat) (w : World) : Calls Try.prog 12 #[.float .f64 a, .float .f64 b] w fun e w' => e = .returned (.bool (same a b)) ∧ w = w' := by
  have t0 := bits_run
  obtain ⟨y, hy⟩ : ∃ y, ((a : Int) == (b : Int)) = y := ⟨_, rfl⟩
  have hy' : decide (a = b) = y := by rw [← hy, Bool.eq_iff_iff]; simp; omega
  go_enter Try.func12, Try.ntmps12
  go_wp2_with fail
  refine (nan a _).mono ?_
  rintro e w' ⟨rfl, rfl⟩
  cases na : isnan a with
  | true =>
    go_wp2_with fail
    refine (nan b _).mono ?_
    rintro e w' ⟨rfl, rfl⟩
    cases nb : isnan b with
    | true =>
      go_wp2_with fail
      go_ret
      exact ⟨by simp [same, na, nb], rfl⟩
    | false =>
      go_wp2_with fail
      go_ret
      exact ⟨by simp [same, na, nb, hy'], rfl⟩
  | false =>
    go_wp2_with fail
    go_ret
    exact ⟨by simp [same, na, hy'], rfl⟩
end Go.Proofs.Ytepmbagflbkooaa.Ratio
