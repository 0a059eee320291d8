/- Above and Clamp of ratio and of its reference. -/
import Derived.Test.YtepmbagflbkooaaRatioShare
namespace Go.Proofs.Ytepmbagflbkooaa.Ratio
open Go.RowKit Go.Proofs.YtepmbagflbkooaaW.PrintWords Go.Proofs.Ytepmbagflbkooaa.FloatLaw
/-- Whether a share is above a limit. -/
def above (s l : Nat) : Bool := !isnan s && !isnan l && decide (sv l < sv s)
theorem above_nan {s l : Nat} (h : isnan s = true) : above s l = false := by simp [above, h]
theorem RatioAbove (p q l : Nat) (hp : p < 18446744073709551616) (hq : q < 18446744073709551616) (w : World) : Calls Try.prog 15 #[.float .f64 p, .float .f64 q, .float .f64 l] w fun e w' =>
    e = .returned (.bool (above (shB p q) l)) ∧ Below w.heap.size w w' := by
  go_enter Try.func15, Try.ntmps15
  go_wp2_with fail
  refine (RatioShare p q hp hq _).mono ?_
  rintro e w' ⟨r, rfl, b1, hr, h⟩
  have t0 : (FloatKind.f64.format.order r l == some .gt) = above (shB p q) l := by
    rw [fmt, gt_true]
    rcases h with rfl | ⟨h1, h2⟩
    · rfl
    · rw [h1, above_nan h2]; rfl
  go_wp2_with fail
  go_ret
  exact ⟨by simp, b1⟩
set_option maxHeartbeats 1000000 in
theorem RefAbove (p q l : Nat) (hp : p < 18446744073709551616) (hl : l < 18446744073709551616) (w : World) : Calls Try.prog 16 #[.float .f64 p, .float .f64 q, .float .f64 l] w fun e w' =>
    e = .returned (.bool (above (shB p q) l)) ∧ Below w.heap.size w w' := by
  have hs := shB_wf p q
  obtain ⟨s, hsd⟩ : ∃ s, shB p q = s := ⟨_, rfl⟩
  obtain ⟨xs, hzs⟩ : ∃ x, (FloatKind.f64.format.order s 0 == some .eq) = x := ⟨_, rfl⟩
  obtain ⟨xl, hzl⟩ : ∃ x, (FloatKind.f64.format.order l 0 == some .eq) = x := ⟨_, rfl⟩
  obtain ⟨o, ho⟩ : ∃ o, decide (0 < ordI s l) = o := ⟨_, rfl⟩
  go_enter Try.func16, Try.ntmps16
  go_wp2_with fail
  refine (RefShare p q hp _).mono ?_
  rintro e w' ⟨rfl, b1⟩
  rw [hsd] at hs ⊢
  go_wp2_with fail
  refine (nan s _).mono ?_
  rintro e w' ⟨rfl, rfl⟩
  cases ns : isnan s with
  | true =>
    go_wp2_with fail
    go_ret
    exact ⟨by simp [hsd, above, ns], b1⟩
  | false =>
    go_wp2_with fail
    refine (nan l _).mono ?_
    rintro e w' ⟨rfl, rfl⟩
    cases nl : isnan l with
    | true =>
      go_wp2_with fail
      go_ret
      exact ⟨by simp [hsd, above, nl], b1⟩
    | false =>
      have key : (xs && xl) = false → o = above s l := by
        intro hx
        rw [← hzs, ← hzl, zero_eq ns, zero_eq nl] at hx
        have hx' : ¬ (sv s = 0 ∧ sv l = 0) := by simpa using hx
        rw [← ho, above, ns, nl]
        have h := sv_pl ns nl
        simp only [Bool.not_false, Bool.true_and]
        apply decide_eq_decide.2
        unfold ordI cmpI at *
        rcases Int.lt_trichotomy (sv s) (sv l) with c | c | c
        · have := h.1 c
          rw [if_pos this]; omega
        · have := h.2.2.1 c (by omega)
          rw [if_neg (by omega), if_neg (by omega)]; omega
        · have := h.2.1 c
          rw [if_neg (by omega), if_pos (by omega)]; omega
      cases xs with
      | true =>
        cases xl with
        | true =>
          have h1 : sv s = 0 := by rw [zero_eq ns] at hzs; exact of_decide_eq_true hzs
          have h2 : sv l = 0 := by rw [zero_eq nl] at hzl; exact of_decide_eq_true hzl
          go_wp2_with fail
          go_ret
          exact ⟨by simp [hsd, above, h1, h2], b1⟩
        | false =>
          go_wp2_with fail
          refine (RefOrder s l hs hl _).mono ?_
          rintro e w' ⟨rfl, rfl⟩
          go_wp2_with fail
          go_ret
          exact ⟨by simp [hsd], b1⟩
      | false =>
        go_wp2_with fail
        refine (RefOrder s l hs hl _).mono ?_
        rintro e w' ⟨rfl, rfl⟩
        go_wp2_with fail
        go_ret
        exact ⟨by simp [hsd], b1⟩
/-- What is kept between two bounds. -/
def clampB (x l h : Nat) : Nat := if decide (ordI x l < 0) then l else if decide (0 < ordI x h) then h else x
theorem RatioClamp (x l h : Nat) (hx : x < 18446744073709551616) (hl : l < 18446744073709551616) (hh : h < 18446744073709551616) (w : World) : Calls Try.prog 19 #[.float .f64 x, .float .f64 l, .float .f64 h] w fun e w' =>
    e = .returned (.float .f64 (clampB x l h)) ∧ w = w' := by
  obtain ⟨o1, h1⟩ : ∃ o, decide (ordI x l < 0) = o := ⟨_, rfl⟩
  obtain ⟨o2, h2⟩ : ∃ o, decide (0 < ordI x h) = o := ⟨_, rfl⟩
  go_enter Try.func19, Try.ntmps19
  go_wp2_with fail
  refine (Order x l hx hl _).mono ?_
  rintro e w' ⟨rfl, rfl⟩
  cases o1 with
  | true =>
    go_wp2_with fail
    go_ret
    exact ⟨by simp only [clampB, h1]; rfl, rfl⟩
  | false =>
    go_wp2_with fail
    refine (Order x h hx hh _).mono ?_
    rintro e w' ⟨rfl, rfl⟩
    cases o2 with
    | true =>
      go_wp2_with fail
      go_ret
      exact ⟨by simp only [clampB, h1, h2]; rfl, rfl⟩
    | false =>
      go_wp2_with fail
      go_ret
      exact ⟨by simp only [clampB, h1, h2]; rfl, rfl⟩
theorem RefClamp (x l h : Nat) (hx : x < 18446744073709551616) (hl : l < 18446744073709551616) (hh : h < 18446744073709551616) (w : World) : Calls Try.prog 20 #[.float .f64 x, .float .f64 l, .float .f64 h] w fun e w' =>
    e = .returned (.float .f64 (clampB x l h)) ∧ w = w' := by
  obtain ⟨o1, h1⟩ : ∃ o, decide (ordI x l < 0) = o := ⟨_, rfl⟩
  obtain ⟨o2, h2⟩ : ∃ o, decide (0 < ordI x h) = o := ⟨_, rfl⟩
  go_enter Try.func20, Try.ntmps20
  go_wp2_with fail
  refine (RefOrder x l hx hl _).mono ?_
  rintro e w' ⟨rfl, rfl⟩
  cases o1 with
  | true =>
    go_wp2_with fail
    go_ret
    exact ⟨by simp only [clampB, h1]; rfl, rfl⟩
  | false =>
    go_wp2_with fail
    refine (RefOrder x h hx hh _).mono ?_
    rintro e w' ⟨rfl, rfl⟩
    cases o2 with
    | true =>
      go_wp2_with fail
      go_ret
      exact ⟨by simp only [clampB, h1, h2]; rfl, rfl⟩
    | false =>
      go_wp2_with fail
      go_ret
      exact ⟨by simp only [clampB, h1, h2]; rfl, rfl⟩
/-- What a program that does nothing does not answer. -/
theorem awake (w : World) : Calls Try.prog 9 #[] w fun e w' => e = .returned (.bool true) ∧ Below w.heap.size w w' := by
  go_enter Try.func9, Try.ntmps9
  go_wp2_with fail
  refine (RatioAbove _ _ _ (by decide) (by decide) _).mono ?_
  rintro e w' ⟨rfl, b1⟩
  rw [show above (shB 4607182418800017408 0) 4613937818241073152 = true from by decide]
  go_wp2_with fail
  refine (Order _ _ (by decide) (by decide) _).mono ?_
  rintro e w' ⟨rfl, rfl⟩
  rw [show ordI 4607182418800017408 4611686018427387904 = -1 from by decide]
  go_wp2_with fail
  go_ret
  exact ⟨by simp, b1⟩
end Go.Proofs.Ytepmbagflbkooaa.Ratio
