/- The laws of ratio, walked: each returns true. -/
import Derived.Test.YtepmbagflbkooaaRatioWhole
namespace Go.Proofs.Ytepmbagflbkooaa.Ratio
open Go.RowKit Go.Proofs.YtepmbagflbkooaaW.PrintWords Go.Proofs.Ytepmbagflbkooaa.FloatLaw
theorem RatioOrders_walk (a b : Nat) (W : World) (ha : a < 18446744073709551616) (hb : b < 18446744073709551616) : Calls Try.prog 3 #[.float .f64 a, .float .f64 b] W fun e W' => e = .returned (.bool true) ∧ Below W.heap.size W W' := by
  go_enter Try.func3, Try.ntmps3
  go_wp2_with fail
  refine (awake _).mono ?_
  rintro e w1 ⟨rfl, b1⟩
  go_wp2_with fail
  refine (Order a b ha hb _).mono ?_
  rintro e w' ⟨rfl, rfl⟩
  go_wp2_with fail
  refine (RefOrder a b ha hb _).mono ?_
  rintro e w' ⟨rfl, rfl⟩
  go_wp2_with fail
  go_ret
  exact ⟨by simp, b1⟩
theorem same_share {r s : Nat} (h : r = s ∨ isnan r = true ∧ isnan s = true) : same r s = true := by
  rcases h with rfl | ⟨h1, h2⟩
  · simp [same]
  · simp [same, h1, h2]
theorem RatioShares_walk (p q l : Nat) (W : World) (hp : p < 18446744073709551616) (hq : q < 18446744073709551616) (hl : l < 18446744073709551616) : Calls Try.prog 4 #[.float .f64 p, .float .f64 q, .float .f64 l] W fun e W' => e = .returned (.bool true) ∧ Below W.heap.size W W' := by
  go_enter Try.func4, Try.ntmps4
  go_wp2_with fail
  refine (awake _).mono ?_
  rintro e w1 ⟨rfl, b1⟩
  go_wp2_with fail
  refine (RatioShare p q hp hq _).mono ?_
  rintro e w2 ⟨r, rfl, b2, hr, h⟩
  go_wp2_with fail
  refine (RefShare p q hp _).mono ?_
  rintro e w3 ⟨rfl, b3⟩
  go_wp2_with fail
  refine (Same _ _ _).mono ?_
  rintro e w' ⟨rfl, rfl⟩
  rw [same_share h]
  go_wp2_with fail
  refine (RatioAbove p q l hp hq _).mono ?_
  rintro e w4 ⟨rfl, b4⟩
  go_wp2_with fail
  refine (RefAbove p q l hp hl _).mono ?_
  rintro e w5 ⟨rfl, b5⟩
  go_wp2_with fail
  go_ret
  exact ⟨by simp, then_below b1 (then_below b2 (then_below b3 (then_below b4 b5)))⟩
theorem RatioClamps_walk (x l h : Nat) (W : World) (hx : x < 18446744073709551616) (hl : l < 18446744073709551616) (hh : h < 18446744073709551616) : Calls Try.prog 7 #[.float .f64 x, .float .f64 l, .float .f64 h] W fun e W' => e = .returned (.bool true) ∧ Below W.heap.size W W' := by
  go_enter Try.func7, Try.ntmps7
  go_wp2_with fail
  refine (awake _).mono ?_
  rintro e w1 ⟨rfl, b1⟩
  go_wp2_with fail
  refine (RatioClamp x l h hx hl hh _).mono ?_
  rintro e w' ⟨rfl, rfl⟩
  go_wp2_with fail
  refine (RefClamp x l h hx hl hh _).mono ?_
  rintro e w' ⟨rfl, rfl⟩
  go_wp2_with fail
  refine (Same _ _ _).mono ?_
  rintro e w' ⟨rfl, rfl⟩
  rw [same_share (.inl rfl)]
  go_wp2_with fail
  go_ret
  exact ⟨by simp, b1⟩
theorem RatioWhole_walk (x : Nat) (W : World) (hx : x < 18446744073709551616) : Calls Try.prog 6 #[.float .f64 x] W fun e W' => e = .returned (.bool true) ∧ Below W.heap.size W W' := by
  go_enter Try.func6, Try.ntmps6
  go_wp2_with fail
  refine (awake _).mono ?_
  rintro e w1 ⟨rfl, b1⟩
  go_wp2_with fail
  refine (RatioWhole x hx _).mono ?_
  rintro e w' ⟨rfl, rfl⟩
  go_wp2_with fail
  refine (RefWhole x hx _).mono ?_
  rintro e w' ⟨rfl, rfl⟩
  go_wp2_with fail
  go_ret
  exact ⟨by simp, b1⟩
theorem ord_self (a : Nat) : ordI a a = 0 := by unfold ordI cmpI; simp
theorem ord_flip (a b : Nat) : ordI a b = wrap64 (-ordI b a) := by
  unfold ordI cmpI wrap64; split <;> split <;> (try split) <;> omega
theorem ord_trans {a b c : Nat} (h1 : ordI a b ≤ 0) (h2 : ordI b c ≤ 0) : ordI a c ≤ 0 ∧ (¬ ordI a c < 0 → ordI a b = 0 ∧ ordI b c = 0) := by
  have l1 : pl a ≤ pl b := by unfold ordI cmpI at h1; split at h1 <;> (try split at h1) <;> omega
  have l2 : pl b ≤ pl c := by unfold ordI cmpI at h2; split at h2 <;> (try split at h2) <;> omega
  unfold ordI cmpI
  constructor
  · split <;> (try split) <;> omega
  · intro h
    have : ¬ pl a < pl c := by intro k; rw [if_pos k] at h; omega
    rw [if_neg (by omega), if_neg (by omega), if_neg (by omega), if_neg (by omega)]
    exact ⟨rfl, rfl⟩
set_option maxHeartbeats 2000000 in
theorem RatioTurns_walk (a b c : Nat) (W : World) (ha : a < 18446744073709551616) (hb : b < 18446744073709551616) (hc : c < 18446744073709551616) : Calls Try.prog 5 #[.float .f64 a, .float .f64 b, .float .f64 c] W fun e W' => e = .returned (.bool true) ∧ Below W.heap.size W W' := by
  have t0 : (ordI a b != wrap64 (-ordI b a)) = false := by rw [← ord_flip]; simp
  obtain ⟨c1, h1⟩ : ∃ t, decide (ordI a b ≤ 0) = t := ⟨_, rfl⟩
  obtain ⟨c2, h2⟩ : ∃ t, decide (ordI b c ≤ 0) = t := ⟨_, rfl⟩
  obtain ⟨c4, h4⟩ : ∃ t, decide (ordI a c < 0) = t := ⟨_, rfl⟩
  go_enter Try.func5, Try.ntmps5
  go_wp2_with fail
  refine (awake _).mono ?_
  rintro e w1 ⟨rfl, b1⟩
  go_wp2_with fail
  refine (Order a b ha hb _).mono ?_
  rintro e w' ⟨rfl, rfl⟩
  go_wp2_with fail
  refine (Order b a hb ha _).mono ?_
  rintro e w' ⟨rfl, rfl⟩
  go_wp2_with fail
  refine (Order a a ha ha _).mono ?_
  rintro e w' ⟨rfl, rfl⟩
  rw [ord_self]
  go_wp2_with fail
  refine (Order a b ha hb _).mono ?_
  rintro e w' ⟨rfl, rfl⟩
  cases c1 with
  | false =>
    go_wp2_with fail
    go_ret
    exact ⟨by simp, b1⟩
  | true =>
    go_wp2_with fail
    refine (Order b c hb hc _).mono ?_
    rintro e w' ⟨rfl, rfl⟩
    cases c2 with
    | false =>
      go_wp2_with fail
      go_ret
      exact ⟨by simp, b1⟩
    | true =>
      have h := ord_trans (of_decide_eq_true h1) (of_decide_eq_true h2)
      have t3 : decide (ordI a c ≤ 0) = true := decide_eq_true h.1
      go_wp2_with fail
      refine (Order a c ha hc _).mono ?_
      rintro e w' ⟨rfl, rfl⟩
      go_wp2_with fail
      refine (Order a c ha hc _).mono ?_
      rintro e w' ⟨rfl, rfl⟩
      cases c4 with
      | true =>
        go_wp2_with fail
        go_ret
        exact ⟨by simp, b1⟩
      | false =>
        have h5 := h.2 (by have := of_decide_eq_false h4; omega)
        clear h
        go_wp2_with fail
        refine (Order a b ha hb _).mono ?_
        rintro e w' ⟨rfl, rfl⟩
        rw [h5.1]
        go_wp2_with fail
        refine (Order b c hb hc _).mono ?_
        rintro e w' ⟨rfl, rfl⟩
        rw [h5.2]
        go_wp2_with fail
        go_ret
        exact ⟨by simp, b1⟩
end Go.Proofs.Ytepmbagflbkooaa.Ratio
