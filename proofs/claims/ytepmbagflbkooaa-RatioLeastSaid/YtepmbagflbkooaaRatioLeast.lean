/- Least of ratio and of its reference, and the law, walked. -/
import Derived.Test.YtepmbagflbkooaaRatioLaws
import Derived.Lib.Hide
import Derived.Deep.QuietTactic
import Derived.BigQuiet
import Derived.WalkSpells
namespace Go.Proofs.Ytepmbagflbkooaa.Ratio
open Go.RowKit Go.Proofs.YtepmbagflbkooaaW.PrintWords Go.Proofs.Ytepmbagflbkooaa.FloatLaw
/-- The first one in the order of the first k. -/
def outK (l : List Nat) : Nat → Nat
  | 0 => l.getD 0 0
  | k + 1 => if ordI (l.getD k 0) (outK l k) < 0 then l.getD k 0 else outK l k
def atK (l : List Nat) : Nat → Int
  | 0 => -1
  | k + 1 => if atK l k < 0 ∨ ordI (l.getD k 0) (l.getD (atK l k).toNat 0) < 0 then (k : Int) else atK l k
theorem at_out (l : List Nat) (k : Nat) : 0 ≤ atK l (k + 1) ∧ atK l (k + 1) ≤ k ∧ l.getD (atK l (k + 1)).toNat 0 = outK l (k + 1) := by
  induction k with
  | zero =>
    have h : atK l 1 = 0 := by simp [atK]
    rw [h]
    refine ⟨by omega, by omega, ?_⟩
    show l.getD 0 0 = if _ then _ else _
    split <;> rfl
  | succ k ih =>
    obtain ⟨h0, h1, h2⟩ := ih
    by_cases c : ordI (l.getD (k + 1) 0) (outK l (k + 1)) < 0
    · have e : atK l (k + 1 + 1) = ((k + 1 : Nat) : Int) := by
        rw [atK, h2, if_pos (.inr c)]
      rw [e]
      refine ⟨by omega, by omega, ?_⟩
      rw [outK, if_pos c]; rfl
    · have e : atK l (k + 1 + 1) = atK l (k + 1) := by
        rw [atK, h2, if_neg (by rintro (h | h) <;> omega)]
      rw [e]
      refine ⟨by omega, by omega, ?_⟩
      rw [outK, if_neg c, h2]
theorem at_pos (l : List Nat) (k : Nat) (h : 0 < k) : 0 ≤ atK l k ∧ atK l k < k ∧ l.getD (atK l k).toNat 0 = outK l k := by
  obtain ⟨j, rfl⟩ : ∃ j, k = j + 1 := ⟨k - 1, by omega⟩
  have := at_out l j
  exact ⟨this.1, by omega, this.2.2⟩
theorem at_lt (l : List Nat) (k : Nat) : atK l k < k := by
  cases k with
  | zero => simp [atK]
  | succ k => have := at_out l k; omega
theorem out_wf (l : List Nat) (hs : ∀ b ∈ l, b < 18446744073709551616) (hne : 0 < l.length) (k : Nat) (hk : k ≤ l.length) : outK l k < 18446744073709551616 := by
  have at_ : ∀ i, i < l.length → l.getD i 0 < 18446744073709551616 := by
    intro i hi
    rw [List.getD, List.getElem?_eq_getElem hi]; exact hs _ (List.getElem_mem hi)
  induction k with
  | zero => exact at_ 0 hne
  | succ k ih =>
    rw [outK]; split
    · exact at_ k (by omega)
    · exact ih (by omega)
set_option maxHeartbeats 1000000 in
theorem RatioLeast (x : Addr) (cap : Nat) (l : List Nat) (W : World) (hne : 0 < l.length) (hm : l.length ≤ 60) (hs : ∀ b ∈ l, b < 18446744073709551616)
    (hr : ∀ i, i < l.length → W.cell? (x.add i) = some (.float .f64 (l.getD i 0))) :
    Calls Try.prog 21 #[.slice (some x) l.length cap] W fun e W' => e = .returned (.tuple #[.float .f64 (outK l l.length), .bool true]) ∧ W = W' := by
  have t0 : decide ((l.length : Int) = 0) = false := decide_eq_false (by omega)
  have t0' : ((l.length : Int) == 0) = false := by simp; rintro rfl; simp at hne
  have hr0 : W.cell? x = some (.float .f64 (outK l 0)) := by
    have h := hr 0 hne
    rw [show x.add 0 = x from by simp [Addr.add]] at h
    exact h
  have HR := Lib.hid hr
  clear hr
  go_enter Try.func21, Try.ntmps21
  go_wp2_with fail
  go_loop [4, 15] (fun v i => ∃ k : Nat, k ≤ l.length ∧ i = .int .i64 k ∧ v = .float .f64 (outK l k)) (fun _ i => l.length - (intOf i).toNat)
  case atStart => exact ⟨0, Nat.zero_le _, rfl, rfl⟩
  case round =>
    obtain ⟨k, hk, rfl, rfl⟩ := hrel
    by_cases hlt : k < l.length
    · have t1 : decide ((k : Int) < (l.length : Int)) = true := decide_eq_true (by omega)
      have hyw : l.getD k 0 < 18446744073709551616 := by
        rw [List.getD, List.getElem?_eq_getElem hlt]; exact hs _ (List.getElem_mem hlt)
      have hck := HR.out k hlt
      have HN := Lib.hid (show outK l (k + 1) = if ordI (l.getD k 0) (outK l k) < 0 then l.getD k 0 else outK l k from rfl)
      obtain ⟨y, hy⟩ : ∃ y, l.getD k 0 = y := ⟨_, rfl⟩
      rw [hy] at hck HN hyw
      clear hy
      have hzw := out_wf l hs hne k hk
      obtain ⟨c, hc⟩ : ∃ c, decide (ordI y (outK l k) < 0) = c := ⟨_, rfl⟩
      go_wp2_with fail
      refine (Order y (outK l k) hyw hzw _).mono ?_
      rintro e w' ⟨rfl, rfl⟩
      cases c with
      | true =>
        go_wp2_with fail
        have h := HN.out
        rw [if_pos (of_decide_eq_true hc)] at h
        exact ⟨⟨k + 1, by omega, by simp, by rw [h]⟩, by simp [intOf]; omega⟩
      | false =>
        go_wp2_with fail
        have h := HN.out
        rw [if_neg (of_decide_eq_false hc)] at h
        exact ⟨⟨k + 1, by omega, by simp, by rw [h]⟩, by simp [intOf]; omega⟩
    · obtain rfl : k = l.length := by omega
      go_wp2_with fail
      go_ret2
      exact ⟨by simp, rfl⟩
set_option maxHeartbeats 1000000 in
theorem RefLeast (x : Addr) (cap : Nat) (l : List Nat) (W : World) (hne : 0 < l.length) (hm : l.length ≤ 60) (hs : ∀ b ∈ l, b < 18446744073709551616)
    (hr : ∀ i, i < l.length → W.cell? (x.add i) = some (.float .f64 (l.getD i 0))) :
    Calls Try.prog 22 #[.slice (some x) l.length cap] W fun e W' => e = .returned (.int .i64 (atK l l.length)) ∧ ∃ n, W' = W.drewN n := by
  have HR := Lib.hid hr
  clear hr
  go_enter Try.func22, Try.ntmps22
  go_wp2_with fail
  go_loopw [3, 4] (fun v i wr => ∃ k : Nat, k ≤ l.length ∧ i = .int .i64 k ∧ v = .int .i64 (atK l k) ∧ ∃ n, wr = W.drewN n) (fun _ i _ => l.length - (intOf i).toNat)
  case atStart => exact ⟨0, Nat.zero_le _, rfl, rfl, 0, rfl⟩
  case round =>
    obtain ⟨k, hk, rfl, rfl, n, rfl⟩ := hrel
    by_cases hlt : k < l.length
    · have t1 : decide ((k : Int) < (l.length : Int)) = true := decide_eq_true (by omega)
      have hyw : l.getD k 0 < 18446744073709551616 := by
        rw [List.getD, List.getElem?_eq_getElem hlt]; exact hs _ (List.getElem_mem hlt)
      have hck := HR.out k hlt
      have HN := Lib.hid (show atK l (k + 1) = if atK l k < 0 ∨ ordI (l.getD k 0) (l.getD (atK l k).toNat 0) < 0 then (k : Int) else atK l k from rfl)
      obtain ⟨y, hy⟩ : ∃ y, l.getD k 0 = y := ⟨_, rfl⟩
      rw [hy] at hck HN hyw
      clear hy
      by_cases k0 : k = 0
      · subst k0
        have e0 : atK l 0 = -1 := rfl
        rw [e0] at HN ⊢
        go_wp2_with fail
        go_quiet (fail)
        go_wp2_with fail
        have h := HN.out
        rw [if_pos (.inl (by omega))] at h
        exact ⟨⟨1, by omega, by simp, by rw [h], _, rfl⟩, by simp [intOf]; omega⟩
      · obtain ⟨h0, h1, h2⟩ := at_pos l k (by omega)
        obtain ⟨j, hj⟩ : ∃ j : Nat, atK l k = (j : Int) := ⟨(atK l k).toNat, by omega⟩
        rw [hj] at HN h0 h1 h2 ⊢
        have hjl : j < l.length := by omega
        have hz := HR.out j hjl
        have hzw : l.getD j 0 < 18446744073709551616 := by
          rw [List.getD, List.getElem?_eq_getElem hjl]; exact hs _ (List.getElem_mem _)
        obtain ⟨z, hzz⟩ : ∃ z, l.getD j 0 = z := ⟨_, rfl⟩
        have HN' := Lib.hid (show atK l (k + 1) = if ordI y z < 0 then (k : Int) else (j : Int) from by
          rw [HN.out, Int.toNat_natCast, hzz]
          by_cases c : ordI y z < 0
          · rw [if_pos (.inr c), if_pos c]
          · rw [if_neg (by rintro (h | h) <;> omega), if_neg c])
        rw [hzz] at hz hzw
        clear hzz HN h2
        have t2 : decide ((j : Int) < 0) = false := decide_eq_false (by omega)
        have t3 : (j : Int) < (l.length : Int) := by omega
        have t4 : (k : Int) < (l.length : Int) := by omega
        obtain ⟨c, hc⟩ : ∃ c, decide (ordI y z < 0) = c := ⟨_, rfl⟩
        go_wp2_with fail
        go_quiet ((go_at_call 11; exact (RefOrder y z hyw hzw _).mono fun _ _ h => ⟨h.1, _, h.2.symm⟩))
        cases c with
        | true =>
          go_wp2_with fail
          have h := HN'.out
          rw [if_pos (of_decide_eq_true hc)] at h
          exact ⟨⟨k + 1, by omega, by simp, by rw [h], _, rfl⟩, by simp [intOf]; omega⟩
        | false =>
          go_wp2_with fail
          have h := HN'.out
          rw [if_neg (of_decide_eq_false hc)] at h
          exact ⟨⟨k + 1, by omega, by simp, by rw [h], _, rfl⟩, by simp [intOf]; omega⟩
    · obtain rfl : k = l.length := by omega
      have t1 : decide ((l.length : Int) < (l.length : Int)) = false := decide_eq_false (by omega)
      go_wp2_with fail
      go_ret
      exact ⟨by simp, _, rfl⟩
theorem RatioLeast_nil (A : Option Addr) (cap : Nat) (W : World) :
    Calls Try.prog 21 #[.slice A 0 cap] W fun e W' => e = .returned (.tuple #[.float .f64 0, .bool false]) ∧ W = W' := by
  go_enter Try.func21, Try.ntmps21
  go_wp2_with fail
  go_ret2
  exact ⟨by simp, rfl⟩
theorem RefLeast_nil (A : Option Addr) (cap : Nat) (W : World) :
    Calls Try.prog 22 #[.slice A 0 cap] W fun e W' => e = .returned (.int .i64 (-1)) ∧ W = W' := by
  go_enter Try.func22, Try.ntmps22
  go_wp2_with fail
  go_loop [3, 4] (fun v i => i = .int .i64 0 ∧ v = .int .i64 (-1)) (fun _ _ => 0)
  case atStart => exact ⟨rfl, rfl⟩
  case round =>
    obtain ⟨rfl, rfl⟩ := hrel
    go_wp2_with fail
    go_ret
    exact ⟨by simp, rfl⟩
set_option maxHeartbeats 1000000 in
theorem RatioLeast_walk (A : Option Addr) (cap : Nat) (l : List Nat) (W : World) (hs : ∀ b ∈ l, b < 18446744073709551616) (hmax : l.length ≤ maxLen)
    (hr : l ≠ [] → ∃ x, A = some x ∧ ∀ i, i < l.length → W.cell? (x.add i) = some (.float .f64 (l.getD i 0))) :
    Calls Try.prog 8 #[.slice A l.length cap] W fun e W' => e = .returned (.bool true) ∧ Below W.heap.size W W' := by
  unfold maxLen at hmax
  have HR := Lib.hid hr
  clear hr
  by_cases hm : l.length ≤ 60
  · have t0 : decide (60 < (l.length : Int)) = false := decide_eq_false (by omega)
    by_cases h0 : l = []
    · subst h0
      go_enter Try.func8, Try.ntmps8
      go_wp2_with fail
      refine (awake _).mono ?_
      rintro e w1 ⟨rfl, b1⟩
      go_wp2_with fail
      refine (RatioLeast_nil A cap _).mono ?_
      rintro e w' ⟨rfl, rfl⟩
      go_wp2_with fail
      refine (RefLeast_nil A cap _).mono ?_
      rintro e w' ⟨rfl, rfl⟩
      go_wp2_with fail
      refine (Same _ _ _).mono ?_
      rintro e w' ⟨rfl, rfl⟩
      rw [same_share (.inl rfl)]
      go_wp2_with fail
      go_ret
      exact ⟨by simp, b1⟩
    · have hne : 0 < l.length := List.length_pos_iff.2 h0
      obtain ⟨x, rfl, hcell⟩ := HR.out h0
      obtain ⟨h1, h2, h3⟩ := at_pos l l.length hne
      obtain ⟨j, hj⟩ : ∃ j : Nat, atK l l.length = (j : Int) := ⟨(atK l l.length).toNat, by omega⟩
      rw [hj] at h1 h2 h3
      rw [Int.toNat_natCast] at h3
      have hjl : (j : Int) < (l.length : Int) := h2
      have hcj := hcell j (by omega)
      rw [h3] at hcj
      have HC := Lib.hid hcell
      have HJ := Lib.hid hj
      clear hcell hj h3
      obtain ⟨out, ho⟩ : ∃ out, outK l l.length = out := ⟨_, rfl⟩
      rw [ho] at hcj
      go_enter Try.func8, Try.ntmps8
      go_wp2_with fail
      refine (awake _).mono ?_
      rintro e w1 ⟨rfl, b1⟩
      go_wp2_with fail
      refine (RatioLeast x cap l w1 hne hm hs (fun i hi => cell_later b1 (HC.out i hi))).mono ?_
      rintro e w' ⟨rfl, rfl⟩
      rw [ho]
      go_wp2_with fail
      refine (RefLeast x cap l w1 hne hm hs (fun i hi => cell_later b1 (HC.out i hi))).mono ?_
      rintro e w' ⟨rfl, n, rfl⟩
      rw [HJ.out]
      have t2 : decide ((j : Int) < 0) = false := decide_eq_false (by omega)
      have hcj1 : (w1.drewN n).cell? (x.add j) = some (.float .f64 out) := cell_later (pw_below_drewN b1 n) hcj
      go_wp2_with fail
      refine (Same _ _ _).mono ?_
      rintro e w' ⟨rfl, rfl⟩
      rw [same_share (.inl rfl)]
      go_wp2_with fail
      go_ret
      exact ⟨by simp, pw_below_drewN b1 n⟩
  · have t0 : decide (60 < (l.length : Int)) = true := decide_eq_true (by omega)
    go_enter Try.func8, Try.ntmps8
    go_wp2_with fail
    refine (awake _).mono ?_
    rintro e w1 ⟨rfl, b1⟩
    go_wp2_with fail
    refine (awake _).mono ?_
    rintro e w2 ⟨rfl, b2⟩
    go_wp2_with fail
    go_ret
    exact ⟨by simp, then_below b1 b2⟩
end Go.Proofs.Ytepmbagflbkooaa.Ratio
