-- PRINTED BY print.sh 35421559b90ae4d0a3588c463048766b98c2df88dd9212a6774a882060cdf62d: not written by this session
import Derived.Test.YtfkfmnffcnfehaaPSerialAddsx0
namespace Go.Proofs.Ytfkfmnffcnfehaa.PSerialAdds
open Go.RowKit Go.Proofs.YtfkfmnffcnfehaaW.PrintWords Go.Proofs.YtfkfmnffcnfehaaW.PrintLast Go.Proofs.YtfkfmnffcnfehaaW.PrintMore
attribute [local go_sem] max2_int min2_int max_two min_two max_three min_three max_four min_four   -- for this text's walks alone
set_option linter.unusedVariables false
set_option linter.unusedSimpArgs false

/-! ### serial_Ahead: function 18 -/
def serial_Ahead.f (a0 : Int) (a1 : Int) : Option (Bool) := some (decide ((wrap32 ((a1 - a0) % 4294967296)) > 0))
set_option maxHeartbeats 8000000 in
set_option maxRecDepth 100000 in
theorem serial_Ahead.calls (a0 : Int) (a1 : Int) (r : Bool) (w : World) (h : serial_Ahead.f a0 a1 = some r) :
    Calls Try.prog 18 #[.int .u32 a0, .int .u32 a1] w fun e w' => e = .returned (.bool r) ∧ Drawn0 w w' := by
  have H : (some (decide ((wrap32 ((a1 - a0) % 4294967296)) > 0))) = some r := h
  clear h
  obtain rfl := Option.some.inj H
  go_enter Try.func18, Try.ntmps18
  go_wp2
  go_ret
  exact ⟨by first | rfl | (simp; done) | (simp [*]; done), by repeat (first | exact Drawn0.refl _ | apply Drawn0.step)⟩

/-! ### serial_Next: function 19 -/
def serial_Next.f (a0 : Int) : Option (Int) := if ((a0 + 1) % 4294967296) = 0 then (some 1) else (some ((a0 + 1) % 4294967296))
set_option maxHeartbeats 8000000 in
set_option maxRecDepth 100000 in
theorem serial_Next.calls (a0 : Int) (r : Int) (w : World) (h : serial_Next.f a0 = some r) :
    Calls Try.prog 19 #[.int .u32 a0] w fun e w' => e = .returned (.int .u32 r) ∧ Drawn0 w w' := by
  have H : (if ((a0 + 1) % 4294967296) = 0 then (some 1) else (some ((a0 + 1) % 4294967296))) = some r := h
  clear h
  by_cases c2 : ((a0 + 1) % 4294967296) = 0
  · rw [if_pos c2] at H
    have c2b0 : (((a0 + 1) % 4294967296) == 0) = true := beq_iff_eq.mpr c2
    have c2b1 : (((a0 + 1) % 4294967296) != 0) = false := bne_eq_false_iff_eq.mpr c2
    clear c2
    obtain rfl := Option.some.inj H
    go_enter Try.func19, Try.ntmps19
    go_wp2
    go_ret
    exact ⟨by first | rfl | (simp; done) | (simp [*]; done), by repeat (first | exact Drawn0.refl _ | apply Drawn0.step)⟩
  · rw [if_neg c2] at H
    have c2b0 : (((a0 + 1) % 4294967296) == 0) = false := beq_eq_false_iff_ne.mpr c2
    have c2b1 : (((a0 + 1) % 4294967296) != 0) = true := bne_iff_ne.mpr c2
    obtain rfl := Option.some.inj H
    go_enter Try.func19, Try.ntmps19
    go_wp2
    go_ret
    exact ⟨by first | rfl | (simp; done) | (simp [*]; done), by repeat (first | exact Drawn0.refl _ | apply Drawn0.step)⟩

/-! ### beadrolllaw02_awake: function 13 -/
def beadrolllaw02_awake.f  : Option (Bool) := (serial_Next.f 4294967295).bind fun t101 => (if t101 = 1 then ((serial_Ahead.f 4294967295 0).bind fun t102 => (some t102)) else (some false))
set_option maxHeartbeats 8000000 in
set_option maxRecDepth 100000 in
theorem beadrolllaw02_awake.calls  (r : Bool) (w : World) (h : beadrolllaw02_awake.f  = some r) :
    Calls Try.prog 13 #[] w fun e w' => e = .returned (.bool r) ∧ Drawn0 w w' := by
  have H : ((serial_Next.f 4294967295).bind fun t101 => (if t101 = 1 then ((serial_Ahead.f 4294967295 0).bind fun t102 => (some t102)) else (some false))) = some r := h
  clear h
  replace H := Option.bind_eq_some_iff.mp H
  obtain ⟨t101, A10, H⟩ := H
  replace H : (if t101 = 1 then ((serial_Ahead.f 4294967295 0).bind fun t102 => (some t102)) else (some false)) = some r := H
  have A1 := Aside0.mk A10
  clear A10
  by_cases c2 : t101 = 1
  · rw [if_pos c2] at H
    have c2b0 : (t101 == 1) = true := beq_iff_eq.mpr c2
    have c2b1 : (t101 != 1) = false := bne_eq_false_iff_eq.mpr c2
    clear c2
    replace H := Option.bind_eq_some_iff.mp H
    obtain ⟨t102, A30, H⟩ := H
    replace H : (some t102) = some r := H
    have A3 := Aside0.mk A30
    clear A30
    obtain rfl := Option.some.inj H
    go_enter Try.func13, Try.ntmps13
    go_wp2_with (first | ((with_reducible refine gate_callee (f := 19) rfl ?_); refine goesL_ (some 1) rfl rfl Try.func19 (by kernel_rfl) rfl #[.int .u32 4294967295] rfl (by (try simp only [List.map_toArray, List.map_cons, List.map_nil]); first | done | rfl | (simp only [List.length_drop, List.length_take]; rfl)) ?_; (with_reducible refine (serial_Next.calls 4294967295 t101 _ A1.out).mono ?_); rintro e w' ⟨rfl, ⟨nd, rfl⟩⟩; refine ⟨_, rfl, ?_⟩) | (go_at_call 18; (with_reducible refine (serial_Ahead.calls 4294967295 0 t102 _ A3.out).mono ?_); rintro e w' ⟨rfl, ⟨nd, rfl⟩⟩))
    go_ret
    exact ⟨by first | rfl | (simp; done) | (simp [*]; done), by repeat (first | exact Drawn0.refl _ | apply Drawn0.step)⟩
  · rw [if_neg c2] at H
    have c2b0 : (t101 == 1) = false := beq_eq_false_iff_ne.mpr c2
    have c2b1 : (t101 != 1) = true := bne_iff_ne.mpr c2
    obtain rfl := Option.some.inj H
    go_enter Try.func13, Try.ntmps13
    go_wp2_with (first | ((with_reducible refine gate_callee (f := 19) rfl ?_); refine goesL_ (some 1) rfl rfl Try.func19 (by kernel_rfl) rfl #[.int .u32 4294967295] rfl (by (try simp only [List.map_toArray, List.map_cons, List.map_nil]); first | done | rfl | (simp only [List.length_drop, List.length_take]; rfl)) ?_; (with_reducible refine (serial_Next.calls 4294967295 t101 _ A1.out).mono ?_); rintro e w' ⟨rfl, ⟨nd, rfl⟩⟩; refine ⟨_, rfl, ?_⟩))
    go_ret
    exact ⟨by first | rfl | (simp; done) | (simp [*]; done), by repeat (first | exact Drawn0.refl _ | apply Drawn0.step)⟩

/-! ### serial_Add: function 16 -/
def serial_Add.f (a0 : Int) (a1 : Int) : Option (Int × Int) := if a1 < 0 then (some (0, 1)) else (if a1 > 2147483647 then (some (0, 1)) else (some ((a0 + ((a1) % 4294967296)) % 4294967296, 0)))
set_option maxHeartbeats 8000000 in
set_option maxRecDepth 100000 in
theorem serial_Add.calls (a0 : Int) (a1 : Int) (r1 : Int) (r2 : Int) (w : World) (h : serial_Add.f a0 a1 = some (r1, r2)) :
    Calls Try.prog 16 #[.int .u32 a0, .int .i64 a1] w fun e w' => e = .returned (.tuple #[.int .u32 r1, .int .i64 r2]) ∧ Drawn0 w w' := by
  have H : (if a1 < 0 then (some (0, 1)) else (if a1 > 2147483647 then (some (0, 1)) else (some ((a0 + ((a1) % 4294967296)) % 4294967296, 0)))) = some (r1, r2) := h
  clear h
  by_cases c3 : a1 < 0
  · rw [if_pos c3] at H
    have c3b0 : decide (a1 < 0) = true := decide_eq_true c3
    clear c3
    simp only [Option.some.injEq, Prod.mk.injEq] at H
    obtain ⟨rfl, rfl⟩ := H
    go_enter Try.func16, Try.ntmps16
    go_wp2
    go_ret2
    exact ⟨by first | rfl | (simp; done) | (simp [*]; done), by repeat (first | exact Drawn0.refl _ | apply Drawn0.step)⟩
  · rw [if_neg c3] at H
    have c3b0 : decide (a1 < 0) = false := decide_eq_false c3
    clear c3
    by_cases c4 : a1 > 2147483647
    · rw [if_pos c4] at H
      have c4b0 : decide (2147483647 < a1) = true := decide_eq_true c4
      clear c4
      simp only [Option.some.injEq, Prod.mk.injEq] at H
      obtain ⟨rfl, rfl⟩ := H
      go_enter Try.func16, Try.ntmps16
      go_wp2
      go_ret2
      exact ⟨by first | rfl | (simp; done) | (simp [*]; done), by repeat (first | exact Drawn0.refl _ | apply Drawn0.step)⟩
    · rw [if_neg c4] at H
      have c4b0 : decide (2147483647 < a1) = false := decide_eq_false c4
      clear c4
      simp only [Option.some.injEq, Prod.mk.injEq] at H
      obtain ⟨rfl, rfl⟩ := H
      go_enter Try.func16, Try.ntmps16
      go_wp2
      go_ret2
      exact ⟨by first | rfl | (simp; done) | (simp [*]; done), by repeat (first | exact Drawn0.refl _ | apply Drawn0.step)⟩

/-! ### beadrollref02_Add: function 17 -/
def beadrollref02_Add.f (a0 : Int) (a1 : Int) : Option (Int) := some ((Int.tmod (wrap64 ((wrap64 (a0)) + a1)) 4294967296) % 4294967296)
set_option maxHeartbeats 8000000 in
set_option maxRecDepth 100000 in
theorem beadrollref02_Add.calls (a0 : Int) (a1 : Int) (r : Int) (w : World) (h : beadrollref02_Add.f a0 a1 = some r) :
    Calls Try.prog 17 #[.int .u32 a0, .int .i64 a1] w fun e w' => e = .returned (.int .u32 r) ∧ Drawn0 w w' := by
  have H : (some ((Int.tmod (wrap64 ((wrap64 (a0)) + a1)) 4294967296) % 4294967296)) = some r := h
  clear h
  obtain rfl := Option.some.inj H
  go_enter Try.func17, Try.ntmps17
  go_wp2
  go_ret
  exact ⟨by first | rfl | (simp; done) | (simp [*]; done), by repeat (first | exact Drawn0.refl _ | apply Drawn0.step)⟩

/-! ### beadrolllaw02_SerialAdds: function 4 -/
def beadrolllaw02_SerialAdds.j0 : Nat → Int → Int → Int → Int → Bool → Option (Bool)
  | 0, _, _, _, _, _ => none
  | k + 1, x0, x1, x5, x6, x20 => if x20 = true then (if x5 = 0 then (some (x6 == 1)) else (some false)) else (if x6 = 0 then ((beadrollref02_Add.f x0 x1).bind fun t106 => (if x5 = t106 then ((serial_Ahead.f x0 x5).bind fun t107 => (some (t107 == (decide (x1 > 0))))) else (some false))) else (some false))
def beadrolllaw02_SerialAdds.f (k : Nat) (a0 : Int) (a1 : Int) : Option (Bool) := (beadrolllaw02_awake.f).bind fun t103 => (if t103 = true then ((serial_Add.f a0 a1).bind fun bt104 => (if a1 < 0 then (beadrolllaw02_SerialAdds.j0 k a0 a1 bt104.1 bt104.2 true) else (beadrolllaw02_SerialAdds.j0 k a0 a1 bt104.1 bt104.2 (decide (a1 > 2147483647))))) else (some false))
theorem beadrolllaw02_SerialAdds.mono_l : ∀ k, (∀ y0 y1 y2 y3 y4, LeO (beadrolllaw02_SerialAdds.j0 k y0 y1 y2 y3 y4) (beadrolllaw02_SerialAdds.j0 (k + 1) y0 y1 y2 y3 y4))
  | 0 => fun _ _ _ _ _ r h => by simp [beadrolllaw02_SerialAdds.j0] at h
  | k + 1 => by
    have ih0 := beadrolllaw02_SerialAdds.mono_l k
    · intro y0 y1 y2 y3 y4
      unfold beadrolllaw02_SerialAdds.j0
      repeat' first
      | (with_reducible exact ih0 _ _ _ _ _)
      | (with_reducible exact LeO.refl _)
      | (with_reducible exact LeO.none _)
      | (with_reducible refine LeO.ite ?_ ?_)
      | (with_reducible refine LeO.bind ?_ (fun _ => ?_))
      | exact ih0 _ _ _ _ _
      | exact LeO.none _
      | refine LeO.ite ?_ ?_
      | refine LeO.bind ?_ (fun _ => ?_)
theorem beadrolllaw02_SerialAdds.mono : ∀ a0 a1 k, LeO (beadrolllaw02_SerialAdds.f k a0 a1) (beadrolllaw02_SerialAdds.f (k + 1) a0 a1) := by
  intro a0 a1 k
  have ih0 := beadrolllaw02_SerialAdds.mono_l k
  unfold beadrolllaw02_SerialAdds.f
  repeat' first
      | (with_reducible exact ih0 _ _ _ _ _)
      | (with_reducible exact LeO.refl _)
      | (with_reducible exact LeO.none _)
      | (with_reducible refine LeO.ite ?_ ?_)
      | (with_reducible refine LeO.bind ?_ (fun _ => ?_))
      | exact ih0 _ _ _ _ _
      | exact LeO.none _
      | refine LeO.ite ?_ ?_
      | refine LeO.bind ?_ (fun _ => ?_)
set_option maxHeartbeats 8000000 in
set_option maxRecDepth 100000 in
theorem beadrolllaw02_SerialAdds.calls (k : Nat) (a0 : Int) (a1 : Int) (r : Bool) (w : World) (h : beadrolllaw02_SerialAdds.f k a0 a1 = some r) :
    Calls Try.prog 4 #[.int .u32 a0, .int .i64 a1] w fun e w' => e = .returned (.bool r) ∧ Drawn0 w w' := by
  have H : ((beadrolllaw02_awake.f).bind fun t103 => (if t103 = true then ((serial_Add.f a0 a1).bind fun bt104 => (if a1 < 0 then (beadrolllaw02_SerialAdds.j0 k a0 a1 bt104.1 bt104.2 true) else (beadrolllaw02_SerialAdds.j0 k a0 a1 bt104.1 bt104.2 (decide (a1 > 2147483647))))) else (some false))) = some r := h
  clear h
  replace H := Option.bind_eq_some_iff.mp H
  obtain ⟨t103, A30, H⟩ := H
  replace H : (if t103 = true then ((serial_Add.f a0 a1).bind fun bt104 => (if a1 < 0 then (beadrolllaw02_SerialAdds.j0 k a0 a1 bt104.1 bt104.2 true) else (beadrolllaw02_SerialAdds.j0 k a0 a1 bt104.1 bt104.2 (decide (a1 > 2147483647))))) else (some false)) = some r := H
  have A3 := Aside0.mk A30
  clear A30
  by_cases c4 : t103 = true
  · subst c4
    have H1 : ((serial_Add.f a0 a1).bind fun bt104 => (if a1 < 0 then (beadrolllaw02_SerialAdds.j0 k a0 a1 bt104.1 bt104.2 true) else (beadrolllaw02_SerialAdds.j0 k a0 a1 bt104.1 bt104.2 (decide (a1 > 2147483647))))) = some r := by rw [if_pos rfl] at H; exact H
    clear H
    have H := H1
    clear H1
    replace H := Option.bind_eq_some_iff.mp H
    obtain ⟨⟨t104, t105⟩, A50, H⟩ := H
    replace H : (if a1 < 0 then (beadrolllaw02_SerialAdds.j0 k a0 a1 t104 t105 true) else (beadrolllaw02_SerialAdds.j0 k a0 a1 t104 t105 (decide (a1 > 2147483647)))) = some r := H
    have A5 := Aside0.mk A50
    clear A50
    have HC6 := Aside0.mk H
    clear H
    go_enter Try.func4, Try.ntmps4
    go_upto_region 4 with (first | ((with_reducible refine gate_callee (f := 13) rfl ?_); refine goesL_ (some 7) rfl rfl Try.func13 (by kernel_rfl) rfl #[] rfl (by (try simp only [List.map_toArray, List.map_cons, List.map_nil]); first | done | rfl | (simp only [List.length_drop, List.length_take]; rfl)) ?_; (with_reducible refine (beadrolllaw02_awake.calls  true _ A3.out).mono ?_); rintro e w' ⟨rfl, ⟨nd, rfl⟩⟩; refine ⟨_, rfl, ?_⟩) | ((with_reducible refine gate_callee (f := 16) rfl ?_); refine goesL_ (some 12) rfl rfl Try.func16 (by kernel_rfl) rfl #[.int .u32 a0, .int .i64 a1] rfl (by (try simp only [List.map_toArray, List.map_cons, List.map_nil]); first | done | rfl | (simp only [List.length_drop, List.length_take]; rfl)) ?_; (with_reducible refine (serial_Add.calls a0 a1 t104 t105 _ A5.out).mono ?_); rintro e w' ⟨rfl, ⟨nd, rfl⟩⟩; refine ⟨_, rfl, ?_⟩))
    (try simp only [Act.put, List.setIfInBounds_toArray, List.set_cons_zero, List.set_cons_succ])
    go_cut [20] (fun v20 wc => ∃ (kq : Nat) (x20_5 : Bool), v20 = .bool x20_5 ∧ Aside0 (beadrolllaw02_SerialAdds.j0 kq a0 a1 t104 t105 x20_5 = some r) ∧ Aside0 (kq ≤ k) ∧ Drawn0 w wc)
    case first =>
      have H := HC6.out
      clear HC6
      by_cases c7 : a1 < 0
      · rw [if_pos c7] at H
        have c7b0 : decide (a1 < 0) = true := decide_eq_true c7
        clear c7
        (first | rw [c7b0] | (simp only [i64_w, i32_w]; rw [c7b0]) | skip)
        have H' := Aside0.mk H
        clear H
        go_wp2
        go_meet
        case rel => exact ⟨_, (true), (by first | rfl | (simp; done) | (simp [*]; done)), H', ⟨by first | omega | exact Nat.le_refl _⟩, by repeat (first | exact Drawn0.refl _ | apply Drawn0.step)⟩
      · rw [if_neg c7] at H
        have c7b0 : decide (a1 < 0) = false := decide_eq_false c7
        clear c7
        (first | rw [c7b0] | (simp only [i64_w, i32_w]; rw [c7b0]) | skip)
        have H' := Aside0.mk H
        clear H
        go_wp2
        go_meet
        case rel => exact ⟨_, (decide (a1 > 2147483647)), (by first | rfl | (simp; done) | (simp [*]; done)), H', ⟨by first | omega | exact Nat.le_refl _⟩, by repeat (first | exact Drawn0.refl _ | apply Drawn0.step)⟩
    case rest =>
      clear HC6
      try clear c1
      try clear p2
      try clear c4
      try clear c7
      try clear c7b0
      obtain ⟨kq, x20_5, rfl, HA, HJ5, ⟨mc5, rfl⟩⟩ := hcut
      cases kq with
      | zero => exact absurd HA.out (by simp [beadrolllaw02_SerialAdds.j0])
      | succ kj5 =>
        have H := HA.out
        clear HA
        simp only [beadrolllaw02_SerialAdds.j0] at H
        by_cases c8 : x20_5 = true
        · subst c8
          have H1 : (if t104 = 0 then (some (t105 == 1)) else (some false)) = some r := by rw [if_pos rfl] at H; exact H
          clear H
          have H := H1
          clear H1
          by_cases c9 : t104 = 0
          · rw [if_pos c9] at H
            have c9b0 : (t104 == 0) = true := beq_iff_eq.mpr c9
            have c9b1 : (t104 != 0) = false := bne_eq_false_iff_eq.mpr c9
            clear c9
            obtain rfl := Option.some.inj H
            go_wp2
            go_ret
            exact ⟨by first | rfl | (simp; done) | (simp [*]; done), by repeat (first | exact Drawn0.refl _ | apply Drawn0.step)⟩
          · rw [if_neg c9] at H
            have c9b0 : (t104 == 0) = false := beq_eq_false_iff_ne.mpr c9
            have c9b1 : (t104 != 0) = true := bne_iff_ne.mpr c9
            obtain rfl := Option.some.inj H
            go_wp2
            go_ret
            exact ⟨by first | rfl | (simp; done) | (simp [*]; done), by repeat (first | exact Drawn0.refl _ | apply Drawn0.step)⟩
        · replace c8 := Bool.eq_false_iff.mpr c8
          subst c8
          have H1 : (if t105 = 0 then ((beadrollref02_Add.f a0 a1).bind fun t106 => (if t104 = t106 then ((serial_Ahead.f a0 t104).bind fun t107 => (some (t107 == (decide (a1 > 0))))) else (some false))) else (some false)) = some r := by rw [if_neg (show ¬ (false = true) by decide)] at H; exact H
          clear H
          have H := H1
          clear H1
          by_cases c10 : t105 = 0
          · rw [if_pos c10] at H
            have c10b0 : (t105 == 0) = true := beq_iff_eq.mpr c10
            have c10b1 : (t105 != 0) = false := bne_eq_false_iff_eq.mpr c10
            clear c10
            replace H := Option.bind_eq_some_iff.mp H
            obtain ⟨t106, A110, H⟩ := H
            replace H : (if t104 = t106 then ((serial_Ahead.f a0 t104).bind fun t107 => (some (t107 == (decide (a1 > 0))))) else (some false)) = some r := H
            have A11 := Aside0.mk A110
            clear A110
            by_cases c12 : t104 = t106
            · rw [if_pos c12] at H
              have c12b0 : (t104 == t106) = true := beq_iff_eq.mpr c12
              have c12b1 : (t104 != t106) = false := bne_eq_false_iff_eq.mpr c12
              clear c12
              replace H := Option.bind_eq_some_iff.mp H
              obtain ⟨t107, A130, H⟩ := H
              replace H : (some (t107 == (decide (a1 > 0)))) = some r := H
              have A13 := Aside0.mk A130
              clear A130
              obtain rfl := Option.some.inj H
              go_wp2_with (first | (go_at_call 17; (with_reducible refine (beadrollref02_Add.calls a0 a1 t106 _ A11.out).mono ?_); rintro e w' ⟨rfl, ⟨nd, rfl⟩⟩) | (go_at_call 18; (with_reducible refine (serial_Ahead.calls a0 t104 t107 _ A13.out).mono ?_); rintro e w' ⟨rfl, ⟨nd, rfl⟩⟩))
              go_ret
              exact ⟨by first | rfl | (simp; done) | (simp [*]; done), by repeat (first | exact Drawn0.refl _ | apply Drawn0.step)⟩
            · rw [if_neg c12] at H
              have c12b0 : (t104 == t106) = false := beq_eq_false_iff_ne.mpr c12
              have c12b1 : (t104 != t106) = true := bne_iff_ne.mpr c12
              obtain rfl := Option.some.inj H
              go_wp2_with (first | (go_at_call 17; (with_reducible refine (beadrollref02_Add.calls a0 a1 t106 _ A11.out).mono ?_); rintro e w' ⟨rfl, ⟨nd, rfl⟩⟩))
              go_ret
              exact ⟨by first | rfl | (simp; done) | (simp [*]; done), by repeat (first | exact Drawn0.refl _ | apply Drawn0.step)⟩
          · rw [if_neg c10] at H
            have c10b0 : (t105 == 0) = false := beq_eq_false_iff_ne.mpr c10
            have c10b1 : (t105 != 0) = true := bne_iff_ne.mpr c10
            obtain rfl := Option.some.inj H
            go_wp2
            go_ret
            exact ⟨by first | rfl | (simp; done) | (simp [*]; done), by repeat (first | exact Drawn0.refl _ | apply Drawn0.step)⟩
  · replace c4 := Bool.eq_false_iff.mpr c4
    subst c4
    have H1 : (some false) = some r := by rw [if_neg (show ¬ (false = true) by decide)] at H; exact H
    clear H
    have H := H1
    clear H1
    obtain rfl := Option.some.inj H
    go_enter Try.func4, Try.ntmps4
    go_wp2_with (first | ((with_reducible refine gate_callee (f := 13) rfl ?_); refine goesL_ (some 7) rfl rfl Try.func13 (by kernel_rfl) rfl #[] rfl (by (try simp only [List.map_toArray, List.map_cons, List.map_nil]); first | done | rfl | (simp only [List.length_drop, List.length_take]; rfl)) ?_; (with_reducible refine (beadrolllaw02_awake.calls  false _ A3.out).mono ?_); rintro e w' ⟨rfl, ⟨nd, rfl⟩⟩; refine ⟨_, rfl, ?_⟩))
    go_ret
    exact ⟨by first | rfl | (simp; done) | (simp [*]; done), by repeat (first | exact Drawn0.refl _ | apply Drawn0.step)⟩

/-- THE ONE PURE STATEMENT of beadrolllaw02_SerialAdds: yours. -/
def beadrolllaw02_SerialAdds.Pure : Prop := ∀ (a0 : Int) (a1 : Int), (Lit.int .u32 a0).wf = true → (Lit.int .i64 a1).wf = true → ∃ k, beadrolllaw02_SerialAdds.f k a0 a1 = some true
theorem beadrolllaw02_SerialAdds.walk (P : beadrolllaw02_SerialAdds.Pure) (a0 : Int) (a1 : Int) (w : World) (w0 : (Lit.int .u32 a0).wf = true) (w1 : (Lit.int .i64 a1).wf = true) :
    Calls Try.prog 4 #[.int .u32 a0, .int .i64 a1] w fun e w' => e = .returned (.bool true) ∧ Below w.heap.size w w' := by
  obtain ⟨k, h⟩ := P a0 a1 w0 w1
  refine (beadrolllaw02_SerialAdds.calls k a0 a1 true w h).mono ?_
  rintro e w' ⟨rfl, hd⟩
  exact ⟨rfl, hd.below⟩

end Go.Proofs.Ytfkfmnffcnfehaa.PSerialAdds
