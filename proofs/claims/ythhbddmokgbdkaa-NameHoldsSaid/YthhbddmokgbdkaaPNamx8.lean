-- Written by this session's program gprint.py out of the translation; Lean checks it.
import Derived.Test.YthhbddmokgbdkaaPNamx0
import Derived.Test.YthhbddmokgbdkaaPNamx1
import Derived.Test.YthhbddmokgbdkaaPNamx3
import Derived.Test.YthhbddmokgbdkaaPNamx4
import Derived.Test.YthhbddmokgbdkaaPNamx5
import Derived.Test.YthhbddmokgbdkaaPNamx6
import Derived.Test.YthhbddmokgbdkaaPNamx7
namespace Go.Proofs.Ythhbddmokgbdkaa.PNam
open Go.RowKit Go.Proofs.YthhbddmokgbdkaaW.PrintWords Go.Proofs.YthhbddmokgbdkaaW.PrintLast Go.Proofs.YthhbddmokgbdkaaW.PrintMore Go.Proofs.Ythhbddmokgbdkaa.Given
attribute [local go_sem] max2_int min2_int max_two min_two max_three min_three max_four min_four   -- for this text's walks alone
set_option linter.unusedVariables false
set_option linter.unusedSimpArgs false

/-! ### beadrolllaw07_NameHolds: function 7 -/
def beadrolllaw07_NameHolds.j0 : Nat → ByteArray → ByteArray → Bool → Option (Bool)
  | 0, _, _, _ => none
  | k + 1, x0, x1, x16 => if x16 = true then ((beadrolllaw07_awake.f).bind fun t262 => (some t262)) else ((name_Alike.f x0 x1).bind fun t263 => ((beadrollref07_Alike.f k x0 x1).bind fun t264 => (if (t263 == t264) = true then ((name_Compare.f k x0 x1).bind fun t265 => ((beadrollref07_Compare.f k x0 x1).bind fun t266 => (if t265 = t266 then ((name_Under.f k x0 x1).bind fun t267 => ((beadrollref07_Under.f k x0 x1).bind fun t268 => (some (t267 == t268)))) else (some false)))) else (some false))))
def beadrolllaw07_NameHolds.f (k : Nat) (a0 : ByteArray) (a1 : ByteArray) : Option (Bool) := (beadrolllaw07_awake.f).bind fun t261 => (if t261 = true then (if (a0.size : Int) > 300 then (beadrolllaw07_NameHolds.j0 k a0 a1 true) else (beadrolllaw07_NameHolds.j0 k a0 a1 (decide ((a1.size : Int) > 300)))) else (beadrolllaw07_NameHolds.j0 k a0 a1 true))
theorem beadrolllaw07_NameHolds.mono_l : ∀ k, (∀ y0 y1 y2, LeO (beadrolllaw07_NameHolds.j0 k y0 y1 y2) (beadrolllaw07_NameHolds.j0 (k + 1) y0 y1 y2))
  | 0 => fun _ _ _ r h => by simp [beadrolllaw07_NameHolds.j0] at h
  | k + 1 => by
    have ih0 := beadrolllaw07_NameHolds.mono_l k
    · intro y0 y1 y2
      unfold beadrolllaw07_NameHolds.j0
      repeat' first
      | (with_reducible exact ih0 _ _ _)
      | (with_reducible exact beadrollref07_Alike.mono _ _ _)
      | (with_reducible exact beadrollref07_Compare.mono _ _ _)
      | (with_reducible exact beadrollref07_Under.mono _ _ _)
      | (with_reducible exact name_Compare.mono _ _ _)
      | (with_reducible exact name_Under.mono _ _ _)
      | (with_reducible exact LeO.refl _)
      | (with_reducible exact LeO.none _)
      | (with_reducible refine LeO.ite ?_ ?_)
      | (with_reducible refine LeO.bind ?_ (fun _ => ?_))
      | exact ih0 _ _ _
      | exact beadrollref07_Alike.mono _ _ _
      | exact beadrollref07_Compare.mono _ _ _
      | exact beadrollref07_Under.mono _ _ _
      | exact name_Compare.mono _ _ _
      | exact name_Under.mono _ _ _
      | exact LeO.none _
      | refine LeO.ite ?_ ?_
      | refine LeO.bind ?_ (fun _ => ?_)
theorem beadrolllaw07_NameHolds.mono : ∀ a0 a1 k, LeO (beadrolllaw07_NameHolds.f k a0 a1) (beadrolllaw07_NameHolds.f (k + 1) a0 a1) := by
  intro a0 a1 k
  have ih0 := beadrolllaw07_NameHolds.mono_l k
  unfold beadrolllaw07_NameHolds.f
  repeat' first
      | (with_reducible exact ih0 _ _ _)
      | (with_reducible exact beadrollref07_Alike.mono _ _ _)
      | (with_reducible exact beadrollref07_Compare.mono _ _ _)
      | (with_reducible exact beadrollref07_Under.mono _ _ _)
      | (with_reducible exact name_Compare.mono _ _ _)
      | (with_reducible exact name_Under.mono _ _ _)
      | (with_reducible exact LeO.refl _)
      | (with_reducible exact LeO.none _)
      | (with_reducible refine LeO.ite ?_ ?_)
      | (with_reducible refine LeO.bind ?_ (fun _ => ?_))
      | exact ih0 _ _ _
      | exact beadrollref07_Alike.mono _ _ _
      | exact beadrollref07_Compare.mono _ _ _
      | exact beadrollref07_Under.mono _ _ _
      | exact name_Compare.mono _ _ _
      | exact name_Under.mono _ _ _
      | exact LeO.none _
      | refine LeO.ite ?_ ?_
      | refine LeO.bind ?_ (fun _ => ?_)
set_option maxHeartbeats 8000000 in
set_option maxRecDepth 100000 in
theorem beadrolllaw07_NameHolds.calls (k : Nat) (a0 : ByteArray) (a1 : ByteArray) (r : Bool) (w : World) (h : beadrolllaw07_NameHolds.f k a0 a1 = some r) :
    Calls Try.prog 7 #[.string a0, .string a1] w fun e w' => e = .returned (.bool r) ∧ Below w.heap.size w w' := by
  have HB := Aside0.mk (Below.refl w.heap.size w)
  have H : ((beadrolllaw07_awake.f).bind fun t261 => (if t261 = true then (if (a0.size : Int) > 300 then (beadrolllaw07_NameHolds.j0 k a0 a1 true) else (beadrolllaw07_NameHolds.j0 k a0 a1 (decide ((a1.size : Int) > 300)))) else (beadrolllaw07_NameHolds.j0 k a0 a1 true))) = some r := h
  clear h
  have HC3 := Aside0.mk H
  clear H
  go_enter Try.func7, Try.ntmps7
  go_upto_region 1 with (fail)
  go_cut [16] (fun v16 wc => ∃ (kq : Nat) (x16_2 : Bool), v16 = .bool x16_2 ∧ Aside0 (beadrolllaw07_NameHolds.j0 kq a0 a1 x16_2 = some r) ∧ Aside0 (kq ≤ k) ∧ Aside0 (Below w.heap.size w wc))
  case first =>
    have H := HC3.out
    clear HC3
    replace H := Option.bind_eq_some_iff.mp H
    obtain ⟨t261, A40, H⟩ := H
    replace H : (if t261 = true then (if (a0.size : Int) > 300 then (beadrolllaw07_NameHolds.j0 k a0 a1 true) else (beadrolllaw07_NameHolds.j0 k a0 a1 (decide ((a1.size : Int) > 300)))) else (beadrolllaw07_NameHolds.j0 k a0 a1 true)) = some r := H
    have A4 := Aside0.mk A40
    clear A40
    by_cases c5 : t261 = true
    · subst c5
      have H1 : (if (a0.size : Int) > 300 then (beadrolllaw07_NameHolds.j0 k a0 a1 true) else (beadrolllaw07_NameHolds.j0 k a0 a1 (decide ((a1.size : Int) > 300)))) = some r := by rw [if_pos rfl] at H; exact H
      clear H
      have H := H1
      clear H1
      by_cases c6 : (a0.size : Int) > 300
      · rw [if_pos c6] at H
        have c6b0 : decide (300 < (a0.size : Int)) = true := decide_eq_true c6
        have c6b1 : decide (300 < a0.size) = true := decide_eq_true (by omega)
        clear c6
        (first | rw [c6b0] | (simp only [i64_w, i32_w]; rw [c6b0]) | skip)
        have H' := Aside0.mk H
        clear H
        go_wp2_with (first | ((with_reducible refine gate_callee (f := 19) rfl ?_); refine goesL_ (some 5) rfl rfl Try.func19 (by kernel_rfl) rfl #[] rfl (by (try simp only [List.map_toArray, List.map_cons, List.map_nil]); first | done | rfl | (simp only [List.length_drop, List.length_take]; rfl)) ?_; (with_reducible refine (beadrolllaw07_awake.calls  true _ A4.out).mono ?_); rintro e w7 ⟨rfl, hb⟩; refine ⟨_, rfl, ?_⟩; have n0_ := Aside0.mk (below_step (by repeat (first | (with_reducible first | exact HB.out | apply below_alloc | apply pw_below_drewN | apply below_drew1) | exact HB.out)) hb); clear HB; have HB := n0_; clear n0_; (try clear hb); (try clear hb2); (try clear hk); (try clear hi)))
        go_meet
        case rel => exact ⟨_, (true), (by first | rfl | (simp; done) | (simp [*]; done)), H', ⟨by first | omega | exact Nat.le_refl _⟩, ⟨by repeat (first | (with_reducible first | exact HB.out | apply below_alloc | apply pw_below_drewN | apply below_drew1) | exact HB.out)⟩⟩
      · rw [if_neg c6] at H
        have c6b0 : decide (300 < (a0.size : Int)) = false := decide_eq_false c6
        have c6b1 : decide (300 < a0.size) = false := decide_eq_false (by omega)
        clear c6
        (first | rw [c6b0] | (simp only [i64_w, i32_w]; rw [c6b0]) | skip)
        have H' := Aside0.mk H
        clear H
        go_wp2_with (first | ((with_reducible refine gate_callee (f := 19) rfl ?_); refine goesL_ (some 5) rfl rfl Try.func19 (by kernel_rfl) rfl #[] rfl (by (try simp only [List.map_toArray, List.map_cons, List.map_nil]); first | done | rfl | (simp only [List.length_drop, List.length_take]; rfl)) ?_; (with_reducible refine (beadrolllaw07_awake.calls  true _ A4.out).mono ?_); rintro e w8 ⟨rfl, hb⟩; refine ⟨_, rfl, ?_⟩; have n0_ := Aside0.mk (below_step (by repeat (first | (with_reducible first | exact HB.out | apply below_alloc | apply pw_below_drewN | apply below_drew1) | exact HB.out)) hb); clear HB; have HB := n0_; clear n0_; (try clear hb); (try clear hb2); (try clear hk); (try clear hi)))
        go_meet
        case rel => exact ⟨_, (decide ((a1.size : Int) > 300)), (by first | rfl | (simp; done) | (simp [*]; done)), H', ⟨by first | omega | exact Nat.le_refl _⟩, ⟨by repeat (first | (with_reducible first | exact HB.out | apply below_alloc | apply pw_below_drewN | apply below_drew1) | exact HB.out)⟩⟩
    · replace c5 := Bool.eq_false_iff.mpr c5
      subst c5
      have H1 : (beadrolllaw07_NameHolds.j0 k a0 a1 true) = some r := by rw [if_neg (show ¬ (false = true) by decide)] at H; exact H
      clear H
      have H := H1
      clear H1
      have H' := Aside0.mk H
      clear H
      go_wp2_with (first | ((with_reducible refine gate_callee (f := 19) rfl ?_); refine goesL_ (some 5) rfl rfl Try.func19 (by kernel_rfl) rfl #[] rfl (by (try simp only [List.map_toArray, List.map_cons, List.map_nil]); first | done | rfl | (simp only [List.length_drop, List.length_take]; rfl)) ?_; (with_reducible refine (beadrolllaw07_awake.calls  false _ A4.out).mono ?_); rintro e w9 ⟨rfl, hb⟩; refine ⟨_, rfl, ?_⟩; have n0_ := Aside0.mk (below_step (by repeat (first | (with_reducible first | exact HB.out | apply below_alloc | apply pw_below_drewN | apply below_drew1) | exact HB.out)) hb); clear HB; have HB := n0_; clear n0_; (try clear hb); (try clear hb2); (try clear hk); (try clear hi)))
      go_meet
      case rel => exact ⟨_, (true), (by first | rfl | (simp; done) | (simp [*]; done)), H', ⟨by first | omega | exact Nat.le_refl _⟩, ⟨by repeat (first | (with_reducible first | exact HB.out | apply below_alloc | apply pw_below_drewN | apply below_drew1) | exact HB.out)⟩⟩
  case rest =>
    clear HC3
    try clear c1
    try clear p2
    try clear c5
    try clear c6
    try clear c6b0
    try clear c6b1
    try clear c7
    obtain ⟨kq, x16_2, rfl, HA, HJ2, HB⟩ := hcut
    cases kq with
    | zero => exact absurd HA.out (by simp [beadrolllaw07_NameHolds.j0])
    | succ kj2 =>
      have H := HA.out
      clear HA
      simp only [beadrolllaw07_NameHolds.j0] at H
      by_cases c10 : x16_2 = true
      · subst c10
        have H1 : ((beadrolllaw07_awake.f).bind fun t262 => (some t262)) = some r := by rw [if_pos rfl] at H; exact H
        clear H
        have H := H1
        clear H1
        replace H := Option.bind_eq_some_iff.mp H
        obtain ⟨t262, A110, H⟩ := H
        replace H : (some t262) = some r := H
        have A11 := Aside0.mk A110
        clear A110
        obtain rfl := Option.some.inj H
        go_wp2_with (first | ((with_reducible refine gate_callee (f := 19) rfl ?_); refine goesL_ (some 17) rfl rfl Try.func19 (by kernel_rfl) rfl #[] rfl (by (try simp only [List.map_toArray, List.map_cons, List.map_nil]); first | done | rfl | (simp only [List.length_drop, List.length_take]; rfl)) ?_; (with_reducible refine (beadrolllaw07_awake.calls  t262 _ A11.out).mono ?_); rintro e w12 ⟨rfl, hb⟩; refine ⟨_, rfl, ?_⟩; have n0_ := Aside0.mk (below_step (by repeat (first | (with_reducible first | exact HB.out | apply below_alloc | apply pw_below_drewN | apply below_drew1) | exact HB.out)) hb); clear HB; have HB := n0_; clear n0_; (try clear hb); (try clear hb2); (try clear hk); (try clear hi)))
        go_ret
        exact ⟨by first | rfl | (simp [errW_none, errW_some] <;> rfl) | (simp [*, errW_none, errW_some] <;> rfl), by repeat (first | (with_reducible first | exact HB.out | apply below_alloc | apply pw_below_drewN | apply below_drew1) | exact HB.out)⟩
      · replace c10 := Bool.eq_false_iff.mpr c10
        subst c10
        have H1 : ((name_Alike.f a0 a1).bind fun t263 => ((beadrollref07_Alike.f kj2 a0 a1).bind fun t264 => (if (t263 == t264) = true then ((name_Compare.f kj2 a0 a1).bind fun t265 => ((beadrollref07_Compare.f kj2 a0 a1).bind fun t266 => (if t265 = t266 then ((name_Under.f kj2 a0 a1).bind fun t267 => ((beadrollref07_Under.f kj2 a0 a1).bind fun t268 => (some (t267 == t268)))) else (some false)))) else (some false)))) = some r := by rw [if_neg (show ¬ (false = true) by decide)] at H; exact H
        clear H
        have H := H1
        clear H1
        replace H := Option.bind_eq_some_iff.mp H
        obtain ⟨t263, A130, H⟩ := H
        replace H : ((beadrollref07_Alike.f kj2 a0 a1).bind fun t264 => (if (t263 == t264) = true then ((name_Compare.f kj2 a0 a1).bind fun t265 => ((beadrollref07_Compare.f kj2 a0 a1).bind fun t266 => (if t265 = t266 then ((name_Under.f kj2 a0 a1).bind fun t267 => ((beadrollref07_Under.f kj2 a0 a1).bind fun t268 => (some (t267 == t268)))) else (some false)))) else (some false))) = some r := H
        have A13 := Aside0.mk A130
        clear A130
        replace H := Option.bind_eq_some_iff.mp H
        obtain ⟨t264, A140, H⟩ := H
        replace H : (if (t263 == t264) = true then ((name_Compare.f kj2 a0 a1).bind fun t265 => ((beadrollref07_Compare.f kj2 a0 a1).bind fun t266 => (if t265 = t266 then ((name_Under.f kj2 a0 a1).bind fun t267 => ((beadrollref07_Under.f kj2 a0 a1).bind fun t268 => (some (t267 == t268)))) else (some false)))) else (some false)) = some r := H
        have A14 := Aside0.mk A140
        clear A140
        by_cases c15 : (t263 == t264) = true
        · rw [if_pos c15] at H
          have c15b0 : (t263 == t264) = true := c15
          (try (have c15b1 : decide (t263 = t264) = true := by simpa using c15))
          (try (have c15b2 : (t263 == t264) = true := by simpa using c15))
          clear c15
          replace H := Option.bind_eq_some_iff.mp H
          obtain ⟨t265, A160, H⟩ := H
          replace H : ((beadrollref07_Compare.f kj2 a0 a1).bind fun t266 => (if t265 = t266 then ((name_Under.f kj2 a0 a1).bind fun t267 => ((beadrollref07_Under.f kj2 a0 a1).bind fun t268 => (some (t267 == t268)))) else (some false))) = some r := H
          have A16 := Aside0.mk A160
          clear A160
          replace H := Option.bind_eq_some_iff.mp H
          obtain ⟨t266, A170, H⟩ := H
          replace H : (if t265 = t266 then ((name_Under.f kj2 a0 a1).bind fun t267 => ((beadrollref07_Under.f kj2 a0 a1).bind fun t268 => (some (t267 == t268)))) else (some false)) = some r := H
          have A17 := Aside0.mk A170
          clear A170
          by_cases c18 : t265 = t266
          · rw [if_pos c18] at H
            have c18b0 : (t265 == t266) = true := beq_iff_eq.mpr c18
            have c18b1 : (t265 != t266) = false := bne_eq_false_iff_eq.mpr c18
            clear c18
            replace H := Option.bind_eq_some_iff.mp H
            obtain ⟨t267, A190, H⟩ := H
            replace H : ((beadrollref07_Under.f kj2 a0 a1).bind fun t268 => (some (t267 == t268))) = some r := H
            have A19 := Aside0.mk A190
            clear A190
            replace H := Option.bind_eq_some_iff.mp H
            obtain ⟨t268, A200, H⟩ := H
            replace H : (some (t267 == t268)) = some r := H
            have A20 := Aside0.mk A200
            clear A200
            obtain rfl := Option.some.inj H
            go_wp2_with (first | ((with_reducible refine gate_callee (f := 26) rfl ?_); refine goesL_ (some 20) rfl rfl Try.func26 (by kernel_rfl) rfl #[.string a0, .string a1] rfl (by (try simp only [List.map_toArray, List.map_cons, List.map_nil]); first | done | rfl | (simp only [List.length_drop, List.length_take]; rfl)) ?_; (with_reducible refine (name_Alike.calls a0 a1 t263 _ A13.out).mono ?_); rintro e w21 ⟨rfl, hb⟩; refine ⟨_, rfl, ?_⟩; have n0_ := Aside0.mk (below_step (by repeat (first | (with_reducible first | exact HB.out | apply below_alloc | apply pw_below_drewN | apply below_drew1) | exact HB.out)) hb); clear HB; have HB := n0_; clear n0_; (try clear hb); (try clear hb2); (try clear hk); (try clear hi)) | ((with_reducible refine gate_callee (f := 28) rfl ?_); refine goesL_ (some 23) rfl rfl Try.func28 (by kernel_rfl) rfl #[.string a0, .string a1] rfl (by (try simp only [List.map_toArray, List.map_cons, List.map_nil]); first | done | rfl | (simp only [List.length_drop, List.length_take]; rfl)) ?_; (with_reducible refine (beadrollref07_Alike.calls kj2 a0 a1 t264 _ A14.out).mono ?_); rintro e w22 ⟨rfl, hb⟩; refine ⟨_, rfl, ?_⟩; have n0_ := Aside0.mk (below_step (by repeat (first | (with_reducible first | exact HB.out | apply below_alloc | apply pw_below_drewN | apply below_drew1) | exact HB.out)) hb); clear HB; have HB := n0_; clear n0_; (try clear hb); (try clear hb2); (try clear hk); (try clear hi)) | (go_at_call 29; (with_reducible refine (name_Compare.calls kj2 a0 a1 t265 _ A16.out).mono ?_); rintro e w23 ⟨rfl, hb⟩; have n0_ := Aside0.mk (below_step (by repeat (first | (with_reducible first | exact HB.out | apply below_alloc | apply pw_below_drewN | apply below_drew1) | exact HB.out)) hb); clear HB; have HB := n0_; clear n0_; (try clear hb); (try clear hb2); (try clear hk); (try clear hi)) | (go_at_call 30; (with_reducible refine (beadrollref07_Compare.calls kj2 a0 a1 t266 _ A17.out).mono ?_); rintro e w24 ⟨rfl, hb⟩; have n0_ := Aside0.mk (below_step (by repeat (first | (with_reducible first | exact HB.out | apply below_alloc | apply pw_below_drewN | apply below_drew1) | exact HB.out)) hb); clear HB; have HB := n0_; clear n0_; (try clear hb); (try clear hb2); (try clear hk); (try clear hi)) | (go_at_call 27; (with_reducible refine (name_Under.calls kj2 a0 a1 t267 _ A19.out).mono ?_); rintro e w25 ⟨rfl, hb⟩; have n0_ := Aside0.mk (below_step (by repeat (first | (with_reducible first | exact HB.out | apply below_alloc | apply pw_below_drewN | apply below_drew1) | exact HB.out)) hb); clear HB; have HB := n0_; clear n0_; (try clear hb); (try clear hb2); (try clear hk); (try clear hi)) | (go_at_call 31; (with_reducible refine (beadrollref07_Under.calls kj2 a0 a1 t268 _ A20.out).mono ?_); rintro e w26 ⟨rfl, hb⟩; have n0_ := Aside0.mk (below_step (by repeat (first | (with_reducible first | exact HB.out | apply below_alloc | apply pw_below_drewN | apply below_drew1) | exact HB.out)) hb); clear HB; have HB := n0_; clear n0_; (try clear hb); (try clear hb2); (try clear hk); (try clear hi)))
            go_ret
            exact ⟨by first | rfl | (simp [errW_none, errW_some] <;> rfl) | (simp [*, errW_none, errW_some] <;> rfl), by repeat (first | (with_reducible first | exact HB.out | apply below_alloc | apply pw_below_drewN | apply below_drew1) | exact HB.out)⟩
          · rw [if_neg c18] at H
            have c18b0 : (t265 == t266) = false := beq_eq_false_iff_ne.mpr c18
            have c18b1 : (t265 != t266) = true := bne_iff_ne.mpr c18
            obtain rfl := Option.some.inj H
            go_wp2_with (first | ((with_reducible refine gate_callee (f := 26) rfl ?_); refine goesL_ (some 20) rfl rfl Try.func26 (by kernel_rfl) rfl #[.string a0, .string a1] rfl (by (try simp only [List.map_toArray, List.map_cons, List.map_nil]); first | done | rfl | (simp only [List.length_drop, List.length_take]; rfl)) ?_; (with_reducible refine (name_Alike.calls a0 a1 t263 _ A13.out).mono ?_); rintro e w27 ⟨rfl, hb⟩; refine ⟨_, rfl, ?_⟩; have n0_ := Aside0.mk (below_step (by repeat (first | (with_reducible first | exact HB.out | apply below_alloc | apply pw_below_drewN | apply below_drew1) | exact HB.out)) hb); clear HB; have HB := n0_; clear n0_; (try clear hb); (try clear hb2); (try clear hk); (try clear hi)) | ((with_reducible refine gate_callee (f := 28) rfl ?_); refine goesL_ (some 23) rfl rfl Try.func28 (by kernel_rfl) rfl #[.string a0, .string a1] rfl (by (try simp only [List.map_toArray, List.map_cons, List.map_nil]); first | done | rfl | (simp only [List.length_drop, List.length_take]; rfl)) ?_; (with_reducible refine (beadrollref07_Alike.calls kj2 a0 a1 t264 _ A14.out).mono ?_); rintro e w28 ⟨rfl, hb⟩; refine ⟨_, rfl, ?_⟩; have n0_ := Aside0.mk (below_step (by repeat (first | (with_reducible first | exact HB.out | apply below_alloc | apply pw_below_drewN | apply below_drew1) | exact HB.out)) hb); clear HB; have HB := n0_; clear n0_; (try clear hb); (try clear hb2); (try clear hk); (try clear hi)) | (go_at_call 29; (with_reducible refine (name_Compare.calls kj2 a0 a1 t265 _ A16.out).mono ?_); rintro e w29 ⟨rfl, hb⟩; have n0_ := Aside0.mk (below_step (by repeat (first | (with_reducible first | exact HB.out | apply below_alloc | apply pw_below_drewN | apply below_drew1) | exact HB.out)) hb); clear HB; have HB := n0_; clear n0_; (try clear hb); (try clear hb2); (try clear hk); (try clear hi)) | (go_at_call 30; (with_reducible refine (beadrollref07_Compare.calls kj2 a0 a1 t266 _ A17.out).mono ?_); rintro e w30 ⟨rfl, hb⟩; have n0_ := Aside0.mk (below_step (by repeat (first | (with_reducible first | exact HB.out | apply below_alloc | apply pw_below_drewN | apply below_drew1) | exact HB.out)) hb); clear HB; have HB := n0_; clear n0_; (try clear hb); (try clear hb2); (try clear hk); (try clear hi)))
            go_ret
            exact ⟨by first | rfl | (simp [errW_none, errW_some] <;> rfl) | (simp [*, errW_none, errW_some] <;> rfl), by repeat (first | (with_reducible first | exact HB.out | apply below_alloc | apply pw_below_drewN | apply below_drew1) | exact HB.out)⟩
        · rw [if_neg c15] at H
          have c15b0 : (t263 == t264) = false := by simpa using c15
          (try (have c15b1 : decide (t263 = t264) = false := by simpa using c15))
          (try (have c15b2 : (t263 == t264) = false := by simpa using c15))
          (try (have c15b3 : ¬ (t263 = t264) := by simpa using c15))
          clear c15
          obtain rfl := Option.some.inj H
          go_wp2_with (first | ((with_reducible refine gate_callee (f := 26) rfl ?_); refine goesL_ (some 20) rfl rfl Try.func26 (by kernel_rfl) rfl #[.string a0, .string a1] rfl (by (try simp only [List.map_toArray, List.map_cons, List.map_nil]); first | done | rfl | (simp only [List.length_drop, List.length_take]; rfl)) ?_; (with_reducible refine (name_Alike.calls a0 a1 t263 _ A13.out).mono ?_); rintro e w31 ⟨rfl, hb⟩; refine ⟨_, rfl, ?_⟩; have n0_ := Aside0.mk (below_step (by repeat (first | (with_reducible first | exact HB.out | apply below_alloc | apply pw_below_drewN | apply below_drew1) | exact HB.out)) hb); clear HB; have HB := n0_; clear n0_; (try clear hb); (try clear hb2); (try clear hk); (try clear hi)) | ((with_reducible refine gate_callee (f := 28) rfl ?_); refine goesL_ (some 23) rfl rfl Try.func28 (by kernel_rfl) rfl #[.string a0, .string a1] rfl (by (try simp only [List.map_toArray, List.map_cons, List.map_nil]); first | done | rfl | (simp only [List.length_drop, List.length_take]; rfl)) ?_; (with_reducible refine (beadrollref07_Alike.calls kj2 a0 a1 t264 _ A14.out).mono ?_); rintro e w32 ⟨rfl, hb⟩; refine ⟨_, rfl, ?_⟩; have n0_ := Aside0.mk (below_step (by repeat (first | (with_reducible first | exact HB.out | apply below_alloc | apply pw_below_drewN | apply below_drew1) | exact HB.out)) hb); clear HB; have HB := n0_; clear n0_; (try clear hb); (try clear hb2); (try clear hk); (try clear hi)))
          go_ret
          exact ⟨by first | rfl | (simp [errW_none, errW_some] <;> rfl) | (simp [*, errW_none, errW_some] <;> rfl), by repeat (first | (with_reducible first | exact HB.out | apply below_alloc | apply pw_below_drewN | apply below_drew1) | exact HB.out)⟩

/-- THE ONE PURE STATEMENT of beadrolllaw07_NameHolds: yours. -/
def beadrolllaw07_NameHolds.Pure : Prop := ∀ (a0 : ByteArray) (a1 : ByteArray), a0.size ≤ 140737488351232 → a1.size ≤ 140737488351232 → ∃ k, beadrolllaw07_NameHolds.f k a0 a1 = some true
theorem beadrolllaw07_NameHolds.walk (P : beadrolllaw07_NameHolds.Pure) (a0 : ByteArray) (a1 : ByteArray) (w : World) (w0 : a0.size ≤ 140737488351232) (w1 : a1.size ≤ 140737488351232) :
    Calls Try.prog 7 #[.string a0, .string a1] w fun e w' => e = .returned (.bool true) ∧ Below w.heap.size w w' := by
  obtain ⟨k, h⟩ := P a0 a1 w0 w1
  refine (beadrolllaw07_NameHolds.calls k a0 a1 true w h).mono ?_
  rintro e w' ⟨rfl, hd⟩
  exact ⟨rfl, hd⟩

/-! ### beadrolllaw07_NameOrders: function 8 -/
mutual
def beadrolllaw07_NameOrders.j0 : Nat → ByteArray → ByteArray → ByteArray → Bool → Option (Bool)
  | 0, _, _, _, _ => none
  | k + 1, x0, x1, x2, x28 => if x28 = true then ((beadrolllaw07_awake.f).bind fun t273 => (some t273)) else ((name_Compare.f k x0 x1).bind fun t274 => ((name_Compare.f k x1 x2).bind fun t275 => ((name_Compare.f k x0 x2).bind fun t276 => ((name_Compare.f k x1 x0).bind fun t277 => (if t274 = (wrap64 (-t277)) then ((name_Alike.f x0 x1).bind fun t278 => (beadrolllaw07_NameOrders.j1 k x0 t274 t275 t276 ((t274 == 0) != t278))) else (beadrolllaw07_NameOrders.j1 k x0 t274 t275 t276 true))))))
def beadrolllaw07_NameOrders.j1 : Nat → ByteArray → Int → Int → Int → Bool → Option (Bool)
  | 0, _, _, _, _, _ => none
  | k + 1, x0, x7, x8, x9, x52 => if x52 = true then (some false) else (if x7 ≤ 0 then (if x8 ≤ 0 then (if x9 > 0 then (beadrolllaw07_NameOrders.j2 k x0 true) else (if x9 = 0 then (if x7 = 0 then (beadrolllaw07_NameOrders.j2 k x0 (x8 != 0)) else (beadrolllaw07_NameOrders.j2 k x0 true)) else (beadrolllaw07_NameOrders.j2 k x0 false))) else (beadrolllaw07_NameOrders.j2 k x0 false)) else (beadrolllaw07_NameOrders.j2 k x0 false))
def beadrolllaw07_NameOrders.j2 : Nat → ByteArray → Bool → Option (Bool)
  | 0, _, _ => none
  | k + 1, x0, x74 => if x74 = true then (some false) else ((name_Parent.f x0).bind fun bt279 => (if bt279.2 = true then ((name_Compare.f k bt279.1 x0).bind fun t281 => (if t281 < 0 then ((name_Under.f k x0 bt279.1).bind fun t282 => (if t282 = true then ((name_Under.f k bt279.1 x0).bind fun t283 => (some (!t283))) else (some false))) else (some false))) else (some true)))
end
def beadrolllaw07_NameOrders.f (k : Nat) (a0 : ByteArray) (a1 : ByteArray) (a2 : ByteArray) : Option (Bool) := (beadrolllaw07_awake.f).bind fun t269 => (if t269 = true then ((beadrollref07_Right.f k a0).bind fun t270 => (if t270 = true then ((beadrollref07_Right.f k a1).bind fun t271 => (if t271 = true then ((beadrollref07_Right.f k a2).bind fun t272 => (beadrolllaw07_NameOrders.j0 k a0 a1 a2 (!t272))) else (beadrolllaw07_NameOrders.j0 k a0 a1 a2 true))) else (beadrolllaw07_NameOrders.j0 k a0 a1 a2 true))) else (beadrolllaw07_NameOrders.j0 k a0 a1 a2 true))
theorem beadrolllaw07_NameOrders.mono_l : ∀ k, (∀ y0 y1 y2 y3, LeO (beadrolllaw07_NameOrders.j0 k y0 y1 y2 y3) (beadrolllaw07_NameOrders.j0 (k + 1) y0 y1 y2 y3)) ∧ (∀ y0 y1 y2 y3 y4, LeO (beadrolllaw07_NameOrders.j1 k y0 y1 y2 y3 y4) (beadrolllaw07_NameOrders.j1 (k + 1) y0 y1 y2 y3 y4)) ∧ (∀ y0 y1, LeO (beadrolllaw07_NameOrders.j2 k y0 y1) (beadrolllaw07_NameOrders.j2 (k + 1) y0 y1))
  | 0 => ⟨fun _ _ _ _ r h => by simp [beadrolllaw07_NameOrders.j0] at h, fun _ _ _ _ _ r h => by simp [beadrolllaw07_NameOrders.j1] at h, fun _ _ r h => by simp [beadrolllaw07_NameOrders.j2] at h⟩
  | k + 1 => by
    obtain ⟨ih0, ih1, ih2⟩ := beadrolllaw07_NameOrders.mono_l k
    refine ⟨?_, ?_, ?_⟩
    · intro y0 y1 y2 y3
      unfold beadrolllaw07_NameOrders.j0
      repeat' first
      | (with_reducible exact ih0 _ _ _ _)
      | (with_reducible exact ih1 _ _ _ _ _)
      | (with_reducible exact ih2 _ _)
      | (with_reducible exact beadrollref07_Right.mono _ _)
      | (with_reducible exact name_Compare.mono _ _ _)
      | (with_reducible exact name_Under.mono _ _ _)
      | (with_reducible exact LeO.refl _)
      | (with_reducible exact LeO.none _)
      | (with_reducible refine LeO.ite ?_ ?_)
      | (with_reducible refine LeO.bind ?_ (fun _ => ?_))
      | exact ih0 _ _ _ _
      | exact ih1 _ _ _ _ _
      | exact ih2 _ _
      | exact beadrollref07_Right.mono _ _
      | exact name_Compare.mono _ _ _
      | exact name_Under.mono _ _ _
      | exact LeO.none _
      | refine LeO.ite ?_ ?_
      | refine LeO.bind ?_ (fun _ => ?_)
    · intro y0 y1 y2 y3 y4
      unfold beadrolllaw07_NameOrders.j1
      repeat' first
      | (with_reducible exact ih0 _ _ _ _)
      | (with_reducible exact ih1 _ _ _ _ _)
      | (with_reducible exact ih2 _ _)
      | (with_reducible exact beadrollref07_Right.mono _ _)
      | (with_reducible exact name_Compare.mono _ _ _)
      | (with_reducible exact name_Under.mono _ _ _)
      | (with_reducible exact LeO.refl _)
      | (with_reducible exact LeO.none _)
      | (with_reducible refine LeO.ite ?_ ?_)
      | (with_reducible refine LeO.bind ?_ (fun _ => ?_))
      | exact ih0 _ _ _ _
      | exact ih1 _ _ _ _ _
      | exact ih2 _ _
      | exact beadrollref07_Right.mono _ _
      | exact name_Compare.mono _ _ _
      | exact name_Under.mono _ _ _
      | exact LeO.none _
      | refine LeO.ite ?_ ?_
      | refine LeO.bind ?_ (fun _ => ?_)
    · intro y0 y1
      unfold beadrolllaw07_NameOrders.j2
      repeat' first
      | (with_reducible exact ih0 _ _ _ _)
      | (with_reducible exact ih1 _ _ _ _ _)
      | (with_reducible exact ih2 _ _)
      | (with_reducible exact beadrollref07_Right.mono _ _)
      | (with_reducible exact name_Compare.mono _ _ _)
      | (with_reducible exact name_Under.mono _ _ _)
      | (with_reducible exact LeO.refl _)
      | (with_reducible exact LeO.none _)
      | (with_reducible refine LeO.ite ?_ ?_)
      | (with_reducible refine LeO.bind ?_ (fun _ => ?_))
      | exact ih0 _ _ _ _
      | exact ih1 _ _ _ _ _
      | exact ih2 _ _
      | exact beadrollref07_Right.mono _ _
      | exact name_Compare.mono _ _ _
      | exact name_Under.mono _ _ _
      | exact LeO.none _
      | refine LeO.ite ?_ ?_
      | refine LeO.bind ?_ (fun _ => ?_)
theorem beadrolllaw07_NameOrders.mono : ∀ a0 a1 a2 k, LeO (beadrolllaw07_NameOrders.f k a0 a1 a2) (beadrolllaw07_NameOrders.f (k + 1) a0 a1 a2) := by
  intro a0 a1 a2 k
  obtain ⟨ih0, ih1, ih2⟩ := beadrolllaw07_NameOrders.mono_l k
  unfold beadrolllaw07_NameOrders.f
  repeat' first
      | (with_reducible exact ih0 _ _ _ _)
      | (with_reducible exact ih1 _ _ _ _ _)
      | (with_reducible exact ih2 _ _)
      | (with_reducible exact beadrollref07_Right.mono _ _)
      | (with_reducible exact name_Compare.mono _ _ _)
      | (with_reducible exact name_Under.mono _ _ _)
      | (with_reducible exact LeO.refl _)
      | (with_reducible exact LeO.none _)
      | (with_reducible refine LeO.ite ?_ ?_)
      | (with_reducible refine LeO.bind ?_ (fun _ => ?_))
      | exact ih0 _ _ _ _
      | exact ih1 _ _ _ _ _
      | exact ih2 _ _
      | exact beadrollref07_Right.mono _ _
      | exact name_Compare.mono _ _ _
      | exact name_Under.mono _ _ _
      | exact LeO.none _
      | refine LeO.ite ?_ ?_
      | refine LeO.bind ?_ (fun _ => ?_)
set_option maxHeartbeats 8000000 in
set_option maxRecDepth 100000 in
theorem beadrolllaw07_NameOrders.calls (k : Nat) (a0 : ByteArray) (a1 : ByteArray) (a2 : ByteArray) (r : Bool) (w : World) (h : beadrolllaw07_NameOrders.f k a0 a1 a2 = some r) :
    Calls Try.prog 8 #[.string a0, .string a1, .string a2] w fun e w' => e = .returned (.bool r) ∧ Below w.heap.size w w' := by
  have HB := Aside0.mk (Below.refl w.heap.size w)
  have H : ((beadrolllaw07_awake.f).bind fun t269 => (if t269 = true then ((beadrollref07_Right.f k a0).bind fun t270 => (if t270 = true then ((beadrollref07_Right.f k a1).bind fun t271 => (if t271 = true then ((beadrollref07_Right.f k a2).bind fun t272 => (beadrolllaw07_NameOrders.j0 k a0 a1 a2 (!t272))) else (beadrolllaw07_NameOrders.j0 k a0 a1 a2 true))) else (beadrolllaw07_NameOrders.j0 k a0 a1 a2 true))) else (beadrolllaw07_NameOrders.j0 k a0 a1 a2 true))) = some r := h
  clear h
  have HC4 := Aside0.mk H
  clear H
  go_enter Try.func8, Try.ntmps8
  go_upto_region 1 with (fail)
  go_cut [28] (fun v28 wc => ∃ (kq : Nat) (x28_3 : Bool), v28 = .bool x28_3 ∧ Aside0 (beadrolllaw07_NameOrders.j0 kq a0 a1 a2 x28_3 = some r) ∧ Aside0 (kq ≤ k) ∧ Aside0 (Below w.heap.size w wc))
  case first =>
    have H := HC4.out
    clear HC4
    replace H := Option.bind_eq_some_iff.mp H
    obtain ⟨t269, A50, H⟩ := H
    replace H : (if t269 = true then ((beadrollref07_Right.f k a0).bind fun t270 => (if t270 = true then ((beadrollref07_Right.f k a1).bind fun t271 => (if t271 = true then ((beadrollref07_Right.f k a2).bind fun t272 => (beadrolllaw07_NameOrders.j0 k a0 a1 a2 (!t272))) else (beadrolllaw07_NameOrders.j0 k a0 a1 a2 true))) else (beadrolllaw07_NameOrders.j0 k a0 a1 a2 true))) else (beadrolllaw07_NameOrders.j0 k a0 a1 a2 true)) = some r := H
    have A5 := Aside0.mk A50
    clear A50
    by_cases c6 : t269 = true
    · subst c6
      have H1 : ((beadrollref07_Right.f k a0).bind fun t270 => (if t270 = true then ((beadrollref07_Right.f k a1).bind fun t271 => (if t271 = true then ((beadrollref07_Right.f k a2).bind fun t272 => (beadrolllaw07_NameOrders.j0 k a0 a1 a2 (!t272))) else (beadrolllaw07_NameOrders.j0 k a0 a1 a2 true))) else (beadrolllaw07_NameOrders.j0 k a0 a1 a2 true))) = some r := by rw [if_pos rfl] at H; exact H
      clear H
      have H := H1
      clear H1
      replace H := Option.bind_eq_some_iff.mp H
      obtain ⟨t270, A70, H⟩ := H
      replace H : (if t270 = true then ((beadrollref07_Right.f k a1).bind fun t271 => (if t271 = true then ((beadrollref07_Right.f k a2).bind fun t272 => (beadrolllaw07_NameOrders.j0 k a0 a1 a2 (!t272))) else (beadrolllaw07_NameOrders.j0 k a0 a1 a2 true))) else (beadrolllaw07_NameOrders.j0 k a0 a1 a2 true)) = some r := H
      have A7 := Aside0.mk A70
      clear A70
      by_cases c8 : t270 = true
      · subst c8
        have H1 : ((beadrollref07_Right.f k a1).bind fun t271 => (if t271 = true then ((beadrollref07_Right.f k a2).bind fun t272 => (beadrolllaw07_NameOrders.j0 k a0 a1 a2 (!t272))) else (beadrolllaw07_NameOrders.j0 k a0 a1 a2 true))) = some r := by rw [if_pos rfl] at H; exact H
        clear H
        have H := H1
        clear H1
        replace H := Option.bind_eq_some_iff.mp H
        obtain ⟨t271, A90, H⟩ := H
        replace H : (if t271 = true then ((beadrollref07_Right.f k a2).bind fun t272 => (beadrolllaw07_NameOrders.j0 k a0 a1 a2 (!t272))) else (beadrolllaw07_NameOrders.j0 k a0 a1 a2 true)) = some r := H
        have A9 := Aside0.mk A90
        clear A90
        by_cases c10 : t271 = true
        · subst c10
          have H1 : ((beadrollref07_Right.f k a2).bind fun t272 => (beadrolllaw07_NameOrders.j0 k a0 a1 a2 (!t272))) = some r := by rw [if_pos rfl] at H; exact H
          clear H
          have H := H1
          clear H1
          replace H := Option.bind_eq_some_iff.mp H
          obtain ⟨t272, A110, H⟩ := H
          replace H : (beadrolllaw07_NameOrders.j0 k a0 a1 a2 (!t272)) = some r := H
          have A11 := Aside0.mk A110
          clear A110
          have H' := Aside0.mk H
          clear H
          go_wp2_with (first | ((with_reducible refine gate_callee (f := 19) rfl ?_); refine goesL_ (some 12) rfl rfl Try.func19 (by kernel_rfl) rfl #[] rfl (by (try simp only [List.map_toArray, List.map_cons, List.map_nil]); first | done | rfl | (simp only [List.length_drop, List.length_take]; rfl)) ?_; (with_reducible refine (beadrolllaw07_awake.calls  true _ A5.out).mono ?_); rintro e w12 ⟨rfl, hb⟩; refine ⟨_, rfl, ?_⟩; have n0_ := Aside0.mk (below_step (by repeat (first | (with_reducible first | exact HB.out | apply below_alloc | apply pw_below_drewN | apply below_drew1) | exact HB.out)) hb); clear HB; have HB := n0_; clear n0_; (try clear hb); (try clear hb2); (try clear hk); (try clear hi)) | (go_at_call 16; (with_reducible refine (beadrollref07_Right.calls k a0 true _ A7.out).mono ?_); rintro e w13 ⟨rfl, hb⟩; have n0_ := Aside0.mk (below_step (by repeat (first | (with_reducible first | exact HB.out | apply below_alloc | apply pw_below_drewN | apply below_drew1) | exact HB.out)) hb); clear HB; have HB := n0_; clear n0_; (try clear hb); (try clear hb2); (try clear hk); (try clear hi)) | (go_at_call 16; (with_reducible refine (beadrollref07_Right.calls k a1 true _ A9.out).mono ?_); rintro e w14 ⟨rfl, hb⟩; have n0_ := Aside0.mk (below_step (by repeat (first | (with_reducible first | exact HB.out | apply below_alloc | apply pw_below_drewN | apply below_drew1) | exact HB.out)) hb); clear HB; have HB := n0_; clear n0_; (try clear hb); (try clear hb2); (try clear hk); (try clear hi)) | (go_at_call 16; (with_reducible refine (beadrollref07_Right.calls k a2 t272 _ A11.out).mono ?_); rintro e w15 ⟨rfl, hb⟩; have n0_ := Aside0.mk (below_step (by repeat (first | (with_reducible first | exact HB.out | apply below_alloc | apply pw_below_drewN | apply below_drew1) | exact HB.out)) hb); clear HB; have HB := n0_; clear n0_; (try clear hb); (try clear hb2); (try clear hk); (try clear hi)))
          go_meet
          case rel => exact ⟨_, (!t272), (by first | rfl | (simp; done) | (simp [*]; done)), H', ⟨by first | omega | exact Nat.le_refl _⟩, ⟨by repeat (first | (with_reducible first | exact HB.out | apply below_alloc | apply pw_below_drewN | apply below_drew1) | exact HB.out)⟩⟩
        · replace c10 := Bool.eq_false_iff.mpr c10
          subst c10
          have H1 : (beadrolllaw07_NameOrders.j0 k a0 a1 a2 true) = some r := by rw [if_neg (show ¬ (false = true) by decide)] at H; exact H
          clear H
          have H := H1
          clear H1
          have H' := Aside0.mk H
          clear H
          go_wp2_with (first | ((with_reducible refine gate_callee (f := 19) rfl ?_); refine goesL_ (some 12) rfl rfl Try.func19 (by kernel_rfl) rfl #[] rfl (by (try simp only [List.map_toArray, List.map_cons, List.map_nil]); first | done | rfl | (simp only [List.length_drop, List.length_take]; rfl)) ?_; (with_reducible refine (beadrolllaw07_awake.calls  true _ A5.out).mono ?_); rintro e w16 ⟨rfl, hb⟩; refine ⟨_, rfl, ?_⟩; have n0_ := Aside0.mk (below_step (by repeat (first | (with_reducible first | exact HB.out | apply below_alloc | apply pw_below_drewN | apply below_drew1) | exact HB.out)) hb); clear HB; have HB := n0_; clear n0_; (try clear hb); (try clear hb2); (try clear hk); (try clear hi)) | (go_at_call 16; (with_reducible refine (beadrollref07_Right.calls k a0 true _ A7.out).mono ?_); rintro e w17 ⟨rfl, hb⟩; have n0_ := Aside0.mk (below_step (by repeat (first | (with_reducible first | exact HB.out | apply below_alloc | apply pw_below_drewN | apply below_drew1) | exact HB.out)) hb); clear HB; have HB := n0_; clear n0_; (try clear hb); (try clear hb2); (try clear hk); (try clear hi)) | (go_at_call 16; (with_reducible refine (beadrollref07_Right.calls k a1 false _ A9.out).mono ?_); rintro e w18 ⟨rfl, hb⟩; have n0_ := Aside0.mk (below_step (by repeat (first | (with_reducible first | exact HB.out | apply below_alloc | apply pw_below_drewN | apply below_drew1) | exact HB.out)) hb); clear HB; have HB := n0_; clear n0_; (try clear hb); (try clear hb2); (try clear hk); (try clear hi)))
          go_meet
          case rel => exact ⟨_, (true), (by first | rfl | (simp; done) | (simp [*]; done)), H', ⟨by first | omega | exact Nat.le_refl _⟩, ⟨by repeat (first | (with_reducible first | exact HB.out | apply below_alloc | apply pw_below_drewN | apply below_drew1) | exact HB.out)⟩⟩
      · replace c8 := Bool.eq_false_iff.mpr c8
        subst c8
        have H1 : (beadrolllaw07_NameOrders.j0 k a0 a1 a2 true) = some r := by rw [if_neg (show ¬ (false = true) by decide)] at H; exact H
        clear H
        have H := H1
        clear H1
        have H' := Aside0.mk H
        clear H
        go_wp2_with (first | ((with_reducible refine gate_callee (f := 19) rfl ?_); refine goesL_ (some 12) rfl rfl Try.func19 (by kernel_rfl) rfl #[] rfl (by (try simp only [List.map_toArray, List.map_cons, List.map_nil]); first | done | rfl | (simp only [List.length_drop, List.length_take]; rfl)) ?_; (with_reducible refine (beadrolllaw07_awake.calls  true _ A5.out).mono ?_); rintro e w19 ⟨rfl, hb⟩; refine ⟨_, rfl, ?_⟩; have n0_ := Aside0.mk (below_step (by repeat (first | (with_reducible first | exact HB.out | apply below_alloc | apply pw_below_drewN | apply below_drew1) | exact HB.out)) hb); clear HB; have HB := n0_; clear n0_; (try clear hb); (try clear hb2); (try clear hk); (try clear hi)) | (go_at_call 16; (with_reducible refine (beadrollref07_Right.calls k a0 false _ A7.out).mono ?_); rintro e w20 ⟨rfl, hb⟩; have n0_ := Aside0.mk (below_step (by repeat (first | (with_reducible first | exact HB.out | apply below_alloc | apply pw_below_drewN | apply below_drew1) | exact HB.out)) hb); clear HB; have HB := n0_; clear n0_; (try clear hb); (try clear hb2); (try clear hk); (try clear hi)))
        go_meet
        case rel => exact ⟨_, (true), (by first | rfl | (simp; done) | (simp [*]; done)), H', ⟨by first | omega | exact Nat.le_refl _⟩, ⟨by repeat (first | (with_reducible first | exact HB.out | apply below_alloc | apply pw_below_drewN | apply below_drew1) | exact HB.out)⟩⟩
    · replace c6 := Bool.eq_false_iff.mpr c6
      subst c6
      have H1 : (beadrolllaw07_NameOrders.j0 k a0 a1 a2 true) = some r := by rw [if_neg (show ¬ (false = true) by decide)] at H; exact H
      clear H
      have H := H1
      clear H1
      have H' := Aside0.mk H
      clear H
      go_wp2_with (first | ((with_reducible refine gate_callee (f := 19) rfl ?_); refine goesL_ (some 12) rfl rfl Try.func19 (by kernel_rfl) rfl #[] rfl (by (try simp only [List.map_toArray, List.map_cons, List.map_nil]); first | done | rfl | (simp only [List.length_drop, List.length_take]; rfl)) ?_; (with_reducible refine (beadrolllaw07_awake.calls  false _ A5.out).mono ?_); rintro e w21 ⟨rfl, hb⟩; refine ⟨_, rfl, ?_⟩; have n0_ := Aside0.mk (below_step (by repeat (first | (with_reducible first | exact HB.out | apply below_alloc | apply pw_below_drewN | apply below_drew1) | exact HB.out)) hb); clear HB; have HB := n0_; clear n0_; (try clear hb); (try clear hb2); (try clear hk); (try clear hi)))
      go_meet
      case rel => exact ⟨_, (true), (by first | rfl | (simp; done) | (simp [*]; done)), H', ⟨by first | omega | exact Nat.le_refl _⟩, ⟨by repeat (first | (with_reducible first | exact HB.out | apply below_alloc | apply pw_below_drewN | apply below_drew1) | exact HB.out)⟩⟩
  case rest =>
    clear HC4
    try clear c1
    try clear p2
    try clear c6
    try clear c8
    try clear c10
    try clear c19
    obtain ⟨kq, x28_3, rfl, HA, HJ3, HB⟩ := hcut
    cases kq with
    | zero => exact absurd HA.out (by simp [beadrolllaw07_NameOrders.j0])
    | succ kj3 =>
      have H := HA.out
      clear HA
      simp only [beadrolllaw07_NameOrders.j0] at H
      by_cases c22 : x28_3 = true
      · subst c22
        have H1 : ((beadrolllaw07_awake.f).bind fun t273 => (some t273)) = some r := by rw [if_pos rfl] at H; exact H
        clear H
        have H := H1
        clear H1
        replace H := Option.bind_eq_some_iff.mp H
        obtain ⟨t273, A230, H⟩ := H
        replace H : (some t273) = some r := H
        have A23 := Aside0.mk A230
        clear A230
        obtain rfl := Option.some.inj H
        go_wp2_with (first | ((with_reducible refine gate_callee (f := 19) rfl ?_); refine goesL_ (some 29) rfl rfl Try.func19 (by kernel_rfl) rfl #[] rfl (by (try simp only [List.map_toArray, List.map_cons, List.map_nil]); first | done | rfl | (simp only [List.length_drop, List.length_take]; rfl)) ?_; (with_reducible refine (beadrolllaw07_awake.calls  t273 _ A23.out).mono ?_); rintro e w24 ⟨rfl, hb⟩; refine ⟨_, rfl, ?_⟩; have n0_ := Aside0.mk (below_step (by repeat (first | (with_reducible first | exact HB.out | apply below_alloc | apply pw_below_drewN | apply below_drew1) | exact HB.out)) hb); clear HB; have HB := n0_; clear n0_; (try clear hb); (try clear hb2); (try clear hk); (try clear hi)))
        go_ret
        exact ⟨by first | rfl | (simp [errW_none, errW_some] <;> rfl) | (simp [*, errW_none, errW_some] <;> rfl), by repeat (first | (with_reducible first | exact HB.out | apply below_alloc | apply pw_below_drewN | apply below_drew1) | exact HB.out)⟩
      · replace c22 := Bool.eq_false_iff.mpr c22
        subst c22
        have H1 : ((name_Compare.f kj3 a0 a1).bind fun t274 => ((name_Compare.f kj3 a1 a2).bind fun t275 => ((name_Compare.f kj3 a0 a2).bind fun t276 => ((name_Compare.f kj3 a1 a0).bind fun t277 => (if t274 = (wrap64 (-t277)) then ((name_Alike.f a0 a1).bind fun t278 => (beadrolllaw07_NameOrders.j1 kj3 a0 t274 t275 t276 ((t274 == 0) != t278))) else (beadrolllaw07_NameOrders.j1 kj3 a0 t274 t275 t276 true)))))) = some r := by rw [if_neg (show ¬ (false = true) by decide)] at H; exact H
        clear H
        have H := H1
        clear H1
        replace H := Option.bind_eq_some_iff.mp H
        obtain ⟨t274, A250, H⟩ := H
        replace H : ((name_Compare.f kj3 a1 a2).bind fun t275 => ((name_Compare.f kj3 a0 a2).bind fun t276 => ((name_Compare.f kj3 a1 a0).bind fun t277 => (if t274 = (wrap64 (-t277)) then ((name_Alike.f a0 a1).bind fun t278 => (beadrolllaw07_NameOrders.j1 kj3 a0 t274 t275 t276 ((t274 == 0) != t278))) else (beadrolllaw07_NameOrders.j1 kj3 a0 t274 t275 t276 true))))) = some r := H
        have A25 := Aside0.mk A250
        clear A250
        replace H := Option.bind_eq_some_iff.mp H
        obtain ⟨t275, A260, H⟩ := H
        replace H : ((name_Compare.f kj3 a0 a2).bind fun t276 => ((name_Compare.f kj3 a1 a0).bind fun t277 => (if t274 = (wrap64 (-t277)) then ((name_Alike.f a0 a1).bind fun t278 => (beadrolllaw07_NameOrders.j1 kj3 a0 t274 t275 t276 ((t274 == 0) != t278))) else (beadrolllaw07_NameOrders.j1 kj3 a0 t274 t275 t276 true)))) = some r := H
        have A26 := Aside0.mk A260
        clear A260
        replace H := Option.bind_eq_some_iff.mp H
        obtain ⟨t276, A270, H⟩ := H
        replace H : ((name_Compare.f kj3 a1 a0).bind fun t277 => (if t274 = (wrap64 (-t277)) then ((name_Alike.f a0 a1).bind fun t278 => (beadrolllaw07_NameOrders.j1 kj3 a0 t274 t275 t276 ((t274 == 0) != t278))) else (beadrolllaw07_NameOrders.j1 kj3 a0 t274 t275 t276 true))) = some r := H
        have A27 := Aside0.mk A270
        clear A270
        have HC28 := Aside0.mk H
        clear H
        go_upto_region 4 with (first | ((with_reducible refine gate_callee (f := 29) rfl ?_); refine goesL_ (some 32) rfl rfl Try.func29 (by kernel_rfl) rfl #[.string a0, .string a1] rfl (by (try simp only [List.map_toArray, List.map_cons, List.map_nil]); first | done | rfl | (simp only [List.length_drop, List.length_take]; rfl)) ?_; (with_reducible refine (name_Compare.calls kj3 a0 a1 t274 _ A25.out).mono ?_); rintro e w29 ⟨rfl, hb⟩; refine ⟨_, rfl, ?_⟩; have n0_ := Aside0.mk (below_step (by repeat (first | (with_reducible first | exact HB.out | apply below_alloc | apply pw_below_drewN | apply below_drew1) | exact HB.out)) hb); clear HB; have HB := n0_; clear n0_; (try clear hb); (try clear hb2); (try clear hk); (try clear hi)) | ((with_reducible refine gate_callee (f := 29) rfl ?_); refine goesL_ (some 35) rfl rfl Try.func29 (by kernel_rfl) rfl #[.string a1, .string a2] rfl (by (try simp only [List.map_toArray, List.map_cons, List.map_nil]); first | done | rfl | (simp only [List.length_drop, List.length_take]; rfl)) ?_; (with_reducible refine (name_Compare.calls kj3 a1 a2 t275 _ A26.out).mono ?_); rintro e w30 ⟨rfl, hb⟩; refine ⟨_, rfl, ?_⟩; have n0_ := Aside0.mk (below_step (by repeat (first | (with_reducible first | exact HB.out | apply below_alloc | apply pw_below_drewN | apply below_drew1) | exact HB.out)) hb); clear HB; have HB := n0_; clear n0_; (try clear hb); (try clear hb2); (try clear hk); (try clear hi)) | ((with_reducible refine gate_callee (f := 29) rfl ?_); refine goesL_ (some 38) rfl rfl Try.func29 (by kernel_rfl) rfl #[.string a0, .string a2] rfl (by (try simp only [List.map_toArray, List.map_cons, List.map_nil]); first | done | rfl | (simp only [List.length_drop, List.length_take]; rfl)) ?_; (with_reducible refine (name_Compare.calls kj3 a0 a2 t276 _ A27.out).mono ?_); rintro e w31 ⟨rfl, hb⟩; refine ⟨_, rfl, ?_⟩; have n0_ := Aside0.mk (below_step (by repeat (first | (with_reducible first | exact HB.out | apply below_alloc | apply pw_below_drewN | apply below_drew1) | exact HB.out)) hb); clear HB; have HB := n0_; clear n0_; (try clear hb); (try clear hb2); (try clear hk); (try clear hi)))
        (try simp only [Act.put, List.setIfInBounds_toArray, List.set_cons_zero, List.set_cons_succ])
        go_cut [52] (fun v52 wc => ∃ (kq : Nat) (x52_27 : Bool), v52 = .bool x52_27 ∧ Aside0 (beadrolllaw07_NameOrders.j1 kq a0 t274 t275 t276 x52_27 = some r) ∧ Aside0 (kq ≤ kj3) ∧ Aside0 (Below w.heap.size w wc))
        case first =>
          have H := HC28.out
          clear HC28
          replace H := Option.bind_eq_some_iff.mp H
          obtain ⟨t277, A320, H⟩ := H
          replace H : (if t274 = (wrap64 (-t277)) then ((name_Alike.f a0 a1).bind fun t278 => (beadrolllaw07_NameOrders.j1 kj3 a0 t274 t275 t276 ((t274 == 0) != t278))) else (beadrolllaw07_NameOrders.j1 kj3 a0 t274 t275 t276 true)) = some r := H
          have A32 := Aside0.mk A320
          clear A320
          by_cases c33 : t274 = (wrap64 (-t277))
          · rw [if_pos c33] at H
            have c33b0 : (t274 == (wrap64 (-t277))) = true := beq_iff_eq.mpr c33
            have c33b1 : (t274 != (wrap64 (-t277))) = false := bne_eq_false_iff_eq.mpr c33
            clear c33
            (first | rw [c33b0] | (simp only [i64_w, i32_w]; rw [c33b0]) | skip)
            replace H := Option.bind_eq_some_iff.mp H
            obtain ⟨t278, A340, H⟩ := H
            replace H : (beadrolllaw07_NameOrders.j1 kj3 a0 t274 t275 t276 ((t274 == 0) != t278)) = some r := H
            have A34 := Aside0.mk A340
            clear A340
            have H' := Aside0.mk H
            clear H
            go_wp2_with (first | ((with_reducible refine gate_callee (f := 29) rfl ?_); refine goesL_ (some 42) rfl rfl Try.func29 (by kernel_rfl) rfl #[.string a1, .string a0] rfl (by (try simp only [List.map_toArray, List.map_cons, List.map_nil]); first | done | rfl | (simp only [List.length_drop, List.length_take]; rfl)) ?_; (with_reducible refine (name_Compare.calls kj3 a1 a0 t277 _ A32.out).mono ?_); rintro e w35 ⟨rfl, hb⟩; refine ⟨_, rfl, ?_⟩; have n0_ := Aside0.mk (below_step (by repeat (first | (with_reducible first | exact HB.out | apply below_alloc | apply pw_below_drewN | apply below_drew1) | exact HB.out)) hb); clear HB; have HB := n0_; clear n0_; (try clear hb); (try clear hb2); (try clear hk); (try clear hi)) | (go_at_call 26; (with_reducible refine (name_Alike.calls a0 a1 t278 _ A34.out).mono ?_); rintro e w36 ⟨rfl, hb⟩; have n0_ := Aside0.mk (below_step (by repeat (first | (with_reducible first | exact HB.out | apply below_alloc | apply pw_below_drewN | apply below_drew1) | exact HB.out)) hb); clear HB; have HB := n0_; clear n0_; (try clear hb); (try clear hb2); (try clear hk); (try clear hi)))
            go_meet
            case rel => exact ⟨_, (((t274 == 0) != t278)), (by first | rfl | (simp; done) | (simp [*]; done)), H', ⟨by have := HJ3.out; first | omega | exact Nat.le_refl _⟩, ⟨by repeat (first | (with_reducible first | exact HB.out | apply below_alloc | apply pw_below_drewN | apply below_drew1) | exact HB.out)⟩⟩
          · rw [if_neg c33] at H
            have c33b0 : (t274 == (wrap64 (-t277))) = false := beq_eq_false_iff_ne.mpr c33
            have c33b1 : (t274 != (wrap64 (-t277))) = true := bne_iff_ne.mpr c33
            (first | rw [c33b0] | (simp only [i64_w, i32_w]; rw [c33b0]) | skip)
            have H' := Aside0.mk H
            clear H
            go_wp2_with (first | ((with_reducible refine gate_callee (f := 29) rfl ?_); refine goesL_ (some 42) rfl rfl Try.func29 (by kernel_rfl) rfl #[.string a1, .string a0] rfl (by (try simp only [List.map_toArray, List.map_cons, List.map_nil]); first | done | rfl | (simp only [List.length_drop, List.length_take]; rfl)) ?_; (with_reducible refine (name_Compare.calls kj3 a1 a0 t277 _ A32.out).mono ?_); rintro e w37 ⟨rfl, hb⟩; refine ⟨_, rfl, ?_⟩; have n0_ := Aside0.mk (below_step (by repeat (first | (with_reducible first | exact HB.out | apply below_alloc | apply pw_below_drewN | apply below_drew1) | exact HB.out)) hb); clear HB; have HB := n0_; clear n0_; (try clear hb); (try clear hb2); (try clear hk); (try clear hi)))
            go_meet
            case rel => exact ⟨_, (true), (by first | rfl | (simp; done) | (simp [*]; done)), H', ⟨by have := HJ3.out; first | omega | exact Nat.le_refl _⟩, ⟨by repeat (first | (with_reducible first | exact HB.out | apply below_alloc | apply pw_below_drewN | apply below_drew1) | exact HB.out)⟩⟩
        case rest =>
          clear HC28
          try clear c1
          try clear c2
          try clear p2
          try clear c3
          try clear c6
          try clear p6
          try clear c8
          try clear c10
          try clear c19
          try clear c22
          try clear c29
          try clear c33
          try clear c33b0
          try clear c33b1
          try clear p2
          obtain ⟨kq, x52_27, rfl, HA, HJ27, HB⟩ := hcut
          cases kq with
          | zero => exact absurd HA.out (by simp [beadrolllaw07_NameOrders.j1])
          | succ kj27 =>
            have H := HA.out
            clear HA
            simp only [beadrolllaw07_NameOrders.j1] at H
            by_cases c38 : x52_27 = true
            · subst c38
              have H1 : (some false) = some r := by rw [if_pos rfl] at H; exact H
              clear H
              have H := H1
              clear H1
              obtain rfl := Option.some.inj H
              go_wp2
              go_ret
              exact ⟨by first | rfl | (simp [errW_none, errW_some] <;> rfl) | (simp [*, errW_none, errW_some] <;> rfl), by repeat (first | (with_reducible first | exact HB.out | apply below_alloc | apply pw_below_drewN | apply below_drew1) | exact HB.out)⟩
            · replace c38 := Bool.eq_false_iff.mpr c38
              subst c38
              have H1 : (if t274 ≤ 0 then (if t275 ≤ 0 then (if t276 > 0 then (beadrolllaw07_NameOrders.j2 kj27 a0 true) else (if t276 = 0 then (if t274 = 0 then (beadrolllaw07_NameOrders.j2 kj27 a0 (t275 != 0)) else (beadrolllaw07_NameOrders.j2 kj27 a0 true)) else (beadrolllaw07_NameOrders.j2 kj27 a0 false))) else (beadrolllaw07_NameOrders.j2 kj27 a0 false)) else (beadrolllaw07_NameOrders.j2 kj27 a0 false)) = some r := by rw [if_neg (show ¬ (false = true) by decide)] at H; exact H
              clear H
              have H := H1
              clear H1
              have HC39 := Aside0.mk H
              clear H
              go_upto_region 6 with (fail)
              go_cut [74] (fun v74 wc => ∃ (kq : Nat) (x74_38 : Bool), v74 = .bool x74_38 ∧ Aside0 (beadrolllaw07_NameOrders.j2 kq a0 x74_38 = some r) ∧ Aside0 (kq ≤ kj27) ∧ Aside0 (Below w.heap.size w wc))
              case first =>
                have H := HC39.out
                clear HC39
                by_cases c40 : t274 ≤ 0
                · rw [if_pos c40] at H
                  have c40b0 : decide (t274 ≤ 0) = true := decide_eq_true c40
                  clear c40
                  (first | rw [c40b0] | (simp only [i64_w, i32_w]; rw [c40b0]) | skip)
                  by_cases c41 : t275 ≤ 0
                  · rw [if_pos c41] at H
                    have c41b0 : decide (t275 ≤ 0) = true := decide_eq_true c41
                    clear c41
                    by_cases c42 : t276 > 0
                    · rw [if_pos c42] at H
                      have c42b0 : decide (0 < t276) = true := decide_eq_true c42
                      clear c42
                      have H' := Aside0.mk H
                      clear H
                      go_wp2
                      go_meet
                      case rel => exact ⟨_, (true), (by first | rfl | (simp; done) | (simp [*]; done)), H', ⟨by have := HJ3.out; have := HJ27.out; first | omega | exact Nat.le_refl _⟩, ⟨by repeat (first | (with_reducible first | exact HB.out | apply below_alloc | apply pw_below_drewN | apply below_drew1) | exact HB.out)⟩⟩
                    · rw [if_neg c42] at H
                      have c42b0 : decide (0 < t276) = false := decide_eq_false c42
                      clear c42
                      by_cases c43 : t276 = 0
                      · rw [if_pos c43] at H
                        have c43b0 : (t276 == 0) = true := beq_iff_eq.mpr c43
                        have c43b1 : (t276 != 0) = false := bne_eq_false_iff_eq.mpr c43
                        clear c43
                        by_cases c44 : t274 = 0
                        · rw [if_pos c44] at H
                          have c44b0 : (t274 == 0) = true := beq_iff_eq.mpr c44
                          have c44b1 : (t274 != 0) = false := bne_eq_false_iff_eq.mpr c44
                          clear c44
                          have H' := Aside0.mk H
                          clear H
                          go_wp2
                          go_meet
                          case rel => exact ⟨_, ((t275 != 0)), (by first | rfl | (simp; done) | (simp [*]; done)), H', ⟨by have := HJ3.out; have := HJ27.out; first | omega | exact Nat.le_refl _⟩, ⟨by repeat (first | (with_reducible first | exact HB.out | apply below_alloc | apply pw_below_drewN | apply below_drew1) | exact HB.out)⟩⟩
                        · rw [if_neg c44] at H
                          have c44b0 : (t274 == 0) = false := beq_eq_false_iff_ne.mpr c44
                          have c44b1 : (t274 != 0) = true := bne_iff_ne.mpr c44
                          have H' := Aside0.mk H
                          clear H
                          go_wp2
                          go_meet
                          case rel => exact ⟨_, (true), (by first | rfl | (simp; done) | (simp [*]; done)), H', ⟨by have := HJ3.out; have := HJ27.out; first | omega | exact Nat.le_refl _⟩, ⟨by repeat (first | (with_reducible first | exact HB.out | apply below_alloc | apply pw_below_drewN | apply below_drew1) | exact HB.out)⟩⟩
                      · rw [if_neg c43] at H
                        have c43b0 : (t276 == 0) = false := beq_eq_false_iff_ne.mpr c43
                        have c43b1 : (t276 != 0) = true := bne_iff_ne.mpr c43
                        have H' := Aside0.mk H
                        clear H
                        go_wp2
                        go_meet
                        case rel => exact ⟨_, (false), (by first | rfl | (simp; done) | (simp [*]; done)), H', ⟨by have := HJ3.out; have := HJ27.out; first | omega | exact Nat.le_refl _⟩, ⟨by repeat (first | (with_reducible first | exact HB.out | apply below_alloc | apply pw_below_drewN | apply below_drew1) | exact HB.out)⟩⟩
                  · rw [if_neg c41] at H
                    have c41b0 : decide (t275 ≤ 0) = false := decide_eq_false c41
                    clear c41
                    have H' := Aside0.mk H
                    clear H
                    go_wp2
                    go_meet
                    case rel => exact ⟨_, (false), (by first | rfl | (simp; done) | (simp [*]; done)), H', ⟨by have := HJ3.out; have := HJ27.out; first | omega | exact Nat.le_refl _⟩, ⟨by repeat (first | (with_reducible first | exact HB.out | apply below_alloc | apply pw_below_drewN | apply below_drew1) | exact HB.out)⟩⟩
                · rw [if_neg c40] at H
                  have c40b0 : decide (t274 ≤ 0) = false := decide_eq_false c40
                  clear c40
                  (first | rw [c40b0] | (simp only [i64_w, i32_w]; rw [c40b0]) | skip)
                  have H' := Aside0.mk H
                  clear H
                  go_wp2
                  go_meet
                  case rel => exact ⟨_, (false), (by first | rfl | (simp; done) | (simp [*]; done)), H', ⟨by have := HJ3.out; have := HJ27.out; first | omega | exact Nat.le_refl _⟩, ⟨by repeat (first | (with_reducible first | exact HB.out | apply below_alloc | apply pw_below_drewN | apply below_drew1) | exact HB.out)⟩⟩
              case rest =>
                clear HC39
                try clear c1
                try clear c2
                try clear p2
                try clear c3
                try clear c4
                try clear c6
                try clear p6
                try clear c8
                try clear c10
                try clear c19
                try clear c22
                try clear c29
                try clear c33
                try clear c33b0
                try clear c33b1
                try clear c38
                try clear c40
                try clear c40b0
                try clear c41
                try clear c41b0
                try clear c42
                try clear c42b0
                try clear c43
                try clear c43b0
                try clear c43b1
                try clear c44
                try clear c44b0
                try clear c44b1
                try clear p2
                try clear p6
                obtain ⟨kq, x74_38, rfl, HA, HJ38, HB⟩ := hcut
                cases kq with
                | zero => exact absurd HA.out (by simp [beadrolllaw07_NameOrders.j2])
                | succ kj38 =>
                  have H := HA.out
                  clear HA
                  simp only [beadrolllaw07_NameOrders.j2] at H
                  by_cases c45 : x74_38 = true
                  · subst c45
                    have H1 : (some false) = some r := by rw [if_pos rfl] at H; exact H
                    clear H
                    have H := H1
                    clear H1
                    obtain rfl := Option.some.inj H
                    go_wp2
                    go_ret
                    exact ⟨by first | rfl | (simp [errW_none, errW_some] <;> rfl) | (simp [*, errW_none, errW_some] <;> rfl), by repeat (first | (with_reducible first | exact HB.out | apply below_alloc | apply pw_below_drewN | apply below_drew1) | exact HB.out)⟩
                  · replace c45 := Bool.eq_false_iff.mpr c45
                    subst c45
                    have H1 : ((name_Parent.f a0).bind fun bt279 => (if bt279.2 = true then ((name_Compare.f kj38 bt279.1 a0).bind fun t281 => (if t281 < 0 then ((name_Under.f kj38 a0 bt279.1).bind fun t282 => (if t282 = true then ((name_Under.f kj38 bt279.1 a0).bind fun t283 => (some (!t283))) else (some false))) else (some false))) else (some true))) = some r := by rw [if_neg (show ¬ (false = true) by decide)] at H; exact H
                    clear H
                    have H := H1
                    clear H1
                    replace H := Option.bind_eq_some_iff.mp H
                    obtain ⟨⟨t279, t280⟩, A460, H⟩ := H
                    replace H : (if t280 = true then ((name_Compare.f kj38 t279 a0).bind fun t281 => (if t281 < 0 then ((name_Under.f kj38 a0 t279).bind fun t282 => (if t282 = true then ((name_Under.f kj38 t279 a0).bind fun t283 => (some (!t283))) else (some false))) else (some false))) else (some true)) = some r := H
                    have A46 := Aside0.mk A460
                    clear A460
                    by_cases c47 : t280 = true
                    · subst c47
                      have H1 : ((name_Compare.f kj38 t279 a0).bind fun t281 => (if t281 < 0 then ((name_Under.f kj38 a0 t279).bind fun t282 => (if t282 = true then ((name_Under.f kj38 t279 a0).bind fun t283 => (some (!t283))) else (some false))) else (some false))) = some r := by rw [if_pos rfl] at H; exact H
                      clear H
                      have H := H1
                      clear H1
                      replace H := Option.bind_eq_some_iff.mp H
                      obtain ⟨t281, A480, H⟩ := H
                      replace H : (if t281 < 0 then ((name_Under.f kj38 a0 t279).bind fun t282 => (if t282 = true then ((name_Under.f kj38 t279 a0).bind fun t283 => (some (!t283))) else (some false))) else (some false)) = some r := H
                      have A48 := Aside0.mk A480
                      clear A480
                      by_cases c49 : t281 < 0
                      · rw [if_pos c49] at H
                        have c49b0 : decide (t281 < 0) = true := decide_eq_true c49
                        clear c49
                        replace H := Option.bind_eq_some_iff.mp H
                        obtain ⟨t282, A500, H⟩ := H
                        replace H : (if t282 = true then ((name_Under.f kj38 t279 a0).bind fun t283 => (some (!t283))) else (some false)) = some r := H
                        have A50 := Aside0.mk A500
                        clear A500
                        by_cases c51 : t282 = true
                        · subst c51
                          have H1 : ((name_Under.f kj38 t279 a0).bind fun t283 => (some (!t283))) = some r := by rw [if_pos rfl] at H; exact H
                          clear H
                          have H := H1
                          clear H1
                          replace H := Option.bind_eq_some_iff.mp H
                          obtain ⟨t283, A520, H⟩ := H
                          replace H : (some (!t283)) = some r := H
                          have A52 := Aside0.mk A520
                          clear A520
                          obtain rfl := Option.some.inj H
                          go_wp2_with (first | ((with_reducible refine gate_callee (f := 32) rfl ?_); refine goesL_ (some 77) rfl rfl Try.func32 (by kernel_rfl) rfl #[.string a0] rfl (by (try simp only [List.map_toArray, List.map_cons, List.map_nil]); first | done | rfl | (simp only [List.length_drop, List.length_take]; rfl)) ?_; (with_reducible refine (name_Parent.calls a0 t279 true _ A46.out).mono ?_); rintro e w53 ⟨rfl, hb⟩; refine ⟨_, rfl, ?_⟩; have n0_ := Aside0.mk (below_step (by repeat (first | (with_reducible first | exact HB.out | apply below_alloc | apply pw_below_drewN | apply below_drew1) | exact HB.out)) hb); clear HB; have HB := n0_; clear n0_; (try clear hb); (try clear hb2); (try clear hk); (try clear hi)) | (go_at_call 29; (with_reducible refine (name_Compare.calls kj38 t279 a0 t281 _ A48.out).mono ?_); rintro e w54 ⟨rfl, hb⟩; have n0_ := Aside0.mk (below_step (by repeat (first | (with_reducible first | exact HB.out | apply below_alloc | apply pw_below_drewN | apply below_drew1) | exact HB.out)) hb); clear HB; have HB := n0_; clear n0_; (try clear hb); (try clear hb2); (try clear hk); (try clear hi)) | (go_at_call 27; (with_reducible refine (name_Under.calls kj38 a0 t279 true _ A50.out).mono ?_); rintro e w55 ⟨rfl, hb⟩; have n0_ := Aside0.mk (below_step (by repeat (first | (with_reducible first | exact HB.out | apply below_alloc | apply pw_below_drewN | apply below_drew1) | exact HB.out)) hb); clear HB; have HB := n0_; clear n0_; (try clear hb); (try clear hb2); (try clear hk); (try clear hi)) | (go_at_call 27; (with_reducible refine (name_Under.calls kj38 t279 a0 t283 _ A52.out).mono ?_); rintro e w56 ⟨rfl, hb⟩; have n0_ := Aside0.mk (below_step (by repeat (first | (with_reducible first | exact HB.out | apply below_alloc | apply pw_below_drewN | apply below_drew1) | exact HB.out)) hb); clear HB; have HB := n0_; clear n0_; (try clear hb); (try clear hb2); (try clear hk); (try clear hi)))
                          go_ret
                          exact ⟨by first | rfl | (simp [errW_none, errW_some] <;> rfl) | (simp [*, errW_none, errW_some] <;> rfl), by repeat (first | (with_reducible first | exact HB.out | apply below_alloc | apply pw_below_drewN | apply below_drew1) | exact HB.out)⟩
                        · replace c51 := Bool.eq_false_iff.mpr c51
                          subst c51
                          have H1 : (some false) = some r := by rw [if_neg (show ¬ (false = true) by decide)] at H; exact H
                          clear H
                          have H := H1
                          clear H1
                          obtain rfl := Option.some.inj H
                          go_wp2_with (first | ((with_reducible refine gate_callee (f := 32) rfl ?_); refine goesL_ (some 77) rfl rfl Try.func32 (by kernel_rfl) rfl #[.string a0] rfl (by (try simp only [List.map_toArray, List.map_cons, List.map_nil]); first | done | rfl | (simp only [List.length_drop, List.length_take]; rfl)) ?_; (with_reducible refine (name_Parent.calls a0 t279 true _ A46.out).mono ?_); rintro e w57 ⟨rfl, hb⟩; refine ⟨_, rfl, ?_⟩; have n0_ := Aside0.mk (below_step (by repeat (first | (with_reducible first | exact HB.out | apply below_alloc | apply pw_below_drewN | apply below_drew1) | exact HB.out)) hb); clear HB; have HB := n0_; clear n0_; (try clear hb); (try clear hb2); (try clear hk); (try clear hi)) | (go_at_call 29; (with_reducible refine (name_Compare.calls kj38 t279 a0 t281 _ A48.out).mono ?_); rintro e w58 ⟨rfl, hb⟩; have n0_ := Aside0.mk (below_step (by repeat (first | (with_reducible first | exact HB.out | apply below_alloc | apply pw_below_drewN | apply below_drew1) | exact HB.out)) hb); clear HB; have HB := n0_; clear n0_; (try clear hb); (try clear hb2); (try clear hk); (try clear hi)) | (go_at_call 27; (with_reducible refine (name_Under.calls kj38 a0 t279 false _ A50.out).mono ?_); rintro e w59 ⟨rfl, hb⟩; have n0_ := Aside0.mk (below_step (by repeat (first | (with_reducible first | exact HB.out | apply below_alloc | apply pw_below_drewN | apply below_drew1) | exact HB.out)) hb); clear HB; have HB := n0_; clear n0_; (try clear hb); (try clear hb2); (try clear hk); (try clear hi)))
                          go_ret
                          exact ⟨by first | rfl | (simp [errW_none, errW_some] <;> rfl) | (simp [*, errW_none, errW_some] <;> rfl), by repeat (first | (with_reducible first | exact HB.out | apply below_alloc | apply pw_below_drewN | apply below_drew1) | exact HB.out)⟩
                      · rw [if_neg c49] at H
                        have c49b0 : decide (t281 < 0) = false := decide_eq_false c49
                        clear c49
                        obtain rfl := Option.some.inj H
                        go_wp2_with (first | ((with_reducible refine gate_callee (f := 32) rfl ?_); refine goesL_ (some 77) rfl rfl Try.func32 (by kernel_rfl) rfl #[.string a0] rfl (by (try simp only [List.map_toArray, List.map_cons, List.map_nil]); first | done | rfl | (simp only [List.length_drop, List.length_take]; rfl)) ?_; (with_reducible refine (name_Parent.calls a0 t279 true _ A46.out).mono ?_); rintro e w60 ⟨rfl, hb⟩; refine ⟨_, rfl, ?_⟩; have n0_ := Aside0.mk (below_step (by repeat (first | (with_reducible first | exact HB.out | apply below_alloc | apply pw_below_drewN | apply below_drew1) | exact HB.out)) hb); clear HB; have HB := n0_; clear n0_; (try clear hb); (try clear hb2); (try clear hk); (try clear hi)) | (go_at_call 29; (with_reducible refine (name_Compare.calls kj38 t279 a0 t281 _ A48.out).mono ?_); rintro e w61 ⟨rfl, hb⟩; have n0_ := Aside0.mk (below_step (by repeat (first | (with_reducible first | exact HB.out | apply below_alloc | apply pw_below_drewN | apply below_drew1) | exact HB.out)) hb); clear HB; have HB := n0_; clear n0_; (try clear hb); (try clear hb2); (try clear hk); (try clear hi)))
                        go_ret
                        exact ⟨by first | rfl | (simp [errW_none, errW_some] <;> rfl) | (simp [*, errW_none, errW_some] <;> rfl), by repeat (first | (with_reducible first | exact HB.out | apply below_alloc | apply pw_below_drewN | apply below_drew1) | exact HB.out)⟩
                    · replace c47 := Bool.eq_false_iff.mpr c47
                      subst c47
                      have H1 : (some true) = some r := by rw [if_neg (show ¬ (false = true) by decide)] at H; exact H
                      clear H
                      have H := H1
                      clear H1
                      obtain rfl := Option.some.inj H
                      go_wp2_with (first | ((with_reducible refine gate_callee (f := 32) rfl ?_); refine goesL_ (some 77) rfl rfl Try.func32 (by kernel_rfl) rfl #[.string a0] rfl (by (try simp only [List.map_toArray, List.map_cons, List.map_nil]); first | done | rfl | (simp only [List.length_drop, List.length_take]; rfl)) ?_; (with_reducible refine (name_Parent.calls a0 t279 false _ A46.out).mono ?_); rintro e w62 ⟨rfl, hb⟩; refine ⟨_, rfl, ?_⟩; have n0_ := Aside0.mk (below_step (by repeat (first | (with_reducible first | exact HB.out | apply below_alloc | apply pw_below_drewN | apply below_drew1) | exact HB.out)) hb); clear HB; have HB := n0_; clear n0_; (try clear hb); (try clear hb2); (try clear hk); (try clear hi)))
                      go_ret
                      exact ⟨by first | rfl | (simp [errW_none, errW_some] <;> rfl) | (simp [*, errW_none, errW_some] <;> rfl), by repeat (first | (with_reducible first | exact HB.out | apply below_alloc | apply pw_below_drewN | apply below_drew1) | exact HB.out)⟩

/-- THE ONE PURE STATEMENT of beadrolllaw07_NameOrders: yours. -/
def beadrolllaw07_NameOrders.Pure : Prop := ∀ (a0 : ByteArray) (a1 : ByteArray) (a2 : ByteArray), a0.size ≤ 140737488351232 → a1.size ≤ 140737488351232 → a2.size ≤ 140737488351232 → ∃ k, beadrolllaw07_NameOrders.f k a0 a1 a2 = some true
theorem beadrolllaw07_NameOrders.walk (P : beadrolllaw07_NameOrders.Pure) (a0 : ByteArray) (a1 : ByteArray) (a2 : ByteArray) (w : World) (w0 : a0.size ≤ 140737488351232) (w1 : a1.size ≤ 140737488351232) (w2 : a2.size ≤ 140737488351232) :
    Calls Try.prog 8 #[.string a0, .string a1, .string a2] w fun e w' => e = .returned (.bool true) ∧ Below w.heap.size w w' := by
  obtain ⟨k, h⟩ := P a0 a1 a2 w0 w1 w2
  refine (beadrolllaw07_NameOrders.calls k a0 a1 a2 true w h).mono ?_
  rintro e w' ⟨rfl, hd⟩
  exact ⟨rfl, hd⟩

/-! ### beadrollref07_Parent: function 35 -/
def beadrollref07_Parent.f (k : Nat) (a0 : ByteArray) : Option (ByteArray × Bool) := (beadrollref07_Labels.f k a0).bind fun bt284 => (if bt284.2 = true then (if (bt284.1.length : Int) = 0 then (some ((⟨#[]⟩ : ByteArray), false)) else (if 0 < (bt284.1.length : Int) then (if 0 ≤ (wrap64 (1 + ((rdOf ByteArray.empty bt284.1 0).size : Int))) then (if (wrap64 (1 + ((rdOf ByteArray.empty bt284.1 0).size : Int))) ≤ (a0.size : Int) then (some (a0.extract ((wrap64 (1 + ((rdOf ByteArray.empty bt284.1 0).size : Int))) : Int).toNat a0.size, true)) else (none)) else (none)) else (none))) else (some ((⟨#[]⟩ : ByteArray), false)))
theorem beadrollref07_Parent.mono : ∀ a0 k, LeO (beadrollref07_Parent.f k a0) (beadrollref07_Parent.f (k + 1) a0) := by
  intro a0 k
  unfold beadrollref07_Parent.f
  repeat' first
      | (with_reducible exact beadrollref07_Labels.mono _ _)
      | (with_reducible exact LeO.refl _)
      | (with_reducible exact LeO.none _)
      | (with_reducible refine LeO.ite ?_ ?_)
      | (with_reducible refine LeO.bind ?_ (fun _ => ?_))
      | exact beadrollref07_Labels.mono _ _
      | exact LeO.none _
      | refine LeO.ite ?_ ?_
      | refine LeO.bind ?_ (fun _ => ?_)
set_option maxHeartbeats 8000000 in
set_option maxRecDepth 100000 in
theorem beadrollref07_Parent.calls (k : Nat) (a0 : ByteArray) (r1 : ByteArray) (r2 : Bool) (w : World) (h : beadrollref07_Parent.f k a0 = some (r1, r2)) :
    Calls Try.prog 35 #[.string a0] w fun e w' => e = .returned (.tuple #[.string r1, .bool r2]) ∧ Below w.heap.size w w' := by
  have HB := Aside0.mk (Below.refl w.heap.size w)
  have H : ((beadrollref07_Labels.f k a0).bind fun bt284 => (if bt284.2 = true then (if (bt284.1.length : Int) = 0 then (some ((⟨#[]⟩ : ByteArray), false)) else (if 0 < (bt284.1.length : Int) then (if 0 ≤ (wrap64 (1 + ((rdOf ByteArray.empty bt284.1 0).size : Int))) then (if (wrap64 (1 + ((rdOf ByteArray.empty bt284.1 0).size : Int))) ≤ (a0.size : Int) then (some (a0.extract ((wrap64 (1 + ((rdOf ByteArray.empty bt284.1 0).size : Int))) : Int).toNat a0.size, true)) else (none)) else (none)) else (none))) else (some ((⟨#[]⟩ : ByteArray), false)))) = some (r1, r2) := h
  clear h
  replace H := Option.bind_eq_some_iff.mp H
  obtain ⟨⟨t284, t285⟩, A20, H⟩ := H
  replace H : (if t285 = true then (if (t284.length : Int) = 0 then (some ((⟨#[]⟩ : ByteArray), false)) else (if 0 < (t284.length : Int) then (if 0 ≤ (wrap64 (1 + ((rdOf ByteArray.empty t284 0).size : Int))) then (if (wrap64 (1 + ((rdOf ByteArray.empty t284 0).size : Int))) ≤ (a0.size : Int) then (some (a0.extract ((wrap64 (1 + ((rdOf ByteArray.empty t284 0).size : Int))) : Int).toNat a0.size, true)) else (none)) else (none)) else (none))) else (some ((⟨#[]⟩ : ByteArray), false))) = some (r1, r2) := H
  have A2 := Aside0.mk A20
  clear A20
  by_cases c3 : t285 = true
  · subst c3
    have H1 : (if (t284.length : Int) = 0 then (some ((⟨#[]⟩ : ByteArray), false)) else (if 0 < (t284.length : Int) then (if 0 ≤ (wrap64 (1 + ((rdOf ByteArray.empty t284 0).size : Int))) then (if (wrap64 (1 + ((rdOf ByteArray.empty t284 0).size : Int))) ≤ (a0.size : Int) then (some (a0.extract ((wrap64 (1 + ((rdOf ByteArray.empty t284 0).size : Int))) : Int).toNat a0.size, true)) else (none)) else (none)) else (none))) = some (r1, r2) := by rw [if_pos rfl] at H; exact H
    clear H
    have H := H1
    clear H1
    by_cases c4 : (t284.length : Int) = 0
    · rw [if_pos c4] at H
      have c4b0 : ((t284.length : Int) == 0) = true := beq_iff_eq.mpr c4
      have c4b1 : ((t284.length : Int) != 0) = false := bne_eq_false_iff_eq.mpr c4
      clear c4
      simp only [Option.some.injEq, Prod.mk.injEq] at H
      obtain ⟨rfl, rfl⟩ := H
      go_enter Try.func35, Try.ntmps35
      go_wp2_with (first | ((with_reducible refine gate_callee (f := 17) rfl ?_); refine goesL_ (some 8) rfl rfl Try.func17 (by kernel_rfl) rfl #[.string a0] rfl (by (try simp only [List.map_toArray, List.map_cons, List.map_nil]); first | done | rfl | (simp only [List.length_drop, List.length_take]; rfl)) ?_; (with_reducible refine (beadrollref07_Labels.calls k a0 t284 true _ A2.out).mono ?_); rintro e w5 ⟨v286, rfl, ho0, hb⟩; refine ⟨_, rfl, ?_⟩; have n0_ := Aside0.mk (Kd.R_lower ho0 (below_size (by repeat (first | (with_reducible first | exact HB.out | apply below_alloc | apply pw_below_drewN | apply below_drew1) | exact HB.out)))); have n1_ := Aside0.mk (below_step (by repeat (first | (with_reducible first | exact HB.out | apply below_alloc | apply pw_below_drewN | apply below_drew1) | exact HB.out)) hb); clear HB; have HO287 := n0_; have HB := n1_; clear n0_ n1_; (try clear hb); (try clear hb2); (try clear hk); (try clear hi); (try clear ho0); obtain ⟨Ao6, co6, eo6⟩ := Kd.R_slice HO287.out; subst eo6))
      go_ret2
      exact ⟨by first | rfl | (simp [errW_none, errW_some] <;> rfl) | (simp [*, errW_none, errW_some] <;> rfl), by repeat (first | (with_reducible first | exact HB.out | apply below_alloc | apply pw_below_drewN | apply below_drew1) | exact HB.out)⟩
    · rw [if_neg c4] at H
      have c4b0 : ((t284.length : Int) == 0) = false := beq_eq_false_iff_ne.mpr c4
      have c4b1 : ((t284.length : Int) != 0) = true := bne_iff_ne.mpr c4
      have c4b2 : ¬ (t284 = []) := fun h_ => c4 (by rw [h_]; rfl)
      by_cases c7 : 0 < (t284.length : Int)
      · rw [if_pos c7] at H
        have c7b0 : decide (0 < (t284.length : Int)) = true := decide_eq_true c7
        have c7b1 : decide (0 < t284.length) = true := decide_eq_true (by omega)
        clear c7
        obtain ⟨ji8, hji8⟩ : ∃ j_ : Int, (wrap64 (1 + ((rdOf ByteArray.empty t284 0).size : Int))) = j_ := ⟨_, rfl⟩
        replace H : (if 0 ≤ (ji8) then (if (ji8) ≤ (a0.size : Int) then (some (a0.extract ((ji8) : Int).toNat a0.size, true)) else (none)) else (none)) = some (r1, r2) := by first | (rw [hji8] at H; exact H) | (simp only [hji8] at H ⊢; exact H)
        (try rw [hji8] at A2)
        have hji8w : (IntKind.i64.wrap (1 + ((rdOf ByteArray.empty t284 0).size : Int))) = ji8 := (i64_w _).trans hji8
        by_cases c9 : 0 ≤ (ji8)
        · rw [if_pos c9] at H
          have c9b0 := eq_true c9
          have c9b1 : decide (0 ≤ (ji8)) = true := decide_eq_true c9
          clear c9
          by_cases c10 : (ji8) ≤ (a0.size : Int)
          · rw [if_pos c10] at H
            have c10b0 := eq_true c10
            have c10b1 : decide ((ji8) ≤ (a0.size : Int)) = true := decide_eq_true c10
            clear c10
            simp only [Option.some.injEq, Prod.mk.injEq] at H
            obtain ⟨rfl, rfl⟩ := H
            go_enter Try.func35, Try.ntmps35
            go_wp2_with (first | ((with_reducible refine gate_callee (f := 17) rfl ?_); refine goesL_ (some 8) rfl rfl Try.func17 (by kernel_rfl) rfl #[.string a0] rfl (by (try simp only [List.map_toArray, List.map_cons, List.map_nil]); first | done | rfl | (simp only [List.length_drop, List.length_take]; rfl)) ?_; (with_reducible refine (beadrollref07_Labels.calls k a0 t284 true _ A2.out).mono ?_); rintro e w11 ⟨v286, rfl, ho0, hb⟩; refine ⟨_, rfl, ?_⟩; have n0_ := Aside0.mk (Kd.R_lower ho0 (below_size (by repeat (first | (with_reducible first | exact HB.out | apply below_alloc | apply pw_below_drewN | apply below_drew1) | exact HB.out)))); have n1_ := Aside0.mk (below_step (by repeat (first | (with_reducible first | exact HB.out | apply below_alloc | apply pw_below_drewN | apply below_drew1) | exact HB.out)) hb); clear HB; have HO287 := n0_; have HB := n1_; clear n0_ n1_; (try clear hb); (try clear hb2); (try clear hk); (try clear hi); (try clear ho0); obtain ⟨Ao12, co12, eo12⟩ := Kd.R_slice HO287.out; subst eo12; have p288 : 0 ≤ (0 : Int) := (by omega); have q288 : 0 < (t284.length : Int) := of_decide_eq_true (by first | (with_reducible assumption) | assumption); obtain ⟨ad288, e288, hx288_0⟩ := Kd.at_string (Kd.R_reads' HO287.out).2.2 0 p288 q288; cases e288; have qi288 : (0 < t284.length) = True := eq_true (by omega); (try rw [show ((0 : Int)).toNat = 0 from rfl] at hx288_0); (try rw [Addr.add_zero'] at hx288_0); replace p288 := eq_true p288; replace q288 := eq_true q288))
            go_ret2
            exact ⟨by first | rfl | (simp [errW_none, errW_some] <;> rfl) | (simp only [← hji8]; first | rfl | (simp [errW_none, errW_some] <;> rfl)) | (simp [*, errW_none, errW_some] <;> rfl), by repeat (first | (with_reducible first | exact HB.out | apply below_alloc | apply pw_below_drewN | apply below_drew1) | exact HB.out)⟩
          · rw [if_neg c10] at H
            exact absurd H (by simp)
        · rw [if_neg c9] at H
          exact absurd H (by simp)
      · rw [if_neg c7] at H
        exact absurd H (by simp)
  · replace c3 := Bool.eq_false_iff.mpr c3
    subst c3
    have H1 : (some ((⟨#[]⟩ : ByteArray), false)) = some (r1, r2) := by rw [if_neg (show ¬ (false = true) by decide)] at H; exact H
    clear H
    have H := H1
    clear H1
    simp only [Option.some.injEq, Prod.mk.injEq] at H
    obtain ⟨rfl, rfl⟩ := H
    go_enter Try.func35, Try.ntmps35
    go_wp2_with (first | ((with_reducible refine gate_callee (f := 17) rfl ?_); refine goesL_ (some 8) rfl rfl Try.func17 (by kernel_rfl) rfl #[.string a0] rfl (by (try simp only [List.map_toArray, List.map_cons, List.map_nil]); first | done | rfl | (simp only [List.length_drop, List.length_take]; rfl)) ?_; (with_reducible refine (beadrollref07_Labels.calls k a0 t284 false _ A2.out).mono ?_); rintro e w13 ⟨v286, rfl, ho0, hb⟩; refine ⟨_, rfl, ?_⟩; have n0_ := Aside0.mk (Kd.R_lower ho0 (below_size (by repeat (first | (with_reducible first | exact HB.out | apply below_alloc | apply pw_below_drewN | apply below_drew1) | exact HB.out)))); have n1_ := Aside0.mk (below_step (by repeat (first | (with_reducible first | exact HB.out | apply below_alloc | apply pw_below_drewN | apply below_drew1) | exact HB.out)) hb); clear HB; have HO287 := n0_; have HB := n1_; clear n0_ n1_; (try clear hb); (try clear hb2); (try clear hk); (try clear hi); (try clear ho0)))
    go_ret2
    exact ⟨by first | rfl | (simp [errW_none, errW_some] <;> rfl) | (simp [*, errW_none, errW_some] <;> rfl), by repeat (first | (with_reducible first | exact HB.out | apply below_alloc | apply pw_below_drewN | apply below_drew1) | exact HB.out)⟩

-- NOT PRINTED: function 69 (slices_overlaps_string)

-- NOT PRINTED: function 81 (slices_rotateLeft_string)

-- NOT PRINTED: function 70 (slices_rotateRight_string)

-- NOT PRINTED: function 54 (slices_Insert_string_string)

-- NOT PRINTED: function 36 (name_Star)

/-! ### stringslite_HasPrefix: function 71 -/
def stringslite_HasPrefix.f (a0 : ByteArray) (a1 : ByteArray) : Option (Bool) := if (a0.size : Int) ≥ (a1.size : Int) then (if 0 ≤ (a1.size : Int) then (if (a1.size : Int) ≤ (a0.size : Int) then (some ((a0.extract 0 ((a1.size : Int) : Int).toNat).toList == a1.toList)) else (none)) else (none)) else (some false)
set_option maxHeartbeats 8000000 in
set_option maxRecDepth 100000 in
theorem stringslite_HasPrefix.calls (a0 : ByteArray) (a1 : ByteArray) (r : Bool) (w : World) (h : stringslite_HasPrefix.f a0 a1 = some r) :
    Calls Try.prog 71 #[.string a0, .string a1] w fun e w' => e = .returned (.bool r) ∧ Drawn0 w w' := by
  have H : (if (a0.size : Int) ≥ (a1.size : Int) then (if 0 ≤ (a1.size : Int) then (if (a1.size : Int) ≤ (a0.size : Int) then (some ((a0.extract 0 ((a1.size : Int) : Int).toNat).toList == a1.toList)) else (none)) else (none)) else (some false)) = some r := h
  clear h
  by_cases c3 : (a0.size : Int) ≥ (a1.size : Int)
  · rw [if_pos c3] at H
    have c3b0 : decide ((a1.size : Int) ≤ (a0.size : Int)) = true := decide_eq_true c3
    have c3b1 : decide (a1.size ≤ a0.size) = true := decide_eq_true (Int.ofNat_le.mp c3)
    clear c3
    by_cases c4 : 0 ≤ (a1.size : Int)
    · rw [if_pos c4] at H
      have c4b0 := eq_true c4
      have c4b1 : decide (0 ≤ (a1.size : Int)) = true := decide_eq_true c4
      clear c4
      by_cases c5 : (a1.size : Int) ≤ (a0.size : Int)
      · rw [if_pos c5] at H
        have c5b0 := eq_true c5
        have c5b1 : decide ((a1.size : Int) ≤ (a0.size : Int)) = true := decide_eq_true c5
        clear c5
        obtain rfl := Option.some.inj H
        go_enter Try.func71, Try.ntmps71
        go_wp2
        go_ret
        exact ⟨by first | rfl | (simp; done) | (simp [*]; done), by repeat (first | exact Drawn0.refl _ | apply Drawn0.step)⟩
      · rw [if_neg c5] at H
        exact absurd H (by simp)
    · rw [if_neg c4] at H
      exact absurd H (by simp)
  · rw [if_neg c3] at H
    have c3b0 : decide ((a1.size : Int) ≤ (a0.size : Int)) = false := decide_eq_false c3
    have c3b1 : decide (a1.size ≤ a0.size) = false := decide_eq_false (fun h => c3 (Int.ofNat_le.mpr h))
    clear c3
    obtain rfl := Option.some.inj H
    go_enter Try.func71, Try.ntmps71
    go_wp2
    go_ret
    exact ⟨by first | rfl | (simp; done) | (simp [*]; done), by repeat (first | exact Drawn0.refl _ | apply Drawn0.step)⟩

end Go.Proofs.Ythhbddmokgbdkaa.PNam
