-- Written by this session's program gprint.py out of the translation; Lean checks it.
import Derived.Test.YthhbddmokgbdkaaStrWords
import Derived.Test.YthhbddmokgbdkaaPNamx0
import Derived.Test.YthhbddmokgbdkaaPNamx1
import Derived.Test.YthhbddmokgbdkaaPNamx5
namespace Go.Proofs.Ythhbddmokgbdkaa.PNam
open Go.RowKit Go.Proofs.YthhbddmokgbdkaaW.PrintWords Go.Proofs.YthhbddmokgbdkaaW.PrintLast Go.Proofs.YthhbddmokgbdkaaW.PrintMore Go.Proofs.Ythhbddmokgbdkaa.Given
attribute [local go_sem] max2_int min2_int max_two min_two max_three min_three max_four min_four   -- for this text's walks alone
set_option linter.unusedVariables false
set_option linter.unusedSimpArgs false

/-! ### beadrollref07_Compare: function 30 -/
mutual
def beadrollref07_Compare.j0 : Nat → List ByteArray → List ByteArray → Bool → Option (Int)
  | 0, _, _, _ => none
  | k + 1, x5, x7, x29 => if x29 = true then (some 0) else (beadrollref07_Compare.l0 k x5 x7 1)
def beadrollref07_Compare.l0 : Nat → List ByteArray → List ByteArray → Int → Option (Int)
  | 0, _, _, _ => none
  | k + 1, x5, x7, x9 => if x9 ≤ (x5.length : Int) then (beadrollref07_Compare.j2 k x5 x7 x9 (decide (x9 ≤ (x7.length : Int)))) else (beadrollref07_Compare.j2 k x5 x7 x9 false)
def beadrollref07_Compare.j2 : Nat → List ByteArray → List ByteArray → Int → Bool → Option (Int)
  | 0, _, _, _, _ => none
  | k + 1, x5, x7, x9, x39 => if x39 = true then (if 0 ≤ (wrap64 ((x5.length : Int) - x9)) then (if (wrap64 ((x5.length : Int) - x9)) < (x5.length : Int) then (if 0 ≤ (wrap64 ((x7.length : Int) - x9)) then (if (wrap64 ((x7.length : Int) - x9)) < (x7.length : Int) then (if (Op.bytesLess ((rdOf ByteArray.empty x5 (wrap64 ((x5.length : Int) - x9))).toList) ((rdOf ByteArray.empty x7 (wrap64 ((x7.length : Int) - x9))).toList)) = true then (some (-1)) else (if (Op.bytesLess ((rdOf ByteArray.empty x7 (wrap64 ((x7.length : Int) - x9))).toList) ((rdOf ByteArray.empty x5 (wrap64 ((x5.length : Int) - x9))).toList)) = true then (some 1) else (beadrollref07_Compare.l0 k x5 x7 (wrap64 (x9 + 1))))) else (none)) else (none)) else (none)) else (none)) else (if (x5.length : Int) < (x7.length : Int) then (some (-1)) else (if (x5.length : Int) > (x7.length : Int) then (some 1) else (some 0)))
end
def beadrollref07_Compare.f (k : Nat) (a0 : ByteArray) (a1 : ByteArray) : Option (Int) := (beadrollref07_Fold.f k a0).bind fun t237 => ((beadrollref07_Labels.f k t237).bind fun bt238 => ((beadrollref07_Fold.f k a1).bind fun t242 => ((beadrollref07_Labels.f k t242).bind fun bt243 => (if bt238.2 = true then (beadrollref07_Compare.j0 k bt238.1 bt243.1 (!bt243.2)) else (beadrollref07_Compare.j0 k bt238.1 bt243.1 true)))))
theorem beadrollref07_Compare.mono_l : ∀ k, (∀ y0 y1 y2, LeO (beadrollref07_Compare.j0 k y0 y1 y2) (beadrollref07_Compare.j0 (k + 1) y0 y1 y2)) ∧ (∀ y0 y1 y2, LeO (beadrollref07_Compare.l0 k y0 y1 y2) (beadrollref07_Compare.l0 (k + 1) y0 y1 y2)) ∧ (∀ y0 y1 y2 y3, LeO (beadrollref07_Compare.j2 k y0 y1 y2 y3) (beadrollref07_Compare.j2 (k + 1) y0 y1 y2 y3))
  | 0 => ⟨fun _ _ _ r h => by simp [beadrollref07_Compare.j0] at h, fun _ _ _ r h => by simp [beadrollref07_Compare.l0] at h, fun _ _ _ _ r h => by simp [beadrollref07_Compare.j2] at h⟩
  | k + 1 => by
    obtain ⟨ih0, ih1, ih2⟩ := beadrollref07_Compare.mono_l k
    refine ⟨?_, ?_, ?_⟩
    · intro y0 y1 y2
      unfold beadrollref07_Compare.j0
      repeat' first
      | (with_reducible exact ih0 _ _ _)
      | (with_reducible exact ih1 _ _ _)
      | (with_reducible exact ih2 _ _ _ _)
      | (with_reducible exact beadrollref07_Fold.mono _ _)
      | (with_reducible exact beadrollref07_Labels.mono _ _)
      | (with_reducible exact LeO.refl _)
      | (with_reducible exact LeO.none _)
      | (with_reducible refine LeO.ite ?_ ?_)
      | (with_reducible refine LeO.bind ?_ (fun _ => ?_))
      | exact ih0 _ _ _
      | exact ih1 _ _ _
      | exact ih2 _ _ _ _
      | exact beadrollref07_Fold.mono _ _
      | exact beadrollref07_Labels.mono _ _
      | exact LeO.none _
      | refine LeO.ite ?_ ?_
      | refine LeO.bind ?_ (fun _ => ?_)
    · intro y0 y1 y2
      unfold beadrollref07_Compare.l0
      repeat' first
      | (with_reducible exact ih0 _ _ _)
      | (with_reducible exact ih1 _ _ _)
      | (with_reducible exact ih2 _ _ _ _)
      | (with_reducible exact beadrollref07_Fold.mono _ _)
      | (with_reducible exact beadrollref07_Labels.mono _ _)
      | (with_reducible exact LeO.refl _)
      | (with_reducible exact LeO.none _)
      | (with_reducible refine LeO.ite ?_ ?_)
      | (with_reducible refine LeO.bind ?_ (fun _ => ?_))
      | exact ih0 _ _ _
      | exact ih1 _ _ _
      | exact ih2 _ _ _ _
      | exact beadrollref07_Fold.mono _ _
      | exact beadrollref07_Labels.mono _ _
      | exact LeO.none _
      | refine LeO.ite ?_ ?_
      | refine LeO.bind ?_ (fun _ => ?_)
    · intro y0 y1 y2 y3
      unfold beadrollref07_Compare.j2
      repeat' first
      | (with_reducible exact ih0 _ _ _)
      | (with_reducible exact ih1 _ _ _)
      | (with_reducible exact ih2 _ _ _ _)
      | (with_reducible exact beadrollref07_Fold.mono _ _)
      | (with_reducible exact beadrollref07_Labels.mono _ _)
      | (with_reducible exact LeO.refl _)
      | (with_reducible exact LeO.none _)
      | (with_reducible refine LeO.ite ?_ ?_)
      | (with_reducible refine LeO.bind ?_ (fun _ => ?_))
      | exact ih0 _ _ _
      | exact ih1 _ _ _
      | exact ih2 _ _ _ _
      | exact beadrollref07_Fold.mono _ _
      | exact beadrollref07_Labels.mono _ _
      | exact LeO.none _
      | refine LeO.ite ?_ ?_
      | refine LeO.bind ?_ (fun _ => ?_)
theorem beadrollref07_Compare.mono : ∀ a0 a1 k, LeO (beadrollref07_Compare.f k a0 a1) (beadrollref07_Compare.f (k + 1) a0 a1) := by
  intro a0 a1 k
  obtain ⟨ih0, ih1, ih2⟩ := beadrollref07_Compare.mono_l k
  unfold beadrollref07_Compare.f
  repeat' first
      | (with_reducible exact ih0 _ _ _)
      | (with_reducible exact ih1 _ _ _)
      | (with_reducible exact ih2 _ _ _ _)
      | (with_reducible exact beadrollref07_Fold.mono _ _)
      | (with_reducible exact beadrollref07_Labels.mono _ _)
      | (with_reducible exact LeO.refl _)
      | (with_reducible exact LeO.none _)
      | (with_reducible refine LeO.ite ?_ ?_)
      | (with_reducible refine LeO.bind ?_ (fun _ => ?_))
      | exact ih0 _ _ _
      | exact ih1 _ _ _
      | exact ih2 _ _ _ _
      | exact beadrollref07_Fold.mono _ _
      | exact beadrollref07_Labels.mono _ _
      | exact LeO.none _
      | refine LeO.ite ?_ ?_
      | refine LeO.bind ?_ (fun _ => ?_)
set_option maxHeartbeats 8000000 in
set_option maxRecDepth 100000 in
theorem beadrollref07_Compare.calls (k : Nat) (a0 : ByteArray) (a1 : ByteArray) (r : Int) (w : World) (h : beadrollref07_Compare.f k a0 a1 = some r) :
    Calls Try.prog 30 #[.string a0, .string a1] w fun e w' => e = .returned (.int .i64 r) ∧ Below w.heap.size w w' := by
  have HB := Aside0.mk (Below.refl w.heap.size w)
  have H : ((beadrollref07_Fold.f k a0).bind fun t237 => ((beadrollref07_Labels.f k t237).bind fun bt238 => ((beadrollref07_Fold.f k a1).bind fun t242 => ((beadrollref07_Labels.f k t242).bind fun bt243 => (if bt238.2 = true then (beadrollref07_Compare.j0 k bt238.1 bt243.1 (!bt243.2)) else (beadrollref07_Compare.j0 k bt238.1 bt243.1 true)))))) = some r := h
  clear h
  replace H := Option.bind_eq_some_iff.mp H
  obtain ⟨t237, A30, H⟩ := H
  replace H : ((beadrollref07_Labels.f k t237).bind fun bt238 => ((beadrollref07_Fold.f k a1).bind fun t242 => ((beadrollref07_Labels.f k t242).bind fun bt243 => (if bt238.2 = true then (beadrollref07_Compare.j0 k bt238.1 bt243.1 (!bt243.2)) else (beadrollref07_Compare.j0 k bt238.1 bt243.1 true))))) = some r := H
  have A3 := Aside0.mk A30
  clear A30
  replace H := Option.bind_eq_some_iff.mp H
  obtain ⟨⟨t238, t239⟩, A40, H⟩ := H
  replace H : ((beadrollref07_Fold.f k a1).bind fun t242 => ((beadrollref07_Labels.f k t242).bind fun bt243 => (if t239 = true then (beadrollref07_Compare.j0 k t238 bt243.1 (!bt243.2)) else (beadrollref07_Compare.j0 k t238 bt243.1 true)))) = some r := H
  have A4 := Aside0.mk A40
  clear A40
  replace H := Option.bind_eq_some_iff.mp H
  obtain ⟨t242, A50, H⟩ := H
  replace H : ((beadrollref07_Labels.f k t242).bind fun bt243 => (if t239 = true then (beadrollref07_Compare.j0 k t238 bt243.1 (!bt243.2)) else (beadrollref07_Compare.j0 k t238 bt243.1 true))) = some r := H
  have A5 := Aside0.mk A50
  clear A50
  replace H := Option.bind_eq_some_iff.mp H
  obtain ⟨⟨t243, t244⟩, A60, H⟩ := H
  replace H : (if t239 = true then (beadrollref07_Compare.j0 k t238 t243 (!t244)) else (beadrollref07_Compare.j0 k t238 t243 true)) = some r := H
  have A6 := Aside0.mk A60
  clear A60
  have HC7 := Aside0.mk H
  clear H
  go_enter Try.func30, Try.ntmps30
  go_upto_region 3 with (first | (go_at_call 37; (with_reducible refine (beadrollref07_Fold.calls k a0 t237 _ A3.out).mono ?_); rintro e w8 ⟨rfl, hb⟩; have n0_ := Aside0.mk (below_step (by repeat (first | (with_reducible first | exact HB.out | apply below_alloc | apply pw_below_drewN | apply below_drew1) | exact HB.out)) hb); clear HB; have HB := n0_; clear n0_; (try clear hb); (try clear hb2); (try clear hk); (try clear hi)) | (go_at_call 17; (with_reducible refine (beadrollref07_Labels.calls k t237 t238 t239 _ A4.out).mono ?_); rintro e w9 ⟨v240, rfl, ho0, hb⟩; have n0_ := Aside0.mk (Kd.R_lower ho0 (below_size (by repeat (first | (with_reducible first | exact HB.out | apply below_alloc | apply pw_below_drewN | apply below_drew1) | exact HB.out)))); have n1_ := Aside0.mk (below_step (by repeat (first | (with_reducible first | exact HB.out | apply below_alloc | apply pw_below_drewN | apply below_drew1) | exact HB.out)) hb); clear HB; have HO241 := n0_; have HB := n1_; clear n0_ n1_; (try clear hb); (try clear hb2); (try clear hk); (try clear hi); (try clear ho0)) | (go_at_call 37; (with_reducible refine (beadrollref07_Fold.calls k a1 t242 _ A5.out).mono ?_); rintro e w10 ⟨rfl, hb⟩; have n0_ := Aside0.mk (Kd.R_below (by (with_reducible repeat (first | apply Kd.R_alloc | apply Kd.R_drewN | apply Kd.R_drew)); exact HO241.out) hb); have n1_ := Aside0.mk (below_step (by repeat (first | (with_reducible first | exact HB.out | apply below_alloc | apply pw_below_drewN | apply below_drew1) | exact HB.out)) hb); clear HO241; clear HB; have HO241 := n0_; have HB := n1_; clear n0_ n1_; (try clear hb); (try clear hb2); (try clear hk); (try clear hi)) | (go_at_call 17; (with_reducible refine (beadrollref07_Labels.calls k t242 t243 t244 _ A6.out).mono ?_); rintro e w11 ⟨v245, rfl, ho0, hb⟩; have n0_ := Aside0.mk (Kd.R_elder' (by (with_reducible repeat (first | apply Kd.R_alloc | apply Kd.R_drewN | apply Kd.R_drew)); exact HO241.out) (Kd.R_base ho0) hb); have n1_ := Aside0.mk (Kd.R_lower (Kd.R_new' ho0 (Kd.R_lt (by (with_reducible repeat (first | apply Kd.R_alloc | apply Kd.R_drewN | apply Kd.R_drew)); exact HO241.out))) (below_size (by repeat (first | (with_reducible first | exact HB.out | apply below_alloc | apply pw_below_drewN | apply below_drew1) | exact HB.out)))); have n2_ := Aside0.mk (below_step (by repeat (first | (with_reducible first | exact HB.out | apply below_alloc | apply pw_below_drewN | apply below_drew1) | exact HB.out)) hb); clear HO241; clear HB; have HO241 := n0_; have HO246 := n1_; have HB := n2_; clear n0_ n1_ n2_; (try clear hb); (try clear hb2); (try clear hk); (try clear hi); (try clear ho0)))
  repeat (go_quiet (first | (go_at_call 37; (with_reducible refine (beadrollref07_Fold.calls k a0 t237 _ A3.out).mono ?_); rintro e w8 ⟨rfl, hb⟩; have n0_ := Aside0.mk (below_step (by repeat (first | (with_reducible first | exact HB.out | apply below_alloc | apply pw_below_drewN | apply below_drew1) | exact HB.out)) hb); clear HB; have HB := n0_; clear n0_; (try clear hb); (try clear hb2); (try clear hk); (try clear hi)) | (go_at_call 17; (with_reducible refine (beadrollref07_Labels.calls k t237 t238 t239 _ A4.out).mono ?_); rintro e w9 ⟨v240, rfl, ho0, hb⟩; have n0_ := Aside0.mk (Kd.R_lower ho0 (below_size (by repeat (first | (with_reducible first | exact HB.out | apply below_alloc | apply pw_below_drewN | apply below_drew1) | exact HB.out)))); have n1_ := Aside0.mk (below_step (by repeat (first | (with_reducible first | exact HB.out | apply below_alloc | apply pw_below_drewN | apply below_drew1) | exact HB.out)) hb); clear HB; have HO241 := n0_; have HB := n1_; clear n0_ n1_; (try clear hb); (try clear hb2); (try clear hk); (try clear hi); (try clear ho0)) | (go_at_call 37; (with_reducible refine (beadrollref07_Fold.calls k a1 t242 _ A5.out).mono ?_); rintro e w10 ⟨rfl, hb⟩; have n0_ := Aside0.mk (Kd.R_below (by (with_reducible repeat (first | apply Kd.R_alloc | apply Kd.R_drewN | apply Kd.R_drew)); exact HO241.out) hb); have n1_ := Aside0.mk (below_step (by repeat (first | (with_reducible first | exact HB.out | apply below_alloc | apply pw_below_drewN | apply below_drew1) | exact HB.out)) hb); clear HO241; clear HB; have HO241 := n0_; have HB := n1_; clear n0_ n1_; (try clear hb); (try clear hb2); (try clear hk); (try clear hi)) | (go_at_call 17; (with_reducible refine (beadrollref07_Labels.calls k t242 t243 t244 _ A6.out).mono ?_); rintro e w11 ⟨v245, rfl, ho0, hb⟩; have n0_ := Aside0.mk (Kd.R_elder' (by (with_reducible repeat (first | apply Kd.R_alloc | apply Kd.R_drewN | apply Kd.R_drew)); exact HO241.out) (Kd.R_base ho0) hb); have n1_ := Aside0.mk (Kd.R_lower (Kd.R_new' ho0 (Kd.R_lt (by (with_reducible repeat (first | apply Kd.R_alloc | apply Kd.R_drewN | apply Kd.R_drew)); exact HO241.out))) (below_size (by repeat (first | (with_reducible first | exact HB.out | apply below_alloc | apply pw_below_drewN | apply below_drew1) | exact HB.out)))); have n2_ := Aside0.mk (below_step (by repeat (first | (with_reducible first | exact HB.out | apply below_alloc | apply pw_below_drewN | apply below_drew1) | exact HB.out)) hb); clear HO241; clear HB; have HO241 := n0_; have HO246 := n1_; have HB := n2_; clear n0_ n1_ n2_; (try clear hb); (try clear hb2); (try clear hk); (try clear hi); (try clear ho0))); go_upto_region 3 with (first | (go_at_call 37; (with_reducible refine (beadrollref07_Fold.calls k a0 t237 _ A3.out).mono ?_); rintro e w8 ⟨rfl, hb⟩; have n0_ := Aside0.mk (below_step (by repeat (first | (with_reducible first | exact HB.out | apply below_alloc | apply pw_below_drewN | apply below_drew1) | exact HB.out)) hb); clear HB; have HB := n0_; clear n0_; (try clear hb); (try clear hb2); (try clear hk); (try clear hi)) | (go_at_call 17; (with_reducible refine (beadrollref07_Labels.calls k t237 t238 t239 _ A4.out).mono ?_); rintro e w9 ⟨v240, rfl, ho0, hb⟩; have n0_ := Aside0.mk (Kd.R_lower ho0 (below_size (by repeat (first | (with_reducible first | exact HB.out | apply below_alloc | apply pw_below_drewN | apply below_drew1) | exact HB.out)))); have n1_ := Aside0.mk (below_step (by repeat (first | (with_reducible first | exact HB.out | apply below_alloc | apply pw_below_drewN | apply below_drew1) | exact HB.out)) hb); clear HB; have HO241 := n0_; have HB := n1_; clear n0_ n1_; (try clear hb); (try clear hb2); (try clear hk); (try clear hi); (try clear ho0)) | (go_at_call 37; (with_reducible refine (beadrollref07_Fold.calls k a1 t242 _ A5.out).mono ?_); rintro e w10 ⟨rfl, hb⟩; have n0_ := Aside0.mk (Kd.R_below (by (with_reducible repeat (first | apply Kd.R_alloc | apply Kd.R_drewN | apply Kd.R_drew)); exact HO241.out) hb); have n1_ := Aside0.mk (below_step (by repeat (first | (with_reducible first | exact HB.out | apply below_alloc | apply pw_below_drewN | apply below_drew1) | exact HB.out)) hb); clear HO241; clear HB; have HO241 := n0_; have HB := n1_; clear n0_ n1_; (try clear hb); (try clear hb2); (try clear hk); (try clear hi)) | (go_at_call 17; (with_reducible refine (beadrollref07_Labels.calls k t242 t243 t244 _ A6.out).mono ?_); rintro e w11 ⟨v245, rfl, ho0, hb⟩; have n0_ := Aside0.mk (Kd.R_elder' (by (with_reducible repeat (first | apply Kd.R_alloc | apply Kd.R_drewN | apply Kd.R_drew)); exact HO241.out) (Kd.R_base ho0) hb); have n1_ := Aside0.mk (Kd.R_lower (Kd.R_new' ho0 (Kd.R_lt (by (with_reducible repeat (first | apply Kd.R_alloc | apply Kd.R_drewN | apply Kd.R_drew)); exact HO241.out))) (below_size (by repeat (first | (with_reducible first | exact HB.out | apply below_alloc | apply pw_below_drewN | apply below_drew1) | exact HB.out)))); have n2_ := Aside0.mk (below_step (by repeat (first | (with_reducible first | exact HB.out | apply below_alloc | apply pw_below_drewN | apply below_drew1) | exact HB.out)) hb); clear HO241; clear HB; have HO241 := n0_; have HO246 := n1_; have HB := n2_; clear n0_ n1_ n2_; (try clear hb); (try clear hb2); (try clear hk); (try clear hi); (try clear ho0))))
  (try simp only [Act.put, List.setIfInBounds_toArray, List.set_cons_zero, List.set_cons_succ])
  go_cut [29] (fun v29 wc => ∃ (kq : Nat) (x29_6 : Bool), v29 = .bool x29_6 ∧ Aside0 (beadrollref07_Compare.j0 kq t238 t243 x29_6 = some r) ∧ Aside0 (kq ≤ k) ∧ Aside0 (Kd.R Kd.string 9 wc w.heap.size (fun k_ => some k_ ≠ (v245 : Value).ownBlock) v240 t238) ∧ Aside0 (Kd.R Kd.string 9 wc w.heap.size (fun k_ => some k_ ≠ (v240 : Value).ownBlock) v245 t243) ∧ Aside0 (Below w.heap.size w wc))
  case first =>
    have H := HC7.out
    clear HC7
    by_cases c12 : t239 = true
    · subst c12
      have H1 : (beadrollref07_Compare.j0 k t238 t243 (!t244)) = some r := by rw [if_pos rfl] at H; exact H
      clear H
      have H := H1
      clear H1
      have H' := Aside0.mk H
      clear H
      go_wp2
      repeat (go_quiet (fail); try go_wp2)
      go_meet
      case rel => exact ⟨_, (!t244), (by first | rfl | (simp; done) | (simp [*]; done)), H', ⟨by first | omega | exact Nat.le_refl _⟩, ⟨by (with_reducible repeat (first | apply Kd.R_alloc | apply Kd.R_drewN | apply Kd.R_drew)); exact Kd.R_mono HO241.out (fun _ hk => hk.2)⟩, ⟨by (with_reducible repeat (first | apply Kd.R_alloc | apply Kd.R_drewN | apply Kd.R_drew)); exact Kd.R_mono HO246.out (fun _ hk => hk.2)⟩, ⟨by repeat (first | (with_reducible first | exact HB.out | apply below_alloc | apply pw_below_drewN | apply below_drew1) | exact HB.out)⟩⟩
    · replace c12 := Bool.eq_false_iff.mpr c12
      subst c12
      have H1 : (beadrollref07_Compare.j0 k t238 t243 true) = some r := by rw [if_neg (show ¬ (false = true) by decide)] at H; exact H
      clear H
      have H := H1
      clear H1
      have H' := Aside0.mk H
      clear H
      go_wp2
      repeat (go_quiet (fail); try go_wp2)
      go_meet
      case rel => exact ⟨_, (true), (by first | rfl | (simp; done) | (simp [*]; done)), H', ⟨by first | omega | exact Nat.le_refl _⟩, ⟨by (with_reducible repeat (first | apply Kd.R_alloc | apply Kd.R_drewN | apply Kd.R_drew)); exact Kd.R_mono HO241.out (fun _ hk => hk.2)⟩, ⟨by (with_reducible repeat (first | apply Kd.R_alloc | apply Kd.R_drewN | apply Kd.R_drew)); exact Kd.R_mono HO246.out (fun _ hk => hk.2)⟩, ⟨by repeat (first | (with_reducible first | exact HB.out | apply below_alloc | apply pw_below_drewN | apply below_drew1) | exact HB.out)⟩⟩
  case rest =>
    clear HC7
    try clear c1
    try clear p2
    try clear c3
    try clear c12
    obtain ⟨kq, x29_6, rfl, HA, HJ6, HO_5, HO_7, HB⟩ := hcut
    cases kq with
    | zero => exact absurd HA.out (by simp [beadrollref07_Compare.j0])
    | succ kj6 =>
      have H := HA.out
      clear HA
      simp only [beadrollref07_Compare.j0] at H
      by_cases c13 : x29_6 = true
      · subst c13
        have H1 : (some 0) = some r := by rw [if_pos rfl] at H; exact H
        clear H
        have H := H1
        clear H1
        obtain rfl := Option.some.inj H
        go_wp2
        repeat (go_quiet (fail); try go_wp2)
        go_ret
        exact ⟨by first | rfl | (simp [errW_none, errW_some] <;> rfl) | (simp [*, errW_none, errW_some] <;> rfl), by repeat (first | (with_reducible first | exact HB.out | apply below_alloc | apply pw_below_drewN | apply below_drew1) | exact HB.out)⟩
      · replace c13 := Bool.eq_false_iff.mpr c13
        subst c13
        have H1 : (beadrollref07_Compare.l0 kj6 t238 t243 1) = some r := by rw [if_neg (show ¬ (false = true) by decide)] at H; exact H
        clear H
        have H := H1
        clear H1
        have H' := Aside0.mk H
        clear H
        go_wp2
        repeat (go_quiet (fail); try go_wp2)
        go_loopg [9] kj6 (fun kq v9 w' => ∃ (x9_2 : Int), v9 = .int .i64 x9_2 ∧ Aside0 (beadrollref07_Compare.l0 kq t238 t243 x9_2 = some r) ∧ Aside0 (kq ≤ kj6) ∧ Aside0 (Kd.R Kd.string 9 w' w.heap.size (fun k_ => some k_ ≠ (v245 : Value).ownBlock) v240 t238) ∧ Aside0 (Kd.R Kd.string 9 w' w.heap.size (fun k_ => some k_ ≠ (v240 : Value).ownBlock) v245 t243) ∧ Aside0 (Below w.heap.size w w'))
        case atStart => exact ⟨(1), (by first | rfl | (simp; done) | (simp [*]; done)), H', ⟨Nat.le_refl _⟩, ⟨by (with_reducible repeat (first | apply Kd.R_alloc | apply Kd.R_drewN | apply Kd.R_drew)); exact HO_5.out⟩, ⟨by (with_reducible repeat (first | apply Kd.R_alloc | apply Kd.R_drewN | apply Kd.R_drew)); exact HO_7.out⟩, ⟨by repeat (first | (with_reducible first | exact HB.out | apply below_alloc | apply pw_below_drewN | apply below_drew1) | exact HB.out)⟩⟩
        case round =>
          clear H'
          try clear c1
          try clear p2
          try clear c3
          try clear c12
          try clear c13
          try clear p2
          obtain ⟨x9_2, rfl, HA, HK2, HO_5, HO_7, HB⟩ := hrel
          cases gk with
          | zero => exact absurd HA.out (by simp [beadrollref07_Compare.l0])
          | succ k2 =>
            have H := HA.out
            clear HA
            simp only [beadrollref07_Compare.l0] at H
            have HC14 := Aside0.mk H
            clear H
            go_upto_region 6 with (fail)
            repeat (go_quiet (fail); go_upto_region 6 with (fail))
            go_cut [39] (fun v39 wc => ∃ (kq : Nat) (x39_13 : Bool), v39 = .bool x39_13 ∧ Aside0 (beadrollref07_Compare.j2 kq t238 t243 x9_2 x39_13 = some r) ∧ Aside0 (kq ≤ k2) ∧ Aside0 (Kd.R Kd.string 9 wc w.heap.size (fun k_ => some k_ ≠ (v245 : Value).ownBlock) v240 t238) ∧ Aside0 (Kd.R Kd.string 9 wc w.heap.size (fun k_ => some k_ ≠ (v240 : Value).ownBlock) v245 t243) ∧ Aside0 (Below w.heap.size w wc))
            case first =>
              have H := HC14.out
              clear HC14
              by_cases c15 : x9_2 ≤ (t238.length : Int)
              · rw [if_pos c15] at H
                have c15b0 : decide (x9_2 ≤ (t238.length : Int)) = true := decide_eq_true c15
                clear c15
                (first | rw [c15b0] | (simp only [i64_w, i32_w]; rw [c15b0]) | skip)
                have H' := Aside0.mk H
                clear H
                obtain ⟨Ao16, co16, eo16⟩ := Kd.R_slice HO_5.out
                subst eo16
                obtain ⟨Ao17, co17, eo17⟩ := Kd.R_slice HO_7.out
                subst eo17
                go_wp2
                repeat (go_quiet (fail); try go_wp2)
                go_meet
                case rel => exact ⟨_, (decide (x9_2 ≤ (t243.length : Int))), (by first | rfl | (simp; done) | (simp [*]; done)), H', ⟨by have := HJ6.out; have := HK2.out; first | omega | exact Nat.le_refl _⟩, ⟨by (with_reducible repeat (first | apply Kd.R_alloc | apply Kd.R_drewN | apply Kd.R_drew)); exact HO_5.out⟩, ⟨by (with_reducible repeat (first | apply Kd.R_alloc | apply Kd.R_drewN | apply Kd.R_drew)); exact HO_7.out⟩, ⟨by repeat (first | (with_reducible first | exact HB.out | apply below_alloc | apply pw_below_drewN | apply below_drew1) | exact HB.out)⟩⟩
              · rw [if_neg c15] at H
                have c15b0 : decide (x9_2 ≤ (t238.length : Int)) = false := decide_eq_false c15
                clear c15
                (first | rw [c15b0] | (simp only [i64_w, i32_w]; rw [c15b0]) | skip)
                have H' := Aside0.mk H
                clear H
                obtain ⟨Ao18, co18, eo18⟩ := Kd.R_slice HO_5.out
                subst eo18
                go_wp2
                repeat (go_quiet (fail); try go_wp2)
                go_meet
                case rel => exact ⟨_, (false), (by first | rfl | (simp; done) | (simp [*]; done)), H', ⟨by have := HJ6.out; have := HK2.out; first | omega | exact Nat.le_refl _⟩, ⟨by (with_reducible repeat (first | apply Kd.R_alloc | apply Kd.R_drewN | apply Kd.R_drew)); exact HO_5.out⟩, ⟨by (with_reducible repeat (first | apply Kd.R_alloc | apply Kd.R_drewN | apply Kd.R_drew)); exact HO_7.out⟩, ⟨by repeat (first | (with_reducible first | exact HB.out | apply below_alloc | apply pw_below_drewN | apply below_drew1) | exact HB.out)⟩⟩
            case rest =>
              clear HC14
              try clear c1
              try clear p2
              try clear c3
              try clear c12
              try clear c13
              try clear c15
              try clear c15b0
              try clear p2
              obtain ⟨kq, x39_13, rfl, HA, HJ13, HO_5, HO_7, HB⟩ := hcut
              cases kq with
              | zero => exact absurd HA.out (by simp [beadrollref07_Compare.j2])
              | succ kj13 =>
                have H := HA.out
                clear HA
                simp only [beadrollref07_Compare.j2] at H
                by_cases c19 : x39_13 = true
                · subst c19
                  have H1 : (if 0 ≤ (wrap64 ((t238.length : Int) - x9_2)) then (if (wrap64 ((t238.length : Int) - x9_2)) < (t238.length : Int) then (if 0 ≤ (wrap64 ((t243.length : Int) - x9_2)) then (if (wrap64 ((t243.length : Int) - x9_2)) < (t243.length : Int) then (if (Op.bytesLess ((rdOf ByteArray.empty t238 (wrap64 ((t238.length : Int) - x9_2))).toList) ((rdOf ByteArray.empty t243 (wrap64 ((t243.length : Int) - x9_2))).toList)) = true then (some (-1)) else (if (Op.bytesLess ((rdOf ByteArray.empty t243 (wrap64 ((t243.length : Int) - x9_2))).toList) ((rdOf ByteArray.empty t238 (wrap64 ((t238.length : Int) - x9_2))).toList)) = true then (some 1) else (beadrollref07_Compare.l0 kj13 t238 t243 (wrap64 (x9_2 + 1))))) else (none)) else (none)) else (none)) else (none)) = some r := by rw [if_pos rfl] at H; exact H
                  clear H
                  have H := H1
                  clear H1
                  obtain ⟨ji20, hji20⟩ : ∃ j_ : Int, (wrap64 ((t238.length : Int) - x9_2)) = j_ := ⟨_, rfl⟩
                  replace H : (if 0 ≤ (ji20) then (if (ji20) < (t238.length : Int) then (if 0 ≤ (wrap64 ((t243.length : Int) - x9_2)) then (if (wrap64 ((t243.length : Int) - x9_2)) < (t243.length : Int) then (if (Op.bytesLess ((rdOf ByteArray.empty t238 (ji20)).toList) ((rdOf ByteArray.empty t243 (wrap64 ((t243.length : Int) - x9_2))).toList)) = true then (some (-1)) else (if (Op.bytesLess ((rdOf ByteArray.empty t243 (wrap64 ((t243.length : Int) - x9_2))).toList) ((rdOf ByteArray.empty t238 (ji20)).toList)) = true then (some 1) else (beadrollref07_Compare.l0 kj13 t238 t243 (wrap64 (x9_2 + 1))))) else (none)) else (none)) else (none)) else (none)) = some r := by first | (rw [hji20] at H; exact H) | (simp only [hji20] at H ⊢; exact H)
                  have hji20w : (IntKind.i64.wrap ((t238.length : Int) - x9_2)) = ji20 := (i64_w _).trans hji20
                  by_cases c21 : 0 ≤ (ji20)
                  · rw [if_pos c21] at H
                    have c21b0 : decide (0 ≤ (ji20)) = true := decide_eq_true c21
                    clear c21
                    by_cases c22 : (ji20) < (t238.length : Int)
                    · rw [if_pos c22] at H
                      have c22b0 : decide ((ji20) < (t238.length : Int)) = true := decide_eq_true c22
                      clear c22
                      obtain ⟨ji23, hji23⟩ : ∃ j_ : Int, (wrap64 ((t243.length : Int) - x9_2)) = j_ := ⟨_, rfl⟩
                      replace H : (if 0 ≤ (ji23) then (if (ji23) < (t243.length : Int) then (if (Op.bytesLess ((rdOf ByteArray.empty t238 (ji20)).toList) ((rdOf ByteArray.empty t243 (ji23)).toList)) = true then (some (-1)) else (if (Op.bytesLess ((rdOf ByteArray.empty t243 (ji23)).toList) ((rdOf ByteArray.empty t238 (ji20)).toList)) = true then (some 1) else (beadrollref07_Compare.l0 kj13 t238 t243 (wrap64 (x9_2 + 1))))) else (none)) else (none)) = some r := by first | (rw [hji23] at H; exact H) | (simp only [hji23] at H ⊢; exact H)
                      have hji23w : (IntKind.i64.wrap ((t243.length : Int) - x9_2)) = ji23 := (i64_w _).trans hji23
                      by_cases c24 : 0 ≤ (ji23)
                      · rw [if_pos c24] at H
                        have c24b0 : decide (0 ≤ (ji23)) = true := decide_eq_true c24
                        clear c24
                        by_cases c25 : (ji23) < (t243.length : Int)
                        · rw [if_pos c25] at H
                          have c25b0 : decide ((ji23) < (t243.length : Int)) = true := decide_eq_true c25
                          clear c25
                          by_cases c26 : (Op.bytesLess ((rdOf ByteArray.empty t238 (ji20)).toList) ((rdOf ByteArray.empty t243 (ji23)).toList)) = true
                          · rw [if_pos c26] at H
                            have c26b0 : (Op.bytesLess ((rdOf ByteArray.empty t238 (ji20)).toList) ((rdOf ByteArray.empty t243 (ji23)).toList)) = true := c26
                            have c26b8 : (((rdOf ByteArray.empty t243 (ji23)).toList) == ((rdOf ByteArray.empty t238 (ji20)).toList)) = false := less_ne c26b0
                            clear c26
                            obtain rfl := Option.some.inj H
                            obtain ⟨Ao27, co27, eo27⟩ := Kd.R_slice HO_5.out
                            subst eo27
                            have p247 : 0 ≤ ((ji20) : Int) := of_decide_eq_true (by first | (with_reducible assumption) | assumption)
                            have q247 : (ji20) < (t238.length : Int) := of_decide_eq_true (by first | (with_reducible assumption) | assumption)
                            obtain ⟨ad247, e247, hx247_0⟩ := Kd.at_string (Kd.R_reads' HO_5.out).2.2 (ji20) p247 q247
                            cases e247
                            replace p247 := eq_true p247
                            replace q247 := eq_true q247
                            obtain ⟨Ao28, co28, eo28⟩ := Kd.R_slice HO_7.out
                            subst eo28
                            have p248 : 0 ≤ ((ji23) : Int) := of_decide_eq_true (by first | (with_reducible assumption) | assumption)
                            have q248 : (ji23) < (t243.length : Int) := of_decide_eq_true (by first | (with_reducible assumption) | assumption)
                            obtain ⟨ad248, e248, hx248_0⟩ := Kd.at_string (Kd.R_reads' HO_7.out).2.2 (ji23) p248 q248
                            cases e248
                            replace p248 := eq_true p248
                            replace q248 := eq_true q248
                            go_wp2
                            repeat (go_quiet (fail); try go_wp2)
                            go_ret
                            exact ⟨by first | rfl | (simp [errW_none, errW_some] <;> rfl) | (simp only [← hji20, ← hji23]; first | rfl | (simp [errW_none, errW_some] <;> rfl)) | (simp [*, errW_none, errW_some] <;> rfl), by repeat (first | (with_reducible first | exact HB.out | apply below_alloc | apply pw_below_drewN | apply below_drew1) | exact HB.out)⟩
                          · rw [if_neg c26] at H
                            have c26b0 : (Op.bytesLess ((rdOf ByteArray.empty t238 (ji20)).toList) ((rdOf ByteArray.empty t243 (ji23)).toList)) = false := by simpa using c26
                            try have c26b8 : (((rdOf ByteArray.empty t243 (ji23)).toList) == ((rdOf ByteArray.empty t238 (ji20)).toList)) = true := less_eq (by assumption) c26b0
                            clear c26
                            by_cases c29 : (Op.bytesLess ((rdOf ByteArray.empty t243 (ji23)).toList) ((rdOf ByteArray.empty t238 (ji20)).toList)) = true
                            · rw [if_pos c29] at H
                              have c29b0 : (Op.bytesLess ((rdOf ByteArray.empty t243 (ji23)).toList) ((rdOf ByteArray.empty t238 (ji20)).toList)) = true := c29
                              have c29b8 : (((rdOf ByteArray.empty t238 (ji20)).toList) == ((rdOf ByteArray.empty t243 (ji23)).toList)) = false := less_ne c29b0
                              clear c29
                              obtain rfl := Option.some.inj H
                              obtain ⟨Ao30, co30, eo30⟩ := Kd.R_slice HO_5.out
                              subst eo30
                              have p247 : 0 ≤ ((ji20) : Int) := of_decide_eq_true (by first | (with_reducible assumption) | assumption)
                              have q247 : (ji20) < (t238.length : Int) := of_decide_eq_true (by first | (with_reducible assumption) | assumption)
                              obtain ⟨ad247, e247, hx247_0⟩ := Kd.at_string (Kd.R_reads' HO_5.out).2.2 (ji20) p247 q247
                              cases e247
                              replace p247 := eq_true p247
                              replace q247 := eq_true q247
                              obtain ⟨Ao31, co31, eo31⟩ := Kd.R_slice HO_7.out
                              subst eo31
                              have p248 : 0 ≤ ((ji23) : Int) := of_decide_eq_true (by first | (with_reducible assumption) | assumption)
                              have q248 : (ji23) < (t243.length : Int) := of_decide_eq_true (by first | (with_reducible assumption) | assumption)
                              obtain ⟨ad248, e248, hx248_0⟩ := Kd.at_string (Kd.R_reads' HO_7.out).2.2 (ji23) p248 q248
                              cases e248
                              replace p248 := eq_true p248
                              replace q248 := eq_true q248
                              go_wp2
                              repeat (go_quiet (fail); try go_wp2)
                              go_ret
                              exact ⟨by first | rfl | (simp [errW_none, errW_some] <;> rfl) | (simp only [← hji20, ← hji23]; first | rfl | (simp [errW_none, errW_some] <;> rfl)) | (simp [*, errW_none, errW_some] <;> rfl), by repeat (first | (with_reducible first | exact HB.out | apply below_alloc | apply pw_below_drewN | apply below_drew1) | exact HB.out)⟩
                            · rw [if_neg c29] at H
                              have c29b0 : (Op.bytesLess ((rdOf ByteArray.empty t243 (ji23)).toList) ((rdOf ByteArray.empty t238 (ji20)).toList)) = false := by simpa using c29
                              try have c29b8 : (((rdOf ByteArray.empty t238 (ji20)).toList) == ((rdOf ByteArray.empty t243 (ji23)).toList)) = true := less_eq (by assumption) c29b0
                              clear c29
                              have H' := Aside0.mk H
                              clear H
                              obtain ⟨Ao32, co32, eo32⟩ := Kd.R_slice HO_5.out
                              subst eo32
                              have p247 : 0 ≤ ((ji20) : Int) := of_decide_eq_true (by first | (with_reducible assumption) | assumption)
                              have q247 : (ji20) < (t238.length : Int) := of_decide_eq_true (by first | (with_reducible assumption) | assumption)
                              obtain ⟨ad247, e247, hx247_0⟩ := Kd.at_string (Kd.R_reads' HO_5.out).2.2 (ji20) p247 q247
                              cases e247
                              replace p247 := eq_true p247
                              replace q247 := eq_true q247
                              obtain ⟨Ao33, co33, eo33⟩ := Kd.R_slice HO_7.out
                              subst eo33
                              have p248 : 0 ≤ ((ji23) : Int) := of_decide_eq_true (by first | (with_reducible assumption) | assumption)
                              have q248 : (ji23) < (t243.length : Int) := of_decide_eq_true (by first | (with_reducible assumption) | assumption)
                              obtain ⟨ad248, e248, hx248_0⟩ := Kd.at_string (Kd.R_reads' HO_7.out).2.2 (ji23) p248 q248
                              cases e248
                              replace p248 := eq_true p248
                              replace q248 := eq_true q248
                              go_wp2
                              repeat (go_quiet (fail); try go_wp2)
                              go_roundg kj13
                              case measure => have := HJ6.out; have := HK2.out; have := HJ13.out; omega
                              case rel => exact ⟨(wrap64 (x9_2 + 1)), (by first | rfl | (simp; done) | (simp [*]; done)), H', ⟨by have := HJ6.out; have := HK2.out; have := HJ13.out; omega⟩, ⟨by (with_reducible repeat (first | apply Kd.R_alloc | apply Kd.R_drewN | apply Kd.R_drew)); exact HO_5.out⟩, ⟨by (with_reducible repeat (first | apply Kd.R_alloc | apply Kd.R_drewN | apply Kd.R_drew)); exact HO_7.out⟩, ⟨by repeat (first | (with_reducible first | exact HB.out | apply below_alloc | apply pw_below_drewN | apply below_drew1) | exact HB.out)⟩⟩
                        · rw [if_neg c25] at H
                          exact absurd H (by simp)
                      · rw [if_neg c24] at H
                        exact absurd H (by simp)
                    · rw [if_neg c22] at H
                      exact absurd H (by simp)
                  · rw [if_neg c21] at H
                    exact absurd H (by simp)
                · replace c19 := Bool.eq_false_iff.mpr c19
                  subst c19
                  have H1 : (if (t238.length : Int) < (t243.length : Int) then (some (-1)) else (if (t238.length : Int) > (t243.length : Int) then (some 1) else (some 0))) = some r := by rw [if_neg (show ¬ (false = true) by decide)] at H; exact H
                  clear H
                  have H := H1
                  clear H1
                  by_cases c34 : (t238.length : Int) < (t243.length : Int)
                  · rw [if_pos c34] at H
                    have c34b0 : decide ((t238.length : Int) < (t243.length : Int)) = true := decide_eq_true c34
                    have c34b1 : decide (t238.length < t243.length) = true := decide_eq_true (Int.ofNat_lt.mp c34)
                    clear c34
                    obtain rfl := Option.some.inj H
                    obtain ⟨Ao35, co35, eo35⟩ := Kd.R_slice HO_5.out
                    subst eo35
                    obtain ⟨Ao36, co36, eo36⟩ := Kd.R_slice HO_7.out
                    subst eo36
                    go_wp2
                    repeat (go_quiet (fail); try go_wp2)
                    go_ret
                    exact ⟨by first | rfl | (simp [errW_none, errW_some] <;> rfl) | (simp [*, errW_none, errW_some] <;> rfl), by repeat (first | (with_reducible first | exact HB.out | apply below_alloc | apply pw_below_drewN | apply below_drew1) | exact HB.out)⟩
                  · rw [if_neg c34] at H
                    have c34b0 : decide ((t238.length : Int) < (t243.length : Int)) = false := decide_eq_false c34
                    have c34b1 : decide (t238.length < t243.length) = false := decide_eq_false (fun h => c34 (Int.ofNat_lt.mpr h))
                    clear c34
                    by_cases c37 : (t238.length : Int) > (t243.length : Int)
                    · rw [if_pos c37] at H
                      have c37b0 : decide ((t243.length : Int) < (t238.length : Int)) = true := decide_eq_true c37
                      have c37b1 : decide (t243.length < t238.length) = true := decide_eq_true (Int.ofNat_lt.mp c37)
                      clear c37
                      obtain rfl := Option.some.inj H
                      obtain ⟨Ao38, co38, eo38⟩ := Kd.R_slice HO_5.out
                      subst eo38
                      obtain ⟨Ao39, co39, eo39⟩ := Kd.R_slice HO_7.out
                      subst eo39
                      go_wp2
                      repeat (go_quiet (fail); try go_wp2)
                      go_ret
                      exact ⟨by first | rfl | (simp [errW_none, errW_some] <;> rfl) | (simp [*, errW_none, errW_some] <;> rfl), by repeat (first | (with_reducible first | exact HB.out | apply below_alloc | apply pw_below_drewN | apply below_drew1) | exact HB.out)⟩
                    · rw [if_neg c37] at H
                      have c37b0 : decide ((t243.length : Int) < (t238.length : Int)) = false := decide_eq_false c37
                      have c37b1 : decide (t243.length < t238.length) = false := decide_eq_false (fun h => c37 (Int.ofNat_lt.mpr h))
                      clear c37
                      obtain rfl := Option.some.inj H
                      obtain ⟨Ao40, co40, eo40⟩ := Kd.R_slice HO_5.out
                      subst eo40
                      obtain ⟨Ao41, co41, eo41⟩ := Kd.R_slice HO_7.out
                      subst eo41
                      go_wp2
                      repeat (go_quiet (fail); try go_wp2)
                      go_ret
                      exact ⟨by first | rfl | (simp [errW_none, errW_some] <;> rfl) | (simp [*, errW_none, errW_some] <;> rfl), by repeat (first | (with_reducible first | exact HB.out | apply below_alloc | apply pw_below_drewN | apply below_drew1) | exact HB.out)⟩

/-! ### beadrollref07_Under: function 31 -/
mutual
def beadrollref07_Under.j0 : Nat → List ByteArray → List ByteArray → Bool → Option (Bool)
  | 0, _, _, _ => none
  | k + 1, x5, x7, x34 => if x34 = true then (some false) else (beadrollref07_Under.l0 k x5 x7 0)
def beadrollref07_Under.l0 : Nat → List ByteArray → List ByteArray → Int → Option (Bool)
  | 0, _, _, _ => none
  | k + 1, x5, x7, x9 => if x9 < (x7.length : Int) then (if 0 ≤ (wrap64 ((wrap64 ((x5.length : Int) - 1)) - x9)) then (if (wrap64 ((wrap64 ((x5.length : Int) - 1)) - x9)) < (x5.length : Int) then (if 0 ≤ (wrap64 ((wrap64 ((x7.length : Int) - 1)) - x9)) then (if (wrap64 ((wrap64 ((x7.length : Int) - 1)) - x9)) < (x7.length : Int) then (if (rdOf ByteArray.empty x5 (wrap64 ((wrap64 ((x5.length : Int) - 1)) - x9))).toList = (rdOf ByteArray.empty x7 (wrap64 ((wrap64 ((x7.length : Int) - 1)) - x9))).toList then (beadrollref07_Under.l0 k x5 x7 (wrap64 (x9 + 1))) else (some false)) else (none)) else (none)) else (none)) else (none)) else (some true)
end
def beadrollref07_Under.f (k : Nat) (a0 : ByteArray) (a1 : ByteArray) : Option (Bool) := (beadrollref07_Fold.f k a0).bind fun t249 => ((beadrollref07_Labels.f k t249).bind fun bt250 => ((beadrollref07_Fold.f k a1).bind fun t254 => ((beadrollref07_Labels.f k t254).bind fun bt255 => (if bt250.2 = true then (if bt255.2 = true then (beadrollref07_Under.j0 k bt250.1 bt255.1 (decide ((bt250.1.length : Int) < (bt255.1.length : Int)))) else (beadrollref07_Under.j0 k bt250.1 bt255.1 true)) else (beadrollref07_Under.j0 k bt250.1 bt255.1 true)))))
theorem beadrollref07_Under.mono_l : ∀ k, (∀ y0 y1 y2, LeO (beadrollref07_Under.j0 k y0 y1 y2) (beadrollref07_Under.j0 (k + 1) y0 y1 y2)) ∧ (∀ y0 y1 y2, LeO (beadrollref07_Under.l0 k y0 y1 y2) (beadrollref07_Under.l0 (k + 1) y0 y1 y2))
  | 0 => ⟨fun _ _ _ r h => by simp [beadrollref07_Under.j0] at h, fun _ _ _ r h => by simp [beadrollref07_Under.l0] at h⟩
  | k + 1 => by
    obtain ⟨ih0, ih1⟩ := beadrollref07_Under.mono_l k
    refine ⟨?_, ?_⟩
    · intro y0 y1 y2
      unfold beadrollref07_Under.j0
      repeat' first
      | (with_reducible exact ih0 _ _ _)
      | (with_reducible exact ih1 _ _ _)
      | (with_reducible exact beadrollref07_Fold.mono _ _)
      | (with_reducible exact beadrollref07_Labels.mono _ _)
      | (with_reducible exact LeO.refl _)
      | (with_reducible exact LeO.none _)
      | (with_reducible refine LeO.ite ?_ ?_)
      | (with_reducible refine LeO.bind ?_ (fun _ => ?_))
      | exact ih0 _ _ _
      | exact ih1 _ _ _
      | exact beadrollref07_Fold.mono _ _
      | exact beadrollref07_Labels.mono _ _
      | exact LeO.none _
      | refine LeO.ite ?_ ?_
      | refine LeO.bind ?_ (fun _ => ?_)
    · intro y0 y1 y2
      unfold beadrollref07_Under.l0
      repeat' first
      | (with_reducible exact ih0 _ _ _)
      | (with_reducible exact ih1 _ _ _)
      | (with_reducible exact beadrollref07_Fold.mono _ _)
      | (with_reducible exact beadrollref07_Labels.mono _ _)
      | (with_reducible exact LeO.refl _)
      | (with_reducible exact LeO.none _)
      | (with_reducible refine LeO.ite ?_ ?_)
      | (with_reducible refine LeO.bind ?_ (fun _ => ?_))
      | exact ih0 _ _ _
      | exact ih1 _ _ _
      | exact beadrollref07_Fold.mono _ _
      | exact beadrollref07_Labels.mono _ _
      | exact LeO.none _
      | refine LeO.ite ?_ ?_
      | refine LeO.bind ?_ (fun _ => ?_)
theorem beadrollref07_Under.mono : ∀ a0 a1 k, LeO (beadrollref07_Under.f k a0 a1) (beadrollref07_Under.f (k + 1) a0 a1) := by
  intro a0 a1 k
  obtain ⟨ih0, ih1⟩ := beadrollref07_Under.mono_l k
  unfold beadrollref07_Under.f
  repeat' first
      | (with_reducible exact ih0 _ _ _)
      | (with_reducible exact ih1 _ _ _)
      | (with_reducible exact beadrollref07_Fold.mono _ _)
      | (with_reducible exact beadrollref07_Labels.mono _ _)
      | (with_reducible exact LeO.refl _)
      | (with_reducible exact LeO.none _)
      | (with_reducible refine LeO.ite ?_ ?_)
      | (with_reducible refine LeO.bind ?_ (fun _ => ?_))
      | exact ih0 _ _ _
      | exact ih1 _ _ _
      | exact beadrollref07_Fold.mono _ _
      | exact beadrollref07_Labels.mono _ _
      | exact LeO.none _
      | refine LeO.ite ?_ ?_
      | refine LeO.bind ?_ (fun _ => ?_)
set_option maxHeartbeats 8000000 in
set_option maxRecDepth 100000 in
theorem beadrollref07_Under.calls (k : Nat) (a0 : ByteArray) (a1 : ByteArray) (r : Bool) (w : World) (h : beadrollref07_Under.f k a0 a1 = some r) :
    Calls Try.prog 31 #[.string a0, .string a1] w fun e w' => e = .returned (.bool r) ∧ Below w.heap.size w w' := by
  have HB := Aside0.mk (Below.refl w.heap.size w)
  have H : ((beadrollref07_Fold.f k a0).bind fun t249 => ((beadrollref07_Labels.f k t249).bind fun bt250 => ((beadrollref07_Fold.f k a1).bind fun t254 => ((beadrollref07_Labels.f k t254).bind fun bt255 => (if bt250.2 = true then (if bt255.2 = true then (beadrollref07_Under.j0 k bt250.1 bt255.1 (decide ((bt250.1.length : Int) < (bt255.1.length : Int)))) else (beadrollref07_Under.j0 k bt250.1 bt255.1 true)) else (beadrollref07_Under.j0 k bt250.1 bt255.1 true)))))) = some r := h
  clear h
  replace H := Option.bind_eq_some_iff.mp H
  obtain ⟨t249, A30, H⟩ := H
  replace H : ((beadrollref07_Labels.f k t249).bind fun bt250 => ((beadrollref07_Fold.f k a1).bind fun t254 => ((beadrollref07_Labels.f k t254).bind fun bt255 => (if bt250.2 = true then (if bt255.2 = true then (beadrollref07_Under.j0 k bt250.1 bt255.1 (decide ((bt250.1.length : Int) < (bt255.1.length : Int)))) else (beadrollref07_Under.j0 k bt250.1 bt255.1 true)) else (beadrollref07_Under.j0 k bt250.1 bt255.1 true))))) = some r := H
  have A3 := Aside0.mk A30
  clear A30
  replace H := Option.bind_eq_some_iff.mp H
  obtain ⟨⟨t250, t251⟩, A40, H⟩ := H
  replace H : ((beadrollref07_Fold.f k a1).bind fun t254 => ((beadrollref07_Labels.f k t254).bind fun bt255 => (if t251 = true then (if bt255.2 = true then (beadrollref07_Under.j0 k t250 bt255.1 (decide ((t250.length : Int) < (bt255.1.length : Int)))) else (beadrollref07_Under.j0 k t250 bt255.1 true)) else (beadrollref07_Under.j0 k t250 bt255.1 true)))) = some r := H
  have A4 := Aside0.mk A40
  clear A40
  replace H := Option.bind_eq_some_iff.mp H
  obtain ⟨t254, A50, H⟩ := H
  replace H : ((beadrollref07_Labels.f k t254).bind fun bt255 => (if t251 = true then (if bt255.2 = true then (beadrollref07_Under.j0 k t250 bt255.1 (decide ((t250.length : Int) < (bt255.1.length : Int)))) else (beadrollref07_Under.j0 k t250 bt255.1 true)) else (beadrollref07_Under.j0 k t250 bt255.1 true))) = some r := H
  have A5 := Aside0.mk A50
  clear A50
  replace H := Option.bind_eq_some_iff.mp H
  obtain ⟨⟨t255, t256⟩, A60, H⟩ := H
  replace H : (if t251 = true then (if t256 = true then (beadrollref07_Under.j0 k t250 t255 (decide ((t250.length : Int) < (t255.length : Int)))) else (beadrollref07_Under.j0 k t250 t255 true)) else (beadrollref07_Under.j0 k t250 t255 true)) = some r := H
  have A6 := Aside0.mk A60
  clear A60
  have HC7 := Aside0.mk H
  clear H
  go_enter Try.func31, Try.ntmps31
  go_upto_region 3 with (first | (go_at_call 37; (with_reducible refine (beadrollref07_Fold.calls k a0 t249 _ A3.out).mono ?_); rintro e w8 ⟨rfl, hb⟩; have n0_ := Aside0.mk (below_step (by repeat (first | (with_reducible first | exact HB.out | apply below_alloc | apply pw_below_drewN | apply below_drew1) | exact HB.out)) hb); clear HB; have HB := n0_; clear n0_; (try clear hb); (try clear hb2); (try clear hk); (try clear hi)) | (go_at_call 17; (with_reducible refine (beadrollref07_Labels.calls k t249 t250 t251 _ A4.out).mono ?_); rintro e w9 ⟨v252, rfl, ho0, hb⟩; have n0_ := Aside0.mk (Kd.R_lower ho0 (below_size (by repeat (first | (with_reducible first | exact HB.out | apply below_alloc | apply pw_below_drewN | apply below_drew1) | exact HB.out)))); have n1_ := Aside0.mk (below_step (by repeat (first | (with_reducible first | exact HB.out | apply below_alloc | apply pw_below_drewN | apply below_drew1) | exact HB.out)) hb); clear HB; have HO253 := n0_; have HB := n1_; clear n0_ n1_; (try clear hb); (try clear hb2); (try clear hk); (try clear hi); (try clear ho0)) | (go_at_call 37; (with_reducible refine (beadrollref07_Fold.calls k a1 t254 _ A5.out).mono ?_); rintro e w10 ⟨rfl, hb⟩; have n0_ := Aside0.mk (Kd.R_below (by (with_reducible repeat (first | apply Kd.R_alloc | apply Kd.R_drewN | apply Kd.R_drew)); exact HO253.out) hb); have n1_ := Aside0.mk (below_step (by repeat (first | (with_reducible first | exact HB.out | apply below_alloc | apply pw_below_drewN | apply below_drew1) | exact HB.out)) hb); clear HO253; clear HB; have HO253 := n0_; have HB := n1_; clear n0_ n1_; (try clear hb); (try clear hb2); (try clear hk); (try clear hi)) | (go_at_call 17; (with_reducible refine (beadrollref07_Labels.calls k t254 t255 t256 _ A6.out).mono ?_); rintro e w11 ⟨v257, rfl, ho0, hb⟩; have n0_ := Aside0.mk (Kd.R_elder' (by (with_reducible repeat (first | apply Kd.R_alloc | apply Kd.R_drewN | apply Kd.R_drew)); exact HO253.out) (Kd.R_base ho0) hb); have n1_ := Aside0.mk (Kd.R_lower (Kd.R_new' ho0 (Kd.R_lt (by (with_reducible repeat (first | apply Kd.R_alloc | apply Kd.R_drewN | apply Kd.R_drew)); exact HO253.out))) (below_size (by repeat (first | (with_reducible first | exact HB.out | apply below_alloc | apply pw_below_drewN | apply below_drew1) | exact HB.out)))); have n2_ := Aside0.mk (below_step (by repeat (first | (with_reducible first | exact HB.out | apply below_alloc | apply pw_below_drewN | apply below_drew1) | exact HB.out)) hb); clear HO253; clear HB; have HO253 := n0_; have HO258 := n1_; have HB := n2_; clear n0_ n1_ n2_; (try clear hb); (try clear hb2); (try clear hk); (try clear hi); (try clear ho0)))
  repeat (go_quiet (first | (go_at_call 37; (with_reducible refine (beadrollref07_Fold.calls k a0 t249 _ A3.out).mono ?_); rintro e w8 ⟨rfl, hb⟩; have n0_ := Aside0.mk (below_step (by repeat (first | (with_reducible first | exact HB.out | apply below_alloc | apply pw_below_drewN | apply below_drew1) | exact HB.out)) hb); clear HB; have HB := n0_; clear n0_; (try clear hb); (try clear hb2); (try clear hk); (try clear hi)) | (go_at_call 17; (with_reducible refine (beadrollref07_Labels.calls k t249 t250 t251 _ A4.out).mono ?_); rintro e w9 ⟨v252, rfl, ho0, hb⟩; have n0_ := Aside0.mk (Kd.R_lower ho0 (below_size (by repeat (first | (with_reducible first | exact HB.out | apply below_alloc | apply pw_below_drewN | apply below_drew1) | exact HB.out)))); have n1_ := Aside0.mk (below_step (by repeat (first | (with_reducible first | exact HB.out | apply below_alloc | apply pw_below_drewN | apply below_drew1) | exact HB.out)) hb); clear HB; have HO253 := n0_; have HB := n1_; clear n0_ n1_; (try clear hb); (try clear hb2); (try clear hk); (try clear hi); (try clear ho0)) | (go_at_call 37; (with_reducible refine (beadrollref07_Fold.calls k a1 t254 _ A5.out).mono ?_); rintro e w10 ⟨rfl, hb⟩; have n0_ := Aside0.mk (Kd.R_below (by (with_reducible repeat (first | apply Kd.R_alloc | apply Kd.R_drewN | apply Kd.R_drew)); exact HO253.out) hb); have n1_ := Aside0.mk (below_step (by repeat (first | (with_reducible first | exact HB.out | apply below_alloc | apply pw_below_drewN | apply below_drew1) | exact HB.out)) hb); clear HO253; clear HB; have HO253 := n0_; have HB := n1_; clear n0_ n1_; (try clear hb); (try clear hb2); (try clear hk); (try clear hi)) | (go_at_call 17; (with_reducible refine (beadrollref07_Labels.calls k t254 t255 t256 _ A6.out).mono ?_); rintro e w11 ⟨v257, rfl, ho0, hb⟩; have n0_ := Aside0.mk (Kd.R_elder' (by (with_reducible repeat (first | apply Kd.R_alloc | apply Kd.R_drewN | apply Kd.R_drew)); exact HO253.out) (Kd.R_base ho0) hb); have n1_ := Aside0.mk (Kd.R_lower (Kd.R_new' ho0 (Kd.R_lt (by (with_reducible repeat (first | apply Kd.R_alloc | apply Kd.R_drewN | apply Kd.R_drew)); exact HO253.out))) (below_size (by repeat (first | (with_reducible first | exact HB.out | apply below_alloc | apply pw_below_drewN | apply below_drew1) | exact HB.out)))); have n2_ := Aside0.mk (below_step (by repeat (first | (with_reducible first | exact HB.out | apply below_alloc | apply pw_below_drewN | apply below_drew1) | exact HB.out)) hb); clear HO253; clear HB; have HO253 := n0_; have HO258 := n1_; have HB := n2_; clear n0_ n1_ n2_; (try clear hb); (try clear hb2); (try clear hk); (try clear hi); (try clear ho0))); go_upto_region 3 with (first | (go_at_call 37; (with_reducible refine (beadrollref07_Fold.calls k a0 t249 _ A3.out).mono ?_); rintro e w8 ⟨rfl, hb⟩; have n0_ := Aside0.mk (below_step (by repeat (first | (with_reducible first | exact HB.out | apply below_alloc | apply pw_below_drewN | apply below_drew1) | exact HB.out)) hb); clear HB; have HB := n0_; clear n0_; (try clear hb); (try clear hb2); (try clear hk); (try clear hi)) | (go_at_call 17; (with_reducible refine (beadrollref07_Labels.calls k t249 t250 t251 _ A4.out).mono ?_); rintro e w9 ⟨v252, rfl, ho0, hb⟩; have n0_ := Aside0.mk (Kd.R_lower ho0 (below_size (by repeat (first | (with_reducible first | exact HB.out | apply below_alloc | apply pw_below_drewN | apply below_drew1) | exact HB.out)))); have n1_ := Aside0.mk (below_step (by repeat (first | (with_reducible first | exact HB.out | apply below_alloc | apply pw_below_drewN | apply below_drew1) | exact HB.out)) hb); clear HB; have HO253 := n0_; have HB := n1_; clear n0_ n1_; (try clear hb); (try clear hb2); (try clear hk); (try clear hi); (try clear ho0)) | (go_at_call 37; (with_reducible refine (beadrollref07_Fold.calls k a1 t254 _ A5.out).mono ?_); rintro e w10 ⟨rfl, hb⟩; have n0_ := Aside0.mk (Kd.R_below (by (with_reducible repeat (first | apply Kd.R_alloc | apply Kd.R_drewN | apply Kd.R_drew)); exact HO253.out) hb); have n1_ := Aside0.mk (below_step (by repeat (first | (with_reducible first | exact HB.out | apply below_alloc | apply pw_below_drewN | apply below_drew1) | exact HB.out)) hb); clear HO253; clear HB; have HO253 := n0_; have HB := n1_; clear n0_ n1_; (try clear hb); (try clear hb2); (try clear hk); (try clear hi)) | (go_at_call 17; (with_reducible refine (beadrollref07_Labels.calls k t254 t255 t256 _ A6.out).mono ?_); rintro e w11 ⟨v257, rfl, ho0, hb⟩; have n0_ := Aside0.mk (Kd.R_elder' (by (with_reducible repeat (first | apply Kd.R_alloc | apply Kd.R_drewN | apply Kd.R_drew)); exact HO253.out) (Kd.R_base ho0) hb); have n1_ := Aside0.mk (Kd.R_lower (Kd.R_new' ho0 (Kd.R_lt (by (with_reducible repeat (first | apply Kd.R_alloc | apply Kd.R_drewN | apply Kd.R_drew)); exact HO253.out))) (below_size (by repeat (first | (with_reducible first | exact HB.out | apply below_alloc | apply pw_below_drewN | apply below_drew1) | exact HB.out)))); have n2_ := Aside0.mk (below_step (by repeat (first | (with_reducible first | exact HB.out | apply below_alloc | apply pw_below_drewN | apply below_drew1) | exact HB.out)) hb); clear HO253; clear HB; have HO253 := n0_; have HO258 := n1_; have HB := n2_; clear n0_ n1_ n2_; (try clear hb); (try clear hb2); (try clear hk); (try clear hi); (try clear ho0))))
  (try simp only [Act.put, List.setIfInBounds_toArray, List.set_cons_zero, List.set_cons_succ])
  go_cut [34] (fun v34 wc => ∃ (kq : Nat) (x34_6 : Bool), v34 = .bool x34_6 ∧ Aside0 (beadrollref07_Under.j0 kq t250 t255 x34_6 = some r) ∧ Aside0 (kq ≤ k) ∧ Aside0 (Kd.R Kd.string 9 wc w.heap.size (fun k_ => some k_ ≠ (v257 : Value).ownBlock) v252 t250) ∧ Aside0 (Kd.R Kd.string 9 wc w.heap.size (fun k_ => some k_ ≠ (v252 : Value).ownBlock) v257 t255) ∧ Aside0 (Below w.heap.size w wc))
  case first =>
    have H := HC7.out
    clear HC7
    by_cases c12 : t251 = true
    · subst c12
      have H1 : (if t256 = true then (beadrollref07_Under.j0 k t250 t255 (decide ((t250.length : Int) < (t255.length : Int)))) else (beadrollref07_Under.j0 k t250 t255 true)) = some r := by rw [if_pos rfl] at H; exact H
      clear H
      have H := H1
      clear H1
      by_cases c13 : t256 = true
      · subst c13
        have H1 : (beadrollref07_Under.j0 k t250 t255 (decide ((t250.length : Int) < (t255.length : Int)))) = some r := by rw [if_pos rfl] at H; exact H
        clear H
        have H := H1
        clear H1
        have H' := Aside0.mk H
        clear H
        obtain ⟨Ao14, co14, eo14⟩ := Kd.R_slice HO253.out
        subst eo14
        obtain ⟨Ao15, co15, eo15⟩ := Kd.R_slice HO258.out
        subst eo15
        go_wp2
        repeat (go_quiet (fail); try go_wp2)
        go_meet
        case rel => exact ⟨_, (decide ((t250.length : Int) < (t255.length : Int))), (by first | rfl | (simp; done) | (simp [*]; done)), H', ⟨by first | omega | exact Nat.le_refl _⟩, ⟨by (with_reducible repeat (first | apply Kd.R_alloc | apply Kd.R_drewN | apply Kd.R_drew)); exact Kd.R_mono HO253.out (fun _ hk => hk.2)⟩, ⟨by (with_reducible repeat (first | apply Kd.R_alloc | apply Kd.R_drewN | apply Kd.R_drew)); exact Kd.R_mono HO258.out (fun _ hk => hk.2)⟩, ⟨by repeat (first | (with_reducible first | exact HB.out | apply below_alloc | apply pw_below_drewN | apply below_drew1) | exact HB.out)⟩⟩
      · replace c13 := Bool.eq_false_iff.mpr c13
        subst c13
        have H1 : (beadrollref07_Under.j0 k t250 t255 true) = some r := by rw [if_neg (show ¬ (false = true) by decide)] at H; exact H
        clear H
        have H := H1
        clear H1
        have H' := Aside0.mk H
        clear H
        go_wp2
        repeat (go_quiet (fail); try go_wp2)
        go_meet
        case rel => exact ⟨_, (true), (by first | rfl | (simp; done) | (simp [*]; done)), H', ⟨by first | omega | exact Nat.le_refl _⟩, ⟨by (with_reducible repeat (first | apply Kd.R_alloc | apply Kd.R_drewN | apply Kd.R_drew)); exact Kd.R_mono HO253.out (fun _ hk => hk.2)⟩, ⟨by (with_reducible repeat (first | apply Kd.R_alloc | apply Kd.R_drewN | apply Kd.R_drew)); exact Kd.R_mono HO258.out (fun _ hk => hk.2)⟩, ⟨by repeat (first | (with_reducible first | exact HB.out | apply below_alloc | apply pw_below_drewN | apply below_drew1) | exact HB.out)⟩⟩
    · replace c12 := Bool.eq_false_iff.mpr c12
      subst c12
      have H1 : (beadrollref07_Under.j0 k t250 t255 true) = some r := by rw [if_neg (show ¬ (false = true) by decide)] at H; exact H
      clear H
      have H := H1
      clear H1
      have H' := Aside0.mk H
      clear H
      go_wp2
      repeat (go_quiet (fail); try go_wp2)
      go_meet
      case rel => exact ⟨_, (true), (by first | rfl | (simp; done) | (simp [*]; done)), H', ⟨by first | omega | exact Nat.le_refl _⟩, ⟨by (with_reducible repeat (first | apply Kd.R_alloc | apply Kd.R_drewN | apply Kd.R_drew)); exact Kd.R_mono HO253.out (fun _ hk => hk.2)⟩, ⟨by (with_reducible repeat (first | apply Kd.R_alloc | apply Kd.R_drewN | apply Kd.R_drew)); exact Kd.R_mono HO258.out (fun _ hk => hk.2)⟩, ⟨by repeat (first | (with_reducible first | exact HB.out | apply below_alloc | apply pw_below_drewN | apply below_drew1) | exact HB.out)⟩⟩
  case rest =>
    clear HC7
    try clear c1
    try clear p2
    try clear c3
    try clear c12
    try clear c13
    obtain ⟨kq, x34_6, rfl, HA, HJ6, HO_5, HO_7, HB⟩ := hcut
    cases kq with
    | zero => exact absurd HA.out (by simp [beadrollref07_Under.j0])
    | succ kj6 =>
      have H := HA.out
      clear HA
      simp only [beadrollref07_Under.j0] at H
      by_cases c16 : x34_6 = true
      · subst c16
        have H1 : (some false) = some r := by rw [if_pos rfl] at H; exact H
        clear H
        have H := H1
        clear H1
        obtain rfl := Option.some.inj H
        go_wp2
        repeat (go_quiet (fail); try go_wp2)
        go_ret
        exact ⟨by first | rfl | (simp [errW_none, errW_some] <;> rfl) | (simp [*, errW_none, errW_some] <;> rfl), by repeat (first | (with_reducible first | exact HB.out | apply below_alloc | apply pw_below_drewN | apply below_drew1) | exact HB.out)⟩
      · replace c16 := Bool.eq_false_iff.mpr c16
        subst c16
        have H1 : (beadrollref07_Under.l0 kj6 t250 t255 0) = some r := by rw [if_neg (show ¬ (false = true) by decide)] at H; exact H
        clear H
        have H := H1
        clear H1
        have H' := Aside0.mk H
        clear H
        go_wp2
        repeat (go_quiet (fail); try go_wp2)
        go_loopg [9] kj6 (fun kq v9 w' => ∃ (x9_2 : Int), v9 = .int .i64 x9_2 ∧ Aside0 (beadrollref07_Under.l0 kq t250 t255 x9_2 = some r) ∧ Aside0 (kq ≤ kj6) ∧ Aside0 (Kd.R Kd.string 9 w' w.heap.size (fun k_ => some k_ ≠ (v257 : Value).ownBlock) v252 t250) ∧ Aside0 (Kd.R Kd.string 9 w' w.heap.size (fun k_ => some k_ ≠ (v252 : Value).ownBlock) v257 t255) ∧ Aside0 (Below w.heap.size w w'))
        case atStart => exact ⟨(0), (by first | rfl | (simp; done) | (simp [*]; done)), H', ⟨Nat.le_refl _⟩, ⟨by (with_reducible repeat (first | apply Kd.R_alloc | apply Kd.R_drewN | apply Kd.R_drew)); exact HO_5.out⟩, ⟨by (with_reducible repeat (first | apply Kd.R_alloc | apply Kd.R_drewN | apply Kd.R_drew)); exact HO_7.out⟩, ⟨by repeat (first | (with_reducible first | exact HB.out | apply below_alloc | apply pw_below_drewN | apply below_drew1) | exact HB.out)⟩⟩
        case round =>
          clear H'
          try clear c1
          try clear p2
          try clear c3
          try clear c12
          try clear c13
          try clear c16
          try clear p2
          obtain ⟨x9_2, rfl, HA, HK2, HO_5, HO_7, HB⟩ := hrel
          cases gk with
          | zero => exact absurd HA.out (by simp [beadrollref07_Under.l0])
          | succ k2 =>
            have H := HA.out
            clear HA
            simp only [beadrollref07_Under.l0] at H
            by_cases c17 : x9_2 < (t255.length : Int)
            · rw [if_pos c17] at H
              have c17b0 : decide (x9_2 < (t255.length : Int)) = true := decide_eq_true c17
              clear c17
              obtain ⟨ji18, hji18⟩ : ∃ j_ : Int, (wrap64 ((wrap64 ((t250.length : Int) - 1)) - x9_2)) = j_ := ⟨_, rfl⟩
              replace H : (if 0 ≤ (ji18) then (if (ji18) < (t250.length : Int) then (if 0 ≤ (wrap64 ((wrap64 ((t255.length : Int) - 1)) - x9_2)) then (if (wrap64 ((wrap64 ((t255.length : Int) - 1)) - x9_2)) < (t255.length : Int) then (if (rdOf ByteArray.empty t250 (ji18)).toList = (rdOf ByteArray.empty t255 (wrap64 ((wrap64 ((t255.length : Int) - 1)) - x9_2))).toList then (beadrollref07_Under.l0 k2 t250 t255 (wrap64 (x9_2 + 1))) else (some false)) else (none)) else (none)) else (none)) else (none)) = some r := by first | (rw [hji18] at H; exact H) | (simp only [hji18] at H ⊢; exact H)
              have hji18w : (IntKind.i64.wrap ((wrap64 ((t250.length : Int) - 1)) - x9_2)) = ji18 := (i64_w _).trans hji18
              by_cases c19 : 0 ≤ (ji18)
              · rw [if_pos c19] at H
                have c19b0 : decide (0 ≤ (ji18)) = true := decide_eq_true c19
                clear c19
                by_cases c20 : (ji18) < (t250.length : Int)
                · rw [if_pos c20] at H
                  have c20b0 : decide ((ji18) < (t250.length : Int)) = true := decide_eq_true c20
                  clear c20
                  obtain ⟨ji21, hji21⟩ : ∃ j_ : Int, (wrap64 ((wrap64 ((t255.length : Int) - 1)) - x9_2)) = j_ := ⟨_, rfl⟩
                  replace H : (if 0 ≤ (ji21) then (if (ji21) < (t255.length : Int) then (if (rdOf ByteArray.empty t250 (ji18)).toList = (rdOf ByteArray.empty t255 (ji21)).toList then (beadrollref07_Under.l0 k2 t250 t255 (wrap64 (x9_2 + 1))) else (some false)) else (none)) else (none)) = some r := by first | (rw [hji21] at H; exact H) | (simp only [hji21] at H ⊢; exact H)
                  have hji21w : (IntKind.i64.wrap ((wrap64 ((t255.length : Int) - 1)) - x9_2)) = ji21 := (i64_w _).trans hji21
                  by_cases c22 : 0 ≤ (ji21)
                  · rw [if_pos c22] at H
                    have c22b0 : decide (0 ≤ (ji21)) = true := decide_eq_true c22
                    clear c22
                    by_cases c23 : (ji21) < (t255.length : Int)
                    · rw [if_pos c23] at H
                      have c23b0 : decide ((ji21) < (t255.length : Int)) = true := decide_eq_true c23
                      clear c23
                      by_cases c24 : (rdOf ByteArray.empty t250 (ji18)).toList = (rdOf ByteArray.empty t255 (ji21)).toList
                      · rw [if_pos c24] at H
                        have c24b0 : ((rdOf ByteArray.empty t250 (ji18)).toList == (rdOf ByteArray.empty t255 (ji21)).toList) = true := beq_iff_eq.mpr c24
                        have c24b1 : ((rdOf ByteArray.empty t250 (ji18)).toList != (rdOf ByteArray.empty t255 (ji21)).toList) = false := bne_eq_false_iff_eq.mpr c24
                        clear c24
                        have H' := Aside0.mk H
                        clear H
                        obtain ⟨Ao25, co25, eo25⟩ := Kd.R_slice HO_7.out
                        subst eo25
                        obtain ⟨Ao26, co26, eo26⟩ := Kd.R_slice HO_5.out
                        subst eo26
                        have p259 : 0 ≤ ((ji18) : Int) := of_decide_eq_true (by first | (with_reducible assumption) | assumption)
                        have q259 : (ji18) < (t250.length : Int) := of_decide_eq_true (by first | (with_reducible assumption) | assumption)
                        obtain ⟨ad259, e259, hx259_0⟩ := Kd.at_string (Kd.R_reads' HO_5.out).2.2 (ji18) p259 q259
                        cases e259
                        replace p259 := eq_true p259
                        replace q259 := eq_true q259
                        have p260 : 0 ≤ ((ji21) : Int) := of_decide_eq_true (by first | (with_reducible assumption) | assumption)
                        have q260 : (ji21) < (t255.length : Int) := of_decide_eq_true (by first | (with_reducible assumption) | assumption)
                        obtain ⟨ad260, e260, hx260_0⟩ := Kd.at_string (Kd.R_reads' HO_7.out).2.2 (ji21) p260 q260
                        cases e260
                        replace p260 := eq_true p260
                        replace q260 := eq_true q260
                        go_wp2
                        repeat (go_quiet (fail); try go_wp2)
                        go_roundg k2
                        case measure => have := HJ6.out; have := HK2.out; omega
                        case rel => exact ⟨(wrap64 (x9_2 + 1)), (by first | rfl | (simp; done) | (simp [*]; done)), H', ⟨by have := HJ6.out; have := HK2.out; omega⟩, ⟨by (with_reducible repeat (first | apply Kd.R_alloc | apply Kd.R_drewN | apply Kd.R_drew)); exact HO_5.out⟩, ⟨by (with_reducible repeat (first | apply Kd.R_alloc | apply Kd.R_drewN | apply Kd.R_drew)); exact HO_7.out⟩, ⟨by repeat (first | (with_reducible first | exact HB.out | apply below_alloc | apply pw_below_drewN | apply below_drew1) | exact HB.out)⟩⟩
                      · rw [if_neg c24] at H
                        have c24b0 : ((rdOf ByteArray.empty t250 (ji18)).toList == (rdOf ByteArray.empty t255 (ji21)).toList) = false := beq_eq_false_iff_ne.mpr c24
                        have c24b1 : ((rdOf ByteArray.empty t250 (ji18)).toList != (rdOf ByteArray.empty t255 (ji21)).toList) = true := bne_iff_ne.mpr c24
                        obtain rfl := Option.some.inj H
                        obtain ⟨Ao27, co27, eo27⟩ := Kd.R_slice HO_7.out
                        subst eo27
                        obtain ⟨Ao28, co28, eo28⟩ := Kd.R_slice HO_5.out
                        subst eo28
                        have p259 : 0 ≤ ((ji18) : Int) := of_decide_eq_true (by first | (with_reducible assumption) | assumption)
                        have q259 : (ji18) < (t250.length : Int) := of_decide_eq_true (by first | (with_reducible assumption) | assumption)
                        obtain ⟨ad259, e259, hx259_0⟩ := Kd.at_string (Kd.R_reads' HO_5.out).2.2 (ji18) p259 q259
                        cases e259
                        replace p259 := eq_true p259
                        replace q259 := eq_true q259
                        have p260 : 0 ≤ ((ji21) : Int) := of_decide_eq_true (by first | (with_reducible assumption) | assumption)
                        have q260 : (ji21) < (t255.length : Int) := of_decide_eq_true (by first | (with_reducible assumption) | assumption)
                        obtain ⟨ad260, e260, hx260_0⟩ := Kd.at_string (Kd.R_reads' HO_7.out).2.2 (ji21) p260 q260
                        cases e260
                        replace p260 := eq_true p260
                        replace q260 := eq_true q260
                        go_wp2
                        repeat (go_quiet (fail); try go_wp2)
                        go_ret
                        exact ⟨by first | rfl | (simp [errW_none, errW_some] <;> rfl) | (simp only [← hji18, ← hji21]; first | rfl | (simp [errW_none, errW_some] <;> rfl)) | (simp [*, errW_none, errW_some] <;> rfl), by repeat (first | (with_reducible first | exact HB.out | apply below_alloc | apply pw_below_drewN | apply below_drew1) | exact HB.out)⟩
                    · rw [if_neg c23] at H
                      exact absurd H (by simp)
                  · rw [if_neg c22] at H
                    exact absurd H (by simp)
                · rw [if_neg c20] at H
                  exact absurd H (by simp)
              · rw [if_neg c19] at H
                exact absurd H (by simp)
            · rw [if_neg c17] at H
              have c17b0 : decide (x9_2 < (t255.length : Int)) = false := decide_eq_false c17
              clear c17
              obtain rfl := Option.some.inj H
              obtain ⟨Ao29, co29, eo29⟩ := Kd.R_slice HO_7.out
              subst eo29
              go_wp2
              repeat (go_quiet (fail); try go_wp2)
              go_ret
              exact ⟨by first | rfl | (simp [errW_none, errW_some] <;> rfl) | (simp [*, errW_none, errW_some] <;> rfl), by repeat (first | (with_reducible first | exact HB.out | apply below_alloc | apply pw_below_drewN | apply below_drew1) | exact HB.out)⟩

end Go.Proofs.Ythhbddmokgbdkaa.PNam
