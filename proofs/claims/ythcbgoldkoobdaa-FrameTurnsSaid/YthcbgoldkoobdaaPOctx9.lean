-- Written by this session's program gprint.py out of the translation; Lean checks it.
import Derived.Test.YthcbgoldkoobdaaPOctx0
import Derived.Test.YthcbgoldkoobdaaPOctx7
namespace Go.Proofs.Ythcbgoldkoobdaa.POct
open Go.RowKit Go.Proofs.YthcbgoldkoobdaaW.PrintWords Go.Proofs.YthcbgoldkoobdaaW.PrintLast Go.Proofs.YthcbgoldkoobdaaW.PrintMore Go.Proofs.Ythcbgoldkoobdaa.Given
attribute [local go_sem] max2_int min2_int max_two min_two max_three min_three max_four min_four   -- for this text's walks alone
set_option linter.unusedVariables false
set_option linter.unusedSimpArgs false

/-! ### frame_First: function 31 -/
def frame_First.j0 : Nat → ByteArray → List Int → ByteArray → Bool → Option (ByteArray × Int × Int)
  | 0, _, _, _, _ => none
  | k + 1, x0, x5, x6, x31 => if x31 = true then (some ((⟨#[]⟩ : ByteArray), 0, 2)) else (if 0 < (x5.length : Int) then (if 0 ≤ (rd x5 0) then (if (rd x5 0) ≤ (x6.size : Int) then (if 0 ≤ 4 then (if 4 ≤ (x0.size : Int) then ((crc_Parts.f (([x0.extract 0 4, x6.extract 0 ((rd x5 0) : Int).toNat] : List ByteArray))).bind fun t286 => (if 1 < (x5.length : Int) then (if (IntKind.u64.wrap (t286)) = (rd x5 1) then ((frame_Size.f (x6.extract 0 ((rd x5 0) : Int).toNat)).bind fun t288 => (some (x6.extract 0 ((rd x5 0) : Int).toNat, t288, 0))) else (some ((⟨#[]⟩ : ByteArray), 0, 7))) else (none))) else (none)) else (none)) else (none)) else (none)) else (none))
def frame_First.f (k : Nat) (a0 : ByteArray) : Option (ByteArray × Int × Int) := (octets_Split.f a0 (([4, 4] : List Int))).bind fun bt275 => (if bt275.2.2 = 0 then (if 0 < (bt275.1.length : Int) then (if (rd bt275.1 0) > 16777216 then (frame_First.j0 k a0 bt275.1 bt275.2.1 true) else (frame_First.j0 k a0 bt275.1 bt275.2.1 (decide ((rd bt275.1 0) > (IntKind.u64.wrap ((bt275.2.1.size : Int))))))) else (none)) else (some ((⟨#[]⟩ : ByteArray), 0, bt275.2.2)))
theorem frame_First.mono_l : ∀ k, (∀ y0 y1 y2 y3, LeO (frame_First.j0 k y0 y1 y2 y3) (frame_First.j0 (k + 1) y0 y1 y2 y3))
  | 0 => fun _ _ _ _ r h => by simp [frame_First.j0] at h
  | k + 1 => by
    have ih0 := frame_First.mono_l k
    · intro y0 y1 y2 y3
      unfold frame_First.j0
      repeat' first
      | (with_reducible exact ih0 _ _ _ _)
      | (with_reducible exact LeO.refl _)
      | (with_reducible exact LeO.none _)
      | (with_reducible refine LeO.ite ?_ ?_)
      | (with_reducible refine LeO.bind ?_ (fun _ => ?_))
      | exact ih0 _ _ _ _
      | exact LeO.none _
      | refine LeO.ite ?_ ?_
      | refine LeO.bind ?_ (fun _ => ?_)
theorem frame_First.mono : ∀ a0 k, LeO (frame_First.f k a0) (frame_First.f (k + 1) a0) := by
  intro a0 k
  have ih0 := frame_First.mono_l k
  unfold frame_First.f
  repeat' first
      | (with_reducible exact ih0 _ _ _ _)
      | (with_reducible exact LeO.refl _)
      | (with_reducible exact LeO.none _)
      | (with_reducible refine LeO.ite ?_ ?_)
      | (with_reducible refine LeO.bind ?_ (fun _ => ?_))
      | exact ih0 _ _ _ _
      | exact LeO.none _
      | refine LeO.ite ?_ ?_
      | refine LeO.bind ?_ (fun _ => ?_)
def frame_First.T7 : Bool × List (List Nat × List Nat) := (true, [([], []), ([0], [0]), ([], []), ([1, 2], [1, 2]), ([3], [3]), ([4], [4]), ([], []), ([6], [6]), ([7], [7]), ([5, 8], [5, 8])])
def frame_First.B7 : List Nat := [0, 1, 0, 7, 15, 31, 0, 64, 192, 511]
theorem frame_First.tab7 : rtab .any (opsOf Try.f31 7) = frame_First.T7 := by kernel_rfl
theorem frame_First.bits7 : waitsOk frame_First.T7.2 frame_First.B7 = true := by kernel_rfl
set_option maxHeartbeats 8000000 in
set_option maxRecDepth 100000 in
theorem frame_First.calls (k : Nat) (a0 : ByteArray) (r1 : ByteArray) (r2 : Int) (r3 : Int) (w : World) (h : frame_First.f k a0 = some (r1, r2, r3)) :
    Calls Try.prog 31 #[.string a0] w fun e w' => e = .returned (.tuple #[.string r1, .int .i64 r2, .int .i64 r3]) ∧ Below w.heap.size w w' := by
  have HB := Aside0.mk (Below.refl w.heap.size w)
  have H : ((octets_Split.f a0 (([4, 4] : List Int))).bind fun bt275 => (if bt275.2.2 = 0 then (if 0 < (bt275.1.length : Int) then (if (rd bt275.1 0) > 16777216 then (frame_First.j0 k a0 bt275.1 bt275.2.1 true) else (frame_First.j0 k a0 bt275.1 bt275.2.1 (decide ((rd bt275.1 0) > (IntKind.u64.wrap ((bt275.2.1.size : Int))))))) else (none)) else (some ((⟨#[]⟩ : ByteArray), 0, bt275.2.2)))) = some (r1, r2, r3) := h
  clear h
  obtain ⟨y272, hy272⟩ : ∃ y_ : List Int, y_ = (([4, 4] : List Int)) := ⟨_, rfl⟩
  replace H : ((octets_Split.f a0 y272).bind fun bt275 => (if bt275.2.2 = 0 then (if 0 < (bt275.1.length : Int) then (if (rd bt275.1 0) > 16777216 then (frame_First.j0 k a0 bt275.1 bt275.2.1 true) else (frame_First.j0 k a0 bt275.1 bt275.2.1 (decide ((rd bt275.1 0) > (IntKind.u64.wrap ((bt275.2.1.size : Int))))))) else (none)) else (some ((⟨#[]⟩ : ByteArray), 0, bt275.2.2)))) = some (r1, r2, r3) := by first | (rw [hy272]; with_reducible exact H) | (have H2_ := (Option.bind_some _ _).symm.trans H; rw [hy272]; with_reducible exact H2_) | (have H2_ := (Option.bind_some _ _).symm.trans H; with_reducible exact H2_) | with_reducible exact H | (rw [hy272]; exact H) | exact H
  have Ny272 := Aside0.mk hy272
  clear hy272
  replace H := Option.bind_eq_some_iff.mp H
  obtain ⟨⟨t275, t276, t277⟩, A20, H⟩ := H
  replace H : (if t277 = 0 then (if 0 < (t275.length : Int) then (if (rd t275 0) > 16777216 then (frame_First.j0 k a0 t275 t276 true) else (frame_First.j0 k a0 t275 t276 (decide ((rd t275 0) > (IntKind.u64.wrap ((t276.size : Int))))))) else (none)) else (some ((⟨#[]⟩ : ByteArray), 0, t277))) = some (r1, r2, r3) := H
  have A2 := Aside0.mk A20
  clear A20
  by_cases c3 : t277 = 0
  · rw [if_pos c3] at H
    have c3b0 : (t277 == 0) = true := beq_iff_eq.mpr c3
    have c3b1 : (t277 != 0) = false := bne_eq_false_iff_eq.mpr c3
    clear c3
    have HC4 := Aside0.mk H
    clear H
    go_enter Try.func31, Try.ntmps31
    go_upto_region 4 with (first | ((with_reducible refine gate_dst (N := 11) rfl ?_); (try (refine gate_guard (by rfl) ?_; dsimp only)); refine Kd.R_lit (Kd.int .i64) _ 3 ?hg (N := 11) ?hd (xs := ([4, 4] : List Int)) (inner := [.int .i64 4, .int .i64 4]) (ok := fun _ => True) (okp := fun _ => True) ?hr ?hp (fun _ hk => hk) trivial (Below.refl _ _) (Nat.le_refl _) (by simp) ?_; (case hd => rfl); (case hg => rfl); (case hr => first | (go_simp; done) | (go_simp; rfl)); (case hp => exact (Reps.one (show Kd.M (Kd.int .i64) _ _ _ 4 [.int .i64 4] from rfl) (Reps.one (show Kd.M (Kd.int .i64) _ _ _ 4 [.int .i64 4] from rfl) (Reps.none _ _)))); intro v273 w5 ho6 hb hg_ hnew_; clear hg_ hnew_; (first | rw [← Ny272.out] at ho6 | (simp only [Int.reduceToNat] at ho6; rw [← Ny272.out] at ho6)); have n0_ := Aside0.mk (Kd.R_lower ho6 (below_size (by repeat (first | (with_reducible first | exact HB.out | apply below_alloc | apply pw_below_drewN | apply below_drew1) | exact HB.out)))); have n1_ := Aside0.mk (below_step (by repeat (first | (with_reducible first | exact HB.out | apply below_alloc | apply pw_below_drewN | apply below_drew1) | exact HB.out)) hb); clear HB; have HO274 := n0_; have HB := n1_; clear n0_ n1_; clear hb ho6; obtain ⟨Ao7, co7, eo7⟩ := Kd.R_slice HO274.out; subst eo7) | ((with_reducible refine gate_callee (f := 15) rfl ?_); refine goesL_ (some 12) rfl rfl Try.func15 (by kernel_rfl) rfl #[.string a0, .slice Ao7 y272.length co7] rfl (by (try simp only [List.map_toArray, List.map_cons, List.map_nil]); first | done | rfl | (simp only [List.length_drop, List.length_take]; rfl)) ?_; (with_reducible refine (octets_Split.calls a0 _ _ y272 t275 t276 t277 _ ?side1 ?side2 A2.out).mono ?_); (case side1 => repeat (first | exact (Kd.R_reads' HO274.out).2.2 | (with_reducible refine Kd.C_alloc ?_ _) | (with_reducible refine Kd.C_drewN ?_ _) | (with_reducible refine Kd.C_drew ?_))); (case side2 => exact (Kd.R_reads' HO274.out).2.1); rintro e w8 ⟨v278, rfl, ho0, hb⟩; refine ⟨_, rfl, ?_⟩; have n0_ := Aside0.mk (Kd.R_below (by (with_reducible repeat (first | apply Kd.R_alloc | apply Kd.R_drewN | apply Kd.R_drew)); exact HO274.out) hb); have n1_ := Aside0.mk (Kd.R_lower ho0 (below_size (by repeat (first | (with_reducible first | exact HB.out | apply below_alloc | apply pw_below_drewN | apply below_drew1) | exact HB.out)))); have n2_ := Aside0.mk (below_step (by repeat (first | (with_reducible first | exact HB.out | apply below_alloc | apply pw_below_drewN | apply below_drew1) | exact HB.out)) hb); clear HO274; clear HB; have HO274 := n0_; have HO279 := n1_; have HB := n2_; clear n0_ n1_ n2_; (try clear hb); (try clear hb2); (try clear hk); (try clear hi); (try clear ho0)))
    (try simp only [Act.put, List.setIfInBounds_toArray, List.set_cons_zero, List.set_cons_succ])
    go_cut [31] (fun v31 wc => ∃ (kq : Nat) (x31_3 : Bool), v31 = .bool x31_3 ∧ Aside0 (frame_First.j0 kq a0 t275 t276 x31_3 = some (r1, r2, r3)) ∧ Aside0 (kq ≤ k) ∧ Aside0 (Kd.R (Kd.int .u64) 55 wc w.heap.size (fun _ => True) v278 t275) ∧ Aside0 (Below w.heap.size w wc))
    case first =>
      have H := HC4.out
      clear HC4
      by_cases c9 : 0 < (t275.length : Int)
      · rw [if_pos c9] at H
        have c9b0 : decide (0 < (t275.length : Int)) = true := decide_eq_true c9
        have c9b1 : decide (0 < t275.length) = true := decide_eq_true (by omega)
        clear c9
        (first | rw [c9b0] | (simp only [i64_w, i32_w]; rw [c9b0]) | skip)
        by_cases c10 : (rd t275 0) > 16777216
        · rw [if_pos c10] at H
          have c10b0 : decide (16777216 < (rd t275 0)) = true := decide_eq_true c10
          clear c10
          have H' := Aside0.mk H
          clear H
          obtain ⟨Ao11, co11, eo11⟩ := Kd.R_slice HO279.out
          subst eo11
          have p280 : 0 ≤ (0 : Int) := (by omega)
          have q280 : 0 < (t275.length : Int) := of_decide_eq_true (by first | (with_reducible assumption) | assumption)
          obtain ⟨ad280, e280, hx280_0⟩ := Kd.at_int (Kd.R_reads' HO279.out).2.2 0 p280 q280
          cases e280
          have qi280 : (0 < t275.length) = True := eq_true (by omega)
          (try rw [show ((0 : Int)).toNat = 0 from rfl] at hx280_0)
          (try rw [Addr.add_zero'] at hx280_0)
          replace p280 := eq_true p280
          replace q280 := eq_true q280
          go_wp2
          go_meet
          case rel => exact ⟨_, (true), (by first | rfl | (simp; done) | (simp [*]; done)), H', ⟨by first | omega | exact Nat.le_refl _⟩, ⟨by (with_reducible repeat (first | apply Kd.R_alloc | apply Kd.R_drewN | apply Kd.R_drew)); exact HO279.out⟩, ⟨by repeat (first | (with_reducible first | exact HB.out | apply below_alloc | apply pw_below_drewN | apply below_drew1) | exact HB.out)⟩⟩
        · rw [if_neg c10] at H
          have c10b0 : decide (16777216 < (rd t275 0)) = false := decide_eq_false c10
          clear c10
          have H' := Aside0.mk H
          clear H
          obtain ⟨Ao12, co12, eo12⟩ := Kd.R_slice HO279.out
          subst eo12
          have p280 : 0 ≤ (0 : Int) := (by omega)
          have q280 : 0 < (t275.length : Int) := of_decide_eq_true (by first | (with_reducible assumption) | assumption)
          obtain ⟨ad280, e280, hx280_0⟩ := Kd.at_int (Kd.R_reads' HO279.out).2.2 0 p280 q280
          cases e280
          have qi280 : (0 < t275.length) = True := eq_true (by omega)
          (try rw [show ((0 : Int)).toNat = 0 from rfl] at hx280_0)
          (try rw [Addr.add_zero'] at hx280_0)
          replace p280 := eq_true p280
          replace q280 := eq_true q280
          have p281 : 0 ≤ (0 : Int) := (by omega)
          have q281 : 0 < (t275.length : Int) := of_decide_eq_true (by first | (with_reducible assumption) | assumption)
          obtain ⟨ad281, e281, hx281_0⟩ := Kd.at_int (Kd.R_reads' HO279.out).2.2 0 p281 q281
          obtain rfl : ad280 = ad281 := (by injection e281)
          have qi281 : (0 < t275.length) = True := eq_true (by omega)
          (try rw [show ((0 : Int)).toNat = 0 from rfl] at hx281_0)
          (try rw [Addr.add_zero'] at hx281_0)
          replace p281 := eq_true p281
          replace q281 := eq_true q281
          go_wp2
          go_meet
          case rel => exact ⟨_, (decide ((rd t275 0) > (IntKind.u64.wrap ((t276.size : Int))))), (by first | rfl | (simp; done) | (simp [*]; done)), H', ⟨by first | omega | exact Nat.le_refl _⟩, ⟨by (with_reducible repeat (first | apply Kd.R_alloc | apply Kd.R_drewN | apply Kd.R_drew)); exact HO279.out⟩, ⟨by repeat (first | (with_reducible first | exact HB.out | apply below_alloc | apply pw_below_drewN | apply below_drew1) | exact HB.out)⟩⟩
      · rw [if_neg c9] at H
        exact absurd H (by simp)
    case rest =>
      clear HC4
      try clear c1
      try clear p2
      try clear q2
      try clear hx2
      try clear qi2
      try clear c3
      try clear c3b0
      try clear c3b1
      try clear c9
      try clear c9b0
      try clear c9b1
      try clear c10
      try clear c10b0
      try clear hx280_0
      try clear hx281_0
      try clear p280
      try clear p281
      try clear q280
      try clear q281
      obtain ⟨kq, x31_3, rfl, HA, HJ3, HO_5, HB⟩ := hcut
      cases kq with
      | zero => exact absurd HA.out (by simp [frame_First.j0])
      | succ kj3 =>
        have H := HA.out
        clear HA
        simp only [frame_First.j0] at H
        by_cases c13 : x31_3 = true
        · subst c13
          have H1 : (some ((⟨#[]⟩ : ByteArray), 0, 2)) = some (r1, r2, r3) := by rw [if_pos rfl] at H; exact H
          clear H
          have H := H1
          clear H1
          simp only [Option.some.injEq, Prod.mk.injEq] at H
          obtain ⟨rfl, rfl, rfl⟩ := H
          go_wp2
          go_ret3
          exact ⟨by first | rfl | (simp [errW_none, errW_some] <;> rfl) | (simp [*, errW_none, errW_some] <;> rfl), by repeat (first | (with_reducible first | exact HB.out | apply below_alloc | apply pw_below_drewN | apply below_drew1) | exact HB.out)⟩
        · replace c13 := Bool.eq_false_iff.mpr c13
          subst c13
          have H1 : (if 0 < (t275.length : Int) then (if 0 ≤ (rd t275 0) then (if (rd t275 0) ≤ (t276.size : Int) then (if 0 ≤ 4 then (if 4 ≤ (a0.size : Int) then ((crc_Parts.f (([a0.extract 0 4, t276.extract 0 ((rd t275 0) : Int).toNat] : List ByteArray))).bind fun t286 => (if 1 < (t275.length : Int) then (if (IntKind.u64.wrap (t286)) = (rd t275 1) then ((frame_Size.f (t276.extract 0 ((rd t275 0) : Int).toNat)).bind fun t288 => (some (t276.extract 0 ((rd t275 0) : Int).toNat, t288, 0))) else (some ((⟨#[]⟩ : ByteArray), 0, 7))) else (none))) else (none)) else (none)) else (none)) else (none)) else (none)) = some (r1, r2, r3) := by rw [if_neg (show ¬ (false = true) by decide)] at H; exact H
          clear H
          have H := H1
          clear H1
          by_cases c14 : 0 < (t275.length : Int)
          · rw [if_pos c14] at H
            have c14b0 : decide (0 < (t275.length : Int)) = true := decide_eq_true c14
            have c14b1 : decide (0 < t275.length) = true := decide_eq_true (by omega)
            clear c14
            by_cases c15 : 0 ≤ (rd t275 0)
            · rw [if_pos c15] at H
              have c15b0 := eq_true c15
              have c15b1 : decide (0 ≤ (rd t275 0)) = true := decide_eq_true c15
              clear c15
              by_cases c16 : (rd t275 0) ≤ (t276.size : Int)
              · rw [if_pos c16] at H
                have c16b0 := eq_true c16
                have c16b1 : decide ((rd t275 0) ≤ (t276.size : Int)) = true := decide_eq_true c16
                clear c16
                by_cases c17 : 0 ≤ 4
                · rw [if_pos c17] at H
                  have c17b0 := eq_true c17
                  have c17b1 : decide (0 ≤ 4) = true := decide_eq_true c17
                  clear c17
                  by_cases c18 : 4 ≤ (a0.size : Int)
                  · rw [if_pos c18] at H
                    have c18b0 := eq_true c18
                    have c18b1 : decide (4 ≤ (a0.size : Int)) = true := decide_eq_true c18
                    clear c18
                    obtain ⟨y283, hy283⟩ : ∃ y_ : List ByteArray, y_ = (([a0.extract 0 4, t276.extract 0 ((rd t275 0) : Int).toNat] : List ByteArray)) := ⟨_, rfl⟩
                    replace H : ((crc_Parts.f y283).bind fun t286 => (if 1 < (t275.length : Int) then (if (IntKind.u64.wrap (t286)) = (rd t275 1) then ((frame_Size.f (t276.extract 0 ((rd t275 0) : Int).toNat)).bind fun t288 => (some (t276.extract 0 ((rd t275 0) : Int).toNat, t288, 0))) else (some ((⟨#[]⟩ : ByteArray), 0, 7))) else (none))) = some (r1, r2, r3) := by first | (rw [hy283]; with_reducible exact H) | (have H2_ := (Option.bind_some _ _).symm.trans H; rw [hy283]; with_reducible exact H2_) | (have H2_ := (Option.bind_some _ _).symm.trans H; with_reducible exact H2_) | with_reducible exact H | (rw [hy283]; exact H) | exact H
                    have Ny283 := Aside0.mk hy283
                    clear hy283
                    replace H := Option.bind_eq_some_iff.mp H
                    obtain ⟨t286, A190, H⟩ := H
                    replace H : (if 1 < (t275.length : Int) then (if (IntKind.u64.wrap (t286)) = (rd t275 1) then ((frame_Size.f (t276.extract 0 ((rd t275 0) : Int).toNat)).bind fun t288 => (some (t276.extract 0 ((rd t275 0) : Int).toNat, t288, 0))) else (some ((⟨#[]⟩ : ByteArray), 0, 7))) else (none)) = some (r1, r2, r3) := H
                    have A19 := Aside0.mk A190
                    clear A190
                    by_cases c20 : 1 < (t275.length : Int)
                    · rw [if_pos c20] at H
                      have c20b0 : decide (1 < (t275.length : Int)) = true := decide_eq_true c20
                      have c20b1 : decide (1 < t275.length) = true := decide_eq_true (by omega)
                      clear c20
                      by_cases c21 : (IntKind.u64.wrap (t286)) = (rd t275 1)
                      · rw [if_pos c21] at H
                        have c21b0 : ((IntKind.u64.wrap (t286)) == (rd t275 1)) = true := beq_iff_eq.mpr c21
                        have c21b1 : ((IntKind.u64.wrap (t286)) != (rd t275 1)) = false := bne_eq_false_iff_eq.mpr c21
                        clear c21
                        replace H := Option.bind_eq_some_iff.mp H
                        obtain ⟨t288, A220, H⟩ := H
                        replace H : (some (t276.extract 0 ((rd t275 0) : Int).toNat, t288, 0)) = some (r1, r2, r3) := H
                        have A22 := Aside0.mk A220
                        clear A220
                        simp only [Option.some.injEq, Prod.mk.injEq] at H
                        obtain ⟨rfl, rfl, rfl⟩ := H
                        obtain ⟨Ao23, co23, eo23⟩ := Kd.R_slice HO_5.out
                        subst eo23
                        have p282 : 0 ≤ (0 : Int) := (by omega)
                        have q282 : 0 < (t275.length : Int) := of_decide_eq_true (by first | (with_reducible assumption) | assumption)
                        obtain ⟨ad282, e282, hx282_0⟩ := Kd.at_int (Kd.R_reads' HO_5.out).2.2 0 p282 q282
                        cases e282
                        have qi282 : (0 < t275.length) = True := eq_true (by omega)
                        (try rw [show ((0 : Int)).toNat = 0 from rfl] at hx282_0)
                        (try rw [Addr.add_zero'] at hx282_0)
                        replace p282 := eq_true p282
                        replace q282 := eq_true q282
                        try go_wp2
                        have n0_ := Aside0.mk (Kd.R_drew HO_5.out)
                        have n1_ := Aside0.mk (below_drew1 HB.out)
                        clear HO_5
                        clear HB
                        have HO_5 := n0_
                        have HB := n1_
                        clear n0_ n1_
                        have p287 : 0 ≤ (1 : Int) := (by omega)
                        have q287 : 1 < (t275.length : Int) := of_decide_eq_true (by first | (with_reducible assumption) | assumption)
                        obtain ⟨ad287, e287, hx287_0⟩ := Kd.at_int (Kd.R_reads' HO_5.out).2.2 1 p287 q287
                        obtain rfl : ad282 = ad287 := (by injection e287)
                        (try simp only [show (1 : Int).toNat = 1 from rfl, Nat.reduceMul, Nat.reduceEqDiff, Go.Addr.add, ↓reduceIte] at hx287_0)
                        have qi287 : (1 < t275.length) = True := eq_true (by omega)
                        (try rw [show ((1 : Int)).toNat = 1 from rfl] at hx287_0)
                        replace p287 := eq_true p287
                        replace q287 := eq_true q287
                        refine start_ (n := 10) (S := fun w' => w'.cell? ⟨ad282.block, ad282.off + 1, none⟩ = some (.int .u64 (rd t275 1))) (ds := []) #[false, false, false, false, false, false, false, false, false, false] (by kernel_rfl) rfl rfl (hx287_0) (fun hHeld => ?_); refine with_tabW frame_First.tab7 frame_First.bits7 (fun HT_ HW_ => ?_)
                        generalize wc.drew = w24 at HO_5 HB hx287_0 hHeld ⊢
                        refine pure_ (i := 0) (N := some 37) (v := ?_) (a' := ?_) #[true, false, false, false, false, false, false, false, false, false] rfl rfl (any_of HT_.out (by kernel_rfl)) (fun _ _ _ h => h) (Or.inl ⟨by rfl, ?_⟩) ?_ ?_
                        rotate_left
                        · intro w'
                          go_simp
                          with_reducible rfl
                        rotate_left
                        · simp only [Act.put, List.setIfInBounds_toArray, List.set_cons_zero, List.set_cons_succ, i64_w, i32_w]
                          rfl
                        refine pure_ (i := 1) (N := some 38) (v := ?_) (a' := ?_) #[true, true, false, false, false, false, false, false, false, false] rfl rfl (any_of HT_.out (by kernel_rfl)) (fun _ _ _ h => h) (Or.inl ⟨by rfl, ?_⟩) ?_ ?_
                        rotate_left
                        · intro w'
                          go_simp
                          with_reducible rfl
                        rotate_left
                        · simp only [Act.put, List.setIfInBounds_toArray, List.set_cons_zero, List.set_cons_succ, i64_w, i32_w]
                          rfl
                        refine pure_ (i := 2) (N := some 39) (v := ?_) (a' := ?_) #[true, true, true, false, false, false, false, false, false, false] rfl rfl (any_of HT_.out (by kernel_rfl)) (fun _ _ _ h => h) (Or.inl ⟨by rfl, ?_⟩) ?_ ?_
                        rotate_left
                        · intro w'
                          go_simp
                          with_reducible rfl
                        rotate_left
                        · simp only [Act.put, List.setIfInBounds_toArray, List.set_cons_zero, List.set_cons_succ, i64_w, i32_w]
                          rfl
                        refine pure_ (i := 6) (N := some 43) (v := ?_) (a' := ?_) #[true, true, true, false, false, false, true, false, false, false] rfl rfl (any_of HT_.out (by kernel_rfl)) (fun _ _ _ h => h) (Or.inl ⟨by rfl, ?_⟩) ?_ ?_
                        rotate_left
                        · intro w'
                          go_simp
                          with_reducible rfl
                        rotate_left
                        · simp only [Act.put, List.setIfInBounds_toArray, List.set_cons_zero, List.set_cons_succ, i64_w, i32_w]
                          rfl
                        refine pure_ (i := 7) (N := some 44) (v := ?_) (a' := ?_) #[true, true, true, false, false, false, true, true, false, false] rfl rfl (any_of HT_.out (by kernel_rfl)) (fun _ _ _ h => h) (Or.inl ⟨by rfl, ?_⟩) ?_ ?_
                        rotate_left
                        · intro w'
                          go_simp
                          with_reducible rfl
                        rotate_left
                        · simp only [Act.put, List.setIfInBounds_toArray, List.set_cons_zero, List.set_cons_succ, i64_w, i32_w]
                          rfl
                        refine take_ (i := 8) (N := some 45) (v := ?_) (a' := ?_) #[true, true, true, false, false, false, true, true, true, false] rfl rfl (take_ofW HT_.out HW_.out (by kernel_rfl)) (fun _ _ _ h => h) (Or.inl ⟨by rfl, ?_⟩) hHeld ?_ ?_
                        rotate_left
                        · intro w' s0
                          go_simp
                          with_reducible rfl
                        rotate_left
                        · simp only [Act.put, List.setIfInBounds_toArray, List.set_cons_zero, List.set_cons_succ, i64_w, i32_w]
                          rfl
                        refine one_ (i := 3) (N := some 40) #[true, true, true, true, false, false, true, true, true, false] rfl rfl (one_of HT_.out (by kernel_rfl)) (by decide) (fun K hK => ?_)
                        refine Kd.R_lit_step Kd.string _ 9 ?hg (N := 40) ?hd (xs := ([a0.extract 0 4, t276.extract 0 ((rd t275 0) : Int).toNat] : List ByteArray)) (inner := [.string (a0.extract 0 4), .string (t276.extract 0 ((rd t275 0) : Int).toNat)]) (ok := fun _ => True) (okp := fun _ => True) ?hr ?hp (fun _ hk => hk) trivial (Below.refl _ _) (Nat.le_refl _) (by simp) ?_; (case hd => rfl); (case hg => rfl); (case hr => first | (go_simp; done) | (go_simp; rfl)); (case hp => exact (Reps.one (show Kd.M Kd.string _ _ _ (a0.extract 0 4) [.string (a0.extract 0 4)] from rfl) (Reps.one (show Kd.M Kd.string _ _ _ (t276.extract 0 ((rd t275 0) : Int).toNat) [.string (t276.extract 0 ((rd t275 0) : Int).toNat)] from rfl) (Reps.none _ _))))
                        intro v284 w25 ho26 hb hg_ hnew_
                        have HS0_ := (hb.cell (World.block_lt_of_cell? _ _ (hHeld))).trans (hHeld)
                        clear hg_ hnew_
                        (first | rw [← Ny283.out] at ho26 | (simp only [Int.reduceToNat] at ho26; rw [← Ny283.out] at ho26))
                        have n0_ := Aside0.mk (Kd.R_below (by (with_reducible repeat (first | apply Kd.R_alloc | apply Kd.R_drewN | apply Kd.R_drew)); exact HO_5.out) hb)
                        have n1_ := Aside0.mk (Kd.R_lower ho26 (below_size (by repeat (first | (with_reducible first | exact HB.out | apply below_alloc | apply pw_below_drewN | apply below_drew1) | exact HB.out))))
                        have n2_ := Aside0.mk (below_step (by repeat (first | (with_reducible first | exact HB.out | apply below_alloc | apply pw_below_drewN | apply below_drew1) | exact HB.out)) hb)
                        clear HO_5
                        clear HB
                        have HO_5 := n0_
                        have HO285 := n1_
                        have HB := n2_
                        clear n0_ n1_ n2_
                        clear hb ho26
                        obtain ⟨Ao27, co27, eo27⟩ := Kd.R_slice HO285.out
                        (first | subst eo27 | (injection eo27 with f1_ f2_ f3_; have f4_ := f1_.symm; have f5_ := f3_.symm; clear f1_ f2_ f3_; subst f4_; subst f5_))
                        refine hK.out _ _ (HS0_) (fun hHeld => ?_)
                        clear hK K
                        refine norm_ (a' := ?_) ?_ ?_
                        rotate_left
                        · show Act.put _ (some 40) _ = _
                          simp only [Act.put, List.setIfInBounds_toArray, List.set_cons_zero, List.set_cons_succ, i64_w, i32_w]
                          rfl
                        refine one_ (i := 4) (N := some 41) #[true, true, true, true, true, false, true, true, true, false] rfl rfl (one_of HT_.out (by kernel_rfl)) (by decide) (fun K hK => ?_)
                        refine goes_ Try.func46 (by kernel_rfl) rfl #[.slice Ao27 y283.length co27] (by rfl) rfl rfl (by (try simp only [List.map_toArray, List.map_cons, List.map_nil]); first | done | rfl | (simp only [List.length_drop, List.length_take]; rfl)) ?_
                        with_reducible refine (crc_Parts.calls _ _ y283 t286 _ ?side1 ?side2 A19.out).mono ?_
                        (case side1 => repeat (first | exact (Kd.R_reads' HO285.out).2.2 | (with_reducible refine Kd.C_alloc ?_ _) | (with_reducible refine Kd.C_drewN ?_ _) | (with_reducible refine Kd.C_drew ?_)))
                        (case side2 => exact (Kd.R_reads' HO285.out).2.1)
                        rintro e w28 ⟨rfl, hb⟩
                        have HS0_ := (hb.cell (World.block_lt_of_cell? _ _ (hHeld))).trans (hHeld)
                        refine ⟨_, rfl, ?_⟩
                        have n0_ := Aside0.mk (Kd.R_below (by (with_reducible repeat (first | apply Kd.R_alloc | apply Kd.R_drewN | apply Kd.R_drew)); exact HO_5.out) hb)
                        have n1_ := Aside0.mk (Kd.R_below (by (with_reducible repeat (first | apply Kd.R_alloc | apply Kd.R_drewN | apply Kd.R_drew)); exact HO285.out) hb)
                        have n2_ := Aside0.mk (below_step (by repeat (first | (with_reducible first | exact HB.out | apply below_alloc | apply pw_below_drewN | apply below_drew1) | exact HB.out)) hb)
                        clear HO_5
                        clear HO285
                        clear HB
                        have HO_5 := n0_
                        have HO285 := n1_
                        have HB := n2_
                        clear n0_ n1_ n2_
                        (try clear hb)
                        (try clear hb2)
                        (try clear hk)
                        (try clear hi)
                        refine hK.out _ _ (HS0_) (fun hHeld => ?_)
                        clear hK K
                        refine norm_ (a' := ?_) ?_ ?_
                        rotate_left
                        · show Act.put _ (some 41) _ = _
                          simp only [Act.put, List.setIfInBounds_toArray, List.set_cons_zero, List.set_cons_succ, i64_w, i32_w]
                          rfl
                        refine pure_ (i := 5) (N := some 42) (v := ?_) (a' := ?_) #[true, true, true, true, true, true, true, true, true, false] rfl rfl (any_of HT_.out (by kernel_rfl)) (fun _ _ _ h => h) (Or.inl ⟨by rfl, ?_⟩) ?_ ?_
                        rotate_left
                        · intro w'
                          go_simp
                          with_reducible rfl
                        rotate_left
                        · simp only [Act.put, List.setIfInBounds_toArray, List.set_cons_zero, List.set_cons_succ, i64_w, i32_w]
                          rfl
                        refine pure_ (i := 9) (N := some 46) (v := ?_) (a' := ?_) #[true, true, true, true, true, true, true, true, true, true] rfl rfl (any_of HT_.out (by kernel_rfl)) (fun _ _ _ h => h) (Or.inl ⟨by rfl, ?_⟩) ?_ ?_
                        rotate_left
                        · intro w'
                          go_simp
                          with_reducible rfl
                        rotate_left
                        · simp only [Act.put, List.setIfInBounds_toArray, List.set_cons_zero, List.set_cons_succ, i64_w, i32_w]
                          rfl
                        refine done_ (done_of HT_.out (by kernel_rfl)) ?_
                        try go_wp2_with (first | ((with_reducible refine gate_callee (f := 23) rfl ?_); refine goesL_ (some 49) rfl rfl Try.func23 (by kernel_rfl) rfl #[.string (t276.extract 0 ((rd t275 0) : Int).toNat)] rfl (by (try simp only [List.map_toArray, List.map_cons, List.map_nil]); first | done | rfl | (simp only [List.length_drop, List.length_take]; rfl)) ?_; (with_reducible refine (frame_Size.calls (t276.extract 0 ((rd t275 0) : Int).toNat) t288 _ A22.out).mono ?_); rintro e w' ⟨rfl, ⟨nd, rfl⟩⟩; refine ⟨_, rfl, ?_⟩))
                        go_ret3
                        exact ⟨by first | rfl | (simp [errW_none, errW_some] <;> rfl) | (simp [*, errW_none, errW_some] <;> rfl), by repeat (first | (with_reducible first | exact HB.out | apply below_alloc | apply pw_below_drewN | apply below_drew1) | exact HB.out)⟩
                      · rw [if_neg c21] at H
                        have c21b0 : ((IntKind.u64.wrap (t286)) == (rd t275 1)) = false := beq_eq_false_iff_ne.mpr c21
                        have c21b1 : ((IntKind.u64.wrap (t286)) != (rd t275 1)) = true := bne_iff_ne.mpr c21
                        simp only [Option.some.injEq, Prod.mk.injEq] at H
                        obtain ⟨rfl, rfl, rfl⟩ := H
                        obtain ⟨Ao29, co29, eo29⟩ := Kd.R_slice HO_5.out
                        subst eo29
                        have p282 : 0 ≤ (0 : Int) := (by omega)
                        have q282 : 0 < (t275.length : Int) := of_decide_eq_true (by first | (with_reducible assumption) | assumption)
                        obtain ⟨ad282, e282, hx282_0⟩ := Kd.at_int (Kd.R_reads' HO_5.out).2.2 0 p282 q282
                        cases e282
                        have qi282 : (0 < t275.length) = True := eq_true (by omega)
                        (try rw [show ((0 : Int)).toNat = 0 from rfl] at hx282_0)
                        (try rw [Addr.add_zero'] at hx282_0)
                        replace p282 := eq_true p282
                        replace q282 := eq_true q282
                        try go_wp2
                        have n0_ := Aside0.mk (Kd.R_drew HO_5.out)
                        have n1_ := Aside0.mk (below_drew1 HB.out)
                        clear HO_5
                        clear HB
                        have HO_5 := n0_
                        have HB := n1_
                        clear n0_ n1_
                        have p287 : 0 ≤ (1 : Int) := (by omega)
                        have q287 : 1 < (t275.length : Int) := of_decide_eq_true (by first | (with_reducible assumption) | assumption)
                        obtain ⟨ad287, e287, hx287_0⟩ := Kd.at_int (Kd.R_reads' HO_5.out).2.2 1 p287 q287
                        obtain rfl : ad282 = ad287 := (by injection e287)
                        (try simp only [show (1 : Int).toNat = 1 from rfl, Nat.reduceMul, Nat.reduceEqDiff, Go.Addr.add, ↓reduceIte] at hx287_0)
                        have qi287 : (1 < t275.length) = True := eq_true (by omega)
                        (try rw [show ((1 : Int)).toNat = 1 from rfl] at hx287_0)
                        replace p287 := eq_true p287
                        replace q287 := eq_true q287
                        refine start_ (n := 10) (S := fun w' => w'.cell? ⟨ad282.block, ad282.off + 1, none⟩ = some (.int .u64 (rd t275 1))) (ds := []) #[false, false, false, false, false, false, false, false, false, false] (by kernel_rfl) rfl rfl (hx287_0) (fun hHeld => ?_); refine with_tabW frame_First.tab7 frame_First.bits7 (fun HT_ HW_ => ?_)
                        generalize wc.drew = w30 at HO_5 HB hx287_0 hHeld ⊢
                        refine pure_ (i := 0) (N := some 37) (v := ?_) (a' := ?_) #[true, false, false, false, false, false, false, false, false, false] rfl rfl (any_of HT_.out (by kernel_rfl)) (fun _ _ _ h => h) (Or.inl ⟨by rfl, ?_⟩) ?_ ?_
                        rotate_left
                        · intro w'
                          go_simp
                          with_reducible rfl
                        rotate_left
                        · simp only [Act.put, List.setIfInBounds_toArray, List.set_cons_zero, List.set_cons_succ, i64_w, i32_w]
                          rfl
                        refine pure_ (i := 1) (N := some 38) (v := ?_) (a' := ?_) #[true, true, false, false, false, false, false, false, false, false] rfl rfl (any_of HT_.out (by kernel_rfl)) (fun _ _ _ h => h) (Or.inl ⟨by rfl, ?_⟩) ?_ ?_
                        rotate_left
                        · intro w'
                          go_simp
                          with_reducible rfl
                        rotate_left
                        · simp only [Act.put, List.setIfInBounds_toArray, List.set_cons_zero, List.set_cons_succ, i64_w, i32_w]
                          rfl
                        refine pure_ (i := 2) (N := some 39) (v := ?_) (a' := ?_) #[true, true, true, false, false, false, false, false, false, false] rfl rfl (any_of HT_.out (by kernel_rfl)) (fun _ _ _ h => h) (Or.inl ⟨by rfl, ?_⟩) ?_ ?_
                        rotate_left
                        · intro w'
                          go_simp
                          with_reducible rfl
                        rotate_left
                        · simp only [Act.put, List.setIfInBounds_toArray, List.set_cons_zero, List.set_cons_succ, i64_w, i32_w]
                          rfl
                        refine pure_ (i := 6) (N := some 43) (v := ?_) (a' := ?_) #[true, true, true, false, false, false, true, false, false, false] rfl rfl (any_of HT_.out (by kernel_rfl)) (fun _ _ _ h => h) (Or.inl ⟨by rfl, ?_⟩) ?_ ?_
                        rotate_left
                        · intro w'
                          go_simp
                          with_reducible rfl
                        rotate_left
                        · simp only [Act.put, List.setIfInBounds_toArray, List.set_cons_zero, List.set_cons_succ, i64_w, i32_w]
                          rfl
                        refine pure_ (i := 7) (N := some 44) (v := ?_) (a' := ?_) #[true, true, true, false, false, false, true, true, false, false] rfl rfl (any_of HT_.out (by kernel_rfl)) (fun _ _ _ h => h) (Or.inl ⟨by rfl, ?_⟩) ?_ ?_
                        rotate_left
                        · intro w'
                          go_simp
                          with_reducible rfl
                        rotate_left
                        · simp only [Act.put, List.setIfInBounds_toArray, List.set_cons_zero, List.set_cons_succ, i64_w, i32_w]
                          rfl
                        refine take_ (i := 8) (N := some 45) (v := ?_) (a' := ?_) #[true, true, true, false, false, false, true, true, true, false] rfl rfl (take_ofW HT_.out HW_.out (by kernel_rfl)) (fun _ _ _ h => h) (Or.inl ⟨by rfl, ?_⟩) hHeld ?_ ?_
                        rotate_left
                        · intro w' s0
                          go_simp
                          with_reducible rfl
                        rotate_left
                        · simp only [Act.put, List.setIfInBounds_toArray, List.set_cons_zero, List.set_cons_succ, i64_w, i32_w]
                          rfl
                        refine one_ (i := 3) (N := some 40) #[true, true, true, true, false, false, true, true, true, false] rfl rfl (one_of HT_.out (by kernel_rfl)) (by decide) (fun K hK => ?_)
                        refine Kd.R_lit_step Kd.string _ 9 ?hg (N := 40) ?hd (xs := ([a0.extract 0 4, t276.extract 0 ((rd t275 0) : Int).toNat] : List ByteArray)) (inner := [.string (a0.extract 0 4), .string (t276.extract 0 ((rd t275 0) : Int).toNat)]) (ok := fun _ => True) (okp := fun _ => True) ?hr ?hp (fun _ hk => hk) trivial (Below.refl _ _) (Nat.le_refl _) (by simp) ?_; (case hd => rfl); (case hg => rfl); (case hr => first | (go_simp; done) | (go_simp; rfl)); (case hp => exact (Reps.one (show Kd.M Kd.string _ _ _ (a0.extract 0 4) [.string (a0.extract 0 4)] from rfl) (Reps.one (show Kd.M Kd.string _ _ _ (t276.extract 0 ((rd t275 0) : Int).toNat) [.string (t276.extract 0 ((rd t275 0) : Int).toNat)] from rfl) (Reps.none _ _))))
                        intro v284 w31 ho32 hb hg_ hnew_
                        have HS0_ := (hb.cell (World.block_lt_of_cell? _ _ (hHeld))).trans (hHeld)
                        clear hg_ hnew_
                        (first | rw [← Ny283.out] at ho32 | (simp only [Int.reduceToNat] at ho32; rw [← Ny283.out] at ho32))
                        have n0_ := Aside0.mk (Kd.R_below (by (with_reducible repeat (first | apply Kd.R_alloc | apply Kd.R_drewN | apply Kd.R_drew)); exact HO_5.out) hb)
                        have n1_ := Aside0.mk (Kd.R_lower ho32 (below_size (by repeat (first | (with_reducible first | exact HB.out | apply below_alloc | apply pw_below_drewN | apply below_drew1) | exact HB.out))))
                        have n2_ := Aside0.mk (below_step (by repeat (first | (with_reducible first | exact HB.out | apply below_alloc | apply pw_below_drewN | apply below_drew1) | exact HB.out)) hb)
                        clear HO_5
                        clear HB
                        have HO_5 := n0_
                        have HO285 := n1_
                        have HB := n2_
                        clear n0_ n1_ n2_
                        clear hb ho32
                        obtain ⟨Ao33, co33, eo33⟩ := Kd.R_slice HO285.out
                        (first | subst eo33 | (injection eo33 with f1_ f2_ f3_; have f4_ := f1_.symm; have f5_ := f3_.symm; clear f1_ f2_ f3_; subst f4_; subst f5_))
                        refine hK.out _ _ (HS0_) (fun hHeld => ?_)
                        clear hK K
                        refine norm_ (a' := ?_) ?_ ?_
                        rotate_left
                        · show Act.put _ (some 40) _ = _
                          simp only [Act.put, List.setIfInBounds_toArray, List.set_cons_zero, List.set_cons_succ, i64_w, i32_w]
                          rfl
                        refine one_ (i := 4) (N := some 41) #[true, true, true, true, true, false, true, true, true, false] rfl rfl (one_of HT_.out (by kernel_rfl)) (by decide) (fun K hK => ?_)
                        refine goes_ Try.func46 (by kernel_rfl) rfl #[.slice Ao33 y283.length co33] (by rfl) rfl rfl (by (try simp only [List.map_toArray, List.map_cons, List.map_nil]); first | done | rfl | (simp only [List.length_drop, List.length_take]; rfl)) ?_
                        with_reducible refine (crc_Parts.calls _ _ y283 t286 _ ?side1 ?side2 A19.out).mono ?_
                        (case side1 => repeat (first | exact (Kd.R_reads' HO285.out).2.2 | (with_reducible refine Kd.C_alloc ?_ _) | (with_reducible refine Kd.C_drewN ?_ _) | (with_reducible refine Kd.C_drew ?_)))
                        (case side2 => exact (Kd.R_reads' HO285.out).2.1)
                        rintro e w34 ⟨rfl, hb⟩
                        have HS0_ := (hb.cell (World.block_lt_of_cell? _ _ (hHeld))).trans (hHeld)
                        refine ⟨_, rfl, ?_⟩
                        have n0_ := Aside0.mk (Kd.R_below (by (with_reducible repeat (first | apply Kd.R_alloc | apply Kd.R_drewN | apply Kd.R_drew)); exact HO_5.out) hb)
                        have n1_ := Aside0.mk (Kd.R_below (by (with_reducible repeat (first | apply Kd.R_alloc | apply Kd.R_drewN | apply Kd.R_drew)); exact HO285.out) hb)
                        have n2_ := Aside0.mk (below_step (by repeat (first | (with_reducible first | exact HB.out | apply below_alloc | apply pw_below_drewN | apply below_drew1) | exact HB.out)) hb)
                        clear HO_5
                        clear HO285
                        clear HB
                        have HO_5 := n0_
                        have HO285 := n1_
                        have HB := n2_
                        clear n0_ n1_ n2_
                        (try clear hb)
                        (try clear hb2)
                        (try clear hk)
                        (try clear hi)
                        refine hK.out _ _ (HS0_) (fun hHeld => ?_)
                        clear hK K
                        refine norm_ (a' := ?_) ?_ ?_
                        rotate_left
                        · show Act.put _ (some 41) _ = _
                          simp only [Act.put, List.setIfInBounds_toArray, List.set_cons_zero, List.set_cons_succ, i64_w, i32_w]
                          rfl
                        refine pure_ (i := 5) (N := some 42) (v := ?_) (a' := ?_) #[true, true, true, true, true, true, true, true, true, false] rfl rfl (any_of HT_.out (by kernel_rfl)) (fun _ _ _ h => h) (Or.inl ⟨by rfl, ?_⟩) ?_ ?_
                        rotate_left
                        · intro w'
                          go_simp
                          with_reducible rfl
                        rotate_left
                        · simp only [Act.put, List.setIfInBounds_toArray, List.set_cons_zero, List.set_cons_succ, i64_w, i32_w]
                          rfl
                        refine pure_ (i := 9) (N := some 46) (v := ?_) (a' := ?_) #[true, true, true, true, true, true, true, true, true, true] rfl rfl (any_of HT_.out (by kernel_rfl)) (fun _ _ _ h => h) (Or.inl ⟨by rfl, ?_⟩) ?_ ?_
                        rotate_left
                        · intro w'
                          go_simp
                          with_reducible rfl
                        rotate_left
                        · simp only [Act.put, List.setIfInBounds_toArray, List.set_cons_zero, List.set_cons_succ, i64_w, i32_w]
                          rfl
                        refine done_ (done_of HT_.out (by kernel_rfl)) ?_
                        try go_wp2
                        go_ret3
                        exact ⟨by first | rfl | (simp [errW_none, errW_some] <;> rfl) | (simp [*, errW_none, errW_some] <;> rfl), by repeat (first | (with_reducible first | exact HB.out | apply below_alloc | apply pw_below_drewN | apply below_drew1) | exact HB.out)⟩
                    · rw [if_neg c20] at H
                      exact absurd H (by simp)
                  · rw [if_neg c18] at H
                    exact absurd H (by simp)
                · rw [if_neg c17] at H
                  exact absurd H (by simp)
              · rw [if_neg c16] at H
                exact absurd H (by simp)
            · rw [if_neg c15] at H
              exact absurd H (by simp)
          · rw [if_neg c14] at H
            exact absurd H (by simp)
  · rw [if_neg c3] at H
    have c3b0 : (t277 == 0) = false := beq_eq_false_iff_ne.mpr c3
    have c3b1 : (t277 != 0) = true := bne_iff_ne.mpr c3
    simp only [Option.some.injEq, Prod.mk.injEq] at H
    obtain ⟨rfl, rfl, rfl⟩ := H
    go_enter Try.func31, Try.ntmps31
    go_wp2_with (first | ((with_reducible refine gate_dst (N := 11) rfl ?_); (try (refine gate_guard (by rfl) ?_; dsimp only)); refine Kd.R_lit (Kd.int .i64) _ 3 ?hg (N := 11) ?hd (xs := ([4, 4] : List Int)) (inner := [.int .i64 4, .int .i64 4]) (ok := fun _ => True) (okp := fun _ => True) ?hr ?hp (fun _ hk => hk) trivial (Below.refl _ _) (Nat.le_refl _) (by simp) ?_; (case hd => rfl); (case hg => rfl); (case hr => first | (go_simp; done) | (go_simp; rfl)); (case hp => exact (Reps.one (show Kd.M (Kd.int .i64) _ _ _ 4 [.int .i64 4] from rfl) (Reps.one (show Kd.M (Kd.int .i64) _ _ _ 4 [.int .i64 4] from rfl) (Reps.none _ _)))); intro v273 w35 ho36 hb hg_ hnew_; clear hg_ hnew_; (first | rw [← Ny272.out] at ho36 | (simp only [Int.reduceToNat] at ho36; rw [← Ny272.out] at ho36)); have n0_ := Aside0.mk (Kd.R_lower ho36 (below_size (by repeat (first | (with_reducible first | exact HB.out | apply below_alloc | apply pw_below_drewN | apply below_drew1) | exact HB.out)))); have n1_ := Aside0.mk (below_step (by repeat (first | (with_reducible first | exact HB.out | apply below_alloc | apply pw_below_drewN | apply below_drew1) | exact HB.out)) hb); clear HB; have HO274 := n0_; have HB := n1_; clear n0_ n1_; clear hb ho36; obtain ⟨Ao37, co37, eo37⟩ := Kd.R_slice HO274.out; subst eo37) | ((with_reducible refine gate_callee (f := 15) rfl ?_); refine goesL_ (some 12) rfl rfl Try.func15 (by kernel_rfl) rfl #[.string a0, .slice Ao37 y272.length co37] rfl (by (try simp only [List.map_toArray, List.map_cons, List.map_nil]); first | done | rfl | (simp only [List.length_drop, List.length_take]; rfl)) ?_; (with_reducible refine (octets_Split.calls a0 _ _ y272 t275 t276 t277 _ ?side1 ?side2 A2.out).mono ?_); (case side1 => repeat (first | exact (Kd.R_reads' HO274.out).2.2 | (with_reducible refine Kd.C_alloc ?_ _) | (with_reducible refine Kd.C_drewN ?_ _) | (with_reducible refine Kd.C_drew ?_))); (case side2 => exact (Kd.R_reads' HO274.out).2.1); rintro e w38 ⟨v278, rfl, ho0, hb⟩; refine ⟨_, rfl, ?_⟩; have n0_ := Aside0.mk (Kd.R_below (by (with_reducible repeat (first | apply Kd.R_alloc | apply Kd.R_drewN | apply Kd.R_drew)); exact HO274.out) hb); have n1_ := Aside0.mk (Kd.R_lower ho0 (below_size (by repeat (first | (with_reducible first | exact HB.out | apply below_alloc | apply pw_below_drewN | apply below_drew1) | exact HB.out)))); have n2_ := Aside0.mk (below_step (by repeat (first | (with_reducible first | exact HB.out | apply below_alloc | apply pw_below_drewN | apply below_drew1) | exact HB.out)) hb); clear HO274; clear HB; have HO274 := n0_; have HO279 := n1_; have HB := n2_; clear n0_ n1_ n2_; (try clear hb); (try clear hb2); (try clear hk); (try clear hi); (try clear ho0)))
    go_ret3
    exact ⟨by first | rfl | (simp [errW_none, errW_some] <;> rfl) | (simp [*, errW_none, errW_some] <;> rfl), by repeat (first | (with_reducible first | exact HB.out | apply below_alloc | apply pw_below_drewN | apply below_drew1) | exact HB.out)⟩

end Go.Proofs.Ythcbgoldkoobdaa.POct
