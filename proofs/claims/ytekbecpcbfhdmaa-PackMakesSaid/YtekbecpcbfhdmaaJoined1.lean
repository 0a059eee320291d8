/- Joined out of this session's own texts: contracts and facts that the claim's row is drawn from, each with its own conditions. -/
import Derived.Test.YtekbecpcbfhdmaaJoined0
-- Written by this session's program gprint.py out of the translation; Lean checks it.
namespace Go.Proofs.Ytekbecpcbfhdmaa.PPak
open Go.RowKit Go.Proofs.YtekbecpcbfhdmaaW.PrintWords Go.Proofs.YtekbecpcbfhdmaaW.PrintLast Go.Proofs.YtekbecpcbfhdmaaW.PrintMore Go.Proofs.Ytekbecpcbfhdmaa.Given
attribute [local go_sem] max2_int min2_int max_two min_two max_three min_three max_four min_four   -- for this text's walks alone
set_option linter.unusedVariables false
set_option linter.unusedSimpArgs false

/-! ### pack_at: function 24 -/
def pack_at.j0 : Nat → ByteArray → Int → ByteArray → Bool → Option (ByteArray × Int × Int × Bool)
  | 0, _, _, _, _ => none
  | k + 1, x0, x1, x7, x27 => if x27 = true then (if 0 ≤ x1 then (if x1 ≤ (wrap64 ((x0.size : Int) - (x7.size : Int))) then (if (wrap64 ((x0.size : Int) - (x7.size : Int))) ≤ (x0.size : Int) then (some (x0.extract (x1 : Int).toNat ((wrap64 ((x0.size : Int) - (x7.size : Int))) : Int).toNat, (-1), wrap64 ((x0.size : Int) - (x7.size : Int)), true)) else (none)) else (none)) else (none)) else (if 0 ≤ x1 then (if x1 ≤ (x0.size : Int) then ((octets_Split.f (x0.extract (x1 : Int).toNat x0.size) (([2] : List Int))).bind fun bt108 => (if bt108.2.2 = 0 then (if 0 < (bt108.1.length : Int) then (if (rd bt108.1 0) < 49152 then (some ((⟨#[]⟩ : ByteArray), 0, 0, false)) else (some ((⟨#[]⟩ : ByteArray), wrap64 (IntKind.u64.wrap ((rd bt108.1 0) - 49152)), wrap64 (x1 + 2), true))) else (none)) else (some ((⟨#[]⟩ : ByteArray), 0, 0, false)))) else (none)) else (none))
def pack_at.f (k : Nat) (a0 : ByteArray) (a1 : Int) : Option (ByteArray × Int × Int × Bool) := if 0 ≤ a1 then (if a1 ≤ (a0.size : Int) then ((octets_Cut.f (a0.extract (a1 : Int).toNat a0.size) 1).bind fun bt102 => (if bt102.2.2 = 0 then (pack_at.j0 k a0 a1 bt102.2.1 (decide ((bt102.1.size : Int) ≤ 63))) else (pack_at.j0 k a0 a1 bt102.2.1 false))) else (none)) else (none)
theorem pack_at.mono_l : ∀ k, (∀ y0 y1 y2 y3, LeO (pack_at.j0 k y0 y1 y2 y3) (pack_at.j0 (k + 1) y0 y1 y2 y3))
  | 0 => fun _ _ _ _ r h => by simp [pack_at.j0] at h
  | k + 1 => by
    have ih0 := pack_at.mono_l k
    · intro y0 y1 y2 y3
      unfold pack_at.j0
      repeat' first
      | (with_reducible exact ih0 _ _ _ _)
      | (with_reducible exact LeO.refl _)
      | (with_reducible exact LeO.none _)
      | (with_reducible refine LeO.ite ?_ ?_)
      | (with_reducible refine LeO.bind ?_ (fun _ => ?_))
      | exact ih0 _ _ _ _
      | exact LeO.none _
      | refine LeO.ite ?_ ?_
      | refine LeO.bind ?_ (fun _ => ?_)
theorem pack_at.mono : ∀ a0 a1 k, LeO (pack_at.f k a0 a1) (pack_at.f (k + 1) a0 a1) := by
  intro a0 a1 k
  have ih0 := pack_at.mono_l k
  unfold pack_at.f
  repeat' first
      | (with_reducible exact ih0 _ _ _ _)
      | (with_reducible exact LeO.refl _)
      | (with_reducible exact LeO.none _)
      | (with_reducible refine LeO.ite ?_ ?_)
      | (with_reducible refine LeO.bind ?_ (fun _ => ?_))
      | exact ih0 _ _ _ _
      | exact LeO.none _
      | refine LeO.ite ?_ ?_
      | refine LeO.bind ?_ (fun _ => ?_)
set_option maxHeartbeats 8000000 in
set_option maxRecDepth 100000 in
theorem pack_at.calls (k : Nat) (a0 : ByteArray) (a1 : Int) (r1 : ByteArray) (r2 : Int) (r3 : Int) (r4 : Bool) (w : World) (h : pack_at.f k a0 a1 = some (r1, r2, r3, r4)) :
    Calls Try.prog 24 #[.string a0, .int .i64 a1] w fun e w' => e = .returned (.tuple #[.agg #[.string r1, .int .i64 r2, .int .i64 r3], .bool r4]) ∧ Below w.heap.size w w' := by
  have hu64 := Try.underlying64
  have HB := Aside0.mk (Below.refl w.heap.size w)
  have H : (if 0 ≤ a1 then (if a1 ≤ (a0.size : Int) then ((octets_Cut.f (a0.extract (a1 : Int).toNat a0.size) 1).bind fun bt102 => (if bt102.2.2 = 0 then (pack_at.j0 k a0 a1 bt102.2.1 (decide ((bt102.1.size : Int) ≤ 63))) else (pack_at.j0 k a0 a1 bt102.2.1 false))) else (none)) else (none)) = some (r1, r2, r3, r4) := h
  clear h
  by_cases c3 : 0 ≤ a1
  · rw [if_pos c3] at H
    have c3b0 := eq_true c3
    have c3b1 : decide (0 ≤ a1) = true := decide_eq_true c3
    clear c3
    by_cases c4 : a1 ≤ (a0.size : Int)
    · rw [if_pos c4] at H
      have c4b0 := eq_true c4
      have c4b1 : decide (a1 ≤ (a0.size : Int)) = true := decide_eq_true c4
      clear c4
      replace H := Option.bind_eq_some_iff.mp H
      obtain ⟨⟨t102, t103, t104⟩, A50, H⟩ := H
      replace H : (if t104 = 0 then (pack_at.j0 k a0 a1 t103 (decide ((t102.size : Int) ≤ 63))) else (pack_at.j0 k a0 a1 t103 false)) = some (r1, r2, r3, r4) := H
      have A5 := Aside0.mk A50
      clear A50
      have HC6 := Aside0.mk H
      clear H
      go_enter Try.func24, Try.ntmps24
      go_upto_region 2 with (first | ((with_reducible refine gate_dst (N := 4) rfl ?_); (try (refine gate_guard (by rfl) ?_; dsimp only)); refine box_event ?hg (N := 4) ?hd (cs := #[.string (⟨#[]⟩ : ByteArray), .int .i64 0, .int .i64 0]) (t := 64) ?hr ?_; (case hd => rfl); (case hg => rfl); (case hr => first | (go_simp; done) | (go_simp; rfl)); intro gb101 hg w7 hbox hb; have n0_ := Aside0.mk (below_step (by repeat (first | (with_reducible first | exact HB.out | apply below_alloc | apply pw_below_drewN | apply below_drew1) | exact HB.out)) hb); have n1_ := Aside0.mk (hbox); have n2_ := Aside0.mk ((by rw [hg]; exact (below_size (by repeat (first | (with_reducible first | exact HB.out | apply below_alloc | apply pw_below_drewN | apply below_drew1) | exact HB.out))) : w.heap.size ≤ gb101)); have n3_ := Aside0.mk ((by rw [hg]; exact (below_size (by repeat (first | (with_reducible first | exact HB.out | apply below_alloc | apply pw_below_drewN | apply below_drew1) | exact HB.out))) : w.heap.size ≤ gb101)); clear HB; have HB := n0_; have BK101 := n1_; have GW101 := n2_; have GE101 := n3_; clear n0_ n1_ n2_ n3_; clear hb hbox hg) | ((with_reducible refine gate_callee (f := 29) rfl ?_); refine goesL_ (some 17) rfl rfl Try.func29 (by kernel_rfl) rfl #[.string (a0.extract (a1 : Int).toNat a0.size), .int .i64 1] rfl (by (try simp only [List.map_toArray, List.map_cons, List.map_nil]); first | done | rfl | (simp only [List.length_drop, List.length_take]; rfl)) ?_; (with_reducible refine (octets_Cut.calls (a0.extract (a1 : Int).toNat a0.size) 1 t102 t103 t104 _ A5.out).mono ?_); rintro e w8 ⟨rfl, hb⟩; refine ⟨_, rfl, ?_⟩; have n0_ := Aside0.mk (blk_below (g := gb101) (o := .cells #[.string (⟨#[]⟩ : ByteArray), .int .i64 0, .int .i64 0] 64 (0, 0)) (by (with_reducible repeat (first | refine blk_drewN ?_ _ | refine blk_drew ?_ | refine blk_alloc ?_ _)); exact BK101.out) hb); have n1_ := Aside0.mk (below_step (by repeat (first | (with_reducible first | exact HB.out | apply below_alloc | apply pw_below_drewN | apply below_drew1 | refine below_set ?_ GE101.out) | exact HB.out)) hb); clear BK101; clear HB; have BK101 := n0_; have HB := n1_; clear n0_ n1_; (try clear hb); (try clear hb2); (try clear hk); (try clear hi)))
      (try simp only [Act.put, List.setIfInBounds_toArray, List.set_cons_zero, List.set_cons_succ])
      go_cut [27] (fun v27 wc => ∃ (kq : Nat) (x27_5 : Bool), v27 = .bool x27_5 ∧ Aside0 (pack_at.j0 kq a0 a1 t103 x27_5 = some (r1, r2, r3, r4)) ∧ Aside0 (kq ≤ k) ∧ Aside0 (wc.heap[gb101]? = some (.cells #[.string (⟨#[]⟩ : ByteArray), .int .i64 0, .int .i64 0] 64 (0, 0))) ∧ Aside0 (Below w.heap.size w wc))
      case first =>
        have H := HC6.out
        clear HC6
        by_cases c9 : t104 = 0
        · rw [if_pos c9] at H
          have c9b0 : (t104 == 0) = true := beq_iff_eq.mpr c9
          have c9b1 : (t104 != 0) = false := bne_eq_false_iff_eq.mpr c9
          clear c9
          (first | rw [c9b0] | (simp only [i64_w, i32_w]; rw [c9b0]) | skip)
          have H' := Aside0.mk H
          clear H
          go_wp2
          go_meet
          case rel => exact ⟨_, (decide ((t102.size : Int) ≤ 63)), (by first | rfl | (simp; done) | (simp [*]; done)), H', ⟨by first | omega | exact Nat.le_refl _⟩, ⟨by (with_reducible repeat (first | refine blk_drewN ?_ _ | refine blk_drew ?_ | refine blk_alloc ?_ _)); exact BK101.out⟩, ⟨by repeat (first | (with_reducible first | exact HB.out | apply below_alloc | apply pw_below_drewN | apply below_drew1 | refine below_set ?_ GE101.out) | exact HB.out)⟩⟩
        · rw [if_neg c9] at H
          have c9b0 : (t104 == 0) = false := beq_eq_false_iff_ne.mpr c9
          have c9b1 : (t104 != 0) = true := bne_iff_ne.mpr c9
          (first | rw [c9b0] | (simp only [i64_w, i32_w]; rw [c9b0]) | skip)
          have H' := Aside0.mk H
          clear H
          go_wp2
          go_meet
          case rel => exact ⟨_, (false), (by first | rfl | (simp; done) | (simp [*]; done)), H', ⟨by first | omega | exact Nat.le_refl _⟩, ⟨by (with_reducible repeat (first | refine blk_drewN ?_ _ | refine blk_drew ?_ | refine blk_alloc ?_ _)); exact BK101.out⟩, ⟨by repeat (first | (with_reducible first | exact HB.out | apply below_alloc | apply pw_below_drewN | apply below_drew1 | refine below_set ?_ GE101.out) | exact HB.out)⟩⟩
      case rest =>
        clear HC6
        try clear c2
        try clear p2
        try clear c3
        try clear c3b0
        try clear c3b1
        try clear c4
        try clear c4b0
        try clear c4b1
        try clear c9
        try clear c9b0
        try clear c9b1
        obtain ⟨kq, x27_5, rfl, HA, HJ5, BK101, HB⟩ := hcut
        cases kq with
        | zero => exact absurd HA.out (by simp [pack_at.j0])
        | succ kj5 =>
          have H := HA.out
          clear HA
          simp only [pack_at.j0] at H
          by_cases c10 : x27_5 = true
          · subst c10
            have H1 : (if 0 ≤ a1 then (if a1 ≤ (wrap64 ((a0.size : Int) - (t103.size : Int))) then (if (wrap64 ((a0.size : Int) - (t103.size : Int))) ≤ (a0.size : Int) then (some (a0.extract (a1 : Int).toNat ((wrap64 ((a0.size : Int) - (t103.size : Int))) : Int).toNat, (-1), wrap64 ((a0.size : Int) - (t103.size : Int)), true)) else (none)) else (none)) else (none)) = some (r1, r2, r3, r4) := by rw [if_pos rfl] at H; exact H
            clear H
            have H := H1
            clear H1
            by_cases c11 : 0 ≤ a1
            · rw [if_pos c11] at H
              have c11b0 := eq_true c11
              have c11b1 : decide (0 ≤ a1) = true := decide_eq_true c11
              clear c11
              by_cases c12 : a1 ≤ (wrap64 ((a0.size : Int) - (t103.size : Int)))
              · rw [if_pos c12] at H
                have c12b0 := eq_true c12
                have c12b1 : decide (a1 ≤ (wrap64 ((a0.size : Int) - (t103.size : Int)))) = true := decide_eq_true c12
                clear c12
                by_cases c13 : (wrap64 ((a0.size : Int) - (t103.size : Int))) ≤ (a0.size : Int)
                · rw [if_pos c13] at H
                  have c13b0 := eq_true c13
                  have c13b1 : decide ((wrap64 ((a0.size : Int) - (t103.size : Int))) ≤ (a0.size : Int)) = true := decide_eq_true c13
                  clear c13
                  simp only [Option.some.injEq, Prod.mk.injEq] at H
                  obtain ⟨rfl, rfl, rfl, rfl⟩ := H
                  have hcz14_0 : wc.cell? ⟨gb101, 0, none⟩ = some (.string (⟨#[]⟩ : ByteArray)) := (blk_cell BK101.out 0).trans rfl
                  have hcz14_1 : wc.cell? ⟨gb101, 1, none⟩ = some (.int .i64 0) := (blk_cell BK101.out 1).trans rfl
                  have hcz14_2 : wc.cell? ⟨gb101, 2, none⟩ = some (.int .i64 0) := (blk_cell BK101.out 2).trans rfl
                  have hfz14_0 := blk_frozen BK101.out 0
                  have hfz14_1 := blk_frozen BK101.out 1
                  have hfz14_2 := blk_frozen BK101.out 2
                  go_wp2
                  refine bodyPost_ret (results_ct rfl _ _ gb101 64 #[.string (a0.extract (a1 : Int).toNat ((wrap64 ((a0.size : Int) - (t103.size : Int))) : Int).toNat), .int .i64 (-1), .int .i64 (wrap64 ((a0.size : Int) - (t103.size : Int)))] (0, 0) _ rfl (by (with_reducible repeat (first | refine blk_drewN ?_ _ | refine blk_drew ?_ | refine blk_alloc ?_ _)); refine blk_put (cs := #[.string (a0.extract (a1 : Int).toNat ((wrap64 ((a0.size : Int) - (t103.size : Int))) : Int).toNat), .int .i64 (-1), .int .i64 0]) ?_ 2 _ rfl; (with_reducible repeat (first | refine blk_drewN ?_ _ | refine blk_drew ?_ | refine blk_alloc ?_ _)); refine blk_put (cs := #[.string (a0.extract (a1 : Int).toNat ((wrap64 ((a0.size : Int) - (t103.size : Int))) : Int).toNat), .int .i64 0, .int .i64 0]) ?_ 1 _ rfl; (with_reducible repeat (first | refine blk_drewN ?_ _ | refine blk_drew ?_ | refine blk_alloc ?_ _)); refine blk_put (cs := #[.string (⟨#[]⟩ : ByteArray), .int .i64 0, .int .i64 0]) ?_ 0 _ rfl; (with_reducible repeat (first | refine blk_drewN ?_ _ | refine blk_drew ?_ | refine blk_alloc ?_ _)); exact BK101.out) Try.underlying64 rfl (by kernel_rfl)) rfl ?_
                  exact ⟨by first | rfl | (simp [errW_none, errW_some] <;> rfl) | (simp [*, errW_none, errW_some] <;> rfl), by repeat (first | (with_reducible first | exact HB.out | apply below_alloc | apply pw_below_drewN | apply below_drew1 | refine below_set ?_ GE101.out) | exact HB.out)⟩
                · rw [if_neg c13] at H
                  exact absurd H (by simp)
              · rw [if_neg c12] at H
                exact absurd H (by simp)
            · rw [if_neg c11] at H
              exact absurd H (by simp)
          · replace c10 := Bool.eq_false_iff.mpr c10
            subst c10
            have H1 : (if 0 ≤ a1 then (if a1 ≤ (a0.size : Int) then ((octets_Split.f (a0.extract (a1 : Int).toNat a0.size) (([2] : List Int))).bind fun bt108 => (if bt108.2.2 = 0 then (if 0 < (bt108.1.length : Int) then (if (rd bt108.1 0) < 49152 then (some ((⟨#[]⟩ : ByteArray), 0, 0, false)) else (some ((⟨#[]⟩ : ByteArray), wrap64 (IntKind.u64.wrap ((rd bt108.1 0) - 49152)), wrap64 (a1 + 2), true))) else (none)) else (some ((⟨#[]⟩ : ByteArray), 0, 0, false)))) else (none)) else (none)) = some (r1, r2, r3, r4) := by rw [if_neg (show ¬ (false = true) by decide)] at H; exact H
            clear H
            have H := H1
            clear H1
            by_cases c15 : 0 ≤ a1
            · rw [if_pos c15] at H
              have c15b0 := eq_true c15
              have c15b1 : decide (0 ≤ a1) = true := decide_eq_true c15
              clear c15
              by_cases c16 : a1 ≤ (a0.size : Int)
              · rw [if_pos c16] at H
                have c16b0 := eq_true c16
                have c16b1 : decide (a1 ≤ (a0.size : Int)) = true := decide_eq_true c16
                clear c16
                obtain ⟨y105, hy105⟩ : ∃ y_ : List Int, y_ = (([2] : List Int)) := ⟨_, rfl⟩
                replace H : ((octets_Split.f (a0.extract (a1 : Int).toNat a0.size) y105).bind fun bt108 => (if bt108.2.2 = 0 then (if 0 < (bt108.1.length : Int) then (if (rd bt108.1 0) < 49152 then (some ((⟨#[]⟩ : ByteArray), 0, 0, false)) else (some ((⟨#[]⟩ : ByteArray), wrap64 (IntKind.u64.wrap ((rd bt108.1 0) - 49152)), wrap64 (a1 + 2), true))) else (none)) else (some ((⟨#[]⟩ : ByteArray), 0, 0, false)))) = some (r1, r2, r3, r4) := by first | (rw [hy105]; with_reducible exact H) | (have H2_ := (Option.bind_some _ _).symm.trans H; rw [hy105]; with_reducible exact H2_) | (have H2_ := (Option.bind_some _ _).symm.trans H; with_reducible exact H2_) | with_reducible exact H | (rw [hy105]; exact H) | exact H
                have Ny105 := Aside0.mk hy105
                clear hy105
                replace H := Option.bind_eq_some_iff.mp H
                obtain ⟨⟨t108, t109, t110⟩, A170, H⟩ := H
                replace H : (if t110 = 0 then (if 0 < (t108.length : Int) then (if (rd t108 0) < 49152 then (some ((⟨#[]⟩ : ByteArray), 0, 0, false)) else (some ((⟨#[]⟩ : ByteArray), wrap64 (IntKind.u64.wrap ((rd t108 0) - 49152)), wrap64 (a1 + 2), true))) else (none)) else (some ((⟨#[]⟩ : ByteArray), 0, 0, false))) = some (r1, r2, r3, r4) := H
                have A17 := Aside0.mk A170
                clear A170
                by_cases c18 : t110 = 0
                · rw [if_pos c18] at H
                  have c18b0 : (t110 == 0) = true := beq_iff_eq.mpr c18
                  have c18b1 : (t110 != 0) = false := bne_eq_false_iff_eq.mpr c18
                  clear c18
                  by_cases c19 : 0 < (t108.length : Int)
                  · rw [if_pos c19] at H
                    have c19b0 : decide (0 < (t108.length : Int)) = true := decide_eq_true c19
                    have c19b1 : decide (0 < t108.length) = true := decide_eq_true (by omega)
                    clear c19
                    by_cases c20 : (rd t108 0) < 49152
                    · rw [if_pos c20] at H
                      have c20b0 : decide ((rd t108 0) < 49152) = true := decide_eq_true c20
                      clear c20
                      simp only [Option.some.injEq, Prod.mk.injEq] at H
                      obtain ⟨rfl, rfl, rfl, rfl⟩ := H
                      go_wp2_with (first | ((with_reducible refine gate_dst (N := 43) rfl ?_); (try (refine gate_guard (by rfl) ?_; dsimp only)); refine Kd.R_lit (Kd.int .i64) _ 3 ?hg (N := 43) ?hd (xs := ([2] : List Int)) (inner := [.int .i64 2]) (ok := fun _ => True) (okp := fun _ => True) ?hr ?hp (fun _ hk => hk) trivial (Below.refl _ _) (Nat.le_refl _) (by simp) ?_; (case hd => rfl); (case hg => rfl); (case hr => first | (go_simp; done) | (go_simp; rfl)); (case hp => exact (Reps.one (show Kd.M (Kd.int .i64) _ _ _ 2 [.int .i64 2] from rfl) (Reps.none _ _))); intro v106 w21 ho22 hb hg_ hnew_; clear hg_ hnew_; (first | rw [← Ny105.out] at ho22 | (simp only [Int.reduceToNat] at ho22; rw [← Ny105.out] at ho22)); have n0_ := Aside0.mk (Kd.R_lower ho22 (below_size (by repeat (first | (with_reducible first | exact HB.out | apply below_alloc | apply pw_below_drewN | apply below_drew1 | refine below_set ?_ GE101.out) | exact HB.out)))); have n1_ := Aside0.mk (blk_below (g := gb101) (o := .cells #[.string (⟨#[]⟩ : ByteArray), .int .i64 0, .int .i64 0] 64 (0, 0)) (by (with_reducible repeat (first | refine blk_drewN ?_ _ | refine blk_drew ?_ | refine blk_alloc ?_ _)); exact BK101.out) hb); have n2_ := Aside0.mk (below_step (by repeat (first | (with_reducible first | exact HB.out | apply below_alloc | apply pw_below_drewN | apply below_drew1 | refine below_set ?_ GE101.out) | exact HB.out)) hb); clear BK101; clear HB; have HO107 := n0_; have BK101 := n1_; have HB := n2_; clear n0_ n1_ n2_; clear hb ho22; obtain ⟨Ao23, co23, eo23⟩ := Kd.R_slice HO107.out; subst eo23) | ((with_reducible refine gate_callee (f := 30) rfl ?_); refine goesL_ (some 44) rfl rfl Try.func30 (by kernel_rfl) rfl #[.string (a0.extract (a1 : Int).toNat a0.size), .slice Ao23 y105.length co23] rfl (by (try simp only [List.map_toArray, List.map_cons, List.map_nil]); first | done | rfl | (simp only [List.length_drop, List.length_take]; rfl)) ?_; (with_reducible refine (octets_Split.calls (a0.extract (a1 : Int).toNat a0.size) _ _ y105 t108 t109 t110 _ ?side1 ?side2 A17.out).mono ?_); (case side1 => repeat (first | exact (Kd.R_reads' HO107.out).2.2 | (with_reducible refine Kd.C_alloc ?_ _) | (with_reducible refine Kd.C_drewN ?_ _) | (with_reducible refine Kd.C_drew ?_))); (case side2 => exact (Kd.R_reads' HO107.out).2.1); rintro e w24 ⟨v111, rfl, ho0, hb⟩; refine ⟨_, rfl, ?_⟩; have n0_ := Aside0.mk (Kd.R_below (by (with_reducible repeat (first | apply Kd.R_alloc | apply Kd.R_drewN | apply Kd.R_drew)); exact HO107.out) hb); have n1_ := Aside0.mk (Kd.R_lower ho0 (below_size (by repeat (first | (with_reducible first | exact HB.out | apply below_alloc | apply pw_below_drewN | apply below_drew1 | refine below_set ?_ GE101.out) | exact HB.out)))); have n2_ := Aside0.mk (blk_below (g := gb101) (o := .cells #[.string (⟨#[]⟩ : ByteArray), .int .i64 0, .int .i64 0] 64 (0, 0)) (by (with_reducible repeat (first | refine blk_drewN ?_ _ | refine blk_drew ?_ | refine blk_alloc ?_ _)); exact BK101.out) hb); have n3_ := Aside0.mk (below_step (by repeat (first | (with_reducible first | exact HB.out | apply below_alloc | apply pw_below_drewN | apply below_drew1 | refine below_set ?_ GE101.out) | exact HB.out)) hb); clear HO107; clear BK101; clear HB; have HO107 := n0_; have HO112 := n1_; have BK101 := n2_; have HB := n3_; clear n0_ n1_ n2_ n3_; (try clear hb); (try clear hb2); (try clear hk); (try clear hi); (try clear ho0); obtain ⟨Ao25, co25, eo25⟩ := Kd.R_slice HO112.out; subst eo25; have p113 : 0 ≤ (0 : Int) := (by omega); have q113 : 0 < (t108.length : Int) := of_decide_eq_true (by first | (with_reducible assumption) | assumption); obtain ⟨ad113, e113, hx113_0⟩ := Kd.at_int (Kd.R_reads' HO112.out).2.2 0 p113 q113; cases e113; have qi113 : (0 < t108.length) = True := eq_true (by omega); (try rw [show ((0 : Int)).toNat = 0 from rfl] at hx113_0); (try rw [Addr.add_zero'] at hx113_0); replace p113 := eq_true p113; replace q113 := eq_true q113; have hcz26_0 : w24.cell? ⟨gb101, 0, none⟩ = some (.string (⟨#[]⟩ : ByteArray)) := (blk_cell BK101.out 0).trans rfl; have hcz26_1 : w24.cell? ⟨gb101, 1, none⟩ = some (.int .i64 0) := (blk_cell BK101.out 1).trans rfl; have hcz26_2 : w24.cell? ⟨gb101, 2, none⟩ = some (.int .i64 0) := (blk_cell BK101.out 2).trans rfl; have hfz26_0 := blk_frozen BK101.out 0; have hfz26_1 := blk_frozen BK101.out 1; have hfz26_2 := blk_frozen BK101.out 2))
                      refine bodyPost_ret (results_ct rfl _ _ gb101 64 #[.string (⟨#[]⟩ : ByteArray), .int .i64 0, .int .i64 0] (0, 0) _ rfl (by (with_reducible repeat (first | refine blk_drewN ?_ _ | refine blk_drew ?_ | refine blk_alloc ?_ _)); refine blk_put (cs := #[.string (⟨#[]⟩ : ByteArray), .int .i64 0, .int .i64 0]) ?_ 2 _ rfl; (with_reducible repeat (first | refine blk_drewN ?_ _ | refine blk_drew ?_ | refine blk_alloc ?_ _)); refine blk_put (cs := #[.string (⟨#[]⟩ : ByteArray), .int .i64 0, .int .i64 0]) ?_ 1 _ rfl; (with_reducible repeat (first | refine blk_drewN ?_ _ | refine blk_drew ?_ | refine blk_alloc ?_ _)); refine blk_put (cs := #[.string (⟨#[]⟩ : ByteArray), .int .i64 0, .int .i64 0]) ?_ 0 _ rfl; (with_reducible repeat (first | refine blk_drewN ?_ _ | refine blk_drew ?_ | refine blk_alloc ?_ _)); exact BK101.out) Try.underlying64 rfl (by kernel_rfl)) rfl ?_
                      exact ⟨by first | rfl | (simp [errW_none, errW_some] <;> rfl) | (simp [*, errW_none, errW_some] <;> rfl), by repeat (first | (with_reducible first | exact HB.out | apply below_alloc | apply pw_below_drewN | apply below_drew1 | refine below_set ?_ GE101.out) | exact HB.out)⟩
                    · rw [if_neg c20] at H
                      have c20b0 : decide ((rd t108 0) < 49152) = false := decide_eq_false c20
                      clear c20
                      simp only [Option.some.injEq, Prod.mk.injEq] at H
                      obtain ⟨rfl, rfl, rfl, rfl⟩ := H
                      go_wp2_with (first | ((with_reducible refine gate_dst (N := 43) rfl ?_); (try (refine gate_guard (by rfl) ?_; dsimp only)); refine Kd.R_lit (Kd.int .i64) _ 3 ?hg (N := 43) ?hd (xs := ([2] : List Int)) (inner := [.int .i64 2]) (ok := fun _ => True) (okp := fun _ => True) ?hr ?hp (fun _ hk => hk) trivial (Below.refl _ _) (Nat.le_refl _) (by simp) ?_; (case hd => rfl); (case hg => rfl); (case hr => first | (go_simp; done) | (go_simp; rfl)); (case hp => exact (Reps.one (show Kd.M (Kd.int .i64) _ _ _ 2 [.int .i64 2] from rfl) (Reps.none _ _))); intro v106 w27 ho28 hb hg_ hnew_; clear hg_ hnew_; (first | rw [← Ny105.out] at ho28 | (simp only [Int.reduceToNat] at ho28; rw [← Ny105.out] at ho28)); have n0_ := Aside0.mk (Kd.R_lower ho28 (below_size (by repeat (first | (with_reducible first | exact HB.out | apply below_alloc | apply pw_below_drewN | apply below_drew1 | refine below_set ?_ GE101.out) | exact HB.out)))); have n1_ := Aside0.mk (blk_below (g := gb101) (o := .cells #[.string (⟨#[]⟩ : ByteArray), .int .i64 0, .int .i64 0] 64 (0, 0)) (by (with_reducible repeat (first | refine blk_drewN ?_ _ | refine blk_drew ?_ | refine blk_alloc ?_ _)); exact BK101.out) hb); have n2_ := Aside0.mk (below_step (by repeat (first | (with_reducible first | exact HB.out | apply below_alloc | apply pw_below_drewN | apply below_drew1 | refine below_set ?_ GE101.out) | exact HB.out)) hb); clear BK101; clear HB; have HO107 := n0_; have BK101 := n1_; have HB := n2_; clear n0_ n1_ n2_; clear hb ho28; obtain ⟨Ao29, co29, eo29⟩ := Kd.R_slice HO107.out; subst eo29) | ((with_reducible refine gate_callee (f := 30) rfl ?_); refine goesL_ (some 44) rfl rfl Try.func30 (by kernel_rfl) rfl #[.string (a0.extract (a1 : Int).toNat a0.size), .slice Ao29 y105.length co29] rfl (by (try simp only [List.map_toArray, List.map_cons, List.map_nil]); first | done | rfl | (simp only [List.length_drop, List.length_take]; rfl)) ?_; (with_reducible refine (octets_Split.calls (a0.extract (a1 : Int).toNat a0.size) _ _ y105 t108 t109 t110 _ ?side1 ?side2 A17.out).mono ?_); (case side1 => repeat (first | exact (Kd.R_reads' HO107.out).2.2 | (with_reducible refine Kd.C_alloc ?_ _) | (with_reducible refine Kd.C_drewN ?_ _) | (with_reducible refine Kd.C_drew ?_))); (case side2 => exact (Kd.R_reads' HO107.out).2.1); rintro e w30 ⟨v111, rfl, ho0, hb⟩; refine ⟨_, rfl, ?_⟩; have n0_ := Aside0.mk (Kd.R_below (by (with_reducible repeat (first | apply Kd.R_alloc | apply Kd.R_drewN | apply Kd.R_drew)); exact HO107.out) hb); have n1_ := Aside0.mk (Kd.R_lower ho0 (below_size (by repeat (first | (with_reducible first | exact HB.out | apply below_alloc | apply pw_below_drewN | apply below_drew1 | refine below_set ?_ GE101.out) | exact HB.out)))); have n2_ := Aside0.mk (blk_below (g := gb101) (o := .cells #[.string (⟨#[]⟩ : ByteArray), .int .i64 0, .int .i64 0] 64 (0, 0)) (by (with_reducible repeat (first | refine blk_drewN ?_ _ | refine blk_drew ?_ | refine blk_alloc ?_ _)); exact BK101.out) hb); have n3_ := Aside0.mk (below_step (by repeat (first | (with_reducible first | exact HB.out | apply below_alloc | apply pw_below_drewN | apply below_drew1 | refine below_set ?_ GE101.out) | exact HB.out)) hb); clear HO107; clear BK101; clear HB; have HO107 := n0_; have HO112 := n1_; have BK101 := n2_; have HB := n3_; clear n0_ n1_ n2_ n3_; (try clear hb); (try clear hb2); (try clear hk); (try clear hi); (try clear ho0); obtain ⟨Ao31, co31, eo31⟩ := Kd.R_slice HO112.out; subst eo31; have p113 : 0 ≤ (0 : Int) := (by omega); have q113 : 0 < (t108.length : Int) := of_decide_eq_true (by first | (with_reducible assumption) | assumption); obtain ⟨ad113, e113, hx113_0⟩ := Kd.at_int (Kd.R_reads' HO112.out).2.2 0 p113 q113; cases e113; have qi113 : (0 < t108.length) = True := eq_true (by omega); (try rw [show ((0 : Int)).toNat = 0 from rfl] at hx113_0); (try rw [Addr.add_zero'] at hx113_0); replace p113 := eq_true p113; replace q113 := eq_true q113; have p114 : 0 ≤ (0 : Int) := (by omega); have q114 : 0 < (t108.length : Int) := of_decide_eq_true (by first | (with_reducible assumption) | assumption); obtain ⟨ad114, e114, hx114_0⟩ := Kd.at_int (Kd.R_reads' HO112.out).2.2 0 p114 q114; obtain rfl : ad113 = ad114 := (by injection e114); have qi114 : (0 < t108.length) = True := eq_true (by omega); (try rw [show ((0 : Int)).toNat = 0 from rfl] at hx114_0); (try rw [Addr.add_zero'] at hx114_0); replace p114 := eq_true p114; replace q114 := eq_true q114; have hcz32_0 : w30.cell? ⟨gb101, 0, none⟩ = some (.string (⟨#[]⟩ : ByteArray)) := (blk_cell BK101.out 0).trans rfl; have hcz32_1 : w30.cell? ⟨gb101, 1, none⟩ = some (.int .i64 0) := (blk_cell BK101.out 1).trans rfl; have hcz32_2 : w30.cell? ⟨gb101, 2, none⟩ = some (.int .i64 0) := (blk_cell BK101.out 2).trans rfl; have hfz32_0 := blk_frozen BK101.out 0; have hfz32_1 := blk_frozen BK101.out 1; have hfz32_2 := blk_frozen BK101.out 2))
                      refine bodyPost_ret (results_ct rfl _ _ gb101 64 #[.string (⟨#[]⟩ : ByteArray), .int .i64 (wrap64 (IntKind.u64.wrap ((rd t108 0) - 49152))), .int .i64 (wrap64 (a1 + 2))] (0, 0) _ rfl (by (with_reducible repeat (first | refine blk_drewN ?_ _ | refine blk_drew ?_ | refine blk_alloc ?_ _)); refine blk_put (cs := #[.string (⟨#[]⟩ : ByteArray), .int .i64 (wrap64 (IntKind.u64.wrap ((rd t108 0) - 49152))), .int .i64 0]) ?_ 2 _ rfl; (with_reducible repeat (first | refine blk_drewN ?_ _ | refine blk_drew ?_ | refine blk_alloc ?_ _)); refine blk_put (cs := #[.string (⟨#[]⟩ : ByteArray), .int .i64 0, .int .i64 0]) ?_ 1 _ rfl; (with_reducible repeat (first | refine blk_drewN ?_ _ | refine blk_drew ?_ | refine blk_alloc ?_ _)); refine blk_put (cs := #[.string (⟨#[]⟩ : ByteArray), .int .i64 0, .int .i64 0]) ?_ 0 _ rfl; (with_reducible repeat (first | refine blk_drewN ?_ _ | refine blk_drew ?_ | refine blk_alloc ?_ _)); exact BK101.out) Try.underlying64 rfl (by kernel_rfl)) rfl ?_
                      exact ⟨by first | rfl | (simp [errW_none, errW_some] <;> rfl) | (simp [*, errW_none, errW_some] <;> rfl), by repeat (first | (with_reducible first | exact HB.out | apply below_alloc | apply pw_below_drewN | apply below_drew1 | refine below_set ?_ GE101.out) | exact HB.out)⟩
                  · rw [if_neg c19] at H
                    exact absurd H (by simp)
                · rw [if_neg c18] at H
                  have c18b0 : (t110 == 0) = false := beq_eq_false_iff_ne.mpr c18
                  have c18b1 : (t110 != 0) = true := bne_iff_ne.mpr c18
                  simp only [Option.some.injEq, Prod.mk.injEq] at H
                  obtain ⟨rfl, rfl, rfl, rfl⟩ := H
                  go_wp2_with (first | ((with_reducible refine gate_dst (N := 43) rfl ?_); (try (refine gate_guard (by rfl) ?_; dsimp only)); refine Kd.R_lit (Kd.int .i64) _ 3 ?hg (N := 43) ?hd (xs := ([2] : List Int)) (inner := [.int .i64 2]) (ok := fun _ => True) (okp := fun _ => True) ?hr ?hp (fun _ hk => hk) trivial (Below.refl _ _) (Nat.le_refl _) (by simp) ?_; (case hd => rfl); (case hg => rfl); (case hr => first | (go_simp; done) | (go_simp; rfl)); (case hp => exact (Reps.one (show Kd.M (Kd.int .i64) _ _ _ 2 [.int .i64 2] from rfl) (Reps.none _ _))); intro v106 w33 ho34 hb hg_ hnew_; clear hg_ hnew_; (first | rw [← Ny105.out] at ho34 | (simp only [Int.reduceToNat] at ho34; rw [← Ny105.out] at ho34)); have n0_ := Aside0.mk (Kd.R_lower ho34 (below_size (by repeat (first | (with_reducible first | exact HB.out | apply below_alloc | apply pw_below_drewN | apply below_drew1 | refine below_set ?_ GE101.out) | exact HB.out)))); have n1_ := Aside0.mk (blk_below (g := gb101) (o := .cells #[.string (⟨#[]⟩ : ByteArray), .int .i64 0, .int .i64 0] 64 (0, 0)) (by (with_reducible repeat (first | refine blk_drewN ?_ _ | refine blk_drew ?_ | refine blk_alloc ?_ _)); exact BK101.out) hb); have n2_ := Aside0.mk (below_step (by repeat (first | (with_reducible first | exact HB.out | apply below_alloc | apply pw_below_drewN | apply below_drew1 | refine below_set ?_ GE101.out) | exact HB.out)) hb); clear BK101; clear HB; have HO107 := n0_; have BK101 := n1_; have HB := n2_; clear n0_ n1_ n2_; clear hb ho34; obtain ⟨Ao35, co35, eo35⟩ := Kd.R_slice HO107.out; subst eo35) | ((with_reducible refine gate_callee (f := 30) rfl ?_); refine goesL_ (some 44) rfl rfl Try.func30 (by kernel_rfl) rfl #[.string (a0.extract (a1 : Int).toNat a0.size), .slice Ao35 y105.length co35] rfl (by (try simp only [List.map_toArray, List.map_cons, List.map_nil]); first | done | rfl | (simp only [List.length_drop, List.length_take]; rfl)) ?_; (with_reducible refine (octets_Split.calls (a0.extract (a1 : Int).toNat a0.size) _ _ y105 t108 t109 t110 _ ?side1 ?side2 A17.out).mono ?_); (case side1 => repeat (first | exact (Kd.R_reads' HO107.out).2.2 | (with_reducible refine Kd.C_alloc ?_ _) | (with_reducible refine Kd.C_drewN ?_ _) | (with_reducible refine Kd.C_drew ?_))); (case side2 => exact (Kd.R_reads' HO107.out).2.1); rintro e w36 ⟨v111, rfl, ho0, hb⟩; refine ⟨_, rfl, ?_⟩; have n0_ := Aside0.mk (Kd.R_below (by (with_reducible repeat (first | apply Kd.R_alloc | apply Kd.R_drewN | apply Kd.R_drew)); exact HO107.out) hb); have n1_ := Aside0.mk (Kd.R_lower ho0 (below_size (by repeat (first | (with_reducible first | exact HB.out | apply below_alloc | apply pw_below_drewN | apply below_drew1 | refine below_set ?_ GE101.out) | exact HB.out)))); have n2_ := Aside0.mk (blk_below (g := gb101) (o := .cells #[.string (⟨#[]⟩ : ByteArray), .int .i64 0, .int .i64 0] 64 (0, 0)) (by (with_reducible repeat (first | refine blk_drewN ?_ _ | refine blk_drew ?_ | refine blk_alloc ?_ _)); exact BK101.out) hb); have n3_ := Aside0.mk (below_step (by repeat (first | (with_reducible first | exact HB.out | apply below_alloc | apply pw_below_drewN | apply below_drew1 | refine below_set ?_ GE101.out) | exact HB.out)) hb); clear HO107; clear BK101; clear HB; have HO107 := n0_; have HO112 := n1_; have BK101 := n2_; have HB := n3_; clear n0_ n1_ n2_ n3_; (try clear hb); (try clear hb2); (try clear hk); (try clear hi); (try clear ho0); have hcz37_0 : w36.cell? ⟨gb101, 0, none⟩ = some (.string (⟨#[]⟩ : ByteArray)) := (blk_cell BK101.out 0).trans rfl; have hcz37_1 : w36.cell? ⟨gb101, 1, none⟩ = some (.int .i64 0) := (blk_cell BK101.out 1).trans rfl; have hcz37_2 : w36.cell? ⟨gb101, 2, none⟩ = some (.int .i64 0) := (blk_cell BK101.out 2).trans rfl; have hfz37_0 := blk_frozen BK101.out 0; have hfz37_1 := blk_frozen BK101.out 1; have hfz37_2 := blk_frozen BK101.out 2))
                  refine bodyPost_ret (results_ct rfl _ _ gb101 64 #[.string (⟨#[]⟩ : ByteArray), .int .i64 0, .int .i64 0] (0, 0) _ rfl (by (with_reducible repeat (first | refine blk_drewN ?_ _ | refine blk_drew ?_ | refine blk_alloc ?_ _)); refine blk_put (cs := #[.string (⟨#[]⟩ : ByteArray), .int .i64 0, .int .i64 0]) ?_ 2 _ rfl; (with_reducible repeat (first | refine blk_drewN ?_ _ | refine blk_drew ?_ | refine blk_alloc ?_ _)); refine blk_put (cs := #[.string (⟨#[]⟩ : ByteArray), .int .i64 0, .int .i64 0]) ?_ 1 _ rfl; (with_reducible repeat (first | refine blk_drewN ?_ _ | refine blk_drew ?_ | refine blk_alloc ?_ _)); refine blk_put (cs := #[.string (⟨#[]⟩ : ByteArray), .int .i64 0, .int .i64 0]) ?_ 0 _ rfl; (with_reducible repeat (first | refine blk_drewN ?_ _ | refine blk_drew ?_ | refine blk_alloc ?_ _)); exact BK101.out) Try.underlying64 rfl (by kernel_rfl)) rfl ?_
                  exact ⟨by first | rfl | (simp [errW_none, errW_some] <;> rfl) | (simp [*, errW_none, errW_some] <;> rfl), by repeat (first | (with_reducible first | exact HB.out | apply below_alloc | apply pw_below_drewN | apply below_drew1 | refine below_set ?_ GE101.out) | exact HB.out)⟩
              · rw [if_neg c16] at H
                exact absurd H (by simp)
            · rw [if_neg c15] at H
              exact absurd H (by simp)
    · rw [if_neg c4] at H
      exact absurd H (by simp)
  · rw [if_neg c3] at H
    exact absurd H (by simp)

/-! ### pack_Read: function 17 -/
mutual
def pack_Read.j0 : Nat → ByteArray → Int → Bool → Option (ByteArray × Int × Int)
  | 0, _, _, _ => none
  | k + 1, x0, x1, x19 => if x19 = true then (some ((⟨#[]⟩ : ByteArray), 0, 1)) else (pack_Read.l0 k x0 x1 (⟨#[]⟩ : ByteArray) (-1) x1)
def pack_Read.j3 : Nat → Int → ByteArray → Int → Option (ByteArray × Int × Int)
  | 0, _, _, _ => none
  | k + 1, x1, x7, x8 => (name_Right.f x7).bind fun t120 => (if t120 = true then (if x8 < 0 then (some (x7, x1, 0)) else (some (x7, x8, 0))) else (some ((⟨#[]⟩ : ByteArray), 0, 2)))
def pack_Read.l0 : Nat → ByteArray → Int → ByteArray → Int → Int → Option (ByteArray × Int × Int)
  | 0, _, _, _, _, _ => none
  | k + 1, x0, x1, x7, x8, x9 => if (x7.size : Int) ≤ 255 then ((pack_at.f k x0 x1).bind fun bt115 => (if bt115.2.2.2 = true then (pack_Read.j2 k x0 x7 x8 x9 (decide (bt115.2.1 ≥ x9)) bt115.1 bt115.2.1 bt115.2.2.1) else (pack_Read.j2 k x0 x7 x8 x9 true bt115.1 bt115.2.1 bt115.2.2.1))) else (pack_Read.j3 k x1 x7 x8)
def pack_Read.j2 : Nat → ByteArray → ByteArray → Int → Int → Bool → ByteArray → Int → Int → Option (ByteArray × Int × Int)
  | 0, _, _, _, _, _, _, _, _ => none
  | k + 1, x0, x7, x8, x9, x30, x120000, x120001, x120002 => if x30 = true then (some ((⟨#[]⟩ : ByteArray), 0, 2)) else (if x120001 ≥ 0 then (if x8 < 0 then (pack_Read.l0 k x0 x120001 x7 x120002 x120001) else (pack_Read.l0 k x0 x120001 x7 x8 x120001)) else (if x7.size + x120000.size ≤ 9223372036854775807 then (if x120000.toList = ([0] : List UInt8) then (pack_Read.j3 k x120002 (x7 ++ x120000) x8) else (pack_Read.l0 k x0 x120002 (x7 ++ x120000) x8 x9)) else (none)))
end
def pack_Read.f (k : Nat) (a0 : ByteArray) (a1 : Int) : Option (ByteArray × Int × Int) := if a1 < 0 then (pack_Read.j0 k a0 a1 true) else (pack_Read.j0 k a0 a1 (decide (a1 > (a0.size : Int))))
theorem pack_Read.mono_l : ∀ k, (∀ y0 y1 y2, LeO (pack_Read.j0 k y0 y1 y2) (pack_Read.j0 (k + 1) y0 y1 y2)) ∧ (∀ y0 y1 y2, LeO (pack_Read.j3 k y0 y1 y2) (pack_Read.j3 (k + 1) y0 y1 y2)) ∧ (∀ y0 y1 y2 y3 y4, LeO (pack_Read.l0 k y0 y1 y2 y3 y4) (pack_Read.l0 (k + 1) y0 y1 y2 y3 y4)) ∧ (∀ y0 y1 y2 y3 y4 y5 y6 y7, LeO (pack_Read.j2 k y0 y1 y2 y3 y4 y5 y6 y7) (pack_Read.j2 (k + 1) y0 y1 y2 y3 y4 y5 y6 y7))
  | 0 => ⟨fun _ _ _ r h => by simp [pack_Read.j0] at h, fun _ _ _ r h => by simp [pack_Read.j3] at h, fun _ _ _ _ _ r h => by simp [pack_Read.l0] at h, fun _ _ _ _ _ _ _ _ r h => by simp [pack_Read.j2] at h⟩
  | k + 1 => by
    obtain ⟨ih0, ih1, ih2, ih3⟩ := pack_Read.mono_l k
    refine ⟨?_, ?_, ?_, ?_⟩
    · intro y0 y1 y2
      unfold pack_Read.j0
      repeat' first
      | (with_reducible exact ih0 _ _ _)
      | (with_reducible exact ih1 _ _ _)
      | (with_reducible exact ih2 _ _ _ _ _)
      | (with_reducible exact ih3 _ _ _ _ _ _ _ _)
      | (with_reducible exact pack_at.mono _ _ _)
      | (with_reducible exact LeO.refl _)
      | (with_reducible exact LeO.none _)
      | (with_reducible refine LeO.ite ?_ ?_)
      | (with_reducible refine LeO.bind ?_ (fun _ => ?_))
      | exact ih0 _ _ _
      | exact ih1 _ _ _
      | exact ih2 _ _ _ _ _
      | exact ih3 _ _ _ _ _ _ _ _
      | exact pack_at.mono _ _ _
      | exact LeO.none _
      | refine LeO.ite ?_ ?_
      | refine LeO.bind ?_ (fun _ => ?_)
    · intro y0 y1 y2
      unfold pack_Read.j3
      repeat' first
      | (with_reducible exact ih0 _ _ _)
      | (with_reducible exact ih1 _ _ _)
      | (with_reducible exact ih2 _ _ _ _ _)
      | (with_reducible exact ih3 _ _ _ _ _ _ _ _)
      | (with_reducible exact pack_at.mono _ _ _)
      | (with_reducible exact LeO.refl _)
      | (with_reducible exact LeO.none _)
      | (with_reducible refine LeO.ite ?_ ?_)
      | (with_reducible refine LeO.bind ?_ (fun _ => ?_))
      | exact ih0 _ _ _
      | exact ih1 _ _ _
      | exact ih2 _ _ _ _ _
      | exact ih3 _ _ _ _ _ _ _ _
      | exact pack_at.mono _ _ _
      | exact LeO.none _
      | refine LeO.ite ?_ ?_
      | refine LeO.bind ?_ (fun _ => ?_)
    · intro y0 y1 y2 y3 y4
      unfold pack_Read.l0
      repeat' first
      | (with_reducible exact ih0 _ _ _)
      | (with_reducible exact ih1 _ _ _)
      | (with_reducible exact ih2 _ _ _ _ _)
      | (with_reducible exact ih3 _ _ _ _ _ _ _ _)
      | (with_reducible exact pack_at.mono _ _ _)
      | (with_reducible exact LeO.refl _)
      | (with_reducible exact LeO.none _)
      | (with_reducible refine LeO.ite ?_ ?_)
      | (with_reducible refine LeO.bind ?_ (fun _ => ?_))
      | exact ih0 _ _ _
      | exact ih1 _ _ _
      | exact ih2 _ _ _ _ _
      | exact ih3 _ _ _ _ _ _ _ _
      | exact pack_at.mono _ _ _
      | exact LeO.none _
      | refine LeO.ite ?_ ?_
      | refine LeO.bind ?_ (fun _ => ?_)
    · intro y0 y1 y2 y3 y4 y5 y6 y7
      unfold pack_Read.j2
      repeat' first
      | (with_reducible exact ih0 _ _ _)
      | (with_reducible exact ih1 _ _ _)
      | (with_reducible exact ih2 _ _ _ _ _)
      | (with_reducible exact ih3 _ _ _ _ _ _ _ _)
      | (with_reducible exact pack_at.mono _ _ _)
      | (with_reducible exact LeO.refl _)
      | (with_reducible exact LeO.none _)
      | (with_reducible refine LeO.ite ?_ ?_)
      | (with_reducible refine LeO.bind ?_ (fun _ => ?_))
      | exact ih0 _ _ _
      | exact ih1 _ _ _
      | exact ih2 _ _ _ _ _
      | exact ih3 _ _ _ _ _ _ _ _
      | exact pack_at.mono _ _ _
      | exact LeO.none _
      | refine LeO.ite ?_ ?_
      | refine LeO.bind ?_ (fun _ => ?_)
theorem pack_Read.mono : ∀ a0 a1 k, LeO (pack_Read.f k a0 a1) (pack_Read.f (k + 1) a0 a1) := by
  intro a0 a1 k
  obtain ⟨ih0, ih1, ih2, ih3⟩ := pack_Read.mono_l k
  unfold pack_Read.f
  repeat' first
      | (with_reducible exact ih0 _ _ _)
      | (with_reducible exact ih1 _ _ _)
      | (with_reducible exact ih2 _ _ _ _ _)
      | (with_reducible exact ih3 _ _ _ _ _ _ _ _)
      | (with_reducible exact pack_at.mono _ _ _)
      | (with_reducible exact LeO.refl _)
      | (with_reducible exact LeO.none _)
      | (with_reducible refine LeO.ite ?_ ?_)
      | (with_reducible refine LeO.bind ?_ (fun _ => ?_))
      | exact ih0 _ _ _
      | exact ih1 _ _ _
      | exact ih2 _ _ _ _ _
      | exact ih3 _ _ _ _ _ _ _ _
      | exact pack_at.mono _ _ _
      | exact LeO.none _
      | refine LeO.ite ?_ ?_
      | refine LeO.bind ?_ (fun _ => ?_)
set_option maxHeartbeats 8000000 in
set_option maxRecDepth 100000 in
theorem pack_Read.calls (k : Nat) (a0 : ByteArray) (a1 : Int) (r1 : ByteArray) (r2 : Int) (r3 : Int) (w : World) (h : pack_Read.f k a0 a1 = some (r1, r2, r3)) :
    Calls Try.prog 17 #[.string a0, .int .i64 a1] w fun e w' => e = .returned (.tuple #[.string r1, .int .i64 r2, .int .i64 r3]) ∧ Below w.heap.size w w' := by
  have hu64 := Try.underlying64
  have HB := Aside0.mk (Below.refl w.heap.size w)
  have H : (if a1 < 0 then (pack_Read.j0 k a0 a1 true) else (pack_Read.j0 k a0 a1 (decide (a1 > (a0.size : Int))))) = some (r1, r2, r3) := h
  clear h
  have HC3 := Aside0.mk H
  clear H
  go_enter Try.func17, Try.ntmps17
  (try go_wp2)
  go_step3
  go_upto_region 1 with (fail)
  repeat (go_quiet (fail); go_upto_region 1 with (fail))
  go_cut [19] (fun v19 wc => ∃ (kq : Nat) (x19_2 : Bool), v19 = .bool x19_2 ∧ Aside0 (pack_Read.j0 kq a0 a1 x19_2 = some (r1, r2, r3)) ∧ Aside0 (kq ≤ k) ∧ Aside0 (Below w.heap.size w wc))
  case first =>
    have H := HC3.out
    clear HC3
    by_cases c4 : a1 < 0
    · rw [if_pos c4] at H
      have c4b0 : decide (a1 < 0) = true := decide_eq_true c4
      clear c4
      (first | rw [c4b0] | (simp only [i64_w, i32_w]; rw [c4b0]) | skip)
      have H' := Aside0.mk H
      clear H
      go_wp2
      repeat (go_quiet (fail); try go_wp2)
      go_meet
      case rel => exact ⟨_, (true), (by first | rfl | (simp; done) | (simp [*]; done)), H', ⟨by first | omega | exact Nat.le_refl _⟩, ⟨by repeat (first | (with_reducible first | exact HB.out | apply below_alloc | apply pw_below_drewN | apply below_drew1) | exact HB.out)⟩⟩
    · rw [if_neg c4] at H
      have c4b0 : decide (a1 < 0) = false := decide_eq_false c4
      clear c4
      (first | rw [c4b0] | (simp only [i64_w, i32_w]; rw [c4b0]) | skip)
      have H' := Aside0.mk H
      clear H
      go_wp2
      repeat (go_quiet (fail); try go_wp2)
      go_meet
      case rel => exact ⟨_, (decide (a1 > (a0.size : Int))), (by first | rfl | (simp; done) | (simp [*]; done)), H', ⟨by first | omega | exact Nat.le_refl _⟩, ⟨by repeat (first | (with_reducible first | exact HB.out | apply below_alloc | apply pw_below_drewN | apply below_drew1) | exact HB.out)⟩⟩
  case rest =>
    clear HC3
    try clear c1
    try clear p2
    try clear c4
    try clear c4b0
    obtain ⟨kq, x19_2, rfl, HA, HJ2, HB⟩ := hcut
    cases kq with
    | zero => exact absurd HA.out (by simp [pack_Read.j0])
    | succ kj2 =>
      have H := HA.out
      clear HA
      simp only [pack_Read.j0] at H
      by_cases c5 : x19_2 = true
      · subst c5
        have H1 : (some ((⟨#[]⟩ : ByteArray), 0, 1)) = some (r1, r2, r3) := by rw [if_pos rfl] at H; exact H
        clear H
        have H := H1
        clear H1
        simp only [Option.some.injEq, Prod.mk.injEq] at H
        obtain ⟨rfl, rfl, rfl⟩ := H
        go_wp2
        repeat (go_quiet (fail); try go_wp2)
        (try rw [Exit.noGoto_ret])
        go_ret3
        exact ⟨by first | rfl | (simp [errW_none, errW_some] <;> rfl) | (simp [*, errW_none, errW_some] <;> rfl), by repeat (first | (with_reducible first | exact HB.out | apply below_alloc | apply pw_below_drewN | apply below_drew1) | exact HB.out)⟩
      · replace c5 := Bool.eq_false_iff.mpr c5
        subst c5
        have H1 : (pack_Read.l0 kj2 a0 a1 (⟨#[]⟩ : ByteArray) (-1) a1) = some (r1, r2, r3) := by rw [if_neg (show ¬ (false = true) by decide)] at H; exact H
        clear H
        have H := H1
        clear H1
        have HC6 := Aside0.mk H
        clear H
        (try go_wp2)
        go_step3
        go_upto_block 0 with (fail)
        repeat (go_quiet (fail); go_upto_block 0 with (fail))
        go_cut [1, 7, 8] (fun v1 v7 v8 wc => ∃ (kq : Nat) (x1_5 : Int) (x7_5 : ByteArray) (x8_5 : Int), v1 = .int .i64 x1_5 ∧ v7 = .string x7_5 ∧ v8 = .int .i64 x8_5 ∧ Aside0 (pack_Read.j3 kq x1_5 x7_5 x8_5 = some (r1, r2, r3)) ∧ Aside0 (kq ≤ kj2) ∧ Aside0 (Below w.heap.size w wc))
        case first =>
          have H := HC6.out
          clear HC6
          have H' := Aside0.mk H
          clear H
          go_wp2
          repeat (go_quiet (fail); try go_wp2)
          go_loopg [1, 7, 8, 9] kj2 (fun kq v1 v7 v8 v9 w' => ∃ (x1_2 : Int) (x7_2 : ByteArray) (x8_2 : Int) (x9_2 : Int), v1 = .int .i64 x1_2 ∧ v7 = .string x7_2 ∧ v8 = .int .i64 x8_2 ∧ v9 = .int .i64 x9_2 ∧ Aside0 (pack_Read.l0 kq a0 x1_2 x7_2 x8_2 x9_2 = some (r1, r2, r3)) ∧ Aside0 (kq ≤ kj2) ∧ Aside0 (Below w.heap.size w w'))
          case atStart => exact ⟨(a1), ((⟨#[]⟩ : ByteArray)), ((-1)), (a1), (by first | rfl | (simp; done) | (simp [*]; done)), (by first | rfl | (simp; done) | (simp [*]; done)), (by first | rfl | (simp; done) | (simp [*]; done)), (by first | rfl | (simp; done) | (simp [*]; done)), H', ⟨Nat.le_refl _⟩, ⟨by repeat (first | (with_reducible first | exact HB.out | apply below_alloc | apply pw_below_drewN | apply below_drew1) | exact HB.out)⟩⟩
          case round =>
            clear H'
            try clear c1
            try clear p2
            try clear c4
            try clear c4b0
            try clear c5
            try clear p2
            obtain ⟨x1_2, x7_2, x8_2, x9_2, rfl, rfl, rfl, rfl, HA, HK2, HB⟩ := hrel
            cases gk with
            | zero => exact absurd HA.out (by simp [pack_Read.l0])
            | succ k2 =>
              have H := HA.out
              clear HA
              simp only [pack_Read.l0] at H
              by_cases c7 : (x7_2.size : Int) ≤ 255
              · rw [if_pos c7] at H
                have c7b0 : decide ((x7_2.size : Int) ≤ 255) = true := decide_eq_true c7
                have c7b1 : decide (x7_2.size ≤ 255) = true := decide_eq_true (by omega)
                clear c7
                (first | rw [c7b0] | (simp only [i64_w, i32_w]; rw [c7b0]) | skip)
                replace H := Option.bind_eq_some_iff.mp H
                obtain ⟨⟨t115, t116, t117, t118⟩, A80, H⟩ := H
                replace H : (if t118 = true then (pack_Read.j2 k2 a0 x7_2 x8_2 x9_2 (decide (t116 ≥ x9_2)) t115 t116 t117) else (pack_Read.j2 k2 a0 x7_2 x8_2 x9_2 true t115 t116 t117)) = some (r1, r2, r3) := H
                have A8 := Aside0.mk A80
                clear A80
                have HC9 := Aside0.mk H
                clear H
                go_upto_region 6 with (first | (go_at_call 24; (with_reducible refine (pack_at.calls k2 a0 x1_2 t115 t116 t117 t118 _ A8.out).mono ?_); rintro e w10 ⟨rfl, hb⟩; have n0_ := Aside0.mk (below_step (by repeat (first | (with_reducible first | exact HB.out | apply below_alloc | apply pw_below_drewN | apply below_drew1) | exact HB.out)) hb); clear HB; have HB := n0_; clear n0_; (try clear hb); (try clear hb2); (try clear hk); (try clear hi)) | ((with_reducible refine gate_dst (N := 10) rfl ?_); (try (refine gate_guard (by rfl) ?_; dsimp only)); refine box_event ?hg (N := 10) ?hd (cs := #[.string (⟨#[]⟩ : ByteArray), .int .i64 0, .int .i64 0]) (t := 64) ?hr ?_; (case hd => rfl); (case hg => rfl); (case hr => first | (go_simp; done) | (go_simp; rfl)); intro gb119 hg w11 hbox hb; have n0_ := Aside0.mk (below_step (by repeat (first | (with_reducible first | exact HB.out | apply below_alloc | apply pw_below_drewN | apply below_drew1) | exact HB.out)) hb); have n1_ := Aside0.mk (hbox); have n2_ := Aside0.mk ((by rw [hg]; exact (below_size (by repeat (first | (with_reducible first | exact HB.out | apply below_alloc | apply pw_below_drewN | apply below_drew1) | exact HB.out))) : w.heap.size ≤ gb119)); have n3_ := Aside0.mk ((by rw [hg]; exact (below_size (by repeat (first | (with_reducible first | exact HB.out | apply below_alloc | apply pw_below_drewN | apply below_drew1) | exact HB.out))) : w.heap.size ≤ gb119)); clear HB; have HB := n0_; have BK119 := n1_; have GW119 := n2_; have GE119 := n3_; clear n0_ n1_ n2_ n3_; clear hb hbox hg; have hcz12_0 : w11.cell? ⟨gb119, 0, none⟩ = some (.string (⟨#[]⟩ : ByteArray)) := (blk_cell BK119.out 0).trans rfl; have hcz12_1 : w11.cell? ⟨gb119, 1, none⟩ = some (.int .i64 0) := (blk_cell BK119.out 1).trans rfl; have hcz12_2 : w11.cell? ⟨gb119, 2, none⟩ = some (.int .i64 0) := (blk_cell BK119.out 2).trans rfl; have hfz12_0 := blk_frozen BK119.out 0; have hfz12_1 := blk_frozen BK119.out 1; have hfz12_2 := blk_frozen BK119.out 2))
                repeat (go_quiet (first | (go_at_call 24; (with_reducible refine (pack_at.calls k2 a0 x1_2 t115 t116 t117 t118 _ A8.out).mono ?_); rintro e w10 ⟨rfl, hb⟩; have n0_ := Aside0.mk (below_step (by repeat (first | (with_reducible first | exact HB.out | apply below_alloc | apply pw_below_drewN | apply below_drew1) | exact HB.out)) hb); clear HB; have HB := n0_; clear n0_; (try clear hb); (try clear hb2); (try clear hk); (try clear hi)) | ((with_reducible refine gate_dst (N := 10) rfl ?_); (try (refine gate_guard (by rfl) ?_; dsimp only)); refine box_event ?hg (N := 10) ?hd (cs := #[.string (⟨#[]⟩ : ByteArray), .int .i64 0, .int .i64 0]) (t := 64) ?hr ?_; (case hd => rfl); (case hg => rfl); (case hr => first | (go_simp; done) | (go_simp; rfl)); intro gb119 hg w11 hbox hb; have n0_ := Aside0.mk (below_step (by repeat (first | (with_reducible first | exact HB.out | apply below_alloc | apply pw_below_drewN | apply below_drew1) | exact HB.out)) hb); have n1_ := Aside0.mk (hbox); have n2_ := Aside0.mk ((by rw [hg]; exact (below_size (by repeat (first | (with_reducible first | exact HB.out | apply below_alloc | apply pw_below_drewN | apply below_drew1) | exact HB.out))) : w.heap.size ≤ gb119)); have n3_ := Aside0.mk ((by rw [hg]; exact (below_size (by repeat (first | (with_reducible first | exact HB.out | apply below_alloc | apply pw_below_drewN | apply below_drew1) | exact HB.out))) : w.heap.size ≤ gb119)); clear HB; have HB := n0_; have BK119 := n1_; have GW119 := n2_; have GE119 := n3_; clear n0_ n1_ n2_ n3_; clear hb hbox hg; have hcz12_0 : w11.cell? ⟨gb119, 0, none⟩ = some (.string (⟨#[]⟩ : ByteArray)) := (blk_cell BK119.out 0).trans rfl; have hcz12_1 : w11.cell? ⟨gb119, 1, none⟩ = some (.int .i64 0) := (blk_cell BK119.out 1).trans rfl; have hcz12_2 : w11.cell? ⟨gb119, 2, none⟩ = some (.int .i64 0) := (blk_cell BK119.out 2).trans rfl; have hfz12_0 := blk_frozen BK119.out 0; have hfz12_1 := blk_frozen BK119.out 1; have hfz12_2 := blk_frozen BK119.out 2)); go_upto_region 6 with (first | (go_at_call 24; (with_reducible refine (pack_at.calls k2 a0 x1_2 t115 t116 t117 t118 _ A8.out).mono ?_); rintro e w10 ⟨rfl, hb⟩; have n0_ := Aside0.mk (below_step (by repeat (first | (with_reducible first | exact HB.out | apply below_alloc | apply pw_below_drewN | apply below_drew1) | exact HB.out)) hb); clear HB; have HB := n0_; clear n0_; (try clear hb); (try clear hb2); (try clear hk); (try clear hi)) | ((with_reducible refine gate_dst (N := 10) rfl ?_); (try (refine gate_guard (by rfl) ?_; dsimp only)); refine box_event ?hg (N := 10) ?hd (cs := #[.string (⟨#[]⟩ : ByteArray), .int .i64 0, .int .i64 0]) (t := 64) ?hr ?_; (case hd => rfl); (case hg => rfl); (case hr => first | (go_simp; done) | (go_simp; rfl)); intro gb119 hg w11 hbox hb; have n0_ := Aside0.mk (below_step (by repeat (first | (with_reducible first | exact HB.out | apply below_alloc | apply pw_below_drewN | apply below_drew1) | exact HB.out)) hb); have n1_ := Aside0.mk (hbox); have n2_ := Aside0.mk ((by rw [hg]; exact (below_size (by repeat (first | (with_reducible first | exact HB.out | apply below_alloc | apply pw_below_drewN | apply below_drew1) | exact HB.out))) : w.heap.size ≤ gb119)); have n3_ := Aside0.mk ((by rw [hg]; exact (below_size (by repeat (first | (with_reducible first | exact HB.out | apply below_alloc | apply pw_below_drewN | apply below_drew1) | exact HB.out))) : w.heap.size ≤ gb119)); clear HB; have HB := n0_; have BK119 := n1_; have GW119 := n2_; have GE119 := n3_; clear n0_ n1_ n2_ n3_; clear hb hbox hg; have hcz12_0 : w11.cell? ⟨gb119, 0, none⟩ = some (.string (⟨#[]⟩ : ByteArray)) := (blk_cell BK119.out 0).trans rfl; have hcz12_1 : w11.cell? ⟨gb119, 1, none⟩ = some (.int .i64 0) := (blk_cell BK119.out 1).trans rfl; have hcz12_2 : w11.cell? ⟨gb119, 2, none⟩ = some (.int .i64 0) := (blk_cell BK119.out 2).trans rfl; have hfz12_0 := blk_frozen BK119.out 0; have hfz12_1 := blk_frozen BK119.out 1; have hfz12_2 := blk_frozen BK119.out 2)))
                (try simp only [Act.put, List.setIfInBounds_toArray, List.set_cons_zero, List.set_cons_succ])
                go_cut [30] (fun v30 wc => ∃ (kq : Nat) (x30_8 : Bool), v30 = .bool x30_8 ∧ Aside0 (pack_Read.j2 kq a0 x7_2 x8_2 x9_2 x30_8 t115 t116 t117 = some (r1, r2, r3)) ∧ Aside0 (kq ≤ k2) ∧ Aside0 (wc.heap[gb119]? = some (.cells #[.string t115, .int .i64 t116, .int .i64 t117] 64 (0, 0))) ∧ Aside0 (Below w.heap.size w wc))
                case first =>
                  have H := HC9.out
                  clear HC9
                  by_cases c13 : t118 = true
                  · subst c13
                    have H1 : (pack_Read.j2 k2 a0 x7_2 x8_2 x9_2 (decide (t116 ≥ x9_2)) t115 t116 t117) = some (r1, r2, r3) := by rw [if_pos rfl] at H; exact H
                    clear H
                    have H := H1
                    clear H1
                    have H' := Aside0.mk H
                    clear H
                    have hcz14_0 : w11.cell? ⟨gb119, 0, none⟩ = some (.string (⟨#[]⟩ : ByteArray)) := (blk_cell BK119.out 0).trans rfl
                    have hcz14_1 : w11.cell? ⟨gb119, 1, none⟩ = some (.int .i64 0) := (blk_cell BK119.out 1).trans rfl
                    have hcz14_2 : w11.cell? ⟨gb119, 2, none⟩ = some (.int .i64 0) := (blk_cell BK119.out 2).trans rfl
                    have hfz14_0 := blk_frozen BK119.out 0
                    have hfz14_1 := blk_frozen BK119.out 1
                    have hfz14_2 := blk_frozen BK119.out 2
                    go_wp2
                    repeat (go_quiet (fail); try go_wp2)
                    go_meet
                    case rel => exact ⟨_, (decide (t116 ≥ x9_2)), (by first | rfl | (simp; done) | (simp [*]; done)), H', ⟨by have := HJ2.out; have := HK2.out; first | omega | exact Nat.le_refl _⟩, ⟨by (with_reducible repeat (first | refine blk_drewN ?_ _ | refine blk_drew ?_ | refine blk_alloc ?_ _)); refine blk_put (cs := #[.string t115, .int .i64 t116, .int .i64 0]) ?_ 2 _ rfl; (with_reducible repeat (first | refine blk_drewN ?_ _ | refine blk_drew ?_ | refine blk_alloc ?_ _)); refine blk_put (cs := #[.string t115, .int .i64 0, .int .i64 0]) ?_ 1 _ rfl; (with_reducible repeat (first | refine blk_drewN ?_ _ | refine blk_drew ?_ | refine blk_alloc ?_ _)); refine blk_put (cs := #[.string (⟨#[]⟩ : ByteArray), .int .i64 0, .int .i64 0]) ?_ 0 _ rfl; (with_reducible repeat (first | refine blk_drewN ?_ _ | refine blk_drew ?_ | refine blk_alloc ?_ _)); exact BK119.out⟩, ⟨by repeat (first | (with_reducible first | exact HB.out | apply below_alloc | apply pw_below_drewN | apply below_drew1 | refine below_set ?_ GE119.out) | exact HB.out)⟩⟩
                  · replace c13 := Bool.eq_false_iff.mpr c13
                    subst c13
                    have H1 : (pack_Read.j2 k2 a0 x7_2 x8_2 x9_2 true t115 t116 t117) = some (r1, r2, r3) := by rw [if_neg (show ¬ (false = true) by decide)] at H; exact H
                    clear H
                    have H := H1
                    clear H1
                    have H' := Aside0.mk H
                    clear H
                    go_wp2
                    repeat (go_quiet (fail); try go_wp2)
                    go_meet
                    case rel => exact ⟨_, (true), (by first | rfl | (simp; done) | (simp [*]; done)), H', ⟨by have := HJ2.out; have := HK2.out; first | omega | exact Nat.le_refl _⟩, ⟨by (with_reducible repeat (first | refine blk_drewN ?_ _ | refine blk_drew ?_ | refine blk_alloc ?_ _)); refine blk_put (cs := #[.string t115, .int .i64 t116, .int .i64 0]) ?_ 2 _ rfl; (with_reducible repeat (first | refine blk_drewN ?_ _ | refine blk_drew ?_ | refine blk_alloc ?_ _)); refine blk_put (cs := #[.string t115, .int .i64 0, .int .i64 0]) ?_ 1 _ rfl; (with_reducible repeat (first | refine blk_drewN ?_ _ | refine blk_drew ?_ | refine blk_alloc ?_ _)); refine blk_put (cs := #[.string (⟨#[]⟩ : ByteArray), .int .i64 0, .int .i64 0]) ?_ 0 _ rfl; (with_reducible repeat (first | refine blk_drewN ?_ _ | refine blk_drew ?_ | refine blk_alloc ?_ _)); exact BK119.out⟩, ⟨by repeat (first | (with_reducible first | exact HB.out | apply below_alloc | apply pw_below_drewN | apply below_drew1 | refine below_set ?_ GE119.out) | exact HB.out)⟩⟩
                case rest =>
                  clear HC9
                  try clear c1
                  try clear p2
                  try clear c4
                  try clear c4b0
                  try clear c5
                  try clear c7
                  try clear c7b0
                  try clear c7b1
                  try clear c13
                  try clear hcz12_0
                  try clear hcz12_1
                  try clear hcz12_2
                  try clear hcz14_0
                  try clear hcz14_1
                  try clear hcz14_2
                  try clear hfz12_0
                  try clear hfz12_1
                  try clear hfz12_2
                  try clear hfz14_0
                  try clear hfz14_1
                  try clear hfz14_2
                  try clear p2
                  obtain ⟨kq, x30_8, rfl, HA, HJ8, BK119, HB⟩ := hcut
                  cases kq with
                  | zero => exact absurd HA.out (by simp [pack_Read.j2])
                  | succ kj8 =>
                    have H := HA.out
                    clear HA
                    simp only [pack_Read.j2] at H
                    by_cases c15 : x30_8 = true
                    · subst c15
                      have H1 : (some ((⟨#[]⟩ : ByteArray), 0, 2)) = some (r1, r2, r3) := by rw [if_pos rfl] at H; exact H
                      clear H
                      have H := H1
                      clear H1
                      simp only [Option.some.injEq, Prod.mk.injEq] at H
                      obtain ⟨rfl, rfl, rfl⟩ := H
                      go_wp2
                      repeat (go_quiet (fail); try go_wp2)
                      (try rw [Exit.noGoto_ret])
                      go_ret3
                      exact ⟨by first | rfl | (simp [errW_none, errW_some] <;> rfl) | (simp [*, errW_none, errW_some] <;> rfl), by repeat (first | (with_reducible first | exact HB.out | apply below_alloc | apply pw_below_drewN | apply below_drew1 | refine below_set ?_ GE119.out) | exact HB.out)⟩
                    · replace c15 := Bool.eq_false_iff.mpr c15
                      subst c15
                      have H1 : (if t116 ≥ 0 then (if x8_2 < 0 then (pack_Read.l0 kj8 a0 t116 x7_2 t117 t116) else (pack_Read.l0 kj8 a0 t116 x7_2 x8_2 t116)) else (if x7_2.size + t115.size ≤ 9223372036854775807 then (if t115.toList = ([0] : List UInt8) then (pack_Read.j3 kj8 t117 (x7_2 ++ t115) x8_2) else (pack_Read.l0 kj8 a0 t117 (x7_2 ++ t115) x8_2 x9_2)) else (none))) = some (r1, r2, r3) := by rw [if_neg (show ¬ (false = true) by decide)] at H; exact H
                      clear H
                      have H := H1
                      clear H1
                      by_cases c16 : t116 ≥ 0
                      · rw [if_pos c16] at H
                        have c16b0 : decide (0 ≤ t116) = true := decide_eq_true c16
                        clear c16
                        by_cases c17 : x8_2 < 0
                        · rw [if_pos c17] at H
                          have c17b0 : decide (x8_2 < 0) = true := decide_eq_true c17
                          clear c17
                          have H' := Aside0.mk H
                          clear H
                          have hcz18_0 : wc.cell? ⟨gb119, 0, none⟩ = some (.string t115) := (blk_cell BK119.out 0).trans rfl
                          have hcz18_1 : wc.cell? ⟨gb119, 1, none⟩ = some (.int .i64 t116) := (blk_cell BK119.out 1).trans rfl
                          have hcz18_2 : wc.cell? ⟨gb119, 2, none⟩ = some (.int .i64 t117) := (blk_cell BK119.out 2).trans rfl
                          have hfz18_0 := blk_frozen BK119.out 0
                          have hfz18_1 := blk_frozen BK119.out 1
                          have hfz18_2 := blk_frozen BK119.out 2
                          go_wp2
                          repeat (go_quiet (fail); try go_wp2)
                          go_roundg kj8
                          case measure => have := HJ2.out; have := HK2.out; have := HJ8.out; omega
                          case rel => exact ⟨(t116), (x7_2), (t117), (t116), (by first | rfl | (simp; done) | (simp [*]; done)), (by first | rfl | (simp; done) | (simp [*]; done)), (by first | rfl | (simp; done) | (simp [*]; done)), (by first | rfl | (simp; done) | (simp [*]; done)), H', ⟨by have := HJ2.out; have := HK2.out; have := HJ8.out; omega⟩, ⟨by repeat (first | (with_reducible first | exact HB.out | apply below_alloc | apply pw_below_drewN | apply below_drew1 | refine below_set ?_ GE119.out) | exact HB.out)⟩⟩
                        · rw [if_neg c17] at H
                          have c17b0 : decide (x8_2 < 0) = false := decide_eq_false c17
                          clear c17
                          have H' := Aside0.mk H
                          clear H
                          have hcz19_0 : wc.cell? ⟨gb119, 0, none⟩ = some (.string t115) := (blk_cell BK119.out 0).trans rfl
                          have hcz19_1 : wc.cell? ⟨gb119, 1, none⟩ = some (.int .i64 t116) := (blk_cell BK119.out 1).trans rfl
                          have hcz19_2 : wc.cell? ⟨gb119, 2, none⟩ = some (.int .i64 t117) := (blk_cell BK119.out 2).trans rfl
                          have hfz19_0 := blk_frozen BK119.out 0
                          have hfz19_1 := blk_frozen BK119.out 1
                          have hfz19_2 := blk_frozen BK119.out 2
                          go_wp2
                          repeat (go_quiet (fail); try go_wp2)
                          go_roundg kj8
                          case measure => have := HJ2.out; have := HK2.out; have := HJ8.out; omega
                          case rel => exact ⟨(t116), (x7_2), (x8_2), (t116), (by first | rfl | (simp; done) | (simp [*]; done)), (by first | rfl | (simp; done) | (simp [*]; done)), (by first | rfl | (simp; done) | (simp [*]; done)), (by first | rfl | (simp; done) | (simp [*]; done)), H', ⟨by have := HJ2.out; have := HK2.out; have := HJ8.out; omega⟩, ⟨by repeat (first | (with_reducible first | exact HB.out | apply below_alloc | apply pw_below_drewN | apply below_drew1 | refine below_set ?_ GE119.out) | exact HB.out)⟩⟩
                      · rw [if_neg c16] at H
                        have c16b0 : decide (0 ≤ t116) = false := decide_eq_false c16
                        clear c16
                        by_cases c20 : x7_2.size + t115.size ≤ 9223372036854775807
                        · rw [if_pos c20] at H
                          have c20b0 := eq_true c20
                          have c20b1 : decide (x7_2.size + t115.size ≤ 9223372036854775807) = true := decide_eq_true c20
                          try have c20b2 : (9223372036854775807 < x7_2.size + t115.size) = False := eq_false (Nat.not_lt.2 c20)
                          by_cases c21 : t115.toList = ([0] : List UInt8)
                          · rw [if_pos c21] at H
                            have c21b0 : (t115.toList == ([0] : List UInt8)) = true := beq_iff_eq.mpr c21
                            have c21b1 : (t115.toList != ([0] : List UInt8)) = false := bne_eq_false_iff_eq.mpr c21
                            clear c21
                            have H' := Aside0.mk H
                            clear H
                            have hcz22_0 : wc.cell? ⟨gb119, 0, none⟩ = some (.string t115) := (blk_cell BK119.out 0).trans rfl
                            have hcz22_1 : wc.cell? ⟨gb119, 1, none⟩ = some (.int .i64 t116) := (blk_cell BK119.out 1).trans rfl
                            have hcz22_2 : wc.cell? ⟨gb119, 2, none⟩ = some (.int .i64 t117) := (blk_cell BK119.out 2).trans rfl
                            have hfz22_0 := blk_frozen BK119.out 0
                            have hfz22_1 := blk_frozen BK119.out 1
                            have hfz22_2 := blk_frozen BK119.out 2
                            go_wp2
                            repeat (go_quiet (fail); try go_wp2)
                            go_meet
                            case rel => exact ⟨_, (t117), (x7_2 ++ t115), (x8_2), (by first | rfl | (simp; done) | (simp [*]; done)), (by first | rfl | (simp; done) | (simp [*]; done)), (by first | rfl | (simp; done) | (simp [*]; done)), H', ⟨by have := HJ2.out; have := HK2.out; have := HJ8.out; first | omega | exact Nat.le_refl _⟩, ⟨by repeat (first | (with_reducible first | exact HB.out | apply below_alloc | apply pw_below_drewN | apply below_drew1 | refine below_set ?_ GE119.out) | exact HB.out)⟩⟩
                          · rw [if_neg c21] at H
                            have c21b0 : (t115.toList == ([0] : List UInt8)) = false := beq_eq_false_iff_ne.mpr c21
                            have c21b1 : (t115.toList != ([0] : List UInt8)) = true := bne_iff_ne.mpr c21
                            have H' := Aside0.mk H
                            clear H
                            have hcz23_0 : wc.cell? ⟨gb119, 0, none⟩ = some (.string t115) := (blk_cell BK119.out 0).trans rfl
                            have hcz23_1 : wc.cell? ⟨gb119, 1, none⟩ = some (.int .i64 t116) := (blk_cell BK119.out 1).trans rfl
                            have hcz23_2 : wc.cell? ⟨gb119, 2, none⟩ = some (.int .i64 t117) := (blk_cell BK119.out 2).trans rfl
                            have hfz23_0 := blk_frozen BK119.out 0
                            have hfz23_1 := blk_frozen BK119.out 1
                            have hfz23_2 := blk_frozen BK119.out 2
                            go_wp2
                            repeat (go_quiet (fail); try go_wp2)
                            go_roundg kj8
                            case measure => have := HJ2.out; have := HK2.out; have := HJ8.out; omega
                            case rel => exact ⟨(t117), (x7_2 ++ t115), (x8_2), (x9_2), (by first | rfl | (simp; done) | (simp [*]; done)), (by first | rfl | (simp; done) | (simp [*]; done)), (by first | rfl | (simp; done) | (simp [*]; done)), (by first | rfl | (simp; done) | (simp [*]; done)), H', ⟨by have := HJ2.out; have := HK2.out; have := HJ8.out; omega⟩, ⟨by repeat (first | (with_reducible first | exact HB.out | apply below_alloc | apply pw_below_drewN | apply below_drew1 | refine below_set ?_ GE119.out) | exact HB.out)⟩⟩
                        · rw [if_neg c20] at H
                          exact absurd H (by simp)
              · rw [if_neg c7] at H
                have c7b0 : decide ((x7_2.size : Int) ≤ 255) = false := decide_eq_false c7
                have c7b1 : decide (x7_2.size ≤ 255) = false := decide_eq_false (by omega)
                clear c7
                (first | rw [c7b0] | (simp only [i64_w, i32_w]; rw [c7b0]) | skip)
                have H' := Aside0.mk H
                clear H
                go_wp2
                repeat (go_quiet (fail); try go_wp2)
                go_meet
                case rel => exact ⟨_, (x1_2), (x7_2), (x8_2), (by first | rfl | (simp; done) | (simp [*]; done)), (by first | rfl | (simp; done) | (simp [*]; done)), (by first | rfl | (simp; done) | (simp [*]; done)), H', ⟨by have := HJ2.out; have := HK2.out; first | omega | exact Nat.le_refl _⟩, ⟨by repeat (first | (with_reducible first | exact HB.out | apply below_alloc | apply pw_below_drewN | apply below_drew1) | exact HB.out)⟩⟩
        case rest =>
          clear HC6
          try clear c1
          try clear c2
          try clear p2
          try clear c4
          try clear c4b0
          try clear c5
          try clear c7
          try clear c7b0
          try clear c7b1
          try clear c13
          try clear c15
          try clear c16
          try clear c16b0
          try clear c17
          try clear c17b0
          try clear c20
          try clear c20b0
          try clear c20b1
          try clear c20b2
          try clear c21
          try clear c21b0
          try clear c21b1
          try clear hcz12_0
          try clear hcz12_1
          try clear hcz12_2
          try clear hcz14_0
          try clear hcz14_1
          try clear hcz14_2
          try clear hcz18_0
          try clear hcz18_1
          try clear hcz18_2
          try clear hcz19_0
          try clear hcz19_1
          try clear hcz19_2
          try clear hcz22_0
          try clear hcz22_1
          try clear hcz22_2
          try clear hcz23_0
          try clear hcz23_1
          try clear hcz23_2
          try clear hfz12_0
          try clear hfz12_1
          try clear hfz12_2
          try clear hfz14_0
          try clear hfz14_1
          try clear hfz14_2
          try clear hfz18_0
          try clear hfz18_1
          try clear hfz18_2
          try clear hfz19_0
          try clear hfz19_1
          try clear hfz19_2
          try clear hfz22_0
          try clear hfz22_1
          try clear hfz22_2
          try clear hfz23_0
          try clear hfz23_1
          try clear hfz23_2
          try clear p2
          obtain ⟨kq, x1_5, x7_5, x8_5, rfl, rfl, rfl, HA, HJ5, HB⟩ := hcut
          cases kq with
          | zero => exact absurd HA.out (by simp [pack_Read.j3])
          | succ kj5 =>
            have H := HA.out
            clear HA
            simp only [pack_Read.j3] at H
            replace H := Option.bind_eq_some_iff.mp H
            obtain ⟨t120, A240, H⟩ := H
            replace H : (if t120 = true then (if x8_5 < 0 then (some (x7_5, x1_5, 0)) else (some (x7_5, x8_5, 0))) else (some ((⟨#[]⟩ : ByteArray), 0, 2))) = some (r1, r2, r3) := H
            have A24 := Aside0.mk A240
            clear A240
            by_cases c25 : t120 = true
            · subst c25
              have H1 : (if x8_5 < 0 then (some (x7_5, x1_5, 0)) else (some (x7_5, x8_5, 0))) = some (r1, r2, r3) := by rw [if_pos rfl] at H; exact H
              clear H
              have H := H1
              clear H1
              by_cases c26 : x8_5 < 0
              · rw [if_pos c26] at H
                have c26b0 : decide (x8_5 < 0) = true := decide_eq_true c26
                clear c26
                simp only [Option.some.injEq, Prod.mk.injEq] at H
                obtain ⟨rfl, rfl, rfl⟩ := H
                go_wp2_with (first | (go_at_call 19; (with_reducible refine (name_Right.calls x7_5 true _ A24.out).mono ?_); rintro e w27 ⟨rfl, hb⟩; have n0_ := Aside0.mk (below_step (by repeat (first | (with_reducible first | exact HB.out | apply below_alloc | apply pw_below_drewN | apply below_drew1) | exact HB.out)) hb); clear HB; have HB := n0_; clear n0_; (try clear hb); (try clear hb2); (try clear hk); (try clear hi)))
                repeat (go_quiet (first | (go_at_call 19; (with_reducible refine (name_Right.calls x7_5 true _ A24.out).mono ?_); rintro e w27 ⟨rfl, hb⟩; have n0_ := Aside0.mk (below_step (by repeat (first | (with_reducible first | exact HB.out | apply below_alloc | apply pw_below_drewN | apply below_drew1) | exact HB.out)) hb); clear HB; have HB := n0_; clear n0_; (try clear hb); (try clear hb2); (try clear hk); (try clear hi))); try go_wp2_with (first | (go_at_call 19; (with_reducible refine (name_Right.calls x7_5 true _ A24.out).mono ?_); rintro e w27 ⟨rfl, hb⟩; have n0_ := Aside0.mk (below_step (by repeat (first | (with_reducible first | exact HB.out | apply below_alloc | apply pw_below_drewN | apply below_drew1) | exact HB.out)) hb); clear HB; have HB := n0_; clear n0_; (try clear hb); (try clear hb2); (try clear hk); (try clear hi))))
                (try rw [Exit.noGoto_ret])
                go_ret3
                exact ⟨by first | rfl | (simp [errW_none, errW_some] <;> rfl) | (simp [*, errW_none, errW_some] <;> rfl), by repeat (first | (with_reducible first | exact HB.out | apply below_alloc | apply pw_below_drewN | apply below_drew1) | exact HB.out)⟩
              · rw [if_neg c26] at H
                have c26b0 : decide (x8_5 < 0) = false := decide_eq_false c26
                clear c26
                simp only [Option.some.injEq, Prod.mk.injEq] at H
                obtain ⟨rfl, rfl, rfl⟩ := H
                go_wp2_with (first | (go_at_call 19; (with_reducible refine (name_Right.calls x7_5 true _ A24.out).mono ?_); rintro e w28 ⟨rfl, hb⟩; have n0_ := Aside0.mk (below_step (by repeat (first | (with_reducible first | exact HB.out | apply below_alloc | apply pw_below_drewN | apply below_drew1) | exact HB.out)) hb); clear HB; have HB := n0_; clear n0_; (try clear hb); (try clear hb2); (try clear hk); (try clear hi)))
                repeat (go_quiet (first | (go_at_call 19; (with_reducible refine (name_Right.calls x7_5 true _ A24.out).mono ?_); rintro e w28 ⟨rfl, hb⟩; have n0_ := Aside0.mk (below_step (by repeat (first | (with_reducible first | exact HB.out | apply below_alloc | apply pw_below_drewN | apply below_drew1) | exact HB.out)) hb); clear HB; have HB := n0_; clear n0_; (try clear hb); (try clear hb2); (try clear hk); (try clear hi))); try go_wp2_with (first | (go_at_call 19; (with_reducible refine (name_Right.calls x7_5 true _ A24.out).mono ?_); rintro e w28 ⟨rfl, hb⟩; have n0_ := Aside0.mk (below_step (by repeat (first | (with_reducible first | exact HB.out | apply below_alloc | apply pw_below_drewN | apply below_drew1) | exact HB.out)) hb); clear HB; have HB := n0_; clear n0_; (try clear hb); (try clear hb2); (try clear hk); (try clear hi))))
                (try rw [Exit.noGoto_ret])
                go_ret3
                exact ⟨by first | rfl | (simp [errW_none, errW_some] <;> rfl) | (simp [*, errW_none, errW_some] <;> rfl), by repeat (first | (with_reducible first | exact HB.out | apply below_alloc | apply pw_below_drewN | apply below_drew1) | exact HB.out)⟩
            · replace c25 := Bool.eq_false_iff.mpr c25
              subst c25
              have H1 : (some ((⟨#[]⟩ : ByteArray), 0, 2)) = some (r1, r2, r3) := by rw [if_neg (show ¬ (false = true) by decide)] at H; exact H
              clear H
              have H := H1
              clear H1
              simp only [Option.some.injEq, Prod.mk.injEq] at H
              obtain ⟨rfl, rfl, rfl⟩ := H
              go_wp2_with (first | (go_at_call 19; (with_reducible refine (name_Right.calls x7_5 false _ A24.out).mono ?_); rintro e w29 ⟨rfl, hb⟩; have n0_ := Aside0.mk (below_step (by repeat (first | (with_reducible first | exact HB.out | apply below_alloc | apply pw_below_drewN | apply below_drew1) | exact HB.out)) hb); clear HB; have HB := n0_; clear n0_; (try clear hb); (try clear hb2); (try clear hk); (try clear hi)))
              repeat (go_quiet (first | (go_at_call 19; (with_reducible refine (name_Right.calls x7_5 false _ A24.out).mono ?_); rintro e w29 ⟨rfl, hb⟩; have n0_ := Aside0.mk (below_step (by repeat (first | (with_reducible first | exact HB.out | apply below_alloc | apply pw_below_drewN | apply below_drew1) | exact HB.out)) hb); clear HB; have HB := n0_; clear n0_; (try clear hb); (try clear hb2); (try clear hk); (try clear hi))); try go_wp2_with (first | (go_at_call 19; (with_reducible refine (name_Right.calls x7_5 false _ A24.out).mono ?_); rintro e w29 ⟨rfl, hb⟩; have n0_ := Aside0.mk (below_step (by repeat (first | (with_reducible first | exact HB.out | apply below_alloc | apply pw_below_drewN | apply below_drew1) | exact HB.out)) hb); clear HB; have HB := n0_; clear n0_; (try clear hb); (try clear hb2); (try clear hk); (try clear hi))))
              (try rw [Exit.noGoto_ret])
              go_ret3
              exact ⟨by first | rfl | (simp [errW_none, errW_some] <;> rfl) | (simp [*, errW_none, errW_some] <;> rfl), by repeat (first | (with_reducible first | exact HB.out | apply below_alloc | apply pw_below_drewN | apply below_drew1) | exact HB.out)⟩

end Go.Proofs.Ytekbecpcbfhdmaa.PPak
-- Written by this session's program gprint.py out of the translation; Lean checks it.
namespace Go.Proofs.Ytekbecpcbfhdmaa.PPak
open Go.RowKit Go.Proofs.YtekbecpcbfhdmaaW.PrintWords Go.Proofs.YtekbecpcbfhdmaaW.PrintLast Go.Proofs.YtekbecpcbfhdmaaW.PrintMore Go.Proofs.Ytekbecpcbfhdmaa.Given
attribute [local go_sem] max2_int min2_int max_two min_two max_three min_three max_four min_four   -- for this text's walks alone
set_option linter.unusedVariables false
set_option linter.unusedSimpArgs false

/-! ### beadrollref07_Labels: function 22 -/
mutual
def beadrollref07_Labels.l0 : Nat → ByteArray → List ByteArray → Int → Option (List ByteArray × Bool)
  | 0, _, _, _ => none
  | k + 1, x0, x4, x5 => if x5 < (x0.size : Int) then (if 0 ≤ x5 then (beadrollref07_Labels.j1 k x0 x4 x5 (decide ((bt x0 x5) > 0))) else (none)) else (beadrollref07_Labels.j1 k x0 x4 x5 false)
def beadrollref07_Labels.j1 : Nat → ByteArray → List ByteArray → Int → Bool → Option (List ByteArray × Bool)
  | 0, _, _, _, _ => none
  | k + 1, x0, x4, x5, x19 => if x19 = true then (if 0 ≤ x5 then (if x5 < (x0.size : Int) then (if (wrap64 (bt x0 x5)) > 63 then (some (([] : List ByteArray), false)) else (if (wrap64 ((wrap64 (x5 + 1)) + (wrap64 (bt x0 x5)))) > (x0.size : Int) then (some (([] : List ByteArray), false)) else (if 0 ≤ (wrap64 (x5 + 1)) then (if (wrap64 (x5 + 1)) ≤ (wrap64 ((wrap64 (x5 + 1)) + (wrap64 (bt x0 x5)))) then (if (wrap64 ((wrap64 (x5 + 1)) + (wrap64 (bt x0 x5)))) ≤ (x0.size : Int) then (if x4.length < 8796093022208 then (beadrollref07_Labels.l0 k x0 (x4 ++ [x0.extract ((wrap64 (x5 + 1)) : Int).toNat ((wrap64 ((wrap64 (x5 + 1)) + (wrap64 (bt x0 x5)))) : Int).toNat]) (wrap64 (x5 + (wrap64 (1 + (wrap64 (bt x0 x5))))))) else (none)) else (none)) else (none)) else (none)))) else (none)) else (none)) else (if x5 = (wrap64 ((x0.size : Int) - 1)) then (if 0 ≤ x5 then (if x5 < (x0.size : Int) then (some (x4, ((bt x0 x5) == 0))) else (none)) else (none)) else (some (x4, false)))
end
def beadrollref07_Labels.f (k : Nat) (a0 : ByteArray) : Option (List ByteArray × Bool) := if (a0.size : Int) > 255 then (some (([] : List ByteArray), false)) else (beadrollref07_Labels.l0 k a0 ([] : List ByteArray) 0)
theorem beadrollref07_Labels.mono_l : ∀ k, (∀ y0 y1 y2, LeO (beadrollref07_Labels.l0 k y0 y1 y2) (beadrollref07_Labels.l0 (k + 1) y0 y1 y2)) ∧ (∀ y0 y1 y2 y3, LeO (beadrollref07_Labels.j1 k y0 y1 y2 y3) (beadrollref07_Labels.j1 (k + 1) y0 y1 y2 y3))
  | 0 => ⟨fun _ _ _ r h => by simp [beadrollref07_Labels.l0] at h, fun _ _ _ _ r h => by simp [beadrollref07_Labels.j1] at h⟩
  | k + 1 => by
    obtain ⟨ih0, ih1⟩ := beadrollref07_Labels.mono_l k
    refine ⟨?_, ?_⟩
    · intro y0 y1 y2
      unfold beadrollref07_Labels.l0
      repeat' first
      | (with_reducible exact ih0 _ _ _)
      | (with_reducible exact ih1 _ _ _ _)
      | (with_reducible exact LeO.refl _)
      | (with_reducible exact LeO.none _)
      | (with_reducible refine LeO.ite ?_ ?_)
      | (with_reducible refine LeO.bind ?_ (fun _ => ?_))
      | exact ih0 _ _ _
      | exact ih1 _ _ _ _
      | exact LeO.none _
      | refine LeO.ite ?_ ?_
      | refine LeO.bind ?_ (fun _ => ?_)
    · intro y0 y1 y2 y3
      unfold beadrollref07_Labels.j1
      repeat' first
      | (with_reducible exact ih0 _ _ _)
      | (with_reducible exact ih1 _ _ _ _)
      | (with_reducible exact LeO.refl _)
      | (with_reducible exact LeO.none _)
      | (with_reducible refine LeO.ite ?_ ?_)
      | (with_reducible refine LeO.bind ?_ (fun _ => ?_))
      | exact ih0 _ _ _
      | exact ih1 _ _ _ _
      | exact LeO.none _
      | refine LeO.ite ?_ ?_
      | refine LeO.bind ?_ (fun _ => ?_)
theorem beadrollref07_Labels.mono : ∀ a0 k, LeO (beadrollref07_Labels.f k a0) (beadrollref07_Labels.f (k + 1) a0) := by
  intro a0 k
  obtain ⟨ih0, ih1⟩ := beadrollref07_Labels.mono_l k
  unfold beadrollref07_Labels.f
  repeat' first
      | (with_reducible exact ih0 _ _ _)
      | (with_reducible exact ih1 _ _ _ _)
      | (with_reducible exact LeO.refl _)
      | (with_reducible exact LeO.none _)
      | (with_reducible refine LeO.ite ?_ ?_)
      | (with_reducible refine LeO.bind ?_ (fun _ => ?_))
      | exact ih0 _ _ _
      | exact ih1 _ _ _ _
      | exact LeO.none _
      | refine LeO.ite ?_ ?_
      | refine LeO.bind ?_ (fun _ => ?_)
set_option maxHeartbeats 8000000 in
set_option maxRecDepth 100000 in
theorem beadrollref07_Labels.calls (k : Nat) (a0 : ByteArray) (r1 : List ByteArray) (r2 : Bool) (w : World) (h : beadrollref07_Labels.f k a0 = some (r1, r2)) :
    Calls Try.prog 22 #[.string a0] w fun e w' => ∃ v0_ : Value, e = .returned (.tuple #[v0_, .bool r2]) ∧ Kd.R Kd.string 9 w' w.heap.size (fun _ => True) v0_ r1 ∧ Below w.heap.size w w' := by
  have HB := Aside0.mk (Below.refl w.heap.size w)
  have H : (if (a0.size : Int) > 255 then (some (([] : List ByteArray), false)) else (beadrollref07_Labels.l0 k a0 ([] : List ByteArray) 0)) = some (r1, r2) := h
  clear h
  by_cases c2 : (a0.size : Int) > 255
  · rw [if_pos c2] at H
    have c2b0 : decide (255 < (a0.size : Int)) = true := decide_eq_true c2
    have c2b1 : decide (255 < a0.size) = true := decide_eq_true (by omega)
    clear c2
    simp only [Option.some.injEq, Prod.mk.injEq] at H
    obtain ⟨rfl, rfl⟩ := H
    go_enter Try.func22, Try.ntmps22
    go_wp2
    repeat (go_quiet (fail); try go_wp2)
    go_ret2
    exact ⟨_, by first | rfl | (simp [errW_none, errW_some] <;> rfl) | (simp [*, errW_none, errW_some] <;> rfl), by first | exact Kd.R_nil _ _ _ _ _ | exact Kd.N_nil _ _ _ _ _ | exact Kd.V_nil _ _ _ _ _ | exact Kd.Q_nil _ _ _ _ _ | exact Kd.S_nil _ _ _ _ _, by repeat (first | (with_reducible first | exact HB.out | apply below_alloc | apply pw_below_drewN | apply below_drew1) | exact HB.out)⟩
  · rw [if_neg c2] at H
    have c2b0 : decide (255 < (a0.size : Int)) = false := decide_eq_false c2
    have c2b1 : decide (255 < a0.size) = false := decide_eq_false (by omega)
    clear c2
    have H' := Aside0.mk H
    clear H
    go_enter Try.func22, Try.ntmps22
    go_wp2
    repeat (go_quiet (fail); try go_wp2)
    go_loopg [4, 5] k (fun kq v4 v5 w' => ∃ (x4_1 : List ByteArray) (x5_1 : Int), v5 = .int .i64 x5_1 ∧ Aside0 (beadrollref07_Labels.l0 kq a0 x4_1 x5_1 = some (r1, r2)) ∧ Aside0 (kq ≤ k) ∧ Aside0 (Kd.R Kd.string 9 w' w.heap.size (fun _ => True) v4 x4_1) ∧ Aside0 (Below w.heap.size w w'))
    case atStart => exact ⟨(([] : List ByteArray)), (0), (by first | rfl | (simp; done) | (simp [*]; done)), H', ⟨Nat.le_refl _⟩, ⟨by first | exact Kd.R_nil _ _ _ _ _ | exact Kd.N_nil _ _ _ _ _ | exact Kd.V_nil _ _ _ _ _ | exact Kd.Q_nil _ _ _ _ _ | exact Kd.S_nil _ _ _ _ _⟩, ⟨by repeat (first | (with_reducible first | exact HB.out | apply below_alloc | apply pw_below_drewN | apply below_drew1) | exact HB.out)⟩⟩
    case round =>
      clear H'
      try clear c2
      try clear c2b0
      try clear c2b1
      try clear p2
      obtain ⟨x4_1, x5_1, rfl, HA, HK1, HO_4, HB⟩ := hrel
      cases gk with
      | zero => exact absurd HA.out (by simp [beadrollref07_Labels.l0])
      | succ k1 =>
        have H := HA.out
        clear HA
        simp only [beadrollref07_Labels.l0] at H
        have HC3 := Aside0.mk H
        clear H
        go_upto_region 5 with (fail)
        repeat (go_quiet (fail); go_upto_region 5 with (fail))
        go_cut [19] (fun v19 wc => ∃ (kq : Nat) (x19_2 : Bool), v19 = .bool x19_2 ∧ Aside0 (beadrollref07_Labels.j1 kq a0 x4_1 x5_1 x19_2 = some (r1, r2)) ∧ Aside0 (kq ≤ k1) ∧ Aside0 (Kd.R Kd.string 9 wc w.heap.size (fun _ => True) u4 x4_1) ∧ Aside0 (Below w.heap.size w wc))
        case first =>
          have H := HC3.out
          clear HC3
          by_cases c4 : x5_1 < (a0.size : Int)
          · rw [if_pos c4] at H
            have c4b0 : decide (x5_1 < (a0.size : Int)) = true := decide_eq_true c4
            clear c4
            (first | rw [c4b0] | (simp only [i64_w, i32_w]; rw [c4b0]) | skip)
            by_cases c5 : 0 ≤ x5_1
            · rw [if_pos c5] at H
              have c5b0 : decide (0 ≤ x5_1) = true := decide_eq_true c5
              clear c5
              have H' := Aside0.mk H
              clear H
              have p6 : 0 ≤ (x5_1 : Int) := of_decide_eq_true (by first | (with_reducible assumption) | assumption)
              have q6 : x5_1 < (a0.size : Int) := of_decide_eq_true (by first | (with_reducible assumption) | assumption)
              have hx6 := bt_at a0 x5_1
              replace p6 := eq_true p6
              replace q6 := eq_true q6
              go_wp2
              repeat (go_quiet (fail); try go_wp2)
              go_meet
              case rel => exact ⟨_, (decide ((bt a0 x5_1) > 0)), (by first | rfl | (simp; done) | (simp [*]; done)), H', ⟨by have := HK1.out; first | omega | exact Nat.le_refl _⟩, ⟨by (with_reducible repeat (first | apply Kd.R_alloc | apply Kd.R_drewN | apply Kd.R_drew)); exact HO_4.out⟩, ⟨by repeat (first | (with_reducible first | exact HB.out | apply below_alloc | apply pw_below_drewN | apply below_drew1) | exact HB.out)⟩⟩
            · rw [if_neg c5] at H
              exact absurd H (by simp)
          · rw [if_neg c4] at H
            have c4b0 : decide (x5_1 < (a0.size : Int)) = false := decide_eq_false c4
            clear c4
            (first | rw [c4b0] | (simp only [i64_w, i32_w]; rw [c4b0]) | skip)
            have H' := Aside0.mk H
            clear H
            go_wp2
            repeat (go_quiet (fail); try go_wp2)
            go_meet
            case rel => exact ⟨_, (false), (by first | rfl | (simp; done) | (simp [*]; done)), H', ⟨by have := HK1.out; first | omega | exact Nat.le_refl _⟩, ⟨by (with_reducible repeat (first | apply Kd.R_alloc | apply Kd.R_drewN | apply Kd.R_drew)); exact HO_4.out⟩, ⟨by repeat (first | (with_reducible first | exact HB.out | apply below_alloc | apply pw_below_drewN | apply below_drew1) | exact HB.out)⟩⟩
        case rest =>
          clear HC3
          try clear c2
          try clear c2b0
          try clear c2b1
          try clear p2
          try clear c4
          try clear c4b0
          try clear c5
          try clear c5b0
          try clear p6
          try clear q6
          try clear hx6
          try clear p2
          try clear p6
          try clear q6
          obtain ⟨kq, x19_2, rfl, HA, HJ2, HO_4, HB⟩ := hcut
          cases kq with
          | zero => exact absurd HA.out (by simp [beadrollref07_Labels.j1])
          | succ kj2 =>
            have H := HA.out
            clear HA
            simp only [beadrollref07_Labels.j1] at H
            by_cases c7 : x19_2 = true
            · subst c7
              have H1 : (if 0 ≤ x5_1 then (if x5_1 < (a0.size : Int) then (if (wrap64 (bt a0 x5_1)) > 63 then (some (([] : List ByteArray), false)) else (if (wrap64 ((wrap64 (x5_1 + 1)) + (wrap64 (bt a0 x5_1)))) > (a0.size : Int) then (some (([] : List ByteArray), false)) else (if 0 ≤ (wrap64 (x5_1 + 1)) then (if (wrap64 (x5_1 + 1)) ≤ (wrap64 ((wrap64 (x5_1 + 1)) + (wrap64 (bt a0 x5_1)))) then (if (wrap64 ((wrap64 (x5_1 + 1)) + (wrap64 (bt a0 x5_1)))) ≤ (a0.size : Int) then (if x4_1.length < 8796093022208 then (beadrollref07_Labels.l0 kj2 a0 (x4_1 ++ [a0.extract ((wrap64 (x5_1 + 1)) : Int).toNat ((wrap64 ((wrap64 (x5_1 + 1)) + (wrap64 (bt a0 x5_1)))) : Int).toNat]) (wrap64 (x5_1 + (wrap64 (1 + (wrap64 (bt a0 x5_1))))))) else (none)) else (none)) else (none)) else (none)))) else (none)) else (none)) = some (r1, r2) := by rw [if_pos rfl] at H; exact H
              clear H
              have H := H1
              clear H1
              by_cases c8 : 0 ≤ x5_1
              · rw [if_pos c8] at H
                have c8b0 : decide (0 ≤ x5_1) = true := decide_eq_true c8
                clear c8
                by_cases c9 : x5_1 < (a0.size : Int)
                · rw [if_pos c9] at H
                  have c9b0 : decide (x5_1 < (a0.size : Int)) = true := decide_eq_true c9
                  clear c9
                  by_cases c11 : (wrap64 (bt a0 x5_1)) > 63
                  · rw [if_pos c11] at H
                    have c11b0 : decide (63 < (wrap64 (bt a0 x5_1))) = true := decide_eq_true c11
                    clear c11
                    simp only [Option.some.injEq, Prod.mk.injEq] at H
                    obtain ⟨rfl, rfl⟩ := H
                    have p10 : 0 ≤ (x5_1 : Int) := of_decide_eq_true (by first | (with_reducible assumption) | assumption)
                    have q10 : x5_1 < (a0.size : Int) := of_decide_eq_true (by first | (with_reducible assumption) | assumption)
                    have hx10 := bt_at a0 x5_1
                    replace p10 := eq_true p10
                    replace q10 := eq_true q10
                    go_wp2
                    repeat (go_quiet (fail); try go_wp2)
                    go_ret2
                    exact ⟨_, by first | rfl | (simp [errW_none, errW_some] <;> rfl) | (simp [*, errW_none, errW_some] <;> rfl), by first | exact Kd.R_nil _ _ _ _ _ | exact Kd.N_nil _ _ _ _ _ | exact Kd.V_nil _ _ _ _ _ | exact Kd.Q_nil _ _ _ _ _ | exact Kd.S_nil _ _ _ _ _, by repeat (first | (with_reducible first | exact HB.out | apply below_alloc | apply pw_below_drewN | apply below_drew1) | exact HB.out)⟩
                  · rw [if_neg c11] at H
                    have c11b0 : decide (63 < (wrap64 (bt a0 x5_1))) = false := decide_eq_false c11
                    clear c11
                    by_cases c12 : (wrap64 ((wrap64 (x5_1 + 1)) + (wrap64 (bt a0 x5_1)))) > (a0.size : Int)
                    · rw [if_pos c12] at H
                      have c12b0 : decide ((a0.size : Int) < (wrap64 ((wrap64 (x5_1 + 1)) + (wrap64 (bt a0 x5_1))))) = true := decide_eq_true c12
                      clear c12
                      simp only [Option.some.injEq, Prod.mk.injEq] at H
                      obtain ⟨rfl, rfl⟩ := H
                      have p10 : 0 ≤ (x5_1 : Int) := of_decide_eq_true (by first | (with_reducible assumption) | assumption)
                      have q10 : x5_1 < (a0.size : Int) := of_decide_eq_true (by first | (with_reducible assumption) | assumption)
                      have hx10 := bt_at a0 x5_1
                      replace p10 := eq_true p10
                      replace q10 := eq_true q10
                      go_wp2
                      repeat (go_quiet (fail); try go_wp2)
                      go_ret2
                      exact ⟨_, by first | rfl | (simp [errW_none, errW_some] <;> rfl) | (simp [*, errW_none, errW_some] <;> rfl), by first | exact Kd.R_nil _ _ _ _ _ | exact Kd.N_nil _ _ _ _ _ | exact Kd.V_nil _ _ _ _ _ | exact Kd.Q_nil _ _ _ _ _ | exact Kd.S_nil _ _ _ _ _, by repeat (first | (with_reducible first | exact HB.out | apply below_alloc | apply pw_below_drewN | apply below_drew1) | exact HB.out)⟩
                    · rw [if_neg c12] at H
                      have c12b0 : decide ((a0.size : Int) < (wrap64 ((wrap64 (x5_1 + 1)) + (wrap64 (bt a0 x5_1))))) = false := decide_eq_false c12
                      clear c12
                      obtain ⟨ji13, hji13⟩ : ∃ j_ : Int, (wrap64 (x5_1 + 1)) = j_ := ⟨_, rfl⟩
                      replace H : (if 0 ≤ (ji13) then (if (ji13) ≤ (wrap64 ((ji13) + (wrap64 (bt a0 x5_1)))) then (if (wrap64 ((ji13) + (wrap64 (bt a0 x5_1)))) ≤ (a0.size : Int) then (if x4_1.length < 8796093022208 then (beadrollref07_Labels.l0 kj2 a0 (x4_1 ++ [a0.extract ((ji13) : Int).toNat ((wrap64 ((ji13) + (wrap64 (bt a0 x5_1)))) : Int).toNat]) (wrap64 (x5_1 + (wrap64 (1 + (wrap64 (bt a0 x5_1))))))) else (none)) else (none)) else (none)) else (none)) = some (r1, r2) := by first | (rw [hji13] at H; exact H) | (simp only [hji13] at H ⊢; exact H)
                      (try rw [hji13] at c12b0)
                      have hji13w : (IntKind.i64.wrap (x5_1 + 1)) = ji13 := (i64_w _).trans hji13
                      by_cases c14 : 0 ≤ (ji13)
                      · rw [if_pos c14] at H
                        have c14b0 := eq_true c14
                        have c14b1 : decide (0 ≤ (ji13)) = true := decide_eq_true c14
                        clear c14
                        by_cases c15 : (ji13) ≤ (wrap64 ((ji13) + (wrap64 (bt a0 x5_1))))
                        · rw [if_pos c15] at H
                          have c15b0 := eq_true c15
                          have c15b1 : decide ((ji13) ≤ (wrap64 ((ji13) + (wrap64 (bt a0 x5_1))))) = true := decide_eq_true c15
                          by_cases c16 : (wrap64 ((ji13) + (wrap64 (bt a0 x5_1)))) ≤ (a0.size : Int)
                          · rw [if_pos c16] at H
                            have c16b0 := eq_true c16
                            have c16b1 : decide ((wrap64 ((ji13) + (wrap64 (bt a0 x5_1)))) ≤ (a0.size : Int)) = true := decide_eq_true c16
                            by_cases c17 : x4_1.length < 8796093022208
                            · rw [if_pos c17] at H
                              have LMc17 := Aside0.mk c17
                              clear c17
                              obtain ⟨y121, hy121⟩ : ∃ y_ : List ByteArray, y_ = (x4_1 ++ [a0.extract ((ji13) : Int).toNat ((wrap64 ((ji13) + (wrap64 (bt a0 x5_1)))) : Int).toNat]) := ⟨_, rfl⟩
                              replace H : (beadrollref07_Labels.l0 kj2 a0 y121 (wrap64 (x5_1 + (wrap64 (1 + (wrap64 (bt a0 x5_1))))))) = some (r1, r2) := by first | (rw [hy121]; with_reducible exact H) | (have H2_ := (Option.bind_some _ _).symm.trans H; rw [hy121]; with_reducible exact H2_) | (have H2_ := (Option.bind_some _ _).symm.trans H; with_reducible exact H2_) | with_reducible exact H | (rw [hy121]; exact H) | exact H
                              have Ny121 := Aside0.mk hy121
                              clear hy121
                              have H' := Aside0.mk H
                              clear H
                              have p10 : 0 ≤ (x5_1 : Int) := of_decide_eq_true (by first | (with_reducible assumption) | assumption)
                              have q10 : x5_1 < (a0.size : Int) := of_decide_eq_true (by first | (with_reducible assumption) | assumption)
                              have hx10 := bt_at a0 x5_1
                              replace p10 := eq_true p10
                              replace q10 := eq_true q10
                              go_wp2_with (first | ((with_reducible refine gate_builtin (b := .append) (xs := #[.tmp 35, .tmp 44]) rfl ?_); (try (refine gate_guard (by rfl) ?_; dsimp only)); at_builtin; refine Kd.R_append Kd.string (w0 := w) w.heap.size rfl (.tmp 35) (.tmp 44) 57 9 (.string ⟨#[]⟩) 16 rfl Try.underlying57 info9 rfl (by decide) (by omega) u4 x4_1 (a0.extract ((ji13) : Int).toNat ((wrap64 ((ji13) + (wrap64 (bt a0 x5_1)))) : Int).toNat) [.string (a0.extract ((ji13) : Int).toNat ((wrap64 ((ji13) + (wrap64 (bt a0 x5_1)))) : Int).toNat)] (fun _ => True) (fun _ => False) rfl rfl ?aP (fun _ hk => hk.elim) ?aF ?aO ?aB ?aS ?aL ?_; (case aP => exact rfl); (case aB => exact (by repeat (first | (with_reducible first | exact HB.out | apply below_alloc | apply pw_below_drewN | apply below_drew1) | exact HB.out))); (case aF => exact (fun _ _ => trivial)); (case aO => exact (by (with_reducible repeat (first | apply Kd.R_alloc | apply Kd.R_drewN | apply Kd.R_drew)); exact HO_4.out)); (case aS => exact (below_size (by repeat (first | (with_reducible first | exact HB.out | apply below_alloc | apply pw_below_drewN | apply below_drew1) | exact HB.out)))); (case aL => have := LMc17.out; omega); intro v122 w18 ho hb hg hat; rw [← Ny121.out] at ho; have n0_ := Aside0.mk (hb); have n1_ := Aside0.mk (ho); clear HB; clear HO_4; have HB := n0_; have HO123 := n1_; clear n0_ n1_; clear ho hb hg hat))
                              repeat (go_quiet (first | ((with_reducible refine gate_builtin (b := .append) (xs := #[.tmp 35, .tmp 44]) rfl ?_); (try (refine gate_guard (by rfl) ?_; dsimp only)); at_builtin; refine Kd.R_append Kd.string (w0 := w) w.heap.size rfl (.tmp 35) (.tmp 44) 57 9 (.string ⟨#[]⟩) 16 rfl Try.underlying57 info9 rfl (by decide) (by omega) u4 x4_1 (a0.extract ((ji13) : Int).toNat ((wrap64 ((ji13) + (wrap64 (bt a0 x5_1)))) : Int).toNat) [.string (a0.extract ((ji13) : Int).toNat ((wrap64 ((ji13) + (wrap64 (bt a0 x5_1)))) : Int).toNat)] (fun _ => True) (fun _ => False) rfl rfl ?aP (fun _ hk => hk.elim) ?aF ?aO ?aB ?aS ?aL ?_; (case aP => exact rfl); (case aB => exact (by repeat (first | (with_reducible first | exact HB.out | apply below_alloc | apply pw_below_drewN | apply below_drew1) | exact HB.out))); (case aF => exact (fun _ _ => trivial)); (case aO => exact (by (with_reducible repeat (first | apply Kd.R_alloc | apply Kd.R_drewN | apply Kd.R_drew)); exact HO_4.out)); (case aS => exact (below_size (by repeat (first | (with_reducible first | exact HB.out | apply below_alloc | apply pw_below_drewN | apply below_drew1) | exact HB.out)))); (case aL => have := LMc17.out; omega); intro v122 w18 ho hb hg hat; rw [← Ny121.out] at ho; have n0_ := Aside0.mk (hb); have n1_ := Aside0.mk (ho); clear HB; clear HO_4; have HB := n0_; have HO123 := n1_; clear n0_ n1_; clear ho hb hg hat)); try go_wp2_with (first | ((with_reducible refine gate_builtin (b := .append) (xs := #[.tmp 35, .tmp 44]) rfl ?_); (try (refine gate_guard (by rfl) ?_; dsimp only)); at_builtin; refine Kd.R_append Kd.string (w0 := w) w.heap.size rfl (.tmp 35) (.tmp 44) 57 9 (.string ⟨#[]⟩) 16 rfl Try.underlying57 info9 rfl (by decide) (by omega) u4 x4_1 (a0.extract ((ji13) : Int).toNat ((wrap64 ((ji13) + (wrap64 (bt a0 x5_1)))) : Int).toNat) [.string (a0.extract ((ji13) : Int).toNat ((wrap64 ((ji13) + (wrap64 (bt a0 x5_1)))) : Int).toNat)] (fun _ => True) (fun _ => False) rfl rfl ?aP (fun _ hk => hk.elim) ?aF ?aO ?aB ?aS ?aL ?_; (case aP => exact rfl); (case aB => exact (by repeat (first | (with_reducible first | exact HB.out | apply below_alloc | apply pw_below_drewN | apply below_drew1) | exact HB.out))); (case aF => exact (fun _ _ => trivial)); (case aO => exact (by (with_reducible repeat (first | apply Kd.R_alloc | apply Kd.R_drewN | apply Kd.R_drew)); exact HO_4.out)); (case aS => exact (below_size (by repeat (first | (with_reducible first | exact HB.out | apply below_alloc | apply pw_below_drewN | apply below_drew1) | exact HB.out)))); (case aL => have := LMc17.out; omega); intro v122 w18 ho hb hg hat; rw [← Ny121.out] at ho; have n0_ := Aside0.mk (hb); have n1_ := Aside0.mk (ho); clear HB; clear HO_4; have HB := n0_; have HO123 := n1_; clear n0_ n1_; clear ho hb hg hat)))
                              go_roundg kj2
                              case measure => have := HK1.out; have := HJ2.out; omega
                              case rel => exact ⟨(y121), (wrap64 (x5_1 + (wrap64 (1 + (wrap64 (bt a0 x5_1)))))), (by first | rfl | (simp; done) | (simp [*]; done)), H', ⟨by have := HK1.out; have := HJ2.out; omega⟩, ⟨by (with_reducible repeat (first | apply Kd.R_alloc | apply Kd.R_drewN | apply Kd.R_drew)); exact HO123.out⟩, ⟨by repeat (first | (with_reducible first | exact HB.out | apply below_alloc | apply pw_below_drewN | apply below_drew1) | exact HB.out)⟩⟩
                            · rw [if_neg c17] at H
                              exact absurd H (by simp)
                          · rw [if_neg c16] at H
                            exact absurd H (by simp)
                        · rw [if_neg c15] at H
                          exact absurd H (by simp)
                      · rw [if_neg c14] at H
                        exact absurd H (by simp)
                · rw [if_neg c9] at H
                  exact absurd H (by simp)
              · rw [if_neg c8] at H
                exact absurd H (by simp)
            · replace c7 := Bool.eq_false_iff.mpr c7
              subst c7
              have H1 : (if x5_1 = (wrap64 ((a0.size : Int) - 1)) then (if 0 ≤ x5_1 then (if x5_1 < (a0.size : Int) then (some (x4_1, ((bt a0 x5_1) == 0))) else (none)) else (none)) else (some (x4_1, false))) = some (r1, r2) := by rw [if_neg (show ¬ (false = true) by decide)] at H; exact H
              clear H
              have H := H1
              clear H1
              by_cases c19 : x5_1 = (wrap64 ((a0.size : Int) - 1))
              · rw [if_pos c19] at H
                have c19b0 : (x5_1 == (wrap64 ((a0.size : Int) - 1))) = true := beq_iff_eq.mpr c19
                have c19b1 : (x5_1 != (wrap64 ((a0.size : Int) - 1))) = false := bne_eq_false_iff_eq.mpr c19
                clear c19
                by_cases c20 : 0 ≤ x5_1
                · rw [if_pos c20] at H
                  have c20b0 : decide (0 ≤ x5_1) = true := decide_eq_true c20
                  clear c20
                  by_cases c21 : x5_1 < (a0.size : Int)
                  · rw [if_pos c21] at H
                    have c21b0 : decide (x5_1 < (a0.size : Int)) = true := decide_eq_true c21
                    clear c21
                    simp only [Option.some.injEq, Prod.mk.injEq] at H
                    obtain ⟨rfl, rfl⟩ := H
                    have p22 : 0 ≤ (x5_1 : Int) := of_decide_eq_true (by first | (with_reducible assumption) | assumption)
                    have q22 : x5_1 < (a0.size : Int) := of_decide_eq_true (by first | (with_reducible assumption) | assumption)
                    have hx22 := bt_at a0 x5_1
                    replace p22 := eq_true p22
                    replace q22 := eq_true q22
                    go_wp2
                    repeat (go_quiet (fail); try go_wp2)
                    go_ret2
                    exact ⟨_, by first | rfl | (simp [errW_none, errW_some] <;> rfl) | (simp [*, errW_none, errW_some] <;> rfl), by (with_reducible repeat (first | apply Kd.R_alloc | apply Kd.R_drewN | apply Kd.R_drew)); exact HO_4.out, by repeat (first | (with_reducible first | exact HB.out | apply below_alloc | apply pw_below_drewN | apply below_drew1) | exact HB.out)⟩
                  · rw [if_neg c21] at H
                    exact absurd H (by simp)
                · rw [if_neg c20] at H
                  exact absurd H (by simp)
              · rw [if_neg c19] at H
                have c19b0 : (x5_1 == (wrap64 ((a0.size : Int) - 1))) = false := beq_eq_false_iff_ne.mpr c19
                have c19b1 : (x5_1 != (wrap64 ((a0.size : Int) - 1))) = true := bne_iff_ne.mpr c19
                simp only [Option.some.injEq, Prod.mk.injEq] at H
                obtain ⟨rfl, rfl⟩ := H
                go_wp2
                repeat (go_quiet (fail); try go_wp2)
                go_ret2
                exact ⟨_, by first | rfl | (simp [errW_none, errW_some] <;> rfl) | (simp [*, errW_none, errW_some] <;> rfl), by (with_reducible repeat (first | apply Kd.R_alloc | apply Kd.R_drewN | apply Kd.R_drew)); exact HO_4.out, by repeat (first | (with_reducible first | exact HB.out | apply below_alloc | apply pw_below_drewN | apply below_drew1) | exact HB.out)⟩

/-! ### beadrollref07_Right: function 13 -/
def beadrollref07_Right.f (k : Nat) (a0 : ByteArray) : Option (Bool) := (beadrollref07_Labels.f k a0).bind fun bt124 => (some bt124.2)
theorem beadrollref07_Right.mono : ∀ a0 k, LeO (beadrollref07_Right.f k a0) (beadrollref07_Right.f (k + 1) a0) := by
  intro a0 k
  unfold beadrollref07_Right.f
  repeat' first
      | (with_reducible exact beadrollref07_Labels.mono _ _)
      | (with_reducible exact LeO.refl _)
      | (with_reducible exact LeO.none _)
      | (with_reducible refine LeO.ite ?_ ?_)
      | (with_reducible refine LeO.bind ?_ (fun _ => ?_))
      | exact beadrollref07_Labels.mono _ _
      | exact LeO.none _
      | refine LeO.ite ?_ ?_
      | refine LeO.bind ?_ (fun _ => ?_)
set_option maxHeartbeats 8000000 in
set_option maxRecDepth 100000 in
theorem beadrollref07_Right.calls (k : Nat) (a0 : ByteArray) (r : Bool) (w : World) (h : beadrollref07_Right.f k a0 = some r) :
    Calls Try.prog 13 #[.string a0] w fun e w' => e = .returned (.bool r) ∧ Below w.heap.size w w' := by
  have HB := Aside0.mk (Below.refl w.heap.size w)
  have H : ((beadrollref07_Labels.f k a0).bind fun bt124 => (some bt124.2)) = some r := h
  clear h
  replace H := Option.bind_eq_some_iff.mp H
  obtain ⟨⟨t124, t125⟩, A20, H⟩ := H
  replace H : (some t125) = some r := H
  have A2 := Aside0.mk A20
  clear A20
  obtain rfl := Option.some.inj H
  go_enter Try.func13, Try.ntmps13
  go_wp2_with (first | ((with_reducible refine gate_callee (f := 22) rfl ?_); refine goesL_ (some 7) rfl rfl Try.func22 (by kernel_rfl) rfl #[.string a0] rfl (by (try simp only [List.map_toArray, List.map_cons, List.map_nil]); first | done | rfl | (simp only [List.length_drop, List.length_take]; rfl)) ?_; (with_reducible refine (beadrollref07_Labels.calls k a0 t124 t125 _ A2.out).mono ?_); rintro e w3 ⟨v126, rfl, ho0, hb⟩; refine ⟨_, rfl, ?_⟩; have n0_ := Aside0.mk (Kd.R_lower ho0 (below_size (by repeat (first | (with_reducible first | exact HB.out | apply below_alloc | apply pw_below_drewN | apply below_drew1) | exact HB.out)))); have n1_ := Aside0.mk (below_step (by repeat (first | (with_reducible first | exact HB.out | apply below_alloc | apply pw_below_drewN | apply below_drew1) | exact HB.out)) hb); clear HB; have HO127 := n0_; have HB := n1_; clear n0_ n1_; (try clear hb); (try clear hb2); (try clear hk); (try clear hi); (try clear ho0)))
  go_ret
  exact ⟨by first | rfl | (simp [errW_none, errW_some] <;> rfl) | (simp [*, errW_none, errW_some] <;> rfl), by repeat (first | (with_reducible first | exact HB.out | apply below_alloc | apply pw_below_drewN | apply below_drew1) | exact HB.out)⟩

/-! ### beadrollref09_Read: function 18 -/
mutual
def beadrollref09_Read.j0 : Nat → ByteArray → Int → Bool → Option (ByteArray × Int × Int)
  | 0, _, _, _ => none
  | k + 1, x0, x1, x19 => if x19 = true then (some ((⟨#[]⟩ : ByteArray), 0, 1)) else (beadrollref09_Read.l0 k x0 x1 (⟨#[]⟩ : ByteArray) (-1) x1)
def beadrollref09_Read.l0 : Nat → ByteArray → Int → ByteArray → Int → Int → Option (ByteArray × Int × Int)
  | 0, _, _, _, _, _ => none
  | k + 1, x0, x1, x7, x8, x9 => if x1 < (x0.size : Int) then (beadrollref09_Read.j2 k x0 x1 x7 x8 x9 (decide ((x7.size : Int) < 300))) else (beadrollref09_Read.j2 k x0 x1 x7 x8 x9 false)
def beadrollref09_Read.j2 : Nat → ByteArray → Int → ByteArray → Int → Int → Bool → Option (ByteArray × Int × Int)
  | 0, _, _, _, _, _, _ => none
  | k + 1, x0, x1, x7, x8, x9, x29 => if x29 = true then (if 0 ≤ x1 then (if x1 < (x0.size : Int) then (if (wrap64 (bt x0 x1)) = 0 then (if x7.size + 1 ≤ 9223372036854775807 then (if x8 < 0 then ((beadrollref07_Right.f k (x7 ++ (⟨#[0]⟩ : ByteArray))).bind fun t128 => (if t128 = true then (some (x7 ++ (⟨#[0]⟩ : ByteArray), wrap64 (x1 + 1), 0)) else (some ((⟨#[]⟩ : ByteArray), 0, 2)))) else ((beadrollref07_Right.f k (x7 ++ (⟨#[0]⟩ : ByteArray))).bind fun t129 => (if t129 = true then (some (x7 ++ (⟨#[0]⟩ : ByteArray), x8, 0)) else (some ((⟨#[]⟩ : ByteArray), 0, 2))))) else (none)) else (if (wrap64 (bt x0 x1)) ≥ 192 then (if (wrap64 (x1 + 1)) ≥ (x0.size : Int) then (some ((⟨#[]⟩ : ByteArray), 0, 2)) else (if 0 ≤ (wrap64 (x1 + 1)) then (if (wrap64 (x1 + 1)) < (x0.size : Int) then (if (wrap64 ((wrap64 ((wrap64 ((wrap64 (bt x0 x1)) - 192)) * 256)) + (wrap64 (bt x0 (wrap64 (x1 + 1)))))) ≥ x9 then (some ((⟨#[]⟩ : ByteArray), 0, 2)) else (if x8 < 0 then (beadrollref09_Read.l0 k x0 (wrap64 ((wrap64 ((wrap64 ((wrap64 (bt x0 x1)) - 192)) * 256)) + (wrap64 (bt x0 (wrap64 (x1 + 1)))))) x7 (wrap64 (x1 + 2)) (wrap64 ((wrap64 ((wrap64 ((wrap64 (bt x0 x1)) - 192)) * 256)) + (wrap64 (bt x0 (wrap64 (x1 + 1))))))) else (beadrollref09_Read.l0 k x0 (wrap64 ((wrap64 ((wrap64 ((wrap64 (bt x0 x1)) - 192)) * 256)) + (wrap64 (bt x0 (wrap64 (x1 + 1)))))) x7 x8 (wrap64 ((wrap64 ((wrap64 ((wrap64 (bt x0 x1)) - 192)) * 256)) + (wrap64 (bt x0 (wrap64 (x1 + 1))))))))) else (none)) else (none))) else (if (wrap64 (bt x0 x1)) ≥ 64 then (some ((⟨#[]⟩ : ByteArray), 0, 2)) else (if (wrap64 ((wrap64 (x1 + 1)) + (wrap64 (bt x0 x1)))) > (x0.size : Int) then (some ((⟨#[]⟩ : ByteArray), 0, 2)) else (if x1 ≤ (wrap64 ((wrap64 (x1 + 1)) + (wrap64 (bt x0 x1)))) then (if (wrap64 ((wrap64 (x1 + 1)) + (wrap64 (bt x0 x1)))) ≤ (x0.size : Int) then (if x7.size + (x0.extract (x1 : Int).toNat ((wrap64 ((wrap64 (x1 + 1)) + (wrap64 (bt x0 x1)))) : Int).toNat).size ≤ 9223372036854775807 then (beadrollref09_Read.l0 k x0 (wrap64 (x1 + (wrap64 (1 + (wrap64 (bt x0 x1)))))) (x7 ++ (x0.extract (x1 : Int).toNat ((wrap64 ((wrap64 (x1 + 1)) + (wrap64 (bt x0 x1)))) : Int).toNat)) x8 x9) else (none)) else (none)) else (none)))))) else (none)) else (none)) else (some ((⟨#[]⟩ : ByteArray), 0, 2))
end
def beadrollref09_Read.f (k : Nat) (a0 : ByteArray) (a1 : Int) : Option (ByteArray × Int × Int) := if a1 < 0 then (beadrollref09_Read.j0 k a0 a1 true) else (beadrollref09_Read.j0 k a0 a1 (decide (a1 > (a0.size : Int))))
theorem beadrollref09_Read.mono_l : ∀ k, (∀ y0 y1 y2, LeO (beadrollref09_Read.j0 k y0 y1 y2) (beadrollref09_Read.j0 (k + 1) y0 y1 y2)) ∧ (∀ y0 y1 y2 y3 y4, LeO (beadrollref09_Read.l0 k y0 y1 y2 y3 y4) (beadrollref09_Read.l0 (k + 1) y0 y1 y2 y3 y4)) ∧ (∀ y0 y1 y2 y3 y4 y5, LeO (beadrollref09_Read.j2 k y0 y1 y2 y3 y4 y5) (beadrollref09_Read.j2 (k + 1) y0 y1 y2 y3 y4 y5))
  | 0 => ⟨fun _ _ _ r h => by simp [beadrollref09_Read.j0] at h, fun _ _ _ _ _ r h => by simp [beadrollref09_Read.l0] at h, fun _ _ _ _ _ _ r h => by simp [beadrollref09_Read.j2] at h⟩
  | k + 1 => by
    obtain ⟨ih0, ih1, ih2⟩ := beadrollref09_Read.mono_l k
    refine ⟨?_, ?_, ?_⟩
    · intro y0 y1 y2
      unfold beadrollref09_Read.j0
      repeat' first
      | (with_reducible exact ih0 _ _ _)
      | (with_reducible exact ih1 _ _ _ _ _)
      | (with_reducible exact ih2 _ _ _ _ _ _)
      | (with_reducible exact beadrollref07_Right.mono _ _)
      | (with_reducible exact LeO.refl _)
      | (with_reducible exact LeO.none _)
      | (with_reducible refine LeO.ite ?_ ?_)
      | (with_reducible refine LeO.bind ?_ (fun _ => ?_))
      | exact ih0 _ _ _
      | exact ih1 _ _ _ _ _
      | exact ih2 _ _ _ _ _ _
      | exact beadrollref07_Right.mono _ _
      | exact LeO.none _
      | refine LeO.ite ?_ ?_
      | refine LeO.bind ?_ (fun _ => ?_)
    · intro y0 y1 y2 y3 y4
      unfold beadrollref09_Read.l0
      repeat' first
      | (with_reducible exact ih0 _ _ _)
      | (with_reducible exact ih1 _ _ _ _ _)
      | (with_reducible exact ih2 _ _ _ _ _ _)
      | (with_reducible exact beadrollref07_Right.mono _ _)
      | (with_reducible exact LeO.refl _)
      | (with_reducible exact LeO.none _)
      | (with_reducible refine LeO.ite ?_ ?_)
      | (with_reducible refine LeO.bind ?_ (fun _ => ?_))
      | exact ih0 _ _ _
      | exact ih1 _ _ _ _ _
      | exact ih2 _ _ _ _ _ _
      | exact beadrollref07_Right.mono _ _
      | exact LeO.none _
      | refine LeO.ite ?_ ?_
      | refine LeO.bind ?_ (fun _ => ?_)
    · intro y0 y1 y2 y3 y4 y5
      unfold beadrollref09_Read.j2
      repeat' first
      | (with_reducible exact ih0 _ _ _)
      | (with_reducible exact ih1 _ _ _ _ _)
      | (with_reducible exact ih2 _ _ _ _ _ _)
      | (with_reducible exact beadrollref07_Right.mono _ _)
      | (with_reducible exact LeO.refl _)
      | (with_reducible exact LeO.none _)
      | (with_reducible refine LeO.ite ?_ ?_)
      | (with_reducible refine LeO.bind ?_ (fun _ => ?_))
      | exact ih0 _ _ _
      | exact ih1 _ _ _ _ _
      | exact ih2 _ _ _ _ _ _
      | exact beadrollref07_Right.mono _ _
      | exact LeO.none _
      | refine LeO.ite ?_ ?_
      | refine LeO.bind ?_ (fun _ => ?_)
theorem beadrollref09_Read.mono : ∀ a0 a1 k, LeO (beadrollref09_Read.f k a0 a1) (beadrollref09_Read.f (k + 1) a0 a1) := by
  intro a0 a1 k
  obtain ⟨ih0, ih1, ih2⟩ := beadrollref09_Read.mono_l k
  unfold beadrollref09_Read.f
  repeat' first
      | (with_reducible exact ih0 _ _ _)
      | (with_reducible exact ih1 _ _ _ _ _)
      | (with_reducible exact ih2 _ _ _ _ _ _)
      | (with_reducible exact beadrollref07_Right.mono _ _)
      | (with_reducible exact LeO.refl _)
      | (with_reducible exact LeO.none _)
      | (with_reducible refine LeO.ite ?_ ?_)
      | (with_reducible refine LeO.bind ?_ (fun _ => ?_))
      | exact ih0 _ _ _
      | exact ih1 _ _ _ _ _
      | exact ih2 _ _ _ _ _ _
      | exact beadrollref07_Right.mono _ _
      | exact LeO.none _
      | refine LeO.ite ?_ ?_
      | refine LeO.bind ?_ (fun _ => ?_)
set_option maxHeartbeats 8000000 in
set_option maxRecDepth 100000 in
theorem beadrollref09_Read.calls (k : Nat) (a0 : ByteArray) (a1 : Int) (r1 : ByteArray) (r2 : Int) (r3 : Int) (w : World) (h : beadrollref09_Read.f k a0 a1 = some (r1, r2, r3)) :
    Calls Try.prog 18 #[.string a0, .int .i64 a1] w fun e w' => e = .returned (.tuple #[.string r1, .int .i64 r2, .int .i64 r3]) ∧ Below w.heap.size w w' := by
  have HB := Aside0.mk (Below.refl w.heap.size w)
  have H : (if a1 < 0 then (beadrollref09_Read.j0 k a0 a1 true) else (beadrollref09_Read.j0 k a0 a1 (decide (a1 > (a0.size : Int))))) = some (r1, r2, r3) := h
  clear h
  have HC3 := Aside0.mk H
  clear H
  go_enter Try.func18, Try.ntmps18
  go_upto_region 1 with (fail)
  go_cut [19] (fun v19 wc => ∃ (kq : Nat) (x19_2 : Bool), v19 = .bool x19_2 ∧ Aside0 (beadrollref09_Read.j0 kq a0 a1 x19_2 = some (r1, r2, r3)) ∧ Aside0 (kq ≤ k) ∧ Aside0 (Below w.heap.size w wc))
  case first =>
    have H := HC3.out
    clear HC3
    by_cases c4 : a1 < 0
    · rw [if_pos c4] at H
      have c4b0 : decide (a1 < 0) = true := decide_eq_true c4
      clear c4
      (first | rw [c4b0] | (simp only [i64_w, i32_w]; rw [c4b0]) | skip)
      have H' := Aside0.mk H
      clear H
      go_wp2
      go_meet
      case rel => exact ⟨_, (true), (by first | rfl | (simp; done) | (simp [*]; done)), H', ⟨by first | omega | exact Nat.le_refl _⟩, ⟨by repeat (first | (with_reducible first | exact HB.out | apply below_alloc | apply pw_below_drewN | apply below_drew1) | exact HB.out)⟩⟩
    · rw [if_neg c4] at H
      have c4b0 : decide (a1 < 0) = false := decide_eq_false c4
      clear c4
      (first | rw [c4b0] | (simp only [i64_w, i32_w]; rw [c4b0]) | skip)
      have H' := Aside0.mk H
      clear H
      go_wp2
      go_meet
      case rel => exact ⟨_, (decide (a1 > (a0.size : Int))), (by first | rfl | (simp; done) | (simp [*]; done)), H', ⟨by first | omega | exact Nat.le_refl _⟩, ⟨by repeat (first | (with_reducible first | exact HB.out | apply below_alloc | apply pw_below_drewN | apply below_drew1) | exact HB.out)⟩⟩
  case rest =>
    clear HC3
    try clear c1
    try clear p2
    try clear c4
    try clear c4b0
    obtain ⟨kq, x19_2, rfl, HA, HJ2, HB⟩ := hcut
    cases kq with
    | zero => exact absurd HA.out (by simp [beadrollref09_Read.j0])
    | succ kj2 =>
      have H := HA.out
      clear HA
      simp only [beadrollref09_Read.j0] at H
      by_cases c5 : x19_2 = true
      · subst c5
        have H1 : (some ((⟨#[]⟩ : ByteArray), 0, 1)) = some (r1, r2, r3) := by rw [if_pos rfl] at H; exact H
        clear H
        have H := H1
        clear H1
        simp only [Option.some.injEq, Prod.mk.injEq] at H
        obtain ⟨rfl, rfl, rfl⟩ := H
        go_wp2
        go_ret3
        exact ⟨by first | rfl | (simp [errW_none, errW_some] <;> rfl) | (simp [*, errW_none, errW_some] <;> rfl), by repeat (first | (with_reducible first | exact HB.out | apply below_alloc | apply pw_below_drewN | apply below_drew1) | exact HB.out)⟩
      · replace c5 := Bool.eq_false_iff.mpr c5
        subst c5
        have H1 : (beadrollref09_Read.l0 kj2 a0 a1 (⟨#[]⟩ : ByteArray) (-1) a1) = some (r1, r2, r3) := by rw [if_neg (show ¬ (false = true) by decide)] at H; exact H
        clear H
        have H := H1
        clear H1
        have H' := Aside0.mk H
        clear H
        go_wp2
        go_loopg [1, 7, 8, 9] kj2 (fun kq v1 v7 v8 v9 w' => ∃ (x1_2 : Int) (x7_2 : ByteArray) (x8_2 : Int) (x9_2 : Int), v1 = .int .i64 x1_2 ∧ v7 = .string x7_2 ∧ v8 = .int .i64 x8_2 ∧ v9 = .int .i64 x9_2 ∧ Aside0 (beadrollref09_Read.l0 kq a0 x1_2 x7_2 x8_2 x9_2 = some (r1, r2, r3)) ∧ Aside0 (kq ≤ kj2) ∧ Aside0 (Below w.heap.size w w'))
        case atStart => exact ⟨(a1), ((⟨#[]⟩ : ByteArray)), ((-1)), (a1), (by first | rfl | (simp; done) | (simp [*]; done)), (by first | rfl | (simp; done) | (simp [*]; done)), (by first | rfl | (simp; done) | (simp [*]; done)), (by first | rfl | (simp; done) | (simp [*]; done)), H', ⟨Nat.le_refl _⟩, ⟨by repeat (first | (with_reducible first | exact HB.out | apply below_alloc | apply pw_below_drewN | apply below_drew1) | exact HB.out)⟩⟩
        case round =>
          clear H'
          try clear c1
          try clear p2
          try clear c4
          try clear c4b0
          try clear c5
          try clear p2
          obtain ⟨x1_2, x7_2, x8_2, x9_2, rfl, rfl, rfl, rfl, HA, HK2, HB⟩ := hrel
          cases gk with
          | zero => exact absurd HA.out (by simp [beadrollref09_Read.l0])
          | succ k2 =>
            have H := HA.out
            clear HA
            simp only [beadrollref09_Read.l0] at H
            have HC6 := Aside0.mk H
            clear H
            go_upto_region 6 with (fail)
            go_cut [29] (fun v29 wc => ∃ (kq : Nat) (x29_5 : Bool), v29 = .bool x29_5 ∧ Aside0 (beadrollref09_Read.j2 kq a0 x1_2 x7_2 x8_2 x9_2 x29_5 = some (r1, r2, r3)) ∧ Aside0 (kq ≤ k2) ∧ Aside0 (Below w.heap.size w wc))
            case first =>
              have H := HC6.out
              clear HC6
              by_cases c7 : x1_2 < (a0.size : Int)
              · rw [if_pos c7] at H
                have c7b0 : decide (x1_2 < (a0.size : Int)) = true := decide_eq_true c7
                clear c7
                (first | rw [c7b0] | (simp only [i64_w, i32_w]; rw [c7b0]) | skip)
                have H' := Aside0.mk H
                clear H
                go_wp2
                go_meet
                case rel => exact ⟨_, (decide ((x7_2.size : Int) < 300)), (by first | rfl | (simp; done) | (simp [*]; done)), H', ⟨by have := HJ2.out; have := HK2.out; first | omega | exact Nat.le_refl _⟩, ⟨by repeat (first | (with_reducible first | exact HB.out | apply below_alloc | apply pw_below_drewN | apply below_drew1) | exact HB.out)⟩⟩
              · rw [if_neg c7] at H
                have c7b0 : decide (x1_2 < (a0.size : Int)) = false := decide_eq_false c7
                clear c7
                (first | rw [c7b0] | (simp only [i64_w, i32_w]; rw [c7b0]) | skip)
                have H' := Aside0.mk H
                clear H
                go_wp2
                go_meet
                case rel => exact ⟨_, (false), (by first | rfl | (simp; done) | (simp [*]; done)), H', ⟨by have := HJ2.out; have := HK2.out; first | omega | exact Nat.le_refl _⟩, ⟨by repeat (first | (with_reducible first | exact HB.out | apply below_alloc | apply pw_below_drewN | apply below_drew1) | exact HB.out)⟩⟩
            case rest =>
              clear HC6
              try clear c1
              try clear p2
              try clear c4
              try clear c4b0
              try clear c5
              try clear c7
              try clear c7b0
              try clear p2
              obtain ⟨kq, x29_5, rfl, HA, HJ5, HB⟩ := hcut
              cases kq with
              | zero => exact absurd HA.out (by simp [beadrollref09_Read.j2])
              | succ kj5 =>
                have H := HA.out
                clear HA
                simp only [beadrollref09_Read.j2] at H
                by_cases c8 : x29_5 = true
                · subst c8
                  have H1 : (if 0 ≤ x1_2 then (if x1_2 < (a0.size : Int) then (if (wrap64 (bt a0 x1_2)) = 0 then (if x7_2.size + 1 ≤ 9223372036854775807 then (if x8_2 < 0 then ((beadrollref07_Right.f kj5 (x7_2 ++ (⟨#[0]⟩ : ByteArray))).bind fun t128 => (if t128 = true then (some (x7_2 ++ (⟨#[0]⟩ : ByteArray), wrap64 (x1_2 + 1), 0)) else (some ((⟨#[]⟩ : ByteArray), 0, 2)))) else ((beadrollref07_Right.f kj5 (x7_2 ++ (⟨#[0]⟩ : ByteArray))).bind fun t129 => (if t129 = true then (some (x7_2 ++ (⟨#[0]⟩ : ByteArray), x8_2, 0)) else (some ((⟨#[]⟩ : ByteArray), 0, 2))))) else (none)) else (if (wrap64 (bt a0 x1_2)) ≥ 192 then (if (wrap64 (x1_2 + 1)) ≥ (a0.size : Int) then (some ((⟨#[]⟩ : ByteArray), 0, 2)) else (if 0 ≤ (wrap64 (x1_2 + 1)) then (if (wrap64 (x1_2 + 1)) < (a0.size : Int) then (if (wrap64 ((wrap64 ((wrap64 ((wrap64 (bt a0 x1_2)) - 192)) * 256)) + (wrap64 (bt a0 (wrap64 (x1_2 + 1)))))) ≥ x9_2 then (some ((⟨#[]⟩ : ByteArray), 0, 2)) else (if x8_2 < 0 then (beadrollref09_Read.l0 kj5 a0 (wrap64 ((wrap64 ((wrap64 ((wrap64 (bt a0 x1_2)) - 192)) * 256)) + (wrap64 (bt a0 (wrap64 (x1_2 + 1)))))) x7_2 (wrap64 (x1_2 + 2)) (wrap64 ((wrap64 ((wrap64 ((wrap64 (bt a0 x1_2)) - 192)) * 256)) + (wrap64 (bt a0 (wrap64 (x1_2 + 1))))))) else (beadrollref09_Read.l0 kj5 a0 (wrap64 ((wrap64 ((wrap64 ((wrap64 (bt a0 x1_2)) - 192)) * 256)) + (wrap64 (bt a0 (wrap64 (x1_2 + 1)))))) x7_2 x8_2 (wrap64 ((wrap64 ((wrap64 ((wrap64 (bt a0 x1_2)) - 192)) * 256)) + (wrap64 (bt a0 (wrap64 (x1_2 + 1))))))))) else (none)) else (none))) else (if (wrap64 (bt a0 x1_2)) ≥ 64 then (some ((⟨#[]⟩ : ByteArray), 0, 2)) else (if (wrap64 ((wrap64 (x1_2 + 1)) + (wrap64 (bt a0 x1_2)))) > (a0.size : Int) then (some ((⟨#[]⟩ : ByteArray), 0, 2)) else (if x1_2 ≤ (wrap64 ((wrap64 (x1_2 + 1)) + (wrap64 (bt a0 x1_2)))) then (if (wrap64 ((wrap64 (x1_2 + 1)) + (wrap64 (bt a0 x1_2)))) ≤ (a0.size : Int) then (if x7_2.size + (a0.extract (x1_2 : Int).toNat ((wrap64 ((wrap64 (x1_2 + 1)) + (wrap64 (bt a0 x1_2)))) : Int).toNat).size ≤ 9223372036854775807 then (beadrollref09_Read.l0 kj5 a0 (wrap64 (x1_2 + (wrap64 (1 + (wrap64 (bt a0 x1_2)))))) (x7_2 ++ (a0.extract (x1_2 : Int).toNat ((wrap64 ((wrap64 (x1_2 + 1)) + (wrap64 (bt a0 x1_2)))) : Int).toNat)) x8_2 x9_2) else (none)) else (none)) else (none)))))) else (none)) else (none)) = some (r1, r2, r3) := by rw [if_pos rfl] at H; exact H
                  clear H
                  have H := H1
                  clear H1
                  by_cases c9 : 0 ≤ x1_2
                  · rw [if_pos c9] at H
                    have c9b0 : decide (0 ≤ x1_2) = true := decide_eq_true c9
                    clear c9
                    by_cases c10 : x1_2 < (a0.size : Int)
                    · rw [if_pos c10] at H
                      have c10b0 : decide (x1_2 < (a0.size : Int)) = true := decide_eq_true c10
                      clear c10
                      by_cases c12 : (wrap64 (bt a0 x1_2)) = 0
                      · rw [if_pos c12] at H
                        have c12b0 : ((wrap64 (bt a0 x1_2)) == 0) = true := beq_iff_eq.mpr c12
                        have c12b1 : ((wrap64 (bt a0 x1_2)) != 0) = false := bne_eq_false_iff_eq.mpr c12
                        clear c12
                        by_cases c13 : x7_2.size + 1 ≤ 9223372036854775807
                        · rw [if_pos c13] at H
                          have c13b0 := eq_true c13
                          have c13b1 : decide (x7_2.size + 1 ≤ 9223372036854775807) = true := decide_eq_true c13
                          try have c13b2 : (9223372036854775807 < x7_2.size + 1) = False := eq_false (Nat.not_lt.2 c13)
                          by_cases c14 : x8_2 < 0
                          · rw [if_pos c14] at H
                            have c14b0 : decide (x8_2 < 0) = true := decide_eq_true c14
                            clear c14
                            replace H := Option.bind_eq_some_iff.mp H
                            obtain ⟨t128, A150, H⟩ := H
                            replace H : (if t128 = true then (some (x7_2 ++ (⟨#[0]⟩ : ByteArray), wrap64 (x1_2 + 1), 0)) else (some ((⟨#[]⟩ : ByteArray), 0, 2))) = some (r1, r2, r3) := H
                            have A15 := Aside0.mk A150
                            clear A150
                            by_cases c16 : t128 = true
                            · subst c16
                              have H1 : (some (x7_2 ++ (⟨#[0]⟩ : ByteArray), wrap64 (x1_2 + 1), 0)) = some (r1, r2, r3) := by rw [if_pos rfl] at H; exact H
                              clear H
                              have H := H1
                              clear H1
                              simp only [Option.some.injEq, Prod.mk.injEq] at H
                              obtain ⟨rfl, rfl, rfl⟩ := H
                              have p11 : 0 ≤ (x1_2 : Int) := of_decide_eq_true (by first | (with_reducible assumption) | assumption)
                              have q11 : x1_2 < (a0.size : Int) := of_decide_eq_true (by first | (with_reducible assumption) | assumption)
                              have hx11 := bt_at a0 x1_2
                              replace p11 := eq_true p11
                              replace q11 := eq_true q11
                              go_wp2_with (first | ((with_reducible refine gate_callee (f := 13) rfl ?_); refine goesL_ (some 43) rfl rfl Try.func13 (by kernel_rfl) rfl #[.string (x7_2 ++ (⟨#[0]⟩ : ByteArray))] rfl (by (try simp only [List.map_toArray, List.map_cons, List.map_nil]); first | done | rfl | (simp only [List.length_drop, List.length_take]; rfl)) ?_; (with_reducible refine (beadrollref07_Right.calls kj5 (x7_2 ++ (⟨#[0]⟩ : ByteArray)) true _ A15.out).mono ?_); rintro e w17 ⟨rfl, hb⟩; refine ⟨_, rfl, ?_⟩; have n0_ := Aside0.mk (below_step (by repeat (first | (with_reducible first | exact HB.out | apply below_alloc | apply pw_below_drewN | apply below_drew1) | exact HB.out)) hb); clear HB; have HB := n0_; clear n0_; (try clear hb); (try clear hb2); (try clear hk); (try clear hi)))
                              go_ret3
                              exact ⟨by first | rfl | (simp [errW_none, errW_some] <;> rfl) | (simp [*, errW_none, errW_some] <;> rfl), by repeat (first | (with_reducible first | exact HB.out | apply below_alloc | apply pw_below_drewN | apply below_drew1) | exact HB.out)⟩
                            · replace c16 := Bool.eq_false_iff.mpr c16
                              subst c16
                              have H1 : (some ((⟨#[]⟩ : ByteArray), 0, 2)) = some (r1, r2, r3) := by rw [if_neg (show ¬ (false = true) by decide)] at H; exact H
                              clear H
                              have H := H1
                              clear H1
                              simp only [Option.some.injEq, Prod.mk.injEq] at H
                              obtain ⟨rfl, rfl, rfl⟩ := H
                              have p11 : 0 ≤ (x1_2 : Int) := of_decide_eq_true (by first | (with_reducible assumption) | assumption)
                              have q11 : x1_2 < (a0.size : Int) := of_decide_eq_true (by first | (with_reducible assumption) | assumption)
                              have hx11 := bt_at a0 x1_2
                              replace p11 := eq_true p11
                              replace q11 := eq_true q11
                              go_wp2_with (first | ((with_reducible refine gate_callee (f := 13) rfl ?_); refine goesL_ (some 43) rfl rfl Try.func13 (by kernel_rfl) rfl #[.string (x7_2 ++ (⟨#[0]⟩ : ByteArray))] rfl (by (try simp only [List.map_toArray, List.map_cons, List.map_nil]); first | done | rfl | (simp only [List.length_drop, List.length_take]; rfl)) ?_; (with_reducible refine (beadrollref07_Right.calls kj5 (x7_2 ++ (⟨#[0]⟩ : ByteArray)) false _ A15.out).mono ?_); rintro e w18 ⟨rfl, hb⟩; refine ⟨_, rfl, ?_⟩; have n0_ := Aside0.mk (below_step (by repeat (first | (with_reducible first | exact HB.out | apply below_alloc | apply pw_below_drewN | apply below_drew1) | exact HB.out)) hb); clear HB; have HB := n0_; clear n0_; (try clear hb); (try clear hb2); (try clear hk); (try clear hi)))
                              go_ret3
                              exact ⟨by first | rfl | (simp [errW_none, errW_some] <;> rfl) | (simp [*, errW_none, errW_some] <;> rfl), by repeat (first | (with_reducible first | exact HB.out | apply below_alloc | apply pw_below_drewN | apply below_drew1) | exact HB.out)⟩
                          · rw [if_neg c14] at H
                            have c14b0 : decide (x8_2 < 0) = false := decide_eq_false c14
                            clear c14
                            replace H := Option.bind_eq_some_iff.mp H
                            obtain ⟨t129, A190, H⟩ := H
                            replace H : (if t129 = true then (some (x7_2 ++ (⟨#[0]⟩ : ByteArray), x8_2, 0)) else (some ((⟨#[]⟩ : ByteArray), 0, 2))) = some (r1, r2, r3) := H
                            have A19 := Aside0.mk A190
                            clear A190
                            by_cases c20 : t129 = true
                            · subst c20
                              have H1 : (some (x7_2 ++ (⟨#[0]⟩ : ByteArray), x8_2, 0)) = some (r1, r2, r3) := by rw [if_pos rfl] at H; exact H
                              clear H
                              have H := H1
                              clear H1
                              simp only [Option.some.injEq, Prod.mk.injEq] at H
                              obtain ⟨rfl, rfl, rfl⟩ := H
                              have p11 : 0 ≤ (x1_2 : Int) := of_decide_eq_true (by first | (with_reducible assumption) | assumption)
                              have q11 : x1_2 < (a0.size : Int) := of_decide_eq_true (by first | (with_reducible assumption) | assumption)
                              have hx11 := bt_at a0 x1_2
                              replace p11 := eq_true p11
                              replace q11 := eq_true q11
                              go_wp2_with (first | ((with_reducible refine gate_callee (f := 13) rfl ?_); refine goesL_ (some 43) rfl rfl Try.func13 (by kernel_rfl) rfl #[.string (x7_2 ++ (⟨#[0]⟩ : ByteArray))] rfl (by (try simp only [List.map_toArray, List.map_cons, List.map_nil]); first | done | rfl | (simp only [List.length_drop, List.length_take]; rfl)) ?_; (with_reducible refine (beadrollref07_Right.calls kj5 (x7_2 ++ (⟨#[0]⟩ : ByteArray)) true _ A19.out).mono ?_); rintro e w21 ⟨rfl, hb⟩; refine ⟨_, rfl, ?_⟩; have n0_ := Aside0.mk (below_step (by repeat (first | (with_reducible first | exact HB.out | apply below_alloc | apply pw_below_drewN | apply below_drew1) | exact HB.out)) hb); clear HB; have HB := n0_; clear n0_; (try clear hb); (try clear hb2); (try clear hk); (try clear hi)))
                              go_ret3
                              exact ⟨by first | rfl | (simp [errW_none, errW_some] <;> rfl) | (simp [*, errW_none, errW_some] <;> rfl), by repeat (first | (with_reducible first | exact HB.out | apply below_alloc | apply pw_below_drewN | apply below_drew1) | exact HB.out)⟩
                            · replace c20 := Bool.eq_false_iff.mpr c20
                              subst c20
                              have H1 : (some ((⟨#[]⟩ : ByteArray), 0, 2)) = some (r1, r2, r3) := by rw [if_neg (show ¬ (false = true) by decide)] at H; exact H
                              clear H
                              have H := H1
                              clear H1
                              simp only [Option.some.injEq, Prod.mk.injEq] at H
                              obtain ⟨rfl, rfl, rfl⟩ := H
                              have p11 : 0 ≤ (x1_2 : Int) := of_decide_eq_true (by first | (with_reducible assumption) | assumption)
                              have q11 : x1_2 < (a0.size : Int) := of_decide_eq_true (by first | (with_reducible assumption) | assumption)
                              have hx11 := bt_at a0 x1_2
                              replace p11 := eq_true p11
                              replace q11 := eq_true q11
                              go_wp2_with (first | ((with_reducible refine gate_callee (f := 13) rfl ?_); refine goesL_ (some 43) rfl rfl Try.func13 (by kernel_rfl) rfl #[.string (x7_2 ++ (⟨#[0]⟩ : ByteArray))] rfl (by (try simp only [List.map_toArray, List.map_cons, List.map_nil]); first | done | rfl | (simp only [List.length_drop, List.length_take]; rfl)) ?_; (with_reducible refine (beadrollref07_Right.calls kj5 (x7_2 ++ (⟨#[0]⟩ : ByteArray)) false _ A19.out).mono ?_); rintro e w22 ⟨rfl, hb⟩; refine ⟨_, rfl, ?_⟩; have n0_ := Aside0.mk (below_step (by repeat (first | (with_reducible first | exact HB.out | apply below_alloc | apply pw_below_drewN | apply below_drew1) | exact HB.out)) hb); clear HB; have HB := n0_; clear n0_; (try clear hb); (try clear hb2); (try clear hk); (try clear hi)))
                              go_ret3
                              exact ⟨by first | rfl | (simp [errW_none, errW_some] <;> rfl) | (simp [*, errW_none, errW_some] <;> rfl), by repeat (first | (with_reducible first | exact HB.out | apply below_alloc | apply pw_below_drewN | apply below_drew1) | exact HB.out)⟩
                        · rw [if_neg c13] at H
                          exact absurd H (by simp)
                      · rw [if_neg c12] at H
                        have c12b0 : ((wrap64 (bt a0 x1_2)) == 0) = false := beq_eq_false_iff_ne.mpr c12
                        have c12b1 : ((wrap64 (bt a0 x1_2)) != 0) = true := bne_iff_ne.mpr c12
                        by_cases c23 : (wrap64 (bt a0 x1_2)) ≥ 192
                        · rw [if_pos c23] at H
                          have c23b0 : decide (192 ≤ (wrap64 (bt a0 x1_2))) = true := decide_eq_true c23
                          clear c23
                          by_cases c24 : (wrap64 (x1_2 + 1)) ≥ (a0.size : Int)
                          · rw [if_pos c24] at H
                            have c24b0 : decide ((a0.size : Int) ≤ (wrap64 (x1_2 + 1))) = true := decide_eq_true c24
                            clear c24
                            simp only [Option.some.injEq, Prod.mk.injEq] at H
                            obtain ⟨rfl, rfl, rfl⟩ := H
                            have p11 : 0 ≤ (x1_2 : Int) := of_decide_eq_true (by first | (with_reducible assumption) | assumption)
                            have q11 : x1_2 < (a0.size : Int) := of_decide_eq_true (by first | (with_reducible assumption) | assumption)
                            have hx11 := bt_at a0 x1_2
                            replace p11 := eq_true p11
                            replace q11 := eq_true q11
                            go_wp2
                            go_ret3
                            exact ⟨by first | rfl | (simp [errW_none, errW_some] <;> rfl) | (simp [*, errW_none, errW_some] <;> rfl), by repeat (first | (with_reducible first | exact HB.out | apply below_alloc | apply pw_below_drewN | apply below_drew1) | exact HB.out)⟩
                          · rw [if_neg c24] at H
                            have c24b0 : decide ((a0.size : Int) ≤ (wrap64 (x1_2 + 1))) = false := decide_eq_false c24
                            clear c24
                            obtain ⟨ji25, hji25⟩ : ∃ j_ : Int, (wrap64 (x1_2 + 1)) = j_ := ⟨_, rfl⟩
                            replace H : (if 0 ≤ (ji25) then (if (ji25) < (a0.size : Int) then (if (wrap64 ((wrap64 ((wrap64 ((wrap64 (bt a0 x1_2)) - 192)) * 256)) + (wrap64 (bt a0 (ji25))))) ≥ x9_2 then (some ((⟨#[]⟩ : ByteArray), 0, 2)) else (if x8_2 < 0 then (beadrollref09_Read.l0 kj5 a0 (wrap64 ((wrap64 ((wrap64 ((wrap64 (bt a0 x1_2)) - 192)) * 256)) + (wrap64 (bt a0 (ji25))))) x7_2 (wrap64 (x1_2 + 2)) (wrap64 ((wrap64 ((wrap64 ((wrap64 (bt a0 x1_2)) - 192)) * 256)) + (wrap64 (bt a0 (ji25)))))) else (beadrollref09_Read.l0 kj5 a0 (wrap64 ((wrap64 ((wrap64 ((wrap64 (bt a0 x1_2)) - 192)) * 256)) + (wrap64 (bt a0 (ji25))))) x7_2 x8_2 (wrap64 ((wrap64 ((wrap64 ((wrap64 (bt a0 x1_2)) - 192)) * 256)) + (wrap64 (bt a0 (ji25)))))))) else (none)) else (none)) = some (r1, r2, r3) := by first | (rw [hji25] at H; exact H) | (simp only [hji25] at H ⊢; exact H)
                            (try rw [hji25] at c24b0)
                            have hji25w : (IntKind.i64.wrap (x1_2 + 1)) = ji25 := (i64_w _).trans hji25
                            by_cases c26 : 0 ≤ (ji25)
                            · rw [if_pos c26] at H
                              have c26b0 : decide (0 ≤ (ji25)) = true := decide_eq_true c26
                              clear c26
                              by_cases c27 : (ji25) < (a0.size : Int)
                              · rw [if_pos c27] at H
                                have c27b0 : decide ((ji25) < (a0.size : Int)) = true := decide_eq_true c27
                                clear c27
                                by_cases c29 : (wrap64 ((wrap64 ((wrap64 ((wrap64 (bt a0 x1_2)) - 192)) * 256)) + (wrap64 (bt a0 (ji25))))) ≥ x9_2
                                · rw [if_pos c29] at H
                                  have c29b0 : decide (x9_2 ≤ (wrap64 ((wrap64 ((wrap64 ((wrap64 (bt a0 x1_2)) - 192)) * 256)) + (wrap64 (bt a0 (ji25)))))) = true := decide_eq_true c29
                                  clear c29
                                  simp only [Option.some.injEq, Prod.mk.injEq] at H
                                  obtain ⟨rfl, rfl, rfl⟩ := H
                                  have p11 : 0 ≤ (x1_2 : Int) := of_decide_eq_true (by first | (with_reducible assumption) | assumption)
                                  have q11 : x1_2 < (a0.size : Int) := of_decide_eq_true (by first | (with_reducible assumption) | assumption)
                                  have hx11 := bt_at a0 x1_2
                                  replace p11 := eq_true p11
                                  replace q11 := eq_true q11
                                  have p28 : 0 ≤ ((ji25) : Int) := of_decide_eq_true (by first | (with_reducible assumption) | assumption)
                                  have q28 : (ji25) < (a0.size : Int) := of_decide_eq_true (by first | (with_reducible assumption) | assumption)
                                  have hx28 := bt_at a0 (ji25)
                                  replace p28 := eq_true p28
                                  replace q28 := eq_true q28
                                  go_wp2
                                  go_ret3
                                  exact ⟨by first | rfl | (simp [errW_none, errW_some] <;> rfl) | (simp only [← hji25]; first | rfl | (simp [errW_none, errW_some] <;> rfl)) | (simp [*, errW_none, errW_some] <;> rfl), by repeat (first | (with_reducible first | exact HB.out | apply below_alloc | apply pw_below_drewN | apply below_drew1) | exact HB.out)⟩
                                · rw [if_neg c29] at H
                                  have c29b0 : decide (x9_2 ≤ (wrap64 ((wrap64 ((wrap64 ((wrap64 (bt a0 x1_2)) - 192)) * 256)) + (wrap64 (bt a0 (ji25)))))) = false := decide_eq_false c29
                                  clear c29
                                  by_cases c30 : x8_2 < 0
                                  · rw [if_pos c30] at H
                                    have c30b0 : decide (x8_2 < 0) = true := decide_eq_true c30
                                    clear c30
                                    have H' := Aside0.mk H
                                    clear H
                                    have p11 : 0 ≤ (x1_2 : Int) := of_decide_eq_true (by first | (with_reducible assumption) | assumption)
                                    have q11 : x1_2 < (a0.size : Int) := of_decide_eq_true (by first | (with_reducible assumption) | assumption)
                                    have hx11 := bt_at a0 x1_2
                                    replace p11 := eq_true p11
                                    replace q11 := eq_true q11
                                    have p28 : 0 ≤ ((ji25) : Int) := of_decide_eq_true (by first | (with_reducible assumption) | assumption)
                                    have q28 : (ji25) < (a0.size : Int) := of_decide_eq_true (by first | (with_reducible assumption) | assumption)
                                    have hx28 := bt_at a0 (ji25)
                                    replace p28 := eq_true p28
                                    replace q28 := eq_true q28
                                    go_wp2
                                    go_roundg kj5
                                    case measure => have := HJ2.out; have := HK2.out; have := HJ5.out; omega
                                    case rel => exact ⟨(wrap64 ((wrap64 ((wrap64 ((wrap64 (bt a0 x1_2)) - 192)) * 256)) + (wrap64 (bt a0 (ji25))))), (x7_2), (wrap64 (x1_2 + 2)), (wrap64 ((wrap64 ((wrap64 ((wrap64 (bt a0 x1_2)) - 192)) * 256)) + (wrap64 (bt a0 (ji25))))), (by first | rfl | (simp; done) | (simp only [← hji25] <;> (first | rfl | simp)) | (simp [*]; done)), (by first | rfl | (simp; done) | (simp [*]; done)), (by first | rfl | (simp; done) | (simp [*]; done)), (by first | rfl | (simp; done) | (simp only [← hji25] <;> (first | rfl | simp)) | (simp [*]; done)), H', ⟨by have := HJ2.out; have := HK2.out; have := HJ5.out; omega⟩, ⟨by repeat (first | (with_reducible first | exact HB.out | apply below_alloc | apply pw_below_drewN | apply below_drew1) | exact HB.out)⟩⟩
                                  · rw [if_neg c30] at H
                                    have c30b0 : decide (x8_2 < 0) = false := decide_eq_false c30
                                    clear c30
                                    have H' := Aside0.mk H
                                    clear H
                                    have p11 : 0 ≤ (x1_2 : Int) := of_decide_eq_true (by first | (with_reducible assumption) | assumption)
                                    have q11 : x1_2 < (a0.size : Int) := of_decide_eq_true (by first | (with_reducible assumption) | assumption)
                                    have hx11 := bt_at a0 x1_2
                                    replace p11 := eq_true p11
                                    replace q11 := eq_true q11
                                    have p28 : 0 ≤ ((ji25) : Int) := of_decide_eq_true (by first | (with_reducible assumption) | assumption)
                                    have q28 : (ji25) < (a0.size : Int) := of_decide_eq_true (by first | (with_reducible assumption) | assumption)
                                    have hx28 := bt_at a0 (ji25)
                                    replace p28 := eq_true p28
                                    replace q28 := eq_true q28
                                    go_wp2
                                    go_roundg kj5
                                    case measure => have := HJ2.out; have := HK2.out; have := HJ5.out; omega
                                    case rel => exact ⟨(wrap64 ((wrap64 ((wrap64 ((wrap64 (bt a0 x1_2)) - 192)) * 256)) + (wrap64 (bt a0 (ji25))))), (x7_2), (x8_2), (wrap64 ((wrap64 ((wrap64 ((wrap64 (bt a0 x1_2)) - 192)) * 256)) + (wrap64 (bt a0 (ji25))))), (by first | rfl | (simp; done) | (simp only [← hji25] <;> (first | rfl | simp)) | (simp [*]; done)), (by first | rfl | (simp; done) | (simp [*]; done)), (by first | rfl | (simp; done) | (simp [*]; done)), (by first | rfl | (simp; done) | (simp only [← hji25] <;> (first | rfl | simp)) | (simp [*]; done)), H', ⟨by have := HJ2.out; have := HK2.out; have := HJ5.out; omega⟩, ⟨by repeat (first | (with_reducible first | exact HB.out | apply below_alloc | apply pw_below_drewN | apply below_drew1) | exact HB.out)⟩⟩
                              · rw [if_neg c27] at H
                                exact absurd H (by simp)
                            · rw [if_neg c26] at H
                              exact absurd H (by simp)
                        · rw [if_neg c23] at H
                          have c23b0 : decide (192 ≤ (wrap64 (bt a0 x1_2))) = false := decide_eq_false c23
                          clear c23
                          by_cases c31 : (wrap64 (bt a0 x1_2)) ≥ 64
                          · rw [if_pos c31] at H
                            have c31b0 : decide (64 ≤ (wrap64 (bt a0 x1_2))) = true := decide_eq_true c31
                            clear c31
                            simp only [Option.some.injEq, Prod.mk.injEq] at H
                            obtain ⟨rfl, rfl, rfl⟩ := H
                            have p11 : 0 ≤ (x1_2 : Int) := of_decide_eq_true (by first | (with_reducible assumption) | assumption)
                            have q11 : x1_2 < (a0.size : Int) := of_decide_eq_true (by first | (with_reducible assumption) | assumption)
                            have hx11 := bt_at a0 x1_2
                            replace p11 := eq_true p11
                            replace q11 := eq_true q11
                            go_wp2
                            go_ret3
                            exact ⟨by first | rfl | (simp [errW_none, errW_some] <;> rfl) | (simp [*, errW_none, errW_some] <;> rfl), by repeat (first | (with_reducible first | exact HB.out | apply below_alloc | apply pw_below_drewN | apply below_drew1) | exact HB.out)⟩
                          · rw [if_neg c31] at H
                            have c31b0 : decide (64 ≤ (wrap64 (bt a0 x1_2))) = false := decide_eq_false c31
                            clear c31
                            by_cases c32 : (wrap64 ((wrap64 (x1_2 + 1)) + (wrap64 (bt a0 x1_2)))) > (a0.size : Int)
                            · rw [if_pos c32] at H
                              have c32b0 : decide ((a0.size : Int) < (wrap64 ((wrap64 (x1_2 + 1)) + (wrap64 (bt a0 x1_2))))) = true := decide_eq_true c32
                              clear c32
                              simp only [Option.some.injEq, Prod.mk.injEq] at H
                              obtain ⟨rfl, rfl, rfl⟩ := H
                              have p11 : 0 ≤ (x1_2 : Int) := of_decide_eq_true (by first | (with_reducible assumption) | assumption)
                              have q11 : x1_2 < (a0.size : Int) := of_decide_eq_true (by first | (with_reducible assumption) | assumption)
                              have hx11 := bt_at a0 x1_2
                              replace p11 := eq_true p11
                              replace q11 := eq_true q11
                              go_wp2
                              go_ret3
                              exact ⟨by first | rfl | (simp [errW_none, errW_some] <;> rfl) | (simp [*, errW_none, errW_some] <;> rfl), by repeat (first | (with_reducible first | exact HB.out | apply below_alloc | apply pw_below_drewN | apply below_drew1) | exact HB.out)⟩
                            · rw [if_neg c32] at H
                              have c32b0 : decide ((a0.size : Int) < (wrap64 ((wrap64 (x1_2 + 1)) + (wrap64 (bt a0 x1_2))))) = false := decide_eq_false c32
                              clear c32
                              have c33b0 := eq_true (of_decide_eq_true (by first | (with_reducible assumption) | assumption) : 0 ≤ x1_2)
                              by_cases c34 : x1_2 ≤ (wrap64 ((wrap64 (x1_2 + 1)) + (wrap64 (bt a0 x1_2))))
                              · rw [if_pos c34] at H
                                have c34b0 := eq_true c34
                                have c34b1 : decide (x1_2 ≤ (wrap64 ((wrap64 (x1_2 + 1)) + (wrap64 (bt a0 x1_2))))) = true := decide_eq_true c34
                                by_cases c35 : (wrap64 ((wrap64 (x1_2 + 1)) + (wrap64 (bt a0 x1_2)))) ≤ (a0.size : Int)
                                · rw [if_pos c35] at H
                                  have c35b0 := eq_true c35
                                  have c35b1 : decide ((wrap64 ((wrap64 (x1_2 + 1)) + (wrap64 (bt a0 x1_2)))) ≤ (a0.size : Int)) = true := decide_eq_true c35
                                  by_cases c36 : x7_2.size + (a0.extract (x1_2 : Int).toNat ((wrap64 ((wrap64 (x1_2 + 1)) + (wrap64 (bt a0 x1_2)))) : Int).toNat).size ≤ 9223372036854775807
                                  · rw [if_pos c36] at H
                                    have c36b0 := eq_true c36
                                    have c36b1 : decide (x7_2.size + (a0.extract (x1_2 : Int).toNat ((wrap64 ((wrap64 (x1_2 + 1)) + (wrap64 (bt a0 x1_2)))) : Int).toNat).size ≤ 9223372036854775807) = true := decide_eq_true c36
                                    try have c36b2 : (9223372036854775807 < x7_2.size + (a0.extract (x1_2 : Int).toNat ((wrap64 ((wrap64 (x1_2 + 1)) + (wrap64 (bt a0 x1_2)))) : Int).toNat).size) = False := eq_false (Nat.not_lt.2 c36)
                                    have H' := Aside0.mk H
                                    clear H
                                    have p11 : 0 ≤ (x1_2 : Int) := of_decide_eq_true (by first | (with_reducible assumption) | assumption)
                                    have q11 : x1_2 < (a0.size : Int) := of_decide_eq_true (by first | (with_reducible assumption) | assumption)
                                    have hx11 := bt_at a0 x1_2
                                    replace p11 := eq_true p11
                                    replace q11 := eq_true q11
                                    go_wp2
                                    go_roundg kj5
                                    case measure => have := HJ2.out; have := HK2.out; have := HJ5.out; omega
                                    case rel => exact ⟨(wrap64 (x1_2 + (wrap64 (1 + (wrap64 (bt a0 x1_2)))))), (x7_2 ++ (a0.extract (x1_2 : Int).toNat ((wrap64 ((wrap64 (x1_2 + 1)) + (wrap64 (bt a0 x1_2)))) : Int).toNat)), (x8_2), (x9_2), (by first | rfl | (simp; done) | (simp [*]; done)), (by first | rfl | (simp; done) | (simp [*]; done)), (by first | rfl | (simp; done) | (simp [*]; done)), (by first | rfl | (simp; done) | (simp [*]; done)), H', ⟨by have := HJ2.out; have := HK2.out; have := HJ5.out; omega⟩, ⟨by repeat (first | (with_reducible first | exact HB.out | apply below_alloc | apply pw_below_drewN | apply below_drew1) | exact HB.out)⟩⟩
                                  · rw [if_neg c36] at H
                                    exact absurd H (by simp)
                                · rw [if_neg c35] at H
                                  exact absurd H (by simp)
                              · rw [if_neg c34] at H
                                exact absurd H (by simp)
                    · rw [if_neg c10] at H
                      exact absurd H (by simp)
                  · rw [if_neg c9] at H
                    exact absurd H (by simp)
                · replace c8 := Bool.eq_false_iff.mpr c8
                  subst c8
                  have H1 : (some ((⟨#[]⟩ : ByteArray), 0, 2)) = some (r1, r2, r3) := by rw [if_neg (show ¬ (false = true) by decide)] at H; exact H
                  clear H
                  have H := H1
                  clear H1
                  simp only [Option.some.injEq, Prod.mk.injEq] at H
                  obtain ⟨rfl, rfl, rfl⟩ := H
                  go_wp2
                  go_ret3
                  exact ⟨by first | rfl | (simp [errW_none, errW_some] <;> rfl) | (simp [*, errW_none, errW_some] <;> rfl), by repeat (first | (with_reducible first | exact HB.out | apply below_alloc | apply pw_below_drewN | apply below_drew1) | exact HB.out)⟩

end Go.Proofs.Ytekbecpcbfhdmaa.PPak
-- Written by this session's program gprint.py out of the translation; Lean checks it.
namespace Go.Proofs.Ytekbecpcbfhdmaa.PPak
open Go.RowKit Go.Proofs.YtekbecpcbfhdmaaW.PrintWords Go.Proofs.YtekbecpcbfhdmaaW.PrintLast Go.Proofs.YtekbecpcbfhdmaaW.PrintMore Go.Proofs.Ytekbecpcbfhdmaa.Given
attribute [local go_sem] max2_int min2_int max_two min_two max_three min_three max_four min_four   -- for this text's walks alone
set_option linter.unusedVariables false
set_option linter.unusedSimpArgs false

/-! ### beadrolllaw09_PackReads: function 5 -/
def beadrolllaw09_PackReads.j0 : Nat → ByteArray → Int → Bool → Option (Bool)
  | 0, _, _, _ => none
  | k + 1, x0, x1, x17 => if x17 = true then ((beadrolllaw09_awake.f).bind fun t131 => (some t131)) else ((pack_Read.f k x0 x1).bind fun bt132 => ((beadrollref09_Read.f k x0 x1).bind fun bt135 => (if bt132.1.toList = bt135.1.toList then (if bt132.2.1 = bt135.2.1 then (some (bt132.2.2 == bt135.2.2)) else (some false)) else (some false))))
def beadrolllaw09_PackReads.f (k : Nat) (a0 : ByteArray) (a1 : Int) : Option (Bool) := (beadrolllaw09_awake.f).bind fun t130 => (if t130 = true then (beadrolllaw09_PackReads.j0 k a0 a1 (decide ((a0.size : Int) > 2000))) else (beadrolllaw09_PackReads.j0 k a0 a1 true))
theorem beadrolllaw09_PackReads.mono_l : ∀ k, (∀ y0 y1 y2, LeO (beadrolllaw09_PackReads.j0 k y0 y1 y2) (beadrolllaw09_PackReads.j0 (k + 1) y0 y1 y2))
  | 0 => fun _ _ _ r h => by simp [beadrolllaw09_PackReads.j0] at h
  | k + 1 => by
    have ih0 := beadrolllaw09_PackReads.mono_l k
    · intro y0 y1 y2
      unfold beadrolllaw09_PackReads.j0
      repeat' first
      | (with_reducible exact ih0 _ _ _)
      | (with_reducible exact beadrollref09_Read.mono _ _ _)
      | (with_reducible exact pack_Read.mono _ _ _)
      | (with_reducible exact LeO.refl _)
      | (with_reducible exact LeO.none _)
      | (with_reducible refine LeO.ite ?_ ?_)
      | (with_reducible refine LeO.bind ?_ (fun _ => ?_))
      | exact ih0 _ _ _
      | exact beadrollref09_Read.mono _ _ _
      | exact pack_Read.mono _ _ _
      | exact LeO.none _
      | refine LeO.ite ?_ ?_
      | refine LeO.bind ?_ (fun _ => ?_)
theorem beadrolllaw09_PackReads.mono : ∀ a0 a1 k, LeO (beadrolllaw09_PackReads.f k a0 a1) (beadrolllaw09_PackReads.f (k + 1) a0 a1) := by
  intro a0 a1 k
  have ih0 := beadrolllaw09_PackReads.mono_l k
  unfold beadrolllaw09_PackReads.f
  repeat' first
      | (with_reducible exact ih0 _ _ _)
      | (with_reducible exact beadrollref09_Read.mono _ _ _)
      | (with_reducible exact pack_Read.mono _ _ _)
      | (with_reducible exact LeO.refl _)
      | (with_reducible exact LeO.none _)
      | (with_reducible refine LeO.ite ?_ ?_)
      | (with_reducible refine LeO.bind ?_ (fun _ => ?_))
      | exact ih0 _ _ _
      | exact beadrollref09_Read.mono _ _ _
      | exact pack_Read.mono _ _ _
      | exact LeO.none _
      | refine LeO.ite ?_ ?_
      | refine LeO.bind ?_ (fun _ => ?_)
set_option maxHeartbeats 8000000 in
set_option maxRecDepth 100000 in
theorem beadrolllaw09_PackReads.calls (k : Nat) (a0 : ByteArray) (a1 : Int) (r : Bool) (w : World) (h : beadrolllaw09_PackReads.f k a0 a1 = some r) :
    Calls Try.prog 5 #[.string a0, .int .i64 a1] w fun e w' => e = .returned (.bool r) ∧ Below w.heap.size w w' := by
  have HB := Aside0.mk (Below.refl w.heap.size w)
  have H : ((beadrolllaw09_awake.f).bind fun t130 => (if t130 = true then (beadrolllaw09_PackReads.j0 k a0 a1 (decide ((a0.size : Int) > 2000))) else (beadrolllaw09_PackReads.j0 k a0 a1 true))) = some r := h
  clear h
  have HC3 := Aside0.mk H
  clear H
  go_enter Try.func5, Try.ntmps5
  go_upto_region 1 with (fail)
  go_cut [17] (fun v17 wc => ∃ (kq : Nat) (x17_2 : Bool), v17 = .bool x17_2 ∧ Aside0 (beadrolllaw09_PackReads.j0 kq a0 a1 x17_2 = some r) ∧ Aside0 (kq ≤ k) ∧ Aside0 (Below w.heap.size w wc))
  case first =>
    have H := HC3.out
    clear HC3
    replace H := Option.bind_eq_some_iff.mp H
    obtain ⟨t130, A40, H⟩ := H
    replace H : (if t130 = true then (beadrolllaw09_PackReads.j0 k a0 a1 (decide ((a0.size : Int) > 2000))) else (beadrolllaw09_PackReads.j0 k a0 a1 true)) = some r := H
    have A4 := Aside0.mk A40
    clear A40
    by_cases c5 : t130 = true
    · subst c5
      have H1 : (beadrolllaw09_PackReads.j0 k a0 a1 (decide ((a0.size : Int) > 2000))) = some r := by rw [if_pos rfl] at H; exact H
      clear H
      have H := H1
      clear H1
      have H' := Aside0.mk H
      clear H
      go_wp2_with (first | ((with_reducible refine gate_callee (f := 8) rfl ?_); refine goesL_ (some 11) rfl rfl Try.func8 (by kernel_rfl) rfl #[] rfl (by (try simp only [List.map_toArray, List.map_cons, List.map_nil]); first | done | rfl | (simp only [List.length_drop, List.length_take]; rfl)) ?_; (with_reducible refine (beadrolllaw09_awake.calls  true _ A4.out).mono ?_); rintro e w6 ⟨rfl, hb⟩; refine ⟨_, rfl, ?_⟩; have n0_ := Aside0.mk (below_step (by repeat (first | (with_reducible first | exact HB.out | apply below_alloc | apply pw_below_drewN | apply below_drew1) | exact HB.out)) hb); clear HB; have HB := n0_; clear n0_; (try clear hb); (try clear hb2); (try clear hk); (try clear hi)))
      go_meet
      case rel => exact ⟨_, (decide ((a0.size : Int) > 2000)), (by first | rfl | (simp; done) | (simp [*]; done)), H', ⟨by first | omega | exact Nat.le_refl _⟩, ⟨by repeat (first | (with_reducible first | exact HB.out | apply below_alloc | apply pw_below_drewN | apply below_drew1) | exact HB.out)⟩⟩
    · replace c5 := Bool.eq_false_iff.mpr c5
      subst c5
      have H1 : (beadrolllaw09_PackReads.j0 k a0 a1 true) = some r := by rw [if_neg (show ¬ (false = true) by decide)] at H; exact H
      clear H
      have H := H1
      clear H1
      have H' := Aside0.mk H
      clear H
      go_wp2_with (first | ((with_reducible refine gate_callee (f := 8) rfl ?_); refine goesL_ (some 11) rfl rfl Try.func8 (by kernel_rfl) rfl #[] rfl (by (try simp only [List.map_toArray, List.map_cons, List.map_nil]); first | done | rfl | (simp only [List.length_drop, List.length_take]; rfl)) ?_; (with_reducible refine (beadrolllaw09_awake.calls  false _ A4.out).mono ?_); rintro e w7 ⟨rfl, hb⟩; refine ⟨_, rfl, ?_⟩; have n0_ := Aside0.mk (below_step (by repeat (first | (with_reducible first | exact HB.out | apply below_alloc | apply pw_below_drewN | apply below_drew1) | exact HB.out)) hb); clear HB; have HB := n0_; clear n0_; (try clear hb); (try clear hb2); (try clear hk); (try clear hi)))
      go_meet
      case rel => exact ⟨_, (true), (by first | rfl | (simp; done) | (simp [*]; done)), H', ⟨by first | omega | exact Nat.le_refl _⟩, ⟨by repeat (first | (with_reducible first | exact HB.out | apply below_alloc | apply pw_below_drewN | apply below_drew1) | exact HB.out)⟩⟩
  case rest =>
    clear HC3
    try clear p2
    try clear c5
    obtain ⟨kq, x17_2, rfl, HA, HJ2, HB⟩ := hcut
    cases kq with
    | zero => exact absurd HA.out (by simp [beadrolllaw09_PackReads.j0])
    | succ kj2 =>
      have H := HA.out
      clear HA
      simp only [beadrolllaw09_PackReads.j0] at H
      by_cases c8 : x17_2 = true
      · subst c8
        have H1 : ((beadrolllaw09_awake.f).bind fun t131 => (some t131)) = some r := by rw [if_pos rfl] at H; exact H
        clear H
        have H := H1
        clear H1
        replace H := Option.bind_eq_some_iff.mp H
        obtain ⟨t131, A90, H⟩ := H
        replace H : (some t131) = some r := H
        have A9 := Aside0.mk A90
        clear A90
        obtain rfl := Option.some.inj H
        go_wp2_with (first | ((with_reducible refine gate_callee (f := 8) rfl ?_); refine goesL_ (some 18) rfl rfl Try.func8 (by kernel_rfl) rfl #[] rfl (by (try simp only [List.map_toArray, List.map_cons, List.map_nil]); first | done | rfl | (simp only [List.length_drop, List.length_take]; rfl)) ?_; (with_reducible refine (beadrolllaw09_awake.calls  t131 _ A9.out).mono ?_); rintro e w10 ⟨rfl, hb⟩; refine ⟨_, rfl, ?_⟩; have n0_ := Aside0.mk (below_step (by repeat (first | (with_reducible first | exact HB.out | apply below_alloc | apply pw_below_drewN | apply below_drew1) | exact HB.out)) hb); clear HB; have HB := n0_; clear n0_; (try clear hb); (try clear hb2); (try clear hk); (try clear hi)))
        go_ret
        exact ⟨by first | rfl | (simp [errW_none, errW_some] <;> rfl) | (simp [*, errW_none, errW_some] <;> rfl), by repeat (first | (with_reducible first | exact HB.out | apply below_alloc | apply pw_below_drewN | apply below_drew1) | exact HB.out)⟩
      · replace c8 := Bool.eq_false_iff.mpr c8
        subst c8
        have H1 : ((pack_Read.f kj2 a0 a1).bind fun bt132 => ((beadrollref09_Read.f kj2 a0 a1).bind fun bt135 => (if bt132.1.toList = bt135.1.toList then (if bt132.2.1 = bt135.2.1 then (some (bt132.2.2 == bt135.2.2)) else (some false)) else (some false)))) = some r := by rw [if_neg (show ¬ (false = true) by decide)] at H; exact H
        clear H
        have H := H1
        clear H1
        replace H := Option.bind_eq_some_iff.mp H
        obtain ⟨⟨t132, t133, t134⟩, A110, H⟩ := H
        replace H : ((beadrollref09_Read.f kj2 a0 a1).bind fun bt135 => (if t132.toList = bt135.1.toList then (if t133 = bt135.2.1 then (some (t134 == bt135.2.2)) else (some false)) else (some false))) = some r := H
        have A11 := Aside0.mk A110
        clear A110
        replace H := Option.bind_eq_some_iff.mp H
        obtain ⟨⟨t135, t136, t137⟩, A120, H⟩ := H
        replace H : (if t132.toList = t135.toList then (if t133 = t136 then (some (t134 == t137)) else (some false)) else (some false)) = some r := H
        have A12 := Aside0.mk A120
        clear A120
        by_cases c13 : t132.toList = t135.toList
        · rw [if_pos c13] at H
          have c13b0 : (t132.toList == t135.toList) = true := beq_iff_eq.mpr c13
          have c13b1 : (t132.toList != t135.toList) = false := bne_eq_false_iff_eq.mpr c13
          clear c13
          by_cases c14 : t133 = t136
          · rw [if_pos c14] at H
            have c14b0 : (t133 == t136) = true := beq_iff_eq.mpr c14
            have c14b1 : (t133 != t136) = false := bne_eq_false_iff_eq.mpr c14
            clear c14
            obtain rfl := Option.some.inj H
            go_wp2_with (first | ((with_reducible refine gate_callee (f := 17) rfl ?_); refine goesL_ (some 22) rfl rfl Try.func17 (by kernel_rfl) rfl #[.string a0, .int .i64 a1] rfl (by (try simp only [List.map_toArray, List.map_cons, List.map_nil]); first | done | rfl | (simp only [List.length_drop, List.length_take]; rfl)) ?_; (with_reducible refine (pack_Read.calls kj2 a0 a1 t132 t133 t134 _ A11.out).mono ?_); rintro e w15 ⟨rfl, hb⟩; refine ⟨_, rfl, ?_⟩; have n0_ := Aside0.mk (below_step (by repeat (first | (with_reducible first | exact HB.out | apply below_alloc | apply pw_below_drewN | apply below_drew1) | exact HB.out)) hb); clear HB; have HB := n0_; clear n0_; (try clear hb); (try clear hb2); (try clear hk); (try clear hi)) | ((with_reducible refine gate_callee (f := 18) rfl ?_); refine goesL_ (some 29) rfl rfl Try.func18 (by kernel_rfl) rfl #[.string a0, .int .i64 a1] rfl (by (try simp only [List.map_toArray, List.map_cons, List.map_nil]); first | done | rfl | (simp only [List.length_drop, List.length_take]; rfl)) ?_; (with_reducible refine (beadrollref09_Read.calls kj2 a0 a1 t135 t136 t137 _ A12.out).mono ?_); rintro e w16 ⟨rfl, hb⟩; refine ⟨_, rfl, ?_⟩; have n0_ := Aside0.mk (below_step (by repeat (first | (with_reducible first | exact HB.out | apply below_alloc | apply pw_below_drewN | apply below_drew1) | exact HB.out)) hb); clear HB; have HB := n0_; clear n0_; (try clear hb); (try clear hb2); (try clear hk); (try clear hi)))
            go_ret
            exact ⟨by first | rfl | (simp [errW_none, errW_some] <;> rfl) | (simp [*, errW_none, errW_some] <;> rfl), by repeat (first | (with_reducible first | exact HB.out | apply below_alloc | apply pw_below_drewN | apply below_drew1) | exact HB.out)⟩
          · rw [if_neg c14] at H
            have c14b0 : (t133 == t136) = false := beq_eq_false_iff_ne.mpr c14
            have c14b1 : (t133 != t136) = true := bne_iff_ne.mpr c14
            obtain rfl := Option.some.inj H
            go_wp2_with (first | ((with_reducible refine gate_callee (f := 17) rfl ?_); refine goesL_ (some 22) rfl rfl Try.func17 (by kernel_rfl) rfl #[.string a0, .int .i64 a1] rfl (by (try simp only [List.map_toArray, List.map_cons, List.map_nil]); first | done | rfl | (simp only [List.length_drop, List.length_take]; rfl)) ?_; (with_reducible refine (pack_Read.calls kj2 a0 a1 t132 t133 t134 _ A11.out).mono ?_); rintro e w17 ⟨rfl, hb⟩; refine ⟨_, rfl, ?_⟩; have n0_ := Aside0.mk (below_step (by repeat (first | (with_reducible first | exact HB.out | apply below_alloc | apply pw_below_drewN | apply below_drew1) | exact HB.out)) hb); clear HB; have HB := n0_; clear n0_; (try clear hb); (try clear hb2); (try clear hk); (try clear hi)) | ((with_reducible refine gate_callee (f := 18) rfl ?_); refine goesL_ (some 29) rfl rfl Try.func18 (by kernel_rfl) rfl #[.string a0, .int .i64 a1] rfl (by (try simp only [List.map_toArray, List.map_cons, List.map_nil]); first | done | rfl | (simp only [List.length_drop, List.length_take]; rfl)) ?_; (with_reducible refine (beadrollref09_Read.calls kj2 a0 a1 t135 t136 t137 _ A12.out).mono ?_); rintro e w18 ⟨rfl, hb⟩; refine ⟨_, rfl, ?_⟩; have n0_ := Aside0.mk (below_step (by repeat (first | (with_reducible first | exact HB.out | apply below_alloc | apply pw_below_drewN | apply below_drew1) | exact HB.out)) hb); clear HB; have HB := n0_; clear n0_; (try clear hb); (try clear hb2); (try clear hk); (try clear hi)))
            go_ret
            exact ⟨by first | rfl | (simp [errW_none, errW_some] <;> rfl) | (simp [*, errW_none, errW_some] <;> rfl), by repeat (first | (with_reducible first | exact HB.out | apply below_alloc | apply pw_below_drewN | apply below_drew1) | exact HB.out)⟩
        · rw [if_neg c13] at H
          have c13b0 : (t132.toList == t135.toList) = false := beq_eq_false_iff_ne.mpr c13
          have c13b1 : (t132.toList != t135.toList) = true := bne_iff_ne.mpr c13
          obtain rfl := Option.some.inj H
          go_wp2_with (first | ((with_reducible refine gate_callee (f := 17) rfl ?_); refine goesL_ (some 22) rfl rfl Try.func17 (by kernel_rfl) rfl #[.string a0, .int .i64 a1] rfl (by (try simp only [List.map_toArray, List.map_cons, List.map_nil]); first | done | rfl | (simp only [List.length_drop, List.length_take]; rfl)) ?_; (with_reducible refine (pack_Read.calls kj2 a0 a1 t132 t133 t134 _ A11.out).mono ?_); rintro e w19 ⟨rfl, hb⟩; refine ⟨_, rfl, ?_⟩; have n0_ := Aside0.mk (below_step (by repeat (first | (with_reducible first | exact HB.out | apply below_alloc | apply pw_below_drewN | apply below_drew1) | exact HB.out)) hb); clear HB; have HB := n0_; clear n0_; (try clear hb); (try clear hb2); (try clear hk); (try clear hi)) | ((with_reducible refine gate_callee (f := 18) rfl ?_); refine goesL_ (some 29) rfl rfl Try.func18 (by kernel_rfl) rfl #[.string a0, .int .i64 a1] rfl (by (try simp only [List.map_toArray, List.map_cons, List.map_nil]); first | done | rfl | (simp only [List.length_drop, List.length_take]; rfl)) ?_; (with_reducible refine (beadrollref09_Read.calls kj2 a0 a1 t135 t136 t137 _ A12.out).mono ?_); rintro e w20 ⟨rfl, hb⟩; refine ⟨_, rfl, ?_⟩; have n0_ := Aside0.mk (below_step (by repeat (first | (with_reducible first | exact HB.out | apply below_alloc | apply pw_below_drewN | apply below_drew1) | exact HB.out)) hb); clear HB; have HB := n0_; clear n0_; (try clear hb); (try clear hb2); (try clear hk); (try clear hi)))
          go_ret
          exact ⟨by first | rfl | (simp [errW_none, errW_some] <;> rfl) | (simp [*, errW_none, errW_some] <;> rfl), by repeat (first | (with_reducible first | exact HB.out | apply below_alloc | apply pw_below_drewN | apply below_drew1) | exact HB.out)⟩

/-- THE ONE PURE STATEMENT of beadrolllaw09_PackReads: yours. -/
def beadrolllaw09_PackReads.Pure : Prop := ∀ (a0 : ByteArray) (a1 : Int), a0.size ≤ 140737488351232 → (Lit.int .i64 a1).wf = true → ∃ k, beadrolllaw09_PackReads.f k a0 a1 = some true
theorem beadrolllaw09_PackReads.walk (P : beadrolllaw09_PackReads.Pure) (a0 : ByteArray) (a1 : Int) (w : World) (w0 : a0.size ≤ 140737488351232) (w1 : (Lit.int .i64 a1).wf = true) :
    Calls Try.prog 5 #[.string a0, .int .i64 a1] w fun e w' => e = .returned (.bool true) ∧ Below w.heap.size w w' := by
  obtain ⟨k, h⟩ := P a0 a1 w0 w1
  refine (beadrolllaw09_PackReads.calls k a0 a1 true w h).mono ?_
  rintro e w' ⟨rfl, hd⟩
  exact ⟨rfl, hd⟩

/-! ### beadrolllaw09_few: function 9 -/
mutual
def beadrolllaw09_few.l0 : Nat → List (S31) → Int → Option (Bool)
  | 0, _, _ => none
  | k + 1, x0, x3 => if x3 < (x0.length : Int) then (beadrolllaw09_few.j1 k x0 x3 (decide (x3 < 50))) else (beadrolllaw09_few.j1 k x0 x3 false)
def beadrolllaw09_few.j1 : Nat → List (S31) → Int → Bool → Option (Bool)
  | 0, _, _, _ => none
  | k + 1, x0, x3, x11 => if x11 = true then (if 0 ≤ x3 then (if x3 < (x0.length : Int) then (if (((rd_T31 x0 x3).f1).size : Int) > 17000 then (some false) else (beadrolllaw09_few.l0 k x0 (wrap64 (x3 + 1)))) else (none)) else (none)) else (some (decide ((x0.length : Int) ≤ 40)))
end
def beadrolllaw09_few.f (k : Nat) (l0 : List (S31)) : Option (Bool) := beadrolllaw09_few.l0 k l0 0
theorem beadrolllaw09_few.mono_l : ∀ k, (∀ y0 y1, LeO (beadrolllaw09_few.l0 k y0 y1) (beadrolllaw09_few.l0 (k + 1) y0 y1)) ∧ (∀ y0 y1 y2, LeO (beadrolllaw09_few.j1 k y0 y1 y2) (beadrolllaw09_few.j1 (k + 1) y0 y1 y2))
  | 0 => ⟨fun _ _ r h => by simp [beadrolllaw09_few.l0] at h, fun _ _ _ r h => by simp [beadrolllaw09_few.j1] at h⟩
  | k + 1 => by
    obtain ⟨ih0, ih1⟩ := beadrolllaw09_few.mono_l k
    refine ⟨?_, ?_⟩
    · intro y0 y1
      unfold beadrolllaw09_few.l0
      repeat' first
      | (with_reducible exact ih0 _ _)
      | (with_reducible exact ih1 _ _ _)
      | (with_reducible exact LeO.refl _)
      | (with_reducible exact LeO.none _)
      | (with_reducible refine LeO.ite ?_ ?_)
      | (with_reducible refine LeO.bind ?_ (fun _ => ?_))
      | exact ih0 _ _
      | exact ih1 _ _ _
      | exact LeO.none _
      | refine LeO.ite ?_ ?_
      | refine LeO.bind ?_ (fun _ => ?_)
    · intro y0 y1 y2
      unfold beadrolllaw09_few.j1
      repeat' first
      | (with_reducible exact ih0 _ _)
      | (with_reducible exact ih1 _ _ _)
      | (with_reducible exact LeO.refl _)
      | (with_reducible exact LeO.none _)
      | (with_reducible refine LeO.ite ?_ ?_)
      | (with_reducible refine LeO.bind ?_ (fun _ => ?_))
      | exact ih0 _ _
      | exact ih1 _ _ _
      | exact LeO.none _
      | refine LeO.ite ?_ ?_
      | refine LeO.bind ?_ (fun _ => ?_)
theorem beadrolllaw09_few.mono : ∀ a0 k, LeO (beadrolllaw09_few.f k a0) (beadrolllaw09_few.f (k + 1) a0) := by
  intro a0 k
  obtain ⟨ih0, ih1⟩ := beadrolllaw09_few.mono_l k
  unfold beadrolllaw09_few.f
  repeat' first
      | (with_reducible exact ih0 _ _)
      | (with_reducible exact ih1 _ _ _)
      | (with_reducible exact LeO.refl _)
      | (with_reducible exact LeO.none _)
      | (with_reducible refine LeO.ite ?_ ?_)
      | (with_reducible refine LeO.bind ?_ (fun _ => ?_))
      | exact ih0 _ _
      | exact ih1 _ _ _
      | exact LeO.none _
      | refine LeO.ite ?_ ?_
      | refine LeO.bind ?_ (fun _ => ?_)
set_option maxHeartbeats 8000000 in
set_option maxRecDepth 100000 in
theorem beadrolllaw09_few.calls (k : Nat) (A0 : Option Addr) (c0 : Nat) (l0 : List (S31)) (r : Bool) (w : World) (hr0 : Kd.C k31 w A0 l0.length l0) (hc0 : l0.length ≤ c0) (h : beadrolllaw09_few.f k l0 = some r) :
    Calls Try.prog 9 #[.slice A0 l0.length c0] w fun e w' => e = .returned (.bool r) ∧ Drawn0 w w' := by
  have HR0 := Aside0.mk hr0
  have HC0 := Aside0.mk hc0
  clear hr0 hc0
  have H : (beadrolllaw09_few.l0 k l0 0) = some r := h
  clear h
  have H' := Aside0.mk H
  clear H
  go_enter Try.func9, Try.ntmps9
  go_wp2
  go_loopg [3] k (fun kq v3 w' => ∃ (x3_1 : Int), v3 = .int .i64 x3_1 ∧ Aside0 (beadrolllaw09_few.l0 kq l0 x3_1 = some r) ∧ Aside0 (kq ≤ k) ∧ Drawn0 w w')
  case atStart => exact ⟨(0), (by first | rfl | (simp; done) | (simp [*]; done)), H', ⟨Nat.le_refl _⟩, by repeat (first | exact Drawn0.refl _ | apply Drawn0.step)⟩
  case round =>
    clear H'
    obtain ⟨x3_1, rfl, HA, HK1, ⟨m1, rfl⟩⟩ := hrel
    cases gk with
    | zero => exact absurd HA.out (by simp [beadrolllaw09_few.l0])
    | succ k1 =>
      have H := HA.out
      clear HA
      simp only [beadrolllaw09_few.l0] at H
      have HC2 := Aside0.mk H
      clear H
      go_upto_region 2 with (fail)
      go_cut [11] (fun v11 wc => ∃ (kq : Nat) (x11_1 : Bool), v11 = .bool x11_1 ∧ Aside0 (beadrolllaw09_few.j1 kq l0 x3_1 x11_1 = some r) ∧ Aside0 (kq ≤ k1) ∧ Drawn0 w wc)
      case first =>
        have H := HC2.out
        clear HC2
        by_cases c3 : x3_1 < (l0.length : Int)
        · rw [if_pos c3] at H
          have c3b0 : decide (x3_1 < (l0.length : Int)) = true := decide_eq_true c3
          clear c3
          (first | rw [c3b0] | (simp only [i64_w, i32_w]; rw [c3b0]) | skip)
          have H' := Aside0.mk H
          clear H
          go_wp2
          go_meet
          case rel => exact ⟨_, (decide (x3_1 < 50)), (by first | rfl | (simp; done) | (simp [*]; done)), H', ⟨by have := HK1.out; first | omega | exact Nat.le_refl _⟩, by repeat (first | exact Drawn0.refl _ | apply Drawn0.step)⟩
        · rw [if_neg c3] at H
          have c3b0 : decide (x3_1 < (l0.length : Int)) = false := decide_eq_false c3
          clear c3
          (first | rw [c3b0] | (simp only [i64_w, i32_w]; rw [c3b0]) | skip)
          have H' := Aside0.mk H
          clear H
          go_wp2
          go_meet
          case rel => exact ⟨_, (false), (by first | rfl | (simp; done) | (simp [*]; done)), H', ⟨by have := HK1.out; first | omega | exact Nat.le_refl _⟩, by repeat (first | exact Drawn0.refl _ | apply Drawn0.step)⟩
      case rest =>
        clear HC2
        try clear p2
        try clear c3
        try clear c3b0
        obtain ⟨kq, x11_1, rfl, HA, HJ1, ⟨mc1, rfl⟩⟩ := hcut
        cases kq with
        | zero => exact absurd HA.out (by simp [beadrolllaw09_few.j1])
        | succ kj1 =>
          have H := HA.out
          clear HA
          simp only [beadrolllaw09_few.j1] at H
          by_cases c4 : x11_1 = true
          · subst c4
            have H1 : (if 0 ≤ x3_1 then (if x3_1 < (l0.length : Int) then (if (((rd_T31 l0 x3_1).f1).size : Int) > 17000 then (some false) else (beadrolllaw09_few.l0 kj1 l0 (wrap64 (x3_1 + 1)))) else (none)) else (none)) = some r := by rw [if_pos rfl] at H; exact H
            clear H
            have H := H1
            clear H1
            by_cases c5 : 0 ≤ x3_1
            · rw [if_pos c5] at H
              have c5b0 : decide (0 ≤ x3_1) = true := decide_eq_true c5
              clear c5
              by_cases c6 : x3_1 < (l0.length : Int)
              · rw [if_pos c6] at H
                have c6b0 : decide (x3_1 < (l0.length : Int)) = true := decide_eq_true c6
                clear c6
                by_cases c7 : (((rd_T31 l0 x3_1).f1).size : Int) > 17000
                · rw [if_pos c7] at H
                  have c7b0 : decide (17000 < (((rd_T31 l0 x3_1).f1).size : Int)) = true := decide_eq_true c7
                  have c7b1 : decide (17000 < ((rd_T31 l0 x3_1).f1).size) = true := decide_eq_true (by omega)
                  clear c7
                  obtain rfl := Option.some.inj H
                  have p138 : 0 ≤ (x3_1 : Int) := of_decide_eq_true (by first | (with_reducible assumption) | assumption)
                  have q138 : x3_1 < (l0.length : Int) := of_decide_eq_true (by first | (with_reducible assumption) | assumption)
                  obtain ⟨ad138, e138, hx138_0, hx138_1, hx138_2⟩ := at_T31 HR0.out x3_1 p138 q138
                  cases e138
                  replace p138 := eq_true p138
                  replace q138 := eq_true q138
                  go_wp2
                  go_ret
                  exact ⟨by first | rfl | (simp; done) | (simp [*]; done), by repeat (first | exact Drawn0.refl _ | apply Drawn0.step)⟩
                · rw [if_neg c7] at H
                  have c7b0 : decide (17000 < (((rd_T31 l0 x3_1).f1).size : Int)) = false := decide_eq_false c7
                  have c7b1 : decide (17000 < ((rd_T31 l0 x3_1).f1).size) = false := decide_eq_false (by omega)
                  clear c7
                  have H' := Aside0.mk H
                  clear H
                  have p138 : 0 ≤ (x3_1 : Int) := of_decide_eq_true (by first | (with_reducible assumption) | assumption)
                  have q138 : x3_1 < (l0.length : Int) := of_decide_eq_true (by first | (with_reducible assumption) | assumption)
                  obtain ⟨ad138, e138, hx138_0, hx138_1, hx138_2⟩ := at_T31 HR0.out x3_1 p138 q138
                  cases e138
                  replace p138 := eq_true p138
                  replace q138 := eq_true q138
                  go_wp2
                  go_roundg kj1
                  case measure => have := HK1.out; have := HJ1.out; omega
                  case rel => exact ⟨(wrap64 (x3_1 + 1)), (by first | rfl | (simp; done) | (simp [*]; done)), H', ⟨by have := HK1.out; have := HJ1.out; omega⟩, by repeat (first | exact Drawn0.refl _ | apply Drawn0.step)⟩
              · rw [if_neg c6] at H
                exact absurd H (by simp)
            · rw [if_neg c5] at H
              exact absurd H (by simp)
          · replace c4 := Bool.eq_false_iff.mpr c4
            subst c4
            have H1 : (some (decide ((l0.length : Int) ≤ 40))) = some r := by rw [if_neg (show ¬ (false = true) by decide)] at H; exact H
            clear H
            have H := H1
            clear H1
            obtain rfl := Option.some.inj H
            go_wp2
            go_ret
            exact ⟨by first | rfl | (simp; done) | (simp [*]; done), by repeat (first | exact Drawn0.refl _ | apply Drawn0.step)⟩

-- NOT PRINTED: function 10 (pack_New)

-- NOT PRINTED: function 11 (pack_Packer_Raw)

/-! ### octets_width: function 32 -/
def octets_width.f (a0 : Int) : Option (Bool) := if a0 = 1 then (some true) else (if a0 = 2 then (some true) else (if a0 = 4 then (some true) else (some (a0 == 8))))
set_option maxHeartbeats 8000000 in
set_option maxRecDepth 100000 in
theorem octets_width.calls (a0 : Int) (r : Bool) (w : World) (h : octets_width.f a0 = some r) :
    Calls Try.prog 32 #[.int .i64 a0] w fun e w' => e = .returned (.bool r) ∧ Drawn0 w w' := by
  have H : (if a0 = 1 then (some true) else (if a0 = 2 then (some true) else (if a0 = 4 then (some true) else (some (a0 == 8))))) = some r := h
  clear h
  by_cases c2 : a0 = 1
  · rw [if_pos c2] at H
    have c2b0 : (a0 == 1) = true := beq_iff_eq.mpr c2
    have c2b1 : (a0 != 1) = false := bne_eq_false_iff_eq.mpr c2
    clear c2
    obtain rfl := Option.some.inj H
    go_enter Try.func32, Try.ntmps32
    go_wp2
    go_ret
    exact ⟨by first | rfl | (simp; done) | (simp [*]; done), by repeat (first | exact Drawn0.refl _ | apply Drawn0.step)⟩
  · rw [if_neg c2] at H
    have c2b0 : (a0 == 1) = false := beq_eq_false_iff_ne.mpr c2
    have c2b1 : (a0 != 1) = true := bne_iff_ne.mpr c2
    by_cases c3 : a0 = 2
    · rw [if_pos c3] at H
      have c3b0 : (a0 == 2) = true := beq_iff_eq.mpr c3
      have c3b1 : (a0 != 2) = false := bne_eq_false_iff_eq.mpr c3
      clear c3
      obtain rfl := Option.some.inj H
      go_enter Try.func32, Try.ntmps32
      go_wp2
      go_ret
      exact ⟨by first | rfl | (simp; done) | (simp [*]; done), by repeat (first | exact Drawn0.refl _ | apply Drawn0.step)⟩
    · rw [if_neg c3] at H
      have c3b0 : (a0 == 2) = false := beq_eq_false_iff_ne.mpr c3
      have c3b1 : (a0 != 2) = true := bne_iff_ne.mpr c3
      by_cases c4 : a0 = 4
      · rw [if_pos c4] at H
        have c4b0 : (a0 == 4) = true := beq_iff_eq.mpr c4
        have c4b1 : (a0 != 4) = false := bne_eq_false_iff_eq.mpr c4
        clear c4
        obtain rfl := Option.some.inj H
        go_enter Try.func32, Try.ntmps32
        go_wp2
        go_ret
        exact ⟨by first | rfl | (simp; done) | (simp [*]; done), by repeat (first | exact Drawn0.refl _ | apply Drawn0.step)⟩
      · rw [if_neg c4] at H
        have c4b0 : (a0 == 4) = false := beq_eq_false_iff_ne.mpr c4
        have c4b1 : (a0 != 4) = true := bne_iff_ne.mpr c4
        obtain rfl := Option.some.inj H
        go_enter Try.func32, Try.ntmps32
        go_wp2
        go_ret
        exact ⟨by first | rfl | (simp; done) | (simp [*]; done), by repeat (first | exact Drawn0.refl _ | apply Drawn0.step)⟩

/-! ### octets_whole: function 26 -/
def octets_whole.l0 : Nat → List Int → Int → Int → Option (Bool)
  | 0, _, _, _ => none
  | k + 1, x5, x6, x7 => if x7 < x6 then (if 0 ≤ x7 then (if x7 < (x5.length : Int) then ((octets_width.f (rd x5 x7)).bind fun t140 => (if t140 = true then (octets_whole.l0 k x5 x6 (wrap64 (x7 + 1))) else (some false))) else (none)) else (none)) else (some true)
def octets_whole.f (k : Nat) (l0 : List Int) : Option (Bool) := octets_whole.l0 k l0 (l0.length : Int) 0
theorem octets_whole.mono_l : ∀ k, (∀ y0 y1 y2, LeO (octets_whole.l0 k y0 y1 y2) (octets_whole.l0 (k + 1) y0 y1 y2))
  | 0 => fun _ _ _ r h => by simp [octets_whole.l0] at h
  | k + 1 => by
    have ih0 := octets_whole.mono_l k
    · intro y0 y1 y2
      unfold octets_whole.l0
      repeat' first
      | (with_reducible exact ih0 _ _ _)
      | (with_reducible exact LeO.refl _)
      | (with_reducible exact LeO.none _)
      | (with_reducible refine LeO.ite ?_ ?_)
      | (with_reducible refine LeO.bind ?_ (fun _ => ?_))
      | exact ih0 _ _ _
      | exact LeO.none _
      | refine LeO.ite ?_ ?_
      | refine LeO.bind ?_ (fun _ => ?_)
theorem octets_whole.mono : ∀ a0 k, LeO (octets_whole.f k a0) (octets_whole.f (k + 1) a0) := by
  intro a0 k
  have ih0 := octets_whole.mono_l k
  unfold octets_whole.f
  repeat' first
      | (with_reducible exact ih0 _ _ _)
      | (with_reducible exact LeO.refl _)
      | (with_reducible exact LeO.none _)
      | (with_reducible refine LeO.ite ?_ ?_)
      | (with_reducible refine LeO.bind ?_ (fun _ => ?_))
      | exact ih0 _ _ _
      | exact LeO.none _
      | refine LeO.ite ?_ ?_
      | refine LeO.bind ?_ (fun _ => ?_)
set_option maxHeartbeats 8000000 in
set_option maxRecDepth 100000 in
theorem octets_whole.calls (k : Nat) (A0 : Option Addr) (c0 : Nat) (l0 : List Int) (r : Bool) (w : World) (hr0 : Kd.C (Kd.int .i64) w A0 l0.length l0) (hc0 : l0.length ≤ c0) (h : octets_whole.f k l0 = some r) :
    Calls Try.prog 26 #[.slice A0 l0.length c0] w fun e w' => e = .returned (.bool r) ∧ Drawn0 w w' := by
  have HR0 := Aside0.mk hr0
  have HC0 := Aside0.mk hc0
  clear hr0 hc0
  have H : (octets_whole.l0 k l0 (l0.length : Int) 0) = some r := h
  clear h
  have H' := Aside0.mk H
  clear H
  go_enter Try.func26, Try.ntmps26
  go_wp2
  go_loopg [7] k (fun kq v7 w' => ∃ (x7_1 : Int), v7 = .int .i64 x7_1 ∧ Aside0 (octets_whole.l0 kq l0 (l0.length : Int) x7_1 = some r) ∧ Aside0 (kq ≤ k) ∧ Drawn0 w w')
  case atStart => exact ⟨(0), (by first | rfl | (simp; done) | (simp [*]; done)), H', ⟨Nat.le_refl _⟩, by repeat (first | exact Drawn0.refl _ | apply Drawn0.step)⟩
  case round =>
    clear H'
    obtain ⟨x7_1, rfl, HA, HK1, ⟨m1, rfl⟩⟩ := hrel
    cases gk with
    | zero => exact absurd HA.out (by simp [octets_whole.l0])
    | succ k1 =>
      have H := HA.out
      clear HA
      simp only [octets_whole.l0] at H
      by_cases c2 : x7_1 < (l0.length : Int)
      · rw [if_pos c2] at H
        have c2b0 : decide (x7_1 < (l0.length : Int)) = true := decide_eq_true c2
        clear c2
        by_cases c3 : 0 ≤ x7_1
        · rw [if_pos c3] at H
          have c3b0 : decide (0 ≤ x7_1) = true := decide_eq_true c3
          clear c3
          by_cases c4 : x7_1 < (l0.length : Int)
          · rw [if_pos c4] at H
            have c4b0 : decide (x7_1 < (l0.length : Int)) = true := decide_eq_true c4
            clear c4
            replace H := Option.bind_eq_some_iff.mp H
            obtain ⟨t140, A50, H⟩ := H
            replace H : (if t140 = true then (octets_whole.l0 k1 l0 (l0.length : Int) (wrap64 (x7_1 + 1))) else (some false)) = some r := H
            have A5 := Aside0.mk A50
            clear A50
            by_cases c6 : t140 = true
            · subst c6
              have H1 : (octets_whole.l0 k1 l0 (l0.length : Int) (wrap64 (x7_1 + 1))) = some r := by rw [if_pos rfl] at H; exact H
              clear H
              have H := H1
              clear H1
              have H' := Aside0.mk H
              clear H
              have p139 : 0 ≤ (x7_1 : Int) := of_decide_eq_true (by first | (with_reducible assumption) | assumption)
              have q139 : x7_1 < (l0.length : Int) := of_decide_eq_true (by first | (with_reducible assumption) | assumption)
              obtain ⟨ad139, e139, hx139_0⟩ := Kd.at_int HR0.out x7_1 p139 q139
              cases e139
              replace p139 := eq_true p139
              replace q139 := eq_true q139
              go_wp2_with (first | ((with_reducible refine gate_callee (f := 32) rfl ?_); refine goesL_ (some 12) rfl rfl Try.func32 (by kernel_rfl) rfl #[.int .i64 (rd l0 x7_1)] rfl (by (try simp only [List.map_toArray, List.map_cons, List.map_nil]); first | done | rfl | (simp only [List.length_drop, List.length_take]; rfl)) ?_; (with_reducible refine (octets_width.calls (rd l0 x7_1) true _ A5.out).mono ?_); rintro e w' ⟨rfl, ⟨nd, rfl⟩⟩; refine ⟨_, rfl, ?_⟩))
              go_roundg k1
              case measure => have := HK1.out; omega
              case rel => exact ⟨(wrap64 (x7_1 + 1)), (by first | rfl | (simp; done) | (simp [*]; done)), H', ⟨by have := HK1.out; omega⟩, by repeat (first | exact Drawn0.refl _ | apply Drawn0.step)⟩
            · replace c6 := Bool.eq_false_iff.mpr c6
              subst c6
              have H1 : (some false) = some r := by rw [if_neg (show ¬ (false = true) by decide)] at H; exact H
              clear H
              have H := H1
              clear H1
              obtain rfl := Option.some.inj H
              have p139 : 0 ≤ (x7_1 : Int) := of_decide_eq_true (by first | (with_reducible assumption) | assumption)
              have q139 : x7_1 < (l0.length : Int) := of_decide_eq_true (by first | (with_reducible assumption) | assumption)
              obtain ⟨ad139, e139, hx139_0⟩ := Kd.at_int HR0.out x7_1 p139 q139
              cases e139
              replace p139 := eq_true p139
              replace q139 := eq_true q139
              go_wp2_with (first | ((with_reducible refine gate_callee (f := 32) rfl ?_); refine goesL_ (some 12) rfl rfl Try.func32 (by kernel_rfl) rfl #[.int .i64 (rd l0 x7_1)] rfl (by (try simp only [List.map_toArray, List.map_cons, List.map_nil]); first | done | rfl | (simp only [List.length_drop, List.length_take]; rfl)) ?_; (with_reducible refine (octets_width.calls (rd l0 x7_1) false _ A5.out).mono ?_); rintro e w' ⟨rfl, ⟨nd, rfl⟩⟩; refine ⟨_, rfl, ?_⟩))
              go_ret
              exact ⟨by first | rfl | (simp; done) | (simp [*]; done), by repeat (first | exact Drawn0.refl _ | apply Drawn0.step)⟩
          · rw [if_neg c4] at H
            exact absurd H (by simp)
        · rw [if_neg c3] at H
          exact absurd H (by simp)
      · rw [if_neg c2] at H
        have c2b0 : decide (x7_1 < (l0.length : Int)) = false := decide_eq_false c2
        clear c2
        obtain rfl := Option.some.inj H
        go_wp2
        go_ret
        exact ⟨by first | rfl | (simp; done) | (simp [*]; done), by repeat (first | exact Drawn0.refl _ | apply Drawn0.step)⟩

/-! ### octets_most: function 27 -/
def octets_most.f (a0 : Int) : Option (Int) := if 0 ≤ (wrap64 (64 - (wrap64 (8 * a0)))) then (some (shr .u64 18446744073709551615 (wrap64 (64 - (wrap64 (8 * a0)))))) else (none)
set_option maxHeartbeats 8000000 in
set_option maxRecDepth 100000 in
theorem octets_most.calls (a0 : Int) (r : Int) (w : World) (h : octets_most.f a0 = some r) :
    Calls Try.prog 27 #[.int .i64 a0] w fun e w' => e = .returned (.int .u64 r) ∧ Drawn0 w w' := by
  have H : (if 0 ≤ (wrap64 (64 - (wrap64 (8 * a0)))) then (some (shr .u64 18446744073709551615 (wrap64 (64 - (wrap64 (8 * a0)))))) else (none)) = some r := h
  clear h
  obtain ⟨ji2, hji2⟩ : ∃ j_ : Int, (wrap64 (64 - (wrap64 (8 * a0)))) = j_ := ⟨_, rfl⟩
  replace H : (if 0 ≤ (ji2) then (some (shr .u64 18446744073709551615 (ji2))) else (none)) = some r := by first | (rw [hji2] at H; exact H) | (simp only [hji2] at H ⊢; exact H)
  have hji2w : (IntKind.i64.wrap (64 - (wrap64 (8 * a0)))) = ji2 := (i64_w _).trans hji2
  by_cases c3 : 0 ≤ (ji2)
  · rw [if_pos c3] at H
    have c3b0 := eq_true c3
    have c3b1 : decide (0 ≤ (ji2)) = true := decide_eq_true c3
    clear c3
    obtain ⟨ji4, hji4⟩ : ∃ j_ : Int, (shr .u64 18446744073709551615 (ji2)) = j_ := ⟨_, rfl⟩
    replace H : (some ji4) = some r := by first | (rw [hji4] at H; exact H) | (simp only [hji4] at H ⊢; exact H)
    have hji4_ : (18446744073709551615 / 2 ^ min (ji2).toNat 64) = ji4 := hji4
    have hji4z : (ji2) ≤ 64 → (18446744073709551615 / 2 ^ (ji2).toNat) = ji4 := shr_small hji4
    (try (have hji4n : 0 ≤ ji4 := by rw [← hji4]; unfold shr; exact Int.ediv_nonneg (by omega) (Int.le_of_lt (Int.pow_pos (by omega)))))
    obtain rfl := Option.some.inj H
    go_enter Try.func27, Try.ntmps27
    go_wp2
    go_ret
    exact ⟨by first | rfl | (simp; done) | (simp only [← hji2, ← hji4] <;> (first | rfl | simp)) | (simp [*]; done), by repeat (first | exact Drawn0.refl _ | apply Drawn0.step)⟩
  · rw [if_neg c3] at H
    exact absurd H (by simp)

/-! ### octets_bytes: function 28 -/
def octets_bytes.l0 : Nat → Int → List Int → Int → Option (List Int)
  | 0, _, _, _ => none
  | k + 1, x0, x5, x6 => if x6 ≥ 0 then (if 0 ≤ (wrap64 (8 * x6)) then (if x5.length < 140737488355328 then (octets_bytes.l0 k x0 (x5 ++ [(shr .u64 x0 (wrap64 (8 * x6))) % 256]) (wrap64 (x6 - 1))) else (none)) else (none)) else (some x5)
def octets_bytes.f (k : Nat) (a0 : Int) (a1 : Int) : Option (List Int) := octets_bytes.l0 k a0 ([] : List Int) (wrap64 (a1 - 1))
theorem octets_bytes.mono_l : ∀ k, (∀ y0 y1 y2, LeO (octets_bytes.l0 k y0 y1 y2) (octets_bytes.l0 (k + 1) y0 y1 y2))
  | 0 => fun _ _ _ r h => by simp [octets_bytes.l0] at h
  | k + 1 => by
    have ih0 := octets_bytes.mono_l k
    · intro y0 y1 y2
      unfold octets_bytes.l0
      repeat' first
      | (with_reducible exact ih0 _ _ _)
      | (with_reducible exact LeO.refl _)
      | (with_reducible exact LeO.none _)
      | (with_reducible refine LeO.ite ?_ ?_)
      | (with_reducible refine LeO.bind ?_ (fun _ => ?_))
      | exact ih0 _ _ _
      | exact LeO.none _
      | refine LeO.ite ?_ ?_
      | refine LeO.bind ?_ (fun _ => ?_)
theorem octets_bytes.mono : ∀ a0 a1 k, LeO (octets_bytes.f k a0 a1) (octets_bytes.f (k + 1) a0 a1) := by
  intro a0 a1 k
  have ih0 := octets_bytes.mono_l k
  unfold octets_bytes.f
  repeat' first
      | (with_reducible exact ih0 _ _ _)
      | (with_reducible exact LeO.refl _)
      | (with_reducible exact LeO.none _)
      | (with_reducible refine LeO.ite ?_ ?_)
      | (with_reducible refine LeO.bind ?_ (fun _ => ?_))
      | exact ih0 _ _ _
      | exact LeO.none _
      | refine LeO.ite ?_ ?_
      | refine LeO.bind ?_ (fun _ => ?_)
set_option maxHeartbeats 8000000 in
set_option maxRecDepth 100000 in
theorem octets_bytes.calls (k : Nat) (a0 : Int) (a1 : Int) (r : List Int) (w : World) (h : octets_bytes.f k a0 a1 = some r) :
    Calls Try.prog 28 #[.int .u64 a0, .int .i64 a1] w fun e w' => ∃ v0_ : Value, e = .returned (v0_) ∧ Kd.R (Kd.int .u8) 5 w' w.heap.size (fun _ => True) v0_ r ∧ Below w.heap.size w w' := by
  have HB := Aside0.mk (Below.refl w.heap.size w)
  have H : (octets_bytes.l0 k a0 ([] : List Int) (wrap64 (a1 - 1))) = some r := h
  clear h
  have H' := Aside0.mk H
  clear H
  go_enter Try.func28, Try.ntmps28
  go_wp2
  go_loopg [5, 6] k (fun kq v5 v6 w' => ∃ (x5_1 : List Int) (x6_1 : Int), v6 = .int .i64 x6_1 ∧ Aside0 (octets_bytes.l0 kq a0 x5_1 x6_1 = some r) ∧ Aside0 (kq ≤ k) ∧ Aside0 (Kd.R (Kd.int .u8) 5 w' w.heap.size (fun _ => True) v5 x5_1) ∧ Aside0 (Below w.heap.size w w'))
  case atStart => exact ⟨(([] : List Int)), (wrap64 (a1 - 1)), (by first | rfl | (simp; done) | (simp [*]; done)), H', ⟨Nat.le_refl _⟩, ⟨by first | exact Kd.R_nil _ _ _ _ _ | exact Kd.N_nil _ _ _ _ _ | exact Kd.V_nil _ _ _ _ _ | exact Kd.Q_nil _ _ _ _ _ | exact Kd.S_nil _ _ _ _ _⟩, ⟨by repeat (first | (with_reducible first | exact HB.out | apply below_alloc | apply pw_below_drewN | apply below_drew1) | exact HB.out)⟩⟩
  case round =>
    clear H'
    try clear c2
    try clear p2
    obtain ⟨x5_1, x6_1, rfl, HA, HK1, HO_5, HB⟩ := hrel
    cases gk with
    | zero => exact absurd HA.out (by simp [octets_bytes.l0])
    | succ k1 =>
      have H := HA.out
      clear HA
      simp only [octets_bytes.l0] at H
      by_cases c3 : x6_1 ≥ 0
      · rw [if_pos c3] at H
        have c3b0 : decide (0 ≤ x6_1) = true := decide_eq_true c3
        clear c3
        obtain ⟨ji4, hji4⟩ : ∃ j_ : Int, (wrap64 (8 * x6_1)) = j_ := ⟨_, rfl⟩
        replace H : (if 0 ≤ (ji4) then (if x5_1.length < 140737488355328 then (octets_bytes.l0 k1 a0 (x5_1 ++ [(shr .u64 a0 (ji4)) % 256]) (wrap64 (x6_1 - 1))) else (none)) else (none)) = some r := by first | (rw [hji4] at H; exact H) | (simp only [hji4] at H ⊢; exact H)
        have hji4w : (IntKind.i64.wrap (8 * x6_1)) = ji4 := (i64_w _).trans hji4
        by_cases c5 : 0 ≤ (ji4)
        · rw [if_pos c5] at H
          have c5b0 := eq_true c5
          have c5b1 : decide (0 ≤ (ji4)) = true := decide_eq_true c5
          clear c5
          obtain ⟨ji6, hji6⟩ : ∃ j_ : Int, (shr .u64 a0 (ji4)) = j_ := ⟨_, rfl⟩
          replace H : (if x5_1.length < 140737488355328 then (octets_bytes.l0 k1 a0 (x5_1 ++ [(ji6) % 256]) (wrap64 (x6_1 - 1))) else (none)) = some r := by first | (rw [hji6] at H; exact H) | (simp only [hji6] at H ⊢; exact H)
          have hji6_ : (a0 / 2 ^ min (ji4).toNat 64) = ji6 := hji6
          have hji6z : (ji4) ≤ 64 → (a0 / 2 ^ (ji4).toNat) = ji6 := shr_small hji6
          (try (have hji6n : 0 ≤ ji6 := by rw [← hji6]; unfold shr; exact Int.ediv_nonneg (by omega) (Int.le_of_lt (Int.pow_pos (by omega)))))
          by_cases c7 : x5_1.length < 140737488355328
          · rw [if_pos c7] at H
            have LMc7 := Aside0.mk c7
            clear c7
            obtain ⟨y141, hy141⟩ : ∃ y_ : List Int, y_ = (x5_1 ++ [(ji6) % 256]) := ⟨_, rfl⟩
            replace H : (octets_bytes.l0 k1 a0 y141 (wrap64 (x6_1 - 1))) = some r := by first | (rw [hy141]; with_reducible exact H) | (have H2_ := (Option.bind_some _ _).symm.trans H; rw [hy141]; with_reducible exact H2_) | (have H2_ := (Option.bind_some _ _).symm.trans H; with_reducible exact H2_) | with_reducible exact H | (rw [hy141]; exact H) | exact H
            have Ny141 := Aside0.mk hy141
            clear hy141
            have H' := Aside0.mk H
            clear H
            go_wp2_with (first | ((with_reducible refine gate_builtin (b := .append) (xs := #[.tmp 13, .tmp 19]) rfl ?_); at_builtin; refine Kd.R_append (Kd.int .u8) (w0 := w) w.heap.size rfl (.tmp 13) (.tmp 19) 44 5 (.int .u8 0) 1 rfl Try.underlying44 info5 rfl (by decide) (by omega) u5 x5_1 ((ji6) % 256) [.int .u8 ((ji6) % 256)] (fun _ => True) (fun _ => False) rfl rfl ?aP (fun _ hk => hk.elim) ?aF ?aO ?aB ?aS ?aL ?_; (case aP => exact rfl); (case aB => exact (by repeat (first | (with_reducible first | exact HB.out | apply below_alloc | apply pw_below_drewN | apply below_drew1) | exact HB.out))); (case aF => exact (fun _ _ => trivial)); (case aO => exact (by (with_reducible repeat (first | apply Kd.R_alloc | apply Kd.R_drewN | apply Kd.R_drew)); exact HO_5.out)); (case aS => exact (below_size (by repeat (first | (with_reducible first | exact HB.out | apply below_alloc | apply pw_below_drewN | apply below_drew1) | exact HB.out)))); (case aL => have := LMc7.out; omega); intro v142 w8 ho hb hg hat; rw [← Ny141.out] at ho; have n0_ := Aside0.mk (hb); have n1_ := Aside0.mk (ho); clear HB; clear HO_5; have HB := n0_; have HO143 := n1_; clear n0_ n1_; clear ho hb hg hat))
            go_roundg k1
            case measure => have := HK1.out; omega
            case rel => exact ⟨(y141), (wrap64 (x6_1 - 1)), (by first | rfl | (simp; done) | (simp [*]; done)), H', ⟨by have := HK1.out; omega⟩, ⟨by (with_reducible repeat (first | apply Kd.R_alloc | apply Kd.R_drewN | apply Kd.R_drew)); exact HO143.out⟩, ⟨by repeat (first | (with_reducible first | exact HB.out | apply below_alloc | apply pw_below_drewN | apply below_drew1) | exact HB.out)⟩⟩
          · rw [if_neg c7] at H
            exact absurd H (by simp)
        · rw [if_neg c5] at H
          exact absurd H (by simp)
      · rw [if_neg c3] at H
        have c3b0 : decide (0 ≤ x6_1) = false := decide_eq_false c3
        clear c3
        obtain rfl := Option.some.inj H
        go_wp2
        go_ret
        exact ⟨_, by first | rfl | (simp [errW_none, errW_some] <;> rfl) | (simp [*, errW_none, errW_some] <;> rfl), by (with_reducible repeat (first | apply Kd.R_alloc | apply Kd.R_drewN | apply Kd.R_drew)); exact HO_5.out, by repeat (first | (with_reducible first | exact HB.out | apply below_alloc | apply pw_below_drewN | apply below_drew1) | exact HB.out)⟩

end Go.Proofs.Ytekbecpcbfhdmaa.PPak
/- What the references of the pack laws and the program's own Read return. -/
namespace Go.Proofs.Ytekbecpcbfhdmaa.PackFacts
open Go.RowKit Go.Proofs.Ytekbecpcbfhdmaa.PPak Go.Proofs.YtekbecpcbfhdmaaW.PrintWords Go.Proofs.YtekbecpcbfhdmaaW.PrintLast Go.Proofs.YtekbecpcbfhdmaaW.PrintMore Go.Proofs.Ytekbecpcbfhdmaa.Given Go.Proofs.Ytekbecpcbfhdmaa.Oct Go.Proofs.Ytekbecpcbfhdmaa.Name Go.Proofs.Ytekbecpcbfhdmaa.Pack
set_option linter.unusedVariables false
set_option linter.unusedSimpArgs false

theorem w64_id {x : Int} (h0 : -9223372036854775808 ≤ x) (h1 : x ≤ 9223372036854775807) : wrap64 x = x := by unfold wrap64; omega
theorem bt_list (b : ByteArray) (i : Nat) (h : i < b.size) : bt b (i : Int) = ((b.data.toList[i]'(by rw [size_list]; exact h)).toNat : Int) := by
  unfold bt
  rw [Int.toNat_natCast, dif_pos h]; rfl

/-! ### the reference's labels -/
/-- Is what is left a name? -/
def okR (r : ByteArray) : Bool := decide (endIn r (labs r.size r) = rootB)
theorem first_list {b : ByteArray} {i : Nat} (h : i < b.size) : (b.extract i b.size).data.toList = b.data.toList[i]'(by rw [size_list]; exact h) :: b.data.toList.drop (i + 1) := by
  rw [drop_list]; exact List.drop_eq_getElem_cons _
theorem first_num {b : ByteArray} {i : Nat} (h : i < b.size) : beN ((b.extract i b.size).data.toList.take 1) = (b.data.toList[i]'(by rw [size_list]; exact h)).toNat := by
  rw [first_list h]; simp [beN]
theorem cut_first {b : ByteArray} {i : Nat} (h : i < b.size) : cutOf (b.extract i b.size) 1 = if (b.data.toList[i]'(by rw [size_list]; exact h)).toNat ≤ b.size - i - 1 then
    some (b.extract (i + 1) (i + 1 + (b.data.toList[i]'(by rw [size_list]; exact h)).toNat), b.extract (i + 1 + (b.data.toList[i]'(by rw [size_list]; exact h)).toNat) b.size) else none := by
  unfold cutOf
  rw [if_pos (by rw [drop_size]; omega), first_num h, drop_size]
  split
  · congr 2
    · apply list_inj
      rw [mid_list, mid_list, drop_list, List.drop_drop]
    · apply list_inj
      rw [show b.size - i = (b.extract i b.size).size from (drop_size b i).symm, drop_list, drop_list, drop_list, List.drop_drop, Nat.add_assoc]
  · rfl
theorem root_iff {b : ByteArray} {i : Nat} (h : i < b.size) : b.extract i b.size = rootB ↔ ((b.data.toList[i]'(by rw [size_list]; exact h)).toNat = 0 ∧ i + 1 = b.size) := by
  constructor
  · intro e
    have h1 := congrArg (fun x => x.data.toList) e
    have h2 := congrArg ByteArray.size e
    rw [drop_size, show rootB.size = 1 from rfl] at h2
    simp only [first_list h] at h1
    have : b.data.toList[i]'(by rw [size_list]; exact h) = 0 := by
      have h3 : rootB.data.toList = [0] := rfl
      rw [h3] at h1
      exact (List.cons.inj h1).1
    exact ⟨by rw [this]; rfl, by omega⟩
  · rintro ⟨h1, h2⟩
    apply list_inj
    rw [first_list h, List.drop_of_length_le (by rw [size_list]; omega)]
    have : b.data.toList[i]'(by rw [size_list]; exact h) = 0 := UInt8.toNat_inj.mp (by rw [h1]; rfl)
    rw [this]; rfl
theorem rlabels_at (b : ByteArray) (hb : b.size ≤ 255) : ∀ (d i k : Nat) (acc : List ByteArray), b.size - i ≤ d → i ≤ b.size → 2 * d + 3 ≤ k → acc.length + d ≤ 1000000 →
    ∃ l, beadrollref07_Labels.l0 k b acc (i : Int) = some (l, okR (b.extract i b.size)) ∧ (okR (b.extract i b.size) = true → l = acc ++ (labs (b.extract i b.size).size (b.extract i b.size)).map (·.1)) := by
  intro d
  induction d with
  | zero =>
    intro i k acc hd hi hk ha
    obtain rfl : i = b.size := by omega
    obtain ⟨k, rfl⟩ : ∃ j, k = j + 2 := ⟨k - 2, by omega⟩
    have hz : (b.extract b.size b.size).size = 0 := by rw [drop_size]; omega
    have hn : okR (b.extract b.size b.size) = false := by
      unfold okR
      rw [hz]
      exact decide_eq_false (fun h => by have := congrArg ByteArray.size (show b.extract b.size b.size = rootB from h); rw [hz] at this; exact absurd this (by decide))
    rw [hn, beadrollref07_Labels.l0, if_neg (by omega), beadrollref07_Labels.j1, if_neg (by decide), if_neg (by rw [w64_id (by omega) (by omega)]; omega)]
    exact ⟨_, rfl, fun h => absurd h (by decide)⟩
  | succ d ih =>
    intro i k acc hd hi hk ha
    obtain ⟨k, rfl⟩ : ∃ j, k = j + 2 := ⟨k - 2, by omega⟩
    by_cases hlt : i < b.size
    · have hbt := bt_list b i hlt
      have hcut := cut_first hlt
      have hroot := root_iff hlt
      have hc := UInt8.toNat_lt (b.data.toList[i]'(by rw [size_list]; exact hlt))
      generalize (b.data.toList[i]'(by rw [size_list]; exact hlt)).toNat = m at hbt hcut hroot hc
      have hsz : (b.extract i b.size).size = b.size - i := drop_size b i
      rw [beadrollref07_Labels.l0, if_pos (by omega), if_pos (by omega), hbt]
      have stop : ∀ (_ : labs (b.extract i b.size).size (b.extract i b.size) = []) (_ : ¬ b.extract i b.size = rootB), okR (b.extract i b.size) = false := fun h h' => by
        unfold okR; rw [h]; exact decide_eq_false h'
      by_cases h0 : m = 0
      · rw [decide_eq_false (by omega), beadrollref07_Labels.j1, if_neg (by decide), hbt, w64_id (by omega) (by omega)]
        by_cases hend : i + 1 = b.size
        · have hr := hroot.mpr ⟨h0, hend⟩
          have hok : okR (b.extract i b.size) = true := by unfold okR; rw [hr]; rfl
          rw [if_pos (by omega), if_pos (by omega), if_pos (by omega), hok]
          refine ⟨acc, by rw [h0]; rfl, fun _ => ?_⟩
          rw [labs_root hr]; simp
        · have hr : ¬ b.extract i b.size = rootB := fun h => hend (hroot.mp h).2
          rw [if_pos (by omega)] at hcut
          have hl := labs_bad hcut (.inl (by rw [ByteArray.size_extract]; omega))
          rw [stop hl hr, if_neg (by omega)]
          exact ⟨_, rfl, fun h => absurd h (by decide)⟩
      · have hr : ¬ b.extract i b.size = rootB := fun h => h0 (hroot.mp h).1
        rw [decide_eq_true (by omega), beadrollref07_Labels.j1, if_pos rfl, if_pos (by omega), if_pos (by omega), hbt, w64_id (x := (m : Int)) (by omega) (by omega), w64_id (x := (i : Int) + 1) (by omega) (by omega), w64_id (x := (i : Int) + 1 + (m : Int)) (by omega) (by omega), w64_id (x := 1 + (m : Int)) (by omega) (by omega), w64_id (x := (i : Int) + (1 + (m : Int))) (by omega) (by omega)]
        by_cases h63 : m > 63
        · have hl : labs (b.extract i b.size).size (b.extract i b.size) = [] := by
            by_cases hle : m ≤ b.size - i - 1
            · rw [if_pos hle] at hcut
              exact labs_bad hcut (.inr (by rw [ByteArray.size_extract]; omega))
            · rw [if_neg hle] at hcut
              exact labs_none hcut
          rw [if_pos (by omega), stop hl hr]
          exact ⟨_, rfl, fun h => absurd h (by decide)⟩
        · rw [if_neg (by omega)]
          by_cases hle : m ≤ b.size - i - 1
          · rw [if_pos hle] at hcut
            have hsz2 : (b.extract (i + 1) (i + 1 + m)).size = m := by rw [ByteArray.size_extract]; omega
            have hl := labs_cons hr hcut (by rw [hsz2]; omega)
            rw [if_neg (by omega), if_pos (by omega), if_pos (by omega), if_pos (by omega), if_pos (by omega)]
            rw [show ((i : Int) + 1).toNat = i + 1 from by omega, show ((i : Int) + 1 + (m : Int)).toNat = i + 1 + m from by omega, show (i : Int) + (1 + (m : Int)) = ((i + 1 + m : Nat) : Int) from by omega]
            obtain ⟨l, e1, e2⟩ := ih (i + 1 + m) k (acc ++ [b.extract (i + 1) (i + 1 + m)]) (by omega) (by omega) (by omega) (by simp; omega)
            have hok : okR (b.extract i b.size) = okR (b.extract (i + 1 + m) b.size) := by
              unfold okR
              rw [hl]
              congr 2
              unfold endIn
              cases hq : labs (b.extract (i + 1 + m) b.size).size (b.extract (i + 1 + m) b.size) with
              | nil => rfl
              | cons y t => rw [List.getLast?_cons_cons]; simp [List.getLast?_cons]
            rw [hok]
            refine ⟨l, e1, fun h => ?_⟩
            rw [e2 h, hl]
            simp
          · rw [if_neg hle] at hcut
            rw [if_pos (by omega), stop (labs_none hcut) hr]
            exact ⟨_, rfl, fun h => absurd h (by decide)⟩
    · obtain rfl : i = b.size := by omega
      exact ih b.size (k + 2) acc (by omega) (by omega) (by omega) (by omega)
theorem right_ok (n : ByteArray) : rightB n = (decide (n.size ≤ 255) && okR n) := by
  unfold rightB okR
  congr 1
  by_cases h : endIn n (labs n.size n) = rootB
  · rw [h]; simp [ByteArray.toList_eq]; rfl
  · rw [decide_eq_false h]
    exact list_ne h
theorem all_bytes (b : ByteArray) : b.extract 0 b.size = b := by apply list_inj; rw [drop_list]; rfl
theorem rright_f (n : ByteArray) (k : Nat) (hk : 600 ≤ k) : beadrollref07_Right.f k n = some (rightB n) := by
  unfold beadrollref07_Right.f beadrollref07_Labels.f
  rw [right_ok]
  by_cases h : (n.size : Int) > 255
  · rw [if_pos h, decide_eq_false (by omega)]; rfl
  · rw [if_neg h, decide_eq_true (by omega), Bool.true_and]
    obtain ⟨l, e1, _⟩ := rlabels_at n (by omega) n.size 0 k [] (by omega) (by omega) (by omega) (by simp; omega)
    rw [all_bytes] at e1
    rw [show (0 : Int) = ((0 : Nat) : Int) from rfl, e1]; rfl
end Go.Proofs.Ytekbecpcbfhdmaa.PackFacts
/- Items put one behind the other: what the packer comes to, in plain words; one packer, and two beside each other. -/
namespace Go.Proofs.Ytekbecpcbfhdmaa.Pack
open Go.RowKit Go.Proofs.YtekbecpcbfhdmaaW.PrintWords Go.Proofs.Ytekbecpcbfhdmaa.Oct Go.Proofs.Ytekbecpcbfhdmaa.Name Go.Proofs.Ytekbecpcbfhdmaa.PPak Go.Proofs.Ytekbecpcbfhdmaa.PackFacts
set_option linter.unusedVariables false
abbrev It := S31
/-- What an item does. -/
def itemStep (x : It) (S : St) : St := if x.f0 = true then (S.1 ++ x.f1.data.toList, S.2) else if rightB x.f1 = true then putName x.f1 x.f2 S else S
def runI (l : List It) (S : St) : St := l.foldl (fun S x => itemStep x S) S
theorem runI_snoc (l : List It) (x : It) (S : St) : runI (l ++ [x]) S = itemStep x (runI l S) := by unfold runI; rw [List.foldl_append]; rfl
/-- Bounds, and places that pointers can tell. -/
structure Fit (S : St) (n : Nat) : Prop where
  bytes : S.1.length ≤ n
  known : S.2.length ≤ n
  small : Small S.2
theorem putN_fit (may : Bool) : ∀ (k : Nat) (n : ByteArray) (S : St) (b : Nat), rightB n = true → n.size ≤ k → S.1.length + n.size + 1 ≤ b → S.2.length + n.size ≤ b → Small S.2 → Fit (putN k n may S) (b + 1) := by
  intro k
  induction k with
  | zero => intro n S b hr hk h1 h2 h3; exact ⟨by rw [putN, List.length_append]; simp; omega, by rw [putN]; show S.2.length ≤ _; omega, by rw [putN]; exact h3⟩
  | succ k ih =>
    intro n S b hr hk h1 h2 h3
    by_cases hn : n = rootB
    · rw [putN, if_pos hn]
      exact ⟨by rw [List.length_append]; simp; omega, by show S.2.length ≤ _; omega, h3⟩
    · have hp := par_size hr hn
      have hpr := par_right hr hn
      have hh := head_size n
      rw [putN, if_neg hn]
      have hl : (S.1 ++ (head n).data.toList).length = S.1.length + (n.size - (par n).size) := by rw [List.length_append, size_list, hh]
      cases hlk : look S.2 n with
      | some q =>
        simp only
        split
        · exact ⟨by rw [List.length_append, beB_len]; omega, by show S.2.length ≤ _; omega, h3⟩
        · exact ih _ _ b hpr (by omega) (by rw [hl]; omega) (by simp only; omega) h3
      | none =>
        simp only
        refine ih _ _ b hpr (by omega) (by rw [hl]; omega) ?_ ?_
        · show (if S.1.length < 16384 then (n, S.1.length) :: S.2 else S.2).length + _ ≤ _
          split
          · rw [List.length_cons]; omega
          · omega
        · show Small (if S.1.length < 16384 then (n, S.1.length) :: S.2 else S.2)
          split
          · exact h3.put (by assumption)
          · exact h3
theorem putName_fit (n : ByteArray) (may : Bool) (S : St) (b : Nat) (hr : rightB n = true) (h : Fit S b) : Fit (putName n may S) (b + 257) := by
  have := right_size hr
  have h1 := putN_fit may n.size n S (b + 256) hr (Nat.le_refl _) (by have := h.bytes; omega) (by have := h.known; omega) h.small
  exact h1
theorem item_fit (x : It) (S : St) (b : Nat) (hx : x.f1.size ≤ 17000) (h : Fit S b) : Fit (itemStep x S) (b + 17000) := by
  unfold itemStep
  split
  · exact ⟨by rw [List.length_append, size_list]; have := h.bytes; omega, by have := h.known; show S.2.length ≤ _; omega, h.small⟩
  · split
    · have := putName_fit x.f1 x.f2 S b (by assumption) h
      exact ⟨by have := this.bytes; omega, by have := this.known; omega, this.small⟩
    · exact ⟨by have := h.bytes; omega, by have := h.known; omega, h.small⟩
theorem fit_nil (b : Nat) : Fit ([], []) b := ⟨by simp, by simp, small_nil⟩
theorem run_fit : ∀ (l : List It) (S : St) (b : Nat), (∀ x ∈ l, x.f1.size ≤ 17000) → Fit S b → Fit (runI l S) (b + 17000 * l.length) := by
  intro l
  induction l with
  | nil => intro S b _ h; exact h
  | cons x l ih =>
    intro S b hx h
    have := ih (itemStep x S) (b + 17000) (fun y hy => hx y (List.mem_cons_of_mem _ hy)) (item_fit x S b (hx x (List.mem_cons_self ..)) h)
    rw [List.length_cons, show b + 17000 * (l.length + 1) = b + 17000 + 17000 * l.length by omega]
    exact this

/-! ### how much is put -/
theorem right_pos {n : ByteArray} (h : rightB n = true) : 0 < n.size := by
  by_cases hn : n = rootB
  · rw [hn]; decide
  · have := par_size h hn; omega
theorem head_par {n : ByteArray} (h : rightB n = true) (hn : ¬ n = rootB) : (head n).data.toList ++ (par n).data.toList = n.data.toList := by
  obtain ⟨s, r, hc, _, _, _, e, _⟩ := right_step h hn
  have hr : ∃ m, m ≤ n.size ∧ r = n.extract m n.size := by
    unfold cutOf at hc
    split at hc
    · split at hc
      · simp only [Option.some.injEq, Prod.mk.injEq] at hc
        exact ⟨_, by omega, hc.2.symm⟩
      · cases hc
    · cases hc
  obtain ⟨m, hm, rfl⟩ := hr
  unfold head
  rw [e, ByteArray.size_extract, Nat.min_self, show n.size - (n.size - m) = m by omega]
  rw [drop_list]
  have : (n.extract 0 m).data.toList = n.data.toList.take m := by simp
  rw [this, List.take_append_drop]
theorem put_full : ∀ (k : Nat) (n : ByteArray) (S : St), n.size ≤ k → rightB n = true → (putName n false S).1 = S.1 ++ n.data.toList := by
  intro k
  induction k with
  | zero => intro n S hk h; have := right_pos h; omega
  | succ k ih =>
    intro n S hk h
    by_cases hn : n = rootB
    · subst hn; rw [putName_root]; rfl
    · have hp := par_size h hn
      have hpr := par_right h hn
      rw [putName_step false S h hn, ← head_par h hn, ← List.append_assoc]
      cases look S.2 n with
      | some q => simp only [Bool.false_eq_true, if_false]; rw [ih _ _ (by omega) hpr]
      | none => simp only; rw [ih _ _ (by omega) hpr]
theorem put_less : ∀ (k : Nat) (n : ByteArray) (S : St), n.size ≤ k → rightB n = true → (putName n true S).1.length ≤ S.1.length + n.size ∧ S.1.length + 1 ≤ (putName n true S).1.length := by
  intro k
  induction k with
  | zero => intro n S hk h; have := right_pos h; omega
  | succ k ih =>
    intro n S hk h
    by_cases hn : n = rootB
    · subst hn; rw [putName_root]
      refine ⟨?_, ?_⟩ <;> simp [show rootB.size = 1 from rfl]
    · have hp := par_size h hn
      have hpr := par_right h hn
      have hpp := right_pos hpr
      have hh := head_size n
      rw [putName_step true S h hn]
      cases look S.2 n with
      | some q => simp only [if_true]; rw [List.length_append, beB_len]; omega
      | none =>
        simp only
        have h1 := ih (par n) (S.1 ++ (head n).data.toList, if S.1.length < 16384 then (n, S.1.length) :: S.2 else S.2) (by omega) hpr
        simp only [List.length_append, size_list] at h1
        omega

/-! ### a packer in the world -/
structure One (w0 : World) (p mb : Nat) (S : St) (w : World) : Prop where
  pk : ∃ g, Pk w0.heap.size p mb g S.1 S.2 w
  below : Below w0.heap.size w0 w
theorem One.lo {w0 : World} {p mb : Nat} {S : St} {w : World} (h : One w0 p mb S w) : w0.heap.size ≤ w.heap.size := h.below.size
theorem One.rest {w0 : World} {p mb : Nat} {S : St} {w w' : World} (h : One w0 p mb S w) (hb : Below w.heap.size w w') : One w0 p mb S w' := by
  obtain ⟨g, hp⟩ := h.pk
  exact ⟨⟨g, hp.below hb⟩, below_then h.below h.lo hb⟩
theorem One.step {w0 : World} {p mb : Nat} {S S' : St} {w w' : World} {g : Option Nat} (h : One w0 p mb S w) (hp : Pk w0.heap.size p mb g S.1 S.2 w) (hs : Stepped w0.heap.size p mb g S'.1 S'.2 w w') : One w0 p mb S' w' := by
  obtain ⟨⟨g', hp', _⟩, ht⟩ := hs
  exact ⟨⟨g', hp'⟩, h.below.trans (ht.below h.lo fun k hk => hp.own_lo k hk)⟩
theorem One.Raw {w0 : World} {p mb : Nat} {S : St} {w : World} (h : One w0 p mb S w) (s : ByteArray) (hl : S.1.length + s.size ≤ 1000000) :
    Calls Try.prog 11 #[.pointer (some ⟨p, 0, none⟩), .string s] w fun e w' => e = .returned (.tuple #[]) ∧ One w0 p mb (S.1 ++ s.data.toList, S.2) w' := by
  obtain ⟨g, hp⟩ := h.pk
  exact (Pack.Raw w0.heap.size p mb g S.2 S.1 s w hp hl h.lo).mono fun e w' ⟨he, hs⟩ => ⟨he, h.step hp hs⟩
/-- What Name answers, and what it does. -/
def codeOf (n : ByteArray) : Int := if rightB n = true then 0 else 2
def nameStep (n : ByteArray) (may : Bool) (S : St) : St := if rightB n = true then putName n may S else S
theorem One.Name {w0 : World} {p mb : Nat} {S : St} {w : World} (h : One w0 p mb S w) (n : ByteArray) (may : Bool) (b : Nat) (hf : Fit S b) (hb : b ≤ 900000) :
    Calls Try.prog 12 #[.pointer (some ⟨p, 0, none⟩), .string n, .bool may] w fun e w' => e = .returned (.int .i64 (codeOf n)) ∧ One w0 p mb (nameStep n may S) w' := by
  obtain ⟨g, hp⟩ := h.pk
  unfold codeOf nameStep
  by_cases hr : rightB n = true
  · have hz := right_size hr
    rw [if_pos hr, if_pos hr]
    exact (Pack.Name w0.heap.size p mb g S.2 S.1 n may w hp hr hf.small (by have := hf.bytes; omega) (by have := hf.known; omega) h.lo).mono fun e w' ⟨he, hs⟩ => ⟨he, h.step hp hs⟩
  · rw [if_neg hr, if_neg hr]
    exact (Name_no p n may w (by simpa using hr)).mono fun e w' ⟨he, hs⟩ => ⟨he, h.rest hs⟩
theorem One.Len {w0 : World} {p mb : Nat} {S : St} {w : World} (h : One w0 p mb S w) :
    Calls Try.prog 15 #[.pointer (some ⟨p, 0, none⟩)] w fun e w' => e = .returned (.int .i64 (S.1.length : Int)) ∧ w = w' := by
  obtain ⟨g, hp⟩ := h.pk
  exact Pack.Len _ p mb g S.2 S.1 w hp
theorem One.Bytes {w0 : World} {p mb : Nat} {S : St} {w : World} (h : One w0 p mb S w) (hl : S.1.length ≤ 1000000) :
    Calls Try.prog 16 #[.pointer (some ⟨p, 0, none⟩)] w fun e w' => e = .returned (.string (Oct.arr S.1)) ∧ w = w' := by
  obtain ⟨g, hp⟩ := h.pk
  exact Pack.Bytes _ p mb g S.2 S.1 w hp hl
/-- Two packers. -/
structure Two (w0 : World) (p mb q mc : Nat) (S T : St) (w : World) : Prop where
  pk : ∃ g g', Pk w0.heap.size p mb g S.1 S.2 w ∧ Pk w0.heap.size q mc g' T.1 T.2 w ∧ ∀ k, Own p mb g k → ¬ Own q mc g' k
  below : Below w0.heap.size w0 w
theorem Two.flip {w0 : World} {p mb q mc : Nat} {S T : St} {w : World} (h : Two w0 p mb q mc S T w) : Two w0 q mc p mb T S w := by
  obtain ⟨g, g', h1, h2, h3⟩ := h.pk
  exact ⟨⟨g', g, h2, h1, fun k hk hk' => h3 k hk' hk⟩, h.below⟩
theorem Two.one {w0 : World} {p mb q mc : Nat} {S T : St} {w : World} (h : Two w0 p mb q mc S T w) : One w0 p mb S w := by
  obtain ⟨g, g', h1, h2, h3⟩ := h.pk
  exact ⟨⟨g, h1⟩, h.below⟩
theorem Two.lo {w0 : World} {p mb q mc : Nat} {S T : St} {w : World} (h : Two w0 p mb q mc S T w) : w0.heap.size ≤ w.heap.size := h.below.size
theorem Two.rest {w0 : World} {p mb q mc : Nat} {S T : St} {w w' : World} (h : Two w0 p mb q mc S T w) (hb : Below w.heap.size w w') : Two w0 p mb q mc S T w' := by
  obtain ⟨g, g', h1, h2, h3⟩ := h.pk
  exact ⟨⟨g, g', h1.below hb, h2.below hb, h3⟩, below_then h.below h.lo hb⟩
theorem Two.step {w0 : World} {p mb q mc : Nat} {S S' T : St} {w w' : World} {g g' : Option Nat} (hb : Below w0.heap.size w0 w) (h1 : Pk w0.heap.size p mb g S.1 S.2 w) (h2 : Pk w0.heap.size q mc g' T.1 T.2 w) (h3 : ∀ k, Own p mb g k → ¬ Own q mc g' k)
    (hs : Stepped w0.heap.size p mb g S'.1 S'.2 w w') : Two w0 p mb q mc S' T w' := by
  obtain ⟨⟨g2, hp', hg2⟩, ht⟩ := hs
  refine ⟨⟨g2, g', hp', h2.kept ht fun k hk hk' => h3 k hk' hk, fun k hk hk' => ?_⟩, hb.trans (ht.below hb.size fun k hk => h1.own_lo k hk)⟩
  have hlt := h2.own_lt k hk'
  rcases hk with e | e | e
  · exact h3 k (.inl e) hk'
  · exact h3 k (.inr (.inl e)) hk'
  · rcases hg2 k e with e' | e'
    · exact h3 k (.inr (.inr e')) hk'
    · omega
theorem Two.Raw {w0 : World} {p mb q mc : Nat} {S T : St} {w : World} (h : Two w0 p mb q mc S T w) (s : ByteArray) (hl : S.1.length + s.size ≤ 1000000) :
    Calls Try.prog 11 #[.pointer (some ⟨p, 0, none⟩), .string s] w fun e w' => e = .returned (.tuple #[]) ∧ Two w0 p mb q mc (S.1 ++ s.data.toList, S.2) T w' := by
  obtain ⟨g, g', h1, h2, h3⟩ := h.pk
  exact (Pack.Raw w0.heap.size p mb g S.2 S.1 s w h1 hl h.lo).mono fun e w' ⟨he, hs⟩ => ⟨he, Two.step (S' := (S.1 ++ s.data.toList, S.2)) h.below h1 h2 h3 hs⟩
theorem Two.Name {w0 : World} {p mb q mc : Nat} {S T : St} {w : World} (h : Two w0 p mb q mc S T w) (n : ByteArray) (may : Bool) (b : Nat) (hf : Fit S b) (hb : b ≤ 900000) :
    Calls Try.prog 12 #[.pointer (some ⟨p, 0, none⟩), .string n, .bool may] w fun e w' => e = .returned (.int .i64 (codeOf n)) ∧ Two w0 p mb q mc (nameStep n may S) T w' := by
  obtain ⟨g, g', h1, h2, h3⟩ := h.pk
  unfold codeOf nameStep
  by_cases hr : rightB n = true
  · have hz := right_size hr
    rw [if_pos hr, if_pos hr]
    exact (Pack.Name w0.heap.size p mb g S.2 S.1 n may w h1 hr hf.small (by have := hf.bytes; omega) (by have := hf.known; omega) h.lo).mono fun e w' ⟨he, hs⟩ => ⟨he, Two.step (S' := putName n may S) h.below h1 h2 h3 hs⟩
  · rw [if_neg hr, if_neg hr]
    exact (Name_no p n may w (by simpa using hr)).mono fun e w' ⟨he, hs⟩ => ⟨he, h.rest hs⟩
/-- A second packer beside a first. -/
theorem One.second {w0 : World} {p mb q mc : Nat} {S : St} {w w' : World} (h : One w0 p mb S w) (hq : Pk w0.heap.size q mc none [] [] w') (h1 : w.heap.size ≤ q) (h2 : w.heap.size ≤ mc) (hb : Below w.heap.size w w') : Two w0 p mb q mc S ([], []) w' := by
  obtain ⟨g, hp⟩ := h.pk
  refine ⟨⟨g, none, hp.below hb, hq, fun k hk hk' => ?_⟩, below_then h.below h.lo hb⟩
  have := hp.own_lt k hk
  rcases hk' with e | e | e
  · omega
  · omega
  · cases e

/-! ### few -/
theorem few_f (l : List It) (hl : l.length ≤ 1000000) : ∀ (d i k : Nat), i + d = l.length → 2 * d + 2 ≤ k → beadrolllaw09_few.l0 k l (i : Int) = some (((l.drop i).take (50 - i)).all (fun x => decide (x.f1.size ≤ 17000)) && decide (l.length ≤ 40)) := by
  intro d
  induction d with
  | zero =>
    intro i k hd hk
    obtain ⟨k, rfl⟩ : ∃ j, k = j + 2 := ⟨k - 2, by omega⟩
    rw [beadrolllaw09_few.l0, if_neg (by omega), beadrolllaw09_few.j1, if_neg (by decide), List.drop_of_length_le (by omega)]
    simp; omega
  | succ d ih =>
    intro i k hd hk
    obtain ⟨k, rfl⟩ : ∃ j, k = j + 2 := ⟨k - 2, by omega⟩
    have hlt : i < l.length := by omega
    rw [beadrolllaw09_few.l0, if_pos (by omega), beadrolllaw09_few.j1]
    by_cases h50 : i < 50
    · rw [if_pos (by rw [decide_eq_true (by omega)]), if_pos (by omega), if_pos (by omega)]
      have hrd : rd_T31 l (i : Int) = l[i] := by
        unfold rd_T31; rw [Int.toNat_natCast, List.getD_eq_getElem?_getD, List.getElem?_eq_getElem hlt]; rfl
      obtain ⟨m, hm⟩ : ∃ m, 50 - i = m + 1 := ⟨50 - i - 1, by omega⟩
      rw [hrd, List.drop_eq_getElem_cons hlt, hm, List.take_succ_cons, List.all_cons]
      by_cases h17 : l[i].f1.size ≤ 17000
      · rw [if_neg (by omega), show wrap64 ((i : Int) + 1) = ((i + 1 : Nat) : Int) by rw [w64_id (by omega) (by omega)]; omega, ih (i + 1) k (by omega) (by omega), decide_eq_true h17, show 50 - (i + 1) = m by omega]; simp
      · rw [if_pos (by omega), decide_eq_false h17]; simp
    · rw [if_neg (by rw [decide_eq_false (by omega)]; decide), show 50 - i = 0 by omega]
      simp; omega
def fewB (l : List It) : Bool := l.all (fun x => decide (x.f1.size ≤ 17000)) && decide (l.length ≤ 40)
theorem few_is (l : List It) (hl : l.length ≤ 1000000) (k : Nat) (hk : 2 * l.length + 2 ≤ k) : beadrolllaw09_few.f k l = some (fewB l) := by
  unfold beadrolllaw09_few.f
  rw [show (0 : Int) = ((0 : Nat) : Int) from rfl, few_f l hl l.length 0 k (by omega) hk, List.drop_zero]
  congr 1
  unfold fewB
  by_cases h : l.length ≤ 40
  · rw [List.take_of_length_le (by omega)]
  · rw [decide_eq_false h]; simp
theorem few_big (l : List It) (hl : l.length ≤ 9223372036854775807) (k : Nat) : ∃ k, beadrolllaw09_few.f k l = some (fewB l) := by
  by_cases h : l.length ≤ 1000000
  · exact ⟨_, few_is l h _ (Nat.le_refl _)⟩
  · have hb : fewB l = false := by unfold fewB; rw [decide_eq_false (by omega)]; simp
    rw [hb]
    have : ∀ (d i k : Nat), i + d = 50 → 2 * d + 2 ≤ k → beadrolllaw09_few.l0 k l (i : Int) = some false := by
      intro d
      induction d with
      | zero =>
        intro i k hd hk
        obtain ⟨k, rfl⟩ : ∃ j, k = j + 2 := ⟨k - 2, by omega⟩
        rw [beadrolllaw09_few.l0, if_pos (by omega), beadrolllaw09_few.j1, if_neg (by rw [decide_eq_false (by omega)]; decide), decide_eq_false (by omega)]
      | succ d ih =>
        intro i k hd hk
        obtain ⟨k, rfl⟩ : ∃ j, k = j + 2 := ⟨k - 2, by omega⟩
        rw [beadrolllaw09_few.l0, if_pos (by omega), beadrolllaw09_few.j1, if_pos (by rw [decide_eq_true (by omega)]), if_pos (by omega), if_pos (by omega)]
        split
        · rfl
        · rw [show wrap64 ((i : Int) + 1) = ((i + 1 : Nat) : Int) by rw [w64_id (by omega) (by omega)]; omega, ih (i + 1) k (by omega) (by omega)]
    exact ⟨102, this 50 0 102 (by omega) (by omega)⟩
end Go.Proofs.Ytekbecpcbfhdmaa.Pack
/- What Read returns, in plain words: the program's and the reference's are one. -/
namespace Go.Proofs.Ytekbecpcbfhdmaa.PackFacts
open Go.RowKit Go.Proofs.Ytekbecpcbfhdmaa.PPak Go.Proofs.YtekbecpcbfhdmaaW.PrintWords Go.Proofs.YtekbecpcbfhdmaaW.PrintLast Go.Proofs.YtekbecpcbfhdmaaW.PrintMore Go.Proofs.Ytekbecpcbfhdmaa.Given Go.Proofs.Ytekbecpcbfhdmaa.Oct Go.Proofs.Ytekbecpcbfhdmaa.Name Go.Proofs.Ytekbecpcbfhdmaa.Pack
set_option linter.unusedVariables false
set_option linter.unusedSimpArgs false
/-- The byte at a place. -/
def by8 (m : ByteArray) (i : Nat) : Nat := (m.data.toList.getD i 0).toNat
theorem by8_lt (m : ByteArray) (i : Nat) : by8 m i < 256 := UInt8.toNat_lt _
theorem by8_get {m : ByteArray} {i : Nat} (h : i < m.size) : (m.data.toList[i]'(by rw [size_list]; exact h)).toNat = by8 m i := by
  unfold by8; rw [List.getD_eq_getElem?_getD, List.getElem?_eq_getElem (by rw [size_list]; exact h)]; rfl
theorem bt_by8 {m : ByteArray} {i : Nat} (h : i < m.size) : bt m (i : Int) = (by8 m i : Int) := by rw [bt_list m i h, by8_get h]
/-- What stands at a place: a label of c bytes, or a pointer. -/
inductive Pc where
  | lab (c : Nat)
  | ptr (t : Nat)
def pc (m : ByteArray) (i : Nat) : Option Pc :=
  if i < m.size then
    if 192 ≤ by8 m i then (if i + 1 < m.size then some (.ptr ((by8 m i - 192) * 256 + by8 m (i + 1))) else none)
    else if 64 ≤ by8 m i then none
    else if i + 1 + by8 m i ≤ m.size then some (.lab (by8 m i)) else none
  else none
theorem beN_two {m : ByteArray} {i : Nat} (h : i + 1 < m.size) : beN ((m.extract i m.size).data.toList.take 2) = by8 m i * 256 + by8 m (i + 1) := by
  rw [first_list (by omega), List.drop_eq_getElem_cons (by rw [size_list]; exact h)]
  have h1 := by8_get (m := m) (i := i) (by omega)
  have h2 := by8_get (m := m) (i := i + 1) h
  rw [← h1, ← h2]
  simp [beN]
theorem split_two (m : ByteArray) (i : Nat) (hi : i ≤ m.size) (hs : m.size ≤ 1000000) : octets_Split.f (m.extract i m.size) [2] =
    if i + 1 < m.size then some ([((by8 m i * 256 + by8 m (i + 1) : Nat) : Int)], m.extract (i + 2) m.size, 0) else some ([], ⟨#[]⟩, 2) := by
  unfold octets_Split.f
  rw [if_pos ⟨by rw [drop_size]; omega, by decide⟩, if_pos (by decide +kernel)]
  by_cases h : i + 1 < m.size
  · rw [if_pos h]
    have e : splitL (m.extract i m.size) [2] [] = some ([((by8 m i * 256 + by8 m (i + 1) : Nat) : Int)], m.extract (i + 2) m.size) := by
      rw [splitL, if_pos (by rw [drop_size]; show 2 ≤ m.size - i; omega), splitL]
      have e2 : (2 : Int).toNat = 2 := rfl
      rw [e2, beN_two h, drop_size, (ext_ext m i 2 hi (by omega)).2]; rfl
    rw [e]
  · rw [if_neg h]
    have e : splitL (m.extract i m.size) [2] [] = none := by
      rw [splitL, if_neg (by rw [drop_size]; show ¬ 2 ≤ m.size - i; omega)]
    rw [e]
/-- What at tells. -/
def atR (m : ByteArray) (i : Nat) : ByteArray × Int × Int × Bool :=
  match pc m i with
  | none => (⟨#[]⟩, 0, 0, false)
  | some (.lab c) => (m.extract i (i + 1 + c), -1, ((i + 1 + c : Nat) : Int), true)
  | some (.ptr t) => (⟨#[]⟩, (t : Int), ((i + 2 : Nat) : Int), true)
theorem at_split (m : ByteArray) (i k : Nat) (hi : i ≤ m.size) (hs : m.size ≤ 1000000) (x : ByteArray) (hc : ¬ (i < m.size ∧ by8 m i < 64 ∧ i + 1 + by8 m i ≤ m.size)) : pack_at.j0 (k + 1) m (i : Int) x false = some (atR m i) := by
  rw [pack_at.j0, if_neg (by decide), if_pos (by omega), if_pos (by omega)]
  show ((octets_Split.f (m.extract i m.size) [2]).bind _) = _
  rw [split_two m i hi hs]
  have hb := by8_lt m i
  have hb1 := by8_lt m (i + 1)
  by_cases h : i + 1 < m.size
  · rw [if_pos h, Option.bind_some]
    show (if (0 : Int) = 0 then _ else _) = _
    rw [if_pos rfl]
    show (if (0 : Int) < ((1 : Nat) : Int) then _ else _) = _
    rw [if_pos (by decide)]
    show (if ((by8 m i * 256 + by8 m (i + 1) : Nat) : Int) < 49152 then _ else some (_, wrap64 (IntKind.u64.wrap (((by8 m i * 256 + by8 m (i + 1) : Nat) : Int) - 49152)), _, _)) = _
    unfold atR pc
    rw [if_pos (by omega : i < m.size)]
    by_cases hp : 192 ≤ by8 m i
    · rw [if_neg (by omega), if_pos hp, if_pos h]
      simp only []
      have e1 : ((by8 m i * 256 + by8 m (i + 1) : Nat) : Int) - 49152 = (((by8 m i - 192) * 256 + by8 m (i + 1) : Nat) : Int) := by omega
      have e2 : (((by8 m i - 192) * 256 + by8 m (i + 1) : Nat) : Int) % 2 ^ 64 = (((by8 m i - 192) * 256 + by8 m (i + 1) : Nat) : Int) := by omega
      have e3 : IntKind.u64.wrap (((by8 m i - 192) * 256 + by8 m (i + 1) : Nat) : Int) = (((by8 m i - 192) * 256 + by8 m (i + 1) : Nat) : Int) := by
        simp only [IntKind.wrap, IntKind.bits, IntKind.signed, e2]; rw [if_neg (by simp)]
      rw [e1, e3, w64_id (by omega) (by omega), w64_id (by omega) (by omega)]
      rfl
    · rw [if_pos (by omega), if_neg hp]
      by_cases h64 : 64 ≤ by8 m i
      · rw [if_pos h64]
      · rw [if_neg h64, if_neg (by omega)]
  · rw [if_neg h, Option.bind_some]
    show (if (2 : Int) = 0 then _ else _) = _
    rw [if_neg (by decide)]
    unfold atR pc
    by_cases hlt : i < m.size
    · rw [if_pos hlt]
      by_cases hp : 192 ≤ by8 m i
      · rw [if_pos hp, if_neg h]
      · rw [if_neg hp]
        by_cases h64 : 64 ≤ by8 m i
        · rw [if_pos h64]
        · rw [if_neg h64, if_neg (by omega)]
    · rw [if_neg hlt]
theorem at_f (m : ByteArray) (i k : Nat) (hi : i ≤ m.size) (hs : m.size ≤ 1000000) : pack_at.f (k + 1) m (i : Int) = some (atR m i) := by
  unfold pack_at.f
  rw [if_pos (by omega), if_pos (by omega)]
  show ((octets_Cut.f (m.extract i m.size) 1).bind _) = _
  have hsz : (m.extract i m.size).size = m.size - i := drop_size m i
  by_cases hlt : i < m.size
  · have hcut := cut_first hlt
    rw [by8_get hlt] at hcut
    by_cases hfit : by8 m i ≤ m.size - i - 1
    · rw [if_pos hfit] at hcut
      rw [cut_some (by omega) hcut, Option.bind_some]
      show (if (0 : Int) = 0 then _ else _) = _
      rw [if_pos rfl]
      have hs1 : (m.extract (i + 1) (i + 1 + by8 m i)).size = by8 m i := by rw [ByteArray.size_extract]; omega
      show pack_at.j0 (k + 1) m (i : Int) (m.extract (i + 1 + by8 m i) m.size) (decide (((m.extract (i + 1) (i + 1 + by8 m i)).size : Int) ≤ 63)) = _
      rw [hs1]
      by_cases h64 : by8 m i < 64
      · rw [decide_eq_true (by omega), pack_at.j0, if_pos rfl, drop_size]
        have e1 : wrap64 ((m.size : Int) - ((m.size - (i + 1 + by8 m i) : Nat) : Int)) = ((i + 1 + by8 m i : Nat) : Int) := by rw [w64_id (by omega) (by omega)]; omega
        rw [e1, if_pos (by omega), if_pos (by omega), if_pos (by omega)]
        unfold atR pc
        rw [if_pos hlt, if_neg (by omega), if_neg (by omega), if_pos (by omega)]
        rfl
      · rw [decide_eq_false (by omega)]
        exact at_split m i k hi hs _ (by omega)
    · rw [if_neg hfit] at hcut
      rw [cut_none (by omega) hcut, Option.bind_some]
      show (if (2 : Int) = 0 then _ else _) = _
      rw [if_neg (by decide)]
      exact at_split m i k hi hs _ (by omega)
  · have hcut : cutOf (m.extract i m.size) 1 = none := by unfold cutOf; rw [if_neg (by omega)]
    rw [cut_none (by omega) hcut, Option.bind_some]
    show (if (2 : Int) = 0 then _ else _) = _
    rw [if_neg (by decide)]
    exact at_split m i k hi hs _ (by omega)
end Go.Proofs.Ytekbecpcbfhdmaa.PackFacts
/- The loops of Read, the program's and the reference's. -/
namespace Go.Proofs.Ytekbecpcbfhdmaa.PackFacts
open Go.RowKit Go.Proofs.Ytekbecpcbfhdmaa.PPak Go.Proofs.YtekbecpcbfhdmaaW.PrintWords Go.Proofs.YtekbecpcbfhdmaaW.PrintLast Go.Proofs.YtekbecpcbfhdmaaW.PrintMore Go.Proofs.Ytekbecpcbfhdmaa.Given Go.Proofs.Ytekbecpcbfhdmaa.Oct Go.Proofs.Ytekbecpcbfhdmaa.Name Go.Proofs.Ytekbecpcbfhdmaa.Pack
set_option linter.unusedVariables false
set_option linter.unusedSimpArgs false
def err : ByteArray × Int × Int := (⟨#[]⟩, 0, 2)
def nxt (nx : Int) (i : Nat) : Int := if nx < 0 then (i : Int) else nx
/-- Read, from place i on, with n read, nx told, below fr. -/
def readS (m : ByteArray) : Nat → Nat → ByteArray → Int → Nat → ByteArray × Int × Int
  | 0, _, _, _, _ => err
  | d + 1, i, n, nx, fr =>
    match pc m i with
    | none => err
    | some (.ptr t) => if fr ≤ t then err else readS m d t n (nxt nx (i + 2)) t
    | some (.lab c) => if c = 0 then (if rightB (n ++ rootB) = true then (n ++ rootB, nxt nx (i + 1), 0) else err) else readS m d (i + 1 + c) (n ++ m.extract i (i + 1 + c)) nx fr
def mu (m : ByteArray) (i fr : Nat) : Nat := fr * (m.size + 1) + (m.size - i)
theorem mu_ptr {m : ByteArray} {i fr t : Nat} (h : t < fr) : mu m t t < mu m i fr := by
  unfold mu
  obtain ⟨j, rfl⟩ : ∃ j, fr = t + 1 + j := ⟨fr - t - 1, by omega⟩
  have h1 : (t + 1 + j) * (m.size + 1) = t * (m.size + 1) + (m.size + 1) + j * (m.size + 1) := by rw [Nat.add_mul, Nat.add_mul, Nat.one_mul]
  have h2 : 0 ≤ j * (m.size + 1) := Nat.zero_le _
  omega
theorem pc_lab {m : ByteArray} {i c : Nat} (h : pc m i = some (.lab c)) : i < m.size ∧ c = by8 m i ∧ c < 64 ∧ i + 1 + c ≤ m.size := by
  unfold pc at h
  by_cases h1 : i < m.size
  · rw [if_pos h1] at h
    by_cases h2 : 192 ≤ by8 m i
    · rw [if_pos h2] at h
      by_cases h3 : i + 1 < m.size
      · rw [if_pos h3] at h; cases h
      · rw [if_neg h3] at h; cases h
    · rw [if_neg h2] at h
      by_cases h3 : 64 ≤ by8 m i
      · rw [if_pos h3] at h; cases h
      · rw [if_neg h3] at h
        by_cases h4 : i + 1 + by8 m i ≤ m.size
        · rw [if_pos h4] at h
          cases h
          exact ⟨h1, rfl, by omega, h4⟩
        · rw [if_neg h4] at h; cases h
  · rw [if_neg h1] at h; cases h
theorem pc_ptr {m : ByteArray} {i t : Nat} (h : pc m i = some (.ptr t)) : i + 1 < m.size ∧ 192 ≤ by8 m i ∧ t = (by8 m i - 192) * 256 + by8 m (i + 1) ∧ t < 16384 := by
  unfold pc at h
  by_cases h1 : i < m.size
  · rw [if_pos h1] at h
    by_cases h2 : 192 ≤ by8 m i
    · rw [if_pos h2] at h
      by_cases h3 : i + 1 < m.size
      · rw [if_pos h3] at h
        have hb := by8_lt m i
        have hb1 := by8_lt m (i + 1)
        cases h
        exact ⟨h3, h2, rfl, by omega⟩
      · rw [if_neg h3] at h; cases h
    · rw [if_neg h2] at h
      by_cases h3 : 64 ≤ by8 m i
      · rw [if_pos h3] at h; cases h
      · rw [if_neg h3] at h
        by_cases h4 : i + 1 + by8 m i ≤ m.size
        · rw [if_pos h4] at h; cases h
        · rw [if_neg h4] at h; cases h
  · rw [if_neg h1] at h; cases h
theorem mu_lab {m : ByteArray} {i fr c : Nat} (h : i < m.size) : mu m (i + 1 + c) fr < mu m i fr := by unfold mu; omega
theorem long_wrong {n : ByteArray} (h : 255 < n.size) : rightB n = false := by
  cases hr : rightB n with
  | false => rfl
  | true => have := right_size hr; omega
theorem readS_long (m : ByteArray) : ∀ (d i : Nat) (n : ByteArray) (nx : Int) (fr : Nat), 255 < n.size → readS m d i n nx fr = err := by
  intro d
  induction d with
  | zero => intros; rfl
  | succ d ih =>
    intro i n nx fr hn
    rw [readS]
    cases hp : pc m i with
    | none => rfl
    | some p =>
      cases p with
      | ptr t =>
        simp only []
        by_cases hf : fr ≤ t
        · rw [if_pos hf]
        · rw [if_neg hf]; exact ih _ _ _ _ hn
      | lab c =>
        simp only []
        by_cases h0 : c = 0
        · rw [if_pos h0, long_wrong (by rw [ByteArray.size_append]; omega), if_neg (by decide)]
        · rw [if_neg h0]; exact ih _ _ _ _ (by rw [ByteArray.size_append]; omega)
theorem readS_up (m : ByteArray) : ∀ (d e i : Nat) (n : ByteArray) (nx : Int) (fr : Nat), mu m i fr < d → d ≤ e → readS m e i n nx fr = readS m d i n nx fr := by
  intro d
  induction d with
  | zero => intro e i n nx fr h; omega
  | succ d ih =>
    intro e i n nx fr h he
    obtain ⟨e, rfl⟩ : ∃ j, e = j + 1 := ⟨e - 1, by omega⟩
    rw [readS, readS]
    cases hp : pc m i with
    | none => rfl
    | some p =>
      cases p with
      | ptr t =>
        simp only []
        by_cases hf : fr ≤ t
        · rw [if_pos hf, if_pos hf]
        · rw [if_neg hf, if_neg hf]
          have := mu_ptr (m := m) (i := i) (show t < fr by omega)
          exact ih _ _ _ _ _ (by omega) (by omega)
      | lab c =>
        simp only []
        have hl := pc_lab hp
        have := mu_lab (fr := fr) (c := c) hl.1
        by_cases h0 : c = 0
        · rw [if_pos h0, if_pos h0]
        · rw [if_neg h0, if_neg h0]; exact ih _ _ _ _ _ (by omega) (by omega)
theorem lab_root {m : ByteArray} {i : Nat} (h : i < m.size) (h0 : by8 m i = 0) : m.extract i (i + 1) = rootB := by
  apply list_inj
  rw [mid_list, List.drop_eq_getElem_cons (by rw [size_list]; exact h)]
  have := by8_get h
  rw [h0] at this
  have h1 : m.data.toList[i]'(by rw [size_list]; exact h) = 0 := UInt8.toNat_inj.mp (by rw [this]; rfl)
  rw [h1]; rfl
theorem lab_not {m : ByteArray} {i c : Nat} (h : i < m.size) (hc : c = by8 m i) (h0 : ¬ c = 0) : ¬ (m.extract i (i + 1 + c)).toList = [0] := by
  intro e
  rw [ByteArray.toList_eq, show i + 1 + c = i + (1 + c) from by omega, mid_list, List.drop_eq_getElem_cons (by rw [size_list]; exact h), Nat.add_comm 1 c, List.take_succ_cons] at e
  have h1 := (List.cons.inj e).1
  have := by8_get h
  rw [h1] at this
  apply h0; rw [hc, ← this]; rfl
theorem lab_size {m : ByteArray} {i c : Nat} (h : i + 1 + c ≤ m.size) : (m.extract i (i + 1 + c)).size = 1 + c := by rw [ByteArray.size_extract]; omega
theorem lab_more {m n : ByteArray} {i c : Nat} (h : i + 1 + c ≤ m.size) (hc : c < 64) (hn : n.size < 300) : (n ++ m.extract i (i + 1 + c)).size ≤ 1000000 := by rw [ByteArray.size_append, lab_size h]; omega
theorem pj3 (k : Nat) (i : Nat) (n : ByteArray) (nx : Int) : pack_Read.j3 (k + 1) (i : Int) n nx = some (if rightB n = true then (n, nxt nx i, 0) else err) := by
  rw [pack_Read.j3]
  show (if rightB n = true then _ else _) = _
  unfold nxt
  by_cases hr : rightB n = true
  · rw [if_pos hr, if_pos hr]
    by_cases hx : nx < 0
    · rw [if_pos hx, if_pos hx]
    · rw [if_neg hx, if_neg hx]
  · rw [if_neg hr, if_neg hr]; rfl
theorem pread (m : ByteArray) (hs : m.size ≤ 1000000) : ∀ (d i k : Nat) (n : ByteArray) (nx : Int) (fr : Nat), i ≤ m.size → fr ≤ m.size → mu m i fr < d → 3 * d + 10 ≤ k → pack_Read.l0 k m (i : Int) n nx (fr : Int) = some (readS m d i n nx fr) := by
  intro d
  induction d with
  | zero => intro i k n nx fr _ _ h; omega
  | succ d ih =>
    intro i k n nx fr hi hfr hmu hk
    obtain ⟨k, rfl⟩ : ∃ j, k = j + 4 := ⟨k - 4, by omega⟩
    rw [pack_Read.l0]
    by_cases hn : (n.size : Int) ≤ 255
    · rw [if_pos hn, at_f m i (k + 2) hi hs, Option.bind_some]
      unfold atR
      rw [readS]
      cases hp : pc m i with
      | none =>
        simp only []
        rw [if_neg (by decide), pack_Read.j2, if_pos rfl]; rfl
      | some p =>
        cases p with
        | ptr t =>
          simp only []
          rw [if_pos trivial]
          have hpp := pc_ptr hp
          by_cases hf : fr ≤ t
          · rw [decide_eq_true (by omega), pack_Read.j2, if_pos rfl, if_pos hf]; rfl
          · have hm := mu_ptr (m := m) (i := i) (show t < fr by omega)
            rw [decide_eq_false (by omega), pack_Read.j2, if_neg (by decide), if_pos (by omega), if_neg hf]
            unfold nxt
            by_cases hx : nx < 0
            · rw [if_pos hx, if_pos hx]
              exact ih t (k + 2) n _ t (by omega) (by omega) (by omega) (by omega)
            · rw [if_neg hx, if_neg hx]
              exact ih t (k + 2) n _ t (by omega) (by omega) (by omega) (by omega)
        | lab c =>
          simp only []
          have hl := pc_lab hp
          have hm := mu_lab (fr := fr) (c := c) hl.1
          rw [if_pos trivial, decide_eq_false (by omega), pack_Read.j2, if_neg (by decide), if_neg (by decide), if_pos (by rw [ByteArray.size_extract]; omega)]
          by_cases h0 : c = 0
          · subst h0
            rw [lab_root hl.1 hl.2.1.symm, if_pos (by decide +kernel), if_pos rfl]
            have := pj3 (k + 1) (i + 1 + 0) (n ++ rootB) nx
            exact this
          · rw [if_neg (lab_not hl.1 hl.2.1 h0), if_neg h0]
            exact ih _ _ _ _ _ (by omega) hfr (by omega) (by omega)
    · rw [if_neg hn, readS_long m (d + 1) i n nx fr (by omega)]
      have := pj3 (k + 2) i n nx
      rw [long_wrong (by omega), if_neg (by decide)] at this
      exact this
set_option maxHeartbeats 2000000 in
theorem rread (m : ByteArray) (hs : m.size ≤ 1000000) : ∀ (d i k : Nat) (n : ByteArray) (nx : Int) (fr : Nat), i ≤ m.size → fr ≤ m.size → n.size ≤ 1000000 → mu m i fr < d → 3 * d + 1000 ≤ k → beadrollref09_Read.l0 k m (i : Int) n nx (fr : Int) = some (readS m d i n nx fr) := by
  intro d
  induction d with
  | zero => intro i k n nx fr _ _ _ h; omega
  | succ d ih =>
    intro i k n nx fr hi hfr hns hmu hk
    obtain ⟨k, rfl⟩ : ∃ j, k = j + 4 := ⟨k - 4, by omega⟩
    by_cases hn : n.size < 300
    · by_cases hlt : i < m.size
      · rw [beadrollref09_Read.l0, if_pos (by omega), decide_eq_true (by omega), beadrollref09_Read.j2, if_pos rfl, if_pos (by omega), if_pos (by omega), bt_by8 hlt]
        have hb := by8_lt m i
        have hb1 := by8_lt m (i + 1)
        rw [readS]
        unfold pc
        rw [if_pos hlt, w64_id (x := (by8 m i : Int)) (by omega) (by omega)]
        by_cases h0 : by8 m i = 0
        · rw [if_pos (show (by8 m i : Int) = 0 by omega), if_pos (show n.size + 1 ≤ 9223372036854775807 by omega), if_neg (show ¬ 192 ≤ by8 m i by omega), if_neg (show ¬ 64 ≤ by8 m i by omega), if_pos (show i + 1 + by8 m i ≤ m.size by omega)]
          simp only []
          rw [if_pos h0, rright_f _ _ (by omega), w64_id (x := (i : Int) + 1) (by omega) (by omega)]
          unfold nxt
          have fin : ∀ x : Int, ((some (rightB (n ++ rootB))).bind fun t => if t = true then some (n ++ rootB, x, (0 : Int)) else some (⟨#[]⟩, 0, 2)) = some (if rightB (n ++ rootB) = true then (n ++ rootB, x, 0) else err) := by
            intro x
            rw [Option.bind_some]
            by_cases hr : rightB (n ++ rootB) = true
            · rw [if_pos hr, if_pos hr]
            · rw [if_neg hr, if_neg hr]; rfl
          by_cases hx : nx < 0
          · rw [if_pos hx, if_pos hx]; exact fin _
          · rw [if_neg hx, if_neg hx]; exact fin _
        · rw [if_neg (by omega)]
          by_cases hp : 192 ≤ by8 m i
          · rw [if_pos (by omega), if_pos hp, w64_id (x := (i : Int) + 1) (by omega) (by omega)]
            by_cases h1 : i + 1 < m.size
            · rw [if_neg (by omega), if_pos (by omega), if_pos (by omega), if_pos h1, show ((i : Int) + 1) = ((i + 1 : Nat) : Int) from rfl, bt_by8 h1]
              have e1 : wrap64 ((wrap64 ((wrap64 ((by8 m i : Int) - 192)) * 256)) + (wrap64 (by8 m (i + 1) : Int))) = (((by8 m i - 192) * 256 + by8 m (i + 1) : Nat) : Int) := by
                rw [w64_id (x := (by8 m i : Int) - 192) (by omega) (by omega), w64_id (x := ((by8 m i : Int) - 192) * 256) (by omega) (by omega), w64_id (x := (by8 m (i + 1) : Int)) (by omega) (by omega), w64_id (by omega) (by omega)]
                omega
              rw [e1]
              simp only []
              generalize (by8 m i - 192) * 256 + by8 m (i + 1) = t
              by_cases hf : fr ≤ t
              · rw [if_pos (by omega), if_pos hf]; rfl
              · have hm := mu_ptr (m := m) (i := i) (show t < fr by omega)
                rw [if_neg (by omega), if_neg hf, w64_id (by omega) (by omega)]
                unfold nxt
                by_cases hx : nx < 0
                · rw [if_pos hx, if_pos hx]
                  exact ih t (k + 2) n _ t (by omega) (by omega) hns (by omega) (by omega)
                · rw [if_neg hx, if_neg hx]
                  exact ih t (k + 2) n _ t (by omega) (by omega) hns (by omega) (by omega)
            · rw [if_pos (by omega), if_neg h1]; rfl
          · rw [if_neg (by omega), if_neg hp]
            by_cases h64 : 64 ≤ by8 m i
            · rw [if_pos (by omega), if_pos h64]; rfl
            · rw [if_neg (by omega), if_neg h64, w64_id (x := (i : Int) + 1) (by omega) (by omega), w64_id (x := (i : Int) + 1 + (by8 m i : Int)) (by omega) (by omega)]
              by_cases hfit : i + 1 + by8 m i ≤ m.size
              · have hm := mu_lab (fr := fr) (c := by8 m i) hlt
                rw [if_neg (by omega), if_pos (by omega), if_pos (by omega), if_pos hfit]
                simp only []
                have e2 : ((i : Int) + 1 + (by8 m i : Int)).toNat = i + 1 + by8 m i := by omega
                have e3 : wrap64 ((i : Int) + wrap64 (1 + (by8 m i : Int))) = ((i + 1 + by8 m i : Nat) : Int) := by rw [w64_id (x := 1 + (by8 m i : Int)) (by omega) (by omega), w64_id (by omega) (by omega)]; omega
                have hes : (m.extract i (i + 1 + by8 m i)).size = 1 + by8 m i := lab_size hfit
                have hns2 : (n ++ m.extract i (i + 1 + by8 m i)).size ≤ 1000000 := lab_more hfit (by omega) hn
                have hmd : mu m (i + 1 + by8 m i) fr < d := by omega
                rw [if_neg h0, Int.toNat_natCast, e2, e3]
                have hle : n.size + (m.extract i (i + 1 + by8 m i)).size ≤ 9223372036854775807 := by omega
                rw [if_pos hle]
                exact ih (i + 1 + by8 m i) (k + 2) (n ++ m.extract i (i + 1 + by8 m i)) nx fr hfit hfr hns2 hmd (by omega)
              · rw [if_pos (by omega), if_neg hfit]; rfl
      · rw [beadrollref09_Read.l0, if_neg (by omega), beadrollref09_Read.j2, if_neg (by decide), readS]
        unfold pc
        rw [if_neg hlt]; rfl
    · rw [readS_long m (d + 1) i n nx fr (by omega), beadrollref09_Read.l0]
      by_cases hlt : i < m.size
      · rw [if_pos (by omega), decide_eq_false (by omega), beadrollref09_Read.j2, if_neg (by decide)]; rfl
      · rw [if_neg (by omega), beadrollref09_Read.j2, if_neg (by decide)]; rfl
/-- Read. -/
def readR (m : ByteArray) (i : Nat) : ByteArray × Int × Int := readS m (mu m i i + 1) i ⟨#[]⟩ (-1) i
def fuel (m : ByteArray) : Nat := 3 * (m.size * (m.size + 1) + m.size + 1) + 1003
theorem mu_fuel {m : ByteArray} {i : Nat} (h : i ≤ m.size) : mu m i i ≤ m.size * (m.size + 1) + m.size := by
  unfold mu
  have := Nat.mul_le_mul_right (m.size + 1) h
  omega
theorem pread_f (m : ByteArray) (hs : m.size ≤ 1000000) (i k : Nat) (hi : i ≤ m.size) (hk : fuel m ≤ k) : pack_Read.f k m (i : Int) = some (readR m i) := by
  have := mu_fuel hi
  unfold fuel at hk
  obtain ⟨k, rfl⟩ : ∃ j, k = j + 1 := ⟨k - 1, by omega⟩
  unfold pack_Read.f
  rw [if_neg (by omega), decide_eq_false (by omega), pack_Read.j0, if_neg (by decide)]
  exact pread m hs _ i k _ _ i hi hi (Nat.lt_succ_self _) (by omega)
theorem rread_f (m : ByteArray) (hs : m.size ≤ 1000000) (i k : Nat) (hi : i ≤ m.size) (hk : fuel m ≤ k) : beadrollref09_Read.f k m (i : Int) = some (readR m i) := by
  have := mu_fuel hi
  unfold fuel at hk
  obtain ⟨k, rfl⟩ : ∃ j, k = j + 1 := ⟨k - 1, by omega⟩
  unfold beadrollref09_Read.f
  rw [if_neg (by omega), decide_eq_false (by omega), beadrollref09_Read.j0, if_neg (by decide)]
  exact rread m hs _ i k _ _ i hi hi (by decide) (Nat.lt_succ_self _) (by omega)
theorem read_arg (m : ByteArray) (i : Int) (k : Nat) (h : i < 0 ∨ (m.size : Int) < i) (hk : 1 ≤ k) : pack_Read.f k m i = some (⟨#[]⟩, 0, 1) ∧ beadrollref09_Read.f k m i = some (⟨#[]⟩, 0, 1) := by
  obtain ⟨k, rfl⟩ : ∃ j, k = j + 1 := ⟨k - 1, by omega⟩
  unfold pack_Read.f beadrollref09_Read.f
  by_cases h0 : i < 0
  · rw [if_pos h0, if_pos h0, pack_Read.j0, beadrollref09_Read.j0, if_pos rfl]; exact ⟨rfl, rfl⟩
  · rw [if_neg h0, if_neg h0, decide_eq_true (by omega), pack_Read.j0, beadrollref09_Read.j0, if_pos rfl]; exact ⟨rfl, rfl⟩
end Go.Proofs.Ytekbecpcbfhdmaa.PackFacts
/- What was put is read again: names, their labels and pointers, as they stand in bytes. -/
namespace Go.Proofs.Ytekbecpcbfhdmaa.Pack
open Go.RowKit Go.Proofs.YtekbecpcbfhdmaaW.PrintWords Go.Proofs.Ytekbecpcbfhdmaa.Oct Go.Proofs.Ytekbecpcbfhdmaa.Name Go.Proofs.Ytekbecpcbfhdmaa.PPak Go.Proofs.Ytekbecpcbfhdmaa.PackFacts
set_option linter.unusedVariables false
/-- The name m stands at place i, its pointers below fr; what stands behind it is at nx. -/
inductive Spells (B : ByteArray) : Nat → Nat → List UInt8 → Nat → Prop where
  | root {i fr : Nat} (h : pc B i = some (.lab 0)) : Spells B i fr [0] (i + 1)
  | lab {i fr c : Nat} {m : List UInt8} {nx : Nat} (h : pc B i = some (.lab c)) (h0 : 0 < c) (r : Spells B (i + 1 + c) fr m nx) : Spells B i fr ((B.data.toList.drop i).take (1 + c) ++ m) nx
  | ptr {i fr t : Nat} {m : List UInt8} {nx : Nat} (h : pc B i = some (.ptr t)) (h0 : t < fr) (r : Spells B t t m nx) : Spells B i fr m (i + 2)
theorem nxt_nonneg {nx : Int} (h : 0 ≤ nx) (i : Nat) : nxt nx i = nx := by unfold nxt; rw [if_neg (by omega)]
theorem app_data (a b : ByteArray) : (a ++ b).data.toList = a.data.toList ++ b.data.toList := app_list a b
theorem slice_list (B : ByteArray) (i j : Nat) : (B.extract i (i + j)).data.toList = (B.data.toList.drop i).take j := mid_list B i j
/-- What stands there is read. -/
theorem read_spells {B : ByteArray} {i fr : Nat} {m : List UInt8} {nx : Nat} (h : Spells B i fr m nx) : ∀ (d : Nat) (n x : ByteArray) (nx0 : Int), mu B i fr < d → x.data.toList = n.data.toList ++ m → rightB x = true → readS B d i n nx0 fr = (x, nxt nx0 nx, 0) := by
  induction h with
  | @root i fr h =>
    intro d n x nx0 hd hx hr
    obtain ⟨d, rfl⟩ : ∃ j, d = j + 1 := ⟨d - 1, by omega⟩
    have e : n ++ rootB = x := by apply list_inj; rw [app_data, hx]; rfl
    rw [readS, h]
    simp only [if_true]
    rw [e, if_pos hr]
  | @lab i fr c m nx h h0 r ih =>
    intro d n x nx0 hd hx hr
    obtain ⟨d, rfl⟩ : ∃ j, d = j + 1 := ⟨d - 1, by omega⟩
    have hp := pc_lab h
    have hmu := mu_lab (m := B) (i := i) (fr := fr) (c := c) hp.1
    rw [readS, h]
    simp only
    rw [if_neg (by omega)]
    refine ih d _ x nx0 (by omega) ?_ hr
    rw [app_data, hx, List.append_assoc, show i + 1 + c = i + (1 + c) by omega, slice_list]
  | @ptr i fr t m nx h h0 r ih =>
    intro d n x nx0 hd hx hr
    obtain ⟨d, rfl⟩ : ∃ j, d = j + 1 := ⟨d - 1, by omega⟩
    have hmu := mu_ptr (m := B) (i := i) h0
    rw [readS, h]
    simp only
    rw [if_neg (by omega), ih d n x _ (by omega) hx hr]
    congr 2
    rw [nxt_nonneg]
    unfold nxt; split <;> omega
theorem readR_spells {B : ByteArray} {i : Nat} {x : ByteArray} {nx : Nat} (h : Spells B i i x.data.toList nx) (hr : rightB x = true) : readR B i = (x, (nx : Int), 0) := by
  have := read_spells h (mu B i i + 1) ⟨#[]⟩ x (-1) (Nat.lt_succ_self _) (by simp) hr
  exact this
/-! ### more bytes behind -/
theorem by8_more {B C : ByteArray} {E : List UInt8} (h : C.data.toList = B.data.toList ++ E) {i : Nat} (hi : i < B.size) : by8 C i = by8 B i := by
  unfold by8; rw [h, List.getD_eq_getElem?_getD, List.getD_eq_getElem?_getD, List.getElem?_append_left (by rw [size_list]; exact hi)]
theorem size_more {B C : ByteArray} {E : List UInt8} (h : C.data.toList = B.data.toList ++ E) : B.size ≤ C.size := by rw [← size_list C, h, List.length_append, size_list]; omega
theorem pc_more {B C : ByteArray} {E : List UInt8} (h : C.data.toList = B.data.toList ++ E) {i : Nat} {x : Pc} (hp : pc B i = some x) : pc C i = some x := by
  have hs := size_more h
  unfold pc at hp ⊢
  by_cases h1 : i < B.size
  · rw [if_pos h1] at hp
    rw [if_pos (by omega), by8_more h h1]
    by_cases h2 : 192 ≤ by8 B i
    · rw [if_pos h2] at hp ⊢
      by_cases h3 : i + 1 < B.size
      · rw [if_pos h3] at hp; rw [if_pos (by omega), by8_more h h3]; exact hp
      · rw [if_neg h3] at hp; cases hp
    · rw [if_neg h2] at hp ⊢
      by_cases h3 : 64 ≤ by8 B i
      · rw [if_pos h3] at hp; cases hp
      · rw [if_neg h3] at hp ⊢
        by_cases h4 : i + 1 + by8 B i ≤ B.size
        · rw [if_pos h4] at hp; rw [if_pos (by omega)]; exact hp
        · rw [if_neg h4] at hp; cases hp
  · rw [if_neg h1] at hp; cases hp
theorem Spells.more {B C : ByteArray} {E : List UInt8} (h : C.data.toList = B.data.toList ++ E) {i fr : Nat} {m : List UInt8} {nx : Nat} (hs : Spells B i fr m nx) : Spells C i fr m nx := by
  induction hs with
  | root h1 => exact .root (pc_more h h1)
  | @lab i fr c m nx h1 h0 r ih =>
    have hp := pc_lab h1
    have e : (B.data.toList.drop i).take (1 + c) = (C.data.toList.drop i).take (1 + c) := by
      rw [h, List.drop_append_of_le_length (by rw [size_list]; omega), List.take_append_of_le_length (by rw [List.length_drop, size_list]; omega)]
    rw [e]
    exact .lab (pc_more h h1) h0 ih
  | ptr h1 h0 r ih => exact .ptr (pc_more h h1) h0 ih
/-- A place where a name stands whole. -/
def Whole (bs : List UInt8) (q : Nat) (m : ByteArray) : Prop := rightB m = true ∧ q < bs.length ∧ ∃ nx, Spells (arr bs) q q m.data.toList nx
theorem Whole.more {bs : List UInt8} {q : Nat} {m : ByteArray} (h : Whole bs q m) (E : List UInt8) : Whole (bs ++ E) q m := by
  obtain ⟨h1, h2, nx, h3⟩ := h
  exact ⟨h1, by rw [List.length_append]; omega, nx, h3.more (E := E) (by rw [arr_list, arr_list])⟩
def Knows' (S : St) : Prop := ∀ m q, look S.2 m = some q → Whole S.1 q m
theorem pc_first {bs : List UInt8} {x : UInt8} {l : List UInt8} (hx : x.toNat < 64) (hl : x.toNat ≤ l.length) : pc (arr (bs ++ x :: l)) bs.length = some (.lab x.toNat) := by
  have hb : by8 (arr (bs ++ x :: l)) bs.length = x.toNat := by
    unfold by8; rw [arr_list, List.getD_eq_getElem?_getD, List.getElem?_append_right (Nat.le_refl _)]; simp
  unfold pc
  rw [if_pos (by rw [arr_size, List.length_append, List.length_cons]; omega), hb, if_neg (by omega), if_neg (by omega), if_pos (by rw [arr_size, List.length_append, List.length_cons]; omega)]
theorem pc_ptr2 {bs : List UInt8} {q : Nat} (hq : q < 16384) : pc (arr (bs ++ beB 2 (49152 + q))) bs.length = some (.ptr q) := by
  have hb : beB 2 (49152 + q) = [UInt8.ofNat ((49152 + q) / 256 % 256), UInt8.ofNat ((49152 + q) % 256)] := two _
  have h0 : by8 (arr (bs ++ beB 2 (49152 + q))) bs.length = 192 + q / 256 := by
    unfold by8; rw [arr_list, List.getD_eq_getElem?_getD, List.getElem?_append_right (Nat.le_refl _), hb]; simp; omega
  have h1 : by8 (arr (bs ++ beB 2 (49152 + q))) (bs.length + 1) = q % 256 := by
    unfold by8; rw [arr_list, List.getD_eq_getElem?_getD, List.getElem?_append_right (by omega), hb, show bs.length + 1 - bs.length = 1 by omega]; simp; omega
  unfold pc
  rw [h0, h1, if_pos (by rw [arr_size, List.length_append, beB_len]; omega), if_pos (by omega), if_pos (by rw [arr_size, List.length_append, beB_len]; omega)]
  congr 2; omega
/-- A name's first label, by its bytes. -/
theorem head_bytes {n : ByteArray} (h : rightB n = true) (hn : ¬ n = rootB) : ∃ (x : UInt8) (l : List UInt8), (head n).data.toList = x :: l ∧ x.toNat = l.length ∧ 0 < l.length ∧ l.length < 64 := by
  obtain ⟨s, r, hc, hs, _, hr, e, hlt⟩ := right_step h hn
  have hh := head_size n
  unfold cutOf at hc
  by_cases h1 : 1 ≤ n.size
  · rw [if_pos h1] at hc
    by_cases h2 : beN (n.data.toList.take 1) ≤ n.size - 1
    · rw [if_pos h2] at hc
      simp only [Option.some.injEq, Prod.mk.injEq] at hc
      obtain ⟨e1, e2⟩ := hc
      have hss : s.size = beN (n.data.toList.take 1) := by rw [← e1, ByteArray.size_extract]; omega
      have hrs : r.size = n.size - (1 + beN (n.data.toList.take 1)) := by rw [← e2, drop_size]
      rw [e, hrs] at hh
      cases hd : n.data.toList with
      | nil => have := size_list n; rw [hd] at this; simp at this; omega
      | cons x t =>
        have hb : beN (n.data.toList.take 1) = x.toNat := by rw [hd]; simp [beN]
        have hhead : (head n).data.toList = (x :: t).take (1 + x.toNat) := by
          have h3 := head_par h hn
          have h4 : (head n).data.toList.length = 1 + x.toNat := by rw [size_list, hh, hb]; omega
          rw [← hd, ← h3, List.take_left' h4]
        rw [hhead, show 1 + x.toNat = x.toNat + 1 by omega, List.take_succ_cons]
        have ht : t.length = n.size - 1 := by have := size_list n; rw [hd] at this; simp at this; omega
        refine ⟨x, t.take x.toNat, rfl, ?_, ?_, ?_⟩ <;> rw [List.length_take] <;> omega
    · rw [if_neg h2] at hc; cases hc
  · rw [if_neg h1] at hc; cases hc
theorem put_spells (may : Bool) : ∀ (k : Nat) (n : ByteArray) (S : St) (st : Nat), n.size ≤ k → rightB n = true → st ≤ S.1.length → Small S.2 → (∀ m q, look S.2 m = some q → m.size ≤ n.size → q < st ∧ Whole S.1 q m) →
    ∃ out, (putName n may S).1 = S.1 ++ out ∧ (∀ fr, st ≤ fr → Spells (arr (S.1 ++ out)) S.1.length fr n.data.toList (S.1 ++ out).length) ∧
      Small (putName n may S).2 ∧ 0 < out.length ∧ ∀ m q, look (putName n may S).2 m = some q → look S.2 m = some q ∨ Whole (S.1 ++ out) q m := by
  intro k
  induction k with
  | zero => intro n S st hk h; have := right_pos h; omega
  | succ k ih =>
    intro n S st hk h hst hsm hK
    by_cases hn : n = rootB
    · subst hn
      rw [putName_root]
      refine ⟨[0], rfl, fun fr _ => ?_, hsm, by decide, fun m q hq => .inl hq⟩
      have := pc_first (bs := S.1) (x := 0) (l := []) (by decide) (by decide)
      have h2 := Spells.root (fr := fr) this
      rw [List.length_append]; exact h2
    · have hp := par_size h hn
      have hpr := par_right h hn
      obtain ⟨x, l, hx, hxl, hl0, hl1⟩ := head_bytes h hn
      have hpos : ∀ K1 : List (ByteArray × Nat), (∀ m q, look K1 m = some q → m.size ≤ (par n).size → q < st ∧ Whole S.1 q m) → Small K1 →
          ∃ out, (putName (par n) may (S.1 ++ (head n).data.toList, K1)).1 = S.1 ++ out ∧ (∀ fr, st ≤ fr → Spells (arr (S.1 ++ out)) S.1.length fr n.data.toList (S.1 ++ out).length) ∧
            Small (putName (par n) may (S.1 ++ (head n).data.toList, K1)).2 ∧ 0 < out.length ∧ ∀ m q, look (putName (par n) may (S.1 ++ (head n).data.toList, K1)).2 m = some q → look K1 m = some q ∨ Whole (S.1 ++ out) q m := by
        intro K1 hK1 hs1
        obtain ⟨out, e1, e2, e3, e5, e4⟩ := ih (par n) (S.1 ++ (head n).data.toList, K1) st (by omega) hpr (by rw [List.length_append]; omega) hs1 (fun m q hq hm => by
          obtain ⟨a, b⟩ := hK1 m q hq hm
          exact ⟨a, b.more _⟩)
        refine ⟨(head n).data.toList ++ out, by rw [e1, List.append_assoc], fun fr hfr => ?_, e3, by rw [List.length_append]; omega, fun m q hq => ?_⟩
        · have h3 := e2 fr hfr
          simp only at h3
          rw [List.append_assoc] at h3
          have hpc : pc (arr (S.1 ++ ((head n).data.toList ++ out))) S.1.length = some (.lab x.toNat) := by
            rw [hx]; exact pc_first (l := l ++ out) (by omega) (by rw [List.length_append]; omega)
          have h4 : S.1.length + 1 + x.toNat = (S.1 ++ (head n).data.toList).length := by rw [List.length_append, hx, List.length_cons]; omega
          have h5 := Spells.lab (fr := fr) hpc (by omega) (by rw [h4]; exact h3)
          have h6 : ((arr (S.1 ++ ((head n).data.toList ++ out))).data.toList.drop S.1.length).take (1 + x.toNat) = (head n).data.toList := by
            rw [arr_list, List.drop_left, List.take_left' (by rw [hx, List.length_cons]; omega)]
          rw [h6, head_par h hn] at h5
          exact h5
        · rcases e4 m q hq with h3 | h3
          · exact .inl h3
          · refine .inr ?_
            simp only at h3
            rw [List.append_assoc] at h3; exact h3
      rw [putName_step may S h hn]
      cases hlk : look S.2 n with
      | some q =>
        have hq := hsm n q hlk
        obtain ⟨hqs, hqw⟩ := hK n q hlk (Nat.le_refl _)
        simp only
        split
        · refine ⟨beB 2 (49152 + q), rfl, fun fr hfr => ?_, hsm, by rw [beB_len]; decide, fun m q hq => .inl hq⟩
          obtain ⟨_, _, nx, h3⟩ := hqw.more (beB 2 (49152 + q))
          have := Spells.ptr (fr := fr) (pc_ptr2 (bs := S.1) hq) (by omega) h3
          rw [List.length_append, beB_len]; exact this
        · exact hpos S.2 (fun m q hq hm => hK m q hq (by omega)) hsm
      | none =>
        simp only
        by_cases h16 : S.1.length < 16384
        · rw [if_pos h16]
          obtain ⟨out, e1, e2, e3, e5, e4⟩ := hpos ((n, S.1.length) :: S.2) (fun m q hq hm => by
            simp only [look] at hq
            rw [if_neg (fun e => by rw [e] at hm; omega)] at hq
            exact hK m q hq (by omega)) (hsm.put h16)
          refine ⟨out, e1, e2, e3, e5, fun m q hq => ?_⟩
          rcases e4 m q hq with h3 | h3
          · simp only [look] at h3
            by_cases hm : m = n
            · rw [if_pos hm] at h3
              injection h3 with h3
              subst hm
              refine .inr ⟨h, by rw [← h3, List.length_append]; omega, _, by rw [← h3]; exact e2 S.1.length hst⟩
            · rw [if_neg hm] at h3
              exact .inl h3
          · exact .inr h3
        · rw [if_neg h16]
          exact hpos S.2 (fun m q hq hm => hK m q hq (by omega)) hsm
/-- A name put: what it knows stands whole, and it stands at its place. -/
theorem name_put {n : ByteArray} (may : Bool) {S : St} (h : rightB n = true) (hs : Small S.2) (hk : Knows' S) :
    ∃ out, (putName n may S).1 = S.1 ++ out ∧ Spells (arr (S.1 ++ out)) S.1.length S.1.length n.data.toList (S.1 ++ out).length ∧ Knows' (putName n may S) := by
  obtain ⟨out, e1, e2, e3, e5, e4⟩ := put_spells may n.size n S S.1.length (Nat.le_refl _) h (Nat.le_refl _) hs (fun m q hq _ => ⟨(hk m q hq).2.1, hk m q hq⟩)
  refine ⟨out, e1, e2 _ (Nat.le_refl _), fun m q hq => ?_⟩
  rw [e1]
  rcases e4 m q hq with h3 | h3
  · exact (hk m q h3).more _
  · exact h3
theorem item_more (x : It) (S : St) (hs : Small S.2) (hk : Knows' S) : ∃ out, (itemStep x S).1 = S.1 ++ out ∧ Knows' (itemStep x S) ∧ (x.f0 = false → rightB x.f1 = true → Spells (arr (S.1 ++ out)) S.1.length S.1.length x.f1.data.toList (S.1 ++ out).length) := by
  unfold itemStep
  by_cases h0 : x.f0 = true
  · rw [if_pos h0]
    exact ⟨x.f1.data.toList, rfl, fun m q hq => (hk m q hq).more _, fun h => by rw [h0] at h; cases h⟩
  · rw [if_neg h0]
    by_cases h1 : rightB x.f1 = true
    · rw [if_pos h1]
      obtain ⟨out, e1, e2, e3⟩ := name_put x.f2 h1 hs hk
      exact ⟨out, e1, e3, fun _ _ => e2⟩
    · rw [if_neg h1]
      exact ⟨[], by simp, hk, fun _ h => absurd h h1⟩
theorem run_knows (l : List It) (hx : ∀ x ∈ l, x.f1.size ≤ 17000) : Knows' (runI l ([], [])) ∧ Small (runI l ([], [])).2 := by
  refine ⟨?_, (run_fit l ([], []) 0 hx (fit_nil 0)).small⟩
  induction hn : l.length generalizing l with
  | zero => obtain rfl := List.length_eq_zero_iff.mp hn; intro m q hq; simp [runI, look] at hq
  | succ n ih =>
    obtain ⟨init, last, rfl⟩ : ∃ a b, l = a ++ [b] := by
      rcases List.eq_nil_or_concat l with e | ⟨a, b, e⟩
      · rw [e] at hn; simp at hn
      · exact ⟨a, b, by rw [e]; simp⟩
    rw [runI_snoc]
    have hi : ∀ x ∈ init, x.f1.size ≤ 17000 := fun x h => hx x (by simp [h])
    obtain ⟨out, _, h2, _⟩ := item_more last (runI init ([], [])) (run_fit init ([], []) 0 hi (fit_nil 0)).small (ih init hi (by simpa using hn))
    exact h2
theorem run_more : ∀ (m l : List It), (∀ x ∈ l ++ m, x.f1.size ≤ 17000) → ∃ out, (runI (l ++ m) ([], [])).1 = (runI l ([], [])).1 ++ out := by
  intro m
  induction m with
  | nil => intro l _; exact ⟨[], by simp⟩
  | cons x m ih =>
    intro l hx
    obtain ⟨o2, e2⟩ := ih (l ++ [x]) (by simpa using hx)
    have hl : ∀ y ∈ l, y.f1.size ≤ 17000 := fun y h => hx y (by simp [h])
    obtain ⟨o1, e1, _, _⟩ := item_more x (runI l ([], [])) (run_knows l hl).2 (run_knows l hl).1
    refine ⟨o1 ++ o2, ?_⟩
    rw [show l ++ x :: m = l ++ [x] ++ m by simp, e2, runI_snoc, e1, List.append_assoc]
/-- Each name that was put is read again, at its place. -/
theorem back_read (l : List It) (hx : ∀ x ∈ l, x.f1.size ≤ 17000) (i : Nat) (hi : i < l.length) (h0 : l[i].f0 = false) (hr : rightB l[i].f1 = true) :
    (runI (l.take i) ([], [])).1.length ≤ (arr (runI l ([], [])).1).size ∧ readR (arr (runI l ([], [])).1) (runI (l.take i) ([], [])).1.length = (l[i].f1, ((runI (l.take (i + 1)) ([], [])).1.length : Int), 0) := by
  have hxi : ∀ x ∈ l.take i, x.f1.size ≤ 17000 := fun x h => hx x (List.mem_of_mem_take h)
  obtain ⟨out, e1, _, e3⟩ := item_more l[i] (runI (l.take i) ([], [])) (run_knows _ hxi).2 (run_knows _ hxi).1
  have hsp := e3 h0 hr
  have hsn : runI (l.take (i + 1)) ([], []) = itemStep l[i] (runI (l.take i) ([], [])) := by rw [List.take_succ_eq_append_getElem hi, runI_snoc]
  obtain ⟨o2, e2⟩ := run_more (l.drop (i + 1)) (l.take (i + 1)) (by rw [List.take_append_drop]; exact hx)
  rw [List.take_append_drop, hsn, e1] at e2
  rw [hsn, e1, e2]
  refine ⟨by rw [arr_size, List.length_append, List.length_append]; omega, readR_spells (hsp.more (E := o2) (by rw [arr_list, arr_list])) hr⟩
end Go.Proofs.Ytekbecpcbfhdmaa.Pack
