/- Joined out of this session's own texts: contracts and facts that the claim's row is drawn from, each with its own conditions. -/
import Derived.Test.YtnpiglojamhpiaaJoined2
namespace Go.Proofs.Ytnpiglojamhpiaa.PRd
open Go.RowKit Go.Proofs.YtnpiglojamhpiaaW.PrintWords Go.Proofs.YtnpiglojamhpiaaW.PrintLast Go.Proofs.YtnpiglojamhpiaaW.PrintMore Go.Proofs.Ytnpiglojamhpiaa.Given
attribute [local go_sem] max2_int min2_int max_two min_two max_three min_three max_four min_four   -- for this text's walks alone
set_option linter.unusedVariables false
set_option linter.unusedSimpArgs false
mutual
def beadrollref10_Read.l0 : Nat → ByteArray → Int → Int → List ByteArray → ByteArray → Int → Option (List ByteArray × Bool)
  | 0, _, _, _, _, _, _ => none
  | k + 1, x0, x1, x2, x10, x11, x12 => if x12 < (x11.size : Int) then (if 0 ≤ x12 then (if (bt x11 x12) = 110 then (beadrollref10_Read.j1 k x0 x1 x2 x10 x11 x12 (bt x11 x12) ((bt x11 x12) == 110)) else (beadrollref10_Read.j1 k x0 x1 x2 x10 x11 x12 (bt x11 x12) ((bt x11 x12) == 117))) else (none)) else (some (x10, (x1 == x2)))
def beadrollref10_Read.j1 : Nat → ByteArray → Int → Int → List ByteArray → ByteArray → Int → Int → Bool → Option (List ByteArray × Bool)
  | 0, _, _, _, _, _, _, _, _ => none
  | k + 1, x0, x1, x2, x10, x11, x12, x32, x38 => if x38 = true then ((beadrollref09_Read.f k x0 x1).bind fun bt193 => (if bt193.2.2 = 0 then (if 0 ≤ x12 then (if x12 < (x11.size : Int) then (if (bt x11 x12) = 117 then (if 0 ≤ x1 then (if x1 ≤ bt193.2.1 then (if bt193.2.1 ≤ (x0.size : Int) then (beadrollref10_Read.j2 k x0 x2 x10 x11 x12 bt193.1 bt193.2.1 (bt193.1.toList != (x0.extract (x1 : Int).toNat (bt193.2.1 : Int).toNat).toList)) else (none)) else (none)) else (none)) else (beadrollref10_Read.j2 k x0 x2 x10 x11 x12 bt193.1 bt193.2.1 false)) else (none)) else (none)) else (beadrollref10_Read.j2 k x0 x2 x10 x11 x12 bt193.1 bt193.2.1 true))) else (if x32 = 116 then (if 0 ≤ x1 then (if x1 ≤ (x0.size : Int) then ((beadrollref01_Pieces.f k (x0.extract (x1 : Int).toNat x0.size) 1).bind fun bt199 => (if bt199.2 = 0 then (beadrollref10_Read.j3 k x0 x1 x2 x10 x11 x12 ((bt199.1.length : Int) == 0)) else (beadrollref10_Read.j3 k x0 x1 x2 x10 x11 x12 true))) else (none)) else (none)) else (if x32 = 111 then (if (wrap64 (x1 + (wrap64 (x2 - x1)))) > x2 then (some (([] : List ByteArray), false)) else (if 0 ≤ x1 then (if x1 ≤ (wrap64 (x1 + (wrap64 (x2 - x1)))) then (if (wrap64 (x1 + (wrap64 (x2 - x1)))) ≤ (x0.size : Int) then (if x10.length < 8796093022208 then (beadrollref10_Read.l0 k x0 (wrap64 (x1 + (wrap64 (x2 - x1)))) x2 (x10 ++ [x0.extract (x1 : Int).toNat ((wrap64 (x1 + (wrap64 (x2 - x1)))) : Int).toNat]) x11 (wrap64 (x12 + 1))) else (none)) else (none)) else (none)) else (none))) else (if x32 = 104 then (if (wrap64 (x1 + 16)) > x2 then (some (([] : List ByteArray), false)) else (if 0 ≤ x1 then (if x1 ≤ (wrap64 (x1 + 16)) then (if (wrap64 (x1 + 16)) ≤ (x0.size : Int) then (if x10.length < 8796093022208 then (beadrollref10_Read.l0 k x0 (wrap64 (x1 + 16)) x2 (x10 ++ [x0.extract (x1 : Int).toNat ((wrap64 (x1 + 16)) : Int).toNat]) x11 (wrap64 (x12 + 1))) else (none)) else (none)) else (none)) else (none))) else (if 0 ≤ x12 then (if x12 < (x11.size : Int) then (if (wrap64 (x1 + (wrap64 ((wrap64 (bt x11 x12)) - 48)))) > x2 then (some (([] : List ByteArray), false)) else (if 0 ≤ x1 then (if x1 ≤ (wrap64 (x1 + (wrap64 ((wrap64 (bt x11 x12)) - 48)))) then (if (wrap64 (x1 + (wrap64 ((wrap64 (bt x11 x12)) - 48)))) ≤ (x0.size : Int) then (if x10.length < 8796093022208 then (beadrollref10_Read.l0 k x0 (wrap64 (x1 + (wrap64 ((wrap64 (bt x11 x12)) - 48)))) x2 (x10 ++ [x0.extract (x1 : Int).toNat ((wrap64 (x1 + (wrap64 ((wrap64 (bt x11 x12)) - 48)))) : Int).toNat]) x11 (wrap64 (x12 + 1))) else (none)) else (none)) else (none)) else (none))) else (none)) else (none)))))
def beadrollref10_Read.j2 : Nat → ByteArray → Int → List ByteArray → ByteArray → Int → ByteArray → Int → Bool → Option (List ByteArray × Bool)
  | 0, _, _, _, _, _, _, _, _ => none
  | k + 1, x0, x2, x10, x11, x12, x14, x15, x63 => if x63 = true then (some (([] : List ByteArray), false)) else (if x10.length < 8796093022208 then (beadrollref10_Read.l0 k x0 x15 x2 (x10 ++ [x14]) x11 (wrap64 (x12 + 1))) else (none))
def beadrollref10_Read.j3 : Nat → ByteArray → Int → Int → List ByteArray → ByteArray → Int → Bool → Option (List ByteArray × Bool)
  | 0, _, _, _, _, _, _, _ => none
  | k + 1, x0, x1, x2, x10, x11, x12, x84 => if x84 = true then (some (([] : List ByteArray), false)) else (if (wrap64 (x1 + (wrap64 (x2 - x1)))) > x2 then (some (([] : List ByteArray), false)) else (if 0 ≤ x1 then (if x1 ≤ (wrap64 (x1 + (wrap64 (x2 - x1)))) then (if (wrap64 (x1 + (wrap64 (x2 - x1)))) ≤ (x0.size : Int) then (if x10.length < 8796093022208 then (beadrollref10_Read.l0 k x0 (wrap64 (x1 + (wrap64 (x2 - x1)))) x2 (x10 ++ [x0.extract (x1 : Int).toNat ((wrap64 (x1 + (wrap64 (x2 - x1)))) : Int).toNat]) x11 (wrap64 (x12 + 1))) else (none)) else (none)) else (none)) else (none)))
end
def beadrollref10_Read.f (k : Nat) (a0 : ByteArray) (a1 : Int) (a2 : Int) (a3 : Int) : Option (List ByteArray × Bool) := (beadrollref10_Parts.f k a3).bind fun t192 => (if 0 ≤ a2 then (if a2 ≤ (a0.size : Int) then (beadrollref10_Read.l0 k (a0.extract 0 (a2 : Int).toNat) a1 a2 ([] : List ByteArray) t192 0) else (none)) else (none))
set_option maxHeartbeats 8000000 in
set_option maxRecDepth 100000 in
theorem beadrollref10_Read.calls (k : Nat) (a0 : ByteArray) (a1 : Int) (a2 : Int) (a3 : Int) (r1 : List ByteArray) (r2 : Bool) (w : World) (h : beadrollref10_Read.f k a0 a1 a2 a3 = some (r1, r2)) :
    Calls Try.prog 53 #[.string a0, .int .i64 a1, .int .i64 a2, .int .i64 a3] w fun e w' => ∃ v0_ : Value, e = .returned (.tuple #[v0_, .bool r2]) ∧ Kd.R Kd.string 9 w' w.heap.size (fun _ => True) v0_ r1 ∧ Below w.heap.size w w' := by
  have HB := Aside0.mk (Below.refl w.heap.size w)
  have H : ((beadrollref10_Parts.f k a3).bind fun t192 => (if 0 ≤ a2 then (if a2 ≤ (a0.size : Int) then (beadrollref10_Read.l0 k (a0.extract 0 (a2 : Int).toNat) a1 a2 ([] : List ByteArray) t192 0) else (none)) else (none))) = some (r1, r2) := h
  clear h
  replace H := Option.bind_eq_some_iff.mp H
  obtain ⟨t192, A50, H⟩ := H
  replace H : (if 0 ≤ a2 then (if a2 ≤ (a0.size : Int) then (beadrollref10_Read.l0 k (a0.extract 0 (a2 : Int).toNat) a1 a2 ([] : List ByteArray) t192 0) else (none)) else (none)) = some (r1, r2) := H
  have A5 := Aside0.mk A50
  clear A50
  by_cases c6 : 0 ≤ a2
  · rw [if_pos c6] at H
    have c6b0 := eq_true c6
    have c6b1 : decide (0 ≤ a2) = true := decide_eq_true c6
    clear c6
    by_cases c7 : a2 ≤ (a0.size : Int)
    · rw [if_pos c7] at H
      have c7b0 := eq_true c7
      have c7b1 : decide (a2 ≤ (a0.size : Int)) = true := decide_eq_true c7
      clear c7
      have H' := Aside0.mk H
      clear H
      go_enter Try.func53, Try.ntmps53
      go_wp2_with (first | ((with_reducible refine gate_callee (f := 56) rfl ?_); refine goesL_ (some 20) rfl rfl Try.func56 (by kernel_rfl) rfl #[.int .i64 a3] rfl (by (try simp only [List.map_toArray, List.map_cons, List.map_nil]); first | done | rfl | (simp only [List.length_drop, List.length_take]; rfl)) ?_; (with_reducible refine (beadrollref10_Parts.calls k a3 t192 _ A5.out).mono ?_); rintro e w' ⟨rfl, ⟨nd, rfl⟩⟩; refine ⟨_, rfl, ?_⟩))
      go_loopg [1, 10, 12] k (fun kq v1 v10 v12 w' => ∃ (x1_1 : Int) (x10_1 : List ByteArray) (x12_1 : Int), v1 = .int .i64 x1_1 ∧ v12 = .int .i64 x12_1 ∧ Aside0 (beadrollref10_Read.l0 kq (a0.extract 0 (a2 : Int).toNat) x1_1 a2 x10_1 t192 x12_1 = some (r1, r2)) ∧ Aside0 (kq ≤ k) ∧ Aside0 (Kd.R Kd.string 9 w' w.heap.size (fun _ => True) v10 x10_1) ∧ Aside0 (Below w.heap.size w w'))
      case atStart => exact ⟨(a1), (([] : List ByteArray)), (0), (by first | rfl | (simp; done) | (simp [*]; done)), (by first | rfl | (simp; done) | (simp [*]; done)), H', ⟨Nat.le_refl _⟩, ⟨by first | exact Kd.R_nil _ _ _ _ _ | exact Kd.N_nil _ _ _ _ _ | exact Kd.V_nil _ _ _ _ _ | exact Kd.Q_nil _ _ _ _ _ | exact Kd.S_nil _ _ _ _ _⟩, ⟨by repeat (first | (with_reducible first | exact HB.out | apply below_alloc | apply pw_below_drewN | apply below_drew1) | exact HB.out)⟩⟩
      case round =>
        clear H'
        try clear p2
        try clear c5
        try clear c6
        try clear c6b0
        try clear c6b1
        try clear c7
        try clear c7b0
        try clear c7b1
        obtain ⟨x1_1, x10_1, x12_1, rfl, rfl, HA, HK1, HO_10, HB⟩ := hrel
        cases gk with
        | zero => exact absurd HA.out (by simp [beadrollref10_Read.l0])
        | succ k1 =>
          have H := HA.out
          clear HA
          simp only [beadrollref10_Read.l0] at H
          by_cases c8 : x12_1 < (t192.size : Int)
          · rw [if_pos c8] at H
            have c8b0 : decide (x12_1 < (t192.size : Int)) = true := decide_eq_true c8
            clear c8
            by_cases c9 : 0 ≤ x12_1
            · rw [if_pos c9] at H
              have c9b0 : decide (0 ≤ x12_1) = true := decide_eq_true c9
              clear c9
              have HC11 := Aside0.mk H
              clear H
              have p10 : 0 ≤ (x12_1 : Int) := of_decide_eq_true (by first | (with_reducible assumption) | assumption)
              have q10 : x12_1 < (t192.size : Int) := of_decide_eq_true (by first | (with_reducible assumption) | assumption)
              have hx10 := bt_at t192 x12_1
              replace p10 := eq_true p10
              replace q10 := eq_true q10
              go_upto_if 38 with (fail)
              go_cut [38] (fun v38 wc => ∃ (kq : Nat) (x38_10 : Bool), v38 = .bool x38_10 ∧ Aside0 (beadrollref10_Read.j1 kq (a0.extract 0 (a2 : Int).toNat) x1_1 a2 x10_1 t192 x12_1 (bt t192 x12_1) x38_10 = some (r1, r2)) ∧ Aside0 (kq ≤ k1) ∧ Aside0 (Kd.R Kd.string 9 wc w.heap.size (fun _ => True) u10 x10_1) ∧ Aside0 (Below w.heap.size w wc))
              case first =>
                have H := HC11.out
                clear HC11
                by_cases c12 : (bt t192 x12_1) = 110
                · rw [if_pos c12] at H
                  have c12b0 : ((bt t192 x12_1) == 110) = true := beq_iff_eq.mpr c12
                  have c12b1 : ((bt t192 x12_1) != 110) = false := bne_eq_false_iff_eq.mpr c12
                  clear c12
                  (first | rw [c12b0] | (simp only [i64_w, i32_w]; rw [c12b0]) | skip)
                  have H' := Aside0.mk H
                  clear H
                  go_wp2
                  go_meet
                  case rel => exact ⟨_, (((bt t192 x12_1) == 110)), (by first | rfl | (simp; done) | (simp [*]; done)), H', ⟨by have := HK1.out; first | omega | exact Nat.le_refl _⟩, ⟨by (with_reducible repeat (first | apply Kd.R_alloc | apply Kd.R_drewN | apply Kd.R_drew)); exact HO_10.out⟩, ⟨by repeat (first | (with_reducible first | exact HB.out | apply below_alloc | apply pw_below_drewN | apply below_drew1) | exact HB.out)⟩⟩
                · rw [if_neg c12] at H
                  have c12b0 : ((bt t192 x12_1) == 110) = false := beq_eq_false_iff_ne.mpr c12
                  have c12b1 : ((bt t192 x12_1) != 110) = true := bne_iff_ne.mpr c12
                  (first | rw [c12b0] | (simp only [i64_w, i32_w]; rw [c12b0]) | skip)
                  have H' := Aside0.mk H
                  clear H
                  go_wp2
                  go_meet
                  case rel => exact ⟨_, (((bt t192 x12_1) == 117)), (by first | rfl | (simp; done) | (simp [*]; done)), H', ⟨by have := HK1.out; first | omega | exact Nat.le_refl _⟩, ⟨by (with_reducible repeat (first | apply Kd.R_alloc | apply Kd.R_drewN | apply Kd.R_drew)); exact HO_10.out⟩, ⟨by repeat (first | (with_reducible first | exact HB.out | apply below_alloc | apply pw_below_drewN | apply below_drew1) | exact HB.out)⟩⟩
              case rest =>
                clear HC11
                try clear c1
                try clear p1
                try clear q1
                try clear hx1
                try clear p2
                try clear c5
                try clear c6
                try clear c6b0
                try clear c6b1
                try clear c7
                try clear c7b0
                try clear c7b1
                try clear c8
                try clear c8b0
                try clear c9
                try clear c9b0
                try clear p10
                try clear q10
                try clear hx10
                try clear c12
                try clear c12b0
                try clear c12b1
                try clear p10
                try clear p2
                try clear q10
                obtain ⟨kq, x38_10, rfl, HA, HJ10, HO_10, HB⟩ := hcut
                cases kq with
                | zero => exact absurd HA.out (by simp [beadrollref10_Read.j1])
                | succ kj10 =>
                  have H := HA.out
                  clear HA
                  simp only [beadrollref10_Read.j1] at H
                  by_cases c13 : x38_10 = true
                  · subst c13
                    have H1 : ((beadrollref09_Read.f kj10 (a0.extract 0 (a2 : Int).toNat) x1_1).bind fun bt193 => (if bt193.2.2 = 0 then (if 0 ≤ x12_1 then (if x12_1 < (t192.size : Int) then (if (bt t192 x12_1) = 117 then (if 0 ≤ x1_1 then (if x1_1 ≤ bt193.2.1 then (if bt193.2.1 ≤ ((a0.extract 0 (a2 : Int).toNat).size : Int) then (beadrollref10_Read.j2 kj10 (a0.extract 0 (a2 : Int).toNat) a2 x10_1 t192 x12_1 bt193.1 bt193.2.1 (bt193.1.toList != ((a0.extract 0 (a2 : Int).toNat).extract (x1_1 : Int).toNat (bt193.2.1 : Int).toNat).toList)) else (none)) else (none)) else (none)) else (beadrollref10_Read.j2 kj10 (a0.extract 0 (a2 : Int).toNat) a2 x10_1 t192 x12_1 bt193.1 bt193.2.1 false)) else (none)) else (none)) else (beadrollref10_Read.j2 kj10 (a0.extract 0 (a2 : Int).toNat) a2 x10_1 t192 x12_1 bt193.1 bt193.2.1 true))) = some (r1, r2) := by rw [if_pos rfl] at H; exact H
                    clear H
                    have H := H1
                    clear H1
                    replace H := Option.bind_eq_some_iff.mp H
                    obtain ⟨⟨t193, t194, t195⟩, A140, H⟩ := H
                    replace H : (if t195 = 0 then (if 0 ≤ x12_1 then (if x12_1 < (t192.size : Int) then (if (bt t192 x12_1) = 117 then (if 0 ≤ x1_1 then (if x1_1 ≤ t194 then (if t194 ≤ ((a0.extract 0 (a2 : Int).toNat).size : Int) then (beadrollref10_Read.j2 kj10 (a0.extract 0 (a2 : Int).toNat) a2 x10_1 t192 x12_1 t193 t194 (t193.toList != ((a0.extract 0 (a2 : Int).toNat).extract (x1_1 : Int).toNat (t194 : Int).toNat).toList)) else (none)) else (none)) else (none)) else (beadrollref10_Read.j2 kj10 (a0.extract 0 (a2 : Int).toNat) a2 x10_1 t192 x12_1 t193 t194 false)) else (none)) else (none)) else (beadrollref10_Read.j2 kj10 (a0.extract 0 (a2 : Int).toNat) a2 x10_1 t192 x12_1 t193 t194 true)) = some (r1, r2) := H
                    have A14 := Aside0.mk A140
                    clear A140
                    have HC15 := Aside0.mk H
                    clear H
                    go_upto_region 13 with (first | ((with_reducible refine gate_callee (f := 66) rfl ?_); refine goesL_ (some 44) rfl rfl Try.func66 (by kernel_rfl) rfl #[.string (a0.extract 0 (a2 : Int).toNat), .int .i64 x1_1] rfl (by (try simp only [List.map_toArray, List.map_cons, List.map_nil]); first | done | rfl | (simp only [List.length_drop, List.length_take]; rfl)) ?_; (with_reducible refine (beadrollref09_Read.calls kj10 (a0.extract 0 (a2 : Int).toNat) x1_1 t193 t194 t195 _ A14.out).mono ?_); rintro e w16 ⟨rfl, hb⟩; refine ⟨_, rfl, ?_⟩; have n0_ := Aside0.mk (Kd.R_below (by (with_reducible repeat (first | apply Kd.R_alloc | apply Kd.R_drewN | apply Kd.R_drew)); exact HO_10.out) hb); have n1_ := Aside0.mk (below_step (by repeat (first | (with_reducible first | exact HB.out | apply below_alloc | apply pw_below_drewN | apply below_drew1) | exact HB.out)) hb); clear HO_10; clear HB; have HO_10 := n0_; have HB := n1_; clear n0_ n1_; (try clear hb); (try clear hb2); (try clear hk); (try clear hi)))
                    (try simp only [Act.put, List.setIfInBounds_toArray, List.set_cons_zero, List.set_cons_succ])
                    go_cut [63] (fun v63 wc => ∃ (kq : Nat) (x63_14 : Bool), v63 = .bool x63_14 ∧ Aside0 (beadrollref10_Read.j2 kq (a0.extract 0 (a2 : Int).toNat) a2 x10_1 t192 x12_1 t193 t194 x63_14 = some (r1, r2)) ∧ Aside0 (kq ≤ kj10) ∧ Aside0 (Kd.R Kd.string 9 wc w.heap.size (fun _ => True) u10 x10_1) ∧ Aside0 (Below w.heap.size w wc))
                    case first =>
                      have H := HC15.out
                      clear HC15
                      by_cases c17 : t195 = 0
                      · rw [if_pos c17] at H
                        have c17b0 : (t195 == 0) = true := beq_iff_eq.mpr c17
                        have c17b1 : (t195 != 0) = false := bne_eq_false_iff_eq.mpr c17
                        clear c17
                        (first | rw [c17b0] | (simp only [i64_w, i32_w]; rw [c17b0]) | skip)
                        by_cases c18 : 0 ≤ x12_1
                        · rw [if_pos c18] at H
                          have c18b0 : decide (0 ≤ x12_1) = true := decide_eq_true c18
                          clear c18
                          by_cases c19 : x12_1 < (t192.size : Int)
                          · rw [if_pos c19] at H
                            have c19b0 : decide (x12_1 < (t192.size : Int)) = true := decide_eq_true c19
                            clear c19
                            by_cases c21 : (bt t192 x12_1) = 117
                            · rw [if_pos c21] at H
                              have c21b0 : ((bt t192 x12_1) == 117) = true := beq_iff_eq.mpr c21
                              have c21b1 : ((bt t192 x12_1) != 117) = false := bne_eq_false_iff_eq.mpr c21
                              clear c21
                              by_cases c22 : 0 ≤ x1_1
                              · rw [if_pos c22] at H
                                have c22b0 := eq_true c22
                                have c22b1 : decide (0 ≤ x1_1) = true := decide_eq_true c22
                                clear c22
                                by_cases c23 : x1_1 ≤ t194
                                · rw [if_pos c23] at H
                                  have c23b0 := eq_true c23
                                  have c23b1 : decide (x1_1 ≤ t194) = true := decide_eq_true c23
                                  clear c23
                                  by_cases c24 : t194 ≤ ((a0.extract 0 (a2 : Int).toNat).size : Int)
                                  · rw [if_pos c24] at H
                                    have c24b0 := eq_true c24
                                    have c24b1 : decide (t194 ≤ ((a0.extract 0 (a2 : Int).toNat).size : Int)) = true := decide_eq_true c24
                                    try have c24b1v := c24b1
                                    try simp only [ByteArray.size_extract, Nat.sub_zero] at c24b1v
                                    try have c24b1w := eq_true (of_decide_eq_true c24b1v)
                                    clear c24
                                    have H' := Aside0.mk H
                                    clear H
                                    have p20 : 0 ≤ (x12_1 : Int) := of_decide_eq_true (by first | (with_reducible assumption) | assumption)
                                    have q20 : x12_1 < (t192.size : Int) := of_decide_eq_true (by first | (with_reducible assumption) | assumption)
                                    have hx20 := bt_at t192 x12_1
                                    replace p20 := eq_true p20
                                    replace q20 := eq_true q20
                                    go_wp2
                                    go_meet
                                    case rel => exact ⟨_, ((t193.toList != ((a0.extract 0 (a2 : Int).toNat).extract (x1_1 : Int).toNat (t194 : Int).toNat).toList)), (by first | rfl | (simp; done) | (simp [*]; done)), H', ⟨by have := HK1.out; have := HJ10.out; first | omega | exact Nat.le_refl _⟩, ⟨by (with_reducible repeat (first | apply Kd.R_alloc | apply Kd.R_drewN | apply Kd.R_drew)); exact HO_10.out⟩, ⟨by repeat (first | (with_reducible first | exact HB.out | apply below_alloc | apply pw_below_drewN | apply below_drew1) | exact HB.out)⟩⟩
                                  · rw [if_neg c24] at H
                                    exact absurd H (by simp)
                                · rw [if_neg c23] at H
                                  exact absurd H (by simp)
                              · rw [if_neg c22] at H
                                exact absurd H (by simp)
                            · rw [if_neg c21] at H
                              have c21b0 : ((bt t192 x12_1) == 117) = false := beq_eq_false_iff_ne.mpr c21
                              have c21b1 : ((bt t192 x12_1) != 117) = true := bne_iff_ne.mpr c21
                              have H' := Aside0.mk H
                              clear H
                              have p20 : 0 ≤ (x12_1 : Int) := of_decide_eq_true (by first | (with_reducible assumption) | assumption)
                              have q20 : x12_1 < (t192.size : Int) := of_decide_eq_true (by first | (with_reducible assumption) | assumption)
                              have hx20 := bt_at t192 x12_1
                              replace p20 := eq_true p20
                              replace q20 := eq_true q20
                              go_wp2
                              go_meet
                              case rel => exact ⟨_, (false), (by first | rfl | (simp; done) | (simp [*]; done)), H', ⟨by have := HK1.out; have := HJ10.out; first | omega | exact Nat.le_refl _⟩, ⟨by (with_reducible repeat (first | apply Kd.R_alloc | apply Kd.R_drewN | apply Kd.R_drew)); exact HO_10.out⟩, ⟨by repeat (first | (with_reducible first | exact HB.out | apply below_alloc | apply pw_below_drewN | apply below_drew1) | exact HB.out)⟩⟩
                          · rw [if_neg c19] at H
                            exact absurd H (by simp)
                        · rw [if_neg c18] at H
                          exact absurd H (by simp)
                      · rw [if_neg c17] at H
                        have c17b0 : (t195 == 0) = false := beq_eq_false_iff_ne.mpr c17
                        have c17b1 : (t195 != 0) = true := bne_iff_ne.mpr c17
                        (first | rw [c17b0] | (simp only [i64_w, i32_w]; rw [c17b0]) | skip)
                        have H' := Aside0.mk H
                        clear H
                        go_wp2
                        go_meet
                        case rel => exact ⟨_, (true), (by first | rfl | (simp; done) | (simp [*]; done)), H', ⟨by have := HK1.out; have := HJ10.out; first | omega | exact Nat.le_refl _⟩, ⟨by (with_reducible repeat (first | apply Kd.R_alloc | apply Kd.R_drewN | apply Kd.R_drew)); exact HO_10.out⟩, ⟨by repeat (first | (with_reducible first | exact HB.out | apply below_alloc | apply pw_below_drewN | apply below_drew1) | exact HB.out)⟩⟩
                    case rest =>
                      clear HC15
                      try clear c1
                      try clear p1
                      try clear q1
                      try clear hx1
                      try clear c2
                      try clear p2
                      try clear q2
                      try clear hx2
                      try clear c5
                      try clear c6
                      try clear c6b0
                      try clear c6b1
                      try clear c7
                      try clear c7b0
                      try clear c7b1
                      try clear c8
                      try clear c8b0
                      try clear c9
                      try clear c9b0
                      try clear p10
                      try clear q10
                      try clear hx10
                      try clear c12
                      try clear c12b0
                      try clear c12b1
                      try clear c13
                      try clear c17
                      try clear c17b0
                      try clear c17b1
                      try clear c18
                      try clear c18b0
                      try clear c19
                      try clear c19b0
                      try clear p20
                      try clear q20
                      try clear hx20
                      try clear c21
                      try clear c21b0
                      try clear c21b1
                      try clear c22
                      try clear c22b0
                      try clear c22b1
                      try clear c23
                      try clear c23b0
                      try clear c23b1
                      try clear c24
                      try clear c24b0
                      try clear c24b1
                      try clear p1
                      try clear p10
                      try clear p2
                      try clear p20
                      try clear q1
                      try clear q10
                      try clear q20
                      obtain ⟨kq, x63_14, rfl, HA, HJ14, HO_10, HB⟩ := hcut
                      cases kq with
                      | zero => exact absurd HA.out (by simp [beadrollref10_Read.j2])
                      | succ kj14 =>
                        have H := HA.out
                        clear HA
                        simp only [beadrollref10_Read.j2] at H
                        by_cases c25 : x63_14 = true
                        · subst c25
                          have H1 : (some (([] : List ByteArray), false)) = some (r1, r2) := by rw [if_pos rfl] at H; exact H
                          clear H
                          have H := H1
                          clear H1
                          simp only [Option.some.injEq, Prod.mk.injEq] at H
                          obtain ⟨rfl, rfl⟩ := H
                          go_wp2
                          go_ret2
                          exact ⟨_, by first | rfl | (simp [errW_none, errW_some] <;> rfl) | (simp [*, errW_none, errW_some] <;> rfl), by first | exact Kd.R_nil _ _ _ _ _ | exact Kd.N_nil _ _ _ _ _ | exact Kd.V_nil _ _ _ _ _ | exact Kd.Q_nil _ _ _ _ _ | exact Kd.S_nil _ _ _ _ _, by repeat (first | (with_reducible first | exact HB.out | apply below_alloc | apply pw_below_drewN | apply below_drew1) | exact HB.out)⟩
                        · replace c25 := Bool.eq_false_iff.mpr c25
                          subst c25
                          have H1 : (if x10_1.length < 8796093022208 then (beadrollref10_Read.l0 kj14 (a0.extract 0 (a2 : Int).toNat) t194 a2 (x10_1 ++ [t193]) t192 (wrap64 (x12_1 + 1))) else (none)) = some (r1, r2) := by rw [if_neg (show ¬ (false = true) by decide)] at H; exact H
                          clear H
                          have H := H1
                          clear H1
                          by_cases c26 : x10_1.length < 8796093022208
                          · rw [if_pos c26] at H
                            have LMc26 := Aside0.mk c26
                            clear c26
                            obtain ⟨y196, hy196⟩ : ∃ y_ : List ByteArray, y_ = (x10_1 ++ [t193]) := ⟨_, rfl⟩
                            replace H : (beadrollref10_Read.l0 kj14 (a0.extract 0 (a2 : Int).toNat) t194 a2 y196 t192 (wrap64 (x12_1 + 1))) = some (r1, r2) := by first | (rw [hy196]; with_reducible exact H) | (have H2_ := (Option.bind_some _ _).symm.trans H; rw [hy196]; with_reducible exact H2_) | (have H2_ := (Option.bind_some _ _).symm.trans H; with_reducible exact H2_) | with_reducible exact H | (rw [hy196]; exact H) | exact H
                            have Ny196 := Aside0.mk hy196
                            clear hy196
                            have H' := Aside0.mk H
                            clear H
                            go_wp2_with (first | ((with_reducible refine gate_builtin (b := .append) (xs := #[.tmp 64, .tmp 66]) rfl ?_); (try (refine gate_guard (by rfl) ?_; dsimp only)); at_builtin; refine Kd.R_append Kd.string (w0 := w) w.heap.size rfl (.tmp 64) (.tmp 66) 52 9 (.string ⟨#[]⟩) 16 rfl Try.underlying52 info9 rfl (by decide) (by omega) u10 x10_1 t193 [.string t193] (fun _ => True) (fun _ => False) rfl rfl ?aP (fun _ hk => hk.elim) ?aF ?aO ?aB ?aS ?aL ?_; (case aP => exact rfl); (case aB => exact (by repeat (first | (with_reducible first | exact HB.out | apply below_alloc | apply pw_below_drewN | apply below_drew1) | exact HB.out))); (case aF => exact (fun _ _ => trivial)); (case aO => exact (by (with_reducible repeat (first | apply Kd.R_alloc | apply Kd.R_drewN | apply Kd.R_drew)); exact HO_10.out)); (case aS => exact (below_size (by repeat (first | (with_reducible first | exact HB.out | apply below_alloc | apply pw_below_drewN | apply below_drew1) | exact HB.out)))); (case aL => have := LMc26.out; omega); intro v197 w27 ho hb hg hat; rw [← Ny196.out] at ho; have n0_ := Aside0.mk (hb); have n1_ := Aside0.mk (ho); clear HB; clear HO_10; have HB := n0_; have HO198 := n1_; clear n0_ n1_; clear ho hb hg hat))
                            go_roundg kj14
                            case measure => have := HK1.out; have := HJ10.out; have := HJ14.out; omega
                            case rel => exact ⟨(t194), (y196), (wrap64 (x12_1 + 1)), (by first | rfl | (simp; done) | (simp [*]; done)), (by first | rfl | (simp; done) | (simp [*]; done)), H', ⟨by have := HK1.out; have := HJ10.out; have := HJ14.out; omega⟩, ⟨by (with_reducible repeat (first | apply Kd.R_alloc | apply Kd.R_drewN | apply Kd.R_drew)); exact HO198.out⟩, ⟨by repeat (first | (with_reducible first | exact HB.out | apply below_alloc | apply pw_below_drewN | apply below_drew1) | exact HB.out)⟩⟩
                          · rw [if_neg c26] at H
                            exact absurd H (by simp)
                  · replace c13 := Bool.eq_false_iff.mpr c13
                    subst c13
                    have H1 : (if (bt t192 x12_1) = 116 then (if 0 ≤ x1_1 then (if x1_1 ≤ ((a0.extract 0 (a2 : Int).toNat).size : Int) then ((beadrollref01_Pieces.f kj10 ((a0.extract 0 (a2 : Int).toNat).extract (x1_1 : Int).toNat (a0.extract 0 (a2 : Int).toNat).size) 1).bind fun bt199 => (if bt199.2 = 0 then (beadrollref10_Read.j3 kj10 (a0.extract 0 (a2 : Int).toNat) x1_1 a2 x10_1 t192 x12_1 ((bt199.1.length : Int) == 0)) else (beadrollref10_Read.j3 kj10 (a0.extract 0 (a2 : Int).toNat) x1_1 a2 x10_1 t192 x12_1 true))) else (none)) else (none)) else (if (bt t192 x12_1) = 111 then (if (wrap64 (x1_1 + (wrap64 (a2 - x1_1)))) > a2 then (some (([] : List ByteArray), false)) else (if 0 ≤ x1_1 then (if x1_1 ≤ (wrap64 (x1_1 + (wrap64 (a2 - x1_1)))) then (if (wrap64 (x1_1 + (wrap64 (a2 - x1_1)))) ≤ ((a0.extract 0 (a2 : Int).toNat).size : Int) then (if x10_1.length < 8796093022208 then (beadrollref10_Read.l0 kj10 (a0.extract 0 (a2 : Int).toNat) (wrap64 (x1_1 + (wrap64 (a2 - x1_1)))) a2 (x10_1 ++ [(a0.extract 0 (a2 : Int).toNat).extract (x1_1 : Int).toNat ((wrap64 (x1_1 + (wrap64 (a2 - x1_1)))) : Int).toNat]) t192 (wrap64 (x12_1 + 1))) else (none)) else (none)) else (none)) else (none))) else (if (bt t192 x12_1) = 104 then (if (wrap64 (x1_1 + 16)) > a2 then (some (([] : List ByteArray), false)) else (if 0 ≤ x1_1 then (if x1_1 ≤ (wrap64 (x1_1 + 16)) then (if (wrap64 (x1_1 + 16)) ≤ ((a0.extract 0 (a2 : Int).toNat).size : Int) then (if x10_1.length < 8796093022208 then (beadrollref10_Read.l0 kj10 (a0.extract 0 (a2 : Int).toNat) (wrap64 (x1_1 + 16)) a2 (x10_1 ++ [(a0.extract 0 (a2 : Int).toNat).extract (x1_1 : Int).toNat ((wrap64 (x1_1 + 16)) : Int).toNat]) t192 (wrap64 (x12_1 + 1))) else (none)) else (none)) else (none)) else (none))) else (if 0 ≤ x12_1 then (if x12_1 < (t192.size : Int) then (if (wrap64 (x1_1 + (wrap64 ((wrap64 (bt t192 x12_1)) - 48)))) > a2 then (some (([] : List ByteArray), false)) else (if 0 ≤ x1_1 then (if x1_1 ≤ (wrap64 (x1_1 + (wrap64 ((wrap64 (bt t192 x12_1)) - 48)))) then (if (wrap64 (x1_1 + (wrap64 ((wrap64 (bt t192 x12_1)) - 48)))) ≤ ((a0.extract 0 (a2 : Int).toNat).size : Int) then (if x10_1.length < 8796093022208 then (beadrollref10_Read.l0 kj10 (a0.extract 0 (a2 : Int).toNat) (wrap64 (x1_1 + (wrap64 ((wrap64 (bt t192 x12_1)) - 48)))) a2 (x10_1 ++ [(a0.extract 0 (a2 : Int).toNat).extract (x1_1 : Int).toNat ((wrap64 (x1_1 + (wrap64 ((wrap64 (bt t192 x12_1)) - 48)))) : Int).toNat]) t192 (wrap64 (x12_1 + 1))) else (none)) else (none)) else (none)) else (none))) else (none)) else (none))))) = some (r1, r2) := by rw [if_neg (show ¬ (false = true) by decide)] at H; exact H
                    clear H
                    have H := H1
                    clear H1
                    by_cases c28 : (bt t192 x12_1) = 116
                    · rw [if_pos c28] at H
                      have c28b0 : ((bt t192 x12_1) == 116) = true := beq_iff_eq.mpr c28
                      have c28b1 : ((bt t192 x12_1) != 116) = false := bne_eq_false_iff_eq.mpr c28
                      clear c28
                      by_cases c29 : 0 ≤ x1_1
                      · rw [if_pos c29] at H
                        have c29b0 := eq_true c29
                        have c29b1 : decide (0 ≤ x1_1) = true := decide_eq_true c29
                        clear c29
                        by_cases c30 : x1_1 ≤ ((a0.extract 0 (a2 : Int).toNat).size : Int)
                        · rw [if_pos c30] at H
                          have c30b0 := eq_true c30
                          have c30b1 : decide (x1_1 ≤ ((a0.extract 0 (a2 : Int).toNat).size : Int)) = true := decide_eq_true c30
                          try have c30b1v := c30b1
                          try simp only [ByteArray.size_extract, Nat.sub_zero] at c30b1v
                          try have c30b1w := eq_true (of_decide_eq_true c30b1v)
                          clear c30
                          replace H := Option.bind_eq_some_iff.mp H
                          obtain ⟨⟨t199, t200⟩, A310, H⟩ := H
                          replace H : (if t200 = 0 then (beadrollref10_Read.j3 kj10 (a0.extract 0 (a2 : Int).toNat) x1_1 a2 x10_1 t192 x12_1 ((t199.length : Int) == 0)) else (beadrollref10_Read.j3 kj10 (a0.extract 0 (a2 : Int).toNat) x1_1 a2 x10_1 t192 x12_1 true)) = some (r1, r2) := H
                          have A31 := Aside0.mk A310
                          clear A310
                          have HC32 := Aside0.mk H
                          clear H
                          go_upto_region 19 with (first | ((with_reducible refine gate_callee (f := 67) rfl ?_); refine goesL_ (some 75) rfl rfl Try.func67 (by kernel_rfl) rfl #[.string ((a0.extract 0 (a2 : Int).toNat).extract (x1_1 : Int).toNat (a0.extract 0 (a2 : Int).toNat).size), .int .i64 1] rfl (by (try simp only [List.map_toArray, List.map_cons, List.map_nil]); first | done | rfl | (simp only [List.length_drop, List.length_take]; rfl) | (simp only [ByteArray.size_extract, Nat.sub_zero]; rfl)) ?_; (with_reducible refine (beadrollref01_Pieces.calls kj10 ((a0.extract 0 (a2 : Int).toNat).extract (x1_1 : Int).toNat (a0.extract 0 (a2 : Int).toNat).size) 1 t199 t200 _ A31.out).mono ?_); rintro e w33 ⟨v201, rfl, ho0, hb⟩; refine ⟨_, rfl, ?_⟩; have n0_ := Aside0.mk (Kd.R_elder' (by (with_reducible repeat (first | apply Kd.R_alloc | apply Kd.R_drewN | apply Kd.R_drew)); exact HO_10.out) (Kd.R_base ho0) hb); have n1_ := Aside0.mk (Kd.R_lower (Kd.R_new' ho0 (Kd.R_lt (by (with_reducible repeat (first | apply Kd.R_alloc | apply Kd.R_drewN | apply Kd.R_drew)); exact HO_10.out))) (below_size (by repeat (first | (with_reducible first | exact HB.out | apply below_alloc | apply pw_below_drewN | apply below_drew1) | exact HB.out)))); have n2_ := Aside0.mk (below_step (by repeat (first | (with_reducible first | exact HB.out | apply below_alloc | apply pw_below_drewN | apply below_drew1) | exact HB.out)) hb); clear HO_10; clear HB; have HO_10 := n0_; have HO202 := n1_; have HB := n2_; clear n0_ n1_ n2_; (try clear hb); (try clear hb2); (try clear hk); (try clear hi); (try clear ho0)))
                          (try simp only [Act.put, List.setIfInBounds_toArray, List.set_cons_zero, List.set_cons_succ])
                          go_cut [84] (fun v84 wc => ∃ (kq : Nat) (x84_31 : Bool), v84 = .bool x84_31 ∧ Aside0 (beadrollref10_Read.j3 kq (a0.extract 0 (a2 : Int).toNat) x1_1 a2 x10_1 t192 x12_1 x84_31 = some (r1, r2)) ∧ Aside0 (kq ≤ kj10) ∧ Aside0 (Kd.R Kd.string 9 wc w.heap.size (fun _ => True) u10 x10_1) ∧ Aside0 (Below w.heap.size w wc))
                          case first =>
                            have H := HC32.out
                            clear HC32
                            by_cases c34 : t200 = 0
                            · rw [if_pos c34] at H
                              have c34b0 : (t200 == 0) = true := beq_iff_eq.mpr c34
                              have c34b1 : (t200 != 0) = false := bne_eq_false_iff_eq.mpr c34
                              clear c34
                              (first | rw [c34b0] | (simp only [i64_w, i32_w]; rw [c34b0]) | skip)
                              have H' := Aside0.mk H
                              clear H
                              obtain ⟨Ao35, co35, eo35⟩ := Kd.R_slice HO202.out
                              subst eo35
                              go_wp2
                              go_meet
                              case rel => exact ⟨_, (((t199.length : Int) == 0)), (by first | rfl | (simp; done) | (simp [*]; done)), H', ⟨by have := HK1.out; have := HJ10.out; first | omega | exact Nat.le_refl _⟩, ⟨by (with_reducible repeat (first | apply Kd.R_alloc | apply Kd.R_drewN | apply Kd.R_drew)); exact Kd.R_mono HO_10.out (fun _ hk => trivial)⟩, ⟨by repeat (first | (with_reducible first | exact HB.out | apply below_alloc | apply pw_below_drewN | apply below_drew1) | exact HB.out)⟩⟩
                            · rw [if_neg c34] at H
                              have c34b0 : (t200 == 0) = false := beq_eq_false_iff_ne.mpr c34
                              have c34b1 : (t200 != 0) = true := bne_iff_ne.mpr c34
                              (first | rw [c34b0] | (simp only [i64_w, i32_w]; rw [c34b0]) | skip)
                              have H' := Aside0.mk H
                              clear H
                              go_wp2
                              go_meet
                              case rel => exact ⟨_, (true), (by first | rfl | (simp; done) | (simp [*]; done)), H', ⟨by have := HK1.out; have := HJ10.out; first | omega | exact Nat.le_refl _⟩, ⟨by (with_reducible repeat (first | apply Kd.R_alloc | apply Kd.R_drewN | apply Kd.R_drew)); exact Kd.R_mono HO_10.out (fun _ hk => trivial)⟩, ⟨by repeat (first | (with_reducible first | exact HB.out | apply below_alloc | apply pw_below_drewN | apply below_drew1) | exact HB.out)⟩⟩
                          case rest =>
                            clear HC32
                            try clear c1
                            try clear p1
                            try clear q1
                            try clear hx1
                            try clear c2
                            try clear p2
                            try clear q2
                            try clear hx2
                            try clear c3
                            try clear c5
                            try clear c6
                            try clear c6b0
                            try clear c6b1
                            try clear p6
                            try clear c7
                            try clear c7b0
                            try clear c7b1
                            try clear c8
                            try clear c8b0
                            try clear c9
                            try clear c9b0
                            try clear p10
                            try clear q10
                            try clear hx10
                            try clear c12
                            try clear c12b0
                            try clear c12b1
                            try clear c13
                            try clear c17
                            try clear c17b0
                            try clear c17b1
                            try clear c18
                            try clear c18b0
                            try clear c19
                            try clear c19b0
                            try clear p20
                            try clear q20
                            try clear hx20
                            try clear c21
                            try clear c21b0
                            try clear c21b1
                            try clear c22
                            try clear c22b0
                            try clear c22b1
                            try clear c23
                            try clear c23b0
                            try clear c23b1
                            try clear c24
                            try clear c24b0
                            try clear c24b1
                            try clear c25
                            try clear c26
                            try clear c28
                            try clear c28b0
                            try clear c28b1
                            try clear c29
                            try clear c29b0
                            try clear c29b1
                            try clear c30
                            try clear c30b0
                            try clear c30b1
                            try clear c34
                            try clear c34b0
                            try clear c34b1
                            try clear p1
                            try clear p10
                            try clear p2
                            try clear p20
                            try clear q1
                            try clear q10
                            try clear q2
                            try clear q20
                            obtain ⟨kq, x84_31, rfl, HA, HJ31, HO_10, HB⟩ := hcut
                            cases kq with
                            | zero => exact absurd HA.out (by simp [beadrollref10_Read.j3])
                            | succ kj31 =>
                              have H := HA.out
                              clear HA
                              simp only [beadrollref10_Read.j3] at H
                              by_cases c36 : x84_31 = true
                              · subst c36
                                have H1 : (some (([] : List ByteArray), false)) = some (r1, r2) := by rw [if_pos rfl] at H; exact H
                                clear H
                                have H := H1
                                clear H1
                                simp only [Option.some.injEq, Prod.mk.injEq] at H
                                obtain ⟨rfl, rfl⟩ := H
                                go_wp2
                                go_ret2
                                exact ⟨_, by first | rfl | (simp [errW_none, errW_some] <;> rfl) | (simp [*, errW_none, errW_some] <;> rfl), by first | exact Kd.R_nil _ _ _ _ _ | exact Kd.N_nil _ _ _ _ _ | exact Kd.V_nil _ _ _ _ _ | exact Kd.Q_nil _ _ _ _ _ | exact Kd.S_nil _ _ _ _ _, by repeat (first | (with_reducible first | exact HB.out | apply below_alloc | apply pw_below_drewN | apply below_drew1) | exact HB.out)⟩
                              · replace c36 := Bool.eq_false_iff.mpr c36
                                subst c36
                                have H1 : (if (wrap64 (x1_1 + (wrap64 (a2 - x1_1)))) > a2 then (some (([] : List ByteArray), false)) else (if 0 ≤ x1_1 then (if x1_1 ≤ (wrap64 (x1_1 + (wrap64 (a2 - x1_1)))) then (if (wrap64 (x1_1 + (wrap64 (a2 - x1_1)))) ≤ ((a0.extract 0 (a2 : Int).toNat).size : Int) then (if x10_1.length < 8796093022208 then (beadrollref10_Read.l0 kj31 (a0.extract 0 (a2 : Int).toNat) (wrap64 (x1_1 + (wrap64 (a2 - x1_1)))) a2 (x10_1 ++ [(a0.extract 0 (a2 : Int).toNat).extract (x1_1 : Int).toNat ((wrap64 (x1_1 + (wrap64 (a2 - x1_1)))) : Int).toNat]) t192 (wrap64 (x12_1 + 1))) else (none)) else (none)) else (none)) else (none))) = some (r1, r2) := by rw [if_neg (show ¬ (false = true) by decide)] at H; exact H
                                clear H
                                have H := H1
                                clear H1
                                by_cases c37 : (wrap64 (x1_1 + (wrap64 (a2 - x1_1)))) > a2
                                · rw [if_pos c37] at H
                                  have c37b0 : decide (a2 < (wrap64 (x1_1 + (wrap64 (a2 - x1_1))))) = true := decide_eq_true c37
                                  clear c37
                                  simp only [Option.some.injEq, Prod.mk.injEq] at H
                                  obtain ⟨rfl, rfl⟩ := H
                                  go_wp2
                                  go_ret2
                                  exact ⟨_, by first | rfl | (simp [errW_none, errW_some] <;> rfl) | (simp [*, errW_none, errW_some] <;> rfl), by first | exact Kd.R_nil _ _ _ _ _ | exact Kd.N_nil _ _ _ _ _ | exact Kd.V_nil _ _ _ _ _ | exact Kd.Q_nil _ _ _ _ _ | exact Kd.S_nil _ _ _ _ _, by repeat (first | (with_reducible first | exact HB.out | apply below_alloc | apply pw_below_drewN | apply below_drew1) | exact HB.out)⟩
                                · rw [if_neg c37] at H
                                  have c37b0 : decide (a2 < (wrap64 (x1_1 + (wrap64 (a2 - x1_1))))) = false := decide_eq_false c37
                                  clear c37
                                  by_cases c38 : 0 ≤ x1_1
                                  · rw [if_pos c38] at H
                                    have c38b0 := eq_true c38
                                    have c38b1 : decide (0 ≤ x1_1) = true := decide_eq_true c38
                                    clear c38
                                    by_cases c39 : x1_1 ≤ (wrap64 (x1_1 + (wrap64 (a2 - x1_1))))
                                    · rw [if_pos c39] at H
                                      have c39b0 := eq_true c39
                                      have c39b1 : decide (x1_1 ≤ (wrap64 (x1_1 + (wrap64 (a2 - x1_1))))) = true := decide_eq_true c39
                                      by_cases c40 : (wrap64 (x1_1 + (wrap64 (a2 - x1_1)))) ≤ ((a0.extract 0 (a2 : Int).toNat).size : Int)
                                      · rw [if_pos c40] at H
                                        have c40b0 := eq_true c40
                                        have c40b1 : decide ((wrap64 (x1_1 + (wrap64 (a2 - x1_1)))) ≤ ((a0.extract 0 (a2 : Int).toNat).size : Int)) = true := decide_eq_true c40
                                        try have c40b1v := c40b1
                                        try simp only [ByteArray.size_extract, Nat.sub_zero] at c40b1v
                                        try have c40b1w := eq_true (of_decide_eq_true c40b1v)
                                        by_cases c41 : x10_1.length < 8796093022208
                                        · rw [if_pos c41] at H
                                          have LMc41 := Aside0.mk c41
                                          clear c41
                                          obtain ⟨y203, hy203⟩ : ∃ y_ : List ByteArray, y_ = (x10_1 ++ [(a0.extract 0 (a2 : Int).toNat).extract (x1_1 : Int).toNat ((wrap64 (x1_1 + (wrap64 (a2 - x1_1)))) : Int).toNat]) := ⟨_, rfl⟩
                                          replace H : (beadrollref10_Read.l0 kj31 (a0.extract 0 (a2 : Int).toNat) (wrap64 (x1_1 + (wrap64 (a2 - x1_1)))) a2 y203 t192 (wrap64 (x12_1 + 1))) = some (r1, r2) := by first | (rw [hy203]; with_reducible exact H) | (have H2_ := (Option.bind_some _ _).symm.trans H; rw [hy203]; with_reducible exact H2_) | (have H2_ := (Option.bind_some _ _).symm.trans H; with_reducible exact H2_) | with_reducible exact H | (rw [hy203]; exact H) | exact H
                                          have Ny203 := Aside0.mk hy203
                                          clear hy203
                                          have H' := Aside0.mk H
                                          clear H
                                          go_wp2_with (first | ((with_reducible refine gate_builtin (b := .append) (xs := #[.tmp 100, .tmp 107]) rfl ?_); (try (refine gate_guard (by rfl) ?_; dsimp only)); at_builtin; refine Kd.R_append Kd.string (w0 := w) w.heap.size rfl (.tmp 100) (.tmp 107) 52 9 (.string ⟨#[]⟩) 16 rfl Try.underlying52 info9 rfl (by decide) (by omega) u10 x10_1 ((a0.extract 0 (a2 : Int).toNat).extract (x1_1 : Int).toNat ((wrap64 (x1_1 + (wrap64 (a2 - x1_1)))) : Int).toNat) [.string ((a0.extract 0 (a2 : Int).toNat).extract (x1_1 : Int).toNat ((wrap64 (x1_1 + (wrap64 (a2 - x1_1)))) : Int).toNat)] (fun _ => True) (fun _ => False) rfl rfl ?aP (fun _ hk => hk.elim) ?aF ?aO ?aB ?aS ?aL ?_; (case aP => exact rfl); (case aB => exact (by repeat (first | (with_reducible first | exact HB.out | apply below_alloc | apply pw_below_drewN | apply below_drew1) | exact HB.out))); (case aF => exact (fun _ _ => trivial)); (case aO => exact (by (with_reducible repeat (first | apply Kd.R_alloc | apply Kd.R_drewN | apply Kd.R_drew)); exact HO_10.out)); (case aS => exact (below_size (by repeat (first | (with_reducible first | exact HB.out | apply below_alloc | apply pw_below_drewN | apply below_drew1) | exact HB.out)))); (case aL => have := LMc41.out; omega); intro v204 w42 ho hb hg hat; rw [← Ny203.out] at ho; have n0_ := Aside0.mk (hb); have n1_ := Aside0.mk (ho); clear HB; clear HO_10; have HB := n0_; have HO205 := n1_; clear n0_ n1_; clear ho hb hg hat))
                                          go_roundg kj31
                                          case measure => have := HK1.out; have := HJ10.out; have := HJ31.out; omega
                                          case rel => exact ⟨(wrap64 (x1_1 + (wrap64 (a2 - x1_1)))), (y203), (wrap64 (x12_1 + 1)), (by first | rfl | (simp; done) | (simp [*]; done)), (by first | rfl | (simp; done) | (simp [*]; done)), H', ⟨by have := HK1.out; have := HJ10.out; have := HJ31.out; omega⟩, ⟨by (with_reducible repeat (first | apply Kd.R_alloc | apply Kd.R_drewN | apply Kd.R_drew)); exact HO205.out⟩, ⟨by repeat (first | (with_reducible first | exact HB.out | apply below_alloc | apply pw_below_drewN | apply below_drew1) | exact HB.out)⟩⟩
                                        · rw [if_neg c41] at H
                                          exact absurd H (by simp)
                                      · rw [if_neg c40] at H
                                        exact absurd H (by simp)
                                    · rw [if_neg c39] at H
                                      exact absurd H (by simp)
                                  · rw [if_neg c38] at H
                                    exact absurd H (by simp)
                        · rw [if_neg c30] at H
                          exact absurd H (by simp)
                      · rw [if_neg c29] at H
                        exact absurd H (by simp)
                    · rw [if_neg c28] at H
                      have c28b0 : ((bt t192 x12_1) == 116) = false := beq_eq_false_iff_ne.mpr c28
                      have c28b1 : ((bt t192 x12_1) != 116) = true := bne_iff_ne.mpr c28
                      by_cases c43 : (bt t192 x12_1) = 111
                      · rw [if_pos c43] at H
                        have c43b0 : ((bt t192 x12_1) == 111) = true := beq_iff_eq.mpr c43
                        have c43b1 : ((bt t192 x12_1) != 111) = false := bne_eq_false_iff_eq.mpr c43
                        clear c43
                        by_cases c44 : (wrap64 (x1_1 + (wrap64 (a2 - x1_1)))) > a2
                        · rw [if_pos c44] at H
                          have c44b0 : decide (a2 < (wrap64 (x1_1 + (wrap64 (a2 - x1_1))))) = true := decide_eq_true c44
                          clear c44
                          simp only [Option.some.injEq, Prod.mk.injEq] at H
                          obtain ⟨rfl, rfl⟩ := H
                          go_wp2
                          go_ret2
                          exact ⟨_, by first | rfl | (simp [errW_none, errW_some] <;> rfl) | (simp [*, errW_none, errW_some] <;> rfl), by first | exact Kd.R_nil _ _ _ _ _ | exact Kd.N_nil _ _ _ _ _ | exact Kd.V_nil _ _ _ _ _ | exact Kd.Q_nil _ _ _ _ _ | exact Kd.S_nil _ _ _ _ _, by repeat (first | (with_reducible first | exact HB.out | apply below_alloc | apply pw_below_drewN | apply below_drew1) | exact HB.out)⟩
                        · rw [if_neg c44] at H
                          have c44b0 : decide (a2 < (wrap64 (x1_1 + (wrap64 (a2 - x1_1))))) = false := decide_eq_false c44
                          clear c44
                          by_cases c45 : 0 ≤ x1_1
                          · rw [if_pos c45] at H
                            have c45b0 := eq_true c45
                            have c45b1 : decide (0 ≤ x1_1) = true := decide_eq_true c45
                            clear c45
                            by_cases c46 : x1_1 ≤ (wrap64 (x1_1 + (wrap64 (a2 - x1_1))))
                            · rw [if_pos c46] at H
                              have c46b0 := eq_true c46
                              have c46b1 : decide (x1_1 ≤ (wrap64 (x1_1 + (wrap64 (a2 - x1_1))))) = true := decide_eq_true c46
                              by_cases c47 : (wrap64 (x1_1 + (wrap64 (a2 - x1_1)))) ≤ ((a0.extract 0 (a2 : Int).toNat).size : Int)
                              · rw [if_pos c47] at H
                                have c47b0 := eq_true c47
                                have c47b1 : decide ((wrap64 (x1_1 + (wrap64 (a2 - x1_1)))) ≤ ((a0.extract 0 (a2 : Int).toNat).size : Int)) = true := decide_eq_true c47
                                try have c47b1v := c47b1
                                try simp only [ByteArray.size_extract, Nat.sub_zero] at c47b1v
                                try have c47b1w := eq_true (of_decide_eq_true c47b1v)
                                by_cases c48 : x10_1.length < 8796093022208
                                · rw [if_pos c48] at H
                                  have LMc48 := Aside0.mk c48
                                  clear c48
                                  obtain ⟨y206, hy206⟩ : ∃ y_ : List ByteArray, y_ = (x10_1 ++ [(a0.extract 0 (a2 : Int).toNat).extract (x1_1 : Int).toNat ((wrap64 (x1_1 + (wrap64 (a2 - x1_1)))) : Int).toNat]) := ⟨_, rfl⟩
                                  replace H : (beadrollref10_Read.l0 kj10 (a0.extract 0 (a2 : Int).toNat) (wrap64 (x1_1 + (wrap64 (a2 - x1_1)))) a2 y206 t192 (wrap64 (x12_1 + 1))) = some (r1, r2) := by first | (rw [hy206]; with_reducible exact H) | (have H2_ := (Option.bind_some _ _).symm.trans H; rw [hy206]; with_reducible exact H2_) | (have H2_ := (Option.bind_some _ _).symm.trans H; with_reducible exact H2_) | with_reducible exact H | (rw [hy206]; exact H) | exact H
                                  have Ny206 := Aside0.mk hy206
                                  clear hy206
                                  have H' := Aside0.mk H
                                  clear H
                                  go_wp2_with (first | ((with_reducible refine gate_builtin (b := .append) (xs := #[.tmp 100, .tmp 107]) rfl ?_); (try (refine gate_guard (by rfl) ?_; dsimp only)); at_builtin; refine Kd.R_append Kd.string (w0 := w) w.heap.size rfl (.tmp 100) (.tmp 107) 52 9 (.string ⟨#[]⟩) 16 rfl Try.underlying52 info9 rfl (by decide) (by omega) u10 x10_1 ((a0.extract 0 (a2 : Int).toNat).extract (x1_1 : Int).toNat ((wrap64 (x1_1 + (wrap64 (a2 - x1_1)))) : Int).toNat) [.string ((a0.extract 0 (a2 : Int).toNat).extract (x1_1 : Int).toNat ((wrap64 (x1_1 + (wrap64 (a2 - x1_1)))) : Int).toNat)] (fun _ => True) (fun _ => False) rfl rfl ?aP (fun _ hk => hk.elim) ?aF ?aO ?aB ?aS ?aL ?_; (case aP => exact rfl); (case aB => exact (by repeat (first | (with_reducible first | exact HB.out | apply below_alloc | apply pw_below_drewN | apply below_drew1) | exact HB.out))); (case aF => exact (fun _ _ => trivial)); (case aO => exact (by (with_reducible repeat (first | apply Kd.R_alloc | apply Kd.R_drewN | apply Kd.R_drew)); exact HO_10.out)); (case aS => exact (below_size (by repeat (first | (with_reducible first | exact HB.out | apply below_alloc | apply pw_below_drewN | apply below_drew1) | exact HB.out)))); (case aL => have := LMc48.out; omega); intro v207 w49 ho hb hg hat; rw [← Ny206.out] at ho; have n0_ := Aside0.mk (hb); have n1_ := Aside0.mk (ho); clear HB; clear HO_10; have HB := n0_; have HO208 := n1_; clear n0_ n1_; clear ho hb hg hat))
                                  go_roundg kj10
                                  case measure => have := HK1.out; have := HJ10.out; omega
                                  case rel => exact ⟨(wrap64 (x1_1 + (wrap64 (a2 - x1_1)))), (y206), (wrap64 (x12_1 + 1)), (by first | rfl | (simp; done) | (simp [*]; done)), (by first | rfl | (simp; done) | (simp [*]; done)), H', ⟨by have := HK1.out; have := HJ10.out; omega⟩, ⟨by (with_reducible repeat (first | apply Kd.R_alloc | apply Kd.R_drewN | apply Kd.R_drew)); exact HO208.out⟩, ⟨by repeat (first | (with_reducible first | exact HB.out | apply below_alloc | apply pw_below_drewN | apply below_drew1) | exact HB.out)⟩⟩
                                · rw [if_neg c48] at H
                                  exact absurd H (by simp)
                              · rw [if_neg c47] at H
                                exact absurd H (by simp)
                            · rw [if_neg c46] at H
                              exact absurd H (by simp)
                          · rw [if_neg c45] at H
                            exact absurd H (by simp)
                      · rw [if_neg c43] at H
                        have c43b0 : ((bt t192 x12_1) == 111) = false := beq_eq_false_iff_ne.mpr c43
                        have c43b1 : ((bt t192 x12_1) != 111) = true := bne_iff_ne.mpr c43
                        by_cases c50 : (bt t192 x12_1) = 104
                        · rw [if_pos c50] at H
                          have c50b0 : ((bt t192 x12_1) == 104) = true := beq_iff_eq.mpr c50
                          have c50b1 : ((bt t192 x12_1) != 104) = false := bne_eq_false_iff_eq.mpr c50
                          clear c50
                          by_cases c51 : (wrap64 (x1_1 + 16)) > a2
                          · rw [if_pos c51] at H
                            have c51b0 : decide (a2 < (wrap64 (x1_1 + 16))) = true := decide_eq_true c51
                            clear c51
                            simp only [Option.some.injEq, Prod.mk.injEq] at H
                            obtain ⟨rfl, rfl⟩ := H
                            go_wp2
                            go_ret2
                            exact ⟨_, by first | rfl | (simp [errW_none, errW_some] <;> rfl) | (simp [*, errW_none, errW_some] <;> rfl), by first | exact Kd.R_nil _ _ _ _ _ | exact Kd.N_nil _ _ _ _ _ | exact Kd.V_nil _ _ _ _ _ | exact Kd.Q_nil _ _ _ _ _ | exact Kd.S_nil _ _ _ _ _, by repeat (first | (with_reducible first | exact HB.out | apply below_alloc | apply pw_below_drewN | apply below_drew1) | exact HB.out)⟩
                          · rw [if_neg c51] at H
                            have c51b0 : decide (a2 < (wrap64 (x1_1 + 16))) = false := decide_eq_false c51
                            clear c51
                            by_cases c52 : 0 ≤ x1_1
                            · rw [if_pos c52] at H
                              have c52b0 := eq_true c52
                              have c52b1 : decide (0 ≤ x1_1) = true := decide_eq_true c52
                              clear c52
                              by_cases c53 : x1_1 ≤ (wrap64 (x1_1 + 16))
                              · rw [if_pos c53] at H
                                have c53b0 := eq_true c53
                                have c53b1 : decide (x1_1 ≤ (wrap64 (x1_1 + 16))) = true := decide_eq_true c53
                                by_cases c54 : (wrap64 (x1_1 + 16)) ≤ ((a0.extract 0 (a2 : Int).toNat).size : Int)
                                · rw [if_pos c54] at H
                                  have c54b0 := eq_true c54
                                  have c54b1 : decide ((wrap64 (x1_1 + 16)) ≤ ((a0.extract 0 (a2 : Int).toNat).size : Int)) = true := decide_eq_true c54
                                  try have c54b1v := c54b1
                                  try simp only [ByteArray.size_extract, Nat.sub_zero] at c54b1v
                                  try have c54b1w := eq_true (of_decide_eq_true c54b1v)
                                  by_cases c55 : x10_1.length < 8796093022208
                                  · rw [if_pos c55] at H
                                    have LMc55 := Aside0.mk c55
                                    clear c55
                                    obtain ⟨y209, hy209⟩ : ∃ y_ : List ByteArray, y_ = (x10_1 ++ [(a0.extract 0 (a2 : Int).toNat).extract (x1_1 : Int).toNat ((wrap64 (x1_1 + 16)) : Int).toNat]) := ⟨_, rfl⟩
                                    replace H : (beadrollref10_Read.l0 kj10 (a0.extract 0 (a2 : Int).toNat) (wrap64 (x1_1 + 16)) a2 y209 t192 (wrap64 (x12_1 + 1))) = some (r1, r2) := by first | (rw [hy209]; with_reducible exact H) | (have H2_ := (Option.bind_some _ _).symm.trans H; rw [hy209]; with_reducible exact H2_) | (have H2_ := (Option.bind_some _ _).symm.trans H; with_reducible exact H2_) | with_reducible exact H | (rw [hy209]; exact H) | exact H
                                    have Ny209 := Aside0.mk hy209
                                    clear hy209
                                    have H' := Aside0.mk H
                                    clear H
                                    go_wp2_with (first | ((with_reducible refine gate_builtin (b := .append) (xs := #[.tmp 100, .tmp 107]) rfl ?_); (try (refine gate_guard (by rfl) ?_; dsimp only)); at_builtin; refine Kd.R_append Kd.string (w0 := w) w.heap.size rfl (.tmp 100) (.tmp 107) 52 9 (.string ⟨#[]⟩) 16 rfl Try.underlying52 info9 rfl (by decide) (by omega) u10 x10_1 ((a0.extract 0 (a2 : Int).toNat).extract (x1_1 : Int).toNat ((wrap64 (x1_1 + 16)) : Int).toNat) [.string ((a0.extract 0 (a2 : Int).toNat).extract (x1_1 : Int).toNat ((wrap64 (x1_1 + 16)) : Int).toNat)] (fun _ => True) (fun _ => False) rfl rfl ?aP (fun _ hk => hk.elim) ?aF ?aO ?aB ?aS ?aL ?_; (case aP => exact rfl); (case aB => exact (by repeat (first | (with_reducible first | exact HB.out | apply below_alloc | apply pw_below_drewN | apply below_drew1) | exact HB.out))); (case aF => exact (fun _ _ => trivial)); (case aO => exact (by (with_reducible repeat (first | apply Kd.R_alloc | apply Kd.R_drewN | apply Kd.R_drew)); exact HO_10.out)); (case aS => exact (below_size (by repeat (first | (with_reducible first | exact HB.out | apply below_alloc | apply pw_below_drewN | apply below_drew1) | exact HB.out)))); (case aL => have := LMc55.out; omega); intro v210 w56 ho hb hg hat; rw [← Ny209.out] at ho; have n0_ := Aside0.mk (hb); have n1_ := Aside0.mk (ho); clear HB; clear HO_10; have HB := n0_; have HO211 := n1_; clear n0_ n1_; clear ho hb hg hat))
                                    go_roundg kj10
                                    case measure => have := HK1.out; have := HJ10.out; omega
                                    case rel => exact ⟨(wrap64 (x1_1 + 16)), (y209), (wrap64 (x12_1 + 1)), (by first | rfl | (simp; done) | (simp [*]; done)), (by first | rfl | (simp; done) | (simp [*]; done)), H', ⟨by have := HK1.out; have := HJ10.out; omega⟩, ⟨by (with_reducible repeat (first | apply Kd.R_alloc | apply Kd.R_drewN | apply Kd.R_drew)); exact HO211.out⟩, ⟨by repeat (first | (with_reducible first | exact HB.out | apply below_alloc | apply pw_below_drewN | apply below_drew1) | exact HB.out)⟩⟩
                                  · rw [if_neg c55] at H
                                    exact absurd H (by simp)
                                · rw [if_neg c54] at H
                                  exact absurd H (by simp)
                              · rw [if_neg c53] at H
                                exact absurd H (by simp)
                            · rw [if_neg c52] at H
                              exact absurd H (by simp)
                        · rw [if_neg c50] at H
                          have c50b0 : ((bt t192 x12_1) == 104) = false := beq_eq_false_iff_ne.mpr c50
                          have c50b1 : ((bt t192 x12_1) != 104) = true := bne_iff_ne.mpr c50
                          by_cases c57 : 0 ≤ x12_1
                          · rw [if_pos c57] at H
                            have c57b0 : decide (0 ≤ x12_1) = true := decide_eq_true c57
                            clear c57
                            by_cases c58 : x12_1 < (t192.size : Int)
                            · rw [if_pos c58] at H
                              have c58b0 : decide (x12_1 < (t192.size : Int)) = true := decide_eq_true c58
                              clear c58
                              by_cases c60 : (wrap64 (x1_1 + (wrap64 ((wrap64 (bt t192 x12_1)) - 48)))) > a2
                              · rw [if_pos c60] at H
                                have c60b0 : decide (a2 < (wrap64 (x1_1 + (wrap64 ((wrap64 (bt t192 x12_1)) - 48))))) = true := decide_eq_true c60
                                clear c60
                                simp only [Option.some.injEq, Prod.mk.injEq] at H
                                obtain ⟨rfl, rfl⟩ := H
                                have p59 : 0 ≤ (x12_1 : Int) := of_decide_eq_true (by first | (with_reducible assumption) | assumption)
                                have q59 : x12_1 < (t192.size : Int) := of_decide_eq_true (by first | (with_reducible assumption) | assumption)
                                have hx59 := bt_at t192 x12_1
                                replace p59 := eq_true p59
                                replace q59 := eq_true q59
                                go_wp2
                                go_ret2
                                exact ⟨_, by first | rfl | (simp [errW_none, errW_some] <;> rfl) | (simp [*, errW_none, errW_some] <;> rfl), by first | exact Kd.R_nil _ _ _ _ _ | exact Kd.N_nil _ _ _ _ _ | exact Kd.V_nil _ _ _ _ _ | exact Kd.Q_nil _ _ _ _ _ | exact Kd.S_nil _ _ _ _ _, by repeat (first | (with_reducible first | exact HB.out | apply below_alloc | apply pw_below_drewN | apply below_drew1) | exact HB.out)⟩
                              · rw [if_neg c60] at H
                                have c60b0 : decide (a2 < (wrap64 (x1_1 + (wrap64 ((wrap64 (bt t192 x12_1)) - 48))))) = false := decide_eq_false c60
                                clear c60
                                by_cases c61 : 0 ≤ x1_1
                                · rw [if_pos c61] at H
                                  have c61b0 := eq_true c61
                                  have c61b1 : decide (0 ≤ x1_1) = true := decide_eq_true c61
                                  clear c61
                                  by_cases c62 : x1_1 ≤ (wrap64 (x1_1 + (wrap64 ((wrap64 (bt t192 x12_1)) - 48))))
                                  · rw [if_pos c62] at H
                                    have c62b0 := eq_true c62
                                    have c62b1 : decide (x1_1 ≤ (wrap64 (x1_1 + (wrap64 ((wrap64 (bt t192 x12_1)) - 48))))) = true := decide_eq_true c62
                                    by_cases c63 : (wrap64 (x1_1 + (wrap64 ((wrap64 (bt t192 x12_1)) - 48)))) ≤ ((a0.extract 0 (a2 : Int).toNat).size : Int)
                                    · rw [if_pos c63] at H
                                      have c63b0 := eq_true c63
                                      have c63b1 : decide ((wrap64 (x1_1 + (wrap64 ((wrap64 (bt t192 x12_1)) - 48)))) ≤ ((a0.extract 0 (a2 : Int).toNat).size : Int)) = true := decide_eq_true c63
                                      try have c63b1v := c63b1
                                      try simp only [ByteArray.size_extract, Nat.sub_zero] at c63b1v
                                      try have c63b1w := eq_true (of_decide_eq_true c63b1v)
                                      by_cases c64 : x10_1.length < 8796093022208
                                      · rw [if_pos c64] at H
                                        have LMc64 := Aside0.mk c64
                                        clear c64
                                        obtain ⟨y212, hy212⟩ : ∃ y_ : List ByteArray, y_ = (x10_1 ++ [(a0.extract 0 (a2 : Int).toNat).extract (x1_1 : Int).toNat ((wrap64 (x1_1 + (wrap64 ((wrap64 (bt t192 x12_1)) - 48)))) : Int).toNat]) := ⟨_, rfl⟩
                                        replace H : (beadrollref10_Read.l0 kj10 (a0.extract 0 (a2 : Int).toNat) (wrap64 (x1_1 + (wrap64 ((wrap64 (bt t192 x12_1)) - 48)))) a2 y212 t192 (wrap64 (x12_1 + 1))) = some (r1, r2) := by first | (rw [hy212]; with_reducible exact H) | (have H2_ := (Option.bind_some _ _).symm.trans H; rw [hy212]; with_reducible exact H2_) | (have H2_ := (Option.bind_some _ _).symm.trans H; with_reducible exact H2_) | with_reducible exact H | (rw [hy212]; exact H) | exact H
                                        have Ny212 := Aside0.mk hy212
                                        clear hy212
                                        have H' := Aside0.mk H
                                        clear H
                                        have p59 : 0 ≤ (x12_1 : Int) := of_decide_eq_true (by first | (with_reducible assumption) | assumption)
                                        have q59 : x12_1 < (t192.size : Int) := of_decide_eq_true (by first | (with_reducible assumption) | assumption)
                                        have hx59 := bt_at t192 x12_1
                                        replace p59 := eq_true p59
                                        replace q59 := eq_true q59
                                        go_wp2_with (first | ((with_reducible refine gate_builtin (b := .append) (xs := #[.tmp 100, .tmp 107]) rfl ?_); (try (refine gate_guard (by rfl) ?_; dsimp only)); at_builtin; refine Kd.R_append Kd.string (w0 := w) w.heap.size rfl (.tmp 100) (.tmp 107) 52 9 (.string ⟨#[]⟩) 16 rfl Try.underlying52 info9 rfl (by decide) (by omega) u10 x10_1 ((a0.extract 0 (a2 : Int).toNat).extract (x1_1 : Int).toNat ((wrap64 (x1_1 + (wrap64 ((wrap64 (bt t192 x12_1)) - 48)))) : Int).toNat) [.string ((a0.extract 0 (a2 : Int).toNat).extract (x1_1 : Int).toNat ((wrap64 (x1_1 + (wrap64 ((wrap64 (bt t192 x12_1)) - 48)))) : Int).toNat)] (fun _ => True) (fun _ => False) rfl rfl ?aP (fun _ hk => hk.elim) ?aF ?aO ?aB ?aS ?aL ?_; (case aP => exact rfl); (case aB => exact (by repeat (first | (with_reducible first | exact HB.out | apply below_alloc | apply pw_below_drewN | apply below_drew1) | exact HB.out))); (case aF => exact (fun _ _ => trivial)); (case aO => exact (by (with_reducible repeat (first | apply Kd.R_alloc | apply Kd.R_drewN | apply Kd.R_drew)); exact HO_10.out)); (case aS => exact (below_size (by repeat (first | (with_reducible first | exact HB.out | apply below_alloc | apply pw_below_drewN | apply below_drew1) | exact HB.out)))); (case aL => have := LMc64.out; omega); intro v213 w65 ho hb hg hat; rw [← Ny212.out] at ho; have n0_ := Aside0.mk (hb); have n1_ := Aside0.mk (ho); clear HB; clear HO_10; have HB := n0_; have HO214 := n1_; clear n0_ n1_; clear ho hb hg hat))
                                        go_roundg kj10
                                        case measure => have := HK1.out; have := HJ10.out; omega
                                        case rel => exact ⟨(wrap64 (x1_1 + (wrap64 ((wrap64 (bt t192 x12_1)) - 48)))), (y212), (wrap64 (x12_1 + 1)), (by first | rfl | (simp; done) | (simp [*]; done)), (by first | rfl | (simp; done) | (simp [*]; done)), H', ⟨by have := HK1.out; have := HJ10.out; omega⟩, ⟨by (with_reducible repeat (first | apply Kd.R_alloc | apply Kd.R_drewN | apply Kd.R_drew)); exact HO214.out⟩, ⟨by repeat (first | (with_reducible first | exact HB.out | apply below_alloc | apply pw_below_drewN | apply below_drew1) | exact HB.out)⟩⟩
                                      · rw [if_neg c64] at H
                                        exact absurd H (by simp)
                                    · rw [if_neg c63] at H
                                      exact absurd H (by simp)
                                  · rw [if_neg c62] at H
                                    exact absurd H (by simp)
                                · rw [if_neg c61] at H
                                  exact absurd H (by simp)
                            · rw [if_neg c58] at H
                              exact absurd H (by simp)
                          · rw [if_neg c57] at H
                            exact absurd H (by simp)
            · rw [if_neg c9] at H
              exact absurd H (by simp)
          · rw [if_neg c8] at H
            have c8b0 : decide (x12_1 < (t192.size : Int)) = false := decide_eq_false c8
            clear c8
            simp only [Option.some.injEq, Prod.mk.injEq] at H
            obtain ⟨rfl, rfl⟩ := H
            go_wp2
            go_ret2
            exact ⟨_, by first | rfl | (simp [errW_none, errW_some] <;> rfl) | (simp [*, errW_none, errW_some] <;> rfl), by (with_reducible repeat (first | apply Kd.R_alloc | apply Kd.R_drewN | apply Kd.R_drew)); exact HO_10.out, by repeat (first | (with_reducible first | exact HB.out | apply below_alloc | apply pw_below_drewN | apply below_drew1) | exact HB.out)⟩
    · rw [if_neg c7] at H
      exact absurd H (by simp)
  · rw [if_neg c6] at H
    exact absurd H (by simp)
end Go.Proofs.Ytnpiglojamhpiaa.PRd
namespace Go.Proofs.Ytnpiglojamhpiaa.PRd
open Go.RowKit Go.Proofs.YtnpiglojamhpiaaW.PrintWords Go.Proofs.YtnpiglojamhpiaaW.PrintLast Go.Proofs.YtnpiglojamhpiaaW.PrintMore Go.Proofs.Ytnpiglojamhpiaa.Given
attribute [local go_sem] max2_int min2_int max_two min_two max_three min_three max_four min_four   -- for this text's walks alone
set_option linter.unusedVariables false
set_option linter.unusedSimpArgs false
def beadrollref10_join.l0 : Nat → List ByteArray → ByteArray → Int → Option (ByteArray)
  | 0, _, _, _ => none
  | k + 1, x0, x3, x4 => if x4 < (x0.length : Int) then (if 0 ≤ x4 then (if x3.size + (rdOf ByteArray.empty x0 x4).size ≤ 9223372036854775807 then (beadrollref10_join.l0 k x0 (x3 ++ (rdOf ByteArray.empty x0 x4)) (wrap64 (x4 + 1))) else (none)) else (none)) else (some x3)
def beadrollref10_join.f (k : Nat) (l0 : List ByteArray) : Option (ByteArray) := beadrollref10_join.l0 k l0 (⟨#[]⟩ : ByteArray) 0
set_option maxHeartbeats 8000000 in
set_option maxRecDepth 100000 in
theorem beadrollref10_join.calls (k : Nat) (A0 : Option Addr) (c0 : Nat) (l0 : List ByteArray) (r : ByteArray) (w : World) (hr0 : Kd.C Kd.string w A0 l0.length l0) (hc0 : l0.length ≤ c0) (h : beadrollref10_join.f k l0 = some r) :
    Calls Try.prog 54 #[.slice A0 l0.length c0] w fun e w' => e = .returned (.string r) ∧ Drawn0 w w' := by
  have HR0 := Aside0.mk hr0
  have HC0 := Aside0.mk hc0
  clear hr0 hc0
  have H : (beadrollref10_join.l0 k l0 (⟨#[]⟩ : ByteArray) 0) = some r := h
  clear h
  have H' := Aside0.mk H
  clear H
  go_enter Try.func54, Try.ntmps54
  go_wp2
  go_loopg [3, 4] k (fun kq v3 v4 w' => ∃ (x3_1 : ByteArray) (x4_1 : Int), v3 = .string x3_1 ∧ v4 = .int .i64 x4_1 ∧ Aside0 (beadrollref10_join.l0 kq l0 x3_1 x4_1 = some r) ∧ Aside0 (kq ≤ k) ∧ Drawn0 w w')
  case atStart => exact ⟨((⟨#[]⟩ : ByteArray)), (0), (by first | rfl | (simp; done) | (simp [*]; done)), (by first | rfl | (simp; done) | (simp [*]; done)), H', ⟨Nat.le_refl _⟩, by repeat (first | exact Drawn0.refl _ | apply Drawn0.step)⟩
  case round =>
    clear H'
    obtain ⟨x3_1, x4_1, rfl, rfl, HA, HK1, ⟨m1, rfl⟩⟩ := hrel
    cases gk with
    | zero => exact absurd HA.out (by simp [beadrollref10_join.l0])
    | succ k1 =>
      have H := HA.out
      clear HA
      simp only [beadrollref10_join.l0] at H
      by_cases c2 : x4_1 < (l0.length : Int)
      · rw [if_pos c2] at H
        have c2b0 : decide (x4_1 < (l0.length : Int)) = true := decide_eq_true c2
        clear c2
        by_cases c3 : 0 ≤ x4_1
        · rw [if_pos c3] at H
          have c3b0 : decide (0 ≤ x4_1) = true := decide_eq_true c3
          clear c3
          by_cases c4 : x3_1.size + (rdOf ByteArray.empty l0 x4_1).size ≤ 9223372036854775807
          · rw [if_pos c4] at H
            have c4b0 := eq_true c4
            have c4b1 : decide (x3_1.size + (rdOf ByteArray.empty l0 x4_1).size ≤ 9223372036854775807) = true := decide_eq_true c4
            try have c4b2 : (9223372036854775807 < x3_1.size + (rdOf ByteArray.empty l0 x4_1).size) = False := eq_false (Nat.not_lt.2 c4)
            have H' := Aside0.mk H
            clear H
            have p215 : 0 ≤ (x4_1 : Int) := of_decide_eq_true (by first | (with_reducible assumption) | assumption)
            have q215 : x4_1 < (l0.length : Int) := of_decide_eq_true (by first | (with_reducible assumption) | assumption)
            obtain ⟨ad215, e215, hx215_0⟩ := Kd.at_string HR0.out x4_1 p215 q215
            cases e215
            replace p215 := eq_true p215
            replace q215 := eq_true q215
            go_wp2
            go_roundg k1
            case measure => have := HK1.out; omega
            case rel => exact ⟨(x3_1 ++ (rdOf ByteArray.empty l0 x4_1)), (wrap64 (x4_1 + 1)), (by first | rfl | (simp; done) | (simp [*]; done)), (by first | rfl | (simp; done) | (simp [*]; done)), H', ⟨by have := HK1.out; omega⟩, by repeat (first | exact Drawn0.refl _ | apply Drawn0.step)⟩
          · rw [if_neg c4] at H
            exact absurd H (by simp)
        · rw [if_neg c3] at H
          exact absurd H (by simp)
      · rw [if_neg c2] at H
        have c2b0 : decide (x4_1 < (l0.length : Int)) = false := decide_eq_false c2
        clear c2
        obtain rfl := Option.some.inj H
        go_wp2
        go_ret
        exact ⟨by first | rfl | (simp; done) | (simp [*]; done), by repeat (first | exact Drawn0.refl _ | apply Drawn0.step)⟩
def beadrollref10_Whole.f (k : Nat) (a0 : ByteArray) (a1 : Int) (a2 : Int) (a3 : Int) : Option (ByteArray × Bool) := (beadrollref10_Read.f k a0 a1 a2 a3).bind fun bt216 => ((beadrollref10_join.f k bt216.1).bind fun t220 => (if bt216.2 = true then (some (t220, decide ((t220.size : Int) ≤ 65535))) else (some (t220, false))))
set_option maxHeartbeats 8000000 in
set_option maxRecDepth 100000 in
theorem beadrollref10_Whole.calls (k : Nat) (a0 : ByteArray) (a1 : Int) (a2 : Int) (a3 : Int) (r1 : ByteArray) (r2 : Bool) (w : World) (h : beadrollref10_Whole.f k a0 a1 a2 a3 = some (r1, r2)) :
    Calls Try.prog 40 #[.string a0, .int .i64 a1, .int .i64 a2, .int .i64 a3] w fun e w' => e = .returned (.tuple #[.string r1, .bool r2]) ∧ Below w.heap.size w w' := by
  have HB := Aside0.mk (Below.refl w.heap.size w)
  have H : ((beadrollref10_Read.f k a0 a1 a2 a3).bind fun bt216 => ((beadrollref10_join.f k bt216.1).bind fun t220 => (if bt216.2 = true then (some (t220, decide ((t220.size : Int) ≤ 65535))) else (some (t220, false))))) = some (r1, r2) := h
  clear h
  replace H := Option.bind_eq_some_iff.mp H
  obtain ⟨⟨t216, t217⟩, A50, H⟩ := H
  replace H : ((beadrollref10_join.f k t216).bind fun t220 => (if t217 = true then (some (t220, decide ((t220.size : Int) ≤ 65535))) else (some (t220, false)))) = some (r1, r2) := H
  have A5 := Aside0.mk A50
  clear A50
  replace H := Option.bind_eq_some_iff.mp H
  obtain ⟨t220, A60, H⟩ := H
  replace H : (if t217 = true then (some (t220, decide ((t220.size : Int) ≤ 65535))) else (some (t220, false))) = some (r1, r2) := H
  have A6 := Aside0.mk A60
  clear A60
  by_cases c7 : t217 = true
  · subst c7
    have H1 : (some (t220, decide ((t220.size : Int) ≤ 65535))) = some (r1, r2) := by rw [if_pos rfl] at H; exact H
    clear H
    have H := H1
    clear H1
    simp only [Option.some.injEq, Prod.mk.injEq] at H
    obtain ⟨rfl, rfl⟩ := H
    go_enter Try.func40, Try.ntmps40
    go_wp2_with (first | ((with_reducible refine gate_callee (f := 53) rfl ?_); refine goesL_ (some 18) rfl rfl Try.func53 (by kernel_rfl) rfl #[.string a0, .int .i64 a1, .int .i64 a2, .int .i64 a3] rfl (by (try simp only [List.map_toArray, List.map_cons, List.map_nil]); first | done | rfl | (simp only [List.length_drop, List.length_take]; rfl)) ?_; (with_reducible refine (beadrollref10_Read.calls k a0 a1 a2 a3 t216 true _ A5.out).mono ?_); rintro e w8 ⟨v218, rfl, ho0, hb⟩; refine ⟨_, rfl, ?_⟩; have n0_ := Aside0.mk (Kd.R_lower ho0 (below_size (by repeat (first | (with_reducible first | exact HB.out | apply below_alloc | apply pw_below_drewN | apply below_drew1) | exact HB.out)))); have n1_ := Aside0.mk (below_step (by repeat (first | (with_reducible first | exact HB.out | apply below_alloc | apply pw_below_drewN | apply below_drew1) | exact HB.out)) hb); clear HB; have HO219 := n0_; have HB := n1_; clear n0_ n1_; (try clear hb); (try clear hb2); (try clear hk); (try clear hi); (try clear ho0); obtain ⟨Ao9, co9, eo9⟩ := Kd.R_slice HO219.out; subst eo9) | ((with_reducible refine gate_callee (f := 54) rfl ?_); refine goesL_ (some 22) rfl rfl Try.func54 (by kernel_rfl) rfl #[.slice Ao9 t216.length co9] rfl (by (try simp only [List.map_toArray, List.map_cons, List.map_nil]); first | done | rfl | (simp only [List.length_drop, List.length_take]; rfl)) ?_; (with_reducible refine (beadrollref10_join.calls k _ _ t216 t220 _ ?side1 ?side2 A6.out).mono ?_); (case side1 => repeat (first | exact (Kd.R_reads' HO219.out).2.2 | (with_reducible refine Kd.C_alloc ?_ _) | (with_reducible refine Kd.C_drewN ?_ _) | (with_reducible refine Kd.C_drew ?_))); (case side2 => exact (Kd.R_reads' HO219.out).2.1); rintro e w' ⟨rfl, ⟨nd, rfl⟩⟩; refine ⟨_, rfl, ?_⟩))
    go_ret2
    exact ⟨by first | rfl | (simp [errW_none, errW_some] <;> rfl) | (simp [*, errW_none, errW_some] <;> rfl), by repeat (first | (with_reducible first | exact HB.out | apply below_alloc | apply pw_below_drewN | apply below_drew1) | exact HB.out)⟩
  · replace c7 := Bool.eq_false_iff.mpr c7
    subst c7
    have H1 : (some (t220, false)) = some (r1, r2) := by rw [if_neg (show ¬ (false = true) by decide)] at H; exact H
    clear H
    have H := H1
    clear H1
    simp only [Option.some.injEq, Prod.mk.injEq] at H
    obtain ⟨rfl, rfl⟩ := H
    go_enter Try.func40, Try.ntmps40
    go_wp2_with (first | ((with_reducible refine gate_callee (f := 53) rfl ?_); refine goesL_ (some 18) rfl rfl Try.func53 (by kernel_rfl) rfl #[.string a0, .int .i64 a1, .int .i64 a2, .int .i64 a3] rfl (by (try simp only [List.map_toArray, List.map_cons, List.map_nil]); first | done | rfl | (simp only [List.length_drop, List.length_take]; rfl)) ?_; (with_reducible refine (beadrollref10_Read.calls k a0 a1 a2 a3 t216 false _ A5.out).mono ?_); rintro e w10 ⟨v218, rfl, ho0, hb⟩; refine ⟨_, rfl, ?_⟩; have n0_ := Aside0.mk (Kd.R_lower ho0 (below_size (by repeat (first | (with_reducible first | exact HB.out | apply below_alloc | apply pw_below_drewN | apply below_drew1) | exact HB.out)))); have n1_ := Aside0.mk (below_step (by repeat (first | (with_reducible first | exact HB.out | apply below_alloc | apply pw_below_drewN | apply below_drew1) | exact HB.out)) hb); clear HB; have HO219 := n0_; have HB := n1_; clear n0_ n1_; (try clear hb); (try clear hb2); (try clear hk); (try clear hi); (try clear ho0); obtain ⟨Ao11, co11, eo11⟩ := Kd.R_slice HO219.out; subst eo11) | ((with_reducible refine gate_callee (f := 54) rfl ?_); refine goesL_ (some 22) rfl rfl Try.func54 (by kernel_rfl) rfl #[.slice Ao11 t216.length co11] rfl (by (try simp only [List.map_toArray, List.map_cons, List.map_nil]); first | done | rfl | (simp only [List.length_drop, List.length_take]; rfl)) ?_; (with_reducible refine (beadrollref10_join.calls k _ _ t216 t220 _ ?side1 ?side2 A6.out).mono ?_); (case side1 => repeat (first | exact (Kd.R_reads' HO219.out).2.2 | (with_reducible refine Kd.C_alloc ?_ _) | (with_reducible refine Kd.C_drewN ?_ _) | (with_reducible refine Kd.C_drew ?_))); (case side2 => exact (Kd.R_reads' HO219.out).2.1); rintro e w' ⟨rfl, ⟨nd, rfl⟩⟩; refine ⟨_, rfl, ?_⟩))
    go_ret2
    exact ⟨by first | rfl | (simp [errW_none, errW_some] <;> rfl) | (simp [*, errW_none, errW_some] <;> rfl), by repeat (first | (with_reducible first | exact HB.out | apply below_alloc | apply pw_below_drewN | apply below_drew1) | exact HB.out)⟩
def beadrollref10_Right.f (k : Nat) (a0 : Int) (a1 : ByteArray) : Option (Bool) := (beadrollref10_Whole.f k a1 0 (a1.size : Int) a0).bind fun bt221 => (if bt221.2 = true then (some (bt221.1.toList == a1.toList)) else (some false))
set_option maxHeartbeats 8000000 in
set_option maxRecDepth 100000 in
theorem beadrollref10_Right.calls (k : Nat) (a0 : Int) (a1 : ByteArray) (r : Bool) (w : World) (h : beadrollref10_Right.f k a0 a1 = some r) :
    Calls Try.prog 26 #[.int .i64 a0, .string a1] w fun e w' => e = .returned (.bool r) ∧ Below w.heap.size w w' := by
  have HB := Aside0.mk (Below.refl w.heap.size w)
  have H : ((beadrollref10_Whole.f k a1 0 (a1.size : Int) a0).bind fun bt221 => (if bt221.2 = true then (some (bt221.1.toList == a1.toList)) else (some false))) = some r := h
  clear h
  replace H := Option.bind_eq_some_iff.mp H
  obtain ⟨⟨t221, t222⟩, A30, H⟩ := H
  replace H : (if t222 = true then (some (t221.toList == a1.toList)) else (some false)) = some r := H
  have A3 := Aside0.mk A30
  clear A30
  by_cases c4 : t222 = true
  · subst c4
    have H1 : (some (t221.toList == a1.toList)) = some r := by rw [if_pos rfl] at H; exact H
    clear H
    have H := H1
    clear H1
    obtain rfl := Option.some.inj H
    go_enter Try.func26, Try.ntmps26
    go_wp2_with (first | ((with_reducible refine gate_callee (f := 40) rfl ?_); refine goesL_ (some 12) rfl rfl Try.func40 (by kernel_rfl) rfl #[.string a1, .int .i64 0, .int .i64 (a1.size : Int), .int .i64 a0] rfl (by (try simp only [List.map_toArray, List.map_cons, List.map_nil]); first | done | rfl | (simp only [List.length_drop, List.length_take]; rfl)) ?_; (with_reducible refine (beadrollref10_Whole.calls k a1 0 (a1.size : Int) a0 t221 true _ A3.out).mono ?_); rintro e w5 ⟨rfl, hb⟩; refine ⟨_, rfl, ?_⟩; have n0_ := Aside0.mk (below_step (by repeat (first | (with_reducible first | exact HB.out | apply below_alloc | apply pw_below_drewN | apply below_drew1) | exact HB.out)) hb); clear HB; have HB := n0_; clear n0_; (try clear hb); (try clear hb2); (try clear hk); (try clear hi)))
    go_ret
    exact ⟨by first | rfl | (simp [errW_none, errW_some] <;> rfl) | (simp [*, errW_none, errW_some] <;> rfl), by repeat (first | (with_reducible first | exact HB.out | apply below_alloc | apply pw_below_drewN | apply below_drew1) | exact HB.out)⟩
  · replace c4 := Bool.eq_false_iff.mpr c4
    subst c4
    have H1 : (some false) = some r := by rw [if_neg (show ¬ (false = true) by decide)] at H; exact H
    clear H
    have H := H1
    clear H1
    obtain rfl := Option.some.inj H
    go_enter Try.func26, Try.ntmps26
    go_wp2_with (first | ((with_reducible refine gate_callee (f := 40) rfl ?_); refine goesL_ (some 12) rfl rfl Try.func40 (by kernel_rfl) rfl #[.string a1, .int .i64 0, .int .i64 (a1.size : Int), .int .i64 a0] rfl (by (try simp only [List.map_toArray, List.map_cons, List.map_nil]); first | done | rfl | (simp only [List.length_drop, List.length_take]; rfl)) ?_; (with_reducible refine (beadrollref10_Whole.calls k a1 0 (a1.size : Int) a0 t221 false _ A3.out).mono ?_); rintro e w6 ⟨rfl, hb⟩; refine ⟨_, rfl, ?_⟩; have n0_ := Aside0.mk (below_step (by repeat (first | (with_reducible first | exact HB.out | apply below_alloc | apply pw_below_drewN | apply below_drew1) | exact HB.out)) hb); clear HB; have HB := n0_; clear n0_; (try clear hb); (try clear hb2); (try clear hk); (try clear hi)))
    go_ret
    exact ⟨by first | rfl | (simp [errW_none, errW_some] <;> rfl) | (simp [*, errW_none, errW_some] <;> rfl), by repeat (first | (with_reducible first | exact HB.out | apply below_alloc | apply pw_below_drewN | apply below_drew1) | exact HB.out)⟩
def beadrollref07_lower.l0 : Nat → ByteArray → List Int → Int → Option (ByteArray)
  | 0, _, _, _ => none
  | k + 1, x0, x3, x4 => if x4 < (x0.size : Int) then (if 0 ≤ x4 then (if (bt x0 x4) ≥ 65 then (if (bt x0 x4) ≤ 90 then (if x3.length < 140737488355328 then (beadrollref07_lower.l0 k x0 (x3 ++ [((bt x0 x4) + 32) % 256]) (wrap64 (x4 + 1))) else (none)) else (if x3.length < 140737488355328 then (beadrollref07_lower.l0 k x0 (x3 ++ [bt x0 x4]) (wrap64 (x4 + 1))) else (none))) else (if x3.length < 140737488355328 then (beadrollref07_lower.l0 k x0 (x3 ++ [bt x0 x4]) (wrap64 (x4 + 1))) else (none))) else (none)) else (some (strOfNums x3))
def beadrollref07_lower.f (k : Nat) (a0 : ByteArray) : Option (ByteArray) := beadrollref07_lower.l0 k a0 ([] : List Int) 0
set_option maxHeartbeats 8000000 in
set_option maxRecDepth 100000 in
theorem beadrollref07_lower.calls (k : Nat) (a0 : ByteArray) (r : ByteArray) (w : World) (h : beadrollref07_lower.f k a0 = some r) :
    Calls Try.prog 55 #[.string a0] w fun e w' => e = .returned (.string r) ∧ Below w.heap.size w w' := by
  have HB := Aside0.mk (Below.refl w.heap.size w)
  have H : (beadrollref07_lower.l0 k a0 ([] : List Int) 0) = some r := h
  clear h
  have H' := Aside0.mk H
  clear H
  go_enter Try.func55, Try.ntmps55
  go_wp2
  go_loopg [3, 4] k (fun kq v3 v4 w' => ∃ (x3_1 : List Int) (x4_1 : Int), v4 = .int .i64 x4_1 ∧ Aside0 (beadrollref07_lower.l0 kq a0 x3_1 x4_1 = some r) ∧ Aside0 (kq ≤ k) ∧ Aside0 (Kd.R (Kd.int .u8) 5 w' w.heap.size (fun _ => True) v3 x3_1) ∧ Aside0 (Below w.heap.size w w'))
  case atStart => exact ⟨(([] : List Int)), (0), (by first | rfl | (simp; done) | (simp [*]; done)), H', ⟨Nat.le_refl _⟩, ⟨by first | exact Kd.R_nil _ _ _ _ _ | exact Kd.N_nil _ _ _ _ _ | exact Kd.V_nil _ _ _ _ _ | exact Kd.Q_nil _ _ _ _ _ | exact Kd.S_nil _ _ _ _ _⟩, ⟨by repeat (first | (with_reducible first | exact HB.out | apply below_alloc | apply pw_below_drewN | apply below_drew1) | exact HB.out)⟩⟩
  case round =>
    clear H'
    obtain ⟨x3_1, x4_1, rfl, HA, HK1, HO_3, HB⟩ := hrel
    cases gk with
    | zero => exact absurd HA.out (by simp [beadrollref07_lower.l0])
    | succ k1 =>
      have H := HA.out
      clear HA
      simp only [beadrollref07_lower.l0] at H
      by_cases c2 : x4_1 < (a0.size : Int)
      · rw [if_pos c2] at H
        have c2b0 : decide (x4_1 < (a0.size : Int)) = true := decide_eq_true c2
        clear c2
        by_cases c3 : 0 ≤ x4_1
        · rw [if_pos c3] at H
          have c3b0 : decide (0 ≤ x4_1) = true := decide_eq_true c3
          clear c3
          by_cases c5 : (bt a0 x4_1) ≥ 65
          · rw [if_pos c5] at H
            have c5b0 : decide (65 ≤ (bt a0 x4_1)) = true := decide_eq_true c5
            clear c5
            by_cases c6 : (bt a0 x4_1) ≤ 90
            · rw [if_pos c6] at H
              have c6b0 : decide ((bt a0 x4_1) ≤ 90) = true := decide_eq_true c6
              clear c6
              by_cases c7 : x3_1.length < 140737488355328
              · rw [if_pos c7] at H
                have LMc7 := Aside0.mk c7
                clear c7
                obtain ⟨y223, hy223⟩ : ∃ y_ : List Int, y_ = (x3_1 ++ [((bt a0 x4_1) + 32) % 256]) := ⟨_, rfl⟩
                replace H : (beadrollref07_lower.l0 k1 a0 y223 (wrap64 (x4_1 + 1))) = some r := by first | (rw [hy223]; with_reducible exact H) | (have H2_ := (Option.bind_some _ _).symm.trans H; rw [hy223]; with_reducible exact H2_) | (have H2_ := (Option.bind_some _ _).symm.trans H; with_reducible exact H2_) | with_reducible exact H | (rw [hy223]; exact H) | exact H
                have Ny223 := Aside0.mk hy223
                clear hy223
                have H' := Aside0.mk H
                clear H
                have p4 : 0 ≤ (x4_1 : Int) := of_decide_eq_true (by first | (with_reducible assumption) | assumption)
                have q4 : x4_1 < (a0.size : Int) := of_decide_eq_true (by first | (with_reducible assumption) | assumption)
                have hx4 := bt_at a0 x4_1
                replace p4 := eq_true p4
                replace q4 := eq_true q4
                go_wp2_with (first | ((with_reducible refine gate_builtin (b := .append) (xs := #[.tmp 23, .tmp 25]) rfl ?_); at_builtin; refine Kd.R_append (Kd.int .u8) (w0 := w) w.heap.size rfl (.tmp 23) (.tmp 25) 70 5 (.int .u8 0) 1 rfl Try.underlying70 info5 rfl (by decide) (by omega) u3 x3_1 (((bt a0 x4_1) + 32) % 256) [.int .u8 (((bt a0 x4_1) + 32) % 256)] (fun _ => True) (fun _ => False) rfl rfl ?aP (fun _ hk => hk.elim) ?aF ?aO ?aB ?aS ?aL ?_; (case aP => exact rfl); (case aB => exact (by repeat (first | (with_reducible first | exact HB.out | apply below_alloc | apply pw_below_drewN | apply below_drew1) | exact HB.out))); (case aF => exact (fun _ _ => trivial)); (case aO => exact (by (with_reducible repeat (first | apply Kd.R_alloc | apply Kd.R_drewN | apply Kd.R_drew)); exact HO_3.out)); (case aS => exact (below_size (by repeat (first | (with_reducible first | exact HB.out | apply below_alloc | apply pw_below_drewN | apply below_drew1) | exact HB.out)))); (case aL => have := LMc7.out; omega); intro v224 w8 ho hb hg hat; rw [← Ny223.out] at ho; have n0_ := Aside0.mk (hb); have n1_ := Aside0.mk (ho); clear HB; clear HO_3; have HB := n0_; have HO225 := n1_; clear n0_ n1_; clear ho hb hg hat))
                go_roundg k1
                case measure => have := HK1.out; omega
                case rel => exact ⟨(y223), (wrap64 (x4_1 + 1)), (by first | rfl | (simp; done) | (simp [*]; done)), H', ⟨by have := HK1.out; omega⟩, ⟨by (with_reducible repeat (first | apply Kd.R_alloc | apply Kd.R_drewN | apply Kd.R_drew)); exact HO225.out⟩, ⟨by repeat (first | (with_reducible first | exact HB.out | apply below_alloc | apply pw_below_drewN | apply below_drew1) | exact HB.out)⟩⟩
              · rw [if_neg c7] at H
                exact absurd H (by simp)
            · rw [if_neg c6] at H
              have c6b0 : decide ((bt a0 x4_1) ≤ 90) = false := decide_eq_false c6
              clear c6
              by_cases c9 : x3_1.length < 140737488355328
              · rw [if_pos c9] at H
                have LMc9 := Aside0.mk c9
                clear c9
                obtain ⟨y226, hy226⟩ : ∃ y_ : List Int, y_ = (x3_1 ++ [bt a0 x4_1]) := ⟨_, rfl⟩
                replace H : (beadrollref07_lower.l0 k1 a0 y226 (wrap64 (x4_1 + 1))) = some r := by first | (rw [hy226]; with_reducible exact H) | (have H2_ := (Option.bind_some _ _).symm.trans H; rw [hy226]; with_reducible exact H2_) | (have H2_ := (Option.bind_some _ _).symm.trans H; with_reducible exact H2_) | with_reducible exact H | (rw [hy226]; exact H) | exact H
                have Ny226 := Aside0.mk hy226
                clear hy226
                have H' := Aside0.mk H
                clear H
                have p4 : 0 ≤ (x4_1 : Int) := of_decide_eq_true (by first | (with_reducible assumption) | assumption)
                have q4 : x4_1 < (a0.size : Int) := of_decide_eq_true (by first | (with_reducible assumption) | assumption)
                have hx4 := bt_at a0 x4_1
                replace p4 := eq_true p4
                replace q4 := eq_true q4
                go_wp2_with (first | ((with_reducible refine gate_builtin (b := .append) (xs := #[.tmp 23, .tmp 25]) rfl ?_); at_builtin; refine Kd.R_append (Kd.int .u8) (w0 := w) w.heap.size rfl (.tmp 23) (.tmp 25) 70 5 (.int .u8 0) 1 rfl Try.underlying70 info5 rfl (by decide) (by omega) u3 x3_1 (bt a0 x4_1) [.int .u8 (bt a0 x4_1)] (fun _ => True) (fun _ => False) rfl rfl ?aP (fun _ hk => hk.elim) ?aF ?aO ?aB ?aS ?aL ?_; (case aP => exact rfl); (case aB => exact (by repeat (first | (with_reducible first | exact HB.out | apply below_alloc | apply pw_below_drewN | apply below_drew1) | exact HB.out))); (case aF => exact (fun _ _ => trivial)); (case aO => exact (by (with_reducible repeat (first | apply Kd.R_alloc | apply Kd.R_drewN | apply Kd.R_drew)); exact HO_3.out)); (case aS => exact (below_size (by repeat (first | (with_reducible first | exact HB.out | apply below_alloc | apply pw_below_drewN | apply below_drew1) | exact HB.out)))); (case aL => have := LMc9.out; omega); intro v227 w10 ho hb hg hat; rw [← Ny226.out] at ho; have n0_ := Aside0.mk (hb); have n1_ := Aside0.mk (ho); clear HB; clear HO_3; have HB := n0_; have HO228 := n1_; clear n0_ n1_; clear ho hb hg hat))
                go_roundg k1
                case measure => have := HK1.out; omega
                case rel => exact ⟨(y226), (wrap64 (x4_1 + 1)), (by first | rfl | (simp; done) | (simp [*]; done)), H', ⟨by have := HK1.out; omega⟩, ⟨by (with_reducible repeat (first | apply Kd.R_alloc | apply Kd.R_drewN | apply Kd.R_drew)); exact HO228.out⟩, ⟨by repeat (first | (with_reducible first | exact HB.out | apply below_alloc | apply pw_below_drewN | apply below_drew1) | exact HB.out)⟩⟩
              · rw [if_neg c9] at H
                exact absurd H (by simp)
          · rw [if_neg c5] at H
            have c5b0 : decide (65 ≤ (bt a0 x4_1)) = false := decide_eq_false c5
            clear c5
            by_cases c11 : x3_1.length < 140737488355328
            · rw [if_pos c11] at H
              have LMc11 := Aside0.mk c11
              clear c11
              obtain ⟨y229, hy229⟩ : ∃ y_ : List Int, y_ = (x3_1 ++ [bt a0 x4_1]) := ⟨_, rfl⟩
              replace H : (beadrollref07_lower.l0 k1 a0 y229 (wrap64 (x4_1 + 1))) = some r := by first | (rw [hy229]; with_reducible exact H) | (have H2_ := (Option.bind_some _ _).symm.trans H; rw [hy229]; with_reducible exact H2_) | (have H2_ := (Option.bind_some _ _).symm.trans H; with_reducible exact H2_) | with_reducible exact H | (rw [hy229]; exact H) | exact H
              have Ny229 := Aside0.mk hy229
              clear hy229
              have H' := Aside0.mk H
              clear H
              have p4 : 0 ≤ (x4_1 : Int) := of_decide_eq_true (by first | (with_reducible assumption) | assumption)
              have q4 : x4_1 < (a0.size : Int) := of_decide_eq_true (by first | (with_reducible assumption) | assumption)
              have hx4 := bt_at a0 x4_1
              replace p4 := eq_true p4
              replace q4 := eq_true q4
              go_wp2_with (first | ((with_reducible refine gate_builtin (b := .append) (xs := #[.tmp 23, .tmp 25]) rfl ?_); at_builtin; refine Kd.R_append (Kd.int .u8) (w0 := w) w.heap.size rfl (.tmp 23) (.tmp 25) 70 5 (.int .u8 0) 1 rfl Try.underlying70 info5 rfl (by decide) (by omega) u3 x3_1 (bt a0 x4_1) [.int .u8 (bt a0 x4_1)] (fun _ => True) (fun _ => False) rfl rfl ?aP (fun _ hk => hk.elim) ?aF ?aO ?aB ?aS ?aL ?_; (case aP => exact rfl); (case aB => exact (by repeat (first | (with_reducible first | exact HB.out | apply below_alloc | apply pw_below_drewN | apply below_drew1) | exact HB.out))); (case aF => exact (fun _ _ => trivial)); (case aO => exact (by (with_reducible repeat (first | apply Kd.R_alloc | apply Kd.R_drewN | apply Kd.R_drew)); exact HO_3.out)); (case aS => exact (below_size (by repeat (first | (with_reducible first | exact HB.out | apply below_alloc | apply pw_below_drewN | apply below_drew1) | exact HB.out)))); (case aL => have := LMc11.out; omega); intro v230 w12 ho hb hg hat; rw [← Ny229.out] at ho; have n0_ := Aside0.mk (hb); have n1_ := Aside0.mk (ho); clear HB; clear HO_3; have HB := n0_; have HO231 := n1_; clear n0_ n1_; clear ho hb hg hat))
              go_roundg k1
              case measure => have := HK1.out; omega
              case rel => exact ⟨(y229), (wrap64 (x4_1 + 1)), (by first | rfl | (simp; done) | (simp [*]; done)), H', ⟨by have := HK1.out; omega⟩, ⟨by (with_reducible repeat (first | apply Kd.R_alloc | apply Kd.R_drewN | apply Kd.R_drew)); exact HO231.out⟩, ⟨by repeat (first | (with_reducible first | exact HB.out | apply below_alloc | apply pw_below_drewN | apply below_drew1) | exact HB.out)⟩⟩
            · rw [if_neg c11] at H
              exact absurd H (by simp)
        · rw [if_neg c3] at H
          exact absurd H (by simp)
      · rw [if_neg c2] at H
        have c2b0 : decide (x4_1 < (a0.size : Int)) = false := decide_eq_false c2
        clear c2
        obtain rfl := Option.some.inj H
        have hcv13 := own_string (P := Try.prog) Try.underlying70 Try.underlying5 Try.underlying9 (Kd.own_of_R HO_3.out)
        go_wp2
        go_ret
        exact ⟨by first | rfl | (simp [errW_none, errW_some] <;> rfl) | (simp [*, errW_none, errW_some] <;> rfl), by repeat (first | (with_reducible first | exact HB.out | apply below_alloc | apply pw_below_drewN | apply below_drew1) | exact HB.out)⟩
def beadrollref07_Fold.l0 : Nat → List ByteArray → ByteArray → Int → Option (ByteArray)
  | 0, _, _, _ => none
  | k + 1, x3, x5, x6 => if x6 < (x3.length : Int) then (if 0 ≤ x6 then ((some (([(((rdOf ByteArray.empty x3 x6).size : Int)) % 256] : List Int) : List Int)).bind fun y237 => ((beadrollref07_lower.f k (rdOf ByteArray.empty x3 x6)).bind fun t241 => (if (strOfNums y237).size + t241.size ≤ 9223372036854775807 then (if x5.size + ((strOfNums y237) ++ t241).size ≤ 9223372036854775807 then (beadrollref07_Fold.l0 k x3 (x5 ++ ((strOfNums y237) ++ t241)) (wrap64 (x6 + 1))) else (none)) else (none)))) else (none)) else (if x5.size + 1 ≤ 9223372036854775807 then (some (x5 ++ (⟨#[0]⟩ : ByteArray))) else (none))
def beadrollref07_Fold.f (k : Nat) (a0 : ByteArray) : Option (ByteArray) := (beadrollref07_Labels.f k a0).bind fun bt232 => (if bt232.2 = true then (beadrollref07_Fold.l0 k bt232.1 (⟨#[]⟩ : ByteArray) 0) else (some (⟨#[]⟩ : ByteArray)))
def beadrollref07_Fold.T8 : Bool × List (List Nat × List Nat) := (true, [([], []), ([], []), ([], []), ([1, 2], [1, 2]), ([3], [3]), ([4], [4]), ([5], [5]), ([6], [6]), ([7], [7]), ([], []), ([], []), ([9, 10], [9, 10]), ([11], [11]), ([12], [12]), ([8, 13], [8, 13]), ([0, 14], [0, 14]), ([15, 13, 0, 1, 2, 3, 4, 5, 6, 7, 8, 9, 10, 11, 12, 13, 14, 15], [0, 15])])
def beadrollref07_Fold.B8 : List Nat := [0, 0, 0, 6, 14, 30, 62, 126, 254, 0, 0, 1536, 3584, 7680, 16382, 32767, 65535]
theorem beadrollref07_Fold.tab8 : rtab .any (opsOf Try.f41 8) = beadrollref07_Fold.T8 := by kernel_rfl
theorem beadrollref07_Fold.bits8 : waitsOk beadrollref07_Fold.T8.2 beadrollref07_Fold.B8 = true := by kernel_rfl
set_option maxHeartbeats 8000000 in
set_option maxRecDepth 100000 in
theorem beadrollref07_Fold.calls (k : Nat) (a0 : ByteArray) (r : ByteArray) (w : World) (h : beadrollref07_Fold.f k a0 = some r) :
    Calls Try.prog 41 #[.string a0] w fun e w' => e = .returned (.string r) ∧ Below w.heap.size w w' := by
  have HB := Aside0.mk (Below.refl w.heap.size w)
  have H : ((beadrollref07_Labels.f k a0).bind fun bt232 => (if bt232.2 = true then (beadrollref07_Fold.l0 k bt232.1 (⟨#[]⟩ : ByteArray) 0) else (some (⟨#[]⟩ : ByteArray)))) = some r := h
  clear h
  replace H := Option.bind_eq_some_iff.mp H
  obtain ⟨⟨t232, t233⟩, A20, H⟩ := H
  replace H : (if t233 = true then (beadrollref07_Fold.l0 k t232 (⟨#[]⟩ : ByteArray) 0) else (some (⟨#[]⟩ : ByteArray))) = some r := H
  have A2 := Aside0.mk A20
  clear A20
  by_cases c3 : t233 = true
  · subst c3
    have H1 : (beadrollref07_Fold.l0 k t232 (⟨#[]⟩ : ByteArray) 0) = some r := by rw [if_pos rfl] at H; exact H
    clear H
    have H := H1
    clear H1
    have H' := Aside0.mk H
    clear H
    go_enter Try.func41, Try.ntmps41
    go_wp2_with (first | ((with_reducible refine gate_callee (f := 39) rfl ?_); refine goesL_ (some 9) rfl rfl Try.func39 (by kernel_rfl) rfl #[.string a0] rfl (by (try simp only [List.map_toArray, List.map_cons, List.map_nil]); first | done | rfl | (simp only [List.length_drop, List.length_take]; rfl)) ?_; (with_reducible refine (beadrollref07_Labels.calls k a0 t232 true _ A2.out).mono ?_); rintro e w4 ⟨v234, rfl, ho0, hb⟩; refine ⟨_, rfl, ?_⟩; have n0_ := Aside0.mk (Kd.R_lower ho0 (below_size (by repeat (first | (with_reducible first | exact HB.out | apply below_alloc | apply pw_below_drewN | apply below_drew1) | exact HB.out)))); have n1_ := Aside0.mk (below_step (by repeat (first | (with_reducible first | exact HB.out | apply below_alloc | apply pw_below_drewN | apply below_drew1) | exact HB.out)) hb); clear HB; have HO235 := n0_; have HB := n1_; clear n0_ n1_; (try clear hb); (try clear hb2); (try clear hk); (try clear hi); (try clear ho0)))
    go_loopg [5, 6] k (fun kq v5 v6 w' => ∃ (x5_1 : ByteArray) (x6_1 : Int), v5 = .string x5_1 ∧ v6 = .int .i64 x6_1 ∧ Aside0 (beadrollref07_Fold.l0 kq t232 x5_1 x6_1 = some r) ∧ Aside0 (kq ≤ k) ∧ Aside0 (Kd.R Kd.string 9 w' w.heap.size (fun _ => True) v234 t232) ∧ Aside0 (Below w.heap.size w w'))
    case atStart => exact ⟨((⟨#[]⟩ : ByteArray)), (0), (by first | rfl | (simp; done) | (simp [*]; done)), (by first | rfl | (simp; done) | (simp [*]; done)), H', ⟨Nat.le_refl _⟩, ⟨by (with_reducible repeat (first | apply Kd.R_alloc | apply Kd.R_drewN | apply Kd.R_drew)); exact HO235.out⟩, ⟨by repeat (first | (with_reducible first | exact HB.out | apply below_alloc | apply pw_below_drewN | apply below_drew1) | exact HB.out)⟩⟩
    case round =>
      clear H'
      try clear p2
      try clear c3
      try clear c4
      obtain ⟨x5_1, x6_1, rfl, rfl, HA, HK1, HO_3, HB⟩ := hrel
      cases gk with
      | zero => exact absurd HA.out (by simp [beadrollref07_Fold.l0])
      | succ k1 =>
        have H := HA.out
        clear HA
        simp only [beadrollref07_Fold.l0] at H
        by_cases c5 : x6_1 < (t232.length : Int)
        · rw [if_pos c5] at H
          have c5b0 : decide (x6_1 < (t232.length : Int)) = true := decide_eq_true c5
          clear c5
          by_cases c6 : 0 ≤ x6_1
          · rw [if_pos c6] at H
            have c6b0 : decide (0 ≤ x6_1) = true := decide_eq_true c6
            clear c6
            obtain ⟨y237, hy237⟩ : ∃ y_ : List Int, y_ = (([(((rdOf ByteArray.empty t232 x6_1).size : Int)) % 256] : List Int)) := ⟨_, rfl⟩
            replace H : ((beadrollref07_lower.f k1 (rdOf ByteArray.empty t232 x6_1)).bind fun t241 => (if (strOfNums y237).size + t241.size ≤ 9223372036854775807 then (if x5_1.size + ((strOfNums y237) ++ t241).size ≤ 9223372036854775807 then (beadrollref07_Fold.l0 k1 t232 (x5_1 ++ ((strOfNums y237) ++ t241)) (wrap64 (x6_1 + 1))) else (none)) else (none))) = some r := by first | (rw [hy237]; with_reducible exact H) | (have H2_ := (Option.bind_some _ _).symm.trans H; rw [hy237]; with_reducible exact H2_) | (have H2_ := (Option.bind_some _ _).symm.trans H; with_reducible exact H2_) | with_reducible exact H | (rw [hy237]; exact H) | exact H
            have Ny237 := Aside0.mk hy237
            clear hy237
            replace H := Option.bind_eq_some_iff.mp H
            obtain ⟨t241, A70, H⟩ := H
            replace H : (if (strOfNums y237).size + t241.size ≤ 9223372036854775807 then (if x5_1.size + ((strOfNums y237) ++ t241).size ≤ 9223372036854775807 then (beadrollref07_Fold.l0 k1 t232 (x5_1 ++ ((strOfNums y237) ++ t241)) (wrap64 (x6_1 + 1))) else (none)) else (none)) = some r := H
            have A7 := Aside0.mk A70
            clear A70
            by_cases c8 : (strOfNums y237).size + t241.size ≤ 9223372036854775807
            · rw [if_pos c8] at H
              have c8b0 := eq_true c8
              have c8b1 : decide ((strOfNums y237).size + t241.size ≤ 9223372036854775807) = true := decide_eq_true c8
              try have c8b2 : (9223372036854775807 < (strOfNums y237).size + t241.size) = False := eq_false (Nat.not_lt.2 c8)
              by_cases c9 : x5_1.size + ((strOfNums y237) ++ t241).size ≤ 9223372036854775807
              · rw [if_pos c9] at H
                have c9b0 := eq_true c9
                have c9b1 : decide (x5_1.size + ((strOfNums y237) ++ t241).size ≤ 9223372036854775807) = true := decide_eq_true c9
                try have c9b2 : (9223372036854775807 < x5_1.size + ((strOfNums y237) ++ t241).size) = False := eq_false (Nat.not_lt.2 c9)
                try have c9b3 := c9b2
                try simp only [ByteArray.size_append] at c9b3
                have H' := Aside0.mk H
                clear H
                obtain ⟨Ao10, co10, eo10⟩ := Kd.R_slice HO_3.out
                subst eo10
                try go_wp2
                have n0_ := Aside0.mk (Kd.R_drew HO_3.out)
                have n1_ := Aside0.mk (below_drew1 HB.out)
                clear HO_3
                clear HB
                have HO_3 := n0_
                have HB := n1_
                clear n0_ n1_
                have p236 : 0 ≤ (x6_1 : Int) := of_decide_eq_true (by first | (with_reducible assumption) | assumption)
                have q236 : x6_1 < (t232.length : Int) := of_decide_eq_true (by first | (with_reducible assumption) | assumption)
                obtain ⟨ad236, e236, hx236_0⟩ := Kd.at_string (Kd.R_reads' HO_3.out).2.2 x6_1 p236 q236
                cases e236
                replace p236 := eq_true p236
                replace q236 := eq_true q236
                have p240 : 0 ≤ (x6_1 : Int) := of_decide_eq_true (by first | (with_reducible assumption) | assumption)
                have q240 : x6_1 < (t232.length : Int) := of_decide_eq_true (by first | (with_reducible assumption) | assumption)
                obtain ⟨ad240, e240, hx240_0⟩ := Kd.at_string (Kd.R_reads' HO_3.out).2.2 x6_1 p240 q240
                obtain rfl : ad236 = ad240 := (by injection e240)
                replace p240 := eq_true p240
                replace q240 := eq_true q240
                refine start_ (n := 17) (S := fun w' => w'.cell? (ad236.add (x6_1).toNat) = some (.string (rdOf ByteArray.empty t232 x6_1)) ∧ w'.cell? (ad236.add (x6_1).toNat) = some (.string (rdOf ByteArray.empty t232 x6_1))) (ds := []) #[false, false, false, false, false, false, false, false, false, false, false, false, false, false, false, false, false] (by kernel_rfl) rfl rfl ⟨hx236_0, hx240_0⟩ (fun hHeld => ?_); refine with_tabW beadrollref07_Fold.tab8 beadrollref07_Fold.bits8 (fun HT_ HW_ => ?_)
                generalize wr.drew = w11 at HO_3 HB hx236_0 hx240_0 hHeld ⊢
                refine pure_ (i := 0) (N := some 20) (v := ?_) (a' := ?_) #[true, false, false, false, false, false, false, false, false, false, false, false, false, false, false, false, false] rfl rfl (any_of HT_.out (by kernel_rfl)) (fun _ _ _ h => h) (Or.inl ⟨by rfl, ?_⟩) ?_ ?_
                rotate_left
                · intro w'
                  go_simp
                  with_reducible rfl
                rotate_left
                · simp only [Act.put, List.setIfInBounds_toArray, List.set_cons_zero, List.set_cons_succ, i64_w, i32_w]
                  rfl
                refine pure_ (i := 1) (N := some 21) (v := ?_) (a' := ?_) #[true, true, false, false, false, false, false, false, false, false, false, false, false, false, false, false, false] rfl rfl (any_of HT_.out (by kernel_rfl)) (fun _ _ _ h => h) (Or.inl ⟨by rfl, ?_⟩) ?_ ?_
                rotate_left
                · intro w'
                  go_simp
                  with_reducible rfl
                rotate_left
                · simp only [Act.put, List.setIfInBounds_toArray, List.set_cons_zero, List.set_cons_succ, i64_w, i32_w]
                  rfl
                refine pure_ (i := 2) (N := some 22) (v := ?_) (a' := ?_) #[true, true, true, false, false, false, false, false, false, false, false, false, false, false, false, false, false] rfl rfl (any_of HT_.out (by kernel_rfl)) (fun _ _ _ h => h) (Or.inl ⟨by rfl, ?_⟩) ?_ ?_
                rotate_left
                · intro w'
                  go_simp
                  with_reducible rfl
                rotate_left
                · simp only [Act.put, List.setIfInBounds_toArray, List.set_cons_zero, List.set_cons_succ, i64_w, i32_w]
                  rfl
                refine pure_ (i := 3) (N := some 23) (v := ?_) (a' := ?_) #[true, true, true, true, false, false, false, false, false, false, false, false, false, false, false, false, false] rfl rfl (any_of HT_.out (by kernel_rfl)) (fun _ _ _ h => h) (Or.inl ⟨by rfl, ?_⟩) ?_ ?_
                rotate_left
                · intro w'
                  go_simp
                  with_reducible rfl
                rotate_left
                · simp only [Act.put, List.setIfInBounds_toArray, List.set_cons_zero, List.set_cons_succ, i64_w, i32_w]
                  rfl
                refine pure_ (i := 9) (N := some 29) (v := ?_) (a' := ?_) #[true, true, true, true, false, false, false, false, false, true, false, false, false, false, false, false, false] rfl rfl (any_of HT_.out (by kernel_rfl)) (fun _ _ _ h => h) (Or.inl ⟨by rfl, ?_⟩) ?_ ?_
                rotate_left
                · intro w'
                  go_simp
                  with_reducible rfl
                rotate_left
                · simp only [Act.put, List.setIfInBounds_toArray, List.set_cons_zero, List.set_cons_succ, i64_w, i32_w]
                  rfl
                refine pure_ (i := 10) (N := some 30) (v := ?_) (a' := ?_) #[true, true, true, true, false, false, false, false, false, true, true, false, false, false, false, false, false] rfl rfl (any_of HT_.out (by kernel_rfl)) (fun _ _ _ h => h) (Or.inl ⟨by rfl, ?_⟩) ?_ ?_
                rotate_left
                · intro w'
                  go_simp
                  with_reducible rfl
                rotate_left
                · simp only [Act.put, List.setIfInBounds_toArray, List.set_cons_zero, List.set_cons_succ, i64_w, i32_w]
                  rfl
                refine pure_ (i := 11) (N := some 31) (v := ?_) (a' := ?_) #[true, true, true, true, false, false, false, false, false, true, true, true, false, false, false, false, false] rfl rfl (any_of HT_.out (by kernel_rfl)) (fun _ _ _ h => h) (Or.inl ⟨by rfl, ?_⟩) ?_ ?_
                rotate_left
                · intro w'
                  go_simp
                  with_reducible rfl
                rotate_left
                · simp only [Act.put, List.setIfInBounds_toArray, List.set_cons_zero, List.set_cons_succ, i64_w, i32_w]
                  rfl
                refine take_ (i := 4) (N := some 24) (v := ?_) (a' := ?_) #[true, true, true, true, true, false, false, false, false, true, true, true, false, false, false, false, false] rfl rfl (take_ofW HT_.out HW_.out (by kernel_rfl)) (fun _ _ _ h => h) (Or.inl ⟨by rfl, ?_⟩) hHeld ?_ ?_
                rotate_left
                · rintro w' ⟨s0, s1⟩
                  go_simp
                  with_reducible rfl
                rotate_left
                · simp only [Act.put, List.setIfInBounds_toArray, List.set_cons_zero, List.set_cons_succ, i64_w, i32_w]
                  rfl
                refine pure_ (i := 5) (N := some 25) (v := ?_) (a' := ?_) #[true, true, true, true, true, true, false, false, false, true, true, true, false, false, false, false, false] rfl rfl (any_of HT_.out (by kernel_rfl)) (fun _ _ _ h => h) (Or.inl ⟨by rfl, ?_⟩) ?_ ?_
                rotate_left
                · intro w'
                  go_simp
                  with_reducible rfl
                rotate_left
                · simp only [Act.put, List.setIfInBounds_toArray, List.set_cons_zero, List.set_cons_succ, i64_w, i32_w]
                  rfl
                refine pure_ (i := 6) (N := some 26) (v := ?_) (a' := ?_) #[true, true, true, true, true, true, true, false, false, true, true, true, false, false, false, false, false] rfl rfl (any_of HT_.out (by kernel_rfl)) (fun _ _ _ h => h) (Or.inl ⟨by rfl, ?_⟩) ?_ ?_
                rotate_left
                · intro w'
                  go_simp
                  with_reducible rfl
                rotate_left
                · simp only [Act.put, List.setIfInBounds_toArray, List.set_cons_zero, List.set_cons_succ, i64_w, i32_w]
                  rfl
                refine take_ (i := 12) (N := some 32) (v := ?_) (a' := ?_) #[true, true, true, true, true, true, true, false, false, true, true, true, true, false, false, false, false] rfl rfl (take_ofW HT_.out HW_.out (by kernel_rfl)) (fun _ _ _ h => h) (Or.inl ⟨by rfl, ?_⟩) hHeld ?_ ?_
                rotate_left
                · rintro w' ⟨s0, s1⟩
                  go_simp
                  with_reducible rfl
                rotate_left
                · simp only [Act.put, List.setIfInBounds_toArray, List.set_cons_zero, List.set_cons_succ, i64_w, i32_w]
                  rfl
                refine join_ (σ := Value) 3 #[true, true, true, true, true, true, true, true, true, true, true, true, true, true, false, false, false] (fun s_ => [(27, s_), (28, .string (strOfNums y237)), (33, .string t241)]) (fun s_ w' => (w'.cell? (ad236.add (x6_1).toNat) = some (.string (rdOf ByteArray.empty t232 x6_1)) ∧ w'.cell? (ad236.add (x6_1).toNat) = some (.string (rdOf ByteArray.empty t232 x6_1))) ∧ (Kd.R (Kd.int .u8) 5 w' w.heap.size (fun _ => True) s_ y237) ∧ (Kd.R Kd.string 9 w' w.heap.size (fun _ => True) (.slice (some ad236) t232.length co10) t232) ∧ (Below w.heap.size w w')) ?_ ?_
                rotate_left
                · intro hCont
                  refine two_ (i := 7) (j := 13) (Ni := some 27) (Nj := some 33) #[true, true, true, true, true, true, true, true, false, true, true, true, true, false, false, false, false] #[true, true, true, true, true, true, true, false, false, true, true, true, true, true, false, false, false] rfl rfl rfl rfl (two_of HT_.out (by kernel_rfl)) (by decide) (by decide) (fun K hK => ?_) (fun K hK => ?_)
                  · skip
                    refine Kd.R_lit_step (Kd.int .u8) _ 5 ?hg (N := 27) ?hd (xs := ([(((rdOf ByteArray.empty t232 x6_1).size : Int)) % 256] : List Int)) (inner := [.int .u8 ((((rdOf ByteArray.empty t232 x6_1).size : Int)) % 256)]) (ok := fun _ => True) (okp := fun _ => True) ?hr ?hp (fun _ hk => hk) trivial (Below.refl _ _) (Nat.le_refl _) (by simp) ?_; (case hd => rfl); (case hg => rfl); (case hr => first | (go_simp; done) | (go_simp; rfl)); (case hp => exact (Reps.one (show Kd.M (Kd.int .u8) _ _ _ ((((rdOf ByteArray.empty t232 x6_1).size : Int)) % 256) [.int .u8 ((((rdOf ByteArray.empty t232 x6_1).size : Int)) % 256)] from rfl) (Reps.none _ _)))
                    intro v238 w12 ho13 hb hg_ hnew_
                    have HS0_ := (hb.cell (World.block_lt_of_cell? _ _ (hHeld.1))).trans (hHeld.1)
                    have HS1_ := (hb.cell (World.block_lt_of_cell? _ _ (hHeld.2))).trans (hHeld.2)
                    clear hg_ hnew_
                    (first | rw [← Ny237.out] at ho13 | (simp only [Int.reduceToNat] at ho13; rw [← Ny237.out] at ho13))
                    have n0_ := Aside0.mk (Kd.R_below (by (with_reducible repeat (first | apply Kd.R_alloc | apply Kd.R_drewN | apply Kd.R_drew)); exact HO_3.out) hb)
                    have n1_ := Aside0.mk (Kd.R_lower ho13 (below_size (by repeat (first | (with_reducible first | exact HB.out | apply below_alloc | apply pw_below_drewN | apply below_drew1) | exact HB.out))))
                    have n2_ := Aside0.mk (below_step (by repeat (first | (with_reducible first | exact HB.out | apply below_alloc | apply pw_below_drewN | apply below_drew1) | exact HB.out)) hb)
                    clear HO_3
                    clear HB
                    have HO_3 := n0_
                    have HO239 := n1_
                    have HB := n2_
                    clear n0_ n1_ n2_
                    clear hb ho13
                    refine hK.out _ _ ⟨HS0_, HS1_⟩ (fun hHeld => ?_)
                    clear hK K
                    refine norm_ (a' := ?_) ?_ ?_
                    rotate_left
                    · show Act.put _ (some 27) _ = _
                      simp only [Act.put, List.setIfInBounds_toArray, List.set_cons_zero, List.set_cons_succ, i64_w, i32_w]
                      rfl
                    refine two_ (i := 8) (j := 13) (Ni := some 28) (Nj := some 33) #[true, true, true, true, true, true, true, true, true, true, true, true, true, false, false, false, false] #[true, true, true, true, true, true, true, true, false, true, true, true, true, true, false, false, false] rfl rfl rfl rfl (two_of HT_.out (by kernel_rfl)) (by decide) (by decide) (fun K hK => ?_) (fun K hK => ?_)
                    · skip
                      have hcv14 := own_string (P := Try.prog) Try.underlying70 Try.underlying5 Try.underlying9 (Kd.own_of_R HO239.out)
                      refine value_ (w1 := ?_) (v := ?_) (by rfl) rfl ?_ ?_
                      rotate_left 2
                      · go_simp
                        constructor
                        · rfl
                        · rfl
                      clear hcv14
                      refine hK.out _ _ ⟨hHeld.1, hHeld.2⟩ (fun hHeld => ?_)
                      clear hK K
                      refine norm_ (a' := ?_) ?_ ?_
                      rotate_left
                      · show Act.put _ (some 28) _ = _
                        simp only [Act.put, List.setIfInBounds_toArray, List.set_cons_zero, List.set_cons_succ, i64_w, i32_w]
                        rfl
                      refine one_ (i := 13) (N := some 33) #[true, true, true, true, true, true, true, true, true, true, true, true, true, true, false, false, false] rfl rfl (one_of HT_.out (by kernel_rfl)) (by decide) (fun K hK => ?_)
                      refine goes_ Try.func55 (by kernel_rfl) rfl #[.string (rdOf ByteArray.empty t232 x6_1)] (by rfl) rfl rfl (by (try simp only [List.map_toArray, List.map_cons, List.map_nil]); first | done | rfl | (simp only [List.length_drop, List.length_take]; rfl)) ?_
                      with_reducible refine (beadrollref07_lower.calls k1 (rdOf ByteArray.empty t232 x6_1) t241 _ A7.out).mono ?_
                      rintro e w15 ⟨rfl, hb⟩
                      have HS0_ := (hb.cell (World.block_lt_of_cell? _ _ (hHeld.1))).trans (hHeld.1)
                      have HS1_ := (hb.cell (World.block_lt_of_cell? _ _ (hHeld.2))).trans (hHeld.2)
                      refine ⟨_, rfl, ?_⟩
                      have n0_ := Aside0.mk (Kd.R_below (by (with_reducible repeat (first | apply Kd.R_alloc | apply Kd.R_drewN | apply Kd.R_drew)); exact HO_3.out) hb)
                      have n1_ := Aside0.mk (Kd.R_below (by (with_reducible repeat (first | apply Kd.R_alloc | apply Kd.R_drewN | apply Kd.R_drew)); exact HO239.out) hb)
                      have n2_ := Aside0.mk (below_step (by repeat (first | (with_reducible first | exact HB.out | apply below_alloc | apply pw_below_drewN | apply below_drew1) | exact HB.out)) hb)
                      clear HO_3
                      clear HO239
                      clear HB
                      have HO_3 := n0_
                      have HO239 := n1_
                      have HB := n2_
                      clear n0_ n1_ n2_
                      (try clear hb)
                      (try clear hb2)
                      (try clear hk)
                      (try clear hi)
                      refine hK.out _ _ ⟨HS0_, HS1_⟩ (fun hHeld => ?_)
                      clear hK K
                      refine norm_ (a' := ?_) ?_ ?_
                      rotate_left
                      · show Act.put _ (some 33) _ = _
                        simp only [Act.put, List.setIfInBounds_toArray, List.set_cons_zero, List.set_cons_succ, i64_w, i32_w]
                        rfl
                      exact norm_ (by simp only [putAll, Act.put, List.setIfInBounds_toArray, List.set_cons_zero, List.set_cons_succ]) (hCont (v238) _ ⟨hHeld, (by (with_reducible repeat (first | apply Kd.R_alloc | apply Kd.R_drewN | apply Kd.R_drew)); exact HO239.out), (by (with_reducible repeat (first | apply Kd.R_alloc | apply Kd.R_drewN | apply Kd.R_drew)); exact HO_3.out), (by repeat (first | (with_reducible first | exact HB.out | apply below_alloc | apply pw_below_drewN | apply below_drew1) | exact HB.out))⟩)
                    · skip
                      refine goes_ Try.func55 (by kernel_rfl) rfl #[.string (rdOf ByteArray.empty t232 x6_1)] (by rfl) rfl rfl (by (try simp only [List.map_toArray, List.map_cons, List.map_nil]); first | done | rfl | (simp only [List.length_drop, List.length_take]; rfl)) ?_
                      with_reducible refine (beadrollref07_lower.calls k1 (rdOf ByteArray.empty t232 x6_1) t241 _ A7.out).mono ?_
                      rintro e w14 ⟨rfl, hb⟩
                      have HS0_ := (hb.cell (World.block_lt_of_cell? _ _ (hHeld.1))).trans (hHeld.1)
                      have HS1_ := (hb.cell (World.block_lt_of_cell? _ _ (hHeld.2))).trans (hHeld.2)
                      refine ⟨_, rfl, ?_⟩
                      have n0_ := Aside0.mk (Kd.R_below (by (with_reducible repeat (first | apply Kd.R_alloc | apply Kd.R_drewN | apply Kd.R_drew)); exact HO_3.out) hb)
                      have n1_ := Aside0.mk (Kd.R_below (by (with_reducible repeat (first | apply Kd.R_alloc | apply Kd.R_drewN | apply Kd.R_drew)); exact HO239.out) hb)
                      have n2_ := Aside0.mk (below_step (by repeat (first | (with_reducible first | exact HB.out | apply below_alloc | apply pw_below_drewN | apply below_drew1) | exact HB.out)) hb)
                      clear HO_3
                      clear HO239
                      clear HB
                      have HO_3 := n0_
                      have HO239 := n1_
                      have HB := n2_
                      clear n0_ n1_ n2_
                      (try clear hb)
                      (try clear hb2)
                      (try clear hk)
                      (try clear hi)
                      refine hK.out _ _ ⟨HS0_, HS1_⟩ (fun hHeld => ?_)
                      clear hK K
                      refine norm_ (a' := ?_) ?_ ?_
                      rotate_left
                      · show Act.put _ (some 33) _ = _
                        simp only [Act.put, List.setIfInBounds_toArray, List.set_cons_zero, List.set_cons_succ, i64_w, i32_w]
                        rfl
                      refine one_ (i := 8) (N := some 28) #[true, true, true, true, true, true, true, true, true, true, true, true, true, true, false, false, false] rfl rfl (one_of HT_.out (by kernel_rfl)) (by decide) (fun K hK => ?_)
                      have hcv15 := own_string (P := Try.prog) Try.underlying70 Try.underlying5 Try.underlying9 (Kd.own_of_R HO239.out)
                      refine value_ (w1 := ?_) (v := ?_) (by rfl) rfl ?_ ?_
                      rotate_left 2
                      · go_simp
                        constructor
                        · rfl
                        · rfl
                      clear hcv15
                      refine hK.out _ _ ⟨hHeld.1, hHeld.2⟩ (fun hHeld => ?_)
                      clear hK K
                      refine norm_ (a' := ?_) ?_ ?_
                      rotate_left
                      · show Act.put _ (some 28) _ = _
                        simp only [Act.put, List.setIfInBounds_toArray, List.set_cons_zero, List.set_cons_succ, i64_w, i32_w]
                        rfl
                      exact norm_ (by simp only [putAll, Act.put, List.setIfInBounds_toArray, List.set_cons_zero, List.set_cons_succ]) (hCont (v238) _ ⟨hHeld, (by (with_reducible repeat (first | apply Kd.R_alloc | apply Kd.R_drewN | apply Kd.R_drew)); exact HO239.out), (by (with_reducible repeat (first | apply Kd.R_alloc | apply Kd.R_drewN | apply Kd.R_drew)); exact HO_3.out), (by repeat (first | (with_reducible first | exact HB.out | apply below_alloc | apply pw_below_drewN | apply below_drew1) | exact HB.out))⟩)
                  · skip
                    refine goes_ Try.func55 (by kernel_rfl) rfl #[.string (rdOf ByteArray.empty t232 x6_1)] (by rfl) rfl rfl (by (try simp only [List.map_toArray, List.map_cons, List.map_nil]); first | done | rfl | (simp only [List.length_drop, List.length_take]; rfl)) ?_
                    with_reducible refine (beadrollref07_lower.calls k1 (rdOf ByteArray.empty t232 x6_1) t241 _ A7.out).mono ?_
                    rintro e w12 ⟨rfl, hb⟩
                    have HS0_ := (hb.cell (World.block_lt_of_cell? _ _ (hHeld.1))).trans (hHeld.1)
                    have HS1_ := (hb.cell (World.block_lt_of_cell? _ _ (hHeld.2))).trans (hHeld.2)
                    refine ⟨_, rfl, ?_⟩
                    have n0_ := Aside0.mk (Kd.R_below (by (with_reducible repeat (first | apply Kd.R_alloc | apply Kd.R_drewN | apply Kd.R_drew)); exact HO_3.out) hb)
                    have n1_ := Aside0.mk (below_step (by repeat (first | (with_reducible first | exact HB.out | apply below_alloc | apply pw_below_drewN | apply below_drew1) | exact HB.out)) hb)
                    clear HO_3
                    clear HB
                    have HO_3 := n0_
                    have HB := n1_
                    clear n0_ n1_
                    (try clear hb)
                    (try clear hb2)
                    (try clear hk)
                    (try clear hi)
                    refine hK.out _ _ ⟨HS0_, HS1_⟩ (fun hHeld => ?_)
                    clear hK K
                    refine norm_ (a' := ?_) ?_ ?_
                    rotate_left
                    · show Act.put _ (some 33) _ = _
                      simp only [Act.put, List.setIfInBounds_toArray, List.set_cons_zero, List.set_cons_succ, i64_w, i32_w]
                      rfl
                    refine one_ (i := 7) (N := some 27) #[true, true, true, true, true, true, true, true, false, true, true, true, true, true, false, false, false] rfl rfl (one_of HT_.out (by kernel_rfl)) (by decide) (fun K hK => ?_)
                    refine Kd.R_lit_step (Kd.int .u8) _ 5 ?hg (N := 27) ?hd (xs := ([(((rdOf ByteArray.empty t232 x6_1).size : Int)) % 256] : List Int)) (inner := [.int .u8 ((((rdOf ByteArray.empty t232 x6_1).size : Int)) % 256)]) (ok := fun _ => True) (okp := fun _ => True) ?hr ?hp (fun _ hk => hk) trivial (Below.refl _ _) (Nat.le_refl _) (by simp) ?_; (case hd => rfl); (case hg => rfl); (case hr => first | (go_simp; done) | (go_simp; rfl)); (case hp => exact (Reps.one (show Kd.M (Kd.int .u8) _ _ _ ((((rdOf ByteArray.empty t232 x6_1).size : Int)) % 256) [.int .u8 ((((rdOf ByteArray.empty t232 x6_1).size : Int)) % 256)] from rfl) (Reps.none _ _)))
                    intro v238 w13 ho14 hb hg_ hnew_
                    have HS0_ := (hb.cell (World.block_lt_of_cell? _ _ (hHeld.1))).trans (hHeld.1)
                    have HS1_ := (hb.cell (World.block_lt_of_cell? _ _ (hHeld.2))).trans (hHeld.2)
                    clear hg_ hnew_
                    (first | rw [← Ny237.out] at ho14 | (simp only [Int.reduceToNat] at ho14; rw [← Ny237.out] at ho14))
                    have n0_ := Aside0.mk (Kd.R_below (by (with_reducible repeat (first | apply Kd.R_alloc | apply Kd.R_drewN | apply Kd.R_drew)); exact HO_3.out) hb)
                    have n1_ := Aside0.mk (Kd.R_lower ho14 (below_size (by repeat (first | (with_reducible first | exact HB.out | apply below_alloc | apply pw_below_drewN | apply below_drew1) | exact HB.out))))
                    have n2_ := Aside0.mk (below_step (by repeat (first | (with_reducible first | exact HB.out | apply below_alloc | apply pw_below_drewN | apply below_drew1) | exact HB.out)) hb)
                    clear HO_3
                    clear HB
                    have HO_3 := n0_
                    have HO239 := n1_
                    have HB := n2_
                    clear n0_ n1_ n2_
                    clear hb ho14
                    refine hK.out _ _ ⟨HS0_, HS1_⟩ (fun hHeld => ?_)
                    clear hK K
                    refine norm_ (a' := ?_) ?_ ?_
                    rotate_left
                    · show Act.put _ (some 27) _ = _
                      simp only [Act.put, List.setIfInBounds_toArray, List.set_cons_zero, List.set_cons_succ, i64_w, i32_w]
                      rfl
                    refine one_ (i := 8) (N := some 28) #[true, true, true, true, true, true, true, true, true, true, true, true, true, true, false, false, false] rfl rfl (one_of HT_.out (by kernel_rfl)) (by decide) (fun K hK => ?_)
                    have hcv15 := own_string (P := Try.prog) Try.underlying70 Try.underlying5 Try.underlying9 (Kd.own_of_R HO239.out)
                    refine value_ (w1 := ?_) (v := ?_) (by rfl) rfl ?_ ?_
                    rotate_left 2
                    · go_simp
                      constructor
                      · rfl
                      · rfl
                    clear hcv15
                    refine hK.out _ _ ⟨hHeld.1, hHeld.2⟩ (fun hHeld => ?_)
                    clear hK K
                    refine norm_ (a' := ?_) ?_ ?_
                    rotate_left
                    · show Act.put _ (some 28) _ = _
                      simp only [Act.put, List.setIfInBounds_toArray, List.set_cons_zero, List.set_cons_succ, i64_w, i32_w]
                      rfl
                    exact norm_ (by simp only [putAll, Act.put, List.setIfInBounds_toArray, List.set_cons_zero, List.set_cons_succ]) (hCont (v238) _ ⟨hHeld, (by (with_reducible repeat (first | apply Kd.R_alloc | apply Kd.R_drewN | apply Kd.R_drew)); exact HO239.out), (by (with_reducible repeat (first | apply Kd.R_alloc | apply Kd.R_drewN | apply Kd.R_drew)); exact HO_3.out), (by repeat (first | (with_reducible first | exact HB.out | apply below_alloc | apply pw_below_drewN | apply below_drew1) | exact HB.out))⟩)
                rintro v238 w16 ⟨hS_, h0_, h1_, h2_⟩
                have n0_ : Aside0 (Kd.R (Kd.int .u8) 5 w16 w.heap.size (fun _ => True) v238 y237) := ⟨h0_⟩
                have n1_ : Aside0 (Kd.R Kd.string 9 w16 w.heap.size (fun _ => True) (.slice (some ad236) t232.length co10) t232) := ⟨h1_⟩
                have n2_ : Aside0 (Below w.heap.size w w16) := ⟨h2_⟩
                clear HO_3
                clear HB
                clear h0_ h1_ h2_
                have HO239 := n0_
                have HO_3 := n1_
                have HB := n2_
                clear n0_ n1_ n2_
                have hHeld : w16.cell? (ad236.add (x6_1).toNat) = some (.string (rdOf ByteArray.empty t232 x6_1)) ∧ w16.cell? (ad236.add (x6_1).toNat) = some (.string (rdOf ByteArray.empty t232 x6_1)) := hS_
                refine norm_ (a' := ?_) ?_ ?_
                rotate_left
                · simp only [putAll, Act.put, List.setIfInBounds_toArray, List.set_cons_zero, List.set_cons_succ]
                  rfl
                refine pure_ (i := 14) (N := some 34) (v := ?_) (a' := ?_) #[true, true, true, true, true, true, true, true, true, true, true, true, true, true, true, false, false] rfl rfl (any_of HT_.out (by kernel_rfl)) (fun _ _ _ h => h) (Or.inl ⟨by rfl, ?_⟩) ?_ ?_
                rotate_left
                · intro w'
                  go_simp
                  with_reducible rfl
                rotate_left
                · simp only [Act.put, List.setIfInBounds_toArray, List.set_cons_zero, List.set_cons_succ, i64_w, i32_w]
                  rfl
                refine pure_ (i := 15) (N := some 35) (v := ?_) (a' := ?_) #[true, true, true, true, true, true, true, true, true, true, true, true, true, true, true, true, false] rfl rfl (any_of HT_.out (by kernel_rfl)) (fun _ _ _ h => h) (Or.inl ⟨by rfl, ?_⟩) ?_ ?_
                rotate_left
                · intro w'
                  go_simp
                  with_reducible rfl
                rotate_left
                · simp only [Act.put, List.setIfInBounds_toArray, List.set_cons_zero, List.set_cons_succ, i64_w, i32_w]
                  rfl
                refine pure_ (i := 16) (N := some 5) (v := ?_) (a' := ?_) #[true, true, true, true, true, true, true, true, true, true, true, true, true, true, true, true, true] rfl rfl (any_of HT_.out (by kernel_rfl)) (fun _ _ _ h => h) (Or.inl ⟨by rfl, ?_⟩) ?_ ?_
                rotate_left
                · intro w'
                  go_simp
                  with_reducible rfl
                rotate_left
                · simp only [Act.put, List.setIfInBounds_toArray, List.set_cons_zero, List.set_cons_succ, i64_w, i32_w]
                  rfl
                refine done_ (done_of HT_.out (by kernel_rfl)) ?_
                try go_wp2
                go_roundg k1
                case measure => have := HK1.out; omega
                case rel => exact ⟨(x5_1 ++ ((strOfNums y237) ++ t241)), (wrap64 (x6_1 + 1)), (by first | rfl | (simp; done) | (simp [*]; done)), (by first | rfl | (simp; done) | (simp [*]; done)), H', ⟨by have := HK1.out; omega⟩, ⟨by (with_reducible repeat (first | apply Kd.R_alloc | apply Kd.R_drewN | apply Kd.R_drew)); exact HO_3.out⟩, ⟨by repeat (first | (with_reducible first | exact HB.out | apply below_alloc | apply pw_below_drewN | apply below_drew1) | exact HB.out)⟩⟩
              · rw [if_neg c9] at H
                exact absurd H (by simp)
            · rw [if_neg c8] at H
              exact absurd H (by simp)
          · rw [if_neg c6] at H
            exact absurd H (by simp)
        · rw [if_neg c5] at H
          have c5b0 : decide (x6_1 < (t232.length : Int)) = false := decide_eq_false c5
          clear c5
          by_cases c17 : x5_1.size + 1 ≤ 9223372036854775807
          · rw [if_pos c17] at H
            have c17b0 := eq_true c17
            have c17b1 : decide (x5_1.size + 1 ≤ 9223372036854775807) = true := decide_eq_true c17
            try have c17b2 : (9223372036854775807 < x5_1.size + 1) = False := eq_false (Nat.not_lt.2 c17)
            obtain rfl := Option.some.inj H
            obtain ⟨Ao18, co18, eo18⟩ := Kd.R_slice HO_3.out
            subst eo18
            go_wp2
            go_ret
            exact ⟨by first | rfl | (simp [errW_none, errW_some] <;> rfl) | (simp [*, errW_none, errW_some] <;> rfl), by repeat (first | (with_reducible first | exact HB.out | apply below_alloc | apply pw_below_drewN | apply below_drew1) | exact HB.out)⟩
          · rw [if_neg c17] at H
            exact absurd H (by simp)
  · replace c3 := Bool.eq_false_iff.mpr c3
    subst c3
    have H1 : (some (⟨#[]⟩ : ByteArray)) = some r := by rw [if_neg (show ¬ (false = true) by decide)] at H; exact H
    clear H
    have H := H1
    clear H1
    obtain rfl := Option.some.inj H
    go_enter Try.func41, Try.ntmps41
    go_wp2_with (first | ((with_reducible refine gate_callee (f := 39) rfl ?_); refine goesL_ (some 9) rfl rfl Try.func39 (by kernel_rfl) rfl #[.string a0] rfl (by (try simp only [List.map_toArray, List.map_cons, List.map_nil]); first | done | rfl | (simp only [List.length_drop, List.length_take]; rfl)) ?_; (with_reducible refine (beadrollref07_Labels.calls k a0 t232 false _ A2.out).mono ?_); rintro e w19 ⟨v234, rfl, ho0, hb⟩; refine ⟨_, rfl, ?_⟩; have n0_ := Aside0.mk (Kd.R_lower ho0 (below_size (by repeat (first | (with_reducible first | exact HB.out | apply below_alloc | apply pw_below_drewN | apply below_drew1) | exact HB.out)))); have n1_ := Aside0.mk (below_step (by repeat (first | (with_reducible first | exact HB.out | apply below_alloc | apply pw_below_drewN | apply below_drew1) | exact HB.out)) hb); clear HB; have HO235 := n0_; have HB := n1_; clear n0_ n1_; (try clear hb); (try clear hb2); (try clear hk); (try clear hi); (try clear ho0)))
    go_ret
    exact ⟨by first | rfl | (simp [errW_none, errW_some] <;> rfl) | (simp [*, errW_none, errW_some] <;> rfl), by repeat (first | (with_reducible first | exact HB.out | apply below_alloc | apply pw_below_drewN | apply below_drew1) | exact HB.out)⟩
end Go.Proofs.Ytnpiglojamhpiaa.PRd
namespace Go.Proofs.Ytnpiglojamhpiaa.PRd
open Go.RowKit Go.Proofs.YtnpiglojamhpiaaW.PrintWords Go.Proofs.YtnpiglojamhpiaaW.PrintLast Go.Proofs.YtnpiglojamhpiaaW.PrintMore Go.Proofs.Ytnpiglojamhpiaa.Given
attribute [local go_sem] max2_int min2_int max_two min_two max_three min_three max_four min_four   -- for this text's walks alone
set_option linter.unusedVariables false
set_option linter.unusedSimpArgs false
def beadrollref10_Fold.l0 : Nat → List ByteArray → ByteArray → ByteArray → Int → Option (ByteArray)
  | 0, _, _, _, _ => none
  | k + 1, x5, x7, x8, x9 => if x9 < (x5.length : Int) then (if 0 ≤ x9 then (if x9 < (x7.size : Int) then (if (bt x7 x9) = 110 then ((beadrollref07_Fold.f k (rdOf ByteArray.empty x5 x9)).bind fun t249 => (if x8.size + t249.size ≤ 9223372036854775807 then (beadrollref10_Fold.l0 k x5 x7 (x8 ++ t249) (wrap64 (x9 + 1))) else (none))) else (if (bt x7 x9) = 117 then ((beadrollref07_Fold.f k (rdOf ByteArray.empty x5 x9)).bind fun t251 => (if x8.size + t251.size ≤ 9223372036854775807 then (beadrollref10_Fold.l0 k x5 x7 (x8 ++ t251) (wrap64 (x9 + 1))) else (none))) else (if x8.size + (rdOf ByteArray.empty x5 x9).size ≤ 9223372036854775807 then (beadrollref10_Fold.l0 k x5 x7 (x8 ++ (rdOf ByteArray.empty x5 x9)) (wrap64 (x9 + 1))) else (none)))) else (none)) else (none)) else (some x8)
def beadrollref10_Fold.f (k : Nat) (a0 : Int) (a1 : ByteArray) : Option (ByteArray) := (beadrollref10_Right.f k a0 a1).bind fun t242 => (if t242 = true then ((beadrollref10_Read.f k a1 0 (a1.size : Int) a0).bind fun bt243 => ((beadrollref10_Parts.f k a0).bind fun t247 => (beadrollref10_Fold.l0 k bt243.1 t247 (⟨#[]⟩ : ByteArray) 0))) else (some (⟨#[]⟩ : ByteArray)))
set_option maxHeartbeats 8000000 in
set_option maxRecDepth 100000 in
theorem beadrollref10_Fold.calls (k : Nat) (a0 : Int) (a1 : ByteArray) (r : ByteArray) (w : World) (h : beadrollref10_Fold.f k a0 a1 = some r) :
    Calls Try.prog 42 #[.int .i64 a0, .string a1] w fun e w' => e = .returned (.string r) ∧ Below w.heap.size w w' := by
  have HB := Aside0.mk (Below.refl w.heap.size w)
  have H : ((beadrollref10_Right.f k a0 a1).bind fun t242 => (if t242 = true then ((beadrollref10_Read.f k a1 0 (a1.size : Int) a0).bind fun bt243 => ((beadrollref10_Parts.f k a0).bind fun t247 => (beadrollref10_Fold.l0 k bt243.1 t247 (⟨#[]⟩ : ByteArray) 0))) else (some (⟨#[]⟩ : ByteArray)))) = some r := h
  clear h
  replace H := Option.bind_eq_some_iff.mp H
  obtain ⟨t242, A30, H⟩ := H
  replace H : (if t242 = true then ((beadrollref10_Read.f k a1 0 (a1.size : Int) a0).bind fun bt243 => ((beadrollref10_Parts.f k a0).bind fun t247 => (beadrollref10_Fold.l0 k bt243.1 t247 (⟨#[]⟩ : ByteArray) 0))) else (some (⟨#[]⟩ : ByteArray))) = some r := H
  have A3 := Aside0.mk A30
  clear A30
  by_cases c4 : t242 = true
  · subst c4
    have H1 : ((beadrollref10_Read.f k a1 0 (a1.size : Int) a0).bind fun bt243 => ((beadrollref10_Parts.f k a0).bind fun t247 => (beadrollref10_Fold.l0 k bt243.1 t247 (⟨#[]⟩ : ByteArray) 0))) = some r := by rw [if_pos rfl] at H; exact H
    clear H
    have H := H1
    clear H1
    replace H := Option.bind_eq_some_iff.mp H
    obtain ⟨⟨t243, t244⟩, A50, H⟩ := H
    replace H : ((beadrollref10_Parts.f k a0).bind fun t247 => (beadrollref10_Fold.l0 k t243 t247 (⟨#[]⟩ : ByteArray) 0)) = some r := H
    have A5 := Aside0.mk A50
    clear A50
    replace H := Option.bind_eq_some_iff.mp H
    obtain ⟨t247, A60, H⟩ := H
    replace H : (beadrollref10_Fold.l0 k t243 t247 (⟨#[]⟩ : ByteArray) 0) = some r := H
    have A6 := Aside0.mk A60
    clear A60
    have H' := Aside0.mk H
    clear H
    go_enter Try.func42, Try.ntmps42
    go_wp2_with (first | ((with_reducible refine gate_callee (f := 26) rfl ?_); refine goesL_ (some 12) rfl rfl Try.func26 (by kernel_rfl) rfl #[.int .i64 a0, .string a1] rfl (by (try simp only [List.map_toArray, List.map_cons, List.map_nil]); first | done | rfl | (simp only [List.length_drop, List.length_take]; rfl)) ?_; (with_reducible refine (beadrollref10_Right.calls k a0 a1 true _ A3.out).mono ?_); rintro e w7 ⟨rfl, hb⟩; refine ⟨_, rfl, ?_⟩; have n0_ := Aside0.mk (below_step (by repeat (first | (with_reducible first | exact HB.out | apply below_alloc | apply pw_below_drewN | apply below_drew1) | exact HB.out)) hb); clear HB; have HB := n0_; clear n0_; (try clear hb); (try clear hb2); (try clear hk); (try clear hi)) | ((with_reducible refine gate_callee (f := 53) rfl ?_); refine goesL_ (some 19) rfl rfl Try.func53 (by kernel_rfl) rfl #[.string a1, .int .i64 0, .int .i64 (a1.size : Int), .int .i64 a0] rfl (by (try simp only [List.map_toArray, List.map_cons, List.map_nil]); first | done | rfl | (simp only [List.length_drop, List.length_take]; rfl)) ?_; (with_reducible refine (beadrollref10_Read.calls k a1 0 (a1.size : Int) a0 t243 t244 _ A5.out).mono ?_); rintro e w8 ⟨v245, rfl, ho0, hb⟩; refine ⟨_, rfl, ?_⟩; have n0_ := Aside0.mk (Kd.R_lower ho0 (below_size (by repeat (first | (with_reducible first | exact HB.out | apply below_alloc | apply pw_below_drewN | apply below_drew1) | exact HB.out)))); have n1_ := Aside0.mk (below_step (by repeat (first | (with_reducible first | exact HB.out | apply below_alloc | apply pw_below_drewN | apply below_drew1) | exact HB.out)) hb); clear HB; have HO246 := n0_; have HB := n1_; clear n0_ n1_; (try clear hb); (try clear hb2); (try clear hk); (try clear hi); (try clear ho0)) | ((with_reducible refine gate_callee (f := 56) rfl ?_); refine goesL_ (some 23) rfl rfl Try.func56 (by kernel_rfl) rfl #[.int .i64 a0] rfl (by (try simp only [List.map_toArray, List.map_cons, List.map_nil]); first | done | rfl | (simp only [List.length_drop, List.length_take]; rfl)) ?_; (with_reducible refine (beadrollref10_Parts.calls k a0 t247 _ A6.out).mono ?_); rintro e w' ⟨rfl, ⟨nd, rfl⟩⟩; refine ⟨_, rfl, ?_⟩))
    go_loopg [8, 9] k (fun kq v8 v9 w' => ∃ (x8_1 : ByteArray) (x9_1 : Int), v8 = .string x8_1 ∧ v9 = .int .i64 x9_1 ∧ Aside0 (beadrollref10_Fold.l0 kq t243 t247 x8_1 x9_1 = some r) ∧ Aside0 (kq ≤ k) ∧ Aside0 (Kd.R Kd.string 9 w' w.heap.size (fun _ => True) v245 t243) ∧ Aside0 (Below w.heap.size w w'))
    case atStart => exact ⟨((⟨#[]⟩ : ByteArray)), (0), (by first | rfl | (simp; done) | (simp [*]; done)), (by first | rfl | (simp; done) | (simp [*]; done)), H', ⟨Nat.le_refl _⟩, ⟨by (with_reducible repeat (first | apply Kd.R_alloc | apply Kd.R_drewN | apply Kd.R_drew)); exact HO246.out⟩, ⟨by repeat (first | (with_reducible first | exact HB.out | apply below_alloc | apply pw_below_drewN | apply below_drew1) | exact HB.out)⟩⟩
    case round =>
      clear H'
      try clear c2
      try clear p2
      try clear c4
      try clear c5
      obtain ⟨x8_1, x9_1, rfl, rfl, HA, HK1, HO_5, HB⟩ := hrel
      cases gk with
      | zero => exact absurd HA.out (by simp [beadrollref10_Fold.l0])
      | succ k1 =>
        have H := HA.out
        clear HA
        simp only [beadrollref10_Fold.l0] at H
        by_cases c9 : x9_1 < (t243.length : Int)
        · rw [if_pos c9] at H
          have c9b0 : decide (x9_1 < (t243.length : Int)) = true := decide_eq_true c9
          clear c9
          by_cases c10 : 0 ≤ x9_1
          · rw [if_pos c10] at H
            have c10b0 : decide (0 ≤ x9_1) = true := decide_eq_true c10
            clear c10
            by_cases c11 : x9_1 < (t247.size : Int)
            · rw [if_pos c11] at H
              have c11b0 : decide (x9_1 < (t247.size : Int)) = true := decide_eq_true c11
              clear c11
              by_cases c13 : (bt t247 x9_1) = 110
              · rw [if_pos c13] at H
                have c13b0 : ((bt t247 x9_1) == 110) = true := beq_iff_eq.mpr c13
                have c13b1 : ((bt t247 x9_1) != 110) = false := bne_eq_false_iff_eq.mpr c13
                clear c13
                replace H := Option.bind_eq_some_iff.mp H
                obtain ⟨t249, A140, H⟩ := H
                replace H : (if x8_1.size + t249.size ≤ 9223372036854775807 then (beadrollref10_Fold.l0 k1 t243 t247 (x8_1 ++ t249) (wrap64 (x9_1 + 1))) else (none)) = some r := H
                have A14 := Aside0.mk A140
                clear A140
                by_cases c15 : x8_1.size + t249.size ≤ 9223372036854775807
                · rw [if_pos c15] at H
                  have c15b0 := eq_true c15
                  have c15b1 : decide (x8_1.size + t249.size ≤ 9223372036854775807) = true := decide_eq_true c15
                  try have c15b2 : (9223372036854775807 < x8_1.size + t249.size) = False := eq_false (Nat.not_lt.2 c15)
                  have H' := Aside0.mk H
                  clear H
                  obtain ⟨Ao16, co16, eo16⟩ := Kd.R_slice HO_5.out
                  subst eo16
                  have p12 : 0 ≤ (x9_1 : Int) := of_decide_eq_true (by first | (with_reducible assumption) | assumption)
                  have q12 : x9_1 < (t247.size : Int) := of_decide_eq_true (by first | (with_reducible assumption) | assumption)
                  have hx12 := bt_at t247 x9_1
                  replace p12 := eq_true p12
                  replace q12 := eq_true q12
                  have p248 : 0 ≤ (x9_1 : Int) := of_decide_eq_true (by first | (with_reducible assumption) | assumption)
                  have q248 : x9_1 < (t243.length : Int) := of_decide_eq_true (by first | (with_reducible assumption) | assumption)
                  obtain ⟨ad248, e248, hx248_0⟩ := Kd.at_string (Kd.R_reads' HO_5.out).2.2 x9_1 p248 q248
                  cases e248
                  replace p248 := eq_true p248
                  replace q248 := eq_true q248
                  go_wp2_with (first | ((with_reducible refine gate_callee (f := 41) rfl ?_); refine goesL_ (some 45) rfl rfl Try.func41 (by kernel_rfl) rfl #[.string (rdOf ByteArray.empty t243 x9_1)] rfl (by (try simp only [List.map_toArray, List.map_cons, List.map_nil]); first | done | rfl | (simp only [List.length_drop, List.length_take]; rfl)) ?_; (with_reducible refine (beadrollref07_Fold.calls k1 (rdOf ByteArray.empty t243 x9_1) t249 _ A14.out).mono ?_); rintro e w17 ⟨rfl, hb⟩; refine ⟨_, rfl, ?_⟩; have n0_ := Aside0.mk (Kd.R_below (by (with_reducible repeat (first | apply Kd.R_alloc | apply Kd.R_drewN | apply Kd.R_drew)); exact HO_5.out) hb); have n1_ := Aside0.mk (below_step (by repeat (first | (with_reducible first | exact HB.out | apply below_alloc | apply pw_below_drewN | apply below_drew1) | exact HB.out)) hb); clear HO_5; clear HB; have HO_5 := n0_; have HB := n1_; clear n0_ n1_; (try clear hb); (try clear hb2); (try clear hk); (try clear hi)))
                  go_roundg k1
                  case measure => have := HK1.out; omega
                  case rel => exact ⟨(x8_1 ++ t249), (wrap64 (x9_1 + 1)), (by first | rfl | (simp; done) | (simp [*]; done)), (by first | rfl | (simp; done) | (simp [*]; done)), H', ⟨by have := HK1.out; omega⟩, ⟨by (with_reducible repeat (first | apply Kd.R_alloc | apply Kd.R_drewN | apply Kd.R_drew)); exact HO_5.out⟩, ⟨by repeat (first | (with_reducible first | exact HB.out | apply below_alloc | apply pw_below_drewN | apply below_drew1) | exact HB.out)⟩⟩
                · rw [if_neg c15] at H
                  exact absurd H (by simp)
              · rw [if_neg c13] at H
                have c13b0 : ((bt t247 x9_1) == 110) = false := beq_eq_false_iff_ne.mpr c13
                have c13b1 : ((bt t247 x9_1) != 110) = true := bne_iff_ne.mpr c13
                by_cases c19 : (bt t247 x9_1) = 117
                · rw [if_pos c19] at H
                  have c19b0 : ((bt t247 x9_1) == 117) = true := beq_iff_eq.mpr c19
                  have c19b1 : ((bt t247 x9_1) != 117) = false := bne_eq_false_iff_eq.mpr c19
                  clear c19
                  replace H := Option.bind_eq_some_iff.mp H
                  obtain ⟨t251, A200, H⟩ := H
                  replace H : (if x8_1.size + t251.size ≤ 9223372036854775807 then (beadrollref10_Fold.l0 k1 t243 t247 (x8_1 ++ t251) (wrap64 (x9_1 + 1))) else (none)) = some r := H
                  have A20 := Aside0.mk A200
                  clear A200
                  by_cases c21 : x8_1.size + t251.size ≤ 9223372036854775807
                  · rw [if_pos c21] at H
                    have c21b0 := eq_true c21
                    have c21b1 : decide (x8_1.size + t251.size ≤ 9223372036854775807) = true := decide_eq_true c21
                    try have c21b2 : (9223372036854775807 < x8_1.size + t251.size) = False := eq_false (Nat.not_lt.2 c21)
                    have H' := Aside0.mk H
                    clear H
                    obtain ⟨Ao22, co22, eo22⟩ := Kd.R_slice HO_5.out
                    subst eo22
                    have p12 : 0 ≤ (x9_1 : Int) := of_decide_eq_true (by first | (with_reducible assumption) | assumption)
                    have q12 : x9_1 < (t247.size : Int) := of_decide_eq_true (by first | (with_reducible assumption) | assumption)
                    have hx12 := bt_at t247 x9_1
                    replace p12 := eq_true p12
                    replace q12 := eq_true q12
                    have p18 : 0 ≤ (x9_1 : Int) := of_decide_eq_true (by first | (with_reducible assumption) | assumption)
                    have q18 : x9_1 < (t247.size : Int) := of_decide_eq_true (by first | (with_reducible assumption) | assumption)
                    have hx18 := bt_at t247 x9_1
                    replace p18 := eq_true p18
                    replace q18 := eq_true q18
                    have p250 : 0 ≤ (x9_1 : Int) := of_decide_eq_true (by first | (with_reducible assumption) | assumption)
                    have q250 : x9_1 < (t243.length : Int) := of_decide_eq_true (by first | (with_reducible assumption) | assumption)
                    obtain ⟨ad250, e250, hx250_0⟩ := Kd.at_string (Kd.R_reads' HO_5.out).2.2 x9_1 p250 q250
                    cases e250
                    replace p250 := eq_true p250
                    replace q250 := eq_true q250
                    go_wp2_with (first | ((with_reducible refine gate_callee (f := 41) rfl ?_); refine goesL_ (some 45) rfl rfl Try.func41 (by kernel_rfl) rfl #[.string (rdOf ByteArray.empty t243 x9_1)] rfl (by (try simp only [List.map_toArray, List.map_cons, List.map_nil]); first | done | rfl | (simp only [List.length_drop, List.length_take]; rfl)) ?_; (with_reducible refine (beadrollref07_Fold.calls k1 (rdOf ByteArray.empty t243 x9_1) t251 _ A20.out).mono ?_); rintro e w23 ⟨rfl, hb⟩; refine ⟨_, rfl, ?_⟩; have n0_ := Aside0.mk (Kd.R_below (by (with_reducible repeat (first | apply Kd.R_alloc | apply Kd.R_drewN | apply Kd.R_drew)); exact HO_5.out) hb); have n1_ := Aside0.mk (below_step (by repeat (first | (with_reducible first | exact HB.out | apply below_alloc | apply pw_below_drewN | apply below_drew1) | exact HB.out)) hb); clear HO_5; clear HB; have HO_5 := n0_; have HB := n1_; clear n0_ n1_; (try clear hb); (try clear hb2); (try clear hk); (try clear hi)))
                    go_roundg k1
                    case measure => have := HK1.out; omega
                    case rel => exact ⟨(x8_1 ++ t251), (wrap64 (x9_1 + 1)), (by first | rfl | (simp; done) | (simp [*]; done)), (by first | rfl | (simp; done) | (simp [*]; done)), H', ⟨by have := HK1.out; omega⟩, ⟨by (with_reducible repeat (first | apply Kd.R_alloc | apply Kd.R_drewN | apply Kd.R_drew)); exact HO_5.out⟩, ⟨by repeat (first | (with_reducible first | exact HB.out | apply below_alloc | apply pw_below_drewN | apply below_drew1) | exact HB.out)⟩⟩
                  · rw [if_neg c21] at H
                    exact absurd H (by simp)
                · rw [if_neg c19] at H
                  have c19b0 : ((bt t247 x9_1) == 117) = false := beq_eq_false_iff_ne.mpr c19
                  have c19b1 : ((bt t247 x9_1) != 117) = true := bne_iff_ne.mpr c19
                  by_cases c24 : x8_1.size + (rdOf ByteArray.empty t243 x9_1).size ≤ 9223372036854775807
                  · rw [if_pos c24] at H
                    have c24b0 := eq_true c24
                    have c24b1 : decide (x8_1.size + (rdOf ByteArray.empty t243 x9_1).size ≤ 9223372036854775807) = true := decide_eq_true c24
                    try have c24b2 : (9223372036854775807 < x8_1.size + (rdOf ByteArray.empty t243 x9_1).size) = False := eq_false (Nat.not_lt.2 c24)
                    have H' := Aside0.mk H
                    clear H
                    obtain ⟨Ao25, co25, eo25⟩ := Kd.R_slice HO_5.out
                    subst eo25
                    have p12 : 0 ≤ (x9_1 : Int) := of_decide_eq_true (by first | (with_reducible assumption) | assumption)
                    have q12 : x9_1 < (t247.size : Int) := of_decide_eq_true (by first | (with_reducible assumption) | assumption)
                    have hx12 := bt_at t247 x9_1
                    replace p12 := eq_true p12
                    replace q12 := eq_true q12
                    have p18 : 0 ≤ (x9_1 : Int) := of_decide_eq_true (by first | (with_reducible assumption) | assumption)
                    have q18 : x9_1 < (t247.size : Int) := of_decide_eq_true (by first | (with_reducible assumption) | assumption)
                    have hx18 := bt_at t247 x9_1
                    replace p18 := eq_true p18
                    replace q18 := eq_true q18
                    have p252 : 0 ≤ (x9_1 : Int) := of_decide_eq_true (by first | (with_reducible assumption) | assumption)
                    have q252 : x9_1 < (t243.length : Int) := of_decide_eq_true (by first | (with_reducible assumption) | assumption)
                    obtain ⟨ad252, e252, hx252_0⟩ := Kd.at_string (Kd.R_reads' HO_5.out).2.2 x9_1 p252 q252
                    cases e252
                    replace p252 := eq_true p252
                    replace q252 := eq_true q252
                    go_wp2
                    go_roundg k1
                    case measure => have := HK1.out; omega
                    case rel => exact ⟨(x8_1 ++ (rdOf ByteArray.empty t243 x9_1)), (wrap64 (x9_1 + 1)), (by first | rfl | (simp; done) | (simp [*]; done)), (by first | rfl | (simp; done) | (simp [*]; done)), H', ⟨by have := HK1.out; omega⟩, ⟨by (with_reducible repeat (first | apply Kd.R_alloc | apply Kd.R_drewN | apply Kd.R_drew)); exact HO_5.out⟩, ⟨by repeat (first | (with_reducible first | exact HB.out | apply below_alloc | apply pw_below_drewN | apply below_drew1) | exact HB.out)⟩⟩
                  · rw [if_neg c24] at H
                    exact absurd H (by simp)
            · rw [if_neg c11] at H
              exact absurd H (by simp)
          · rw [if_neg c10] at H
            exact absurd H (by simp)
        · rw [if_neg c9] at H
          have c9b0 : decide (x9_1 < (t243.length : Int)) = false := decide_eq_false c9
          clear c9
          obtain rfl := Option.some.inj H
          obtain ⟨Ao26, co26, eo26⟩ := Kd.R_slice HO_5.out
          subst eo26
          go_wp2
          go_ret
          exact ⟨by first | rfl | (simp [errW_none, errW_some] <;> rfl) | (simp [*, errW_none, errW_some] <;> rfl), by repeat (first | (with_reducible first | exact HB.out | apply below_alloc | apply pw_below_drewN | apply below_drew1) | exact HB.out)⟩
  · replace c4 := Bool.eq_false_iff.mpr c4
    subst c4
    have H1 : (some (⟨#[]⟩ : ByteArray)) = some r := by rw [if_neg (show ¬ (false = true) by decide)] at H; exact H
    clear H
    have H := H1
    clear H1
    obtain rfl := Option.some.inj H
    go_enter Try.func42, Try.ntmps42
    go_wp2_with (first | ((with_reducible refine gate_callee (f := 26) rfl ?_); refine goesL_ (some 12) rfl rfl Try.func26 (by kernel_rfl) rfl #[.int .i64 a0, .string a1] rfl (by (try simp only [List.map_toArray, List.map_cons, List.map_nil]); first | done | rfl | (simp only [List.length_drop, List.length_take]; rfl)) ?_; (with_reducible refine (beadrollref10_Right.calls k a0 a1 false _ A3.out).mono ?_); rintro e w27 ⟨rfl, hb⟩; refine ⟨_, rfl, ?_⟩; have n0_ := Aside0.mk (below_step (by repeat (first | (with_reducible first | exact HB.out | apply below_alloc | apply pw_below_drewN | apply below_drew1) | exact HB.out)) hb); clear HB; have HB := n0_; clear n0_; (try clear hb); (try clear hb2); (try clear hk); (try clear hi)))
    go_ret
    exact ⟨by first | rfl | (simp [errW_none, errW_some] <;> rfl) | (simp [*, errW_none, errW_some] <;> rfl), by repeat (first | (with_reducible first | exact HB.out | apply below_alloc | apply pw_below_drewN | apply below_drew1) | exact HB.out)⟩
mutual
def beadrollref07_Compare.j0 : Nat → List ByteArray → List ByteArray → Bool → Option (Int)
  | 0, _, _, _ => none
  | k + 1, x5, x7, x29 => if x29 = true then (some 0) else (beadrollref07_Compare.l0 k x5 x7 1)
def beadrollref07_Compare.l0 : Nat → List ByteArray → List ByteArray → Int → Option (Int)
  | 0, _, _, _ => none
  | k + 1, x5, x7, x9 => if x9 ≤ (x5.length : Int) then (beadrollref07_Compare.j2 k x5 x7 x9 (decide (x9 ≤ (x7.length : Int)))) else (beadrollref07_Compare.j2 k x5 x7 x9 false)
def beadrollref07_Compare.j2 : Nat → List ByteArray → List ByteArray → Int → Bool → Option (Int)
  | 0, _, _, _, _ => none
  | k + 1, x5, x7, x9, x39 => if x39 = true then (if 0 ≤ (wrap64 ((x5.length : Int) - x9)) then (if (wrap64 ((x5.length : Int) - x9)) < (x5.length : Int) then (if 0 ≤ (wrap64 ((x7.length : Int) - x9)) then (if (wrap64 ((x7.length : Int) - x9)) < (x7.length : Int) then (if (Op.bytesLess ((rdOf ByteArray.empty x5 (wrap64 ((x5.length : Int) - x9))).toList) ((rdOf ByteArray.empty x7 (wrap64 ((x7.length : Int) - x9))).toList)) = true then (some (-1)) else (if (Op.bytesLess ((rdOf ByteArray.empty x7 (wrap64 ((x7.length : Int) - x9))).toList) ((rdOf ByteArray.empty x5 (wrap64 ((x5.length : Int) - x9))).toList)) = true then (some 1) else (beadrollref07_Compare.l0 k x5 x7 (wrap64 (x9 + 1))))) else (none)) else (none)) else (none)) else (none)) else (if (x5.length : Int) < (x7.length : Int) then (some (-1)) else (if (x5.length : Int) > (x7.length : Int) then (some 1) else (some 0)))
end
def beadrollref07_Compare.f (k : Nat) (a0 : ByteArray) (a1 : ByteArray) : Option (Int) := (beadrollref07_Fold.f k a0).bind fun t253 => ((beadrollref07_Labels.f k t253).bind fun bt254 => ((beadrollref07_Fold.f k a1).bind fun t258 => ((beadrollref07_Labels.f k t258).bind fun bt259 => (if bt254.2 = true then (beadrollref07_Compare.j0 k bt254.1 bt259.1 (!bt259.2)) else (beadrollref07_Compare.j0 k bt254.1 bt259.1 true)))))
set_option maxHeartbeats 8000000 in
set_option maxRecDepth 100000 in
theorem beadrollref07_Compare.calls (k : Nat) (a0 : ByteArray) (a1 : ByteArray) (r : Int) (w : World) (h : beadrollref07_Compare.f k a0 a1 = some r) :
    Calls Try.prog 27 #[.string a0, .string a1] w fun e w' => e = .returned (.int .i64 r) ∧ Below w.heap.size w w' := by
  have HB := Aside0.mk (Below.refl w.heap.size w)
  have H : ((beadrollref07_Fold.f k a0).bind fun t253 => ((beadrollref07_Labels.f k t253).bind fun bt254 => ((beadrollref07_Fold.f k a1).bind fun t258 => ((beadrollref07_Labels.f k t258).bind fun bt259 => (if bt254.2 = true then (beadrollref07_Compare.j0 k bt254.1 bt259.1 (!bt259.2)) else (beadrollref07_Compare.j0 k bt254.1 bt259.1 true)))))) = some r := h
  clear h
  replace H := Option.bind_eq_some_iff.mp H
  obtain ⟨t253, A30, H⟩ := H
  replace H : ((beadrollref07_Labels.f k t253).bind fun bt254 => ((beadrollref07_Fold.f k a1).bind fun t258 => ((beadrollref07_Labels.f k t258).bind fun bt259 => (if bt254.2 = true then (beadrollref07_Compare.j0 k bt254.1 bt259.1 (!bt259.2)) else (beadrollref07_Compare.j0 k bt254.1 bt259.1 true))))) = some r := H
  have A3 := Aside0.mk A30
  clear A30
  replace H := Option.bind_eq_some_iff.mp H
  obtain ⟨⟨t254, t255⟩, A40, H⟩ := H
  replace H : ((beadrollref07_Fold.f k a1).bind fun t258 => ((beadrollref07_Labels.f k t258).bind fun bt259 => (if t255 = true then (beadrollref07_Compare.j0 k t254 bt259.1 (!bt259.2)) else (beadrollref07_Compare.j0 k t254 bt259.1 true)))) = some r := H
  have A4 := Aside0.mk A40
  clear A40
  replace H := Option.bind_eq_some_iff.mp H
  obtain ⟨t258, A50, H⟩ := H
  replace H : ((beadrollref07_Labels.f k t258).bind fun bt259 => (if t255 = true then (beadrollref07_Compare.j0 k t254 bt259.1 (!bt259.2)) else (beadrollref07_Compare.j0 k t254 bt259.1 true))) = some r := H
  have A5 := Aside0.mk A50
  clear A50
  replace H := Option.bind_eq_some_iff.mp H
  obtain ⟨⟨t259, t260⟩, A60, H⟩ := H
  replace H : (if t255 = true then (beadrollref07_Compare.j0 k t254 t259 (!t260)) else (beadrollref07_Compare.j0 k t254 t259 true)) = some r := H
  have A6 := Aside0.mk A60
  clear A60
  have HC7 := Aside0.mk H
  clear H
  go_enter Try.func27, Try.ntmps27
  go_upto_region 3 with (first | (go_at_call 41; (with_reducible refine (beadrollref07_Fold.calls k a0 t253 _ A3.out).mono ?_); rintro e w8 ⟨rfl, hb⟩; have n0_ := Aside0.mk (below_step (by repeat (first | (with_reducible first | exact HB.out | apply below_alloc | apply pw_below_drewN | apply below_drew1) | exact HB.out)) hb); clear HB; have HB := n0_; clear n0_; (try clear hb); (try clear hb2); (try clear hk); (try clear hi)) | (go_at_call 39; (with_reducible refine (beadrollref07_Labels.calls k t253 t254 t255 _ A4.out).mono ?_); rintro e w9 ⟨v256, rfl, ho0, hb⟩; have n0_ := Aside0.mk (Kd.R_lower ho0 (below_size (by repeat (first | (with_reducible first | exact HB.out | apply below_alloc | apply pw_below_drewN | apply below_drew1) | exact HB.out)))); have n1_ := Aside0.mk (below_step (by repeat (first | (with_reducible first | exact HB.out | apply below_alloc | apply pw_below_drewN | apply below_drew1) | exact HB.out)) hb); clear HB; have HO257 := n0_; have HB := n1_; clear n0_ n1_; (try clear hb); (try clear hb2); (try clear hk); (try clear hi); (try clear ho0)) | (go_at_call 41; (with_reducible refine (beadrollref07_Fold.calls k a1 t258 _ A5.out).mono ?_); rintro e w10 ⟨rfl, hb⟩; have n0_ := Aside0.mk (Kd.R_below (by (with_reducible repeat (first | apply Kd.R_alloc | apply Kd.R_drewN | apply Kd.R_drew)); exact HO257.out) hb); have n1_ := Aside0.mk (below_step (by repeat (first | (with_reducible first | exact HB.out | apply below_alloc | apply pw_below_drewN | apply below_drew1) | exact HB.out)) hb); clear HO257; clear HB; have HO257 := n0_; have HB := n1_; clear n0_ n1_; (try clear hb); (try clear hb2); (try clear hk); (try clear hi)) | (go_at_call 39; (with_reducible refine (beadrollref07_Labels.calls k t258 t259 t260 _ A6.out).mono ?_); rintro e w11 ⟨v261, rfl, ho0, hb⟩; have n0_ := Aside0.mk (Kd.R_elder' (by (with_reducible repeat (first | apply Kd.R_alloc | apply Kd.R_drewN | apply Kd.R_drew)); exact HO257.out) (Kd.R_base ho0) hb); have n1_ := Aside0.mk (Kd.R_lower (Kd.R_new' ho0 (Kd.R_lt (by (with_reducible repeat (first | apply Kd.R_alloc | apply Kd.R_drewN | apply Kd.R_drew)); exact HO257.out))) (below_size (by repeat (first | (with_reducible first | exact HB.out | apply below_alloc | apply pw_below_drewN | apply below_drew1) | exact HB.out)))); have n2_ := Aside0.mk (below_step (by repeat (first | (with_reducible first | exact HB.out | apply below_alloc | apply pw_below_drewN | apply below_drew1) | exact HB.out)) hb); clear HO257; clear HB; have HO257 := n0_; have HO262 := n1_; have HB := n2_; clear n0_ n1_ n2_; (try clear hb); (try clear hb2); (try clear hk); (try clear hi); (try clear ho0)))
  repeat (go_quiet (first | (go_at_call 41; (with_reducible refine (beadrollref07_Fold.calls k a0 t253 _ A3.out).mono ?_); rintro e w8 ⟨rfl, hb⟩; have n0_ := Aside0.mk (below_step (by repeat (first | (with_reducible first | exact HB.out | apply below_alloc | apply pw_below_drewN | apply below_drew1) | exact HB.out)) hb); clear HB; have HB := n0_; clear n0_; (try clear hb); (try clear hb2); (try clear hk); (try clear hi)) | (go_at_call 39; (with_reducible refine (beadrollref07_Labels.calls k t253 t254 t255 _ A4.out).mono ?_); rintro e w9 ⟨v256, rfl, ho0, hb⟩; have n0_ := Aside0.mk (Kd.R_lower ho0 (below_size (by repeat (first | (with_reducible first | exact HB.out | apply below_alloc | apply pw_below_drewN | apply below_drew1) | exact HB.out)))); have n1_ := Aside0.mk (below_step (by repeat (first | (with_reducible first | exact HB.out | apply below_alloc | apply pw_below_drewN | apply below_drew1) | exact HB.out)) hb); clear HB; have HO257 := n0_; have HB := n1_; clear n0_ n1_; (try clear hb); (try clear hb2); (try clear hk); (try clear hi); (try clear ho0)) | (go_at_call 41; (with_reducible refine (beadrollref07_Fold.calls k a1 t258 _ A5.out).mono ?_); rintro e w10 ⟨rfl, hb⟩; have n0_ := Aside0.mk (Kd.R_below (by (with_reducible repeat (first | apply Kd.R_alloc | apply Kd.R_drewN | apply Kd.R_drew)); exact HO257.out) hb); have n1_ := Aside0.mk (below_step (by repeat (first | (with_reducible first | exact HB.out | apply below_alloc | apply pw_below_drewN | apply below_drew1) | exact HB.out)) hb); clear HO257; clear HB; have HO257 := n0_; have HB := n1_; clear n0_ n1_; (try clear hb); (try clear hb2); (try clear hk); (try clear hi)) | (go_at_call 39; (with_reducible refine (beadrollref07_Labels.calls k t258 t259 t260 _ A6.out).mono ?_); rintro e w11 ⟨v261, rfl, ho0, hb⟩; have n0_ := Aside0.mk (Kd.R_elder' (by (with_reducible repeat (first | apply Kd.R_alloc | apply Kd.R_drewN | apply Kd.R_drew)); exact HO257.out) (Kd.R_base ho0) hb); have n1_ := Aside0.mk (Kd.R_lower (Kd.R_new' ho0 (Kd.R_lt (by (with_reducible repeat (first | apply Kd.R_alloc | apply Kd.R_drewN | apply Kd.R_drew)); exact HO257.out))) (below_size (by repeat (first | (with_reducible first | exact HB.out | apply below_alloc | apply pw_below_drewN | apply below_drew1) | exact HB.out)))); have n2_ := Aside0.mk (below_step (by repeat (first | (with_reducible first | exact HB.out | apply below_alloc | apply pw_below_drewN | apply below_drew1) | exact HB.out)) hb); clear HO257; clear HB; have HO257 := n0_; have HO262 := n1_; have HB := n2_; clear n0_ n1_ n2_; (try clear hb); (try clear hb2); (try clear hk); (try clear hi); (try clear ho0))); go_upto_region 3 with (first | (go_at_call 41; (with_reducible refine (beadrollref07_Fold.calls k a0 t253 _ A3.out).mono ?_); rintro e w8 ⟨rfl, hb⟩; have n0_ := Aside0.mk (below_step (by repeat (first | (with_reducible first | exact HB.out | apply below_alloc | apply pw_below_drewN | apply below_drew1) | exact HB.out)) hb); clear HB; have HB := n0_; clear n0_; (try clear hb); (try clear hb2); (try clear hk); (try clear hi)) | (go_at_call 39; (with_reducible refine (beadrollref07_Labels.calls k t253 t254 t255 _ A4.out).mono ?_); rintro e w9 ⟨v256, rfl, ho0, hb⟩; have n0_ := Aside0.mk (Kd.R_lower ho0 (below_size (by repeat (first | (with_reducible first | exact HB.out | apply below_alloc | apply pw_below_drewN | apply below_drew1) | exact HB.out)))); have n1_ := Aside0.mk (below_step (by repeat (first | (with_reducible first | exact HB.out | apply below_alloc | apply pw_below_drewN | apply below_drew1) | exact HB.out)) hb); clear HB; have HO257 := n0_; have HB := n1_; clear n0_ n1_; (try clear hb); (try clear hb2); (try clear hk); (try clear hi); (try clear ho0)) | (go_at_call 41; (with_reducible refine (beadrollref07_Fold.calls k a1 t258 _ A5.out).mono ?_); rintro e w10 ⟨rfl, hb⟩; have n0_ := Aside0.mk (Kd.R_below (by (with_reducible repeat (first | apply Kd.R_alloc | apply Kd.R_drewN | apply Kd.R_drew)); exact HO257.out) hb); have n1_ := Aside0.mk (below_step (by repeat (first | (with_reducible first | exact HB.out | apply below_alloc | apply pw_below_drewN | apply below_drew1) | exact HB.out)) hb); clear HO257; clear HB; have HO257 := n0_; have HB := n1_; clear n0_ n1_; (try clear hb); (try clear hb2); (try clear hk); (try clear hi)) | (go_at_call 39; (with_reducible refine (beadrollref07_Labels.calls k t258 t259 t260 _ A6.out).mono ?_); rintro e w11 ⟨v261, rfl, ho0, hb⟩; have n0_ := Aside0.mk (Kd.R_elder' (by (with_reducible repeat (first | apply Kd.R_alloc | apply Kd.R_drewN | apply Kd.R_drew)); exact HO257.out) (Kd.R_base ho0) hb); have n1_ := Aside0.mk (Kd.R_lower (Kd.R_new' ho0 (Kd.R_lt (by (with_reducible repeat (first | apply Kd.R_alloc | apply Kd.R_drewN | apply Kd.R_drew)); exact HO257.out))) (below_size (by repeat (first | (with_reducible first | exact HB.out | apply below_alloc | apply pw_below_drewN | apply below_drew1) | exact HB.out)))); have n2_ := Aside0.mk (below_step (by repeat (first | (with_reducible first | exact HB.out | apply below_alloc | apply pw_below_drewN | apply below_drew1) | exact HB.out)) hb); clear HO257; clear HB; have HO257 := n0_; have HO262 := n1_; have HB := n2_; clear n0_ n1_ n2_; (try clear hb); (try clear hb2); (try clear hk); (try clear hi); (try clear ho0))))
  (try simp only [Act.put, List.setIfInBounds_toArray, List.set_cons_zero, List.set_cons_succ])
  go_cut [29] (fun v29 wc => ∃ (kq : Nat) (x29_6 : Bool), v29 = .bool x29_6 ∧ Aside0 (beadrollref07_Compare.j0 kq t254 t259 x29_6 = some r) ∧ Aside0 (kq ≤ k) ∧ Aside0 (Kd.R Kd.string 9 wc w.heap.size (fun k_ => some k_ ≠ (v261 : Value).ownBlock) v256 t254) ∧ Aside0 (Kd.R Kd.string 9 wc w.heap.size (fun k_ => some k_ ≠ (v256 : Value).ownBlock) v261 t259) ∧ Aside0 (Below w.heap.size w wc))
  case first =>
    have H := HC7.out
    clear HC7
    by_cases c12 : t255 = true
    · subst c12
      have H1 : (beadrollref07_Compare.j0 k t254 t259 (!t260)) = some r := by rw [if_pos rfl] at H; exact H
      clear H
      have H := H1
      clear H1
      have H' := Aside0.mk H
      clear H
      go_wp2
      repeat (go_quiet (fail); try go_wp2)
      go_meet
      case rel => exact ⟨_, (!t260), (by first | rfl | (simp; done) | (simp [*]; done)), H', ⟨by first | omega | exact Nat.le_refl _⟩, ⟨by (with_reducible repeat (first | apply Kd.R_alloc | apply Kd.R_drewN | apply Kd.R_drew)); exact Kd.R_mono HO257.out (fun _ hk => hk.2)⟩, ⟨by (with_reducible repeat (first | apply Kd.R_alloc | apply Kd.R_drewN | apply Kd.R_drew)); exact Kd.R_mono HO262.out (fun _ hk => hk.2)⟩, ⟨by repeat (first | (with_reducible first | exact HB.out | apply below_alloc | apply pw_below_drewN | apply below_drew1) | exact HB.out)⟩⟩
    · replace c12 := Bool.eq_false_iff.mpr c12
      subst c12
      have H1 : (beadrollref07_Compare.j0 k t254 t259 true) = some r := by rw [if_neg (show ¬ (false = true) by decide)] at H; exact H
      clear H
      have H := H1
      clear H1
      have H' := Aside0.mk H
      clear H
      go_wp2
      repeat (go_quiet (fail); try go_wp2)
      go_meet
      case rel => exact ⟨_, (true), (by first | rfl | (simp; done) | (simp [*]; done)), H', ⟨by first | omega | exact Nat.le_refl _⟩, ⟨by (with_reducible repeat (first | apply Kd.R_alloc | apply Kd.R_drewN | apply Kd.R_drew)); exact Kd.R_mono HO257.out (fun _ hk => hk.2)⟩, ⟨by (with_reducible repeat (first | apply Kd.R_alloc | apply Kd.R_drewN | apply Kd.R_drew)); exact Kd.R_mono HO262.out (fun _ hk => hk.2)⟩, ⟨by repeat (first | (with_reducible first | exact HB.out | apply below_alloc | apply pw_below_drewN | apply below_drew1) | exact HB.out)⟩⟩
  case rest =>
    clear HC7
    try clear c1
    try clear c2
    try clear p2
    try clear c12
    obtain ⟨kq, x29_6, rfl, HA, HJ6, HO_5, HO_7, HB⟩ := hcut
    cases kq with
    | zero => exact absurd HA.out (by simp [beadrollref07_Compare.j0])
    | succ kj6 =>
      have H := HA.out
      clear HA
      simp only [beadrollref07_Compare.j0] at H
      by_cases c13 : x29_6 = true
      · subst c13
        have H1 : (some 0) = some r := by rw [if_pos rfl] at H; exact H
        clear H
        have H := H1
        clear H1
        obtain rfl := Option.some.inj H
        go_wp2
        repeat (go_quiet (fail); try go_wp2)
        go_ret
        exact ⟨by first | rfl | (simp [errW_none, errW_some] <;> rfl) | (simp [*, errW_none, errW_some] <;> rfl), by repeat (first | (with_reducible first | exact HB.out | apply below_alloc | apply pw_below_drewN | apply below_drew1) | exact HB.out)⟩
      · replace c13 := Bool.eq_false_iff.mpr c13
        subst c13
        have H1 : (beadrollref07_Compare.l0 kj6 t254 t259 1) = some r := by rw [if_neg (show ¬ (false = true) by decide)] at H; exact H
        clear H
        have H := H1
        clear H1
        have H' := Aside0.mk H
        clear H
        go_wp2
        repeat (go_quiet (fail); try go_wp2)
        go_loopg [9] kj6 (fun kq v9 w' => ∃ (x9_2 : Int), v9 = .int .i64 x9_2 ∧ Aside0 (beadrollref07_Compare.l0 kq t254 t259 x9_2 = some r) ∧ Aside0 (kq ≤ kj6) ∧ Aside0 (Kd.R Kd.string 9 w' w.heap.size (fun k_ => some k_ ≠ (v261 : Value).ownBlock) v256 t254) ∧ Aside0 (Kd.R Kd.string 9 w' w.heap.size (fun k_ => some k_ ≠ (v256 : Value).ownBlock) v261 t259) ∧ Aside0 (Below w.heap.size w w'))
        case atStart => exact ⟨(1), (by first | rfl | (simp; done) | (simp [*]; done)), H', ⟨Nat.le_refl _⟩, ⟨by (with_reducible repeat (first | apply Kd.R_alloc | apply Kd.R_drewN | apply Kd.R_drew)); exact HO_5.out⟩, ⟨by (with_reducible repeat (first | apply Kd.R_alloc | apply Kd.R_drewN | apply Kd.R_drew)); exact HO_7.out⟩, ⟨by repeat (first | (with_reducible first | exact HB.out | apply below_alloc | apply pw_below_drewN | apply below_drew1) | exact HB.out)⟩⟩
        case round =>
          clear H'
          try clear c1
          try clear c2
          try clear p2
          try clear c12
          try clear c13
          try clear p2
          obtain ⟨x9_2, rfl, HA, HK2, HO_5, HO_7, HB⟩ := hrel
          cases gk with
          | zero => exact absurd HA.out (by simp [beadrollref07_Compare.l0])
          | succ k2 =>
            have H := HA.out
            clear HA
            simp only [beadrollref07_Compare.l0] at H
            have HC14 := Aside0.mk H
            clear H
            go_upto_region 6 with (fail)
            repeat (go_quiet (fail); go_upto_region 6 with (fail))
            go_cut [39] (fun v39 wc => ∃ (kq : Nat) (x39_13 : Bool), v39 = .bool x39_13 ∧ Aside0 (beadrollref07_Compare.j2 kq t254 t259 x9_2 x39_13 = some r) ∧ Aside0 (kq ≤ k2) ∧ Aside0 (Kd.R Kd.string 9 wc w.heap.size (fun k_ => some k_ ≠ (v261 : Value).ownBlock) v256 t254) ∧ Aside0 (Kd.R Kd.string 9 wc w.heap.size (fun k_ => some k_ ≠ (v256 : Value).ownBlock) v261 t259) ∧ Aside0 (Below w.heap.size w wc))
            case first =>
              have H := HC14.out
              clear HC14
              by_cases c15 : x9_2 ≤ (t254.length : Int)
              · rw [if_pos c15] at H
                have c15b0 : decide (x9_2 ≤ (t254.length : Int)) = true := decide_eq_true c15
                clear c15
                (first | rw [c15b0] | (simp only [i64_w, i32_w]; rw [c15b0]) | skip)
                have H' := Aside0.mk H
                clear H
                obtain ⟨Ao16, co16, eo16⟩ := Kd.R_slice HO_5.out
                subst eo16
                obtain ⟨Ao17, co17, eo17⟩ := Kd.R_slice HO_7.out
                subst eo17
                go_wp2
                repeat (go_quiet (fail); try go_wp2)
                go_meet
                case rel => exact ⟨_, (decide (x9_2 ≤ (t259.length : Int))), (by first | rfl | (simp; done) | (simp [*]; done)), H', ⟨by have := HJ6.out; have := HK2.out; first | omega | exact Nat.le_refl _⟩, ⟨by (with_reducible repeat (first | apply Kd.R_alloc | apply Kd.R_drewN | apply Kd.R_drew)); exact HO_5.out⟩, ⟨by (with_reducible repeat (first | apply Kd.R_alloc | apply Kd.R_drewN | apply Kd.R_drew)); exact HO_7.out⟩, ⟨by repeat (first | (with_reducible first | exact HB.out | apply below_alloc | apply pw_below_drewN | apply below_drew1) | exact HB.out)⟩⟩
              · rw [if_neg c15] at H
                have c15b0 : decide (x9_2 ≤ (t254.length : Int)) = false := decide_eq_false c15
                clear c15
                (first | rw [c15b0] | (simp only [i64_w, i32_w]; rw [c15b0]) | skip)
                have H' := Aside0.mk H
                clear H
                obtain ⟨Ao18, co18, eo18⟩ := Kd.R_slice HO_5.out
                subst eo18
                go_wp2
                repeat (go_quiet (fail); try go_wp2)
                go_meet
                case rel => exact ⟨_, (false), (by first | rfl | (simp; done) | (simp [*]; done)), H', ⟨by have := HJ6.out; have := HK2.out; first | omega | exact Nat.le_refl _⟩, ⟨by (with_reducible repeat (first | apply Kd.R_alloc | apply Kd.R_drewN | apply Kd.R_drew)); exact HO_5.out⟩, ⟨by (with_reducible repeat (first | apply Kd.R_alloc | apply Kd.R_drewN | apply Kd.R_drew)); exact HO_7.out⟩, ⟨by repeat (first | (with_reducible first | exact HB.out | apply below_alloc | apply pw_below_drewN | apply below_drew1) | exact HB.out)⟩⟩
            case rest =>
              clear HC14
              try clear c1
              try clear c2
              try clear p2
              try clear c12
              try clear c13
              try clear c15
              try clear c15b0
              try clear p2
              obtain ⟨kq, x39_13, rfl, HA, HJ13, HO_5, HO_7, HB⟩ := hcut
              cases kq with
              | zero => exact absurd HA.out (by simp [beadrollref07_Compare.j2])
              | succ kj13 =>
                have H := HA.out
                clear HA
                simp only [beadrollref07_Compare.j2] at H
                by_cases c19 : x39_13 = true
                · subst c19
                  have H1 : (if 0 ≤ (wrap64 ((t254.length : Int) - x9_2)) then (if (wrap64 ((t254.length : Int) - x9_2)) < (t254.length : Int) then (if 0 ≤ (wrap64 ((t259.length : Int) - x9_2)) then (if (wrap64 ((t259.length : Int) - x9_2)) < (t259.length : Int) then (if (Op.bytesLess ((rdOf ByteArray.empty t254 (wrap64 ((t254.length : Int) - x9_2))).toList) ((rdOf ByteArray.empty t259 (wrap64 ((t259.length : Int) - x9_2))).toList)) = true then (some (-1)) else (if (Op.bytesLess ((rdOf ByteArray.empty t259 (wrap64 ((t259.length : Int) - x9_2))).toList) ((rdOf ByteArray.empty t254 (wrap64 ((t254.length : Int) - x9_2))).toList)) = true then (some 1) else (beadrollref07_Compare.l0 kj13 t254 t259 (wrap64 (x9_2 + 1))))) else (none)) else (none)) else (none)) else (none)) = some r := by rw [if_pos rfl] at H; exact H
                  clear H
                  have H := H1
                  clear H1
                  obtain ⟨ji20, hji20⟩ : ∃ j_ : Int, (wrap64 ((t254.length : Int) - x9_2)) = j_ := ⟨_, rfl⟩
                  replace H : (if 0 ≤ (ji20) then (if (ji20) < (t254.length : Int) then (if 0 ≤ (wrap64 ((t259.length : Int) - x9_2)) then (if (wrap64 ((t259.length : Int) - x9_2)) < (t259.length : Int) then (if (Op.bytesLess ((rdOf ByteArray.empty t254 (ji20)).toList) ((rdOf ByteArray.empty t259 (wrap64 ((t259.length : Int) - x9_2))).toList)) = true then (some (-1)) else (if (Op.bytesLess ((rdOf ByteArray.empty t259 (wrap64 ((t259.length : Int) - x9_2))).toList) ((rdOf ByteArray.empty t254 (ji20)).toList)) = true then (some 1) else (beadrollref07_Compare.l0 kj13 t254 t259 (wrap64 (x9_2 + 1))))) else (none)) else (none)) else (none)) else (none)) = some r := by first | (rw [hji20] at H; exact H) | (simp only [hji20] at H ⊢; exact H)
                  have hji20w : (IntKind.i64.wrap ((t254.length : Int) - x9_2)) = ji20 := (i64_w _).trans hji20
                  by_cases c21 : 0 ≤ (ji20)
                  · rw [if_pos c21] at H
                    have c21b0 : decide (0 ≤ (ji20)) = true := decide_eq_true c21
                    clear c21
                    by_cases c22 : (ji20) < (t254.length : Int)
                    · rw [if_pos c22] at H
                      have c22b0 : decide ((ji20) < (t254.length : Int)) = true := decide_eq_true c22
                      clear c22
                      obtain ⟨ji23, hji23⟩ : ∃ j_ : Int, (wrap64 ((t259.length : Int) - x9_2)) = j_ := ⟨_, rfl⟩
                      replace H : (if 0 ≤ (ji23) then (if (ji23) < (t259.length : Int) then (if (Op.bytesLess ((rdOf ByteArray.empty t254 (ji20)).toList) ((rdOf ByteArray.empty t259 (ji23)).toList)) = true then (some (-1)) else (if (Op.bytesLess ((rdOf ByteArray.empty t259 (ji23)).toList) ((rdOf ByteArray.empty t254 (ji20)).toList)) = true then (some 1) else (beadrollref07_Compare.l0 kj13 t254 t259 (wrap64 (x9_2 + 1))))) else (none)) else (none)) = some r := by first | (rw [hji23] at H; exact H) | (simp only [hji23] at H ⊢; exact H)
                      have hji23w : (IntKind.i64.wrap ((t259.length : Int) - x9_2)) = ji23 := (i64_w _).trans hji23
                      by_cases c24 : 0 ≤ (ji23)
                      · rw [if_pos c24] at H
                        have c24b0 : decide (0 ≤ (ji23)) = true := decide_eq_true c24
                        clear c24
                        by_cases c25 : (ji23) < (t259.length : Int)
                        · rw [if_pos c25] at H
                          have c25b0 : decide ((ji23) < (t259.length : Int)) = true := decide_eq_true c25
                          clear c25
                          by_cases c26 : (Op.bytesLess ((rdOf ByteArray.empty t254 (ji20)).toList) ((rdOf ByteArray.empty t259 (ji23)).toList)) = true
                          · rw [if_pos c26] at H
                            have c26b0 : (Op.bytesLess ((rdOf ByteArray.empty t254 (ji20)).toList) ((rdOf ByteArray.empty t259 (ji23)).toList)) = true := c26
                            have c26b8 : (((rdOf ByteArray.empty t259 (ji23)).toList) == ((rdOf ByteArray.empty t254 (ji20)).toList)) = false := less_ne c26b0
                            clear c26
                            obtain rfl := Option.some.inj H
                            obtain ⟨Ao27, co27, eo27⟩ := Kd.R_slice HO_5.out
                            subst eo27
                            have p263 : 0 ≤ ((ji20) : Int) := of_decide_eq_true (by first | (with_reducible assumption) | assumption)
                            have q263 : (ji20) < (t254.length : Int) := of_decide_eq_true (by first | (with_reducible assumption) | assumption)
                            obtain ⟨ad263, e263, hx263_0⟩ := Kd.at_string (Kd.R_reads' HO_5.out).2.2 (ji20) p263 q263
                            cases e263
                            replace p263 := eq_true p263
                            replace q263 := eq_true q263
                            obtain ⟨Ao28, co28, eo28⟩ := Kd.R_slice HO_7.out
                            subst eo28
                            have p264 : 0 ≤ ((ji23) : Int) := of_decide_eq_true (by first | (with_reducible assumption) | assumption)
                            have q264 : (ji23) < (t259.length : Int) := of_decide_eq_true (by first | (with_reducible assumption) | assumption)
                            obtain ⟨ad264, e264, hx264_0⟩ := Kd.at_string (Kd.R_reads' HO_7.out).2.2 (ji23) p264 q264
                            cases e264
                            replace p264 := eq_true p264
                            replace q264 := eq_true q264
                            go_wp2
                            repeat (go_quiet (fail); try go_wp2)
                            go_ret
                            exact ⟨by first | rfl | (simp [errW_none, errW_some] <;> rfl) | (simp only [← hji20, ← hji23]; first | rfl | (simp [errW_none, errW_some] <;> rfl)) | (simp [*, errW_none, errW_some] <;> rfl), by repeat (first | (with_reducible first | exact HB.out | apply below_alloc | apply pw_below_drewN | apply below_drew1) | exact HB.out)⟩
                          · rw [if_neg c26] at H
                            have c26b0 : (Op.bytesLess ((rdOf ByteArray.empty t254 (ji20)).toList) ((rdOf ByteArray.empty t259 (ji23)).toList)) = false := by simpa using c26
                            try have c26b8 : (((rdOf ByteArray.empty t259 (ji23)).toList) == ((rdOf ByteArray.empty t254 (ji20)).toList)) = true := less_eq (by assumption) c26b0
                            clear c26
                            by_cases c29 : (Op.bytesLess ((rdOf ByteArray.empty t259 (ji23)).toList) ((rdOf ByteArray.empty t254 (ji20)).toList)) = true
                            · rw [if_pos c29] at H
                              have c29b0 : (Op.bytesLess ((rdOf ByteArray.empty t259 (ji23)).toList) ((rdOf ByteArray.empty t254 (ji20)).toList)) = true := c29
                              have c29b8 : (((rdOf ByteArray.empty t254 (ji20)).toList) == ((rdOf ByteArray.empty t259 (ji23)).toList)) = false := less_ne c29b0
                              clear c29
                              obtain rfl := Option.some.inj H
                              obtain ⟨Ao30, co30, eo30⟩ := Kd.R_slice HO_5.out
                              subst eo30
                              have p263 : 0 ≤ ((ji20) : Int) := of_decide_eq_true (by first | (with_reducible assumption) | assumption)
                              have q263 : (ji20) < (t254.length : Int) := of_decide_eq_true (by first | (with_reducible assumption) | assumption)
                              obtain ⟨ad263, e263, hx263_0⟩ := Kd.at_string (Kd.R_reads' HO_5.out).2.2 (ji20) p263 q263
                              cases e263
                              replace p263 := eq_true p263
                              replace q263 := eq_true q263
                              obtain ⟨Ao31, co31, eo31⟩ := Kd.R_slice HO_7.out
                              subst eo31
                              have p264 : 0 ≤ ((ji23) : Int) := of_decide_eq_true (by first | (with_reducible assumption) | assumption)
                              have q264 : (ji23) < (t259.length : Int) := of_decide_eq_true (by first | (with_reducible assumption) | assumption)
                              obtain ⟨ad264, e264, hx264_0⟩ := Kd.at_string (Kd.R_reads' HO_7.out).2.2 (ji23) p264 q264
                              cases e264
                              replace p264 := eq_true p264
                              replace q264 := eq_true q264
                              go_wp2
                              repeat (go_quiet (fail); try go_wp2)
                              go_ret
                              exact ⟨by first | rfl | (simp [errW_none, errW_some] <;> rfl) | (simp only [← hji20, ← hji23]; first | rfl | (simp [errW_none, errW_some] <;> rfl)) | (simp [*, errW_none, errW_some] <;> rfl), by repeat (first | (with_reducible first | exact HB.out | apply below_alloc | apply pw_below_drewN | apply below_drew1) | exact HB.out)⟩
                            · rw [if_neg c29] at H
                              have c29b0 : (Op.bytesLess ((rdOf ByteArray.empty t259 (ji23)).toList) ((rdOf ByteArray.empty t254 (ji20)).toList)) = false := by simpa using c29
                              try have c29b8 : (((rdOf ByteArray.empty t254 (ji20)).toList) == ((rdOf ByteArray.empty t259 (ji23)).toList)) = true := less_eq (by assumption) c29b0
                              clear c29
                              have H' := Aside0.mk H
                              clear H
                              obtain ⟨Ao32, co32, eo32⟩ := Kd.R_slice HO_5.out
                              subst eo32
                              have p263 : 0 ≤ ((ji20) : Int) := of_decide_eq_true (by first | (with_reducible assumption) | assumption)
                              have q263 : (ji20) < (t254.length : Int) := of_decide_eq_true (by first | (with_reducible assumption) | assumption)
                              obtain ⟨ad263, e263, hx263_0⟩ := Kd.at_string (Kd.R_reads' HO_5.out).2.2 (ji20) p263 q263
                              cases e263
                              replace p263 := eq_true p263
                              replace q263 := eq_true q263
                              obtain ⟨Ao33, co33, eo33⟩ := Kd.R_slice HO_7.out
                              subst eo33
                              have p264 : 0 ≤ ((ji23) : Int) := of_decide_eq_true (by first | (with_reducible assumption) | assumption)
                              have q264 : (ji23) < (t259.length : Int) := of_decide_eq_true (by first | (with_reducible assumption) | assumption)
                              obtain ⟨ad264, e264, hx264_0⟩ := Kd.at_string (Kd.R_reads' HO_7.out).2.2 (ji23) p264 q264
                              cases e264
                              replace p264 := eq_true p264
                              replace q264 := eq_true q264
                              go_wp2
                              repeat (go_quiet (fail); try go_wp2)
                              go_roundg kj13
                              case measure => have := HJ6.out; have := HK2.out; have := HJ13.out; omega
                              case rel => exact ⟨(wrap64 (x9_2 + 1)), (by first | rfl | (simp; done) | (simp [*]; done)), H', ⟨by have := HJ6.out; have := HK2.out; have := HJ13.out; omega⟩, ⟨by (with_reducible repeat (first | apply Kd.R_alloc | apply Kd.R_drewN | apply Kd.R_drew)); exact HO_5.out⟩, ⟨by (with_reducible repeat (first | apply Kd.R_alloc | apply Kd.R_drewN | apply Kd.R_drew)); exact HO_7.out⟩, ⟨by repeat (first | (with_reducible first | exact HB.out | apply below_alloc | apply pw_below_drewN | apply below_drew1) | exact HB.out)⟩⟩
                        · rw [if_neg c25] at H
                          exact absurd H (by simp)
                      · rw [if_neg c24] at H
                        exact absurd H (by simp)
                    · rw [if_neg c22] at H
                      exact absurd H (by simp)
                  · rw [if_neg c21] at H
                    exact absurd H (by simp)
                · replace c19 := Bool.eq_false_iff.mpr c19
                  subst c19
                  have H1 : (if (t254.length : Int) < (t259.length : Int) then (some (-1)) else (if (t254.length : Int) > (t259.length : Int) then (some 1) else (some 0))) = some r := by rw [if_neg (show ¬ (false = true) by decide)] at H; exact H
                  clear H
                  have H := H1
                  clear H1
                  by_cases c34 : (t254.length : Int) < (t259.length : Int)
                  · rw [if_pos c34] at H
                    have c34b0 : decide ((t254.length : Int) < (t259.length : Int)) = true := decide_eq_true c34
                    have c34b1 : decide (t254.length < t259.length) = true := decide_eq_true (Int.ofNat_lt.mp c34)
                    clear c34
                    obtain rfl := Option.some.inj H
                    obtain ⟨Ao35, co35, eo35⟩ := Kd.R_slice HO_5.out
                    subst eo35
                    obtain ⟨Ao36, co36, eo36⟩ := Kd.R_slice HO_7.out
                    subst eo36
                    go_wp2
                    repeat (go_quiet (fail); try go_wp2)
                    go_ret
                    exact ⟨by first | rfl | (simp [errW_none, errW_some] <;> rfl) | (simp [*, errW_none, errW_some] <;> rfl), by repeat (first | (with_reducible first | exact HB.out | apply below_alloc | apply pw_below_drewN | apply below_drew1) | exact HB.out)⟩
                  · rw [if_neg c34] at H
                    have c34b0 : decide ((t254.length : Int) < (t259.length : Int)) = false := decide_eq_false c34
                    have c34b1 : decide (t254.length < t259.length) = false := decide_eq_false (fun h => c34 (Int.ofNat_lt.mpr h))
                    clear c34
                    by_cases c37 : (t254.length : Int) > (t259.length : Int)
                    · rw [if_pos c37] at H
                      have c37b0 : decide ((t259.length : Int) < (t254.length : Int)) = true := decide_eq_true c37
                      have c37b1 : decide (t259.length < t254.length) = true := decide_eq_true (Int.ofNat_lt.mp c37)
                      clear c37
                      obtain rfl := Option.some.inj H
                      obtain ⟨Ao38, co38, eo38⟩ := Kd.R_slice HO_5.out
                      subst eo38
                      obtain ⟨Ao39, co39, eo39⟩ := Kd.R_slice HO_7.out
                      subst eo39
                      go_wp2
                      repeat (go_quiet (fail); try go_wp2)
                      go_ret
                      exact ⟨by first | rfl | (simp [errW_none, errW_some] <;> rfl) | (simp [*, errW_none, errW_some] <;> rfl), by repeat (first | (with_reducible first | exact HB.out | apply below_alloc | apply pw_below_drewN | apply below_drew1) | exact HB.out)⟩
                    · rw [if_neg c37] at H
                      have c37b0 : decide ((t259.length : Int) < (t254.length : Int)) = false := decide_eq_false c37
                      have c37b1 : decide (t259.length < t254.length) = false := decide_eq_false (fun h => c37 (Int.ofNat_lt.mpr h))
                      clear c37
                      obtain rfl := Option.some.inj H
                      obtain ⟨Ao40, co40, eo40⟩ := Kd.R_slice HO_5.out
                      subst eo40
                      obtain ⟨Ao41, co41, eo41⟩ := Kd.R_slice HO_7.out
                      subst eo41
                      go_wp2
                      repeat (go_quiet (fail); try go_wp2)
                      go_ret
                      exact ⟨by first | rfl | (simp [errW_none, errW_some] <;> rfl) | (simp [*, errW_none, errW_some] <;> rfl), by repeat (first | (with_reducible first | exact HB.out | apply below_alloc | apply pw_below_drewN | apply below_drew1) | exact HB.out)⟩
end Go.Proofs.Ytnpiglojamhpiaa.PRd
namespace Go.Proofs.Ytnpiglojamhpiaa.NameFacts
open Go.RowKit Go.Proofs.Ytnpiglojamhpiaa.PRd Go.Proofs.YtnpiglojamhpiaaW.PrintWords Go.Proofs.YtnpiglojamhpiaaW.PrintLast Go.Proofs.YtnpiglojamhpiaaW.PrintMore Go.Proofs.Ytnpiglojamhpiaa.Given Go.Proofs.Ytnpiglojamhpiaa.Oct Go.Proofs.Ytnpiglojamhpiaa.Name Go.Proofs.Ytnpiglojamhpiaa.Cmp
set_option linter.unusedVariables false
set_option linter.unusedSimpArgs false
set_option linter.unusedVariables false
set_option linter.unusedSimpArgs false
theorem u64_id {x : Int} (h0 : 0 ≤ x) (h1 : x < 18446744073709551616) : IntKind.u64.wrap x = x := by
  simp only [IntKind.wrap, IntKind.bits, IntKind.signed]; simp; omega
theorem w64_id {x : Int} (h0 : -9223372036854775808 ≤ x) (h1 : x ≤ 9223372036854775807) : wrap64 x = x := by unfold wrap64; omega
theorem rdo_at (l : List ByteArray) (i : Nat) (h : i < l.length) : rdOf ByteArray.empty l (i : Int) = l[i] := by
  unfold rdOf; rw [Int.toNat_natCast, List.getD_eq_getElem?_getD, List.getElem?_eq_getElem h]; rfl
theorem bt_list (b : ByteArray) (i : Nat) (h : i < b.size) : bt b (i : Int) = ((b.data.toList[i]'(by rw [size_list]; exact h)).toNat : Int) := by
  unfold bt
  rw [Int.toNat_natCast, dif_pos h]; rfl
def okR (r : ByteArray) : Bool := decide (endIn r (labs r.size r) = rootB)
theorem first_list {b : ByteArray} {i : Nat} (h : i < b.size) : (b.extract i b.size).data.toList = b.data.toList[i]'(by rw [size_list]; exact h) :: b.data.toList.drop (i + 1) := by
  rw [drop_list]; exact List.drop_eq_getElem_cons _
theorem first_num {b : ByteArray} {i : Nat} (h : i < b.size) : beN ((b.extract i b.size).data.toList.take 1) = (b.data.toList[i]'(by rw [size_list]; exact h)).toNat := by
  rw [first_list h]; simp [beN]
theorem cut_first {b : ByteArray} {i : Nat} (h : i < b.size) : cutOf (b.extract i b.size) 1 = if (b.data.toList[i]'(by rw [size_list]; exact h)).toNat ≤ b.size - i - 1 then
    some (b.extract (i + 1) (i + 1 + (b.data.toList[i]'(by rw [size_list]; exact h)).toNat), b.extract (i + 1 + (b.data.toList[i]'(by rw [size_list]; exact h)).toNat) b.size) else none := by
  unfold cutOf
  rw [if_pos (by rw [drop_size]; omega), first_num h, drop_size]
  split
  · congr 2
    · apply list_inj
      rw [mid_list, mid_list, drop_list, List.drop_drop]
    · apply list_inj
      rw [show b.size - i = (b.extract i b.size).size from (drop_size b i).symm, drop_list, drop_list, drop_list, List.drop_drop, Nat.add_assoc]
  · rfl
theorem root_iff {b : ByteArray} {i : Nat} (h : i < b.size) : b.extract i b.size = rootB ↔ ((b.data.toList[i]'(by rw [size_list]; exact h)).toNat = 0 ∧ i + 1 = b.size) := by
  constructor
  · intro e
    have h1 := congrArg (fun x => x.data.toList) e
    have h2 := congrArg ByteArray.size e
    rw [drop_size, show rootB.size = 1 from rfl] at h2
    simp only [first_list h] at h1
    have : b.data.toList[i]'(by rw [size_list]; exact h) = 0 := by
      have h3 : rootB.data.toList = [0] := rfl
      rw [h3] at h1
      exact (List.cons.inj h1).1
    exact ⟨by rw [this]; rfl, by omega⟩
  · rintro ⟨h1, h2⟩
    apply list_inj
    rw [first_list h, List.drop_of_length_le (by rw [size_list]; omega)]
    have : b.data.toList[i]'(by rw [size_list]; exact h) = 0 := UInt8.toNat_inj.mp (by rw [h1]; rfl)
    rw [this]; rfl
theorem rlabels_at (b : ByteArray) (hb : b.size ≤ 255) : ∀ (d i k : Nat) (acc : List ByteArray), b.size - i ≤ d → i ≤ b.size → 2 * d + 3 ≤ k → acc.length + d ≤ 100000 →
    ∃ l, beadrollref07_Labels.l0 k b acc (i : Int) = some (l, okR (b.extract i b.size)) ∧ (okR (b.extract i b.size) = true → l = acc ++ (labs (b.extract i b.size).size (b.extract i b.size)).map (·.1)) := by
  intro d
  induction d with
  | zero =>
    intro i k acc hd hi hk ha
    obtain rfl : i = b.size := by omega
    obtain ⟨k, rfl⟩ : ∃ j, k = j + 2 := ⟨k - 2, by omega⟩
    have hz : (b.extract b.size b.size).size = 0 := by rw [drop_size]; omega
    have hn : okR (b.extract b.size b.size) = false := by
      unfold okR
      rw [hz]
      exact decide_eq_false (fun h => by have := congrArg ByteArray.size (show b.extract b.size b.size = rootB from h); rw [hz] at this; exact absurd this (by decide))
    rw [hn, beadrollref07_Labels.l0, if_neg (by omega), beadrollref07_Labels.j1, if_neg (by decide), if_neg (by rw [w64_id (by omega) (by omega)]; omega)]
    exact ⟨_, rfl, fun h => absurd h (by decide)⟩
  | succ d ih =>
    intro i k acc hd hi hk ha
    obtain ⟨k, rfl⟩ : ∃ j, k = j + 2 := ⟨k - 2, by omega⟩
    by_cases hlt : i < b.size
    · have hbt := bt_list b i hlt
      have hcut := cut_first hlt
      have hroot := root_iff hlt
      have hc := UInt8.toNat_lt (b.data.toList[i]'(by rw [size_list]; exact hlt))
      generalize (b.data.toList[i]'(by rw [size_list]; exact hlt)).toNat = m at hbt hcut hroot hc
      have hsz : (b.extract i b.size).size = b.size - i := drop_size b i
      rw [beadrollref07_Labels.l0, if_pos (by omega), if_pos (by omega), hbt]
      have stop : ∀ (_ : labs (b.extract i b.size).size (b.extract i b.size) = []) (_ : ¬ b.extract i b.size = rootB), okR (b.extract i b.size) = false := fun h h' => by
        unfold okR; rw [h]; exact decide_eq_false h'
      by_cases h0 : m = 0
      · rw [decide_eq_false (by omega), beadrollref07_Labels.j1, if_neg (by decide), hbt, w64_id (by omega) (by omega)]
        by_cases hend : i + 1 = b.size
        · have hr := hroot.mpr ⟨h0, hend⟩
          have hok : okR (b.extract i b.size) = true := by unfold okR; rw [hr]; rfl
          rw [if_pos (by omega), if_pos (by omega), if_pos (by omega), hok]
          refine ⟨acc, by rw [h0]; rfl, fun _ => ?_⟩
          rw [labs_root hr]; simp
        · have hr : ¬ b.extract i b.size = rootB := fun h => hend (hroot.mp h).2
          rw [if_pos (by omega)] at hcut
          have hl := labs_bad hcut (.inl (by rw [ByteArray.size_extract]; omega))
          rw [stop hl hr, if_neg (by omega)]
          exact ⟨_, rfl, fun h => absurd h (by decide)⟩
      · have hr : ¬ b.extract i b.size = rootB := fun h => h0 (hroot.mp h).1
        rw [decide_eq_true (by omega), beadrollref07_Labels.j1, if_pos rfl, if_pos (by omega), if_pos (by omega), hbt, w64_id (x := (m : Int)) (by omega) (by omega), w64_id (x := (i : Int) + 1) (by omega) (by omega), w64_id (x := (i : Int) + 1 + (m : Int)) (by omega) (by omega), w64_id (x := 1 + (m : Int)) (by omega) (by omega), w64_id (x := (i : Int) + (1 + (m : Int))) (by omega) (by omega)]
        by_cases h63 : m > 63
        · have hl : labs (b.extract i b.size).size (b.extract i b.size) = [] := by
            by_cases hle : m ≤ b.size - i - 1
            · rw [if_pos hle] at hcut
              exact labs_bad hcut (.inr (by rw [ByteArray.size_extract]; omega))
            · rw [if_neg hle] at hcut
              exact labs_none hcut
          rw [if_pos (by omega), stop hl hr]
          exact ⟨_, rfl, fun h => absurd h (by decide)⟩
        · rw [if_neg (by omega)]
          by_cases hle : m ≤ b.size - i - 1
          · rw [if_pos hle] at hcut
            have hsz2 : (b.extract (i + 1) (i + 1 + m)).size = m := by rw [ByteArray.size_extract]; omega
            have hl := labs_cons hr hcut (by rw [hsz2]; omega)
            rw [if_neg (by omega), if_pos (by omega), if_pos (by omega), if_pos (by omega), if_pos (by omega)]
            rw [show ((i : Int) + 1).toNat = i + 1 from by omega, show ((i : Int) + 1 + (m : Int)).toNat = i + 1 + m from by omega, show (i : Int) + (1 + (m : Int)) = ((i + 1 + m : Nat) : Int) from by omega]
            obtain ⟨l, e1, e2⟩ := ih (i + 1 + m) k (acc ++ [b.extract (i + 1) (i + 1 + m)]) (by omega) (by omega) (by omega) (by simp; omega)
            have hok : okR (b.extract i b.size) = okR (b.extract (i + 1 + m) b.size) := by
              unfold okR
              rw [hl]
              congr 2
              unfold endIn
              cases hq : labs (b.extract (i + 1 + m) b.size).size (b.extract (i + 1 + m) b.size) with
              | nil => rfl
              | cons y t => rw [List.getLast?_cons_cons]; simp [List.getLast?_cons]
            rw [hok]
            refine ⟨l, e1, fun h => ?_⟩
            rw [e2 h, hl]
            simp
          · rw [if_neg hle] at hcut
            rw [if_pos (by omega), stop (labs_none hcut) hr]
            exact ⟨_, rfl, fun h => absurd h (by decide)⟩
    · obtain rfl : i = b.size := by omega
      exact ih b.size (k + 2) acc (by omega) (by omega) (by omega) (by omega)
theorem right_ok (n : ByteArray) : rightB n = (decide (n.size ≤ 255) && okR n) := by
  unfold rightB okR
  congr 1
  by_cases h : endIn n (labs n.size n) = rootB
  · rw [h]; simp [ByteArray.toList_eq]; rfl
  · rw [decide_eq_false h]
    exact list_ne h
theorem all_bytes (b : ByteArray) : b.extract 0 b.size = b := by apply list_inj; rw [drop_list]; rfl
theorem rlabels_no (n : ByteArray) (k : Nat) (hn : rightB n = false) (hk : 600 ≤ k) : ∃ l, beadrollref07_Labels.f k n = some (l, false) := by
  unfold beadrollref07_Labels.f
  by_cases h : (n.size : Int) > 255
  · rw [if_pos h]; exact ⟨_, rfl⟩
  · rw [if_neg h]
    obtain ⟨l, e1, _⟩ := rlabels_at n (by omega) n.size 0 k [] (by omega) (by omega) (by omega) (by simp; omega)
    rw [all_bytes] at e1
    rw [right_ok, decide_eq_true (by omega), Bool.true_and] at hn
    rw [hn] at e1
    exact ⟨l, e1⟩
theorem rlabels_yes (l : List ByteArray) (k : Nat) (hg : good l) (hs : (nameB l).size ≤ 255) (hk : 600 ≤ k) : beadrollref07_Labels.f k (nameB l) = some (l, true) := by
  unfold beadrollref07_Labels.f
  rw [if_neg (by omega)]
  obtain ⟨m, e1, e2⟩ := rlabels_at (nameB l) hs (nameB l).size 0 k [] (by omega) (by omega) (by omega) (by simp; omega)
  rw [all_bytes] at e1 e2
  have hok : okR (nameB l) = true := by unfold okR; exact decide_eq_true (end_labs l hg)
  rw [hok] at e1
  have := e2 hok
  rw [List.nil_append, labs_name l hg, pairs_fst] at this
  rw [this] at e1; exact e1
theorem rright_f (n : ByteArray) (k : Nat) (hk : 600 ≤ k) : beadrollref07_Right.f k n = some (rightB n) := by
  unfold beadrollref07_Right.f
  cases h : rightB n with
  | false =>
    obtain ⟨l, e⟩ := rlabels_no n k h hk
    rw [e]; rfl
  | true =>
    obtain ⟨l, hg, rfl, hs⟩ := (right_iff n).mp h
    rw [rlabels_yes l k hg hs hk]; rfl
theorem right_f (n : ByteArray) : name_Right.f n = some (rightB n) := rfl
theorem labels_yes_f (l : List ByteArray) (hg : good l) (hs : (nameB l).size ≤ 255) : name_Labels.f (nameB l) = some (l, 0) := by
  unfold name_Labels.f
  rw [right_name hg hs, if_pos rfl, labs_name l hg, pairs_fst]
theorem fold_yes_f (l : List ByteArray) (hg : good l) (hs : (nameB l).size ≤ 255) : name_Fold.f (nameB l) = some (nameB (l.map lowS)) := by
  unfold name_Fold.f name_folded.f
  rw [right_f, right_name hg hs, Option.bind_some, if_pos rfl, if_pos (by omega), fold_name l hg]; rfl
theorem fold_no_f (n : ByteArray) (h : rightB n = false) : name_Fold.f n = some ⟨#[]⟩ := by
  unfold name_Fold.f
  rw [right_f, h, Option.bind_some, if_neg (by decide)]
set_option linter.unusedVariables false
set_option linter.unusedSimpArgs false
def catB : List ByteArray → ByteArray
  | [] => ⟨#[]⟩
  | s :: l => pieceB 1 s ++ catB l
theorem app_nil (b : ByteArray) : b ++ (⟨#[]⟩ : ByteArray) = b := by apply list_inj; rw [app_list]; simp
theorem nil_app (b : ByteArray) : (⟨#[]⟩ : ByteArray) ++ b = b := by apply list_inj; rw [app_list]; simp
theorem app_assoc (a b c : ByteArray) : a ++ b ++ c = a ++ (b ++ c) := by apply list_inj; rw [app_list, app_list, app_list, app_list, List.append_assoc]
theorem nameB_cat : ∀ l, nameB l = catB l ++ (⟨#[0]⟩ : ByteArray)
  | [] => by rw [catB, nil_app]; rfl
  | s :: l => by rw [nameB, catB, nameB_cat l, app_assoc]
theorem catB_app : ∀ l s, catB (l ++ [s]) = catB l ++ pieceB 1 s
  | [], s => by
    show pieceB 1 s ++ (⟨#[]⟩ : ByteArray) = (⟨#[]⟩ : ByteArray) ++ pieceB 1 s
    rw [app_nil, nil_app]
  | t :: l, s => by rw [List.cons_append, catB, catB, catB_app l s, app_assoc]
theorem cat_take (l : List ByteArray) (i : Nat) (h : i < l.length) : catB (l.take (i + 1)) = catB (l.take i) ++ pieceB 1 l[i] := by
  rw [List.take_succ_eq_append_getElem h, catB_app]
theorem cat_size : ∀ (l : List ByteArray), (∀ s ∈ l, s.size ≤ 63) → (catB l).size ≤ 64 * l.length
  | [], _ => Nat.le_refl _
  | s :: l, h => by
    have h1 := h s (by simp)
    have h2 := cat_size l (fun t ht => h t (by simp [ht]))
    rw [catB, ByteArray.size_append, piece_size1, List.length_cons]; omega
set_option linter.unusedVariables false
set_option linter.unusedSimpArgs false
theorem bl_cons (a b : UInt8) (x y : List UInt8) : Op.bytesLess (a :: x) (b :: y) = true ↔ a.toNat < b.toNat ∨ (a = b ∧ Op.bytesLess x y = true) := by
  rw [Op.bytesLess, Bool.or_eq_true, Bool.and_eq_true, beq_iff_eq, decide_eq_true_iff, UInt8.lt_iff_toNat_lt]
theorem bl_irrefl : ∀ x : List UInt8, Op.bytesLess x x = false
  | [] => rfl
  | a :: x => by
    cases h : Op.bytesLess (a :: x) (a :: x) with
    | false => rfl
    | true =>
      rcases (bl_cons a a x x).mp h with h1 | ⟨_, h1⟩
      · omega
      · rw [bl_irrefl x] at h1; exact absurd h1 (by decide)
theorem bl_trans : ∀ x y z : List UInt8, Op.bytesLess x y = true → Op.bytesLess y z = true → Op.bytesLess x z = true
  | _, _, [], _, h => by rw [Op.bytesLess] at h; exact absurd h (by decide)
  | [], _, _ :: _, _, _ => rfl
  | a :: x, [], _ :: _, h, _ => by rw [Op.bytesLess] at h; exact absurd h (by decide)
  | a :: x, b :: y, c :: z, h1, h2 => by
    rw [bl_cons] at h1 h2 ⊢
    rcases h1 with h1 | ⟨rfl, h1⟩
    · rcases h2 with h2 | ⟨rfl, h2⟩
      · exact .inl (by omega)
      · exact .inl h1
    · rcases h2 with h2 | ⟨rfl, h2⟩
      · exact .inl h2
      · exact .inr ⟨rfl, bl_trans x y z h1 h2⟩
theorem bl_tri : ∀ x y : List UInt8, Op.bytesLess x y = false → Op.bytesLess y x = false → x = y
  | [], [], _, _ => rfl
  | [], _ :: _, h, _ => by rw [Op.bytesLess] at h; exact absurd h (by decide)
  | _ :: _, [], _, h => by rw [Op.bytesLess] at h; exact absurd h (by decide)
  | a :: x, b :: y, h1, h2 => by
    have n1 : ¬ (a.toNat < b.toNat ∨ (a = b ∧ Op.bytesLess x y = true)) := fun h => by rw [(bl_cons a b x y).mpr h] at h1; exact absurd h1 (by decide)
    have n2 : ¬ (b.toNat < a.toNat ∨ (b = a ∧ Op.bytesLess y x = true)) := fun h => by rw [(bl_cons b a y x).mpr h] at h2; exact absurd h2 (by decide)
    have e : a = b := UInt8.toNat_inj.mp (by
      have : ¬ a.toNat < b.toNat := fun h => n1 (.inl h)
      have : ¬ b.toNat < a.toNat := fun h => n2 (.inl h)
      omega)
    subst e
    rw [bl_tri x y (by cases h : Op.bytesLess x y with | false => rfl | true => exact absurd (.inr ⟨rfl, h⟩) n1) (by cases h : Op.bytesLess y x with | false => rfl | true => exact absurd (.inr ⟨rfl, h⟩) n2)]
theorem bl_asymm (x y : List UInt8) (h : Op.bytesLess x y = true) : Op.bytesLess y x = false := by
  cases h' : Op.bytesLess y x with
  | false => rfl
  | true => rw [← bl_irrefl x, bl_trans x y x h h']
structure Ord {α : Type} (c : α → α → Int) : Prop where
  vals : ∀ a b, c a b = -1 ∨ c a b = 0 ∨ c a b = 1
  flip : ∀ a b, c b a = - c a b
  zero : ∀ a b, c a b = 0 → a = b
  self : ∀ a, c a a = 0
  trans : ∀ a b d, c a b < 0 → c b d < 0 → c a d < 0
theorem Ord.le_trans {α : Type} {c : α → α → Int} (O : Ord c) {a b d : α} (h1 : c a b ≤ 0) (h2 : c b d ≤ 0) : c a d ≤ 0 ∧ (c a d = 0 → c a b = 0 ∧ c b d = 0) := by
  by_cases e1 : c a b = 0
  · obtain rfl := O.zero _ _ e1
    exact ⟨h2, fun h => ⟨e1, h⟩⟩
  · by_cases e2 : c b d = 0
    · obtain rfl := O.zero _ _ e2
      exact ⟨h1, fun h => ⟨h, e2⟩⟩
    · have := O.trans a b d (by omega) (by omega)
      exact ⟨by omega, fun h => by omega⟩
theorem cmp_self (a : List UInt8) : cmpB a a = 0 := by
  unfold cmpB; rw [bl_irrefl, if_neg (by decide), if_pos (by simp)]
theorem cmp_lt {a b : List UInt8} (h : Op.bytesLess a b = true) : cmpB a b = -1 := by unfold cmpB; rw [if_pos h]
theorem cmp_gt {a b : List UInt8} (h : Op.bytesLess b a = true) : cmpB a b = 1 := by
  unfold cmpB
  rw [bl_asymm b a h, if_neg (by decide), if_neg]
  intro e
  rw [beq_iff_eq.mp e, bl_irrefl] at h; exact absurd h (by decide)
theorem cmp_cases (a b : List UInt8) : (Op.bytesLess a b = true ∧ cmpB a b = -1) ∨ (a = b ∧ cmpB a b = 0) ∨ (Op.bytesLess b a = true ∧ cmpB a b = 1) := by
  cases h1 : Op.bytesLess a b with
  | true => exact .inl ⟨rfl, cmp_lt h1⟩
  | false =>
    cases h2 : Op.bytesLess b a with
    | true => exact .inr (.inr ⟨rfl, cmp_gt h2⟩)
    | false =>
      obtain rfl := bl_tri a b h1 h2
      exact .inr (.inl ⟨rfl, cmp_self a⟩)
theorem cmp_ord : Ord cmpB where
  vals a b := by rcases cmp_cases a b with h | h | h <;> omega
  flip a b := by
    rcases cmp_cases a b with ⟨h, e⟩ | ⟨h, e⟩ | ⟨h, e⟩
    · rw [e, cmp_gt h]; rfl
    · rw [e, h, cmp_self]; rfl
    · rw [e, cmp_lt h]
  zero a b h := by rcases cmp_cases a b with ⟨_, e⟩ | ⟨k, e⟩ | ⟨_, e⟩ <;> first | exact k | omega
  self := cmp_self
  trans a b d h1 h2 := by
    rcases cmp_cases a b with ⟨k1, e⟩ | ⟨_, e⟩ | ⟨_, e⟩ <;> try omega
    rcases cmp_cases b d with ⟨k2, e'⟩ | ⟨_, e'⟩ | ⟨_, e'⟩ <;> try omega
    rw [cmp_lt (bl_trans _ _ _ k1 k2)]; omega
def cmpL : List ByteArray → List ByteArray → Int
  | [], [] => 0
  | [], _ :: _ => -1
  | _ :: _, [] => 1
  | a :: x, b :: y => if cmpB a.toList b.toList = 0 then cmpL x y else cmpB a.toList b.toList
theorem cmpL_self : ∀ x, cmpL x x = 0
  | [] => rfl
  | a :: x => by rw [cmpL, cmp_self, if_pos rfl, cmpL_self x]
theorem cmpL_vals : ∀ x y, cmpL x y = -1 ∨ cmpL x y = 0 ∨ cmpL x y = 1
  | [], [] => .inr (.inl rfl)
  | [], _ :: _ => .inl rfl
  | _ :: _, [] => .inr (.inr rfl)
  | a :: x, b :: y => by
    rw [cmpL]; split
    · exact cmpL_vals x y
    · exact cmp_ord.vals _ _
theorem cmpL_flip : ∀ x y, cmpL y x = - cmpL x y
  | [], [] => rfl
  | [], _ :: _ => rfl
  | _ :: _, [] => rfl
  | a :: x, b :: y => by
    rw [cmpL, cmpL, cmp_ord.flip a.toList b.toList]
    by_cases h : cmpB a.toList b.toList = 0
    · rw [if_pos (by omega), if_pos h, cmpL_flip x y]
    · rw [if_neg (by omega), if_neg h]
theorem cmpL_zero : ∀ x y, cmpL x y = 0 → x = y
  | [], [], _ => rfl
  | [], _ :: _, h => by rw [cmpL] at h; omega
  | _ :: _, [], h => by rw [cmpL] at h; omega
  | a :: x, b :: y, h => by
    rw [cmpL] at h
    by_cases h0 : cmpB a.toList b.toList = 0
    · rw [if_pos h0] at h
      rw [toList_inj.mp (cmp_ord.zero _ _ h0), cmpL_zero x y h]
    · rw [if_neg h0] at h; exact absurd h h0
theorem cmpL_trans : ∀ x y z, cmpL x y < 0 → cmpL y z < 0 → cmpL x z < 0
  | [], [], _, h, _ => by rw [cmpL] at h; omega
  | _ :: _, [], _, h, _ => by rw [cmpL] at h; omega
  | _, _ :: _, [], _, h => by rw [cmpL] at h; omega
  | [], _ :: _, _ :: _, _, _ => by rw [cmpL]; omega
  | a :: x, b :: y, c :: z, h1, h2 => by
    rw [cmpL] at h1 h2 ⊢
    by_cases e1 : cmpB a.toList b.toList = 0
    · rw [if_pos e1] at h1
      have ea := cmp_ord.zero _ _ e1
      rw [ea]
      by_cases e2 : cmpB b.toList c.toList = 0
      · rw [if_pos e2] at h2 ⊢
        exact cmpL_trans x y z h1 h2
      · rw [if_neg e2] at h2 ⊢; exact h2
    · rw [if_neg e1] at h1
      by_cases e2 : cmpB b.toList c.toList = 0
      · rw [← cmp_ord.zero _ _ e2, if_neg e1]; exact h1
      · rw [if_neg e2] at h2
        have := cmp_ord.trans _ _ _ h1 h2
        rw [if_neg (by omega)]; exact this
theorem cmpL_ord : Ord cmpL := ⟨cmpL_vals, cmpL_flip, cmpL_zero, cmpL_self, cmpL_trans⟩
theorem scmp_at (x y : List ByteArray) (hx : x.length ≤ 1000000) (hy : y.length ≤ 1000000) : ∀ (d i k : Nat), i + d = x.length → d < k → i ≤ y.length → slices_Compare_string_string.l0 k x y x (x.length : Int) (i : Int) = some (cmpL (x.drop i) (y.drop i)) := by
  intro d
  induction d with
  | zero =>
    intro i k hi hk hiy
    obtain ⟨k, rfl⟩ : ∃ j, k = j + 1 := ⟨k - 1, by omega⟩
    rw [slices_Compare_string_string.l0, if_neg (by omega), List.drop_of_length_le (by omega : x.length ≤ i)]
    by_cases h : i = y.length
    · rw [if_neg (by omega), List.drop_of_length_le (by omega)]; rfl
    · rw [if_pos (by omega), List.drop_eq_getElem_cons (by omega : i < y.length)]; rfl
  | succ d ih =>
    intro i k hi hk hiy
    obtain ⟨k, rfl⟩ : ∃ j, k = j + 1 := ⟨k - 1, by omega⟩
    have hix : i < x.length := by omega
    rw [slices_Compare_string_string.l0, if_pos (by omega), if_pos (by omega), if_pos (by omega), List.drop_eq_getElem_cons hix]
    by_cases h : i < y.length
    · rw [if_neg (by omega), if_pos (by omega), rdo_at x i hix, rdo_at y i h, List.drop_eq_getElem_cons h, cmpL]
      show (if cmpB _ _ = 0 then _ else _) = _
      by_cases h0 : cmpB x[i].toList y[i].toList = 0
      · rw [if_pos h0, if_pos h0, w64_id (by omega) (by omega)]
        exact ih (i + 1) k (by omega) (by omega) (by omega)
      · rw [if_neg h0, if_neg h0]
    · rw [if_pos (by omega), List.drop_of_length_le (by omega : y.length ≤ i)]; rfl
theorem scmp_f (x y : List ByteArray) (k : Nat) (hx : x.length ≤ 1000000) (hy : y.length ≤ 1000000) (hk : x.length < k) : slices_Compare_string_string.f k x y = some (cmpL x y) :=
  scmp_at x y hx hy x.length 0 k (by omega) hk (by omega)
theorem rev_at (x : List ByteArray) (hx : x.length ≤ 1000000) : ∀ (d i k : Nat) (y : List ByteArray), y.length = x.length → 2 * i + d = x.length + 1 → d + 1 ≤ k →
    (∀ p, p < x.length → y[p]? = if p < i ∨ x.length - i ≤ p then x[x.length - 1 - p]? else x[p]?) →
    slices_Reverse_string_string.l0 k y (i : Int) ((x.length : Int) - 1 - (i : Int)) = some x.reverse := by
  intro d
  induction d using Nat.strongRecOn with
  | _ d ih =>
    intro i k y hy hd hk hp
    obtain ⟨k, rfl⟩ : ∃ j, k = j + 1 := ⟨k - 1, by omega⟩
    rw [slices_Reverse_string_string.l0]
    by_cases h : (i : Int) < (x.length : Int) - 1 - (i : Int)
    · rw [if_pos h, if_pos (by omega), if_pos (by omega), if_pos (by omega), if_pos (by omega)]
      rw [w64_id (by omega) (by omega), w64_id (by omega) (by omega)]
      obtain ⟨j, hj⟩ : ∃ j : Nat, (x.length : Int) - 1 - (i : Int) = (j : Int) := ⟨x.length - 1 - i, by omega⟩
      have hjn : j = x.length - 1 - i := by omega
      rw [hj, show (j : Int) - 1 = (x.length : Int) - 1 - ((i + 1 : Nat) : Int) from by omega, Int.toNat_natCast, Int.toNat_natCast]
      obtain ⟨e, rfl⟩ : ∃ e, d = e + 2 := ⟨d - 2, by omega⟩
      have ri : rdOf ByteArray.empty y (i : Int) = y[i] := rdo_at y i (by omega)
      have rj : rdOf ByteArray.empty y (j : Int) = y[j] := rdo_at y j (by omega)
      rw [ri, rj]
      refine ih e (by omega) (i + 1) k _ (by simp [hy]) (by omega) (by omega) ?_
      intro p hpx
      have hpi := hp i (by omega)
      have hpj := hp j (by omega)
      rw [if_neg (by omega), List.getElem?_eq_getElem (by omega : i < y.length)] at hpi
      rw [if_neg (by omega), List.getElem?_eq_getElem (by omega : j < y.length)] at hpj
      rw [List.getElem?_set, List.getElem?_set]
      by_cases c1 : j = p
      · rw [if_pos c1, if_pos (by simp [hy]; omega), if_pos (by omega), hpi]
        congr 1; omega
      · rw [if_neg c1]
        by_cases c2 : i = p
        · rw [if_pos c2, if_pos (by omega), if_pos (by omega), hpj]
          congr 1; omega
        · rw [if_neg c2, hp p hpx]
          by_cases c3 : p < i ∨ x.length - i ≤ p
          · rw [if_pos c3, if_pos (by omega)]
          · rw [if_neg c3, if_neg (by omega)]
    · rw [if_neg h]
      congr 1
      apply List.ext_getElem?
      intro p
      by_cases hpx : p < x.length
      · rw [hp p hpx, List.getElem?_reverse hpx]
        by_cases c3 : p < i ∨ x.length - i ≤ p
        · rw [if_pos c3]
        · rw [if_neg c3]; congr 1; omega
      · rw [List.getElem?_eq_none (by omega), List.getElem?_eq_none (by simp; omega)]
theorem rev_f (x : List ByteArray) (k : Nat) (hx : x.length ≤ 1000000) (hk : x.length + 2 ≤ k) : slices_Reverse_string_string.f k x = some x.reverse := by
  unfold slices_Reverse_string_string.f
  rw [w64_id (by omega) (by omega)]
  have := rev_at x hx (x.length + 1) 0 k x rfl (by omega) (by omega) (by intro p hp; rw [if_neg (by omega)])
  rw [show ((0 : Nat) : Int) = 0 from rfl, Int.sub_zero] at this
  exact this
def cmpN (l m : List ByteArray) : Int := cmpL (l.map lowS).reverse (m.map lowS).reverse
theorem compare_f (l m : List ByteArray) (hl : good l) (hm : good m) (sl : (nameB l).size ≤ 255) (sm : (nameB m).size ≤ 255) (k : Nat) (hk : 300 ≤ k) : name_Compare.f k (nameB l) (nameB m) = some (cmpN l m) := by
  have nl := name_len l hl
  have nm := name_len m hm
  unfold name_Compare.f
  rw [fold_yes_f l hl sl, Option.bind_some, labels_yes_f _ (good_map hl) (by rw [size_map]; exact sl), Option.bind_some, fold_yes_f m hm sm, Option.bind_some, labels_yes_f _ (good_map hm) (by rw [size_map]; exact sm), Option.bind_some, if_pos rfl]
  obtain ⟨k, rfl⟩ : ∃ j, k = j + 1 := ⟨k - 1, by omega⟩
  rw [name_Compare.j0, if_neg (by show ¬ false = true; decide), rev_f _ k (by rw [List.length_map]; omega) (by rw [List.length_map]; omega), Option.bind_some, rev_f _ k (by rw [List.length_map]; omega) (by rw [List.length_map]; omega), Option.bind_some, scmp_f _ _ k (by simp; omega) (by simp; omega) (by simp; omega)]
  rfl
set_option linter.unusedVariables false
set_option linter.unusedSimpArgs false
theorem lower_at (s : ByteArray) (hs : s.size ≤ 1000000) : ∀ (d i k : Nat) (acc : List UInt8), i + d = s.size → d < k → acc.length + d ≤ 1000000 →
    beadrollref07_lower.l0 k s (bnums acc) (i : Int) = some (arr (acc ++ (s.data.toList.drop i).map low)) := by
  intro d
  induction d with
  | zero =>
    intro i k acc hi hk ha
    obtain ⟨k, rfl⟩ : ∃ j, k = j + 1 := ⟨k - 1, by omega⟩
    rw [beadrollref07_lower.l0, if_neg (by omega), List.drop_of_length_le (by rw [size_list]; omega), str_bnums, List.map_nil, List.append_nil]
  | succ d ih =>
    intro i k acc hi hk ha
    obtain ⟨k, rfl⟩ : ∃ j, k = j + 1 := ⟨k - 1, by omega⟩
    have hlt : i < s.size := by omega
    rw [beadrollref07_lower.l0, if_pos (by omega), if_pos (by omega), bt_list s i hlt, List.drop_eq_getElem_cons (by rw [size_list]; exact hlt), List.map_cons]
    generalize s.data.toList[i]'(by rw [size_list]; exact hlt) = c
    have hc := UInt8.toNat_lt c
    have step : ∀ x : UInt8, x = low c → ([(x.toNat : Int)] : List Int) = bnums [low c] := by intro x h; rw [h]; rfl
    have fin := ih (i + 1) k (acc ++ [low c]) (by omega) (by omega) (by simp; omega)
    rw [List.append_assoc, List.singleton_append] at fin
    have hlen : (bnums acc).length < 140737488355328 := by rw [bnums_len]; omega
    by_cases h1 : 65 ≤ c.toNat
    · by_cases h2 : c.toNat ≤ 90
      · have e : (low c).toNat = c.toNat + 32 := by
          have : low c = UInt8.ofNat (c.toNat + 32) := by unfold low; rw [if_pos ⟨h1, h2⟩]
          rw [this, UInt8.toNat_ofNat']; omega
        have e2 : ([((c.toNat : Int) + 32) % 256] : List Int) = bnums [low c] := by
          show _ = [((low c).toNat : Int)]
          rw [e]; congr 1; omega
        rw [if_pos (by omega), if_pos (by omega), if_pos hlen, e2, ← bnums_app, w64_id (by omega) (by omega)]
        exact fin
      · have e : low c = c := by unfold low; rw [if_neg (by omega)]
        rw [if_pos (by omega), if_neg (by omega), if_pos hlen, step c e.symm, ← bnums_app, w64_id (by omega) (by omega)]
        exact fin
    · have e : low c = c := by unfold low; rw [if_neg (by omega)]
      rw [if_neg (by omega), if_pos hlen, step c e.symm, ← bnums_app, w64_id (by omega) (by omega)]
      exact fin
theorem lower_f (s : ByteArray) (k : Nat) (hs : s.size ≤ 1000000) (hk : s.size < k) : beadrollref07_lower.f k s = some (lowS s) := by
  unfold beadrollref07_lower.f
  exact lower_at s hs s.size 0 k [] (by omega) hk (by simp; omega)
theorem piece_low (s : ByteArray) (hs : s.size ≤ 63) : strOfNums ([(s.size : Int) % 256] : List Int) ++ lowS s = pieceB 1 (lowS s) := by
  have e : ([(s.size : Int) % 256] : List Int) = bnums (beB 1 (lowS s).size) := by
    rw [lowS_size, beB, beB, List.nil_append]
    simp only [bnums, List.map_cons, List.map_nil, byte_mod]
    congr 1
  rw [e, str_bnums]; rfl
theorem rfold_at (l : List ByteArray) (hl : l.length ≤ 1000) (hs : ∀ s ∈ l, s.size ≤ 63) : ∀ (d i k : Nat), i + d = l.length → d + 100 ≤ k →
    beadrollref07_Fold.l0 k l (catB ((l.map lowS).take i)) (i : Int) = some (nameB (l.map lowS)) := by
  have hsz : ∀ i, (catB ((l.map lowS).take i)).size ≤ 64 * i := by
    intro i
    have h := cat_size ((l.map lowS).take i) (by
      intro s h
      obtain ⟨t, ht, rfl⟩ := List.mem_map.mp (List.mem_of_mem_take h)
      rw [lowS_size]; exact hs t ht)
    rw [List.length_take] at h
    omega
  intro d
  induction d with
  | zero =>
    intro i k hi hk
    obtain ⟨k, rfl⟩ : ∃ j, k = j + 1 := ⟨k - 1, by omega⟩
    have := hsz i
    rw [beadrollref07_Fold.l0, if_neg (by omega), if_pos (by omega), List.take_of_length_le (by rw [List.length_map]; omega), nameB_cat]
  | succ d ih =>
    intro i k hi hk
    obtain ⟨k, rfl⟩ : ∃ j, k = j + 1 := ⟨k - 1, by omega⟩
    have hil : i < l.length := by omega
    have h63 := hs _ (List.getElem_mem hil)
    have h1 := hsz i
    have hp := piece_low l[i] h63
    have hp2 : (strOfNums ([(l[i].size : Int) % 256] : List Int)).size + (lowS l[i]).size = (pieceB 1 (lowS l[i])).size := by rw [← hp, ByteArray.size_append]
    have hps := piece_size1 (lowS l[i])
    rw [lowS_size] at hps
    rw [beadrollref07_Fold.l0, if_pos (by omega), if_pos (by omega), rdo_at l i hil, Option.bind_some, lower_f _ k (by omega) (by omega), Option.bind_some, hp2, hp, if_pos (by omega), if_pos (by omega), w64_id (by omega) (by omega)]
    have h2 := ih (i + 1) k (by omega) (by omega)
    rw [cat_take (l.map lowS) i (by rw [List.length_map]; exact hil), List.getElem_map] at h2
    exact h2
theorem rfold_yes (l : List ByteArray) (hg : good l) (sl : (nameB l).size ≤ 255) (k : Nat) (hk : 700 ≤ k) : beadrollref07_Fold.f k (nameB l) = some (nameB (l.map lowS)) := by
  have ll := name_len l hg
  unfold beadrollref07_Fold.f
  rw [rlabels_yes l k hg sl (by omega), Option.bind_some, if_pos rfl]
  exact rfold_at l (by omega) (fun s h => (hg s h).2) l.length 0 k (by omega) (by omega)
theorem rfold_no (n : ByteArray) (h : rightB n = false) (k : Nat) (hk : 700 ≤ k) : beadrollref07_Fold.f k n = some ⟨#[]⟩ := by
  unfold beadrollref07_Fold.f
  obtain ⟨l, e⟩ := rlabels_no n k h (by omega)
  rw [e, Option.bind_some, if_neg (by decide : ¬ false = true)]
theorem rd_rev (x : List ByteArray) (i : Nat) (h : i < x.length) (hx : x.length ≤ 1000) : rdOf ByteArray.empty x (wrap64 ((x.length : Int) - ((i + 1 : Nat) : Int))) = x.reverse[i]'(by rw [List.length_reverse]; exact h) := by
  rw [w64_id (by omega) (by omega), show (x.length : Int) - ((i + 1 : Nat) : Int) = ((x.length - 1 - i : Nat) : Int) from by omega, rdo_at x _ (by omega), List.getElem_reverse]
theorem rcmp_at (x y : List ByteArray) (hx : x.length ≤ 1000) (hy : y.length ≤ 1000) : ∀ (d i k : Nat), i + d = x.length → i ≤ y.length → 2 * d + 3 ≤ k →
    beadrollref07_Compare.l0 k x y ((i + 1 : Nat) : Int) = some (cmpL (x.reverse.drop i) (y.reverse.drop i)) := by
  intro d
  induction d with
  | zero =>
    intro i k hi hiy hk
    obtain ⟨k, rfl⟩ : ∃ j, k = j + 2 := ⟨k - 2, by omega⟩
    rw [beadrollref07_Compare.l0, if_neg (by omega), beadrollref07_Compare.j2, if_neg (by decide), List.drop_of_length_le (by rw [List.length_reverse]; omega : x.reverse.length ≤ i)]
    by_cases h : i = y.length
    · rw [if_neg (by omega), if_neg (by omega), List.drop_of_length_le (by rw [List.length_reverse]; omega)]; rfl
    · rw [if_pos (by omega), List.drop_eq_getElem_cons (by rw [List.length_reverse]; omega : i < y.reverse.length)]; rfl
  | succ d ih =>
    intro i k hi hiy hk
    obtain ⟨k, rfl⟩ : ∃ j, k = j + 2 := ⟨k - 2, by omega⟩
    have hix : i < x.length := by omega
    rw [beadrollref07_Compare.l0, if_pos (by omega), List.drop_eq_getElem_cons (by rw [List.length_reverse]; exact hix : i < x.reverse.length)]
    by_cases h : i < y.length
    · rw [decide_eq_true (by omega), beadrollref07_Compare.j2, if_pos rfl, if_pos (by rw [w64_id (by omega) (by omega)]; omega), if_pos (by rw [w64_id (by omega) (by omega)]; omega), if_pos (by rw [w64_id (by omega) (by omega)]; omega), if_pos (by rw [w64_id (by omega) (by omega)]; omega), rd_rev x i hix hx, rd_rev y i h hy, List.drop_eq_getElem_cons (by rw [List.length_reverse]; exact h : i < y.reverse.length), cmpL]
      generalize x.reverse[i]'(by rw [List.length_reverse]; exact hix) = a
      generalize y.reverse[i]'(by rw [List.length_reverse]; exact h) = b
      rcases cmp_cases a.toList b.toList with ⟨h1, e⟩ | ⟨h1, e⟩ | ⟨h1, e⟩
      · rw [if_pos h1, if_neg (by omega), e]
      · rw [h1, bl_irrefl, if_neg (by decide), if_neg (by decide), cmp_self, if_pos rfl, w64_id (by omega) (by omega)]
        exact ih (i + 1) k (by omega) (by omega) (by omega)
      · rw [bl_asymm _ _ h1, if_neg (by decide), if_pos h1, if_neg (by omega), e]
    · rw [decide_eq_false (by omega), beadrollref07_Compare.j2, if_neg (by decide), if_neg (by omega), if_pos (by omega), List.drop_of_length_le (by rw [List.length_reverse]; omega : y.reverse.length ≤ i)]; rfl
theorem rcompare_yes (l m : List ByteArray) (hl : good l) (hm : good m) (sl : (nameB l).size ≤ 255) (sm : (nameB m).size ≤ 255) (k : Nat) (hk : 1000 ≤ k) : beadrollref07_Compare.f k (nameB l) (nameB m) = some (cmpN l m) := by
  have nl := name_len l hl
  have nm := name_len m hm
  unfold beadrollref07_Compare.f
  rw [rfold_yes l hl sl k (by omega), Option.bind_some, rlabels_yes _ k (good_map hl) (by rw [size_map]; exact sl) (by omega), Option.bind_some, rfold_yes m hm sm k (by omega), Option.bind_some, rlabels_yes _ k (good_map hm) (by rw [size_map]; exact sm) (by omega), Option.bind_some, if_pos rfl]
  obtain ⟨k, rfl⟩ : ∃ j, k = j + 1 := ⟨k - 1, by omega⟩
  rw [beadrollref07_Compare.j0, if_neg (by show ¬ false = true; decide)]
  have h := rcmp_at (l.map lowS) (m.map lowS) (by rw [List.length_map]; omega) (by rw [List.length_map]; omega) (l.map lowS).length 0 k (by omega) (by omega) (by rw [List.length_map]; omega)
  exact h
end Go.Proofs.Ytnpiglojamhpiaa.NameFacts
namespace Go.Proofs.Ytnpiglojamhpiaa.SetLaw
set_option linter.unusedVariables false
variable {α : Type}
structure POrd (c : α → α → Int) : Prop where
  vals : ∀ a b, c a b = -1 ∨ c a b = 0 ∨ c a b = 1
  flip : ∀ a b, c b a = - c a b
  cong : ∀ a b d, c a b = 0 → c a d = c b d
  trans : ∀ a b d, c a b < 0 → c b d < 0 → c a d < 0
namespace POrd
variable {c : α → α → Int} (O : POrd c)
include O
theorem refl (a : α) : c a a = 0 := by have := O.flip a a; omega
theorem symm {a b : α} (h : c a b = 0) : c b a = 0 := by have := O.flip a b; omega
theorem congr (a b d : α) (h : c a b = 0) : c d a = c d b := by have h1 := O.cong a b d h; have h2 := O.flip a d; have h3 := O.flip b d; omega
theorem lt_of_lt_of_eq {a b d : α} (h : c a b < 0) (h' : c b d = 0) : c a d < 0 := by rw [← O.congr b d a h']; exact h
theorem lt_of_eq_of_lt {a b d : α} (h : c a b = 0) (h' : c b d < 0) : c a d < 0 := by rw [O.cong a b d h]; exact h'
theorem le_trans {a b d : α} (h : c a b ≤ 0) (h' : c b d ≤ 0) : c a d ≤ 0 := by
  by_cases e : c a b = 0
  · rw [O.cong a b d e]; exact h'
  · by_cases e' : c b d = 0
    · rw [← O.congr b d a e']; exact h
    · have := O.trans a b d (by omega) (by omega); omega
theorem eq_of_le {a b : α} (h : c a b ≤ 0) (h' : c b a ≤ 0) : c a b = 0 := by have := O.flip a b; omega
end POrd
def cls (c : α → α → Int) (l : List α) (x : α) : List α := l.filter fun y => decide (c x y = 0)
def Sorted (c : α → α → Int) (l : List α) : Prop := l.Pairwise fun a b => c a b ≤ 0
def IsSet (c : α → α → Int) (l : List α) : Prop := l.Pairwise fun a b => c a b < 0
theorem IsSet.sorted {c : α → α → Int} {l : List α} (h : IsSet c l) : Sorted c l := h.imp fun h => by omega
theorem cls_nil (c : α → α → Int) (x : α) : cls c [] x = [] := rfl
theorem cls_cons (c : α → α → Int) (y : α) (l : List α) (x : α) : cls c (y :: l) x = if c x y = 0 then y :: cls c l x else cls c l x := by
  unfold cls; rw [List.filter_cons]; simp only [decide_eq_true_eq]
theorem mem_cls {c : α → α → Int} {l : List α} {x y : α} : y ∈ cls c l x ↔ y ∈ l ∧ c x y = 0 := by unfold cls; rw [List.mem_filter]; simp
theorem cls_none {c : α → α → Int} {l : List α} {x : α} (h : ∀ y ∈ l, ¬ c x y = 0) : cls c l x = [] := by
  unfold cls; rw [List.filter_eq_nil_iff]; intro y hy; simpa using h y hy
theorem cls_congr {c : α → α → Int} (O : POrd c) (l : List α) {x y : α} (h : c x y = 0) : cls c l x = cls c l y := by
  unfold cls; congr 1; funext z; rw [O.cong x y z h]
theorem sorted_unique {c : α → α → Int} (O : POrd c) : ∀ (l m : List α), Sorted c l → Sorted c m → (∀ x, cls c l x = cls c m x) → l = m := by
  intro l
  induction l with
  | nil =>
    intro m _ _ h
    cases m with
    | nil => rfl
    | cons y m => have := h y; rw [cls_nil, cls_cons, if_pos (O.refl y)] at this; cases this
  | cons a l ih =>
    intro m hl hm h
    cases m with
    | nil => have := h a; rw [cls_nil, cls_cons, if_pos (O.refl a)] at this; cases this
    | cons b m =>
      have hl' := List.pairwise_cons.mp hl
      have hm' := List.pairwise_cons.mp hm
      have ha : a ∈ b :: m := by
        have h1 := h a
        have h2 : a ∈ cls c (b :: m) a := by rw [← h1]; exact mem_cls.mpr ⟨List.mem_cons_self .., O.refl a⟩
        exact (mem_cls.mp h2).1
      have hb : b ∈ a :: l := by
        have h1 := h b
        have h2 : b ∈ cls c (a :: l) b := by rw [h1]; exact mem_cls.mpr ⟨List.mem_cons_self .., O.refl b⟩
        exact (mem_cls.mp h2).1
      have hab : c a b ≤ 0 := by
        rcases List.mem_cons.mp hb with e | e
        · rw [e, O.refl]; omega
        · exact hl'.1 b e
      have hba : c b a ≤ 0 := by
        rcases List.mem_cons.mp ha with e | e
        · rw [e, O.refl]; omega
        · exact hm'.1 a e
      have h0 := O.eq_of_le hab hba
      have h1 := h a
      rw [cls_cons, if_pos (O.refl a), cls_cons, if_pos h0] at h1
      obtain ⟨rfl, _⟩ := List.cons.inj h1
      congr 1
      refine ih m hl'.2 hm'.2 fun x => ?_
      have h2 := h x
      rw [cls_cons, cls_cons] at h2
      split at h2
      · exact (List.cons.inj h2).2
      · exact h2
theorem set_cls_cons {c : α → α → Int} (O : POrd c) {a : α} {l : List α} (h : IsSet c (a :: l)) : cls c l a = [] :=
  cls_none fun y hy h0 => by have := (List.pairwise_cons.mp h).1 y hy; omega
theorem set_cls {c : α → α → Int} (O : POrd c) : ∀ {l : List α} (_ : IsSet c l) {x y : α} (_ : y ∈ l) (_ : c x y = 0), cls c l x = [y] := by
  intro l
  induction l with
  | nil => intro _ x y hy; cases hy
  | cons a l ih =>
    intro h x y hy h0
    rw [cls_cons]
    rcases List.mem_cons.mp hy with rfl | hy
    · rw [if_pos h0, cls_congr O l h0, set_cls_cons O h]
    · have hlt := (List.pairwise_cons.mp h).1 y hy
      rw [if_neg (fun e => by have h1 := O.cong x a y e; omega)]
      exact ih (List.pairwise_cons.mp h).2 hy h0
theorem cls_set_cases {c : α → α → Int} (O : POrd c) {l : List α} (h : IsSet c l) (x : α) : cls c l x = [] ∨ ∃ y, y ∈ l ∧ c x y = 0 ∧ cls c l x = [y] := by
  by_cases he : ∃ y ∈ l, c x y = 0
  · obtain ⟨y, hy, h0⟩ := he
    exact .inr ⟨y, hy, h0, set_cls O h hy h0⟩
  · exact .inl (cls_none fun y hy h0 => he ⟨y, hy, h0⟩)
theorem set_unique {c : α → α → Int} (O : POrd c) {l m : List α} (hl : IsSet c l) (hm : IsSet c m) (h : ∀ x, cls c l x = cls c m x) : l = m := sorted_unique O l m hl.sorted hm.sorted h
def put (c : α → α → Int) : List α → α → List α
  | [], r => [r]
  | y :: l, r => if c r y < 0 then r :: y :: l else if c r y = 0 then r :: l else y :: put c l r
theorem mem_put {c : α → α → Int} : ∀ {l : List α} {r y : α}, y ∈ put c l r → y = r ∨ y ∈ l := by
  intro l
  induction l with
  | nil => intro r y h; simpa [put] using h
  | cons a l ih =>
    intro r y h
    rw [put] at h
    split at h
    · exact List.mem_cons.mp h
    · split at h
      · rcases List.mem_cons.mp h with h | h
        · exact .inl h
        · exact .inr (List.mem_cons_of_mem _ h)
      · rcases List.mem_cons.mp h with h | h
        · exact .inr (by rw [h]; exact List.mem_cons_self ..)
        · rcases ih h with h | h
          · exact .inl h
          · exact .inr (List.mem_cons_of_mem _ h)
theorem put_set {c : α → α → Int} (O : POrd c) : ∀ {l : List α} (_ : IsSet c l) (r : α), IsSet c (put c l r) := by
  intro l
  induction l with
  | nil => intro _ r; exact List.pairwise_singleton _ _
  | cons a l ih =>
    intro h r
    have h' := List.pairwise_cons.mp h
    rw [put]
    split
    · rename_i hlt
      refine List.pairwise_cons.mpr ⟨fun y hy => ?_, h⟩
      rcases List.mem_cons.mp hy with rfl | hy
      · exact hlt
      · exact O.trans _ _ _ hlt (h'.1 y hy)
    · split
      · rename_i _ h0
        refine List.pairwise_cons.mpr ⟨fun y hy => ?_, h'.2⟩
        exact O.lt_of_eq_of_lt h0 (h'.1 y hy)
      · rename_i h1 h2
        refine List.pairwise_cons.mpr ⟨fun y hy => ?_, ih h'.2 r⟩
        rcases mem_put hy with rfl | hy
        · have := O.flip y a; omega
        · exact h'.1 y hy
theorem put_cls {c : α → α → Int} (O : POrd c) : ∀ {l : List α} (_ : IsSet c l) (r x : α), cls c (put c l r) x = if c x r = 0 then [r] else cls c l x := by
  intro l
  induction l with
  | nil => intro _ r x; rw [put, cls_cons, cls_nil]
  | cons a l ih =>
    intro h r x
    have h' := List.pairwise_cons.mp h
    rw [put]
    split
    · rename_i hlt
      rw [cls_cons]
      split
      · rename_i h0
        rw [cls_congr O _ h0, cls_none fun y hy h1 => ?_]
        rcases List.mem_cons.mp hy with rfl | hy
        · omega
        · have := O.trans _ _ _ hlt (h'.1 y hy); omega
      · rfl
    · split
      · rename_i _ h0
        rw [cls_cons, cls_cons]
        split
        · rename_i hx
          rw [cls_congr O l hx, cls_congr O l h0, set_cls_cons O h]
        · rename_i hx
          rw [if_neg (fun e => hx (by rw [O.congr r a x h0]; exact e))]
      · rename_i h1 h2
        rw [cls_cons, ih h'.2, cls_cons]
        split
        · rename_i hx
          rw [if_neg (fun e => h2 (by rw [← O.cong x r a e]; exact hx)), if_neg (fun e => h2 (by rw [← O.cong x r a e]; exact hx))]
        · rfl
def drop (c : α → α → Int) (l : List α) (r : α) : List α := l.filter fun y => !decide (c r y = 0)
theorem drop_set {c : α → α → Int} {l : List α} (h : IsSet c l) (r : α) : IsSet c (drop c l r) := h.filter _
theorem drop_cls {c : α → α → Int} (O : POrd c) (l : List α) (r x : α) : cls c (drop c l r) x = if c x r = 0 then [] else cls c l x := by
  unfold drop
  split
  · rename_i h0
    refine cls_none fun y hy h1 => ?_
    have := (List.mem_filter.mp hy).2
    rw [O.cong x r y h0] at h1
    simp [h1] at this
  · rename_i h0
    unfold cls
    rw [List.filter_filter]
    congr 1
    funext y
    by_cases h1 : c x y = 0
    · have : ¬ c r y = 0 := fun h2 => h0 (by have h3 := O.congr y r x (O.symm h2); omega)
      simp [h1, this]
    · simp [h1]
def find (c : α → α → Int) (l : List α) (r : α) : Option α := (cls c l r).head?
theorem find_put {c : α → α → Int} (O : POrd c) {l : List α} (h : IsSet c l) (r x : α) : find c (put c l r) x = if c x r = 0 then some r else find c l x := by
  unfold find; rw [put_cls O h]; split <;> rfl
theorem find_drop {c : α → α → Int} (O : POrd c) (l : List α) (r x : α) : find c (drop c l r) x = if c x r = 0 then none else find c l x := by
  unfold find; rw [drop_cls O]; split <;> rfl
theorem find_mem {c : α → α → Int} {l : List α} {x y : α} (h : find c l x = some y) : y ∈ l ∧ c x y = 0 := by
  unfold find at h
  have : y ∈ cls c l x := List.mem_of_mem_head? h
  exact mem_cls.mp this
theorem find_of_mem {c : α → α → Int} (O : POrd c) {l : List α} (h : IsSet c l) {x y : α} (hy : y ∈ l) (h0 : c x y = 0) : find c l x = some y := by
  unfold find; rw [set_cls O h hy h0]; rfl
theorem find_none {c : α → α → Int} {l : List α} {x : α} : find c l x = none ↔ ∀ y ∈ l, ¬ c x y = 0 := by
  unfold find
  rw [List.head?_eq_none_iff]
  constructor
  · intro h y hy h0
    have : y ∈ cls c l x := mem_cls.mpr ⟨hy, h0⟩
    rw [h] at this; cases this
  · exact fun h => cls_none h
theorem find_unique {c : α → α → Int} (O : POrd c) {l m : List α} (hl : IsSet c l) (hm : IsSet c m) (h : ∀ x, find c l x = find c m x) : l = m := by
  refine set_unique O hl hm fun x => ?_
  have h1 := h x
  unfold find at h1
  rcases cls_set_cases O hl x with e | ⟨y, _, _, e⟩ <;> rcases cls_set_cases O hm x with e' | ⟨z, _, _, e'⟩ <;> rw [e, e'] at h1 ⊢ <;> simp at h1 ⊢ <;> exact h1
theorem drop_none {c : α → α → Int} {l : List α} {r : α} (h : find c l r = none) : drop c l r = l := by
  unfold drop
  rw [List.filter_eq_self]
  intro y hy
  have := find_none.mp h y hy
  simp [this]
theorem drop_drop {c : α → α → Int} (l : List α) (r : α) : drop c (drop c l r) r = drop c l r := by unfold drop; rw [List.filter_filter]; simp
theorem put_put {c : α → α → Int} (O : POrd c) {l : List α} (h : IsSet c l) (r : α) : put c (put c l r) r = put c l r :=
  find_unique O (put_set O (put_set O h r) r) (put_set O h r) fun x => by rw [find_put O (put_set O h r), find_put O h]; split <;> rfl
theorem put_same {c : α → α → Int} (O : POrd c) {l : List α} (h : IsSet c l) {r : α} (hr : r ∈ l) : put c l r = l :=
  find_unique O (put_set O h r) h fun x => by
    rw [find_put O h]
    split
    · rename_i h0; exact (find_of_mem O h hr h0).symm
    · rfl
theorem put_length {c : α → α → Int} (O : POrd c) : ∀ {l : List α} (_ : IsSet c l) (r : α), (put c l r).length = (drop c l r).length + 1 := by
  intro l
  induction l with
  | nil => intro _ r; rfl
  | cons a l ih =>
    intro h r
    have h' := List.pairwise_cons.mp h
    have hd : ∀ x, ¬ c x a = 0 → drop c (a :: l) x = a :: drop c l x := fun x hx => by unfold drop; rw [List.filter_cons]; simp [hx]
    rw [put]
    split
    · rename_i hlt
      have : drop c (a :: l) r = a :: l := drop_none (find_none.mpr fun y hy => by
        rcases List.mem_cons.mp hy with rfl | hy
        · omega
        · have := O.trans _ _ _ hlt (h'.1 y hy); omega)
      rw [this]; rfl
    · split
      · rename_i _ h0
        have : drop c (a :: l) r = l := by
          unfold drop
          rw [List.filter_cons]
          simp only [h0, decide_true, Bool.not_true, Bool.false_eq_true, if_false]
          have : ∀ y ∈ l, ¬ c r y = 0 := fun y hy => by have := O.lt_of_eq_of_lt h0 (h'.1 y hy); omega
          rw [List.filter_eq_self]; intro y hy; simp [this y hy]
        rw [this]; rfl
      · rename_i h1 h2
        rw [hd r h2, List.length_cons, List.length_cons, ih h'.2]
end Go.Proofs.Ytnpiglojamhpiaa.SetLaw
namespace Go.Proofs.Ytnpiglojamhpiaa.SetLaw
open Go.Proofs.Ytnpiglojamhpiaa.NameFacts
set_option linter.unusedVariables false
def thenC {α : Type} (c d : α → α → Int) (a b : α) : Int := if c a b = 0 then d a b else c a b
theorem POrd.thenC {α : Type} {c d : α → α → Int} (C : POrd c) (D : POrd d) : POrd (thenC c d) where
  vals a b := by
    unfold SetLaw.thenC; split
    · exact D.vals a b
    · exact C.vals a b
  flip a b := by
    have h := C.flip a b
    unfold SetLaw.thenC
    by_cases e : c a b = 0
    · rw [if_pos e, if_pos (by omega)]; exact D.flip a b
    · rw [if_neg e, if_neg (by omega)]; exact h
  cong a b e h := by
    unfold SetLaw.thenC at h ⊢
    by_cases e1 : c a b = 0
    · rw [if_pos e1] at h
      rw [C.cong a b e e1, D.cong a b e h]
    · rw [if_neg e1] at h; exact absurd h e1
  trans a b e h1 h2 := by
    unfold SetLaw.thenC at h1 h2 ⊢
    by_cases e1 : c a b = 0
    · rw [if_pos e1] at h1
      by_cases e2 : c b e = 0
      · rw [if_pos e2] at h2
        rw [if_pos (by rw [C.cong a b e e1]; exact e2)]
        exact D.trans a b e h1 h2
      · rw [if_neg e2] at h2
        have : c a e < 0 := C.lt_of_eq_of_lt e1 h2
        rw [if_neg (by omega)]; exact this
    · rw [if_neg e1] at h1
      by_cases e2 : c b e = 0
      · have : c a e < 0 := C.lt_of_lt_of_eq h1 e2
        rw [if_neg (by omega)]; exact this
      · rw [if_neg e2] at h2
        have := C.trans a b e h1 h2
        rw [if_neg (by omega)]; exact this
theorem POrd.pull {α β : Type} {c : β → β → Int} (O : Ord c) (f : α → β) : POrd (fun a b => c (f a) (f b)) where
  vals a b := O.vals _ _
  flip a b := O.flip _ _
  cong a b d h := by rw [O.zero _ _ h]
  trans a b d h1 h2 := O.trans _ _ _ h1 h2
def cmpI (a b : Int) : Int := if a < b then -1 else if a > b then 1 else 0
theorem cmpI_ord : Ord cmpI where
  vals a b := by unfold cmpI; repeat' split
                 all_goals omega
  flip a b := by unfold cmpI; repeat' split
                 all_goals omega
  zero a b h := by unfold cmpI at h; revert h; repeat' split
                   all_goals (intro h; omega)
  self a := by unfold cmpI; rw [if_neg (by omega), if_neg (by omega)]
  trans a b d h1 h2 := by
    unfold cmpI at h1 h2 ⊢
    have e1 : a < b := by by_cases h : a < b; exact h; rw [if_neg h] at h1; split at h1 <;> omega
    have e2 : b < d := by by_cases h : b < d; exact h; rw [if_neg h] at h2; split at h2 <;> omega
    rw [if_pos (by omega)]; omega
end Go.Proofs.Ytnpiglojamhpiaa.SetLaw
namespace Go.Proofs.Ytnpiglojamhpiaa.PackFacts
open Go.RowKit Go.Proofs.Ytnpiglojamhpiaa.PRd Go.Proofs.YtnpiglojamhpiaaW.PrintWords Go.Proofs.YtnpiglojamhpiaaW.PrintLast Go.Proofs.YtnpiglojamhpiaaW.PrintMore Go.Proofs.Ytnpiglojamhpiaa.Given Go.Proofs.Ytnpiglojamhpiaa.Oct Go.Proofs.Ytnpiglojamhpiaa.Name Go.Proofs.Ytnpiglojamhpiaa.NameFacts
set_option linter.unusedVariables false
set_option linter.unusedSimpArgs false
theorem right_size {n : ByteArray} (h : rightB n = true) : n.size ≤ 255 := by
  unfold rightB at h
  exact of_decide_eq_true (Bool.and_eq_true_iff.mp h).1
set_option linter.unusedVariables false
set_option linter.unusedSimpArgs false
def by8 (m : ByteArray) (i : Nat) : Nat := (m.data.toList.getD i 0).toNat
theorem by8_lt (m : ByteArray) (i : Nat) : by8 m i < 256 := UInt8.toNat_lt _
theorem by8_get {m : ByteArray} {i : Nat} (h : i < m.size) : (m.data.toList[i]'(by rw [size_list]; exact h)).toNat = by8 m i := by
  unfold by8; rw [List.getD_eq_getElem?_getD, List.getElem?_eq_getElem (by rw [size_list]; exact h)]; rfl
theorem bt_by8 {m : ByteArray} {i : Nat} (h : i < m.size) : bt m (i : Int) = (by8 m i : Int) := by rw [bt_list m i h, by8_get h]
inductive Pc where
  | lab (c : Nat)
  | ptr (t : Nat)
def pc (m : ByteArray) (i : Nat) : Option Pc :=
  if i < m.size then
    if 192 ≤ by8 m i then (if i + 1 < m.size then some (.ptr ((by8 m i - 192) * 256 + by8 m (i + 1))) else none)
    else if 64 ≤ by8 m i then none
    else if i + 1 + by8 m i ≤ m.size then some (.lab (by8 m i)) else none
  else none
theorem beN_two {m : ByteArray} {i : Nat} (h : i + 1 < m.size) : beN ((m.extract i m.size).data.toList.take 2) = by8 m i * 256 + by8 m (i + 1) := by
  rw [first_list (by omega), List.drop_eq_getElem_cons (by rw [size_list]; exact h)]
  have h1 := by8_get (m := m) (i := i) (by omega)
  have h2 := by8_get (m := m) (i := i + 1) h
  rw [← h1, ← h2]
  simp [beN]
theorem split_two (m : ByteArray) (i : Nat) (hi : i ≤ m.size) (hs : m.size ≤ 1000000) : octets_Split.f (m.extract i m.size) [2] =
    if i + 1 < m.size then some ([((by8 m i * 256 + by8 m (i + 1) : Nat) : Int)], m.extract (i + 2) m.size, 0) else some ([], ⟨#[]⟩, 2) := by
  unfold octets_Split.f
  rw [if_pos ⟨by rw [drop_size]; omega, by decide⟩, if_pos (by decide +kernel)]
  by_cases h : i + 1 < m.size
  · rw [if_pos h]
    have e : splitL (m.extract i m.size) [2] [] = some ([((by8 m i * 256 + by8 m (i + 1) : Nat) : Int)], m.extract (i + 2) m.size) := by
      rw [splitL, if_pos (by rw [drop_size]; show 2 ≤ m.size - i; omega), splitL]
      have e2 : (2 : Int).toNat = 2 := rfl
      rw [e2, beN_two h, drop_size, (ext_ext m i 2 hi (by omega)).2]; rfl
    rw [e]
  · rw [if_neg h]
    have e : splitL (m.extract i m.size) [2] [] = none := by
      rw [splitL, if_neg (by rw [drop_size]; show ¬ 2 ≤ m.size - i; omega)]
    rw [e]
def atR (m : ByteArray) (i : Nat) : ByteArray × Int × Int × Bool :=
  match pc m i with
  | none => (⟨#[]⟩, 0, 0, false)
  | some (.lab c) => (m.extract i (i + 1 + c), -1, ((i + 1 + c : Nat) : Int), true)
  | some (.ptr t) => (⟨#[]⟩, (t : Int), ((i + 2 : Nat) : Int), true)
theorem at_split (m : ByteArray) (i k : Nat) (hi : i ≤ m.size) (hs : m.size ≤ 1000000) (x : ByteArray) (hc : ¬ (i < m.size ∧ by8 m i < 64 ∧ i + 1 + by8 m i ≤ m.size)) : pack_at.j0 (k + 1) m (i : Int) x false = some (atR m i) := by
  rw [pack_at.j0, if_neg (by decide), if_pos (by omega), if_pos (by omega)]
  show ((octets_Split.f (m.extract i m.size) [2]).bind _) = _
  rw [split_two m i hi hs]
  have hb := by8_lt m i
  have hb1 := by8_lt m (i + 1)
  by_cases h : i + 1 < m.size
  · rw [if_pos h, Option.bind_some]
    show (if (0 : Int) = 0 then _ else _) = _
    rw [if_pos rfl]
    show (if (0 : Int) < ((1 : Nat) : Int) then _ else _) = _
    rw [if_pos (by decide)]
    show (if ((by8 m i * 256 + by8 m (i + 1) : Nat) : Int) < 49152 then _ else some (_, wrap64 (IntKind.u64.wrap (((by8 m i * 256 + by8 m (i + 1) : Nat) : Int) - 49152)), _, _)) = _
    unfold atR pc
    rw [if_pos (by omega : i < m.size)]
    by_cases hp : 192 ≤ by8 m i
    · rw [if_neg (by omega), if_pos hp, if_pos h]
      simp only []
      have e1 : ((by8 m i * 256 + by8 m (i + 1) : Nat) : Int) - 49152 = (((by8 m i - 192) * 256 + by8 m (i + 1) : Nat) : Int) := by omega
      have e2 : (((by8 m i - 192) * 256 + by8 m (i + 1) : Nat) : Int) % 2 ^ 64 = (((by8 m i - 192) * 256 + by8 m (i + 1) : Nat) : Int) := by omega
      have e3 : IntKind.u64.wrap (((by8 m i - 192) * 256 + by8 m (i + 1) : Nat) : Int) = (((by8 m i - 192) * 256 + by8 m (i + 1) : Nat) : Int) := by
        simp only [IntKind.wrap, IntKind.bits, IntKind.signed, e2]; rw [if_neg (by simp)]
      rw [e1, e3, w64_id (by omega) (by omega), w64_id (by omega) (by omega)]
      rfl
    · rw [if_pos (by omega), if_neg hp]
      by_cases h64 : 64 ≤ by8 m i
      · rw [if_pos h64]
      · rw [if_neg h64, if_neg (by omega)]
  · rw [if_neg h, Option.bind_some]
    show (if (2 : Int) = 0 then _ else _) = _
    rw [if_neg (by decide)]
    unfold atR pc
    by_cases hlt : i < m.size
    · rw [if_pos hlt]
      by_cases hp : 192 ≤ by8 m i
      · rw [if_pos hp, if_neg h]
      · rw [if_neg hp]
        by_cases h64 : 64 ≤ by8 m i
        · rw [if_pos h64]
        · rw [if_neg h64, if_neg (by omega)]
    · rw [if_neg hlt]
theorem at_f (m : ByteArray) (i k : Nat) (hi : i ≤ m.size) (hs : m.size ≤ 1000000) : pack_at.f (k + 1) m (i : Int) = some (atR m i) := by
  unfold pack_at.f
  rw [if_pos (by omega), if_pos (by omega)]
  show ((octets_Cut.f (m.extract i m.size) 1).bind _) = _
  have hsz : (m.extract i m.size).size = m.size - i := drop_size m i
  by_cases hlt : i < m.size
  · have hcut := cut_first hlt
    rw [by8_get hlt] at hcut
    by_cases hfit : by8 m i ≤ m.size - i - 1
    · rw [if_pos hfit] at hcut
      rw [cut_some (by omega) hcut, Option.bind_some]
      show (if (0 : Int) = 0 then _ else _) = _
      rw [if_pos rfl]
      have hs1 : (m.extract (i + 1) (i + 1 + by8 m i)).size = by8 m i := by rw [ByteArray.size_extract]; omega
      show pack_at.j0 (k + 1) m (i : Int) (m.extract (i + 1 + by8 m i) m.size) (decide (((m.extract (i + 1) (i + 1 + by8 m i)).size : Int) ≤ 63)) = _
      rw [hs1]
      by_cases h64 : by8 m i < 64
      · rw [decide_eq_true (by omega), pack_at.j0, if_pos rfl, drop_size]
        have e1 : wrap64 ((m.size : Int) - ((m.size - (i + 1 + by8 m i) : Nat) : Int)) = ((i + 1 + by8 m i : Nat) : Int) := by rw [w64_id (by omega) (by omega)]; omega
        rw [e1, if_pos (by omega), if_pos (by omega), if_pos (by omega)]
        unfold atR pc
        rw [if_pos hlt, if_neg (by omega), if_neg (by omega), if_pos (by omega)]
        rfl
      · rw [decide_eq_false (by omega)]
        exact at_split m i k hi hs _ (by omega)
    · rw [if_neg hfit] at hcut
      rw [cut_none (by omega) hcut, Option.bind_some]
      show (if (2 : Int) = 0 then _ else _) = _
      rw [if_neg (by decide)]
      exact at_split m i k hi hs _ (by omega)
  · have hcut : cutOf (m.extract i m.size) 1 = none := by unfold cutOf; rw [if_neg (by omega)]
    rw [cut_none (by omega) hcut, Option.bind_some]
    show (if (2 : Int) = 0 then _ else _) = _
    rw [if_neg (by decide)]
    exact at_split m i k hi hs _ (by omega)
set_option linter.unusedVariables false
set_option linter.unusedSimpArgs false
def err : ByteArray × Int × Int := (⟨#[]⟩, 0, 2)
def nxt (nx : Int) (i : Nat) : Int := if nx < 0 then (i : Int) else nx
def readS (m : ByteArray) : Nat → Nat → ByteArray → Int → Nat → ByteArray × Int × Int
  | 0, _, _, _, _ => err
  | d + 1, i, n, nx, fr =>
    match pc m i with
    | none => err
    | some (.ptr t) => if fr ≤ t then err else readS m d t n (nxt nx (i + 2)) t
    | some (.lab c) => if c = 0 then (if rightB (n ++ rootB) = true then (n ++ rootB, nxt nx (i + 1), 0) else err) else readS m d (i + 1 + c) (n ++ m.extract i (i + 1 + c)) nx fr
def mu (m : ByteArray) (i fr : Nat) : Nat := fr * (m.size + 1) + (m.size - i)
theorem mu_ptr {m : ByteArray} {i fr t : Nat} (h : t < fr) : mu m t t < mu m i fr := by
  unfold mu
  obtain ⟨j, rfl⟩ : ∃ j, fr = t + 1 + j := ⟨fr - t - 1, by omega⟩
  have h1 : (t + 1 + j) * (m.size + 1) = t * (m.size + 1) + (m.size + 1) + j * (m.size + 1) := by rw [Nat.add_mul, Nat.add_mul, Nat.one_mul]
  have h2 : 0 ≤ j * (m.size + 1) := Nat.zero_le _
  omega
theorem pc_lab {m : ByteArray} {i c : Nat} (h : pc m i = some (.lab c)) : i < m.size ∧ c = by8 m i ∧ c < 64 ∧ i + 1 + c ≤ m.size := by
  unfold pc at h
  by_cases h1 : i < m.size
  · rw [if_pos h1] at h
    by_cases h2 : 192 ≤ by8 m i
    · rw [if_pos h2] at h
      by_cases h3 : i + 1 < m.size
      · rw [if_pos h3] at h; cases h
      · rw [if_neg h3] at h; cases h
    · rw [if_neg h2] at h
      by_cases h3 : 64 ≤ by8 m i
      · rw [if_pos h3] at h; cases h
      · rw [if_neg h3] at h
        by_cases h4 : i + 1 + by8 m i ≤ m.size
        · rw [if_pos h4] at h
          cases h
          exact ⟨h1, rfl, by omega, h4⟩
        · rw [if_neg h4] at h; cases h
  · rw [if_neg h1] at h; cases h
theorem pc_ptr {m : ByteArray} {i t : Nat} (h : pc m i = some (.ptr t)) : i + 1 < m.size ∧ 192 ≤ by8 m i ∧ t = (by8 m i - 192) * 256 + by8 m (i + 1) ∧ t < 16384 := by
  unfold pc at h
  by_cases h1 : i < m.size
  · rw [if_pos h1] at h
    by_cases h2 : 192 ≤ by8 m i
    · rw [if_pos h2] at h
      by_cases h3 : i + 1 < m.size
      · rw [if_pos h3] at h
        have hb := by8_lt m i
        have hb1 := by8_lt m (i + 1)
        cases h
        exact ⟨h3, h2, rfl, by omega⟩
      · rw [if_neg h3] at h; cases h
    · rw [if_neg h2] at h
      by_cases h3 : 64 ≤ by8 m i
      · rw [if_pos h3] at h; cases h
      · rw [if_neg h3] at h
        by_cases h4 : i + 1 + by8 m i ≤ m.size
        · rw [if_pos h4] at h; cases h
        · rw [if_neg h4] at h; cases h
  · rw [if_neg h1] at h; cases h
theorem mu_lab {m : ByteArray} {i fr c : Nat} (h : i < m.size) : mu m (i + 1 + c) fr < mu m i fr := by unfold mu; omega
theorem long_wrong {n : ByteArray} (h : 255 < n.size) : rightB n = false := by
  cases hr : rightB n with
  | false => rfl
  | true => have := right_size hr; omega
theorem readS_long (m : ByteArray) : ∀ (d i : Nat) (n : ByteArray) (nx : Int) (fr : Nat), 255 < n.size → readS m d i n nx fr = err := by
  intro d
  induction d with
  | zero => intros; rfl
  | succ d ih =>
    intro i n nx fr hn
    rw [readS]
    cases hp : pc m i with
    | none => rfl
    | some p =>
      cases p with
      | ptr t =>
        simp only []
        by_cases hf : fr ≤ t
        · rw [if_pos hf]
        · rw [if_neg hf]; exact ih _ _ _ _ hn
      | lab c =>
        simp only []
        by_cases h0 : c = 0
        · rw [if_pos h0, long_wrong (by rw [ByteArray.size_append]; omega), if_neg (by decide)]
        · rw [if_neg h0]; exact ih _ _ _ _ (by rw [ByteArray.size_append]; omega)
theorem lab_root {m : ByteArray} {i : Nat} (h : i < m.size) (h0 : by8 m i = 0) : m.extract i (i + 1) = rootB := by
  apply list_inj
  rw [mid_list, List.drop_eq_getElem_cons (by rw [size_list]; exact h)]
  have := by8_get h
  rw [h0] at this
  have h1 : m.data.toList[i]'(by rw [size_list]; exact h) = 0 := UInt8.toNat_inj.mp (by rw [this]; rfl)
  rw [h1]; rfl
theorem lab_not {m : ByteArray} {i c : Nat} (h : i < m.size) (hc : c = by8 m i) (h0 : ¬ c = 0) : ¬ (m.extract i (i + 1 + c)).toList = [0] := by
  intro e
  rw [ByteArray.toList_eq, show i + 1 + c = i + (1 + c) from by omega, mid_list, List.drop_eq_getElem_cons (by rw [size_list]; exact h), Nat.add_comm 1 c, List.take_succ_cons] at e
  have h1 := (List.cons.inj e).1
  have := by8_get h
  rw [h1] at this
  apply h0; rw [hc, ← this]; rfl
theorem lab_size {m : ByteArray} {i c : Nat} (h : i + 1 + c ≤ m.size) : (m.extract i (i + 1 + c)).size = 1 + c := by rw [ByteArray.size_extract]; omega
theorem lab_more {m n : ByteArray} {i c : Nat} (h : i + 1 + c ≤ m.size) (hc : c < 64) (hn : n.size < 300) : (n ++ m.extract i (i + 1 + c)).size ≤ 1000000 := by rw [ByteArray.size_append, lab_size h]; omega
theorem pj3 (k : Nat) (i : Nat) (n : ByteArray) (nx : Int) : pack_Read.j3 (k + 1) (i : Int) n nx = some (if rightB n = true then (n, nxt nx i, 0) else err) := by
  rw [pack_Read.j3]
  show (if rightB n = true then _ else _) = _
  unfold nxt
  by_cases hr : rightB n = true
  · rw [if_pos hr, if_pos hr]
    by_cases hx : nx < 0
    · rw [if_pos hx, if_pos hx]
    · rw [if_neg hx, if_neg hx]
  · rw [if_neg hr, if_neg hr]; rfl
theorem pread (m : ByteArray) (hs : m.size ≤ 1000000) : ∀ (d i k : Nat) (n : ByteArray) (nx : Int) (fr : Nat), i ≤ m.size → fr ≤ m.size → mu m i fr < d → 3 * d + 10 ≤ k → pack_Read.l0 k m (i : Int) n nx (fr : Int) = some (readS m d i n nx fr) := by
  intro d
  induction d with
  | zero => intro i k n nx fr _ _ h; omega
  | succ d ih =>
    intro i k n nx fr hi hfr hmu hk
    obtain ⟨k, rfl⟩ : ∃ j, k = j + 4 := ⟨k - 4, by omega⟩
    rw [pack_Read.l0]
    by_cases hn : (n.size : Int) ≤ 255
    · rw [if_pos hn, at_f m i (k + 2) hi hs, Option.bind_some]
      unfold atR
      rw [readS]
      cases hp : pc m i with
      | none =>
        simp only []
        rw [if_neg (by decide), pack_Read.j2, if_pos rfl]; rfl
      | some p =>
        cases p with
        | ptr t =>
          simp only []
          rw [if_pos trivial]
          have hpp := pc_ptr hp
          by_cases hf : fr ≤ t
          · rw [decide_eq_true (by omega), pack_Read.j2, if_pos rfl, if_pos hf]; rfl
          · have hm := mu_ptr (m := m) (i := i) (show t < fr by omega)
            rw [decide_eq_false (by omega), pack_Read.j2, if_neg (by decide), if_pos (by omega), if_neg hf]
            unfold nxt
            by_cases hx : nx < 0
            · rw [if_pos hx, if_pos hx]
              exact ih t (k + 2) n _ t (by omega) (by omega) (by omega) (by omega)
            · rw [if_neg hx, if_neg hx]
              exact ih t (k + 2) n _ t (by omega) (by omega) (by omega) (by omega)
        | lab c =>
          simp only []
          have hl := pc_lab hp
          have hm := mu_lab (fr := fr) (c := c) hl.1
          rw [if_pos trivial, decide_eq_false (by omega), pack_Read.j2, if_neg (by decide), if_neg (by decide), if_pos (by rw [ByteArray.size_extract]; omega)]
          by_cases h0 : c = 0
          · subst h0
            rw [lab_root hl.1 hl.2.1.symm, if_pos (by decide +kernel), if_pos rfl]
            have := pj3 (k + 1) (i + 1 + 0) (n ++ rootB) nx
            exact this
          · rw [if_neg (lab_not hl.1 hl.2.1 h0), if_neg h0]
            exact ih _ _ _ _ _ (by omega) hfr (by omega) (by omega)
    · rw [if_neg hn, readS_long m (d + 1) i n nx fr (by omega)]
      have := pj3 (k + 2) i n nx
      rw [long_wrong (by omega), if_neg (by decide)] at this
      exact this
set_option maxHeartbeats 2000000 in
theorem rread (m : ByteArray) (hs : m.size ≤ 1000000) : ∀ (d i k : Nat) (n : ByteArray) (nx : Int) (fr : Nat), i ≤ m.size → fr ≤ m.size → n.size ≤ 1000000 → mu m i fr < d → 3 * d + 1000 ≤ k → beadrollref09_Read.l0 k m (i : Int) n nx (fr : Int) = some (readS m d i n nx fr) := by
  intro d
  induction d with
  | zero => intro i k n nx fr _ _ _ h; omega
  | succ d ih =>
    intro i k n nx fr hi hfr hns hmu hk
    obtain ⟨k, rfl⟩ : ∃ j, k = j + 4 := ⟨k - 4, by omega⟩
    by_cases hn : n.size < 300
    · by_cases hlt : i < m.size
      · rw [beadrollref09_Read.l0, if_pos (by omega), decide_eq_true (by omega), beadrollref09_Read.j2, if_pos rfl, if_pos (by omega), if_pos (by omega), bt_by8 hlt]
        have hb := by8_lt m i
        have hb1 := by8_lt m (i + 1)
        rw [readS]
        unfold pc
        rw [if_pos hlt, w64_id (x := (by8 m i : Int)) (by omega) (by omega)]
        by_cases h0 : by8 m i = 0
        · rw [if_pos (show (by8 m i : Int) = 0 by omega), if_pos (show n.size + 1 ≤ 9223372036854775807 by omega), if_neg (show ¬ 192 ≤ by8 m i by omega), if_neg (show ¬ 64 ≤ by8 m i by omega), if_pos (show i + 1 + by8 m i ≤ m.size by omega)]
          simp only []
          rw [if_pos h0, rright_f _ _ (by omega), w64_id (x := (i : Int) + 1) (by omega) (by omega)]
          unfold nxt
          have fin : ∀ x : Int, ((some (rightB (n ++ rootB))).bind fun t => if t = true then some (n ++ rootB, x, (0 : Int)) else some (⟨#[]⟩, 0, 2)) = some (if rightB (n ++ rootB) = true then (n ++ rootB, x, 0) else err) := by
            intro x
            rw [Option.bind_some]
            by_cases hr : rightB (n ++ rootB) = true
            · rw [if_pos hr, if_pos hr]
            · rw [if_neg hr, if_neg hr]; rfl
          by_cases hx : nx < 0
          · rw [if_pos hx, if_pos hx]; exact fin _
          · rw [if_neg hx, if_neg hx]; exact fin _
        · rw [if_neg (by omega)]
          by_cases hp : 192 ≤ by8 m i
          · rw [if_pos (by omega), if_pos hp, w64_id (x := (i : Int) + 1) (by omega) (by omega)]
            by_cases h1 : i + 1 < m.size
            · rw [if_neg (by omega), if_pos (by omega), if_pos (by omega), if_pos h1, show ((i : Int) + 1) = ((i + 1 : Nat) : Int) from rfl, bt_by8 h1]
              have e1 : wrap64 ((wrap64 ((wrap64 ((by8 m i : Int) - 192)) * 256)) + (wrap64 (by8 m (i + 1) : Int))) = (((by8 m i - 192) * 256 + by8 m (i + 1) : Nat) : Int) := by
                rw [w64_id (x := (by8 m i : Int) - 192) (by omega) (by omega), w64_id (x := ((by8 m i : Int) - 192) * 256) (by omega) (by omega), w64_id (x := (by8 m (i + 1) : Int)) (by omega) (by omega), w64_id (by omega) (by omega)]
                omega
              rw [e1]
              simp only []
              generalize (by8 m i - 192) * 256 + by8 m (i + 1) = t
              by_cases hf : fr ≤ t
              · rw [if_pos (by omega), if_pos hf]; rfl
              · have hm := mu_ptr (m := m) (i := i) (show t < fr by omega)
                rw [if_neg (by omega), if_neg hf, w64_id (by omega) (by omega)]
                unfold nxt
                by_cases hx : nx < 0
                · rw [if_pos hx, if_pos hx]
                  exact ih t (k + 2) n _ t (by omega) (by omega) hns (by omega) (by omega)
                · rw [if_neg hx, if_neg hx]
                  exact ih t (k + 2) n _ t (by omega) (by omega) hns (by omega) (by omega)
            · rw [if_pos (by omega), if_neg h1]; rfl
          · rw [if_neg (by omega), if_neg hp]
            by_cases h64 : 64 ≤ by8 m i
            · rw [if_pos (by omega), if_pos h64]; rfl
            · rw [if_neg (by omega), if_neg h64, w64_id (x := (i : Int) + 1) (by omega) (by omega), w64_id (x := (i : Int) + 1 + (by8 m i : Int)) (by omega) (by omega)]
              by_cases hfit : i + 1 + by8 m i ≤ m.size
              · have hm := mu_lab (fr := fr) (c := by8 m i) hlt
                rw [if_neg (by omega), if_pos (by omega), if_pos (by omega), if_pos hfit]
                simp only []
                have e2 : ((i : Int) + 1 + (by8 m i : Int)).toNat = i + 1 + by8 m i := by omega
                have e3 : wrap64 ((i : Int) + wrap64 (1 + (by8 m i : Int))) = ((i + 1 + by8 m i : Nat) : Int) := by rw [w64_id (x := 1 + (by8 m i : Int)) (by omega) (by omega), w64_id (by omega) (by omega)]; omega
                have hes : (m.extract i (i + 1 + by8 m i)).size = 1 + by8 m i := lab_size hfit
                have hns2 : (n ++ m.extract i (i + 1 + by8 m i)).size ≤ 1000000 := lab_more hfit (by omega) hn
                have hmd : mu m (i + 1 + by8 m i) fr < d := by omega
                rw [if_neg h0, Int.toNat_natCast, e2, e3]
                have hle : n.size + (m.extract i (i + 1 + by8 m i)).size ≤ 9223372036854775807 := by omega
                rw [if_pos hle]
                exact ih (i + 1 + by8 m i) (k + 2) (n ++ m.extract i (i + 1 + by8 m i)) nx fr hfit hfr hns2 hmd (by omega)
              · rw [if_pos (by omega), if_neg hfit]; rfl
      · rw [beadrollref09_Read.l0, if_neg (by omega), beadrollref09_Read.j2, if_neg (by decide), readS]
        unfold pc
        rw [if_neg hlt]; rfl
    · rw [readS_long m (d + 1) i n nx fr (by omega), beadrollref09_Read.l0]
      by_cases hlt : i < m.size
      · rw [if_pos (by omega), decide_eq_false (by omega), beadrollref09_Read.j2, if_neg (by decide)]; rfl
      · rw [if_neg (by omega), beadrollref09_Read.j2, if_neg (by decide)]; rfl
def readR (m : ByteArray) (i : Nat) : ByteArray × Int × Int := readS m (mu m i i + 1) i ⟨#[]⟩ (-1) i
def fuel (m : ByteArray) : Nat := 3 * (m.size * (m.size + 1) + m.size + 1) + 1003
theorem mu_fuel {m : ByteArray} {i : Nat} (h : i ≤ m.size) : mu m i i ≤ m.size * (m.size + 1) + m.size := by
  unfold mu
  have := Nat.mul_le_mul_right (m.size + 1) h
  omega
theorem pread_f (m : ByteArray) (hs : m.size ≤ 1000000) (i k : Nat) (hi : i ≤ m.size) (hk : fuel m ≤ k) : pack_Read.f k m (i : Int) = some (readR m i) := by
  have := mu_fuel hi
  unfold fuel at hk
  obtain ⟨k, rfl⟩ : ∃ j, k = j + 1 := ⟨k - 1, by omega⟩
  unfold pack_Read.f
  rw [if_neg (by omega), decide_eq_false (by omega), pack_Read.j0, if_neg (by decide)]
  exact pread m hs _ i k _ _ i hi hi (Nat.lt_succ_self _) (by omega)
theorem rread_f (m : ByteArray) (hs : m.size ≤ 1000000) (i k : Nat) (hi : i ≤ m.size) (hk : fuel m ≤ k) : beadrollref09_Read.f k m (i : Int) = some (readR m i) := by
  have := mu_fuel hi
  unfold fuel at hk
  obtain ⟨k, rfl⟩ : ∃ j, k = j + 1 := ⟨k - 1, by omega⟩
  unfold beadrollref09_Read.f
  rw [if_neg (by omega), decide_eq_false (by omega), beadrollref09_Read.j0, if_neg (by decide)]
  exact rread m hs _ i k _ _ i hi hi (by decide) (Nat.lt_succ_self _) (by omega)
end Go.Proofs.Ytnpiglojamhpiaa.PackFacts
namespace Go.Proofs.Ytnpiglojamhpiaa.OctFacts
open Go.RowKit Go.Proofs.Ytnpiglojamhpiaa.PRd Go.Proofs.YtnpiglojamhpiaaW.PrintWords Go.Proofs.YtnpiglojamhpiaaW.PrintLast Go.Proofs.YtnpiglojamhpiaaW.PrintMore Go.Proofs.Ytnpiglojamhpiaa.Given Go.Proofs.Ytnpiglojamhpiaa.Oct
set_option linter.unusedVariables false
set_option linter.unusedSimpArgs false
theorem u64_id {x : Int} (h0 : 0 ≤ x) (h1 : x < 18446744073709551616) : IntKind.u64.wrap x = x := by
  simp only [IntKind.wrap, IntKind.bits, IntKind.signed]; simp; omega
theorem w64_id {x : Int} (h0 : -9223372036854775808 ≤ x) (h1 : x ≤ 9223372036854775807) : wrap64 x = x := by unfold wrap64; omega
theorem rdo_at (l : List ByteArray) (i : Nat) (h : i < l.length) : rdOf ByteArray.empty l (i : Int) = l[i] := by
  unfold rdOf; rw [Int.toNat_natCast, List.getD_eq_getElem?_getD, List.getElem?_eq_getElem h]; rfl
theorem bt_list (b : ByteArray) (i : Nat) (h : i < b.size) : bt b (i : Int) = ((b.data.toList[i]'(by rw [size_list]; exact h)).toNat : Int) := by
  unfold bt
  rw [Int.toNat_natCast, dif_pos h]; rfl
theorem number_at (b : ByteArray) (hb : b.size ≤ 8) : ∀ (d i k : Nat), i + d = b.size → d < k → beadrollref01_Number.l0 k b (beN (b.data.toList.take i) : Int) (i : Int) = some (beN b.data.toList : Int) := by
  intro d
  induction d with
  | zero =>
    intro i k hi hk
    obtain ⟨k, rfl⟩ : ∃ j, k = j + 1 := ⟨k - 1, by omega⟩
    rw [beadrollref01_Number.l0, if_neg (by omega), List.take_of_length_le (by rw [size_list]; omega)]
  | succ d ih =>
    intro i k hi hk
    obtain ⟨k, rfl⟩ : ∃ j, k = j + 1 := ⟨k - 1, by omega⟩
    rw [beadrollref01_Number.l0, if_pos (by omega), if_pos (by omega), bt_list b i (by omega)]
    have h1 : i < b.data.toList.length := by rw [size_list]; omega
    have h2 : beN (b.data.toList.take (i + 1)) = beN (b.data.toList.take i) * 256 + (b.data.toList[i]).toNat := by
      rw [List.take_succ_eq_append_getElem h1, beN_snoc]
    have h3 := beN_lt (b.data.toList.take i)
    rw [List.length_take, Nat.min_eq_left (by omega)] at h3
    have h4 : (256 : Nat) ^ i ≤ 256 ^ 7 := Nat.pow_le_pow_right (by omega) (by omega)
    have h5 := UInt8.toNat_lt (b.data.toList[i])
    rw [u64_id (x := (beN (b.data.toList.take i) : Int) * 256) (by omega) (by omega), u64_id (x := ((b.data.toList[i]).toNat : Int)) (by omega) (by omega), u64_id (by omega) (by omega), w64_id (by omega) (by omega)]
    have := ih (i + 1) k (by omega) (by omega)
    rw [h2] at this
    rw [← this]
    congr 1
theorem number_f (b : ByteArray) (hb : b.size ≤ 8) (k : Nat) (hk : 9 ≤ k) : beadrollref01_Number.f k b = some (beN b.data.toList : Int) :=
  number_at b hb b.size 0 k (by omega) (by omega)
theorem width_iff (n : Int) : isWidth n = true ↔ n = 1 ∨ n = 2 ∨ n = 4 ∨ n = 8 := by unfold isWidth; exact decide_eq_true_iff
theorem rwidth_f (n : Int) : beadrollref01_Width.f n = some (isWidth n) := by
  unfold beadrollref01_Width.f isWidth
  by_cases h1 : n = 1
  · simp [h1]
  · by_cases h2 : n = 2
    · simp [h2]
    · by_cases h4 : n = 4
      · simp [h4]
      · simp [h1, h2, h4]
        by_cases h8 : n = 8 <;> simp [h8]
theorem pow_fit {n : Nat} (h : n ≤ 8) : 256 ^ n ≤ 18446744073709551616 := by
  have : (256 : Nat) ^ n ≤ 256 ^ 8 := Nat.pow_le_pow_right (by omega) h
  omega
theorem is_piece (n : Int) : (isWidth n = true ∧ ¬ (n = 8)) ↔ (n = 1 ∨ n = 2 ∨ n = 4) := by rw [width_iff]; omega
def cutR (b : ByteArray) (n : Int) : ByteArray × ByteArray × Int :=
  if n = 1 ∨ n = 2 ∨ n = 4 then
    match cutOf b n.toNat with
    | some (s, r) => (s, r, 0)
    | none => (⟨#[]⟩, ⟨#[]⟩, 2)
  else (⟨#[]⟩, ⟨#[]⟩, 1)
theorem rcut_f (b : ByteArray) (n : Int) (k : Nat) (hb : b.size ≤ 100000000) (hk : 20 ≤ k) : beadrollref01_Cut.f k b n = some (cutR b n) := by
  obtain ⟨k, rfl⟩ : ∃ j, k = j + 1 := ⟨k - 1, by omega⟩
  unfold beadrollref01_Cut.f cutR
  rw [rwidth_f, Option.bind_some]
  by_cases h : n = 1 ∨ n = 2 ∨ n = 4
  · have hw := (is_piece n).mpr h
    rw [if_pos hw.1, if_pos h, beadrollref01_Cut.j0, if_neg (by simp [hw.2])]
    obtain ⟨m, rfl⟩ := Int.eq_ofNat_of_zero_le (show 0 ≤ n by omega)
    rw [Int.toNat_natCast]
    by_cases hm : m ≤ b.size
    · have h1 := beN_lt (b.data.toList.take m)
      rw [take_size b m hm] at h1
      have h2 := pow_fit (n := m) (by omega)
      rw [if_neg (by omega), if_pos (by omega), if_pos (by omega), number_f _ (by rw [ext_size _ _ hm]; omega) k (by omega), ext_list, Option.bind_some, w64_id (x := (b.size : Int) - (m : Int)) (by omega) (by omega), u64_id (by omega) (by omega), cutOf, if_pos hm]
      by_cases hc : beN (b.data.toList.take m) ≤ b.size - m
      · rw [if_neg (by omega), if_pos hc, w64_id (x := (beN (b.data.toList.take m) : Int)) (by omega) (by omega), w64_id (by omega) (by omega), if_pos (by omega), if_pos (by omega), if_pos (by omega)]
        rw [show ((m : Int) + (beN (b.data.toList.take m) : Int)).toNat = m + beN (b.data.toList.take m) from by omega]
      · rw [if_pos (by omega), if_neg hc]
    · rw [if_pos (by omega), cutOf, if_neg hm]
  · rw [if_neg h]
    by_cases hw : isWidth n = true
    · have h8 : n = 8 := by have := (width_iff n).mp hw; omega
      rw [if_pos hw, beadrollref01_Cut.j0, if_pos (by simp [h8])]
    · rw [if_neg hw, beadrollref01_Cut.j0, if_pos rfl]
def piecesR (b : ByteArray) (n : Int) : List ByteArray × Int :=
  if n = 1 ∨ n = 2 ∨ n = 4 then
    match piecesL n.toNat b.size b [] with
    | some xs => (xs, 0)
    | none => ([], 2)
  else ([], 1)
theorem pieces_f (b : ByteArray) (n : Int) (hb : b.size < 8796093022208) : octets_Pieces.f b n = some (piecesR b n) := by
  unfold octets_Pieces.f piecesR
  rw [if_pos hb]
  by_cases h : n = 1 ∨ n = 2 ∨ n = 4
  · rw [if_pos h, if_pos h]
    cases piecesL n.toNat b.size b [] <;> rfl
  · rw [if_neg h, if_neg h]
theorem rpieces_at (n : Int) (h : n = 1 ∨ n = 2 ∨ n = 4) : ∀ (d k : Nat) (b : ByteArray) (acc : List ByteArray), b.size ≤ d → d ≤ 100000000 → d + 30 ≤ k → acc.length + d ≤ 100000000 → beadrollref01_Pieces.l0 k b n acc = some (match piecesL n.toNat d b acc with | some xs => (xs, 0) | none => ([], 2)) := by
  intro d
  induction d with
  | zero =>
    intro k b acc hb hd hk ha
    obtain ⟨k, rfl⟩ : ∃ j, k = j + 1 := ⟨k - 1, by omega⟩
    rw [beadrollref01_Pieces.l0, if_neg (by omega), piecesL, if_pos (by omega)]
  | succ d ih =>
    intro k b acc hb hd hk ha
    obtain ⟨k, rfl⟩ : ∃ j, k = j + 1 := ⟨k - 1, by omega⟩
    rw [beadrollref01_Pieces.l0, piecesL]
    by_cases h0 : b.size = 0
    · rw [if_neg (by omega), if_pos h0]
    · rw [if_pos (by omega), if_neg h0, rcut_f b n k (by omega) (by omega), Option.bind_some, cutR, if_pos h]
      cases hc : cutOf b n.toNat with
      | none => rfl
      | some x =>
        obtain ⟨s, r⟩ := x
        have hs := cutOf_size hc
        show (if (0 : Int) = 0 then _ else _) = _
        rw [if_pos rfl, if_pos (by omega)]
        exact ih k r _ (by omega) (by omega) (by omega) (by simp; omega)
theorem rpieces_f (b : ByteArray) (n : Int) (k : Nat) (hb : b.size ≤ 10000000) (hk : b.size + 40 ≤ k) : beadrollref01_Pieces.f k b n = some (piecesR b n) := by
  obtain ⟨k, rfl⟩ : ∃ j, k = j + 1 := ⟨k - 1, by omega⟩
  unfold beadrollref01_Pieces.f piecesR
  rw [rwidth_f, Option.bind_some]
  by_cases h : n = 1 ∨ n = 2 ∨ n = 4
  · have hw := (is_piece n).mpr h
    rw [if_pos hw.1, if_pos h, beadrollref01_Pieces.j0, if_neg (by simp [hw.2])]
    exact rpieces_at n h b.size k b [] (by omega) (by omega) (by omega) (by simp; omega)
  · rw [if_neg h]
    by_cases hw : isWidth n = true
    · have h8 : n = 8 := by have := (width_iff n).mp hw; omega
      rw [if_pos hw, beadrollref01_Pieces.j0, if_pos (by simp [h8])]
    · rw [if_neg hw, beadrollref01_Pieces.j0, if_pos rfl]
end Go.Proofs.Ytnpiglojamhpiaa.OctFacts
