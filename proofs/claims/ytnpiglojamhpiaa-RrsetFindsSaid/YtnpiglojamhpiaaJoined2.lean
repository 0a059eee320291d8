/- Joined out of this session's own texts: contracts and facts that the claim's row is drawn from, each with its own conditions. -/
import Derived.Test.YtnpiglojamhpiaaJoined1
namespace Go.Proofs.Ytnpiglojamhpiaa.PRd
open Go.RowKit Go.Proofs.YtnpiglojamhpiaaW.PrintWords Go.Proofs.YtnpiglojamhpiaaW.PrintLast Go.Proofs.YtnpiglojamhpiaaW.PrintMore Go.Proofs.Ytnpiglojamhpiaa.Given
attribute [local go_sem] max2_int min2_int max_two min_two max_three min_three max_four min_four   -- for this text's walks alone
set_option linter.unusedVariables false
set_option linter.unusedSimpArgs false
def rdata_part.j0 : Nat → ByteArray → Int → Int → Int → Int → Bool → Option (ByteArray × Int × Bool)
 | 0, _, _, _, _, _, _ => none
 | k + 1, x0, x1, x2, x3, x16, x17 => if x17 = true then (if 0 ≤ x2 then (if x2 ≤ (x0.size : Int) then ((pack_Read.f k (x0.extract 0 (x2 : Int).toNat) x1).bind fun bt121 => (if bt121.2.2 = 0 then (if x3 = (-1) then (some (bt121.1, bt121.2.1, true)) else (if 0 ≤ x1 then (if x1 ≤ bt121.2.1 then (if bt121.2.1 ≤ (x0.size : Int) then (some (bt121.1, bt121.2.1, (bt121.1.toList == (x0.extract (x1 : Int).toNat (bt121.2.1 : Int).toNat).toList))) else (none)) else (none)) else (none))) else (some (bt121.1, bt121.2.1, false)))) else (none)) else (none)) else (if x16 = (-3) then (if 0 ≤ x1 then (if x1 ≤ x2 then (if x2 ≤ (x0.size : Int) then ((octets_Pieces.f (x0.extract (x1 : Int).toNat (x2 : Int).toNat) 1).bind fun bt124 => (if bt124.2 = 0 then (some (x0.extract (x1 : Int).toNat (x2 : Int).toNat, x2, decide ((bt124.1.length : Int) > 0))) else (some (x0.extract (x1 : Int).toNat (x2 : Int).toNat, x2, false)))) else (none)) else (none)) else (none)) else (if x16 = (-4) then (if 0 ≤ x1 then (if x1 ≤ x2 then (if x2 ≤ (x0.size : Int) then (some (x0.extract (x1 : Int).toNat (x2 : Int).toNat, x2, true)) else (none)) else (none)) else (none)) else (if x3 > (wrap64 (x2 - x1)) then (some ((⟨#[]⟩ : ByteArray), 0, false)) else (if 0 ≤ x1 then (if x1 ≤ (wrap64 (x1 + x3)) then (if (wrap64 (x1 + x3)) ≤ (x0.size : Int) then (some (x0.extract (x1 : Int).toNat ((wrap64 (x1 + x3)) : Int).toNat, wrap64 (x1 + x3), true)) else (none)) else (none)) else (none)))))
def rdata_part.f (k : Nat) (a0 : ByteArray) (a1 : Int) (a2 : Int) (a3 : Int) : Option (ByteArray × Int × Bool) := if a3 = (-1) then (rdata_part.j0 k a0 a1 a2 a3 a3 (a3 == (-1))) else (rdata_part.j0 k a0 a1 a2 a3 a3 (a3 == (-2)))
set_option maxHeartbeats 8000000 in
set_option maxRecDepth 100000 in
theorem rdata_part.calls (k : Nat) (a0 : ByteArray) (a1 : Int) (a2 : Int) (a3 : Int) (r1 : ByteArray) (r2 : Int) (r3 : Bool) (w : World) (h : rdata_part.f k a0 a1 a2 a3 = some (r1, r2, r3)) :
  Calls Try.prog 71 #[.string a0, .int .i64 a1, .int .i64 a2, .int .i64 a3] w fun e w' => e = .returned (.tuple #[.string r1, .int .i64 r2, .bool r3]) ∧ Below w.heap.size w w' := by
 have HB := Aside0.mk (Below.refl w.heap.size w)
 have H : (if a3 = (-1) then (rdata_part.j0 k a0 a1 a2 a3 a3 (a3 == (-1))) else (rdata_part.j0 k a0 a1 a2 a3 a3 (a3 == (-2)))) = some (r1, r2, r3) := h
 clear h
 have HC5 := Aside0.mk H
 clear H
 go_enter Try.func71, Try.ntmps71
 go_upto_if 17 with (fail)
 repeat (go_quiet (fail); go_upto_if 17 with (fail))
 go_cut [17] (fun v17 wc => ∃ (kq : Nat) (x17_4 : Bool), v17 = .bool x17_4 ∧ Aside0 (rdata_part.j0 kq a0 a1 a2 a3 a3 x17_4 = some (r1, r2, r3)) ∧ Aside0 (kq ≤ k) ∧ Aside0 (Below w.heap.size w wc))
 case first =>
  have H := HC5.out
  clear HC5
  by_cases c6 : a3 = (-1)
  ·rw [if_pos c6] at H
   have c6b0 : (a3 == (-1)) = true := beq_iff_eq.mpr c6
   have c6b1 : (a3 != (-1)) = false := bne_eq_false_iff_eq.mpr c6
   clear c6
   (first | rw [c6b0] | (simp only [i64_w, i32_w]; rw [c6b0]) | skip)
   have H' := Aside0.mk H
   clear H
   go_wp2
   repeat (go_quiet (fail); try go_wp2)
   go_meet
   case rel => exact ⟨_, ((a3 == (-1))), (by first | rfl | (simp; done) | (simp [*]; done)), H', ⟨by first | omega | exact Nat.le_refl _⟩, ⟨by repeat (first | (with_reducible first | exact HB.out | apply below_alloc | apply pw_below_drewN | apply below_drew1) | exact HB.out)⟩⟩
  ·rw [if_neg c6] at H
   have c6b0 : (a3 == (-1)) = false := beq_eq_false_iff_ne.mpr c6
   have c6b1 : (a3 != (-1)) = true := bne_iff_ne.mpr c6
   (first | rw [c6b0] | (simp only [i64_w, i32_w]; rw [c6b0]) | skip)
   have H' := Aside0.mk H
   clear H
   go_wp2
   repeat (go_quiet (fail); try go_wp2)
   go_meet
   case rel => exact ⟨_, ((a3 == (-2))), (by first | rfl | (simp; done) | (simp [*]; done)), H', ⟨by first | omega | exact Nat.le_refl _⟩, ⟨by repeat (first | (with_reducible first | exact HB.out | apply below_alloc | apply pw_below_drewN | apply below_drew1) | exact HB.out)⟩⟩
 case rest =>
  clear HC5
  try clear p2
  try clear c6
  try clear c6b0
  try clear c6b1
  obtain ⟨kq, x17_4, rfl, HA, HJ4, HB⟩ := hcut
  cases kq with
  | zero => exact absurd HA.out (by simp [rdata_part.j0])
  | succ kj4 =>
   have H := HA.out
   clear HA
   simp only [rdata_part.j0] at H
   by_cases c7 : x17_4 = true
   ·subst c7
    have H1 : (if 0 ≤ a2 then (if a2 ≤ (a0.size : Int) then ((pack_Read.f kj4 (a0.extract 0 (a2 : Int).toNat) a1).bind fun bt121 => (if bt121.2.2 = 0 then (if a3 = (-1) then (some (bt121.1, bt121.2.1, true)) else (if 0 ≤ a1 then (if a1 ≤ bt121.2.1 then (if bt121.2.1 ≤ (a0.size : Int) then (some (bt121.1, bt121.2.1, (bt121.1.toList == (a0.extract (a1 : Int).toNat (bt121.2.1 : Int).toNat).toList))) else (none)) else (none)) else (none))) else (some (bt121.1, bt121.2.1, false)))) else (none)) else (none)) = some (r1, r2, r3) := by rw [if_pos rfl] at H; exact H
    clear H
    have H := H1
    clear H1
    by_cases c8 : 0 ≤ a2
    ·rw [if_pos c8] at H
     have c8b0 := eq_true c8
     have c8b1 : decide (0 ≤ a2) = true := decide_eq_true c8
     clear c8
     by_cases c9 : a2 ≤ (a0.size : Int)
     ·rw [if_pos c9] at H
      have c9b0 := eq_true c9
      have c9b1 : decide (a2 ≤ (a0.size : Int)) = true := decide_eq_true c9
      clear c9
      replace H := Option.bind_eq_some_iff.mp H
      obtain ⟨⟨t121, t122, t123⟩, A100, H⟩ := H
      replace H : (if t123 = 0 then (if a3 = (-1) then (some (t121, t122, true)) else (if 0 ≤ a1 then (if a1 ≤ t122 then (if t122 ≤ (a0.size : Int) then (some (t121, t122, (t121.toList == (a0.extract (a1 : Int).toNat (t122 : Int).toNat).toList))) else (none)) else (none)) else (none))) else (some (t121, t122, false))) = some (r1, r2, r3) := H
      have A10 := Aside0.mk A100
      clear A100
      by_cases c11 : t123 = 0
      ·rw [if_pos c11] at H
       have c11b0 : (t123 == 0) = true := beq_iff_eq.mpr c11
       have c11b1 : (t123 != 0) = false := bne_eq_false_iff_eq.mpr c11
       clear c11
       by_cases c12 : a3 = (-1)
       ·rw [if_pos c12] at H
        have c12b0 : (a3 == (-1)) = true := beq_iff_eq.mpr c12
        have c12b1 : (a3 != (-1)) = false := bne_eq_false_iff_eq.mpr c12
        clear c12
        simp only [Option.some.injEq, Prod.mk.injEq] at H
        obtain ⟨rfl, rfl, rfl⟩ := H
        go_wp2_with (first | (go_at_call 79; (with_reducible refine (pack_Read.calls kj4 (a0.extract 0 (a2 : Int).toNat) a1 t121 t122 t123 _ A10.out).mono ?_); rintro e w13 ⟨rfl, hb⟩; have n0_ := Aside0.mk (below_step (by repeat (first | (with_reducible first | exact HB.out | apply below_alloc | apply pw_below_drewN | apply below_drew1) | exact HB.out)) hb); clear HB; have HB := n0_; clear n0_; (try clear hb); (try clear hb2); (try clear hk); (try clear hi)))
        repeat (go_quiet (first | (go_at_call 79; (with_reducible refine (pack_Read.calls kj4 (a0.extract 0 (a2 : Int).toNat) a1 t121 t122 t123 _ A10.out).mono ?_); rintro e w13 ⟨rfl, hb⟩; have n0_ := Aside0.mk (below_step (by repeat (first | (with_reducible first | exact HB.out | apply below_alloc | apply pw_below_drewN | apply below_drew1) | exact HB.out)) hb); clear HB; have HB := n0_; clear n0_; (try clear hb); (try clear hb2); (try clear hk); (try clear hi))); try go_wp2_with (first | (go_at_call 79; (with_reducible refine (pack_Read.calls kj4 (a0.extract 0 (a2 : Int).toNat) a1 t121 t122 t123 _ A10.out).mono ?_); rintro e w13 ⟨rfl, hb⟩; have n0_ := Aside0.mk (below_step (by repeat (first | (with_reducible first | exact HB.out | apply below_alloc | apply pw_below_drewN | apply below_drew1) | exact HB.out)) hb); clear HB; have HB := n0_; clear n0_; (try clear hb); (try clear hb2); (try clear hk); (try clear hi))))
        go_ret3
        exact ⟨by first | rfl | (simp [errW_none, errW_some] <;> rfl) | (simp [*, errW_none, errW_some] <;> rfl), by repeat (first | (with_reducible first | exact HB.out | apply below_alloc | apply pw_below_drewN | apply below_drew1) | exact HB.out)⟩
       ·rw [if_neg c12] at H
        have c12b0 : (a3 == (-1)) = false := beq_eq_false_iff_ne.mpr c12
        have c12b1 : (a3 != (-1)) = true := bne_iff_ne.mpr c12
        by_cases c14 : 0 ≤ a1
        ·rw [if_pos c14] at H
         have c14b0 := eq_true c14
         have c14b1 : decide (0 ≤ a1) = true := decide_eq_true c14
         clear c14
         by_cases c15 : a1 ≤ t122
         ·rw [if_pos c15] at H
          have c15b0 := eq_true c15
          have c15b1 : decide (a1 ≤ t122) = true := decide_eq_true c15
          clear c15
          by_cases c16 : t122 ≤ (a0.size : Int)
          ·rw [if_pos c16] at H
           have c16b0 := eq_true c16
           have c16b1 : decide (t122 ≤ (a0.size : Int)) = true := decide_eq_true c16
           clear c16
           simp only [Option.some.injEq, Prod.mk.injEq] at H
           obtain ⟨rfl, rfl, rfl⟩ := H
           go_wp2_with (first | (go_at_call 79; (with_reducible refine (pack_Read.calls kj4 (a0.extract 0 (a2 : Int).toNat) a1 t121 t122 t123 _ A10.out).mono ?_); rintro e w17 ⟨rfl, hb⟩; have n0_ := Aside0.mk (below_step (by repeat (first | (with_reducible first | exact HB.out | apply below_alloc | apply pw_below_drewN | apply below_drew1) | exact HB.out)) hb); clear HB; have HB := n0_; clear n0_; (try clear hb); (try clear hb2); (try clear hk); (try clear hi)))
           repeat (go_quiet (first | (go_at_call 79; (with_reducible refine (pack_Read.calls kj4 (a0.extract 0 (a2 : Int).toNat) a1 t121 t122 t123 _ A10.out).mono ?_); rintro e w17 ⟨rfl, hb⟩; have n0_ := Aside0.mk (below_step (by repeat (first | (with_reducible first | exact HB.out | apply below_alloc | apply pw_below_drewN | apply below_drew1) | exact HB.out)) hb); clear HB; have HB := n0_; clear n0_; (try clear hb); (try clear hb2); (try clear hk); (try clear hi))); try go_wp2_with (first | (go_at_call 79; (with_reducible refine (pack_Read.calls kj4 (a0.extract 0 (a2 : Int).toNat) a1 t121 t122 t123 _ A10.out).mono ?_); rintro e w17 ⟨rfl, hb⟩; have n0_ := Aside0.mk (below_step (by repeat (first | (with_reducible first | exact HB.out | apply below_alloc | apply pw_below_drewN | apply below_drew1) | exact HB.out)) hb); clear HB; have HB := n0_; clear n0_; (try clear hb); (try clear hb2); (try clear hk); (try clear hi))))
           go_ret3
           exact ⟨by first | rfl | (simp [errW_none, errW_some] <;> rfl) | (simp [*, errW_none, errW_some] <;> rfl), by repeat (first | (with_reducible first | exact HB.out | apply below_alloc | apply pw_below_drewN | apply below_drew1) | exact HB.out)⟩
          ·rw [if_neg c16] at H
           exact absurd H (by simp)
         ·rw [if_neg c15] at H
          exact absurd H (by simp)
        ·rw [if_neg c14] at H
         exact absurd H (by simp)
      ·rw [if_neg c11] at H
       have c11b0 : (t123 == 0) = false := beq_eq_false_iff_ne.mpr c11
       have c11b1 : (t123 != 0) = true := bne_iff_ne.mpr c11
       simp only [Option.some.injEq, Prod.mk.injEq] at H
       obtain ⟨rfl, rfl, rfl⟩ := H
       go_wp2_with (first | (go_at_call 79; (with_reducible refine (pack_Read.calls kj4 (a0.extract 0 (a2 : Int).toNat) a1 t121 t122 t123 _ A10.out).mono ?_); rintro e w18 ⟨rfl, hb⟩; have n0_ := Aside0.mk (below_step (by repeat (first | (with_reducible first | exact HB.out | apply below_alloc | apply pw_below_drewN | apply below_drew1) | exact HB.out)) hb); clear HB; have HB := n0_; clear n0_; (try clear hb); (try clear hb2); (try clear hk); (try clear hi)))
       repeat (go_quiet (first | (go_at_call 79; (with_reducible refine (pack_Read.calls kj4 (a0.extract 0 (a2 : Int).toNat) a1 t121 t122 t123 _ A10.out).mono ?_); rintro e w18 ⟨rfl, hb⟩; have n0_ := Aside0.mk (below_step (by repeat (first | (with_reducible first | exact HB.out | apply below_alloc | apply pw_below_drewN | apply below_drew1) | exact HB.out)) hb); clear HB; have HB := n0_; clear n0_; (try clear hb); (try clear hb2); (try clear hk); (try clear hi))); try go_wp2_with (first | (go_at_call 79; (with_reducible refine (pack_Read.calls kj4 (a0.extract 0 (a2 : Int).toNat) a1 t121 t122 t123 _ A10.out).mono ?_); rintro e w18 ⟨rfl, hb⟩; have n0_ := Aside0.mk (below_step (by repeat (first | (with_reducible first | exact HB.out | apply below_alloc | apply pw_below_drewN | apply below_drew1) | exact HB.out)) hb); clear HB; have HB := n0_; clear n0_; (try clear hb); (try clear hb2); (try clear hk); (try clear hi))))
       go_ret3
       exact ⟨by first | rfl | (simp [errW_none, errW_some] <;> rfl) | (simp [*, errW_none, errW_some] <;> rfl), by repeat (first | (with_reducible first | exact HB.out | apply below_alloc | apply pw_below_drewN | apply below_drew1) | exact HB.out)⟩
     ·rw [if_neg c9] at H
      exact absurd H (by simp)
    ·rw [if_neg c8] at H
     exact absurd H (by simp)
   ·replace c7 := Bool.eq_false_iff.mpr c7
    subst c7
    have H1 : (if a3 = (-3) then (if 0 ≤ a1 then (if a1 ≤ a2 then (if a2 ≤ (a0.size : Int) then ((octets_Pieces.f (a0.extract (a1 : Int).toNat (a2 : Int).toNat) 1).bind fun bt124 => (if bt124.2 = 0 then (some (a0.extract (a1 : Int).toNat (a2 : Int).toNat, a2, decide ((bt124.1.length : Int) > 0))) else (some (a0.extract (a1 : Int).toNat (a2 : Int).toNat, a2, false)))) else (none)) else (none)) else (none)) else (if a3 = (-4) then (if 0 ≤ a1 then (if a1 ≤ a2 then (if a2 ≤ (a0.size : Int) then (some (a0.extract (a1 : Int).toNat (a2 : Int).toNat, a2, true)) else (none)) else (none)) else (none)) else (if a3 > (wrap64 (a2 - a1)) then (some ((⟨#[]⟩ : ByteArray), 0, false)) else (if 0 ≤ a1 then (if a1 ≤ (wrap64 (a1 + a3)) then (if (wrap64 (a1 + a3)) ≤ (a0.size : Int) then (some (a0.extract (a1 : Int).toNat ((wrap64 (a1 + a3)) : Int).toNat, wrap64 (a1 + a3), true)) else (none)) else (none)) else (none))))) = some (r1, r2, r3) := by rw [if_neg (show ¬ (false = true) by decide)] at H; exact H
    clear H
    have H := H1
    clear H1
    by_cases c19 : a3 = (-3)
    ·rw [if_pos c19] at H
     have c19b0 : (a3 == (-3)) = true := beq_iff_eq.mpr c19
     have c19b1 : (a3 != (-3)) = false := bne_eq_false_iff_eq.mpr c19
     clear c19
     by_cases c20 : 0 ≤ a1
     ·rw [if_pos c20] at H
      have c20b0 := eq_true c20
      have c20b1 : decide (0 ≤ a1) = true := decide_eq_true c20
      clear c20
      by_cases c21 : a1 ≤ a2
      ·rw [if_pos c21] at H
       have c21b0 := eq_true c21
       have c21b1 : decide (a1 ≤ a2) = true := decide_eq_true c21
       clear c21
       by_cases c22 : a2 ≤ (a0.size : Int)
       ·rw [if_pos c22] at H
        have c22b0 := eq_true c22
        have c22b1 : decide (a2 ≤ (a0.size : Int)) = true := decide_eq_true c22
        clear c22
        replace H := Option.bind_eq_some_iff.mp H
        obtain ⟨⟨t124, t125⟩, A230, H⟩ := H
        replace H : (if t125 = 0 then (some (a0.extract (a1 : Int).toNat (a2 : Int).toNat, a2, decide ((t124.length : Int) > 0))) else (some (a0.extract (a1 : Int).toNat (a2 : Int).toNat, a2, false))) = some (r1, r2, r3) := H
        have A23 := Aside0.mk A230
        clear A230
        have c24b0 := eq_true (of_decide_eq_true (by first | (with_reducible assumption) | assumption) : 0 ≤ a1)
        have c25b0 := eq_true (of_decide_eq_true (by first | (with_reducible assumption) | assumption) : a1 ≤ a2)
        have c26b0 := eq_true (of_decide_eq_true (by first | (with_reducible assumption) | assumption) : a2 ≤ (a0.size : Int))
        by_cases c27 : t125 = 0
        ·rw [if_pos c27] at H
         have c27b0 : (t125 == 0) = true := beq_iff_eq.mpr c27
         have c27b1 : (t125 != 0) = false := bne_eq_false_iff_eq.mpr c27
         clear c27
         simp only [Option.some.injEq, Prod.mk.injEq] at H
         obtain ⟨rfl, rfl, rfl⟩ := H
         go_wp2_with (first | (go_at_call 80; (with_reducible refine (octets_Pieces.calls (a0.extract (a1 : Int).toNat (a2 : Int).toNat) 1 t124 t125 _ A23.out).mono ?_); rintro e w28 ⟨v126, rfl, ho0, hb⟩; have n0_ := Aside0.mk (Kd.R_lower ho0 (below_size (by repeat (first | (with_reducible first | exact HB.out | apply below_alloc | apply pw_below_drewN | apply below_drew1) | exact HB.out)))); have n1_ := Aside0.mk (below_step (by repeat (first | (with_reducible first | exact HB.out | apply below_alloc | apply pw_below_drewN | apply below_drew1) | exact HB.out)) hb); clear HB; have HO127 := n0_; have HB := n1_; clear n0_ n1_; (try clear hb); (try clear hb2); (try clear hk); (try clear hi); (try clear ho0); obtain ⟨Ao29, co29, eo29⟩ := Kd.R_slice HO127.out; subst eo29))
         repeat (go_quiet (first | (go_at_call 80; (with_reducible refine (octets_Pieces.calls (a0.extract (a1 : Int).toNat (a2 : Int).toNat) 1 t124 t125 _ A23.out).mono ?_); rintro e w28 ⟨v126, rfl, ho0, hb⟩; have n0_ := Aside0.mk (Kd.R_lower ho0 (below_size (by repeat (first | (with_reducible first | exact HB.out | apply below_alloc | apply pw_below_drewN | apply below_drew1) | exact HB.out)))); have n1_ := Aside0.mk (below_step (by repeat (first | (with_reducible first | exact HB.out | apply below_alloc | apply pw_below_drewN | apply below_drew1) | exact HB.out)) hb); clear HB; have HO127 := n0_; have HB := n1_; clear n0_ n1_; (try clear hb); (try clear hb2); (try clear hk); (try clear hi); (try clear ho0); obtain ⟨Ao29, co29, eo29⟩ := Kd.R_slice HO127.out; subst eo29)); try go_wp2_with (first | (go_at_call 80; (with_reducible refine (octets_Pieces.calls (a0.extract (a1 : Int).toNat (a2 : Int).toNat) 1 t124 t125 _ A23.out).mono ?_); rintro e w28 ⟨v126, rfl, ho0, hb⟩; have n0_ := Aside0.mk (Kd.R_lower ho0 (below_size (by repeat (first | (with_reducible first | exact HB.out | apply below_alloc | apply pw_below_drewN | apply below_drew1) | exact HB.out)))); have n1_ := Aside0.mk (below_step (by repeat (first | (with_reducible first | exact HB.out | apply below_alloc | apply pw_below_drewN | apply below_drew1) | exact HB.out)) hb); clear HB; have HO127 := n0_; have HB := n1_; clear n0_ n1_; (try clear hb); (try clear hb2); (try clear hk); (try clear hi); (try clear ho0); obtain ⟨Ao29, co29, eo29⟩ := Kd.R_slice HO127.out; subst eo29)))
         go_ret3
         exact ⟨by first | rfl | (simp [errW_none, errW_some] <;> rfl) | (simp [*, errW_none, errW_some] <;> rfl), by repeat (first | (with_reducible first | exact HB.out | apply below_alloc | apply pw_below_drewN | apply below_drew1) | exact HB.out)⟩
        ·rw [if_neg c27] at H
         have c27b0 : (t125 == 0) = false := beq_eq_false_iff_ne.mpr c27
         have c27b1 : (t125 != 0) = true := bne_iff_ne.mpr c27
         simp only [Option.some.injEq, Prod.mk.injEq] at H
         obtain ⟨rfl, rfl, rfl⟩ := H
         go_wp2_with (first | (go_at_call 80; (with_reducible refine (octets_Pieces.calls (a0.extract (a1 : Int).toNat (a2 : Int).toNat) 1 t124 t125 _ A23.out).mono ?_); rintro e w30 ⟨v126, rfl, ho0, hb⟩; have n0_ := Aside0.mk (Kd.R_lower ho0 (below_size (by repeat (first | (with_reducible first | exact HB.out | apply below_alloc | apply pw_below_drewN | apply below_drew1) | exact HB.out)))); have n1_ := Aside0.mk (below_step (by repeat (first | (with_reducible first | exact HB.out | apply below_alloc | apply pw_below_drewN | apply below_drew1) | exact HB.out)) hb); clear HB; have HO127 := n0_; have HB := n1_; clear n0_ n1_; (try clear hb); (try clear hb2); (try clear hk); (try clear hi); (try clear ho0)))
         repeat (go_quiet (first | (go_at_call 80; (with_reducible refine (octets_Pieces.calls (a0.extract (a1 : Int).toNat (a2 : Int).toNat) 1 t124 t125 _ A23.out).mono ?_); rintro e w30 ⟨v126, rfl, ho0, hb⟩; have n0_ := Aside0.mk (Kd.R_lower ho0 (below_size (by repeat (first | (with_reducible first | exact HB.out | apply below_alloc | apply pw_below_drewN | apply below_drew1) | exact HB.out)))); have n1_ := Aside0.mk (below_step (by repeat (first | (with_reducible first | exact HB.out | apply below_alloc | apply pw_below_drewN | apply below_drew1) | exact HB.out)) hb); clear HB; have HO127 := n0_; have HB := n1_; clear n0_ n1_; (try clear hb); (try clear hb2); (try clear hk); (try clear hi); (try clear ho0))); try go_wp2_with (first | (go_at_call 80; (with_reducible refine (octets_Pieces.calls (a0.extract (a1 : Int).toNat (a2 : Int).toNat) 1 t124 t125 _ A23.out).mono ?_); rintro e w30 ⟨v126, rfl, ho0, hb⟩; have n0_ := Aside0.mk (Kd.R_lower ho0 (below_size (by repeat (first | (with_reducible first | exact HB.out | apply below_alloc | apply pw_below_drewN | apply below_drew1) | exact HB.out)))); have n1_ := Aside0.mk (below_step (by repeat (first | (with_reducible first | exact HB.out | apply below_alloc | apply pw_below_drewN | apply below_drew1) | exact HB.out)) hb); clear HB; have HO127 := n0_; have HB := n1_; clear n0_ n1_; (try clear hb); (try clear hb2); (try clear hk); (try clear hi); (try clear ho0))))
         go_ret3
         exact ⟨by first | rfl | (simp [errW_none, errW_some] <;> rfl) | (simp [*, errW_none, errW_some] <;> rfl), by repeat (first | (with_reducible first | exact HB.out | apply below_alloc | apply pw_below_drewN | apply below_drew1) | exact HB.out)⟩
       ·rw [if_neg c22] at H
        exact absurd H (by simp)
      ·rw [if_neg c21] at H
       exact absurd H (by simp)
     ·rw [if_neg c20] at H
      exact absurd H (by simp)
    ·rw [if_neg c19] at H
     have c19b0 : (a3 == (-3)) = false := beq_eq_false_iff_ne.mpr c19
     have c19b1 : (a3 != (-3)) = true := bne_iff_ne.mpr c19
     by_cases c31 : a3 = (-4)
     ·rw [if_pos c31] at H
      have c31b0 : (a3 == (-4)) = true := beq_iff_eq.mpr c31
      have c31b1 : (a3 != (-4)) = false := bne_eq_false_iff_eq.mpr c31
      clear c31
      by_cases c32 : 0 ≤ a1
      ·rw [if_pos c32] at H
       have c32b0 := eq_true c32
       have c32b1 : decide (0 ≤ a1) = true := decide_eq_true c32
       clear c32
       by_cases c33 : a1 ≤ a2
       ·rw [if_pos c33] at H
        have c33b0 := eq_true c33
        have c33b1 : decide (a1 ≤ a2) = true := decide_eq_true c33
        clear c33
        by_cases c34 : a2 ≤ (a0.size : Int)
        ·rw [if_pos c34] at H
         have c34b0 := eq_true c34
         have c34b1 : decide (a2 ≤ (a0.size : Int)) = true := decide_eq_true c34
         clear c34
         simp only [Option.some.injEq, Prod.mk.injEq] at H
         obtain ⟨rfl, rfl, rfl⟩ := H
         go_wp2
         repeat (go_quiet (fail); try go_wp2)
         go_ret3
         exact ⟨by first | rfl | (simp [errW_none, errW_some] <;> rfl) | (simp [*, errW_none, errW_some] <;> rfl), by repeat (first | (with_reducible first | exact HB.out | apply below_alloc | apply pw_below_drewN | apply below_drew1) | exact HB.out)⟩
        ·rw [if_neg c34] at H
         exact absurd H (by simp)
       ·rw [if_neg c33] at H
        exact absurd H (by simp)
      ·rw [if_neg c32] at H
       exact absurd H (by simp)
     ·rw [if_neg c31] at H
      have c31b0 : (a3 == (-4)) = false := beq_eq_false_iff_ne.mpr c31
      have c31b1 : (a3 != (-4)) = true := bne_iff_ne.mpr c31
      by_cases c35 : a3 > (wrap64 (a2 - a1))
      ·rw [if_pos c35] at H
       have c35b0 : decide ((wrap64 (a2 - a1)) < a3) = true := decide_eq_true c35
       clear c35
       simp only [Option.some.injEq, Prod.mk.injEq] at H
       obtain ⟨rfl, rfl, rfl⟩ := H
       go_wp2
       repeat (go_quiet (fail); try go_wp2)
       go_ret3
       exact ⟨by first | rfl | (simp [errW_none, errW_some] <;> rfl) | (simp [*, errW_none, errW_some] <;> rfl), by repeat (first | (with_reducible first | exact HB.out | apply below_alloc | apply pw_below_drewN | apply below_drew1) | exact HB.out)⟩
      ·rw [if_neg c35] at H
       have c35b0 : decide ((wrap64 (a2 - a1)) < a3) = false := decide_eq_false c35
       clear c35
       by_cases c36 : 0 ≤ a1
       ·rw [if_pos c36] at H
        have c36b0 := eq_true c36
        have c36b1 : decide (0 ≤ a1) = true := decide_eq_true c36
        clear c36
        by_cases c37 : a1 ≤ (wrap64 (a1 + a3))
        ·rw [if_pos c37] at H
         have c37b0 := eq_true c37
         have c37b1 : decide (a1 ≤ (wrap64 (a1 + a3))) = true := decide_eq_true c37
         by_cases c38 : (wrap64 (a1 + a3)) ≤ (a0.size : Int)
         ·rw [if_pos c38] at H
          have c38b0 := eq_true c38
          have c38b1 : decide ((wrap64 (a1 + a3)) ≤ (a0.size : Int)) = true := decide_eq_true c38
          simp only [Option.some.injEq, Prod.mk.injEq] at H
          obtain ⟨rfl, rfl, rfl⟩ := H
          go_wp2
          repeat (go_quiet (fail); try go_wp2)
          go_ret3
          exact ⟨by first | rfl | (simp [errW_none, errW_some] <;> rfl) | (simp [*, errW_none, errW_some] <;> rfl), by repeat (first | (with_reducible first | exact HB.out | apply below_alloc | apply pw_below_drewN | apply below_drew1) | exact HB.out)⟩
         ·rw [if_neg c38] at H
          exact absurd H (by simp)
        ·rw [if_neg c37] at H
         exact absurd H (by simp)
       ·rw [if_neg c36] at H
        exact absurd H (by simp)
def rdata_parts.j0 : Nat → Int → Bool → Option (List Int)
 | 0, _, _ => none
 | k + 1, x3, x10 => if x10 = true then (some (([(-1)] : List Int))) else (if x3 = 15 then (some (([2, (-1)] : List Int))) else (if x3 = 6 then (some (([(-1), (-1), 4, 4, 4, 4, 4] : List Int))) else (if x3 = 16 then (some (([(-3)] : List Int))) else (if x3 = 33 then (some (([2, 2, 2, (-2)] : List Int))) else (some (([(-4)] : List Int)))))))
def rdata_parts.f (k : Nat) (a0 : Int) : Option (List Int) := if a0 = 1 then (some (([4] : List Int))) else (if a0 = 28 then (some (([16] : List Int))) else (if a0 = 2 then (rdata_parts.j0 k a0 (a0 == 2)) else (if a0 = 5 then (rdata_parts.j0 k a0 (a0 == 5)) else (rdata_parts.j0 k a0 (a0 == 12)))))
set_option maxHeartbeats 8000000 in
set_option maxRecDepth 100000 in
theorem rdata_parts.calls (k : Nat) (a0 : Int) (r : List Int) (w : World) (h : rdata_parts.f k a0 = some r) :
  Calls Try.prog 70 #[.int .i64 a0] w fun e w' => ∃ v0_ : Value, e = .returned (v0_) ∧ Kd.R (Kd.int .i64) 3 w' w.heap.size (fun _ => True) v0_ r ∧ Below w.heap.size w w' := by
 have HB := Aside0.mk (Below.refl w.heap.size w)
 have H : (if a0 = 1 then (some (([4] : List Int))) else (if a0 = 28 then (some (([16] : List Int))) else (if a0 = 2 then (rdata_parts.j0 k a0 (a0 == 2)) else (if a0 = 5 then (rdata_parts.j0 k a0 (a0 == 5)) else (rdata_parts.j0 k a0 (a0 == 12)))))) = some r := h
 clear h
 by_cases c2 : a0 = 1
 ·rw [if_pos c2] at H
  have c2b0 : (a0 == 1) = true := beq_iff_eq.mpr c2
  have c2b1 : (a0 != 1) = false := bne_eq_false_iff_eq.mpr c2
  clear c2
  obtain ⟨y128, hy128⟩ : ∃ y_ : List Int, y_ = (([4] : List Int)) := ⟨_, rfl⟩
  replace H : (some y128) = some r := by first | (rw [hy128]; with_reducible exact H) | (have H2_ := (Option.bind_some _ _).symm.trans H; rw [hy128]; with_reducible exact H2_) | (have H2_ := (Option.bind_some _ _).symm.trans H; with_reducible exact H2_) | with_reducible exact H | (rw [hy128]; exact H) | exact H
  have Ny128 := Aside0.mk hy128
  clear hy128
  obtain rfl := Option.some.inj H
  go_enter Try.func70, Try.ntmps70
  go_wp2_with (first | ((with_reducible refine gate_dst (N := 6) rfl ?_); refine Kd.R_lit (Kd.int .i64) _ 3 ?hg (N := 6) ?hd (xs := ([4] : List Int)) (inner := [.int .i64 4]) (ok := fun _ => True) (okp := fun _ => True) ?hr ?hp (fun _ hk => hk) trivial (Below.refl _ _) (Nat.le_refl _) (by simp) ?_; (case hd => rfl); (case hg => rfl); (case hr => first | (go_simp; done) | (go_simp; rfl)); (case hp => exact (Reps.one (show Kd.M (Kd.int .i64) _ _ _ 4 [.int .i64 4] from rfl) (Reps.none _ _))); intro v129 w3 ho4 hb hg_ hnew_; clear hg_ hnew_; (first | rw [← Ny128.out] at ho4 | (simp only [Int.reduceToNat] at ho4; rw [← Ny128.out] at ho4)); have n0_ := Aside0.mk (Kd.R_lower ho4 (below_size (by repeat (first | (with_reducible first | exact HB.out | apply below_alloc | apply pw_below_drewN | apply below_drew1) | exact HB.out)))); have n1_ := Aside0.mk (below_step (by repeat (first | (with_reducible first | exact HB.out | apply below_alloc | apply pw_below_drewN | apply below_drew1) | exact HB.out)) hb); clear HB; have HO130 := n0_; have HB := n1_; clear n0_ n1_; clear hb ho4))
  go_ret
  exact ⟨_, by first | rfl | (simp [errW_none, errW_some] <;> rfl) | (simp [*, errW_none, errW_some] <;> rfl), by (with_reducible repeat (first | apply Kd.R_alloc | apply Kd.R_drewN | apply Kd.R_drew)); exact HO130.out, by repeat (first | (with_reducible first | exact HB.out | apply below_alloc | apply pw_below_drewN | apply below_drew1) | exact HB.out)⟩
 ·rw [if_neg c2] at H
  have c2b0 : (a0 == 1) = false := beq_eq_false_iff_ne.mpr c2
  have c2b1 : (a0 != 1) = true := bne_iff_ne.mpr c2
  by_cases c5 : a0 = 28
  ·rw [if_pos c5] at H
   have c5b0 : (a0 == 28) = true := beq_iff_eq.mpr c5
   have c5b1 : (a0 != 28) = false := bne_eq_false_iff_eq.mpr c5
   clear c5
   obtain ⟨y131, hy131⟩ : ∃ y_ : List Int, y_ = (([16] : List Int)) := ⟨_, rfl⟩
   replace H : (some y131) = some r := by first | (rw [hy131]; with_reducible exact H) | (have H2_ := (Option.bind_some _ _).symm.trans H; rw [hy131]; with_reducible exact H2_) | (have H2_ := (Option.bind_some _ _).symm.trans H; with_reducible exact H2_) | with_reducible exact H | (rw [hy131]; exact H) | exact H
   have Ny131 := Aside0.mk hy131
   clear hy131
   obtain rfl := Option.some.inj H
   go_enter Try.func70, Try.ntmps70
   go_wp2_with (first | ((with_reducible refine gate_dst (N := 9) rfl ?_); refine Kd.R_lit (Kd.int .i64) _ 3 ?hg (N := 9) ?hd (xs := ([16] : List Int)) (inner := [.int .i64 16]) (ok := fun _ => True) (okp := fun _ => True) ?hr ?hp (fun _ hk => hk) trivial (Below.refl _ _) (Nat.le_refl _) (by simp) ?_; (case hd => rfl); (case hg => rfl); (case hr => first | (go_simp; done) | (go_simp; rfl)); (case hp => exact (Reps.one (show Kd.M (Kd.int .i64) _ _ _ 16 [.int .i64 16] from rfl) (Reps.none _ _))); intro v132 w6 ho7 hb hg_ hnew_; clear hg_ hnew_; (first | rw [← Ny131.out] at ho7 | (simp only [Int.reduceToNat] at ho7; rw [← Ny131.out] at ho7)); have n0_ := Aside0.mk (Kd.R_lower ho7 (below_size (by repeat (first | (with_reducible first | exact HB.out | apply below_alloc | apply pw_below_drewN | apply below_drew1) | exact HB.out)))); have n1_ := Aside0.mk (below_step (by repeat (first | (with_reducible first | exact HB.out | apply below_alloc | apply pw_below_drewN | apply below_drew1) | exact HB.out)) hb); clear HB; have HO133 := n0_; have HB := n1_; clear n0_ n1_; clear hb ho7))
   go_ret
   exact ⟨_, by first | rfl | (simp [errW_none, errW_some] <;> rfl) | (simp [*, errW_none, errW_some] <;> rfl), by (with_reducible repeat (first | apply Kd.R_alloc | apply Kd.R_drewN | apply Kd.R_drew)); exact HO133.out, by repeat (first | (with_reducible first | exact HB.out | apply below_alloc | apply pw_below_drewN | apply below_drew1) | exact HB.out)⟩
  ·rw [if_neg c5] at H
   have c5b0 : (a0 == 28) = false := beq_eq_false_iff_ne.mpr c5
   have c5b1 : (a0 != 28) = true := bne_iff_ne.mpr c5
   have HC8 := Aside0.mk H
   clear H
   go_enter Try.func70, Try.ntmps70
   go_upto_if 10 with (fail)
   go_cut [10] (fun v10 wc => ∃ (kq : Nat) (x10_7 : Bool), v10 = .bool x10_7 ∧ Aside0 (rdata_parts.j0 kq a0 x10_7 = some r) ∧ Aside0 (kq ≤ k) ∧ Aside0 (Below w.heap.size w wc))
   case first =>
    have H := HC8.out
    clear HC8
    by_cases c9 : a0 = 2
    ·rw [if_pos c9] at H
     have c9b0 : (a0 == 2) = true := beq_iff_eq.mpr c9
     have c9b1 : (a0 != 2) = false := bne_eq_false_iff_eq.mpr c9
     clear c9
     (first | rw [c9b0] | (simp only [i64_w, i32_w]; rw [c9b0]) | skip)
     have H' := Aside0.mk H
     clear H
     go_wp2
     go_meet
     case rel => exact ⟨_, ((a0 == 2)), (by first | rfl | (simp; done) | (simp [*]; done)), H', ⟨by first | omega | exact Nat.le_refl _⟩, ⟨by repeat (first | (with_reducible first | exact HB.out | apply below_alloc | apply pw_below_drewN | apply below_drew1) | exact HB.out)⟩⟩
    ·rw [if_neg c9] at H
     have c9b0 : (a0 == 2) = false := beq_eq_false_iff_ne.mpr c9
     have c9b1 : (a0 != 2) = true := bne_iff_ne.mpr c9
     (first | rw [c9b0] | (simp only [i64_w, i32_w]; rw [c9b0]) | skip)
     by_cases c10 : a0 = 5
     ·rw [if_pos c10] at H
      have c10b0 : (a0 == 5) = true := beq_iff_eq.mpr c10
      have c10b1 : (a0 != 5) = false := bne_eq_false_iff_eq.mpr c10
      clear c10
      have H' := Aside0.mk H
      clear H
      go_wp2
      go_meet
      case rel => exact ⟨_, ((a0 == 5)), (by first | rfl | (simp; done) | (simp [*]; done)), H', ⟨by first | omega | exact Nat.le_refl _⟩, ⟨by repeat (first | (with_reducible first | exact HB.out | apply below_alloc | apply pw_below_drewN | apply below_drew1) | exact HB.out)⟩⟩
     ·rw [if_neg c10] at H
      have c10b0 : (a0 == 5) = false := beq_eq_false_iff_ne.mpr c10
      have c10b1 : (a0 != 5) = true := bne_iff_ne.mpr c10
      have H' := Aside0.mk H
      clear H
      go_wp2
      go_meet
      case rel => exact ⟨_, ((a0 == 12)), (by first | rfl | (simp; done) | (simp [*]; done)), H', ⟨by first | omega | exact Nat.le_refl _⟩, ⟨by repeat (first | (with_reducible first | exact HB.out | apply below_alloc | apply pw_below_drewN | apply below_drew1) | exact HB.out)⟩⟩
   case rest =>
    clear HC8
    try clear c1
    try clear c2
    try clear c2b0
    try clear c2b1
    try clear p2
    try clear c5
    try clear c5b0
    try clear c5b1
    try clear c7
    try clear c9
    try clear c9b0
    try clear c9b1
    try clear c10
    try clear c10b0
    try clear c10b1
    obtain ⟨kq, x10_7, rfl, HA, HJ7, HB⟩ := hcut
    cases kq with
    | zero => exact absurd HA.out (by simp [rdata_parts.j0])
    | succ kj7 =>
     have H := HA.out
     clear HA
     simp only [rdata_parts.j0] at H
     by_cases c11 : x10_7 = true
     ·subst c11
      have H1 : (some (([(-1)] : List Int))) = some r := by rw [if_pos rfl] at H; exact H
      clear H
      have H := H1
      clear H1
      obtain ⟨y134, hy134⟩ : ∃ y_ : List Int, y_ = (([(-1)] : List Int)) := ⟨_, rfl⟩
      replace H : (some y134) = some r := by first | (rw [hy134]; with_reducible exact H) | (have H2_ := (Option.bind_some _ _).symm.trans H; rw [hy134]; with_reducible exact H2_) | (have H2_ := (Option.bind_some _ _).symm.trans H; with_reducible exact H2_) | with_reducible exact H | (rw [hy134]; exact H) | exact H
      have Ny134 := Aside0.mk hy134
      clear hy134
      obtain rfl := Option.some.inj H
      go_wp2_with (first | ((with_reducible refine gate_dst (N := 14) rfl ?_); refine Kd.R_lit (Kd.int .i64) _ 3 ?hg (N := 14) ?hd (xs := ([(-1)] : List Int)) (inner := [.int .i64 (-1)]) (ok := fun _ => True) (okp := fun _ => True) ?hr ?hp (fun _ hk => hk) trivial (Below.refl _ _) (Nat.le_refl _) (by simp) ?_; (case hd => rfl); (case hg => rfl); (case hr => first | (go_simp; done) | (go_simp; rfl)); (case hp => exact (Reps.one (show Kd.M (Kd.int .i64) _ _ _ (-1) [.int .i64 (-1)] from rfl) (Reps.none _ _))); intro v135 w12 ho13 hb hg_ hnew_; clear hg_ hnew_; (first | rw [← Ny134.out] at ho13 | (simp only [Int.reduceToNat] at ho13; rw [← Ny134.out] at ho13)); have n0_ := Aside0.mk (Kd.R_lower ho13 (below_size (by repeat (first | (with_reducible first | exact HB.out | apply below_alloc | apply pw_below_drewN | apply below_drew1) | exact HB.out)))); have n1_ := Aside0.mk (below_step (by repeat (first | (with_reducible first | exact HB.out | apply below_alloc | apply pw_below_drewN | apply below_drew1) | exact HB.out)) hb); clear HB; have HO136 := n0_; have HB := n1_; clear n0_ n1_; clear hb ho13))
      go_ret
      exact ⟨_, by first | rfl | (simp [errW_none, errW_some] <;> rfl) | (simp [*, errW_none, errW_some] <;> rfl), by (with_reducible repeat (first | apply Kd.R_alloc | apply Kd.R_drewN | apply Kd.R_drew)); exact HO136.out, by repeat (first | (with_reducible first | exact HB.out | apply below_alloc | apply pw_below_drewN | apply below_drew1) | exact HB.out)⟩
     ·replace c11 := Bool.eq_false_iff.mpr c11
      subst c11
      have H1 : (if a0 = 15 then (some (([2, (-1)] : List Int))) else (if a0 = 6 then (some (([(-1), (-1), 4, 4, 4, 4, 4] : List Int))) else (if a0 = 16 then (some (([(-3)] : List Int))) else (if a0 = 33 then (some (([2, 2, 2, (-2)] : List Int))) else (some (([(-4)] : List Int))))))) = some r := by rw [if_neg (show ¬ (false = true) by decide)] at H; exact H
      clear H
      have H := H1
      clear H1
      by_cases c14 : a0 = 15
      ·rw [if_pos c14] at H
       have c14b0 : (a0 == 15) = true := beq_iff_eq.mpr c14
       have c14b1 : (a0 != 15) = false := bne_eq_false_iff_eq.mpr c14
       clear c14
       obtain ⟨y137, hy137⟩ : ∃ y_ : List Int, y_ = (([2, (-1)] : List Int)) := ⟨_, rfl⟩
       replace H : (some y137) = some r := by first | (rw [hy137]; with_reducible exact H) | (have H2_ := (Option.bind_some _ _).symm.trans H; rw [hy137]; with_reducible exact H2_) | (have H2_ := (Option.bind_some _ _).symm.trans H; with_reducible exact H2_) | with_reducible exact H | (rw [hy137]; exact H) | exact H
       have Ny137 := Aside0.mk hy137
       clear hy137
       obtain rfl := Option.some.inj H
       go_wp2_with (first | ((with_reducible refine gate_dst (N := 17) rfl ?_); refine Kd.R_lit (Kd.int .i64) _ 3 ?hg (N := 17) ?hd (xs := ([2, (-1)] : List Int)) (inner := [.int .i64 2, .int .i64 (-1)]) (ok := fun _ => True) (okp := fun _ => True) ?hr ?hp (fun _ hk => hk) trivial (Below.refl _ _) (Nat.le_refl _) (by simp) ?_; (case hd => rfl); (case hg => rfl); (case hr => first | (go_simp; done) | (go_simp; rfl)); (case hp => exact (Reps.one (show Kd.M (Kd.int .i64) _ _ _ 2 [.int .i64 2] from rfl) (Reps.one (show Kd.M (Kd.int .i64) _ _ _ (-1) [.int .i64 (-1)] from rfl) (Reps.none _ _)))); intro v138 w15 ho16 hb hg_ hnew_; clear hg_ hnew_; (first | rw [← Ny137.out] at ho16 | (simp only [Int.reduceToNat] at ho16; rw [← Ny137.out] at ho16)); have n0_ := Aside0.mk (Kd.R_lower ho16 (below_size (by repeat (first | (with_reducible first | exact HB.out | apply below_alloc | apply pw_below_drewN | apply below_drew1) | exact HB.out)))); have n1_ := Aside0.mk (below_step (by repeat (first | (with_reducible first | exact HB.out | apply below_alloc | apply pw_below_drewN | apply below_drew1) | exact HB.out)) hb); clear HB; have HO139 := n0_; have HB := n1_; clear n0_ n1_; clear hb ho16))
       go_ret
       exact ⟨_, by first | rfl | (simp [errW_none, errW_some] <;> rfl) | (simp [*, errW_none, errW_some] <;> rfl), by (with_reducible repeat (first | apply Kd.R_alloc | apply Kd.R_drewN | apply Kd.R_drew)); exact HO139.out, by repeat (first | (with_reducible first | exact HB.out | apply below_alloc | apply pw_below_drewN | apply below_drew1) | exact HB.out)⟩
      ·rw [if_neg c14] at H
       have c14b0 : (a0 == 15) = false := beq_eq_false_iff_ne.mpr c14
       have c14b1 : (a0 != 15) = true := bne_iff_ne.mpr c14
       by_cases c17 : a0 = 6
       ·rw [if_pos c17] at H
        have c17b0 : (a0 == 6) = true := beq_iff_eq.mpr c17
        have c17b1 : (a0 != 6) = false := bne_eq_false_iff_eq.mpr c17
        clear c17
        obtain ⟨y140, hy140⟩ : ∃ y_ : List Int, y_ = (([(-1), (-1), 4, 4, 4, 4, 4] : List Int)) := ⟨_, rfl⟩
        replace H : (some y140) = some r := by first | (rw [hy140]; with_reducible exact H) | (have H2_ := (Option.bind_some _ _).symm.trans H; rw [hy140]; with_reducible exact H2_) | (have H2_ := (Option.bind_some _ _).symm.trans H; with_reducible exact H2_) | with_reducible exact H | (rw [hy140]; exact H) | exact H
        have Ny140 := Aside0.mk hy140
        clear hy140
        obtain rfl := Option.some.inj H
        go_wp2_with (first | ((with_reducible refine gate_dst (N := 20) rfl ?_); refine Kd.R_lit (Kd.int .i64) _ 3 ?hg (N := 20) ?hd (xs := ([(-1), (-1), 4, 4, 4, 4, 4] : List Int)) (inner := [.int .i64 (-1), .int .i64 (-1), .int .i64 4, .int .i64 4, .int .i64 4, .int .i64 4, .int .i64 4]) (ok := fun _ => True) (okp := fun _ => True) ?hr ?hp (fun _ hk => hk) trivial (Below.refl _ _) (Nat.le_refl _) (by simp) ?_; (case hd => rfl); (case hg => rfl); (case hr => first | (go_simp; done) | (go_simp; rfl)); (case hp => exact (Reps.one (show Kd.M (Kd.int .i64) _ _ _ (-1) [.int .i64 (-1)] from rfl) (Reps.one (show Kd.M (Kd.int .i64) _ _ _ (-1) [.int .i64 (-1)] from rfl) (Reps.one (show Kd.M (Kd.int .i64) _ _ _ 4 [.int .i64 4] from rfl) (Reps.one (show Kd.M (Kd.int .i64) _ _ _ 4 [.int .i64 4] from rfl) (Reps.one (show Kd.M (Kd.int .i64) _ _ _ 4 [.int .i64 4] from rfl) (Reps.one (show Kd.M (Kd.int .i64) _ _ _ 4 [.int .i64 4] from rfl) (Reps.one (show Kd.M (Kd.int .i64) _ _ _ 4 [.int .i64 4] from rfl) (Reps.none _ _))))))))); intro v141 w18 ho19 hb hg_ hnew_; clear hg_ hnew_; (first | rw [← Ny140.out] at ho19 | (simp only [Int.reduceToNat] at ho19; rw [← Ny140.out] at ho19)); have n0_ := Aside0.mk (Kd.R_lower ho19 (below_size (by repeat (first | (with_reducible first | exact HB.out | apply below_alloc | apply pw_below_drewN | apply below_drew1) | exact HB.out)))); have n1_ := Aside0.mk (below_step (by repeat (first | (with_reducible first | exact HB.out | apply below_alloc | apply pw_below_drewN | apply below_drew1) | exact HB.out)) hb); clear HB; have HO142 := n0_; have HB := n1_; clear n0_ n1_; clear hb ho19))
        go_ret
        exact ⟨_, by first | rfl | (simp [errW_none, errW_some] <;> rfl) | (simp [*, errW_none, errW_some] <;> rfl), by (with_reducible repeat (first | apply Kd.R_alloc | apply Kd.R_drewN | apply Kd.R_drew)); exact HO142.out, by repeat (first | (with_reducible first | exact HB.out | apply below_alloc | apply pw_below_drewN | apply below_drew1) | exact HB.out)⟩
       ·rw [if_neg c17] at H
        have c17b0 : (a0 == 6) = false := beq_eq_false_iff_ne.mpr c17
        have c17b1 : (a0 != 6) = true := bne_iff_ne.mpr c17
        by_cases c20 : a0 = 16
        ·rw [if_pos c20] at H
         have c20b0 : (a0 == 16) = true := beq_iff_eq.mpr c20
         have c20b1 : (a0 != 16) = false := bne_eq_false_iff_eq.mpr c20
         clear c20
         obtain ⟨y143, hy143⟩ : ∃ y_ : List Int, y_ = (([(-3)] : List Int)) := ⟨_, rfl⟩
         replace H : (some y143) = some r := by first | (rw [hy143]; with_reducible exact H) | (have H2_ := (Option.bind_some _ _).symm.trans H; rw [hy143]; with_reducible exact H2_) | (have H2_ := (Option.bind_some _ _).symm.trans H; with_reducible exact H2_) | with_reducible exact H | (rw [hy143]; exact H) | exact H
         have Ny143 := Aside0.mk hy143
         clear hy143
         obtain rfl := Option.some.inj H
         go_wp2_with (first | ((with_reducible refine gate_dst (N := 23) rfl ?_); refine Kd.R_lit (Kd.int .i64) _ 3 ?hg (N := 23) ?hd (xs := ([(-3)] : List Int)) (inner := [.int .i64 (-3)]) (ok := fun _ => True) (okp := fun _ => True) ?hr ?hp (fun _ hk => hk) trivial (Below.refl _ _) (Nat.le_refl _) (by simp) ?_; (case hd => rfl); (case hg => rfl); (case hr => first | (go_simp; done) | (go_simp; rfl)); (case hp => exact (Reps.one (show Kd.M (Kd.int .i64) _ _ _ (-3) [.int .i64 (-3)] from rfl) (Reps.none _ _))); intro v144 w21 ho22 hb hg_ hnew_; clear hg_ hnew_; (first | rw [← Ny143.out] at ho22 | (simp only [Int.reduceToNat] at ho22; rw [← Ny143.out] at ho22)); have n0_ := Aside0.mk (Kd.R_lower ho22 (below_size (by repeat (first | (with_reducible first | exact HB.out | apply below_alloc | apply pw_below_drewN | apply below_drew1) | exact HB.out)))); have n1_ := Aside0.mk (below_step (by repeat (first | (with_reducible first | exact HB.out | apply below_alloc | apply pw_below_drewN | apply below_drew1) | exact HB.out)) hb); clear HB; have HO145 := n0_; have HB := n1_; clear n0_ n1_; clear hb ho22))
         go_ret
         exact ⟨_, by first | rfl | (simp [errW_none, errW_some] <;> rfl) | (simp [*, errW_none, errW_some] <;> rfl), by (with_reducible repeat (first | apply Kd.R_alloc | apply Kd.R_drewN | apply Kd.R_drew)); exact HO145.out, by repeat (first | (with_reducible first | exact HB.out | apply below_alloc | apply pw_below_drewN | apply below_drew1) | exact HB.out)⟩
        ·rw [if_neg c20] at H
         have c20b0 : (a0 == 16) = false := beq_eq_false_iff_ne.mpr c20
         have c20b1 : (a0 != 16) = true := bne_iff_ne.mpr c20
         by_cases c23 : a0 = 33
         ·rw [if_pos c23] at H
          have c23b0 : (a0 == 33) = true := beq_iff_eq.mpr c23
          have c23b1 : (a0 != 33) = false := bne_eq_false_iff_eq.mpr c23
          clear c23
          obtain ⟨y146, hy146⟩ : ∃ y_ : List Int, y_ = (([2, 2, 2, (-2)] : List Int)) := ⟨_, rfl⟩
          replace H : (some y146) = some r := by first | (rw [hy146]; with_reducible exact H) | (have H2_ := (Option.bind_some _ _).symm.trans H; rw [hy146]; with_reducible exact H2_) | (have H2_ := (Option.bind_some _ _).symm.trans H; with_reducible exact H2_) | with_reducible exact H | (rw [hy146]; exact H) | exact H
          have Ny146 := Aside0.mk hy146
          clear hy146
          obtain rfl := Option.some.inj H
          go_wp2_with (first | ((with_reducible refine gate_dst (N := 26) rfl ?_); refine Kd.R_lit (Kd.int .i64) _ 3 ?hg (N := 26) ?hd (xs := ([2, 2, 2, (-2)] : List Int)) (inner := [.int .i64 2, .int .i64 2, .int .i64 2, .int .i64 (-2)]) (ok := fun _ => True) (okp := fun _ => True) ?hr ?hp (fun _ hk => hk) trivial (Below.refl _ _) (Nat.le_refl _) (by simp) ?_; (case hd => rfl); (case hg => rfl); (case hr => first | (go_simp; done) | (go_simp; rfl)); (case hp => exact (Reps.one (show Kd.M (Kd.int .i64) _ _ _ 2 [.int .i64 2] from rfl) (Reps.one (show Kd.M (Kd.int .i64) _ _ _ 2 [.int .i64 2] from rfl) (Reps.one (show Kd.M (Kd.int .i64) _ _ _ 2 [.int .i64 2] from rfl) (Reps.one (show Kd.M (Kd.int .i64) _ _ _ (-2) [.int .i64 (-2)] from rfl) (Reps.none _ _)))))); intro v147 w24 ho25 hb hg_ hnew_; clear hg_ hnew_; (first | rw [← Ny146.out] at ho25 | (simp only [Int.reduceToNat] at ho25; rw [← Ny146.out] at ho25)); have n0_ := Aside0.mk (Kd.R_lower ho25 (below_size (by repeat (first | (with_reducible first | exact HB.out | apply below_alloc | apply pw_below_drewN | apply below_drew1) | exact HB.out)))); have n1_ := Aside0.mk (below_step (by repeat (first | (with_reducible first | exact HB.out | apply below_alloc | apply pw_below_drewN | apply below_drew1) | exact HB.out)) hb); clear HB; have HO148 := n0_; have HB := n1_; clear n0_ n1_; clear hb ho25))
          go_ret
          exact ⟨_, by first | rfl | (simp [errW_none, errW_some] <;> rfl) | (simp [*, errW_none, errW_some] <;> rfl), by (with_reducible repeat (first | apply Kd.R_alloc | apply Kd.R_drewN | apply Kd.R_drew)); exact HO148.out, by repeat (first | (with_reducible first | exact HB.out | apply below_alloc | apply pw_below_drewN | apply below_drew1) | exact HB.out)⟩
         ·rw [if_neg c23] at H
          have c23b0 : (a0 == 33) = false := beq_eq_false_iff_ne.mpr c23
          have c23b1 : (a0 != 33) = true := bne_iff_ne.mpr c23
          obtain ⟨y149, hy149⟩ : ∃ y_ : List Int, y_ = (([(-4)] : List Int)) := ⟨_, rfl⟩
          replace H : (some y149) = some r := by first | (rw [hy149]; with_reducible exact H) | (have H2_ := (Option.bind_some _ _).symm.trans H; rw [hy149]; with_reducible exact H2_) | (have H2_ := (Option.bind_some _ _).symm.trans H; with_reducible exact H2_) | with_reducible exact H | (rw [hy149]; exact H) | exact H
          have Ny149 := Aside0.mk hy149
          clear hy149
          obtain rfl := Option.some.inj H
          go_wp2_with (first | ((with_reducible refine gate_dst (N := 27) rfl ?_); refine Kd.R_lit (Kd.int .i64) _ 3 ?hg (N := 27) ?hd (xs := ([(-4)] : List Int)) (inner := [.int .i64 (-4)]) (ok := fun _ => True) (okp := fun _ => True) ?hr ?hp (fun _ hk => hk) trivial (Below.refl _ _) (Nat.le_refl _) (by simp) ?_; (case hd => rfl); (case hg => rfl); (case hr => first | (go_simp; done) | (go_simp; rfl)); (case hp => exact (Reps.one (show Kd.M (Kd.int .i64) _ _ _ (-4) [.int .i64 (-4)] from rfl) (Reps.none _ _))); intro v150 w26 ho27 hb hg_ hnew_; clear hg_ hnew_; (first | rw [← Ny149.out] at ho27 | (simp only [Int.reduceToNat] at ho27; rw [← Ny149.out] at ho27)); have n0_ := Aside0.mk (Kd.R_lower ho27 (below_size (by repeat (first | (with_reducible first | exact HB.out | apply below_alloc | apply pw_below_drewN | apply below_drew1) | exact HB.out)))); have n1_ := Aside0.mk (below_step (by repeat (first | (with_reducible first | exact HB.out | apply below_alloc | apply pw_below_drewN | apply below_drew1) | exact HB.out)) hb); clear HB; have HO151 := n0_; have HB := n1_; clear n0_ n1_; clear hb ho27))
          go_ret
          exact ⟨_, by first | rfl | (simp [errW_none, errW_some] <;> rfl) | (simp [*, errW_none, errW_some] <;> rfl), by (with_reducible repeat (first | apply Kd.R_alloc | apply Kd.R_drewN | apply Kd.R_drew)); exact HO151.out, by repeat (first | (with_reducible first | exact HB.out | apply below_alloc | apply pw_below_drewN | apply below_drew1) | exact HB.out)⟩
def name_Fold.f (a0 : ByteArray) : Option (ByteArray) := (name_Right.f a0).bind fun t152 => (if t152 = true then ((name_folded.f a0).bind fun t153 => (some t153)) else (some (⟨#[]⟩ : ByteArray)))
set_option maxHeartbeats 8000000 in
set_option maxRecDepth 100000 in
theorem name_Fold.calls (a0 : ByteArray) (r : ByteArray) (w : World) (h : name_Fold.f a0 = some r) :
  Calls Try.prog 46 #[.string a0] w fun e w' => e = .returned (.string r) ∧ Below w.heap.size w w' := by
 have HB := Aside0.mk (Below.refl w.heap.size w)
 have H : ((name_Right.f a0).bind fun t152 => (if t152 = true then ((name_folded.f a0).bind fun t153 => (some t153)) else (some (⟨#[]⟩ : ByteArray)))) = some r := h
 clear h
 replace H := Option.bind_eq_some_iff.mp H
 obtain ⟨t152, A20, H⟩ := H
 replace H : (if t152 = true then ((name_folded.f a0).bind fun t153 => (some t153)) else (some (⟨#[]⟩ : ByteArray))) = some r := H
 have A2 := Aside0.mk A20
 clear A20
 by_cases c3 : t152 = true
 ·subst c3
  have H1 : ((name_folded.f a0).bind fun t153 => (some t153)) = some r := by rw [if_pos rfl] at H; exact H
  clear H
  have H := H1
  clear H1
  replace H := Option.bind_eq_some_iff.mp H
  obtain ⟨t153, A40, H⟩ := H
  replace H : (some t153) = some r := H
  have A4 := Aside0.mk A40
  clear A40
  obtain rfl := Option.some.inj H
  go_enter Try.func46, Try.ntmps46
  go_wp2_with (first | ((with_reducible refine gate_callee (f := 58) rfl ?_); refine goesL_ (some 4) rfl rfl Try.func58 (by kernel_rfl) rfl #[.string a0] rfl (by (try simp only [List.map_toArray, List.map_cons, List.map_nil]); first | done | rfl | (simp only [List.length_drop, List.length_take]; rfl)) ?_; (with_reducible refine (name_Right.calls a0 true _ A2.out).mono ?_); rintro e w5 ⟨rfl, hb⟩; refine ⟨_, rfl, ?_⟩; have n0_ := Aside0.mk (below_step (by repeat (first | (with_reducible first | exact HB.out | apply below_alloc | apply pw_below_drewN | apply below_drew1) | exact HB.out)) hb); clear HB; have HB := n0_; clear n0_; (try clear hb); (try clear hb2); (try clear hk); (try clear hi)) | ((with_reducible refine gate_callee (f := 60) rfl ?_); refine goesL_ (some 7) rfl rfl Try.func60 (by kernel_rfl) rfl #[.string a0] rfl (by (try simp only [List.map_toArray, List.map_cons, List.map_nil]); first | done | rfl | (simp only [List.length_drop, List.length_take]; rfl)) ?_; (with_reducible refine (name_folded.calls a0 t153 _ A4.out).mono ?_); rintro e w6 ⟨rfl, hb⟩; refine ⟨_, rfl, ?_⟩; have n0_ := Aside0.mk (below_step (by repeat (first | (with_reducible first | exact HB.out | apply below_alloc | apply pw_below_drewN | apply below_drew1) | exact HB.out)) hb); clear HB; have HB := n0_; clear n0_; (try clear hb); (try clear hb2); (try clear hk); (try clear hi)))
  go_ret
  exact ⟨by first | rfl | (simp [errW_none, errW_some] <;> rfl) | (simp [*, errW_none, errW_some] <;> rfl), by repeat (first | (with_reducible first | exact HB.out | apply below_alloc | apply pw_below_drewN | apply below_drew1) | exact HB.out)⟩
 ·replace c3 := Bool.eq_false_iff.mpr c3
  subst c3
  have H1 : (some (⟨#[]⟩ : ByteArray)) = some r := by rw [if_neg (show ¬ (false = true) by decide)] at H; exact H
  clear H
  have H := H1
  clear H1
  obtain rfl := Option.some.inj H
  go_enter Try.func46, Try.ntmps46
  go_wp2_with (first | ((with_reducible refine gate_callee (f := 58) rfl ?_); refine goesL_ (some 4) rfl rfl Try.func58 (by kernel_rfl) rfl #[.string a0] rfl (by (try simp only [List.map_toArray, List.map_cons, List.map_nil]); first | done | rfl | (simp only [List.length_drop, List.length_take]; rfl)) ?_; (with_reducible refine (name_Right.calls a0 false _ A2.out).mono ?_); rintro e w7 ⟨rfl, hb⟩; refine ⟨_, rfl, ?_⟩; have n0_ := Aside0.mk (below_step (by repeat (first | (with_reducible first | exact HB.out | apply below_alloc | apply pw_below_drewN | apply below_drew1) | exact HB.out)) hb); clear HB; have HB := n0_; clear n0_; (try clear hb); (try clear hb2); (try clear hk); (try clear hi)))
  go_ret
  exact ⟨by first | rfl | (simp [errW_none, errW_some] <;> rfl) | (simp [*, errW_none, errW_some] <;> rfl), by repeat (first | (with_reducible first | exact HB.out | apply below_alloc | apply pw_below_drewN | apply below_drew1) | exact HB.out)⟩
def slices_Reverse_string_string.l0 : Nat → List ByteArray → Int → Int → Option (List ByteArray)
 | 0, _, _, _ => none
 | k + 1, x0, x2, x3 => if x2 < x3 then (if 0 ≤ x3 then (if x3 < (x0.length : Int) then (if 0 ≤ x2 then (if x2 < (x0.length : Int) then (slices_Reverse_string_string.l0 k ((x0.set (x2 : Int).toNat (rdOf ByteArray.empty x0 x3)).set (x3 : Int).toNat (rdOf ByteArray.empty x0 x2)) (wrap64 (x2 + 1)) (wrap64 (x3 - 1))) else (none)) else (none)) else (none)) else (none)) else (some x0)
def slices_Reverse_string_string.f (k : Nat) (l0 : List ByteArray) : Option (List ByteArray) := slices_Reverse_string_string.l0 k l0 0 (wrap64 ((l0.length : Int) - 1))
theorem slices_Reverse_string_string.mono_l : ∀ k, (∀ y0 y1 y2, LeO (slices_Reverse_string_string.l0 k y0 y1 y2) (slices_Reverse_string_string.l0 (k + 1) y0 y1 y2))
 | 0 => fun _ _ _ r h => by simp [slices_Reverse_string_string.l0] at h
 | k + 1 => by
  have ih0 := slices_Reverse_string_string.mono_l k
  ·intro y0 y1 y2
   unfold slices_Reverse_string_string.l0
   repeat' first
   | (with_reducible exact ih0 _ _ _)
   | (with_reducible exact LeO.refl _)
   | (with_reducible exact LeO.none _)
   | (with_reducible refine LeO.ite ?_ ?_)
   | (with_reducible refine LeO.bind ?_ (fun _ => ?_))
   | exact ih0 _ _ _
   | exact LeO.none _
   | refine LeO.ite ?_ ?_
   | refine LeO.bind ?_ (fun _ => ?_)
theorem slices_Reverse_string_string.mono : ∀ a0 k, LeO (slices_Reverse_string_string.f k a0) (slices_Reverse_string_string.f (k + 1) a0) := by
 intro a0 k
 have ih0 := slices_Reverse_string_string.mono_l k
 unfold slices_Reverse_string_string.f
 repeat' first
   | (with_reducible exact ih0 _ _ _)
   | (with_reducible exact LeO.refl _)
   | (with_reducible exact LeO.none _)
   | (with_reducible refine LeO.ite ?_ ?_)
   | (with_reducible refine LeO.bind ?_ (fun _ => ?_))
   | exact ih0 _ _ _
   | exact LeO.none _
   | refine LeO.ite ?_ ?_
   | refine LeO.bind ?_ (fun _ => ?_)
def slices_Reverse_string_string.T3 : Bool × List (List Nat × List Nat) := (true, [([], []), ([], []), ([], []), ([], []), ([], []), ([], []), ([4, 5], [4, 5]), ([6], [6]), ([], []), ([], []), ([8, 9], [8, 9]), ([10], [10]), ([0, 1, 0, 1, 4, 5, 6, 7, 11], [0, 1]), ([12, 7, 0, 1, 4, 5, 6, 7, 11], [7, 12]), ([2, 3, 0, 1, 2, 3, 4, 5, 6, 7, 8, 9, 10, 11, 12, 13], [2, 3]), ([14, 11, 13, 0, 1, 2, 3, 4, 5, 6, 7, 8, 9, 10, 11, 12, 13], [11, 14])])
def slices_Reverse_string_string.B3 : List Nat := [0, 0, 0, 0, 0, 0, 48, 112, 0, 0, 768, 1792, 4083, 8179, 16383, 32767]
theorem slices_Reverse_string_string.tab3 : rtab .any (opsOf Try.f47 3) = slices_Reverse_string_string.T3 := by kernel_rfl
theorem slices_Reverse_string_string.bits3 : waitsOk slices_Reverse_string_string.T3.2 slices_Reverse_string_string.B3 = true := by kernel_rfl
set_option maxHeartbeats 8000000 in
set_option maxRecDepth 100000 in
theorem slices_Reverse_string_string.calls (k : Nat) (P0_ : Nat → Prop) (u9000_ : Value) (l0 : List ByteArray) (r : List ByteArray) (w0 w : World) (hB : Below w0.heap.size w0 w) (ho0 : Kd.R Kd.string 9 w w0.heap.size P0_ u9000_ l0) (h : slices_Reverse_string_string.f k l0 = some r) :
  Calls Try.prog 47 #[u9000_] w fun e w' => e = .returned (.tuple #[]) ∧ Kd.R Kd.string 9 w' w0.heap.size (fun k_ => (P0_ k_ ∨ w.heap.size ≤ k_)) u9000_ r ∧ Below w0.heap.size w0 w' ∧ Kept w w' (fun k_ => P0_ k_) := by
 have HO0 := Aside0.mk (show Kd.R Kd.string 9 w w0.heap.size (fun k_ => (P0_ k_ ∨ w.heap.size ≤ k_)) u9000_ l0 from Kd.R_mono ho0 (fun k_ hk => (.inl hk)))
 have HK := Aside0.mk (Kept.refl w (fun k_ => P0_ k_))
 have HW0 := Aside0.mk hB.size
 have HB := Aside0.mk hB
 clear hB
 have H : (slices_Reverse_string_string.l0 k l0 0 (wrap64 ((l0.length : Int) - 1))) = some r := h
 clear h
 have H' := Aside0.mk H
 clear H
 obtain ⟨Ao2, co2, eo2⟩ := Kd.R_slice HO0.out
 subst eo2
 go_enter Try.func47, Try.ntmps47
 go_wp2
 go_loopg [2, 3] k (fun kq v2 v3 w' => ∃ (x0_1 : List ByteArray) (x2_1 : Int) (x3_1 : Int), v2 = .int .i64 x2_1 ∧ v3 = .int .i64 x3_1 ∧ Aside0 (slices_Reverse_string_string.l0 kq x0_1 x2_1 x3_1 = some r) ∧ Aside0 (kq ≤ k) ∧ Aside0 (Kd.R Kd.string 9 w' w0.heap.size (fun k_ => (P0_ k_ ∨ w.heap.size ≤ k_)) (.slice Ao2 l0.length co2) x0_1) ∧ Aside0 (Kept w w' (fun k_ => P0_ k_)) ∧ Aside0 (Below w0.heap.size w0 w'))
 case atStart => exact ⟨(l0), (0), (wrap64 ((l0.length : Int) - 1)), (by first | rfl | (simp; done) | (simp [*]; done)), (by first | rfl | (simp; done) | (simp [*]; done)), H', ⟨Nat.le_refl _⟩, ⟨by (with_reducible repeat (first | apply Kd.R_alloc | apply Kd.R_drewN | apply Kd.R_drew)); exact HO0.out⟩, ⟨by repeat (first | (with_reducible first | exact HK.out | apply Kept.alloc | apply Kept.drewN | apply Kept.drew) | exact HK.out)⟩, ⟨by repeat (first | (with_reducible first | exact HB.out | apply below_alloc | apply pw_below_drewN | apply below_drew1) | exact HB.out)⟩⟩
 case round =>
  clear H'
  try clear p2
  obtain ⟨x0_1, x2_1, x3_1, rfl, rfl, HA, HK1, HO_0, HK, HB⟩ := hrel
  have hl0_1 := (Kd.R_reads' HO_0.out).1
  rw [hl0_1] at HO_0
  (try simp only [hl0_1])
  cases gk with
  | zero => exact absurd HA.out (by simp [slices_Reverse_string_string.l0])
  | succ k1 =>
   have H := HA.out
   clear HA
   simp only [slices_Reverse_string_string.l0] at H
   by_cases c3 : x2_1 < x3_1
   ·rw [if_pos c3] at H
    have c3b0 : decide (x2_1 < x3_1) = true := decide_eq_true c3
    clear c3
    by_cases c4 : 0 ≤ x3_1
    ·rw [if_pos c4] at H
     have c4b0 : decide (0 ≤ x3_1) = true := decide_eq_true c4
     clear c4
     by_cases c5 : x3_1 < (x0_1.length : Int)
     ·rw [if_pos c5] at H
      have c5b0 : decide (x3_1 < (x0_1.length : Int)) = true := decide_eq_true c5
      clear c5
      by_cases c6 : 0 ≤ x2_1
      ·rw [if_pos c6] at H
       have c6b0 : decide (0 ≤ x2_1) = true := decide_eq_true c6
       clear c6
       by_cases c7 : x2_1 < (x0_1.length : Int)
       ·rw [if_pos c7] at H
        have c7b0 : decide (x2_1 < (x0_1.length : Int)) = true := decide_eq_true c7
        clear c7
        obtain ⟨y156, hy156⟩ : ∃ y_ : List ByteArray, y_ = (x0_1.set (x2_1 : Int).toNat (rdOf ByteArray.empty x0_1 x3_1)) := ⟨_, rfl⟩
        replace H : (slices_Reverse_string_string.l0 k1 (y156.set (x3_1 : Int).toNat (rdOf ByteArray.empty x0_1 x2_1)) (wrap64 (x2_1 + 1)) (wrap64 (x3_1 - 1))) = some r := by first | (rw [hy156]; with_reducible exact H) | (have H2_ := (Option.bind_some _ _).symm.trans H; rw [hy156]; with_reducible exact H2_) | (have H2_ := (Option.bind_some _ _).symm.trans H; with_reducible exact H2_) | with_reducible exact H | (rw [hy156]; exact H) | exact H
        have Ny156 := Aside0.mk hy156
        clear hy156
        obtain ⟨y157, hy157⟩ : ∃ y_ : List ByteArray, y_ = (y156.set (x3_1 : Int).toNat (rdOf ByteArray.empty x0_1 x2_1)) := ⟨_, rfl⟩
        replace H : (slices_Reverse_string_string.l0 k1 y157 (wrap64 (x2_1 + 1)) (wrap64 (x3_1 - 1))) = some r := by first | (rw [hy157]; with_reducible exact H) | (have H2_ := (Option.bind_some _ _).symm.trans H; rw [hy157]; with_reducible exact H2_) | (have H2_ := (Option.bind_some _ _).symm.trans H; with_reducible exact H2_) | with_reducible exact H | (rw [hy157]; exact H) | exact H
        have Ny157 := Aside0.mk hy157
        clear hy157
        have H' := Aside0.mk H
        clear H
        try go_wp2
        have n0_ := Aside0.mk (Kd.R_drew HO_0.out)
        have n1_ := Aside0.mk (Kept.drew HK.out)
        have n2_ := Aside0.mk (below_drew1 HB.out)
        clear HO_0
        clear HK
        clear HB
        have HO_0 := n0_
        have HK := n1_
        have HB := n2_
        clear n0_ n1_ n2_
        have p154 : 0 ≤ (x3_1 : Int) := of_decide_eq_true (by first | (with_reducible assumption) | assumption)
        have q154 : x3_1 < (x0_1.length : Int) := of_decide_eq_true (by first | (with_reducible assumption) | assumption)
        obtain ⟨ad154, e154, hx154_0⟩ := Kd.at_string (Kd.R_reads' HO_0.out).2.2 x3_1 p154 q154
        cases e154
        replace p154 := eq_true p154
        replace q154 := eq_true q154
        have p155 : 0 ≤ (x2_1 : Int) := of_decide_eq_true (by first | (with_reducible assumption) | assumption)
        have q155 : x2_1 < (x0_1.length : Int) := of_decide_eq_true (by first | (with_reducible assumption) | assumption)
        obtain ⟨ad155, e155, hx155_0⟩ := Kd.at_string (Kd.R_reads' HO_0.out).2.2 x2_1 p155 q155
        obtain rfl : ad154 = ad155 := (by injection e155)
        replace p155 := eq_true p155
        replace q155 := eq_true q155
        have p8 : 0 ≤ (x2_1 : Int) := of_decide_eq_true (by first | (with_reducible assumption) | assumption)
        have q8 : (x2_1 : Int) < ((x0_1.length : Int) : Int) := of_decide_eq_true (by first | (with_reducible assumption) | assumption)
        obtain ⟨go8, co8, eo8, gb8, gl8, cl8, HG8⟩ := Kd.R_form HO_0.out (by omega)
        (first | cases eo8 | (injection eo8 with ea_ en_ ec_; (first | subst ea_ | (injection ea_ with ea_; subst ea_)); subst ec_; clear en_))
        have GB8 := Aside0.mk gb8
        have GG8 := Aside0.mk HG8
        clear gb8 gl8 HG8
        have HMgo8 := Aside0.mk (show (P0_ go8 ∨ w.heap.size ≤ go8) from (HO_0.out.1 _ rfl))
        (first | simp only [add_plain] at hx154_0 | skip)
        (first | simp only [add_plain] at hx155_0 | skip)
        obtain ⟨hx8_0, hf8_0⟩ := Kd.R_celln (⟨#[]⟩ : ByteArray) HO_0.out (x2_1 : Int) p8 q8
        replace p8 := eq_true p8
        replace q8 := eq_true q8
        have HP11 := Kd.R_putn HO_0.out (x2_1 : Int) (rdOf ByteArray.empty x0_1 x3_1)
        rw [← Ny156.out] at HP11
        have HQ11 := Aside0.mk HP11
        clear HP11
        have p9 : 0 ≤ (x3_1 : Int) := of_decide_eq_true (by first | (with_reducible assumption) | assumption)
        have q9 : (x3_1 : Int) < ((x0_1.length : Int) : Int) := of_decide_eq_true (by first | (with_reducible assumption) | assumption)
        obtain ⟨hx9_0, hf9_0⟩ := Kd.R_celln (⟨#[]⟩ : ByteArray) HQ11.out (x3_1 : Int) p9 q9
        replace p9 := eq_true p9
        replace q9 := eq_true q9
        have HP12 := Kd.R_putn HQ11.out (x3_1 : Int) (rdOf ByteArray.empty x0_1 x2_1)
        rw [← Ny157.out] at HP12
        have HQ12 := Aside0.mk HP12
        clear HP12
        refine start_ (n := 16) (S := fun w' => w'.cell? ⟨go8, (x3_1).toNat, none⟩ = some (.string (rdOf ByteArray.empty x0_1 x3_1)) ∧ w'.cell? ⟨go8, (x2_1).toNat, none⟩ = some (.string (rdOf ByteArray.empty x0_1 x2_1))) (ds := [13, 15]) #[false, false, false, false, false, false, false, false, false, false, false, false, false, false, false, false] (by kernel_rfl) rfl rfl ⟨hx154_0, hx155_0⟩ (fun hHeld => ?_); refine with_tabW slices_Reverse_string_string.tab3 slices_Reverse_string_string.bits3 (fun HT_ HW_ => ?_)
        generalize wr.drew = w10 at HO_0 HK HB GG8 HQ11 HQ12 hf8_0 hf9_0 hx154_0 hx155_0 hx8_0 hx9_0 hHeld ⊢
        refine pure_ (i := 0) (N := some 14) (v := ?_) (a' := ?_) #[true, false, false, false, false, false, false, false, false, false, false, false, false, false, false, false] rfl rfl (any_of HT_.out (by kernel_rfl)) (fun _ _ _ h => h) (Or.inl ⟨by rfl, ?_⟩) ?_ ?_
        rotate_left
        ·intro w'
         go_simp
         with_reducible rfl
        rotate_left
        ·simp only [Act.put, List.setIfInBounds_toArray, List.set_cons_zero, List.set_cons_succ, i64_w, i32_w]
         rfl
        refine pure_ (i := 1) (N := some 15) (v := ?_) (a' := ?_) #[true, true, false, false, false, false, false, false, false, false, false, false, false, false, false, false] rfl rfl (any_of HT_.out (by kernel_rfl)) (fun _ _ _ h => h) (Or.inl ⟨by rfl, ?_⟩) ?_ ?_
        rotate_left
        ·intro w'
         go_simp
         with_reducible rfl
        rotate_left
        ·simp only [Act.put, List.setIfInBounds_toArray, List.set_cons_zero, List.set_cons_succ, i64_w, i32_w]
         rfl
        refine pure_ (i := 2) (N := some 16) (v := ?_) (a' := ?_) #[true, true, true, false, false, false, false, false, false, false, false, false, false, false, false, false] rfl rfl (any_of HT_.out (by kernel_rfl)) (fun _ _ _ h => h) (Or.inl ⟨by rfl, ?_⟩) ?_ ?_
        rotate_left
        ·intro w'
         go_simp
         with_reducible rfl
        rotate_left
        ·simp only [Act.put, List.setIfInBounds_toArray, List.set_cons_zero, List.set_cons_succ, i64_w, i32_w]
         rfl
        refine pure_ (i := 3) (N := some 17) (v := ?_) (a' := ?_) #[true, true, true, true, false, false, false, false, false, false, false, false, false, false, false, false] rfl rfl (any_of HT_.out (by kernel_rfl)) (fun _ _ _ h => h) (Or.inl ⟨by rfl, ?_⟩) ?_ ?_
        rotate_left
        ·intro w'
         go_simp
         with_reducible rfl
        rotate_left
        ·simp only [Act.put, List.setIfInBounds_toArray, List.set_cons_zero, List.set_cons_succ, i64_w, i32_w]
         rfl
        refine pure_ (i := 4) (N := some 18) (v := ?_) (a' := ?_) #[true, true, true, true, true, false, false, false, false, false, false, false, false, false, false, false] rfl rfl (any_of HT_.out (by kernel_rfl)) (fun _ _ _ h => h) (Or.inl ⟨by rfl, ?_⟩) ?_ ?_
        rotate_left
        ·intro w'
         go_simp
         with_reducible rfl
        rotate_left
        ·simp only [Act.put, List.setIfInBounds_toArray, List.set_cons_zero, List.set_cons_succ, i64_w, i32_w]
         rfl
        refine pure_ (i := 5) (N := some 19) (v := ?_) (a' := ?_) #[true, true, true, true, true, true, false, false, false, false, false, false, false, false, false, false] rfl rfl (any_of HT_.out (by kernel_rfl)) (fun _ _ _ h => h) (Or.inl ⟨by rfl, ?_⟩) ?_ ?_
        rotate_left
        ·intro w'
         go_simp
         with_reducible rfl
        rotate_left
        ·simp only [Act.put, List.setIfInBounds_toArray, List.set_cons_zero, List.set_cons_succ, i64_w, i32_w]
         rfl
        refine pure_ (i := 6) (N := some 20) (v := ?_) (a' := ?_) #[true, true, true, true, true, true, true, false, false, false, false, false, false, false, false, false] rfl rfl (any_of HT_.out (by kernel_rfl)) (fun _ _ _ h => h) (Or.inl ⟨by rfl, ?_⟩) ?_ ?_
        rotate_left
        ·intro w'
         go_simp
         with_reducible rfl
        rotate_left
        ·simp only [Act.put, List.setIfInBounds_toArray, List.set_cons_zero, List.set_cons_succ, i64_w, i32_w]
         rfl
        refine pure_ (i := 8) (N := some 22) (v := ?_) (a' := ?_) #[true, true, true, true, true, true, true, false, true, false, false, false, false, false, false, false] rfl rfl (any_of HT_.out (by kernel_rfl)) (fun _ _ _ h => h) (Or.inl ⟨by rfl, ?_⟩) ?_ ?_
        rotate_left
        ·intro w'
         go_simp
         with_reducible rfl
        rotate_left
        ·simp only [Act.put, List.setIfInBounds_toArray, List.set_cons_zero, List.set_cons_succ, i64_w, i32_w]
         rfl
        refine pure_ (i := 9) (N := some 23) (v := ?_) (a' := ?_) #[true, true, true, true, true, true, true, false, true, true, false, false, false, false, false, false] rfl rfl (any_of HT_.out (by kernel_rfl)) (fun _ _ _ h => h) (Or.inl ⟨by rfl, ?_⟩) ?_ ?_
        rotate_left
        ·intro w'
         go_simp
         with_reducible rfl
        rotate_left
        ·simp only [Act.put, List.setIfInBounds_toArray, List.set_cons_zero, List.set_cons_succ, i64_w, i32_w]
         rfl
        refine pure_ (i := 10) (N := some 24) (v := ?_) (a' := ?_) #[true, true, true, true, true, true, true, false, true, true, true, false, false, false, false, false] rfl rfl (any_of HT_.out (by kernel_rfl)) (fun _ _ _ h => h) (Or.inl ⟨by rfl, ?_⟩) ?_ ?_
        rotate_left
        ·intro w'
         go_simp
         with_reducible rfl
        rotate_left
        ·simp only [Act.put, List.setIfInBounds_toArray, List.set_cons_zero, List.set_cons_succ, i64_w, i32_w]
         rfl
        refine take_ (i := 7) (N := some 21) (v := ?_) (a' := ?_) #[true, true, true, true, true, true, true, true, true, true, true, false, false, false, false, false] rfl rfl (take_ofW HT_.out HW_.out (by kernel_rfl)) (fun _ _ _ h => h) (Or.inl ⟨by rfl, ?_⟩) hHeld ?_ ?_
        rotate_left
        ·rintro w' ⟨s0, s1⟩
         go_simp
         with_reducible rfl
        rotate_left
        ·simp only [Act.put, List.setIfInBounds_toArray, List.set_cons_zero, List.set_cons_succ, i64_w, i32_w]
         rfl
        refine take_ (i := 11) (N := some 25) (v := ?_) (a' := ?_) #[true, true, true, true, true, true, true, true, true, true, true, true, false, false, false, false] rfl rfl (take_ofW HT_.out HW_.out (by kernel_rfl)) (fun _ _ _ h => h) (Or.inl ⟨by rfl, ?_⟩) hHeld ?_ ?_
        rotate_left
        ·rintro w' ⟨s0, s1⟩
         go_simp
         with_reducible rfl
        rotate_left
        ·simp only [Act.put, List.setIfInBounds_toArray, List.set_cons_zero, List.set_cons_succ, i64_w, i32_w]
         rfl
        refine pure_ (i := 12) (N := some 26) (v := ?_) (a' := ?_) #[true, true, true, true, true, true, true, true, true, true, true, true, true, false, false, false] rfl rfl (any_of HT_.out (by kernel_rfl)) (fun _ _ _ h => h) (Or.inl ⟨by rfl, ?_⟩) ?_ ?_
        rotate_left
        ·intro w'
         go_simp
         with_reducible rfl
        rotate_left
        ·simp only [Act.put, List.setIfInBounds_toArray, List.set_cons_zero, List.set_cons_succ, i64_w, i32_w]
         rfl
        refine last_ (i := 13) (N := none) #[true, true, true, true, true, true, true, true, true, true, true, true, true, true, false, false] rfl rfl (one_of HT_.out (by kernel_rfl)) (by decide) (fun K hK => ?_)
        refine skip_ (w1 := ?_) (by rfl) rfl ?_ ?_
        rotate_left
        ·go_simp
         rfl
        refine hK.out _ _ ?_
        clear hK K
        refine pure_ (i := 14) (N := some 27) (v := ?_) (a' := ?_) #[true, true, true, true, true, true, true, true, true, true, true, true, true, true, true, false] rfl rfl (any_of HT_.out (by kernel_rfl)) (fun _ _ _ h => h) (Or.inl ⟨by rfl, ?_⟩) ?_ ?_
        rotate_left
        ·intro w'
         go_simp
         with_reducible rfl
        rotate_left
        ·simp only [Act.put, List.setIfInBounds_toArray, List.set_cons_zero, List.set_cons_succ, i64_w, i32_w]
         rfl
        refine last_ (i := 15) (N := none) #[true, true, true, true, true, true, true, true, true, true, true, true, true, true, true, true] rfl rfl (one_of HT_.out (by kernel_rfl)) (by decide) (fun K hK => ?_)
        refine skip_ (w1 := ?_) (by rfl) rfl ?_ ?_
        rotate_left
        ·go_simp
         rfl
        refine hK.out _ _ ?_
        clear hK K
        refine done_ (done_of HT_.out (by kernel_rfl)) ?_
        try go_wp2
        (try simp only [← hl0_1])
        go_roundg k1
        case measure => have := HK1.out; omega
        case rel => exact ⟨(y157), (wrap64 (x2_1 + 1)), (wrap64 (x3_1 - 1)), (by first | rfl | (simp; done) | (simp [*]; done)), (by first | rfl | (simp; done) | (simp [*]; done)), H', ⟨by have := HK1.out; omega⟩, ⟨by (try simp only [hl0_1]); (with_reducible repeat (first | apply Kd.R_alloc | apply Kd.R_drewN | apply Kd.R_drew)); exact HQ12.out⟩, ⟨by repeat (first | (with_reducible first | exact HK.out | apply Kept.alloc | apply Kept.drewN | apply Kept.drew | refine Kept.setCell ?_ HMgo8.out _ | refine Kept.setCell ?_ HMgo8.out _) | exact HK.out)⟩, ⟨by repeat (first | (with_reducible first | exact HB.out | apply below_alloc | apply pw_below_drewN | apply below_drew1 | refine below_set ?_ GB8.out | refine below_set ?_ GB8.out) | exact HB.out)⟩⟩
       ·rw [if_neg c7] at H
        exact absurd H (by simp)
      ·rw [if_neg c6] at H
       exact absurd H (by simp)
     ·rw [if_neg c5] at H
      exact absurd H (by simp)
    ·rw [if_neg c4] at H
     exact absurd H (by simp)
   ·rw [if_neg c3] at H
    have c3b0 : decide (x2_1 < x3_1) = false := decide_eq_false c3
    clear c3
    obtain rfl := Option.some.inj H
    go_wp2
    first | go_end0 | ((try simp only [Exit.inBlock, Exit.then]); refine bodyPost_ret (results_none rfl _ _ _) rfl ?_)
    exact ⟨by first | rfl | (simp [errW_none, errW_some] <;> rfl) | (simp [*, errW_none, errW_some] <;> rfl), (by first | exact (by (with_reducible repeat (first | apply Kd.R_alloc | apply Kd.R_drewN | apply Kd.R_drew)); exact HO_0.out) | (simp only [hl0_1]; exact (by (with_reducible repeat (first | apply Kd.R_alloc | apply Kd.R_drewN | apply Kd.R_drew)); exact HO_0.out))), by repeat (first | (with_reducible first | exact HB.out | apply below_alloc | apply pw_below_drewN | apply below_drew1) | exact HB.out), by repeat (first | (with_reducible first | exact HK.out | apply Kept.alloc | apply Kept.drewN | apply Kept.drew) | exact HK.out)⟩
end Go.Proofs.Ytnpiglojamhpiaa.PRd
namespace Go.Proofs.Ytnpiglojamhpiaa.PRd
open Go.RowKit Go.Proofs.YtnpiglojamhpiaaW.PrintWords Go.Proofs.YtnpiglojamhpiaaW.PrintLast Go.Proofs.YtnpiglojamhpiaaW.PrintMore Go.Proofs.Ytnpiglojamhpiaa.Given
attribute [local go_sem] max2_int min2_int max_two min_two max_three min_three max_four min_four   -- for this text's walks alone
set_option linter.unusedVariables false
set_option linter.unusedSimpArgs false
def slices_Compare_string_string.l0 : Nat → List ByteArray → List ByteArray → List ByteArray → Int → Int → Option (Int)
 | 0, _, _, _, _, _ => none
 | k + 1, x0, x1, x9, x10, x11 => if x11 < x10 then (if 0 ≤ x11 then (if x11 < (x9.length : Int) then (if x11 ≥ (x1.length : Int) then (some 1) else (if x11 < (x1.length : Int) then ((cmp_Compare_string.f (rdOf ByteArray.empty x9 x11) (rdOf ByteArray.empty x1 x11)).bind fun t160 => (if t160 = 0 then (slices_Compare_string_string.l0 k x0 x1 x9 x10 (wrap64 (x11 + 1))) else (some t160))) else (none))) else (none)) else (none)) else (if (x0.length : Int) < (x1.length : Int) then (some (-1)) else (some 0))
def slices_Compare_string_string.f (k : Nat) (l0 : List ByteArray) (l1 : List ByteArray) : Option (Int) := slices_Compare_string_string.l0 k l0 l1 l0 (l0.length : Int) 0
theorem slices_Compare_string_string.mono_l : ∀ k, (∀ y0 y1 y2 y3 y4, LeO (slices_Compare_string_string.l0 k y0 y1 y2 y3 y4) (slices_Compare_string_string.l0 (k + 1) y0 y1 y2 y3 y4))
 | 0 => fun _ _ _ _ _ r h => by simp [slices_Compare_string_string.l0] at h
 | k + 1 => by
  have ih0 := slices_Compare_string_string.mono_l k
  ·intro y0 y1 y2 y3 y4
   unfold slices_Compare_string_string.l0
   repeat' first
   | (with_reducible exact ih0 _ _ _ _ _)
   | (with_reducible exact LeO.refl _)
   | (with_reducible exact LeO.none _)
   | (with_reducible refine LeO.ite ?_ ?_)
   | (with_reducible refine LeO.bind ?_ (fun _ => ?_))
   | exact ih0 _ _ _ _ _
   | exact LeO.none _
   | refine LeO.ite ?_ ?_
   | refine LeO.bind ?_ (fun _ => ?_)
theorem slices_Compare_string_string.mono : ∀ a0 a1 k, LeO (slices_Compare_string_string.f k a0 a1) (slices_Compare_string_string.f (k + 1) a0 a1) := by
 intro a0 a1 k
 have ih0 := slices_Compare_string_string.mono_l k
 unfold slices_Compare_string_string.f
 repeat' first
   | (with_reducible exact ih0 _ _ _ _ _)
   | (with_reducible exact LeO.refl _)
   | (with_reducible exact LeO.none _)
   | (with_reducible refine LeO.ite ?_ ?_)
   | (with_reducible refine LeO.bind ?_ (fun _ => ?_))
   | exact ih0 _ _ _ _ _
   | exact LeO.none _
   | refine LeO.ite ?_ ?_
   | refine LeO.bind ?_ (fun _ => ?_)
set_option maxHeartbeats 8000000 in
set_option maxRecDepth 100000 in
theorem slices_Compare_string_string.calls (k : Nat) (A0 : Option Addr) (c0 : Nat) (l0 : List ByteArray) (A1 : Option Addr) (c1 : Nat) (l1 : List ByteArray) (r : Int) (w : World) (hr0 : Kd.C Kd.string w A0 l0.length l0) (hc0 : l0.length ≤ c0) (hr1 : Kd.C Kd.string w A1 l1.length l1) (hc1 : l1.length ≤ c1) (h : slices_Compare_string_string.f k l0 l1 = some r) :
  Calls Try.prog 48 #[.slice A0 l0.length c0, .slice A1 l1.length c1] w fun e w' => e = .returned (.int .i64 r) ∧ Below w.heap.size w w' := by
 have HR0 := Aside0.mk hr0
 have HC0 := Aside0.mk hc0
 clear hr0 hc0
 have HR1 := Aside0.mk hr1
 have HC1 := Aside0.mk hc1
 clear hr1 hc1
 have HB := Aside0.mk (Below.refl w.heap.size w)
 have H : (slices_Compare_string_string.l0 k l0 l1 l0 (l0.length : Int) 0) = some r := h
 clear h
 have H' := Aside0.mk H
 clear H
 go_enter Try.func48, Try.ntmps48
 go_wp2
 go_loopg [11] k (fun kq v11 w' => ∃ (x11_1 : Int), v11 = .int .i64 x11_1 ∧ Aside0 (slices_Compare_string_string.l0 kq l0 l1 l0 (l0.length : Int) x11_1 = some r) ∧ Aside0 (kq ≤ k) ∧ Aside0 (Below w.heap.size w w'))
 case atStart => exact ⟨(0), (by first | rfl | (simp; done) | (simp [*]; done)), H', ⟨Nat.le_refl _⟩, ⟨by repeat (first | (with_reducible first | exact HB.out | apply below_alloc | apply pw_below_drewN | apply below_drew1) | exact HB.out)⟩⟩
 case round =>
  clear H'
  try clear c1
  try clear p2
  obtain ⟨x11_1, rfl, HA, HK1, HB⟩ := hrel
  cases gk with
  | zero => exact absurd HA.out (by simp [slices_Compare_string_string.l0])
  | succ k1 =>
   have H := HA.out
   clear HA
   simp only [slices_Compare_string_string.l0] at H
   by_cases c3 : x11_1 < (l0.length : Int)
   ·rw [if_pos c3] at H
    have c3b0 : decide (x11_1 < (l0.length : Int)) = true := decide_eq_true c3
    clear c3
    by_cases c4 : 0 ≤ x11_1
    ·rw [if_pos c4] at H
     have c4b0 : decide (0 ≤ x11_1) = true := decide_eq_true c4
     clear c4
     by_cases c5 : x11_1 < (l0.length : Int)
     ·rw [if_pos c5] at H
      have c5b0 : decide (x11_1 < (l0.length : Int)) = true := decide_eq_true c5
      clear c5
      by_cases c6 : x11_1 ≥ (l1.length : Int)
      ·rw [if_pos c6] at H
       have c6b0 : decide ((l1.length : Int) ≤ x11_1) = true := decide_eq_true c6
       clear c6
       obtain rfl := Option.some.inj H
       have p158 : 0 ≤ (x11_1 : Int) := of_decide_eq_true (by first | (with_reducible assumption) | assumption)
       have q158 : x11_1 < (l0.length : Int) := of_decide_eq_true (by first | (with_reducible assumption) | assumption)
       obtain ⟨ad158, e158, hx158_0⟩ := Kd.at_string HR0.out x11_1 p158 q158
       cases e158
       replace hx158_0 := (HB.out.cell (World.block_lt_of_cell? w _ hx158_0)).trans hx158_0
       replace p158 := eq_true p158
       replace q158 := eq_true q158
       go_wp2
       go_ret
       exact ⟨by first | rfl | (simp [errW_none, errW_some] <;> rfl) | (simp [*, errW_none, errW_some] <;> rfl), by repeat (first | (with_reducible first | exact HB.out | apply below_alloc | apply pw_below_drewN | apply below_drew1) | exact HB.out)⟩
      ·rw [if_neg c6] at H
       have c6b0 : decide ((l1.length : Int) ≤ x11_1) = false := decide_eq_false c6
       clear c6
       by_cases c7 : x11_1 < (l1.length : Int)
       ·rw [if_pos c7] at H
        have c7b0 : decide (x11_1 < (l1.length : Int)) = true := decide_eq_true c7
        clear c7
        replace H := Option.bind_eq_some_iff.mp H
        obtain ⟨t160, A80, H⟩ := H
        replace H : (if t160 = 0 then (slices_Compare_string_string.l0 k1 l0 l1 l0 (l0.length : Int) (wrap64 (x11_1 + 1))) else (some t160)) = some r := H
        have A8 := Aside0.mk A80
        clear A80
        by_cases c9 : t160 = 0
        ·rw [if_pos c9] at H
         have c9b0 : (t160 == 0) = true := beq_iff_eq.mpr c9
         have c9b1 : (t160 != 0) = false := bne_eq_false_iff_eq.mpr c9
         clear c9
         have H' := Aside0.mk H
         clear H
         have p158 : 0 ≤ (x11_1 : Int) := of_decide_eq_true (by first | (with_reducible assumption) | assumption)
         have q158 : x11_1 < (l0.length : Int) := of_decide_eq_true (by first | (with_reducible assumption) | assumption)
         obtain ⟨ad158, e158, hx158_0⟩ := Kd.at_string HR0.out x11_1 p158 q158
         cases e158
         replace hx158_0 := (HB.out.cell (World.block_lt_of_cell? w _ hx158_0)).trans hx158_0
         replace p158 := eq_true p158
         replace q158 := eq_true q158
         have p159 : 0 ≤ (x11_1 : Int) := of_decide_eq_true (by first | (with_reducible assumption) | assumption)
         have q159 : x11_1 < (l1.length : Int) := of_decide_eq_true (by first | (with_reducible assumption) | assumption)
         obtain ⟨ad159, e159, hx159_0⟩ := Kd.at_string HR1.out x11_1 p159 q159
         cases e159
         replace hx159_0 := (HB.out.cell (World.block_lt_of_cell? w _ hx159_0)).trans hx159_0
         replace p159 := eq_true p159
         replace q159 := eq_true q159
         go_wp2_with (first | ((with_reducible refine gate_callee (f := 37) rfl ?_); refine goesL_ (some 26) rfl rfl Try.func37 (by kernel_rfl) rfl #[.string (rdOf ByteArray.empty l0 x11_1), .string (rdOf ByteArray.empty l1 x11_1)] rfl (by (try simp only [List.map_toArray, List.map_cons, List.map_nil]); first | done | rfl | (simp only [List.length_drop, List.length_take]; rfl)) ?_; (with_reducible refine (cmp_Compare_string.calls (rdOf ByteArray.empty l0 x11_1) (rdOf ByteArray.empty l1 x11_1) t160 _ A8.out).mono ?_); rintro e w10 ⟨rfl, hb⟩; refine ⟨_, rfl, ?_⟩; have n0_ := Aside0.mk (below_step (by repeat (first | (with_reducible first | exact HB.out | apply below_alloc | apply pw_below_drewN | apply below_drew1) | exact HB.out)) hb); clear HB; have HB := n0_; clear n0_; (try clear hb); (try clear hb2); (try clear hk); (try clear hi)))
         go_roundg k1
         case measure => have := HK1.out; omega
         case rel => exact ⟨(wrap64 (x11_1 + 1)), (by first | rfl | (simp; done) | (simp [*]; done)), H', ⟨by have := HK1.out; omega⟩, ⟨by repeat (first | (with_reducible first | exact HB.out | apply below_alloc | apply pw_below_drewN | apply below_drew1) | exact HB.out)⟩⟩
        ·rw [if_neg c9] at H
         have c9b0 : (t160 == 0) = false := beq_eq_false_iff_ne.mpr c9
         have c9b1 : (t160 != 0) = true := bne_iff_ne.mpr c9
         obtain rfl := Option.some.inj H
         have p158 : 0 ≤ (x11_1 : Int) := of_decide_eq_true (by first | (with_reducible assumption) | assumption)
         have q158 : x11_1 < (l0.length : Int) := of_decide_eq_true (by first | (with_reducible assumption) | assumption)
         obtain ⟨ad158, e158, hx158_0⟩ := Kd.at_string HR0.out x11_1 p158 q158
         cases e158
         replace hx158_0 := (HB.out.cell (World.block_lt_of_cell? w _ hx158_0)).trans hx158_0
         replace p158 := eq_true p158
         replace q158 := eq_true q158
         have p159 : 0 ≤ (x11_1 : Int) := of_decide_eq_true (by first | (with_reducible assumption) | assumption)
         have q159 : x11_1 < (l1.length : Int) := of_decide_eq_true (by first | (with_reducible assumption) | assumption)
         obtain ⟨ad159, e159, hx159_0⟩ := Kd.at_string HR1.out x11_1 p159 q159
         cases e159
         replace hx159_0 := (HB.out.cell (World.block_lt_of_cell? w _ hx159_0)).trans hx159_0
         replace p159 := eq_true p159
         replace q159 := eq_true q159
         go_wp2_with (first | ((with_reducible refine gate_callee (f := 37) rfl ?_); refine goesL_ (some 26) rfl rfl Try.func37 (by kernel_rfl) rfl #[.string (rdOf ByteArray.empty l0 x11_1), .string (rdOf ByteArray.empty l1 x11_1)] rfl (by (try simp only [List.map_toArray, List.map_cons, List.map_nil]); first | done | rfl | (simp only [List.length_drop, List.length_take]; rfl)) ?_; (with_reducible refine (cmp_Compare_string.calls (rdOf ByteArray.empty l0 x11_1) (rdOf ByteArray.empty l1 x11_1) t160 _ A8.out).mono ?_); rintro e w11 ⟨rfl, hb⟩; refine ⟨_, rfl, ?_⟩; have n0_ := Aside0.mk (below_step (by repeat (first | (with_reducible first | exact HB.out | apply below_alloc | apply pw_below_drewN | apply below_drew1) | exact HB.out)) hb); clear HB; have HB := n0_; clear n0_; (try clear hb); (try clear hb2); (try clear hk); (try clear hi)))
         go_ret
         exact ⟨by first | rfl | (simp [errW_none, errW_some] <;> rfl) | (simp [*, errW_none, errW_some] <;> rfl), by repeat (first | (with_reducible first | exact HB.out | apply below_alloc | apply pw_below_drewN | apply below_drew1) | exact HB.out)⟩
       ·rw [if_neg c7] at H
        exact absurd H (by simp)
     ·rw [if_neg c5] at H
      exact absurd H (by simp)
    ·rw [if_neg c4] at H
     exact absurd H (by simp)
   ·rw [if_neg c3] at H
    have c3b0 : decide (x11_1 < (l0.length : Int)) = false := decide_eq_false c3
    clear c3
    by_cases c12 : (l0.length : Int) < (l1.length : Int)
    ·rw [if_pos c12] at H
     have c12b0 : decide ((l0.length : Int) < (l1.length : Int)) = true := decide_eq_true c12
     have c12b1 : decide (l0.length < l1.length) = true := decide_eq_true (Int.ofNat_lt.mp c12)
     clear c12
     obtain rfl := Option.some.inj H
     go_wp2
     go_ret
     exact ⟨by first | rfl | (simp [errW_none, errW_some] <;> rfl) | (simp [*, errW_none, errW_some] <;> rfl), by repeat (first | (with_reducible first | exact HB.out | apply below_alloc | apply pw_below_drewN | apply below_drew1) | exact HB.out)⟩
    ·rw [if_neg c12] at H
     have c12b0 : decide ((l0.length : Int) < (l1.length : Int)) = false := decide_eq_false c12
     have c12b1 : decide (l0.length < l1.length) = false := decide_eq_false (fun h => c12 (Int.ofNat_lt.mpr h))
     clear c12
     obtain rfl := Option.some.inj H
     go_wp2
     go_ret
     exact ⟨by first | rfl | (simp [errW_none, errW_some] <;> rfl) | (simp [*, errW_none, errW_some] <;> rfl), by repeat (first | (with_reducible first | exact HB.out | apply below_alloc | apply pw_below_drewN | apply below_drew1) | exact HB.out)⟩
def name_Compare.j0 : Nat → List ByteArray → List ByteArray → Bool → Option (Int)
 | 0, _, _, _ => none
 | k + 1, x5, x7, x26 => if x26 = true then (some 0) else ((slices_Reverse_string_string.f k x5).bind fun t171 => ((slices_Reverse_string_string.f k x7).bind fun t172 => ((slices_Compare_string_string.f k t171 t172).bind fun t173 => (some t173))))
def name_Compare.f (k : Nat) (a0 : ByteArray) (a1 : ByteArray) : Option (Int) := (name_Fold.f a0).bind fun t161 => ((name_Labels.f t161).bind fun bt162 => ((name_Fold.f a1).bind fun t166 => ((name_Labels.f t166).bind fun bt167 => (if bt162.2 = 0 then (name_Compare.j0 k bt162.1 bt167.1 (bt167.2 != 0)) else (name_Compare.j0 k bt162.1 bt167.1 true)))))
theorem name_Compare.mono_l : ∀ k, (∀ y0 y1 y2, LeO (name_Compare.j0 k y0 y1 y2) (name_Compare.j0 (k + 1) y0 y1 y2))
 | 0 => fun _ _ _ r h => by simp [name_Compare.j0] at h
 | k + 1 => by
  have ih0 := name_Compare.mono_l k
  ·intro y0 y1 y2
   unfold name_Compare.j0
   repeat' first
   | (with_reducible exact ih0 _ _ _)
   | (with_reducible exact slices_Compare_string_string.mono _ _ _)
   | (with_reducible exact slices_Reverse_string_string.mono _ _)
   | (with_reducible exact LeO.refl _)
   | (with_reducible exact LeO.none _)
   | (with_reducible refine LeO.ite ?_ ?_)
   | (with_reducible refine LeO.bind ?_ (fun _ => ?_))
   | exact ih0 _ _ _
   | exact slices_Compare_string_string.mono _ _ _
   | exact slices_Reverse_string_string.mono _ _
   | exact LeO.none _
   | refine LeO.ite ?_ ?_
   | refine LeO.bind ?_ (fun _ => ?_)
theorem name_Compare.mono : ∀ a0 a1 k, LeO (name_Compare.f k a0 a1) (name_Compare.f (k + 1) a0 a1) := by
 intro a0 a1 k
 have ih0 := name_Compare.mono_l k
 unfold name_Compare.f
 repeat' first
   | (with_reducible exact ih0 _ _ _)
   | (with_reducible exact slices_Compare_string_string.mono _ _ _)
   | (with_reducible exact slices_Reverse_string_string.mono _ _)
   | (with_reducible exact LeO.refl _)
   | (with_reducible exact LeO.none _)
   | (with_reducible refine LeO.ite ?_ ?_)
   | (with_reducible refine LeO.bind ?_ (fun _ => ?_))
   | exact ih0 _ _ _
   | exact slices_Compare_string_string.mono _ _ _
   | exact slices_Reverse_string_string.mono _ _
   | exact LeO.none _
   | refine LeO.ite ?_ ?_
   | refine LeO.bind ?_ (fun _ => ?_)
set_option maxHeartbeats 8000000 in
set_option maxRecDepth 100000 in
theorem name_Compare.calls (k : Nat) (a0 : ByteArray) (a1 : ByteArray) (r : Int) (w : World) (h : name_Compare.f k a0 a1 = some r) :
  Calls Try.prog 35 #[.string a0, .string a1] w fun e w' => e = .returned (.int .i64 r) ∧ Below w.heap.size w w' := by
 have HB := Aside0.mk (Below.refl w.heap.size w)
 have H : ((name_Fold.f a0).bind fun t161 => ((name_Labels.f t161).bind fun bt162 => ((name_Fold.f a1).bind fun t166 => ((name_Labels.f t166).bind fun bt167 => (if bt162.2 = 0 then (name_Compare.j0 k bt162.1 bt167.1 (bt167.2 != 0)) else (name_Compare.j0 k bt162.1 bt167.1 true)))))) = some r := h
 clear h
 replace H := Option.bind_eq_some_iff.mp H
 obtain ⟨t161, A30, H⟩ := H
 replace H : ((name_Labels.f t161).bind fun bt162 => ((name_Fold.f a1).bind fun t166 => ((name_Labels.f t166).bind fun bt167 => (if bt162.2 = 0 then (name_Compare.j0 k bt162.1 bt167.1 (bt167.2 != 0)) else (name_Compare.j0 k bt162.1 bt167.1 true))))) = some r := H
 have A3 := Aside0.mk A30
 clear A30
 replace H := Option.bind_eq_some_iff.mp H
 obtain ⟨⟨t162, t163⟩, A40, H⟩ := H
 replace H : ((name_Fold.f a1).bind fun t166 => ((name_Labels.f t166).bind fun bt167 => (if t163 = 0 then (name_Compare.j0 k t162 bt167.1 (bt167.2 != 0)) else (name_Compare.j0 k t162 bt167.1 true)))) = some r := H
 have A4 := Aside0.mk A40
 clear A40
 replace H := Option.bind_eq_some_iff.mp H
 obtain ⟨t166, A50, H⟩ := H
 replace H : ((name_Labels.f t166).bind fun bt167 => (if t163 = 0 then (name_Compare.j0 k t162 bt167.1 (bt167.2 != 0)) else (name_Compare.j0 k t162 bt167.1 true))) = some r := H
 have A5 := Aside0.mk A50
 clear A50
 replace H := Option.bind_eq_some_iff.mp H
 obtain ⟨⟨t167, t168⟩, A60, H⟩ := H
 replace H : (if t163 = 0 then (name_Compare.j0 k t162 t167 (t168 != 0)) else (name_Compare.j0 k t162 t167 true)) = some r := H
 have A6 := Aside0.mk A60
 clear A60
 have HC7 := Aside0.mk H
 clear H
 go_enter Try.func35, Try.ntmps35
 go_upto_region 3 with (first | ((with_reducible refine gate_callee (f := 46) rfl ?_); refine goesL_ (some 11) rfl rfl Try.func46 (by kernel_rfl) rfl #[.string a0] rfl (by (try simp only [List.map_toArray, List.map_cons, List.map_nil]); first | done | rfl | (simp only [List.length_drop, List.length_take]; rfl)) ?_; (with_reducible refine (name_Fold.calls a0 t161 _ A3.out).mono ?_); rintro e w8 ⟨rfl, hb⟩; refine ⟨_, rfl, ?_⟩; have n0_ := Aside0.mk (below_step (by repeat (first | (with_reducible first | exact HB.out | apply below_alloc | apply pw_below_drewN | apply below_drew1) | exact HB.out)) hb); clear HB; have HB := n0_; clear n0_; (try clear hb); (try clear hb2); (try clear hk); (try clear hi)) | ((with_reducible refine gate_callee (f := 45) rfl ?_); refine goesL_ (some 12) rfl rfl Try.func45 (by kernel_rfl) rfl #[.string t161] rfl (by (try simp only [List.map_toArray, List.map_cons, List.map_nil]); first | done | rfl | (simp only [List.length_drop, List.length_take]; rfl)) ?_; (with_reducible refine (name_Labels.calls t161 t162 t163 _ A4.out).mono ?_); rintro e w9 ⟨v164, rfl, ho0, hb⟩; refine ⟨_, rfl, ?_⟩; have n0_ := Aside0.mk (Kd.R_lower ho0 (below_size (by repeat (first | (with_reducible first | exact HB.out | apply below_alloc | apply pw_below_drewN | apply below_drew1) | exact HB.out)))); have n1_ := Aside0.mk (below_step (by repeat (first | (with_reducible first | exact HB.out | apply below_alloc | apply pw_below_drewN | apply below_drew1) | exact HB.out)) hb); clear HB; have HO165 := n0_; have HB := n1_; clear n0_ n1_; (try clear hb); (try clear hb2); (try clear hk); (try clear hi); (try clear ho0)) | ((with_reducible refine gate_callee (f := 46) rfl ?_); refine goesL_ (some 17) rfl rfl Try.func46 (by kernel_rfl) rfl #[.string a1] rfl (by (try simp only [List.map_toArray, List.map_cons, List.map_nil]); first | done | rfl | (simp only [List.length_drop, List.length_take]; rfl)) ?_; (with_reducible refine (name_Fold.calls a1 t166 _ A5.out).mono ?_); rintro e w10 ⟨rfl, hb⟩; refine ⟨_, rfl, ?_⟩; have n0_ := Aside0.mk (Kd.R_below (by (with_reducible repeat (first | apply Kd.R_alloc | apply Kd.R_drewN | apply Kd.R_drew)); exact HO165.out) hb); have n1_ := Aside0.mk (below_step (by repeat (first | (with_reducible first | exact HB.out | apply below_alloc | apply pw_below_drewN | apply below_drew1) | exact HB.out)) hb); clear HO165; clear HB; have HO165 := n0_; have HB := n1_; clear n0_ n1_; (try clear hb); (try clear hb2); (try clear hk); (try clear hi)) | ((with_reducible refine gate_callee (f := 45) rfl ?_); refine goesL_ (some 18) rfl rfl Try.func45 (by kernel_rfl) rfl #[.string t166] rfl (by (try simp only [List.map_toArray, List.map_cons, List.map_nil]); first | done | rfl | (simp only [List.length_drop, List.length_take]; rfl)) ?_; (with_reducible refine (name_Labels.calls t166 t167 t168 _ A6.out).mono ?_); rintro e w11 ⟨v169, rfl, ho0, hb⟩; refine ⟨_, rfl, ?_⟩; have n0_ := Aside0.mk (Kd.R_elder' (by (with_reducible repeat (first | apply Kd.R_alloc | apply Kd.R_drewN | apply Kd.R_drew)); exact HO165.out) (Kd.R_base ho0) hb); have n1_ := Aside0.mk (Kd.R_lower (Kd.R_new' ho0 (Kd.R_lt (by (with_reducible repeat (first | apply Kd.R_alloc | apply Kd.R_drewN | apply Kd.R_drew)); exact HO165.out))) (below_size (by repeat (first | (with_reducible first | exact HB.out | apply below_alloc | apply pw_below_drewN | apply below_drew1) | exact HB.out)))); have n2_ := Aside0.mk (below_step (by repeat (first | (with_reducible first | exact HB.out | apply below_alloc | apply pw_below_drewN | apply below_drew1) | exact HB.out)) hb); clear HO165; clear HB; have HO165 := n0_; have HO170 := n1_; have HB := n2_; clear n0_ n1_ n2_; (try clear hb); (try clear hb2); (try clear hk); (try clear hi); (try clear ho0)))
 (try simp only [Act.put, List.setIfInBounds_toArray, List.set_cons_zero, List.set_cons_succ])
 go_cut [26] (fun v26 wc => ∃ (kq : Nat) (x26_6 : Bool), v26 = .bool x26_6 ∧ Aside0 (name_Compare.j0 kq t162 t167 x26_6 = some r) ∧ Aside0 (kq ≤ k) ∧ Aside0 (Kd.R Kd.string 9 wc w.heap.size (fun k_ => some k_ ≠ (v169 : Value).ownBlock) v164 t162) ∧ Aside0 (Kd.R Kd.string 9 wc w.heap.size (fun k_ => some k_ ≠ (v164 : Value).ownBlock) v169 t167) ∧ Aside0 (Below w.heap.size w wc))
 case first =>
  have H := HC7.out
  clear HC7
  by_cases c12 : t163 = 0
  ·rw [if_pos c12] at H
   have c12b0 : (t163 == 0) = true := beq_iff_eq.mpr c12
   have c12b1 : (t163 != 0) = false := bne_eq_false_iff_eq.mpr c12
   clear c12
   (first | rw [c12b0] | (simp only [i64_w, i32_w]; rw [c12b0]) | skip)
   have H' := Aside0.mk H
   clear H
   go_wp2
   go_meet
   case rel => exact ⟨_, ((t168 != 0)), (by first | rfl | (simp; done) | (simp [*]; done)), H', ⟨by first | omega | exact Nat.le_refl _⟩, ⟨by (with_reducible repeat (first | apply Kd.R_alloc | apply Kd.R_drewN | apply Kd.R_drew)); exact Kd.R_mono HO165.out (fun _ hk => hk.2)⟩, ⟨by (with_reducible repeat (first | apply Kd.R_alloc | apply Kd.R_drewN | apply Kd.R_drew)); exact Kd.R_mono HO170.out (fun _ hk => hk.2)⟩, ⟨by repeat (first | (with_reducible first | exact HB.out | apply below_alloc | apply pw_below_drewN | apply below_drew1) | exact HB.out)⟩⟩
  ·rw [if_neg c12] at H
   have c12b0 : (t163 == 0) = false := beq_eq_false_iff_ne.mpr c12
   have c12b1 : (t163 != 0) = true := bne_iff_ne.mpr c12
   (first | rw [c12b0] | (simp only [i64_w, i32_w]; rw [c12b0]) | skip)
   have H' := Aside0.mk H
   clear H
   go_wp2
   go_meet
   case rel => exact ⟨_, (true), (by first | rfl | (simp; done) | (simp [*]; done)), H', ⟨by first | omega | exact Nat.le_refl _⟩, ⟨by (with_reducible repeat (first | apply Kd.R_alloc | apply Kd.R_drewN | apply Kd.R_drew)); exact Kd.R_mono HO165.out (fun _ hk => hk.2)⟩, ⟨by (with_reducible repeat (first | apply Kd.R_alloc | apply Kd.R_drewN | apply Kd.R_drew)); exact Kd.R_mono HO170.out (fun _ hk => hk.2)⟩, ⟨by repeat (first | (with_reducible first | exact HB.out | apply below_alloc | apply pw_below_drewN | apply below_drew1) | exact HB.out)⟩⟩
 case rest =>
  clear HC7
  try clear c1
  try clear p2
  try clear c3
  try clear c4
  try clear c12
  try clear c12b0
  try clear c12b1
  obtain ⟨kq, x26_6, rfl, HA, HJ6, HO_5, HO_7, HB⟩ := hcut
  cases kq with
  | zero => exact absurd HA.out (by simp [name_Compare.j0])
  | succ kj6 =>
   have H := HA.out
   clear HA
   simp only [name_Compare.j0] at H
   by_cases c13 : x26_6 = true
   ·subst c13
    have H1 : (some 0) = some r := by rw [if_pos rfl] at H; exact H
    clear H
    have H := H1
    clear H1
    obtain rfl := Option.some.inj H
    go_wp2
    go_ret
    exact ⟨by first | rfl | (simp [errW_none, errW_some] <;> rfl) | (simp [*, errW_none, errW_some] <;> rfl), by repeat (first | (with_reducible first | exact HB.out | apply below_alloc | apply pw_below_drewN | apply below_drew1) | exact HB.out)⟩
   ·replace c13 := Bool.eq_false_iff.mpr c13
    subst c13
    have H1 : ((slices_Reverse_string_string.f kj6 t162).bind fun t171 => ((slices_Reverse_string_string.f kj6 t167).bind fun t172 => ((slices_Compare_string_string.f kj6 t171 t172).bind fun t173 => (some t173)))) = some r := by rw [if_neg (show ¬ (false = true) by decide)] at H; exact H
    clear H
    have H := H1
    clear H1
    replace H := Option.bind_eq_some_iff.mp H
    obtain ⟨t171, A140, H⟩ := H
    replace H : ((slices_Reverse_string_string.f kj6 t167).bind fun t172 => ((slices_Compare_string_string.f kj6 t171 t172).bind fun t173 => (some t173))) = some r := H
    have A14 := Aside0.mk A140
    clear A140
    replace H := Option.bind_eq_some_iff.mp H
    obtain ⟨t172, A150, H⟩ := H
    replace H : ((slices_Compare_string_string.f kj6 t171 t172).bind fun t173 => (some t173)) = some r := H
    have A15 := Aside0.mk A150
    clear A150
    replace H := Option.bind_eq_some_iff.mp H
    obtain ⟨t173, A160, H⟩ := H
    replace H : (some t173) = some r := H
    have A16 := Aside0.mk A160
    clear A160
    obtain rfl := Option.some.inj H
    obtain ⟨Ao17, co17, eo17⟩ := Kd.R_slice HO_5.out
    subst eo17
    go_wp2_with (first | ((with_reducible refine gate_callee (f := 47) rfl ?_); refine goesL_ (some 28) rfl rfl Try.func47 (by kernel_rfl) rfl #[.slice Ao17 t162.length co17] rfl (by (try simp only [List.map_toArray, List.map_cons, List.map_nil]); first | done | rfl | (simp only [List.length_drop, List.length_take]; rfl)) ?_; (with_reducible refine (slices_Reverse_string_string.calls kj6 (fun k_ => some k_ = (.slice Ao17 t162.length co17 : Value).ownBlock) (.slice Ao17 t162.length co17) t162 t171 w _ ?side1 ?side2 A14.out).mono ?_); (case side1 => repeat (first | (with_reducible first | exact HB.out | apply below_alloc | apply pw_below_drewN | apply below_drew1) | exact HB.out)); (case side2 => exact Kd.R_tight rfl HO_5.out); rintro e w18 ⟨rfl, hy0, hb, hkp⟩; refine ⟨_, rfl, ?_⟩; have n0_ := Aside0.mk (Kd.R_reok rfl hy0 (fun k_ e_ => HO_5.out.1 k_ e_)); have n1_ := Aside0.mk (Kd.R_mono (ok' := fun k_ => some k_ ≠ (.slice Ao17 t162.length co17 : Value).ownBlock) (Kd.R_keptB (HO_7.out) hkp (fun k_ hk_ hs_ => (hk_) hs_)) (fun k_ hk_ => hk_.1)); have n2_ := Aside0.mk (hb); clear HO_5; clear HO_7; clear HB; have HO_5 := n0_; have HO_7 := n1_; have HB := n2_; clear n0_ n1_ n2_; (try clear hb); (try clear hkp); (try clear hy0); obtain ⟨Ao19, co19, eo19⟩ := Kd.R_slice HO_7.out; subst eo19) | ((with_reducible refine gate_callee (f := 47) rfl ?_); refine goesL_ (some 30) rfl rfl Try.func47 (by kernel_rfl) rfl #[.slice Ao19 t167.length co19] rfl (by (try simp only [List.map_toArray, List.map_cons, List.map_nil]); first | done | rfl | (simp only [List.length_drop, List.length_take]; rfl)) ?_; (with_reducible refine (slices_Reverse_string_string.calls kj6 (fun k_ => some k_ = (.slice Ao19 t167.length co19 : Value).ownBlock) (.slice Ao19 t167.length co19) t167 t172 w _ ?side1 ?side2 A15.out).mono ?_); (case side1 => repeat (first | (with_reducible first | exact HB.out | apply below_alloc | apply pw_below_drewN | apply below_drew1) | exact HB.out)); (case side2 => exact Kd.R_tight rfl HO_7.out); rintro e w20 ⟨rfl, hy0, hb, hkp⟩; refine ⟨_, rfl, ?_⟩; have n0_ := Aside0.mk (Kd.R_mono (ok' := fun k_ => some k_ ≠ (.slice Ao19 t167.length co19 : Value).ownBlock) (Kd.R_keptB (HO_5.out) hkp (fun k_ hk_ hs_ => (hk_) hs_)) (fun k_ hk_ => hk_.1)); have n1_ := Aside0.mk (Kd.R_reok rfl hy0 (fun k_ e_ => HO_7.out.1 k_ e_)); have n2_ := Aside0.mk (hb); clear HO_5; clear HO_7; clear HB; have HO_5 := n0_; have HO_7 := n1_; have HB := n2_; clear n0_ n1_ n2_; (try clear hb); (try clear hkp); (try clear hy0)) | ((with_reducible refine gate_callee (f := 48) rfl ?_); refine goesL_ (some 33) rfl rfl Try.func48 (by kernel_rfl) rfl #[.slice Ao17 t171.length co17, .slice Ao19 t172.length co19] rfl (by (try simp only [List.map_toArray, List.map_cons, List.map_nil]); first | done | (rw [show t171.length = t162.length from (Kd.R_reads' HO_5.out).1.symm, show t172.length = t167.length from (Kd.R_reads' HO_7.out).1.symm] <;> rfl) | rfl | (simp only [List.length_drop, List.length_take]; rfl)) ?_; (with_reducible refine (slices_Compare_string_string.calls kj6 _ _ t171 _ _ t172 t173 _ ?side1 ?side2 ?side3 ?side4 A16.out).mono ?_); (case side1 => repeat (first | exact (Kd.R_reads' HO_5.out).2.2 | (with_reducible refine Kd.C_alloc ?_ _) | (with_reducible refine Kd.C_drewN ?_ _) | (with_reducible refine Kd.C_drew ?_))); (case side2 => rw [show t171.length = t162.length from (Kd.R_reads' HO_5.out).1.symm]; exact (Kd.R_reads' HO_5.out).2.1); (case side3 => repeat (first | exact (Kd.R_reads' HO_7.out).2.2 | (with_reducible refine Kd.C_alloc ?_ _) | (with_reducible refine Kd.C_drewN ?_ _) | (with_reducible refine Kd.C_drew ?_))); (case side4 => rw [show t172.length = t167.length from (Kd.R_reads' HO_7.out).1.symm]; exact (Kd.R_reads' HO_7.out).2.1); rintro e w21 ⟨rfl, hb⟩; refine ⟨_, rfl, ?_⟩; have n0_ := Aside0.mk (Kd.R_below (by (with_reducible repeat (first | apply Kd.R_alloc | apply Kd.R_drewN | apply Kd.R_drew)); exact HO_5.out) hb); have n1_ := Aside0.mk (Kd.R_below (by (with_reducible repeat (first | apply Kd.R_alloc | apply Kd.R_drewN | apply Kd.R_drew)); exact HO_7.out) hb); have n2_ := Aside0.mk (below_step (by repeat (first | (with_reducible first | exact HB.out | apply below_alloc | apply pw_below_drewN | apply below_drew1) | exact HB.out)) hb); clear HO_5; clear HO_7; clear HB; have HO_5 := n0_; have HO_7 := n1_; have HB := n2_; clear n0_ n1_ n2_; (try clear hb); (try clear hb2); (try clear hk); (try clear hi)))
    go_ret
    exact ⟨by first | rfl | (simp [errW_none, errW_some] <;> rfl) | (simp [*, errW_none, errW_some] <;> rfl), by repeat (first | (with_reducible first | exact HB.out | apply below_alloc | apply pw_below_drewN | apply below_drew1) | exact HB.out)⟩
def beadrollref10_Parts.j0 : Nat → Int → Bool → Option (ByteArray)
 | 0, _, _ => none
 | k + 1, x3, x8 => if x8 = true then (some (⟨#[110]⟩ : ByteArray)) else (if x3 = 15 then (some (⟨#[50, 110]⟩ : ByteArray)) else (if x3 = 6 then (some (⟨#[110, 110, 52, 52, 52, 52, 52]⟩ : ByteArray)) else (if x3 = 16 then (some (⟨#[116]⟩ : ByteArray)) else (if x3 = 33 then (some (⟨#[50, 50, 50, 117]⟩ : ByteArray)) else (some (⟨#[111]⟩ : ByteArray))))))
def beadrollref10_Parts.f (k : Nat) (a0 : Int) : Option (ByteArray) := if a0 = 1 then (some (⟨#[52]⟩ : ByteArray)) else (if a0 = 28 then (some (⟨#[104]⟩ : ByteArray)) else (if a0 = 2 then (beadrollref10_Parts.j0 k a0 (a0 == 2)) else (if a0 = 5 then (beadrollref10_Parts.j0 k a0 (a0 == 5)) else (beadrollref10_Parts.j0 k a0 (a0 == 12)))))
set_option maxHeartbeats 8000000 in
set_option maxRecDepth 100000 in
theorem beadrollref10_Parts.calls (k : Nat) (a0 : Int) (r : ByteArray) (w : World) (h : beadrollref10_Parts.f k a0 = some r) :
  Calls Try.prog 56 #[.int .i64 a0] w fun e w' => e = .returned (.string r) ∧ Drawn0 w w' := by
 have H : (if a0 = 1 then (some (⟨#[52]⟩ : ByteArray)) else (if a0 = 28 then (some (⟨#[104]⟩ : ByteArray)) else (if a0 = 2 then (beadrollref10_Parts.j0 k a0 (a0 == 2)) else (if a0 = 5 then (beadrollref10_Parts.j0 k a0 (a0 == 5)) else (beadrollref10_Parts.j0 k a0 (a0 == 12)))))) = some r := h
 clear h
 by_cases c2 : a0 = 1
 ·rw [if_pos c2] at H
  have c2b0 : (a0 == 1) = true := beq_iff_eq.mpr c2
  have c2b1 : (a0 != 1) = false := bne_eq_false_iff_eq.mpr c2
  clear c2
  obtain rfl := Option.some.inj H
  go_enter Try.func56, Try.ntmps56
  go_wp2
  go_ret
  exact ⟨by first | rfl | (simp; done) | (simp [*]; done), by repeat (first | exact Drawn0.refl _ | apply Drawn0.step)⟩
 ·rw [if_neg c2] at H
  have c2b0 : (a0 == 1) = false := beq_eq_false_iff_ne.mpr c2
  have c2b1 : (a0 != 1) = true := bne_iff_ne.mpr c2
  by_cases c3 : a0 = 28
  ·rw [if_pos c3] at H
   have c3b0 : (a0 == 28) = true := beq_iff_eq.mpr c3
   have c3b1 : (a0 != 28) = false := bne_eq_false_iff_eq.mpr c3
   clear c3
   obtain rfl := Option.some.inj H
   go_enter Try.func56, Try.ntmps56
   go_wp2
   go_ret
   exact ⟨by first | rfl | (simp; done) | (simp [*]; done), by repeat (first | exact Drawn0.refl _ | apply Drawn0.step)⟩
  ·rw [if_neg c3] at H
   have c3b0 : (a0 == 28) = false := beq_eq_false_iff_ne.mpr c3
   have c3b1 : (a0 != 28) = true := bne_iff_ne.mpr c3
   have HC4 := Aside0.mk H
   clear H
   go_enter Try.func56, Try.ntmps56
   go_upto_if 8 with (fail)
   go_cut [8] (fun v8 wc => ∃ (kq : Nat) (x8_3 : Bool), v8 = .bool x8_3 ∧ Aside0 (beadrollref10_Parts.j0 kq a0 x8_3 = some r) ∧ Aside0 (kq ≤ k) ∧ Drawn0 w wc)
   case first =>
    have H := HC4.out
    clear HC4
    by_cases c5 : a0 = 2
    ·rw [if_pos c5] at H
     have c5b0 : (a0 == 2) = true := beq_iff_eq.mpr c5
     have c5b1 : (a0 != 2) = false := bne_eq_false_iff_eq.mpr c5
     clear c5
     (first | rw [c5b0] | (simp only [i64_w, i32_w]; rw [c5b0]) | skip)
     have H' := Aside0.mk H
     clear H
     go_wp2
     go_meet
     case rel => exact ⟨_, ((a0 == 2)), (by first | rfl | (simp; done) | (simp [*]; done)), H', ⟨by first | omega | exact Nat.le_refl _⟩, by repeat (first | exact Drawn0.refl _ | apply Drawn0.step)⟩
    ·rw [if_neg c5] at H
     have c5b0 : (a0 == 2) = false := beq_eq_false_iff_ne.mpr c5
     have c5b1 : (a0 != 2) = true := bne_iff_ne.mpr c5
     (first | rw [c5b0] | (simp only [i64_w, i32_w]; rw [c5b0]) | skip)
     by_cases c6 : a0 = 5
     ·rw [if_pos c6] at H
      have c6b0 : (a0 == 5) = true := beq_iff_eq.mpr c6
      have c6b1 : (a0 != 5) = false := bne_eq_false_iff_eq.mpr c6
      clear c6
      have H' := Aside0.mk H
      clear H
      go_wp2
      go_meet
      case rel => exact ⟨_, ((a0 == 5)), (by first | rfl | (simp; done) | (simp [*]; done)), H', ⟨by first | omega | exact Nat.le_refl _⟩, by repeat (first | exact Drawn0.refl _ | apply Drawn0.step)⟩
     ·rw [if_neg c6] at H
      have c6b0 : (a0 == 5) = false := beq_eq_false_iff_ne.mpr c6
      have c6b1 : (a0 != 5) = true := bne_iff_ne.mpr c6
      have H' := Aside0.mk H
      clear H
      go_wp2
      go_meet
      case rel => exact ⟨_, ((a0 == 12)), (by first | rfl | (simp; done) | (simp [*]; done)), H', ⟨by first | omega | exact Nat.le_refl _⟩, by repeat (first | exact Drawn0.refl _ | apply Drawn0.step)⟩
   case rest =>
    clear HC4
    try clear c2
    try clear c2b0
    try clear c2b1
    try clear p2
    try clear c3
    try clear c3b0
    try clear c3b1
    try clear c5
    try clear c5b0
    try clear c5b1
    try clear c6
    try clear c6b0
    try clear c6b1
    obtain ⟨kq, x8_3, rfl, HA, HJ3, ⟨mc3, rfl⟩⟩ := hcut
    cases kq with
    | zero => exact absurd HA.out (by simp [beadrollref10_Parts.j0])
    | succ kj3 =>
     have H := HA.out
     clear HA
     simp only [beadrollref10_Parts.j0] at H
     by_cases c7 : x8_3 = true
     ·subst c7
      have H1 : (some (⟨#[110]⟩ : ByteArray)) = some r := by rw [if_pos rfl] at H; exact H
      clear H
      have H := H1
      clear H1
      obtain rfl := Option.some.inj H
      go_wp2
      go_ret
      exact ⟨by first | rfl | (simp; done) | (simp [*]; done), by repeat (first | exact Drawn0.refl _ | apply Drawn0.step)⟩
     ·replace c7 := Bool.eq_false_iff.mpr c7
      subst c7
      have H1 : (if a0 = 15 then (some (⟨#[50, 110]⟩ : ByteArray)) else (if a0 = 6 then (some (⟨#[110, 110, 52, 52, 52, 52, 52]⟩ : ByteArray)) else (if a0 = 16 then (some (⟨#[116]⟩ : ByteArray)) else (if a0 = 33 then (some (⟨#[50, 50, 50, 117]⟩ : ByteArray)) else (some (⟨#[111]⟩ : ByteArray)))))) = some r := by rw [if_neg (show ¬ (false = true) by decide)] at H; exact H
      clear H
      have H := H1
      clear H1
      by_cases c8 : a0 = 15
      ·rw [if_pos c8] at H
       have c8b0 : (a0 == 15) = true := beq_iff_eq.mpr c8
       have c8b1 : (a0 != 15) = false := bne_eq_false_iff_eq.mpr c8
       clear c8
       obtain rfl := Option.some.inj H
       go_wp2
       go_ret
       exact ⟨by first | rfl | (simp; done) | (simp [*]; done), by repeat (first | exact Drawn0.refl _ | apply Drawn0.step)⟩
      ·rw [if_neg c8] at H
       have c8b0 : (a0 == 15) = false := beq_eq_false_iff_ne.mpr c8
       have c8b1 : (a0 != 15) = true := bne_iff_ne.mpr c8
       by_cases c9 : a0 = 6
       ·rw [if_pos c9] at H
        have c9b0 : (a0 == 6) = true := beq_iff_eq.mpr c9
        have c9b1 : (a0 != 6) = false := bne_eq_false_iff_eq.mpr c9
        clear c9
        obtain rfl := Option.some.inj H
        go_wp2
        go_ret
        exact ⟨by first | rfl | (simp; done) | (simp [*]; done), by repeat (first | exact Drawn0.refl _ | apply Drawn0.step)⟩
       ·rw [if_neg c9] at H
        have c9b0 : (a0 == 6) = false := beq_eq_false_iff_ne.mpr c9
        have c9b1 : (a0 != 6) = true := bne_iff_ne.mpr c9
        by_cases c10 : a0 = 16
        ·rw [if_pos c10] at H
         have c10b0 : (a0 == 16) = true := beq_iff_eq.mpr c10
         have c10b1 : (a0 != 16) = false := bne_eq_false_iff_eq.mpr c10
         clear c10
         obtain rfl := Option.some.inj H
         go_wp2
         go_ret
         exact ⟨by first | rfl | (simp; done) | (simp [*]; done), by repeat (first | exact Drawn0.refl _ | apply Drawn0.step)⟩
        ·rw [if_neg c10] at H
         have c10b0 : (a0 == 16) = false := beq_eq_false_iff_ne.mpr c10
         have c10b1 : (a0 != 16) = true := bne_iff_ne.mpr c10
         by_cases c11 : a0 = 33
         ·rw [if_pos c11] at H
          have c11b0 : (a0 == 33) = true := beq_iff_eq.mpr c11
          have c11b1 : (a0 != 33) = false := bne_eq_false_iff_eq.mpr c11
          clear c11
          obtain rfl := Option.some.inj H
          go_wp2
          go_ret
          exact ⟨by first | rfl | (simp; done) | (simp [*]; done), by repeat (first | exact Drawn0.refl _ | apply Drawn0.step)⟩
         ·rw [if_neg c11] at H
          have c11b0 : (a0 == 33) = false := beq_eq_false_iff_ne.mpr c11
          have c11b1 : (a0 != 33) = true := bne_iff_ne.mpr c11
          obtain rfl := Option.some.inj H
          go_wp2
          go_ret
          exact ⟨by first | rfl | (simp; done) | (simp [*]; done), by repeat (first | exact Drawn0.refl _ | apply Drawn0.step)⟩
mutual
def beadrollref07_Labels.l0 : Nat → ByteArray → List ByteArray → Int → Option (List ByteArray × Bool)
 | 0, _, _, _ => none
 | k + 1, x0, x4, x5 => if x5 < (x0.size : Int) then (if 0 ≤ x5 then (beadrollref07_Labels.j1 k x0 x4 x5 (decide ((bt x0 x5) > 0))) else (none)) else (beadrollref07_Labels.j1 k x0 x4 x5 false)
def beadrollref07_Labels.j1 : Nat → ByteArray → List ByteArray → Int → Bool → Option (List ByteArray × Bool)
 | 0, _, _, _, _ => none
 | k + 1, x0, x4, x5, x19 => if x19 = true then (if 0 ≤ x5 then (if x5 < (x0.size : Int) then (if (wrap64 (bt x0 x5)) > 63 then (some (([] : List ByteArray), false)) else (if (wrap64 ((wrap64 (x5 + 1)) + (wrap64 (bt x0 x5)))) > (x0.size : Int) then (some (([] : List ByteArray), false)) else (if 0 ≤ (wrap64 (x5 + 1)) then (if (wrap64 (x5 + 1)) ≤ (wrap64 ((wrap64 (x5 + 1)) + (wrap64 (bt x0 x5)))) then (if (wrap64 ((wrap64 (x5 + 1)) + (wrap64 (bt x0 x5)))) ≤ (x0.size : Int) then (if x4.length < 8796093022208 then (beadrollref07_Labels.l0 k x0 (x4 ++ [x0.extract ((wrap64 (x5 + 1)) : Int).toNat ((wrap64 ((wrap64 (x5 + 1)) + (wrap64 (bt x0 x5)))) : Int).toNat]) (wrap64 (x5 + (wrap64 (1 + (wrap64 (bt x0 x5))))))) else (none)) else (none)) else (none)) else (none)))) else (none)) else (none)) else (if x5 = (wrap64 ((x0.size : Int) - 1)) then (if 0 ≤ x5 then (if x5 < (x0.size : Int) then (some (x4, ((bt x0 x5) == 0))) else (none)) else (none)) else (some (x4, false)))
end
def beadrollref07_Labels.f (k : Nat) (a0 : ByteArray) : Option (List ByteArray × Bool) := if (a0.size : Int) > 255 then (some (([] : List ByteArray), false)) else (beadrollref07_Labels.l0 k a0 ([] : List ByteArray) 0)
set_option maxHeartbeats 8000000 in
set_option maxRecDepth 100000 in
theorem beadrollref07_Labels.calls (k : Nat) (a0 : ByteArray) (r1 : List ByteArray) (r2 : Bool) (w : World) (h : beadrollref07_Labels.f k a0 = some (r1, r2)) :
  Calls Try.prog 39 #[.string a0] w fun e w' => ∃ v0_ : Value, e = .returned (.tuple #[v0_, .bool r2]) ∧ Kd.R Kd.string 9 w' w.heap.size (fun _ => True) v0_ r1 ∧ Below w.heap.size w w' := by
 have HB := Aside0.mk (Below.refl w.heap.size w)
 have H : (if (a0.size : Int) > 255 then (some (([] : List ByteArray), false)) else (beadrollref07_Labels.l0 k a0 ([] : List ByteArray) 0)) = some (r1, r2) := h
 clear h
 by_cases c2 : (a0.size : Int) > 255
 ·rw [if_pos c2] at H
  have c2b0 : decide (255 < (a0.size : Int)) = true := decide_eq_true c2
  have c2b1 : decide (255 < a0.size) = true := decide_eq_true (by omega)
  clear c2
  simp only [Option.some.injEq, Prod.mk.injEq] at H
  obtain ⟨rfl, rfl⟩ := H
  go_enter Try.func39, Try.ntmps39
  go_wp2
  repeat (go_quiet (fail); try go_wp2)
  go_ret2
  exact ⟨_, by first | rfl | (simp [errW_none, errW_some] <;> rfl) | (simp [*, errW_none, errW_some] <;> rfl), by first | exact Kd.R_nil _ _ _ _ _ | exact Kd.N_nil _ _ _ _ _ | exact Kd.V_nil _ _ _ _ _ | exact Kd.Q_nil _ _ _ _ _ | exact Kd.S_nil _ _ _ _ _, by repeat (first | (with_reducible first | exact HB.out | apply below_alloc | apply pw_below_drewN | apply below_drew1) | exact HB.out)⟩
 ·rw [if_neg c2] at H
  have c2b0 : decide (255 < (a0.size : Int)) = false := decide_eq_false c2
  have c2b1 : decide (255 < a0.size) = false := decide_eq_false (by omega)
  clear c2
  have H' := Aside0.mk H
  clear H
  go_enter Try.func39, Try.ntmps39
  go_wp2
  repeat (go_quiet (fail); try go_wp2)
  go_loopg [4, 5] k (fun kq v4 v5 w' => ∃ (x4_1 : List ByteArray) (x5_1 : Int), v5 = .int .i64 x5_1 ∧ Aside0 (beadrollref07_Labels.l0 kq a0 x4_1 x5_1 = some (r1, r2)) ∧ Aside0 (kq ≤ k) ∧ Aside0 (Kd.R Kd.string 9 w' w.heap.size (fun _ => True) v4 x4_1) ∧ Aside0 (Below w.heap.size w w'))
  case atStart => exact ⟨(([] : List ByteArray)), (0), (by first | rfl | (simp; done) | (simp [*]; done)), H', ⟨Nat.le_refl _⟩, ⟨by first | exact Kd.R_nil _ _ _ _ _ | exact Kd.N_nil _ _ _ _ _ | exact Kd.V_nil _ _ _ _ _ | exact Kd.Q_nil _ _ _ _ _ | exact Kd.S_nil _ _ _ _ _⟩, ⟨by repeat (first | (with_reducible first | exact HB.out | apply below_alloc | apply pw_below_drewN | apply below_drew1) | exact HB.out)⟩⟩
  case round =>
   clear H'
   try clear c2
   try clear c2b0
   try clear c2b1
   try clear p2
   obtain ⟨x4_1, x5_1, rfl, HA, HK1, HO_4, HB⟩ := hrel
   cases gk with
   | zero => exact absurd HA.out (by simp [beadrollref07_Labels.l0])
   | succ k1 =>
    have H := HA.out
    clear HA
    simp only [beadrollref07_Labels.l0] at H
    have HC3 := Aside0.mk H
    clear H
    go_upto_region 5 with (fail)
    repeat (go_quiet (fail); go_upto_region 5 with (fail))
    go_cut [19] (fun v19 wc => ∃ (kq : Nat) (x19_2 : Bool), v19 = .bool x19_2 ∧ Aside0 (beadrollref07_Labels.j1 kq a0 x4_1 x5_1 x19_2 = some (r1, r2)) ∧ Aside0 (kq ≤ k1) ∧ Aside0 (Kd.R Kd.string 9 wc w.heap.size (fun _ => True) u4 x4_1) ∧ Aside0 (Below w.heap.size w wc))
    case first =>
     have H := HC3.out
     clear HC3
     by_cases c4 : x5_1 < (a0.size : Int)
     ·rw [if_pos c4] at H
      have c4b0 : decide (x5_1 < (a0.size : Int)) = true := decide_eq_true c4
      clear c4
      (first | rw [c4b0] | (simp only [i64_w, i32_w]; rw [c4b0]) | skip)
      by_cases c5 : 0 ≤ x5_1
      ·rw [if_pos c5] at H
       have c5b0 : decide (0 ≤ x5_1) = true := decide_eq_true c5
       clear c5
       have H' := Aside0.mk H
       clear H
       have p6 : 0 ≤ (x5_1 : Int) := of_decide_eq_true (by first | (with_reducible assumption) | assumption)
       have q6 : x5_1 < (a0.size : Int) := of_decide_eq_true (by first | (with_reducible assumption) | assumption)
       have hx6 := bt_at a0 x5_1
       replace p6 := eq_true p6
       replace q6 := eq_true q6
       go_wp2
       repeat (go_quiet (fail); try go_wp2)
       go_meet
       case rel => exact ⟨_, (decide ((bt a0 x5_1) > 0)), (by first | rfl | (simp; done) | (simp [*]; done)), H', ⟨by have := HK1.out; first | omega | exact Nat.le_refl _⟩, ⟨by (with_reducible repeat (first | apply Kd.R_alloc | apply Kd.R_drewN | apply Kd.R_drew)); exact HO_4.out⟩, ⟨by repeat (first | (with_reducible first | exact HB.out | apply below_alloc | apply pw_below_drewN | apply below_drew1) | exact HB.out)⟩⟩
      ·rw [if_neg c5] at H
       exact absurd H (by simp)
     ·rw [if_neg c4] at H
      have c4b0 : decide (x5_1 < (a0.size : Int)) = false := decide_eq_false c4
      clear c4
      (first | rw [c4b0] | (simp only [i64_w, i32_w]; rw [c4b0]) | skip)
      have H' := Aside0.mk H
      clear H
      go_wp2
      repeat (go_quiet (fail); try go_wp2)
      go_meet
      case rel => exact ⟨_, (false), (by first | rfl | (simp; done) | (simp [*]; done)), H', ⟨by have := HK1.out; first | omega | exact Nat.le_refl _⟩, ⟨by (with_reducible repeat (first | apply Kd.R_alloc | apply Kd.R_drewN | apply Kd.R_drew)); exact HO_4.out⟩, ⟨by repeat (first | (with_reducible first | exact HB.out | apply below_alloc | apply pw_below_drewN | apply below_drew1) | exact HB.out)⟩⟩
    case rest =>
     clear HC3
     try clear c2
     try clear c2b0
     try clear c2b1
     try clear p2
     try clear c3
     try clear c4
     try clear c4b0
     try clear c5
     try clear c5b0
     try clear p6
     try clear q6
     try clear hx6
     try clear p2
     try clear p6
     try clear q6
     obtain ⟨kq, x19_2, rfl, HA, HJ2, HO_4, HB⟩ := hcut
     cases kq with
     | zero => exact absurd HA.out (by simp [beadrollref07_Labels.j1])
     | succ kj2 =>
      have H := HA.out
      clear HA
      simp only [beadrollref07_Labels.j1] at H
      by_cases c7 : x19_2 = true
      ·subst c7
       have H1 : (if 0 ≤ x5_1 then (if x5_1 < (a0.size : Int) then (if (wrap64 (bt a0 x5_1)) > 63 then (some (([] : List ByteArray), false)) else (if (wrap64 ((wrap64 (x5_1 + 1)) + (wrap64 (bt a0 x5_1)))) > (a0.size : Int) then (some (([] : List ByteArray), false)) else (if 0 ≤ (wrap64 (x5_1 + 1)) then (if (wrap64 (x5_1 + 1)) ≤ (wrap64 ((wrap64 (x5_1 + 1)) + (wrap64 (bt a0 x5_1)))) then (if (wrap64 ((wrap64 (x5_1 + 1)) + (wrap64 (bt a0 x5_1)))) ≤ (a0.size : Int) then (if x4_1.length < 8796093022208 then (beadrollref07_Labels.l0 kj2 a0 (x4_1 ++ [a0.extract ((wrap64 (x5_1 + 1)) : Int).toNat ((wrap64 ((wrap64 (x5_1 + 1)) + (wrap64 (bt a0 x5_1)))) : Int).toNat]) (wrap64 (x5_1 + (wrap64 (1 + (wrap64 (bt a0 x5_1))))))) else (none)) else (none)) else (none)) else (none)))) else (none)) else (none)) = some (r1, r2) := by rw [if_pos rfl] at H; exact H
       clear H
       have H := H1
       clear H1
       by_cases c8 : 0 ≤ x5_1
       ·rw [if_pos c8] at H
        have c8b0 : decide (0 ≤ x5_1) = true := decide_eq_true c8
        clear c8
        by_cases c9 : x5_1 < (a0.size : Int)
        ·rw [if_pos c9] at H
         have c9b0 : decide (x5_1 < (a0.size : Int)) = true := decide_eq_true c9
         clear c9
         by_cases c11 : (wrap64 (bt a0 x5_1)) > 63
         ·rw [if_pos c11] at H
          have c11b0 : decide (63 < (wrap64 (bt a0 x5_1))) = true := decide_eq_true c11
          clear c11
          simp only [Option.some.injEq, Prod.mk.injEq] at H
          obtain ⟨rfl, rfl⟩ := H
          have p10 : 0 ≤ (x5_1 : Int) := of_decide_eq_true (by first | (with_reducible assumption) | assumption)
          have q10 : x5_1 < (a0.size : Int) := of_decide_eq_true (by first | (with_reducible assumption) | assumption)
          have hx10 := bt_at a0 x5_1
          replace p10 := eq_true p10
          replace q10 := eq_true q10
          go_wp2
          repeat (go_quiet (fail); try go_wp2)
          go_ret2
          exact ⟨_, by first | rfl | (simp [errW_none, errW_some] <;> rfl) | (simp [*, errW_none, errW_some] <;> rfl), by first | exact Kd.R_nil _ _ _ _ _ | exact Kd.N_nil _ _ _ _ _ | exact Kd.V_nil _ _ _ _ _ | exact Kd.Q_nil _ _ _ _ _ | exact Kd.S_nil _ _ _ _ _, by repeat (first | (with_reducible first | exact HB.out | apply below_alloc | apply pw_below_drewN | apply below_drew1) | exact HB.out)⟩
         ·rw [if_neg c11] at H
          have c11b0 : decide (63 < (wrap64 (bt a0 x5_1))) = false := decide_eq_false c11
          clear c11
          by_cases c12 : (wrap64 ((wrap64 (x5_1 + 1)) + (wrap64 (bt a0 x5_1)))) > (a0.size : Int)
          ·rw [if_pos c12] at H
           have c12b0 : decide ((a0.size : Int) < (wrap64 ((wrap64 (x5_1 + 1)) + (wrap64 (bt a0 x5_1))))) = true := decide_eq_true c12
           clear c12
           simp only [Option.some.injEq, Prod.mk.injEq] at H
           obtain ⟨rfl, rfl⟩ := H
           have p10 : 0 ≤ (x5_1 : Int) := of_decide_eq_true (by first | (with_reducible assumption) | assumption)
           have q10 : x5_1 < (a0.size : Int) := of_decide_eq_true (by first | (with_reducible assumption) | assumption)
           have hx10 := bt_at a0 x5_1
           replace p10 := eq_true p10
           replace q10 := eq_true q10
           go_wp2
           repeat (go_quiet (fail); try go_wp2)
           go_ret2
           exact ⟨_, by first | rfl | (simp [errW_none, errW_some] <;> rfl) | (simp [*, errW_none, errW_some] <;> rfl), by first | exact Kd.R_nil _ _ _ _ _ | exact Kd.N_nil _ _ _ _ _ | exact Kd.V_nil _ _ _ _ _ | exact Kd.Q_nil _ _ _ _ _ | exact Kd.S_nil _ _ _ _ _, by repeat (first | (with_reducible first | exact HB.out | apply below_alloc | apply pw_below_drewN | apply below_drew1) | exact HB.out)⟩
          ·rw [if_neg c12] at H
           have c12b0 : decide ((a0.size : Int) < (wrap64 ((wrap64 (x5_1 + 1)) + (wrap64 (bt a0 x5_1))))) = false := decide_eq_false c12
           clear c12
           obtain ⟨ji13, hji13⟩ : ∃ j_ : Int, (wrap64 (x5_1 + 1)) = j_ := ⟨_, rfl⟩
           replace H : (if 0 ≤ (ji13) then (if (ji13) ≤ (wrap64 ((ji13) + (wrap64 (bt a0 x5_1)))) then (if (wrap64 ((ji13) + (wrap64 (bt a0 x5_1)))) ≤ (a0.size : Int) then (if x4_1.length < 8796093022208 then (beadrollref07_Labels.l0 kj2 a0 (x4_1 ++ [a0.extract ((ji13) : Int).toNat ((wrap64 ((ji13) + (wrap64 (bt a0 x5_1)))) : Int).toNat]) (wrap64 (x5_1 + (wrap64 (1 + (wrap64 (bt a0 x5_1))))))) else (none)) else (none)) else (none)) else (none)) = some (r1, r2) := by first | (rw [hji13] at H; exact H) | (simp only [hji13] at H ⊢; exact H)
           (try rw [hji13] at c12b0)
           have hji13w : (IntKind.i64.wrap (x5_1 + 1)) = ji13 := (i64_w _).trans hji13
           by_cases c14 : 0 ≤ (ji13)
           ·rw [if_pos c14] at H
            have c14b0 := eq_true c14
            have c14b1 : decide (0 ≤ (ji13)) = true := decide_eq_true c14
            clear c14
            by_cases c15 : (ji13) ≤ (wrap64 ((ji13) + (wrap64 (bt a0 x5_1))))
            ·rw [if_pos c15] at H
             have c15b0 := eq_true c15
             have c15b1 : decide ((ji13) ≤ (wrap64 ((ji13) + (wrap64 (bt a0 x5_1))))) = true := decide_eq_true c15
             by_cases c16 : (wrap64 ((ji13) + (wrap64 (bt a0 x5_1)))) ≤ (a0.size : Int)
             ·rw [if_pos c16] at H
              have c16b0 := eq_true c16
              have c16b1 : decide ((wrap64 ((ji13) + (wrap64 (bt a0 x5_1)))) ≤ (a0.size : Int)) = true := decide_eq_true c16
              by_cases c17 : x4_1.length < 8796093022208
              ·rw [if_pos c17] at H
               have LMc17 := Aside0.mk c17
               clear c17
               obtain ⟨y174, hy174⟩ : ∃ y_ : List ByteArray, y_ = (x4_1 ++ [a0.extract ((ji13) : Int).toNat ((wrap64 ((ji13) + (wrap64 (bt a0 x5_1)))) : Int).toNat]) := ⟨_, rfl⟩
               replace H : (beadrollref07_Labels.l0 kj2 a0 y174 (wrap64 (x5_1 + (wrap64 (1 + (wrap64 (bt a0 x5_1))))))) = some (r1, r2) := by first | (rw [hy174]; with_reducible exact H) | (have H2_ := (Option.bind_some _ _).symm.trans H; rw [hy174]; with_reducible exact H2_) | (have H2_ := (Option.bind_some _ _).symm.trans H; with_reducible exact H2_) | with_reducible exact H | (rw [hy174]; exact H) | exact H
               have Ny174 := Aside0.mk hy174
               clear hy174
               have H' := Aside0.mk H
               clear H
               have p10 : 0 ≤ (x5_1 : Int) := of_decide_eq_true (by first | (with_reducible assumption) | assumption)
               have q10 : x5_1 < (a0.size : Int) := of_decide_eq_true (by first | (with_reducible assumption) | assumption)
               have hx10 := bt_at a0 x5_1
               replace p10 := eq_true p10
               replace q10 := eq_true q10
               go_wp2_with (first | ((with_reducible refine gate_builtin (b := .append) (xs := #[.tmp 35, .tmp 44]) rfl ?_); (try (refine gate_guard (by rfl) ?_; dsimp only)); at_builtin; refine Kd.R_append Kd.string (w0 := w) w.heap.size rfl (.tmp 35) (.tmp 44) 52 9 (.string ⟨#[]⟩) 16 rfl Try.underlying52 info9 rfl (by decide) (by omega) u4 x4_1 (a0.extract ((ji13) : Int).toNat ((wrap64 ((ji13) + (wrap64 (bt a0 x5_1)))) : Int).toNat) [.string (a0.extract ((ji13) : Int).toNat ((wrap64 ((ji13) + (wrap64 (bt a0 x5_1)))) : Int).toNat)] (fun _ => True) (fun _ => False) rfl rfl ?aP (fun _ hk => hk.elim) ?aF ?aO ?aB ?aS ?aL ?_; (case aP => exact rfl); (case aB => exact (by repeat (first | (with_reducible first | exact HB.out | apply below_alloc | apply pw_below_drewN | apply below_drew1) | exact HB.out))); (case aF => exact (fun _ _ => trivial)); (case aO => exact (by (with_reducible repeat (first | apply Kd.R_alloc | apply Kd.R_drewN | apply Kd.R_drew)); exact HO_4.out)); (case aS => exact (below_size (by repeat (first | (with_reducible first | exact HB.out | apply below_alloc | apply pw_below_drewN | apply below_drew1) | exact HB.out)))); (case aL => have := LMc17.out; omega); intro v175 w18 ho hb hg hat; rw [← Ny174.out] at ho; have n0_ := Aside0.mk (hb); have n1_ := Aside0.mk (ho); clear HB; clear HO_4; have HB := n0_; have HO176 := n1_; clear n0_ n1_; clear ho hb hg hat))
               repeat (go_quiet (first | ((with_reducible refine gate_builtin (b := .append) (xs := #[.tmp 35, .tmp 44]) rfl ?_); (try (refine gate_guard (by rfl) ?_; dsimp only)); at_builtin; refine Kd.R_append Kd.string (w0 := w) w.heap.size rfl (.tmp 35) (.tmp 44) 52 9 (.string ⟨#[]⟩) 16 rfl Try.underlying52 info9 rfl (by decide) (by omega) u4 x4_1 (a0.extract ((ji13) : Int).toNat ((wrap64 ((ji13) + (wrap64 (bt a0 x5_1)))) : Int).toNat) [.string (a0.extract ((ji13) : Int).toNat ((wrap64 ((ji13) + (wrap64 (bt a0 x5_1)))) : Int).toNat)] (fun _ => True) (fun _ => False) rfl rfl ?aP (fun _ hk => hk.elim) ?aF ?aO ?aB ?aS ?aL ?_; (case aP => exact rfl); (case aB => exact (by repeat (first | (with_reducible first | exact HB.out | apply below_alloc | apply pw_below_drewN | apply below_drew1) | exact HB.out))); (case aF => exact (fun _ _ => trivial)); (case aO => exact (by (with_reducible repeat (first | apply Kd.R_alloc | apply Kd.R_drewN | apply Kd.R_drew)); exact HO_4.out)); (case aS => exact (below_size (by repeat (first | (with_reducible first | exact HB.out | apply below_alloc | apply pw_below_drewN | apply below_drew1) | exact HB.out)))); (case aL => have := LMc17.out; omega); intro v175 w18 ho hb hg hat; rw [← Ny174.out] at ho; have n0_ := Aside0.mk (hb); have n1_ := Aside0.mk (ho); clear HB; clear HO_4; have HB := n0_; have HO176 := n1_; clear n0_ n1_; clear ho hb hg hat)); try go_wp2_with (first | ((with_reducible refine gate_builtin (b := .append) (xs := #[.tmp 35, .tmp 44]) rfl ?_); (try (refine gate_guard (by rfl) ?_; dsimp only)); at_builtin; refine Kd.R_append Kd.string (w0 := w) w.heap.size rfl (.tmp 35) (.tmp 44) 52 9 (.string ⟨#[]⟩) 16 rfl Try.underlying52 info9 rfl (by decide) (by omega) u4 x4_1 (a0.extract ((ji13) : Int).toNat ((wrap64 ((ji13) + (wrap64 (bt a0 x5_1)))) : Int).toNat) [.string (a0.extract ((ji13) : Int).toNat ((wrap64 ((ji13) + (wrap64 (bt a0 x5_1)))) : Int).toNat)] (fun _ => True) (fun _ => False) rfl rfl ?aP (fun _ hk => hk.elim) ?aF ?aO ?aB ?aS ?aL ?_; (case aP => exact rfl); (case aB => exact (by repeat (first | (with_reducible first | exact HB.out | apply below_alloc | apply pw_below_drewN | apply below_drew1) | exact HB.out))); (case aF => exact (fun _ _ => trivial)); (case aO => exact (by (with_reducible repeat (first | apply Kd.R_alloc | apply Kd.R_drewN | apply Kd.R_drew)); exact HO_4.out)); (case aS => exact (below_size (by repeat (first | (with_reducible first | exact HB.out | apply below_alloc | apply pw_below_drewN | apply below_drew1) | exact HB.out)))); (case aL => have := LMc17.out; omega); intro v175 w18 ho hb hg hat; rw [← Ny174.out] at ho; have n0_ := Aside0.mk (hb); have n1_ := Aside0.mk (ho); clear HB; clear HO_4; have HB := n0_; have HO176 := n1_; clear n0_ n1_; clear ho hb hg hat)))
               go_roundg kj2
               case measure => have := HK1.out; have := HJ2.out; omega
               case rel => exact ⟨(y174), (wrap64 (x5_1 + (wrap64 (1 + (wrap64 (bt a0 x5_1)))))), (by first | rfl | (simp; done) | (simp [*]; done)), H', ⟨by have := HK1.out; have := HJ2.out; omega⟩, ⟨by (with_reducible repeat (first | apply Kd.R_alloc | apply Kd.R_drewN | apply Kd.R_drew)); exact HO176.out⟩, ⟨by repeat (first | (with_reducible first | exact HB.out | apply below_alloc | apply pw_below_drewN | apply below_drew1) | exact HB.out)⟩⟩
              ·rw [if_neg c17] at H
               exact absurd H (by simp)
             ·rw [if_neg c16] at H
              exact absurd H (by simp)
            ·rw [if_neg c15] at H
             exact absurd H (by simp)
           ·rw [if_neg c14] at H
            exact absurd H (by simp)
        ·rw [if_neg c9] at H
         exact absurd H (by simp)
       ·rw [if_neg c8] at H
        exact absurd H (by simp)
      ·replace c7 := Bool.eq_false_iff.mpr c7
       subst c7
       have H1 : (if x5_1 = (wrap64 ((a0.size : Int) - 1)) then (if 0 ≤ x5_1 then (if x5_1 < (a0.size : Int) then (some (x4_1, ((bt a0 x5_1) == 0))) else (none)) else (none)) else (some (x4_1, false))) = some (r1, r2) := by rw [if_neg (show ¬ (false = true) by decide)] at H; exact H
       clear H
       have H := H1
       clear H1
       by_cases c19 : x5_1 = (wrap64 ((a0.size : Int) - 1))
       ·rw [if_pos c19] at H
        have c19b0 : (x5_1 == (wrap64 ((a0.size : Int) - 1))) = true := beq_iff_eq.mpr c19
        have c19b1 : (x5_1 != (wrap64 ((a0.size : Int) - 1))) = false := bne_eq_false_iff_eq.mpr c19
        clear c19
        by_cases c20 : 0 ≤ x5_1
        ·rw [if_pos c20] at H
         have c20b0 : decide (0 ≤ x5_1) = true := decide_eq_true c20
         clear c20
         by_cases c21 : x5_1 < (a0.size : Int)
         ·rw [if_pos c21] at H
          have c21b0 : decide (x5_1 < (a0.size : Int)) = true := decide_eq_true c21
          clear c21
          simp only [Option.some.injEq, Prod.mk.injEq] at H
          obtain ⟨rfl, rfl⟩ := H
          have p22 : 0 ≤ (x5_1 : Int) := of_decide_eq_true (by first | (with_reducible assumption) | assumption)
          have q22 : x5_1 < (a0.size : Int) := of_decide_eq_true (by first | (with_reducible assumption) | assumption)
          have hx22 := bt_at a0 x5_1
          replace p22 := eq_true p22
          replace q22 := eq_true q22
          go_wp2
          repeat (go_quiet (fail); try go_wp2)
          go_ret2
          exact ⟨_, by first | rfl | (simp [errW_none, errW_some] <;> rfl) | (simp [*, errW_none, errW_some] <;> rfl), by (with_reducible repeat (first | apply Kd.R_alloc | apply Kd.R_drewN | apply Kd.R_drew)); exact HO_4.out, by repeat (first | (with_reducible first | exact HB.out | apply below_alloc | apply pw_below_drewN | apply below_drew1) | exact HB.out)⟩
         ·rw [if_neg c21] at H
          exact absurd H (by simp)
        ·rw [if_neg c20] at H
         exact absurd H (by simp)
       ·rw [if_neg c19] at H
        have c19b0 : (x5_1 == (wrap64 ((a0.size : Int) - 1))) = false := beq_eq_false_iff_ne.mpr c19
        have c19b1 : (x5_1 != (wrap64 ((a0.size : Int) - 1))) = true := bne_iff_ne.mpr c19
        simp only [Option.some.injEq, Prod.mk.injEq] at H
        obtain ⟨rfl, rfl⟩ := H
        go_wp2
        repeat (go_quiet (fail); try go_wp2)
        go_ret2
        exact ⟨_, by first | rfl | (simp [errW_none, errW_some] <;> rfl) | (simp [*, errW_none, errW_some] <;> rfl), by (with_reducible repeat (first | apply Kd.R_alloc | apply Kd.R_drewN | apply Kd.R_drew)); exact HO_4.out, by repeat (first | (with_reducible first | exact HB.out | apply below_alloc | apply pw_below_drewN | apply below_drew1) | exact HB.out)⟩
def beadrollref07_Right.f (k : Nat) (a0 : ByteArray) : Option (Bool) := (beadrollref07_Labels.f k a0).bind fun bt177 => (some bt177.2)
set_option maxHeartbeats 8000000 in
set_option maxRecDepth 100000 in
theorem beadrollref07_Right.calls (k : Nat) (a0 : ByteArray) (r : Bool) (w : World) (h : beadrollref07_Right.f k a0 = some r) :
  Calls Try.prog 24 #[.string a0] w fun e w' => e = .returned (.bool r) ∧ Below w.heap.size w w' := by
 have HB := Aside0.mk (Below.refl w.heap.size w)
 have H : ((beadrollref07_Labels.f k a0).bind fun bt177 => (some bt177.2)) = some r := h
 clear h
 replace H := Option.bind_eq_some_iff.mp H
 obtain ⟨⟨t177, t178⟩, A20, H⟩ := H
 replace H : (some t178) = some r := H
 have A2 := Aside0.mk A20
 clear A20
 obtain rfl := Option.some.inj H
 go_enter Try.func24, Try.ntmps24
 go_wp2_with (first | ((with_reducible refine gate_callee (f := 39) rfl ?_); refine goesL_ (some 7) rfl rfl Try.func39 (by kernel_rfl) rfl #[.string a0] rfl (by (try simp only [List.map_toArray, List.map_cons, List.map_nil]); first | done | rfl | (simp only [List.length_drop, List.length_take]; rfl)) ?_; (with_reducible refine (beadrollref07_Labels.calls k a0 t177 t178 _ A2.out).mono ?_); rintro e w3 ⟨v179, rfl, ho0, hb⟩; refine ⟨_, rfl, ?_⟩; have n0_ := Aside0.mk (Kd.R_lower ho0 (below_size (by repeat (first | (with_reducible first | exact HB.out | apply below_alloc | apply pw_below_drewN | apply below_drew1) | exact HB.out)))); have n1_ := Aside0.mk (below_step (by repeat (first | (with_reducible first | exact HB.out | apply below_alloc | apply pw_below_drewN | apply below_drew1) | exact HB.out)) hb); clear HB; have HO180 := n0_; have HB := n1_; clear n0_ n1_; (try clear hb); (try clear hb2); (try clear hk); (try clear hi); (try clear ho0)))
 go_ret
 exact ⟨by first | rfl | (simp [errW_none, errW_some] <;> rfl) | (simp [*, errW_none, errW_some] <;> rfl), by repeat (first | (with_reducible first | exact HB.out | apply below_alloc | apply pw_below_drewN | apply below_drew1) | exact HB.out)⟩
end Go.Proofs.Ytnpiglojamhpiaa.PRd
namespace Go.Proofs.Ytnpiglojamhpiaa.PRd
open Go.RowKit Go.Proofs.YtnpiglojamhpiaaW.PrintWords Go.Proofs.YtnpiglojamhpiaaW.PrintLast Go.Proofs.YtnpiglojamhpiaaW.PrintMore Go.Proofs.Ytnpiglojamhpiaa.Given
attribute [local go_sem] max2_int min2_int max_two min_two max_three min_three max_four min_four   -- for this text's walks alone
set_option linter.unusedVariables false
set_option linter.unusedSimpArgs false
mutual
def beadrollref09_Read.j0 : Nat → ByteArray → Int → Bool → Option (ByteArray × Int × Int)
 | 0, _, _, _ => none
 | k + 1, x0, x1, x19 => if x19 = true then (some ((⟨#[]⟩ : ByteArray), 0, 1)) else (beadrollref09_Read.l0 k x0 x1 (⟨#[]⟩ : ByteArray) (-1) x1)
def beadrollref09_Read.l0 : Nat → ByteArray → Int → ByteArray → Int → Int → Option (ByteArray × Int × Int)
 | 0, _, _, _, _, _ => none
 | k + 1, x0, x1, x7, x8, x9 => if x1 < (x0.size : Int) then (beadrollref09_Read.j2 k x0 x1 x7 x8 x9 (decide ((x7.size : Int) < 300))) else (beadrollref09_Read.j2 k x0 x1 x7 x8 x9 false)
def beadrollref09_Read.j2 : Nat → ByteArray → Int → ByteArray → Int → Int → Bool → Option (ByteArray × Int × Int)
 | 0, _, _, _, _, _, _ => none
 | k + 1, x0, x1, x7, x8, x9, x29 => if x29 = true then (if 0 ≤ x1 then (if x1 < (x0.size : Int) then (if (wrap64 (bt x0 x1)) = 0 then (if x7.size + 1 ≤ 9223372036854775807 then (if x8 < 0 then ((beadrollref07_Right.f k (x7 ++ (⟨#[0]⟩ : ByteArray))).bind fun t181 => (if t181 = true then (some (x7 ++ (⟨#[0]⟩ : ByteArray), wrap64 (x1 + 1), 0)) else (some ((⟨#[]⟩ : ByteArray), 0, 2)))) else ((beadrollref07_Right.f k (x7 ++ (⟨#[0]⟩ : ByteArray))).bind fun t182 => (if t182 = true then (some (x7 ++ (⟨#[0]⟩ : ByteArray), x8, 0)) else (some ((⟨#[]⟩ : ByteArray), 0, 2))))) else (none)) else (if (wrap64 (bt x0 x1)) ≥ 192 then (if (wrap64 (x1 + 1)) ≥ (x0.size : Int) then (some ((⟨#[]⟩ : ByteArray), 0, 2)) else (if 0 ≤ (wrap64 (x1 + 1)) then (if (wrap64 (x1 + 1)) < (x0.size : Int) then (if (wrap64 ((wrap64 ((wrap64 ((wrap64 (bt x0 x1)) - 192)) * 256)) + (wrap64 (bt x0 (wrap64 (x1 + 1)))))) ≥ x9 then (some ((⟨#[]⟩ : ByteArray), 0, 2)) else (if x8 < 0 then (beadrollref09_Read.l0 k x0 (wrap64 ((wrap64 ((wrap64 ((wrap64 (bt x0 x1)) - 192)) * 256)) + (wrap64 (bt x0 (wrap64 (x1 + 1)))))) x7 (wrap64 (x1 + 2)) (wrap64 ((wrap64 ((wrap64 ((wrap64 (bt x0 x1)) - 192)) * 256)) + (wrap64 (bt x0 (wrap64 (x1 + 1))))))) else (beadrollref09_Read.l0 k x0 (wrap64 ((wrap64 ((wrap64 ((wrap64 (bt x0 x1)) - 192)) * 256)) + (wrap64 (bt x0 (wrap64 (x1 + 1)))))) x7 x8 (wrap64 ((wrap64 ((wrap64 ((wrap64 (bt x0 x1)) - 192)) * 256)) + (wrap64 (bt x0 (wrap64 (x1 + 1))))))))) else (none)) else (none))) else (if (wrap64 (bt x0 x1)) ≥ 64 then (some ((⟨#[]⟩ : ByteArray), 0, 2)) else (if (wrap64 ((wrap64 (x1 + 1)) + (wrap64 (bt x0 x1)))) > (x0.size : Int) then (some ((⟨#[]⟩ : ByteArray), 0, 2)) else (if x1 ≤ (wrap64 ((wrap64 (x1 + 1)) + (wrap64 (bt x0 x1)))) then (if (wrap64 ((wrap64 (x1 + 1)) + (wrap64 (bt x0 x1)))) ≤ (x0.size : Int) then (if x7.size + (x0.extract (x1 : Int).toNat ((wrap64 ((wrap64 (x1 + 1)) + (wrap64 (bt x0 x1)))) : Int).toNat).size ≤ 9223372036854775807 then (beadrollref09_Read.l0 k x0 (wrap64 (x1 + (wrap64 (1 + (wrap64 (bt x0 x1)))))) (x7 ++ (x0.extract (x1 : Int).toNat ((wrap64 ((wrap64 (x1 + 1)) + (wrap64 (bt x0 x1)))) : Int).toNat)) x8 x9) else (none)) else (none)) else (none)))))) else (none)) else (none)) else (some ((⟨#[]⟩ : ByteArray), 0, 2))
end
def beadrollref09_Read.f (k : Nat) (a0 : ByteArray) (a1 : Int) : Option (ByteArray × Int × Int) := if a1 < 0 then (beadrollref09_Read.j0 k a0 a1 true) else (beadrollref09_Read.j0 k a0 a1 (decide (a1 > (a0.size : Int))))
set_option maxHeartbeats 8000000 in
set_option maxRecDepth 100000 in
theorem beadrollref09_Read.calls (k : Nat) (a0 : ByteArray) (a1 : Int) (r1 : ByteArray) (r2 : Int) (r3 : Int) (w : World) (h : beadrollref09_Read.f k a0 a1 = some (r1, r2, r3)) :
  Calls Try.prog 66 #[.string a0, .int .i64 a1] w fun e w' => e = .returned (.tuple #[.string r1, .int .i64 r2, .int .i64 r3]) ∧ Below w.heap.size w w' := by
 have HB := Aside0.mk (Below.refl w.heap.size w)
 have H : (if a1 < 0 then (beadrollref09_Read.j0 k a0 a1 true) else (beadrollref09_Read.j0 k a0 a1 (decide (a1 > (a0.size : Int))))) = some (r1, r2, r3) := h
 clear h
 have HC3 := Aside0.mk H
 clear H
 go_enter Try.func66, Try.ntmps66
 go_upto_region 1 with (fail)
 go_cut [19] (fun v19 wc => ∃ (kq : Nat) (x19_2 : Bool), v19 = .bool x19_2 ∧ Aside0 (beadrollref09_Read.j0 kq a0 a1 x19_2 = some (r1, r2, r3)) ∧ Aside0 (kq ≤ k) ∧ Aside0 (Below w.heap.size w wc))
 case first =>
  have H := HC3.out
  clear HC3
  by_cases c4 : a1 < 0
  ·rw [if_pos c4] at H
   have c4b0 : decide (a1 < 0) = true := decide_eq_true c4
   clear c4
   (first | rw [c4b0] | (simp only [i64_w, i32_w]; rw [c4b0]) | skip)
   have H' := Aside0.mk H
   clear H
   go_wp2
   go_meet
   case rel => exact ⟨_, (true), (by first | rfl | (simp; done) | (simp [*]; done)), H', ⟨by first | omega | exact Nat.le_refl _⟩, ⟨by repeat (first | (with_reducible first | exact HB.out | apply below_alloc | apply pw_below_drewN | apply below_drew1) | exact HB.out)⟩⟩
  ·rw [if_neg c4] at H
   have c4b0 : decide (a1 < 0) = false := decide_eq_false c4
   clear c4
   (first | rw [c4b0] | (simp only [i64_w, i32_w]; rw [c4b0]) | skip)
   have H' := Aside0.mk H
   clear H
   go_wp2
   go_meet
   case rel => exact ⟨_, (decide (a1 > (a0.size : Int))), (by first | rfl | (simp; done) | (simp [*]; done)), H', ⟨by first | omega | exact Nat.le_refl _⟩, ⟨by repeat (first | (with_reducible first | exact HB.out | apply below_alloc | apply pw_below_drewN | apply below_drew1) | exact HB.out)⟩⟩
 case rest =>
  clear HC3
  try clear p2
  try clear c4
  try clear c4b0
  obtain ⟨kq, x19_2, rfl, HA, HJ2, HB⟩ := hcut
  cases kq with
  | zero => exact absurd HA.out (by simp [beadrollref09_Read.j0])
  | succ kj2 =>
   have H := HA.out
   clear HA
   simp only [beadrollref09_Read.j0] at H
   by_cases c5 : x19_2 = true
   ·subst c5
    have H1 : (some ((⟨#[]⟩ : ByteArray), 0, 1)) = some (r1, r2, r3) := by rw [if_pos rfl] at H; exact H
    clear H
    have H := H1
    clear H1
    simp only [Option.some.injEq, Prod.mk.injEq] at H
    obtain ⟨rfl, rfl, rfl⟩ := H
    go_wp2
    go_ret3
    exact ⟨by first | rfl | (simp [errW_none, errW_some] <;> rfl) | (simp [*, errW_none, errW_some] <;> rfl), by repeat (first | (with_reducible first | exact HB.out | apply below_alloc | apply pw_below_drewN | apply below_drew1) | exact HB.out)⟩
   ·replace c5 := Bool.eq_false_iff.mpr c5
    subst c5
    have H1 : (beadrollref09_Read.l0 kj2 a0 a1 (⟨#[]⟩ : ByteArray) (-1) a1) = some (r1, r2, r3) := by rw [if_neg (show ¬ (false = true) by decide)] at H; exact H
    clear H
    have H := H1
    clear H1
    have H' := Aside0.mk H
    clear H
    go_wp2
    go_loopg [1, 7, 8, 9] kj2 (fun kq v1 v7 v8 v9 w' => ∃ (x1_2 : Int) (x7_2 : ByteArray) (x8_2 : Int) (x9_2 : Int), v1 = .int .i64 x1_2 ∧ v7 = .string x7_2 ∧ v8 = .int .i64 x8_2 ∧ v9 = .int .i64 x9_2 ∧ Aside0 (beadrollref09_Read.l0 kq a0 x1_2 x7_2 x8_2 x9_2 = some (r1, r2, r3)) ∧ Aside0 (kq ≤ kj2) ∧ Aside0 (Below w.heap.size w w'))
    case atStart => exact ⟨(a1), ((⟨#[]⟩ : ByteArray)), ((-1)), (a1), (by first | rfl | (simp; done) | (simp [*]; done)), (by first | rfl | (simp; done) | (simp [*]; done)), (by first | rfl | (simp; done) | (simp [*]; done)), (by first | rfl | (simp; done) | (simp [*]; done)), H', ⟨Nat.le_refl _⟩, ⟨by repeat (first | (with_reducible first | exact HB.out | apply below_alloc | apply pw_below_drewN | apply below_drew1) | exact HB.out)⟩⟩
    case round =>
     clear H'
     try clear p2
     try clear c4
     try clear c4b0
     try clear c5
     try clear p2
     obtain ⟨x1_2, x7_2, x8_2, x9_2, rfl, rfl, rfl, rfl, HA, HK2, HB⟩ := hrel
     cases gk with
     | zero => exact absurd HA.out (by simp [beadrollref09_Read.l0])
     | succ k2 =>
      have H := HA.out
      clear HA
      simp only [beadrollref09_Read.l0] at H
      have HC6 := Aside0.mk H
      clear H
      go_upto_region 6 with (fail)
      go_cut [29] (fun v29 wc => ∃ (kq : Nat) (x29_5 : Bool), v29 = .bool x29_5 ∧ Aside0 (beadrollref09_Read.j2 kq a0 x1_2 x7_2 x8_2 x9_2 x29_5 = some (r1, r2, r3)) ∧ Aside0 (kq ≤ k2) ∧ Aside0 (Below w.heap.size w wc))
      case first =>
       have H := HC6.out
       clear HC6
       by_cases c7 : x1_2 < (a0.size : Int)
       ·rw [if_pos c7] at H
        have c7b0 : decide (x1_2 < (a0.size : Int)) = true := decide_eq_true c7
        clear c7
        (first | rw [c7b0] | (simp only [i64_w, i32_w]; rw [c7b0]) | skip)
        have H' := Aside0.mk H
        clear H
        go_wp2
        go_meet
        case rel => exact ⟨_, (decide ((x7_2.size : Int) < 300)), (by first | rfl | (simp; done) | (simp [*]; done)), H', ⟨by have := HJ2.out; have := HK2.out; first | omega | exact Nat.le_refl _⟩, ⟨by repeat (first | (with_reducible first | exact HB.out | apply below_alloc | apply pw_below_drewN | apply below_drew1) | exact HB.out)⟩⟩
       ·rw [if_neg c7] at H
        have c7b0 : decide (x1_2 < (a0.size : Int)) = false := decide_eq_false c7
        clear c7
        (first | rw [c7b0] | (simp only [i64_w, i32_w]; rw [c7b0]) | skip)
        have H' := Aside0.mk H
        clear H
        go_wp2
        go_meet
        case rel => exact ⟨_, (false), (by first | rfl | (simp; done) | (simp [*]; done)), H', ⟨by have := HJ2.out; have := HK2.out; first | omega | exact Nat.le_refl _⟩, ⟨by repeat (first | (with_reducible first | exact HB.out | apply below_alloc | apply pw_below_drewN | apply below_drew1) | exact HB.out)⟩⟩
      case rest =>
       clear HC6
       try clear p2
       try clear c4
       try clear c4b0
       try clear c5
       try clear c6
       try clear c7
       try clear c7b0
       try clear p2
       obtain ⟨kq, x29_5, rfl, HA, HJ5, HB⟩ := hcut
       cases kq with
       | zero => exact absurd HA.out (by simp [beadrollref09_Read.j2])
       | succ kj5 =>
        have H := HA.out
        clear HA
        simp only [beadrollref09_Read.j2] at H
        by_cases c8 : x29_5 = true
        ·subst c8
         have H1 : (if 0 ≤ x1_2 then (if x1_2 < (a0.size : Int) then (if (wrap64 (bt a0 x1_2)) = 0 then (if x7_2.size + 1 ≤ 9223372036854775807 then (if x8_2 < 0 then ((beadrollref07_Right.f kj5 (x7_2 ++ (⟨#[0]⟩ : ByteArray))).bind fun t181 => (if t181 = true then (some (x7_2 ++ (⟨#[0]⟩ : ByteArray), wrap64 (x1_2 + 1), 0)) else (some ((⟨#[]⟩ : ByteArray), 0, 2)))) else ((beadrollref07_Right.f kj5 (x7_2 ++ (⟨#[0]⟩ : ByteArray))).bind fun t182 => (if t182 = true then (some (x7_2 ++ (⟨#[0]⟩ : ByteArray), x8_2, 0)) else (some ((⟨#[]⟩ : ByteArray), 0, 2))))) else (none)) else (if (wrap64 (bt a0 x1_2)) ≥ 192 then (if (wrap64 (x1_2 + 1)) ≥ (a0.size : Int) then (some ((⟨#[]⟩ : ByteArray), 0, 2)) else (if 0 ≤ (wrap64 (x1_2 + 1)) then (if (wrap64 (x1_2 + 1)) < (a0.size : Int) then (if (wrap64 ((wrap64 ((wrap64 ((wrap64 (bt a0 x1_2)) - 192)) * 256)) + (wrap64 (bt a0 (wrap64 (x1_2 + 1)))))) ≥ x9_2 then (some ((⟨#[]⟩ : ByteArray), 0, 2)) else (if x8_2 < 0 then (beadrollref09_Read.l0 kj5 a0 (wrap64 ((wrap64 ((wrap64 ((wrap64 (bt a0 x1_2)) - 192)) * 256)) + (wrap64 (bt a0 (wrap64 (x1_2 + 1)))))) x7_2 (wrap64 (x1_2 + 2)) (wrap64 ((wrap64 ((wrap64 ((wrap64 (bt a0 x1_2)) - 192)) * 256)) + (wrap64 (bt a0 (wrap64 (x1_2 + 1))))))) else (beadrollref09_Read.l0 kj5 a0 (wrap64 ((wrap64 ((wrap64 ((wrap64 (bt a0 x1_2)) - 192)) * 256)) + (wrap64 (bt a0 (wrap64 (x1_2 + 1)))))) x7_2 x8_2 (wrap64 ((wrap64 ((wrap64 ((wrap64 (bt a0 x1_2)) - 192)) * 256)) + (wrap64 (bt a0 (wrap64 (x1_2 + 1))))))))) else (none)) else (none))) else (if (wrap64 (bt a0 x1_2)) ≥ 64 then (some ((⟨#[]⟩ : ByteArray), 0, 2)) else (if (wrap64 ((wrap64 (x1_2 + 1)) + (wrap64 (bt a0 x1_2)))) > (a0.size : Int) then (some ((⟨#[]⟩ : ByteArray), 0, 2)) else (if x1_2 ≤ (wrap64 ((wrap64 (x1_2 + 1)) + (wrap64 (bt a0 x1_2)))) then (if (wrap64 ((wrap64 (x1_2 + 1)) + (wrap64 (bt a0 x1_2)))) ≤ (a0.size : Int) then (if x7_2.size + (a0.extract (x1_2 : Int).toNat ((wrap64 ((wrap64 (x1_2 + 1)) + (wrap64 (bt a0 x1_2)))) : Int).toNat).size ≤ 9223372036854775807 then (beadrollref09_Read.l0 kj5 a0 (wrap64 (x1_2 + (wrap64 (1 + (wrap64 (bt a0 x1_2)))))) (x7_2 ++ (a0.extract (x1_2 : Int).toNat ((wrap64 ((wrap64 (x1_2 + 1)) + (wrap64 (bt a0 x1_2)))) : Int).toNat)) x8_2 x9_2) else (none)) else (none)) else (none)))))) else (none)) else (none)) = some (r1, r2, r3) := by rw [if_pos rfl] at H; exact H
         clear H
         have H := H1
         clear H1
         by_cases c9 : 0 ≤ x1_2
         ·rw [if_pos c9] at H
          have c9b0 : decide (0 ≤ x1_2) = true := decide_eq_true c9
          clear c9
          by_cases c10 : x1_2 < (a0.size : Int)
          ·rw [if_pos c10] at H
           have c10b0 : decide (x1_2 < (a0.size : Int)) = true := decide_eq_true c10
           clear c10
           by_cases c12 : (wrap64 (bt a0 x1_2)) = 0
           ·rw [if_pos c12] at H
            have c12b0 : ((wrap64 (bt a0 x1_2)) == 0) = true := beq_iff_eq.mpr c12
            have c12b1 : ((wrap64 (bt a0 x1_2)) != 0) = false := bne_eq_false_iff_eq.mpr c12
            clear c12
            by_cases c13 : x7_2.size + 1 ≤ 9223372036854775807
            ·rw [if_pos c13] at H
             have c13b0 := eq_true c13
             have c13b1 : decide (x7_2.size + 1 ≤ 9223372036854775807) = true := decide_eq_true c13
             try have c13b2 : (9223372036854775807 < x7_2.size + 1) = False := eq_false (Nat.not_lt.2 c13)
             by_cases c14 : x8_2 < 0
             ·rw [if_pos c14] at H
              have c14b0 : decide (x8_2 < 0) = true := decide_eq_true c14
              clear c14
              replace H := Option.bind_eq_some_iff.mp H
              obtain ⟨t181, A150, H⟩ := H
              replace H : (if t181 = true then (some (x7_2 ++ (⟨#[0]⟩ : ByteArray), wrap64 (x1_2 + 1), 0)) else (some ((⟨#[]⟩ : ByteArray), 0, 2))) = some (r1, r2, r3) := H
              have A15 := Aside0.mk A150
              clear A150
              by_cases c16 : t181 = true
              ·subst c16
               have H1 : (some (x7_2 ++ (⟨#[0]⟩ : ByteArray), wrap64 (x1_2 + 1), 0)) = some (r1, r2, r3) := by rw [if_pos rfl] at H; exact H
               clear H
               have H := H1
               clear H1
               simp only [Option.some.injEq, Prod.mk.injEq] at H
               obtain ⟨rfl, rfl, rfl⟩ := H
               have p11 : 0 ≤ (x1_2 : Int) := of_decide_eq_true (by first | (with_reducible assumption) | assumption)
               have q11 : x1_2 < (a0.size : Int) := of_decide_eq_true (by first | (with_reducible assumption) | assumption)
               have hx11 := bt_at a0 x1_2
               replace p11 := eq_true p11
               replace q11 := eq_true q11
               go_wp2_with (first | ((with_reducible refine gate_callee (f := 24) rfl ?_); refine goesL_ (some 43) rfl rfl Try.func24 (by kernel_rfl) rfl #[.string (x7_2 ++ (⟨#[0]⟩ : ByteArray))] rfl (by (try simp only [List.map_toArray, List.map_cons, List.map_nil]); first | done | rfl | (simp only [List.length_drop, List.length_take]; rfl)) ?_; (with_reducible refine (beadrollref07_Right.calls kj5 (x7_2 ++ (⟨#[0]⟩ : ByteArray)) true _ A15.out).mono ?_); rintro e w17 ⟨rfl, hb⟩; refine ⟨_, rfl, ?_⟩; have n0_ := Aside0.mk (below_step (by repeat (first | (with_reducible first | exact HB.out | apply below_alloc | apply pw_below_drewN | apply below_drew1) | exact HB.out)) hb); clear HB; have HB := n0_; clear n0_; (try clear hb); (try clear hb2); (try clear hk); (try clear hi)))
               go_ret3
               exact ⟨by first | rfl | (simp [errW_none, errW_some] <;> rfl) | (simp [*, errW_none, errW_some] <;> rfl), by repeat (first | (with_reducible first | exact HB.out | apply below_alloc | apply pw_below_drewN | apply below_drew1) | exact HB.out)⟩
              ·replace c16 := Bool.eq_false_iff.mpr c16
               subst c16
               have H1 : (some ((⟨#[]⟩ : ByteArray), 0, 2)) = some (r1, r2, r3) := by rw [if_neg (show ¬ (false = true) by decide)] at H; exact H
               clear H
               have H := H1
               clear H1
               simp only [Option.some.injEq, Prod.mk.injEq] at H
               obtain ⟨rfl, rfl, rfl⟩ := H
               have p11 : 0 ≤ (x1_2 : Int) := of_decide_eq_true (by first | (with_reducible assumption) | assumption)
               have q11 : x1_2 < (a0.size : Int) := of_decide_eq_true (by first | (with_reducible assumption) | assumption)
               have hx11 := bt_at a0 x1_2
               replace p11 := eq_true p11
               replace q11 := eq_true q11
               go_wp2_with (first | ((with_reducible refine gate_callee (f := 24) rfl ?_); refine goesL_ (some 43) rfl rfl Try.func24 (by kernel_rfl) rfl #[.string (x7_2 ++ (⟨#[0]⟩ : ByteArray))] rfl (by (try simp only [List.map_toArray, List.map_cons, List.map_nil]); first | done | rfl | (simp only [List.length_drop, List.length_take]; rfl)) ?_; (with_reducible refine (beadrollref07_Right.calls kj5 (x7_2 ++ (⟨#[0]⟩ : ByteArray)) false _ A15.out).mono ?_); rintro e w18 ⟨rfl, hb⟩; refine ⟨_, rfl, ?_⟩; have n0_ := Aside0.mk (below_step (by repeat (first | (with_reducible first | exact HB.out | apply below_alloc | apply pw_below_drewN | apply below_drew1) | exact HB.out)) hb); clear HB; have HB := n0_; clear n0_; (try clear hb); (try clear hb2); (try clear hk); (try clear hi)))
               go_ret3
               exact ⟨by first | rfl | (simp [errW_none, errW_some] <;> rfl) | (simp [*, errW_none, errW_some] <;> rfl), by repeat (first | (with_reducible first | exact HB.out | apply below_alloc | apply pw_below_drewN | apply below_drew1) | exact HB.out)⟩
             ·rw [if_neg c14] at H
              have c14b0 : decide (x8_2 < 0) = false := decide_eq_false c14
              clear c14
              replace H := Option.bind_eq_some_iff.mp H
              obtain ⟨t182, A190, H⟩ := H
              replace H : (if t182 = true then (some (x7_2 ++ (⟨#[0]⟩ : ByteArray), x8_2, 0)) else (some ((⟨#[]⟩ : ByteArray), 0, 2))) = some (r1, r2, r3) := H
              have A19 := Aside0.mk A190
              clear A190
              by_cases c20 : t182 = true
              ·subst c20
               have H1 : (some (x7_2 ++ (⟨#[0]⟩ : ByteArray), x8_2, 0)) = some (r1, r2, r3) := by rw [if_pos rfl] at H; exact H
               clear H
               have H := H1
               clear H1
               simp only [Option.some.injEq, Prod.mk.injEq] at H
               obtain ⟨rfl, rfl, rfl⟩ := H
               have p11 : 0 ≤ (x1_2 : Int) := of_decide_eq_true (by first | (with_reducible assumption) | assumption)
               have q11 : x1_2 < (a0.size : Int) := of_decide_eq_true (by first | (with_reducible assumption) | assumption)
               have hx11 := bt_at a0 x1_2
               replace p11 := eq_true p11
               replace q11 := eq_true q11
               go_wp2_with (first | ((with_reducible refine gate_callee (f := 24) rfl ?_); refine goesL_ (some 43) rfl rfl Try.func24 (by kernel_rfl) rfl #[.string (x7_2 ++ (⟨#[0]⟩ : ByteArray))] rfl (by (try simp only [List.map_toArray, List.map_cons, List.map_nil]); first | done | rfl | (simp only [List.length_drop, List.length_take]; rfl)) ?_; (with_reducible refine (beadrollref07_Right.calls kj5 (x7_2 ++ (⟨#[0]⟩ : ByteArray)) true _ A19.out).mono ?_); rintro e w21 ⟨rfl, hb⟩; refine ⟨_, rfl, ?_⟩; have n0_ := Aside0.mk (below_step (by repeat (first | (with_reducible first | exact HB.out | apply below_alloc | apply pw_below_drewN | apply below_drew1) | exact HB.out)) hb); clear HB; have HB := n0_; clear n0_; (try clear hb); (try clear hb2); (try clear hk); (try clear hi)))
               go_ret3
               exact ⟨by first | rfl | (simp [errW_none, errW_some] <;> rfl) | (simp [*, errW_none, errW_some] <;> rfl), by repeat (first | (with_reducible first | exact HB.out | apply below_alloc | apply pw_below_drewN | apply below_drew1) | exact HB.out)⟩
              ·replace c20 := Bool.eq_false_iff.mpr c20
               subst c20
               have H1 : (some ((⟨#[]⟩ : ByteArray), 0, 2)) = some (r1, r2, r3) := by rw [if_neg (show ¬ (false = true) by decide)] at H; exact H
               clear H
               have H := H1
               clear H1
               simp only [Option.some.injEq, Prod.mk.injEq] at H
               obtain ⟨rfl, rfl, rfl⟩ := H
               have p11 : 0 ≤ (x1_2 : Int) := of_decide_eq_true (by first | (with_reducible assumption) | assumption)
               have q11 : x1_2 < (a0.size : Int) := of_decide_eq_true (by first | (with_reducible assumption) | assumption)
               have hx11 := bt_at a0 x1_2
               replace p11 := eq_true p11
               replace q11 := eq_true q11
               go_wp2_with (first | ((with_reducible refine gate_callee (f := 24) rfl ?_); refine goesL_ (some 43) rfl rfl Try.func24 (by kernel_rfl) rfl #[.string (x7_2 ++ (⟨#[0]⟩ : ByteArray))] rfl (by (try simp only [List.map_toArray, List.map_cons, List.map_nil]); first | done | rfl | (simp only [List.length_drop, List.length_take]; rfl)) ?_; (with_reducible refine (beadrollref07_Right.calls kj5 (x7_2 ++ (⟨#[0]⟩ : ByteArray)) false _ A19.out).mono ?_); rintro e w22 ⟨rfl, hb⟩; refine ⟨_, rfl, ?_⟩; have n0_ := Aside0.mk (below_step (by repeat (first | (with_reducible first | exact HB.out | apply below_alloc | apply pw_below_drewN | apply below_drew1) | exact HB.out)) hb); clear HB; have HB := n0_; clear n0_; (try clear hb); (try clear hb2); (try clear hk); (try clear hi)))
               go_ret3
               exact ⟨by first | rfl | (simp [errW_none, errW_some] <;> rfl) | (simp [*, errW_none, errW_some] <;> rfl), by repeat (first | (with_reducible first | exact HB.out | apply below_alloc | apply pw_below_drewN | apply below_drew1) | exact HB.out)⟩
            ·rw [if_neg c13] at H
             exact absurd H (by simp)
           ·rw [if_neg c12] at H
            have c12b0 : ((wrap64 (bt a0 x1_2)) == 0) = false := beq_eq_false_iff_ne.mpr c12
            have c12b1 : ((wrap64 (bt a0 x1_2)) != 0) = true := bne_iff_ne.mpr c12
            by_cases c23 : (wrap64 (bt a0 x1_2)) ≥ 192
            ·rw [if_pos c23] at H
             have c23b0 : decide (192 ≤ (wrap64 (bt a0 x1_2))) = true := decide_eq_true c23
             clear c23
             by_cases c24 : (wrap64 (x1_2 + 1)) ≥ (a0.size : Int)
             ·rw [if_pos c24] at H
              have c24b0 : decide ((a0.size : Int) ≤ (wrap64 (x1_2 + 1))) = true := decide_eq_true c24
              clear c24
              simp only [Option.some.injEq, Prod.mk.injEq] at H
              obtain ⟨rfl, rfl, rfl⟩ := H
              have p11 : 0 ≤ (x1_2 : Int) := of_decide_eq_true (by first | (with_reducible assumption) | assumption)
              have q11 : x1_2 < (a0.size : Int) := of_decide_eq_true (by first | (with_reducible assumption) | assumption)
              have hx11 := bt_at a0 x1_2
              replace p11 := eq_true p11
              replace q11 := eq_true q11
              go_wp2
              go_ret3
              exact ⟨by first | rfl | (simp [errW_none, errW_some] <;> rfl) | (simp [*, errW_none, errW_some] <;> rfl), by repeat (first | (with_reducible first | exact HB.out | apply below_alloc | apply pw_below_drewN | apply below_drew1) | exact HB.out)⟩
             ·rw [if_neg c24] at H
              have c24b0 : decide ((a0.size : Int) ≤ (wrap64 (x1_2 + 1))) = false := decide_eq_false c24
              clear c24
              obtain ⟨ji25, hji25⟩ : ∃ j_ : Int, (wrap64 (x1_2 + 1)) = j_ := ⟨_, rfl⟩
              replace H : (if 0 ≤ (ji25) then (if (ji25) < (a0.size : Int) then (if (wrap64 ((wrap64 ((wrap64 ((wrap64 (bt a0 x1_2)) - 192)) * 256)) + (wrap64 (bt a0 (ji25))))) ≥ x9_2 then (some ((⟨#[]⟩ : ByteArray), 0, 2)) else (if x8_2 < 0 then (beadrollref09_Read.l0 kj5 a0 (wrap64 ((wrap64 ((wrap64 ((wrap64 (bt a0 x1_2)) - 192)) * 256)) + (wrap64 (bt a0 (ji25))))) x7_2 (wrap64 (x1_2 + 2)) (wrap64 ((wrap64 ((wrap64 ((wrap64 (bt a0 x1_2)) - 192)) * 256)) + (wrap64 (bt a0 (ji25)))))) else (beadrollref09_Read.l0 kj5 a0 (wrap64 ((wrap64 ((wrap64 ((wrap64 (bt a0 x1_2)) - 192)) * 256)) + (wrap64 (bt a0 (ji25))))) x7_2 x8_2 (wrap64 ((wrap64 ((wrap64 ((wrap64 (bt a0 x1_2)) - 192)) * 256)) + (wrap64 (bt a0 (ji25)))))))) else (none)) else (none)) = some (r1, r2, r3) := by first | (rw [hji25] at H; exact H) | (simp only [hji25] at H ⊢; exact H)
              (try rw [hji25] at c24b0)
              have hji25w : (IntKind.i64.wrap (x1_2 + 1)) = ji25 := (i64_w _).trans hji25
              by_cases c26 : 0 ≤ (ji25)
              ·rw [if_pos c26] at H
               have c26b0 : decide (0 ≤ (ji25)) = true := decide_eq_true c26
               clear c26
               by_cases c27 : (ji25) < (a0.size : Int)
               ·rw [if_pos c27] at H
                have c27b0 : decide ((ji25) < (a0.size : Int)) = true := decide_eq_true c27
                clear c27
                by_cases c29 : (wrap64 ((wrap64 ((wrap64 ((wrap64 (bt a0 x1_2)) - 192)) * 256)) + (wrap64 (bt a0 (ji25))))) ≥ x9_2
                ·rw [if_pos c29] at H
                 have c29b0 : decide (x9_2 ≤ (wrap64 ((wrap64 ((wrap64 ((wrap64 (bt a0 x1_2)) - 192)) * 256)) + (wrap64 (bt a0 (ji25)))))) = true := decide_eq_true c29
                 clear c29
                 simp only [Option.some.injEq, Prod.mk.injEq] at H
                 obtain ⟨rfl, rfl, rfl⟩ := H
                 have p11 : 0 ≤ (x1_2 : Int) := of_decide_eq_true (by first | (with_reducible assumption) | assumption)
                 have q11 : x1_2 < (a0.size : Int) := of_decide_eq_true (by first | (with_reducible assumption) | assumption)
                 have hx11 := bt_at a0 x1_2
                 replace p11 := eq_true p11
                 replace q11 := eq_true q11
                 have p28 : 0 ≤ ((ji25) : Int) := of_decide_eq_true (by first | (with_reducible assumption) | assumption)
                 have q28 : (ji25) < (a0.size : Int) := of_decide_eq_true (by first | (with_reducible assumption) | assumption)
                 have hx28 := bt_at a0 (ji25)
                 replace p28 := eq_true p28
                 replace q28 := eq_true q28
                 go_wp2
                 go_ret3
                 exact ⟨by first | rfl | (simp [errW_none, errW_some] <;> rfl) | (simp only [← hji25]; first | rfl | (simp [errW_none, errW_some] <;> rfl)) | (simp [*, errW_none, errW_some] <;> rfl), by repeat (first | (with_reducible first | exact HB.out | apply below_alloc | apply pw_below_drewN | apply below_drew1) | exact HB.out)⟩
                ·rw [if_neg c29] at H
                 have c29b0 : decide (x9_2 ≤ (wrap64 ((wrap64 ((wrap64 ((wrap64 (bt a0 x1_2)) - 192)) * 256)) + (wrap64 (bt a0 (ji25)))))) = false := decide_eq_false c29
                 clear c29
                 by_cases c30 : x8_2 < 0
                 ·rw [if_pos c30] at H
                  have c30b0 : decide (x8_2 < 0) = true := decide_eq_true c30
                  clear c30
                  have H' := Aside0.mk H
                  clear H
                  have p11 : 0 ≤ (x1_2 : Int) := of_decide_eq_true (by first | (with_reducible assumption) | assumption)
                  have q11 : x1_2 < (a0.size : Int) := of_decide_eq_true (by first | (with_reducible assumption) | assumption)
                  have hx11 := bt_at a0 x1_2
                  replace p11 := eq_true p11
                  replace q11 := eq_true q11
                  have p28 : 0 ≤ ((ji25) : Int) := of_decide_eq_true (by first | (with_reducible assumption) | assumption)
                  have q28 : (ji25) < (a0.size : Int) := of_decide_eq_true (by first | (with_reducible assumption) | assumption)
                  have hx28 := bt_at a0 (ji25)
                  replace p28 := eq_true p28
                  replace q28 := eq_true q28
                  go_wp2
                  go_roundg kj5
                  case measure => have := HJ2.out; have := HK2.out; have := HJ5.out; omega
                  case rel => exact ⟨(wrap64 ((wrap64 ((wrap64 ((wrap64 (bt a0 x1_2)) - 192)) * 256)) + (wrap64 (bt a0 (ji25))))), (x7_2), (wrap64 (x1_2 + 2)), (wrap64 ((wrap64 ((wrap64 ((wrap64 (bt a0 x1_2)) - 192)) * 256)) + (wrap64 (bt a0 (ji25))))), (by first | rfl | (simp; done) | (simp only [← hji25] <;> (first | rfl | simp)) | (simp [*]; done)), (by first | rfl | (simp; done) | (simp [*]; done)), (by first | rfl | (simp; done) | (simp [*]; done)), (by first | rfl | (simp; done) | (simp only [← hji25] <;> (first | rfl | simp)) | (simp [*]; done)), H', ⟨by have := HJ2.out; have := HK2.out; have := HJ5.out; omega⟩, ⟨by repeat (first | (with_reducible first | exact HB.out | apply below_alloc | apply pw_below_drewN | apply below_drew1) | exact HB.out)⟩⟩
                 ·rw [if_neg c30] at H
                  have c30b0 : decide (x8_2 < 0) = false := decide_eq_false c30
                  clear c30
                  have H' := Aside0.mk H
                  clear H
                  have p11 : 0 ≤ (x1_2 : Int) := of_decide_eq_true (by first | (with_reducible assumption) | assumption)
                  have q11 : x1_2 < (a0.size : Int) := of_decide_eq_true (by first | (with_reducible assumption) | assumption)
                  have hx11 := bt_at a0 x1_2
                  replace p11 := eq_true p11
                  replace q11 := eq_true q11
                  have p28 : 0 ≤ ((ji25) : Int) := of_decide_eq_true (by first | (with_reducible assumption) | assumption)
                  have q28 : (ji25) < (a0.size : Int) := of_decide_eq_true (by first | (with_reducible assumption) | assumption)
                  have hx28 := bt_at a0 (ji25)
                  replace p28 := eq_true p28
                  replace q28 := eq_true q28
                  go_wp2
                  go_roundg kj5
                  case measure => have := HJ2.out; have := HK2.out; have := HJ5.out; omega
                  case rel => exact ⟨(wrap64 ((wrap64 ((wrap64 ((wrap64 (bt a0 x1_2)) - 192)) * 256)) + (wrap64 (bt a0 (ji25))))), (x7_2), (x8_2), (wrap64 ((wrap64 ((wrap64 ((wrap64 (bt a0 x1_2)) - 192)) * 256)) + (wrap64 (bt a0 (ji25))))), (by first | rfl | (simp; done) | (simp only [← hji25] <;> (first | rfl | simp)) | (simp [*]; done)), (by first | rfl | (simp; done) | (simp [*]; done)), (by first | rfl | (simp; done) | (simp [*]; done)), (by first | rfl | (simp; done) | (simp only [← hji25] <;> (first | rfl | simp)) | (simp [*]; done)), H', ⟨by have := HJ2.out; have := HK2.out; have := HJ5.out; omega⟩, ⟨by repeat (first | (with_reducible first | exact HB.out | apply below_alloc | apply pw_below_drewN | apply below_drew1) | exact HB.out)⟩⟩
               ·rw [if_neg c27] at H
                exact absurd H (by simp)
              ·rw [if_neg c26] at H
               exact absurd H (by simp)
            ·rw [if_neg c23] at H
             have c23b0 : decide (192 ≤ (wrap64 (bt a0 x1_2))) = false := decide_eq_false c23
             clear c23
             by_cases c31 : (wrap64 (bt a0 x1_2)) ≥ 64
             ·rw [if_pos c31] at H
              have c31b0 : decide (64 ≤ (wrap64 (bt a0 x1_2))) = true := decide_eq_true c31
              clear c31
              simp only [Option.some.injEq, Prod.mk.injEq] at H
              obtain ⟨rfl, rfl, rfl⟩ := H
              have p11 : 0 ≤ (x1_2 : Int) := of_decide_eq_true (by first | (with_reducible assumption) | assumption)
              have q11 : x1_2 < (a0.size : Int) := of_decide_eq_true (by first | (with_reducible assumption) | assumption)
              have hx11 := bt_at a0 x1_2
              replace p11 := eq_true p11
              replace q11 := eq_true q11
              go_wp2
              go_ret3
              exact ⟨by first | rfl | (simp [errW_none, errW_some] <;> rfl) | (simp [*, errW_none, errW_some] <;> rfl), by repeat (first | (with_reducible first | exact HB.out | apply below_alloc | apply pw_below_drewN | apply below_drew1) | exact HB.out)⟩
             ·rw [if_neg c31] at H
              have c31b0 : decide (64 ≤ (wrap64 (bt a0 x1_2))) = false := decide_eq_false c31
              clear c31
              by_cases c32 : (wrap64 ((wrap64 (x1_2 + 1)) + (wrap64 (bt a0 x1_2)))) > (a0.size : Int)
              ·rw [if_pos c32] at H
               have c32b0 : decide ((a0.size : Int) < (wrap64 ((wrap64 (x1_2 + 1)) + (wrap64 (bt a0 x1_2))))) = true := decide_eq_true c32
               clear c32
               simp only [Option.some.injEq, Prod.mk.injEq] at H
               obtain ⟨rfl, rfl, rfl⟩ := H
               have p11 : 0 ≤ (x1_2 : Int) := of_decide_eq_true (by first | (with_reducible assumption) | assumption)
               have q11 : x1_2 < (a0.size : Int) := of_decide_eq_true (by first | (with_reducible assumption) | assumption)
               have hx11 := bt_at a0 x1_2
               replace p11 := eq_true p11
               replace q11 := eq_true q11
               go_wp2
               go_ret3
               exact ⟨by first | rfl | (simp [errW_none, errW_some] <;> rfl) | (simp [*, errW_none, errW_some] <;> rfl), by repeat (first | (with_reducible first | exact HB.out | apply below_alloc | apply pw_below_drewN | apply below_drew1) | exact HB.out)⟩
              ·rw [if_neg c32] at H
               have c32b0 : decide ((a0.size : Int) < (wrap64 ((wrap64 (x1_2 + 1)) + (wrap64 (bt a0 x1_2))))) = false := decide_eq_false c32
               clear c32
               have c33b0 := eq_true (of_decide_eq_true (by first | (with_reducible assumption) | assumption) : 0 ≤ x1_2)
               by_cases c34 : x1_2 ≤ (wrap64 ((wrap64 (x1_2 + 1)) + (wrap64 (bt a0 x1_2))))
               ·rw [if_pos c34] at H
                have c34b0 := eq_true c34
                have c34b1 : decide (x1_2 ≤ (wrap64 ((wrap64 (x1_2 + 1)) + (wrap64 (bt a0 x1_2))))) = true := decide_eq_true c34
                by_cases c35 : (wrap64 ((wrap64 (x1_2 + 1)) + (wrap64 (bt a0 x1_2)))) ≤ (a0.size : Int)
                ·rw [if_pos c35] at H
                 have c35b0 := eq_true c35
                 have c35b1 : decide ((wrap64 ((wrap64 (x1_2 + 1)) + (wrap64 (bt a0 x1_2)))) ≤ (a0.size : Int)) = true := decide_eq_true c35
                 by_cases c36 : x7_2.size + (a0.extract (x1_2 : Int).toNat ((wrap64 ((wrap64 (x1_2 + 1)) + (wrap64 (bt a0 x1_2)))) : Int).toNat).size ≤ 9223372036854775807
                 ·rw [if_pos c36] at H
                  have c36b0 := eq_true c36
                  have c36b1 : decide (x7_2.size + (a0.extract (x1_2 : Int).toNat ((wrap64 ((wrap64 (x1_2 + 1)) + (wrap64 (bt a0 x1_2)))) : Int).toNat).size ≤ 9223372036854775807) = true := decide_eq_true c36
                  try have c36b2 : (9223372036854775807 < x7_2.size + (a0.extract (x1_2 : Int).toNat ((wrap64 ((wrap64 (x1_2 + 1)) + (wrap64 (bt a0 x1_2)))) : Int).toNat).size) = False := eq_false (Nat.not_lt.2 c36)
                  have H' := Aside0.mk H
                  clear H
                  have p11 : 0 ≤ (x1_2 : Int) := of_decide_eq_true (by first | (with_reducible assumption) | assumption)
                  have q11 : x1_2 < (a0.size : Int) := of_decide_eq_true (by first | (with_reducible assumption) | assumption)
                  have hx11 := bt_at a0 x1_2
                  replace p11 := eq_true p11
                  replace q11 := eq_true q11
                  go_wp2
                  go_roundg kj5
                  case measure => have := HJ2.out; have := HK2.out; have := HJ5.out; omega
                  case rel => exact ⟨(wrap64 (x1_2 + (wrap64 (1 + (wrap64 (bt a0 x1_2)))))), (x7_2 ++ (a0.extract (x1_2 : Int).toNat ((wrap64 ((wrap64 (x1_2 + 1)) + (wrap64 (bt a0 x1_2)))) : Int).toNat)), (x8_2), (x9_2), (by first | rfl | (simp; done) | (simp [*]; done)), (by first | rfl | (simp; done) | (simp [*]; done)), (by first | rfl | (simp; done) | (simp [*]; done)), (by first | rfl | (simp; done) | (simp [*]; done)), H', ⟨by have := HJ2.out; have := HK2.out; have := HJ5.out; omega⟩, ⟨by repeat (first | (with_reducible first | exact HB.out | apply below_alloc | apply pw_below_drewN | apply below_drew1) | exact HB.out)⟩⟩
                 ·rw [if_neg c36] at H
                  exact absurd H (by simp)
                ·rw [if_neg c35] at H
                 exact absurd H (by simp)
               ·rw [if_neg c34] at H
                exact absurd H (by simp)
          ·rw [if_neg c10] at H
           exact absurd H (by simp)
         ·rw [if_neg c9] at H
          exact absurd H (by simp)
        ·replace c8 := Bool.eq_false_iff.mpr c8
         subst c8
         have H1 : (some ((⟨#[]⟩ : ByteArray), 0, 2)) = some (r1, r2, r3) := by rw [if_neg (show ¬ (false = true) by decide)] at H; exact H
         clear H
         have H := H1
         clear H1
         simp only [Option.some.injEq, Prod.mk.injEq] at H
         obtain ⟨rfl, rfl, rfl⟩ := H
         go_wp2
         go_ret3
         exact ⟨by first | rfl | (simp [errW_none, errW_some] <;> rfl) | (simp [*, errW_none, errW_some] <;> rfl), by repeat (first | (with_reducible first | exact HB.out | apply below_alloc | apply pw_below_drewN | apply below_drew1) | exact HB.out)⟩
def beadrollref01_Width.f (a0 : Int) : Option (Bool) := if a0 = 1 then (some true) else (if a0 = 2 then (some true) else (if a0 = 4 then (some true) else (some (a0 == 8))))
set_option maxHeartbeats 8000000 in
set_option maxRecDepth 100000 in
theorem beadrollref01_Width.calls (a0 : Int) (r : Bool) (w : World) (h : beadrollref01_Width.f a0 = some r) :
  Calls Try.prog 73 #[.int .i64 a0] w fun e w' => e = .returned (.bool r) ∧ Drawn0 w w' := by
 have H : (if a0 = 1 then (some true) else (if a0 = 2 then (some true) else (if a0 = 4 then (some true) else (some (a0 == 8))))) = some r := h
 clear h
 by_cases c2 : a0 = 1
 ·rw [if_pos c2] at H
  have c2b0 : (a0 == 1) = true := beq_iff_eq.mpr c2
  have c2b1 : (a0 != 1) = false := bne_eq_false_iff_eq.mpr c2
  clear c2
  obtain rfl := Option.some.inj H
  go_enter Try.func73, Try.ntmps73
  go_wp2
  go_ret
  exact ⟨by first | rfl | (simp; done) | (simp [*]; done), by repeat (first | exact Drawn0.refl _ | apply Drawn0.step)⟩
 ·rw [if_neg c2] at H
  have c2b0 : (a0 == 1) = false := beq_eq_false_iff_ne.mpr c2
  have c2b1 : (a0 != 1) = true := bne_iff_ne.mpr c2
  by_cases c3 : a0 = 2
  ·rw [if_pos c3] at H
   have c3b0 : (a0 == 2) = true := beq_iff_eq.mpr c3
   have c3b1 : (a0 != 2) = false := bne_eq_false_iff_eq.mpr c3
   clear c3
   obtain rfl := Option.some.inj H
   go_enter Try.func73, Try.ntmps73
   go_wp2
   go_ret
   exact ⟨by first | rfl | (simp; done) | (simp [*]; done), by repeat (first | exact Drawn0.refl _ | apply Drawn0.step)⟩
  ·rw [if_neg c3] at H
   have c3b0 : (a0 == 2) = false := beq_eq_false_iff_ne.mpr c3
   have c3b1 : (a0 != 2) = true := bne_iff_ne.mpr c3
   by_cases c4 : a0 = 4
   ·rw [if_pos c4] at H
    have c4b0 : (a0 == 4) = true := beq_iff_eq.mpr c4
    have c4b1 : (a0 != 4) = false := bne_eq_false_iff_eq.mpr c4
    clear c4
    obtain rfl := Option.some.inj H
    go_enter Try.func73, Try.ntmps73
    go_wp2
    go_ret
    exact ⟨by first | rfl | (simp; done) | (simp [*]; done), by repeat (first | exact Drawn0.refl _ | apply Drawn0.step)⟩
   ·rw [if_neg c4] at H
    have c4b0 : (a0 == 4) = false := beq_eq_false_iff_ne.mpr c4
    have c4b1 : (a0 != 4) = true := bne_iff_ne.mpr c4
    obtain rfl := Option.some.inj H
    go_enter Try.func73, Try.ntmps73
    go_wp2
    go_ret
    exact ⟨by first | rfl | (simp; done) | (simp [*]; done), by repeat (first | exact Drawn0.refl _ | apply Drawn0.step)⟩
def beadrollref01_Number.l0 : Nat → ByteArray → Int → Int → Option (Int)
 | 0, _, _, _ => none
 | k + 1, x0, x3, x4 => if x4 < (x0.size : Int) then (if 0 ≤ x4 then (beadrollref01_Number.l0 k x0 (IntKind.u64.wrap ((IntKind.u64.wrap (x3 * 256)) + (IntKind.u64.wrap (bt x0 x4)))) (wrap64 (x4 + 1))) else (none)) else (some x3)
def beadrollref01_Number.f (k : Nat) (a0 : ByteArray) : Option (Int) := beadrollref01_Number.l0 k a0 0 0
set_option maxHeartbeats 8000000 in
set_option maxRecDepth 100000 in
theorem beadrollref01_Number.calls (k : Nat) (a0 : ByteArray) (r : Int) (w : World) (h : beadrollref01_Number.f k a0 = some r) :
  Calls Try.prog 82 #[.string a0] w fun e w' => e = .returned (.int .u64 r) ∧ Drawn0 w w' := by
 have H : (beadrollref01_Number.l0 k a0 0 0) = some r := h
 clear h
 have H' := Aside0.mk H
 clear H
 go_enter Try.func82, Try.ntmps82
 go_wp2
 go_loopg [3, 4] k (fun kq v3 v4 w' => ∃ (x3_1 : Int) (x4_1 : Int), v3 = .int .u64 x3_1 ∧ v4 = .int .i64 x4_1 ∧ Aside0 (beadrollref01_Number.l0 kq a0 x3_1 x4_1 = some r) ∧ Aside0 (kq ≤ k) ∧ Drawn0 w w')
 case atStart => exact ⟨(0), (0), (by first | rfl | (simp; done) | (simp [*]; done)), (by first | rfl | (simp; done) | (simp [*]; done)), H', ⟨Nat.le_refl _⟩, by repeat (first | exact Drawn0.refl _ | apply Drawn0.step)⟩
 case round =>
  clear H'
  obtain ⟨x3_1, x4_1, rfl, rfl, HA, HK1, ⟨m1, rfl⟩⟩ := hrel
  cases gk with
  | zero => exact absurd HA.out (by simp [beadrollref01_Number.l0])
  | succ k1 =>
   have H := HA.out
   clear HA
   simp only [beadrollref01_Number.l0] at H
   by_cases c2 : x4_1 < (a0.size : Int)
   ·rw [if_pos c2] at H
    have c2b0 : decide (x4_1 < (a0.size : Int)) = true := decide_eq_true c2
    clear c2
    by_cases c3 : 0 ≤ x4_1
    ·rw [if_pos c3] at H
     have c3b0 : decide (0 ≤ x4_1) = true := decide_eq_true c3
     clear c3
     have H' := Aside0.mk H
     clear H
     have p4 : 0 ≤ (x4_1 : Int) := of_decide_eq_true (by first | (with_reducible assumption) | assumption)
     have q4 : x4_1 < (a0.size : Int) := of_decide_eq_true (by first | (with_reducible assumption) | assumption)
     have hx4 := bt_at a0 x4_1
     replace p4 := eq_true p4
     replace q4 := eq_true q4
     go_wp2
     go_roundg k1
     case measure => have := HK1.out; omega
     case rel => exact ⟨(IntKind.u64.wrap ((IntKind.u64.wrap (x3_1 * 256)) + (IntKind.u64.wrap (bt a0 x4_1)))), (wrap64 (x4_1 + 1)), (by first | rfl | (simp; done) | (simp [*]; done)), (by first | rfl | (simp; done) | (simp [*]; done)), H', ⟨by have := HK1.out; omega⟩, by repeat (first | exact Drawn0.refl _ | apply Drawn0.step)⟩
    ·rw [if_neg c3] at H
     exact absurd H (by simp)
   ·rw [if_neg c2] at H
    have c2b0 : decide (x4_1 < (a0.size : Int)) = false := decide_eq_false c2
    clear c2
    obtain rfl := Option.some.inj H
    go_wp2
    go_ret
    exact ⟨by first | rfl | (simp; done) | (simp [*]; done), by repeat (first | exact Drawn0.refl _ | apply Drawn0.step)⟩
def beadrollref01_Cut.j0 : Nat → ByteArray → Int → Bool → Option (ByteArray × ByteArray × Int)
 | 0, _, _, _ => none
 | k + 1, x0, x1, x14 => if x14 = true then (some ((⟨#[]⟩ : ByteArray), (⟨#[]⟩ : ByteArray), 1)) else (if (x0.size : Int) < x1 then (some ((⟨#[]⟩ : ByteArray), (⟨#[]⟩ : ByteArray), 2)) else (if 0 ≤ x1 then (if x1 ≤ (x0.size : Int) then ((beadrollref01_Number.f k (x0.extract 0 (x1 : Int).toNat)).bind fun t184 => (if t184 > (IntKind.u64.wrap (wrap64 ((x0.size : Int) - x1))) then (some ((⟨#[]⟩ : ByteArray), (⟨#[]⟩ : ByteArray), 2)) else (if x1 ≤ (wrap64 (x1 + (wrap64 (t184)))) then (if (wrap64 (x1 + (wrap64 (t184)))) ≤ (x0.size : Int) then (if 0 ≤ (wrap64 (x1 + (wrap64 (t184)))) then (some (x0.extract (x1 : Int).toNat ((wrap64 (x1 + (wrap64 (t184)))) : Int).toNat, x0.extract ((wrap64 (x1 + (wrap64 (t184)))) : Int).toNat x0.size, 0)) else (none)) else (none)) else (none)))) else (none)) else (none)))
def beadrollref01_Cut.f (k : Nat) (a0 : ByteArray) (a1 : Int) : Option (ByteArray × ByteArray × Int) := (beadrollref01_Width.f a1).bind fun t183 => (if t183 = true then (beadrollref01_Cut.j0 k a0 a1 (a1 == 8)) else (beadrollref01_Cut.j0 k a0 a1 true))
set_option maxHeartbeats 8000000 in
set_option maxRecDepth 100000 in
theorem beadrollref01_Cut.calls (k : Nat) (a0 : ByteArray) (a1 : Int) (r1 : ByteArray) (r2 : ByteArray) (r3 : Int) (w : World) (h : beadrollref01_Cut.f k a0 a1 = some (r1, r2, r3)) :
  Calls Try.prog 74 #[.string a0, .int .i64 a1] w fun e w' => e = .returned (.tuple #[.string r1, .string r2, .int .i64 r3]) ∧ Drawn0 w w' := by
 have H : ((beadrollref01_Width.f a1).bind fun t183 => (if t183 = true then (beadrollref01_Cut.j0 k a0 a1 (a1 == 8)) else (beadrollref01_Cut.j0 k a0 a1 true))) = some (r1, r2, r3) := h
 clear h
 have HC3 := Aside0.mk H
 clear H
 go_enter Try.func74, Try.ntmps74
 go_upto_region 1 with (fail)
 repeat (go_quiet (fail); go_upto_region 1 with (fail))
 go_cut [14] (fun v14 wc => ∃ (kq : Nat) (x14_2 : Bool), v14 = .bool x14_2 ∧ Aside0 (beadrollref01_Cut.j0 kq a0 a1 x14_2 = some (r1, r2, r3)) ∧ Aside0 (kq ≤ k) ∧ Drawn0 w wc)
 case first =>
  have H := HC3.out
  clear HC3
  replace H := Option.bind_eq_some_iff.mp H
  obtain ⟨t183, A40, H⟩ := H
  replace H : (if t183 = true then (beadrollref01_Cut.j0 k a0 a1 (a1 == 8)) else (beadrollref01_Cut.j0 k a0 a1 true)) = some (r1, r2, r3) := H
  have A4 := Aside0.mk A40
  clear A40
  by_cases c5 : t183 = true
  ·subst c5
   have H1 : (beadrollref01_Cut.j0 k a0 a1 (a1 == 8)) = some (r1, r2, r3) := by rw [if_pos rfl] at H; exact H
   clear H
   have H := H1
   clear H1
   have H' := Aside0.mk H
   clear H
   go_wp2_with (first | (go_at_call 73; (with_reducible refine (beadrollref01_Width.calls a1 true _ A4.out).mono ?_); rintro e w' ⟨rfl, ⟨nd, rfl⟩⟩; (try first | exact ⟨rfl, _, World.drewN_drewN _ _ _⟩ | exact ⟨rfl, _, Eq.trans (World.drewN_drewN _ _ _) (congrArg (World.drewN _) (Nat.add_assoc _ _ _))⟩)))
   repeat (go_quiet (first | (go_at_call 73; (with_reducible refine (beadrollref01_Width.calls a1 true _ A4.out).mono ?_); rintro e w' ⟨rfl, ⟨nd, rfl⟩⟩; (try first | exact ⟨rfl, _, World.drewN_drewN _ _ _⟩ | exact ⟨rfl, _, Eq.trans (World.drewN_drewN _ _ _) (congrArg (World.drewN _) (Nat.add_assoc _ _ _))⟩))); try go_wp2_with (first | (go_at_call 73; (with_reducible refine (beadrollref01_Width.calls a1 true _ A4.out).mono ?_); rintro e w' ⟨rfl, ⟨nd, rfl⟩⟩; (try first | exact ⟨rfl, _, World.drewN_drewN _ _ _⟩ | exact ⟨rfl, _, Eq.trans (World.drewN_drewN _ _ _) (congrArg (World.drewN _) (Nat.add_assoc _ _ _))⟩))))
   go_meet
   case rel => exact ⟨_, ((a1 == 8)), (by first | rfl | (simp; done) | (simp [*]; done)), H', ⟨by first | omega | exact Nat.le_refl _⟩, by repeat (first | exact Drawn0.refl _ | apply Drawn0.step)⟩
  ·replace c5 := Bool.eq_false_iff.mpr c5
   subst c5
   have H1 : (beadrollref01_Cut.j0 k a0 a1 true) = some (r1, r2, r3) := by rw [if_neg (show ¬ (false = true) by decide)] at H; exact H
   clear H
   have H := H1
   clear H1
   have H' := Aside0.mk H
   clear H
   go_wp2_with (first | (go_at_call 73; (with_reducible refine (beadrollref01_Width.calls a1 false _ A4.out).mono ?_); rintro e w' ⟨rfl, ⟨nd, rfl⟩⟩; (try first | exact ⟨rfl, _, World.drewN_drewN _ _ _⟩ | exact ⟨rfl, _, Eq.trans (World.drewN_drewN _ _ _) (congrArg (World.drewN _) (Nat.add_assoc _ _ _))⟩)))
   repeat (go_quiet (first | (go_at_call 73; (with_reducible refine (beadrollref01_Width.calls a1 false _ A4.out).mono ?_); rintro e w' ⟨rfl, ⟨nd, rfl⟩⟩; (try first | exact ⟨rfl, _, World.drewN_drewN _ _ _⟩ | exact ⟨rfl, _, Eq.trans (World.drewN_drewN _ _ _) (congrArg (World.drewN _) (Nat.add_assoc _ _ _))⟩))); try go_wp2_with (first | (go_at_call 73; (with_reducible refine (beadrollref01_Width.calls a1 false _ A4.out).mono ?_); rintro e w' ⟨rfl, ⟨nd, rfl⟩⟩; (try first | exact ⟨rfl, _, World.drewN_drewN _ _ _⟩ | exact ⟨rfl, _, Eq.trans (World.drewN_drewN _ _ _) (congrArg (World.drewN _) (Nat.add_assoc _ _ _))⟩))))
   go_meet
   case rel => exact ⟨_, (true), (by first | rfl | (simp; done) | (simp [*]; done)), H', ⟨by first | omega | exact Nat.le_refl _⟩, by repeat (first | exact Drawn0.refl _ | apply Drawn0.step)⟩
 case rest =>
  clear HC3
  try clear p2
  try clear c5
  obtain ⟨kq, x14_2, rfl, HA, HJ2, ⟨mc2, rfl⟩⟩ := hcut
  cases kq with
  | zero => exact absurd HA.out (by simp [beadrollref01_Cut.j0])
  | succ kj2 =>
   have H := HA.out
   clear HA
   simp only [beadrollref01_Cut.j0] at H
   by_cases c6 : x14_2 = true
   ·subst c6
    have H1 : (some ((⟨#[]⟩ : ByteArray), (⟨#[]⟩ : ByteArray), 1)) = some (r1, r2, r3) := by rw [if_pos rfl] at H; exact H
    clear H
    have H := H1
    clear H1
    simp only [Option.some.injEq, Prod.mk.injEq] at H
    obtain ⟨rfl, rfl, rfl⟩ := H
    go_wp2
    repeat (go_quiet (fail); try go_wp2)
    go_ret3
    exact ⟨by first | rfl | (simp; done) | (simp [*]; done), by repeat (first | exact Drawn0.refl _ | apply Drawn0.step)⟩
   ·replace c6 := Bool.eq_false_iff.mpr c6
    subst c6
    have H1 : (if (a0.size : Int) < a1 then (some ((⟨#[]⟩ : ByteArray), (⟨#[]⟩ : ByteArray), 2)) else (if 0 ≤ a1 then (if a1 ≤ (a0.size : Int) then ((beadrollref01_Number.f kj2 (a0.extract 0 (a1 : Int).toNat)).bind fun t184 => (if t184 > (IntKind.u64.wrap (wrap64 ((a0.size : Int) - a1))) then (some ((⟨#[]⟩ : ByteArray), (⟨#[]⟩ : ByteArray), 2)) else (if a1 ≤ (wrap64 (a1 + (wrap64 (t184)))) then (if (wrap64 (a1 + (wrap64 (t184)))) ≤ (a0.size : Int) then (if 0 ≤ (wrap64 (a1 + (wrap64 (t184)))) then (some (a0.extract (a1 : Int).toNat ((wrap64 (a1 + (wrap64 (t184)))) : Int).toNat, a0.extract ((wrap64 (a1 + (wrap64 (t184)))) : Int).toNat a0.size, 0)) else (none)) else (none)) else (none)))) else (none)) else (none))) = some (r1, r2, r3) := by rw [if_neg (show ¬ (false = true) by decide)] at H; exact H
    clear H
    have H := H1
    clear H1
    by_cases c7 : (a0.size : Int) < a1
    ·rw [if_pos c7] at H
     have c7b0 : decide ((a0.size : Int) < a1) = true := decide_eq_true c7
     clear c7
     simp only [Option.some.injEq, Prod.mk.injEq] at H
     obtain ⟨rfl, rfl, rfl⟩ := H
     go_wp2
     repeat (go_quiet (fail); try go_wp2)
     go_ret3
     exact ⟨by first | rfl | (simp; done) | (simp [*]; done), by repeat (first | exact Drawn0.refl _ | apply Drawn0.step)⟩
    ·rw [if_neg c7] at H
     have c7b0 : decide ((a0.size : Int) < a1) = false := decide_eq_false c7
     clear c7
     by_cases c8 : 0 ≤ a1
     ·rw [if_pos c8] at H
      have c8b0 := eq_true c8
      have c8b1 : decide (0 ≤ a1) = true := decide_eq_true c8
      clear c8
      by_cases c9 : a1 ≤ (a0.size : Int)
      ·rw [if_pos c9] at H
       have c9b0 := eq_true c9
       have c9b1 : decide (a1 ≤ (a0.size : Int)) = true := decide_eq_true c9
       clear c9
       replace H := Option.bind_eq_some_iff.mp H
       obtain ⟨t184, A100, H⟩ := H
       replace H : (if t184 > (IntKind.u64.wrap (wrap64 ((a0.size : Int) - a1))) then (some ((⟨#[]⟩ : ByteArray), (⟨#[]⟩ : ByteArray), 2)) else (if a1 ≤ (wrap64 (a1 + (wrap64 (t184)))) then (if (wrap64 (a1 + (wrap64 (t184)))) ≤ (a0.size : Int) then (if 0 ≤ (wrap64 (a1 + (wrap64 (t184)))) then (some (a0.extract (a1 : Int).toNat ((wrap64 (a1 + (wrap64 (t184)))) : Int).toNat, a0.extract ((wrap64 (a1 + (wrap64 (t184)))) : Int).toNat a0.size, 0)) else (none)) else (none)) else (none))) = some (r1, r2, r3) := H
       have A10 := Aside0.mk A100
       clear A100
       by_cases c11 : t184 > (IntKind.u64.wrap (wrap64 ((a0.size : Int) - a1)))
       ·rw [if_pos c11] at H
        have c11b0 : decide ((IntKind.u64.wrap (wrap64 ((a0.size : Int) - a1))) < t184) = true := decide_eq_true c11
        clear c11
        simp only [Option.some.injEq, Prod.mk.injEq] at H
        obtain ⟨rfl, rfl, rfl⟩ := H
        go_wp2_with (first | (go_at_call 82; (with_reducible refine (beadrollref01_Number.calls kj2 (a0.extract 0 (a1 : Int).toNat) t184 _ A10.out).mono ?_); rintro e w' ⟨rfl, ⟨nd, rfl⟩⟩; (try first | exact ⟨rfl, _, World.drewN_drewN _ _ _⟩ | exact ⟨rfl, _, Eq.trans (World.drewN_drewN _ _ _) (congrArg (World.drewN _) (Nat.add_assoc _ _ _))⟩)))
        repeat (go_quiet (first | (go_at_call 82; (with_reducible refine (beadrollref01_Number.calls kj2 (a0.extract 0 (a1 : Int).toNat) t184 _ A10.out).mono ?_); rintro e w' ⟨rfl, ⟨nd, rfl⟩⟩; (try first | exact ⟨rfl, _, World.drewN_drewN _ _ _⟩ | exact ⟨rfl, _, Eq.trans (World.drewN_drewN _ _ _) (congrArg (World.drewN _) (Nat.add_assoc _ _ _))⟩))); try go_wp2_with (first | (go_at_call 82; (with_reducible refine (beadrollref01_Number.calls kj2 (a0.extract 0 (a1 : Int).toNat) t184 _ A10.out).mono ?_); rintro e w' ⟨rfl, ⟨nd, rfl⟩⟩; (try first | exact ⟨rfl, _, World.drewN_drewN _ _ _⟩ | exact ⟨rfl, _, Eq.trans (World.drewN_drewN _ _ _) (congrArg (World.drewN _) (Nat.add_assoc _ _ _))⟩))))
        go_ret3
        exact ⟨by first | rfl | (simp; done) | (simp [*]; done), by repeat (first | exact Drawn0.refl _ | apply Drawn0.step)⟩
       ·rw [if_neg c11] at H
        have c11b0 : decide ((IntKind.u64.wrap (wrap64 ((a0.size : Int) - a1))) < t184) = false := decide_eq_false c11
        clear c11
        have c12b0 := eq_true (of_decide_eq_true (by first | (with_reducible assumption) | assumption) : 0 ≤ a1)
        by_cases c13 : a1 ≤ (wrap64 (a1 + (wrap64 (t184))))
        ·rw [if_pos c13] at H
         have c13b0 := eq_true c13
         have c13b1 : decide (a1 ≤ (wrap64 (a1 + (wrap64 (t184))))) = true := decide_eq_true c13
         by_cases c14 : (wrap64 (a1 + (wrap64 (t184)))) ≤ (a0.size : Int)
         ·rw [if_pos c14] at H
          have c14b0 := eq_true c14
          have c14b1 : decide ((wrap64 (a1 + (wrap64 (t184)))) ≤ (a0.size : Int)) = true := decide_eq_true c14
          obtain ⟨ji15, hji15⟩ : ∃ j_ : Int, (wrap64 (a1 + (wrap64 (t184)))) = j_ := ⟨_, rfl⟩
          replace H : (if 0 ≤ (ji15) then (some (a0.extract (a1 : Int).toNat ((ji15) : Int).toNat, a0.extract ((ji15) : Int).toNat a0.size, 0)) else (none)) = some (r1, r2, r3) := by first | (rw [hji15] at H; exact H) | (simp only [hji15] at H ⊢; exact H)
          (try rw [hji15] at c13b0)
          (try rw [hji15] at c13b1)
          (try rw [hji15] at c13)
          (try rw [hji15] at c14b0)
          (try rw [hji15] at c14b1)
          (try rw [hji15] at c14)
          (try rw [hji15] at A10)
          have hji15w : (IntKind.i64.wrap (a1 + (wrap64 (t184)))) = ji15 := (i64_w _).trans hji15
          by_cases c16 : 0 ≤ (ji15)
          ·rw [if_pos c16] at H
           have c16b0 := eq_true c16
           have c16b1 : decide (0 ≤ (ji15)) = true := decide_eq_true c16
           clear c16
           have c17b0 := eq_true (of_decide_eq_true (by first | (with_reducible assumption) | assumption) : (ji15) ≤ (a0.size : Int))
           simp only [Option.some.injEq, Prod.mk.injEq] at H
           obtain ⟨rfl, rfl, rfl⟩ := H
           go_wp2_with (first | (go_at_call 82; (with_reducible refine (beadrollref01_Number.calls kj2 (a0.extract 0 (a1 : Int).toNat) t184 _ A10.out).mono ?_); rintro e w' ⟨rfl, ⟨nd, rfl⟩⟩; (try first | exact ⟨rfl, _, World.drewN_drewN _ _ _⟩ | exact ⟨rfl, _, Eq.trans (World.drewN_drewN _ _ _) (congrArg (World.drewN _) (Nat.add_assoc _ _ _))⟩)))
           repeat (go_quiet (first | (go_at_call 82; (with_reducible refine (beadrollref01_Number.calls kj2 (a0.extract 0 (a1 : Int).toNat) t184 _ A10.out).mono ?_); rintro e w' ⟨rfl, ⟨nd, rfl⟩⟩; (try first | exact ⟨rfl, _, World.drewN_drewN _ _ _⟩ | exact ⟨rfl, _, Eq.trans (World.drewN_drewN _ _ _) (congrArg (World.drewN _) (Nat.add_assoc _ _ _))⟩))); try go_wp2_with (first | (go_at_call 82; (with_reducible refine (beadrollref01_Number.calls kj2 (a0.extract 0 (a1 : Int).toNat) t184 _ A10.out).mono ?_); rintro e w' ⟨rfl, ⟨nd, rfl⟩⟩; (try first | exact ⟨rfl, _, World.drewN_drewN _ _ _⟩ | exact ⟨rfl, _, Eq.trans (World.drewN_drewN _ _ _) (congrArg (World.drewN _) (Nat.add_assoc _ _ _))⟩))))
           go_ret3
           exact ⟨by first | rfl | (simp; done) | (simp only [← hji15] <;> (first | rfl | simp)) | (simp [*]; done), by repeat (first | exact Drawn0.refl _ | apply Drawn0.step)⟩
          ·rw [if_neg c16] at H
           exact absurd H (by simp)
         ·rw [if_neg c14] at H
          exact absurd H (by simp)
        ·rw [if_neg c13] at H
         exact absurd H (by simp)
      ·rw [if_neg c9] at H
       exact absurd H (by simp)
     ·rw [if_neg c8] at H
      exact absurd H (by simp)
end Go.Proofs.Ytnpiglojamhpiaa.PRd
namespace Go.Proofs.Ytnpiglojamhpiaa.PRd
open Go.RowKit Go.Proofs.YtnpiglojamhpiaaW.PrintWords Go.Proofs.YtnpiglojamhpiaaW.PrintLast Go.Proofs.YtnpiglojamhpiaaW.PrintMore Go.Proofs.Ytnpiglojamhpiaa.Given
attribute [local go_sem] max2_int min2_int max_two min_two max_three min_three max_four min_four   -- for this text's walks alone
set_option linter.unusedVariables false
set_option linter.unusedSimpArgs false
mutual
def beadrollref01_Pieces.j0 : Nat → ByteArray → Int → Bool → Option (List ByteArray × Int)
 | 0, _, _, _ => none
 | k + 1, x0, x1, x16 => if x16 = true then (some (([] : List ByteArray), 1)) else (beadrollref01_Pieces.l0 k x0 x1 ([] : List ByteArray))
def beadrollref01_Pieces.l0 : Nat → ByteArray → Int → List ByteArray → Option (List ByteArray × Int)
 | 0, _, _, _ => none
 | k + 1, x0, x1, x6 => if (x0.size : Int) > 0 then ((beadrollref01_Cut.f k x0 x1).bind fun bt186 => (if bt186.2.2 = 0 then (if x6.length < 8796093022208 then (beadrollref01_Pieces.l0 k bt186.2.1 x1 (x6 ++ [bt186.1])) else (none)) else (some (([] : List ByteArray), bt186.2.2)))) else (some (x6, 0))
end
def beadrollref01_Pieces.f (k : Nat) (a0 : ByteArray) (a1 : Int) : Option (List ByteArray × Int) := (beadrollref01_Width.f a1).bind fun t185 => (if t185 = true then (beadrollref01_Pieces.j0 k a0 a1 (a1 == 8)) else (beadrollref01_Pieces.j0 k a0 a1 true))
set_option maxHeartbeats 8000000 in
set_option maxRecDepth 100000 in
theorem beadrollref01_Pieces.calls (k : Nat) (a0 : ByteArray) (a1 : Int) (r1 : List ByteArray) (r2 : Int) (w : World) (h : beadrollref01_Pieces.f k a0 a1 = some (r1, r2)) :
  Calls Try.prog 67 #[.string a0, .int .i64 a1] w fun e w' => ∃ v0_ : Value, e = .returned (.tuple #[v0_, .int .i64 r2]) ∧ Kd.R Kd.string 9 w' w.heap.size (fun _ => True) v0_ r1 ∧ Below w.heap.size w w' := by
 have HB := Aside0.mk (Below.refl w.heap.size w)
 have H : ((beadrollref01_Width.f a1).bind fun t185 => (if t185 = true then (beadrollref01_Pieces.j0 k a0 a1 (a1 == 8)) else (beadrollref01_Pieces.j0 k a0 a1 true))) = some (r1, r2) := h
 clear h
 have HC3 := Aside0.mk H
 clear H
 go_enter Try.func67, Try.ntmps67
 go_upto_region 1 with (fail)
 go_cut [16] (fun v16 wc => ∃ (kq : Nat) (x16_2 : Bool), v16 = .bool x16_2 ∧ Aside0 (beadrollref01_Pieces.j0 kq a0 a1 x16_2 = some (r1, r2)) ∧ Aside0 (kq ≤ k) ∧ Aside0 (Below w.heap.size w wc))
 case first =>
  have H := HC3.out
  clear HC3
  replace H := Option.bind_eq_some_iff.mp H
  obtain ⟨t185, A40, H⟩ := H
  replace H : (if t185 = true then (beadrollref01_Pieces.j0 k a0 a1 (a1 == 8)) else (beadrollref01_Pieces.j0 k a0 a1 true)) = some (r1, r2) := H
  have A4 := Aside0.mk A40
  clear A40
  by_cases c5 : t185 = true
  ·subst c5
   have H1 : (beadrollref01_Pieces.j0 k a0 a1 (a1 == 8)) = some (r1, r2) := by rw [if_pos rfl] at H; exact H
   clear H
   have H := H1
   clear H1
   have H' := Aside0.mk H
   clear H
   go_wp2_with (first | ((with_reducible refine gate_callee (f := 73) rfl ?_); refine goesL_ (some 11) rfl rfl Try.func73 (by kernel_rfl) rfl #[.int .i64 a1] rfl (by (try simp only [List.map_toArray, List.map_cons, List.map_nil]); first | done | rfl | (simp only [List.length_drop, List.length_take]; rfl)) ?_; (with_reducible refine (beadrollref01_Width.calls a1 true _ A4.out).mono ?_); rintro e w' ⟨rfl, ⟨nd, rfl⟩⟩; refine ⟨_, rfl, ?_⟩))
   go_meet
   case rel => exact ⟨_, ((a1 == 8)), (by first | rfl | (simp; done) | (simp [*]; done)), H', ⟨by first | omega | exact Nat.le_refl _⟩, ⟨by repeat (first | (with_reducible first | exact HB.out | apply below_alloc | apply pw_below_drewN | apply below_drew1) | exact HB.out)⟩⟩
  ·replace c5 := Bool.eq_false_iff.mpr c5
   subst c5
   have H1 : (beadrollref01_Pieces.j0 k a0 a1 true) = some (r1, r2) := by rw [if_neg (show ¬ (false = true) by decide)] at H; exact H
   clear H
   have H := H1
   clear H1
   have H' := Aside0.mk H
   clear H
   go_wp2_with (first | ((with_reducible refine gate_callee (f := 73) rfl ?_); refine goesL_ (some 11) rfl rfl Try.func73 (by kernel_rfl) rfl #[.int .i64 a1] rfl (by (try simp only [List.map_toArray, List.map_cons, List.map_nil]); first | done | rfl | (simp only [List.length_drop, List.length_take]; rfl)) ?_; (with_reducible refine (beadrollref01_Width.calls a1 false _ A4.out).mono ?_); rintro e w' ⟨rfl, ⟨nd, rfl⟩⟩; refine ⟨_, rfl, ?_⟩))
   go_meet
   case rel => exact ⟨_, (true), (by first | rfl | (simp; done) | (simp [*]; done)), H', ⟨by first | omega | exact Nat.le_refl _⟩, ⟨by repeat (first | (with_reducible first | exact HB.out | apply below_alloc | apply pw_below_drewN | apply below_drew1) | exact HB.out)⟩⟩
 case rest =>
  clear HC3
  try clear p2
  try clear c5
  obtain ⟨kq, x16_2, rfl, HA, HJ2, HB⟩ := hcut
  cases kq with
  | zero => exact absurd HA.out (by simp [beadrollref01_Pieces.j0])
  | succ kj2 =>
   have H := HA.out
   clear HA
   simp only [beadrollref01_Pieces.j0] at H
   by_cases c6 : x16_2 = true
   ·subst c6
    have H1 : (some (([] : List ByteArray), 1)) = some (r1, r2) := by rw [if_pos rfl] at H; exact H
    clear H
    have H := H1
    clear H1
    simp only [Option.some.injEq, Prod.mk.injEq] at H
    obtain ⟨rfl, rfl⟩ := H
    go_wp2
    go_ret2
    exact ⟨_, by first | rfl | (simp [errW_none, errW_some] <;> rfl) | (simp [*, errW_none, errW_some] <;> rfl), by first | exact Kd.R_nil _ _ _ _ _ | exact Kd.N_nil _ _ _ _ _ | exact Kd.V_nil _ _ _ _ _ | exact Kd.Q_nil _ _ _ _ _ | exact Kd.S_nil _ _ _ _ _, by repeat (first | (with_reducible first | exact HB.out | apply below_alloc | apply pw_below_drewN | apply below_drew1) | exact HB.out)⟩
   ·replace c6 := Bool.eq_false_iff.mpr c6
    subst c6
    have H1 : (beadrollref01_Pieces.l0 kj2 a0 a1 ([] : List ByteArray)) = some (r1, r2) := by rw [if_neg (show ¬ (false = true) by decide)] at H; exact H
    clear H
    have H := H1
    clear H1
    have H' := Aside0.mk H
    clear H
    go_wp2
    go_loopg [0, 6] kj2 (fun kq v0 v6 w' => ∃ (x0_2 : ByteArray) (x6_2 : List ByteArray), v0 = .string x0_2 ∧ Aside0 (beadrollref01_Pieces.l0 kq x0_2 a1 x6_2 = some (r1, r2)) ∧ Aside0 (kq ≤ kj2) ∧ Aside0 (Kd.R Kd.string 9 w' w.heap.size (fun _ => True) v6 x6_2) ∧ Aside0 (Below w.heap.size w w'))
    case atStart => exact ⟨(a0), (([] : List ByteArray)), (by first | rfl | (simp; done) | (simp [*]; done)), H', ⟨Nat.le_refl _⟩, ⟨by first | exact Kd.R_nil _ _ _ _ _ | exact Kd.N_nil _ _ _ _ _ | exact Kd.V_nil _ _ _ _ _ | exact Kd.Q_nil _ _ _ _ _ | exact Kd.S_nil _ _ _ _ _⟩, ⟨by repeat (first | (with_reducible first | exact HB.out | apply below_alloc | apply pw_below_drewN | apply below_drew1) | exact HB.out)⟩⟩
    case round =>
     clear H'
     try clear p2
     try clear c5
     try clear c6
     try clear p2
     obtain ⟨x0_2, x6_2, rfl, HA, HK2, HO_6, HB⟩ := hrel
     cases gk with
     | zero => exact absurd HA.out (by simp [beadrollref01_Pieces.l0])
     | succ k2 =>
      have H := HA.out
      clear HA
      simp only [beadrollref01_Pieces.l0] at H
      by_cases c7 : (x0_2.size : Int) > 0
      ·rw [if_pos c7] at H
       have c7b0 : decide (0 < (x0_2.size : Int)) = true := decide_eq_true c7
       have c7b1 : decide (0 < x0_2.size) = true := decide_eq_true (by omega)
       clear c7
       replace H := Option.bind_eq_some_iff.mp H
       obtain ⟨⟨t186, t187, t188⟩, A80, H⟩ := H
       replace H : (if t188 = 0 then (if x6_2.length < 8796093022208 then (beadrollref01_Pieces.l0 k2 t187 a1 (x6_2 ++ [t186])) else (none)) else (some (([] : List ByteArray), t188))) = some (r1, r2) := H
       have A8 := Aside0.mk A80
       clear A80
       by_cases c9 : t188 = 0
       ·rw [if_pos c9] at H
        have c9b0 : (t188 == 0) = true := beq_iff_eq.mpr c9
        have c9b1 : (t188 != 0) = false := bne_eq_false_iff_eq.mpr c9
        clear c9
        by_cases c10 : x6_2.length < 8796093022208
        ·rw [if_pos c10] at H
         have LMc10 := Aside0.mk c10
         clear c10
         obtain ⟨y189, hy189⟩ : ∃ y_ : List ByteArray, y_ = (x6_2 ++ [t186]) := ⟨_, rfl⟩
         replace H : (beadrollref01_Pieces.l0 k2 t187 a1 y189) = some (r1, r2) := by first | (rw [hy189]; with_reducible exact H) | (have H2_ := (Option.bind_some _ _).symm.trans H; rw [hy189]; with_reducible exact H2_) | (have H2_ := (Option.bind_some _ _).symm.trans H; with_reducible exact H2_) | with_reducible exact H | (rw [hy189]; exact H) | exact H
         have Ny189 := Aside0.mk hy189
         clear hy189
         have H' := Aside0.mk H
         clear H
         go_wp2_with (first | ((with_reducible refine gate_callee (f := 74) rfl ?_); refine goesL_ (some 23) rfl rfl Try.func74 (by kernel_rfl) rfl #[.string x0_2, .int .i64 a1] rfl (by (try simp only [List.map_toArray, List.map_cons, List.map_nil]); first | done | rfl | (simp only [List.length_drop, List.length_take]; rfl)) ?_; (with_reducible refine (beadrollref01_Cut.calls k2 x0_2 a1 t186 t187 t188 _ A8.out).mono ?_); rintro e w' ⟨rfl, ⟨nd, rfl⟩⟩; refine ⟨_, rfl, ?_⟩) | ((with_reducible refine gate_builtin (b := .append) (xs := #[.tmp 30, .tmp 32]) rfl ?_); at_builtin; refine Kd.R_append Kd.string (w0 := w) w.heap.size rfl (.tmp 30) (.tmp 32) 52 9 (.string ⟨#[]⟩) 16 rfl Try.underlying52 info9 rfl (by decide) (by omega) u6 x6_2 t186 [.string t186] (fun _ => True) (fun _ => False) rfl rfl ?aP (fun _ hk => hk.elim) ?aF ?aO ?aB ?aS ?aL ?_; (case aP => exact rfl); (case aB => exact (by repeat (first | (with_reducible first | exact HB.out | apply below_alloc | apply pw_below_drewN | apply below_drew1) | exact HB.out))); (case aF => exact (fun _ _ => trivial)); (case aO => exact (by (with_reducible repeat (first | apply Kd.R_alloc | apply Kd.R_drewN | apply Kd.R_drew)); exact HO_6.out)); (case aS => exact (below_size (by repeat (first | (with_reducible first | exact HB.out | apply below_alloc | apply pw_below_drewN | apply below_drew1) | exact HB.out)))); (case aL => have := LMc10.out; omega); intro v190 w11 ho hb hg hat; rw [← Ny189.out] at ho; have n0_ := Aside0.mk (hb); have n1_ := Aside0.mk (ho); clear HB; clear HO_6; have HB := n0_; have HO191 := n1_; clear n0_ n1_; clear ho hb hg hat))
         go_roundg k2
         case measure => have := HJ2.out; have := HK2.out; omega
         case rel => exact ⟨(t187), (y189), (by first | rfl | (simp; done) | (simp [*]; done)), H', ⟨by have := HJ2.out; have := HK2.out; omega⟩, ⟨by (with_reducible repeat (first | apply Kd.R_alloc | apply Kd.R_drewN | apply Kd.R_drew)); exact HO191.out⟩, ⟨by repeat (first | (with_reducible first | exact HB.out | apply below_alloc | apply pw_below_drewN | apply below_drew1) | exact HB.out)⟩⟩
        ·rw [if_neg c10] at H
         exact absurd H (by simp)
       ·rw [if_neg c9] at H
        have c9b0 : (t188 == 0) = false := beq_eq_false_iff_ne.mpr c9
        have c9b1 : (t188 != 0) = true := bne_iff_ne.mpr c9
        simp only [Option.some.injEq, Prod.mk.injEq] at H
        obtain ⟨rfl, rfl⟩ := H
        go_wp2_with (first | ((with_reducible refine gate_callee (f := 74) rfl ?_); refine goesL_ (some 23) rfl rfl Try.func74 (by kernel_rfl) rfl #[.string x0_2, .int .i64 a1] rfl (by (try simp only [List.map_toArray, List.map_cons, List.map_nil]); first | done | rfl | (simp only [List.length_drop, List.length_take]; rfl)) ?_; (with_reducible refine (beadrollref01_Cut.calls k2 x0_2 a1 t186 t187 t188 _ A8.out).mono ?_); rintro e w' ⟨rfl, ⟨nd, rfl⟩⟩; refine ⟨_, rfl, ?_⟩))
        go_ret2
        exact ⟨_, by first | rfl | (simp [errW_none, errW_some] <;> rfl) | (simp [*, errW_none, errW_some] <;> rfl), by first | exact Kd.R_nil _ _ _ _ _ | exact Kd.N_nil _ _ _ _ _ | exact Kd.V_nil _ _ _ _ _ | exact Kd.Q_nil _ _ _ _ _ | exact Kd.S_nil _ _ _ _ _, by repeat (first | (with_reducible first | exact HB.out | apply below_alloc | apply pw_below_drewN | apply below_drew1) | exact HB.out)⟩
      ·rw [if_neg c7] at H
       have c7b0 : decide (0 < (x0_2.size : Int)) = false := decide_eq_false c7
       have c7b1 : decide (0 < x0_2.size) = false := decide_eq_false (by omega)
       clear c7
       simp only [Option.some.injEq, Prod.mk.injEq] at H
       obtain ⟨rfl, rfl⟩ := H
       go_wp2
       go_ret2
       exact ⟨_, by first | rfl | (simp [errW_none, errW_some] <;> rfl) | (simp [*, errW_none, errW_some] <;> rfl), by (with_reducible repeat (first | apply Kd.R_alloc | apply Kd.R_drewN | apply Kd.R_drew)); exact HO_6.out, by repeat (first | (with_reducible first | exact HB.out | apply below_alloc | apply pw_below_drewN | apply below_drew1) | exact HB.out)⟩
end Go.Proofs.Ytnpiglojamhpiaa.PRd
namespace Go.Proofs.Ytnpiglojamhpiaa.PRd
open Go.RowKit Go.Proofs.YtnpiglojamhpiaaW.PrintWords Go.Proofs.YtnpiglojamhpiaaW.PrintLast Go.Proofs.YtnpiglojamhpiaaW.PrintMore Go.Proofs.Ytnpiglojamhpiaa.Given
attribute [local go_sem] max2_int min2_int max_two min_two max_three min_three max_four min_four   -- for this text's walks alone
set_option linter.unusedVariables false
set_option linter.unusedSimpArgs false
mutual
def beadrollref10_Read.l0 : Nat → ByteArray → Int → Int → List ByteArray → ByteArray → Int → Option (List ByteArray × Bool)
 | 0, _, _, _, _, _, _ => none
 | k + 1, x0, x1, x2, x10, x11, x12 => if x12 < (x11.size : Int) then (if 0 ≤ x12 then (if (bt x11 x12) = 110 then (beadrollref10_Read.j1 k x0 x1 x2 x10 x11 x12 (bt x11 x12) ((bt x11 x12) == 110)) else (beadrollref10_Read.j1 k x0 x1 x2 x10 x11 x12 (bt x11 x12) ((bt x11 x12) == 117))) else (none)) else (some (x10, (x1 == x2)))
def beadrollref10_Read.j1 : Nat → ByteArray → Int → Int → List ByteArray → ByteArray → Int → Int → Bool → Option (List ByteArray × Bool)
 | 0, _, _, _, _, _, _, _, _ => none
 | k + 1, x0, x1, x2, x10, x11, x12, x32, x38 => if x38 = true then ((beadrollref09_Read.f k x0 x1).bind fun bt193 => (if bt193.2.2 = 0 then (if 0 ≤ x12 then (if x12 < (x11.size : Int) then (if (bt x11 x12) = 117 then (if 0 ≤ x1 then (if x1 ≤ bt193.2.1 then (if bt193.2.1 ≤ (x0.size : Int) then (beadrollref10_Read.j2 k x0 x2 x10 x11 x12 bt193.1 bt193.2.1 (bt193.1.toList != (x0.extract (x1 : Int).toNat (bt193.2.1 : Int).toNat).toList)) else (none)) else (none)) else (none)) else (beadrollref10_Read.j2 k x0 x2 x10 x11 x12 bt193.1 bt193.2.1 false)) else (none)) else (none)) else (beadrollref10_Read.j2 k x0 x2 x10 x11 x12 bt193.1 bt193.2.1 true))) else (if x32 = 116 then (if 0 ≤ x1 then (if x1 ≤ (x0.size : Int) then ((beadrollref01_Pieces.f k (x0.extract (x1 : Int).toNat x0.size) 1).bind fun bt199 => (if bt199.2 = 0 then (beadrollref10_Read.j3 k x0 x1 x2 x10 x11 x12 ((bt199.1.length : Int) == 0)) else (beadrollref10_Read.j3 k x0 x1 x2 x10 x11 x12 true))) else (none)) else (none)) else (if x32 = 111 then (if (wrap64 (x1 + (wrap64 (x2 - x1)))) > x2 then (some (([] : List ByteArray), false)) else (if 0 ≤ x1 then (if x1 ≤ (wrap64 (x1 + (wrap64 (x2 - x1)))) then (if (wrap64 (x1 + (wrap64 (x2 - x1)))) ≤ (x0.size : Int) then (if x10.length < 8796093022208 then (beadrollref10_Read.l0 k x0 (wrap64 (x1 + (wrap64 (x2 - x1)))) x2 (x10 ++ [x0.extract (x1 : Int).toNat ((wrap64 (x1 + (wrap64 (x2 - x1)))) : Int).toNat]) x11 (wrap64 (x12 + 1))) else (none)) else (none)) else (none)) else (none))) else (if x32 = 104 then (if (wrap64 (x1 + 16)) > x2 then (some (([] : List ByteArray), false)) else (if 0 ≤ x1 then (if x1 ≤ (wrap64 (x1 + 16)) then (if (wrap64 (x1 + 16)) ≤ (x0.size : Int) then (if x10.length < 8796093022208 then (beadrollref10_Read.l0 k x0 (wrap64 (x1 + 16)) x2 (x10 ++ [x0.extract (x1 : Int).toNat ((wrap64 (x1 + 16)) : Int).toNat]) x11 (wrap64 (x12 + 1))) else (none)) else (none)) else (none)) else (none))) else (if 0 ≤ x12 then (if x12 < (x11.size : Int) then (if (wrap64 (x1 + (wrap64 ((wrap64 (bt x11 x12)) - 48)))) > x2 then (some (([] : List ByteArray), false)) else (if 0 ≤ x1 then (if x1 ≤ (wrap64 (x1 + (wrap64 ((wrap64 (bt x11 x12)) - 48)))) then (if (wrap64 (x1 + (wrap64 ((wrap64 (bt x11 x12)) - 48)))) ≤ (x0.size : Int) then (if x10.length < 8796093022208 then (beadrollref10_Read.l0 k x0 (wrap64 (x1 + (wrap64 ((wrap64 (bt x11 x12)) - 48)))) x2 (x10 ++ [x0.extract (x1 : Int).toNat ((wrap64 (x1 + (wrap64 ((wrap64 (bt x11 x12)) - 48)))) : Int).toNat]) x11 (wrap64 (x12 + 1))) else (none)) else (none)) else (none)) else (none))) else (none)) else (none)))))
def beadrollref10_Read.j2 : Nat → ByteArray → Int → List ByteArray → ByteArray → Int → ByteArray → Int → Bool → Option (List ByteArray × Bool)
 | 0, _, _, _, _, _, _, _, _ => none
 | k + 1, x0, x2, x10, x11, x12, x14, x15, x63 => if x63 = true then (some (([] : List ByteArray), false)) else (if x10.length < 8796093022208 then (beadrollref10_Read.l0 k x0 x15 x2 (x10 ++ [x14]) x11 (wrap64 (x12 + 1))) else (none))
def beadrollref10_Read.j3 : Nat → ByteArray → Int → Int → List ByteArray → ByteArray → Int → Bool → Option (List ByteArray × Bool)
 | 0, _, _, _, _, _, _, _ => none
 | k + 1, x0, x1, x2, x10, x11, x12, x84 => if x84 = true then (some (([] : List ByteArray), false)) else (if (wrap64 (x1 + (wrap64 (x2 - x1)))) > x2 then (some (([] : List ByteArray), false)) else (if 0 ≤ x1 then (if x1 ≤ (wrap64 (x1 + (wrap64 (x2 - x1)))) then (if (wrap64 (x1 + (wrap64 (x2 - x1)))) ≤ (x0.size : Int) then (if x10.length < 8796093022208 then (beadrollref10_Read.l0 k x0 (wrap64 (x1 + (wrap64 (x2 - x1)))) x2 (x10 ++ [x0.extract (x1 : Int).toNat ((wrap64 (x1 + (wrap64 (x2 - x1)))) : Int).toNat]) x11 (wrap64 (x12 + 1))) else (none)) else (none)) else (none)) else (none)))
end
def beadrollref10_Read.f (k : Nat) (a0 : ByteArray) (a1 : Int) (a2 : Int) (a3 : Int) : Option (List ByteArray × Bool) := (beadrollref10_Parts.f k a3).bind fun t192 => (if 0 ≤ a2 then (if a2 ≤ (a0.size : Int) then (beadrollref10_Read.l0 k (a0.extract 0 (a2 : Int).toNat) a1 a2 ([] : List ByteArray) t192 0) else (none)) else (none))
set_option maxHeartbeats 8000000 in
set_option maxRecDepth 100000 in
theorem beadrollref10_Read.calls (k : Nat) (a0 : ByteArray) (a1 : Int) (a2 : Int) (a3 : Int) (r1 : List ByteArray) (r2 : Bool) (w : World) (h : beadrollref10_Read.f k a0 a1 a2 a3 = some (r1, r2)) :
  Calls Try.prog 53 #[.string a0, .int .i64 a1, .int .i64 a2, .int .i64 a3] w fun e w' => ∃ v0_ : Value, e = .returned (.tuple #[v0_, .bool r2]) ∧ Kd.R Kd.string 9 w' w.heap.size (fun _ => True) v0_ r1 ∧ Below w.heap.size w w' := by
 have HB := Aside0.mk (Below.refl w.heap.size w)
 have H : ((beadrollref10_Parts.f k a3).bind fun t192 => (if 0 ≤ a2 then (if a2 ≤ (a0.size : Int) then (beadrollref10_Read.l0 k (a0.extract 0 (a2 : Int).toNat) a1 a2 ([] : List ByteArray) t192 0) else (none)) else (none))) = some (r1, r2) := h
 clear h
 replace H := Option.bind_eq_some_iff.mp H
 obtain ⟨t192, A50, H⟩ := H
 replace H : (if 0 ≤ a2 then (if a2 ≤ (a0.size : Int) then (beadrollref10_Read.l0 k (a0.extract 0 (a2 : Int).toNat) a1 a2 ([] : List ByteArray) t192 0) else (none)) else (none)) = some (r1, r2) := H
 have A5 := Aside0.mk A50
 clear A50
 by_cases c6 : 0 ≤ a2
 ·rw [if_pos c6] at H
  have c6b0 := eq_true c6
  have c6b1 : decide (0 ≤ a2) = true := decide_eq_true c6
  clear c6
  by_cases c7 : a2 ≤ (a0.size : Int)
  ·rw [if_pos c7] at H
   have c7b0 := eq_true c7
   have c7b1 : decide (a2 ≤ (a0.size : Int)) = true := decide_eq_true c7
   clear c7
   have H' := Aside0.mk H
   clear H
   go_enter Try.func53, Try.ntmps53
   go_wp2_with (first | ((with_reducible refine gate_callee (f := 56) rfl ?_); refine goesL_ (some 20) rfl rfl Try.func56 (by kernel_rfl) rfl #[.int .i64 a3] rfl (by (try simp only [List.map_toArray, List.map_cons, List.map_nil]); first | done | rfl | (simp only [List.length_drop, List.length_take]; rfl)) ?_; (with_reducible refine (beadrollref10_Parts.calls k a3 t192 _ A5.out).mono ?_); rintro e w' ⟨rfl, ⟨nd, rfl⟩⟩; refine ⟨_, rfl, ?_⟩))
   go_loopg [1, 10, 12] k (fun kq v1 v10 v12 w' => ∃ (x1_1 : Int) (x10_1 : List ByteArray) (x12_1 : Int), v1 = .int .i64 x1_1 ∧ v12 = .int .i64 x12_1 ∧ Aside0 (beadrollref10_Read.l0 kq (a0.extract 0 (a2 : Int).toNat) x1_1 a2 x10_1 t192 x12_1 = some (r1, r2)) ∧ Aside0 (kq ≤ k) ∧ Aside0 (Kd.R Kd.string 9 w' w.heap.size (fun _ => True) v10 x10_1) ∧ Aside0 (Below w.heap.size w w'))
   case atStart => exact ⟨(a1), (([] : List ByteArray)), (0), (by first | rfl | (simp; done) | (simp [*]; done)), (by first | rfl | (simp; done) | (simp [*]; done)), H', ⟨Nat.le_refl _⟩, ⟨by first | exact Kd.R_nil _ _ _ _ _ | exact Kd.N_nil _ _ _ _ _ | exact Kd.V_nil _ _ _ _ _ | exact Kd.Q_nil _ _ _ _ _ | exact Kd.S_nil _ _ _ _ _⟩, ⟨by repeat (first | (with_reducible first | exact HB.out | apply below_alloc | apply pw_below_drewN | apply below_drew1) | exact HB.out)⟩⟩
   case round =>
    clear H'
    try clear p2
    try clear c5
    try clear c6
    try clear c6b0
    try clear c6b1
    try clear c7
    try clear c7b0
    try clear c7b1
    obtain ⟨x1_1, x10_1, x12_1, rfl, rfl, HA, HK1, HO_10, HB⟩ := hrel
    cases gk with
    | zero => exact absurd HA.out (by simp [beadrollref10_Read.l0])
    | succ k1 =>
     have H := HA.out
     clear HA
     simp only [beadrollref10_Read.l0] at H
     by_cases c8 : x12_1 < (t192.size : Int)
     ·rw [if_pos c8] at H
      have c8b0 : decide (x12_1 < (t192.size : Int)) = true := decide_eq_true c8
      clear c8
      by_cases c9 : 0 ≤ x12_1
      ·rw [if_pos c9] at H
       have c9b0 : decide (0 ≤ x12_1) = true := decide_eq_true c9
       clear c9
       have HC11 := Aside0.mk H
       clear H
       have p10 : 0 ≤ (x12_1 : Int) := of_decide_eq_true (by first | (with_reducible assumption) | assumption)
       have q10 : x12_1 < (t192.size : Int) := of_decide_eq_true (by first | (with_reducible assumption) | assumption)
       have hx10 := bt_at t192 x12_1
       replace p10 := eq_true p10
       replace q10 := eq_true q10
       go_upto_if 38 with (fail)
       go_cut [38] (fun v38 wc => ∃ (kq : Nat) (x38_10 : Bool), v38 = .bool x38_10 ∧ Aside0 (beadrollref10_Read.j1 kq (a0.extract 0 (a2 : Int).toNat) x1_1 a2 x10_1 t192 x12_1 (bt t192 x12_1) x38_10 = some (r1, r2)) ∧ Aside0 (kq ≤ k1) ∧ Aside0 (Kd.R Kd.string 9 wc w.heap.size (fun _ => True) u10 x10_1) ∧ Aside0 (Below w.heap.size w wc))
       case first =>
        have H := HC11.out
        clear HC11
        by_cases c12 : (bt t192 x12_1) = 110
        ·rw [if_pos c12] at H
         have c12b0 : ((bt t192 x12_1) == 110) = true := beq_iff_eq.mpr c12
         have c12b1 : ((bt t192 x12_1) != 110) = false := bne_eq_false_iff_eq.mpr c12
         clear c12
         (first | rw [c12b0] | (simp only [i64_w, i32_w]; rw [c12b0]) | skip)
         have H' := Aside0.mk H
         clear H
         go_wp2
         go_meet
         case rel => exact ⟨_, (((bt t192 x12_1) == 110)), (by first | rfl | (simp; done) | (simp [*]; done)), H', ⟨by have := HK1.out; first | omega | exact Nat.le_refl _⟩, ⟨by (with_reducible repeat (first | apply Kd.R_alloc | apply Kd.R_drewN | apply Kd.R_drew)); exact HO_10.out⟩, ⟨by repeat (first | (with_reducible first | exact HB.out | apply below_alloc | apply pw_below_drewN | apply below_drew1) | exact HB.out)⟩⟩
        ·rw [if_neg c12] at H
         have c12b0 : ((bt t192 x12_1) == 110) = false := beq_eq_false_iff_ne.mpr c12
         have c12b1 : ((bt t192 x12_1) != 110) = true := bne_iff_ne.mpr c12
         (first | rw [c12b0] | (simp only [i64_w, i32_w]; rw [c12b0]) | skip)
         have H' := Aside0.mk H
         clear H
         go_wp2
         go_meet
         case rel => exact ⟨_, (((bt t192 x12_1) == 117)), (by first | rfl | (simp; done) | (simp [*]; done)), H', ⟨by have := HK1.out; first | omega | exact Nat.le_refl _⟩, ⟨by (with_reducible repeat (first | apply Kd.R_alloc | apply Kd.R_drewN | apply Kd.R_drew)); exact HO_10.out⟩, ⟨by repeat (first | (with_reducible first | exact HB.out | apply below_alloc | apply pw_below_drewN | apply below_drew1) | exact HB.out)⟩⟩
       case rest =>
        clear HC11
        try clear c1
        try clear p1
        try clear q1
        try clear hx1
        try clear p2
        try clear c5
        try clear c6
        try clear c6b0
        try clear c6b1
        try clear c7
        try clear c7b0
        try clear c7b1
        try clear c8
        try clear c8b0
        try clear c9
        try clear c9b0
        try clear p10
        try clear q10
        try clear hx10
        try clear c12
        try clear c12b0
        try clear c12b1
        try clear p10
        try clear p2
        try clear q10
        obtain ⟨kq, x38_10, rfl, HA, HJ10, HO_10, HB⟩ := hcut
        cases kq with
        | zero => exact absurd HA.out (by simp [beadrollref10_Read.j1])
        | succ kj10 =>
         have H := HA.out
         clear HA
         simp only [beadrollref10_Read.j1] at H
         by_cases c13 : x38_10 = true
         ·subst c13
          have H1 : ((beadrollref09_Read.f kj10 (a0.extract 0 (a2 : Int).toNat) x1_1).bind fun bt193 => (if bt193.2.2 = 0 then (if 0 ≤ x12_1 then (if x12_1 < (t192.size : Int) then (if (bt t192 x12_1) = 117 then (if 0 ≤ x1_1 then (if x1_1 ≤ bt193.2.1 then (if bt193.2.1 ≤ ((a0.extract 0 (a2 : Int).toNat).size : Int) then (beadrollref10_Read.j2 kj10 (a0.extract 0 (a2 : Int).toNat) a2 x10_1 t192 x12_1 bt193.1 bt193.2.1 (bt193.1.toList != ((a0.extract 0 (a2 : Int).toNat).extract (x1_1 : Int).toNat (bt193.2.1 : Int).toNat).toList)) else (none)) else (none)) else (none)) else (beadrollref10_Read.j2 kj10 (a0.extract 0 (a2 : Int).toNat) a2 x10_1 t192 x12_1 bt193.1 bt193.2.1 false)) else (none)) else (none)) else (beadrollref10_Read.j2 kj10 (a0.extract 0 (a2 : Int).toNat) a2 x10_1 t192 x12_1 bt193.1 bt193.2.1 true))) = some (r1, r2) := by rw [if_pos rfl] at H; exact H
          clear H
          have H := H1
          clear H1
          replace H := Option.bind_eq_some_iff.mp H
          obtain ⟨⟨t193, t194, t195⟩, A140, H⟩ := H
          replace H : (if t195 = 0 then (if 0 ≤ x12_1 then (if x12_1 < (t192.size : Int) then (if (bt t192 x12_1) = 117 then (if 0 ≤ x1_1 then (if x1_1 ≤ t194 then (if t194 ≤ ((a0.extract 0 (a2 : Int).toNat).size : Int) then (beadrollref10_Read.j2 kj10 (a0.extract 0 (a2 : Int).toNat) a2 x10_1 t192 x12_1 t193 t194 (t193.toList != ((a0.extract 0 (a2 : Int).toNat).extract (x1_1 : Int).toNat (t194 : Int).toNat).toList)) else (none)) else (none)) else (none)) else (beadrollref10_Read.j2 kj10 (a0.extract 0 (a2 : Int).toNat) a2 x10_1 t192 x12_1 t193 t194 false)) else (none)) else (none)) else (beadrollref10_Read.j2 kj10 (a0.extract 0 (a2 : Int).toNat) a2 x10_1 t192 x12_1 t193 t194 true)) = some (r1, r2) := H
          have A14 := Aside0.mk A140
          clear A140
          have HC15 := Aside0.mk H
          clear H
          go_upto_region 13 with (first | ((with_reducible refine gate_callee (f := 66) rfl ?_); refine goesL_ (some 44) rfl rfl Try.func66 (by kernel_rfl) rfl #[.string (a0.extract 0 (a2 : Int).toNat), .int .i64 x1_1] rfl (by (try simp only [List.map_toArray, List.map_cons, List.map_nil]); first | done | rfl | (simp only [List.length_drop, List.length_take]; rfl)) ?_; (with_reducible refine (beadrollref09_Read.calls kj10 (a0.extract 0 (a2 : Int).toNat) x1_1 t193 t194 t195 _ A14.out).mono ?_); rintro e w16 ⟨rfl, hb⟩; refine ⟨_, rfl, ?_⟩; have n0_ := Aside0.mk (Kd.R_below (by (with_reducible repeat (first | apply Kd.R_alloc | apply Kd.R_drewN | apply Kd.R_drew)); exact HO_10.out) hb); have n1_ := Aside0.mk (below_step (by repeat (first | (with_reducible first | exact HB.out | apply below_alloc | apply pw_below_drewN | apply below_drew1) | exact HB.out)) hb); clear HO_10; clear HB; have HO_10 := n0_; have HB := n1_; clear n0_ n1_; (try clear hb); (try clear hb2); (try clear hk); (try clear hi)))
          (try simp only [Act.put, List.setIfInBounds_toArray, List.set_cons_zero, List.set_cons_succ])
          go_cut [63] (fun v63 wc => ∃ (kq : Nat) (x63_14 : Bool), v63 = .bool x63_14 ∧ Aside0 (beadrollref10_Read.j2 kq (a0.extract 0 (a2 : Int).toNat) a2 x10_1 t192 x12_1 t193 t194 x63_14 = some (r1, r2)) ∧ Aside0 (kq ≤ kj10) ∧ Aside0 (Kd.R Kd.string 9 wc w.heap.size (fun _ => True) u10 x10_1) ∧ Aside0 (Below w.heap.size w wc))
          case first =>
           have H := HC15.out
           clear HC15
           by_cases c17 : t195 = 0
           ·rw [if_pos c17] at H
            have c17b0 : (t195 == 0) = true := beq_iff_eq.mpr c17
            have c17b1 : (t195 != 0) = false := bne_eq_false_iff_eq.mpr c17
            clear c17
            (first | rw [c17b0] | (simp only [i64_w, i32_w]; rw [c17b0]) | skip)
            by_cases c18 : 0 ≤ x12_1
            ·rw [if_pos c18] at H
             have c18b0 : decide (0 ≤ x12_1) = true := decide_eq_true c18
             clear c18
             by_cases c19 : x12_1 < (t192.size : Int)
             ·rw [if_pos c19] at H
              have c19b0 : decide (x12_1 < (t192.size : Int)) = true := decide_eq_true c19
              clear c19
              by_cases c21 : (bt t192 x12_1) = 117
              ·rw [if_pos c21] at H
               have c21b0 : ((bt t192 x12_1) == 117) = true := beq_iff_eq.mpr c21
               have c21b1 : ((bt t192 x12_1) != 117) = false := bne_eq_false_iff_eq.mpr c21
               clear c21
               by_cases c22 : 0 ≤ x1_1
               ·rw [if_pos c22] at H
                have c22b0 := eq_true c22
                have c22b1 : decide (0 ≤ x1_1) = true := decide_eq_true c22
                clear c22
                by_cases c23 : x1_1 ≤ t194
                ·rw [if_pos c23] at H
                 have c23b0 := eq_true c23
                 have c23b1 : decide (x1_1 ≤ t194) = true := decide_eq_true c23
                 clear c23
                 by_cases c24 : t194 ≤ ((a0.extract 0 (a2 : Int).toNat).size : Int)
                 ·rw [if_pos c24] at H
                  have c24b0 := eq_true c24
                  have c24b1 : decide (t194 ≤ ((a0.extract 0 (a2 : Int).toNat).size : Int)) = true := decide_eq_true c24
                  try have c24b1v := c24b1
                  try simp only [ByteArray.size_extract, Nat.sub_zero] at c24b1v
                  try have c24b1w := eq_true (of_decide_eq_true c24b1v)
                  clear c24
                  have H' := Aside0.mk H
                  clear H
                  have p20 : 0 ≤ (x12_1 : Int) := of_decide_eq_true (by first | (with_reducible assumption) | assumption)
                  have q20 : x12_1 < (t192.size : Int) := of_decide_eq_true (by first | (with_reducible assumption) | assumption)
                  have hx20 := bt_at t192 x12_1
                  replace p20 := eq_true p20
                  replace q20 := eq_true q20
                  go_wp2
                  go_meet
                  case rel => exact ⟨_, ((t193.toList != ((a0.extract 0 (a2 : Int).toNat).extract (x1_1 : Int).toNat (t194 : Int).toNat).toList)), (by first | rfl | (simp; done) | (simp [*]; done)), H', ⟨by have := HK1.out; have := HJ10.out; first | omega | exact Nat.le_refl _⟩, ⟨by (with_reducible repeat (first | apply Kd.R_alloc | apply Kd.R_drewN | apply Kd.R_drew)); exact HO_10.out⟩, ⟨by repeat (first | (with_reducible first | exact HB.out | apply below_alloc | apply pw_below_drewN | apply below_drew1) | exact HB.out)⟩⟩
                 ·rw [if_neg c24] at H
                  exact absurd H (by simp)
                ·rw [if_neg c23] at H
                 exact absurd H (by simp)
               ·rw [if_neg c22] at H
                exact absurd H (by simp)
              ·rw [if_neg c21] at H
               have c21b0 : ((bt t192 x12_1) == 117) = false := beq_eq_false_iff_ne.mpr c21
               have c21b1 : ((bt t192 x12_1) != 117) = true := bne_iff_ne.mpr c21
               have H' := Aside0.mk H
               clear H
               have p20 : 0 ≤ (x12_1 : Int) := of_decide_eq_true (by first | (with_reducible assumption) | assumption)
               have q20 : x12_1 < (t192.size : Int) := of_decide_eq_true (by first | (with_reducible assumption) | assumption)
               have hx20 := bt_at t192 x12_1
               replace p20 := eq_true p20
               replace q20 := eq_true q20
               go_wp2
               go_meet
               case rel => exact ⟨_, (false), (by first | rfl | (simp; done) | (simp [*]; done)), H', ⟨by have := HK1.out; have := HJ10.out; first | omega | exact Nat.le_refl _⟩, ⟨by (with_reducible repeat (first | apply Kd.R_alloc | apply Kd.R_drewN | apply Kd.R_drew)); exact HO_10.out⟩, ⟨by repeat (first | (with_reducible first | exact HB.out | apply below_alloc | apply pw_below_drewN | apply below_drew1) | exact HB.out)⟩⟩
             ·rw [if_neg c19] at H
              exact absurd H (by simp)
            ·rw [if_neg c18] at H
             exact absurd H (by simp)
           ·rw [if_neg c17] at H
            have c17b0 : (t195 == 0) = false := beq_eq_false_iff_ne.mpr c17
            have c17b1 : (t195 != 0) = true := bne_iff_ne.mpr c17
            (first | rw [c17b0] | (simp only [i64_w, i32_w]; rw [c17b0]) | skip)
            have H' := Aside0.mk H
            clear H
            go_wp2
            go_meet
            case rel => exact ⟨_, (true), (by first | rfl | (simp; done) | (simp [*]; done)), H', ⟨by have := HK1.out; have := HJ10.out; first | omega | exact Nat.le_refl _⟩, ⟨by (with_reducible repeat (first | apply Kd.R_alloc | apply Kd.R_drewN | apply Kd.R_drew)); exact HO_10.out⟩, ⟨by repeat (first | (with_reducible first | exact HB.out | apply below_alloc | apply pw_below_drewN | apply below_drew1) | exact HB.out)⟩⟩
          case rest =>
           clear HC15
           try clear c1
           try clear p1
           try clear q1
           try clear hx1
           try clear c2
           try clear p2
           try clear q2
           try clear hx2
           try clear c5
           try clear c6
           try clear c6b0
           try clear c6b1
           try clear c7
           try clear c7b0
           try clear c7b1
           try clear c8
           try clear c8b0
           try clear c9
           try clear c9b0
           try clear p10
           try clear q10
           try clear hx10
           try clear c12
           try clear c12b0
           try clear c12b1
           try clear c13
           try clear c17
           try clear c17b0
           try clear c17b1
           try clear c18
           try clear c18b0
           try clear c19
           try clear c19b0
           try clear p20
           try clear q20
           try clear hx20
           try clear c21
           try clear c21b0
           try clear c21b1
           try clear c22
           try clear c22b0
           try clear c22b1
           try clear c23
           try clear c23b0
           try clear c23b1
           try clear c24
           try clear c24b0
           try clear c24b1
           try clear p1
           try clear p10
           try clear p2
           try clear p20
           try clear q1
           try clear q10
           try clear q20
           obtain ⟨kq, x63_14, rfl, HA, HJ14, HO_10, HB⟩ := hcut
           cases kq with
           | zero => exact absurd HA.out (by simp [beadrollref10_Read.j2])
           | succ kj14 =>
            have H := HA.out
            clear HA
            simp only [beadrollref10_Read.j2] at H
            by_cases c25 : x63_14 = true
            ·subst c25
             have H1 : (some (([] : List ByteArray), false)) = some (r1, r2) := by rw [if_pos rfl] at H; exact H
             clear H
             have H := H1
             clear H1
             simp only [Option.some.injEq, Prod.mk.injEq] at H
             obtain ⟨rfl, rfl⟩ := H
             go_wp2
             go_ret2
             exact ⟨_, by first | rfl | (simp [errW_none, errW_some] <;> rfl) | (simp [*, errW_none, errW_some] <;> rfl), by first | exact Kd.R_nil _ _ _ _ _ | exact Kd.N_nil _ _ _ _ _ | exact Kd.V_nil _ _ _ _ _ | exact Kd.Q_nil _ _ _ _ _ | exact Kd.S_nil _ _ _ _ _, by repeat (first | (with_reducible first | exact HB.out | apply below_alloc | apply pw_below_drewN | apply below_drew1) | exact HB.out)⟩
            ·replace c25 := Bool.eq_false_iff.mpr c25
             subst c25
             have H1 : (if x10_1.length < 8796093022208 then (beadrollref10_Read.l0 kj14 (a0.extract 0 (a2 : Int).toNat) t194 a2 (x10_1 ++ [t193]) t192 (wrap64 (x12_1 + 1))) else (none)) = some (r1, r2) := by rw [if_neg (show ¬ (false = true) by decide)] at H; exact H
             clear H
             have H := H1
             clear H1
             by_cases c26 : x10_1.length < 8796093022208
             ·rw [if_pos c26] at H
              have LMc26 := Aside0.mk c26
              clear c26
              obtain ⟨y196, hy196⟩ : ∃ y_ : List ByteArray, y_ = (x10_1 ++ [t193]) := ⟨_, rfl⟩
              replace H : (beadrollref10_Read.l0 kj14 (a0.extract 0 (a2 : Int).toNat) t194 a2 y196 t192 (wrap64 (x12_1 + 1))) = some (r1, r2) := by first | (rw [hy196]; with_reducible exact H) | (have H2_ := (Option.bind_some _ _).symm.trans H; rw [hy196]; with_reducible exact H2_) | (have H2_ := (Option.bind_some _ _).symm.trans H; with_reducible exact H2_) | with_reducible exact H | (rw [hy196]; exact H) | exact H
              have Ny196 := Aside0.mk hy196
              clear hy196
              have H' := Aside0.mk H
              clear H
              go_wp2_with (first | ((with_reducible refine gate_builtin (b := .append) (xs := #[.tmp 64, .tmp 66]) rfl ?_); (try (refine gate_guard (by rfl) ?_; dsimp only)); at_builtin; refine Kd.R_append Kd.string (w0 := w) w.heap.size rfl (.tmp 64) (.tmp 66) 52 9 (.string ⟨#[]⟩) 16 rfl Try.underlying52 info9 rfl (by decide) (by omega) u10 x10_1 t193 [.string t193] (fun _ => True) (fun _ => False) rfl rfl ?aP (fun _ hk => hk.elim) ?aF ?aO ?aB ?aS ?aL ?_; (case aP => exact rfl); (case aB => exact (by repeat (first | (with_reducible first | exact HB.out | apply below_alloc | apply pw_below_drewN | apply below_drew1) | exact HB.out))); (case aF => exact (fun _ _ => trivial)); (case aO => exact (by (with_reducible repeat (first | apply Kd.R_alloc | apply Kd.R_drewN | apply Kd.R_drew)); exact HO_10.out)); (case aS => exact (below_size (by repeat (first | (with_reducible first | exact HB.out | apply below_alloc | apply pw_below_drewN | apply below_drew1) | exact HB.out)))); (case aL => have := LMc26.out; omega); intro v197 w27 ho hb hg hat; rw [← Ny196.out] at ho; have n0_ := Aside0.mk (hb); have n1_ := Aside0.mk (ho); clear HB; clear HO_10; have HB := n0_; have HO198 := n1_; clear n0_ n1_; clear ho hb hg hat))
              go_roundg kj14
              case measure => have := HK1.out; have := HJ10.out; have := HJ14.out; omega
              case rel => exact ⟨(t194), (y196), (wrap64 (x12_1 + 1)), (by first | rfl | (simp; done) | (simp [*]; done)), (by first | rfl | (simp; done) | (simp [*]; done)), H', ⟨by have := HK1.out; have := HJ10.out; have := HJ14.out; omega⟩, ⟨by (with_reducible repeat (first | apply Kd.R_alloc | apply Kd.R_drewN | apply Kd.R_drew)); exact HO198.out⟩, ⟨by repeat (first | (with_reducible first | exact HB.out | apply below_alloc | apply pw_below_drewN | apply below_drew1) | exact HB.out)⟩⟩
             ·rw [if_neg c26] at H
              exact absurd H (by simp)
         ·replace c13 := Bool.eq_false_iff.mpr c13
          subst c13
          have H1 : (if (bt t192 x12_1) = 116 then (if 0 ≤ x1_1 then (if x1_1 ≤ ((a0.extract 0 (a2 : Int).toNat).size : Int) then ((beadrollref01_Pieces.f kj10 ((a0.extract 0 (a2 : Int).toNat).extract (x1_1 : Int).toNat (a0.extract 0 (a2 : Int).toNat).size) 1).bind fun bt199 => (if bt199.2 = 0 then (beadrollref10_Read.j3 kj10 (a0.extract 0 (a2 : Int).toNat) x1_1 a2 x10_1 t192 x12_1 ((bt199.1.length : Int) == 0)) else (beadrollref10_Read.j3 kj10 (a0.extract 0 (a2 : Int).toNat) x1_1 a2 x10_1 t192 x12_1 true))) else (none)) else (none)) else (if (bt t192 x12_1) = 111 then (if (wrap64 (x1_1 + (wrap64 (a2 - x1_1)))) > a2 then (some (([] : List ByteArray), false)) else (if 0 ≤ x1_1 then (if x1_1 ≤ (wrap64 (x1_1 + (wrap64 (a2 - x1_1)))) then (if (wrap64 (x1_1 + (wrap64 (a2 - x1_1)))) ≤ ((a0.extract 0 (a2 : Int).toNat).size : Int) then (if x10_1.length < 8796093022208 then (beadrollref10_Read.l0 kj10 (a0.extract 0 (a2 : Int).toNat) (wrap64 (x1_1 + (wrap64 (a2 - x1_1)))) a2 (x10_1 ++ [(a0.extract 0 (a2 : Int).toNat).extract (x1_1 : Int).toNat ((wrap64 (x1_1 + (wrap64 (a2 - x1_1)))) : Int).toNat]) t192 (wrap64 (x12_1 + 1))) else (none)) else (none)) else (none)) else (none))) else (if (bt t192 x12_1) = 104 then (if (wrap64 (x1_1 + 16)) > a2 then (some (([] : List ByteArray), false)) else (if 0 ≤ x1_1 then (if x1_1 ≤ (wrap64 (x1_1 + 16)) then (if (wrap64 (x1_1 + 16)) ≤ ((a0.extract 0 (a2 : Int).toNat).size : Int) then (if x10_1.length < 8796093022208 then (beadrollref10_Read.l0 kj10 (a0.extract 0 (a2 : Int).toNat) (wrap64 (x1_1 + 16)) a2 (x10_1 ++ [(a0.extract 0 (a2 : Int).toNat).extract (x1_1 : Int).toNat ((wrap64 (x1_1 + 16)) : Int).toNat]) t192 (wrap64 (x12_1 + 1))) else (none)) else (none)) else (none)) else (none))) else (if 0 ≤ x12_1 then (if x12_1 < (t192.size : Int) then (if (wrap64 (x1_1 + (wrap64 ((wrap64 (bt t192 x12_1)) - 48)))) > a2 then (some (([] : List ByteArray), false)) else (if 0 ≤ x1_1 then (if x1_1 ≤ (wrap64 (x1_1 + (wrap64 ((wrap64 (bt t192 x12_1)) - 48)))) then (if (wrap64 (x1_1 + (wrap64 ((wrap64 (bt t192 x12_1)) - 48)))) ≤ ((a0.extract 0 (a2 : Int).toNat).size : Int) then (if x10_1.length < 8796093022208 then (beadrollref10_Read.l0 kj10 (a0.extract 0 (a2 : Int).toNat) (wrap64 (x1_1 + (wrap64 ((wrap64 (bt t192 x12_1)) - 48)))) a2 (x10_1 ++ [(a0.extract 0 (a2 : Int).toNat).extract (x1_1 : Int).toNat ((wrap64 (x1_1 + (wrap64 ((wrap64 (bt t192 x12_1)) - 48)))) : Int).toNat]) t192 (wrap64 (x12_1 + 1))) else (none)) else (none)) else (none)) else (none))) else (none)) else (none))))) = some (r1, r2) := by rw [if_neg (show ¬ (false = true) by decide)] at H; exact H
          clear H
          have H := H1
          clear H1
          by_cases c28 : (bt t192 x12_1) = 116
          ·rw [if_pos c28] at H
           have c28b0 : ((bt t192 x12_1) == 116) = true := beq_iff_eq.mpr c28
           have c28b1 : ((bt t192 x12_1) != 116) = false := bne_eq_false_iff_eq.mpr c28
           clear c28
           by_cases c29 : 0 ≤ x1_1
           ·rw [if_pos c29] at H
            have c29b0 := eq_true c29
            have c29b1 : decide (0 ≤ x1_1) = true := decide_eq_true c29
            clear c29
            by_cases c30 : x1_1 ≤ ((a0.extract 0 (a2 : Int).toNat).size : Int)
            ·rw [if_pos c30] at H
             have c30b0 := eq_true c30
             have c30b1 : decide (x1_1 ≤ ((a0.extract 0 (a2 : Int).toNat).size : Int)) = true := decide_eq_true c30
             try have c30b1v := c30b1
             try simp only [ByteArray.size_extract, Nat.sub_zero] at c30b1v
             try have c30b1w := eq_true (of_decide_eq_true c30b1v)
             clear c30
             replace H := Option.bind_eq_some_iff.mp H
             obtain ⟨⟨t199, t200⟩, A310, H⟩ := H
             replace H : (if t200 = 0 then (beadrollref10_Read.j3 kj10 (a0.extract 0 (a2 : Int).toNat) x1_1 a2 x10_1 t192 x12_1 ((t199.length : Int) == 0)) else (beadrollref10_Read.j3 kj10 (a0.extract 0 (a2 : Int).toNat) x1_1 a2 x10_1 t192 x12_1 true)) = some (r1, r2) := H
             have A31 := Aside0.mk A310
             clear A310
             have HC32 := Aside0.mk H
             clear H
             go_upto_region 19 with (first | ((with_reducible refine gate_callee (f := 67) rfl ?_); refine goesL_ (some 75) rfl rfl Try.func67 (by kernel_rfl) rfl #[.string ((a0.extract 0 (a2 : Int).toNat).extract (x1_1 : Int).toNat (a0.extract 0 (a2 : Int).toNat).size), .int .i64 1] rfl (by (try simp only [List.map_toArray, List.map_cons, List.map_nil]); first | done | rfl | (simp only [List.length_drop, List.length_take]; rfl) | (simp only [ByteArray.size_extract, Nat.sub_zero]; rfl)) ?_; (with_reducible refine (beadrollref01_Pieces.calls kj10 ((a0.extract 0 (a2 : Int).toNat).extract (x1_1 : Int).toNat (a0.extract 0 (a2 : Int).toNat).size) 1 t199 t200 _ A31.out).mono ?_); rintro e w33 ⟨v201, rfl, ho0, hb⟩; refine ⟨_, rfl, ?_⟩; have n0_ := Aside0.mk (Kd.R_elder' (by (with_reducible repeat (first | apply Kd.R_alloc | apply Kd.R_drewN | apply Kd.R_drew)); exact HO_10.out) (Kd.R_base ho0) hb); have n1_ := Aside0.mk (Kd.R_lower (Kd.R_new' ho0 (Kd.R_lt (by (with_reducible repeat (first | apply Kd.R_alloc | apply Kd.R_drewN | apply Kd.R_drew)); exact HO_10.out))) (below_size (by repeat (first | (with_reducible first | exact HB.out | apply below_alloc | apply pw_below_drewN | apply below_drew1) | exact HB.out)))); have n2_ := Aside0.mk (below_step (by repeat (first | (with_reducible first | exact HB.out | apply below_alloc | apply pw_below_drewN | apply below_drew1) | exact HB.out)) hb); clear HO_10; clear HB; have HO_10 := n0_; have HO202 := n1_; have HB := n2_; clear n0_ n1_ n2_; (try clear hb); (try clear hb2); (try clear hk); (try clear hi); (try clear ho0)))
             (try simp only [Act.put, List.setIfInBounds_toArray, List.set_cons_zero, List.set_cons_succ])
             go_cut [84] (fun v84 wc => ∃ (kq : Nat) (x84_31 : Bool), v84 = .bool x84_31 ∧ Aside0 (beadrollref10_Read.j3 kq (a0.extract 0 (a2 : Int).toNat) x1_1 a2 x10_1 t192 x12_1 x84_31 = some (r1, r2)) ∧ Aside0 (kq ≤ kj10) ∧ Aside0 (Kd.R Kd.string 9 wc w.heap.size (fun _ => True) u10 x10_1) ∧ Aside0 (Below w.heap.size w wc))
             case first =>
              have H := HC32.out
              clear HC32
              by_cases c34 : t200 = 0
              ·rw [if_pos c34] at H
               have c34b0 : (t200 == 0) = true := beq_iff_eq.mpr c34
               have c34b1 : (t200 != 0) = false := bne_eq_false_iff_eq.mpr c34
               clear c34
               (first | rw [c34b0] | (simp only [i64_w, i32_w]; rw [c34b0]) | skip)
               have H' := Aside0.mk H
               clear H
               obtain ⟨Ao35, co35, eo35⟩ := Kd.R_slice HO202.out
               subst eo35
               go_wp2
               go_meet
               case rel => exact ⟨_, (((t199.length : Int) == 0)), (by first | rfl | (simp; done) | (simp [*]; done)), H', ⟨by have := HK1.out; have := HJ10.out; first | omega | exact Nat.le_refl _⟩, ⟨by (with_reducible repeat (first | apply Kd.R_alloc | apply Kd.R_drewN | apply Kd.R_drew)); exact Kd.R_mono HO_10.out (fun _ hk => trivial)⟩, ⟨by repeat (first | (with_reducible first | exact HB.out | apply below_alloc | apply pw_below_drewN | apply below_drew1) | exact HB.out)⟩⟩
              ·rw [if_neg c34] at H
               have c34b0 : (t200 == 0) = false := beq_eq_false_iff_ne.mpr c34
               have c34b1 : (t200 != 0) = true := bne_iff_ne.mpr c34
               (first | rw [c34b0] | (simp only [i64_w, i32_w]; rw [c34b0]) | skip)
               have H' := Aside0.mk H
               clear H
               go_wp2
               go_meet
               case rel => exact ⟨_, (true), (by first | rfl | (simp; done) | (simp [*]; done)), H', ⟨by have := HK1.out; have := HJ10.out; first | omega | exact Nat.le_refl _⟩, ⟨by (with_reducible repeat (first | apply Kd.R_alloc | apply Kd.R_drewN | apply Kd.R_drew)); exact Kd.R_mono HO_10.out (fun _ hk => trivial)⟩, ⟨by repeat (first | (with_reducible first | exact HB.out | apply below_alloc | apply pw_below_drewN | apply below_drew1) | exact HB.out)⟩⟩
             case rest =>
              clear HC32
              try clear c1
              try clear p1
              try clear q1
              try clear hx1
              try clear c2
              try clear p2
              try clear q2
              try clear hx2
              try clear c3
              try clear c5
              try clear c6
              try clear c6b0
              try clear c6b1
              try clear p6
              try clear c7
              try clear c7b0
              try clear c7b1
              try clear c8
              try clear c8b0
              try clear c9
              try clear c9b0
              try clear p10
              try clear q10
              try clear hx10
              try clear c12
              try clear c12b0
              try clear c12b1
              try clear c13
              try clear c17
              try clear c17b0
              try clear c17b1
              try clear c18
              try clear c18b0
              try clear c19
              try clear c19b0
              try clear p20
              try clear q20
              try clear hx20
              try clear c21
              try clear c21b0
              try clear c21b1
              try clear c22
              try clear c22b0
              try clear c22b1
              try clear c23
              try clear c23b0
              try clear c23b1
              try clear c24
              try clear c24b0
              try clear c24b1
              try clear c25
              try clear c26
              try clear c28
              try clear c28b0
              try clear c28b1
              try clear c29
              try clear c29b0
              try clear c29b1
              try clear c30
              try clear c30b0
              try clear c30b1
              try clear c34
              try clear c34b0
              try clear c34b1
              try clear p1
              try clear p10
              try clear p2
              try clear p20
              try clear q1
              try clear q10
              try clear q2
              try clear q20
              obtain ⟨kq, x84_31, rfl, HA, HJ31, HO_10, HB⟩ := hcut
              cases kq with
              | zero => exact absurd HA.out (by simp [beadrollref10_Read.j3])
              | succ kj31 =>
               have H := HA.out
               clear HA
               simp only [beadrollref10_Read.j3] at H
               by_cases c36 : x84_31 = true
               ·subst c36
                have H1 : (some (([] : List ByteArray), false)) = some (r1, r2) := by rw [if_pos rfl] at H; exact H
                clear H
                have H := H1
                clear H1
                simp only [Option.some.injEq, Prod.mk.injEq] at H
                obtain ⟨rfl, rfl⟩ := H
                go_wp2
                go_ret2
                exact ⟨_, by first | rfl | (simp [errW_none, errW_some] <;> rfl) | (simp [*, errW_none, errW_some] <;> rfl), by first | exact Kd.R_nil _ _ _ _ _ | exact Kd.N_nil _ _ _ _ _ | exact Kd.V_nil _ _ _ _ _ | exact Kd.Q_nil _ _ _ _ _ | exact Kd.S_nil _ _ _ _ _, by repeat (first | (with_reducible first | exact HB.out | apply below_alloc | apply pw_below_drewN | apply below_drew1) | exact HB.out)⟩
               ·replace c36 := Bool.eq_false_iff.mpr c36
                subst c36
                have H1 : (if (wrap64 (x1_1 + (wrap64 (a2 - x1_1)))) > a2 then (some (([] : List ByteArray), false)) else (if 0 ≤ x1_1 then (if x1_1 ≤ (wrap64 (x1_1 + (wrap64 (a2 - x1_1)))) then (if (wrap64 (x1_1 + (wrap64 (a2 - x1_1)))) ≤ ((a0.extract 0 (a2 : Int).toNat).size : Int) then (if x10_1.length < 8796093022208 then (beadrollref10_Read.l0 kj31 (a0.extract 0 (a2 : Int).toNat) (wrap64 (x1_1 + (wrap64 (a2 - x1_1)))) a2 (x10_1 ++ [(a0.extract 0 (a2 : Int).toNat).extract (x1_1 : Int).toNat ((wrap64 (x1_1 + (wrap64 (a2 - x1_1)))) : Int).toNat]) t192 (wrap64 (x12_1 + 1))) else (none)) else (none)) else (none)) else (none))) = some (r1, r2) := by rw [if_neg (show ¬ (false = true) by decide)] at H; exact H
                clear H
                have H := H1
                clear H1
                by_cases c37 : (wrap64 (x1_1 + (wrap64 (a2 - x1_1)))) > a2
                ·rw [if_pos c37] at H
                 have c37b0 : decide (a2 < (wrap64 (x1_1 + (wrap64 (a2 - x1_1))))) = true := decide_eq_true c37
                 clear c37
                 simp only [Option.some.injEq, Prod.mk.injEq] at H
                 obtain ⟨rfl, rfl⟩ := H
                 go_wp2
                 go_ret2
                 exact ⟨_, by first | rfl | (simp [errW_none, errW_some] <;> rfl) | (simp [*, errW_none, errW_some] <;> rfl), by first | exact Kd.R_nil _ _ _ _ _ | exact Kd.N_nil _ _ _ _ _ | exact Kd.V_nil _ _ _ _ _ | exact Kd.Q_nil _ _ _ _ _ | exact Kd.S_nil _ _ _ _ _, by repeat (first | (with_reducible first | exact HB.out | apply below_alloc | apply pw_below_drewN | apply below_drew1) | exact HB.out)⟩
                ·rw [if_neg c37] at H
                 have c37b0 : decide (a2 < (wrap64 (x1_1 + (wrap64 (a2 - x1_1))))) = false := decide_eq_false c37
                 clear c37
                 by_cases c38 : 0 ≤ x1_1
                 ·rw [if_pos c38] at H
                  have c38b0 := eq_true c38
                  have c38b1 : decide (0 ≤ x1_1) = true := decide_eq_true c38
                  clear c38
                  by_cases c39 : x1_1 ≤ (wrap64 (x1_1 + (wrap64 (a2 - x1_1))))
                  ·rw [if_pos c39] at H
                   have c39b0 := eq_true c39
                   have c39b1 : decide (x1_1 ≤ (wrap64 (x1_1 + (wrap64 (a2 - x1_1))))) = true := decide_eq_true c39
                   by_cases c40 : (wrap64 (x1_1 + (wrap64 (a2 - x1_1)))) ≤ ((a0.extract 0 (a2 : Int).toNat).size : Int)
                   ·rw [if_pos c40] at H
                    have c40b0 := eq_true c40
                    have c40b1 : decide ((wrap64 (x1_1 + (wrap64 (a2 - x1_1)))) ≤ ((a0.extract 0 (a2 : Int).toNat).size : Int)) = true := decide_eq_true c40
                    try have c40b1v := c40b1
                    try simp only [ByteArray.size_extract, Nat.sub_zero] at c40b1v
                    try have c40b1w := eq_true (of_decide_eq_true c40b1v)
                    by_cases c41 : x10_1.length < 8796093022208
                    ·rw [if_pos c41] at H
                     have LMc41 := Aside0.mk c41
                     clear c41
                     obtain ⟨y203, hy203⟩ : ∃ y_ : List ByteArray, y_ = (x10_1 ++ [(a0.extract 0 (a2 : Int).toNat).extract (x1_1 : Int).toNat ((wrap64 (x1_1 + (wrap64 (a2 - x1_1)))) : Int).toNat]) := ⟨_, rfl⟩
                     replace H : (beadrollref10_Read.l0 kj31 (a0.extract 0 (a2 : Int).toNat) (wrap64 (x1_1 + (wrap64 (a2 - x1_1)))) a2 y203 t192 (wrap64 (x12_1 + 1))) = some (r1, r2) := by first | (rw [hy203]; with_reducible exact H) | (have H2_ := (Option.bind_some _ _).symm.trans H; rw [hy203]; with_reducible exact H2_) | (have H2_ := (Option.bind_some _ _).symm.trans H; with_reducible exact H2_) | with_reducible exact H | (rw [hy203]; exact H) | exact H
                     have Ny203 := Aside0.mk hy203
                     clear hy203
                     have H' := Aside0.mk H
                     clear H
                     go_wp2_with (first | ((with_reducible refine gate_builtin (b := .append) (xs := #[.tmp 100, .tmp 107]) rfl ?_); (try (refine gate_guard (by rfl) ?_; dsimp only)); at_builtin; refine Kd.R_append Kd.string (w0 := w) w.heap.size rfl (.tmp 100) (.tmp 107) 52 9 (.string ⟨#[]⟩) 16 rfl Try.underlying52 info9 rfl (by decide) (by omega) u10 x10_1 ((a0.extract 0 (a2 : Int).toNat).extract (x1_1 : Int).toNat ((wrap64 (x1_1 + (wrap64 (a2 - x1_1)))) : Int).toNat) [.string ((a0.extract 0 (a2 : Int).toNat).extract (x1_1 : Int).toNat ((wrap64 (x1_1 + (wrap64 (a2 - x1_1)))) : Int).toNat)] (fun _ => True) (fun _ => False) rfl rfl ?aP (fun _ hk => hk.elim) ?aF ?aO ?aB ?aS ?aL ?_; (case aP => exact rfl); (case aB => exact (by repeat (first | (with_reducible first | exact HB.out | apply below_alloc | apply pw_below_drewN | apply below_drew1) | exact HB.out))); (case aF => exact (fun _ _ => trivial)); (case aO => exact (by (with_reducible repeat (first | apply Kd.R_alloc | apply Kd.R_drewN | apply Kd.R_drew)); exact HO_10.out)); (case aS => exact (below_size (by repeat (first | (with_reducible first | exact HB.out | apply below_alloc | apply pw_below_drewN | apply below_drew1) | exact HB.out)))); (case aL => have := LMc41.out; omega); intro v204 w42 ho hb hg hat; rw [← Ny203.out] at ho; have n0_ := Aside0.mk (hb); have n1_ := Aside0.mk (ho); clear HB; clear HO_10; have HB := n0_; have HO205 := n1_; clear n0_ n1_; clear ho hb hg hat))
                     go_roundg kj31
                     case measure => have := HK1.out; have := HJ10.out; have := HJ31.out; omega
                     case rel => exact ⟨(wrap64 (x1_1 + (wrap64 (a2 - x1_1)))), (y203), (wrap64 (x12_1 + 1)), (by first | rfl | (simp; done) | (simp [*]; done)), (by first | rfl | (simp; done) | (simp [*]; done)), H', ⟨by have := HK1.out; have := HJ10.out; have := HJ31.out; omega⟩, ⟨by (with_reducible repeat (first | apply Kd.R_alloc | apply Kd.R_drewN | apply Kd.R_drew)); exact HO205.out⟩, ⟨by repeat (first | (with_reducible first | exact HB.out | apply below_alloc | apply pw_below_drewN | apply below_drew1) | exact HB.out)⟩⟩
                    ·rw [if_neg c41] at H
                     exact absurd H (by simp)
                   ·rw [if_neg c40] at H
                    exact absurd H (by simp)
                  ·rw [if_neg c39] at H
                   exact absurd H (by simp)
                 ·rw [if_neg c38] at H
                  exact absurd H (by simp)
            ·rw [if_neg c30] at H
             exact absurd H (by simp)
           ·rw [if_neg c29] at H
            exact absurd H (by simp)
          ·rw [if_neg c28] at H
           have c28b0 : ((bt t192 x12_1) == 116) = false := beq_eq_false_iff_ne.mpr c28
           have c28b1 : ((bt t192 x12_1) != 116) = true := bne_iff_ne.mpr c28
           by_cases c43 : (bt t192 x12_1) = 111
           ·rw [if_pos c43] at H
            have c43b0 : ((bt t192 x12_1) == 111) = true := beq_iff_eq.mpr c43
            have c43b1 : ((bt t192 x12_1) != 111) = false := bne_eq_false_iff_eq.mpr c43
            clear c43
            by_cases c44 : (wrap64 (x1_1 + (wrap64 (a2 - x1_1)))) > a2
            ·rw [if_pos c44] at H
             have c44b0 : decide (a2 < (wrap64 (x1_1 + (wrap64 (a2 - x1_1))))) = true := decide_eq_true c44
             clear c44
             simp only [Option.some.injEq, Prod.mk.injEq] at H
             obtain ⟨rfl, rfl⟩ := H
             go_wp2
             go_ret2
             exact ⟨_, by first | rfl | (simp [errW_none, errW_some] <;> rfl) | (simp [*, errW_none, errW_some] <;> rfl), by first | exact Kd.R_nil _ _ _ _ _ | exact Kd.N_nil _ _ _ _ _ | exact Kd.V_nil _ _ _ _ _ | exact Kd.Q_nil _ _ _ _ _ | exact Kd.S_nil _ _ _ _ _, by repeat (first | (with_reducible first | exact HB.out | apply below_alloc | apply pw_below_drewN | apply below_drew1) | exact HB.out)⟩
            ·rw [if_neg c44] at H
             have c44b0 : decide (a2 < (wrap64 (x1_1 + (wrap64 (a2 - x1_1))))) = false := decide_eq_false c44
             clear c44
             by_cases c45 : 0 ≤ x1_1
             ·rw [if_pos c45] at H
              have c45b0 := eq_true c45
              have c45b1 : decide (0 ≤ x1_1) = true := decide_eq_true c45
              clear c45
              by_cases c46 : x1_1 ≤ (wrap64 (x1_1 + (wrap64 (a2 - x1_1))))
              ·rw [if_pos c46] at H
               have c46b0 := eq_true c46
               have c46b1 : decide (x1_1 ≤ (wrap64 (x1_1 + (wrap64 (a2 - x1_1))))) = true := decide_eq_true c46
               by_cases c47 : (wrap64 (x1_1 + (wrap64 (a2 - x1_1)))) ≤ ((a0.extract 0 (a2 : Int).toNat).size : Int)
               ·rw [if_pos c47] at H
                have c47b0 := eq_true c47
                have c47b1 : decide ((wrap64 (x1_1 + (wrap64 (a2 - x1_1)))) ≤ ((a0.extract 0 (a2 : Int).toNat).size : Int)) = true := decide_eq_true c47
                try have c47b1v := c47b1
                try simp only [ByteArray.size_extract, Nat.sub_zero] at c47b1v
                try have c47b1w := eq_true (of_decide_eq_true c47b1v)
                by_cases c48 : x10_1.length < 8796093022208
                ·rw [if_pos c48] at H
                 have LMc48 := Aside0.mk c48
                 clear c48
                 obtain ⟨y206, hy206⟩ : ∃ y_ : List ByteArray, y_ = (x10_1 ++ [(a0.extract 0 (a2 : Int).toNat).extract (x1_1 : Int).toNat ((wrap64 (x1_1 + (wrap64 (a2 - x1_1)))) : Int).toNat]) := ⟨_, rfl⟩
                 replace H : (beadrollref10_Read.l0 kj10 (a0.extract 0 (a2 : Int).toNat) (wrap64 (x1_1 + (wrap64 (a2 - x1_1)))) a2 y206 t192 (wrap64 (x12_1 + 1))) = some (r1, r2) := by first | (rw [hy206]; with_reducible exact H) | (have H2_ := (Option.bind_some _ _).symm.trans H; rw [hy206]; with_reducible exact H2_) | (have H2_ := (Option.bind_some _ _).symm.trans H; with_reducible exact H2_) | with_reducible exact H | (rw [hy206]; exact H) | exact H
                 have Ny206 := Aside0.mk hy206
                 clear hy206
                 have H' := Aside0.mk H
                 clear H
                 go_wp2_with (first | ((with_reducible refine gate_builtin (b := .append) (xs := #[.tmp 100, .tmp 107]) rfl ?_); (try (refine gate_guard (by rfl) ?_; dsimp only)); at_builtin; refine Kd.R_append Kd.string (w0 := w) w.heap.size rfl (.tmp 100) (.tmp 107) 52 9 (.string ⟨#[]⟩) 16 rfl Try.underlying52 info9 rfl (by decide) (by omega) u10 x10_1 ((a0.extract 0 (a2 : Int).toNat).extract (x1_1 : Int).toNat ((wrap64 (x1_1 + (wrap64 (a2 - x1_1)))) : Int).toNat) [.string ((a0.extract 0 (a2 : Int).toNat).extract (x1_1 : Int).toNat ((wrap64 (x1_1 + (wrap64 (a2 - x1_1)))) : Int).toNat)] (fun _ => True) (fun _ => False) rfl rfl ?aP (fun _ hk => hk.elim) ?aF ?aO ?aB ?aS ?aL ?_; (case aP => exact rfl); (case aB => exact (by repeat (first | (with_reducible first | exact HB.out | apply below_alloc | apply pw_below_drewN | apply below_drew1) | exact HB.out))); (case aF => exact (fun _ _ => trivial)); (case aO => exact (by (with_reducible repeat (first | apply Kd.R_alloc | apply Kd.R_drewN | apply Kd.R_drew)); exact HO_10.out)); (case aS => exact (below_size (by repeat (first | (with_reducible first | exact HB.out | apply below_alloc | apply pw_below_drewN | apply below_drew1) | exact HB.out)))); (case aL => have := LMc48.out; omega); intro v207 w49 ho hb hg hat; rw [← Ny206.out] at ho; have n0_ := Aside0.mk (hb); have n1_ := Aside0.mk (ho); clear HB; clear HO_10; have HB := n0_; have HO208 := n1_; clear n0_ n1_; clear ho hb hg hat))
                 go_roundg kj10
                 case measure => have := HK1.out; have := HJ10.out; omega
                 case rel => exact ⟨(wrap64 (x1_1 + (wrap64 (a2 - x1_1)))), (y206), (wrap64 (x12_1 + 1)), (by first | rfl | (simp; done) | (simp [*]; done)), (by first | rfl | (simp; done) | (simp [*]; done)), H', ⟨by have := HK1.out; have := HJ10.out; omega⟩, ⟨by (with_reducible repeat (first | apply Kd.R_alloc | apply Kd.R_drewN | apply Kd.R_drew)); exact HO208.out⟩, ⟨by repeat (first | (with_reducible first | exact HB.out | apply below_alloc | apply pw_below_drewN | apply below_drew1) | exact HB.out)⟩⟩
                ·rw [if_neg c48] at H
                 exact absurd H (by simp)
               ·rw [if_neg c47] at H
                exact absurd H (by simp)
              ·rw [if_neg c46] at H
               exact absurd H (by simp)
             ·rw [if_neg c45] at H
              exact absurd H (by simp)
           ·rw [if_neg c43] at H
            have c43b0 : ((bt t192 x12_1) == 111) = false := beq_eq_false_iff_ne.mpr c43
            have c43b1 : ((bt t192 x12_1) != 111) = true := bne_iff_ne.mpr c43
            by_cases c50 : (bt t192 x12_1) = 104
            ·rw [if_pos c50] at H
             have c50b0 : ((bt t192 x12_1) == 104) = true := beq_iff_eq.mpr c50
             have c50b1 : ((bt t192 x12_1) != 104) = false := bne_eq_false_iff_eq.mpr c50
             clear c50
             by_cases c51 : (wrap64 (x1_1 + 16)) > a2
             ·rw [if_pos c51] at H
              have c51b0 : decide (a2 < (wrap64 (x1_1 + 16))) = true := decide_eq_true c51
              clear c51
              simp only [Option.some.injEq, Prod.mk.injEq] at H
              obtain ⟨rfl, rfl⟩ := H
              go_wp2
              go_ret2
              exact ⟨_, by first | rfl | (simp [errW_none, errW_some] <;> rfl) | (simp [*, errW_none, errW_some] <;> rfl), by first | exact Kd.R_nil _ _ _ _ _ | exact Kd.N_nil _ _ _ _ _ | exact Kd.V_nil _ _ _ _ _ | exact Kd.Q_nil _ _ _ _ _ | exact Kd.S_nil _ _ _ _ _, by repeat (first | (with_reducible first | exact HB.out | apply below_alloc | apply pw_below_drewN | apply below_drew1) | exact HB.out)⟩
             ·rw [if_neg c51] at H
              have c51b0 : decide (a2 < (wrap64 (x1_1 + 16))) = false := decide_eq_false c51
              clear c51
              by_cases c52 : 0 ≤ x1_1
              ·rw [if_pos c52] at H
               have c52b0 := eq_true c52
               have c52b1 : decide (0 ≤ x1_1) = true := decide_eq_true c52
               clear c52
               by_cases c53 : x1_1 ≤ (wrap64 (x1_1 + 16))
               ·rw [if_pos c53] at H
                have c53b0 := eq_true c53
                have c53b1 : decide (x1_1 ≤ (wrap64 (x1_1 + 16))) = true := decide_eq_true c53
                by_cases c54 : (wrap64 (x1_1 + 16)) ≤ ((a0.extract 0 (a2 : Int).toNat).size : Int)
                ·rw [if_pos c54] at H
                 have c54b0 := eq_true c54
                 have c54b1 : decide ((wrap64 (x1_1 + 16)) ≤ ((a0.extract 0 (a2 : Int).toNat).size : Int)) = true := decide_eq_true c54
                 try have c54b1v := c54b1
                 try simp only [ByteArray.size_extract, Nat.sub_zero] at c54b1v
                 try have c54b1w := eq_true (of_decide_eq_true c54b1v)
                 by_cases c55 : x10_1.length < 8796093022208
                 ·rw [if_pos c55] at H
                  have LMc55 := Aside0.mk c55
                  clear c55
                  obtain ⟨y209, hy209⟩ : ∃ y_ : List ByteArray, y_ = (x10_1 ++ [(a0.extract 0 (a2 : Int).toNat).extract (x1_1 : Int).toNat ((wrap64 (x1_1 + 16)) : Int).toNat]) := ⟨_, rfl⟩
                  replace H : (beadrollref10_Read.l0 kj10 (a0.extract 0 (a2 : Int).toNat) (wrap64 (x1_1 + 16)) a2 y209 t192 (wrap64 (x12_1 + 1))) = some (r1, r2) := by first | (rw [hy209]; with_reducible exact H) | (have H2_ := (Option.bind_some _ _).symm.trans H; rw [hy209]; with_reducible exact H2_) | (have H2_ := (Option.bind_some _ _).symm.trans H; with_reducible exact H2_) | with_reducible exact H | (rw [hy209]; exact H) | exact H
                  have Ny209 := Aside0.mk hy209
                  clear hy209
                  have H' := Aside0.mk H
                  clear H
                  go_wp2_with (first | ((with_reducible refine gate_builtin (b := .append) (xs := #[.tmp 100, .tmp 107]) rfl ?_); (try (refine gate_guard (by rfl) ?_; dsimp only)); at_builtin; refine Kd.R_append Kd.string (w0 := w) w.heap.size rfl (.tmp 100) (.tmp 107) 52 9 (.string ⟨#[]⟩) 16 rfl Try.underlying52 info9 rfl (by decide) (by omega) u10 x10_1 ((a0.extract 0 (a2 : Int).toNat).extract (x1_1 : Int).toNat ((wrap64 (x1_1 + 16)) : Int).toNat) [.string ((a0.extract 0 (a2 : Int).toNat).extract (x1_1 : Int).toNat ((wrap64 (x1_1 + 16)) : Int).toNat)] (fun _ => True) (fun _ => False) rfl rfl ?aP (fun _ hk => hk.elim) ?aF ?aO ?aB ?aS ?aL ?_; (case aP => exact rfl); (case aB => exact (by repeat (first | (with_reducible first | exact HB.out | apply below_alloc | apply pw_below_drewN | apply below_drew1) | exact HB.out))); (case aF => exact (fun _ _ => trivial)); (case aO => exact (by (with_reducible repeat (first | apply Kd.R_alloc | apply Kd.R_drewN | apply Kd.R_drew)); exact HO_10.out)); (case aS => exact (below_size (by repeat (first | (with_reducible first | exact HB.out | apply below_alloc | apply pw_below_drewN | apply below_drew1) | exact HB.out)))); (case aL => have := LMc55.out; omega); intro v210 w56 ho hb hg hat; rw [← Ny209.out] at ho; have n0_ := Aside0.mk (hb); have n1_ := Aside0.mk (ho); clear HB; clear HO_10; have HB := n0_; have HO211 := n1_; clear n0_ n1_; clear ho hb hg hat))
                  go_roundg kj10
                  case measure => have := HK1.out; have := HJ10.out; omega
                  case rel => exact ⟨(wrap64 (x1_1 + 16)), (y209), (wrap64 (x12_1 + 1)), (by first | rfl | (simp; done) | (simp [*]; done)), (by first | rfl | (simp; done) | (simp [*]; done)), H', ⟨by have := HK1.out; have := HJ10.out; omega⟩, ⟨by (with_reducible repeat (first | apply Kd.R_alloc | apply Kd.R_drewN | apply Kd.R_drew)); exact HO211.out⟩, ⟨by repeat (first | (with_reducible first | exact HB.out | apply below_alloc | apply pw_below_drewN | apply below_drew1) | exact HB.out)⟩⟩
                 ·rw [if_neg c55] at H
                  exact absurd H (by simp)
                ·rw [if_neg c54] at H
                 exact absurd H (by simp)
               ·rw [if_neg c53] at H
                exact absurd H (by simp)
              ·rw [if_neg c52] at H
               exact absurd H (by simp)
            ·rw [if_neg c50] at H
             have c50b0 : ((bt t192 x12_1) == 104) = false := beq_eq_false_iff_ne.mpr c50
             have c50b1 : ((bt t192 x12_1) != 104) = true := bne_iff_ne.mpr c50
             by_cases c57 : 0 ≤ x12_1
             ·rw [if_pos c57] at H
              have c57b0 : decide (0 ≤ x12_1) = true := decide_eq_true c57
              clear c57
              by_cases c58 : x12_1 < (t192.size : Int)
              ·rw [if_pos c58] at H
               have c58b0 : decide (x12_1 < (t192.size : Int)) = true := decide_eq_true c58
               clear c58
               by_cases c60 : (wrap64 (x1_1 + (wrap64 ((wrap64 (bt t192 x12_1)) - 48)))) > a2
               ·rw [if_pos c60] at H
                have c60b0 : decide (a2 < (wrap64 (x1_1 + (wrap64 ((wrap64 (bt t192 x12_1)) - 48))))) = true := decide_eq_true c60
                clear c60
                simp only [Option.some.injEq, Prod.mk.injEq] at H
                obtain ⟨rfl, rfl⟩ := H
                have p59 : 0 ≤ (x12_1 : Int) := of_decide_eq_true (by first | (with_reducible assumption) | assumption)
                have q59 : x12_1 < (t192.size : Int) := of_decide_eq_true (by first | (with_reducible assumption) | assumption)
                have hx59 := bt_at t192 x12_1
                replace p59 := eq_true p59
                replace q59 := eq_true q59
                go_wp2
                go_ret2
                exact ⟨_, by first | rfl | (simp [errW_none, errW_some] <;> rfl) | (simp [*, errW_none, errW_some] <;> rfl), by first | exact Kd.R_nil _ _ _ _ _ | exact Kd.N_nil _ _ _ _ _ | exact Kd.V_nil _ _ _ _ _ | exact Kd.Q_nil _ _ _ _ _ | exact Kd.S_nil _ _ _ _ _, by repeat (first | (with_reducible first | exact HB.out | apply below_alloc | apply pw_below_drewN | apply below_drew1) | exact HB.out)⟩
               ·rw [if_neg c60] at H
                have c60b0 : decide (a2 < (wrap64 (x1_1 + (wrap64 ((wrap64 (bt t192 x12_1)) - 48))))) = false := decide_eq_false c60
                clear c60
                by_cases c61 : 0 ≤ x1_1
                ·rw [if_pos c61] at H
                 have c61b0 := eq_true c61
                 have c61b1 : decide (0 ≤ x1_1) = true := decide_eq_true c61
                 clear c61
                 by_cases c62 : x1_1 ≤ (wrap64 (x1_1 + (wrap64 ((wrap64 (bt t192 x12_1)) - 48))))
                 ·rw [if_pos c62] at H
                  have c62b0 := eq_true c62
                  have c62b1 : decide (x1_1 ≤ (wrap64 (x1_1 + (wrap64 ((wrap64 (bt t192 x12_1)) - 48))))) = true := decide_eq_true c62
                  by_cases c63 : (wrap64 (x1_1 + (wrap64 ((wrap64 (bt t192 x12_1)) - 48)))) ≤ ((a0.extract 0 (a2 : Int).toNat).size : Int)
                  ·rw [if_pos c63] at H
                   have c63b0 := eq_true c63
                   have c63b1 : decide ((wrap64 (x1_1 + (wrap64 ((wrap64 (bt t192 x12_1)) - 48)))) ≤ ((a0.extract 0 (a2 : Int).toNat).size : Int)) = true := decide_eq_true c63
                   try have c63b1v := c63b1
                   try simp only [ByteArray.size_extract, Nat.sub_zero] at c63b1v
                   try have c63b1w := eq_true (of_decide_eq_true c63b1v)
                   by_cases c64 : x10_1.length < 8796093022208
                   ·rw [if_pos c64] at H
                    have LMc64 := Aside0.mk c64
                    clear c64
                    obtain ⟨y212, hy212⟩ : ∃ y_ : List ByteArray, y_ = (x10_1 ++ [(a0.extract 0 (a2 : Int).toNat).extract (x1_1 : Int).toNat ((wrap64 (x1_1 + (wrap64 ((wrap64 (bt t192 x12_1)) - 48)))) : Int).toNat]) := ⟨_, rfl⟩
                    replace H : (beadrollref10_Read.l0 kj10 (a0.extract 0 (a2 : Int).toNat) (wrap64 (x1_1 + (wrap64 ((wrap64 (bt t192 x12_1)) - 48)))) a2 y212 t192 (wrap64 (x12_1 + 1))) = some (r1, r2) := by first | (rw [hy212]; with_reducible exact H) | (have H2_ := (Option.bind_some _ _).symm.trans H; rw [hy212]; with_reducible exact H2_) | (have H2_ := (Option.bind_some _ _).symm.trans H; with_reducible exact H2_) | with_reducible exact H | (rw [hy212]; exact H) | exact H
                    have Ny212 := Aside0.mk hy212
                    clear hy212
                    have H' := Aside0.mk H
                    clear H
                    have p59 : 0 ≤ (x12_1 : Int) := of_decide_eq_true (by first | (with_reducible assumption) | assumption)
                    have q59 : x12_1 < (t192.size : Int) := of_decide_eq_true (by first | (with_reducible assumption) | assumption)
                    have hx59 := bt_at t192 x12_1
                    replace p59 := eq_true p59
                    replace q59 := eq_true q59
                    go_wp2_with (first | ((with_reducible refine gate_builtin (b := .append) (xs := #[.tmp 100, .tmp 107]) rfl ?_); (try (refine gate_guard (by rfl) ?_; dsimp only)); at_builtin; refine Kd.R_append Kd.string (w0 := w) w.heap.size rfl (.tmp 100) (.tmp 107) 52 9 (.string ⟨#[]⟩) 16 rfl Try.underlying52 info9 rfl (by decide) (by omega) u10 x10_1 ((a0.extract 0 (a2 : Int).toNat).extract (x1_1 : Int).toNat ((wrap64 (x1_1 + (wrap64 ((wrap64 (bt t192 x12_1)) - 48)))) : Int).toNat) [.string ((a0.extract 0 (a2 : Int).toNat).extract (x1_1 : Int).toNat ((wrap64 (x1_1 + (wrap64 ((wrap64 (bt t192 x12_1)) - 48)))) : Int).toNat)] (fun _ => True) (fun _ => False) rfl rfl ?aP (fun _ hk => hk.elim) ?aF ?aO ?aB ?aS ?aL ?_; (case aP => exact rfl); (case aB => exact (by repeat (first | (with_reducible first | exact HB.out | apply below_alloc | apply pw_below_drewN | apply below_drew1) | exact HB.out))); (case aF => exact (fun _ _ => trivial)); (case aO => exact (by (with_reducible repeat (first | apply Kd.R_alloc | apply Kd.R_drewN | apply Kd.R_drew)); exact HO_10.out)); (case aS => exact (below_size (by repeat (first | (with_reducible first | exact HB.out | apply below_alloc | apply pw_below_drewN | apply below_drew1) | exact HB.out)))); (case aL => have := LMc64.out; omega); intro v213 w65 ho hb hg hat; rw [← Ny212.out] at ho; have n0_ := Aside0.mk (hb); have n1_ := Aside0.mk (ho); clear HB; clear HO_10; have HB := n0_; have HO214 := n1_; clear n0_ n1_; clear ho hb hg hat))
                    go_roundg kj10
                    case measure => have := HK1.out; have := HJ10.out; omega
                    case rel => exact ⟨(wrap64 (x1_1 + (wrap64 ((wrap64 (bt t192 x12_1)) - 48)))), (y212), (wrap64 (x12_1 + 1)), (by first | rfl | (simp; done) | (simp [*]; done)), (by first | rfl | (simp; done) | (simp [*]; done)), H', ⟨by have := HK1.out; have := HJ10.out; omega⟩, ⟨by (with_reducible repeat (first | apply Kd.R_alloc | apply Kd.R_drewN | apply Kd.R_drew)); exact HO214.out⟩, ⟨by repeat (first | (with_reducible first | exact HB.out | apply below_alloc | apply pw_below_drewN | apply below_drew1) | exact HB.out)⟩⟩
                   ·rw [if_neg c64] at H
                    exact absurd H (by simp)
                  ·rw [if_neg c63] at H
                   exact absurd H (by simp)
                 ·rw [if_neg c62] at H
                  exact absurd H (by simp)
                ·rw [if_neg c61] at H
                 exact absurd H (by simp)
              ·rw [if_neg c58] at H
               exact absurd H (by simp)
             ·rw [if_neg c57] at H
              exact absurd H (by simp)
      ·rw [if_neg c9] at H
       exact absurd H (by simp)
     ·rw [if_neg c8] at H
      have c8b0 : decide (x12_1 < (t192.size : Int)) = false := decide_eq_false c8
      clear c8
      simp only [Option.some.injEq, Prod.mk.injEq] at H
      obtain ⟨rfl, rfl⟩ := H
      go_wp2
      go_ret2
      exact ⟨_, by first | rfl | (simp [errW_none, errW_some] <;> rfl) | (simp [*, errW_none, errW_some] <;> rfl), by (with_reducible repeat (first | apply Kd.R_alloc | apply Kd.R_drewN | apply Kd.R_drew)); exact HO_10.out, by repeat (first | (with_reducible first | exact HB.out | apply below_alloc | apply pw_below_drewN | apply below_drew1) | exact HB.out)⟩
  ·rw [if_neg c7] at H
   exact absurd H (by simp)
 ·rw [if_neg c6] at H
  exact absurd H (by simp)
end Go.Proofs.Ytnpiglojamhpiaa.PRd
