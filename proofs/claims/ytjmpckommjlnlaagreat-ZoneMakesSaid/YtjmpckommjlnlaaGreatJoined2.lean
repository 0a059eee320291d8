/- Contracts and facts that the claim's row is drawn from, each with its own conditions. -/
import Derived.Test.YtjmpckommjlnlaaGreatJoined1
namespace Go.Proofs.YtjmpckommjlnlaaGreat.PRd
open Go.RowKit Go.Proofs.YtjmpckommjlnlaaGreatW.PrintWords Go.Proofs.YtjmpckommjlnlaaGreatW.PrintLast Go.Proofs.YtjmpckommjlnlaaGreatW.PrintMore Go.Proofs.YtjmpckommjlnlaaGreat.Given
attribute [local go_sem] max2_int min2_int max_two min_two max_three min_three max_four min_four   -- for this text's walks alone
set_option linter.unusedVariables false
set_option linter.unusedSimpArgs false
mutual
def beadrollref07_Labels.l0 : Nat → ByteArray → List ByteArray → Int → Option (List ByteArray × Bool)
 | 0, _, _, _ => none
 | k + 1, x0, x4, x5 => if x5 < (x0.size : Int) then (if 0 ≤ x5 then (beadrollref07_Labels.j1 k x0 x4 x5 (decide ((bt x0 x5) > 0))) else (none)) else (beadrollref07_Labels.j1 k x0 x4 x5 false)
def beadrollref07_Labels.j1 : Nat → ByteArray → List ByteArray → Int → Bool → Option (List ByteArray × Bool)
 | 0, _, _, _, _ => none
 | k + 1, x0, x4, x5, x19 => if x19 = true then (if 0 ≤ x5 then (if x5 < (x0.size : Int) then (if (wrap64 (bt x0 x5)) > 63 then (some (([] : List ByteArray), false)) else (if (wrap64 ((wrap64 (x5 + 1)) + (wrap64 (bt x0 x5)))) > (x0.size : Int) then (some (([] : List ByteArray), false)) else (if 0 ≤ (wrap64 (x5 + 1)) then (if (wrap64 (x5 + 1)) ≤ (wrap64 ((wrap64 (x5 + 1)) + (wrap64 (bt x0 x5)))) then (if (wrap64 ((wrap64 (x5 + 1)) + (wrap64 (bt x0 x5)))) ≤ (x0.size : Int) then (if x4.length < 8796093022208 then (beadrollref07_Labels.l0 k x0 (x4 ++ [x0.extract ((wrap64 (x5 + 1)) : Int).toNat ((wrap64 ((wrap64 (x5 + 1)) + (wrap64 (bt x0 x5)))) : Int).toNat]) (wrap64 (x5 + (wrap64 (1 + (wrap64 (bt x0 x5))))))) else (none)) else (none)) else (none)) else (none)))) else (none)) else (none)) else (if x5 = (wrap64 ((x0.size : Int) - 1)) then (if 0 ≤ x5 then (if x5 < (x0.size : Int) then (some (x4, ((bt x0 x5) == 0))) else (none)) else (none)) else (some (x4, false)))
end
def beadrollref07_Labels.f (k : Nat) (a0 : ByteArray) : Option (List ByteArray × Bool) := if (a0.size : Int) > 255 then (some (([] : List ByteArray), false)) else (beadrollref07_Labels.l0 k a0 ([] : List ByteArray) 0)
set_option maxHeartbeats 8000000 in
set_option maxRecDepth 100000 in
theorem beadrollref07_Labels.calls (k : Nat) (a0 : ByteArray) (r1 : List ByteArray) (r2 : Bool) (w : World) (h : beadrollref07_Labels.f k a0 = some (r1, r2)) :
    Calls Tryz.prog 115 #[.string a0] w fun e w' => ∃ v0_ : Value, e = .returned (.tuple #[v0_, .bool r2]) ∧ Kd.R Kd.string 9 w' w.heap.size (fun _ => True) v0_ r1 ∧ Below w.heap.size w w' := by
  have HB := Aside0.mk (Below.refl w.heap.size w)
  have H : (if (a0.size : Int) > 255 then (some (([] : List ByteArray), false)) else (beadrollref07_Labels.l0 k a0 ([] : List ByteArray) 0)) = some (r1, r2) := h
  clear h
  by_cases c2 : (a0.size : Int) > 255
  focus
   rw [if_pos c2] at H
   have c2b0 : decide (255 < (a0.size : Int)) = true := decide_eq_true c2
   have c2b1 : decide (255 < a0.size) = true := decide_eq_true (by omega)
   clear c2
   simp only [Option.some.injEq, Prod.mk.injEq] at H
   obtain ⟨rfl, rfl⟩ := H
  rotate_left
  focus
   rw [if_neg c2] at H
   have c2b0 : decide (255 < (a0.size : Int)) = false := decide_eq_false c2
   have c2b1 : decide (255 < a0.size) = false := decide_eq_false (by omega)
   clear c2
   have H' := Aside0.mk H
   clear H
  rotate_left
  all_goals
   go_enter Tryz.func115, Tryz.ntmps115
   go_wp2
   repeat (go_quiet (fail); try go_wp2)
  ·go_ret2
   exact ⟨_, by rfl, by (exact Kd.R_nil _ _ _ _ _), HB.out⟩
  ·go_loopg [4, 5] k (fun kq v4 v5 w' => ∃ (x4_1 : List ByteArray) (x5_1 : Int), v5 = .int .i64 x5_1 ∧ Aside0 (beadrollref07_Labels.l0 kq a0 x4_1 x5_1 = some (r1, r2)) ∧ Aside0 (kq ≤ k) ∧ Aside0 (Kd.R Kd.string 9 w' w.heap.size (fun _ => True) v4 x4_1) ∧ Aside0 (Below w.heap.size w w'))
   case atStart => exact ⟨(([] : List ByteArray)), (0), (by rfl), H', ⟨Nat.le_refl _⟩, ⟨by (exact Kd.R_nil _ _ _ _ _)⟩, ⟨HB.out⟩⟩
   case round =>
    clear H'
    (try clear c2b0)
    (try clear c2b1)
    obtain ⟨x4_1, x5_1, rfl, HA, HK1, HO_4, HB⟩ := hrel
    cases gk with
    | zero => exact absurd HA.out (by simp [beadrollref07_Labels.l0])
    | succ k1 =>
     have H := HA.out
     clear HA
     simp only [beadrollref07_Labels.l0] at H
     have HC3 := Aside0.mk H
     clear H
     go_upto_region 5 with (fail)
     repeat (go_quiet (fail); go_upto_region 5 with (fail))
     go_cut [19] (fun v19 wc => ∃ (kq : Nat) (x19_2 : Bool), v19 = .bool x19_2 ∧ Aside0 (beadrollref07_Labels.j1 kq a0 x4_1 x5_1 x19_2 = some (r1, r2)) ∧ Aside0 (kq ≤ k1) ∧ Aside0 (Kd.R Kd.string 9 wc w.heap.size (fun _ => True) u4 x4_1) ∧ Aside0 (Below w.heap.size w wc))
     case first =>
      have H := HC3.out
      clear HC3
      by_cases c4 : x5_1 < (a0.size : Int)
      focus
       rw [if_pos c4] at H
       have c4b0 : decide (x5_1 < (a0.size : Int)) = true := decide_eq_true c4
      rotate_left
      focus
       rw [if_neg c4] at H
       have c4b0 : decide (x5_1 < (a0.size : Int)) = false := decide_eq_false c4
      rotate_left
      all_goals
       clear c4
       (skip)
      ·obtain ⟨c5b0, H⟩ := gdd_ H
       have H' := Aside0.mk H
       clear H
       have p6 : 0 ≤ (x5_1 : Int) := of_decide_eq_true (by assumption)
       have q6 : x5_1 < (a0.size : Int) := of_decide_eq_true (by assumption)
       have hx6 := bt_at a0 x5_1
       replace p6 := eq_true p6
       replace q6 := eq_true q6
       go_wp2
       repeat (go_quiet (fail); try go_wp2)
       go_meet
       case rel => exact ⟨_, (decide ((bt a0 x5_1) > 0)), (by rfl), H', ⟨by have := HK1.out; omega⟩, ⟨by (with_reducible repeat ((apply Kd.R_alloc))); exact HO_4.out⟩, ⟨HB.out⟩⟩
      ·have H' := Aside0.mk H
       clear H
       go_wp2
       repeat (go_quiet (fail); try go_wp2)
       go_meet
       case rel => exact ⟨_, (false), (by rfl), H', ⟨by have := HK1.out; omega⟩, ⟨by (with_reducible repeat ((apply Kd.R_alloc))); exact HO_4.out⟩, ⟨HB.out⟩⟩
     case rest =>
      clear HC3
      obtain ⟨kq, x19_2, rfl, HA, HJ2, HO_4, HB⟩ := hcut
      cases kq with
      | zero => exact absurd HA.out (by simp [beadrollref07_Labels.j1])
      | succ kj2 =>
       have H := HA.out
       clear HA
       simp only [beadrollref07_Labels.j1] at H
       by_cases c7 : x19_2 = true
       ·subst c7
        rw [if_pos rfl] at H
        obtain ⟨c8b0, H⟩ := gdd_ H
        obtain ⟨c9b0, H⟩ := gdd_ H
        by_cases c11 : (wrap64 (bt a0 x5_1)) > 63
        focus
         rw [if_pos c11] at H
         have c11b0 : decide (63 < (wrap64 (bt a0 x5_1))) = true := decide_eq_true c11
         clear c11
         simp only [Option.some.injEq, Prod.mk.injEq] at H
         obtain ⟨rfl, rfl⟩ := H
        rotate_left
        focus
         rw [if_neg c11] at H
         have c11b0 : decide (63 < (wrap64 (bt a0 x5_1))) = false := decide_eq_false c11
         clear c11
         by_cases c12 : (wrap64 ((wrap64 (x5_1 + 1)) + (wrap64 (bt a0 x5_1)))) > (a0.size : Int)
         focus
          rw [if_pos c12] at H
          have c12b0 : decide ((a0.size : Int) < (wrap64 ((wrap64 (x5_1 + 1)) + (wrap64 (bt a0 x5_1))))) = true := decide_eq_true c12
          clear c12
          simp only [Option.some.injEq, Prod.mk.injEq] at H
          obtain ⟨rfl, rfl⟩ := H
         rotate_left
         focus
          rw [if_neg c12] at H
          have c12b0 : decide ((a0.size : Int) < (wrap64 ((wrap64 (x5_1 + 1)) + (wrap64 (bt a0 x5_1))))) = false := decide_eq_false c12
          clear c12
          obtain ⟨ji13, hji13⟩ : ∃ j_ : Int, (wrap64 (x5_1 + 1)) = j_ := ⟨_, rfl⟩
          rw [hji13] at H
          (try rw [hji13] at c12b0)
          have hji13w : (IntKind.i64.wrap (x5_1 + 1)) = ji13 := (i64_w _).trans hji13
          obtain ⟨c14, H⟩ := gd_ H
          have c14b0 := eq_true c14
          have c14b1 : decide (0 ≤ (ji13)) = true := decide_eq_true c14
          clear c14
          obtain ⟨c15, H⟩ := gd_ H
          have c15b0 := eq_true c15
          have c15b1 : decide ((ji13) ≤ (wrap64 ((ji13) + (wrap64 (bt a0 x5_1))))) = true := decide_eq_true c15
          obtain ⟨c16, H⟩ := gd_ H
          have c16b0 := eq_true c16
          have c16b1 : decide ((wrap64 ((ji13) + (wrap64 (bt a0 x5_1)))) ≤ (a0.size : Int)) = true := decide_eq_true c16
          obtain ⟨c17, H⟩ := gd_ H
          have LMc17 := Aside0.mk c17
          clear c17
          obtain ⟨y210, hy210⟩ : ∃ y_ : List ByteArray, y_ = (x4_1 ++ [a0.extract ((ji13) : Int).toNat ((wrap64 ((ji13) + (wrap64 (bt a0 x5_1)))) : Int).toNat]) := ⟨_, rfl⟩
          replace H : (beadrollref07_Labels.l0 kj2 a0 y210 (wrap64 (x5_1 + (wrap64 (1 + (wrap64 (bt a0 x5_1))))))) = some (r1, r2) := by (rw [hy210]; with_reducible exact H)
          have Ny210 := Aside0.mk hy210
          clear hy210
          have H' := Aside0.mk H
          clear H
         rotate_left
        rotate_left 2
        all_goals
         have p10 : 0 ≤ (x5_1 : Int) := of_decide_eq_true (by assumption)
         have q10 : x5_1 < (a0.size : Int) := of_decide_eq_true (by assumption)
         have hx10 := bt_at a0 x5_1
         replace p10 := eq_true p10
         replace q10 := eq_true q10
        ·go_wp2
         repeat (go_quiet (fail); try go_wp2)
         go_ret2
         exact ⟨_, by rfl, by (exact Kd.R_nil _ _ _ _ _), HB.out⟩
        ·go_wp2
         repeat (go_quiet (fail); try go_wp2)
         go_ret2
         exact ⟨_, by rfl, by (exact Kd.R_nil _ _ _ _ _), HB.out⟩
        ·go_wp2_with ((((with_reducible refine gate_builtin (b := .append) (xs := #[.tmp 35, .tmp 44]) rfl ?_); (try (refine gate_guard (by rfl) ?_; dsimp only)); at_builtin; refine Kd.R_append Kd.string (w0 := w) w.heap.size rfl (.tmp 35) (.tmp 44) 45 9 (.string ⟨#[]⟩) 16 rfl Tryz.underlying45 info9 rfl (by decide) (by omega) u4 x4_1 (a0.extract ((ji13) : Int).toNat ((wrap64 ((ji13) + (wrap64 (bt a0 x5_1)))) : Int).toNat) [.string (a0.extract ((ji13) : Int).toNat ((wrap64 ((ji13) + (wrap64 (bt a0 x5_1)))) : Int).toNat)] (fun _ => True) (fun _ => False) rfl rfl ?aP (fun _ hk => hk.elim) ?aF ?aO ?aB ?aS ?aL ?_; (case aP => exact rfl); (case aB => exact HB.out); (case aF => exact (fun _ _ => trivial)); (case aO => exact (by ((exact HO_4.out)))); (case aS => exact (below_size HB.out)); (case aL => have := LMc17.out; omega); intro v211 w18 ho hb hg hat; rw [← Ny210.out] at ho; have n0_ := Aside0.mk (hb); have n1_ := Aside0.mk (ho); clear HB; clear HO_4; have HB := n0_; have HO212 := n1_; clear n0_ n1_; clear ho hb hg hat)))
         repeat (go_quiet ((((with_reducible refine gate_builtin (b := .append) (xs := #[.tmp 35, .tmp 44]) rfl ?_); at_builtin; refine Kd.R_append Kd.string (w0 := w) w.heap.size rfl (.tmp 35) (.tmp 44) 45 9 (.string ⟨#[]⟩) 16 rfl Tryz.underlying45 info9 rfl (by decide) (by omega) u4 x4_1 (a0.extract ((ji13) : Int).toNat ((wrap64 ((ji13) + (wrap64 (bt a0 x5_1)))) : Int).toNat) [.string (a0.extract ((ji13) : Int).toNat ((wrap64 ((ji13) + (wrap64 (bt a0 x5_1)))) : Int).toNat)] (fun _ => True) (fun _ => False) rfl rfl ?aP (fun _ hk => hk.elim) ?aF ?aO ?aB ?aS ?aL ?_; (case aP => exact rfl); (case aB => exact HB.out); (case aF => exact (fun _ _ => trivial)); (case aO => exact (by ((exact HO_4.out)))); (case aS => exact (below_size HB.out)); (case aL => have := LMc17.out; omega); intro v211 w18 ho hb hg hat; rw [← Ny210.out] at ho; have n0_ := Aside0.mk (hb); have n1_ := Aside0.mk (ho); clear HB; clear HO_4; have HB := n0_; have HO212 := n1_; clear n0_ n1_; clear ho hb hg hat))); try go_wp2_with ((((with_reducible refine gate_builtin (b := .append) (xs := #[.tmp 35, .tmp 44]) rfl ?_); at_builtin; refine Kd.R_append Kd.string (w0 := w) w.heap.size rfl (.tmp 35) (.tmp 44) 45 9 (.string ⟨#[]⟩) 16 rfl Tryz.underlying45 info9 rfl (by decide) (by omega) u4 x4_1 (a0.extract ((ji13) : Int).toNat ((wrap64 ((ji13) + (wrap64 (bt a0 x5_1)))) : Int).toNat) [.string (a0.extract ((ji13) : Int).toNat ((wrap64 ((ji13) + (wrap64 (bt a0 x5_1)))) : Int).toNat)] (fun _ => True) (fun _ => False) rfl rfl ?aP (fun _ hk => hk.elim) ?aF ?aO ?aB ?aS ?aL ?_; (case aP => exact rfl); (case aB => exact HB.out); (case aF => exact (fun _ _ => trivial)); (case aO => exact (by ((exact HO_4.out)))); (case aS => exact (below_size HB.out)); (case aL => have := LMc17.out; omega); intro v211 w18 ho hb hg hat; rw [← Ny210.out] at ho; have n0_ := Aside0.mk (hb); have n1_ := Aside0.mk (ho); clear HB; clear HO_4; have HB := n0_; have HO212 := n1_; clear n0_ n1_; clear ho hb hg hat))))
         go_roundg kj2
         case measure => have := HK1.out; have := HJ2.out; omega
         case rel => exact ⟨(y210), (wrap64 (x5_1 + (wrap64 (1 + (wrap64 (bt a0 x5_1)))))), (by rfl), H', ⟨by have := HK1.out; have := HJ2.out; omega⟩, ⟨by (with_reducible repeat ((apply Kd.R_alloc))); exact HO212.out⟩, ⟨HB.out⟩⟩
       ·replace c7 := Bool.eq_false_iff.mpr c7
        subst c7
        rw [if_neg ff_] at H
        by_cases c19 : x5_1 = (wrap64 ((a0.size : Int) - 1))
        focus
         rw [if_pos c19] at H
         have c19b0 : (x5_1 == (wrap64 ((a0.size : Int) - 1))) = true := beq_iff_eq.mpr c19
         have c19b1 : (x5_1 != (wrap64 ((a0.size : Int) - 1))) = false := bne_eq_false_iff_eq.mpr c19
         clear c19
         obtain ⟨c20b0, H⟩ := gdd_ H
         obtain ⟨c21b0, H⟩ := gdd_ H
        rotate_left
        focus
         rw [if_neg c19] at H
         have c19b0 : (x5_1 == (wrap64 ((a0.size : Int) - 1))) = false := beq_eq_false_iff_ne.mpr c19
         have c19b1 : (x5_1 != (wrap64 ((a0.size : Int) - 1))) = true := bne_iff_ne.mpr c19
        rotate_left
        all_goals
         simp only [Option.some.injEq, Prod.mk.injEq] at H
         obtain ⟨rfl, rfl⟩ := H
        focus
         have p22 : 0 ≤ (x5_1 : Int) := of_decide_eq_true (by assumption)
         have q22 : x5_1 < (a0.size : Int) := of_decide_eq_true (by assumption)
         have hx22 := bt_at a0 x5_1
         replace p22 := eq_true p22
         replace q22 := eq_true q22
        rotate_left
        rotate_left
        all_goals
         go_wp2
         repeat (go_quiet (fail); try go_wp2)
         go_ret2
         exact ⟨_, by rfl, by (with_reducible repeat ((apply Kd.R_drewN))); exact HO_4.out, by repeat ((with_reducible first | exact HB.out | apply pw_below_drewN))⟩
def beadrollref07_Right.f (k : Nat) (a0 : ByteArray) : Option (Bool) := (beadrollref07_Labels.f k a0).bind fun bt213 => (some bt213.2)
set_option maxHeartbeats 8000000 in
set_option maxRecDepth 100000 in
theorem beadrollref07_Right.calls (k : Nat) (a0 : ByteArray) (r : Bool) (w : World) (h : beadrollref07_Right.f k a0 = some r) :
  Calls Tryz.prog 67 #[.string a0] w fun e w' => e = .returned (.bool r) ∧ Below w.heap.size w w' := by
 have HB := Aside0.mk (Below.refl w.heap.size w)
 have H : ((beadrollref07_Labels.f k a0).bind fun bt213 => (some bt213.2)) = some r := h
 clear h
 replace H := Option.bind_eq_some_iff.mp H
 obtain ⟨⟨t213, t214⟩, A20, H⟩ := H
 replace H : (some t214) = some r := H
 have A2 := Aside0.mk A20
 clear A20
 obtain rfl := Option.some.inj H
 go_enter Tryz.func67, Tryz.ntmps67
 go_wp2_with ((((with_reducible refine gate_callee (f := 115) rfl ?_); refine goesL_ (some 7) rfl rfl Tryz.func115 (by kernel_rfl) rfl #[.string a0] rfl (by (try simp only [mA_, mC_, mN_]); rfl) ?_; (with_reducible refine (beadrollref07_Labels.calls k a0 t213 t214 _ A2.out).mono ?_); rintro e w3 ⟨v215, rfl, ho0, hb⟩; refine ⟨_, rfl, ?_⟩; have HO216 := Aside0.mk (Kd.R_lower ho0 (below_size HB.out)); replace HB := Aside0.mk (below_step HB.out hb); (try clear hb); (try clear ho0))))
 go_ret
 exact ⟨by rfl, HB.out⟩
mutual
def beadrollref09_Read.j0 : Nat → ByteArray → Int → Bool → Option (ByteArray × Int × Int)
 | 0, _, _, _ => none
 | k + 1, x0, x1, x19 => if x19 = true then (some ((⟨#[]⟩ : ByteArray), 0, 1)) else (beadrollref09_Read.l0 k x0 x1 (⟨#[]⟩ : ByteArray) (-1) x1)
def beadrollref09_Read.l0 : Nat → ByteArray → Int → ByteArray → Int → Int → Option (ByteArray × Int × Int)
 | 0, _, _, _, _, _ => none
 | k + 1, x0, x1, x7, x8, x9 => if x1 < (x0.size : Int) then (beadrollref09_Read.j2 k x0 x1 x7 x8 x9 (decide ((x7.size : Int) < 300))) else (beadrollref09_Read.j2 k x0 x1 x7 x8 x9 false)
def beadrollref09_Read.j2 : Nat → ByteArray → Int → ByteArray → Int → Int → Bool → Option (ByteArray × Int × Int)
 | 0, _, _, _, _, _, _ => none
 | k + 1, x0, x1, x7, x8, x9, x29 => if x29 = true then (if 0 ≤ x1 then (if x1 < (x0.size : Int) then (if (wrap64 (bt x0 x1)) = 0 then (if x7.size + 1 ≤ 9223372036854775807 then (if x8 < 0 then ((beadrollref07_Right.f k (x7 ++ (⟨#[0]⟩ : ByteArray))).bind fun t217 => (if t217 = true then (some (x7 ++ (⟨#[0]⟩ : ByteArray), wrap64 (x1 + 1), 0)) else (some ((⟨#[]⟩ : ByteArray), 0, 2)))) else ((beadrollref07_Right.f k (x7 ++ (⟨#[0]⟩ : ByteArray))).bind fun t218 => (if t218 = true then (some (x7 ++ (⟨#[0]⟩ : ByteArray), x8, 0)) else (some ((⟨#[]⟩ : ByteArray), 0, 2))))) else (none)) else (if (wrap64 (bt x0 x1)) ≥ 192 then (if (wrap64 (x1 + 1)) ≥ (x0.size : Int) then (some ((⟨#[]⟩ : ByteArray), 0, 2)) else (if 0 ≤ (wrap64 (x1 + 1)) then (if (wrap64 (x1 + 1)) < (x0.size : Int) then (if (wrap64 ((wrap64 ((wrap64 ((wrap64 (bt x0 x1)) - 192)) * 256)) + (wrap64 (bt x0 (wrap64 (x1 + 1)))))) ≥ x9 then (some ((⟨#[]⟩ : ByteArray), 0, 2)) else (if x8 < 0 then (beadrollref09_Read.l0 k x0 (wrap64 ((wrap64 ((wrap64 ((wrap64 (bt x0 x1)) - 192)) * 256)) + (wrap64 (bt x0 (wrap64 (x1 + 1)))))) x7 (wrap64 (x1 + 2)) (wrap64 ((wrap64 ((wrap64 ((wrap64 (bt x0 x1)) - 192)) * 256)) + (wrap64 (bt x0 (wrap64 (x1 + 1))))))) else (beadrollref09_Read.l0 k x0 (wrap64 ((wrap64 ((wrap64 ((wrap64 (bt x0 x1)) - 192)) * 256)) + (wrap64 (bt x0 (wrap64 (x1 + 1)))))) x7 x8 (wrap64 ((wrap64 ((wrap64 ((wrap64 (bt x0 x1)) - 192)) * 256)) + (wrap64 (bt x0 (wrap64 (x1 + 1))))))))) else (none)) else (none))) else (if (wrap64 (bt x0 x1)) ≥ 64 then (some ((⟨#[]⟩ : ByteArray), 0, 2)) else (if (wrap64 ((wrap64 (x1 + 1)) + (wrap64 (bt x0 x1)))) > (x0.size : Int) then (some ((⟨#[]⟩ : ByteArray), 0, 2)) else (if x1 ≤ (wrap64 ((wrap64 (x1 + 1)) + (wrap64 (bt x0 x1)))) then (if (wrap64 ((wrap64 (x1 + 1)) + (wrap64 (bt x0 x1)))) ≤ (x0.size : Int) then (if x7.size + (x0.extract (x1 : Int).toNat ((wrap64 ((wrap64 (x1 + 1)) + (wrap64 (bt x0 x1)))) : Int).toNat).size ≤ 9223372036854775807 then (beadrollref09_Read.l0 k x0 (wrap64 (x1 + (wrap64 (1 + (wrap64 (bt x0 x1)))))) (x7 ++ (x0.extract (x1 : Int).toNat ((wrap64 ((wrap64 (x1 + 1)) + (wrap64 (bt x0 x1)))) : Int).toNat)) x8 x9) else (none)) else (none)) else (none)))))) else (none)) else (none)) else (some ((⟨#[]⟩ : ByteArray), 0, 2))
end
def beadrollref09_Read.f (k : Nat) (a0 : ByteArray) (a1 : Int) : Option (ByteArray × Int × Int) := if a1 < 0 then (beadrollref09_Read.j0 k a0 a1 true) else (beadrollref09_Read.j0 k a0 a1 (decide (a1 > (a0.size : Int))))
set_option maxHeartbeats 8000000 in
set_option maxRecDepth 100000 in
theorem beadrollref09_Read.calls (k : Nat) (a0 : ByteArray) (a1 : Int) (r1 : ByteArray) (r2 : Int) (r3 : Int) (w : World) (h : beadrollref09_Read.f k a0 a1 = some (r1, r2, r3)) :
    Calls Tryz.prog 166 #[.string a0, .int .i64 a1] w fun e w' => e = .returned (.tuple #[.string r1, .int .i64 r2, .int .i64 r3]) ∧ Below w.heap.size w w' := by
  have HB := Aside0.mk (Below.refl w.heap.size w)
  have H : (if a1 < 0 then (beadrollref09_Read.j0 k a0 a1 true) else (beadrollref09_Read.j0 k a0 a1 (decide (a1 > (a0.size : Int))))) = some (r1, r2, r3) := h
  clear h
  have HC3 := Aside0.mk H
  clear H
  go_enter Tryz.func166, Tryz.ntmps166
  go_upto_region 1 with (fail)
  go_cut [19] (fun v19 wc => ∃ (kq : Nat) (x19_2 : Bool), v19 = .bool x19_2 ∧ Aside0 (beadrollref09_Read.j0 kq a0 a1 x19_2 = some (r1, r2, r3)) ∧ Aside0 (kq ≤ k) ∧ Aside0 (Below w.heap.size w wc))
  case first =>
   have H := HC3.out
   clear HC3
   by_cases c4 : a1 < 0
   focus
    rw [if_pos c4] at H
    have c4b0 : decide (a1 < 0) = true := decide_eq_true c4
   rotate_left
   focus
    rw [if_neg c4] at H
    have c4b0 : decide (a1 < 0) = false := decide_eq_false c4
   rotate_left
   all_goals
    clear c4
    (skip)
    have H' := Aside0.mk H
    clear H
    go_wp2
    go_meet
   ·case rel => exact ⟨_, (true), (by rfl), H', ⟨by omega⟩, ⟨HB.out⟩⟩
   ·case rel => exact ⟨_, (decide (a1 > (a0.size : Int))), (by rfl), H', ⟨by omega⟩, ⟨HB.out⟩⟩
  case rest =>
   clear HC3
   obtain ⟨kq, x19_2, rfl, HA, HJ2, HB⟩ := hcut
   cases kq with
   | zero => exact absurd HA.out (by simp [beadrollref09_Read.j0])
   | succ kj2 =>
    have H := HA.out
    clear HA
    simp only [beadrollref09_Read.j0] at H
    by_cases c5 : x19_2 = true
    ·subst c5
     rw [if_pos rfl] at H
     simp only [Option.some.injEq, Prod.mk.injEq] at H
     obtain ⟨rfl, rfl, rfl⟩ := H
     go_wp2
     go_ret3
     exact ⟨by rfl, HB.out⟩
    ·replace c5 := Bool.eq_false_iff.mpr c5
     subst c5
     rw [if_neg ff_] at H
     have H' := Aside0.mk H
     clear H
     go_wp2
     go_loopg [1, 7, 8, 9] kj2 (fun kq v1 v7 v8 v9 w' => ∃ (x1_2 : Int) (x7_2 : ByteArray) (x8_2 : Int) (x9_2 : Int), v1 = .int .i64 x1_2 ∧ v7 = .string x7_2 ∧ v8 = .int .i64 x8_2 ∧ v9 = .int .i64 x9_2 ∧ Aside0 (beadrollref09_Read.l0 kq a0 x1_2 x7_2 x8_2 x9_2 = some (r1, r2, r3)) ∧ Aside0 (kq ≤ kj2) ∧ Aside0 (Below w.heap.size w w'))
     case atStart => exact ⟨(a1), ((⟨#[]⟩ : ByteArray)), ((-1)), (a1), (by rfl), (by rfl), (by rfl), (by rfl), H', ⟨Nat.le_refl _⟩, ⟨HB.out⟩⟩
     case round =>
      clear H'
      obtain ⟨x1_2, x7_2, x8_2, x9_2, rfl, rfl, rfl, rfl, HA, HK2, HB⟩ := hrel
      cases gk with
      | zero => exact absurd HA.out (by simp [beadrollref09_Read.l0])
      | succ k2 =>
       have H := HA.out
       clear HA
       simp only [beadrollref09_Read.l0] at H
       have HC6 := Aside0.mk H
       clear H
       go_upto_region 6 with (fail)
       go_cut [29] (fun v29 wc => ∃ (kq : Nat) (x29_5 : Bool), v29 = .bool x29_5 ∧ Aside0 (beadrollref09_Read.j2 kq a0 x1_2 x7_2 x8_2 x9_2 x29_5 = some (r1, r2, r3)) ∧ Aside0 (kq ≤ k2) ∧ Aside0 (Below w.heap.size w wc))
       case first =>
        have H := HC6.out
        clear HC6
        by_cases c7 : x1_2 < (a0.size : Int)
        focus
         rw [if_pos c7] at H
         have c7b0 : decide (x1_2 < (a0.size : Int)) = true := decide_eq_true c7
        rotate_left
        focus
         rw [if_neg c7] at H
         have c7b0 : decide (x1_2 < (a0.size : Int)) = false := decide_eq_false c7
        rotate_left
        all_goals
         clear c7
         (skip)
         have H' := Aside0.mk H
         clear H
         go_wp2
         go_meet
        ·case rel => exact ⟨_, (decide ((x7_2.size : Int) < 300)), (by rfl), H', ⟨by have := HJ2.out; have := HK2.out; omega⟩, ⟨HB.out⟩⟩
        ·case rel => exact ⟨_, (false), (by rfl), H', ⟨by have := HJ2.out; have := HK2.out; omega⟩, ⟨HB.out⟩⟩
       case rest =>
        clear HC6
        obtain ⟨kq, x29_5, rfl, HA, HJ5, HB⟩ := hcut
        cases kq with
        | zero => exact absurd HA.out (by simp [beadrollref09_Read.j2])
        | succ kj5 =>
         have H := HA.out
         clear HA
         simp only [beadrollref09_Read.j2] at H
         by_cases c8 : x29_5 = true
         ·subst c8
          rw [if_pos rfl] at H
          obtain ⟨c9b0, H⟩ := gdd_ H
          obtain ⟨c10b0, H⟩ := gdd_ H
          by_cases c12 : (wrap64 (bt a0 x1_2)) = 0
          focus
           rw [if_pos c12] at H
           have c12b0 : ((wrap64 (bt a0 x1_2)) == 0) = true := beq_iff_eq.mpr c12
           have c12b1 : ((wrap64 (bt a0 x1_2)) != 0) = false := bne_eq_false_iff_eq.mpr c12
           clear c12
           obtain ⟨c13, H⟩ := gd_ H
           have c13b0 := eq_true c13
           have c13b1 : decide (x7_2.size + 1 ≤ 9223372036854775807) = true := decide_eq_true c13
           (try have c13b2 : (9223372036854775807 < x7_2.size + 1) = False := eq_false (Nat.not_lt.2 c13))
           by_cases c14 : x8_2 < 0
           focus
            rw [if_pos c14] at H
            have c14b0 : decide (x8_2 < 0) = true := decide_eq_true c14
            clear c14
            obtain ⟨t217, A15, H⟩ := bnd_ H
            by_cases c16 : t217 = true
            focus
             subst c16
             rw [if_pos rfl] at H
            rotate_left
            focus
             replace c16 := Bool.eq_false_iff.mpr c16
             subst c16
             rw [if_neg ff_] at H
            rotate_left
           rotate_left 2
           focus
            rw [if_neg c14] at H
            have c14b0 : decide (x8_2 < 0) = false := decide_eq_false c14
            clear c14
            obtain ⟨t218, A15, H⟩ := bnd_ H
            by_cases c20 : t218 = true
            focus
             subst c20
             rw [if_pos rfl] at H
            rotate_left
            focus
             replace c20 := Bool.eq_false_iff.mpr c20
             subst c20
             rw [if_neg ff_] at H
            rotate_left
           rotate_left 2
           all_goals
            simp only [Option.some.injEq, Prod.mk.injEq] at H
            obtain ⟨rfl, rfl, rfl⟩ := H
          rotate_left 4
          focus
           rw [if_neg c12] at H
           have c12b0 : ((wrap64 (bt a0 x1_2)) == 0) = false := beq_eq_false_iff_ne.mpr c12
           have c12b1 : ((wrap64 (bt a0 x1_2)) != 0) = true := bne_iff_ne.mpr c12
           by_cases c23 : (wrap64 (bt a0 x1_2)) ≥ 192
           focus
            rw [if_pos c23] at H
            have c23b0 : decide (192 ≤ (wrap64 (bt a0 x1_2))) = true := decide_eq_true c23
            clear c23
            by_cases c24 : (wrap64 (x1_2 + 1)) ≥ (a0.size : Int)
            focus
             rw [if_pos c24] at H
             have c24b0 : decide ((a0.size : Int) ≤ (wrap64 (x1_2 + 1))) = true := decide_eq_true c24
             clear c24
             simp only [Option.some.injEq, Prod.mk.injEq] at H
             obtain ⟨rfl, rfl, rfl⟩ := H
            rotate_left
            focus
             rw [if_neg c24] at H
             have c24b0 : decide ((a0.size : Int) ≤ (wrap64 (x1_2 + 1))) = false := decide_eq_false c24
             clear c24
             obtain ⟨ji25, hji25⟩ : ∃ j_ : Int, (wrap64 (x1_2 + 1)) = j_ := ⟨_, rfl⟩
             rw [hji25] at H
             (try rw [hji25] at c24b0)
             have hji25w : (IntKind.i64.wrap (x1_2 + 1)) = ji25 := (i64_w _).trans hji25
             obtain ⟨c26b0, H⟩ := gdd_ H
             obtain ⟨c27b0, H⟩ := gdd_ H
             by_cases c29 : (wrap64 ((wrap64 ((wrap64 ((wrap64 (bt a0 x1_2)) - 192)) * 256)) + (wrap64 (bt a0 (ji25))))) ≥ x9_2
             focus
              rw [if_pos c29] at H
              have c29b0 : decide (x9_2 ≤ (wrap64 ((wrap64 ((wrap64 ((wrap64 (bt a0 x1_2)) - 192)) * 256)) + (wrap64 (bt a0 (ji25)))))) = true := decide_eq_true c29
              clear c29
              simp only [Option.some.injEq, Prod.mk.injEq] at H
              obtain ⟨rfl, rfl, rfl⟩ := H
             rotate_left
             focus
              rw [if_neg c29] at H
              have c29b0 : decide (x9_2 ≤ (wrap64 ((wrap64 ((wrap64 ((wrap64 (bt a0 x1_2)) - 192)) * 256)) + (wrap64 (bt a0 (ji25)))))) = false := decide_eq_false c29
              clear c29
              by_cases c30 : x8_2 < 0
              focus
               rw [if_pos c30] at H
               have c30b0 : decide (x8_2 < 0) = true := decide_eq_true c30
              rotate_left
              focus
               rw [if_neg c30] at H
               have c30b0 : decide (x8_2 < 0) = false := decide_eq_false c30
              rotate_left
              all_goals
               clear c30
               have H' := Aside0.mk H
               clear H
             rotate_left 2
            rotate_left 3
           rotate_left 4
           focus
            rw [if_neg c23] at H
            have c23b0 : decide (192 ≤ (wrap64 (bt a0 x1_2))) = false := decide_eq_false c23
            clear c23
            by_cases c31 : (wrap64 (bt a0 x1_2)) ≥ 64
            focus
             rw [if_pos c31] at H
             have c31b0 : decide (64 ≤ (wrap64 (bt a0 x1_2))) = true := decide_eq_true c31
             clear c31
             simp only [Option.some.injEq, Prod.mk.injEq] at H
             obtain ⟨rfl, rfl, rfl⟩ := H
            rotate_left
            focus
             rw [if_neg c31] at H
             have c31b0 : decide (64 ≤ (wrap64 (bt a0 x1_2))) = false := decide_eq_false c31
             clear c31
             by_cases c32 : (wrap64 ((wrap64 (x1_2 + 1)) + (wrap64 (bt a0 x1_2)))) > (a0.size : Int)
             focus
              rw [if_pos c32] at H
              have c32b0 : decide ((a0.size : Int) < (wrap64 ((wrap64 (x1_2 + 1)) + (wrap64 (bt a0 x1_2))))) = true := decide_eq_true c32
              clear c32
              simp only [Option.some.injEq, Prod.mk.injEq] at H
              obtain ⟨rfl, rfl, rfl⟩ := H
             rotate_left
             focus
              rw [if_neg c32] at H
              have c32b0 : decide ((a0.size : Int) < (wrap64 ((wrap64 (x1_2 + 1)) + (wrap64 (bt a0 x1_2))))) = false := decide_eq_false c32
              clear c32
              have c33b0 := eq_true (of_decide_eq_true (by assumption) : 0 ≤ x1_2)
              obtain ⟨c34, H⟩ := gd_ H
              have c34b0 := eq_true c34
              have c34b1 : decide (x1_2 ≤ (wrap64 ((wrap64 (x1_2 + 1)) + (wrap64 (bt a0 x1_2))))) = true := decide_eq_true c34
              obtain ⟨c35, H⟩ := gd_ H
              have c35b0 := eq_true c35
              have c35b1 : decide ((wrap64 ((wrap64 (x1_2 + 1)) + (wrap64 (bt a0 x1_2)))) ≤ (a0.size : Int)) = true := decide_eq_true c35
              obtain ⟨c36, H⟩ := gd_ H
              have c36b0 := eq_true c36
              have c36b1 : decide (x7_2.size + (a0.extract (x1_2 : Int).toNat ((wrap64 ((wrap64 (x1_2 + 1)) + (wrap64 (bt a0 x1_2)))) : Int).toNat).size ≤ 9223372036854775807) = true := decide_eq_true c36
              (try have c36b2 : (9223372036854775807 < x7_2.size + (a0.extract (x1_2 : Int).toNat ((wrap64 ((wrap64 (x1_2 + 1)) + (wrap64 (bt a0 x1_2)))) : Int).toNat).size) = False := eq_false (Nat.not_lt.2 c36))
              have H' := Aside0.mk H
              clear H
             rotate_left
            rotate_left 2
           rotate_left 3
          rotate_left 7
          all_goals
           have p11 : 0 ≤ (x1_2 : Int) := of_decide_eq_true (by assumption)
           have q11 : x1_2 < (a0.size : Int) := of_decide_eq_true (by assumption)
           have hx11 := bt_at a0 x1_2
           replace p11 := eq_true p11
           replace q11 := eq_true q11
          iterate 4
           focus
            go_wp2_with ((((with_reducible refine gate_callee (f := 67) rfl ?_); refine goesL_ (some 43) rfl rfl Tryz.func67 (by kernel_rfl) rfl #[.string (x7_2 ++ (⟨#[0]⟩ : ByteArray))] rfl (by (try simp only [mA_, mC_, mN_]); rfl) ?_; (with_reducible refine (beadrollref07_Right.calls kj5 (x7_2 ++ (⟨#[0]⟩ : ByteArray)) _ _ A15.out).mono ?_); rintro e w17 ⟨rfl, hb⟩; refine ⟨_, rfl, ?_⟩; replace HB := Aside0.mk (below_step HB.out hb); (try clear hb))))
            go_ret3
            exact ⟨by rfl, HB.out⟩
          ·go_wp2
           go_ret3
           exact ⟨by rfl, HB.out⟩
          iterate 3
           focus
            have p28 : 0 ≤ ((ji25) : Int) := of_decide_eq_true (by assumption)
            have q28 : (ji25) < (a0.size : Int) := of_decide_eq_true (by assumption)
            have hx28 := bt_at a0 (ji25)
            replace p28 := eq_true p28
            replace q28 := eq_true q28
            go_wp2
           rotate_left
          rotate_left 3
          ·go_ret3
           exact ⟨by rfl, HB.out⟩
          iterate 2
           focus
            go_roundg kj5
            case measure => have := HJ2.out; have := HK2.out; have := HJ5.out; omega
           rotate_left
          rotate_left 3
          ·case rel => exact ⟨(wrap64 ((wrap64 ((wrap64 ((wrap64 (bt a0 x1_2)) - 192)) * 256)) + (wrap64 (bt a0 (ji25))))), (x7_2), (wrap64 (x1_2 + 2)), (wrap64 ((wrap64 ((wrap64 ((wrap64 (bt a0 x1_2)) - 192)) * 256)) + (wrap64 (bt a0 (ji25))))), (by rfl), (by rfl), (by rfl), (by rfl), H', ⟨by have := HJ2.out; have := HK2.out; have := HJ5.out; omega⟩, ⟨HB.out⟩⟩
          ·case rel => exact ⟨(wrap64 ((wrap64 ((wrap64 ((wrap64 (bt a0 x1_2)) - 192)) * 256)) + (wrap64 (bt a0 (ji25))))), (x7_2), (x8_2), (wrap64 ((wrap64 ((wrap64 ((wrap64 (bt a0 x1_2)) - 192)) * 256)) + (wrap64 (bt a0 (ji25))))), (by rfl), (by rfl), (by rfl), (by rfl), H', ⟨by have := HJ2.out; have := HK2.out; have := HJ5.out; omega⟩, ⟨HB.out⟩⟩
          all_goals
           go_wp2
          ·go_ret3
           exact ⟨by rfl, HB.out⟩
          ·go_ret3
           exact ⟨by rfl, HB.out⟩
          ·go_roundg kj5
           case measure => have := HJ2.out; have := HK2.out; have := HJ5.out; omega
           case rel => exact ⟨(wrap64 (x1_2 + (wrap64 (1 + (wrap64 (bt a0 x1_2)))))), (x7_2 ++ (a0.extract (x1_2 : Int).toNat ((wrap64 ((wrap64 (x1_2 + 1)) + (wrap64 (bt a0 x1_2)))) : Int).toNat)), (x8_2), (x9_2), (by rfl), (by rfl), (by rfl), (by rfl), H', ⟨by have := HJ2.out; have := HK2.out; have := HJ5.out; omega⟩, ⟨HB.out⟩⟩
         ·replace c8 := Bool.eq_false_iff.mpr c8
          subst c8
          rw [if_neg ff_] at H
          simp only [Option.some.injEq, Prod.mk.injEq] at H
          obtain ⟨rfl, rfl, rfl⟩ := H
          go_wp2
          go_ret3
          exact ⟨by rfl, HB.out⟩
end Go.Proofs.YtjmpckommjlnlaaGreat.PRd
namespace Go.Proofs.YtjmpckommjlnlaaGreat.PRd
open Go.RowKit Go.Proofs.YtjmpckommjlnlaaGreatW.PrintWords Go.Proofs.YtjmpckommjlnlaaGreatW.PrintLast Go.Proofs.YtjmpckommjlnlaaGreatW.PrintMore Go.Proofs.YtjmpckommjlnlaaGreat.Given
attribute [local go_sem] max2_int min2_int max_two min_two max_three min_three max_four min_four   -- for this text's walks alone
set_option linter.unusedVariables false
set_option linter.unusedSimpArgs false
def octets_bytes.l0 : Nat → Int → List Int → Int → Option (List Int)
 | 0, _, _, _ => none
 | k + 1, x0, x5, x6 => if x6 ≥ 0 then (if 0 ≤ (wrap64 (8 * x6)) then (if x5.length < 140737488355328 then (octets_bytes.l0 k x0 (x5 ++ [(shr .u64 x0 (wrap64 (8 * x6))) % 256]) (wrap64 (x6 - 1))) else (none)) else (none)) else (some x5)
def octets_bytes.f (k : Nat) (a0 : Int) (a1 : Int) : Option (List Int) := octets_bytes.l0 k a0 ([] : List Int) (wrap64 (a1 - 1))
mutual
def octets_Join.j0 : Nat → List Int → List Int → Bool → Option (ByteArray × Int)
 | 0, _, _, _ => none
 | k + 1, x0, x1, x18 => if x18 = true then (some ((⟨#[]⟩ : ByteArray), 1)) else (octets_Join.l0 k x0 ([] : List Int) x1 (x1.length : Int) 0)
def octets_Join.l0 : Nat → List Int → List Int → List Int → Int → Int → Option (ByteArray × Int)
 | 0, _, _, _, _, _ => none
 | k + 1, x0, x6, x19, x20, x21 => if x21 < x20 then (if 0 ≤ x21 then (if x21 < (x19.length : Int) then (if x21 < (x0.length : Int) then ((octets_most.f (rd x19 x21)).bind fun t191 => (if (rd x0 x21) > t191 then (some ((⟨#[]⟩ : ByteArray), 1)) else ((octets_bytes.f k (rd x0 x21) (rd x19 x21)).bind fun t193 => (if x6.length + t193.length < 140737488355328 then (octets_Join.l0 k x0 (x6 ++ t193) x19 x20 (wrap64 (x21 + 1))) else (none))))) else (none)) else (none)) else (none)) else (some (strOfNums x6, 0))
end
def octets_Join.f (k : Nat) (l0 : List Int) (l1 : List Int) : Option (ByteArray × Int) := (octets_whole.f k l1).bind fun t188 => (if t188 = true then (octets_Join.j0 k l0 l1 ((l0.length : Int) != (l1.length : Int))) else (octets_Join.j0 k l0 l1 true))
def beadrollref10_Parts.j0 : Nat → Int → Bool → Option (ByteArray)
 | 0, _, _ => none
 | k + 1, x3, x8 => if x8 = true then (some (⟨#[110]⟩ : ByteArray)) else (if x3 = 15 then (some (⟨#[50, 110]⟩ : ByteArray)) else (if x3 = 6 then (some (⟨#[110, 110, 52, 52, 52, 52, 52]⟩ : ByteArray)) else (if x3 = 16 then (some (⟨#[116]⟩ : ByteArray)) else (if x3 = 33 then (some (⟨#[50, 50, 50, 117]⟩ : ByteArray)) else (some (⟨#[111]⟩ : ByteArray))))))
def beadrollref10_Parts.f (k : Nat) (a0 : Int) : Option (ByteArray) := if a0 = 1 then (some (⟨#[52]⟩ : ByteArray)) else (if a0 = 28 then (some (⟨#[104]⟩ : ByteArray)) else (if a0 = 2 then (beadrollref10_Parts.j0 k a0 (a0 == 2)) else (if a0 = 5 then (beadrollref10_Parts.j0 k a0 (a0 == 5)) else (beadrollref10_Parts.j0 k a0 (a0 == 12)))))
set_option maxHeartbeats 8000000 in
set_option maxRecDepth 100000 in
theorem beadrollref10_Parts.calls (k : Nat) (a0 : Int) (r : ByteArray) (w : World) (h : beadrollref10_Parts.f k a0 = some r) :
  Calls Tryz.prog 165 #[.int .i64 a0] w fun e w' => e = .returned (.string r) ∧ Drawn0 w w' := by
 have H : (if a0 = 1 then (some (⟨#[52]⟩ : ByteArray)) else (if a0 = 28 then (some (⟨#[104]⟩ : ByteArray)) else (if a0 = 2 then (beadrollref10_Parts.j0 k a0 (a0 == 2)) else (if a0 = 5 then (beadrollref10_Parts.j0 k a0 (a0 == 5)) else (beadrollref10_Parts.j0 k a0 (a0 == 12)))))) = some r := h
 clear h
 by_cases c2 : a0 = 1
 ·rw [if_pos c2] at H
  have c2b0 : (a0 == 1) = true := beq_iff_eq.mpr c2
  have c2b1 : (a0 != 1) = false := bne_eq_false_iff_eq.mpr c2
  clear c2
  obtain rfl := Option.some.inj H
  go_enter Tryz.func165, Tryz.ntmps165
  go_wp2
  go_ret
  exact ⟨by first | rfl | (simp; done) | (simp [*]; done), by repeat (first | exact Drawn0.refl _ | apply Drawn0.step)⟩
 ·rw [if_neg c2] at H
  have c2b0 : (a0 == 1) = false := beq_eq_false_iff_ne.mpr c2
  have c2b1 : (a0 != 1) = true := bne_iff_ne.mpr c2
  by_cases c3 : a0 = 28
  ·rw [if_pos c3] at H
   have c3b0 : (a0 == 28) = true := beq_iff_eq.mpr c3
   have c3b1 : (a0 != 28) = false := bne_eq_false_iff_eq.mpr c3
   clear c3
   obtain rfl := Option.some.inj H
   go_enter Tryz.func165, Tryz.ntmps165
   go_wp2
   go_ret
   exact ⟨by first | rfl | (simp; done) | (simp [*]; done), by repeat (first | exact Drawn0.refl _ | apply Drawn0.step)⟩
  ·rw [if_neg c3] at H
   have c3b0 : (a0 == 28) = false := beq_eq_false_iff_ne.mpr c3
   have c3b1 : (a0 != 28) = true := bne_iff_ne.mpr c3
   have HC4 := Aside0.mk H
   clear H
   go_enter Tryz.func165, Tryz.ntmps165
   go_upto_if 8 with (fail)
   go_cut [8] (fun v8 wc => ∃ (kq : Nat) (x8_3 : Bool), v8 = .bool x8_3 ∧ Aside0 (beadrollref10_Parts.j0 kq a0 x8_3 = some r) ∧ Aside0 (kq ≤ k) ∧ Drawn0 w wc)
   case first =>
    have H := HC4.out
    clear HC4
    by_cases c5 : a0 = 2
    ·rw [if_pos c5] at H
     have c5b0 : (a0 == 2) = true := beq_iff_eq.mpr c5
     have c5b1 : (a0 != 2) = false := bne_eq_false_iff_eq.mpr c5
     clear c5
     (first | rw [c5b0] | (simp only [i64_w, i32_w]; rw [c5b0]) | skip)
     have H' := Aside0.mk H
     clear H
     go_wp2
     go_meet
     case rel => exact ⟨_, ((a0 == 2)), (by first | rfl | (simp; done) | (simp [*]; done)), H', ⟨by first | omega | exact Nat.le_refl _⟩, by repeat (first | exact Drawn0.refl _ | apply Drawn0.step)⟩
    ·rw [if_neg c5] at H
     have c5b0 : (a0 == 2) = false := beq_eq_false_iff_ne.mpr c5
     have c5b1 : (a0 != 2) = true := bne_iff_ne.mpr c5
     (first | rw [c5b0] | (simp only [i64_w, i32_w]; rw [c5b0]) | skip)
     by_cases c6 : a0 = 5
     ·rw [if_pos c6] at H
      have c6b0 : (a0 == 5) = true := beq_iff_eq.mpr c6
      have c6b1 : (a0 != 5) = false := bne_eq_false_iff_eq.mpr c6
      clear c6
      have H' := Aside0.mk H
      clear H
      go_wp2
      go_meet
      case rel => exact ⟨_, ((a0 == 5)), (by first | rfl | (simp; done) | (simp [*]; done)), H', ⟨by first | omega | exact Nat.le_refl _⟩, by repeat (first | exact Drawn0.refl _ | apply Drawn0.step)⟩
     ·rw [if_neg c6] at H
      have c6b0 : (a0 == 5) = false := beq_eq_false_iff_ne.mpr c6
      have c6b1 : (a0 != 5) = true := bne_iff_ne.mpr c6
      have H' := Aside0.mk H
      clear H
      go_wp2
      go_meet
      case rel => exact ⟨_, ((a0 == 12)), (by first | rfl | (simp; done) | (simp [*]; done)), H', ⟨by first | omega | exact Nat.le_refl _⟩, by repeat (first | exact Drawn0.refl _ | apply Drawn0.step)⟩
   case rest =>
    clear HC4
    try clear c1
    try clear c2
    try clear c2b0
    try clear c2b1
    try clear p2
    try clear c3
    try clear c3b0
    try clear c3b1
    try clear c5
    try clear c5b0
    try clear c5b1
    try clear c6
    try clear c6b0
    try clear c6b1
    obtain ⟨kq, x8_3, rfl, HA, HJ3, ⟨mc3, rfl⟩⟩ := hcut
    cases kq with
    | zero => exact absurd HA.out (by simp [beadrollref10_Parts.j0])
    | succ kj3 =>
     have H := HA.out
     clear HA
     simp only [beadrollref10_Parts.j0] at H
     by_cases c7 : x8_3 = true
     ·subst c7
      have H1 : (some (⟨#[110]⟩ : ByteArray)) = some r := by rw [if_pos rfl] at H; exact H
      clear H
      have H := H1
      clear H1
      obtain rfl := Option.some.inj H
      go_wp2
      go_ret
      exact ⟨by first | rfl | (simp; done) | (simp [*]; done), by repeat (first | exact Drawn0.refl _ | apply Drawn0.step)⟩
     ·replace c7 := Bool.eq_false_iff.mpr c7
      subst c7
      have H1 : (if a0 = 15 then (some (⟨#[50, 110]⟩ : ByteArray)) else (if a0 = 6 then (some (⟨#[110, 110, 52, 52, 52, 52, 52]⟩ : ByteArray)) else (if a0 = 16 then (some (⟨#[116]⟩ : ByteArray)) else (if a0 = 33 then (some (⟨#[50, 50, 50, 117]⟩ : ByteArray)) else (some (⟨#[111]⟩ : ByteArray)))))) = some r := by rw [if_neg (show ¬ (false = true) by decide)] at H; exact H
      clear H
      have H := H1
      clear H1
      by_cases c8 : a0 = 15
      ·rw [if_pos c8] at H
       have c8b0 : (a0 == 15) = true := beq_iff_eq.mpr c8
       have c8b1 : (a0 != 15) = false := bne_eq_false_iff_eq.mpr c8
       clear c8
       obtain rfl := Option.some.inj H
       go_wp2
       go_ret
       exact ⟨by first | rfl | (simp; done) | (simp [*]; done), by repeat (first | exact Drawn0.refl _ | apply Drawn0.step)⟩
      ·rw [if_neg c8] at H
       have c8b0 : (a0 == 15) = false := beq_eq_false_iff_ne.mpr c8
       have c8b1 : (a0 != 15) = true := bne_iff_ne.mpr c8
       by_cases c9 : a0 = 6
       ·rw [if_pos c9] at H
        have c9b0 : (a0 == 6) = true := beq_iff_eq.mpr c9
        have c9b1 : (a0 != 6) = false := bne_eq_false_iff_eq.mpr c9
        clear c9
        obtain rfl := Option.some.inj H
        go_wp2
        go_ret
        exact ⟨by first | rfl | (simp; done) | (simp [*]; done), by repeat (first | exact Drawn0.refl _ | apply Drawn0.step)⟩
       ·rw [if_neg c9] at H
        have c9b0 : (a0 == 6) = false := beq_eq_false_iff_ne.mpr c9
        have c9b1 : (a0 != 6) = true := bne_iff_ne.mpr c9
        by_cases c10 : a0 = 16
        ·rw [if_pos c10] at H
         have c10b0 : (a0 == 16) = true := beq_iff_eq.mpr c10
         have c10b1 : (a0 != 16) = false := bne_eq_false_iff_eq.mpr c10
         clear c10
         obtain rfl := Option.some.inj H
         go_wp2
         go_ret
         exact ⟨by first | rfl | (simp; done) | (simp [*]; done), by repeat (first | exact Drawn0.refl _ | apply Drawn0.step)⟩
        ·rw [if_neg c10] at H
         have c10b0 : (a0 == 16) = false := beq_eq_false_iff_ne.mpr c10
         have c10b1 : (a0 != 16) = true := bne_iff_ne.mpr c10
         by_cases c11 : a0 = 33
         ·rw [if_pos c11] at H
          have c11b0 : (a0 == 33) = true := beq_iff_eq.mpr c11
          have c11b1 : (a0 != 33) = false := bne_eq_false_iff_eq.mpr c11
          clear c11
          obtain rfl := Option.some.inj H
          go_wp2
          go_ret
          exact ⟨by first | rfl | (simp; done) | (simp [*]; done), by repeat (first | exact Drawn0.refl _ | apply Drawn0.step)⟩
         ·rw [if_neg c11] at H
          have c11b0 : (a0 == 33) = false := beq_eq_false_iff_ne.mpr c11
          have c11b1 : (a0 != 33) = true := bne_iff_ne.mpr c11
          obtain rfl := Option.some.inj H
          go_wp2
          go_ret
          exact ⟨by first | rfl | (simp; done) | (simp [*]; done), by repeat (first | exact Drawn0.refl _ | apply Drawn0.step)⟩
end Go.Proofs.YtjmpckommjlnlaaGreat.PRd
namespace Go.Proofs.YtjmpckommjlnlaaGreat.PRd
open Go.RowKit Go.Proofs.YtjmpckommjlnlaaGreatW.PrintWords Go.Proofs.YtjmpckommjlnlaaGreatW.PrintLast Go.Proofs.YtjmpckommjlnlaaGreatW.PrintMore Go.Proofs.YtjmpckommjlnlaaGreat.Given
attribute [local go_sem] max2_int min2_int max_two min_two max_three min_three max_four min_four   -- for this text's walks alone
set_option linter.unusedVariables false
set_option linter.unusedSimpArgs false
def beadrollref01_Width.f (a0 : Int) : Option (Bool) := if a0 = 1 then (some true) else (if a0 = 2 then (some true) else (if a0 = 4 then (some true) else (some (a0 == 8))))
set_option maxHeartbeats 8000000 in
set_option maxRecDepth 100000 in
theorem beadrollref01_Width.calls (a0 : Int) (r : Bool) (w : World) (h : beadrollref01_Width.f a0 = some r) :
  Calls Tryz.prog 202 #[.int .i64 a0] w fun e w' => e = .returned (.bool r) ∧ Drawn0 w w' := by
 have H : (if a0 = 1 then (some true) else (if a0 = 2 then (some true) else (if a0 = 4 then (some true) else (some (a0 == 8))))) = some r := h
 clear h
 by_cases c2 : a0 = 1
 ·rw [if_pos c2] at H
  have c2b0 : (a0 == 1) = true := beq_iff_eq.mpr c2
  have c2b1 : (a0 != 1) = false := bne_eq_false_iff_eq.mpr c2
  clear c2
  obtain rfl := Option.some.inj H
  go_enter Tryz.func202, Tryz.ntmps202
  go_wp2
  go_ret
  exact ⟨by rfl, by repeat ((exact Drawn0.refl _))⟩
 ·rw [if_neg c2] at H
  have c2b0 : (a0 == 1) = false := beq_eq_false_iff_ne.mpr c2
  have c2b1 : (a0 != 1) = true := bne_iff_ne.mpr c2
  by_cases c3 : a0 = 2
  ·rw [if_pos c3] at H
   have c3b0 : (a0 == 2) = true := beq_iff_eq.mpr c3
   have c3b1 : (a0 != 2) = false := bne_eq_false_iff_eq.mpr c3
   clear c3
   obtain rfl := Option.some.inj H
   go_enter Tryz.func202, Tryz.ntmps202
   go_wp2
   go_ret
   exact ⟨by rfl, by repeat ((exact Drawn0.refl _))⟩
  ·rw [if_neg c3] at H
   have c3b0 : (a0 == 2) = false := beq_eq_false_iff_ne.mpr c3
   have c3b1 : (a0 != 2) = true := bne_iff_ne.mpr c3
   by_cases c4 : a0 = 4
   ·rw [if_pos c4] at H
    have c4b0 : (a0 == 4) = true := beq_iff_eq.mpr c4
    have c4b1 : (a0 != 4) = false := bne_eq_false_iff_eq.mpr c4
    clear c4
    obtain rfl := Option.some.inj H
    go_enter Tryz.func202, Tryz.ntmps202
    go_wp2
    go_ret
    exact ⟨by rfl, by repeat ((exact Drawn0.refl _))⟩
   ·rw [if_neg c4] at H
    have c4b0 : (a0 == 4) = false := beq_eq_false_iff_ne.mpr c4
    have c4b1 : (a0 != 4) = true := bne_iff_ne.mpr c4
    obtain rfl := Option.some.inj H
    go_enter Tryz.func202, Tryz.ntmps202
    go_wp2
    go_ret
    exact ⟨by rfl, by repeat ((exact Drawn0.refl _))⟩
def beadrollref01_Number.l0 : Nat → ByteArray → Int → Int → Option (Int)
 | 0, _, _, _ => none
 | k + 1, x0, x3, x4 => if x4 < (x0.size : Int) then (if 0 ≤ x4 then (beadrollref01_Number.l0 k x0 (IntKind.u64.wrap ((IntKind.u64.wrap (x3 * 256)) + (IntKind.u64.wrap (bt x0 x4)))) (wrap64 (x4 + 1))) else (none)) else (some x3)
def beadrollref01_Number.f (k : Nat) (a0 : ByteArray) : Option (Int) := beadrollref01_Number.l0 k a0 0 0
set_option maxHeartbeats 8000000 in
set_option maxRecDepth 100000 in
theorem beadrollref01_Number.calls (k : Nat) (a0 : ByteArray) (r : Int) (w : World) (h : beadrollref01_Number.f k a0 = some r) :
    Calls Tryz.prog 126 #[.string a0] w fun e w' => e = .returned (.int .u64 r) ∧ Drawn0 w w' := by
  have H : (beadrollref01_Number.l0 k a0 0 0) = some r := h
  clear h
  have H' := Aside0.mk H
  clear H
  go_enter Tryz.func126, Tryz.ntmps126
  go_wp2
  go_loopg [3, 4] k (fun kq v3 v4 w' => ∃ (x3_1 : Int) (x4_1 : Int), v3 = .int .u64 x3_1 ∧ v4 = .int .i64 x4_1 ∧ Aside0 (beadrollref01_Number.l0 kq a0 x3_1 x4_1 = some r) ∧ Aside0 (kq ≤ k) ∧ Drawn0 w w')
  case atStart => exact ⟨(0), (0), (by rfl), (by rfl), H', ⟨Nat.le_refl _⟩, by repeat ((exact Drawn0.refl _))⟩
  case round =>
   clear H'
   obtain ⟨x3_1, x4_1, rfl, rfl, HA, HK1, ⟨m1, rfl⟩⟩ := hrel
   cases gk with
   | zero => exact absurd HA.out (by simp [beadrollref01_Number.l0])
   | succ k1 =>
    have H := HA.out
    clear HA
    simp only [beadrollref01_Number.l0] at H
    by_cases c2 : x4_1 < (a0.size : Int)
    ·rw [if_pos c2] at H
     have c2b0 : decide (x4_1 < (a0.size : Int)) = true := decide_eq_true c2
     clear c2
     obtain ⟨c3b0, H⟩ := gdd_ H
     have H' := Aside0.mk H
     clear H
     have p4 : 0 ≤ (x4_1 : Int) := of_decide_eq_true (by assumption)
     have q4 : x4_1 < (a0.size : Int) := of_decide_eq_true (by assumption)
     have hx4 := bt_at a0 x4_1
     replace p4 := eq_true p4
     replace q4 := eq_true q4
     go_wp2
     go_roundg k1
     case measure => have := HK1.out; omega
     case rel => exact ⟨(IntKind.u64.wrap ((IntKind.u64.wrap (x3_1 * 256)) + (IntKind.u64.wrap (bt a0 x4_1)))), (wrap64 (x4_1 + 1)), (by rfl), (by rfl), H', ⟨by have := HK1.out; omega⟩, by repeat (first | exact Drawn0.refl _ | apply Drawn0.step)⟩
    ·rw [if_neg c2] at H
     have c2b0 : decide (x4_1 < (a0.size : Int)) = false := decide_eq_false c2
     clear c2
     obtain rfl := Option.some.inj H
     go_wp2
     go_ret
     exact ⟨by rfl, by repeat (first | exact Drawn0.refl _ | apply Drawn0.step)⟩
def beadrollref01_Cut.j0 : Nat → ByteArray → Int → Bool → Option (ByteArray × ByteArray × Int)
 | 0, _, _, _ => none
 | k + 1, x0, x1, x14 => if x14 = true then (some ((⟨#[]⟩ : ByteArray), (⟨#[]⟩ : ByteArray), 1)) else (if (x0.size : Int) < x1 then (some ((⟨#[]⟩ : ByteArray), (⟨#[]⟩ : ByteArray), 2)) else (if 0 ≤ x1 then (if x1 ≤ (x0.size : Int) then ((beadrollref01_Number.f k (x0.extract 0 (x1 : Int).toNat)).bind fun t220 => (if t220 > (IntKind.u64.wrap (wrap64 ((x0.size : Int) - x1))) then (some ((⟨#[]⟩ : ByteArray), (⟨#[]⟩ : ByteArray), 2)) else (if x1 ≤ (wrap64 (x1 + (wrap64 (t220)))) then (if (wrap64 (x1 + (wrap64 (t220)))) ≤ (x0.size : Int) then (if 0 ≤ (wrap64 (x1 + (wrap64 (t220)))) then (some (x0.extract (x1 : Int).toNat ((wrap64 (x1 + (wrap64 (t220)))) : Int).toNat, x0.extract ((wrap64 (x1 + (wrap64 (t220)))) : Int).toNat x0.size, 0)) else (none)) else (none)) else (none)))) else (none)) else (none)))
def beadrollref01_Cut.f (k : Nat) (a0 : ByteArray) (a1 : Int) : Option (ByteArray × ByteArray × Int) := (beadrollref01_Width.f a1).bind fun t219 => (if t219 = true then (beadrollref01_Cut.j0 k a0 a1 (a1 == 8)) else (beadrollref01_Cut.j0 k a0 a1 true))
set_option maxHeartbeats 8000000 in
set_option maxRecDepth 100000 in
theorem beadrollref01_Cut.calls (k : Nat) (a0 : ByteArray) (a1 : Int) (r1 : ByteArray) (r2 : ByteArray) (r3 : Int) (w : World) (h : beadrollref01_Cut.f k a0 a1 = some (r1, r2, r3)) :
    Calls Tryz.prog 203 #[.string a0, .int .i64 a1] w fun e w' => e = .returned (.tuple #[.string r1, .string r2, .int .i64 r3]) ∧ Drawn0 w w' := by
  have H : ((beadrollref01_Width.f a1).bind fun t219 => (if t219 = true then (beadrollref01_Cut.j0 k a0 a1 (a1 == 8)) else (beadrollref01_Cut.j0 k a0 a1 true))) = some (r1, r2, r3) := h
  clear h
  have HC3 := Aside0.mk H
  clear H
  go_enter Tryz.func203, Tryz.ntmps203
  go_upto_region 1 with (fail)
  repeat (go_quiet (fail); go_upto_region 1 with (fail))
  go_cut [14] (fun v14 wc => ∃ (kq : Nat) (x14_2 : Bool), v14 = .bool x14_2 ∧ Aside0 (beadrollref01_Cut.j0 kq a0 a1 x14_2 = some (r1, r2, r3)) ∧ Aside0 (kq ≤ k) ∧ Drawn0 w wc)
  case first =>
   have H := HC3.out
   clear HC3
   obtain ⟨t219, A4, H⟩ := bnd_ H
   by_cases c5 : t219 = true
   focus
    subst c5
    rw [if_pos rfl] at H
   rotate_left
   focus
    replace c5 := Bool.eq_false_iff.mpr c5
    subst c5
    rw [if_neg ff_] at H
   rotate_left
   all_goals
    have H' := Aside0.mk H
    clear H
    go_wp2_with (((go_at_call 202; (with_reducible refine (beadrollref01_Width.calls a1 _ _ A4.out).mono ?_); rintro e w' ⟨rfl, ⟨nd, rfl⟩⟩)))
    repeat (go_quiet (((go_at_call 202; (with_reducible refine (beadrollref01_Width.calls a1 _ _ A4.out).mono ?_); rintro e w' ⟨rfl, ⟨nd, rfl⟩⟩))); try go_wp2_with (((go_at_call 202; (with_reducible refine (beadrollref01_Width.calls a1 _ _ A4.out).mono ?_); rintro e w' ⟨rfl, ⟨nd, rfl⟩⟩))))
    go_meet
   ·case rel => exact ⟨_, ((a1 == 8)), (by rfl), H', ⟨by omega⟩, by repeat (first | exact Drawn0.refl _ | apply Drawn0.step)⟩
   ·case rel => exact ⟨_, (true), (by rfl), H', ⟨by omega⟩, by repeat (first | exact Drawn0.refl _ | apply Drawn0.step)⟩
  case rest =>
   clear HC3
   obtain ⟨kq, x14_2, rfl, HA, HJ2, ⟨mc2, rfl⟩⟩ := hcut
   cases kq with
   | zero => exact absurd HA.out (by simp [beadrollref01_Cut.j0])
   | succ kj2 =>
    have H := HA.out
    clear HA
    simp only [beadrollref01_Cut.j0] at H
    by_cases c6 : x14_2 = true
    focus
     subst c6
     rw [if_pos rfl] at H
    rotate_left
    focus
     replace c6 := Bool.eq_false_iff.mpr c6
     subst c6
     rw [if_neg ff_] at H
     by_cases c7 : (a0.size : Int) < a1
     focus
      rw [if_pos c7] at H
      have c7b0 : decide ((a0.size : Int) < a1) = true := decide_eq_true c7
      clear c7
     rotate_left
     focus
      rw [if_neg c7] at H
      have c7b0 : decide ((a0.size : Int) < a1) = false := decide_eq_false c7
      clear c7
      obtain ⟨c8, H⟩ := gd_ H
      have c8b0 := eq_true c8
      have c8b1 : decide (0 ≤ a1) = true := decide_eq_true c8
      clear c8
      obtain ⟨c9, H⟩ := gd_ H
      have c9b0 := eq_true c9
      have c9b1 : decide (a1 ≤ (a0.size : Int)) = true := decide_eq_true c9
      clear c9
      obtain ⟨t220, A10, H⟩ := bnd_ H
      by_cases c11 : t220 > (IntKind.u64.wrap (wrap64 ((a0.size : Int) - a1)))
      focus
       rw [if_pos c11] at H
       have c11b0 : decide ((IntKind.u64.wrap (wrap64 ((a0.size : Int) - a1))) < t220) = true := decide_eq_true c11
       clear c11
      rotate_left
      focus
       rw [if_neg c11] at H
       have c11b0 : decide ((IntKind.u64.wrap (wrap64 ((a0.size : Int) - a1))) < t220) = false := decide_eq_false c11
       clear c11
       have c12b0 := eq_true (of_decide_eq_true (by assumption) : 0 ≤ a1)
       obtain ⟨c13, H⟩ := gd_ H
       have c13b0 := eq_true c13
       have c13b1 : decide (a1 ≤ (wrap64 (a1 + (wrap64 (t220))))) = true := decide_eq_true c13
       obtain ⟨c14, H⟩ := gd_ H
       have c14b0 := eq_true c14
       have c14b1 : decide ((wrap64 (a1 + (wrap64 (t220)))) ≤ (a0.size : Int)) = true := decide_eq_true c14
       obtain ⟨ji15, hji15⟩ : ∃ j_ : Int, (wrap64 (a1 + (wrap64 (t220)))) = j_ := ⟨_, rfl⟩
       rw [hji15] at H
       (try rw [hji15] at c13b0)
       (try rw [hji15] at c13b1)
       (try rw [hji15] at c13)
       (try rw [hji15] at c14b0)
       (try rw [hji15] at c14b1)
       (try rw [hji15] at c14)
       have hji15w : (IntKind.i64.wrap (a1 + (wrap64 (t220)))) = ji15 := (i64_w _).trans hji15
       obtain ⟨c16, H⟩ := gd_ H
       have c16b0 := eq_true c16
       have c16b1 : decide (0 ≤ (ji15)) = true := decide_eq_true c16
       clear c16
       have c17b0 := eq_true (of_decide_eq_true (by assumption) : (ji15) ≤ (a0.size : Int))
      rotate_left
     rotate_left 2
    rotate_left 3
    all_goals
     simp only [Option.some.injEq, Prod.mk.injEq] at H
     obtain ⟨rfl, rfl, rfl⟩ := H
    ·go_wp2
     repeat (go_quiet (fail); try go_wp2)
     go_ret3
     exact ⟨by rfl, by repeat (first | exact Drawn0.refl _ | apply Drawn0.step)⟩
    ·go_wp2
     repeat (go_quiet (fail); try go_wp2)
     go_ret3
     exact ⟨by rfl, by repeat (first | exact Drawn0.refl _ | apply Drawn0.step)⟩
    all_goals
     go_wp2_with (((go_at_call 126; (with_reducible refine (beadrollref01_Number.calls kj2 (a0.extract 0 (a1 : Int).toNat) t220 _ A10.out).mono ?_); rintro e w' ⟨rfl, ⟨nd, rfl⟩⟩)))
     repeat (go_quiet (((go_at_call 126; (with_reducible refine (beadrollref01_Number.calls kj2 (a0.extract 0 (a1 : Int).toNat) t220 _ A10.out).mono ?_); rintro e w' ⟨rfl, ⟨nd, rfl⟩⟩))); try go_wp2_with (((go_at_call 126; (with_reducible refine (beadrollref01_Number.calls kj2 (a0.extract 0 (a1 : Int).toNat) t220 _ A10.out).mono ?_); rintro e w' ⟨rfl, ⟨nd, rfl⟩⟩))))
     go_ret3
    ·exact ⟨by rfl, by repeat (first | exact Drawn0.refl _ | apply Drawn0.step)⟩
    ·exact ⟨by rfl, by repeat (first | exact Drawn0.refl _ | apply Drawn0.step)⟩
mutual
def beadrollref01_Pieces.j0 : Nat → ByteArray → Int → Bool → Option (List ByteArray × Int)
 | 0, _, _, _ => none
 | k + 1, x0, x1, x16 => if x16 = true then (some (([] : List ByteArray), 1)) else (beadrollref01_Pieces.l0 k x0 x1 ([] : List ByteArray))
def beadrollref01_Pieces.l0 : Nat → ByteArray → Int → List ByteArray → Option (List ByteArray × Int)
 | 0, _, _, _ => none
 | k + 1, x0, x1, x6 => if (x0.size : Int) > 0 then ((beadrollref01_Cut.f k x0 x1).bind fun bt222 => (if bt222.2.2 = 0 then (if x6.length < 8796093022208 then (beadrollref01_Pieces.l0 k bt222.2.1 x1 (x6 ++ [bt222.1])) else (none)) else (some (([] : List ByteArray), bt222.2.2)))) else (some (x6, 0))
end
def beadrollref01_Pieces.f (k : Nat) (a0 : ByteArray) (a1 : Int) : Option (List ByteArray × Int) := (beadrollref01_Width.f a1).bind fun t221 => (if t221 = true then (beadrollref01_Pieces.j0 k a0 a1 (a1 == 8)) else (beadrollref01_Pieces.j0 k a0 a1 true))
set_option maxHeartbeats 8000000 in
set_option maxRecDepth 100000 in
theorem beadrollref01_Pieces.calls (k : Nat) (a0 : ByteArray) (a1 : Int) (r1 : List ByteArray) (r2 : Int) (w : World) (h : beadrollref01_Pieces.f k a0 a1 = some (r1, r2)) :
    Calls Tryz.prog 167 #[.string a0, .int .i64 a1] w fun e w' => ∃ v0_ : Value, e = .returned (.tuple #[v0_, .int .i64 r2]) ∧ Kd.R Kd.string 9 w' w.heap.size (fun _ => True) v0_ r1 ∧ Below w.heap.size w w' := by
  have HB := Aside0.mk (Below.refl w.heap.size w)
  have H : ((beadrollref01_Width.f a1).bind fun t221 => (if t221 = true then (beadrollref01_Pieces.j0 k a0 a1 (a1 == 8)) else (beadrollref01_Pieces.j0 k a0 a1 true))) = some (r1, r2) := h
  clear h
  have HC3 := Aside0.mk H
  clear H
  go_enter Tryz.func167, Tryz.ntmps167
  go_upto_region 1 with (fail)
  go_cut [16] (fun v16 wc => ∃ (kq : Nat) (x16_2 : Bool), v16 = .bool x16_2 ∧ Aside0 (beadrollref01_Pieces.j0 kq a0 a1 x16_2 = some (r1, r2)) ∧ Aside0 (kq ≤ k) ∧ Aside0 (Below w.heap.size w wc))
  case first =>
   have H := HC3.out
   clear HC3
   obtain ⟨t221, A4, H⟩ := bnd_ H
   by_cases c5 : t221 = true
   focus
    subst c5
    rw [if_pos rfl] at H
   rotate_left
   focus
    replace c5 := Bool.eq_false_iff.mpr c5
    subst c5
    rw [if_neg ff_] at H
   rotate_left
   all_goals
    have H' := Aside0.mk H
    clear H
    go_wp2_with (((refine gl_ (some 11) Tryz.func202 #[.int .i64 a1] ?_; (with_reducible refine (beadrollref01_Width.calls a1 _ _ A4.out).mono ?_); rintro e w' ⟨rfl, ⟨nd, rfl⟩⟩; refine ⟨_, rfl, ?_⟩)))
    go_meet
   ·case rel => exact ⟨_, ((a1 == 8)), (by rfl), H', ⟨by omega⟩, ⟨by repeat ((with_reducible first | exact HB.out | apply pw_below_drewN))⟩⟩
   ·case rel => exact ⟨_, (true), (by rfl), H', ⟨by omega⟩, ⟨by repeat ((with_reducible first | exact HB.out | apply pw_below_drewN))⟩⟩
  case rest =>
   clear HC3
   obtain ⟨kq, x16_2, rfl, HA, HJ2, HB⟩ := hcut
   cases kq with
   | zero => exact absurd HA.out (by simp [beadrollref01_Pieces.j0])
   | succ kj2 =>
    have H := HA.out
    clear HA
    simp only [beadrollref01_Pieces.j0] at H
    by_cases c6 : x16_2 = true
    ·subst c6
     rw [if_pos rfl] at H
     simp only [Option.some.injEq, Prod.mk.injEq] at H
     obtain ⟨rfl, rfl⟩ := H
     go_wp2
     go_ret2
     exact ⟨_, by rfl, by (exact Kd.R_nil _ _ _ _ _), HB.out⟩
    ·replace c6 := Bool.eq_false_iff.mpr c6
     subst c6
     rw [if_neg ff_] at H
     have H' := Aside0.mk H
     clear H
     go_wp2
     go_loopg [0, 6] kj2 (fun kq v0 v6 w' => ∃ (x0_2 : ByteArray) (x6_2 : List ByteArray), v0 = .string x0_2 ∧ Aside0 (beadrollref01_Pieces.l0 kq x0_2 a1 x6_2 = some (r1, r2)) ∧ Aside0 (kq ≤ kj2) ∧ Aside0 (Kd.R Kd.string 9 w' w.heap.size (fun _ => True) v6 x6_2) ∧ Aside0 (Below w.heap.size w w'))
     case atStart => exact ⟨(a0), (([] : List ByteArray)), (by rfl), H', ⟨Nat.le_refl _⟩, ⟨by (exact Kd.R_nil _ _ _ _ _)⟩, ⟨HB.out⟩⟩
     case round =>
      clear H'
      obtain ⟨x0_2, x6_2, rfl, HA, HK2, HO_6, HB⟩ := hrel
      cases gk with
      | zero => exact absurd HA.out (by simp [beadrollref01_Pieces.l0])
      | succ k2 =>
       have H := HA.out
       clear HA
       simp only [beadrollref01_Pieces.l0] at H
       by_cases c7 : (x0_2.size : Int) > 0
       ·rw [if_pos c7] at H
        have c7b0 : decide (0 < (x0_2.size : Int)) = true := decide_eq_true c7
        have c7b1 : decide (0 < x0_2.size) = true := decide_eq_true (by omega)
        clear c7
        replace H := Option.bind_eq_some_iff.mp H
        obtain ⟨⟨t222, t223, t224⟩, A80, H⟩ := H
        replace H : (if t224 = 0 then (if x6_2.length < 8796093022208 then (beadrollref01_Pieces.l0 k2 t223 a1 (x6_2 ++ [t222])) else (none)) else (some (([] : List ByteArray), t224))) = some (r1, r2) := H
        have A8 := Aside0.mk A80
        clear A80
        by_cases c9 : t224 = 0
        ·rw [if_pos c9] at H
         have c9b0 : (t224 == 0) = true := beq_iff_eq.mpr c9
         have c9b1 : (t224 != 0) = false := bne_eq_false_iff_eq.mpr c9
         clear c9
         obtain ⟨c10, H⟩ := gd_ H
         have LMc10 := Aside0.mk c10
         clear c10
         obtain ⟨y225, hy225⟩ : ∃ y_ : List ByteArray, y_ = (x6_2 ++ [t222]) := ⟨_, rfl⟩
         replace H : (beadrollref01_Pieces.l0 k2 t223 a1 y225) = some (r1, r2) := by (rw [hy225]; with_reducible exact H)
         have Ny225 := Aside0.mk hy225
         clear hy225
         have H' := Aside0.mk H
         clear H
         go_wp2_with (first | (refine gl_ (some 23) Tryz.func203 #[.string x0_2, .int .i64 a1] ?_; (with_reducible refine (beadrollref01_Cut.calls k2 x0_2 a1 t222 t223 t224 _ A8.out).mono ?_); rintro e w' ⟨rfl, ⟨nd, rfl⟩⟩; refine ⟨_, rfl, ?_⟩) | ((with_reducible refine gate_builtin (b := .append) (xs := #[.tmp 30, .tmp 32]) rfl ?_); at_builtin; refine Kd.R_append Kd.string (w0 := w) w.heap.size rfl (.tmp 30) (.tmp 32) 45 9 (.string ⟨#[]⟩) 16 rfl Tryz.underlying45 info9 rfl (by decide) (by omega) u6 x6_2 t222 [.string t222] (fun _ => True) (fun _ => False) rfl rfl ?aP (fun _ hk => hk.elim) ?aF ?aO ?aB ?aS ?aL ?_; (case aP => exact rfl); (case aB => exact (by repeat ((with_reducible first | exact HB.out | apply pw_below_drewN)))); (case aF => exact (fun _ _ => trivial)); (case aO => exact (by (with_reducible repeat ((apply Kd.R_drewN))); exact HO_6.out)); (case aS => exact (below_size (by repeat ((with_reducible first | exact HB.out | apply pw_below_drewN))))); (case aL => have := LMc10.out; omega); intro v226 w11 ho hb hg hat; rw [← Ny225.out] at ho; have n0_ := Aside0.mk (hb); have n1_ := Aside0.mk (ho); clear HB; clear HO_6; have HB := n0_; have HO227 := n1_; clear n0_ n1_; clear ho hb hg hat))
         go_roundg k2
         case measure => have := HJ2.out; have := HK2.out; omega
         case rel => exact ⟨(t223), (y225), (by rfl), H', ⟨by have := HJ2.out; have := HK2.out; omega⟩, ⟨by (with_reducible repeat ((apply Kd.R_alloc))); exact HO227.out⟩, ⟨HB.out⟩⟩
        ·rw [if_neg c9] at H
         have c9b0 : (t224 == 0) = false := beq_eq_false_iff_ne.mpr c9
         have c9b1 : (t224 != 0) = true := bne_iff_ne.mpr c9
         simp only [Option.some.injEq, Prod.mk.injEq] at H
         obtain ⟨rfl, rfl⟩ := H
         go_wp2_with (((refine gl_ (some 23) Tryz.func203 #[.string x0_2, .int .i64 a1] ?_; (with_reducible refine (beadrollref01_Cut.calls k2 x0_2 a1 t222 t223 t224 _ A8.out).mono ?_); rintro e w' ⟨rfl, ⟨nd, rfl⟩⟩; refine ⟨_, rfl, ?_⟩)))
         go_ret2
         exact ⟨_, by rfl, by (exact Kd.R_nil _ _ _ _ _), by repeat ((with_reducible first | exact HB.out | apply pw_below_drewN))⟩
       ·rw [if_neg c7] at H
        have c7b0 : decide (0 < (x0_2.size : Int)) = false := decide_eq_false c7
        have c7b1 : decide (0 < x0_2.size) = false := decide_eq_false (by omega)
        clear c7
        simp only [Option.some.injEq, Prod.mk.injEq] at H
        obtain ⟨rfl, rfl⟩ := H
        go_wp2
        go_ret2
        exact ⟨_, by rfl, by (with_reducible repeat ((apply Kd.R_alloc))); exact HO_6.out, HB.out⟩
end Go.Proofs.YtjmpckommjlnlaaGreat.PRd
namespace Go.Proofs.YtjmpckommjlnlaaGreat.PRd
open Go.RowKit Go.Proofs.YtjmpckommjlnlaaGreatW.PrintWords Go.Proofs.YtjmpckommjlnlaaGreatW.PrintLast Go.Proofs.YtjmpckommjlnlaaGreatW.PrintMore Go.Proofs.YtjmpckommjlnlaaGreat.Given
attribute [local go_sem] max2_int min2_int max_two min_two max_three min_three max_four min_four   -- for this text's walks alone
set_option linter.unusedVariables false
set_option linter.unusedSimpArgs false
mutual
def beadrollref10_Read.l0 : Nat → ByteArray → Int → Int → List ByteArray → ByteArray → Int → Option (List ByteArray × Bool)
 | 0, _, _, _, _, _, _ => none
 | k + 1, x0, x1, x2, x10, x11, x12 => if x12 < (x11.size : Int) then (if 0 ≤ x12 then (if (bt x11 x12) = 110 then (beadrollref10_Read.j1 k x0 x1 x2 x10 x11 x12 (bt x11 x12) ((bt x11 x12) == 110)) else (beadrollref10_Read.j1 k x0 x1 x2 x10 x11 x12 (bt x11 x12) ((bt x11 x12) == 117))) else (none)) else (some (x10, (x1 == x2)))
def beadrollref10_Read.j1 : Nat → ByteArray → Int → Int → List ByteArray → ByteArray → Int → Int → Bool → Option (List ByteArray × Bool)
 | 0, _, _, _, _, _, _, _, _ => none
 | k + 1, x0, x1, x2, x10, x11, x12, x32, x38 => if x38 = true then ((beadrollref09_Read.f k x0 x1).bind fun bt229 => (if bt229.2.2 = 0 then (if 0 ≤ x12 then (if x12 < (x11.size : Int) then (if (bt x11 x12) = 117 then (if 0 ≤ x1 then (if x1 ≤ bt229.2.1 then (if bt229.2.1 ≤ (x0.size : Int) then (beadrollref10_Read.j2 k x0 x2 x10 x11 x12 bt229.1 bt229.2.1 (bt229.1.toList != (x0.extract (x1 : Int).toNat (bt229.2.1 : Int).toNat).toList)) else (none)) else (none)) else (none)) else (beadrollref10_Read.j2 k x0 x2 x10 x11 x12 bt229.1 bt229.2.1 false)) else (none)) else (none)) else (beadrollref10_Read.j2 k x0 x2 x10 x11 x12 bt229.1 bt229.2.1 true))) else (if x32 = 116 then (if 0 ≤ x1 then (if x1 ≤ (x0.size : Int) then ((beadrollref01_Pieces.f k (x0.extract (x1 : Int).toNat x0.size) 1).bind fun bt235 => (if bt235.2 = 0 then (beadrollref10_Read.j3 k x0 x1 x2 x10 x11 x12 ((bt235.1.length : Int) == 0)) else (beadrollref10_Read.j3 k x0 x1 x2 x10 x11 x12 true))) else (none)) else (none)) else (if x32 = 111 then (if (wrap64 (x1 + (wrap64 (x2 - x1)))) > x2 then (some (([] : List ByteArray), false)) else (if 0 ≤ x1 then (if x1 ≤ (wrap64 (x1 + (wrap64 (x2 - x1)))) then (if (wrap64 (x1 + (wrap64 (x2 - x1)))) ≤ (x0.size : Int) then (if x10.length < 8796093022208 then (beadrollref10_Read.l0 k x0 (wrap64 (x1 + (wrap64 (x2 - x1)))) x2 (x10 ++ [x0.extract (x1 : Int).toNat ((wrap64 (x1 + (wrap64 (x2 - x1)))) : Int).toNat]) x11 (wrap64 (x12 + 1))) else (none)) else (none)) else (none)) else (none))) else (if x32 = 104 then (if (wrap64 (x1 + 16)) > x2 then (some (([] : List ByteArray), false)) else (if 0 ≤ x1 then (if x1 ≤ (wrap64 (x1 + 16)) then (if (wrap64 (x1 + 16)) ≤ (x0.size : Int) then (if x10.length < 8796093022208 then (beadrollref10_Read.l0 k x0 (wrap64 (x1 + 16)) x2 (x10 ++ [x0.extract (x1 : Int).toNat ((wrap64 (x1 + 16)) : Int).toNat]) x11 (wrap64 (x12 + 1))) else (none)) else (none)) else (none)) else (none))) else (if 0 ≤ x12 then (if x12 < (x11.size : Int) then (if (wrap64 (x1 + (wrap64 ((wrap64 (bt x11 x12)) - 48)))) > x2 then (some (([] : List ByteArray), false)) else (if 0 ≤ x1 then (if x1 ≤ (wrap64 (x1 + (wrap64 ((wrap64 (bt x11 x12)) - 48)))) then (if (wrap64 (x1 + (wrap64 ((wrap64 (bt x11 x12)) - 48)))) ≤ (x0.size : Int) then (if x10.length < 8796093022208 then (beadrollref10_Read.l0 k x0 (wrap64 (x1 + (wrap64 ((wrap64 (bt x11 x12)) - 48)))) x2 (x10 ++ [x0.extract (x1 : Int).toNat ((wrap64 (x1 + (wrap64 ((wrap64 (bt x11 x12)) - 48)))) : Int).toNat]) x11 (wrap64 (x12 + 1))) else (none)) else (none)) else (none)) else (none))) else (none)) else (none)))))
def beadrollref10_Read.j2 : Nat → ByteArray → Int → List ByteArray → ByteArray → Int → ByteArray → Int → Bool → Option (List ByteArray × Bool)
 | 0, _, _, _, _, _, _, _, _ => none
 | k + 1, x0, x2, x10, x11, x12, x14, x15, x63 => if x63 = true then (some (([] : List ByteArray), false)) else (if x10.length < 8796093022208 then (beadrollref10_Read.l0 k x0 x15 x2 (x10 ++ [x14]) x11 (wrap64 (x12 + 1))) else (none))
def beadrollref10_Read.j3 : Nat → ByteArray → Int → Int → List ByteArray → ByteArray → Int → Bool → Option (List ByteArray × Bool)
 | 0, _, _, _, _, _, _, _ => none
 | k + 1, x0, x1, x2, x10, x11, x12, x84 => if x84 = true then (some (([] : List ByteArray), false)) else (if (wrap64 (x1 + (wrap64 (x2 - x1)))) > x2 then (some (([] : List ByteArray), false)) else (if 0 ≤ x1 then (if x1 ≤ (wrap64 (x1 + (wrap64 (x2 - x1)))) then (if (wrap64 (x1 + (wrap64 (x2 - x1)))) ≤ (x0.size : Int) then (if x10.length < 8796093022208 then (beadrollref10_Read.l0 k x0 (wrap64 (x1 + (wrap64 (x2 - x1)))) x2 (x10 ++ [x0.extract (x1 : Int).toNat ((wrap64 (x1 + (wrap64 (x2 - x1)))) : Int).toNat]) x11 (wrap64 (x12 + 1))) else (none)) else (none)) else (none)) else (none)))
end
def beadrollref10_Read.f (k : Nat) (a0 : ByteArray) (a1 : Int) (a2 : Int) (a3 : Int) : Option (List ByteArray × Bool) := (beadrollref10_Parts.f k a3).bind fun t228 => (if 0 ≤ a2 then (if a2 ≤ (a0.size : Int) then (beadrollref10_Read.l0 k (a0.extract 0 (a2 : Int).toNat) a1 a2 ([] : List ByteArray) t228 0) else (none)) else (none))
set_option maxHeartbeats 8000000 in
set_option maxRecDepth 100000 in
theorem beadrollref10_Read.calls (k : Nat) (a0 : ByteArray) (a1 : Int) (a2 : Int) (a3 : Int) (r1 : List ByteArray) (r2 : Bool) (w : World) (h : beadrollref10_Read.f k a0 a1 a2 a3 = some (r1, r2)) :
    Calls Tryz.prog 125 #[.string a0, .int .i64 a1, .int .i64 a2, .int .i64 a3] w fun e w' => ∃ v0_ : Value, e = .returned (.tuple #[v0_, .bool r2]) ∧ Kd.R Kd.string 9 w' w.heap.size (fun _ => True) v0_ r1 ∧ Below w.heap.size w w' := by
  have HB := Aside0.mk (Below.refl w.heap.size w)
  have H : ((beadrollref10_Parts.f k a3).bind fun t228 => (if 0 ≤ a2 then (if a2 ≤ (a0.size : Int) then (beadrollref10_Read.l0 k (a0.extract 0 (a2 : Int).toNat) a1 a2 ([] : List ByteArray) t228 0) else (none)) else (none))) = some (r1, r2) := h
  clear h
  obtain ⟨t228, A5, H⟩ := bnd_ H
  obtain ⟨c6, H⟩ := gd_ H
  have c6b0 := eq_true c6
  have c6b1 : decide (0 ≤ a2) = true := decide_eq_true c6
  clear c6
  obtain ⟨c7, H⟩ := gd_ H
  have c7b0 := eq_true c7
  have c7b1 : decide (a2 ≤ (a0.size : Int)) = true := decide_eq_true c7
  clear c7
  have H' := Aside0.mk H
  clear H
  go_enter Tryz.func125, Tryz.ntmps125
  go_wp2_with ((((with_reducible refine gate_callee (f := 165) rfl ?_); refine goesL_ (some 20) rfl rfl Tryz.func165 (by kernel_rfl) rfl #[.int .i64 a3] rfl (by (try simp only [mA_, mC_, mN_]); rfl) ?_; (with_reducible refine (beadrollref10_Parts.calls k a3 t228 _ A5.out).mono ?_); rintro e w' ⟨rfl, ⟨nd, rfl⟩⟩; refine ⟨_, rfl, ?_⟩)))
  go_loopg [1, 10, 12] k (fun kq v1 v10 v12 w' => ∃ (x1_1 : Int) (x10_1 : List ByteArray) (x12_1 : Int), v1 = .int .i64 x1_1 ∧ v12 = .int .i64 x12_1 ∧ Aside0 (beadrollref10_Read.l0 kq (a0.extract 0 (a2 : Int).toNat) x1_1 a2 x10_1 t228 x12_1 = some (r1, r2)) ∧ Aside0 (kq ≤ k) ∧ Aside0 (Kd.R Kd.string 9 w' w.heap.size (fun _ => True) v10 x10_1) ∧ Aside0 (Below w.heap.size w w'))
  case atStart => exact ⟨(a1), (([] : List ByteArray)), (0), (by rfl), (by rfl), H', ⟨Nat.le_refl _⟩, ⟨by (exact Kd.R_nil _ _ _ _ _)⟩, ⟨by repeat ((with_reducible first | exact HB.out | apply pw_below_drewN))⟩⟩
  case round =>
   clear H'
   (try clear c6b0)
   (try clear c6b1)
   (try clear c7b0)
   (try clear c7b1)
   obtain ⟨x1_1, x10_1, x12_1, rfl, rfl, HA, HK1, HO_10, HB⟩ := hrel
   cases gk with
   | zero => exact absurd HA.out (by simp [beadrollref10_Read.l0])
   | succ k1 =>
    have H := HA.out
    clear HA
    simp only [beadrollref10_Read.l0] at H
    by_cases c8 : x12_1 < (t228.size : Int)
    ·rw [if_pos c8] at H
     have c8b0 : decide (x12_1 < (t228.size : Int)) = true := decide_eq_true c8
     clear c8
     obtain ⟨c9b0, H⟩ := gdd_ H
     have HC11 := Aside0.mk H
     clear H
     have p10 : 0 ≤ (x12_1 : Int) := of_decide_eq_true (by assumption)
     have q10 : x12_1 < (t228.size : Int) := of_decide_eq_true (by assumption)
     have hx10 := bt_at t228 x12_1
     replace p10 := eq_true p10
     replace q10 := eq_true q10
     go_upto_if 38 with (fail)
     go_cut [38] (fun v38 wc => ∃ (kq : Nat) (x38_10 : Bool), v38 = .bool x38_10 ∧ Aside0 (beadrollref10_Read.j1 kq (a0.extract 0 (a2 : Int).toNat) x1_1 a2 x10_1 t228 x12_1 (bt t228 x12_1) x38_10 = some (r1, r2)) ∧ Aside0 (kq ≤ k1) ∧ Aside0 (Kd.R Kd.string 9 wc w.heap.size (fun _ => True) u10 x10_1) ∧ Aside0 (Below w.heap.size w wc))
     case first =>
      have H := HC11.out
      clear HC11
      by_cases c12 : (bt t228 x12_1) = 110
      focus
       rw [if_pos c12] at H
       have c12b0 : ((bt t228 x12_1) == 110) = true := beq_iff_eq.mpr c12
       have c12b1 : ((bt t228 x12_1) != 110) = false := bne_eq_false_iff_eq.mpr c12
       clear c12
      rotate_left
      focus
       rw [if_neg c12] at H
       have c12b0 : ((bt t228 x12_1) == 110) = false := beq_eq_false_iff_ne.mpr c12
       have c12b1 : ((bt t228 x12_1) != 110) = true := bne_iff_ne.mpr c12
      rotate_left
      all_goals
       ((rw [c12b0]))
       have H' := Aside0.mk H
       clear H
       go_wp2
       go_meet
      ·case rel => exact ⟨_, (((bt t228 x12_1) == 110)), (by (simp [*]; done)), H', ⟨by have := HK1.out; omega⟩, ⟨by (with_reducible repeat ((apply Kd.R_alloc))); exact HO_10.out⟩, ⟨HB.out⟩⟩
      ·case rel => exact ⟨_, (((bt t228 x12_1) == 117)), (by rfl), H', ⟨by have := HK1.out; omega⟩, ⟨by (with_reducible repeat ((apply Kd.R_alloc))); exact HO_10.out⟩, ⟨HB.out⟩⟩
     case rest =>
      clear HC11
      (try clear c8b0)
      (try clear c9b0)
      (try clear p10)
      (try clear q10)
      (try clear hx10)
      obtain ⟨kq, x38_10, rfl, HA, HJ10, HO_10, HB⟩ := hcut
      cases kq with
      | zero => exact absurd HA.out (by simp [beadrollref10_Read.j1])
      | succ kj10 =>
       have H := HA.out
       clear HA
       simp only [beadrollref10_Read.j1] at H
       by_cases c13 : x38_10 = true
       ·subst c13
        rw [if_pos rfl] at H
        replace H := Option.bind_eq_some_iff.mp H
        obtain ⟨⟨t229, t230, t231⟩, A140, H⟩ := H
        replace H : (if t231 = 0 then (if 0 ≤ x12_1 then (if x12_1 < (t228.size : Int) then (if (bt t228 x12_1) = 117 then (if 0 ≤ x1_1 then (if x1_1 ≤ t230 then (if t230 ≤ ((a0.extract 0 (a2 : Int).toNat).size : Int) then (beadrollref10_Read.j2 kj10 (a0.extract 0 (a2 : Int).toNat) a2 x10_1 t228 x12_1 t229 t230 (t229.toList != ((a0.extract 0 (a2 : Int).toNat).extract (x1_1 : Int).toNat (t230 : Int).toNat).toList)) else (none)) else (none)) else (none)) else (beadrollref10_Read.j2 kj10 (a0.extract 0 (a2 : Int).toNat) a2 x10_1 t228 x12_1 t229 t230 false)) else (none)) else (none)) else (beadrollref10_Read.j2 kj10 (a0.extract 0 (a2 : Int).toNat) a2 x10_1 t228 x12_1 t229 t230 true)) = some (r1, r2) := H
        have A14 := Aside0.mk A140
        clear A140
        have HC15 := Aside0.mk H
        clear H
        go_upto_region 13 with ((((with_reducible refine gate_callee (f := 166) rfl ?_); refine goesL_ (some 44) rfl rfl Tryz.func166 (by kernel_rfl) rfl #[.string (a0.extract 0 (a2 : Int).toNat), .int .i64 x1_1] rfl (by (try simp only [mA_, mC_, mN_]); rfl) ?_; (with_reducible refine (beadrollref09_Read.calls kj10 (a0.extract 0 (a2 : Int).toNat) x1_1 t229 t230 t231 _ A14.out).mono ?_); rintro e w16 ⟨rfl, hb⟩; refine ⟨_, rfl, ?_⟩; replace HO_10 := Aside0.mk (Kd.R_below (by ((exact HO_10.out))) hb); replace HB := Aside0.mk (below_step HB.out hb); (try clear hb))))
        go_cut [63] (fun v63 wc => ∃ (kq : Nat) (x63_14 : Bool), v63 = .bool x63_14 ∧ Aside0 (beadrollref10_Read.j2 kq (a0.extract 0 (a2 : Int).toNat) a2 x10_1 t228 x12_1 t229 t230 x63_14 = some (r1, r2)) ∧ Aside0 (kq ≤ kj10) ∧ Aside0 (Kd.R Kd.string 9 wc w.heap.size (fun _ => True) u10 x10_1) ∧ Aside0 (Below w.heap.size w wc))
        case first =>
         have H := HC15.out
         clear HC15
         by_cases c17 : t231 = 0
         focus
          rw [if_pos c17] at H
          have c17b0 : (t231 == 0) = true := beq_iff_eq.mpr c17
          have c17b1 : (t231 != 0) = false := bne_eq_false_iff_eq.mpr c17
          clear c17
         rotate_left
         focus
          rw [if_neg c17] at H
          have c17b0 : (t231 == 0) = false := beq_eq_false_iff_ne.mpr c17
          have c17b1 : (t231 != 0) = true := bne_iff_ne.mpr c17
         rotate_left
         all_goals
          (skip)
         ·obtain ⟨c18b0, H⟩ := gdd_ H
          obtain ⟨c19b0, H⟩ := gdd_ H
          by_cases c21 : (bt t228 x12_1) = 117
          focus
           rw [if_pos c21] at H
           have c21b0 : ((bt t228 x12_1) == 117) = true := beq_iff_eq.mpr c21
           have c21b1 : ((bt t228 x12_1) != 117) = false := bne_eq_false_iff_eq.mpr c21
           clear c21
           obtain ⟨c22, H⟩ := gd_ H
           have c22b0 := eq_true c22
           have c22b1 : decide (0 ≤ x1_1) = true := decide_eq_true c22
           clear c22
           obtain ⟨c23, H⟩ := gd_ H
           have c23b0 := eq_true c23
           have c23b1 : decide (x1_1 ≤ t230) = true := decide_eq_true c23
           clear c23
           obtain ⟨c24, H⟩ := gd_ H
           have c24b0 := eq_true c24
           have c24b1 : decide (t230 ≤ ((a0.extract 0 (a2 : Int).toNat).size : Int)) = true := decide_eq_true c24
           (try have c24b1v := c24b1)
           (try simp only [ByteArray.size_extract, Nat.sub_zero] at c24b1v)
           (try have c24b1w := eq_true (of_decide_eq_true c24b1v))
           clear c24
          rotate_left
          focus
           rw [if_neg c21] at H
           have c21b0 : ((bt t228 x12_1) == 117) = false := beq_eq_false_iff_ne.mpr c21
           have c21b1 : ((bt t228 x12_1) != 117) = true := bne_iff_ne.mpr c21
          rotate_left
          all_goals
           have H' := Aside0.mk H
           clear H
           have p20 : 0 ≤ (x12_1 : Int) := of_decide_eq_true (by assumption)
           have q20 : x12_1 < (t228.size : Int) := of_decide_eq_true (by assumption)
           have hx20 := bt_at t228 x12_1
           replace p20 := eq_true p20
           replace q20 := eq_true q20
           go_wp2
           go_meet
          ·case rel => exact ⟨_, ((t229.toList != ((a0.extract 0 (a2 : Int).toNat).extract (x1_1 : Int).toNat (t230 : Int).toNat).toList)), (by rfl), H', ⟨by have := HK1.out; have := HJ10.out; omega⟩, ⟨by (with_reducible repeat ((apply Kd.R_alloc))); exact HO_10.out⟩, ⟨HB.out⟩⟩
          ·case rel => exact ⟨_, (false), (by rfl), H', ⟨by have := HK1.out; have := HJ10.out; omega⟩, ⟨by (with_reducible repeat ((apply Kd.R_alloc))); exact HO_10.out⟩, ⟨HB.out⟩⟩
         ·have H' := Aside0.mk H
          clear H
          go_wp2
          go_meet
          case rel => exact ⟨_, (true), (by rfl), H', ⟨by have := HK1.out; have := HJ10.out; omega⟩, ⟨by (with_reducible repeat ((apply Kd.R_alloc))); exact HO_10.out⟩, ⟨HB.out⟩⟩
        case rest =>
         clear HC15
         obtain ⟨kq, x63_14, rfl, HA, HJ14, HO_10, HB⟩ := hcut
         cases kq with
         | zero => exact absurd HA.out (by simp [beadrollref10_Read.j2])
         | succ kj14 =>
          have H := HA.out
          clear HA
          simp only [beadrollref10_Read.j2] at H
          by_cases c25 : x63_14 = true
          ·subst c25
           rw [if_pos rfl] at H
           simp only [Option.some.injEq, Prod.mk.injEq] at H
           obtain ⟨rfl, rfl⟩ := H
           go_wp2
           go_ret2
           exact ⟨_, by rfl, by (exact Kd.R_nil _ _ _ _ _), HB.out⟩
          ·replace c25 := Bool.eq_false_iff.mpr c25
           subst c25
           rw [if_neg ff_] at H
           obtain ⟨c26, H⟩ := gd_ H
           have LMc26 := Aside0.mk c26
           clear c26
           obtain ⟨y232, hy232⟩ : ∃ y_ : List ByteArray, y_ = (x10_1 ++ [t229]) := ⟨_, rfl⟩
           replace H : (beadrollref10_Read.l0 kj14 (a0.extract 0 (a2 : Int).toNat) t230 a2 y232 t228 (wrap64 (x12_1 + 1))) = some (r1, r2) := by (rw [hy232]; with_reducible exact H)
           have Ny232 := Aside0.mk hy232
           clear hy232
           have H' := Aside0.mk H
           clear H
           go_wp2_with ((((with_reducible refine gate_builtin (b := .append) (xs := #[.tmp 64, .tmp 66]) rfl ?_); (try (refine gate_guard (by rfl) ?_; dsimp only)); at_builtin; refine Kd.R_append Kd.string (w0 := w) w.heap.size rfl (.tmp 64) (.tmp 66) 45 9 (.string ⟨#[]⟩) 16 rfl Tryz.underlying45 info9 rfl (by decide) (by omega) u10 x10_1 t229 [.string t229] (fun _ => True) (fun _ => False) rfl rfl ?aP (fun _ hk => hk.elim) ?aF ?aO ?aB ?aS ?aL ?_; (case aP => exact rfl); (case aB => exact HB.out); (case aF => exact (fun _ _ => trivial)); (case aO => exact (by ((exact HO_10.out)))); (case aS => exact (below_size HB.out)); (case aL => have := LMc26.out; omega); intro v233 w27 ho hb hg hat; rw [← Ny232.out] at ho; have n0_ := Aside0.mk (hb); have n1_ := Aside0.mk (ho); clear HB; clear HO_10; have HB := n0_; have HO234 := n1_; clear n0_ n1_; clear ho hb hg hat)))
           go_roundg kj14
           case measure => have := HK1.out; have := HJ10.out; have := HJ14.out; omega
           case rel => exact ⟨(t230), (y232), (wrap64 (x12_1 + 1)), (by rfl), (by rfl), H', ⟨by have := HK1.out; have := HJ10.out; have := HJ14.out; omega⟩, ⟨by (with_reducible repeat ((apply Kd.R_alloc))); exact HO234.out⟩, ⟨HB.out⟩⟩
       ·replace c13 := Bool.eq_false_iff.mpr c13
        subst c13
        rw [if_neg ff_] at H
        by_cases c28 : (bt t228 x12_1) = 116
        ·rw [if_pos c28] at H
         have c28b0 : ((bt t228 x12_1) == 116) = true := beq_iff_eq.mpr c28
         have c28b1 : ((bt t228 x12_1) != 116) = false := bne_eq_false_iff_eq.mpr c28
         clear c28
         obtain ⟨c29, H⟩ := gd_ H
         have c29b0 := eq_true c29
         have c29b1 : decide (0 ≤ x1_1) = true := decide_eq_true c29
         clear c29
         obtain ⟨c30, H⟩ := gd_ H
         have c30b0 := eq_true c30
         have c30b1 : decide (x1_1 ≤ ((a0.extract 0 (a2 : Int).toNat).size : Int)) = true := decide_eq_true c30
         (try have c30b1v := c30b1)
         (try simp only [ByteArray.size_extract, Nat.sub_zero] at c30b1v)
         (try have c30b1w := eq_true (of_decide_eq_true c30b1v))
         clear c30
         replace H := Option.bind_eq_some_iff.mp H
         obtain ⟨⟨t235, t236⟩, A310, H⟩ := H
         replace H : (if t236 = 0 then (beadrollref10_Read.j3 kj10 (a0.extract 0 (a2 : Int).toNat) x1_1 a2 x10_1 t228 x12_1 ((t235.length : Int) == 0)) else (beadrollref10_Read.j3 kj10 (a0.extract 0 (a2 : Int).toNat) x1_1 a2 x10_1 t228 x12_1 true)) = some (r1, r2) := H
         have A31 := Aside0.mk A310
         clear A310
         have HC32 := Aside0.mk H
         clear H
         go_upto_region 19 with ((((with_reducible refine gate_callee (f := 167) rfl ?_); refine goesL_ (some 75) rfl rfl Tryz.func167 (by kernel_rfl) rfl #[.string ((a0.extract 0 (a2 : Int).toNat).extract (x1_1 : Int).toNat (a0.extract 0 (a2 : Int).toNat).size), .int .i64 1] rfl (by (try simp only [List.map_toArray, List.map_cons, List.map_nil]); (simp only [ByteArray.size_extract, Nat.sub_zero]; rfl)) ?_; (with_reducible refine (beadrollref01_Pieces.calls kj10 ((a0.extract 0 (a2 : Int).toNat).extract (x1_1 : Int).toNat (a0.extract 0 (a2 : Int).toNat).size) 1 t235 t236 _ A31.out).mono ?_); rintro e w33 ⟨v237, rfl, ho0, hb⟩; refine ⟨_, rfl, ?_⟩; have HO238 := Aside0.mk (Kd.R_lower (Kd.R_new' ho0 (Kd.R_lt (by ((exact HO_10.out))))) (below_size HB.out)); replace HO_10 := Aside0.mk (Kd.R_elder' (by ((exact HO_10.out))) (Kd.R_base ho0) hb); replace HB := Aside0.mk (below_step HB.out hb); (try clear hb); (try clear ho0))))
         go_cut [84] (fun v84 wc => ∃ (kq : Nat) (x84_31 : Bool), v84 = .bool x84_31 ∧ Aside0 (beadrollref10_Read.j3 kq (a0.extract 0 (a2 : Int).toNat) x1_1 a2 x10_1 t228 x12_1 x84_31 = some (r1, r2)) ∧ Aside0 (kq ≤ kj10) ∧ Aside0 (Kd.R Kd.string 9 wc w.heap.size (fun _ => True) u10 x10_1) ∧ Aside0 (Below w.heap.size w wc))
         case first =>
          have H := HC32.out
          clear HC32
          by_cases c34 : t236 = 0
          focus
           rw [if_pos c34] at H
           have c34b0 : (t236 == 0) = true := beq_iff_eq.mpr c34
           have c34b1 : (t236 != 0) = false := bne_eq_false_iff_eq.mpr c34
           clear c34
          rotate_left
          focus
           rw [if_neg c34] at H
           have c34b0 : (t236 == 0) = false := beq_eq_false_iff_ne.mpr c34
           have c34b1 : (t236 != 0) = true := bne_iff_ne.mpr c34
          rotate_left
          all_goals
           (skip)
           have H' := Aside0.mk H
           clear H
          ·obtain ⟨Ao35, co35, eo35⟩ := Kd.R_slice HO238.out
           subst eo35
           go_wp2
           go_meet
           case rel => exact ⟨_, (((t235.length : Int) == 0)), (by rfl), H', ⟨by have := HK1.out; have := HJ10.out; omega⟩, ⟨by (with_reducible repeat ((apply Kd.R_alloc))); exact Kd.R_mono HO_10.out (fun _ hk => trivial)⟩, ⟨HB.out⟩⟩
          ·go_wp2
           go_meet
           case rel => exact ⟨_, (true), (by rfl), H', ⟨by have := HK1.out; have := HJ10.out; omega⟩, ⟨by (with_reducible repeat ((apply Kd.R_alloc))); exact Kd.R_mono HO_10.out (fun _ hk => trivial)⟩, ⟨HB.out⟩⟩
         case rest =>
          clear HC32
          (try clear c28b0)
          (try clear c28b1)
          (try clear c29b0)
          (try clear c29b1)
          (try clear c30b0)
          (try clear c30b1)
          obtain ⟨kq, x84_31, rfl, HA, HJ31, HO_10, HB⟩ := hcut
          cases kq with
          | zero => exact absurd HA.out (by simp [beadrollref10_Read.j3])
          | succ kj31 =>
           have H := HA.out
           clear HA
           simp only [beadrollref10_Read.j3] at H
           by_cases c36 : x84_31 = true
           ·subst c36
            rw [if_pos rfl] at H
            simp only [Option.some.injEq, Prod.mk.injEq] at H
            obtain ⟨rfl, rfl⟩ := H
            go_wp2
            go_ret2
            exact ⟨_, by rfl, by (exact Kd.R_nil _ _ _ _ _), HB.out⟩
           ·replace c36 := Bool.eq_false_iff.mpr c36
            subst c36
            rw [if_neg ff_] at H
            by_cases c37 : (wrap64 (x1_1 + (wrap64 (a2 - x1_1)))) > a2
            ·rw [if_pos c37] at H
             have c37b0 : decide (a2 < (wrap64 (x1_1 + (wrap64 (a2 - x1_1))))) = true := decide_eq_true c37
             clear c37
             simp only [Option.some.injEq, Prod.mk.injEq] at H
             obtain ⟨rfl, rfl⟩ := H
             go_wp2
             go_ret2
             exact ⟨_, by rfl, by (exact Kd.R_nil _ _ _ _ _), HB.out⟩
            ·rw [if_neg c37] at H
             have c37b0 : decide (a2 < (wrap64 (x1_1 + (wrap64 (a2 - x1_1))))) = false := decide_eq_false c37
             clear c37
             obtain ⟨c38, H⟩ := gd_ H
             have c38b0 := eq_true c38
             have c38b1 : decide (0 ≤ x1_1) = true := decide_eq_true c38
             clear c38
             obtain ⟨c39, H⟩ := gd_ H
             have c39b0 := eq_true c39
             have c39b1 : decide (x1_1 ≤ (wrap64 (x1_1 + (wrap64 (a2 - x1_1))))) = true := decide_eq_true c39
             obtain ⟨c40, H⟩ := gd_ H
             have c40b0 := eq_true c40
             have c40b1 : decide ((wrap64 (x1_1 + (wrap64 (a2 - x1_1)))) ≤ ((a0.extract 0 (a2 : Int).toNat).size : Int)) = true := decide_eq_true c40
             (try have c40b1v := c40b1)
             (try simp only [ByteArray.size_extract, Nat.sub_zero] at c40b1v)
             (try have c40b1w := eq_true (of_decide_eq_true c40b1v))
             obtain ⟨c41, H⟩ := gd_ H
             have LMc41 := Aside0.mk c41
             clear c41
             obtain ⟨y239, hy239⟩ : ∃ y_ : List ByteArray, y_ = (x10_1 ++ [(a0.extract 0 (a2 : Int).toNat).extract (x1_1 : Int).toNat ((wrap64 (x1_1 + (wrap64 (a2 - x1_1)))) : Int).toNat]) := ⟨_, rfl⟩
             replace H : (beadrollref10_Read.l0 kj31 (a0.extract 0 (a2 : Int).toNat) (wrap64 (x1_1 + (wrap64 (a2 - x1_1)))) a2 y239 t228 (wrap64 (x12_1 + 1))) = some (r1, r2) := by (rw [hy239]; with_reducible exact H)
             have Ny239 := Aside0.mk hy239
             clear hy239
             have H' := Aside0.mk H
             clear H
             go_wp2_with ((((with_reducible refine gate_builtin (b := .append) (xs := #[.tmp 100, .tmp 107]) rfl ?_); (try (refine gate_guard (by rfl) ?_; dsimp only)); at_builtin; refine Kd.R_append Kd.string (w0 := w) w.heap.size rfl (.tmp 100) (.tmp 107) 45 9 (.string ⟨#[]⟩) 16 rfl Tryz.underlying45 info9 rfl (by decide) (by omega) u10 x10_1 ((a0.extract 0 (a2 : Int).toNat).extract (x1_1 : Int).toNat ((wrap64 (x1_1 + (wrap64 (a2 - x1_1)))) : Int).toNat) [.string ((a0.extract 0 (a2 : Int).toNat).extract (x1_1 : Int).toNat ((wrap64 (x1_1 + (wrap64 (a2 - x1_1)))) : Int).toNat)] (fun _ => True) (fun _ => False) rfl rfl ?aP (fun _ hk => hk.elim) ?aF ?aO ?aB ?aS ?aL ?_; (case aP => exact rfl); (case aB => exact HB.out); (case aF => exact (fun _ _ => trivial)); (case aO => exact (by ((exact HO_10.out)))); (case aS => exact (below_size HB.out)); (case aL => have := LMc41.out; omega); intro v240 w42 ho hb hg hat; rw [← Ny239.out] at ho; have n0_ := Aside0.mk (hb); have n1_ := Aside0.mk (ho); clear HB; clear HO_10; have HB := n0_; have HO241 := n1_; clear n0_ n1_; clear ho hb hg hat)))
             go_roundg kj31
             case measure => have := HK1.out; have := HJ10.out; have := HJ31.out; omega
             case rel => exact ⟨(wrap64 (x1_1 + (wrap64 (a2 - x1_1)))), (y239), (wrap64 (x12_1 + 1)), (by rfl), (by rfl), H', ⟨by have := HK1.out; have := HJ10.out; have := HJ31.out; omega⟩, ⟨by (with_reducible repeat ((apply Kd.R_alloc))); exact HO241.out⟩, ⟨HB.out⟩⟩
        ·rw [if_neg c28] at H
         have c28b0 : ((bt t228 x12_1) == 116) = false := beq_eq_false_iff_ne.mpr c28
         have c28b1 : ((bt t228 x12_1) != 116) = true := bne_iff_ne.mpr c28
         by_cases c43 : (bt t228 x12_1) = 111
         ·rw [if_pos c43] at H
          have c43b0 : ((bt t228 x12_1) == 111) = true := beq_iff_eq.mpr c43
          have c43b1 : ((bt t228 x12_1) != 111) = false := bne_eq_false_iff_eq.mpr c43
          clear c43
          by_cases c44 : (wrap64 (x1_1 + (wrap64 (a2 - x1_1)))) > a2
          ·rw [if_pos c44] at H
           have c44b0 : decide (a2 < (wrap64 (x1_1 + (wrap64 (a2 - x1_1))))) = true := decide_eq_true c44
           clear c44
           simp only [Option.some.injEq, Prod.mk.injEq] at H
           obtain ⟨rfl, rfl⟩ := H
           go_wp2
           go_ret2
           exact ⟨_, by rfl, by (exact Kd.R_nil _ _ _ _ _), HB.out⟩
          ·rw [if_neg c44] at H
           have c44b0 : decide (a2 < (wrap64 (x1_1 + (wrap64 (a2 - x1_1))))) = false := decide_eq_false c44
           clear c44
           obtain ⟨c45, H⟩ := gd_ H
           have c45b0 := eq_true c45
           have c45b1 : decide (0 ≤ x1_1) = true := decide_eq_true c45
           clear c45
           obtain ⟨c46, H⟩ := gd_ H
           have c46b0 := eq_true c46
           have c46b1 : decide (x1_1 ≤ (wrap64 (x1_1 + (wrap64 (a2 - x1_1))))) = true := decide_eq_true c46
           obtain ⟨c47, H⟩ := gd_ H
           have c47b0 := eq_true c47
           have c47b1 : decide ((wrap64 (x1_1 + (wrap64 (a2 - x1_1)))) ≤ ((a0.extract 0 (a2 : Int).toNat).size : Int)) = true := decide_eq_true c47
           (try have c47b1v := c47b1)
           (try simp only [ByteArray.size_extract, Nat.sub_zero] at c47b1v)
           (try have c47b1w := eq_true (of_decide_eq_true c47b1v))
           obtain ⟨c48, H⟩ := gd_ H
           have LMc48 := Aside0.mk c48
           clear c48
           obtain ⟨y242, hy242⟩ : ∃ y_ : List ByteArray, y_ = (x10_1 ++ [(a0.extract 0 (a2 : Int).toNat).extract (x1_1 : Int).toNat ((wrap64 (x1_1 + (wrap64 (a2 - x1_1)))) : Int).toNat]) := ⟨_, rfl⟩
           replace H : (beadrollref10_Read.l0 kj10 (a0.extract 0 (a2 : Int).toNat) (wrap64 (x1_1 + (wrap64 (a2 - x1_1)))) a2 y242 t228 (wrap64 (x12_1 + 1))) = some (r1, r2) := by (rw [hy242]; with_reducible exact H)
           have Ny242 := Aside0.mk hy242
           clear hy242
           have H' := Aside0.mk H
           clear H
           go_wp2_with ((((with_reducible refine gate_builtin (b := .append) (xs := #[.tmp 100, .tmp 107]) rfl ?_); (try (refine gate_guard (by rfl) ?_; dsimp only)); at_builtin; refine Kd.R_append Kd.string (w0 := w) w.heap.size rfl (.tmp 100) (.tmp 107) 45 9 (.string ⟨#[]⟩) 16 rfl Tryz.underlying45 info9 rfl (by decide) (by omega) u10 x10_1 ((a0.extract 0 (a2 : Int).toNat).extract (x1_1 : Int).toNat ((wrap64 (x1_1 + (wrap64 (a2 - x1_1)))) : Int).toNat) [.string ((a0.extract 0 (a2 : Int).toNat).extract (x1_1 : Int).toNat ((wrap64 (x1_1 + (wrap64 (a2 - x1_1)))) : Int).toNat)] (fun _ => True) (fun _ => False) rfl rfl ?aP (fun _ hk => hk.elim) ?aF ?aO ?aB ?aS ?aL ?_; (case aP => exact rfl); (case aB => exact HB.out); (case aF => exact (fun _ _ => trivial)); (case aO => exact (by ((exact HO_10.out)))); (case aS => exact (below_size HB.out)); (case aL => have := LMc48.out; omega); intro v243 w49 ho hb hg hat; rw [← Ny242.out] at ho; have n0_ := Aside0.mk (hb); have n1_ := Aside0.mk (ho); clear HB; clear HO_10; have HB := n0_; have HO244 := n1_; clear n0_ n1_; clear ho hb hg hat)))
           go_roundg kj10
           case measure => have := HK1.out; have := HJ10.out; omega
           case rel => exact ⟨(wrap64 (x1_1 + (wrap64 (a2 - x1_1)))), (y242), (wrap64 (x12_1 + 1)), (by rfl), (by rfl), H', ⟨by have := HK1.out; have := HJ10.out; omega⟩, ⟨by (with_reducible repeat ((apply Kd.R_alloc))); exact HO244.out⟩, ⟨HB.out⟩⟩
         ·rw [if_neg c43] at H
          have c43b0 : ((bt t228 x12_1) == 111) = false := beq_eq_false_iff_ne.mpr c43
          have c43b1 : ((bt t228 x12_1) != 111) = true := bne_iff_ne.mpr c43
          by_cases c50 : (bt t228 x12_1) = 104
          ·rw [if_pos c50] at H
           have c50b0 : ((bt t228 x12_1) == 104) = true := beq_iff_eq.mpr c50
           have c50b1 : ((bt t228 x12_1) != 104) = false := bne_eq_false_iff_eq.mpr c50
           clear c50
           by_cases c51 : (wrap64 (x1_1 + 16)) > a2
           ·rw [if_pos c51] at H
            have c51b0 : decide (a2 < (wrap64 (x1_1 + 16))) = true := decide_eq_true c51
            clear c51
            simp only [Option.some.injEq, Prod.mk.injEq] at H
            obtain ⟨rfl, rfl⟩ := H
            go_wp2
            go_ret2
            exact ⟨_, by rfl, by (exact Kd.R_nil _ _ _ _ _), HB.out⟩
           ·rw [if_neg c51] at H
            have c51b0 : decide (a2 < (wrap64 (x1_1 + 16))) = false := decide_eq_false c51
            clear c51
            obtain ⟨c52, H⟩ := gd_ H
            have c52b0 := eq_true c52
            have c52b1 : decide (0 ≤ x1_1) = true := decide_eq_true c52
            clear c52
            obtain ⟨c53, H⟩ := gd_ H
            have c53b0 := eq_true c53
            have c53b1 : decide (x1_1 ≤ (wrap64 (x1_1 + 16))) = true := decide_eq_true c53
            obtain ⟨c54, H⟩ := gd_ H
            have c54b0 := eq_true c54
            have c54b1 : decide ((wrap64 (x1_1 + 16)) ≤ ((a0.extract 0 (a2 : Int).toNat).size : Int)) = true := decide_eq_true c54
            (try have c54b1v := c54b1)
            (try simp only [ByteArray.size_extract, Nat.sub_zero] at c54b1v)
            (try have c54b1w := eq_true (of_decide_eq_true c54b1v))
            obtain ⟨c55, H⟩ := gd_ H
            have LMc55 := Aside0.mk c55
            clear c55
            obtain ⟨y245, hy245⟩ : ∃ y_ : List ByteArray, y_ = (x10_1 ++ [(a0.extract 0 (a2 : Int).toNat).extract (x1_1 : Int).toNat ((wrap64 (x1_1 + 16)) : Int).toNat]) := ⟨_, rfl⟩
            replace H : (beadrollref10_Read.l0 kj10 (a0.extract 0 (a2 : Int).toNat) (wrap64 (x1_1 + 16)) a2 y245 t228 (wrap64 (x12_1 + 1))) = some (r1, r2) := by (rw [hy245]; with_reducible exact H)
            have Ny245 := Aside0.mk hy245
            clear hy245
            have H' := Aside0.mk H
            clear H
            go_wp2_with ((((with_reducible refine gate_builtin (b := .append) (xs := #[.tmp 100, .tmp 107]) rfl ?_); (try (refine gate_guard (by rfl) ?_; dsimp only)); at_builtin; refine Kd.R_append Kd.string (w0 := w) w.heap.size rfl (.tmp 100) (.tmp 107) 45 9 (.string ⟨#[]⟩) 16 rfl Tryz.underlying45 info9 rfl (by decide) (by omega) u10 x10_1 ((a0.extract 0 (a2 : Int).toNat).extract (x1_1 : Int).toNat ((wrap64 (x1_1 + 16)) : Int).toNat) [.string ((a0.extract 0 (a2 : Int).toNat).extract (x1_1 : Int).toNat ((wrap64 (x1_1 + 16)) : Int).toNat)] (fun _ => True) (fun _ => False) rfl rfl ?aP (fun _ hk => hk.elim) ?aF ?aO ?aB ?aS ?aL ?_; (case aP => exact rfl); (case aB => exact HB.out); (case aF => exact (fun _ _ => trivial)); (case aO => exact (by ((exact HO_10.out)))); (case aS => exact (below_size HB.out)); (case aL => have := LMc55.out; omega); intro v246 w56 ho hb hg hat; rw [← Ny245.out] at ho; have n0_ := Aside0.mk (hb); have n1_ := Aside0.mk (ho); clear HB; clear HO_10; have HB := n0_; have HO247 := n1_; clear n0_ n1_; clear ho hb hg hat)))
            go_roundg kj10
            case measure => have := HK1.out; have := HJ10.out; omega
            case rel => exact ⟨(wrap64 (x1_1 + 16)), (y245), (wrap64 (x12_1 + 1)), (by rfl), (by rfl), H', ⟨by have := HK1.out; have := HJ10.out; omega⟩, ⟨by (with_reducible repeat ((apply Kd.R_alloc))); exact HO247.out⟩, ⟨HB.out⟩⟩
          ·rw [if_neg c50] at H
           have c50b0 : ((bt t228 x12_1) == 104) = false := beq_eq_false_iff_ne.mpr c50
           have c50b1 : ((bt t228 x12_1) != 104) = true := bne_iff_ne.mpr c50
           obtain ⟨c57b0, H⟩ := gdd_ H
           obtain ⟨c58b0, H⟩ := gdd_ H
           by_cases c60 : (wrap64 (x1_1 + (wrap64 ((wrap64 (bt t228 x12_1)) - 48)))) > a2
           focus
            rw [if_pos c60] at H
            have c60b0 : decide (a2 < (wrap64 (x1_1 + (wrap64 ((wrap64 (bt t228 x12_1)) - 48))))) = true := decide_eq_true c60
            clear c60
            simp only [Option.some.injEq, Prod.mk.injEq] at H
            obtain ⟨rfl, rfl⟩ := H
           rotate_left
           focus
            rw [if_neg c60] at H
            have c60b0 : decide (a2 < (wrap64 (x1_1 + (wrap64 ((wrap64 (bt t228 x12_1)) - 48))))) = false := decide_eq_false c60
            clear c60
            obtain ⟨c61, H⟩ := gd_ H
            have c61b0 := eq_true c61
            have c61b1 : decide (0 ≤ x1_1) = true := decide_eq_true c61
            clear c61
            obtain ⟨c62, H⟩ := gd_ H
            have c62b0 := eq_true c62
            have c62b1 : decide (x1_1 ≤ (wrap64 (x1_1 + (wrap64 ((wrap64 (bt t228 x12_1)) - 48))))) = true := decide_eq_true c62
            obtain ⟨c63, H⟩ := gd_ H
            have c63b0 := eq_true c63
            have c63b1 : decide ((wrap64 (x1_1 + (wrap64 ((wrap64 (bt t228 x12_1)) - 48)))) ≤ ((a0.extract 0 (a2 : Int).toNat).size : Int)) = true := decide_eq_true c63
            (try have c63b1v := c63b1)
            (try simp only [ByteArray.size_extract, Nat.sub_zero] at c63b1v)
            (try have c63b1w := eq_true (of_decide_eq_true c63b1v))
            obtain ⟨c64, H⟩ := gd_ H
            have LMc64 := Aside0.mk c64
            clear c64
            obtain ⟨y248, hy248⟩ : ∃ y_ : List ByteArray, y_ = (x10_1 ++ [(a0.extract 0 (a2 : Int).toNat).extract (x1_1 : Int).toNat ((wrap64 (x1_1 + (wrap64 ((wrap64 (bt t228 x12_1)) - 48)))) : Int).toNat]) := ⟨_, rfl⟩
            replace H : (beadrollref10_Read.l0 kj10 (a0.extract 0 (a2 : Int).toNat) (wrap64 (x1_1 + (wrap64 ((wrap64 (bt t228 x12_1)) - 48)))) a2 y248 t228 (wrap64 (x12_1 + 1))) = some (r1, r2) := by (rw [hy248]; with_reducible exact H)
            have Ny248 := Aside0.mk hy248
            clear hy248
            have H' := Aside0.mk H
            clear H
           rotate_left
           all_goals
            have p59 : 0 ≤ (x12_1 : Int) := of_decide_eq_true (by assumption)
            have q59 : x12_1 < (t228.size : Int) := of_decide_eq_true (by assumption)
            have hx59 := bt_at t228 x12_1
            replace p59 := eq_true p59
            replace q59 := eq_true q59
           ·go_wp2
            go_ret2
            exact ⟨_, by rfl, by (exact Kd.R_nil _ _ _ _ _), HB.out⟩
           ·go_wp2_with ((((with_reducible refine gate_builtin (b := .append) (xs := #[.tmp 100, .tmp 107]) rfl ?_); (try (refine gate_guard (by rfl) ?_; dsimp only)); at_builtin; refine Kd.R_append Kd.string (w0 := w) w.heap.size rfl (.tmp 100) (.tmp 107) 45 9 (.string ⟨#[]⟩) 16 rfl Tryz.underlying45 info9 rfl (by decide) (by omega) u10 x10_1 ((a0.extract 0 (a2 : Int).toNat).extract (x1_1 : Int).toNat ((wrap64 (x1_1 + (wrap64 ((wrap64 (bt t228 x12_1)) - 48)))) : Int).toNat) [.string ((a0.extract 0 (a2 : Int).toNat).extract (x1_1 : Int).toNat ((wrap64 (x1_1 + (wrap64 ((wrap64 (bt t228 x12_1)) - 48)))) : Int).toNat)] (fun _ => True) (fun _ => False) rfl rfl ?aP (fun _ hk => hk.elim) ?aF ?aO ?aB ?aS ?aL ?_; (case aP => exact rfl); (case aB => exact HB.out); (case aF => exact (fun _ _ => trivial)); (case aO => exact (by ((exact HO_10.out)))); (case aS => exact (below_size HB.out)); (case aL => have := LMc64.out; omega); intro v249 w65 ho hb hg hat; rw [← Ny248.out] at ho; have n0_ := Aside0.mk (hb); have n1_ := Aside0.mk (ho); clear HB; clear HO_10; have HB := n0_; have HO250 := n1_; clear n0_ n1_; clear ho hb hg hat)))
            go_roundg kj10
            case measure => have := HK1.out; have := HJ10.out; omega
            case rel => exact ⟨(wrap64 (x1_1 + (wrap64 ((wrap64 (bt t228 x12_1)) - 48)))), (y248), (wrap64 (x12_1 + 1)), (by rfl), (by rfl), H', ⟨by have := HK1.out; have := HJ10.out; omega⟩, ⟨by (with_reducible repeat ((apply Kd.R_alloc))); exact HO250.out⟩, ⟨HB.out⟩⟩
    ·rw [if_neg c8] at H
     have c8b0 : decide (x12_1 < (t228.size : Int)) = false := decide_eq_false c8
     clear c8
     simp only [Option.some.injEq, Prod.mk.injEq] at H
     obtain ⟨rfl, rfl⟩ := H
     go_wp2
     go_ret2
     exact ⟨_, by rfl, by (with_reducible repeat ((apply Kd.R_alloc))); exact HO_10.out, HB.out⟩
end Go.Proofs.YtjmpckommjlnlaaGreat.PRd
namespace Go.Proofs.YtjmpckommjlnlaaGreat.PRd
open Go.RowKit Go.Proofs.YtjmpckommjlnlaaGreatW.PrintWords Go.Proofs.YtjmpckommjlnlaaGreatW.PrintLast Go.Proofs.YtjmpckommjlnlaaGreatW.PrintMore Go.Proofs.YtjmpckommjlnlaaGreat.Given
attribute [local go_sem] max2_int min2_int max_two min_two max_three min_three max_four min_four   -- for this text's walks alone
set_option linter.unusedVariables false
set_option linter.unusedSimpArgs false
def beadrollref10_join.l0 : Nat → List ByteArray → ByteArray → Int → Option (ByteArray)
 | 0, _, _, _ => none
 | k + 1, x0, x3, x4 => if x4 < (x0.length : Int) then (if 0 ≤ x4 then (if x3.size + (rdOf ByteArray.empty x0 x4).size ≤ 9223372036854775807 then (beadrollref10_join.l0 k x0 (x3 ++ (rdOf ByteArray.empty x0 x4)) (wrap64 (x4 + 1))) else (none)) else (none)) else (some x3)
def beadrollref10_join.f (k : Nat) (l0 : List ByteArray) : Option (ByteArray) := beadrollref10_join.l0 k l0 (⟨#[]⟩ : ByteArray) 0
set_option maxHeartbeats 8000000 in
set_option maxRecDepth 100000 in
theorem beadrollref10_join.calls (k : Nat) (A0 : Option Addr) (c0 : Nat) (l0 : List ByteArray) (r : ByteArray) (w : World) (hr0 : Kd.C Kd.string w A0 l0.length l0) (hc0 : l0.length ≤ c0) (h : beadrollref10_join.f k l0 = some r) :
    Calls Tryz.prog 194 #[.slice A0 l0.length c0] w fun e w' => e = .returned (.string r) ∧ Drawn0 w w' := by
  have HR0 := Aside0.mk hr0
  have HC0 := Aside0.mk hc0
  clear hr0 hc0
  have H : (beadrollref10_join.l0 k l0 (⟨#[]⟩ : ByteArray) 0) = some r := h
  clear h
  have H' := Aside0.mk H
  clear H
  go_enter Tryz.func194, Tryz.ntmps194
  go_wp2
  go_loopg [3, 4] k (fun kq v3 v4 w' => ∃ (x3_1 : ByteArray) (x4_1 : Int), v3 = .string x3_1 ∧ v4 = .int .i64 x4_1 ∧ Aside0 (beadrollref10_join.l0 kq l0 x3_1 x4_1 = some r) ∧ Aside0 (kq ≤ k) ∧ Drawn0 w w')
  case atStart => exact ⟨((⟨#[]⟩ : ByteArray)), (0), (by rfl), (by rfl), H', ⟨Nat.le_refl _⟩, by repeat ((exact Drawn0.refl _))⟩
  case round =>
   clear H'
   obtain ⟨x3_1, x4_1, rfl, rfl, HA, HK1, ⟨m1, rfl⟩⟩ := hrel
   cases gk with
   | zero => exact absurd HA.out (by simp [beadrollref10_join.l0])
   | succ k1 =>
    have H := HA.out
    clear HA
    simp only [beadrollref10_join.l0] at H
    by_cases c2 : x4_1 < (l0.length : Int)
    ·rw [if_pos c2] at H
     have c2b0 : decide (x4_1 < (l0.length : Int)) = true := decide_eq_true c2
     clear c2
     obtain ⟨c3b0, H⟩ := gdd_ H
     obtain ⟨c4, H⟩ := gd_ H
     have c4b0 := eq_true c4
     have c4b1 : decide (x3_1.size + (rdOf ByteArray.empty l0 x4_1).size ≤ 9223372036854775807) = true := decide_eq_true c4
     (try have c4b2 : (9223372036854775807 < x3_1.size + (rdOf ByteArray.empty l0 x4_1).size) = False := eq_false (Nat.not_lt.2 c4))
     have H' := Aside0.mk H
     clear H
     have p251 : 0 ≤ (x4_1 : Int) := of_decide_eq_true (by assumption)
     have q251 : x4_1 < (l0.length : Int) := of_decide_eq_true (by assumption)
     obtain ⟨ad251, e251, hx251_0⟩ := Kd.at_string HR0.out x4_1 p251 q251
     cases e251
     replace p251 := eq_true p251
     replace q251 := eq_true q251
     go_wp2
     go_roundg k1
     case measure => have := HK1.out; omega
     case rel => exact ⟨(x3_1 ++ (rdOf ByteArray.empty l0 x4_1)), (wrap64 (x4_1 + 1)), (by rfl), (by rfl), H', ⟨by have := HK1.out; omega⟩, by repeat (first | exact Drawn0.refl _ | apply Drawn0.step)⟩
    ·rw [if_neg c2] at H
     have c2b0 : decide (x4_1 < (l0.length : Int)) = false := decide_eq_false c2
     clear c2
     obtain rfl := Option.some.inj H
     go_wp2
     go_ret
     exact ⟨by rfl, by repeat (first | exact Drawn0.refl _ | apply Drawn0.step)⟩
def beadrollref10_Whole.f (k : Nat) (a0 : ByteArray) (a1 : Int) (a2 : Int) (a3 : Int) : Option (ByteArray × Bool) := (beadrollref10_Read.f k a0 a1 a2 a3).bind fun bt252 => ((beadrollref10_join.f k bt252.1).bind fun t256 => (if bt252.2 = true then (some (t256, decide ((t256.size : Int) ≤ 65535))) else (some (t256, false))))
set_option maxHeartbeats 8000000 in
set_option maxRecDepth 100000 in
theorem beadrollref10_Whole.calls (k : Nat) (a0 : ByteArray) (a1 : Int) (a2 : Int) (a3 : Int) (r1 : ByteArray) (r2 : Bool) (w : World) (h : beadrollref10_Whole.f k a0 a1 a2 a3 = some (r1, r2)) :
    Calls Tryz.prog 155 #[.string a0, .int .i64 a1, .int .i64 a2, .int .i64 a3] w fun e w' => e = .returned (.tuple #[.string r1, .bool r2]) ∧ Below w.heap.size w w' := by
  have HB := Aside0.mk (Below.refl w.heap.size w)
  have H : ((beadrollref10_Read.f k a0 a1 a2 a3).bind fun bt252 => ((beadrollref10_join.f k bt252.1).bind fun t256 => (if bt252.2 = true then (some (t256, decide ((t256.size : Int) ≤ 65535))) else (some (t256, false))))) = some (r1, r2) := h
  clear h
  replace H := Option.bind_eq_some_iff.mp H
  obtain ⟨⟨t252, t253⟩, A50, H⟩ := H
  replace H : ((beadrollref10_join.f k t252).bind fun t256 => (if t253 = true then (some (t256, decide ((t256.size : Int) ≤ 65535))) else (some (t256, false)))) = some (r1, r2) := H
  have A5 := Aside0.mk A50
  clear A50
  obtain ⟨t256, A6, H⟩ := bnd_ H
  by_cases c7 : t253 = true
  focus
   subst c7
   rw [if_pos rfl] at H
  rotate_left
  focus
   replace c7 := Bool.eq_false_iff.mpr c7
   subst c7
   rw [if_neg ff_] at H
  rotate_left
  all_goals
   simp only [Option.some.injEq, Prod.mk.injEq] at H
   obtain ⟨rfl, rfl⟩ := H
   go_enter Tryz.func155, Tryz.ntmps155
   go_wp2_with (first | (refine gl_ (some 18) Tryz.func125 #[.string a0, .int .i64 a1, .int .i64 a2, .int .i64 a3] ?_; (with_reducible refine (beadrollref10_Read.calls k a0 a1 a2 a3 t252 _ _ A5.out).mono ?_); rintro e w8 ⟨v254, rfl, ho0, hb⟩; refine ⟨_, rfl, ?_⟩; have HO255 := Aside0.mk (Kd.R_lower ho0 (below_size HB.out)); replace HB := Aside0.mk (below_step HB.out hb); (try clear hb); (try clear ho0); obtain ⟨Ao9, co9, eo9⟩ := Kd.R_slice HO255.out; subst eo9) | (refine gl_ (some 22) Tryz.func194 #[.slice Ao9 t252.length co9] ?_; (with_reducible refine (beadrollref10_join.calls k _ _ t252 t256 _ ?side1 ?side2 A6.out).mono ?_); (case side1 => exact (Kd.R_reads' HO255.out).2.2); (case side2 => exact (Kd.R_reads' HO255.out).2.1); rintro e w' ⟨rfl, ⟨nd, rfl⟩⟩; refine ⟨_, rfl, ?_⟩))
   go_ret2
   exact ⟨by rfl, by repeat ((with_reducible first | exact HB.out | apply pw_below_drewN))⟩
def beadrollref10_Right.f (k : Nat) (a0 : Int) (a1 : ByteArray) : Option (Bool) := (beadrollref10_Whole.f k a1 0 (a1.size : Int) a0).bind fun bt257 => (if bt257.2 = true then (some (bt257.1.toList == a1.toList)) else (some false))
set_option maxHeartbeats 8000000 in
set_option maxRecDepth 100000 in
theorem beadrollref10_Right.calls (k : Nat) (a0 : Int) (a1 : ByteArray) (r : Bool) (w : World) (h : beadrollref10_Right.f k a0 a1 = some r) :
    Calls Tryz.prog 117 #[.int .i64 a0, .string a1] w fun e w' => e = .returned (.bool r) ∧ Below w.heap.size w w' := by
  have HB := Aside0.mk (Below.refl w.heap.size w)
  have H : ((beadrollref10_Whole.f k a1 0 (a1.size : Int) a0).bind fun bt257 => (if bt257.2 = true then (some (bt257.1.toList == a1.toList)) else (some false))) = some r := h
  clear h
  replace H := Option.bind_eq_some_iff.mp H
  obtain ⟨⟨t257, t258⟩, A30, H⟩ := H
  replace H : (if t258 = true then (some (t257.toList == a1.toList)) else (some false)) = some r := H
  have A3 := Aside0.mk A30
  clear A30
  by_cases c4 : t258 = true
  focus
   subst c4
   rw [if_pos rfl] at H
  rotate_left
  focus
   replace c4 := Bool.eq_false_iff.mpr c4
   subst c4
   rw [if_neg ff_] at H
  rotate_left
  all_goals
   obtain rfl := Option.some.inj H
   go_enter Tryz.func117, Tryz.ntmps117
   go_wp2_with (((refine gl_ (some 12) Tryz.func155 #[.string a1, .int .i64 0, .int .i64 (a1.size : Int), .int .i64 a0] ?_; (with_reducible refine (beadrollref10_Whole.calls k a1 0 (a1.size : Int) a0 t257 _ _ A3.out).mono ?_); rintro e w5 ⟨rfl, hb⟩; refine ⟨_, rfl, ?_⟩; replace HB := Aside0.mk (below_step HB.out hb); (try clear hb))))
   go_ret
   exact ⟨by rfl, HB.out⟩
def beadrollref07_lower.l0 : Nat → ByteArray → List Int → Int → Option (ByteArray)
 | 0, _, _, _ => none
 | k + 1, x0, x3, x4 => if x4 < (x0.size : Int) then (if 0 ≤ x4 then (if (bt x0 x4) ≥ 65 then (if (bt x0 x4) ≤ 90 then (if x3.length < 140737488355328 then (beadrollref07_lower.l0 k x0 (x3 ++ [((bt x0 x4) + 32) % 256]) (wrap64 (x4 + 1))) else (none)) else (if x3.length < 140737488355328 then (beadrollref07_lower.l0 k x0 (x3 ++ [bt x0 x4]) (wrap64 (x4 + 1))) else (none))) else (if x3.length < 140737488355328 then (beadrollref07_lower.l0 k x0 (x3 ++ [bt x0 x4]) (wrap64 (x4 + 1))) else (none))) else (none)) else (some (strOfNums x3))
def beadrollref07_lower.f (k : Nat) (a0 : ByteArray) : Option (ByteArray) := beadrollref07_lower.l0 k a0 ([] : List Int) 0
set_option maxHeartbeats 8000000 in
set_option maxRecDepth 100000 in
theorem beadrollref07_lower.calls (k : Nat) (a0 : ByteArray) (r : ByteArray) (w : World) (h : beadrollref07_lower.f k a0 = some r) :
    Calls Tryz.prog 127 #[.string a0] w fun e w' => e = .returned (.string r) ∧ Below w.heap.size w w' := by
  have HB := Aside0.mk (Below.refl w.heap.size w)
  have H : (beadrollref07_lower.l0 k a0 ([] : List Int) 0) = some r := h
  clear h
  have H' := Aside0.mk H
  clear H
  go_enter Tryz.func127, Tryz.ntmps127
  go_wp2
  go_loopg [3, 4] k (fun kq v3 v4 w' => ∃ (x3_1 : List Int) (x4_1 : Int), v4 = .int .i64 x4_1 ∧ Aside0 (beadrollref07_lower.l0 kq a0 x3_1 x4_1 = some r) ∧ Aside0 (kq ≤ k) ∧ Aside0 (Kd.R (Kd.int .u8) 5 w' w.heap.size (fun _ => True) v3 x3_1) ∧ Aside0 (Below w.heap.size w w'))
  case atStart => exact ⟨(([] : List Int)), (0), (by rfl), H', ⟨Nat.le_refl _⟩, ⟨by (exact Kd.R_nil _ _ _ _ _)⟩, ⟨HB.out⟩⟩
  case round =>
   clear H'
   obtain ⟨x3_1, x4_1, rfl, HA, HK1, HO_3, HB⟩ := hrel
   cases gk with
   | zero => exact absurd HA.out (by simp [beadrollref07_lower.l0])
   | succ k1 =>
    have H := HA.out
    clear HA
    simp only [beadrollref07_lower.l0] at H
    by_cases c2 : x4_1 < (a0.size : Int)
    ·rw [if_pos c2] at H
     have c2b0 : decide (x4_1 < (a0.size : Int)) = true := decide_eq_true c2
     clear c2
     obtain ⟨c3b0, H⟩ := gdd_ H
     by_cases c5 : (bt a0 x4_1) ≥ 65
     focus
      rw [if_pos c5] at H
      have c5b0 : decide (65 ≤ (bt a0 x4_1)) = true := decide_eq_true c5
      clear c5
      by_cases c6 : (bt a0 x4_1) ≤ 90
      focus
       rw [if_pos c6] at H
       have c6b0 : decide ((bt a0 x4_1) ≤ 90) = true := decide_eq_true c6
      rotate_left
      focus
       rw [if_neg c6] at H
       have c6b0 : decide ((bt a0 x4_1) ≤ 90) = false := decide_eq_false c6
      rotate_left
      all_goals
       clear c6
     rotate_left 2
     focus
      rw [if_neg c5] at H
      have c5b0 : decide (65 ≤ (bt a0 x4_1)) = false := decide_eq_false c5
      clear c5
     rotate_left
     all_goals
      obtain ⟨c7, H⟩ := gd_ H
      have LMc7 := Aside0.mk c7
      clear c7
     focus
      obtain ⟨y259, hy259⟩ : ∃ y_ : List Int, y_ = (x3_1 ++ [((bt a0 x4_1) + 32) % 256]) := ⟨_, rfl⟩
     rotate_left
     focus
      obtain ⟨y259, hy259⟩ : ∃ y_ : List Int, y_ = (x3_1 ++ [bt a0 x4_1]) := ⟨_, rfl⟩
     rotate_left
     focus
      obtain ⟨y259, hy259⟩ : ∃ y_ : List Int, y_ = (x3_1 ++ [bt a0 x4_1]) := ⟨_, rfl⟩
     rotate_left
     all_goals
      replace H : (beadrollref07_lower.l0 k1 a0 y259 (wrap64 (x4_1 + 1))) = some r := by (rw [hy259]; with_reducible exact H)
      have Ny259 := Aside0.mk hy259
      clear hy259
      have H' := Aside0.mk H
      clear H
      have p4 : 0 ≤ (x4_1 : Int) := of_decide_eq_true (by assumption)
      have q4 : x4_1 < (a0.size : Int) := of_decide_eq_true (by assumption)
      have hx4 := bt_at a0 x4_1
      replace p4 := eq_true p4
      replace q4 := eq_true q4
     focus
      go_wp2_with ((((with_reducible refine gate_builtin (b := .append) (xs := #[.tmp 23, .tmp 25]) rfl ?_); at_builtin; refine Kd.R_append (Kd.int .u8) (w0 := w) w.heap.size rfl (.tmp 23) (.tmp 25) 133 5 (.int .u8 0) 1 rfl Tryz.underlying133 info5 rfl (by decide) (by omega) u3 x3_1 (((bt a0 x4_1) + 32) % 256) [.int .u8 (((bt a0 x4_1) + 32) % 256)] (fun _ => True) (fun _ => False) rfl rfl ?aP (fun _ hk => hk.elim) ?aF ?aO ?aB ?aS ?aL ?_; (case aP => exact rfl); (case aB => exact HB.out); (case aF => exact (fun _ _ => trivial)); (case aO => exact (by ((exact HO_3.out)))); (case aS => exact (below_size HB.out)); (case aL => have := LMc7.out; omega); intro v260 w8 ho hb hg hat; rw [← Ny259.out] at ho; have n0_ := Aside0.mk (hb); have n1_ := Aside0.mk (ho); clear HB; clear HO_3; have HB := n0_; have HO261 := n1_; clear n0_ n1_; clear ho hb hg hat)))
     rotate_left
     focus
      go_wp2_with ((((with_reducible refine gate_builtin (b := .append) (xs := #[.tmp 23, .tmp 25]) rfl ?_); at_builtin; refine Kd.R_append (Kd.int .u8) (w0 := w) w.heap.size rfl (.tmp 23) (.tmp 25) 133 5 (.int .u8 0) 1 rfl Tryz.underlying133 info5 rfl (by decide) (by omega) u3 x3_1 (bt a0 x4_1) [.int .u8 (bt a0 x4_1)] (fun _ => True) (fun _ => False) rfl rfl ?aP (fun _ hk => hk.elim) ?aF ?aO ?aB ?aS ?aL ?_; (case aP => exact rfl); (case aB => exact HB.out); (case aF => exact (fun _ _ => trivial)); (case aO => exact (by ((exact HO_3.out)))); (case aS => exact (below_size HB.out)); (case aL => have := LMc7.out; omega); intro v263 w10 ho hb hg hat; rw [← Ny259.out] at ho; have n0_ := Aside0.mk (hb); have n1_ := Aside0.mk (ho); clear HB; clear HO_3; have HB := n0_; have HO261 := n1_; clear n0_ n1_; clear ho hb hg hat)))
     rotate_left
     focus
      go_wp2_with ((((with_reducible refine gate_builtin (b := .append) (xs := #[.tmp 23, .tmp 25]) rfl ?_); at_builtin; refine Kd.R_append (Kd.int .u8) (w0 := w) w.heap.size rfl (.tmp 23) (.tmp 25) 133 5 (.int .u8 0) 1 rfl Tryz.underlying133 info5 rfl (by decide) (by omega) u3 x3_1 (bt a0 x4_1) [.int .u8 (bt a0 x4_1)] (fun _ => True) (fun _ => False) rfl rfl ?aP (fun _ hk => hk.elim) ?aF ?aO ?aB ?aS ?aL ?_; (case aP => exact rfl); (case aB => exact HB.out); (case aF => exact (fun _ _ => trivial)); (case aO => exact (by ((exact HO_3.out)))); (case aS => exact (below_size HB.out)); (case aL => have := LMc7.out; omega); intro v266 w12 ho hb hg hat; rw [← Ny259.out] at ho; have n0_ := Aside0.mk (hb); have n1_ := Aside0.mk (ho); clear HB; clear HO_3; have HB := n0_; have HO261 := n1_; clear n0_ n1_; clear ho hb hg hat)))
     rotate_left
     all_goals
      go_roundg k1
      case measure => have := HK1.out; omega
      case rel => exact ⟨(y259), (wrap64 (x4_1 + 1)), (by rfl), H', ⟨by have := HK1.out; omega⟩, ⟨by (with_reducible repeat ((apply Kd.R_alloc))); exact HO261.out⟩, ⟨HB.out⟩⟩
    ·rw [if_neg c2] at H
     have c2b0 : decide (x4_1 < (a0.size : Int)) = false := decide_eq_false c2
     clear c2
     obtain rfl := Option.some.inj H
     have hcv13 := own_string (P := Tryz.prog) Tryz.underlying133 Tryz.underlying5 Tryz.underlying9 (Kd.own_of_R HO_3.out)
     go_wp2
     go_ret
     exact ⟨by rfl, HB.out⟩
def beadrollref07_Fold.l0 : Nat → List ByteArray → ByteArray → Int → Option (ByteArray)
 | 0, _, _, _ => none
 | k + 1, x3, x5, x6 => if x6 < (x3.length : Int) then (if 0 ≤ x6 then ((some (([(((rdOf ByteArray.empty x3 x6).size : Int)) % 256] : List Int) : List Int)).bind fun y273 => ((beadrollref07_lower.f k (rdOf ByteArray.empty x3 x6)).bind fun t277 => (if (strOfNums y273).size + t277.size ≤ 9223372036854775807 then (if x5.size + ((strOfNums y273) ++ t277).size ≤ 9223372036854775807 then (beadrollref07_Fold.l0 k x3 (x5 ++ ((strOfNums y273) ++ t277)) (wrap64 (x6 + 1))) else (none)) else (none)))) else (none)) else (if x5.size + 1 ≤ 9223372036854775807 then (some (x5 ++ (⟨#[0]⟩ : ByteArray))) else (none))
def beadrollref07_Fold.f (k : Nat) (a0 : ByteArray) : Option (ByteArray) := (beadrollref07_Labels.f k a0).bind fun bt268 => (if bt268.2 = true then (beadrollref07_Fold.l0 k bt268.1 (⟨#[]⟩ : ByteArray) 0) else (some (⟨#[]⟩ : ByteArray)))
def beadrollref07_Fold.T8 : Bool × List (List Nat × List Nat) := (true, [([], []), ([], []), ([], []), ([1, 2], [1, 2]), ([3], [3]), ([4], [4]), ([5], [5]), ([6], [6]), ([7], [7]), ([], []), ([], []), ([9, 10], [9, 10]), ([11], [11]), ([12], [12]), ([8, 13], [8, 13]), ([0, 14], [0, 14]), ([15, 13, 0, 1, 2, 3, 4, 5, 6, 7, 8, 9, 10, 11, 12, 13, 14, 15], [0, 15])])
def beadrollref07_Fold.B8 : List Nat := [0, 0, 0, 6, 14, 30, 62, 126, 254, 0, 0, 1536, 3584, 7680, 16382, 32767, 65535]
theorem beadrollref07_Fold.tab8 : rtab .any (opsOf Tryz.f75 8) = beadrollref07_Fold.T8 := by kernel_rfl
theorem beadrollref07_Fold.bits8 : waitsOk beadrollref07_Fold.T8.2 beadrollref07_Fold.B8 = true := by kernel_rfl
set_option maxHeartbeats 8000000 in
set_option maxRecDepth 100000 in
theorem beadrollref07_Fold.calls (k : Nat) (a0 : ByteArray) (r : ByteArray) (w : World) (h : beadrollref07_Fold.f k a0 = some r) :
    Calls Tryz.prog 75 #[.string a0] w fun e w' => e = .returned (.string r) ∧ Below w.heap.size w w' := by
  have HB := Aside0.mk (Below.refl w.heap.size w)
  have H : ((beadrollref07_Labels.f k a0).bind fun bt268 => (if bt268.2 = true then (beadrollref07_Fold.l0 k bt268.1 (⟨#[]⟩ : ByteArray) 0) else (some (⟨#[]⟩ : ByteArray)))) = some r := h
  clear h
  replace H := Option.bind_eq_some_iff.mp H
  obtain ⟨⟨t268, t269⟩, A20, H⟩ := H
  replace H : (if t269 = true then (beadrollref07_Fold.l0 k t268 (⟨#[]⟩ : ByteArray) 0) else (some (⟨#[]⟩ : ByteArray))) = some r := H
  have A2 := Aside0.mk A20
  clear A20
  by_cases c3 : t269 = true
  focus
   subst c3
   rw [if_pos rfl] at H
   have H' := Aside0.mk H
   clear H
  rotate_left
  focus
   replace c3 := Bool.eq_false_iff.mpr c3
   subst c3
   rw [if_neg ff_] at H
   obtain rfl := Option.some.inj H
  rotate_left
  all_goals
   go_enter Tryz.func75, Tryz.ntmps75
   go_wp2_with (((refine gl_ (some 9) Tryz.func115 #[.string a0] ?_; (with_reducible refine (beadrollref07_Labels.calls k a0 t268 _ _ A2.out).mono ?_); rintro e w4 ⟨v270, rfl, ho0, hb⟩; refine ⟨_, rfl, ?_⟩; have HO271 := Aside0.mk (Kd.R_lower ho0 (below_size HB.out)); replace HB := Aside0.mk (below_step HB.out hb); (try clear hb); (try clear ho0))))
  ·go_loopg [5, 6] k (fun kq v5 v6 w' => ∃ (x5_1 : ByteArray) (x6_1 : Int), v5 = .string x5_1 ∧ v6 = .int .i64 x6_1 ∧ Aside0 (beadrollref07_Fold.l0 kq t268 x5_1 x6_1 = some r) ∧ Aside0 (kq ≤ k) ∧ Aside0 (Kd.R Kd.string 9 w' w.heap.size (fun _ => True) v270 t268) ∧ Aside0 (Below w.heap.size w w'))
   case atStart => exact ⟨((⟨#[]⟩ : ByteArray)), (0), (by rfl), (by rfl), H', ⟨Nat.le_refl _⟩, ⟨by (with_reducible repeat ((apply Kd.R_alloc))); exact HO271.out⟩, ⟨HB.out⟩⟩
   case round =>
    clear H'
    obtain ⟨x5_1, x6_1, rfl, rfl, HA, HK1, HO_3, HB⟩ := hrel
    cases gk with
    | zero => exact absurd HA.out (by simp [beadrollref07_Fold.l0])
    | succ k1 =>
     have H := HA.out
     clear HA
     simp only [beadrollref07_Fold.l0] at H
     by_cases c5 : x6_1 < (t268.length : Int)
     focus
      rw [if_pos c5] at H
      have c5b0 : decide (x6_1 < (t268.length : Int)) = true := decide_eq_true c5
      clear c5
      obtain ⟨c6b0, H⟩ := gdd_ H
      obtain ⟨y273, hy273⟩ : ∃ y_ : List Int, y_ = (([(((rdOf ByteArray.empty t268 x6_1).size : Int)) % 256] : List Int)) := ⟨_, rfl⟩
      replace H : ((beadrollref07_lower.f k1 (rdOf ByteArray.empty t268 x6_1)).bind fun t277 => (if (strOfNums y273).size + t277.size ≤ 9223372036854775807 then (if x5_1.size + ((strOfNums y273) ++ t277).size ≤ 9223372036854775807 then (beadrollref07_Fold.l0 k1 t268 (x5_1 ++ ((strOfNums y273) ++ t277)) (wrap64 (x6_1 + 1))) else (none)) else (none))) = some r := by (have H2_ := (Option.bind_some _ _).symm.trans H; rw [hy273]; with_reducible exact H2_)
      have Ny273 := Aside0.mk hy273
      clear hy273
      obtain ⟨t277, A7, H⟩ := bnd_ H
      obtain ⟨c8, H⟩ := gd_ H
      have c8b0 := eq_true c8
      have c8b1 : decide ((strOfNums y273).size + t277.size ≤ 9223372036854775807) = true := decide_eq_true c8
      (try have c8b2 : (9223372036854775807 < (strOfNums y273).size + t277.size) = False := eq_false (Nat.not_lt.2 c8))
      obtain ⟨c9, H⟩ := gd_ H
      have c9b0 := eq_true c9
      have c9b1 : decide (x5_1.size + ((strOfNums y273) ++ t277).size ≤ 9223372036854775807) = true := decide_eq_true c9
      (try have c9b2 : (9223372036854775807 < x5_1.size + ((strOfNums y273) ++ t277).size) = False := eq_false (Nat.not_lt.2 c9))
      (try have c9b3 := c9b2)
      (try simp only [ByteArray.size_append] at c9b3)
      have H' := Aside0.mk H
      clear H
     rotate_left
     focus
      rw [if_neg c5] at H
      have c5b0 : decide (x6_1 < (t268.length : Int)) = false := decide_eq_false c5
      clear c5
      obtain ⟨c17, H⟩ := gd_ H
      have c17b0 := eq_true c17
      have c17b1 : decide (x5_1.size + 1 ≤ 9223372036854775807) = true := decide_eq_true c17
      (try have c17b2 : (9223372036854775807 < x5_1.size + 1) = False := eq_false (Nat.not_lt.2 c17))
      obtain rfl := Option.some.inj H
     rotate_left
     all_goals
      obtain ⟨Ao10, co10, eo10⟩ := Kd.R_slice HO_3.out
      subst eo10
     ·try go_wp2
      replace HO_3 := Aside0.mk (Kd.R_drew HO_3.out)
      replace HB := Aside0.mk (below_drew1 HB.out)
      have p272 : 0 ≤ (x6_1 : Int) := of_decide_eq_true (by assumption)
      have q272 : x6_1 < (t268.length : Int) := of_decide_eq_true (by assumption)
      obtain ⟨ad272, e272, hx272_0⟩ := Kd.at_string (Kd.R_reads' HO_3.out).2.2 x6_1 p272 q272
      cases e272
      replace p272 := eq_true p272
      replace q272 := eq_true q272
      have p276 : 0 ≤ (x6_1 : Int) := of_decide_eq_true (by assumption)
      have q276 : x6_1 < (t268.length : Int) := of_decide_eq_true (by assumption)
      obtain ⟨ad276, e276, hx276_0⟩ := Kd.at_string (Kd.R_reads' HO_3.out).2.2 x6_1 p276 q276
      obtain rfl : ad272 = ad276 := (by injection e276)
      replace p276 := eq_true p276
      replace q276 := eq_true q276
      refine start_ (n := 17) (S := fun w' => w'.cell? (ad272.add (x6_1).toNat) = some (.string (rdOf ByteArray.empty t268 x6_1)) ∧ w'.cell? (ad272.add (x6_1).toNat) = some (.string (rdOf ByteArray.empty t268 x6_1))) (ds := []) (ls 17 0) (by kernel_rfl) rfl rfl ⟨hx272_0, hx276_0⟩ (fun hHeld => ?_); refine with_tabW beadrollref07_Fold.tab8 beadrollref07_Fold.bits8 (fun HT_ HW_ => ?_)
      generalize wr.drew = w11 at HO_3 HB hx272_0 hx276_0 hHeld ⊢
      refine td_ [(0, 20), (1, 21), (2, 22), (3, 23), (9, 29), (10, 30), (11, 31)] ?_
      iterate 7 (refine pm_ HT_ ?_)
      refine dn_ ?_
      refine td_ [(4, 24)] ?_
      refine tm_ HT_ HW_ hHeld ?_
      refine dn_ ?_
      refine td_ [(5, 25), (6, 26)] ?_
      iterate 2 (refine pm_ HT_ ?_)
      refine dn_ ?_
      refine td_ [(12, 32)] ?_
      refine tm_ HT_ HW_ hHeld ?_
      refine dn_ ?_
      refine join_ (σ := Value) 3 (ls 17 16383) (fun s_ => [(27, s_), (28, .string (strOfNums y273)), (33, .string t277)]) (fun s_ w' => (w'.cell? (ad272.add (x6_1).toNat) = some (.string (rdOf ByteArray.empty t268 x6_1)) ∧ w'.cell? (ad272.add (x6_1).toNat) = some (.string (rdOf ByteArray.empty t268 x6_1))) ∧ (Kd.R (Kd.int .u8) 5 w' w.heap.size (fun _ => True) s_ y273) ∧ (Kd.R Kd.string 9 w' w.heap.size (fun _ => True) (.slice (some ad272) t268.length co10) t268) ∧ (Below w.heap.size w w')) ?_ ?_
      rotate_left
      ·intro hCont
       refine two_ (i := 7) (j := 13) (Ni := some 27) (Nj := some 33) (ls 17 7935) (ls 17 15999) rfl rfl rfl rfl (two_of HT_.out (by kernel_rfl)) (by decide) (by decide) (fun K hK => ?_) (fun K hK => ?_)
       ·skip
        refine Kd.R_lit_step (Kd.int .u8) _ 5 ?hg (N := 27) ?hd (xs := ([(((rdOf ByteArray.empty t268 x6_1).size : Int)) % 256] : List Int)) (inner := [.int .u8 ((((rdOf ByteArray.empty t268 x6_1).size : Int)) % 256)]) (ok := fun _ => True) (okp := fun _ => True) ?hr ?hp (fun _ hk => hk) trivial (Below.refl _ _) (Nat.le_refl _) (by simp) ?_; (case hd => rfl); (case hg => rfl); (case hr => (go_simp; rfl)); (case hp => exact (Reps.one (show Kd.M (Kd.int .u8) _ _ _ ((((rdOf ByteArray.empty t268 x6_1).size : Int)) % 256) [.int .u8 ((((rdOf ByteArray.empty t268 x6_1).size : Int)) % 256)] from rfl) (Reps.none _ _)))
        intro v274 w12 ho13 hb hg_ hnew_
        have HS0_ := kp_ hb hHeld.1
        have HS1_ := kp_ hb hHeld.2
        clear hg_ hnew_
        ((rw [← Ny273.out] at ho13))
        have HO275 := Aside0.mk (Kd.R_lower ho13 (below_size HB.out))
        replace HO_3 := Aside0.mk (Kd.R_below (by ((exact HO_3.out))) hb)
        replace HB := Aside0.mk (below_step HB.out hb)
        clear hb ho13
        refine hK.out _ _ ⟨HS0_, HS1_⟩ (fun hHeld => ?_)
        clear hK K
        refine nm_ (N := (some 27)) ?_
        refine two_ (i := 8) (j := 13) (Ni := some 28) (Nj := some 33) (ls 17 8191) (ls 17 16127) rfl rfl rfl rfl (two_of HT_.out (by kernel_rfl)) (by decide) (by decide) (fun K hK => ?_) (fun K hK => ?_)
        ·skip
         have hcv14 := own_string (P := Tryz.prog) Tryz.underlying133 Tryz.underlying5 Tryz.underlying9 (Kd.own_of_R HO275.out)
         refine value_ (w1 := ?_) (v := ?_) (by rfl) rfl ?_ ?_
         rotate_left 2
         ·go_simp
          constructor
          ·rfl
          ·rfl
         clear hcv14
         refine hK.out _ _ ⟨hHeld.1, hHeld.2⟩ (fun hHeld => ?_)
         clear hK K
         refine nm_ (N := (some 28)) ?_
         refine om1_ HT_ (i := 13) (N := some 33) (ls 17 16383) (fun K hK => ?_)
         refine gs_ Tryz.func127 #[.string (rdOf ByteArray.empty t268 x6_1)] ?_
         with_reducible refine (beadrollref07_lower.calls k1 (rdOf ByteArray.empty t268 x6_1) t277 _ A7.out).mono ?_
         rintro e w15 ⟨rfl, hb⟩
         have HS0_ := kp_ hb hHeld.1
         have HS1_ := kp_ hb hHeld.2
         refine ⟨_, rfl, ?_⟩
         replace HO_3 := Aside0.mk (Kd.R_below (by ((exact HO_3.out))) hb)
         replace HO275 := Aside0.mk (Kd.R_below (by ((exact HO275.out))) hb)
         replace HB := Aside0.mk (below_step HB.out hb)
         (try clear hb)
         refine hK.out _ _ ⟨HS0_, HS1_⟩ (fun hHeld => ?_)
         clear hK K
         refine nm_ (N := (some 33)) ?_
         exact norm_ (by simp only [putAll, Act.put, List.setIfInBounds_toArray, List.set_cons_zero, List.set_cons_succ]) (hCont (v274) _ ⟨hHeld, (by ((exact HO275.out))), (by ((exact HO_3.out))), HB.out⟩)
        ·skip
         refine gs_ Tryz.func127 #[.string (rdOf ByteArray.empty t268 x6_1)] ?_
         with_reducible refine (beadrollref07_lower.calls k1 (rdOf ByteArray.empty t268 x6_1) t277 _ A7.out).mono ?_
         rintro e w14 ⟨rfl, hb⟩
         have HS0_ := kp_ hb hHeld.1
         have HS1_ := kp_ hb hHeld.2
         refine ⟨_, rfl, ?_⟩
         replace HO_3 := Aside0.mk (Kd.R_below (by ((exact HO_3.out))) hb)
         replace HO275 := Aside0.mk (Kd.R_below (by ((exact HO275.out))) hb)
         replace HB := Aside0.mk (below_step HB.out hb)
         (try clear hb)
         refine hK.out _ _ ⟨HS0_, HS1_⟩ (fun hHeld => ?_)
         clear hK K
         refine nm_ (N := (some 33)) ?_
         refine om1_ HT_ (i := 8) (N := some 28) (ls 17 16383) (fun K hK => ?_)
         have hcv15 := own_string (P := Tryz.prog) Tryz.underlying133 Tryz.underlying5 Tryz.underlying9 (Kd.own_of_R HO275.out)
         refine value_ (w1 := ?_) (v := ?_) (by rfl) rfl ?_ ?_
         rotate_left 2
         ·go_simp
          constructor
          ·rfl
          ·rfl
         clear hcv15
         refine hK.out _ _ ⟨hHeld.1, hHeld.2⟩ (fun hHeld => ?_)
         clear hK K
         refine nm_ (N := (some 28)) ?_
         exact norm_ (by simp only [putAll, Act.put, List.setIfInBounds_toArray, List.set_cons_zero, List.set_cons_succ]) (hCont (v274) _ ⟨hHeld, (by ((exact HO275.out))), (by ((exact HO_3.out))), HB.out⟩)
       ·skip
        refine gs_ Tryz.func127 #[.string (rdOf ByteArray.empty t268 x6_1)] ?_
        with_reducible refine (beadrollref07_lower.calls k1 (rdOf ByteArray.empty t268 x6_1) t277 _ A7.out).mono ?_
        rintro e w12 ⟨rfl, hb⟩
        have HS0_ := kp_ hb hHeld.1
        have HS1_ := kp_ hb hHeld.2
        refine ⟨_, rfl, ?_⟩
        replace HO_3 := Aside0.mk (Kd.R_below (by ((exact HO_3.out))) hb)
        replace HB := Aside0.mk (below_step HB.out hb)
        (try clear hb)
        refine hK.out _ _ ⟨HS0_, HS1_⟩ (fun hHeld => ?_)
        clear hK K
        refine nm_ (N := (some 33)) ?_
        refine om1_ HT_ (i := 7) (N := some 27) (ls 17 16127) (fun K hK => ?_)
        refine Kd.R_lit_step (Kd.int .u8) _ 5 ?hg (N := 27) ?hd (xs := ([(((rdOf ByteArray.empty t268 x6_1).size : Int)) % 256] : List Int)) (inner := [.int .u8 ((((rdOf ByteArray.empty t268 x6_1).size : Int)) % 256)]) (ok := fun _ => True) (okp := fun _ => True) ?hr ?hp (fun _ hk => hk) trivial (Below.refl _ _) (Nat.le_refl _) (by simp) ?_; (case hd => rfl); (case hg => rfl); (case hr => (go_simp; rfl)); (case hp => exact (Reps.one (show Kd.M (Kd.int .u8) _ _ _ ((((rdOf ByteArray.empty t268 x6_1).size : Int)) % 256) [.int .u8 ((((rdOf ByteArray.empty t268 x6_1).size : Int)) % 256)] from rfl) (Reps.none _ _)))
        intro v274 w13 ho14 hb hg_ hnew_
        have HS0_ := kp_ hb hHeld.1
        have HS1_ := kp_ hb hHeld.2
        clear hg_ hnew_
        ((rw [← Ny273.out] at ho14))
        have HO275 := Aside0.mk (Kd.R_lower ho14 (below_size HB.out))
        replace HO_3 := Aside0.mk (Kd.R_below (by ((exact HO_3.out))) hb)
        replace HB := Aside0.mk (below_step HB.out hb)
        clear hb ho14
        refine hK.out _ _ ⟨HS0_, HS1_⟩ (fun hHeld => ?_)
        clear hK K
        refine nm_ (N := (some 27)) ?_
        refine om1_ HT_ (i := 8) (N := some 28) (ls 17 16383) (fun K hK => ?_)
        have hcv15 := own_string (P := Tryz.prog) Tryz.underlying133 Tryz.underlying5 Tryz.underlying9 (Kd.own_of_R HO275.out)
        refine value_ (w1 := ?_) (v := ?_) (by rfl) rfl ?_ ?_
        rotate_left 2
        ·go_simp
         constructor
         ·rfl
         ·rfl
        clear hcv15
        refine hK.out _ _ ⟨hHeld.1, hHeld.2⟩ (fun hHeld => ?_)
        clear hK K
        refine nm_ (N := (some 28)) ?_
        exact norm_ (by simp only [putAll, Act.put, List.setIfInBounds_toArray, List.set_cons_zero, List.set_cons_succ]) (hCont (v274) _ ⟨hHeld, (by ((exact HO275.out))), (by ((exact HO_3.out))), HB.out⟩)
      rintro v274 w16 ⟨hS_, h0_, h1_, h2_⟩
      have n0_ : Aside0 (Kd.R (Kd.int .u8) 5 w16 w.heap.size (fun _ => True) v274 y273) := ⟨h0_⟩
      have n1_ : Aside0 (Kd.R Kd.string 9 w16 w.heap.size (fun _ => True) (.slice (some ad272) t268.length co10) t268) := ⟨h1_⟩
      have n2_ : Aside0 (Below w.heap.size w w16) := ⟨h2_⟩
      clear HO_3
      clear HB
      clear h0_ h1_ h2_
      have HO275 := n0_
      have HO_3 := n1_
      have HB := n2_
      clear n0_ n1_ n2_
      have hHeld : w16.cell? (ad272.add (x6_1).toNat) = some (.string (rdOf ByteArray.empty t268 x6_1)) ∧ w16.cell? (ad272.add (x6_1).toNat) = some (.string (rdOf ByteArray.empty t268 x6_1)) := hS_
      refine norm_ (a' := ?_) ?_ ?_
      rotate_left
      ·simp only [putAll, Act.put, List.setIfInBounds_toArray, List.set_cons_zero, List.set_cons_succ]
       rfl
      refine td_ [(14, 34), (15, 35), (16, 5)] ?_
      iterate 3 (refine pm_ HT_ ?_)
      refine dn_ ?_
      refine done_ (done_of HT_.out (by kernel_rfl)) ?_
      (try go_wp2)
      go_roundg k1
      case measure => have := HK1.out; omega
      case rel => exact ⟨(x5_1 ++ ((strOfNums y273) ++ t277)), (wrap64 (x6_1 + 1)), (by rfl), (by rfl), H', ⟨by have := HK1.out; omega⟩, ⟨by (with_reducible repeat ((apply Kd.R_alloc))); exact HO_3.out⟩, ⟨HB.out⟩⟩
     ·go_wp2
      go_ret
      exact ⟨by rfl, HB.out⟩
  ·go_ret
   exact ⟨by rfl, HB.out⟩
end Go.Proofs.YtjmpckommjlnlaaGreat.PRd
namespace Go.Proofs.YtjmpckommjlnlaaGreat.PRd
open Go.RowKit Go.Proofs.YtjmpckommjlnlaaGreatW.PrintWords Go.Proofs.YtjmpckommjlnlaaGreatW.PrintLast Go.Proofs.YtjmpckommjlnlaaGreatW.PrintMore Go.Proofs.YtjmpckommjlnlaaGreat.Given
attribute [local go_sem] max2_int min2_int max_two min_two max_three min_three max_four min_four   -- for this text's walks alone
set_option linter.unusedVariables false
set_option linter.unusedSimpArgs false
def beadrollref10_Fold.l0 : Nat → List ByteArray → ByteArray → ByteArray → Int → Option (ByteArray)
 | 0, _, _, _, _ => none
 | k + 1, x5, x7, x8, x9 => if x9 < (x5.length : Int) then (if 0 ≤ x9 then (if x9 < (x7.size : Int) then (if (bt x7 x9) = 110 then ((beadrollref07_Fold.f k (rdOf ByteArray.empty x5 x9)).bind fun t285 => (if x8.size + t285.size ≤ 9223372036854775807 then (beadrollref10_Fold.l0 k x5 x7 (x8 ++ t285) (wrap64 (x9 + 1))) else (none))) else (if (bt x7 x9) = 117 then ((beadrollref07_Fold.f k (rdOf ByteArray.empty x5 x9)).bind fun t287 => (if x8.size + t287.size ≤ 9223372036854775807 then (beadrollref10_Fold.l0 k x5 x7 (x8 ++ t287) (wrap64 (x9 + 1))) else (none))) else (if x8.size + (rdOf ByteArray.empty x5 x9).size ≤ 9223372036854775807 then (beadrollref10_Fold.l0 k x5 x7 (x8 ++ (rdOf ByteArray.empty x5 x9)) (wrap64 (x9 + 1))) else (none)))) else (none)) else (none)) else (some x8)
def beadrollref10_Fold.f (k : Nat) (a0 : Int) (a1 : ByteArray) : Option (ByteArray) := (beadrollref10_Right.f k a0 a1).bind fun t278 => (if t278 = true then ((beadrollref10_Read.f k a1 0 (a1.size : Int) a0).bind fun bt279 => ((beadrollref10_Parts.f k a0).bind fun t283 => (beadrollref10_Fold.l0 k bt279.1 t283 (⟨#[]⟩ : ByteArray) 0))) else (some (⟨#[]⟩ : ByteArray)))
set_option maxHeartbeats 8000000 in
set_option maxRecDepth 100000 in
theorem beadrollref10_Fold.calls (k : Nat) (a0 : Int) (a1 : ByteArray) (r : ByteArray) (w : World) (h : beadrollref10_Fold.f k a0 a1 = some r) :
  Calls Tryz.prog 178 #[.int .i64 a0, .string a1] w fun e w' => e = .returned (.string r) ∧ Below w.heap.size w w' := by
 have HB := Aside0.mk (Below.refl w.heap.size w)
 have H : ((beadrollref10_Right.f k a0 a1).bind fun t278 => (if t278 = true then ((beadrollref10_Read.f k a1 0 (a1.size : Int) a0).bind fun bt279 => ((beadrollref10_Parts.f k a0).bind fun t283 => (beadrollref10_Fold.l0 k bt279.1 t283 (⟨#[]⟩ : ByteArray) 0))) else (some (⟨#[]⟩ : ByteArray)))) = some r := h
 clear h
 replace H := Option.bind_eq_some_iff.mp H
 obtain ⟨t278, A30, H⟩ := H
 replace H : (if t278 = true then ((beadrollref10_Read.f k a1 0 (a1.size : Int) a0).bind fun bt279 => ((beadrollref10_Parts.f k a0).bind fun t283 => (beadrollref10_Fold.l0 k bt279.1 t283 (⟨#[]⟩ : ByteArray) 0))) else (some (⟨#[]⟩ : ByteArray))) = some r := H
 have A3 := Aside0.mk A30
 clear A30
 by_cases c4 : t278 = true
 ·subst c4
  have H1 : ((beadrollref10_Read.f k a1 0 (a1.size : Int) a0).bind fun bt279 => ((beadrollref10_Parts.f k a0).bind fun t283 => (beadrollref10_Fold.l0 k bt279.1 t283 (⟨#[]⟩ : ByteArray) 0))) = some r := by rw [if_pos rfl] at H; exact H
  clear H
  have H := H1
  clear H1
  replace H := Option.bind_eq_some_iff.mp H
  obtain ⟨⟨t279, t280⟩, A50, H⟩ := H
  replace H : ((beadrollref10_Parts.f k a0).bind fun t283 => (beadrollref10_Fold.l0 k t279 t283 (⟨#[]⟩ : ByteArray) 0)) = some r := H
  have A5 := Aside0.mk A50
  clear A50
  replace H := Option.bind_eq_some_iff.mp H
  obtain ⟨t283, A60, H⟩ := H
  replace H : (beadrollref10_Fold.l0 k t279 t283 (⟨#[]⟩ : ByteArray) 0) = some r := H
  have A6 := Aside0.mk A60
  clear A60
  have H' := Aside0.mk H
  clear H
  go_enter Tryz.func178, Tryz.ntmps178
  go_wp2_with (first | ((with_reducible refine gate_callee (f := 117) rfl ?_); refine goesL_ (some 12) rfl rfl Tryz.func117 (by kernel_rfl) rfl #[.int .i64 a0, .string a1] rfl (by (try simp only [List.map_toArray, List.map_cons, List.map_nil]); first | done | rfl | (simp only [List.length_drop, List.length_take]; rfl)) ?_; (with_reducible refine (beadrollref10_Right.calls k a0 a1 true _ A3.out).mono ?_); rintro e w7 ⟨rfl, hb⟩; refine ⟨_, rfl, ?_⟩; have n0_ := Aside0.mk (below_step (by repeat (first | (with_reducible first | exact HB.out | apply below_alloc | apply pw_below_drewN | apply below_drew1) | exact HB.out)) hb); clear HB; have HB := n0_; clear n0_; (try clear hb); (try clear hb2); (try clear hk); (try clear hi)) | ((with_reducible refine gate_callee (f := 125) rfl ?_); refine goesL_ (some 19) rfl rfl Tryz.func125 (by kernel_rfl) rfl #[.string a1, .int .i64 0, .int .i64 (a1.size : Int), .int .i64 a0] rfl (by (try simp only [List.map_toArray, List.map_cons, List.map_nil]); first | done | rfl | (simp only [List.length_drop, List.length_take]; rfl)) ?_; (with_reducible refine (beadrollref10_Read.calls k a1 0 (a1.size : Int) a0 t279 t280 _ A5.out).mono ?_); rintro e w8 ⟨v281, rfl, ho0, hb⟩; refine ⟨_, rfl, ?_⟩; have n0_ := Aside0.mk (Kd.R_lower ho0 (below_size (by repeat (first | (with_reducible first | exact HB.out | apply below_alloc | apply pw_below_drewN | apply below_drew1) | exact HB.out)))); have n1_ := Aside0.mk (below_step (by repeat (first | (with_reducible first | exact HB.out | apply below_alloc | apply pw_below_drewN | apply below_drew1) | exact HB.out)) hb); clear HB; have HO282 := n0_; have HB := n1_; clear n0_ n1_; (try clear hb); (try clear hb2); (try clear hk); (try clear hi); (try clear ho0)) | ((with_reducible refine gate_callee (f := 165) rfl ?_); refine goesL_ (some 23) rfl rfl Tryz.func165 (by kernel_rfl) rfl #[.int .i64 a0] rfl (by (try simp only [List.map_toArray, List.map_cons, List.map_nil]); first | done | rfl | (simp only [List.length_drop, List.length_take]; rfl)) ?_; (with_reducible refine (beadrollref10_Parts.calls k a0 t283 _ A6.out).mono ?_); rintro e w' ⟨rfl, ⟨nd, rfl⟩⟩; refine ⟨_, rfl, ?_⟩))
  go_loopg [8, 9] k (fun kq v8 v9 w' => ∃ (x8_1 : ByteArray) (x9_1 : Int), v8 = .string x8_1 ∧ v9 = .int .i64 x9_1 ∧ Aside0 (beadrollref10_Fold.l0 kq t279 t283 x8_1 x9_1 = some r) ∧ Aside0 (kq ≤ k) ∧ Aside0 (Kd.R Kd.string 9 w' w.heap.size (fun _ => True) v281 t279) ∧ Aside0 (Below w.heap.size w w'))
  case atStart => exact ⟨((⟨#[]⟩ : ByteArray)), (0), (by first | rfl | (simp; done) | (simp [*]; done)), (by first | rfl | (simp; done) | (simp [*]; done)), H', ⟨Nat.le_refl _⟩, ⟨by (with_reducible repeat (first | apply Kd.R_alloc | apply Kd.R_drewN | apply Kd.R_drew)); exact HO282.out⟩, ⟨by repeat (first | (with_reducible first | exact HB.out | apply below_alloc | apply pw_below_drewN | apply below_drew1) | exact HB.out)⟩⟩
  case round =>
   clear H'
   try clear c1
   try clear p2
   try clear c4
   try clear c8
   obtain ⟨x8_1, x9_1, rfl, rfl, HA, HK1, HO_5, HB⟩ := hrel
   cases gk with
   | zero => exact absurd HA.out (by simp [beadrollref10_Fold.l0])
   | succ k1 =>
    have H := HA.out
    clear HA
    simp only [beadrollref10_Fold.l0] at H
    by_cases c9 : x9_1 < (t279.length : Int)
    ·rw [if_pos c9] at H
     have c9b0 : decide (x9_1 < (t279.length : Int)) = true := decide_eq_true c9
     clear c9
     by_cases c10 : 0 ≤ x9_1
     ·rw [if_pos c10] at H
      have c10b0 : decide (0 ≤ x9_1) = true := decide_eq_true c10
      clear c10
      by_cases c11 : x9_1 < (t283.size : Int)
      ·rw [if_pos c11] at H
       have c11b0 : decide (x9_1 < (t283.size : Int)) = true := decide_eq_true c11
       clear c11
       by_cases c13 : (bt t283 x9_1) = 110
       ·rw [if_pos c13] at H
        have c13b0 : ((bt t283 x9_1) == 110) = true := beq_iff_eq.mpr c13
        have c13b1 : ((bt t283 x9_1) != 110) = false := bne_eq_false_iff_eq.mpr c13
        clear c13
        replace H := Option.bind_eq_some_iff.mp H
        obtain ⟨t285, A140, H⟩ := H
        replace H : (if x8_1.size + t285.size ≤ 9223372036854775807 then (beadrollref10_Fold.l0 k1 t279 t283 (x8_1 ++ t285) (wrap64 (x9_1 + 1))) else (none)) = some r := H
        have A14 := Aside0.mk A140
        clear A140
        by_cases c15 : x8_1.size + t285.size ≤ 9223372036854775807
        ·rw [if_pos c15] at H
         have c15b0 := eq_true c15
         have c15b1 : decide (x8_1.size + t285.size ≤ 9223372036854775807) = true := decide_eq_true c15
         try have c15b2 : (9223372036854775807 < x8_1.size + t285.size) = False := eq_false (Nat.not_lt.2 c15)
         have H' := Aside0.mk H
         clear H
         obtain ⟨Ao16, co16, eo16⟩ := Kd.R_slice HO_5.out
         subst eo16
         have p12 : 0 ≤ (x9_1 : Int) := of_decide_eq_true (by first | (with_reducible assumption) | assumption)
         have q12 : x9_1 < (t283.size : Int) := of_decide_eq_true (by first | (with_reducible assumption) | assumption)
         have hx12 := bt_at t283 x9_1
         replace p12 := eq_true p12
         replace q12 := eq_true q12
         have p284 : 0 ≤ (x9_1 : Int) := of_decide_eq_true (by first | (with_reducible assumption) | assumption)
         have q284 : x9_1 < (t279.length : Int) := of_decide_eq_true (by first | (with_reducible assumption) | assumption)
         obtain ⟨ad284, e284, hx284_0⟩ := Kd.at_string (Kd.R_reads' HO_5.out).2.2 x9_1 p284 q284
         cases e284
         replace p284 := eq_true p284
         replace q284 := eq_true q284
         go_wp2_with (first | ((with_reducible refine gate_callee (f := 75) rfl ?_); refine goesL_ (some 45) rfl rfl Tryz.func75 (by kernel_rfl) rfl #[.string (rdOf ByteArray.empty t279 x9_1)] rfl (by (try simp only [List.map_toArray, List.map_cons, List.map_nil]); first | done | rfl | (simp only [List.length_drop, List.length_take]; rfl)) ?_; (with_reducible refine (beadrollref07_Fold.calls k1 (rdOf ByteArray.empty t279 x9_1) t285 _ A14.out).mono ?_); rintro e w17 ⟨rfl, hb⟩; refine ⟨_, rfl, ?_⟩; have n0_ := Aside0.mk (Kd.R_below (by (with_reducible repeat (first | apply Kd.R_alloc | apply Kd.R_drewN | apply Kd.R_drew)); exact HO_5.out) hb); have n1_ := Aside0.mk (below_step (by repeat (first | (with_reducible first | exact HB.out | apply below_alloc | apply pw_below_drewN | apply below_drew1) | exact HB.out)) hb); clear HO_5; clear HB; have HO_5 := n0_; have HB := n1_; clear n0_ n1_; (try clear hb); (try clear hb2); (try clear hk); (try clear hi)))
         go_roundg k1
         case measure => have := HK1.out; omega
         case rel => exact ⟨(x8_1 ++ t285), (wrap64 (x9_1 + 1)), (by first | rfl | (simp; done) | (simp [*]; done)), (by first | rfl | (simp; done) | (simp [*]; done)), H', ⟨by have := HK1.out; omega⟩, ⟨by (with_reducible repeat (first | apply Kd.R_alloc | apply Kd.R_drewN | apply Kd.R_drew)); exact HO_5.out⟩, ⟨by repeat (first | (with_reducible first | exact HB.out | apply below_alloc | apply pw_below_drewN | apply below_drew1) | exact HB.out)⟩⟩
        ·rw [if_neg c15] at H
         exact absurd H (by simp)
       ·rw [if_neg c13] at H
        have c13b0 : ((bt t283 x9_1) == 110) = false := beq_eq_false_iff_ne.mpr c13
        have c13b1 : ((bt t283 x9_1) != 110) = true := bne_iff_ne.mpr c13
        by_cases c19 : (bt t283 x9_1) = 117
        ·rw [if_pos c19] at H
         have c19b0 : ((bt t283 x9_1) == 117) = true := beq_iff_eq.mpr c19
         have c19b1 : ((bt t283 x9_1) != 117) = false := bne_eq_false_iff_eq.mpr c19
         clear c19
         replace H := Option.bind_eq_some_iff.mp H
         obtain ⟨t287, A200, H⟩ := H
         replace H : (if x8_1.size + t287.size ≤ 9223372036854775807 then (beadrollref10_Fold.l0 k1 t279 t283 (x8_1 ++ t287) (wrap64 (x9_1 + 1))) else (none)) = some r := H
         have A20 := Aside0.mk A200
         clear A200
         by_cases c21 : x8_1.size + t287.size ≤ 9223372036854775807
         ·rw [if_pos c21] at H
          have c21b0 := eq_true c21
          have c21b1 : decide (x8_1.size + t287.size ≤ 9223372036854775807) = true := decide_eq_true c21
          try have c21b2 : (9223372036854775807 < x8_1.size + t287.size) = False := eq_false (Nat.not_lt.2 c21)
          have H' := Aside0.mk H
          clear H
          obtain ⟨Ao22, co22, eo22⟩ := Kd.R_slice HO_5.out
          subst eo22
          have p12 : 0 ≤ (x9_1 : Int) := of_decide_eq_true (by first | (with_reducible assumption) | assumption)
          have q12 : x9_1 < (t283.size : Int) := of_decide_eq_true (by first | (with_reducible assumption) | assumption)
          have hx12 := bt_at t283 x9_1
          replace p12 := eq_true p12
          replace q12 := eq_true q12
          have p18 : 0 ≤ (x9_1 : Int) := of_decide_eq_true (by first | (with_reducible assumption) | assumption)
          have q18 : x9_1 < (t283.size : Int) := of_decide_eq_true (by first | (with_reducible assumption) | assumption)
          have hx18 := bt_at t283 x9_1
          replace p18 := eq_true p18
          replace q18 := eq_true q18
          have p286 : 0 ≤ (x9_1 : Int) := of_decide_eq_true (by first | (with_reducible assumption) | assumption)
          have q286 : x9_1 < (t279.length : Int) := of_decide_eq_true (by first | (with_reducible assumption) | assumption)
          obtain ⟨ad286, e286, hx286_0⟩ := Kd.at_string (Kd.R_reads' HO_5.out).2.2 x9_1 p286 q286
          cases e286
          replace p286 := eq_true p286
          replace q286 := eq_true q286
          go_wp2_with (first | ((with_reducible refine gate_callee (f := 75) rfl ?_); refine goesL_ (some 45) rfl rfl Tryz.func75 (by kernel_rfl) rfl #[.string (rdOf ByteArray.empty t279 x9_1)] rfl (by (try simp only [List.map_toArray, List.map_cons, List.map_nil]); first | done | rfl | (simp only [List.length_drop, List.length_take]; rfl)) ?_; (with_reducible refine (beadrollref07_Fold.calls k1 (rdOf ByteArray.empty t279 x9_1) t287 _ A20.out).mono ?_); rintro e w23 ⟨rfl, hb⟩; refine ⟨_, rfl, ?_⟩; have n0_ := Aside0.mk (Kd.R_below (by (with_reducible repeat (first | apply Kd.R_alloc | apply Kd.R_drewN | apply Kd.R_drew)); exact HO_5.out) hb); have n1_ := Aside0.mk (below_step (by repeat (first | (with_reducible first | exact HB.out | apply below_alloc | apply pw_below_drewN | apply below_drew1) | exact HB.out)) hb); clear HO_5; clear HB; have HO_5 := n0_; have HB := n1_; clear n0_ n1_; (try clear hb); (try clear hb2); (try clear hk); (try clear hi)))
          go_roundg k1
          case measure => have := HK1.out; omega
          case rel => exact ⟨(x8_1 ++ t287), (wrap64 (x9_1 + 1)), (by first | rfl | (simp; done) | (simp [*]; done)), (by first | rfl | (simp; done) | (simp [*]; done)), H', ⟨by have := HK1.out; omega⟩, ⟨by (with_reducible repeat (first | apply Kd.R_alloc | apply Kd.R_drewN | apply Kd.R_drew)); exact HO_5.out⟩, ⟨by repeat (first | (with_reducible first | exact HB.out | apply below_alloc | apply pw_below_drewN | apply below_drew1) | exact HB.out)⟩⟩
         ·rw [if_neg c21] at H
          exact absurd H (by simp)
        ·rw [if_neg c19] at H
         have c19b0 : ((bt t283 x9_1) == 117) = false := beq_eq_false_iff_ne.mpr c19
         have c19b1 : ((bt t283 x9_1) != 117) = true := bne_iff_ne.mpr c19
         by_cases c24 : x8_1.size + (rdOf ByteArray.empty t279 x9_1).size ≤ 9223372036854775807
         ·rw [if_pos c24] at H
          have c24b0 := eq_true c24
          have c24b1 : decide (x8_1.size + (rdOf ByteArray.empty t279 x9_1).size ≤ 9223372036854775807) = true := decide_eq_true c24
          try have c24b2 : (9223372036854775807 < x8_1.size + (rdOf ByteArray.empty t279 x9_1).size) = False := eq_false (Nat.not_lt.2 c24)
          have H' := Aside0.mk H
          clear H
          obtain ⟨Ao25, co25, eo25⟩ := Kd.R_slice HO_5.out
          subst eo25
          have p12 : 0 ≤ (x9_1 : Int) := of_decide_eq_true (by first | (with_reducible assumption) | assumption)
          have q12 : x9_1 < (t283.size : Int) := of_decide_eq_true (by first | (with_reducible assumption) | assumption)
          have hx12 := bt_at t283 x9_1
          replace p12 := eq_true p12
          replace q12 := eq_true q12
          have p18 : 0 ≤ (x9_1 : Int) := of_decide_eq_true (by first | (with_reducible assumption) | assumption)
          have q18 : x9_1 < (t283.size : Int) := of_decide_eq_true (by first | (with_reducible assumption) | assumption)
          have hx18 := bt_at t283 x9_1
          replace p18 := eq_true p18
          replace q18 := eq_true q18
          have p288 : 0 ≤ (x9_1 : Int) := of_decide_eq_true (by first | (with_reducible assumption) | assumption)
          have q288 : x9_1 < (t279.length : Int) := of_decide_eq_true (by first | (with_reducible assumption) | assumption)
          obtain ⟨ad288, e288, hx288_0⟩ := Kd.at_string (Kd.R_reads' HO_5.out).2.2 x9_1 p288 q288
          cases e288
          replace p288 := eq_true p288
          replace q288 := eq_true q288
          go_wp2
          go_roundg k1
          case measure => have := HK1.out; omega
          case rel => exact ⟨(x8_1 ++ (rdOf ByteArray.empty t279 x9_1)), (wrap64 (x9_1 + 1)), (by first | rfl | (simp; done) | (simp [*]; done)), (by first | rfl | (simp; done) | (simp [*]; done)), H', ⟨by have := HK1.out; omega⟩, ⟨by (with_reducible repeat (first | apply Kd.R_alloc | apply Kd.R_drewN | apply Kd.R_drew)); exact HO_5.out⟩, ⟨by repeat (first | (with_reducible first | exact HB.out | apply below_alloc | apply pw_below_drewN | apply below_drew1) | exact HB.out)⟩⟩
         ·rw [if_neg c24] at H
          exact absurd H (by simp)
      ·rw [if_neg c11] at H
       exact absurd H (by simp)
     ·rw [if_neg c10] at H
      exact absurd H (by simp)
    ·rw [if_neg c9] at H
     have c9b0 : decide (x9_1 < (t279.length : Int)) = false := decide_eq_false c9
     clear c9
     obtain rfl := Option.some.inj H
     obtain ⟨Ao26, co26, eo26⟩ := Kd.R_slice HO_5.out
     subst eo26
     go_wp2
     go_ret
     exact ⟨by first | rfl | (simp [errW_none, errW_some] <;> rfl) | (simp [*, errW_none, errW_some] <;> rfl), by repeat (first | (with_reducible first | exact HB.out | apply below_alloc | apply pw_below_drewN | apply below_drew1) | exact HB.out)⟩
 ·replace c4 := Bool.eq_false_iff.mpr c4
  subst c4
  have H1 : (some (⟨#[]⟩ : ByteArray)) = some r := by rw [if_neg (show ¬ (false = true) by decide)] at H; exact H
  clear H
  have H := H1
  clear H1
  obtain rfl := Option.some.inj H
  go_enter Tryz.func178, Tryz.ntmps178
  go_wp2_with (first | ((with_reducible refine gate_callee (f := 117) rfl ?_); refine goesL_ (some 12) rfl rfl Tryz.func117 (by kernel_rfl) rfl #[.int .i64 a0, .string a1] rfl (by (try simp only [List.map_toArray, List.map_cons, List.map_nil]); first | done | rfl | (simp only [List.length_drop, List.length_take]; rfl)) ?_; (with_reducible refine (beadrollref10_Right.calls k a0 a1 false _ A3.out).mono ?_); rintro e w27 ⟨rfl, hb⟩; refine ⟨_, rfl, ?_⟩; have n0_ := Aside0.mk (below_step (by repeat (first | (with_reducible first | exact HB.out | apply below_alloc | apply pw_below_drewN | apply below_drew1) | exact HB.out)) hb); clear HB; have HB := n0_; clear n0_; (try clear hb); (try clear hb2); (try clear hk); (try clear hi)))
  go_ret
  exact ⟨by first | rfl | (simp [errW_none, errW_some] <;> rfl) | (simp [*, errW_none, errW_some] <;> rfl), by repeat (first | (with_reducible first | exact HB.out | apply below_alloc | apply pw_below_drewN | apply below_drew1) | exact HB.out)⟩
def beadrollref10_Soa.l0 : Nat → List ByteArray → List Int → Int → Option (ByteArray × ByteArray × Int × Int × Int × Int × Int × Bool)
 | 0, _, _, _ => none
 | k + 1, x4, x6, x7 => if x7 < 7 then (if 0 ≤ x7 then (if x7 < (x4.length : Int) then ((beadrollref01_Number.f k (rdOf ByteArray.empty x4 x7)).bind fun t296 => (if x6.length < 35184372088832 then (beadrollref10_Soa.l0 k x4 (x6 ++ [(t296) % 4294967296]) (wrap64 (x7 + 1))) else (none))) else (none)) else (none)) else (if 0 < (x4.length : Int) then (if 1 < (x4.length : Int) then (if 0 < (x6.length : Int) then (if 1 < (x6.length : Int) then (if 2 < (x6.length : Int) then (if 3 < (x6.length : Int) then (if 4 < (x6.length : Int) then (some (rdOf ByteArray.empty x4 0, rdOf ByteArray.empty x4 1, rd x6 0, rd x6 1, rd x6 2, rd x6 3, rd x6 4, true)) else (none)) else (none)) else (none)) else (none)) else (none)) else (none)) else (none))
def beadrollref10_Soa.f (k : Nat) (a0 : ByteArray) : Option (ByteArray × ByteArray × Int × Int × Int × Int × Int × Bool) := (beadrollref10_Right.f k 6 a0).bind fun t290 => (if t290 = true then ((beadrollref10_Read.f k a0 0 (a0.size : Int) 6).bind fun bt291 => (beadrollref10_Soa.l0 k bt291.1 ([] : List Int) 2)) else (some ((⟨#[]⟩ : ByteArray), (⟨#[]⟩ : ByteArray), 0, 0, 0, 0, 0, false)))
def beadrollref10_Soa.T9 : Bool × List (List Nat × List Nat) := (true, [([], []), ([0], [0]), ([1], [1]), ([], []), ([3], [3]), ([4], [4]), ([], []), ([6], [6]), ([7], [7]), ([], []), ([9], [9]), ([10], [10]), ([], []), ([12], [12]), ([13], [13]), ([], []), ([15], [15]), ([16], [16]), ([], []), ([18], [18]), ([19], [19]), ([2, 5, 8, 11, 14, 17, 20], [2, 5, 8, 11, 14, 17, 20]), ([21, 0, 1, 2, 3, 4, 5, 6, 7, 8, 9, 10, 11, 12, 13, 14, 15, 16, 17, 18, 19, 20, 21], [21]), ([22, 0, 1, 2, 3, 4, 5, 6, 7, 8, 9, 10, 11, 12, 13, 14, 15, 16, 17, 18, 19, 20, 21, 22], [])])
def beadrollref10_Soa.B9 : List Nat := [0, 1, 3, 0, 8, 24, 0, 64, 192, 0, 512, 1536, 0, 4096, 12288, 0, 32768, 98304, 0, 262144, 786432, 2097151, 4194303, 8388607]
theorem beadrollref10_Soa.tab9 : rtab .any (opsOf Tryz.f71 9) = beadrollref10_Soa.T9 := by kernel_rfl
theorem beadrollref10_Soa.bits9 : waitsOk beadrollref10_Soa.T9.2 beadrollref10_Soa.B9 = true := by kernel_rfl
set_option maxHeartbeats 8000000 in
set_option maxRecDepth 100000 in
theorem beadrollref10_Soa.calls (k : Nat) (a0 : ByteArray) (r1 : ByteArray) (r2 : ByteArray) (r3 : Int) (r4 : Int) (r5 : Int) (r6 : Int) (r7 : Int) (r8 : Bool) (w : World) (h : beadrollref10_Soa.f k a0 = some (r1, r2, r3, r4, r5, r6, r7, r8)) :
  Calls Tryz.prog 71 #[.string a0] w fun e w' => e = .returned (.tuple #[.agg #[.string r1, .string r2, .int .u32 r3, .int .u32 r4, .int .u32 r5, .int .u32 r6, .int .u32 r7], .bool r8]) ∧ Below w.heap.size w w' := by
 have hu38 := Tryz.underlying38
 have HB := Aside0.mk (Below.refl w.heap.size w)
 have H : ((beadrollref10_Right.f k 6 a0).bind fun t290 => (if t290 = true then ((beadrollref10_Read.f k a0 0 (a0.size : Int) 6).bind fun bt291 => (beadrollref10_Soa.l0 k bt291.1 ([] : List Int) 2)) else (some ((⟨#[]⟩ : ByteArray), (⟨#[]⟩ : ByteArray), 0, 0, 0, 0, 0, false)))) = some (r1, r2, r3, r4, r5, r6, r7, r8) := h
 clear h
 replace H := Option.bind_eq_some_iff.mp H
 obtain ⟨t290, A20, H⟩ := H
 replace H : (if t290 = true then ((beadrollref10_Read.f k a0 0 (a0.size : Int) 6).bind fun bt291 => (beadrollref10_Soa.l0 k bt291.1 ([] : List Int) 2)) else (some ((⟨#[]⟩ : ByteArray), (⟨#[]⟩ : ByteArray), 0, 0, 0, 0, 0, false))) = some (r1, r2, r3, r4, r5, r6, r7, r8) := H
 have A2 := Aside0.mk A20
 clear A20
 by_cases c3 : t290 = true
 ·subst c3
  have H1 : ((beadrollref10_Read.f k a0 0 (a0.size : Int) 6).bind fun bt291 => (beadrollref10_Soa.l0 k bt291.1 ([] : List Int) 2)) = some (r1, r2, r3, r4, r5, r6, r7, r8) := by rw [if_pos rfl] at H; exact H
  clear H
  have H := H1
  clear H1
  replace H := Option.bind_eq_some_iff.mp H
  obtain ⟨⟨t291, t292⟩, A40, H⟩ := H
  replace H : (beadrollref10_Soa.l0 k t291 ([] : List Int) 2) = some (r1, r2, r3, r4, r5, r6, r7, r8) := H
  have A4 := Aside0.mk A40
  clear A40
  have H' := Aside0.mk H
  clear H
  go_enter Tryz.func71, Tryz.ntmps71
  go_wp2_with (first | ((with_reducible refine gate_dst (N := 2) rfl ?_); refine box_event ?hg (N := 2) ?hd (cs := #[.string (⟨#[]⟩ : ByteArray), .string (⟨#[]⟩ : ByteArray), .int .u32 0, .int .u32 0, .int .u32 0, .int .u32 0, .int .u32 0]) (t := 38) ?hr ?_; (case hd => rfl); (case hg => rfl); (case hr => first | (go_simp; done) | (go_simp; rfl)); intro gb289 hg w5 hbox hb; have n0_ := Aside0.mk (below_step (by repeat (first | (with_reducible first | exact HB.out | apply below_alloc | apply pw_below_drewN | apply below_drew1) | exact HB.out)) hb); have n1_ := Aside0.mk (hbox); have n2_ := Aside0.mk ((by rw [hg]; exact (below_size (by repeat (first | (with_reducible first | exact HB.out | apply below_alloc | apply pw_below_drewN | apply below_drew1) | exact HB.out))) : w.heap.size ≤ gb289)); have n3_ := Aside0.mk ((by rw [hg]; exact (below_size (by repeat (first | (with_reducible first | exact HB.out | apply below_alloc | apply pw_below_drewN | apply below_drew1) | exact HB.out))) : w.heap.size ≤ gb289)); clear HB; have HB := n0_; have BK289 := n1_; have GW289 := n2_; have GE289 := n3_; clear n0_ n1_ n2_ n3_; clear hb hbox hg) | ((with_reducible refine gate_callee (f := 117) rfl ?_); refine goesL_ (some 9) rfl rfl Tryz.func117 (by kernel_rfl) rfl #[.int .i64 6, .string a0] rfl (by (try simp only [List.map_toArray, List.map_cons, List.map_nil]); first | done | rfl | (simp only [List.length_drop, List.length_take]; rfl)) ?_; (with_reducible refine (beadrollref10_Right.calls k 6 a0 true _ A2.out).mono ?_); rintro e w6 ⟨rfl, hb⟩; refine ⟨_, rfl, ?_⟩; have n0_ := Aside0.mk (blk_below (g := gb289) (o := .cells #[.string (⟨#[]⟩ : ByteArray), .string (⟨#[]⟩ : ByteArray), .int .u32 0, .int .u32 0, .int .u32 0, .int .u32 0, .int .u32 0] 38 (0, 0)) (by (with_reducible repeat (first | refine blk_drewN ?_ _ | refine blk_drew ?_ | refine blk_alloc ?_ _)); exact BK289.out) hb); have n1_ := Aside0.mk (below_step (by repeat (first | (with_reducible first | exact HB.out | apply below_alloc | apply pw_below_drewN | apply below_drew1 | refine below_set ?_ GE289.out) | exact HB.out)) hb); clear BK289; clear HB; have BK289 := n0_; have HB := n1_; clear n0_ n1_; (try clear hb); (try clear hb2); (try clear hk); (try clear hi)) | ((with_reducible refine gate_callee (f := 125) rfl ?_); refine goesL_ (some 16) rfl rfl Tryz.func125 (by kernel_rfl) rfl #[.string a0, .int .i64 0, .int .i64 (a0.size : Int), .int .i64 6] rfl (by (try simp only [List.map_toArray, List.map_cons, List.map_nil]); first | done | rfl | (simp only [List.length_drop, List.length_take]; rfl)) ?_; (with_reducible refine (beadrollref10_Read.calls k a0 0 (a0.size : Int) 6 t291 t292 _ A4.out).mono ?_); rintro e w7 ⟨v293, rfl, ho0, hb⟩; refine ⟨_, rfl, ?_⟩; have n0_ := Aside0.mk (Kd.R_lower ho0 (below_size (by repeat (first | (with_reducible first | exact HB.out | apply below_alloc | apply pw_below_drewN | apply below_drew1 | refine below_set ?_ GE289.out) | exact HB.out)))); have n1_ := Aside0.mk (blk_below (g := gb289) (o := .cells #[.string (⟨#[]⟩ : ByteArray), .string (⟨#[]⟩ : ByteArray), .int .u32 0, .int .u32 0, .int .u32 0, .int .u32 0, .int .u32 0] 38 (0, 0)) (by (with_reducible repeat (first | refine blk_drewN ?_ _ | refine blk_drew ?_ | refine blk_alloc ?_ _)); exact BK289.out) hb); have n2_ := Aside0.mk (below_step (by repeat (first | (with_reducible first | exact HB.out | apply below_alloc | apply pw_below_drewN | apply below_drew1 | refine below_set ?_ GE289.out) | exact HB.out)) hb); clear BK289; clear HB; have HO294 := n0_; have BK289 := n1_; have HB := n2_; clear n0_ n1_ n2_; (try clear hb); (try clear hb2); (try clear hk); (try clear hi); (try clear ho0)))
  go_loopg [6, 7] k (fun kq v6 v7 w' => ∃ (x6_1 : List Int) (x7_1 : Int), v7 = .int .i64 x7_1 ∧ Aside0 (beadrollref10_Soa.l0 kq t291 x6_1 x7_1 = some (r1, r2, r3, r4, r5, r6, r7, r8)) ∧ Aside0 (kq ≤ k) ∧ Aside0 (Kd.R Kd.string 9 w' w.heap.size (fun _ => True) v293 t291) ∧ Aside0 (Kd.R (Kd.int .u32) 36 w' w.heap.size (fun _ => True) v6 x6_1) ∧ Aside0 (w'.heap[gb289]? = some (.cells #[.string (⟨#[]⟩ : ByteArray), .string (⟨#[]⟩ : ByteArray), .int .u32 0, .int .u32 0, .int .u32 0, .int .u32 0, .int .u32 0] 38 (0, 0))) ∧ Aside0 (Below w.heap.size w w'))
  case atStart => exact ⟨(([] : List Int)), (2), (by first | rfl | (simp; done) | (simp [*]; done)), H', ⟨Nat.le_refl _⟩, ⟨by (with_reducible repeat (first | apply Kd.R_alloc | apply Kd.R_drewN | apply Kd.R_drew)); exact HO294.out⟩, ⟨by first | exact Kd.R_nil _ _ _ _ _ | exact Kd.N_nil _ _ _ _ _ | exact Kd.V_nil _ _ _ _ _ | exact Kd.Q_nil _ _ _ _ _ | exact Kd.S_nil _ _ _ _ _⟩, ⟨by (with_reducible repeat (first | refine blk_drewN ?_ _ | refine blk_drew ?_ | refine blk_alloc ?_ _)); exact BK289.out⟩, ⟨by repeat (first | (with_reducible first | exact HB.out | apply below_alloc | apply pw_below_drewN | apply below_drew1 | refine below_set ?_ GE289.out) | exact HB.out)⟩⟩
  case round =>
   clear H'
   try clear c1
   try clear p2
   try clear c3
   try clear c6
   obtain ⟨x6_1, x7_1, rfl, HA, HK1, HO_4, HO_6, BK289, HB⟩ := hrel
   cases gk with
   | zero => exact absurd HA.out (by simp [beadrollref10_Soa.l0])
   | succ k1 =>
    have H := HA.out
    clear HA
    simp only [beadrollref10_Soa.l0] at H
    by_cases c8 : x7_1 < 7
    ·rw [if_pos c8] at H
     have c8b0 : decide (x7_1 < 7) = true := decide_eq_true c8
     clear c8
     by_cases c9 : 0 ≤ x7_1
     ·rw [if_pos c9] at H
      have c9b0 : decide (0 ≤ x7_1) = true := decide_eq_true c9
      clear c9
      by_cases c10 : x7_1 < (t291.length : Int)
      ·rw [if_pos c10] at H
       have c10b0 : decide (x7_1 < (t291.length : Int)) = true := decide_eq_true c10
       clear c10
       replace H := Option.bind_eq_some_iff.mp H
       obtain ⟨t296, A110, H⟩ := H
       replace H : (if x6_1.length < 35184372088832 then (beadrollref10_Soa.l0 k1 t291 (x6_1 ++ [(t296) % 4294967296]) (wrap64 (x7_1 + 1))) else (none)) = some (r1, r2, r3, r4, r5, r6, r7, r8) := H
       have A11 := Aside0.mk A110
       clear A110
       by_cases c12 : x6_1.length < 35184372088832
       ·rw [if_pos c12] at H
        have LMc12 := Aside0.mk c12
        clear c12
        obtain ⟨y297, hy297⟩ : ∃ y_ : List Int, y_ = (x6_1 ++ [(t296) % 4294967296]) := ⟨_, rfl⟩
        replace H : (beadrollref10_Soa.l0 k1 t291 y297 (wrap64 (x7_1 + 1))) = some (r1, r2, r3, r4, r5, r6, r7, r8) := by first | (rw [hy297]; with_reducible exact H) | (have H2_ := (Option.bind_some _ _).symm.trans H; rw [hy297]; with_reducible exact H2_) | (have H2_ := (Option.bind_some _ _).symm.trans H; with_reducible exact H2_) | with_reducible exact H | (rw [hy297]; exact H) | exact H
        have Ny297 := Aside0.mk hy297
        clear hy297
        have H' := Aside0.mk H
        clear H
        obtain ⟨Ao13, co13, eo13⟩ := Kd.R_slice HO_4.out
        subst eo13
        have p295 : 0 ≤ (x7_1 : Int) := of_decide_eq_true (by first | (with_reducible assumption) | assumption)
        have q295 : x7_1 < (t291.length : Int) := of_decide_eq_true (by first | (with_reducible assumption) | assumption)
        obtain ⟨ad295, e295, hx295_0⟩ := Kd.at_string (Kd.R_reads' HO_4.out).2.2 x7_1 p295 q295
        cases e295
        replace p295 := eq_true p295
        replace q295 := eq_true q295
        go_wp2_with (first | ((with_reducible refine gate_callee (f := 126) rfl ?_); refine goesL_ (some 28) rfl rfl Tryz.func126 (by kernel_rfl) rfl #[.string (rdOf ByteArray.empty t291 x7_1)] rfl (by (try simp only [List.map_toArray, List.map_cons, List.map_nil]); first | done | rfl | (simp only [List.length_drop, List.length_take]; rfl)) ?_; (with_reducible refine (beadrollref01_Number.calls k1 (rdOf ByteArray.empty t291 x7_1) t296 _ A11.out).mono ?_); rintro e w' ⟨rfl, ⟨nd, rfl⟩⟩; refine ⟨_, rfl, ?_⟩) | ((with_reducible refine gate_builtin (b := .append) (xs := #[.tmp 23, .tmp 30]) rfl ?_); at_builtin; refine Kd.R_append (Kd.int .u32) (w0 := w) w.heap.size rfl (.tmp 23) (.tmp 30) 131 36 (.int .u32 0) 4 rfl Tryz.underlying131 info36 rfl (by decide) (by omega) u6 x6_1 ((t296) % 4294967296) [.int .u32 ((t296) % 4294967296)] (fun _ => True) (fun _ => False) rfl rfl ?aP (fun _ hk => hk.elim) ?aF ?aO ?aB ?aS ?aL ?_; (case aP => exact rfl); (case aB => exact (by repeat (first | (with_reducible first | exact HB.out | apply below_alloc | apply pw_below_drewN | apply below_drew1 | refine below_set ?_ GE289.out) | exact HB.out))); (case aF => exact (fun _ _ => trivial)); (case aO => exact (by (with_reducible repeat (first | apply Kd.R_alloc | apply Kd.R_drewN | apply Kd.R_drew)); exact HO_6.out)); (case aS => exact (below_size (by repeat (first | (with_reducible first | exact HB.out | apply below_alloc | apply pw_below_drewN | apply below_drew1 | refine below_set ?_ GE289.out) | exact HB.out)))); (case aL => have := LMc12.out; omega); intro v298 w14 ho hb hg hat; rw [← Ny297.out] at ho; have n0_ := Aside0.mk (Kd.R_over' (by (with_reducible repeat (first | apply Kd.R_alloc | apply Kd.R_drewN | apply Kd.R_drew)); exact HO_4.out) (Kd.R_typed (by (with_reducible repeat (first | apply Kd.R_alloc | apply Kd.R_drewN | apply Kd.R_drew)); exact HO_6.out)) (by decide) hg); have n1_ := Aside0.mk (blk_grown (g := gb289) (o := .cells #[.string (⟨#[]⟩ : ByteArray), .string (⟨#[]⟩ : ByteArray), .int .u32 0, .int .u32 0, .int .u32 0, .int .u32 0, .int .u32 0] 38 (0, 0)) (by (with_reducible repeat (first | refine blk_drewN ?_ _ | refine blk_drew ?_ | refine blk_alloc ?_ _)); exact BK289.out) hg (Kd.R_ne HO_6.out BK289.out (by decide))); have n2_ := Aside0.mk (hb); have n3_ := Aside0.mk (ho); clear HO_4; clear BK289; clear HB; clear HO_6; have HO_4 := n0_; have BK289 := n1_; have HB := n2_; have HO299 := n3_; clear n0_ n1_ n2_ n3_; clear ho hb hg hat))
        go_roundg k1
        case measure => have := HK1.out; omega
        case rel => exact ⟨(y297), (wrap64 (x7_1 + 1)), (by first | rfl | (simp; done) | (simp [*]; done)), H', ⟨by have := HK1.out; omega⟩, ⟨by (with_reducible repeat (first | apply Kd.R_alloc | apply Kd.R_drewN | apply Kd.R_drew)); exact HO_4.out⟩, ⟨by (with_reducible repeat (first | apply Kd.R_alloc | apply Kd.R_drewN | apply Kd.R_drew)); exact HO299.out⟩, ⟨by (with_reducible repeat (first | refine blk_drewN ?_ _ | refine blk_drew ?_ | refine blk_alloc ?_ _)); exact BK289.out⟩, ⟨by repeat (first | (with_reducible first | exact HB.out | apply below_alloc | apply pw_below_drewN | apply below_drew1 | refine below_set ?_ GE289.out) | exact HB.out)⟩⟩
       ·rw [if_neg c12] at H
        exact absurd H (by simp)
      ·rw [if_neg c10] at H
       exact absurd H (by simp)
     ·rw [if_neg c9] at H
      exact absurd H (by simp)
    ·rw [if_neg c8] at H
     have c8b0 : decide (x7_1 < 7) = false := decide_eq_false c8
     clear c8
     by_cases c15 : 0 < (t291.length : Int)
     ·rw [if_pos c15] at H
      have c15b0 : decide (0 < (t291.length : Int)) = true := decide_eq_true c15
      have c15b1 : decide (0 < t291.length) = true := decide_eq_true (by omega)
      clear c15
      by_cases c16 : 1 < (t291.length : Int)
      ·rw [if_pos c16] at H
       have c16b0 : decide (1 < (t291.length : Int)) = true := decide_eq_true c16
       have c16b1 : decide (1 < t291.length) = true := decide_eq_true (by omega)
       clear c16
       by_cases c17 : 0 < (x6_1.length : Int)
       ·rw [if_pos c17] at H
        have c17b0 : decide (0 < (x6_1.length : Int)) = true := decide_eq_true c17
        have c17b1 : decide (0 < x6_1.length) = true := decide_eq_true (by omega)
        clear c17
        by_cases c18 : 1 < (x6_1.length : Int)
        ·rw [if_pos c18] at H
         have c18b0 : decide (1 < (x6_1.length : Int)) = true := decide_eq_true c18
         have c18b1 : decide (1 < x6_1.length) = true := decide_eq_true (by omega)
         clear c18
         by_cases c19 : 2 < (x6_1.length : Int)
         ·rw [if_pos c19] at H
          have c19b0 : decide (2 < (x6_1.length : Int)) = true := decide_eq_true c19
          have c19b1 : decide (2 < x6_1.length) = true := decide_eq_true (by omega)
          clear c19
          by_cases c20 : 3 < (x6_1.length : Int)
          ·rw [if_pos c20] at H
           have c20b0 : decide (3 < (x6_1.length : Int)) = true := decide_eq_true c20
           have c20b1 : decide (3 < x6_1.length) = true := decide_eq_true (by omega)
           clear c20
           by_cases c21 : 4 < (x6_1.length : Int)
           ·rw [if_pos c21] at H
            have c21b0 : decide (4 < (x6_1.length : Int)) = true := decide_eq_true c21
            have c21b1 : decide (4 < x6_1.length) = true := decide_eq_true (by omega)
            clear c21
            simp only [Option.some.injEq, Prod.mk.injEq] at H
            obtain ⟨rfl, rfl, rfl, rfl, rfl, rfl, rfl, rfl⟩ := H
            try go_wp2
            have n0_ := Aside0.mk (Kd.R_drew HO_4.out)
            have n1_ := Aside0.mk (Kd.R_drew HO_6.out)
            have n2_ := Aside0.mk (blk_drew BK289.out)
            have n3_ := Aside0.mk (below_drew1 HB.out)
            clear HO_4
            clear HO_6
            clear BK289
            clear HB
            have HO_4 := n0_
            have HO_6 := n1_
            have BK289 := n2_
            have HB := n3_
            clear n0_ n1_ n2_ n3_
            obtain ⟨Ao23, co23, eo23⟩ := Kd.R_slice HO_4.out
            (first | subst eo23 | (injection eo23 with f1_ f2_ f3_; have f4_ := f1_.symm; have f5_ := f3_.symm; clear f1_ f2_ f3_; subst f4_; subst f5_))
            have p300 : 0 ≤ (0 : Int) := (by omega)
            have q300 : 0 < (t291.length : Int) := of_decide_eq_true (by first | (with_reducible assumption) | assumption)
            obtain ⟨ad300, e300, hx300_0⟩ := Kd.at_string (Kd.R_reads' HO_4.out).2.2 0 p300 q300
            cases e300
            have qi300 : (0 < t291.length) = True := eq_true (by omega)
            (try rw [show ((0 : Int)).toNat = 0 from rfl] at hx300_0)
            (try rw [Addr.add_zero'] at hx300_0)
            replace p300 := eq_true p300
            replace q300 := eq_true q300
            have p301 : 0 ≤ (1 : Int) := (by omega)
            have q301 : 1 < (t291.length : Int) := of_decide_eq_true (by first | (with_reducible assumption) | assumption)
            obtain ⟨ad301, e301, hx301_0⟩ := Kd.at_string (Kd.R_reads' HO_4.out).2.2 1 p301 q301
            obtain rfl : ad300 = ad301 := (by injection e301)
            (try simp only [show (1 : Int).toNat = 1 from rfl, Nat.reduceMul, Nat.reduceEqDiff, Go.Addr.add, ↓reduceIte] at hx301_0)
            have qi301 : (1 < t291.length) = True := eq_true (by omega)
            (try rw [show ((1 : Int)).toNat = 1 from rfl] at hx301_0)
            replace p301 := eq_true p301
            replace q301 := eq_true q301
            obtain ⟨Ao24, co24, eo24⟩ := Kd.R_slice HO_6.out
            (first | subst eo24 | (injection eo24 with f1_ f2_ f3_; have f4_ := f1_.symm; have f5_ := f3_.symm; clear f1_ f2_ f3_; subst f4_; subst f5_))
            have p302 : 0 ≤ (0 : Int) := (by omega)
            have q302 : 0 < (x6_1.length : Int) := of_decide_eq_true (by first | (with_reducible assumption) | assumption)
            obtain ⟨ad302, e302, hx302_0⟩ := Kd.at_int (Kd.R_reads' HO_6.out).2.2 0 p302 q302
            cases e302
            have qi302 : (0 < x6_1.length) = True := eq_true (by omega)
            (try rw [show ((0 : Int)).toNat = 0 from rfl] at hx302_0)
            (try rw [Addr.add_zero'] at hx302_0)
            replace p302 := eq_true p302
            replace q302 := eq_true q302
            have p303 : 0 ≤ (1 : Int) := (by omega)
            have q303 : 1 < (x6_1.length : Int) := of_decide_eq_true (by first | (with_reducible assumption) | assumption)
            obtain ⟨ad303, e303, hx303_0⟩ := Kd.at_int (Kd.R_reads' HO_6.out).2.2 1 p303 q303
            obtain rfl : ad302 = ad303 := (by injection e303)
            (try simp only [show (1 : Int).toNat = 1 from rfl, Nat.reduceMul, Nat.reduceEqDiff, Go.Addr.add, ↓reduceIte] at hx303_0)
            have qi303 : (1 < x6_1.length) = True := eq_true (by omega)
            (try rw [show ((1 : Int)).toNat = 1 from rfl] at hx303_0)
            replace p303 := eq_true p303
            replace q303 := eq_true q303
            have p304 : 0 ≤ (2 : Int) := (by omega)
            have q304 : 2 < (x6_1.length : Int) := of_decide_eq_true (by first | (with_reducible assumption) | assumption)
            obtain ⟨ad304, e304, hx304_0⟩ := Kd.at_int (Kd.R_reads' HO_6.out).2.2 2 p304 q304
            obtain rfl : ad302 = ad304 := (by injection e304)
            (try simp only [show (2 : Int).toNat = 2 from rfl, Nat.reduceMul, Nat.reduceEqDiff, Go.Addr.add, ↓reduceIte] at hx304_0)
            have qi304 : (2 < x6_1.length) = True := eq_true (by omega)
            (try rw [show ((2 : Int)).toNat = 2 from rfl] at hx304_0)
            replace p304 := eq_true p304
            replace q304 := eq_true q304
            have p305 : 0 ≤ (3 : Int) := (by omega)
            have q305 : 3 < (x6_1.length : Int) := of_decide_eq_true (by first | (with_reducible assumption) | assumption)
            obtain ⟨ad305, e305, hx305_0⟩ := Kd.at_int (Kd.R_reads' HO_6.out).2.2 3 p305 q305
            obtain rfl : ad302 = ad305 := (by injection e305)
            (try simp only [show (3 : Int).toNat = 3 from rfl, Nat.reduceMul, Nat.reduceEqDiff, Go.Addr.add, ↓reduceIte] at hx305_0)
            have qi305 : (3 < x6_1.length) = True := eq_true (by omega)
            (try rw [show ((3 : Int)).toNat = 3 from rfl] at hx305_0)
            replace p305 := eq_true p305
            replace q305 := eq_true q305
            have p306 : 0 ≤ (4 : Int) := (by omega)
            have q306 : 4 < (x6_1.length : Int) := of_decide_eq_true (by first | (with_reducible assumption) | assumption)
            obtain ⟨ad306, e306, hx306_0⟩ := Kd.at_int (Kd.R_reads' HO_6.out).2.2 4 p306 q306
            obtain rfl : ad302 = ad306 := (by injection e306)
            (try simp only [show (4 : Int).toNat = 4 from rfl, Nat.reduceMul, Nat.reduceEqDiff, Go.Addr.add, ↓reduceIte] at hx306_0)
            have qi306 : (4 < x6_1.length) = True := eq_true (by omega)
            (try rw [show ((4 : Int)).toNat = 4 from rfl] at hx306_0)
            replace p306 := eq_true p306
            replace q306 := eq_true q306
            refine start_ (n := 24) (S := fun w' => w'.cell? ad300 = some (.string (rdOf ByteArray.empty t291 0)) ∧ w'.cell? ⟨ad300.block, ad300.off + 1, none⟩ = some (.string (rdOf ByteArray.empty t291 1)) ∧ w'.cell? ad302 = some (.int .u32 (rd x6_1 0)) ∧ w'.cell? ⟨ad302.block, ad302.off + 1, none⟩ = some (.int .u32 (rd x6_1 1)) ∧ w'.cell? ⟨ad302.block, ad302.off + 2, none⟩ = some (.int .u32 (rd x6_1 2)) ∧ w'.cell? ⟨ad302.block, ad302.off + 3, none⟩ = some (.int .u32 (rd x6_1 3)) ∧ w'.cell? ⟨ad302.block, ad302.off + 4, none⟩ = some (.int .u32 (rd x6_1 4))) (ds := []) #[false, false, false, false, false, false, false, false, false, false, false, false, false, false, false, false, false, false, false, false, false, false, false, false] (by kernel_rfl) rfl rfl ⟨hx300_0, hx301_0, hx302_0, hx303_0, hx304_0, hx305_0, hx306_0⟩ (fun hHeld => ?_); refine with_tabW beadrollref10_Soa.tab9 beadrollref10_Soa.bits9 (fun HT_ HW_ => ?_)
            generalize wr.drew = w22 at HO_4 HO_6 BK289 HB hx300_0 hx301_0 hx302_0 hx303_0 hx304_0 hx305_0 hx306_0 hHeld ⊢
            refine pure_ (i := 0) (N := some 32) (v := ?_) (a' := ?_) #[true, false, false, false, false, false, false, false, false, false, false, false, false, false, false, false, false, false, false, false, false, false, false, false] rfl rfl (any_of HT_.out (by kernel_rfl)) (fun _ _ _ h => h) (Or.inl ⟨by rfl, ?_⟩) ?_ ?_
            rotate_left
            ·intro w'
             go_simp
             with_reducible rfl
            rotate_left
            ·simp only [Act.put, List.setIfInBounds_toArray, List.set_cons_zero, List.set_cons_succ, i64_w, i32_w]
             rfl
            refine pure_ (i := 1) (N := some 33) (v := ?_) (a' := ?_) #[true, true, false, false, false, false, false, false, false, false, false, false, false, false, false, false, false, false, false, false, false, false, false, false] rfl rfl (any_of HT_.out (by kernel_rfl)) (fun _ _ _ h => h) (Or.inl ⟨by rfl, ?_⟩) ?_ ?_
            rotate_left
            ·intro w'
             go_simp
             with_reducible rfl
            rotate_left
            ·simp only [Act.put, List.setIfInBounds_toArray, List.set_cons_zero, List.set_cons_succ, i64_w, i32_w]
             rfl
            refine pure_ (i := 3) (N := some 35) (v := ?_) (a' := ?_) #[true, true, false, true, false, false, false, false, false, false, false, false, false, false, false, false, false, false, false, false, false, false, false, false] rfl rfl (any_of HT_.out (by kernel_rfl)) (fun _ _ _ h => h) (Or.inl ⟨by rfl, ?_⟩) ?_ ?_
            rotate_left
            ·intro w'
             go_simp
             with_reducible rfl
            rotate_left
            ·simp only [Act.put, List.setIfInBounds_toArray, List.set_cons_zero, List.set_cons_succ, i64_w, i32_w]
             rfl
            refine pure_ (i := 4) (N := some 36) (v := ?_) (a' := ?_) #[true, true, false, true, true, false, false, false, false, false, false, false, false, false, false, false, false, false, false, false, false, false, false, false] rfl rfl (any_of HT_.out (by kernel_rfl)) (fun _ _ _ h => h) (Or.inl ⟨by rfl, ?_⟩) ?_ ?_
            rotate_left
            ·intro w'
             go_simp
             with_reducible rfl
            rotate_left
            ·simp only [Act.put, List.setIfInBounds_toArray, List.set_cons_zero, List.set_cons_succ, i64_w, i32_w]
             rfl
            refine pure_ (i := 6) (N := some 38) (v := ?_) (a' := ?_) #[true, true, false, true, true, false, true, false, false, false, false, false, false, false, false, false, false, false, false, false, false, false, false, false] rfl rfl (any_of HT_.out (by kernel_rfl)) (fun _ _ _ h => h) (Or.inl ⟨by rfl, ?_⟩) ?_ ?_
            rotate_left
            ·intro w'
             go_simp
             with_reducible rfl
            rotate_left
            ·simp only [Act.put, List.setIfInBounds_toArray, List.set_cons_zero, List.set_cons_succ, i64_w, i32_w]
             rfl
            refine pure_ (i := 7) (N := some 39) (v := ?_) (a' := ?_) #[true, true, false, true, true, false, true, true, false, false, false, false, false, false, false, false, false, false, false, false, false, false, false, false] rfl rfl (any_of HT_.out (by kernel_rfl)) (fun _ _ _ h => h) (Or.inl ⟨by rfl, ?_⟩) ?_ ?_
            rotate_left
            ·intro w'
             go_simp
             with_reducible rfl
            rotate_left
            ·simp only [Act.put, List.setIfInBounds_toArray, List.set_cons_zero, List.set_cons_succ, i64_w, i32_w]
             rfl
            refine pure_ (i := 9) (N := some 41) (v := ?_) (a' := ?_) #[true, true, false, true, true, false, true, true, false, true, false, false, false, false, false, false, false, false, false, false, false, false, false, false] rfl rfl (any_of HT_.out (by kernel_rfl)) (fun _ _ _ h => h) (Or.inl ⟨by rfl, ?_⟩) ?_ ?_
            rotate_left
            ·intro w'
             go_simp
             with_reducible rfl
            rotate_left
            ·simp only [Act.put, List.setIfInBounds_toArray, List.set_cons_zero, List.set_cons_succ, i64_w, i32_w]
             rfl
            refine pure_ (i := 10) (N := some 42) (v := ?_) (a' := ?_) #[true, true, false, true, true, false, true, true, false, true, true, false, false, false, false, false, false, false, false, false, false, false, false, false] rfl rfl (any_of HT_.out (by kernel_rfl)) (fun _ _ _ h => h) (Or.inl ⟨by rfl, ?_⟩) ?_ ?_
            rotate_left
            ·intro w'
             go_simp
             with_reducible rfl
            rotate_left
            ·simp only [Act.put, List.setIfInBounds_toArray, List.set_cons_zero, List.set_cons_succ, i64_w, i32_w]
             rfl
            refine pure_ (i := 12) (N := some 44) (v := ?_) (a' := ?_) #[true, true, false, true, true, false, true, true, false, true, true, false, true, false, false, false, false, false, false, false, false, false, false, false] rfl rfl (any_of HT_.out (by kernel_rfl)) (fun _ _ _ h => h) (Or.inl ⟨by rfl, ?_⟩) ?_ ?_
            rotate_left
            ·intro w'
             go_simp
             with_reducible rfl
            rotate_left
            ·simp only [Act.put, List.setIfInBounds_toArray, List.set_cons_zero, List.set_cons_succ, i64_w, i32_w]
             rfl
            refine pure_ (i := 13) (N := some 45) (v := ?_) (a' := ?_) #[true, true, false, true, true, false, true, true, false, true, true, false, true, true, false, false, false, false, false, false, false, false, false, false] rfl rfl (any_of HT_.out (by kernel_rfl)) (fun _ _ _ h => h) (Or.inl ⟨by rfl, ?_⟩) ?_ ?_
            rotate_left
            ·intro w'
             go_simp
             with_reducible rfl
            rotate_left
            ·simp only [Act.put, List.setIfInBounds_toArray, List.set_cons_zero, List.set_cons_succ, i64_w, i32_w]
             rfl
            refine pure_ (i := 15) (N := some 47) (v := ?_) (a' := ?_) #[true, true, false, true, true, false, true, true, false, true, true, false, true, true, false, true, false, false, false, false, false, false, false, false] rfl rfl (any_of HT_.out (by kernel_rfl)) (fun _ _ _ h => h) (Or.inl ⟨by rfl, ?_⟩) ?_ ?_
            rotate_left
            ·intro w'
             go_simp
             with_reducible rfl
            rotate_left
            ·simp only [Act.put, List.setIfInBounds_toArray, List.set_cons_zero, List.set_cons_succ, i64_w, i32_w]
             rfl
            refine pure_ (i := 16) (N := some 48) (v := ?_) (a' := ?_) #[true, true, false, true, true, false, true, true, false, true, true, false, true, true, false, true, true, false, false, false, false, false, false, false] rfl rfl (any_of HT_.out (by kernel_rfl)) (fun _ _ _ h => h) (Or.inl ⟨by rfl, ?_⟩) ?_ ?_
            rotate_left
            ·intro w'
             go_simp
             with_reducible rfl
            rotate_left
            ·simp only [Act.put, List.setIfInBounds_toArray, List.set_cons_zero, List.set_cons_succ, i64_w, i32_w]
             rfl
            refine pure_ (i := 18) (N := some 50) (v := ?_) (a' := ?_) #[true, true, false, true, true, false, true, true, false, true, true, false, true, true, false, true, true, false, true, false, false, false, false, false] rfl rfl (any_of HT_.out (by kernel_rfl)) (fun _ _ _ h => h) (Or.inl ⟨by rfl, ?_⟩) ?_ ?_
            rotate_left
            ·intro w'
             go_simp
             with_reducible rfl
            rotate_left
            ·simp only [Act.put, List.setIfInBounds_toArray, List.set_cons_zero, List.set_cons_succ, i64_w, i32_w]
             rfl
            refine pure_ (i := 19) (N := some 51) (v := ?_) (a' := ?_) #[true, true, false, true, true, false, true, true, false, true, true, false, true, true, false, true, true, false, true, true, false, false, false, false] rfl rfl (any_of HT_.out (by kernel_rfl)) (fun _ _ _ h => h) (Or.inl ⟨by rfl, ?_⟩) ?_ ?_
            rotate_left
            ·intro w'
             go_simp
             with_reducible rfl
            rotate_left
            ·simp only [Act.put, List.setIfInBounds_toArray, List.set_cons_zero, List.set_cons_succ, i64_w, i32_w]
             rfl
            refine take_ (i := 2) (N := some 34) (v := ?_) (a' := ?_) #[true, true, true, true, true, false, true, true, false, true, true, false, true, true, false, true, true, false, true, true, false, false, false, false] rfl rfl (take_ofW HT_.out HW_.out (by kernel_rfl)) (fun _ _ _ h => h) (Or.inl ⟨by rfl, ?_⟩) hHeld ?_ ?_
            rotate_left
            ·rintro w' ⟨s0, s1, s2, s3, s4, s5, s6⟩
             go_simp
             with_reducible rfl
            rotate_left
            ·simp only [Act.put, List.setIfInBounds_toArray, List.set_cons_zero, List.set_cons_succ, i64_w, i32_w]
             rfl
            refine take_ (i := 5) (N := some 37) (v := ?_) (a' := ?_) #[true, true, true, true, true, true, true, true, false, true, true, false, true, true, false, true, true, false, true, true, false, false, false, false] rfl rfl (take_ofW HT_.out HW_.out (by kernel_rfl)) (fun _ _ _ h => h) (Or.inl ⟨by rfl, ?_⟩) hHeld ?_ ?_
            rotate_left
            ·rintro w' ⟨s0, s1, s2, s3, s4, s5, s6⟩
             go_simp
             with_reducible rfl
            rotate_left
            ·simp only [Act.put, List.setIfInBounds_toArray, List.set_cons_zero, List.set_cons_succ, i64_w, i32_w]
             rfl
            refine take_ (i := 8) (N := some 40) (v := ?_) (a' := ?_) #[true, true, true, true, true, true, true, true, true, true, true, false, true, true, false, true, true, false, true, true, false, false, false, false] rfl rfl (take_ofW HT_.out HW_.out (by kernel_rfl)) (fun _ _ _ h => h) (Or.inl ⟨by rfl, ?_⟩) hHeld ?_ ?_
            rotate_left
            ·rintro w' ⟨s0, s1, s2, s3, s4, s5, s6⟩
             go_simp
             with_reducible rfl
            rotate_left
            ·simp only [Act.put, List.setIfInBounds_toArray, List.set_cons_zero, List.set_cons_succ, i64_w, i32_w]
             rfl
            refine take_ (i := 11) (N := some 43) (v := ?_) (a' := ?_) #[true, true, true, true, true, true, true, true, true, true, true, true, true, true, false, true, true, false, true, true, false, false, false, false] rfl rfl (take_ofW HT_.out HW_.out (by kernel_rfl)) (fun _ _ _ h => h) (Or.inl ⟨by rfl, ?_⟩) hHeld ?_ ?_
            rotate_left
            ·rintro w' ⟨s0, s1, s2, s3, s4, s5, s6⟩
             go_simp
             with_reducible rfl
            rotate_left
            ·simp only [Act.put, List.setIfInBounds_toArray, List.set_cons_zero, List.set_cons_succ, i64_w, i32_w]
             rfl
            refine take_ (i := 14) (N := some 46) (v := ?_) (a' := ?_) #[true, true, true, true, true, true, true, true, true, true, true, true, true, true, true, true, true, false, true, true, false, false, false, false] rfl rfl (take_ofW HT_.out HW_.out (by kernel_rfl)) (fun _ _ _ h => h) (Or.inl ⟨by rfl, ?_⟩) hHeld ?_ ?_
            rotate_left
            ·rintro w' ⟨s0, s1, s2, s3, s4, s5, s6⟩
             go_simp
             with_reducible rfl
            rotate_left
            ·simp only [Act.put, List.setIfInBounds_toArray, List.set_cons_zero, List.set_cons_succ, i64_w, i32_w]
             rfl
            refine take_ (i := 17) (N := some 49) (v := ?_) (a' := ?_) #[true, true, true, true, true, true, true, true, true, true, true, true, true, true, true, true, true, true, true, true, false, false, false, false] rfl rfl (take_ofW HT_.out HW_.out (by kernel_rfl)) (fun _ _ _ h => h) (Or.inl ⟨by rfl, ?_⟩) hHeld ?_ ?_
            rotate_left
            ·rintro w' ⟨s0, s1, s2, s3, s4, s5, s6⟩
             go_simp
             with_reducible rfl
            rotate_left
            ·simp only [Act.put, List.setIfInBounds_toArray, List.set_cons_zero, List.set_cons_succ, i64_w, i32_w]
             rfl
            refine take_ (i := 20) (N := some 52) (v := ?_) (a' := ?_) #[true, true, true, true, true, true, true, true, true, true, true, true, true, true, true, true, true, true, true, true, true, false, false, false] rfl rfl (take_ofW HT_.out HW_.out (by kernel_rfl)) (fun _ _ _ h => h) (Or.inl ⟨by rfl, ?_⟩) hHeld ?_ ?_
            rotate_left
            ·rintro w' ⟨s0, s1, s2, s3, s4, s5, s6⟩
             go_simp
             with_reducible rfl
            rotate_left
            ·simp only [Act.put, List.setIfInBounds_toArray, List.set_cons_zero, List.set_cons_succ, i64_w, i32_w]
             rfl
            refine pure_ (i := 21) (N := some 53) (v := ?_) (a' := ?_) #[true, true, true, true, true, true, true, true, true, true, true, true, true, true, true, true, true, true, true, true, true, true, false, false] rfl rfl (any_of HT_.out (by kernel_rfl)) (fun _ _ _ h => h) (Or.inl ⟨by rfl, ?_⟩) ?_ ?_
            rotate_left
            ·intro w'
             go_simp
             with_reducible rfl
            rotate_left
            ·simp only [Act.put, List.setIfInBounds_toArray, List.set_cons_zero, List.set_cons_succ, i64_w, i32_w]
             rfl
            refine one_ (i := 22) (N := none) #[true, true, true, true, true, true, true, true, true, true, true, true, true, true, true, true, true, true, true, true, true, true, true, false] rfl rfl (one_of HT_.out (by kernel_rfl)) (by decide) (fun K hK => ?_)
            have hs25 : w22.cell? ⟨gb289, 0, none⟩ = some (.string (⟨#[]⟩ : ByteArray)) := (blk_cell BK289.out 0).trans rfl
            have hfs25 := blk_frozen BK289.out 0
            have hs26 : w22.cell? ⟨gb289, 1, none⟩ = some (.string (⟨#[]⟩ : ByteArray)) := (blk_cell BK289.out 1).trans rfl
            have hfs26 := blk_frozen BK289.out 1
            have hs27 : w22.cell? ⟨gb289, 2, none⟩ = some (.int .u32 0) := (blk_cell BK289.out 2).trans rfl
            have hfs27 := blk_frozen BK289.out 2
            have hs28 : w22.cell? ⟨gb289, 3, none⟩ = some (.int .u32 0) := (blk_cell BK289.out 3).trans rfl
            have hfs28 := blk_frozen BK289.out 3
            have hs29 : w22.cell? ⟨gb289, 4, none⟩ = some (.int .u32 0) := (blk_cell BK289.out 4).trans rfl
            have hfs29 := blk_frozen BK289.out 4
            have hs30 : w22.cell? ⟨gb289, 5, none⟩ = some (.int .u32 0) := (blk_cell BK289.out 5).trans rfl
            have hfs30 := blk_frozen BK289.out 5
            have hs31 : w22.cell? ⟨gb289, 6, none⟩ = some (.int .u32 0) := (blk_cell BK289.out 6).trans rfl
            have hfs31 := blk_frozen BK289.out 6
            refine skip_ (w1 := ?_) (by rfl) rfl ?_ ?_
            rotate_left
            ·go_simp
             rfl
            refine hK.out _ _ ⟨((cell_far (p := ⟨gb289, _, none⟩) (by first | exact Kd.own_blk (Kd.R_ne HO_4.out BK289.out (by decide)) | (rw [add_block]; exact Kd.own_blk (Kd.R_ne HO_4.out BK289.out (by decide))) | (show (Addr.add _ _).block ≠ _; rw [add_block]; exact Kd.own_blk (Kd.R_ne HO_4.out BK289.out (by decide))) | (dsimp only; exact Kd.own_blk (Kd.R_ne HO_4.out BK289.out (by decide)))) _).trans (((cell_far (p := ⟨gb289, _, none⟩) (by first | exact Kd.own_blk (Kd.R_ne HO_4.out BK289.out (by decide)) | (rw [add_block]; exact Kd.own_blk (Kd.R_ne HO_4.out BK289.out (by decide))) | (show (Addr.add _ _).block ≠ _; rw [add_block]; exact Kd.own_blk (Kd.R_ne HO_4.out BK289.out (by decide))) | (dsimp only; exact Kd.own_blk (Kd.R_ne HO_4.out BK289.out (by decide)))) _).trans (((cell_far (p := ⟨gb289, _, none⟩) (by first | exact Kd.own_blk (Kd.R_ne HO_4.out BK289.out (by decide)) | (rw [add_block]; exact Kd.own_blk (Kd.R_ne HO_4.out BK289.out (by decide))) | (show (Addr.add _ _).block ≠ _; rw [add_block]; exact Kd.own_blk (Kd.R_ne HO_4.out BK289.out (by decide))) | (dsimp only; exact Kd.own_blk (Kd.R_ne HO_4.out BK289.out (by decide)))) _).trans (((cell_far (p := ⟨gb289, _, none⟩) (by first | exact Kd.own_blk (Kd.R_ne HO_4.out BK289.out (by decide)) | (rw [add_block]; exact Kd.own_blk (Kd.R_ne HO_4.out BK289.out (by decide))) | (show (Addr.add _ _).block ≠ _; rw [add_block]; exact Kd.own_blk (Kd.R_ne HO_4.out BK289.out (by decide))) | (dsimp only; exact Kd.own_blk (Kd.R_ne HO_4.out BK289.out (by decide)))) _).trans (((cell_far (p := ⟨gb289, _, none⟩) (by first | exact Kd.own_blk (Kd.R_ne HO_4.out BK289.out (by decide)) | (rw [add_block]; exact Kd.own_blk (Kd.R_ne HO_4.out BK289.out (by decide))) | (show (Addr.add _ _).block ≠ _; rw [add_block]; exact Kd.own_blk (Kd.R_ne HO_4.out BK289.out (by decide))) | (dsimp only; exact Kd.own_blk (Kd.R_ne HO_4.out BK289.out (by decide)))) _).trans (((cell_far (p := ⟨gb289, _, none⟩) (by first | exact Kd.own_blk (Kd.R_ne HO_4.out BK289.out (by decide)) | (rw [add_block]; exact Kd.own_blk (Kd.R_ne HO_4.out BK289.out (by decide))) | (show (Addr.add _ _).block ≠ _; rw [add_block]; exact Kd.own_blk (Kd.R_ne HO_4.out BK289.out (by decide))) | (dsimp only; exact Kd.own_blk (Kd.R_ne HO_4.out BK289.out (by decide)))) _).trans (((cell_far (p := ⟨gb289, _, none⟩) (by first | exact Kd.own_blk (Kd.R_ne HO_4.out BK289.out (by decide)) | (rw [add_block]; exact Kd.own_blk (Kd.R_ne HO_4.out BK289.out (by decide))) | (show (Addr.add _ _).block ≠ _; rw [add_block]; exact Kd.own_blk (Kd.R_ne HO_4.out BK289.out (by decide))) | (dsimp only; exact Kd.own_blk (Kd.R_ne HO_4.out BK289.out (by decide)))) _).trans (hHeld.1)))))))))))))), ((cell_far (p := ⟨gb289, _, none⟩) (by first | exact Kd.own_blk (Kd.R_ne HO_4.out BK289.out (by decide)) | (rw [add_block]; exact Kd.own_blk (Kd.R_ne HO_4.out BK289.out (by decide))) | (show (Addr.add _ _).block ≠ _; rw [add_block]; exact Kd.own_blk (Kd.R_ne HO_4.out BK289.out (by decide))) | (dsimp only; exact Kd.own_blk (Kd.R_ne HO_4.out BK289.out (by decide)))) _).trans (((cell_far (p := ⟨gb289, _, none⟩) (by first | exact Kd.own_blk (Kd.R_ne HO_4.out BK289.out (by decide)) | (rw [add_block]; exact Kd.own_blk (Kd.R_ne HO_4.out BK289.out (by decide))) | (show (Addr.add _ _).block ≠ _; rw [add_block]; exact Kd.own_blk (Kd.R_ne HO_4.out BK289.out (by decide))) | (dsimp only; exact Kd.own_blk (Kd.R_ne HO_4.out BK289.out (by decide)))) _).trans (((cell_far (p := ⟨gb289, _, none⟩) (by first | exact Kd.own_blk (Kd.R_ne HO_4.out BK289.out (by decide)) | (rw [add_block]; exact Kd.own_blk (Kd.R_ne HO_4.out BK289.out (by decide))) | (show (Addr.add _ _).block ≠ _; rw [add_block]; exact Kd.own_blk (Kd.R_ne HO_4.out BK289.out (by decide))) | (dsimp only; exact Kd.own_blk (Kd.R_ne HO_4.out BK289.out (by decide)))) _).trans (((cell_far (p := ⟨gb289, _, none⟩) (by first | exact Kd.own_blk (Kd.R_ne HO_4.out BK289.out (by decide)) | (rw [add_block]; exact Kd.own_blk (Kd.R_ne HO_4.out BK289.out (by decide))) | (show (Addr.add _ _).block ≠ _; rw [add_block]; exact Kd.own_blk (Kd.R_ne HO_4.out BK289.out (by decide))) | (dsimp only; exact Kd.own_blk (Kd.R_ne HO_4.out BK289.out (by decide)))) _).trans (((cell_far (p := ⟨gb289, _, none⟩) (by first | exact Kd.own_blk (Kd.R_ne HO_4.out BK289.out (by decide)) | (rw [add_block]; exact Kd.own_blk (Kd.R_ne HO_4.out BK289.out (by decide))) | (show (Addr.add _ _).block ≠ _; rw [add_block]; exact Kd.own_blk (Kd.R_ne HO_4.out BK289.out (by decide))) | (dsimp only; exact Kd.own_blk (Kd.R_ne HO_4.out BK289.out (by decide)))) _).trans (((cell_far (p := ⟨gb289, _, none⟩) (by first | exact Kd.own_blk (Kd.R_ne HO_4.out BK289.out (by decide)) | (rw [add_block]; exact Kd.own_blk (Kd.R_ne HO_4.out BK289.out (by decide))) | (show (Addr.add _ _).block ≠ _; rw [add_block]; exact Kd.own_blk (Kd.R_ne HO_4.out BK289.out (by decide))) | (dsimp only; exact Kd.own_blk (Kd.R_ne HO_4.out BK289.out (by decide)))) _).trans (((cell_far (p := ⟨gb289, _, none⟩) (by first | exact Kd.own_blk (Kd.R_ne HO_4.out BK289.out (by decide)) | (rw [add_block]; exact Kd.own_blk (Kd.R_ne HO_4.out BK289.out (by decide))) | (show (Addr.add _ _).block ≠ _; rw [add_block]; exact Kd.own_blk (Kd.R_ne HO_4.out BK289.out (by decide))) | (dsimp only; exact Kd.own_blk (Kd.R_ne HO_4.out BK289.out (by decide)))) _).trans (hHeld.2.1)))))))))))))), ((cell_far (p := ⟨gb289, _, none⟩) (by first | exact Kd.own_blk (Kd.R_ne HO_6.out BK289.out (by decide)) | (rw [add_block]; exact Kd.own_blk (Kd.R_ne HO_6.out BK289.out (by decide))) | (show (Addr.add _ _).block ≠ _; rw [add_block]; exact Kd.own_blk (Kd.R_ne HO_6.out BK289.out (by decide))) | (dsimp only; exact Kd.own_blk (Kd.R_ne HO_6.out BK289.out (by decide)))) _).trans (((cell_far (p := ⟨gb289, _, none⟩) (by first | exact Kd.own_blk (Kd.R_ne HO_6.out BK289.out (by decide)) | (rw [add_block]; exact Kd.own_blk (Kd.R_ne HO_6.out BK289.out (by decide))) | (show (Addr.add _ _).block ≠ _; rw [add_block]; exact Kd.own_blk (Kd.R_ne HO_6.out BK289.out (by decide))) | (dsimp only; exact Kd.own_blk (Kd.R_ne HO_6.out BK289.out (by decide)))) _).trans (((cell_far (p := ⟨gb289, _, none⟩) (by first | exact Kd.own_blk (Kd.R_ne HO_6.out BK289.out (by decide)) | (rw [add_block]; exact Kd.own_blk (Kd.R_ne HO_6.out BK289.out (by decide))) | (show (Addr.add _ _).block ≠ _; rw [add_block]; exact Kd.own_blk (Kd.R_ne HO_6.out BK289.out (by decide))) | (dsimp only; exact Kd.own_blk (Kd.R_ne HO_6.out BK289.out (by decide)))) _).trans (((cell_far (p := ⟨gb289, _, none⟩) (by first | exact Kd.own_blk (Kd.R_ne HO_6.out BK289.out (by decide)) | (rw [add_block]; exact Kd.own_blk (Kd.R_ne HO_6.out BK289.out (by decide))) | (show (Addr.add _ _).block ≠ _; rw [add_block]; exact Kd.own_blk (Kd.R_ne HO_6.out BK289.out (by decide))) | (dsimp only; exact Kd.own_blk (Kd.R_ne HO_6.out BK289.out (by decide)))) _).trans (((cell_far (p := ⟨gb289, _, none⟩) (by first | exact Kd.own_blk (Kd.R_ne HO_6.out BK289.out (by decide)) | (rw [add_block]; exact Kd.own_blk (Kd.R_ne HO_6.out BK289.out (by decide))) | (show (Addr.add _ _).block ≠ _; rw [add_block]; exact Kd.own_blk (Kd.R_ne HO_6.out BK289.out (by decide))) | (dsimp only; exact Kd.own_blk (Kd.R_ne HO_6.out BK289.out (by decide)))) _).trans (((cell_far (p := ⟨gb289, _, none⟩) (by first | exact Kd.own_blk (Kd.R_ne HO_6.out BK289.out (by decide)) | (rw [add_block]; exact Kd.own_blk (Kd.R_ne HO_6.out BK289.out (by decide))) | (show (Addr.add _ _).block ≠ _; rw [add_block]; exact Kd.own_blk (Kd.R_ne HO_6.out BK289.out (by decide))) | (dsimp only; exact Kd.own_blk (Kd.R_ne HO_6.out BK289.out (by decide)))) _).trans (((cell_far (p := ⟨gb289, _, none⟩) (by first | exact Kd.own_blk (Kd.R_ne HO_6.out BK289.out (by decide)) | (rw [add_block]; exact Kd.own_blk (Kd.R_ne HO_6.out BK289.out (by decide))) | (show (Addr.add _ _).block ≠ _; rw [add_block]; exact Kd.own_blk (Kd.R_ne HO_6.out BK289.out (by decide))) | (dsimp only; exact Kd.own_blk (Kd.R_ne HO_6.out BK289.out (by decide)))) _).trans (hHeld.2.2.1)))))))))))))), ((cell_far (p := ⟨gb289, _, none⟩) (by first | exact Kd.own_blk (Kd.R_ne HO_6.out BK289.out (by decide)) | (rw [add_block]; exact Kd.own_blk (Kd.R_ne HO_6.out BK289.out (by decide))) | (show (Addr.add _ _).block ≠ _; rw [add_block]; exact Kd.own_blk (Kd.R_ne HO_6.out BK289.out (by decide))) | (dsimp only; exact Kd.own_blk (Kd.R_ne HO_6.out BK289.out (by decide)))) _).trans (((cell_far (p := ⟨gb289, _, none⟩) (by first | exact Kd.own_blk (Kd.R_ne HO_6.out BK289.out (by decide)) | (rw [add_block]; exact Kd.own_blk (Kd.R_ne HO_6.out BK289.out (by decide))) | (show (Addr.add _ _).block ≠ _; rw [add_block]; exact Kd.own_blk (Kd.R_ne HO_6.out BK289.out (by decide))) | (dsimp only; exact Kd.own_blk (Kd.R_ne HO_6.out BK289.out (by decide)))) _).trans (((cell_far (p := ⟨gb289, _, none⟩) (by first | exact Kd.own_blk (Kd.R_ne HO_6.out BK289.out (by decide)) | (rw [add_block]; exact Kd.own_blk (Kd.R_ne HO_6.out BK289.out (by decide))) | (show (Addr.add _ _).block ≠ _; rw [add_block]; exact Kd.own_blk (Kd.R_ne HO_6.out BK289.out (by decide))) | (dsimp only; exact Kd.own_blk (Kd.R_ne HO_6.out BK289.out (by decide)))) _).trans (((cell_far (p := ⟨gb289, _, none⟩) (by first | exact Kd.own_blk (Kd.R_ne HO_6.out BK289.out (by decide)) | (rw [add_block]; exact Kd.own_blk (Kd.R_ne HO_6.out BK289.out (by decide))) | (show (Addr.add _ _).block ≠ _; rw [add_block]; exact Kd.own_blk (Kd.R_ne HO_6.out BK289.out (by decide))) | (dsimp only; exact Kd.own_blk (Kd.R_ne HO_6.out BK289.out (by decide)))) _).trans (((cell_far (p := ⟨gb289, _, none⟩) (by first | exact Kd.own_blk (Kd.R_ne HO_6.out BK289.out (by decide)) | (rw [add_block]; exact Kd.own_blk (Kd.R_ne HO_6.out BK289.out (by decide))) | (show (Addr.add _ _).block ≠ _; rw [add_block]; exact Kd.own_blk (Kd.R_ne HO_6.out BK289.out (by decide))) | (dsimp only; exact Kd.own_blk (Kd.R_ne HO_6.out BK289.out (by decide)))) _).trans (((cell_far (p := ⟨gb289, _, none⟩) (by first | exact Kd.own_blk (Kd.R_ne HO_6.out BK289.out (by decide)) | (rw [add_block]; exact Kd.own_blk (Kd.R_ne HO_6.out BK289.out (by decide))) | (show (Addr.add _ _).block ≠ _; rw [add_block]; exact Kd.own_blk (Kd.R_ne HO_6.out BK289.out (by decide))) | (dsimp only; exact Kd.own_blk (Kd.R_ne HO_6.out BK289.out (by decide)))) _).trans (((cell_far (p := ⟨gb289, _, none⟩) (by first | exact Kd.own_blk (Kd.R_ne HO_6.out BK289.out (by decide)) | (rw [add_block]; exact Kd.own_blk (Kd.R_ne HO_6.out BK289.out (by decide))) | (show (Addr.add _ _).block ≠ _; rw [add_block]; exact Kd.own_blk (Kd.R_ne HO_6.out BK289.out (by decide))) | (dsimp only; exact Kd.own_blk (Kd.R_ne HO_6.out BK289.out (by decide)))) _).trans (hHeld.2.2.2.1)))))))))))))), ((cell_far (p := ⟨gb289, _, none⟩) (by first | exact Kd.own_blk (Kd.R_ne HO_6.out BK289.out (by decide)) | (rw [add_block]; exact Kd.own_blk (Kd.R_ne HO_6.out BK289.out (by decide))) | (show (Addr.add _ _).block ≠ _; rw [add_block]; exact Kd.own_blk (Kd.R_ne HO_6.out BK289.out (by decide))) | (dsimp only; exact Kd.own_blk (Kd.R_ne HO_6.out BK289.out (by decide)))) _).trans (((cell_far (p := ⟨gb289, _, none⟩) (by first | exact Kd.own_blk (Kd.R_ne HO_6.out BK289.out (by decide)) | (rw [add_block]; exact Kd.own_blk (Kd.R_ne HO_6.out BK289.out (by decide))) | (show (Addr.add _ _).block ≠ _; rw [add_block]; exact Kd.own_blk (Kd.R_ne HO_6.out BK289.out (by decide))) | (dsimp only; exact Kd.own_blk (Kd.R_ne HO_6.out BK289.out (by decide)))) _).trans (((cell_far (p := ⟨gb289, _, none⟩) (by first | exact Kd.own_blk (Kd.R_ne HO_6.out BK289.out (by decide)) | (rw [add_block]; exact Kd.own_blk (Kd.R_ne HO_6.out BK289.out (by decide))) | (show (Addr.add _ _).block ≠ _; rw [add_block]; exact Kd.own_blk (Kd.R_ne HO_6.out BK289.out (by decide))) | (dsimp only; exact Kd.own_blk (Kd.R_ne HO_6.out BK289.out (by decide)))) _).trans (((cell_far (p := ⟨gb289, _, none⟩) (by first | exact Kd.own_blk (Kd.R_ne HO_6.out BK289.out (by decide)) | (rw [add_block]; exact Kd.own_blk (Kd.R_ne HO_6.out BK289.out (by decide))) | (show (Addr.add _ _).block ≠ _; rw [add_block]; exact Kd.own_blk (Kd.R_ne HO_6.out BK289.out (by decide))) | (dsimp only; exact Kd.own_blk (Kd.R_ne HO_6.out BK289.out (by decide)))) _).trans (((cell_far (p := ⟨gb289, _, none⟩) (by first | exact Kd.own_blk (Kd.R_ne HO_6.out BK289.out (by decide)) | (rw [add_block]; exact Kd.own_blk (Kd.R_ne HO_6.out BK289.out (by decide))) | (show (Addr.add _ _).block ≠ _; rw [add_block]; exact Kd.own_blk (Kd.R_ne HO_6.out BK289.out (by decide))) | (dsimp only; exact Kd.own_blk (Kd.R_ne HO_6.out BK289.out (by decide)))) _).trans (((cell_far (p := ⟨gb289, _, none⟩) (by first | exact Kd.own_blk (Kd.R_ne HO_6.out BK289.out (by decide)) | (rw [add_block]; exact Kd.own_blk (Kd.R_ne HO_6.out BK289.out (by decide))) | (show (Addr.add _ _).block ≠ _; rw [add_block]; exact Kd.own_blk (Kd.R_ne HO_6.out BK289.out (by decide))) | (dsimp only; exact Kd.own_blk (Kd.R_ne HO_6.out BK289.out (by decide)))) _).trans (((cell_far (p := ⟨gb289, _, none⟩) (by first | exact Kd.own_blk (Kd.R_ne HO_6.out BK289.out (by decide)) | (rw [add_block]; exact Kd.own_blk (Kd.R_ne HO_6.out BK289.out (by decide))) | (show (Addr.add _ _).block ≠ _; rw [add_block]; exact Kd.own_blk (Kd.R_ne HO_6.out BK289.out (by decide))) | (dsimp only; exact Kd.own_blk (Kd.R_ne HO_6.out BK289.out (by decide)))) _).trans (hHeld.2.2.2.2.1)))))))))))))), ((cell_far (p := ⟨gb289, _, none⟩) (by first | exact Kd.own_blk (Kd.R_ne HO_6.out BK289.out (by decide)) | (rw [add_block]; exact Kd.own_blk (Kd.R_ne HO_6.out BK289.out (by decide))) | (show (Addr.add _ _).block ≠ _; rw [add_block]; exact Kd.own_blk (Kd.R_ne HO_6.out BK289.out (by decide))) | (dsimp only; exact Kd.own_blk (Kd.R_ne HO_6.out BK289.out (by decide)))) _).trans (((cell_far (p := ⟨gb289, _, none⟩) (by first | exact Kd.own_blk (Kd.R_ne HO_6.out BK289.out (by decide)) | (rw [add_block]; exact Kd.own_blk (Kd.R_ne HO_6.out BK289.out (by decide))) | (show (Addr.add _ _).block ≠ _; rw [add_block]; exact Kd.own_blk (Kd.R_ne HO_6.out BK289.out (by decide))) | (dsimp only; exact Kd.own_blk (Kd.R_ne HO_6.out BK289.out (by decide)))) _).trans (((cell_far (p := ⟨gb289, _, none⟩) (by first | exact Kd.own_blk (Kd.R_ne HO_6.out BK289.out (by decide)) | (rw [add_block]; exact Kd.own_blk (Kd.R_ne HO_6.out BK289.out (by decide))) | (show (Addr.add _ _).block ≠ _; rw [add_block]; exact Kd.own_blk (Kd.R_ne HO_6.out BK289.out (by decide))) | (dsimp only; exact Kd.own_blk (Kd.R_ne HO_6.out BK289.out (by decide)))) _).trans (((cell_far (p := ⟨gb289, _, none⟩) (by first | exact Kd.own_blk (Kd.R_ne HO_6.out BK289.out (by decide)) | (rw [add_block]; exact Kd.own_blk (Kd.R_ne HO_6.out BK289.out (by decide))) | (show (Addr.add _ _).block ≠ _; rw [add_block]; exact Kd.own_blk (Kd.R_ne HO_6.out BK289.out (by decide))) | (dsimp only; exact Kd.own_blk (Kd.R_ne HO_6.out BK289.out (by decide)))) _).trans (((cell_far (p := ⟨gb289, _, none⟩) (by first | exact Kd.own_blk (Kd.R_ne HO_6.out BK289.out (by decide)) | (rw [add_block]; exact Kd.own_blk (Kd.R_ne HO_6.out BK289.out (by decide))) | (show (Addr.add _ _).block ≠ _; rw [add_block]; exact Kd.own_blk (Kd.R_ne HO_6.out BK289.out (by decide))) | (dsimp only; exact Kd.own_blk (Kd.R_ne HO_6.out BK289.out (by decide)))) _).trans (((cell_far (p := ⟨gb289, _, none⟩) (by first | exact Kd.own_blk (Kd.R_ne HO_6.out BK289.out (by decide)) | (rw [add_block]; exact Kd.own_blk (Kd.R_ne HO_6.out BK289.out (by decide))) | (show (Addr.add _ _).block ≠ _; rw [add_block]; exact Kd.own_blk (Kd.R_ne HO_6.out BK289.out (by decide))) | (dsimp only; exact Kd.own_blk (Kd.R_ne HO_6.out BK289.out (by decide)))) _).trans (((cell_far (p := ⟨gb289, _, none⟩) (by first | exact Kd.own_blk (Kd.R_ne HO_6.out BK289.out (by decide)) | (rw [add_block]; exact Kd.own_blk (Kd.R_ne HO_6.out BK289.out (by decide))) | (show (Addr.add _ _).block ≠ _; rw [add_block]; exact Kd.own_blk (Kd.R_ne HO_6.out BK289.out (by decide))) | (dsimp only; exact Kd.own_blk (Kd.R_ne HO_6.out BK289.out (by decide)))) _).trans (hHeld.2.2.2.2.2.1)))))))))))))), ((cell_far (p := ⟨gb289, _, none⟩) (by first | exact Kd.own_blk (Kd.R_ne HO_6.out BK289.out (by decide)) | (rw [add_block]; exact Kd.own_blk (Kd.R_ne HO_6.out BK289.out (by decide))) | (show (Addr.add _ _).block ≠ _; rw [add_block]; exact Kd.own_blk (Kd.R_ne HO_6.out BK289.out (by decide))) | (dsimp only; exact Kd.own_blk (Kd.R_ne HO_6.out BK289.out (by decide)))) _).trans (((cell_far (p := ⟨gb289, _, none⟩) (by first | exact Kd.own_blk (Kd.R_ne HO_6.out BK289.out (by decide)) | (rw [add_block]; exact Kd.own_blk (Kd.R_ne HO_6.out BK289.out (by decide))) | (show (Addr.add _ _).block ≠ _; rw [add_block]; exact Kd.own_blk (Kd.R_ne HO_6.out BK289.out (by decide))) | (dsimp only; exact Kd.own_blk (Kd.R_ne HO_6.out BK289.out (by decide)))) _).trans (((cell_far (p := ⟨gb289, _, none⟩) (by first | exact Kd.own_blk (Kd.R_ne HO_6.out BK289.out (by decide)) | (rw [add_block]; exact Kd.own_blk (Kd.R_ne HO_6.out BK289.out (by decide))) | (show (Addr.add _ _).block ≠ _; rw [add_block]; exact Kd.own_blk (Kd.R_ne HO_6.out BK289.out (by decide))) | (dsimp only; exact Kd.own_blk (Kd.R_ne HO_6.out BK289.out (by decide)))) _).trans (((cell_far (p := ⟨gb289, _, none⟩) (by first | exact Kd.own_blk (Kd.R_ne HO_6.out BK289.out (by decide)) | (rw [add_block]; exact Kd.own_blk (Kd.R_ne HO_6.out BK289.out (by decide))) | (show (Addr.add _ _).block ≠ _; rw [add_block]; exact Kd.own_blk (Kd.R_ne HO_6.out BK289.out (by decide))) | (dsimp only; exact Kd.own_blk (Kd.R_ne HO_6.out BK289.out (by decide)))) _).trans (((cell_far (p := ⟨gb289, _, none⟩) (by first | exact Kd.own_blk (Kd.R_ne HO_6.out BK289.out (by decide)) | (rw [add_block]; exact Kd.own_blk (Kd.R_ne HO_6.out BK289.out (by decide))) | (show (Addr.add _ _).block ≠ _; rw [add_block]; exact Kd.own_blk (Kd.R_ne HO_6.out BK289.out (by decide))) | (dsimp only; exact Kd.own_blk (Kd.R_ne HO_6.out BK289.out (by decide)))) _).trans (((cell_far (p := ⟨gb289, _, none⟩) (by first | exact Kd.own_blk (Kd.R_ne HO_6.out BK289.out (by decide)) | (rw [add_block]; exact Kd.own_blk (Kd.R_ne HO_6.out BK289.out (by decide))) | (show (Addr.add _ _).block ≠ _; rw [add_block]; exact Kd.own_blk (Kd.R_ne HO_6.out BK289.out (by decide))) | (dsimp only; exact Kd.own_blk (Kd.R_ne HO_6.out BK289.out (by decide)))) _).trans (((cell_far (p := ⟨gb289, _, none⟩) (by first | exact Kd.own_blk (Kd.R_ne HO_6.out BK289.out (by decide)) | (rw [add_block]; exact Kd.own_blk (Kd.R_ne HO_6.out BK289.out (by decide))) | (show (Addr.add _ _).block ≠ _; rw [add_block]; exact Kd.own_blk (Kd.R_ne HO_6.out BK289.out (by decide))) | (dsimp only; exact Kd.own_blk (Kd.R_ne HO_6.out BK289.out (by decide)))) _).trans (hHeld.2.2.2.2.2.2))))))))))))))⟩ (fun hHeld => ?_)
            clear hK K
            refine pure_ (i := 23) (N := some 3) (v := ?_) (a' := ?_) #[true, true, true, true, true, true, true, true, true, true, true, true, true, true, true, true, true, true, true, true, true, true, true, true] rfl rfl (any_of HT_.out (by kernel_rfl)) (fun _ _ _ h => h) (Or.inl ⟨by rfl, ?_⟩) ?_ ?_
            rotate_left
            ·intro w'
             go_simp
             with_reducible rfl
            rotate_left
            ·simp only [Act.put, List.setIfInBounds_toArray, List.set_cons_zero, List.set_cons_succ, i64_w, i32_w]
             rfl
            refine done_ (done_of HT_.out (by kernel_rfl)) ?_
            try go_wp2
            refine bodyPost_ret (results_ct rfl _ _ gb289 38 #[.string (rdOf ByteArray.empty t291 0), .string (rdOf ByteArray.empty t291 1), .int .u32 (rd x6_1 0), .int .u32 (rd x6_1 1), .int .u32 (rd x6_1 2), .int .u32 (rd x6_1 3), .int .u32 (rd x6_1 4)] (0, 0) _ rfl (by (with_reducible repeat (first | refine blk_drewN ?_ _ | refine blk_drew ?_ | refine blk_alloc ?_ _)); refine blk_put (cs := #[.string (rdOf ByteArray.empty t291 0), .string (rdOf ByteArray.empty t291 1), .int .u32 (rd x6_1 0), .int .u32 (rd x6_1 1), .int .u32 (rd x6_1 2), .int .u32 (rd x6_1 3), .int .u32 0]) ?_ 6 _ rfl; (with_reducible repeat (first | refine blk_drewN ?_ _ | refine blk_drew ?_ | refine blk_alloc ?_ _)); refine blk_put (cs := #[.string (rdOf ByteArray.empty t291 0), .string (rdOf ByteArray.empty t291 1), .int .u32 (rd x6_1 0), .int .u32 (rd x6_1 1), .int .u32 (rd x6_1 2), .int .u32 0, .int .u32 0]) ?_ 5 _ rfl; (with_reducible repeat (first | refine blk_drewN ?_ _ | refine blk_drew ?_ | refine blk_alloc ?_ _)); refine blk_put (cs := #[.string (rdOf ByteArray.empty t291 0), .string (rdOf ByteArray.empty t291 1), .int .u32 (rd x6_1 0), .int .u32 (rd x6_1 1), .int .u32 0, .int .u32 0, .int .u32 0]) ?_ 4 _ rfl; (with_reducible repeat (first | refine blk_drewN ?_ _ | refine blk_drew ?_ | refine blk_alloc ?_ _)); refine blk_put (cs := #[.string (rdOf ByteArray.empty t291 0), .string (rdOf ByteArray.empty t291 1), .int .u32 (rd x6_1 0), .int .u32 0, .int .u32 0, .int .u32 0, .int .u32 0]) ?_ 3 _ rfl; (with_reducible repeat (first | refine blk_drewN ?_ _ | refine blk_drew ?_ | refine blk_alloc ?_ _)); refine blk_put (cs := #[.string (rdOf ByteArray.empty t291 0), .string (rdOf ByteArray.empty t291 1), .int .u32 0, .int .u32 0, .int .u32 0, .int .u32 0, .int .u32 0]) ?_ 2 _ rfl; (with_reducible repeat (first | refine blk_drewN ?_ _ | refine blk_drew ?_ | refine blk_alloc ?_ _)); refine blk_put (cs := #[.string (rdOf ByteArray.empty t291 0), .string (⟨#[]⟩ : ByteArray), .int .u32 0, .int .u32 0, .int .u32 0, .int .u32 0, .int .u32 0]) ?_ 1 _ rfl; (with_reducible repeat (first | refine blk_drewN ?_ _ | refine blk_drew ?_ | refine blk_alloc ?_ _)); refine blk_put (cs := #[.string (⟨#[]⟩ : ByteArray), .string (⟨#[]⟩ : ByteArray), .int .u32 0, .int .u32 0, .int .u32 0, .int .u32 0, .int .u32 0]) ?_ 0 _ rfl; (with_reducible repeat (first | refine blk_drewN ?_ _ | refine blk_drew ?_ | refine blk_alloc ?_ _)); exact BK289.out) Tryz.underlying38 rfl (by kernel_rfl)) rfl ?_
            exact ⟨by first | rfl | (simp [errW_none, errW_some] <;> rfl) | (simp [*, errW_none, errW_some] <;> rfl), by repeat (first | (with_reducible first | exact HB.out | apply below_alloc | apply pw_below_drewN | apply below_drew1 | refine below_set ?_ GE289.out) | exact HB.out)⟩
           ·rw [if_neg c21] at H
            exact absurd H (by simp)
          ·rw [if_neg c20] at H
           exact absurd H (by simp)
         ·rw [if_neg c19] at H
          exact absurd H (by simp)
        ·rw [if_neg c18] at H
         exact absurd H (by simp)
       ·rw [if_neg c17] at H
        exact absurd H (by simp)
      ·rw [if_neg c16] at H
       exact absurd H (by simp)
     ·rw [if_neg c15] at H
      exact absurd H (by simp)
 ·replace c3 := Bool.eq_false_iff.mpr c3
  subst c3
  have H1 : (some ((⟨#[]⟩ : ByteArray), (⟨#[]⟩ : ByteArray), 0, 0, 0, 0, 0, false)) = some (r1, r2, r3, r4, r5, r6, r7, r8) := by rw [if_neg (show ¬ (false = true) by decide)] at H; exact H
  clear H
  have H := H1
  clear H1
  simp only [Option.some.injEq, Prod.mk.injEq] at H
  obtain ⟨rfl, rfl, rfl, rfl, rfl, rfl, rfl, rfl⟩ := H
  go_enter Tryz.func71, Tryz.ntmps71
  go_wp2_with (first | ((with_reducible refine gate_dst (N := 2) rfl ?_); refine box_event ?hg (N := 2) ?hd (cs := #[.string (⟨#[]⟩ : ByteArray), .string (⟨#[]⟩ : ByteArray), .int .u32 0, .int .u32 0, .int .u32 0, .int .u32 0, .int .u32 0]) (t := 38) ?hr ?_; (case hd => rfl); (case hg => rfl); (case hr => first | (go_simp; done) | (go_simp; rfl)); intro gb289 hg w32 hbox hb; have n0_ := Aside0.mk (below_step (by repeat (first | (with_reducible first | exact HB.out | apply below_alloc | apply pw_below_drewN | apply below_drew1) | exact HB.out)) hb); have n1_ := Aside0.mk (hbox); have n2_ := Aside0.mk ((by rw [hg]; exact (below_size (by repeat (first | (with_reducible first | exact HB.out | apply below_alloc | apply pw_below_drewN | apply below_drew1) | exact HB.out))) : w.heap.size ≤ gb289)); have n3_ := Aside0.mk ((by rw [hg]; exact (below_size (by repeat (first | (with_reducible first | exact HB.out | apply below_alloc | apply pw_below_drewN | apply below_drew1) | exact HB.out))) : w.heap.size ≤ gb289)); clear HB; have HB := n0_; have BK289 := n1_; have GW289 := n2_; have GE289 := n3_; clear n0_ n1_ n2_ n3_; clear hb hbox hg) | ((with_reducible refine gate_callee (f := 117) rfl ?_); refine goesL_ (some 9) rfl rfl Tryz.func117 (by kernel_rfl) rfl #[.int .i64 6, .string a0] rfl (by (try simp only [List.map_toArray, List.map_cons, List.map_nil]); first | done | rfl | (simp only [List.length_drop, List.length_take]; rfl)) ?_; (with_reducible refine (beadrollref10_Right.calls k 6 a0 false _ A2.out).mono ?_); rintro e w33 ⟨rfl, hb⟩; refine ⟨_, rfl, ?_⟩; have n0_ := Aside0.mk (blk_below (g := gb289) (o := .cells #[.string (⟨#[]⟩ : ByteArray), .string (⟨#[]⟩ : ByteArray), .int .u32 0, .int .u32 0, .int .u32 0, .int .u32 0, .int .u32 0] 38 (0, 0)) (by (with_reducible repeat (first | refine blk_drewN ?_ _ | refine blk_drew ?_ | refine blk_alloc ?_ _)); exact BK289.out) hb); have n1_ := Aside0.mk (below_step (by repeat (first | (with_reducible first | exact HB.out | apply below_alloc | apply pw_below_drewN | apply below_drew1 | refine below_set ?_ GE289.out) | exact HB.out)) hb); clear BK289; clear HB; have BK289 := n0_; have HB := n1_; clear n0_ n1_; (try clear hb); (try clear hb2); (try clear hk); (try clear hi); have hcz34_0 : w33.cell? ⟨gb289, 0, none⟩ = some (.string (⟨#[]⟩ : ByteArray)) := (blk_cell BK289.out 0).trans rfl; have hcz34_1 : w33.cell? ⟨gb289, 1, none⟩ = some (.string (⟨#[]⟩ : ByteArray)) := (blk_cell BK289.out 1).trans rfl; have hcz34_2 : w33.cell? ⟨gb289, 2, none⟩ = some (.int .u32 0) := (blk_cell BK289.out 2).trans rfl; have hcz34_3 : w33.cell? ⟨gb289, 3, none⟩ = some (.int .u32 0) := (blk_cell BK289.out 3).trans rfl; have hcz34_4 : w33.cell? ⟨gb289, 4, none⟩ = some (.int .u32 0) := (blk_cell BK289.out 4).trans rfl; have hcz34_5 : w33.cell? ⟨gb289, 5, none⟩ = some (.int .u32 0) := (blk_cell BK289.out 5).trans rfl; have hcz34_6 : w33.cell? ⟨gb289, 6, none⟩ = some (.int .u32 0) := (blk_cell BK289.out 6).trans rfl; have hfz34_0 := blk_frozen BK289.out 0; have hfz34_1 := blk_frozen BK289.out 1; have hfz34_2 := blk_frozen BK289.out 2; have hfz34_3 := blk_frozen BK289.out 3; have hfz34_4 := blk_frozen BK289.out 4; have hfz34_5 := blk_frozen BK289.out 5; have hfz34_6 := blk_frozen BK289.out 6))
  refine bodyPost_ret (results_ct rfl _ _ gb289 38 #[.string (⟨#[]⟩ : ByteArray), .string (⟨#[]⟩ : ByteArray), .int .u32 0, .int .u32 0, .int .u32 0, .int .u32 0, .int .u32 0] (0, 0) _ rfl (by (with_reducible repeat (first | refine blk_drewN ?_ _ | refine blk_drew ?_ | refine blk_alloc ?_ _)); refine blk_put (cs := #[.string (⟨#[]⟩ : ByteArray), .string (⟨#[]⟩ : ByteArray), .int .u32 0, .int .u32 0, .int .u32 0, .int .u32 0, .int .u32 0]) ?_ 6 _ rfl; (with_reducible repeat (first | refine blk_drewN ?_ _ | refine blk_drew ?_ | refine blk_alloc ?_ _)); refine blk_put (cs := #[.string (⟨#[]⟩ : ByteArray), .string (⟨#[]⟩ : ByteArray), .int .u32 0, .int .u32 0, .int .u32 0, .int .u32 0, .int .u32 0]) ?_ 5 _ rfl; (with_reducible repeat (first | refine blk_drewN ?_ _ | refine blk_drew ?_ | refine blk_alloc ?_ _)); refine blk_put (cs := #[.string (⟨#[]⟩ : ByteArray), .string (⟨#[]⟩ : ByteArray), .int .u32 0, .int .u32 0, .int .u32 0, .int .u32 0, .int .u32 0]) ?_ 4 _ rfl; (with_reducible repeat (first | refine blk_drewN ?_ _ | refine blk_drew ?_ | refine blk_alloc ?_ _)); refine blk_put (cs := #[.string (⟨#[]⟩ : ByteArray), .string (⟨#[]⟩ : ByteArray), .int .u32 0, .int .u32 0, .int .u32 0, .int .u32 0, .int .u32 0]) ?_ 3 _ rfl; (with_reducible repeat (first | refine blk_drewN ?_ _ | refine blk_drew ?_ | refine blk_alloc ?_ _)); refine blk_put (cs := #[.string (⟨#[]⟩ : ByteArray), .string (⟨#[]⟩ : ByteArray), .int .u32 0, .int .u32 0, .int .u32 0, .int .u32 0, .int .u32 0]) ?_ 2 _ rfl; (with_reducible repeat (first | refine blk_drewN ?_ _ | refine blk_drew ?_ | refine blk_alloc ?_ _)); refine blk_put (cs := #[.string (⟨#[]⟩ : ByteArray), .string (⟨#[]⟩ : ByteArray), .int .u32 0, .int .u32 0, .int .u32 0, .int .u32 0, .int .u32 0]) ?_ 1 _ rfl; (with_reducible repeat (first | refine blk_drewN ?_ _ | refine blk_drew ?_ | refine blk_alloc ?_ _)); refine blk_put (cs := #[.string (⟨#[]⟩ : ByteArray), .string (⟨#[]⟩ : ByteArray), .int .u32 0, .int .u32 0, .int .u32 0, .int .u32 0, .int .u32 0]) ?_ 0 _ rfl; (with_reducible repeat (first | refine blk_drewN ?_ _ | refine blk_drew ?_ | refine blk_alloc ?_ _)); exact BK289.out) Tryz.underlying38 rfl (by kernel_rfl)) rfl ?_
  exact ⟨by first | rfl | (simp [errW_none, errW_some] <;> rfl) | (simp [*, errW_none, errW_some] <;> rfl), by repeat (first | (with_reducible first | exact HB.out | apply below_alloc | apply pw_below_drewN | apply below_drew1 | refine below_set ?_ GE289.out) | exact HB.out)⟩
end Go.Proofs.YtjmpckommjlnlaaGreat.PRd
namespace Go.Proofs.YtjmpckommjlnlaaGreat.PRd
open Go.RowKit Go.Proofs.YtjmpckommjlnlaaGreatW.PrintWords Go.Proofs.YtjmpckommjlnlaaGreatW.PrintLast Go.Proofs.YtjmpckommjlnlaaGreatW.PrintMore Go.Proofs.YtjmpckommjlnlaaGreat.Given
attribute [local go_sem] max2_int min2_int max_two min_two max_three min_three max_four min_four   -- for this text's walks alone
set_option linter.unusedVariables false
set_option linter.unusedSimpArgs false
def beadrollref10_Data.T1 : Bool × List (List Nat × List Nat) := (true, [([], []), ([0], [0]), ([], []), ([2], [2]), ([1, 3], [1, 3]), ([], []), ([5], [5]), ([6], [6]), ([4, 7], [4, 7]), ([], []), ([9], [9]), ([10, 7], [10]), ([8, 11], [8, 11]), ([], []), ([13], [13]), ([14, 11], [14]), ([12, 15], [12, 15]), ([], []), ([17], [17]), ([18, 15], [18]), ([16, 19], [16, 19]), ([], []), ([21], [21]), ([22, 19], [22]), ([20, 23], [20, 23]), ([24, 23, 0, 1, 2, 3, 4, 5, 6, 7, 8, 9, 10, 11, 12, 13, 14, 15, 16, 17, 18, 19, 20, 21, 22, 23, 24], [24])])
def beadrollref10_Data.B1 : List Nat := [0, 1, 0, 4, 15, 0, 32, 96, 255, 0, 512, 1760, 4095, 0, 8192, 28384, 65535, 0, 131072, 454368, 1048575, 0, 2097152, 7270112, 16777215, 33554431]
theorem beadrollref10_Data.tab1 : rtab .any (opsOf Tryz.f78 1) = beadrollref10_Data.T1 := by kernel_rfl
theorem beadrollref10_Data.bits1 : waitsOk beadrollref10_Data.T1.2 beadrollref10_Data.B1 = true := by kernel_rfl
mutual
def beadrollref07_Compare.j0 : Nat → List ByteArray → List ByteArray → Bool → Option (Int)
 | 0, _, _, _ => none
 | k + 1, x5, x7, x29 => if x29 = true then (some 0) else (beadrollref07_Compare.l0 k x5 x7 1)
def beadrollref07_Compare.l0 : Nat → List ByteArray → List ByteArray → Int → Option (Int)
 | 0, _, _, _ => none
 | k + 1, x5, x7, x9 => if x9 ≤ (x5.length : Int) then (beadrollref07_Compare.j2 k x5 x7 x9 (decide (x9 ≤ (x7.length : Int)))) else (beadrollref07_Compare.j2 k x5 x7 x9 false)
def beadrollref07_Compare.j2 : Nat → List ByteArray → List ByteArray → Int → Bool → Option (Int)
 | 0, _, _, _, _ => none
 | k + 1, x5, x7, x9, x39 => if x39 = true then (if 0 ≤ (wrap64 ((x5.length : Int) - x9)) then (if (wrap64 ((x5.length : Int) - x9)) < (x5.length : Int) then (if 0 ≤ (wrap64 ((x7.length : Int) - x9)) then (if (wrap64 ((x7.length : Int) - x9)) < (x7.length : Int) then (if (Op.bytesLess ((rdOf ByteArray.empty x5 (wrap64 ((x5.length : Int) - x9))).toList) ((rdOf ByteArray.empty x7 (wrap64 ((x7.length : Int) - x9))).toList)) = true then (some (-1)) else (if (Op.bytesLess ((rdOf ByteArray.empty x7 (wrap64 ((x7.length : Int) - x9))).toList) ((rdOf ByteArray.empty x5 (wrap64 ((x5.length : Int) - x9))).toList)) = true then (some 1) else (beadrollref07_Compare.l0 k x5 x7 (wrap64 (x9 + 1))))) else (none)) else (none)) else (none)) else (none)) else (if (x5.length : Int) < (x7.length : Int) then (some (-1)) else (if (x5.length : Int) > (x7.length : Int) then (some 1) else (some 0)))
end
def beadrollref07_Compare.f (k : Nat) (a0 : ByteArray) (a1 : ByteArray) : Option (Int) := (beadrollref07_Fold.f k a0).bind fun t317 => ((beadrollref07_Labels.f k t317).bind fun bt318 => ((beadrollref07_Fold.f k a1).bind fun t322 => ((beadrollref07_Labels.f k t322).bind fun bt323 => (if bt318.2 = true then (beadrollref07_Compare.j0 k bt318.1 bt323.1 (!bt323.2)) else (beadrollref07_Compare.j0 k bt318.1 bt323.1 true)))))
set_option maxHeartbeats 8000000 in
set_option maxRecDepth 100000 in
theorem beadrollref07_Compare.calls (k : Nat) (a0 : ByteArray) (a1 : ByteArray) (r : Int) (w : World) (h : beadrollref07_Compare.f k a0 a1 = some r) :
    Calls Tryz.prog 135 #[.string a0, .string a1] w fun e w' => e = .returned (.int .i64 r) ∧ Below w.heap.size w w' := by
  have HB := Aside0.mk (Below.refl w.heap.size w)
  have H : ((beadrollref07_Fold.f k a0).bind fun t317 => ((beadrollref07_Labels.f k t317).bind fun bt318 => ((beadrollref07_Fold.f k a1).bind fun t322 => ((beadrollref07_Labels.f k t322).bind fun bt323 => (if bt318.2 = true then (beadrollref07_Compare.j0 k bt318.1 bt323.1 (!bt323.2)) else (beadrollref07_Compare.j0 k bt318.1 bt323.1 true)))))) = some r := h
  clear h
  obtain ⟨t317, A3, H⟩ := bnd_ H
  replace H := Option.bind_eq_some_iff.mp H
  obtain ⟨⟨t318, t319⟩, A40, H⟩ := H
  replace H : ((beadrollref07_Fold.f k a1).bind fun t322 => ((beadrollref07_Labels.f k t322).bind fun bt323 => (if t319 = true then (beadrollref07_Compare.j0 k t318 bt323.1 (!bt323.2)) else (beadrollref07_Compare.j0 k t318 bt323.1 true)))) = some r := H
  have A4 := Aside0.mk A40
  clear A40
  obtain ⟨t322, A5, H⟩ := bnd_ H
  replace H := Option.bind_eq_some_iff.mp H
  obtain ⟨⟨t323, t324⟩, A60, H⟩ := H
  replace H : (if t319 = true then (beadrollref07_Compare.j0 k t318 t323 (!t324)) else (beadrollref07_Compare.j0 k t318 t323 true)) = some r := H
  have A6 := Aside0.mk A60
  clear A60
  have HC7 := Aside0.mk H
  clear H
  go_enter Tryz.func135, Tryz.ntmps135
  go_upto_region 3 with (first | (go_at_call 75; (with_reducible refine (beadrollref07_Fold.calls k a0 t317 _ A3.out).mono ?_); rintro e w8 ⟨rfl, hb⟩; replace HB := Aside0.mk (below_step HB.out hb); (try clear hb)) | (go_at_call 115; (with_reducible refine (beadrollref07_Labels.calls k t317 t318 t319 _ A4.out).mono ?_); rintro e w9 ⟨v320, rfl, ho0, hb⟩; have HO321 := Aside0.mk (Kd.R_lower ho0 (below_size HB.out)); replace HB := Aside0.mk (below_step HB.out hb); (try clear hb); (try clear ho0)) | (go_at_call 75; (with_reducible refine (beadrollref07_Fold.calls k a1 t322 _ A5.out).mono ?_); rintro e w10 ⟨rfl, hb⟩; replace HO321 := Aside0.mk (Kd.R_below (by ((exact HO321.out))) hb); replace HB := Aside0.mk (below_step HB.out hb); (try clear hb)) | (go_at_call 115; (with_reducible refine (beadrollref07_Labels.calls k t322 t323 t324 _ A6.out).mono ?_); rintro e w11 ⟨v325, rfl, ho0, hb⟩; have HO326 := Aside0.mk (Kd.R_lower (Kd.R_new' ho0 (Kd.R_lt (by ((exact HO321.out))))) (below_size HB.out)); replace HO321 := Aside0.mk (Kd.R_elder' (by ((exact HO321.out))) (Kd.R_base ho0) hb); replace HB := Aside0.mk (below_step HB.out hb); (try clear hb); (try clear ho0)))
  repeat (go_quiet (((go_at_call 75; (with_reducible refine (beadrollref07_Fold.calls k a0 t317 _ A3.out).mono ?_); rintro e w8 ⟨rfl, hb⟩; replace HB := Aside0.mk (below_step HB.out hb)))); go_upto_region 3 with (((go_at_call 75; (with_reducible refine (beadrollref07_Fold.calls k a0 t317 _ A3.out).mono ?_); rintro e w8 ⟨rfl, hb⟩; replace HB := Aside0.mk (below_step HB.out hb)))))
  go_cut [29] (fun v29 wc => ∃ (kq : Nat) (x29_6 : Bool), v29 = .bool x29_6 ∧ Aside0 (beadrollref07_Compare.j0 kq t318 t323 x29_6 = some r) ∧ Aside0 (kq ≤ k) ∧ Aside0 (Kd.R Kd.string 9 wc w.heap.size (fun k_ => some k_ ≠ (v325 : Value).ownBlock) v320 t318) ∧ Aside0 (Kd.R Kd.string 9 wc w.heap.size (fun k_ => some k_ ≠ (v320 : Value).ownBlock) v325 t323) ∧ Aside0 (Below w.heap.size w wc))
  case first =>
   have H := HC7.out
   clear HC7
   by_cases c12 : t319 = true
   focus
    subst c12
    rw [if_pos rfl] at H
   rotate_left
   focus
    replace c12 := Bool.eq_false_iff.mpr c12
    subst c12
    rw [if_neg ff_] at H
   rotate_left
   all_goals
    have H' := Aside0.mk H
    clear H
    go_wp2
    repeat (go_quiet (fail); try go_wp2)
    go_meet
   ·case rel => exact ⟨_, (!t324), (by rfl), H', ⟨by omega⟩, ⟨by (with_reducible repeat ((apply Kd.R_alloc))); exact Kd.R_mono HO321.out (fun _ hk => hk.2)⟩, ⟨by (with_reducible repeat ((apply Kd.R_alloc))); exact Kd.R_mono HO326.out (fun _ hk => hk.2)⟩, ⟨HB.out⟩⟩
   ·case rel => exact ⟨_, (true), (by rfl), H', ⟨by omega⟩, ⟨by (with_reducible repeat ((apply Kd.R_alloc))); exact Kd.R_mono HO321.out (fun _ hk => hk.2)⟩, ⟨by (with_reducible repeat ((apply Kd.R_alloc))); exact Kd.R_mono HO326.out (fun _ hk => hk.2)⟩, ⟨HB.out⟩⟩
  case rest =>
   clear HC7
   obtain ⟨kq, x29_6, rfl, HA, HJ6, HO_5, HO_7, HB⟩ := hcut
   cases kq with
   | zero => exact absurd HA.out (by simp [beadrollref07_Compare.j0])
   | succ kj6 =>
    have H := HA.out
    clear HA
    simp only [beadrollref07_Compare.j0] at H
    by_cases c13 : x29_6 = true
    ·subst c13
     rw [if_pos rfl] at H
     obtain rfl := Option.some.inj H
     go_wp2
     repeat (go_quiet (fail); try go_wp2)
     go_ret
     exact ⟨by rfl, HB.out⟩
    ·replace c13 := Bool.eq_false_iff.mpr c13
     subst c13
     rw [if_neg ff_] at H
     have H' := Aside0.mk H
     clear H
     go_wp2
     repeat (go_quiet (fail); try go_wp2)
     go_loopg [9] kj6 (fun kq v9 w' => ∃ (x9_2 : Int), v9 = .int .i64 x9_2 ∧ Aside0 (beadrollref07_Compare.l0 kq t318 t323 x9_2 = some r) ∧ Aside0 (kq ≤ kj6) ∧ Aside0 (Kd.R Kd.string 9 w' w.heap.size (fun k_ => some k_ ≠ (v325 : Value).ownBlock) v320 t318) ∧ Aside0 (Kd.R Kd.string 9 w' w.heap.size (fun k_ => some k_ ≠ (v320 : Value).ownBlock) v325 t323) ∧ Aside0 (Below w.heap.size w w'))
     case atStart => exact ⟨(1), (by rfl), H', ⟨Nat.le_refl _⟩, ⟨by (with_reducible repeat ((apply Kd.R_alloc))); exact HO_5.out⟩, ⟨by (with_reducible repeat ((apply Kd.R_alloc))); exact HO_7.out⟩, ⟨HB.out⟩⟩
     case round =>
      clear H'
      obtain ⟨x9_2, rfl, HA, HK2, HO_5, HO_7, HB⟩ := hrel
      cases gk with
      | zero => exact absurd HA.out (by simp [beadrollref07_Compare.l0])
      | succ k2 =>
       have H := HA.out
       clear HA
       simp only [beadrollref07_Compare.l0] at H
       have HC14 := Aside0.mk H
       clear H
       go_upto_region 6 with (fail)
       repeat (go_quiet (fail); go_upto_region 6 with (fail))
       go_cut [39] (fun v39 wc => ∃ (kq : Nat) (x39_13 : Bool), v39 = .bool x39_13 ∧ Aside0 (beadrollref07_Compare.j2 kq t318 t323 x9_2 x39_13 = some r) ∧ Aside0 (kq ≤ k2) ∧ Aside0 (Kd.R Kd.string 9 wc w.heap.size (fun k_ => some k_ ≠ (v325 : Value).ownBlock) v320 t318) ∧ Aside0 (Kd.R Kd.string 9 wc w.heap.size (fun k_ => some k_ ≠ (v320 : Value).ownBlock) v325 t323) ∧ Aside0 (Below w.heap.size w wc))
       case first =>
        have H := HC14.out
        clear HC14
        by_cases c15 : x9_2 ≤ (t318.length : Int)
        focus
         rw [if_pos c15] at H
         have c15b0 : decide (x9_2 ≤ (t318.length : Int)) = true := decide_eq_true c15
        rotate_left
        focus
         rw [if_neg c15] at H
         have c15b0 : decide (x9_2 ≤ (t318.length : Int)) = false := decide_eq_false c15
        rotate_left
        all_goals
         clear c15
         (skip)
         have H' := Aside0.mk H
         clear H
         obtain ⟨Ao16, co16, eo16⟩ := Kd.R_slice HO_5.out
         subst eo16
        ·obtain ⟨Ao17, co17, eo17⟩ := Kd.R_slice HO_7.out
         subst eo17
         go_wp2
         repeat (go_quiet (fail); try go_wp2)
         go_meet
         case rel => exact ⟨_, (decide (x9_2 ≤ (t323.length : Int))), (by rfl), H', ⟨by have := HJ6.out; have := HK2.out; omega⟩, ⟨by (with_reducible repeat ((apply Kd.R_alloc))); exact HO_5.out⟩, ⟨by (with_reducible repeat ((apply Kd.R_alloc))); exact HO_7.out⟩, ⟨HB.out⟩⟩
        ·go_wp2
         repeat (go_quiet (fail); try go_wp2)
         go_meet
         case rel => exact ⟨_, (false), (by rfl), H', ⟨by have := HJ6.out; have := HK2.out; omega⟩, ⟨by (with_reducible repeat ((apply Kd.R_alloc))); exact HO_5.out⟩, ⟨by (with_reducible repeat ((apply Kd.R_alloc))); exact HO_7.out⟩, ⟨HB.out⟩⟩
       case rest =>
        clear HC14
        obtain ⟨kq, x39_13, rfl, HA, HJ13, HO_5, HO_7, HB⟩ := hcut
        cases kq with
        | zero => exact absurd HA.out (by simp [beadrollref07_Compare.j2])
        | succ kj13 =>
         have H := HA.out
         clear HA
         simp only [beadrollref07_Compare.j2] at H
         by_cases c19 : x39_13 = true
         ·subst c19
          rw [if_pos rfl] at H
          obtain ⟨ji20, hji20⟩ : ∃ j_ : Int, (wrap64 ((t318.length : Int) - x9_2)) = j_ := ⟨_, rfl⟩
          rw [hji20] at H
          have hji20w : (IntKind.i64.wrap ((t318.length : Int) - x9_2)) = ji20 := (i64_w _).trans hji20
          obtain ⟨c21b0, H⟩ := gdd_ H
          obtain ⟨c22b0, H⟩ := gdd_ H
          obtain ⟨ji23, hji23⟩ : ∃ j_ : Int, (wrap64 ((t323.length : Int) - x9_2)) = j_ := ⟨_, rfl⟩
          rw [hji23] at H
          have hji23w : (IntKind.i64.wrap ((t323.length : Int) - x9_2)) = ji23 := (i64_w _).trans hji23
          obtain ⟨c24b0, H⟩ := gdd_ H
          obtain ⟨c25b0, H⟩ := gdd_ H
          by_cases c26 : (Op.bytesLess ((rdOf ByteArray.empty t318 (ji20)).toList) ((rdOf ByteArray.empty t323 (ji23)).toList)) = true
          focus
           rw [if_pos c26] at H
           have c26b0 : (Op.bytesLess ((rdOf ByteArray.empty t318 (ji20)).toList) ((rdOf ByteArray.empty t323 (ji23)).toList)) = true := c26
           have c26b8 : (((rdOf ByteArray.empty t323 (ji23)).toList) == ((rdOf ByteArray.empty t318 (ji20)).toList)) = false := less_ne c26b0
           clear c26
           obtain rfl := Option.some.inj H
          rotate_left
          focus
           rw [if_neg c26] at H
           have c26b0 : (Op.bytesLess ((rdOf ByteArray.empty t318 (ji20)).toList) ((rdOf ByteArray.empty t323 (ji23)).toList)) = false := by simpa using c26
           clear c26
           by_cases c29 : (Op.bytesLess ((rdOf ByteArray.empty t323 (ji23)).toList) ((rdOf ByteArray.empty t318 (ji20)).toList)) = true
           focus
            rw [if_pos c29] at H
            have c29b0 : (Op.bytesLess ((rdOf ByteArray.empty t323 (ji23)).toList) ((rdOf ByteArray.empty t318 (ji20)).toList)) = true := c29
            have c29b8 : (((rdOf ByteArray.empty t318 (ji20)).toList) == ((rdOf ByteArray.empty t323 (ji23)).toList)) = false := less_ne c29b0
            clear c29
            obtain rfl := Option.some.inj H
           rotate_left
           focus
            rw [if_neg c29] at H
            have c29b0 : (Op.bytesLess ((rdOf ByteArray.empty t323 (ji23)).toList) ((rdOf ByteArray.empty t318 (ji20)).toList)) = false := by simpa using c29
            (try have c29b8 : (((rdOf ByteArray.empty t318 (ji20)).toList) == ((rdOf ByteArray.empty t323 (ji23)).toList)) = true := less_eq (by assumption) c29b0)
            clear c29
            have H' := Aside0.mk H
            clear H
           rotate_left
          rotate_left 2
          all_goals
           obtain ⟨Ao27, co27, eo27⟩ := Kd.R_slice HO_5.out
           subst eo27
           have p327 : 0 ≤ ((ji20) : Int) := of_decide_eq_true (by assumption)
           have q327 : (ji20) < (t318.length : Int) := of_decide_eq_true (by assumption)
           obtain ⟨ad327, e327, hx327_0⟩ := Kd.at_string (Kd.R_reads' HO_5.out).2.2 (ji20) p327 q327
           cases e327
           replace p327 := eq_true p327
           replace q327 := eq_true q327
           obtain ⟨Ao28, co28, eo28⟩ := Kd.R_slice HO_7.out
           subst eo28
           have p328 : 0 ≤ ((ji23) : Int) := of_decide_eq_true (by assumption)
           have q328 : (ji23) < (t323.length : Int) := of_decide_eq_true (by assumption)
           obtain ⟨ad328, e328, hx328_0⟩ := Kd.at_string (Kd.R_reads' HO_7.out).2.2 (ji23) p328 q328
           cases e328
           replace p328 := eq_true p328
           replace q328 := eq_true q328
           go_wp2
           repeat (go_quiet (fail); try go_wp2)
          ·go_ret
           exact ⟨by rfl, by repeat ((with_reducible first | exact HB.out | apply pw_below_drewN))⟩
          ·go_ret
           exact ⟨by rfl, by repeat ((with_reducible first | exact HB.out | apply pw_below_drewN))⟩
          ·go_roundg kj13
           case measure => have := HJ6.out; have := HK2.out; have := HJ13.out; omega
           case rel => exact ⟨(wrap64 (x9_2 + 1)), (by rfl), H', ⟨by have := HJ6.out; have := HK2.out; have := HJ13.out; omega⟩, ⟨by (with_reducible repeat ((apply Kd.R_drewN))); exact HO_5.out⟩, ⟨by (with_reducible repeat ((apply Kd.R_drewN))); exact HO_7.out⟩, ⟨by repeat ((with_reducible first | exact HB.out | apply pw_below_drewN))⟩⟩
         ·replace c19 := Bool.eq_false_iff.mpr c19
          subst c19
          rw [if_neg ff_] at H
          by_cases c34 : (t318.length : Int) < (t323.length : Int)
          focus
           rw [if_pos c34] at H
           have c34b0 : decide ((t318.length : Int) < (t323.length : Int)) = true := decide_eq_true c34
           have c34b1 : decide (t318.length < t323.length) = true := decide_eq_true (Int.ofNat_lt.mp c34)
           clear c34
          rotate_left
          focus
           rw [if_neg c34] at H
           have c34b0 : decide ((t318.length : Int) < (t323.length : Int)) = false := decide_eq_false c34
           have c34b1 : decide (t318.length < t323.length) = false := decide_eq_false (fun h => c34 (Int.ofNat_lt.mpr h))
           clear c34
           by_cases c37 : (t318.length : Int) > (t323.length : Int)
           focus
            rw [if_pos c37] at H
            have c37b0 : decide ((t323.length : Int) < (t318.length : Int)) = true := decide_eq_true c37
            have c37b1 : decide (t323.length < t318.length) = true := decide_eq_true (Int.ofNat_lt.mp c37)
           rotate_left
           focus
            rw [if_neg c37] at H
            have c37b0 : decide ((t323.length : Int) < (t318.length : Int)) = false := decide_eq_false c37
            have c37b1 : decide (t323.length < t318.length) = false := decide_eq_false (fun h => c37 (Int.ofNat_lt.mpr h))
           rotate_left
           all_goals
            clear c37
          rotate_left 2
          all_goals
           obtain rfl := Option.some.inj H
           obtain ⟨Ao35, co35, eo35⟩ := Kd.R_slice HO_5.out
           subst eo35
           obtain ⟨Ao36, co36, eo36⟩ := Kd.R_slice HO_7.out
           subst eo36
           go_wp2
           repeat (go_quiet (fail); try go_wp2)
           go_ret
           exact ⟨by rfl, HB.out⟩
end Go.Proofs.YtjmpckommjlnlaaGreat.PRd
namespace Go.Proofs.YtjmpckommjlnlaaGreat.PRd
open Go.RowKit Go.Proofs.YtjmpckommjlnlaaGreatW.PrintWords Go.Proofs.YtjmpckommjlnlaaGreatW.PrintLast Go.Proofs.YtjmpckommjlnlaaGreatW.PrintMore Go.Proofs.YtjmpckommjlnlaaGreat.Given
attribute [local go_sem] max2_int min2_int max_two min_two max_three min_three max_four min_four   -- for this text's walks alone
set_option linter.unusedVariables false
set_option linter.unusedSimpArgs false
mutual
def beadrollref07_Under.j0 : Nat → List ByteArray → List ByteArray → Bool → Option (Bool)
 | 0, _, _, _ => none
 | k + 1, x5, x7, x34 => if x34 = true then (some false) else (beadrollref07_Under.l0 k x5 x7 0)
def beadrollref07_Under.l0 : Nat → List ByteArray → List ByteArray → Int → Option (Bool)
 | 0, _, _, _ => none
 | k + 1, x5, x7, x9 => if x9 < (x7.length : Int) then (if 0 ≤ (wrap64 ((wrap64 ((x5.length : Int) - 1)) - x9)) then (if (wrap64 ((wrap64 ((x5.length : Int) - 1)) - x9)) < (x5.length : Int) then (if 0 ≤ (wrap64 ((wrap64 ((x7.length : Int) - 1)) - x9)) then (if (wrap64 ((wrap64 ((x7.length : Int) - 1)) - x9)) < (x7.length : Int) then (if (rdOf ByteArray.empty x5 (wrap64 ((wrap64 ((x5.length : Int) - 1)) - x9))).toList = (rdOf ByteArray.empty x7 (wrap64 ((wrap64 ((x7.length : Int) - 1)) - x9))).toList then (beadrollref07_Under.l0 k x5 x7 (wrap64 (x9 + 1))) else (some false)) else (none)) else (none)) else (none)) else (none)) else (some true)
end
def beadrollref07_Under.f (k : Nat) (a0 : ByteArray) (a1 : ByteArray) : Option (Bool) := (beadrollref07_Fold.f k a0).bind fun t329 => ((beadrollref07_Labels.f k t329).bind fun bt330 => ((beadrollref07_Fold.f k a1).bind fun t334 => ((beadrollref07_Labels.f k t334).bind fun bt335 => (if bt330.2 = true then (if bt335.2 = true then (beadrollref07_Under.j0 k bt330.1 bt335.1 (decide ((bt330.1.length : Int) < (bt335.1.length : Int)))) else (beadrollref07_Under.j0 k bt330.1 bt335.1 true)) else (beadrollref07_Under.j0 k bt330.1 bt335.1 true)))))
set_option maxHeartbeats 8000000 in
set_option maxRecDepth 100000 in
theorem beadrollref07_Under.calls (k : Nat) (a0 : ByteArray) (a1 : ByteArray) (r : Bool) (w : World) (h : beadrollref07_Under.f k a0 a1 = some r) :
    Calls Tryz.prog 119 #[.string a0, .string a1] w fun e w' => e = .returned (.bool r) ∧ Below w.heap.size w w' := by
  have HB := Aside0.mk (Below.refl w.heap.size w)
  have H : ((beadrollref07_Fold.f k a0).bind fun t329 => ((beadrollref07_Labels.f k t329).bind fun bt330 => ((beadrollref07_Fold.f k a1).bind fun t334 => ((beadrollref07_Labels.f k t334).bind fun bt335 => (if bt330.2 = true then (if bt335.2 = true then (beadrollref07_Under.j0 k bt330.1 bt335.1 (decide ((bt330.1.length : Int) < (bt335.1.length : Int)))) else (beadrollref07_Under.j0 k bt330.1 bt335.1 true)) else (beadrollref07_Under.j0 k bt330.1 bt335.1 true)))))) = some r := h
  clear h
  obtain ⟨t329, A3, H⟩ := bnd_ H
  replace H := Option.bind_eq_some_iff.mp H
  obtain ⟨⟨t330, t331⟩, A40, H⟩ := H
  replace H : ((beadrollref07_Fold.f k a1).bind fun t334 => ((beadrollref07_Labels.f k t334).bind fun bt335 => (if t331 = true then (if bt335.2 = true then (beadrollref07_Under.j0 k t330 bt335.1 (decide ((t330.length : Int) < (bt335.1.length : Int)))) else (beadrollref07_Under.j0 k t330 bt335.1 true)) else (beadrollref07_Under.j0 k t330 bt335.1 true)))) = some r := H
  have A4 := Aside0.mk A40
  clear A40
  obtain ⟨t334, A5, H⟩ := bnd_ H
  replace H := Option.bind_eq_some_iff.mp H
  obtain ⟨⟨t335, t336⟩, A60, H⟩ := H
  replace H : (if t331 = true then (if t336 = true then (beadrollref07_Under.j0 k t330 t335 (decide ((t330.length : Int) < (t335.length : Int)))) else (beadrollref07_Under.j0 k t330 t335 true)) else (beadrollref07_Under.j0 k t330 t335 true)) = some r := H
  have A6 := Aside0.mk A60
  clear A60
  have HC7 := Aside0.mk H
  clear H
  go_enter Tryz.func119, Tryz.ntmps119
  go_upto_region 3 with (first | (go_at_call 75; (with_reducible refine (beadrollref07_Fold.calls k a0 t329 _ A3.out).mono ?_); rintro e w8 ⟨rfl, hb⟩; replace HB := Aside0.mk (below_step HB.out hb); (try clear hb)) | (go_at_call 115; (with_reducible refine (beadrollref07_Labels.calls k t329 t330 t331 _ A4.out).mono ?_); rintro e w9 ⟨v332, rfl, ho0, hb⟩; have HO333 := Aside0.mk (Kd.R_lower ho0 (below_size HB.out)); replace HB := Aside0.mk (below_step HB.out hb); (try clear hb); (try clear ho0)) | (go_at_call 75; (with_reducible refine (beadrollref07_Fold.calls k a1 t334 _ A5.out).mono ?_); rintro e w10 ⟨rfl, hb⟩; replace HO333 := Aside0.mk (Kd.R_below (by ((exact HO333.out))) hb); replace HB := Aside0.mk (below_step HB.out hb); (try clear hb)) | (go_at_call 115; (with_reducible refine (beadrollref07_Labels.calls k t334 t335 t336 _ A6.out).mono ?_); rintro e w11 ⟨v337, rfl, ho0, hb⟩; have HO338 := Aside0.mk (Kd.R_lower (Kd.R_new' ho0 (Kd.R_lt (by ((exact HO333.out))))) (below_size HB.out)); replace HO333 := Aside0.mk (Kd.R_elder' (by ((exact HO333.out))) (Kd.R_base ho0) hb); replace HB := Aside0.mk (below_step HB.out hb); (try clear hb); (try clear ho0)))
  repeat (go_quiet (((go_at_call 75; (with_reducible refine (beadrollref07_Fold.calls k a0 t329 _ A3.out).mono ?_); rintro e w8 ⟨rfl, hb⟩; replace HB := Aside0.mk (below_step HB.out hb)))); go_upto_region 3 with (((go_at_call 75; (with_reducible refine (beadrollref07_Fold.calls k a0 t329 _ A3.out).mono ?_); rintro e w8 ⟨rfl, hb⟩; replace HB := Aside0.mk (below_step HB.out hb)))))
  go_cut [34] (fun v34 wc => ∃ (kq : Nat) (x34_6 : Bool), v34 = .bool x34_6 ∧ Aside0 (beadrollref07_Under.j0 kq t330 t335 x34_6 = some r) ∧ Aside0 (kq ≤ k) ∧ Aside0 (Kd.R Kd.string 9 wc w.heap.size (fun k_ => some k_ ≠ (v337 : Value).ownBlock) v332 t330) ∧ Aside0 (Kd.R Kd.string 9 wc w.heap.size (fun k_ => some k_ ≠ (v332 : Value).ownBlock) v337 t335) ∧ Aside0 (Below w.heap.size w wc))
  case first =>
   have H := HC7.out
   clear HC7
   by_cases c12 : t331 = true
   ·subst c12
    rw [if_pos rfl] at H
    by_cases c13 : t336 = true
    ·subst c13
     rw [if_pos rfl] at H
     have H' := Aside0.mk H
     clear H
     obtain ⟨Ao14, co14, eo14⟩ := Kd.R_slice HO333.out
     subst eo14
     obtain ⟨Ao15, co15, eo15⟩ := Kd.R_slice HO338.out
     subst eo15
     go_wp2
     repeat (go_quiet (fail); try go_wp2)
     go_meet
     case rel => exact ⟨_, (decide ((t330.length : Int) < (t335.length : Int))), (by (simp; done)), H', ⟨by omega⟩, ⟨by (with_reducible repeat ((apply Kd.R_alloc))); exact Kd.R_mono HO333.out (fun _ hk => hk.2)⟩, ⟨by (with_reducible repeat ((apply Kd.R_alloc))); exact Kd.R_mono HO338.out (fun _ hk => hk.2)⟩, ⟨HB.out⟩⟩
    ·replace c13 := Bool.eq_false_iff.mpr c13
     subst c13
     rw [if_neg ff_] at H
     have H' := Aside0.mk H
     clear H
     go_wp2
     repeat (go_quiet (fail); try go_wp2)
     go_meet
     case rel => exact ⟨_, (true), (by rfl), H', ⟨by omega⟩, ⟨by (with_reducible repeat ((apply Kd.R_alloc))); exact Kd.R_mono HO333.out (fun _ hk => hk.2)⟩, ⟨by (with_reducible repeat ((apply Kd.R_alloc))); exact Kd.R_mono HO338.out (fun _ hk => hk.2)⟩, ⟨HB.out⟩⟩
   ·replace c12 := Bool.eq_false_iff.mpr c12
    subst c12
    rw [if_neg ff_] at H
    have H' := Aside0.mk H
    clear H
    go_wp2
    repeat (go_quiet (fail); try go_wp2)
    go_meet
    case rel => exact ⟨_, (true), (by rfl), H', ⟨by omega⟩, ⟨by (with_reducible repeat ((apply Kd.R_alloc))); exact Kd.R_mono HO333.out (fun _ hk => hk.2)⟩, ⟨by (with_reducible repeat ((apply Kd.R_alloc))); exact Kd.R_mono HO338.out (fun _ hk => hk.2)⟩, ⟨HB.out⟩⟩
  case rest =>
   clear HC7
   obtain ⟨kq, x34_6, rfl, HA, HJ6, HO_5, HO_7, HB⟩ := hcut
   cases kq with
   | zero => exact absurd HA.out (by simp [beadrollref07_Under.j0])
   | succ kj6 =>
    have H := HA.out
    clear HA
    simp only [beadrollref07_Under.j0] at H
    by_cases c16 : x34_6 = true
    ·subst c16
     rw [if_pos rfl] at H
     obtain rfl := Option.some.inj H
     go_wp2
     repeat (go_quiet (fail); try go_wp2)
     go_ret
     exact ⟨by rfl, HB.out⟩
    ·replace c16 := Bool.eq_false_iff.mpr c16
     subst c16
     rw [if_neg ff_] at H
     have H' := Aside0.mk H
     clear H
     go_wp2
     repeat (go_quiet (fail); try go_wp2)
     go_loopg [9] kj6 (fun kq v9 w' => ∃ (x9_2 : Int), v9 = .int .i64 x9_2 ∧ Aside0 (beadrollref07_Under.l0 kq t330 t335 x9_2 = some r) ∧ Aside0 (kq ≤ kj6) ∧ Aside0 (Kd.R Kd.string 9 w' w.heap.size (fun k_ => some k_ ≠ (v337 : Value).ownBlock) v332 t330) ∧ Aside0 (Kd.R Kd.string 9 w' w.heap.size (fun k_ => some k_ ≠ (v332 : Value).ownBlock) v337 t335) ∧ Aside0 (Below w.heap.size w w'))
     case atStart => exact ⟨(0), (by rfl), H', ⟨Nat.le_refl _⟩, ⟨by (with_reducible repeat ((apply Kd.R_alloc))); exact HO_5.out⟩, ⟨by (with_reducible repeat ((apply Kd.R_alloc))); exact HO_7.out⟩, ⟨HB.out⟩⟩
     case round =>
      clear H'
      obtain ⟨x9_2, rfl, HA, HK2, HO_5, HO_7, HB⟩ := hrel
      cases gk with
      | zero => exact absurd HA.out (by simp [beadrollref07_Under.l0])
      | succ k2 =>
       have H := HA.out
       clear HA
       simp only [beadrollref07_Under.l0] at H
       by_cases c17 : x9_2 < (t335.length : Int)
       ·rw [if_pos c17] at H
        have c17b0 : decide (x9_2 < (t335.length : Int)) = true := decide_eq_true c17
        clear c17
        obtain ⟨ji18, hji18⟩ : ∃ j_ : Int, (wrap64 ((wrap64 ((t330.length : Int) - 1)) - x9_2)) = j_ := ⟨_, rfl⟩
        rw [hji18] at H
        have hji18w : (IntKind.i64.wrap ((wrap64 ((t330.length : Int) - 1)) - x9_2)) = ji18 := (i64_w _).trans hji18
        obtain ⟨c19b0, H⟩ := gdd_ H
        obtain ⟨c20b0, H⟩ := gdd_ H
        obtain ⟨ji21, hji21⟩ : ∃ j_ : Int, (wrap64 ((wrap64 ((t335.length : Int) - 1)) - x9_2)) = j_ := ⟨_, rfl⟩
        rw [hji21] at H
        have hji21w : (IntKind.i64.wrap ((wrap64 ((t335.length : Int) - 1)) - x9_2)) = ji21 := (i64_w _).trans hji21
        obtain ⟨c22b0, H⟩ := gdd_ H
        obtain ⟨c23b0, H⟩ := gdd_ H
        by_cases c24 : (rdOf ByteArray.empty t330 (ji18)).toList = (rdOf ByteArray.empty t335 (ji21)).toList
        focus
         rw [if_pos c24] at H
         have c24b0 : ((rdOf ByteArray.empty t330 (ji18)).toList == (rdOf ByteArray.empty t335 (ji21)).toList) = true := beq_iff_eq.mpr c24
         have c24b1 : ((rdOf ByteArray.empty t330 (ji18)).toList != (rdOf ByteArray.empty t335 (ji21)).toList) = false := bne_eq_false_iff_eq.mpr c24
         clear c24
         have H' := Aside0.mk H
         clear H
        rotate_left
        focus
         rw [if_neg c24] at H
         have c24b0 : ((rdOf ByteArray.empty t330 (ji18)).toList == (rdOf ByteArray.empty t335 (ji21)).toList) = false := beq_eq_false_iff_ne.mpr c24
         have c24b1 : ((rdOf ByteArray.empty t330 (ji18)).toList != (rdOf ByteArray.empty t335 (ji21)).toList) = true := bne_iff_ne.mpr c24
         obtain rfl := Option.some.inj H
        rotate_left
        all_goals
         obtain ⟨Ao25, co25, eo25⟩ := Kd.R_slice HO_7.out
         subst eo25
         obtain ⟨Ao26, co26, eo26⟩ := Kd.R_slice HO_5.out
         subst eo26
         have p339 : 0 ≤ ((ji18) : Int) := of_decide_eq_true (by assumption)
         have q339 : (ji18) < (t330.length : Int) := of_decide_eq_true (by assumption)
         obtain ⟨ad339, e339, hx339_0⟩ := Kd.at_string (Kd.R_reads' HO_5.out).2.2 (ji18) p339 q339
         cases e339
         replace p339 := eq_true p339
         replace q339 := eq_true q339
         have p340 : 0 ≤ ((ji21) : Int) := of_decide_eq_true (by assumption)
         have q340 : (ji21) < (t335.length : Int) := of_decide_eq_true (by assumption)
         obtain ⟨ad340, e340, hx340_0⟩ := Kd.at_string (Kd.R_reads' HO_7.out).2.2 (ji21) p340 q340
         cases e340
         replace p340 := eq_true p340
         replace q340 := eq_true q340
         go_wp2
         repeat (go_quiet (fail); try go_wp2)
        ·go_roundg k2
         case measure => have := HJ6.out; have := HK2.out; omega
         case rel => exact ⟨(wrap64 (x9_2 + 1)), (by rfl), H', ⟨by have := HJ6.out; have := HK2.out; omega⟩, ⟨by (with_reducible repeat ((apply Kd.R_drewN))); exact HO_5.out⟩, ⟨by (with_reducible repeat ((apply Kd.R_drewN))); exact HO_7.out⟩, ⟨by repeat ((with_reducible first | exact HB.out | apply pw_below_drewN))⟩⟩
        ·go_ret
         exact ⟨by rfl, by repeat ((with_reducible first | exact HB.out | apply pw_below_drewN))⟩
       ·rw [if_neg c17] at H
        have c17b0 : decide (x9_2 < (t335.length : Int)) = false := decide_eq_false c17
        clear c17
        obtain rfl := Option.some.inj H
        obtain ⟨Ao29, co29, eo29⟩ := Kd.R_slice HO_7.out
        subst eo29
        go_wp2
        repeat (go_quiet (fail); try go_wp2)
        go_ret
        exact ⟨by rfl, HB.out⟩
def beadrollref07_Alike.f (k : Nat) (a0 : ByteArray) (a1 : ByteArray) : Option (Bool) := (beadrollref07_Right.f k a0).bind fun t341 => (if t341 = true then ((beadrollref07_Right.f k a1).bind fun t342 => (if t342 = true then ((beadrollref07_Fold.f k a0).bind fun t343 => ((beadrollref07_Fold.f k a1).bind fun t344 => (some (t343.toList == t344.toList)))) else (some false))) else (some false))
set_option maxHeartbeats 8000000 in
set_option maxRecDepth 100000 in
theorem beadrollref07_Alike.calls (k : Nat) (a0 : ByteArray) (a1 : ByteArray) (r : Bool) (w : World) (h : beadrollref07_Alike.f k a0 a1 = some r) :
    Calls Tryz.prog 44 #[.string a0, .string a1] w fun e w' => e = .returned (.bool r) ∧ Below w.heap.size w w' := by
  have HB := Aside0.mk (Below.refl w.heap.size w)
  have H : ((beadrollref07_Right.f k a0).bind fun t341 => (if t341 = true then ((beadrollref07_Right.f k a1).bind fun t342 => (if t342 = true then ((beadrollref07_Fold.f k a0).bind fun t343 => ((beadrollref07_Fold.f k a1).bind fun t344 => (some (t343.toList == t344.toList)))) else (some false))) else (some false))) = some r := h
  clear h
  obtain ⟨t341, A3, H⟩ := bnd_ H
  by_cases c4 : t341 = true
  focus
   subst c4
   rw [if_pos rfl] at H
   obtain ⟨t342, A5, H⟩ := bnd_ H
   by_cases c6 : t342 = true
   focus
    subst c6
    rw [if_pos rfl] at H
    obtain ⟨t343, A7, H⟩ := bnd_ H
    obtain ⟨t344, A8, H⟩ := bnd_ H
   rotate_left
   focus
    replace c6 := Bool.eq_false_iff.mpr c6
    subst c6
    rw [if_neg ff_] at H
   rotate_left
  rotate_left 2
  focus
   replace c4 := Bool.eq_false_iff.mpr c4
   subst c4
   rw [if_neg ff_] at H
  rotate_left
  all_goals
   obtain rfl := Option.some.inj H
   go_enter Tryz.func44, Tryz.ntmps44
  focus
   go_wp2_with (first | ((with_reducible refine gate_callee (f := 67) rfl ?_); refine goesL_ (some 6) rfl rfl Tryz.func67 (by kernel_rfl) rfl #[.string a0] rfl (by (try simp only [mA_, mC_, mN_]); rfl) ?_; (with_reducible refine (beadrollref07_Right.calls k a0 _ _ A3.out).mono ?_); rintro e w9 ⟨rfl, hb⟩; refine ⟨_, rfl, ?_⟩; replace HB := Aside0.mk (below_step HB.out hb); (try clear hb)) | (go_at_call 67; (with_reducible refine (beadrollref07_Right.calls k a1 _ _ A5.out).mono ?_); rintro e w10 ⟨rfl, hb⟩; replace HB := Aside0.mk (below_step HB.out hb); (try clear hb)) | (go_at_call 75; (with_reducible refine (beadrollref07_Fold.calls k a0 t343 _ A7.out).mono ?_); rintro e w11 ⟨rfl, hb⟩; replace HB := Aside0.mk (below_step HB.out hb); (try clear hb)) | (go_at_call 75; (with_reducible refine (beadrollref07_Fold.calls k a1 t344 _ A8.out).mono ?_); rintro e w12 ⟨rfl, hb⟩; replace HB := Aside0.mk (below_step HB.out hb); (try clear hb)))
  rotate_left
  focus
   go_wp2_with (first | ((with_reducible refine gate_callee (f := 67) rfl ?_); refine goesL_ (some 6) rfl rfl Tryz.func67 (by kernel_rfl) rfl #[.string a0] rfl (by (try simp only [mA_, mC_, mN_]); rfl) ?_; (with_reducible refine (beadrollref07_Right.calls k a0 _ _ A3.out).mono ?_); rintro e w13 ⟨rfl, hb⟩; refine ⟨_, rfl, ?_⟩; replace HB := Aside0.mk (below_step HB.out hb); (try clear hb)) | (go_at_call 67; (with_reducible refine (beadrollref07_Right.calls k a1 _ _ A5.out).mono ?_); rintro e w14 ⟨rfl, hb⟩; replace HB := Aside0.mk (below_step HB.out hb); (try clear hb)))
  rotate_left
  focus
   go_wp2_with ((((with_reducible refine gate_callee (f := 67) rfl ?_); refine goesL_ (some 6) rfl rfl Tryz.func67 (by kernel_rfl) rfl #[.string a0] rfl (by (try simp only [mA_, mC_, mN_]); rfl) ?_; (with_reducible refine (beadrollref07_Right.calls k a0 _ _ A3.out).mono ?_); rintro e w15 ⟨rfl, hb⟩; refine ⟨_, rfl, ?_⟩; replace HB := Aside0.mk (below_step HB.out hb); (try clear hb))))
  rotate_left
  all_goals
   go_ret
   exact ⟨by rfl, HB.out⟩
def beadrollref01_Texts.l0 : Nat → List ByteArray → List ByteArray → Int → Option (Bool)
 | 0, _, _, _ => none
 | k + 1, x0, x1, x5 => if x5 < (x0.length : Int) then (if 0 ≤ x5 then (if x5 < (x1.length : Int) then (if (rdOf ByteArray.empty x0 x5).toList = (rdOf ByteArray.empty x1 x5).toList then (beadrollref01_Texts.l0 k x0 x1 (wrap64 (x5 + 1))) else (some false)) else (none)) else (none)) else (some true)
def beadrollref01_Texts.f (k : Nat) (l0 : List ByteArray) (l1 : List ByteArray) : Option (Bool) := if (l0.length : Int) = (l1.length : Int) then (beadrollref01_Texts.l0 k l0 l1 0) else (some false)
set_option maxHeartbeats 8000000 in
set_option maxRecDepth 100000 in
theorem beadrollref01_Texts.calls (k : Nat) (A0 : Option Addr) (c0 : Nat) (l0 : List ByteArray) (A1 : Option Addr) (c1 : Nat) (l1 : List ByteArray) (r : Bool) (w : World) (hr0 : Kd.C Kd.string w A0 l0.length l0) (hc0 : l0.length ≤ c0) (hr1 : Kd.C Kd.string w A1 l1.length l1) (hc1 : l1.length ≤ c1) (h : beadrollref01_Texts.f k l0 l1 = some r) :
    Calls Tryz.prog 24 #[.slice A0 l0.length c0, .slice A1 l1.length c1] w fun e w' => e = .returned (.bool r) ∧ Drawn0 w w' := by
  have HR0 := Aside0.mk hr0
  have HC0 := Aside0.mk hc0
  clear hr0 hc0
  have HR1 := Aside0.mk hr1
  have HC1 := Aside0.mk hc1
  clear hr1 hc1
  have H : (if (l0.length : Int) = (l1.length : Int) then (beadrollref01_Texts.l0 k l0 l1 0) else (some false)) = some r := h
  clear h
  by_cases c3 : (l0.length : Int) = (l1.length : Int)
  focus
   rw [if_pos c3] at H
   have c3b0 : ((l0.length : Int) == (l1.length : Int)) = true := beq_iff_eq.mpr c3
   have c3b1 : ((l0.length : Int) != (l1.length : Int)) = false := bne_eq_false_iff_eq.mpr c3
   have c3b2 : (l0.length == l1.length) = true := by (simp at c3 ⊢; omega)
   clear c3
   have H' := Aside0.mk H
   clear H
  rotate_left
  focus
   rw [if_neg c3] at H
   have c3b0 : ((l0.length : Int) == (l1.length : Int)) = false := beq_eq_false_iff_ne.mpr c3
   have c3b1 : ((l0.length : Int) != (l1.length : Int)) = true := bne_iff_ne.mpr c3
   have c3b2 : (l0.length == l1.length) = false := by (simp at c3 ⊢; omega)
   obtain rfl := Option.some.inj H
  rotate_left
  all_goals
   go_enter Tryz.func24, Tryz.ntmps24
   go_wp2
   repeat (go_quiet (fail); try go_wp2)
  ·go_loopg [5] k (fun kq v5 w' => ∃ (x5_1 : Int), v5 = .int .i64 x5_1 ∧ Aside0 (beadrollref01_Texts.l0 kq l0 l1 x5_1 = some r) ∧ Aside0 (kq ≤ k) ∧ Drawn0 w w')
   case atStart => exact ⟨(0), (by rfl), H', ⟨Nat.le_refl _⟩, by repeat ((exact Drawn0.refl _))⟩
   case round =>
    clear H'
    (try clear c3b0)
    (try clear c3b1)
    (try clear c3b2)
    obtain ⟨x5_1, rfl, HA, HK1, ⟨m1, rfl⟩⟩ := hrel
    cases gk with
    | zero => exact absurd HA.out (by simp [beadrollref01_Texts.l0])
    | succ k1 =>
     have H := HA.out
     clear HA
     simp only [beadrollref01_Texts.l0] at H
     by_cases c4 : x5_1 < (l0.length : Int)
     ·rw [if_pos c4] at H
      have c4b0 : decide (x5_1 < (l0.length : Int)) = true := decide_eq_true c4
      clear c4
      obtain ⟨c5b0, H⟩ := gdd_ H
      obtain ⟨c6b0, H⟩ := gdd_ H
      by_cases c7 : (rdOf ByteArray.empty l0 x5_1).toList = (rdOf ByteArray.empty l1 x5_1).toList
      focus
       rw [if_pos c7] at H
       have c7b0 : ((rdOf ByteArray.empty l0 x5_1).toList == (rdOf ByteArray.empty l1 x5_1).toList) = true := beq_iff_eq.mpr c7
       have c7b1 : ((rdOf ByteArray.empty l0 x5_1).toList != (rdOf ByteArray.empty l1 x5_1).toList) = false := bne_eq_false_iff_eq.mpr c7
       clear c7
       have H' := Aside0.mk H
       clear H
      rotate_left
      focus
       rw [if_neg c7] at H
       have c7b0 : ((rdOf ByteArray.empty l0 x5_1).toList == (rdOf ByteArray.empty l1 x5_1).toList) = false := beq_eq_false_iff_ne.mpr c7
       have c7b1 : ((rdOf ByteArray.empty l0 x5_1).toList != (rdOf ByteArray.empty l1 x5_1).toList) = true := bne_iff_ne.mpr c7
       obtain rfl := Option.some.inj H
      rotate_left
      all_goals
       have p345 : 0 ≤ (x5_1 : Int) := of_decide_eq_true (by assumption)
       have q345 : x5_1 < (l0.length : Int) := of_decide_eq_true (by assumption)
       obtain ⟨ad345, e345, hx345_0⟩ := Kd.at_string HR0.out x5_1 p345 q345
       cases e345
       replace p345 := eq_true p345
       replace q345 := eq_true q345
       have p346 : 0 ≤ (x5_1 : Int) := of_decide_eq_true (by assumption)
       have q346 : x5_1 < (l1.length : Int) := of_decide_eq_true (by assumption)
       obtain ⟨ad346, e346, hx346_0⟩ := Kd.at_string HR1.out x5_1 p346 q346
       cases e346
       replace p346 := eq_true p346
       replace q346 := eq_true q346
       go_wp2
       repeat (go_quiet (fail); try go_wp2)
      ·go_roundg k1
       case measure => have := HK1.out; omega
       case rel => exact ⟨(wrap64 (x5_1 + 1)), (by rfl), H', ⟨by have := HK1.out; omega⟩, by repeat (first | exact Drawn0.refl _ | apply Drawn0.step)⟩
      ·go_ret
       exact ⟨by rfl, by repeat (first | exact Drawn0.refl _ | apply Drawn0.step)⟩
     ·rw [if_neg c4] at H
      have c4b0 : decide (x5_1 < (l0.length : Int)) = false := decide_eq_false c4
      clear c4
      obtain rfl := Option.some.inj H
      go_wp2
      repeat (go_quiet (fail); try go_wp2)
      go_ret
      exact ⟨by rfl, by repeat (first | exact Drawn0.refl _ | apply Drawn0.step)⟩
  ·go_ret
   exact ⟨by rfl, by repeat ((exact Drawn0.refl _))⟩
end Go.Proofs.YtjmpckommjlnlaaGreat.PRd
