/- Contracts and facts that the claim's row is drawn from, each with its own conditions. -/
import Derived.Test.YtjmpckommjlnlaaGreatJoined1
set_option linter.unusedSimpArgs false
set_option linter.unusedVariables false
set_option maxHeartbeats 8000000
set_option maxRecDepth 100000
open Go.Proofs Go.RowKit
namespace Go.Y.PRd
open Go.Proofs.aj.aD Go.Proofs.aj.aQ Go.Proofs.aj.aW Go.Y.Given
attribute [local go_sem] dQ dP eD eF dJ dI dS dU
mutual
def aN.l0 : Nat → ByteArray → List ByteArray → Int → Option (List ByteArray × Bool)
 | 0, _, _, _ => none
 | k + 1, x0, x4, x5 => if x5 < (x0.size : Int) then (if 0 ≤ x5 then (aN.j1 k x0 x4 x5 (decide ((bt x0 x5) > 0))) else (none)) else (aN.j1 k x0 x4 x5 false)
def aN.j1 : Nat → ByteArray → List ByteArray → Int → Bool → Option (List ByteArray × Bool)
 | 0, _, _, _, _ => none
 | k + 1, x0, x4, x5, x19 => if x19 = true then (if 0 ≤ x5 then (if x5 < (x0.size : Int) then (if (wrap64 (bt x0 x5)) > 63 then (some (([] : List ByteArray), false)) else (if (wrap64 ((wrap64 (x5 + 1)) + (wrap64 (bt x0 x5)))) > (x0.size : Int) then (some (([] : List ByteArray), false)) else (if 0 ≤ (wrap64 (x5 + 1)) then (if (wrap64 (x5 + 1)) ≤ (wrap64 ((wrap64 (x5 + 1)) + (wrap64 (bt x0 x5)))) then (if (wrap64 ((wrap64 (x5 + 1)) + (wrap64 (bt x0 x5)))) ≤ (x0.size : Int) then (if x4.length < 8796093022208 then (aN.l0 k x0 (x4 ++ [x0.extract ((wrap64 (x5 + 1)) : Int).toNat ((wrap64 ((wrap64 (x5 + 1)) + (wrap64 (bt x0 x5)))) : Int).toNat]) (wrap64 (x5 + (wrap64 (1 + (wrap64 (bt x0 x5))))))) else (none)) else (none)) else (none)) else (none)))) else (none)) else (none)) else (if x5 = (wrap64 ((x0.size : Int) - 1)) then (if 0 ≤ x5 then (if x5 < (x0.size : Int) then (some (x4, ((bt x0 x5) == 0))) else (none)) else (none)) else (some (x4, false)))
end
def aN.f (k : Nat) (a0 : ByteArray) : Option (List ByteArray × Bool) := if (a0.size : Int) > 255 then (some (([] : List ByteArray), false)) else (aN.l0 k a0 ([] : List ByteArray) 0)
theorem aN.calls (k : Nat) (a0 : ByteArray) (r1 : List ByteArray) (r2 : Bool) (w : World) (h : aN.f k a0 = some (r1, r2)) :
    Calls Tryz.prog 115 #[.string a0] w fun e w' => ∃ v0_ : Value, e = .returned (.tuple #[v0_, .bool r2]) ∧ Kd.R Kd.string 9 w' w.heap.size (fun _ => True) v0_ r1 ∧ Below w.heap.size w w' := by
  have HB := ah.mk (Below.refl w.heap.size w)
  have H : (if (a0.size : Int) > 255 then (some (([] : List ByteArray), false)) else (aN.l0 k a0 ([] : List ByteArray) 0)) = some (r1, r2) := h
  clear h
  by_cases c2 : (a0.size : Int) > 255
  focus
   rw [if_pos c2] at H
   have c2b0 : decide (255 < (a0.size : Int)) = true := decide_eq_true c2
   have c2b1 : decide (255 < a0.size) = true := decide_eq_true (by omega)
   clear c2
   simp only [Option.some.injEq, Prod.mk.injEq] at H
   obtain ⟨rfl, rfl⟩ := H
  rotate_left
  focus
   rw [if_neg c2] at H
   have c2b0 : decide (255 < (a0.size : Int)) = false := decide_eq_false c2
   have c2b1 : decide (255 < a0.size) = false := decide_eq_false (by omega)
   clear c2
   have H' := ah.mk H
   clear H
  rotate_left
  all_goals
   go_enter Tryz.func115, Tryz.ntmps115
   go_wp2
   repeat (go_quiet (fail); try go_wp2)
  ·go_ret2
   exact ⟨_, by rfl, by (exact Kd.fJ _ _ _ _ _), HB.out⟩
  ·go_loopg [4, 5] k (fun kq v4 v5 w' => ∃ (x4_1 : List ByteArray) (x5_1 : Int), v5 = .int .i64 x5_1 ∧ ah (aN.l0 kq a0 x4_1 x5_1 = some (r1, r2)) ∧ ah (kq ≤ k) ∧ ah (Kd.R Kd.string 9 w' w.heap.size (fun _ => True) v4 x4_1) ∧ ah (Below w.heap.size w w'))
   case atStart => exact ⟨(([] : List ByteArray)), (0), (by rfl), H', ⟨Nat.le_refl _⟩, ⟨by (exact Kd.fJ _ _ _ _ _)⟩, ⟨HB.out⟩⟩
   case round =>
    clear H'
    (try clear c2b0)
    (try clear c2b1)
    obtain ⟨x4_1, x5_1, rfl, HA, HK1, HO_4, HB⟩ := hrel
    cases gk with
    | zero => exact absurd HA.out (by simp [aN.l0])
    | succ k1 =>
     have H := HA.out
     clear HA
     simp only [aN.l0] at H
     have HC3 := ah.mk H
     clear H
     go_upto_region 5 with (fail)
     repeat (go_quiet (fail); go_upto_region 5 with (fail))
     go_cut [19] (fun v19 wc => ∃ (kq : Nat) (x19_2 : Bool), v19 = .bool x19_2 ∧ ah (aN.j1 kq a0 x4_1 x5_1 x19_2 = some (r1, r2)) ∧ ah (kq ≤ k1) ∧ ah (Kd.R Kd.string 9 wc w.heap.size (fun _ => True) u4 x4_1) ∧ ah (Below w.heap.size w wc))
     case first =>
      have H := HC3.out
      clear HC3
      by_cases c4 : x5_1 < (a0.size : Int)
      focus
       rw [if_pos c4] at H
       have c4b0 : decide (x5_1 < (a0.size : Int)) = true := decide_eq_true c4
      rotate_left
      focus
       rw [if_neg c4] at H
       have c4b0 : decide (x5_1 < (a0.size : Int)) = false := decide_eq_false c4
      rotate_left
      all_goals
       clear c4
       (skip)
      ·obtain ⟨c5b0, H⟩ := fq H
       have H' := ah.mk H
       clear H
       have p6 : 0 ≤ (x5_1 : Int) := of_decide_eq_true (by assumption)
       have q6 : x5_1 < (a0.size : Int) := of_decide_eq_true (by assumption)
       have hx6 := mX a0 x5_1
       replace p6 := eq_true p6
       replace q6 := eq_true q6
       go_wp2
       repeat (go_quiet (fail); try go_wp2)
       go_meet
       case rel => exact ⟨_, (decide ((bt a0 x5_1) > 0)), (by rfl), H', ⟨by have := HK1.out; omega⟩, ⟨by (with_reducible repeat ((apply Kd.bf))); exact HO_4.out⟩, ⟨HB.out⟩⟩
      ·have H' := ah.mk H
       clear H
       go_wp2
       repeat (go_quiet (fail); try go_wp2)
       go_meet
       case rel => exact ⟨_, (false), (by rfl), H', ⟨by have := HK1.out; omega⟩, ⟨by (with_reducible repeat ((apply Kd.bf))); exact HO_4.out⟩, ⟨HB.out⟩⟩
     case rest =>
      clear HC3
      obtain ⟨kq, x19_2, rfl, HA, HJ2, HO_4, HB⟩ := hcut
      cases kq with
      | zero => exact absurd HA.out (by simp [aN.j1])
      | succ kj2 =>
       have H := HA.out
       clear HA
       simp only [aN.j1] at H
       by_cases c7 : x19_2 = true
       ·subst c7
        rw [if_pos rfl] at H
        obtain ⟨c8b0, H⟩ := fq H
        obtain ⟨c9b0, H⟩ := fq H
        by_cases c11 : (wrap64 (bt a0 x5_1)) > 63
        focus
         rw [if_pos c11] at H
         have c11b0 : decide (63 < (wrap64 (bt a0 x5_1))) = true := decide_eq_true c11
         clear c11
         simp only [Option.some.injEq, Prod.mk.injEq] at H
         obtain ⟨rfl, rfl⟩ := H
        rotate_left
        focus
         rw [if_neg c11] at H
         have c11b0 : decide (63 < (wrap64 (bt a0 x5_1))) = false := decide_eq_false c11
         clear c11
         by_cases c12 : (wrap64 ((wrap64 (x5_1 + 1)) + (wrap64 (bt a0 x5_1)))) > (a0.size : Int)
         focus
          rw [if_pos c12] at H
          have c12b0 : decide ((a0.size : Int) < (wrap64 ((wrap64 (x5_1 + 1)) + (wrap64 (bt a0 x5_1))))) = true := decide_eq_true c12
          clear c12
          simp only [Option.some.injEq, Prod.mk.injEq] at H
          obtain ⟨rfl, rfl⟩ := H
         rotate_left
         focus
          rw [if_neg c12] at H
          have c12b0 : decide ((a0.size : Int) < (wrap64 ((wrap64 (x5_1 + 1)) + (wrap64 (bt a0 x5_1))))) = false := decide_eq_false c12
          clear c12
          obtain ⟨ji13, hji13⟩ : ∃ j_ : Int, (wrap64 (x5_1 + 1)) = j_ := ⟨_, rfl⟩
          rw [hji13] at H
          (try rw [hji13] at c12b0)
          have hji13w : (IntKind.i64.wrap (x5_1 + 1)) = ji13 := (gu _).trans hji13
          obtain ⟨c14, H⟩ := gd_ H
          have c14b0 := eq_true c14
          have c14b1 : decide (0 ≤ (ji13)) = true := decide_eq_true c14
          clear c14
          obtain ⟨c15, H⟩ := gd_ H
          have c15b0 := eq_true c15
          have c15b1 : decide ((ji13) ≤ (wrap64 ((ji13) + (wrap64 (bt a0 x5_1))))) = true := decide_eq_true c15
          obtain ⟨c16, H⟩ := gd_ H
          have c16b0 := eq_true c16
          have c16b1 : decide ((wrap64 ((ji13) + (wrap64 (bt a0 x5_1)))) ≤ (a0.size : Int)) = true := decide_eq_true c16
          obtain ⟨c17, H⟩ := gd_ H
          have LMc17 := ah.mk c17
          clear c17
          obtain ⟨y210, hy210⟩ : ∃ y_ : List ByteArray, y_ = (x4_1 ++ [a0.extract ((ji13) : Int).toNat ((wrap64 ((ji13) + (wrap64 (bt a0 x5_1)))) : Int).toNat]) := ⟨_, rfl⟩
          replace H : (aN.l0 kj2 a0 y210 (wrap64 (x5_1 + (wrap64 (1 + (wrap64 (bt a0 x5_1))))))) = some (r1, r2) := by (rw [hy210]; with_reducible exact H)
          have Ny210 := ah.mk hy210
          clear hy210
          have H' := ah.mk H
          clear H
         rotate_left
        rotate_left 2
        all_goals
         have p10 : 0 ≤ (x5_1 : Int) := of_decide_eq_true (by assumption)
         have q10 : x5_1 < (a0.size : Int) := of_decide_eq_true (by assumption)
         have hx10 := mX a0 x5_1
         replace p10 := eq_true p10
         replace q10 := eq_true q10
        ·go_wp2
         repeat (go_quiet (fail); try go_wp2)
         go_ret2
         exact ⟨_, by rfl, by (exact Kd.fJ _ _ _ _ _), HB.out⟩
        ·go_wp2
         repeat (go_quiet (fail); try go_wp2)
         go_ret2
         exact ⟨_, by rfl, by (exact Kd.fJ _ _ _ _ _), HB.out⟩
        ·go_wp2_with ((((with_reducible refine dX (b := .append) (xs := #[.tmp 35, .tmp 44]) rfl ?_); (try (refine fC (by rfl) ?_; dsimp only)); at_builtin; refine Kd.fO Kd.string (w0 := w) w.heap.size rfl (.tmp 35) (.tmp 44) 45 9 (.string ⟨#[]⟩) 16 rfl Tryz.underlying45 mE rfl (by decide) (by omega) u4 x4_1 (a0.extract ((ji13) : Int).toNat ((wrap64 ((ji13) + (wrap64 (bt a0 x5_1)))) : Int).toNat) [.string (a0.extract ((ji13) : Int).toNat ((wrap64 ((ji13) + (wrap64 (bt a0 x5_1)))) : Int).toNat)] (fun _ => True) (fun _ => False) rfl rfl ?aP (fun _ hk => hk.elim) ?aF ?aO ?aB ?aS ?aL ?_; (case aP => exact rfl); (case aB => exact HB.out); (case aF => exact (fun _ _ => trivial)); (case aO => exact (by ((exact HO_4.out)))); (case aS => exact (ay HB.out)); (case aL => have := LMc17.out; omega); intro v211 w18 ho hb hg hat; rw [← Ny210.out] at ho; have n0_ := ah.mk (hb); have n1_ := ah.mk (ho); clear HB; clear HO_4; have HB := n0_; have HO212 := n1_; clear n0_ n1_; clear ho hb hg hat)))
         repeat (go_quiet ((((with_reducible refine dX (b := .append) (xs := #[.tmp 35, .tmp 44]) rfl ?_); at_builtin; refine Kd.fO Kd.string (w0 := w) w.heap.size rfl (.tmp 35) (.tmp 44) 45 9 (.string ⟨#[]⟩) 16 rfl Tryz.underlying45 mE rfl (by decide) (by omega) u4 x4_1 (a0.extract ((ji13) : Int).toNat ((wrap64 ((ji13) + (wrap64 (bt a0 x5_1)))) : Int).toNat) [.string (a0.extract ((ji13) : Int).toNat ((wrap64 ((ji13) + (wrap64 (bt a0 x5_1)))) : Int).toNat)] (fun _ => True) (fun _ => False) rfl rfl ?aP (fun _ hk => hk.elim) ?aF ?aO ?aB ?aS ?aL ?_; (case aP => exact rfl); (case aB => exact HB.out); (case aF => exact (fun _ _ => trivial)); (case aO => exact (by ((exact HO_4.out)))); (case aS => exact (ay HB.out)); (case aL => have := LMc17.out; omega); intro v211 w18 ho hb hg hat; rw [← Ny210.out] at ho; have n0_ := ah.mk (hb); have n1_ := ah.mk (ho); clear HB; clear HO_4; have HB := n0_; have HO212 := n1_; clear n0_ n1_; clear ho hb hg hat))); try go_wp2_with ((((with_reducible refine dX (b := .append) (xs := #[.tmp 35, .tmp 44]) rfl ?_); at_builtin; refine Kd.fO Kd.string (w0 := w) w.heap.size rfl (.tmp 35) (.tmp 44) 45 9 (.string ⟨#[]⟩) 16 rfl Tryz.underlying45 mE rfl (by decide) (by omega) u4 x4_1 (a0.extract ((ji13) : Int).toNat ((wrap64 ((ji13) + (wrap64 (bt a0 x5_1)))) : Int).toNat) [.string (a0.extract ((ji13) : Int).toNat ((wrap64 ((ji13) + (wrap64 (bt a0 x5_1)))) : Int).toNat)] (fun _ => True) (fun _ => False) rfl rfl ?aP (fun _ hk => hk.elim) ?aF ?aO ?aB ?aS ?aL ?_; (case aP => exact rfl); (case aB => exact HB.out); (case aF => exact (fun _ _ => trivial)); (case aO => exact (by ((exact HO_4.out)))); (case aS => exact (ay HB.out)); (case aL => have := LMc17.out; omega); intro v211 w18 ho hb hg hat; rw [← Ny210.out] at ho; have n0_ := ah.mk (hb); have n1_ := ah.mk (ho); clear HB; clear HO_4; have HB := n0_; have HO212 := n1_; clear n0_ n1_; clear ho hb hg hat))))
         go_roundg kj2
         case measure => have := HK1.out; have := HJ2.out; omega
         case rel => exact ⟨(y210), (wrap64 (x5_1 + (wrap64 (1 + (wrap64 (bt a0 x5_1)))))), (by rfl), H', ⟨by have := HK1.out; have := HJ2.out; omega⟩, ⟨by (with_reducible repeat ((apply Kd.bf))); exact HO212.out⟩, ⟨HB.out⟩⟩
       ·replace c7 := Bool.eq_false_iff.mpr c7
        subst c7
        rw [if_neg ff_] at H
        by_cases c19 : x5_1 = (wrap64 ((a0.size : Int) - 1))
        focus
         rw [if_pos c19] at H
         have c19b0 : (x5_1 == (wrap64 ((a0.size : Int) - 1))) = true := beq_iff_eq.mpr c19
         have c19b1 : (x5_1 != (wrap64 ((a0.size : Int) - 1))) = false := bne_eq_false_iff_eq.mpr c19
         clear c19
         obtain ⟨c20b0, H⟩ := fq H
         obtain ⟨c21b0, H⟩ := fq H
        rotate_left
        focus
         rw [if_neg c19] at H
         have c19b0 : (x5_1 == (wrap64 ((a0.size : Int) - 1))) = false := beq_eq_false_iff_ne.mpr c19
         have c19b1 : (x5_1 != (wrap64 ((a0.size : Int) - 1))) = true := bne_iff_ne.mpr c19
        rotate_left
        all_goals
         simp only [Option.some.injEq, Prod.mk.injEq] at H
         obtain ⟨rfl, rfl⟩ := H
        focus
         have p22 : 0 ≤ (x5_1 : Int) := of_decide_eq_true (by assumption)
         have q22 : x5_1 < (a0.size : Int) := of_decide_eq_true (by assumption)
         have hx22 := mX a0 x5_1
         replace p22 := eq_true p22
         replace q22 := eq_true q22
        rotate_left
        rotate_left
        all_goals
         go_wp2
         repeat (go_quiet (fail); try go_wp2)
         go_ret2
         exact ⟨_, by rfl, by (with_reducible repeat ((apply Kd.jA))); exact HO_4.out, by repeat ((with_reducible first | exact HB.out | apply bg))⟩
def bO.f (k : Nat) (a0 : ByteArray) : Option (Bool) := (aN.f k a0).bind fun bt213 => (some bt213.2)
theorem bO.calls (k : Nat) (a0 : ByteArray) (r : Bool) (w : World) (h : bO.f k a0 = some r) :
  Calls Tryz.prog 67 #[.string a0] w fun e w' => e = .returned (.bool r) ∧ Below w.heap.size w w' := by
 have HB := ah.mk (Below.refl w.heap.size w)
 have H : ((aN.f k a0).bind fun bt213 => (some bt213.2)) = some r := h
 clear h
 replace H := Option.bind_eq_some_iff.mp H
 obtain ⟨⟨t213, t214⟩, A20, H⟩ := H
 replace H : (some t214) = some r := H
 have A2 := ah.mk A20
 clear A20
 obtain rfl := Option.some.inj H
 go_enter Tryz.func67, Tryz.ntmps67
 go_wp2_with ((((with_reducible refine dZ (f := 115) rfl ?_); refine gT (some 7) rfl rfl Tryz.func115 (by kernel_rfl) rfl #[.string a0] rfl (by (try simp only [mA_, mC_, mN_]); rfl) ?_; (with_reducible refine (aN.calls k a0 t213 t214 _ A2.out).mono ?_); rintro e w3 ⟨v215, rfl, ho0, hb⟩; refine ⟨_, rfl, ?_⟩; have HO216 := ah.mk (Kd.bZ ho0 (ay HB.out)); replace HB := ah.mk (av HB.out hb); (try clear hb); (try clear ho0))))
 go_ret
 exact ⟨by rfl, HB.out⟩
mutual
def bn.j0 : Nat → ByteArray → Int → Bool → Option (ByteArray × Int × Int)
 | 0, _, _, _ => none
 | k + 1, x0, x1, x19 => if x19 = true then (some ((⟨#[]⟩ : ByteArray), 0, 1)) else (bn.l0 k x0 x1 (⟨#[]⟩ : ByteArray) (-1) x1)
def bn.l0 : Nat → ByteArray → Int → ByteArray → Int → Int → Option (ByteArray × Int × Int)
 | 0, _, _, _, _, _ => none
 | k + 1, x0, x1, x7, x8, x9 => if x1 < (x0.size : Int) then (bn.j2 k x0 x1 x7 x8 x9 (decide ((x7.size : Int) < 300))) else (bn.j2 k x0 x1 x7 x8 x9 false)
def bn.j2 : Nat → ByteArray → Int → ByteArray → Int → Int → Bool → Option (ByteArray × Int × Int)
 | 0, _, _, _, _, _, _ => none
 | k + 1, x0, x1, x7, x8, x9, x29 => if x29 = true then (if 0 ≤ x1 then (if x1 < (x0.size : Int) then (if (wrap64 (bt x0 x1)) = 0 then (if x7.size + 1 ≤ 9223372036854775807 then (if x8 < 0 then ((bO.f k (x7 ++ (⟨#[0]⟩ : ByteArray))).bind fun t217 => (if t217 = true then (some (x7 ++ (⟨#[0]⟩ : ByteArray), wrap64 (x1 + 1), 0)) else (some ((⟨#[]⟩ : ByteArray), 0, 2)))) else ((bO.f k (x7 ++ (⟨#[0]⟩ : ByteArray))).bind fun t218 => (if t218 = true then (some (x7 ++ (⟨#[0]⟩ : ByteArray), x8, 0)) else (some ((⟨#[]⟩ : ByteArray), 0, 2))))) else (none)) else (if (wrap64 (bt x0 x1)) ≥ 192 then (if (wrap64 (x1 + 1)) ≥ (x0.size : Int) then (some ((⟨#[]⟩ : ByteArray), 0, 2)) else (if 0 ≤ (wrap64 (x1 + 1)) then (if (wrap64 (x1 + 1)) < (x0.size : Int) then (if (wrap64 ((wrap64 ((wrap64 ((wrap64 (bt x0 x1)) - 192)) * 256)) + (wrap64 (bt x0 (wrap64 (x1 + 1)))))) ≥ x9 then (some ((⟨#[]⟩ : ByteArray), 0, 2)) else (if x8 < 0 then (bn.l0 k x0 (wrap64 ((wrap64 ((wrap64 ((wrap64 (bt x0 x1)) - 192)) * 256)) + (wrap64 (bt x0 (wrap64 (x1 + 1)))))) x7 (wrap64 (x1 + 2)) (wrap64 ((wrap64 ((wrap64 ((wrap64 (bt x0 x1)) - 192)) * 256)) + (wrap64 (bt x0 (wrap64 (x1 + 1))))))) else (bn.l0 k x0 (wrap64 ((wrap64 ((wrap64 ((wrap64 (bt x0 x1)) - 192)) * 256)) + (wrap64 (bt x0 (wrap64 (x1 + 1)))))) x7 x8 (wrap64 ((wrap64 ((wrap64 ((wrap64 (bt x0 x1)) - 192)) * 256)) + (wrap64 (bt x0 (wrap64 (x1 + 1))))))))) else (none)) else (none))) else (if (wrap64 (bt x0 x1)) ≥ 64 then (some ((⟨#[]⟩ : ByteArray), 0, 2)) else (if (wrap64 ((wrap64 (x1 + 1)) + (wrap64 (bt x0 x1)))) > (x0.size : Int) then (some ((⟨#[]⟩ : ByteArray), 0, 2)) else (if x1 ≤ (wrap64 ((wrap64 (x1 + 1)) + (wrap64 (bt x0 x1)))) then (if (wrap64 ((wrap64 (x1 + 1)) + (wrap64 (bt x0 x1)))) ≤ (x0.size : Int) then (if x7.size + (x0.extract (x1 : Int).toNat ((wrap64 ((wrap64 (x1 + 1)) + (wrap64 (bt x0 x1)))) : Int).toNat).size ≤ 9223372036854775807 then (bn.l0 k x0 (wrap64 (x1 + (wrap64 (1 + (wrap64 (bt x0 x1)))))) (x7 ++ (x0.extract (x1 : Int).toNat ((wrap64 ((wrap64 (x1 + 1)) + (wrap64 (bt x0 x1)))) : Int).toNat)) x8 x9) else (none)) else (none)) else (none)))))) else (none)) else (none)) else (some ((⟨#[]⟩ : ByteArray), 0, 2))
end
def bn.f (k : Nat) (a0 : ByteArray) (a1 : Int) : Option (ByteArray × Int × Int) := if a1 < 0 then (bn.j0 k a0 a1 true) else (bn.j0 k a0 a1 (decide (a1 > (a0.size : Int))))
theorem bn.calls (k : Nat) (a0 : ByteArray) (a1 : Int) (r1 : ByteArray) (r2 : Int) (r3 : Int) (w : World) (h : bn.f k a0 a1 = some (r1, r2, r3)) :
    Calls Tryz.prog 166 #[.string a0, .int .i64 a1] w fun e w' => e = .returned (.tuple #[.string r1, .int .i64 r2, .int .i64 r3]) ∧ Below w.heap.size w w' := by
  have HB := ah.mk (Below.refl w.heap.size w)
  have H : (if a1 < 0 then (bn.j0 k a0 a1 true) else (bn.j0 k a0 a1 (decide (a1 > (a0.size : Int))))) = some (r1, r2, r3) := h
  clear h
  have HC3 := ah.mk H
  clear H
  go_enter Tryz.func166, Tryz.ntmps166
  go_upto_region 1 with (fail)
  go_cut [19] (fun v19 wc => ∃ (kq : Nat) (x19_2 : Bool), v19 = .bool x19_2 ∧ ah (bn.j0 kq a0 a1 x19_2 = some (r1, r2, r3)) ∧ ah (kq ≤ k) ∧ ah (Below w.heap.size w wc))
  case first =>
   have H := HC3.out
   clear HC3
   by_cases c4 : a1 < 0
   focus
    rw [if_pos c4] at H
    have c4b0 : decide (a1 < 0) = true := decide_eq_true c4
   rotate_left
   focus
    rw [if_neg c4] at H
    have c4b0 : decide (a1 < 0) = false := decide_eq_false c4
   rotate_left
   all_goals
    clear c4
    (skip)
    have H' := ah.mk H
    clear H
    go_wp2
    go_meet
   ·case rel => exact ⟨_, (true), (by rfl), H', ⟨by omega⟩, ⟨HB.out⟩⟩
   ·case rel => exact ⟨_, (decide (a1 > (a0.size : Int))), (by rfl), H', ⟨by omega⟩, ⟨HB.out⟩⟩
  case rest =>
   clear HC3
   obtain ⟨kq, x19_2, rfl, HA, HJ2, HB⟩ := hcut
   cases kq with
   | zero => exact absurd HA.out (by simp [bn.j0])
   | succ kj2 =>
    have H := HA.out
    clear HA
    simp only [bn.j0] at H
    by_cases c5 : x19_2 = true
    ·subst c5
     rw [if_pos rfl] at H
     simp only [Option.some.injEq, Prod.mk.injEq] at H
     obtain ⟨rfl, rfl, rfl⟩ := H
     go_wp2
     go_ret3
     exact ⟨by rfl, HB.out⟩
    ·replace c5 := Bool.eq_false_iff.mpr c5
     subst c5
     rw [if_neg ff_] at H
     have H' := ah.mk H
     clear H
     go_wp2
     go_loopg [1, 7, 8, 9] kj2 (fun kq v1 v7 v8 v9 w' => ∃ (x1_2 : Int) (x7_2 : ByteArray) (x8_2 : Int) (x9_2 : Int), v1 = .int .i64 x1_2 ∧ v7 = .string x7_2 ∧ v8 = .int .i64 x8_2 ∧ v9 = .int .i64 x9_2 ∧ ah (bn.l0 kq a0 x1_2 x7_2 x8_2 x9_2 = some (r1, r2, r3)) ∧ ah (kq ≤ kj2) ∧ ah (Below w.heap.size w w'))
     case atStart => exact ⟨(a1), ((⟨#[]⟩ : ByteArray)), ((-1)), (a1), (by rfl), (by rfl), (by rfl), (by rfl), H', ⟨Nat.le_refl _⟩, ⟨HB.out⟩⟩
     case round =>
      clear H'
      obtain ⟨x1_2, x7_2, x8_2, x9_2, rfl, rfl, rfl, rfl, HA, HK2, HB⟩ := hrel
      cases gk with
      | zero => exact absurd HA.out (by simp [bn.l0])
      | succ k2 =>
       have H := HA.out
       clear HA
       simp only [bn.l0] at H
       have HC6 := ah.mk H
       clear H
       go_upto_region 6 with (fail)
       go_cut [29] (fun v29 wc => ∃ (kq : Nat) (x29_5 : Bool), v29 = .bool x29_5 ∧ ah (bn.j2 kq a0 x1_2 x7_2 x8_2 x9_2 x29_5 = some (r1, r2, r3)) ∧ ah (kq ≤ k2) ∧ ah (Below w.heap.size w wc))
       case first =>
        have H := HC6.out
        clear HC6
        by_cases c7 : x1_2 < (a0.size : Int)
        focus
         rw [if_pos c7] at H
         have c7b0 : decide (x1_2 < (a0.size : Int)) = true := decide_eq_true c7
        rotate_left
        focus
         rw [if_neg c7] at H
         have c7b0 : decide (x1_2 < (a0.size : Int)) = false := decide_eq_false c7
        rotate_left
        all_goals
         clear c7
         (skip)
         have H' := ah.mk H
         clear H
         go_wp2
         go_meet
        ·case rel => exact ⟨_, (decide ((x7_2.size : Int) < 300)), (by rfl), H', ⟨by have := HJ2.out; have := HK2.out; omega⟩, ⟨HB.out⟩⟩
        ·case rel => exact ⟨_, (false), (by rfl), H', ⟨by have := HJ2.out; have := HK2.out; omega⟩, ⟨HB.out⟩⟩
       case rest =>
        clear HC6
        obtain ⟨kq, x29_5, rfl, HA, HJ5, HB⟩ := hcut
        cases kq with
        | zero => exact absurd HA.out (by simp [bn.j2])
        | succ kj5 =>
         have H := HA.out
         clear HA
         simp only [bn.j2] at H
         by_cases c8 : x29_5 = true
         ·subst c8
          rw [if_pos rfl] at H
          obtain ⟨c9b0, H⟩ := fq H
          obtain ⟨c10b0, H⟩ := fq H
          by_cases c12 : (wrap64 (bt a0 x1_2)) = 0
          focus
           rw [if_pos c12] at H
           have c12b0 : ((wrap64 (bt a0 x1_2)) == 0) = true := beq_iff_eq.mpr c12
           have c12b1 : ((wrap64 (bt a0 x1_2)) != 0) = false := bne_eq_false_iff_eq.mpr c12
           clear c12
           obtain ⟨c13, H⟩ := gd_ H
           have c13b0 := eq_true c13
           have c13b1 : decide (x7_2.size + 1 ≤ 9223372036854775807) = true := decide_eq_true c13
           (try have c13b2 : (9223372036854775807 < x7_2.size + 1) = False := eq_false (Nat.not_lt.2 c13))
           by_cases c14 : x8_2 < 0
           focus
            rw [if_pos c14] at H
            have c14b0 : decide (x8_2 < 0) = true := decide_eq_true c14
            clear c14
            obtain ⟨t217, A15, H⟩ := cK H
            by_cases c16 : t217 = true
            focus
             subst c16
             rw [if_pos rfl] at H
            rotate_left
            focus
             replace c16 := Bool.eq_false_iff.mpr c16
             subst c16
             rw [if_neg ff_] at H
            rotate_left
           rotate_left 2
           focus
            rw [if_neg c14] at H
            have c14b0 : decide (x8_2 < 0) = false := decide_eq_false c14
            clear c14
            obtain ⟨t218, A15, H⟩ := cK H
            by_cases c20 : t218 = true
            focus
             subst c20
             rw [if_pos rfl] at H
            rotate_left
            focus
             replace c20 := Bool.eq_false_iff.mpr c20
             subst c20
             rw [if_neg ff_] at H
            rotate_left
           rotate_left 2
           all_goals
            simp only [Option.some.injEq, Prod.mk.injEq] at H
            obtain ⟨rfl, rfl, rfl⟩ := H
          rotate_left 4
          focus
           rw [if_neg c12] at H
           have c12b0 : ((wrap64 (bt a0 x1_2)) == 0) = false := beq_eq_false_iff_ne.mpr c12
           have c12b1 : ((wrap64 (bt a0 x1_2)) != 0) = true := bne_iff_ne.mpr c12
           by_cases c23 : (wrap64 (bt a0 x1_2)) ≥ 192
           focus
            rw [if_pos c23] at H
            have c23b0 : decide (192 ≤ (wrap64 (bt a0 x1_2))) = true := decide_eq_true c23
            clear c23
            by_cases c24 : (wrap64 (x1_2 + 1)) ≥ (a0.size : Int)
            focus
             rw [if_pos c24] at H
             have c24b0 : decide ((a0.size : Int) ≤ (wrap64 (x1_2 + 1))) = true := decide_eq_true c24
             clear c24
             simp only [Option.some.injEq, Prod.mk.injEq] at H
             obtain ⟨rfl, rfl, rfl⟩ := H
            rotate_left
            focus
             rw [if_neg c24] at H
             have c24b0 : decide ((a0.size : Int) ≤ (wrap64 (x1_2 + 1))) = false := decide_eq_false c24
             clear c24
             obtain ⟨ji25, hji25⟩ : ∃ j_ : Int, (wrap64 (x1_2 + 1)) = j_ := ⟨_, rfl⟩
             rw [hji25] at H
             (try rw [hji25] at c24b0)
             have hji25w : (IntKind.i64.wrap (x1_2 + 1)) = ji25 := (gu _).trans hji25
             obtain ⟨c26b0, H⟩ := fq H
             obtain ⟨c27b0, H⟩ := fq H
             by_cases c29 : (wrap64 ((wrap64 ((wrap64 ((wrap64 (bt a0 x1_2)) - 192)) * 256)) + (wrap64 (bt a0 (ji25))))) ≥ x9_2
             focus
              rw [if_pos c29] at H
              have c29b0 : decide (x9_2 ≤ (wrap64 ((wrap64 ((wrap64 ((wrap64 (bt a0 x1_2)) - 192)) * 256)) + (wrap64 (bt a0 (ji25)))))) = true := decide_eq_true c29
              clear c29
              simp only [Option.some.injEq, Prod.mk.injEq] at H
              obtain ⟨rfl, rfl, rfl⟩ := H
             rotate_left
             focus
              rw [if_neg c29] at H
              have c29b0 : decide (x9_2 ≤ (wrap64 ((wrap64 ((wrap64 ((wrap64 (bt a0 x1_2)) - 192)) * 256)) + (wrap64 (bt a0 (ji25)))))) = false := decide_eq_false c29
              clear c29
              by_cases c30 : x8_2 < 0
              focus
               rw [if_pos c30] at H
               have c30b0 : decide (x8_2 < 0) = true := decide_eq_true c30
              rotate_left
              focus
               rw [if_neg c30] at H
               have c30b0 : decide (x8_2 < 0) = false := decide_eq_false c30
              rotate_left
              all_goals
               clear c30
               have H' := ah.mk H
               clear H
             rotate_left 2
            rotate_left 3
           rotate_left 4
           focus
            rw [if_neg c23] at H
            have c23b0 : decide (192 ≤ (wrap64 (bt a0 x1_2))) = false := decide_eq_false c23
            clear c23
            by_cases c31 : (wrap64 (bt a0 x1_2)) ≥ 64
            focus
             rw [if_pos c31] at H
             have c31b0 : decide (64 ≤ (wrap64 (bt a0 x1_2))) = true := decide_eq_true c31
             clear c31
             simp only [Option.some.injEq, Prod.mk.injEq] at H
             obtain ⟨rfl, rfl, rfl⟩ := H
            rotate_left
            focus
             rw [if_neg c31] at H
             have c31b0 : decide (64 ≤ (wrap64 (bt a0 x1_2))) = false := decide_eq_false c31
             clear c31
             by_cases c32 : (wrap64 ((wrap64 (x1_2 + 1)) + (wrap64 (bt a0 x1_2)))) > (a0.size : Int)
             focus
              rw [if_pos c32] at H
              have c32b0 : decide ((a0.size : Int) < (wrap64 ((wrap64 (x1_2 + 1)) + (wrap64 (bt a0 x1_2))))) = true := decide_eq_true c32
              clear c32
              simp only [Option.some.injEq, Prod.mk.injEq] at H
              obtain ⟨rfl, rfl, rfl⟩ := H
             rotate_left
             focus
              rw [if_neg c32] at H
              have c32b0 : decide ((a0.size : Int) < (wrap64 ((wrap64 (x1_2 + 1)) + (wrap64 (bt a0 x1_2))))) = false := decide_eq_false c32
              clear c32
              have c33b0 := eq_true (of_decide_eq_true (by assumption) : 0 ≤ x1_2)
              obtain ⟨c34, H⟩ := gd_ H
              have c34b0 := eq_true c34
              have c34b1 : decide (x1_2 ≤ (wrap64 ((wrap64 (x1_2 + 1)) + (wrap64 (bt a0 x1_2))))) = true := decide_eq_true c34
              obtain ⟨c35, H⟩ := gd_ H
              have c35b0 := eq_true c35
              have c35b1 : decide ((wrap64 ((wrap64 (x1_2 + 1)) + (wrap64 (bt a0 x1_2)))) ≤ (a0.size : Int)) = true := decide_eq_true c35
              obtain ⟨c36, H⟩ := gd_ H
              have c36b0 := eq_true c36
              have c36b1 : decide (x7_2.size + (a0.extract (x1_2 : Int).toNat ((wrap64 ((wrap64 (x1_2 + 1)) + (wrap64 (bt a0 x1_2)))) : Int).toNat).size ≤ 9223372036854775807) = true := decide_eq_true c36
              (try have c36b2 : (9223372036854775807 < x7_2.size + (a0.extract (x1_2 : Int).toNat ((wrap64 ((wrap64 (x1_2 + 1)) + (wrap64 (bt a0 x1_2)))) : Int).toNat).size) = False := eq_false (Nat.not_lt.2 c36))
              have H' := ah.mk H
              clear H
             rotate_left
            rotate_left 2
           rotate_left 3
          rotate_left 7
          all_goals
           have p11 : 0 ≤ (x1_2 : Int) := of_decide_eq_true (by assumption)
           have q11 : x1_2 < (a0.size : Int) := of_decide_eq_true (by assumption)
           have hx11 := mX a0 x1_2
           replace p11 := eq_true p11
           replace q11 := eq_true q11
          iterate 4
           focus
            go_wp2_with ((((with_reducible refine dZ (f := 67) rfl ?_); refine gT (some 43) rfl rfl Tryz.func67 (by kernel_rfl) rfl #[.string (x7_2 ++ (⟨#[0]⟩ : ByteArray))] rfl (by (try simp only [mA_, mC_, mN_]); rfl) ?_; (with_reducible refine (bO.calls kj5 (x7_2 ++ (⟨#[0]⟩ : ByteArray)) _ _ A15.out).mono ?_); rintro e w17 ⟨rfl, hb⟩; refine ⟨_, rfl, ?_⟩; replace HB := ah.mk (av HB.out hb); (try clear hb))))
            go_ret3
            exact ⟨by rfl, HB.out⟩
          ·go_wp2
           go_ret3
           exact ⟨by rfl, HB.out⟩
          iterate 3
           focus
            have p28 : 0 ≤ ((ji25) : Int) := of_decide_eq_true (by assumption)
            have q28 : (ji25) < (a0.size : Int) := of_decide_eq_true (by assumption)
            have hx28 := mX a0 (ji25)
            replace p28 := eq_true p28
            replace q28 := eq_true q28
            go_wp2
           rotate_left
          rotate_left 3
          ·go_ret3
           exact ⟨by rfl, HB.out⟩
          iterate 2
           focus
            go_roundg kj5
            case measure => have := HJ2.out; have := HK2.out; have := HJ5.out; omega
           rotate_left
          rotate_left 3
          ·case rel => exact ⟨(wrap64 ((wrap64 ((wrap64 ((wrap64 (bt a0 x1_2)) - 192)) * 256)) + (wrap64 (bt a0 (ji25))))), (x7_2), (wrap64 (x1_2 + 2)), (wrap64 ((wrap64 ((wrap64 ((wrap64 (bt a0 x1_2)) - 192)) * 256)) + (wrap64 (bt a0 (ji25))))), (by rfl), (by rfl), (by rfl), (by rfl), H', ⟨by have := HJ2.out; have := HK2.out; have := HJ5.out; omega⟩, ⟨HB.out⟩⟩
          ·case rel => exact ⟨(wrap64 ((wrap64 ((wrap64 ((wrap64 (bt a0 x1_2)) - 192)) * 256)) + (wrap64 (bt a0 (ji25))))), (x7_2), (x8_2), (wrap64 ((wrap64 ((wrap64 ((wrap64 (bt a0 x1_2)) - 192)) * 256)) + (wrap64 (bt a0 (ji25))))), (by rfl), (by rfl), (by rfl), (by rfl), H', ⟨by have := HJ2.out; have := HK2.out; have := HJ5.out; omega⟩, ⟨HB.out⟩⟩
          all_goals
           go_wp2
          ·go_ret3
           exact ⟨by rfl, HB.out⟩
          ·go_ret3
           exact ⟨by rfl, HB.out⟩
          ·go_roundg kj5
           case measure => have := HJ2.out; have := HK2.out; have := HJ5.out; omega
           case rel => exact ⟨(wrap64 (x1_2 + (wrap64 (1 + (wrap64 (bt a0 x1_2)))))), (x7_2 ++ (a0.extract (x1_2 : Int).toNat ((wrap64 ((wrap64 (x1_2 + 1)) + (wrap64 (bt a0 x1_2)))) : Int).toNat)), (x8_2), (x9_2), (by rfl), (by rfl), (by rfl), (by rfl), H', ⟨by have := HJ2.out; have := HK2.out; have := HJ5.out; omega⟩, ⟨HB.out⟩⟩
         ·replace c8 := Bool.eq_false_iff.mpr c8
          subst c8
          rw [if_neg ff_] at H
          simp only [Option.some.injEq, Prod.mk.injEq] at H
          obtain ⟨rfl, rfl, rfl⟩ := H
          go_wp2
          go_ret3
          exact ⟨by rfl, HB.out⟩
end Go.Y.PRd
namespace Go.Y.PRd
open Go.Proofs.aj.aD Go.Proofs.aj.aQ Go.Proofs.aj.aW Go.Y.Given
attribute [local go_sem] dQ dP eD eF dJ dI dS dU
def jv.l0 : Nat → Int → List Int → Int → Option (List Int)
 | 0, _, _, _ => none
 | k + 1, x0, x5, x6 => if x6 ≥ 0 then (if 0 ≤ (wrap64 (8 * x6)) then (if x5.length < 140737488355328 then (jv.l0 k x0 (x5 ++ [(shr .u64 x0 (wrap64 (8 * x6))) % 256]) (wrap64 (x6 - 1))) else (none)) else (none)) else (some x5)
def jv.f (k : Nat) (a0 : Int) (a1 : Int) : Option (List Int) := jv.l0 k a0 ([] : List Int) (wrap64 (a1 - 1))
mutual
def iq.j0 : Nat → List Int → List Int → Bool → Option (ByteArray × Int)
 | 0, _, _, _ => none
 | k + 1, x0, x1, x18 => if x18 = true then (some ((⟨#[]⟩ : ByteArray), 1)) else (iq.l0 k x0 ([] : List Int) x1 (x1.length : Int) 0)
def iq.l0 : Nat → List Int → List Int → List Int → Int → Int → Option (ByteArray × Int)
 | 0, _, _, _, _, _ => none
 | k + 1, x0, x6, x19, x20, x21 => if x21 < x20 then (if 0 ≤ x21 then (if x21 < (x19.length : Int) then (if x21 < (x0.length : Int) then ((lH.f (rd x19 x21)).bind fun t191 => (if (rd x0 x21) > t191 then (some ((⟨#[]⟩ : ByteArray), 1)) else ((jv.f k (rd x0 x21) (rd x19 x21)).bind fun t193 => (if x6.length + t193.length < 140737488355328 then (iq.l0 k x0 (x6 ++ t193) x19 x20 (wrap64 (x21 + 1))) else (none))))) else (none)) else (none)) else (none)) else (some (strOfNums x6, 0))
end
def iq.f (k : Nat) (l0 : List Int) (l1 : List Int) : Option (ByteArray × Int) := (jM.f k l1).bind fun t188 => (if t188 = true then (iq.j0 k l0 l1 ((l0.length : Int) != (l1.length : Int))) else (iq.j0 k l0 l1 true))
def cO.j0 : Nat → Int → Bool → Option (ByteArray)
 | 0, _, _ => none
 | k + 1, x3, x8 => if x8 = true then (some (⟨#[110]⟩ : ByteArray)) else (if x3 = 15 then (some (⟨#[50, 110]⟩ : ByteArray)) else (if x3 = 6 then (some (⟨#[110, 110, 52, 52, 52, 52, 52]⟩ : ByteArray)) else (if x3 = 16 then (some (⟨#[116]⟩ : ByteArray)) else (if x3 = 33 then (some (⟨#[50, 50, 50, 117]⟩ : ByteArray)) else (some (⟨#[111]⟩ : ByteArray))))))
def cO.f (k : Nat) (a0 : Int) : Option (ByteArray) := if a0 = 1 then (some (⟨#[52]⟩ : ByteArray)) else (if a0 = 28 then (some (⟨#[104]⟩ : ByteArray)) else (if a0 = 2 then (cO.j0 k a0 (a0 == 2)) else (if a0 = 5 then (cO.j0 k a0 (a0 == 5)) else (cO.j0 k a0 (a0 == 12)))))
theorem cO.calls (k : Nat) (a0 : Int) (r : ByteArray) (w : World) (h : cO.f k a0 = some r) :
  Calls Tryz.prog 165 #[.int .i64 a0] w fun e w' => e = .returned (.string r) ∧ aZ w w' := by
 have H : (if a0 = 1 then (some (⟨#[52]⟩ : ByteArray)) else (if a0 = 28 then (some (⟨#[104]⟩ : ByteArray)) else (if a0 = 2 then (cO.j0 k a0 (a0 == 2)) else (if a0 = 5 then (cO.j0 k a0 (a0 == 5)) else (cO.j0 k a0 (a0 == 12)))))) = some r := h
 clear h
 by_cases c2 : a0 = 1
 ·rw [if_pos c2] at H
  have c2b0 : (a0 == 1) = true := beq_iff_eq.mpr c2
  have c2b1 : (a0 != 1) = false := bne_eq_false_iff_eq.mpr c2
  clear c2
  obtain rfl := Option.some.inj H
  go_enter Tryz.func165, Tryz.ntmps165
  go_wp2
  go_ret
  exact ⟨by first | rfl | (simp; done) | (simp [*]; done), by repeat (first | exact aZ.refl _ | apply aZ.step)⟩
 ·rw [if_neg c2] at H
  have c2b0 : (a0 == 1) = false := beq_eq_false_iff_ne.mpr c2
  have c2b1 : (a0 != 1) = true := bne_iff_ne.mpr c2
  by_cases c3 : a0 = 28
  ·rw [if_pos c3] at H
   have c3b0 : (a0 == 28) = true := beq_iff_eq.mpr c3
   have c3b1 : (a0 != 28) = false := bne_eq_false_iff_eq.mpr c3
   clear c3
   obtain rfl := Option.some.inj H
   go_enter Tryz.func165, Tryz.ntmps165
   go_wp2
   go_ret
   exact ⟨by first | rfl | (simp; done) | (simp [*]; done), by repeat (first | exact aZ.refl _ | apply aZ.step)⟩
  ·rw [if_neg c3] at H
   have c3b0 : (a0 == 28) = false := beq_eq_false_iff_ne.mpr c3
   have c3b1 : (a0 != 28) = true := bne_iff_ne.mpr c3
   have HC4 := ah.mk H
   clear H
   go_enter Tryz.func165, Tryz.ntmps165
   go_upto_if 8 with (fail)
   go_cut [8] (fun v8 wc => ∃ (kq : Nat) (x8_3 : Bool), v8 = .bool x8_3 ∧ ah (cO.j0 kq a0 x8_3 = some r) ∧ ah (kq ≤ k) ∧ aZ w wc)
   case first =>
    have H := HC4.out
    clear HC4
    by_cases c5 : a0 = 2
    ·rw [if_pos c5] at H
     have c5b0 : (a0 == 2) = true := beq_iff_eq.mpr c5
     have c5b1 : (a0 != 2) = false := bne_eq_false_iff_eq.mpr c5
     clear c5
     (first | rw [c5b0] | (simp only [gu, jh]; rw [c5b0]) | skip)
     have H' := ah.mk H
     clear H
     go_wp2
     go_meet
     case rel => exact ⟨_, ((a0 == 2)), (by first | rfl | (simp; done) | (simp [*]; done)), H', ⟨by first | omega | exact Nat.le_refl _⟩, by repeat (first | exact aZ.refl _ | apply aZ.step)⟩
    ·rw [if_neg c5] at H
     have c5b0 : (a0 == 2) = false := beq_eq_false_iff_ne.mpr c5
     have c5b1 : (a0 != 2) = true := bne_iff_ne.mpr c5
     (first | rw [c5b0] | (simp only [gu, jh]; rw [c5b0]) | skip)
     by_cases c6 : a0 = 5
     ·rw [if_pos c6] at H
      have c6b0 : (a0 == 5) = true := beq_iff_eq.mpr c6
      have c6b1 : (a0 != 5) = false := bne_eq_false_iff_eq.mpr c6
      clear c6
      have H' := ah.mk H
      clear H
      go_wp2
      go_meet
      case rel => exact ⟨_, ((a0 == 5)), (by first | rfl | (simp; done) | (simp [*]; done)), H', ⟨by first | omega | exact Nat.le_refl _⟩, by repeat (first | exact aZ.refl _ | apply aZ.step)⟩
     ·rw [if_neg c6] at H
      have c6b0 : (a0 == 5) = false := beq_eq_false_iff_ne.mpr c6
      have c6b1 : (a0 != 5) = true := bne_iff_ne.mpr c6
      have H' := ah.mk H
      clear H
      go_wp2
      go_meet
      case rel => exact ⟨_, ((a0 == 12)), (by first | rfl | (simp; done) | (simp [*]; done)), H', ⟨by first | omega | exact Nat.le_refl _⟩, by repeat (first | exact aZ.refl _ | apply aZ.step)⟩
   case rest =>
    clear HC4
    try clear c1
    try clear c2
    try clear c2b0
    try clear c2b1
    try clear p2
    try clear c3
    try clear c3b0
    try clear c3b1
    try clear c5
    try clear c5b0
    try clear c5b1
    try clear c6
    try clear c6b0
    try clear c6b1
    obtain ⟨kq, x8_3, rfl, HA, HJ3, ⟨mc3, rfl⟩⟩ := hcut
    cases kq with
    | zero => exact absurd HA.out (by simp [cO.j0])
    | succ kj3 =>
     have H := HA.out
     clear HA
     simp only [cO.j0] at H
     by_cases c7 : x8_3 = true
     ·subst c7
      have H1 : (some (⟨#[110]⟩ : ByteArray)) = some r := by rw [if_pos rfl] at H; exact H
      clear H
      have H := H1
      clear H1
      obtain rfl := Option.some.inj H
      go_wp2
      go_ret
      exact ⟨by first | rfl | (simp; done) | (simp [*]; done), by repeat (first | exact aZ.refl _ | apply aZ.step)⟩
     ·replace c7 := Bool.eq_false_iff.mpr c7
      subst c7
      have H1 : (if a0 = 15 then (some (⟨#[50, 110]⟩ : ByteArray)) else (if a0 = 6 then (some (⟨#[110, 110, 52, 52, 52, 52, 52]⟩ : ByteArray)) else (if a0 = 16 then (some (⟨#[116]⟩ : ByteArray)) else (if a0 = 33 then (some (⟨#[50, 50, 50, 117]⟩ : ByteArray)) else (some (⟨#[111]⟩ : ByteArray)))))) = some r := by rw [if_neg (show ¬ (false = true) by decide)] at H; exact H
      clear H
      have H := H1
      clear H1
      by_cases c8 : a0 = 15
      ·rw [if_pos c8] at H
       have c8b0 : (a0 == 15) = true := beq_iff_eq.mpr c8
       have c8b1 : (a0 != 15) = false := bne_eq_false_iff_eq.mpr c8
       clear c8
       obtain rfl := Option.some.inj H
       go_wp2
       go_ret
       exact ⟨by first | rfl | (simp; done) | (simp [*]; done), by repeat (first | exact aZ.refl _ | apply aZ.step)⟩
      ·rw [if_neg c8] at H
       have c8b0 : (a0 == 15) = false := beq_eq_false_iff_ne.mpr c8
       have c8b1 : (a0 != 15) = true := bne_iff_ne.mpr c8
       by_cases c9 : a0 = 6
       ·rw [if_pos c9] at H
        have c9b0 : (a0 == 6) = true := beq_iff_eq.mpr c9
        have c9b1 : (a0 != 6) = false := bne_eq_false_iff_eq.mpr c9
        clear c9
        obtain rfl := Option.some.inj H
        go_wp2
        go_ret
        exact ⟨by first | rfl | (simp; done) | (simp [*]; done), by repeat (first | exact aZ.refl _ | apply aZ.step)⟩
       ·rw [if_neg c9] at H
        have c9b0 : (a0 == 6) = false := beq_eq_false_iff_ne.mpr c9
        have c9b1 : (a0 != 6) = true := bne_iff_ne.mpr c9
        by_cases c10 : a0 = 16
        ·rw [if_pos c10] at H
         have c10b0 : (a0 == 16) = true := beq_iff_eq.mpr c10
         have c10b1 : (a0 != 16) = false := bne_eq_false_iff_eq.mpr c10
         clear c10
         obtain rfl := Option.some.inj H
         go_wp2
         go_ret
         exact ⟨by first | rfl | (simp; done) | (simp [*]; done), by repeat (first | exact aZ.refl _ | apply aZ.step)⟩
        ·rw [if_neg c10] at H
         have c10b0 : (a0 == 16) = false := beq_eq_false_iff_ne.mpr c10
         have c10b1 : (a0 != 16) = true := bne_iff_ne.mpr c10
         by_cases c11 : a0 = 33
         ·rw [if_pos c11] at H
          have c11b0 : (a0 == 33) = true := beq_iff_eq.mpr c11
          have c11b1 : (a0 != 33) = false := bne_eq_false_iff_eq.mpr c11
          clear c11
          obtain rfl := Option.some.inj H
          go_wp2
          go_ret
          exact ⟨by first | rfl | (simp; done) | (simp [*]; done), by repeat (first | exact aZ.refl _ | apply aZ.step)⟩
         ·rw [if_neg c11] at H
          have c11b0 : (a0 == 33) = false := beq_eq_false_iff_ne.mpr c11
          have c11b1 : (a0 != 33) = true := bne_iff_ne.mpr c11
          obtain rfl := Option.some.inj H
          go_wp2
          go_ret
          exact ⟨by first | rfl | (simp; done) | (simp [*]; done), by repeat (first | exact aZ.refl _ | apply aZ.step)⟩
end Go.Y.PRd
namespace Go.Y.PRd
open Go.Proofs.aj.aD Go.Proofs.aj.aQ Go.Proofs.aj.aW Go.Y.Given
attribute [local go_sem] dQ dP eD eF dJ dI dS dU
def fu.f (a0 : Int) : Option (Bool) := if a0 = 1 then (some true) else (if a0 = 2 then (some true) else (if a0 = 4 then (some true) else (some (a0 == 8))))
theorem fu.calls (a0 : Int) (r : Bool) (w : World) (h : fu.f a0 = some r) :
  Calls Tryz.prog 202 #[.int .i64 a0] w fun e w' => e = .returned (.bool r) ∧ aZ w w' := by
 have H : (if a0 = 1 then (some true) else (if a0 = 2 then (some true) else (if a0 = 4 then (some true) else (some (a0 == 8))))) = some r := h
 clear h
 by_cases c2 : a0 = 1
 ·rw [if_pos c2] at H
  have c2b0 : (a0 == 1) = true := beq_iff_eq.mpr c2
  have c2b1 : (a0 != 1) = false := bne_eq_false_iff_eq.mpr c2
  clear c2
  obtain rfl := Option.some.inj H
  go_enter Tryz.func202, Tryz.ntmps202
  go_wp2
  go_ret
  exact ⟨by rfl, by repeat ((exact aZ.refl _))⟩
 ·rw [if_neg c2] at H
  have c2b0 : (a0 == 1) = false := beq_eq_false_iff_ne.mpr c2
  have c2b1 : (a0 != 1) = true := bne_iff_ne.mpr c2
  by_cases c3 : a0 = 2
  ·rw [if_pos c3] at H
   have c3b0 : (a0 == 2) = true := beq_iff_eq.mpr c3
   have c3b1 : (a0 != 2) = false := bne_eq_false_iff_eq.mpr c3
   clear c3
   obtain rfl := Option.some.inj H
   go_enter Tryz.func202, Tryz.ntmps202
   go_wp2
   go_ret
   exact ⟨by rfl, by repeat ((exact aZ.refl _))⟩
  ·rw [if_neg c3] at H
   have c3b0 : (a0 == 2) = false := beq_eq_false_iff_ne.mpr c3
   have c3b1 : (a0 != 2) = true := bne_iff_ne.mpr c3
   by_cases c4 : a0 = 4
   ·rw [if_pos c4] at H
    have c4b0 : (a0 == 4) = true := beq_iff_eq.mpr c4
    have c4b1 : (a0 != 4) = false := bne_eq_false_iff_eq.mpr c4
    clear c4
    obtain rfl := Option.some.inj H
    go_enter Tryz.func202, Tryz.ntmps202
    go_wp2
    go_ret
    exact ⟨by rfl, by repeat ((exact aZ.refl _))⟩
   ·rw [if_neg c4] at H
    have c4b0 : (a0 == 4) = false := beq_eq_false_iff_ne.mpr c4
    have c4b1 : (a0 != 4) = true := bne_iff_ne.mpr c4
    obtain rfl := Option.some.inj H
    go_enter Tryz.func202, Tryz.ntmps202
    go_wp2
    go_ret
    exact ⟨by rfl, by repeat ((exact aZ.refl _))⟩
def dA.l0 : Nat → ByteArray → Int → Int → Option (Int)
 | 0, _, _, _ => none
 | k + 1, x0, x3, x4 => if x4 < (x0.size : Int) then (if 0 ≤ x4 then (dA.l0 k x0 (IntKind.u64.wrap ((IntKind.u64.wrap (x3 * 256)) + (IntKind.u64.wrap (bt x0 x4)))) (wrap64 (x4 + 1))) else (none)) else (some x3)
def dA.f (k : Nat) (a0 : ByteArray) : Option (Int) := dA.l0 k a0 0 0
theorem dA.calls (k : Nat) (a0 : ByteArray) (r : Int) (w : World) (h : dA.f k a0 = some r) :
    Calls Tryz.prog 126 #[.string a0] w fun e w' => e = .returned (.int .u64 r) ∧ aZ w w' := by
  have H : (dA.l0 k a0 0 0) = some r := h
  clear h
  have H' := ah.mk H
  clear H
  go_enter Tryz.func126, Tryz.ntmps126
  go_wp2
  go_loopg [3, 4] k (fun kq v3 v4 w' => ∃ (x3_1 : Int) (x4_1 : Int), v3 = .int .u64 x3_1 ∧ v4 = .int .i64 x4_1 ∧ ah (dA.l0 kq a0 x3_1 x4_1 = some r) ∧ ah (kq ≤ k) ∧ aZ w w')
  case atStart => exact ⟨(0), (0), (by rfl), (by rfl), H', ⟨Nat.le_refl _⟩, by repeat ((exact aZ.refl _))⟩
  case round =>
   clear H'
   obtain ⟨x3_1, x4_1, rfl, rfl, HA, HK1, ⟨m1, rfl⟩⟩ := hrel
   cases gk with
   | zero => exact absurd HA.out (by simp [dA.l0])
   | succ k1 =>
    have H := HA.out
    clear HA
    simp only [dA.l0] at H
    by_cases c2 : x4_1 < (a0.size : Int)
    ·rw [if_pos c2] at H
     have c2b0 : decide (x4_1 < (a0.size : Int)) = true := decide_eq_true c2
     clear c2
     obtain ⟨c3b0, H⟩ := fq H
     have H' := ah.mk H
     clear H
     have p4 : 0 ≤ (x4_1 : Int) := of_decide_eq_true (by assumption)
     have q4 : x4_1 < (a0.size : Int) := of_decide_eq_true (by assumption)
     have hx4 := mX a0 x4_1
     replace p4 := eq_true p4
     replace q4 := eq_true q4
     go_wp2
     go_roundg k1
     case measure => have := HK1.out; omega
     case rel => exact ⟨(IntKind.u64.wrap ((IntKind.u64.wrap (x3_1 * 256)) + (IntKind.u64.wrap (bt a0 x4_1)))), (wrap64 (x4_1 + 1)), (by rfl), (by rfl), H', ⟨by have := HK1.out; omega⟩, by repeat (first | exact aZ.refl _ | apply aZ.step)⟩
    ·rw [if_neg c2] at H
     have c2b0 : decide (x4_1 < (a0.size : Int)) = false := decide_eq_false c2
     clear c2
     obtain rfl := Option.some.inj H
     go_wp2
     go_ret
     exact ⟨by rfl, by repeat (first | exact aZ.refl _ | apply aZ.step)⟩
def dV.j0 : Nat → ByteArray → Int → Bool → Option (ByteArray × ByteArray × Int)
 | 0, _, _, _ => none
 | k + 1, x0, x1, x14 => if x14 = true then (some ((⟨#[]⟩ : ByteArray), (⟨#[]⟩ : ByteArray), 1)) else (if (x0.size : Int) < x1 then (some ((⟨#[]⟩ : ByteArray), (⟨#[]⟩ : ByteArray), 2)) else (if 0 ≤ x1 then (if x1 ≤ (x0.size : Int) then ((dA.f k (x0.extract 0 (x1 : Int).toNat)).bind fun t220 => (if t220 > (IntKind.u64.wrap (wrap64 ((x0.size : Int) - x1))) then (some ((⟨#[]⟩ : ByteArray), (⟨#[]⟩ : ByteArray), 2)) else (if x1 ≤ (wrap64 (x1 + (wrap64 (t220)))) then (if (wrap64 (x1 + (wrap64 (t220)))) ≤ (x0.size : Int) then (if 0 ≤ (wrap64 (x1 + (wrap64 (t220)))) then (some (x0.extract (x1 : Int).toNat ((wrap64 (x1 + (wrap64 (t220)))) : Int).toNat, x0.extract ((wrap64 (x1 + (wrap64 (t220)))) : Int).toNat x0.size, 0)) else (none)) else (none)) else (none)))) else (none)) else (none)))
def dV.f (k : Nat) (a0 : ByteArray) (a1 : Int) : Option (ByteArray × ByteArray × Int) := (fu.f a1).bind fun t219 => (if t219 = true then (dV.j0 k a0 a1 (a1 == 8)) else (dV.j0 k a0 a1 true))
theorem dV.calls (k : Nat) (a0 : ByteArray) (a1 : Int) (r1 : ByteArray) (r2 : ByteArray) (r3 : Int) (w : World) (h : dV.f k a0 a1 = some (r1, r2, r3)) :
    Calls Tryz.prog 203 #[.string a0, .int .i64 a1] w fun e w' => e = .returned (.tuple #[.string r1, .string r2, .int .i64 r3]) ∧ aZ w w' := by
  have H : ((fu.f a1).bind fun t219 => (if t219 = true then (dV.j0 k a0 a1 (a1 == 8)) else (dV.j0 k a0 a1 true))) = some (r1, r2, r3) := h
  clear h
  have HC3 := ah.mk H
  clear H
  go_enter Tryz.func203, Tryz.ntmps203
  go_upto_region 1 with (fail)
  repeat (go_quiet (fail); go_upto_region 1 with (fail))
  go_cut [14] (fun v14 wc => ∃ (kq : Nat) (x14_2 : Bool), v14 = .bool x14_2 ∧ ah (dV.j0 kq a0 a1 x14_2 = some (r1, r2, r3)) ∧ ah (kq ≤ k) ∧ aZ w wc)
  case first =>
   have H := HC3.out
   clear HC3
   obtain ⟨t219, A4, H⟩ := cK H
   by_cases c5 : t219 = true
   focus
    subst c5
    rw [if_pos rfl] at H
   rotate_left
   focus
    replace c5 := Bool.eq_false_iff.mpr c5
    subst c5
    rw [if_neg ff_] at H
   rotate_left
   all_goals
    have H' := ah.mk H
    clear H
    go_wp2_with (((go_at_call 202; (with_reducible refine (fu.calls a1 _ _ A4.out).mono ?_); rintro e w' ⟨rfl, ⟨nd, rfl⟩⟩)))
    repeat (go_quiet (((go_at_call 202; (with_reducible refine (fu.calls a1 _ _ A4.out).mono ?_); rintro e w' ⟨rfl, ⟨nd, rfl⟩⟩))); try go_wp2_with (((go_at_call 202; (with_reducible refine (fu.calls a1 _ _ A4.out).mono ?_); rintro e w' ⟨rfl, ⟨nd, rfl⟩⟩))))
    go_meet
   ·case rel => exact ⟨_, ((a1 == 8)), (by rfl), H', ⟨by omega⟩, by repeat (first | exact aZ.refl _ | apply aZ.step)⟩
   ·case rel => exact ⟨_, (true), (by rfl), H', ⟨by omega⟩, by repeat (first | exact aZ.refl _ | apply aZ.step)⟩
  case rest =>
   clear HC3
   obtain ⟨kq, x14_2, rfl, HA, HJ2, ⟨mc2, rfl⟩⟩ := hcut
   cases kq with
   | zero => exact absurd HA.out (by simp [dV.j0])
   | succ kj2 =>
    have H := HA.out
    clear HA
    simp only [dV.j0] at H
    by_cases c6 : x14_2 = true
    focus
     subst c6
     rw [if_pos rfl] at H
    rotate_left
    focus
     replace c6 := Bool.eq_false_iff.mpr c6
     subst c6
     rw [if_neg ff_] at H
     by_cases c7 : (a0.size : Int) < a1
     focus
      rw [if_pos c7] at H
      have c7b0 : decide ((a0.size : Int) < a1) = true := decide_eq_true c7
      clear c7
     rotate_left
     focus
      rw [if_neg c7] at H
      have c7b0 : decide ((a0.size : Int) < a1) = false := decide_eq_false c7
      clear c7
      obtain ⟨c8, H⟩ := gd_ H
      have c8b0 := eq_true c8
      have c8b1 : decide (0 ≤ a1) = true := decide_eq_true c8
      clear c8
      obtain ⟨c9, H⟩ := gd_ H
      have c9b0 := eq_true c9
      have c9b1 : decide (a1 ≤ (a0.size : Int)) = true := decide_eq_true c9
      clear c9
      obtain ⟨t220, A10, H⟩ := cK H
      by_cases c11 : t220 > (IntKind.u64.wrap (wrap64 ((a0.size : Int) - a1)))
      focus
       rw [if_pos c11] at H
       have c11b0 : decide ((IntKind.u64.wrap (wrap64 ((a0.size : Int) - a1))) < t220) = true := decide_eq_true c11
       clear c11
      rotate_left
      focus
       rw [if_neg c11] at H
       have c11b0 : decide ((IntKind.u64.wrap (wrap64 ((a0.size : Int) - a1))) < t220) = false := decide_eq_false c11
       clear c11
       have c12b0 := eq_true (of_decide_eq_true (by assumption) : 0 ≤ a1)
       obtain ⟨c13, H⟩ := gd_ H
       have c13b0 := eq_true c13
       have c13b1 : decide (a1 ≤ (wrap64 (a1 + (wrap64 (t220))))) = true := decide_eq_true c13
       obtain ⟨c14, H⟩ := gd_ H
       have c14b0 := eq_true c14
       have c14b1 : decide ((wrap64 (a1 + (wrap64 (t220)))) ≤ (a0.size : Int)) = true := decide_eq_true c14
       obtain ⟨ji15, hji15⟩ : ∃ j_ : Int, (wrap64 (a1 + (wrap64 (t220)))) = j_ := ⟨_, rfl⟩
       rw [hji15] at H
       (try rw [hji15] at c13b0)
       (try rw [hji15] at c13b1)
       (try rw [hji15] at c13)
       (try rw [hji15] at c14b0)
       (try rw [hji15] at c14b1)
       (try rw [hji15] at c14)
       have hji15w : (IntKind.i64.wrap (a1 + (wrap64 (t220)))) = ji15 := (gu _).trans hji15
       obtain ⟨c16, H⟩ := gd_ H
       have c16b0 := eq_true c16
       have c16b1 : decide (0 ≤ (ji15)) = true := decide_eq_true c16
       clear c16
       have c17b0 := eq_true (of_decide_eq_true (by assumption) : (ji15) ≤ (a0.size : Int))
      rotate_left
     rotate_left 2
    rotate_left 3
    all_goals
     simp only [Option.some.injEq, Prod.mk.injEq] at H
     obtain ⟨rfl, rfl, rfl⟩ := H
    ·go_wp2
     repeat (go_quiet (fail); try go_wp2)
     go_ret3
     exact ⟨by rfl, by repeat (first | exact aZ.refl _ | apply aZ.step)⟩
    ·go_wp2
     repeat (go_quiet (fail); try go_wp2)
     go_ret3
     exact ⟨by rfl, by repeat (first | exact aZ.refl _ | apply aZ.step)⟩
    all_goals
     go_wp2_with (((go_at_call 126; (with_reducible refine (dA.calls kj2 (a0.extract 0 (a1 : Int).toNat) t220 _ A10.out).mono ?_); rintro e w' ⟨rfl, ⟨nd, rfl⟩⟩)))
     repeat (go_quiet (((go_at_call 126; (with_reducible refine (dA.calls kj2 (a0.extract 0 (a1 : Int).toNat) t220 _ A10.out).mono ?_); rintro e w' ⟨rfl, ⟨nd, rfl⟩⟩))); try go_wp2_with (((go_at_call 126; (with_reducible refine (dA.calls kj2 (a0.extract 0 (a1 : Int).toNat) t220 _ A10.out).mono ?_); rintro e w' ⟨rfl, ⟨nd, rfl⟩⟩))))
     go_ret3
    ·exact ⟨by rfl, by repeat (first | exact aZ.refl _ | apply aZ.step)⟩
    ·exact ⟨by rfl, by repeat (first | exact aZ.refl _ | apply aZ.step)⟩
mutual
def bD.j0 : Nat → ByteArray → Int → Bool → Option (List ByteArray × Int)
 | 0, _, _, _ => none
 | k + 1, x0, x1, x16 => if x16 = true then (some (([] : List ByteArray), 1)) else (bD.l0 k x0 x1 ([] : List ByteArray))
def bD.l0 : Nat → ByteArray → Int → List ByteArray → Option (List ByteArray × Int)
 | 0, _, _, _ => none
 | k + 1, x0, x1, x6 => if (x0.size : Int) > 0 then ((dV.f k x0 x1).bind fun bt222 => (if bt222.2.2 = 0 then (if x6.length < 8796093022208 then (bD.l0 k bt222.2.1 x1 (x6 ++ [bt222.1])) else (none)) else (some (([] : List ByteArray), bt222.2.2)))) else (some (x6, 0))
end
def bD.f (k : Nat) (a0 : ByteArray) (a1 : Int) : Option (List ByteArray × Int) := (fu.f a1).bind fun t221 => (if t221 = true then (bD.j0 k a0 a1 (a1 == 8)) else (bD.j0 k a0 a1 true))
theorem bD.calls (k : Nat) (a0 : ByteArray) (a1 : Int) (r1 : List ByteArray) (r2 : Int) (w : World) (h : bD.f k a0 a1 = some (r1, r2)) :
    Calls Tryz.prog 167 #[.string a0, .int .i64 a1] w fun e w' => ∃ v0_ : Value, e = .returned (.tuple #[v0_, .int .i64 r2]) ∧ Kd.R Kd.string 9 w' w.heap.size (fun _ => True) v0_ r1 ∧ Below w.heap.size w w' := by
  have HB := ah.mk (Below.refl w.heap.size w)
  have H : ((fu.f a1).bind fun t221 => (if t221 = true then (bD.j0 k a0 a1 (a1 == 8)) else (bD.j0 k a0 a1 true))) = some (r1, r2) := h
  clear h
  have HC3 := ah.mk H
  clear H
  go_enter Tryz.func167, Tryz.ntmps167
  go_upto_region 1 with (fail)
  go_cut [16] (fun v16 wc => ∃ (kq : Nat) (x16_2 : Bool), v16 = .bool x16_2 ∧ ah (bD.j0 kq a0 a1 x16_2 = some (r1, r2)) ∧ ah (kq ≤ k) ∧ ah (Below w.heap.size w wc))
  case first =>
   have H := HC3.out
   clear HC3
   obtain ⟨t221, A4, H⟩ := cK H
   by_cases c5 : t221 = true
   focus
    subst c5
    rw [if_pos rfl] at H
   rotate_left
   focus
    replace c5 := Bool.eq_false_iff.mpr c5
    subst c5
    rw [if_neg ff_] at H
   rotate_left
   all_goals
    have H' := ah.mk H
    clear H
    go_wp2_with (((refine gl_ (some 11) Tryz.func202 #[.int .i64 a1] ?_; (with_reducible refine (fu.calls a1 _ _ A4.out).mono ?_); rintro e w' ⟨rfl, ⟨nd, rfl⟩⟩; refine ⟨_, rfl, ?_⟩)))
    go_meet
   ·case rel => exact ⟨_, ((a1 == 8)), (by rfl), H', ⟨by omega⟩, ⟨by repeat ((with_reducible first | exact HB.out | apply bg))⟩⟩
   ·case rel => exact ⟨_, (true), (by rfl), H', ⟨by omega⟩, ⟨by repeat ((with_reducible first | exact HB.out | apply bg))⟩⟩
  case rest =>
   clear HC3
   obtain ⟨kq, x16_2, rfl, HA, HJ2, HB⟩ := hcut
   cases kq with
   | zero => exact absurd HA.out (by simp [bD.j0])
   | succ kj2 =>
    have H := HA.out
    clear HA
    simp only [bD.j0] at H
    by_cases c6 : x16_2 = true
    ·subst c6
     rw [if_pos rfl] at H
     simp only [Option.some.injEq, Prod.mk.injEq] at H
     obtain ⟨rfl, rfl⟩ := H
     go_wp2
     go_ret2
     exact ⟨_, by rfl, by (exact Kd.fJ _ _ _ _ _), HB.out⟩
    ·replace c6 := Bool.eq_false_iff.mpr c6
     subst c6
     rw [if_neg ff_] at H
     have H' := ah.mk H
     clear H
     go_wp2
     go_loopg [0, 6] kj2 (fun kq v0 v6 w' => ∃ (x0_2 : ByteArray) (x6_2 : List ByteArray), v0 = .string x0_2 ∧ ah (bD.l0 kq x0_2 a1 x6_2 = some (r1, r2)) ∧ ah (kq ≤ kj2) ∧ ah (Kd.R Kd.string 9 w' w.heap.size (fun _ => True) v6 x6_2) ∧ ah (Below w.heap.size w w'))
     case atStart => exact ⟨(a0), (([] : List ByteArray)), (by rfl), H', ⟨Nat.le_refl _⟩, ⟨by (exact Kd.fJ _ _ _ _ _)⟩, ⟨HB.out⟩⟩
     case round =>
      clear H'
      obtain ⟨x0_2, x6_2, rfl, HA, HK2, HO_6, HB⟩ := hrel
      cases gk with
      | zero => exact absurd HA.out (by simp [bD.l0])
      | succ k2 =>
       have H := HA.out
       clear HA
       simp only [bD.l0] at H
       by_cases c7 : (x0_2.size : Int) > 0
       ·rw [if_pos c7] at H
        have c7b0 : decide (0 < (x0_2.size : Int)) = true := decide_eq_true c7
        have c7b1 : decide (0 < x0_2.size) = true := decide_eq_true (by omega)
        clear c7
        replace H := Option.bind_eq_some_iff.mp H
        obtain ⟨⟨t222, t223, t224⟩, A80, H⟩ := H
        replace H : (if t224 = 0 then (if x6_2.length < 8796093022208 then (bD.l0 k2 t223 a1 (x6_2 ++ [t222])) else (none)) else (some (([] : List ByteArray), t224))) = some (r1, r2) := H
        have A8 := ah.mk A80
        clear A80
        by_cases c9 : t224 = 0
        ·rw [if_pos c9] at H
         have c9b0 : (t224 == 0) = true := beq_iff_eq.mpr c9
         have c9b1 : (t224 != 0) = false := bne_eq_false_iff_eq.mpr c9
         clear c9
         obtain ⟨c10, H⟩ := gd_ H
         have LMc10 := ah.mk c10
         clear c10
         obtain ⟨y225, hy225⟩ : ∃ y_ : List ByteArray, y_ = (x6_2 ++ [t222]) := ⟨_, rfl⟩
         replace H : (bD.l0 k2 t223 a1 y225) = some (r1, r2) := by (rw [hy225]; with_reducible exact H)
         have Ny225 := ah.mk hy225
         clear hy225
         have H' := ah.mk H
         clear H
         go_wp2_with (first | (refine gl_ (some 23) Tryz.func203 #[.string x0_2, .int .i64 a1] ?_; (with_reducible refine (dV.calls k2 x0_2 a1 t222 t223 t224 _ A8.out).mono ?_); rintro e w' ⟨rfl, ⟨nd, rfl⟩⟩; refine ⟨_, rfl, ?_⟩) | ((with_reducible refine dX (b := .append) (xs := #[.tmp 30, .tmp 32]) rfl ?_); at_builtin; refine Kd.fO Kd.string (w0 := w) w.heap.size rfl (.tmp 30) (.tmp 32) 45 9 (.string ⟨#[]⟩) 16 rfl Tryz.underlying45 mE rfl (by decide) (by omega) u6 x6_2 t222 [.string t222] (fun _ => True) (fun _ => False) rfl rfl ?aP (fun _ hk => hk.elim) ?aF ?aO ?aB ?aS ?aL ?_; (case aP => exact rfl); (case aB => exact (by repeat ((with_reducible first | exact HB.out | apply bg)))); (case aF => exact (fun _ _ => trivial)); (case aO => exact (by (with_reducible repeat ((apply Kd.jA))); exact HO_6.out)); (case aS => exact (ay (by repeat ((with_reducible first | exact HB.out | apply bg))))); (case aL => have := LMc10.out; omega); intro v226 w11 ho hb hg hat; rw [← Ny225.out] at ho; have n0_ := ah.mk (hb); have n1_ := ah.mk (ho); clear HB; clear HO_6; have HB := n0_; have HO227 := n1_; clear n0_ n1_; clear ho hb hg hat))
         go_roundg k2
         case measure => have := HJ2.out; have := HK2.out; omega
         case rel => exact ⟨(t223), (y225), (by rfl), H', ⟨by have := HJ2.out; have := HK2.out; omega⟩, ⟨by (with_reducible repeat ((apply Kd.bf))); exact HO227.out⟩, ⟨HB.out⟩⟩
        ·rw [if_neg c9] at H
         have c9b0 : (t224 == 0) = false := beq_eq_false_iff_ne.mpr c9
         have c9b1 : (t224 != 0) = true := bne_iff_ne.mpr c9
         simp only [Option.some.injEq, Prod.mk.injEq] at H
         obtain ⟨rfl, rfl⟩ := H
         go_wp2_with (((refine gl_ (some 23) Tryz.func203 #[.string x0_2, .int .i64 a1] ?_; (with_reducible refine (dV.calls k2 x0_2 a1 t222 t223 t224 _ A8.out).mono ?_); rintro e w' ⟨rfl, ⟨nd, rfl⟩⟩; refine ⟨_, rfl, ?_⟩)))
         go_ret2
         exact ⟨_, by rfl, by (exact Kd.fJ _ _ _ _ _), by repeat ((with_reducible first | exact HB.out | apply bg))⟩
       ·rw [if_neg c7] at H
        have c7b0 : decide (0 < (x0_2.size : Int)) = false := decide_eq_false c7
        have c7b1 : decide (0 < x0_2.size) = false := decide_eq_false (by omega)
        clear c7
        simp only [Option.some.injEq, Prod.mk.injEq] at H
        obtain ⟨rfl, rfl⟩ := H
        go_wp2
        go_ret2
        exact ⟨_, by rfl, by (with_reducible repeat ((apply Kd.bf))); exact HO_6.out, HB.out⟩
end Go.Y.PRd
namespace Go.Y.PRd
open Go.Proofs.aj.aD Go.Proofs.aj.aQ Go.Proofs.aj.aW Go.Y.Given
attribute [local go_sem] dQ dP eD eF dJ dI dS dU
mutual
def aG.l0 : Nat → ByteArray → Int → Int → List ByteArray → ByteArray → Int → Option (List ByteArray × Bool)
 | 0, _, _, _, _, _, _ => none
 | k + 1, x0, x1, x2, x10, x11, x12 => if x12 < (x11.size : Int) then (if 0 ≤ x12 then (if (bt x11 x12) = 110 then (aG.j1 k x0 x1 x2 x10 x11 x12 (bt x11 x12) ((bt x11 x12) == 110)) else (aG.j1 k x0 x1 x2 x10 x11 x12 (bt x11 x12) ((bt x11 x12) == 117))) else (none)) else (some (x10, (x1 == x2)))
def aG.j1 : Nat → ByteArray → Int → Int → List ByteArray → ByteArray → Int → Int → Bool → Option (List ByteArray × Bool)
 | 0, _, _, _, _, _, _, _, _ => none
 | k + 1, x0, x1, x2, x10, x11, x12, x32, x38 => if x38 = true then ((bn.f k x0 x1).bind fun bt229 => (if bt229.2.2 = 0 then (if 0 ≤ x12 then (if x12 < (x11.size : Int) then (if (bt x11 x12) = 117 then (if 0 ≤ x1 then (if x1 ≤ bt229.2.1 then (if bt229.2.1 ≤ (x0.size : Int) then (aG.j2 k x0 x2 x10 x11 x12 bt229.1 bt229.2.1 (bt229.1.toList != (x0.extract (x1 : Int).toNat (bt229.2.1 : Int).toNat).toList)) else (none)) else (none)) else (none)) else (aG.j2 k x0 x2 x10 x11 x12 bt229.1 bt229.2.1 false)) else (none)) else (none)) else (aG.j2 k x0 x2 x10 x11 x12 bt229.1 bt229.2.1 true))) else (if x32 = 116 then (if 0 ≤ x1 then (if x1 ≤ (x0.size : Int) then ((bD.f k (x0.extract (x1 : Int).toNat x0.size) 1).bind fun bt235 => (if bt235.2 = 0 then (aG.j3 k x0 x1 x2 x10 x11 x12 ((bt235.1.length : Int) == 0)) else (aG.j3 k x0 x1 x2 x10 x11 x12 true))) else (none)) else (none)) else (if x32 = 111 then (if (wrap64 (x1 + (wrap64 (x2 - x1)))) > x2 then (some (([] : List ByteArray), false)) else (if 0 ≤ x1 then (if x1 ≤ (wrap64 (x1 + (wrap64 (x2 - x1)))) then (if (wrap64 (x1 + (wrap64 (x2 - x1)))) ≤ (x0.size : Int) then (if x10.length < 8796093022208 then (aG.l0 k x0 (wrap64 (x1 + (wrap64 (x2 - x1)))) x2 (x10 ++ [x0.extract (x1 : Int).toNat ((wrap64 (x1 + (wrap64 (x2 - x1)))) : Int).toNat]) x11 (wrap64 (x12 + 1))) else (none)) else (none)) else (none)) else (none))) else (if x32 = 104 then (if (wrap64 (x1 + 16)) > x2 then (some (([] : List ByteArray), false)) else (if 0 ≤ x1 then (if x1 ≤ (wrap64 (x1 + 16)) then (if (wrap64 (x1 + 16)) ≤ (x0.size : Int) then (if x10.length < 8796093022208 then (aG.l0 k x0 (wrap64 (x1 + 16)) x2 (x10 ++ [x0.extract (x1 : Int).toNat ((wrap64 (x1 + 16)) : Int).toNat]) x11 (wrap64 (x12 + 1))) else (none)) else (none)) else (none)) else (none))) else (if 0 ≤ x12 then (if x12 < (x11.size : Int) then (if (wrap64 (x1 + (wrap64 ((wrap64 (bt x11 x12)) - 48)))) > x2 then (some (([] : List ByteArray), false)) else (if 0 ≤ x1 then (if x1 ≤ (wrap64 (x1 + (wrap64 ((wrap64 (bt x11 x12)) - 48)))) then (if (wrap64 (x1 + (wrap64 ((wrap64 (bt x11 x12)) - 48)))) ≤ (x0.size : Int) then (if x10.length < 8796093022208 then (aG.l0 k x0 (wrap64 (x1 + (wrap64 ((wrap64 (bt x11 x12)) - 48)))) x2 (x10 ++ [x0.extract (x1 : Int).toNat ((wrap64 (x1 + (wrap64 ((wrap64 (bt x11 x12)) - 48)))) : Int).toNat]) x11 (wrap64 (x12 + 1))) else (none)) else (none)) else (none)) else (none))) else (none)) else (none)))))
def aG.j2 : Nat → ByteArray → Int → List ByteArray → ByteArray → Int → ByteArray → Int → Bool → Option (List ByteArray × Bool)
 | 0, _, _, _, _, _, _, _, _ => none
 | k + 1, x0, x2, x10, x11, x12, x14, x15, x63 => if x63 = true then (some (([] : List ByteArray), false)) else (if x10.length < 8796093022208 then (aG.l0 k x0 x15 x2 (x10 ++ [x14]) x11 (wrap64 (x12 + 1))) else (none))
def aG.j3 : Nat → ByteArray → Int → Int → List ByteArray → ByteArray → Int → Bool → Option (List ByteArray × Bool)
 | 0, _, _, _, _, _, _, _ => none
 | k + 1, x0, x1, x2, x10, x11, x12, x84 => if x84 = true then (some (([] : List ByteArray), false)) else (if (wrap64 (x1 + (wrap64 (x2 - x1)))) > x2 then (some (([] : List ByteArray), false)) else (if 0 ≤ x1 then (if x1 ≤ (wrap64 (x1 + (wrap64 (x2 - x1)))) then (if (wrap64 (x1 + (wrap64 (x2 - x1)))) ≤ (x0.size : Int) then (if x10.length < 8796093022208 then (aG.l0 k x0 (wrap64 (x1 + (wrap64 (x2 - x1)))) x2 (x10 ++ [x0.extract (x1 : Int).toNat ((wrap64 (x1 + (wrap64 (x2 - x1)))) : Int).toNat]) x11 (wrap64 (x12 + 1))) else (none)) else (none)) else (none)) else (none)))
end
def aG.f (k : Nat) (a0 : ByteArray) (a1 : Int) (a2 : Int) (a3 : Int) : Option (List ByteArray × Bool) := (cO.f k a3).bind fun t228 => (if 0 ≤ a2 then (if a2 ≤ (a0.size : Int) then (aG.l0 k (a0.extract 0 (a2 : Int).toNat) a1 a2 ([] : List ByteArray) t228 0) else (none)) else (none))
theorem aG.calls (k : Nat) (a0 : ByteArray) (a1 : Int) (a2 : Int) (a3 : Int) (r1 : List ByteArray) (r2 : Bool) (w : World) (h : aG.f k a0 a1 a2 a3 = some (r1, r2)) :
    Calls Tryz.prog 125 #[.string a0, .int .i64 a1, .int .i64 a2, .int .i64 a3] w fun e w' => ∃ v0_ : Value, e = .returned (.tuple #[v0_, .bool r2]) ∧ Kd.R Kd.string 9 w' w.heap.size (fun _ => True) v0_ r1 ∧ Below w.heap.size w w' := by
  have HB := ah.mk (Below.refl w.heap.size w)
  have H : ((cO.f k a3).bind fun t228 => (if 0 ≤ a2 then (if a2 ≤ (a0.size : Int) then (aG.l0 k (a0.extract 0 (a2 : Int).toNat) a1 a2 ([] : List ByteArray) t228 0) else (none)) else (none))) = some (r1, r2) := h
  clear h
  obtain ⟨t228, A5, H⟩ := cK H
  obtain ⟨c6, H⟩ := gd_ H
  have c6b0 := eq_true c6
  have c6b1 : decide (0 ≤ a2) = true := decide_eq_true c6
  clear c6
  obtain ⟨c7, H⟩ := gd_ H
  have c7b0 := eq_true c7
  have c7b1 : decide (a2 ≤ (a0.size : Int)) = true := decide_eq_true c7
  clear c7
  have H' := ah.mk H
  clear H
  go_enter Tryz.func125, Tryz.ntmps125
  go_wp2_with ((((with_reducible refine dZ (f := 165) rfl ?_); refine gT (some 20) rfl rfl Tryz.func165 (by kernel_rfl) rfl #[.int .i64 a3] rfl (by (try simp only [mA_, mC_, mN_]); rfl) ?_; (with_reducible refine (cO.calls k a3 t228 _ A5.out).mono ?_); rintro e w' ⟨rfl, ⟨nd, rfl⟩⟩; refine ⟨_, rfl, ?_⟩)))
  go_loopg [1, 10, 12] k (fun kq v1 v10 v12 w' => ∃ (x1_1 : Int) (x10_1 : List ByteArray) (x12_1 : Int), v1 = .int .i64 x1_1 ∧ v12 = .int .i64 x12_1 ∧ ah (aG.l0 kq (a0.extract 0 (a2 : Int).toNat) x1_1 a2 x10_1 t228 x12_1 = some (r1, r2)) ∧ ah (kq ≤ k) ∧ ah (Kd.R Kd.string 9 w' w.heap.size (fun _ => True) v10 x10_1) ∧ ah (Below w.heap.size w w'))
  case atStart => exact ⟨(a1), (([] : List ByteArray)), (0), (by rfl), (by rfl), H', ⟨Nat.le_refl _⟩, ⟨by (exact Kd.fJ _ _ _ _ _)⟩, ⟨by repeat ((with_reducible first | exact HB.out | apply bg))⟩⟩
  case round =>
   clear H'
   (try clear c6b0)
   (try clear c6b1)
   (try clear c7b0)
   (try clear c7b1)
   obtain ⟨x1_1, x10_1, x12_1, rfl, rfl, HA, HK1, HO_10, HB⟩ := hrel
   cases gk with
   | zero => exact absurd HA.out (by simp [aG.l0])
   | succ k1 =>
    have H := HA.out
    clear HA
    simp only [aG.l0] at H
    by_cases c8 : x12_1 < (t228.size : Int)
    ·rw [if_pos c8] at H
     have c8b0 : decide (x12_1 < (t228.size : Int)) = true := decide_eq_true c8
     clear c8
     obtain ⟨c9b0, H⟩ := fq H
     have HC11 := ah.mk H
     clear H
     have p10 : 0 ≤ (x12_1 : Int) := of_decide_eq_true (by assumption)
     have q10 : x12_1 < (t228.size : Int) := of_decide_eq_true (by assumption)
     have hx10 := mX t228 x12_1
     replace p10 := eq_true p10
     replace q10 := eq_true q10
     go_upto_if 38 with (fail)
     go_cut [38] (fun v38 wc => ∃ (kq : Nat) (x38_10 : Bool), v38 = .bool x38_10 ∧ ah (aG.j1 kq (a0.extract 0 (a2 : Int).toNat) x1_1 a2 x10_1 t228 x12_1 (bt t228 x12_1) x38_10 = some (r1, r2)) ∧ ah (kq ≤ k1) ∧ ah (Kd.R Kd.string 9 wc w.heap.size (fun _ => True) u10 x10_1) ∧ ah (Below w.heap.size w wc))
     case first =>
      have H := HC11.out
      clear HC11
      by_cases c12 : (bt t228 x12_1) = 110
      focus
       rw [if_pos c12] at H
       have c12b0 : ((bt t228 x12_1) == 110) = true := beq_iff_eq.mpr c12
       have c12b1 : ((bt t228 x12_1) != 110) = false := bne_eq_false_iff_eq.mpr c12
       clear c12
      rotate_left
      focus
       rw [if_neg c12] at H
       have c12b0 : ((bt t228 x12_1) == 110) = false := beq_eq_false_iff_ne.mpr c12
       have c12b1 : ((bt t228 x12_1) != 110) = true := bne_iff_ne.mpr c12
      rotate_left
      all_goals
       ((rw [c12b0]))
       have H' := ah.mk H
       clear H
       go_wp2
       go_meet
      ·case rel => exact ⟨_, (((bt t228 x12_1) == 110)), (by (simp [*]; done)), H', ⟨by have := HK1.out; omega⟩, ⟨by (with_reducible repeat ((apply Kd.bf))); exact HO_10.out⟩, ⟨HB.out⟩⟩
      ·case rel => exact ⟨_, (((bt t228 x12_1) == 117)), (by rfl), H', ⟨by have := HK1.out; omega⟩, ⟨by (with_reducible repeat ((apply Kd.bf))); exact HO_10.out⟩, ⟨HB.out⟩⟩
     case rest =>
      clear HC11
      (try clear c8b0)
      (try clear c9b0)
      (try clear p10)
      (try clear q10)
      (try clear hx10)
      obtain ⟨kq, x38_10, rfl, HA, HJ10, HO_10, HB⟩ := hcut
      cases kq with
      | zero => exact absurd HA.out (by simp [aG.j1])
      | succ kj10 =>
       have H := HA.out
       clear HA
       simp only [aG.j1] at H
       by_cases c13 : x38_10 = true
       ·subst c13
        rw [if_pos rfl] at H
        replace H := Option.bind_eq_some_iff.mp H
        obtain ⟨⟨t229, t230, t231⟩, A140, H⟩ := H
        replace H : (if t231 = 0 then (if 0 ≤ x12_1 then (if x12_1 < (t228.size : Int) then (if (bt t228 x12_1) = 117 then (if 0 ≤ x1_1 then (if x1_1 ≤ t230 then (if t230 ≤ ((a0.extract 0 (a2 : Int).toNat).size : Int) then (aG.j2 kj10 (a0.extract 0 (a2 : Int).toNat) a2 x10_1 t228 x12_1 t229 t230 (t229.toList != ((a0.extract 0 (a2 : Int).toNat).extract (x1_1 : Int).toNat (t230 : Int).toNat).toList)) else (none)) else (none)) else (none)) else (aG.j2 kj10 (a0.extract 0 (a2 : Int).toNat) a2 x10_1 t228 x12_1 t229 t230 false)) else (none)) else (none)) else (aG.j2 kj10 (a0.extract 0 (a2 : Int).toNat) a2 x10_1 t228 x12_1 t229 t230 true)) = some (r1, r2) := H
        have A14 := ah.mk A140
        clear A140
        have HC15 := ah.mk H
        clear H
        go_upto_region 13 with ((((with_reducible refine dZ (f := 166) rfl ?_); refine gT (some 44) rfl rfl Tryz.func166 (by kernel_rfl) rfl #[.string (a0.extract 0 (a2 : Int).toNat), .int .i64 x1_1] rfl (by (try simp only [mA_, mC_, mN_]); rfl) ?_; (with_reducible refine (bn.calls kj10 (a0.extract 0 (a2 : Int).toNat) x1_1 t229 t230 t231 _ A14.out).mono ?_); rintro e w16 ⟨rfl, hb⟩; refine ⟨_, rfl, ?_⟩; replace HO_10 := ah.mk (Kd.bI (by ((exact HO_10.out))) hb); replace HB := ah.mk (av HB.out hb); (try clear hb))))
        go_cut [63] (fun v63 wc => ∃ (kq : Nat) (x63_14 : Bool), v63 = .bool x63_14 ∧ ah (aG.j2 kq (a0.extract 0 (a2 : Int).toNat) a2 x10_1 t228 x12_1 t229 t230 x63_14 = some (r1, r2)) ∧ ah (kq ≤ kj10) ∧ ah (Kd.R Kd.string 9 wc w.heap.size (fun _ => True) u10 x10_1) ∧ ah (Below w.heap.size w wc))
        case first =>
         have H := HC15.out
         clear HC15
         by_cases c17 : t231 = 0
         focus
          rw [if_pos c17] at H
          have c17b0 : (t231 == 0) = true := beq_iff_eq.mpr c17
          have c17b1 : (t231 != 0) = false := bne_eq_false_iff_eq.mpr c17
          clear c17
         rotate_left
         focus
          rw [if_neg c17] at H
          have c17b0 : (t231 == 0) = false := beq_eq_false_iff_ne.mpr c17
          have c17b1 : (t231 != 0) = true := bne_iff_ne.mpr c17
         rotate_left
         all_goals
          (skip)
         ·obtain ⟨c18b0, H⟩ := fq H
          obtain ⟨c19b0, H⟩ := fq H
          by_cases c21 : (bt t228 x12_1) = 117
          focus
           rw [if_pos c21] at H
           have c21b0 : ((bt t228 x12_1) == 117) = true := beq_iff_eq.mpr c21
           have c21b1 : ((bt t228 x12_1) != 117) = false := bne_eq_false_iff_eq.mpr c21
           clear c21
           obtain ⟨c22, H⟩ := gd_ H
           have c22b0 := eq_true c22
           have c22b1 : decide (0 ≤ x1_1) = true := decide_eq_true c22
           clear c22
           obtain ⟨c23, H⟩ := gd_ H
           have c23b0 := eq_true c23
           have c23b1 : decide (x1_1 ≤ t230) = true := decide_eq_true c23
           clear c23
           obtain ⟨c24, H⟩ := gd_ H
           have c24b0 := eq_true c24
           have c24b1 : decide (t230 ≤ ((a0.extract 0 (a2 : Int).toNat).size : Int)) = true := decide_eq_true c24
           (try have c24b1v := c24b1)
           (try simp only [ByteArray.size_extract, Nat.sub_zero] at c24b1v)
           (try have c24b1w := eq_true (of_decide_eq_true c24b1v))
           clear c24
          rotate_left
          focus
           rw [if_neg c21] at H
           have c21b0 : ((bt t228 x12_1) == 117) = false := beq_eq_false_iff_ne.mpr c21
           have c21b1 : ((bt t228 x12_1) != 117) = true := bne_iff_ne.mpr c21
          rotate_left
          all_goals
           have H' := ah.mk H
           clear H
           have p20 : 0 ≤ (x12_1 : Int) := of_decide_eq_true (by assumption)
           have q20 : x12_1 < (t228.size : Int) := of_decide_eq_true (by assumption)
           have hx20 := mX t228 x12_1
           replace p20 := eq_true p20
           replace q20 := eq_true q20
           go_wp2
           go_meet
          ·case rel => exact ⟨_, ((t229.toList != ((a0.extract 0 (a2 : Int).toNat).extract (x1_1 : Int).toNat (t230 : Int).toNat).toList)), (by rfl), H', ⟨by have := HK1.out; have := HJ10.out; omega⟩, ⟨by (with_reducible repeat ((apply Kd.bf))); exact HO_10.out⟩, ⟨HB.out⟩⟩
          ·case rel => exact ⟨_, (false), (by rfl), H', ⟨by have := HK1.out; have := HJ10.out; omega⟩, ⟨by (with_reducible repeat ((apply Kd.bf))); exact HO_10.out⟩, ⟨HB.out⟩⟩
         ·have H' := ah.mk H
          clear H
          go_wp2
          go_meet
          case rel => exact ⟨_, (true), (by rfl), H', ⟨by have := HK1.out; have := HJ10.out; omega⟩, ⟨by (with_reducible repeat ((apply Kd.bf))); exact HO_10.out⟩, ⟨HB.out⟩⟩
        case rest =>
         clear HC15
         obtain ⟨kq, x63_14, rfl, HA, HJ14, HO_10, HB⟩ := hcut
         cases kq with
         | zero => exact absurd HA.out (by simp [aG.j2])
         | succ kj14 =>
          have H := HA.out
          clear HA
          simp only [aG.j2] at H
          by_cases c25 : x63_14 = true
          ·subst c25
           rw [if_pos rfl] at H
           simp only [Option.some.injEq, Prod.mk.injEq] at H
           obtain ⟨rfl, rfl⟩ := H
           go_wp2
           go_ret2
           exact ⟨_, by rfl, by (exact Kd.fJ _ _ _ _ _), HB.out⟩
          ·replace c25 := Bool.eq_false_iff.mpr c25
           subst c25
           rw [if_neg ff_] at H
           obtain ⟨c26, H⟩ := gd_ H
           have LMc26 := ah.mk c26
           clear c26
           obtain ⟨y232, hy232⟩ : ∃ y_ : List ByteArray, y_ = (x10_1 ++ [t229]) := ⟨_, rfl⟩
           replace H : (aG.l0 kj14 (a0.extract 0 (a2 : Int).toNat) t230 a2 y232 t228 (wrap64 (x12_1 + 1))) = some (r1, r2) := by (rw [hy232]; with_reducible exact H)
           have Ny232 := ah.mk hy232
           clear hy232
           have H' := ah.mk H
           clear H
           go_wp2_with ((((with_reducible refine dX (b := .append) (xs := #[.tmp 64, .tmp 66]) rfl ?_); (try (refine fC (by rfl) ?_; dsimp only)); at_builtin; refine Kd.fO Kd.string (w0 := w) w.heap.size rfl (.tmp 64) (.tmp 66) 45 9 (.string ⟨#[]⟩) 16 rfl Tryz.underlying45 mE rfl (by decide) (by omega) u10 x10_1 t229 [.string t229] (fun _ => True) (fun _ => False) rfl rfl ?aP (fun _ hk => hk.elim) ?aF ?aO ?aB ?aS ?aL ?_; (case aP => exact rfl); (case aB => exact HB.out); (case aF => exact (fun _ _ => trivial)); (case aO => exact (by ((exact HO_10.out)))); (case aS => exact (ay HB.out)); (case aL => have := LMc26.out; omega); intro v233 w27 ho hb hg hat; rw [← Ny232.out] at ho; have n0_ := ah.mk (hb); have n1_ := ah.mk (ho); clear HB; clear HO_10; have HB := n0_; have HO234 := n1_; clear n0_ n1_; clear ho hb hg hat)))
           go_roundg kj14
           case measure => have := HK1.out; have := HJ10.out; have := HJ14.out; omega
           case rel => exact ⟨(t230), (y232), (wrap64 (x12_1 + 1)), (by rfl), (by rfl), H', ⟨by have := HK1.out; have := HJ10.out; have := HJ14.out; omega⟩, ⟨by (with_reducible repeat ((apply Kd.bf))); exact HO234.out⟩, ⟨HB.out⟩⟩
       ·replace c13 := Bool.eq_false_iff.mpr c13
        subst c13
        rw [if_neg ff_] at H
        by_cases c28 : (bt t228 x12_1) = 116
        ·rw [if_pos c28] at H
         have c28b0 : ((bt t228 x12_1) == 116) = true := beq_iff_eq.mpr c28
         have c28b1 : ((bt t228 x12_1) != 116) = false := bne_eq_false_iff_eq.mpr c28
         clear c28
         obtain ⟨c29, H⟩ := gd_ H
         have c29b0 := eq_true c29
         have c29b1 : decide (0 ≤ x1_1) = true := decide_eq_true c29
         clear c29
         obtain ⟨c30, H⟩ := gd_ H
         have c30b0 := eq_true c30
         have c30b1 : decide (x1_1 ≤ ((a0.extract 0 (a2 : Int).toNat).size : Int)) = true := decide_eq_true c30
         (try have c30b1v := c30b1)
         (try simp only [ByteArray.size_extract, Nat.sub_zero] at c30b1v)
         (try have c30b1w := eq_true (of_decide_eq_true c30b1v))
         clear c30
         replace H := Option.bind_eq_some_iff.mp H
         obtain ⟨⟨t235, t236⟩, A310, H⟩ := H
         replace H : (if t236 = 0 then (aG.j3 kj10 (a0.extract 0 (a2 : Int).toNat) x1_1 a2 x10_1 t228 x12_1 ((t235.length : Int) == 0)) else (aG.j3 kj10 (a0.extract 0 (a2 : Int).toNat) x1_1 a2 x10_1 t228 x12_1 true)) = some (r1, r2) := H
         have A31 := ah.mk A310
         clear A310
         have HC32 := ah.mk H
         clear H
         go_upto_region 19 with ((((with_reducible refine dZ (f := 167) rfl ?_); refine gT (some 75) rfl rfl Tryz.func167 (by kernel_rfl) rfl #[.string ((a0.extract 0 (a2 : Int).toNat).extract (x1_1 : Int).toNat (a0.extract 0 (a2 : Int).toNat).size), .int .i64 1] rfl (by (try simp only [List.map_toArray, List.map_cons, List.map_nil]); (simp only [ByteArray.size_extract, Nat.sub_zero]; rfl)) ?_; (with_reducible refine (bD.calls kj10 ((a0.extract 0 (a2 : Int).toNat).extract (x1_1 : Int).toNat (a0.extract 0 (a2 : Int).toNat).size) 1 t235 t236 _ A31.out).mono ?_); rintro e w33 ⟨v237, rfl, ho0, hb⟩; refine ⟨_, rfl, ?_⟩; have HO238 := ah.mk (Kd.bZ (Kd.jI ho0 (Kd.lI (by ((exact HO_10.out))))) (ay HB.out)); replace HO_10 := ah.mk (Kd.iI (by ((exact HO_10.out))) (Kd.jF ho0) hb); replace HB := ah.mk (av HB.out hb); (try clear hb); (try clear ho0))))
         go_cut [84] (fun v84 wc => ∃ (kq : Nat) (x84_31 : Bool), v84 = .bool x84_31 ∧ ah (aG.j3 kq (a0.extract 0 (a2 : Int).toNat) x1_1 a2 x10_1 t228 x12_1 x84_31 = some (r1, r2)) ∧ ah (kq ≤ kj10) ∧ ah (Kd.R Kd.string 9 wc w.heap.size (fun _ => True) u10 x10_1) ∧ ah (Below w.heap.size w wc))
         case first =>
          have H := HC32.out
          clear HC32
          by_cases c34 : t236 = 0
          focus
           rw [if_pos c34] at H
           have c34b0 : (t236 == 0) = true := beq_iff_eq.mpr c34
           have c34b1 : (t236 != 0) = false := bne_eq_false_iff_eq.mpr c34
           clear c34
          rotate_left
          focus
           rw [if_neg c34] at H
           have c34b0 : (t236 == 0) = false := beq_eq_false_iff_ne.mpr c34
           have c34b1 : (t236 != 0) = true := bne_iff_ne.mpr c34
          rotate_left
          all_goals
           (skip)
           have H' := ah.mk H
           clear H
          ·obtain ⟨Ao35, co35, eo35⟩ := Kd.dn HO238.out
           subst eo35
           go_wp2
           go_meet
           case rel => exact ⟨_, (((t235.length : Int) == 0)), (by rfl), H', ⟨by have := HK1.out; have := HJ10.out; omega⟩, ⟨by (with_reducible repeat ((apply Kd.bf))); exact Kd.dx HO_10.out (fun _ hk => trivial)⟩, ⟨HB.out⟩⟩
          ·go_wp2
           go_meet
           case rel => exact ⟨_, (true), (by rfl), H', ⟨by have := HK1.out; have := HJ10.out; omega⟩, ⟨by (with_reducible repeat ((apply Kd.bf))); exact Kd.dx HO_10.out (fun _ hk => trivial)⟩, ⟨HB.out⟩⟩
         case rest =>
          clear HC32
          (try clear c28b0)
          (try clear c28b1)
          (try clear c29b0)
          (try clear c29b1)
          (try clear c30b0)
          (try clear c30b1)
          obtain ⟨kq, x84_31, rfl, HA, HJ31, HO_10, HB⟩ := hcut
          cases kq with
          | zero => exact absurd HA.out (by simp [aG.j3])
          | succ kj31 =>
           have H := HA.out
           clear HA
           simp only [aG.j3] at H
           by_cases c36 : x84_31 = true
           ·subst c36
            rw [if_pos rfl] at H
            simp only [Option.some.injEq, Prod.mk.injEq] at H
            obtain ⟨rfl, rfl⟩ := H
            go_wp2
            go_ret2
            exact ⟨_, by rfl, by (exact Kd.fJ _ _ _ _ _), HB.out⟩
           ·replace c36 := Bool.eq_false_iff.mpr c36
            subst c36
            rw [if_neg ff_] at H
            by_cases c37 : (wrap64 (x1_1 + (wrap64 (a2 - x1_1)))) > a2
            ·rw [if_pos c37] at H
             have c37b0 : decide (a2 < (wrap64 (x1_1 + (wrap64 (a2 - x1_1))))) = true := decide_eq_true c37
             clear c37
             simp only [Option.some.injEq, Prod.mk.injEq] at H
             obtain ⟨rfl, rfl⟩ := H
             go_wp2
             go_ret2
             exact ⟨_, by rfl, by (exact Kd.fJ _ _ _ _ _), HB.out⟩
            ·rw [if_neg c37] at H
             have c37b0 : decide (a2 < (wrap64 (x1_1 + (wrap64 (a2 - x1_1))))) = false := decide_eq_false c37
             clear c37
             obtain ⟨c38, H⟩ := gd_ H
             have c38b0 := eq_true c38
             have c38b1 : decide (0 ≤ x1_1) = true := decide_eq_true c38
             clear c38
             obtain ⟨c39, H⟩ := gd_ H
             have c39b0 := eq_true c39
             have c39b1 : decide (x1_1 ≤ (wrap64 (x1_1 + (wrap64 (a2 - x1_1))))) = true := decide_eq_true c39
             obtain ⟨c40, H⟩ := gd_ H
             have c40b0 := eq_true c40
             have c40b1 : decide ((wrap64 (x1_1 + (wrap64 (a2 - x1_1)))) ≤ ((a0.extract 0 (a2 : Int).toNat).size : Int)) = true := decide_eq_true c40
             (try have c40b1v := c40b1)
             (try simp only [ByteArray.size_extract, Nat.sub_zero] at c40b1v)
             (try have c40b1w := eq_true (of_decide_eq_true c40b1v))
             obtain ⟨c41, H⟩ := gd_ H
             have LMc41 := ah.mk c41
             clear c41
             obtain ⟨y239, hy239⟩ : ∃ y_ : List ByteArray, y_ = (x10_1 ++ [(a0.extract 0 (a2 : Int).toNat).extract (x1_1 : Int).toNat ((wrap64 (x1_1 + (wrap64 (a2 - x1_1)))) : Int).toNat]) := ⟨_, rfl⟩
             replace H : (aG.l0 kj31 (a0.extract 0 (a2 : Int).toNat) (wrap64 (x1_1 + (wrap64 (a2 - x1_1)))) a2 y239 t228 (wrap64 (x12_1 + 1))) = some (r1, r2) := by (rw [hy239]; with_reducible exact H)
             have Ny239 := ah.mk hy239
             clear hy239
             have H' := ah.mk H
             clear H
             go_wp2_with ((((with_reducible refine dX (b := .append) (xs := #[.tmp 100, .tmp 107]) rfl ?_); (try (refine fC (by rfl) ?_; dsimp only)); at_builtin; refine Kd.fO Kd.string (w0 := w) w.heap.size rfl (.tmp 100) (.tmp 107) 45 9 (.string ⟨#[]⟩) 16 rfl Tryz.underlying45 mE rfl (by decide) (by omega) u10 x10_1 ((a0.extract 0 (a2 : Int).toNat).extract (x1_1 : Int).toNat ((wrap64 (x1_1 + (wrap64 (a2 - x1_1)))) : Int).toNat) [.string ((a0.extract 0 (a2 : Int).toNat).extract (x1_1 : Int).toNat ((wrap64 (x1_1 + (wrap64 (a2 - x1_1)))) : Int).toNat)] (fun _ => True) (fun _ => False) rfl rfl ?aP (fun _ hk => hk.elim) ?aF ?aO ?aB ?aS ?aL ?_; (case aP => exact rfl); (case aB => exact HB.out); (case aF => exact (fun _ _ => trivial)); (case aO => exact (by ((exact HO_10.out)))); (case aS => exact (ay HB.out)); (case aL => have := LMc41.out; omega); intro v240 w42 ho hb hg hat; rw [← Ny239.out] at ho; have n0_ := ah.mk (hb); have n1_ := ah.mk (ho); clear HB; clear HO_10; have HB := n0_; have HO241 := n1_; clear n0_ n1_; clear ho hb hg hat)))
             go_roundg kj31
             case measure => have := HK1.out; have := HJ10.out; have := HJ31.out; omega
             case rel => exact ⟨(wrap64 (x1_1 + (wrap64 (a2 - x1_1)))), (y239), (wrap64 (x12_1 + 1)), (by rfl), (by rfl), H', ⟨by have := HK1.out; have := HJ10.out; have := HJ31.out; omega⟩, ⟨by (with_reducible repeat ((apply Kd.bf))); exact HO241.out⟩, ⟨HB.out⟩⟩
        ·rw [if_neg c28] at H
         have c28b0 : ((bt t228 x12_1) == 116) = false := beq_eq_false_iff_ne.mpr c28
         have c28b1 : ((bt t228 x12_1) != 116) = true := bne_iff_ne.mpr c28
         by_cases c43 : (bt t228 x12_1) = 111
         ·rw [if_pos c43] at H
          have c43b0 : ((bt t228 x12_1) == 111) = true := beq_iff_eq.mpr c43
          have c43b1 : ((bt t228 x12_1) != 111) = false := bne_eq_false_iff_eq.mpr c43
          clear c43
          by_cases c44 : (wrap64 (x1_1 + (wrap64 (a2 - x1_1)))) > a2
          ·rw [if_pos c44] at H
           have c44b0 : decide (a2 < (wrap64 (x1_1 + (wrap64 (a2 - x1_1))))) = true := decide_eq_true c44
           clear c44
           simp only [Option.some.injEq, Prod.mk.injEq] at H
           obtain ⟨rfl, rfl⟩ := H
           go_wp2
           go_ret2
           exact ⟨_, by rfl, by (exact Kd.fJ _ _ _ _ _), HB.out⟩
          ·rw [if_neg c44] at H
           have c44b0 : decide (a2 < (wrap64 (x1_1 + (wrap64 (a2 - x1_1))))) = false := decide_eq_false c44
           clear c44
           obtain ⟨c45, H⟩ := gd_ H
           have c45b0 := eq_true c45
           have c45b1 : decide (0 ≤ x1_1) = true := decide_eq_true c45
           clear c45
           obtain ⟨c46, H⟩ := gd_ H
           have c46b0 := eq_true c46
           have c46b1 : decide (x1_1 ≤ (wrap64 (x1_1 + (wrap64 (a2 - x1_1))))) = true := decide_eq_true c46
           obtain ⟨c47, H⟩ := gd_ H
           have c47b0 := eq_true c47
           have c47b1 : decide ((wrap64 (x1_1 + (wrap64 (a2 - x1_1)))) ≤ ((a0.extract 0 (a2 : Int).toNat).size : Int)) = true := decide_eq_true c47
           (try have c47b1v := c47b1)
           (try simp only [ByteArray.size_extract, Nat.sub_zero] at c47b1v)
           (try have c47b1w := eq_true (of_decide_eq_true c47b1v))
           obtain ⟨c48, H⟩ := gd_ H
           have LMc48 := ah.mk c48
           clear c48
           obtain ⟨y242, hy242⟩ : ∃ y_ : List ByteArray, y_ = (x10_1 ++ [(a0.extract 0 (a2 : Int).toNat).extract (x1_1 : Int).toNat ((wrap64 (x1_1 + (wrap64 (a2 - x1_1)))) : Int).toNat]) := ⟨_, rfl⟩
           replace H : (aG.l0 kj10 (a0.extract 0 (a2 : Int).toNat) (wrap64 (x1_1 + (wrap64 (a2 - x1_1)))) a2 y242 t228 (wrap64 (x12_1 + 1))) = some (r1, r2) := by (rw [hy242]; with_reducible exact H)
           have Ny242 := ah.mk hy242
           clear hy242
           have H' := ah.mk H
           clear H
           go_wp2_with ((((with_reducible refine dX (b := .append) (xs := #[.tmp 100, .tmp 107]) rfl ?_); (try (refine fC (by rfl) ?_; dsimp only)); at_builtin; refine Kd.fO Kd.string (w0 := w) w.heap.size rfl (.tmp 100) (.tmp 107) 45 9 (.string ⟨#[]⟩) 16 rfl Tryz.underlying45 mE rfl (by decide) (by omega) u10 x10_1 ((a0.extract 0 (a2 : Int).toNat).extract (x1_1 : Int).toNat ((wrap64 (x1_1 + (wrap64 (a2 - x1_1)))) : Int).toNat) [.string ((a0.extract 0 (a2 : Int).toNat).extract (x1_1 : Int).toNat ((wrap64 (x1_1 + (wrap64 (a2 - x1_1)))) : Int).toNat)] (fun _ => True) (fun _ => False) rfl rfl ?aP (fun _ hk => hk.elim) ?aF ?aO ?aB ?aS ?aL ?_; (case aP => exact rfl); (case aB => exact HB.out); (case aF => exact (fun _ _ => trivial)); (case aO => exact (by ((exact HO_10.out)))); (case aS => exact (ay HB.out)); (case aL => have := LMc48.out; omega); intro v243 w49 ho hb hg hat; rw [← Ny242.out] at ho; have n0_ := ah.mk (hb); have n1_ := ah.mk (ho); clear HB; clear HO_10; have HB := n0_; have HO244 := n1_; clear n0_ n1_; clear ho hb hg hat)))
           go_roundg kj10
           case measure => have := HK1.out; have := HJ10.out; omega
           case rel => exact ⟨(wrap64 (x1_1 + (wrap64 (a2 - x1_1)))), (y242), (wrap64 (x12_1 + 1)), (by rfl), (by rfl), H', ⟨by have := HK1.out; have := HJ10.out; omega⟩, ⟨by (with_reducible repeat ((apply Kd.bf))); exact HO244.out⟩, ⟨HB.out⟩⟩
         ·rw [if_neg c43] at H
          have c43b0 : ((bt t228 x12_1) == 111) = false := beq_eq_false_iff_ne.mpr c43
          have c43b1 : ((bt t228 x12_1) != 111) = true := bne_iff_ne.mpr c43
          by_cases c50 : (bt t228 x12_1) = 104
          ·rw [if_pos c50] at H
           have c50b0 : ((bt t228 x12_1) == 104) = true := beq_iff_eq.mpr c50
           have c50b1 : ((bt t228 x12_1) != 104) = false := bne_eq_false_iff_eq.mpr c50
           clear c50
           by_cases c51 : (wrap64 (x1_1 + 16)) > a2
           ·rw [if_pos c51] at H
            have c51b0 : decide (a2 < (wrap64 (x1_1 + 16))) = true := decide_eq_true c51
            clear c51
            simp only [Option.some.injEq, Prod.mk.injEq] at H
            obtain ⟨rfl, rfl⟩ := H
            go_wp2
            go_ret2
            exact ⟨_, by rfl, by (exact Kd.fJ _ _ _ _ _), HB.out⟩
           ·rw [if_neg c51] at H
            have c51b0 : decide (a2 < (wrap64 (x1_1 + 16))) = false := decide_eq_false c51
            clear c51
            obtain ⟨c52, H⟩ := gd_ H
            have c52b0 := eq_true c52
            have c52b1 : decide (0 ≤ x1_1) = true := decide_eq_true c52
            clear c52
            obtain ⟨c53, H⟩ := gd_ H
            have c53b0 := eq_true c53
            have c53b1 : decide (x1_1 ≤ (wrap64 (x1_1 + 16))) = true := decide_eq_true c53
            obtain ⟨c54, H⟩ := gd_ H
            have c54b0 := eq_true c54
            have c54b1 : decide ((wrap64 (x1_1 + 16)) ≤ ((a0.extract 0 (a2 : Int).toNat).size : Int)) = true := decide_eq_true c54
            (try have c54b1v := c54b1)
            (try simp only [ByteArray.size_extract, Nat.sub_zero] at c54b1v)
            (try have c54b1w := eq_true (of_decide_eq_true c54b1v))
            obtain ⟨c55, H⟩ := gd_ H
            have LMc55 := ah.mk c55
            clear c55
            obtain ⟨y245, hy245⟩ : ∃ y_ : List ByteArray, y_ = (x10_1 ++ [(a0.extract 0 (a2 : Int).toNat).extract (x1_1 : Int).toNat ((wrap64 (x1_1 + 16)) : Int).toNat]) := ⟨_, rfl⟩
            replace H : (aG.l0 kj10 (a0.extract 0 (a2 : Int).toNat) (wrap64 (x1_1 + 16)) a2 y245 t228 (wrap64 (x12_1 + 1))) = some (r1, r2) := by (rw [hy245]; with_reducible exact H)
            have Ny245 := ah.mk hy245
            clear hy245
            have H' := ah.mk H
            clear H
            go_wp2_with ((((with_reducible refine dX (b := .append) (xs := #[.tmp 100, .tmp 107]) rfl ?_); (try (refine fC (by rfl) ?_; dsimp only)); at_builtin; refine Kd.fO Kd.string (w0 := w) w.heap.size rfl (.tmp 100) (.tmp 107) 45 9 (.string ⟨#[]⟩) 16 rfl Tryz.underlying45 mE rfl (by decide) (by omega) u10 x10_1 ((a0.extract 0 (a2 : Int).toNat).extract (x1_1 : Int).toNat ((wrap64 (x1_1 + 16)) : Int).toNat) [.string ((a0.extract 0 (a2 : Int).toNat).extract (x1_1 : Int).toNat ((wrap64 (x1_1 + 16)) : Int).toNat)] (fun _ => True) (fun _ => False) rfl rfl ?aP (fun _ hk => hk.elim) ?aF ?aO ?aB ?aS ?aL ?_; (case aP => exact rfl); (case aB => exact HB.out); (case aF => exact (fun _ _ => trivial)); (case aO => exact (by ((exact HO_10.out)))); (case aS => exact (ay HB.out)); (case aL => have := LMc55.out; omega); intro v246 w56 ho hb hg hat; rw [← Ny245.out] at ho; have n0_ := ah.mk (hb); have n1_ := ah.mk (ho); clear HB; clear HO_10; have HB := n0_; have HO247 := n1_; clear n0_ n1_; clear ho hb hg hat)))
            go_roundg kj10
            case measure => have := HK1.out; have := HJ10.out; omega
            case rel => exact ⟨(wrap64 (x1_1 + 16)), (y245), (wrap64 (x12_1 + 1)), (by rfl), (by rfl), H', ⟨by have := HK1.out; have := HJ10.out; omega⟩, ⟨by (with_reducible repeat ((apply Kd.bf))); exact HO247.out⟩, ⟨HB.out⟩⟩
          ·rw [if_neg c50] at H
           have c50b0 : ((bt t228 x12_1) == 104) = false := beq_eq_false_iff_ne.mpr c50
           have c50b1 : ((bt t228 x12_1) != 104) = true := bne_iff_ne.mpr c50
           obtain ⟨c57b0, H⟩ := fq H
           obtain ⟨c58b0, H⟩ := fq H
           by_cases c60 : (wrap64 (x1_1 + (wrap64 ((wrap64 (bt t228 x12_1)) - 48)))) > a2
           focus
            rw [if_pos c60] at H
            have c60b0 : decide (a2 < (wrap64 (x1_1 + (wrap64 ((wrap64 (bt t228 x12_1)) - 48))))) = true := decide_eq_true c60
            clear c60
            simp only [Option.some.injEq, Prod.mk.injEq] at H
            obtain ⟨rfl, rfl⟩ := H
           rotate_left
           focus
            rw [if_neg c60] at H
            have c60b0 : decide (a2 < (wrap64 (x1_1 + (wrap64 ((wrap64 (bt t228 x12_1)) - 48))))) = false := decide_eq_false c60
            clear c60
            obtain ⟨c61, H⟩ := gd_ H
            have c61b0 := eq_true c61
            have c61b1 : decide (0 ≤ x1_1) = true := decide_eq_true c61
            clear c61
            obtain ⟨c62, H⟩ := gd_ H
            have c62b0 := eq_true c62
            have c62b1 : decide (x1_1 ≤ (wrap64 (x1_1 + (wrap64 ((wrap64 (bt t228 x12_1)) - 48))))) = true := decide_eq_true c62
            obtain ⟨c63, H⟩ := gd_ H
            have c63b0 := eq_true c63
            have c63b1 : decide ((wrap64 (x1_1 + (wrap64 ((wrap64 (bt t228 x12_1)) - 48)))) ≤ ((a0.extract 0 (a2 : Int).toNat).size : Int)) = true := decide_eq_true c63
            (try have c63b1v := c63b1)
            (try simp only [ByteArray.size_extract, Nat.sub_zero] at c63b1v)
            (try have c63b1w := eq_true (of_decide_eq_true c63b1v))
            obtain ⟨c64, H⟩ := gd_ H
            have LMc64 := ah.mk c64
            clear c64
            obtain ⟨y248, hy248⟩ : ∃ y_ : List ByteArray, y_ = (x10_1 ++ [(a0.extract 0 (a2 : Int).toNat).extract (x1_1 : Int).toNat ((wrap64 (x1_1 + (wrap64 ((wrap64 (bt t228 x12_1)) - 48)))) : Int).toNat]) := ⟨_, rfl⟩
            replace H : (aG.l0 kj10 (a0.extract 0 (a2 : Int).toNat) (wrap64 (x1_1 + (wrap64 ((wrap64 (bt t228 x12_1)) - 48)))) a2 y248 t228 (wrap64 (x12_1 + 1))) = some (r1, r2) := by (rw [hy248]; with_reducible exact H)
            have Ny248 := ah.mk hy248
            clear hy248
            have H' := ah.mk H
            clear H
           rotate_left
           all_goals
            have p59 : 0 ≤ (x12_1 : Int) := of_decide_eq_true (by assumption)
            have q59 : x12_1 < (t228.size : Int) := of_decide_eq_true (by assumption)
            have hx59 := mX t228 x12_1
            replace p59 := eq_true p59
            replace q59 := eq_true q59
           ·go_wp2
            go_ret2
            exact ⟨_, by rfl, by (exact Kd.fJ _ _ _ _ _), HB.out⟩
           ·go_wp2_with ((((with_reducible refine dX (b := .append) (xs := #[.tmp 100, .tmp 107]) rfl ?_); (try (refine fC (by rfl) ?_; dsimp only)); at_builtin; refine Kd.fO Kd.string (w0 := w) w.heap.size rfl (.tmp 100) (.tmp 107) 45 9 (.string ⟨#[]⟩) 16 rfl Tryz.underlying45 mE rfl (by decide) (by omega) u10 x10_1 ((a0.extract 0 (a2 : Int).toNat).extract (x1_1 : Int).toNat ((wrap64 (x1_1 + (wrap64 ((wrap64 (bt t228 x12_1)) - 48)))) : Int).toNat) [.string ((a0.extract 0 (a2 : Int).toNat).extract (x1_1 : Int).toNat ((wrap64 (x1_1 + (wrap64 ((wrap64 (bt t228 x12_1)) - 48)))) : Int).toNat)] (fun _ => True) (fun _ => False) rfl rfl ?aP (fun _ hk => hk.elim) ?aF ?aO ?aB ?aS ?aL ?_; (case aP => exact rfl); (case aB => exact HB.out); (case aF => exact (fun _ _ => trivial)); (case aO => exact (by ((exact HO_10.out)))); (case aS => exact (ay HB.out)); (case aL => have := LMc64.out; omega); intro v249 w65 ho hb hg hat; rw [← Ny248.out] at ho; have n0_ := ah.mk (hb); have n1_ := ah.mk (ho); clear HB; clear HO_10; have HB := n0_; have HO250 := n1_; clear n0_ n1_; clear ho hb hg hat)))
            go_roundg kj10
            case measure => have := HK1.out; have := HJ10.out; omega
            case rel => exact ⟨(wrap64 (x1_1 + (wrap64 ((wrap64 (bt t228 x12_1)) - 48)))), (y248), (wrap64 (x12_1 + 1)), (by rfl), (by rfl), H', ⟨by have := HK1.out; have := HJ10.out; omega⟩, ⟨by (with_reducible repeat ((apply Kd.bf))); exact HO250.out⟩, ⟨HB.out⟩⟩
    ·rw [if_neg c8] at H
     have c8b0 : decide (x12_1 < (t228.size : Int)) = false := decide_eq_false c8
     clear c8
     simp only [Option.some.injEq, Prod.mk.injEq] at H
     obtain ⟨rfl, rfl⟩ := H
     go_wp2
     go_ret2
     exact ⟨_, by rfl, by (with_reducible repeat ((apply Kd.bf))); exact HO_10.out, HB.out⟩
end Go.Y.PRd
namespace Go.Y.PRd
open Go.Proofs.aj.aD Go.Proofs.aj.aQ Go.Proofs.aj.aW Go.Y.Given
attribute [local go_sem] dQ dP eD eF dJ dI dS dU
def dN.l0 : Nat → List ByteArray → ByteArray → Int → Option (ByteArray)
 | 0, _, _, _ => none
 | k + 1, x0, x3, x4 => if x4 < (x0.length : Int) then (if 0 ≤ x4 then (if x3.size + (bB ByteArray.empty x0 x4).size ≤ 9223372036854775807 then (dN.l0 k x0 (x3 ++ (bB ByteArray.empty x0 x4)) (wrap64 (x4 + 1))) else (none)) else (none)) else (some x3)
def dN.f (k : Nat) (l0 : List ByteArray) : Option (ByteArray) := dN.l0 k l0 (⟨#[]⟩ : ByteArray) 0
theorem dN.calls (k : Nat) (A0 : Option Addr) (c0 : Nat) (l0 : List ByteArray) (r : ByteArray) (w : World) (hr0 : Kd.C Kd.string w A0 l0.length l0) (hc0 : l0.length ≤ c0) (h : dN.f k l0 = some r) :
    Calls Tryz.prog 194 #[.slice A0 l0.length c0] w fun e w' => e = .returned (.string r) ∧ aZ w w' := by
  have HR0 := ah.mk hr0
  have HC0 := ah.mk hc0
  clear hr0 hc0
  have H : (dN.l0 k l0 (⟨#[]⟩ : ByteArray) 0) = some r := h
  clear h
  have H' := ah.mk H
  clear H
  go_enter Tryz.func194, Tryz.ntmps194
  go_wp2
  go_loopg [3, 4] k (fun kq v3 v4 w' => ∃ (x3_1 : ByteArray) (x4_1 : Int), v3 = .string x3_1 ∧ v4 = .int .i64 x4_1 ∧ ah (dN.l0 kq l0 x3_1 x4_1 = some r) ∧ ah (kq ≤ k) ∧ aZ w w')
  case atStart => exact ⟨((⟨#[]⟩ : ByteArray)), (0), (by rfl), (by rfl), H', ⟨Nat.le_refl _⟩, by repeat ((exact aZ.refl _))⟩
  case round =>
   clear H'
   obtain ⟨x3_1, x4_1, rfl, rfl, HA, HK1, ⟨m1, rfl⟩⟩ := hrel
   cases gk with
   | zero => exact absurd HA.out (by simp [dN.l0])
   | succ k1 =>
    have H := HA.out
    clear HA
    simp only [dN.l0] at H
    by_cases c2 : x4_1 < (l0.length : Int)
    ·rw [if_pos c2] at H
     have c2b0 : decide (x4_1 < (l0.length : Int)) = true := decide_eq_true c2
     clear c2
     obtain ⟨c3b0, H⟩ := fq H
     obtain ⟨c4, H⟩ := gd_ H
     have c4b0 := eq_true c4
     have c4b1 : decide (x3_1.size + (bB ByteArray.empty l0 x4_1).size ≤ 9223372036854775807) = true := decide_eq_true c4
     (try have c4b2 : (9223372036854775807 < x3_1.size + (bB ByteArray.empty l0 x4_1).size) = False := eq_false (Nat.not_lt.2 c4))
     have H' := ah.mk H
     clear H
     have p251 : 0 ≤ (x4_1 : Int) := of_decide_eq_true (by assumption)
     have q251 : x4_1 < (l0.length : Int) := of_decide_eq_true (by assumption)
     obtain ⟨ad251, e251, hx251_0⟩ := Kd.fU HR0.out x4_1 p251 q251
     cases e251
     replace p251 := eq_true p251
     replace q251 := eq_true q251
     go_wp2
     go_roundg k1
     case measure => have := HK1.out; omega
     case rel => exact ⟨(x3_1 ++ (bB ByteArray.empty l0 x4_1)), (wrap64 (x4_1 + 1)), (by rfl), (by rfl), H', ⟨by have := HK1.out; omega⟩, by repeat (first | exact aZ.refl _ | apply aZ.step)⟩
    ·rw [if_neg c2] at H
     have c2b0 : decide (x4_1 < (l0.length : Int)) = false := decide_eq_false c2
     clear c2
     obtain rfl := Option.some.inj H
     go_wp2
     go_ret
     exact ⟨by rfl, by repeat (first | exact aZ.refl _ | apply aZ.step)⟩
def iK.f (k : Nat) (a0 : ByteArray) (a1 : Int) (a2 : Int) (a3 : Int) : Option (ByteArray × Bool) := (aG.f k a0 a1 a2 a3).bind fun bt252 => ((dN.f k bt252.1).bind fun t256 => (if bt252.2 = true then (some (t256, decide ((t256.size : Int) ≤ 65535))) else (some (t256, false))))
theorem iK.calls (k : Nat) (a0 : ByteArray) (a1 : Int) (a2 : Int) (a3 : Int) (r1 : ByteArray) (r2 : Bool) (w : World) (h : iK.f k a0 a1 a2 a3 = some (r1, r2)) :
    Calls Tryz.prog 155 #[.string a0, .int .i64 a1, .int .i64 a2, .int .i64 a3] w fun e w' => e = .returned (.tuple #[.string r1, .bool r2]) ∧ Below w.heap.size w w' := by
  have HB := ah.mk (Below.refl w.heap.size w)
  have H : ((aG.f k a0 a1 a2 a3).bind fun bt252 => ((dN.f k bt252.1).bind fun t256 => (if bt252.2 = true then (some (t256, decide ((t256.size : Int) ≤ 65535))) else (some (t256, false))))) = some (r1, r2) := h
  clear h
  replace H := Option.bind_eq_some_iff.mp H
  obtain ⟨⟨t252, t253⟩, A50, H⟩ := H
  replace H : ((dN.f k t252).bind fun t256 => (if t253 = true then (some (t256, decide ((t256.size : Int) ≤ 65535))) else (some (t256, false)))) = some (r1, r2) := H
  have A5 := ah.mk A50
  clear A50
  obtain ⟨t256, A6, H⟩ := cK H
  by_cases c7 : t253 = true
  focus
   subst c7
   rw [if_pos rfl] at H
  rotate_left
  focus
   replace c7 := Bool.eq_false_iff.mpr c7
   subst c7
   rw [if_neg ff_] at H
  rotate_left
  all_goals
   simp only [Option.some.injEq, Prod.mk.injEq] at H
   obtain ⟨rfl, rfl⟩ := H
   go_enter Tryz.func155, Tryz.ntmps155
   go_wp2_with (first | (refine gl_ (some 18) Tryz.func125 #[.string a0, .int .i64 a1, .int .i64 a2, .int .i64 a3] ?_; (with_reducible refine (aG.calls k a0 a1 a2 a3 t252 _ _ A5.out).mono ?_); rintro e w8 ⟨v254, rfl, ho0, hb⟩; refine ⟨_, rfl, ?_⟩; have HO255 := ah.mk (Kd.bZ ho0 (ay HB.out)); replace HB := ah.mk (av HB.out hb); (try clear hb); (try clear ho0); obtain ⟨Ao9, co9, eo9⟩ := Kd.dn HO255.out; subst eo9) | (refine gl_ (some 22) Tryz.func194 #[.slice Ao9 t252.length co9] ?_; (with_reducible refine (dN.calls k _ _ t252 t256 _ ?side1 ?side2 A6.out).mono ?_); (case side1 => exact (Kd.aV HO255.out).2.2); (case side2 => exact (Kd.aV HO255.out).2.1); rintro e w' ⟨rfl, ⟨nd, rfl⟩⟩; refine ⟨_, rfl, ?_⟩))
   go_ret2
   exact ⟨by rfl, by repeat ((with_reducible first | exact HB.out | apply bg))⟩
def dB.f (k : Nat) (a0 : Int) (a1 : ByteArray) : Option (Bool) := (iK.f k a1 0 (a1.size : Int) a0).bind fun bt257 => (if bt257.2 = true then (some (bt257.1.toList == a1.toList)) else (some false))
theorem dB.calls (k : Nat) (a0 : Int) (a1 : ByteArray) (r : Bool) (w : World) (h : dB.f k a0 a1 = some r) :
    Calls Tryz.prog 117 #[.int .i64 a0, .string a1] w fun e w' => e = .returned (.bool r) ∧ Below w.heap.size w w' := by
  have HB := ah.mk (Below.refl w.heap.size w)
  have H : ((iK.f k a1 0 (a1.size : Int) a0).bind fun bt257 => (if bt257.2 = true then (some (bt257.1.toList == a1.toList)) else (some false))) = some r := h
  clear h
  replace H := Option.bind_eq_some_iff.mp H
  obtain ⟨⟨t257, t258⟩, A30, H⟩ := H
  replace H : (if t258 = true then (some (t257.toList == a1.toList)) else (some false)) = some r := H
  have A3 := ah.mk A30
  clear A30
  by_cases c4 : t258 = true
  focus
   subst c4
   rw [if_pos rfl] at H
  rotate_left
  focus
   replace c4 := Bool.eq_false_iff.mpr c4
   subst c4
   rw [if_neg ff_] at H
  rotate_left
  all_goals
   obtain rfl := Option.some.inj H
   go_enter Tryz.func117, Tryz.ntmps117
   go_wp2_with (((refine gl_ (some 12) Tryz.func155 #[.string a1, .int .i64 0, .int .i64 (a1.size : Int), .int .i64 a0] ?_; (with_reducible refine (iK.calls k a1 0 (a1.size : Int) a0 t257 _ _ A3.out).mono ?_); rintro e w5 ⟨rfl, hb⟩; refine ⟨_, rfl, ?_⟩; replace HB := ah.mk (av HB.out hb); (try clear hb))))
   go_ret
   exact ⟨by rfl, HB.out⟩
def cZ.l0 : Nat → ByteArray → List Int → Int → Option (ByteArray)
 | 0, _, _, _ => none
 | k + 1, x0, x3, x4 => if x4 < (x0.size : Int) then (if 0 ≤ x4 then (if (bt x0 x4) ≥ 65 then (if (bt x0 x4) ≤ 90 then (if x3.length < 140737488355328 then (cZ.l0 k x0 (x3 ++ [((bt x0 x4) + 32) % 256]) (wrap64 (x4 + 1))) else (none)) else (if x3.length < 140737488355328 then (cZ.l0 k x0 (x3 ++ [bt x0 x4]) (wrap64 (x4 + 1))) else (none))) else (if x3.length < 140737488355328 then (cZ.l0 k x0 (x3 ++ [bt x0 x4]) (wrap64 (x4 + 1))) else (none))) else (none)) else (some (strOfNums x3))
def cZ.f (k : Nat) (a0 : ByteArray) : Option (ByteArray) := cZ.l0 k a0 ([] : List Int) 0
theorem cZ.calls (k : Nat) (a0 : ByteArray) (r : ByteArray) (w : World) (h : cZ.f k a0 = some r) :
    Calls Tryz.prog 127 #[.string a0] w fun e w' => e = .returned (.string r) ∧ Below w.heap.size w w' := by
  have HB := ah.mk (Below.refl w.heap.size w)
  have H : (cZ.l0 k a0 ([] : List Int) 0) = some r := h
  clear h
  have H' := ah.mk H
  clear H
  go_enter Tryz.func127, Tryz.ntmps127
  go_wp2
  go_loopg [3, 4] k (fun kq v3 v4 w' => ∃ (x3_1 : List Int) (x4_1 : Int), v4 = .int .i64 x4_1 ∧ ah (cZ.l0 kq a0 x3_1 x4_1 = some r) ∧ ah (kq ≤ k) ∧ ah (Kd.R (Kd.int .u8) 5 w' w.heap.size (fun _ => True) v3 x3_1) ∧ ah (Below w.heap.size w w'))
  case atStart => exact ⟨(([] : List Int)), (0), (by rfl), H', ⟨Nat.le_refl _⟩, ⟨by (exact Kd.fJ _ _ _ _ _)⟩, ⟨HB.out⟩⟩
  case round =>
   clear H'
   obtain ⟨x3_1, x4_1, rfl, HA, HK1, HO_3, HB⟩ := hrel
   cases gk with
   | zero => exact absurd HA.out (by simp [cZ.l0])
   | succ k1 =>
    have H := HA.out
    clear HA
    simp only [cZ.l0] at H
    by_cases c2 : x4_1 < (a0.size : Int)
    ·rw [if_pos c2] at H
     have c2b0 : decide (x4_1 < (a0.size : Int)) = true := decide_eq_true c2
     clear c2
     obtain ⟨c3b0, H⟩ := fq H
     by_cases c5 : (bt a0 x4_1) ≥ 65
     focus
      rw [if_pos c5] at H
      have c5b0 : decide (65 ≤ (bt a0 x4_1)) = true := decide_eq_true c5
      clear c5
      by_cases c6 : (bt a0 x4_1) ≤ 90
      focus
       rw [if_pos c6] at H
       have c6b0 : decide ((bt a0 x4_1) ≤ 90) = true := decide_eq_true c6
      rotate_left
      focus
       rw [if_neg c6] at H
       have c6b0 : decide ((bt a0 x4_1) ≤ 90) = false := decide_eq_false c6
      rotate_left
      all_goals
       clear c6
     rotate_left 2
     focus
      rw [if_neg c5] at H
      have c5b0 : decide (65 ≤ (bt a0 x4_1)) = false := decide_eq_false c5
      clear c5
     rotate_left
     all_goals
      obtain ⟨c7, H⟩ := gd_ H
      have LMc7 := ah.mk c7
      clear c7
     focus
      obtain ⟨y259, hy259⟩ : ∃ y_ : List Int, y_ = (x3_1 ++ [((bt a0 x4_1) + 32) % 256]) := ⟨_, rfl⟩
     rotate_left
     focus
      obtain ⟨y259, hy259⟩ : ∃ y_ : List Int, y_ = (x3_1 ++ [bt a0 x4_1]) := ⟨_, rfl⟩
     rotate_left
     focus
      obtain ⟨y259, hy259⟩ : ∃ y_ : List Int, y_ = (x3_1 ++ [bt a0 x4_1]) := ⟨_, rfl⟩
     rotate_left
     all_goals
      replace H : (cZ.l0 k1 a0 y259 (wrap64 (x4_1 + 1))) = some r := by (rw [hy259]; with_reducible exact H)
      have Ny259 := ah.mk hy259
      clear hy259
      have H' := ah.mk H
      clear H
      have p4 : 0 ≤ (x4_1 : Int) := of_decide_eq_true (by assumption)
      have q4 : x4_1 < (a0.size : Int) := of_decide_eq_true (by assumption)
      have hx4 := mX a0 x4_1
      replace p4 := eq_true p4
      replace q4 := eq_true q4
     focus
      go_wp2_with ((((with_reducible refine dX (b := .append) (xs := #[.tmp 23, .tmp 25]) rfl ?_); at_builtin; refine Kd.fO (Kd.int .u8) (w0 := w) w.heap.size rfl (.tmp 23) (.tmp 25) 133 5 (.int .u8 0) 1 rfl Tryz.underlying133 info5 rfl (by decide) (by omega) u3 x3_1 (((bt a0 x4_1) + 32) % 256) [.int .u8 (((bt a0 x4_1) + 32) % 256)] (fun _ => True) (fun _ => False) rfl rfl ?aP (fun _ hk => hk.elim) ?aF ?aO ?aB ?aS ?aL ?_; (case aP => exact rfl); (case aB => exact HB.out); (case aF => exact (fun _ _ => trivial)); (case aO => exact (by ((exact HO_3.out)))); (case aS => exact (ay HB.out)); (case aL => have := LMc7.out; omega); intro v260 w8 ho hb hg hat; rw [← Ny259.out] at ho; have n0_ := ah.mk (hb); have n1_ := ah.mk (ho); clear HB; clear HO_3; have HB := n0_; have HO261 := n1_; clear n0_ n1_; clear ho hb hg hat)))
     rotate_left
     focus
      go_wp2_with ((((with_reducible refine dX (b := .append) (xs := #[.tmp 23, .tmp 25]) rfl ?_); at_builtin; refine Kd.fO (Kd.int .u8) (w0 := w) w.heap.size rfl (.tmp 23) (.tmp 25) 133 5 (.int .u8 0) 1 rfl Tryz.underlying133 info5 rfl (by decide) (by omega) u3 x3_1 (bt a0 x4_1) [.int .u8 (bt a0 x4_1)] (fun _ => True) (fun _ => False) rfl rfl ?aP (fun _ hk => hk.elim) ?aF ?aO ?aB ?aS ?aL ?_; (case aP => exact rfl); (case aB => exact HB.out); (case aF => exact (fun _ _ => trivial)); (case aO => exact (by ((exact HO_3.out)))); (case aS => exact (ay HB.out)); (case aL => have := LMc7.out; omega); intro v263 w10 ho hb hg hat; rw [← Ny259.out] at ho; have n0_ := ah.mk (hb); have n1_ := ah.mk (ho); clear HB; clear HO_3; have HB := n0_; have HO261 := n1_; clear n0_ n1_; clear ho hb hg hat)))
     rotate_left
     focus
      go_wp2_with ((((with_reducible refine dX (b := .append) (xs := #[.tmp 23, .tmp 25]) rfl ?_); at_builtin; refine Kd.fO (Kd.int .u8) (w0 := w) w.heap.size rfl (.tmp 23) (.tmp 25) 133 5 (.int .u8 0) 1 rfl Tryz.underlying133 info5 rfl (by decide) (by omega) u3 x3_1 (bt a0 x4_1) [.int .u8 (bt a0 x4_1)] (fun _ => True) (fun _ => False) rfl rfl ?aP (fun _ hk => hk.elim) ?aF ?aO ?aB ?aS ?aL ?_; (case aP => exact rfl); (case aB => exact HB.out); (case aF => exact (fun _ _ => trivial)); (case aO => exact (by ((exact HO_3.out)))); (case aS => exact (ay HB.out)); (case aL => have := LMc7.out; omega); intro v266 w12 ho hb hg hat; rw [← Ny259.out] at ho; have n0_ := ah.mk (hb); have n1_ := ah.mk (ho); clear HB; clear HO_3; have HB := n0_; have HO261 := n1_; clear n0_ n1_; clear ho hb hg hat)))
     rotate_left
     all_goals
      go_roundg k1
      case measure => have := HK1.out; omega
      case rel => exact ⟨(y259), (wrap64 (x4_1 + 1)), (by rfl), H', ⟨by have := HK1.out; omega⟩, ⟨by (with_reducible repeat ((apply Kd.bf))); exact HO261.out⟩, ⟨HB.out⟩⟩
    ·rw [if_neg c2] at H
     have c2b0 : decide (x4_1 < (a0.size : Int)) = false := decide_eq_false c2
     clear c2
     obtain rfl := Option.some.inj H
     have hcv13 := oN (P := Tryz.prog) Tryz.underlying133 Tryz.underlying5 Tryz.underlying9 (Kd.ng HO_3.out)
     go_wp2
     go_ret
     exact ⟨by rfl, HB.out⟩
def aH.l0 : Nat → List ByteArray → ByteArray → Int → Option (ByteArray)
 | 0, _, _, _ => none
 | k + 1, x3, x5, x6 => if x6 < (x3.length : Int) then (if 0 ≤ x6 then ((some (([(((bB ByteArray.empty x3 x6).size : Int)) % 256] : List Int) : List Int)).bind fun y273 => ((cZ.f k (bB ByteArray.empty x3 x6)).bind fun t277 => (if (strOfNums y273).size + t277.size ≤ 9223372036854775807 then (if x5.size + ((strOfNums y273) ++ t277).size ≤ 9223372036854775807 then (aH.l0 k x3 (x5 ++ ((strOfNums y273) ++ t277)) (wrap64 (x6 + 1))) else (none)) else (none)))) else (none)) else (if x5.size + 1 ≤ 9223372036854775807 then (some (x5 ++ (⟨#[0]⟩ : ByteArray))) else (none))
def aH.f (k : Nat) (a0 : ByteArray) : Option (ByteArray) := (aN.f k a0).bind fun bt268 => (if bt268.2 = true then (aH.l0 k bt268.1 (⟨#[]⟩ : ByteArray) 0) else (some (⟨#[]⟩ : ByteArray)))
def aH.T8 : Bool × List (List Nat × List Nat) := (true, [([], []), ([], []), ([], []), ([1, 2], [1, 2]), ([3], [3]), ([4], [4]), ([5], [5]), ([6], [6]), ([7], [7]), ([], []), ([], []), ([9, 10], [9, 10]), ([11], [11]), ([12], [12]), ([8, 13], [8, 13]), ([0, 14], [0, 14]), ([15, 13, 0, 1, 2, 3, 4, 5, 6, 7, 8, 9, 10, 11, 12, 13, 14, 15], [0, 15])])
def aH.B8 : List Nat := [0, 0, 0, 6, 14, 30, 62, 126, 254, 0, 0, 1536, 3584, 7680, 16382, 32767, 65535]
theorem aH.Lu : iy .any (opsOf Tryz.f75 8) = aH.T8 := by kernel_rfl
theorem aH.Le : iX aH.T8.2 aH.B8 = true := by kernel_rfl
theorem aH.calls (k : Nat) (a0 : ByteArray) (r : ByteArray) (w : World) (h : aH.f k a0 = some r) :
    Calls Tryz.prog 75 #[.string a0] w fun e w' => e = .returned (.string r) ∧ Below w.heap.size w w' := by
  have HB := ah.mk (Below.refl w.heap.size w)
  have H : ((aN.f k a0).bind fun bt268 => (if bt268.2 = true then (aH.l0 k bt268.1 (⟨#[]⟩ : ByteArray) 0) else (some (⟨#[]⟩ : ByteArray)))) = some r := h
  clear h
  replace H := Option.bind_eq_some_iff.mp H
  obtain ⟨⟨t268, t269⟩, A20, H⟩ := H
  replace H : (if t269 = true then (aH.l0 k t268 (⟨#[]⟩ : ByteArray) 0) else (some (⟨#[]⟩ : ByteArray))) = some r := H
  have A2 := ah.mk A20
  clear A20
  by_cases c3 : t269 = true
  focus
   subst c3
   rw [if_pos rfl] at H
   have H' := ah.mk H
   clear H
  rotate_left
  focus
   replace c3 := Bool.eq_false_iff.mpr c3
   subst c3
   rw [if_neg ff_] at H
   obtain rfl := Option.some.inj H
  rotate_left
  all_goals
   go_enter Tryz.func75, Tryz.ntmps75
   go_wp2_with (((refine gl_ (some 9) Tryz.func115 #[.string a0] ?_; (with_reducible refine (aN.calls k a0 t268 _ _ A2.out).mono ?_); rintro e w4 ⟨v270, rfl, ho0, hb⟩; refine ⟨_, rfl, ?_⟩; have HO271 := ah.mk (Kd.bZ ho0 (ay HB.out)); replace HB := ah.mk (av HB.out hb); (try clear hb); (try clear ho0))))
  ·go_loopg [5, 6] k (fun kq v5 v6 w' => ∃ (x5_1 : ByteArray) (x6_1 : Int), v5 = .string x5_1 ∧ v6 = .int .i64 x6_1 ∧ ah (aH.l0 kq t268 x5_1 x6_1 = some r) ∧ ah (kq ≤ k) ∧ ah (Kd.R Kd.string 9 w' w.heap.size (fun _ => True) v270 t268) ∧ ah (Below w.heap.size w w'))
   case atStart => exact ⟨((⟨#[]⟩ : ByteArray)), (0), (by rfl), (by rfl), H', ⟨Nat.le_refl _⟩, ⟨by (with_reducible repeat ((apply Kd.bf))); exact HO271.out⟩, ⟨HB.out⟩⟩
   case round =>
    clear H'
    obtain ⟨x5_1, x6_1, rfl, rfl, HA, HK1, HO_3, HB⟩ := hrel
    cases gk with
    | zero => exact absurd HA.out (by simp [aH.l0])
    | succ k1 =>
     have H := HA.out
     clear HA
     simp only [aH.l0] at H
     by_cases c5 : x6_1 < (t268.length : Int)
     focus
      rw [if_pos c5] at H
      have c5b0 : decide (x6_1 < (t268.length : Int)) = true := decide_eq_true c5
      clear c5
      obtain ⟨c6b0, H⟩ := fq H
      obtain ⟨y273, hy273⟩ : ∃ y_ : List Int, y_ = (([(((bB ByteArray.empty t268 x6_1).size : Int)) % 256] : List Int)) := ⟨_, rfl⟩
      replace H : ((cZ.f k1 (bB ByteArray.empty t268 x6_1)).bind fun t277 => (if (strOfNums y273).size + t277.size ≤ 9223372036854775807 then (if x5_1.size + ((strOfNums y273) ++ t277).size ≤ 9223372036854775807 then (aH.l0 k1 t268 (x5_1 ++ ((strOfNums y273) ++ t277)) (wrap64 (x6_1 + 1))) else (none)) else (none))) = some r := by (have H2_ := (Option.bind_some _ _).symm.trans H; rw [hy273]; with_reducible exact H2_)
      have Ny273 := ah.mk hy273
      clear hy273
      obtain ⟨t277, A7, H⟩ := cK H
      obtain ⟨c8, H⟩ := gd_ H
      have c8b0 := eq_true c8
      have c8b1 : decide ((strOfNums y273).size + t277.size ≤ 9223372036854775807) = true := decide_eq_true c8
      (try have c8b2 : (9223372036854775807 < (strOfNums y273).size + t277.size) = False := eq_false (Nat.not_lt.2 c8))
      obtain ⟨c9, H⟩ := gd_ H
      have c9b0 := eq_true c9
      have c9b1 : decide (x5_1.size + ((strOfNums y273) ++ t277).size ≤ 9223372036854775807) = true := decide_eq_true c9
      (try have c9b2 : (9223372036854775807 < x5_1.size + ((strOfNums y273) ++ t277).size) = False := eq_false (Nat.not_lt.2 c9))
      (try have c9b3 := c9b2)
      (try simp only [ByteArray.size_append] at c9b3)
      have H' := ah.mk H
      clear H
     rotate_left
     focus
      rw [if_neg c5] at H
      have c5b0 : decide (x6_1 < (t268.length : Int)) = false := decide_eq_false c5
      clear c5
      obtain ⟨c17, H⟩ := gd_ H
      have c17b0 := eq_true c17
      have c17b1 : decide (x5_1.size + 1 ≤ 9223372036854775807) = true := decide_eq_true c17
      (try have c17b2 : (9223372036854775807 < x5_1.size + 1) = False := eq_false (Nat.not_lt.2 c17))
      obtain rfl := Option.some.inj H
     rotate_left
     all_goals
      obtain ⟨Ao10, co10, eo10⟩ := Kd.dn HO_3.out
      subst eo10
     ·try go_wp2
      replace HO_3 := ah.mk (Kd.jG HO_3.out)
      replace HB := ah.mk (eu HB.out)
      have p272 : 0 ≤ (x6_1 : Int) := of_decide_eq_true (by assumption)
      have q272 : x6_1 < (t268.length : Int) := of_decide_eq_true (by assumption)
      obtain ⟨ad272, e272, hx272_0⟩ := Kd.fU (Kd.aV HO_3.out).2.2 x6_1 p272 q272
      cases e272
      replace p272 := eq_true p272
      replace q272 := eq_true q272
      have p276 : 0 ≤ (x6_1 : Int) := of_decide_eq_true (by assumption)
      have q276 : x6_1 < (t268.length : Int) := of_decide_eq_true (by assumption)
      obtain ⟨ad276, e276, hx276_0⟩ := Kd.fU (Kd.aV HO_3.out).2.2 x6_1 p276 q276
      obtain rfl : ad272 = ad276 := (by injection e276)
      replace p276 := eq_true p276
      replace q276 := eq_true q276
      refine jq (n := 17) (S := fun w' => w'.cell? (ad272.add (x6_1).toNat) = some (.string (bB ByteArray.empty t268 x6_1)) ∧ w'.cell? (ad272.add (x6_1).toNat) = some (.string (bB ByteArray.empty t268 x6_1))) (ds := []) (ls 17 0) (by kernel_rfl) rfl rfl ⟨hx272_0, hx276_0⟩ (fun hHeld => ?_); refine iH aH.Lu aH.Le (fun HT_ HW_ => ?_)
      generalize wr.drew = w11 at HO_3 HB hx272_0 hx276_0 hHeld ⊢
      refine td_ [(0, 20), (1, 21), (2, 22), (3, 23), (9, 29), (10, 30), (11, 31)] ?_
      iterate 7 (refine pm_ HT_ ?_)
      refine dn_ ?_
      refine td_ [(4, 24)] ?_
      refine tm_ HT_ HW_ hHeld ?_
      refine dn_ ?_
      refine td_ [(5, 25), (6, 26)] ?_
      iterate 2 (refine pm_ HT_ ?_)
      refine dn_ ?_
      refine td_ [(12, 32)] ?_
      refine tm_ HT_ HW_ hHeld ?_
      refine dn_ ?_
      refine Iy (σ := Value) 3 (ls 17 16383) (fun s_ => [(27, s_), (28, .string (strOfNums y273)), (33, .string t277)]) (fun s_ w' => (w'.cell? (ad272.add (x6_1).toNat) = some (.string (bB ByteArray.empty t268 x6_1)) ∧ w'.cell? (ad272.add (x6_1).toNat) = some (.string (bB ByteArray.empty t268 x6_1))) ∧ (Kd.R (Kd.int .u8) 5 w' w.heap.size (fun _ => True) s_ y273) ∧ (Kd.R Kd.string 9 w' w.heap.size (fun _ => True) (.slice (some ad272) t268.length co10) t268) ∧ (Below w.heap.size w w')) ?_ ?_
      rotate_left
      ·intro hCont
       refine Ie (i := 7) (j := 13) (Ni := some 27) (Nj := some 33) (ls 17 7935) (ls 17 15999) rfl rfl rfl rfl (Fb HT_.out (by kernel_rfl)) (by decide) (by decide) (fun K hK => ?_) (fun K hK => ?_)
       ·skip
        refine Kd.qV (Kd.int .u8) _ 5 ?hg (N := 27) ?hd (xs := ([(((bB ByteArray.empty t268 x6_1).size : Int)) % 256] : List Int)) (inner := [.int .u8 ((((bB ByteArray.empty t268 x6_1).size : Int)) % 256)]) (ok := fun _ => True) (okp := fun _ => True) ?hr ?hp (fun _ hk => hk) trivial (Below.refl _ _) (Nat.le_refl _) (by simp) ?_; (case hd => rfl); (case hg => rfl); (case hr => (go_simp; rfl)); (case hp => exact (bQ.one (show Kd.M (Kd.int .u8) _ _ _ ((((bB ByteArray.empty t268 x6_1).size : Int)) % 256) [.int .u8 ((((bB ByteArray.empty t268 x6_1).size : Int)) % 256)] from rfl) (bQ.none _ _)))
        intro v274 w12 ho13 hb hg_ hnew_
        have HS0_ := kp_ hb hHeld.1
        have HS1_ := kp_ hb hHeld.2
        clear hg_ hnew_
        ((rw [← Ny273.out] at ho13))
        have HO275 := ah.mk (Kd.bZ ho13 (ay HB.out))
        replace HO_3 := ah.mk (Kd.bI (by ((exact HO_3.out))) hb)
        replace HB := ah.mk (av HB.out hb)
        clear hb ho13
        refine hK.out _ _ ⟨HS0_, HS1_⟩ (fun hHeld => ?_)
        clear hK K
        refine nm_ (N := (some 27)) ?_
        refine Ie (i := 8) (j := 13) (Ni := some 28) (Nj := some 33) (ls 17 8191) (ls 17 16127) rfl rfl rfl rfl (Fb HT_.out (by kernel_rfl)) (by decide) (by decide) (fun K hK => ?_) (fun K hK => ?_)
        ·skip
         have hcv14 := oN (P := Tryz.prog) Tryz.underlying133 Tryz.underlying5 Tryz.underlying9 (Kd.ng HO275.out)
         refine zN (w1 := ?_) (v := ?_) (by rfl) rfl ?_ ?_
         rotate_left 2
         ·go_simp
          constructor
          ·rfl
          ·rfl
         clear hcv14
         refine hK.out _ _ ⟨hHeld.1, hHeld.2⟩ (fun hHeld => ?_)
         clear hK K
         refine nm_ (N := (some 28)) ?_
         refine jO HT_ (i := 13) (N := some 33) (ls 17 16383) (fun K hK => ?_)
         refine gs_ Tryz.func127 #[.string (bB ByteArray.empty t268 x6_1)] ?_
         with_reducible refine (cZ.calls k1 (bB ByteArray.empty t268 x6_1) t277 _ A7.out).mono ?_
         rintro e w15 ⟨rfl, hb⟩
         have HS0_ := kp_ hb hHeld.1
         have HS1_ := kp_ hb hHeld.2
         refine ⟨_, rfl, ?_⟩
         replace HO_3 := ah.mk (Kd.bI (by ((exact HO_3.out))) hb)
         replace HO275 := ah.mk (Kd.bI (by ((exact HO275.out))) hb)
         replace HB := ah.mk (av HB.out hb)
         (try clear hb)
         refine hK.out _ _ ⟨HS0_, HS1_⟩ (fun hHeld => ?_)
         clear hK K
         refine nm_ (N := (some 33)) ?_
         exact oO (by simp only [mK, Act.put, List.setIfInBounds_toArray, List.set_cons_zero, List.set_cons_succ]) (hCont (v274) _ ⟨hHeld, (by ((exact HO275.out))), (by ((exact HO_3.out))), HB.out⟩)
        ·skip
         refine gs_ Tryz.func127 #[.string (bB ByteArray.empty t268 x6_1)] ?_
         with_reducible refine (cZ.calls k1 (bB ByteArray.empty t268 x6_1) t277 _ A7.out).mono ?_
         rintro e w14 ⟨rfl, hb⟩
         have HS0_ := kp_ hb hHeld.1
         have HS1_ := kp_ hb hHeld.2
         refine ⟨_, rfl, ?_⟩
         replace HO_3 := ah.mk (Kd.bI (by ((exact HO_3.out))) hb)
         replace HO275 := ah.mk (Kd.bI (by ((exact HO275.out))) hb)
         replace HB := ah.mk (av HB.out hb)
         (try clear hb)
         refine hK.out _ _ ⟨HS0_, HS1_⟩ (fun hHeld => ?_)
         clear hK K
         refine nm_ (N := (some 33)) ?_
         refine jO HT_ (i := 8) (N := some 28) (ls 17 16383) (fun K hK => ?_)
         have hcv15 := oN (P := Tryz.prog) Tryz.underlying133 Tryz.underlying5 Tryz.underlying9 (Kd.ng HO275.out)
         refine zN (w1 := ?_) (v := ?_) (by rfl) rfl ?_ ?_
         rotate_left 2
         ·go_simp
          constructor
          ·rfl
          ·rfl
         clear hcv15
         refine hK.out _ _ ⟨hHeld.1, hHeld.2⟩ (fun hHeld => ?_)
         clear hK K
         refine nm_ (N := (some 28)) ?_
         exact oO (by simp only [mK, Act.put, List.setIfInBounds_toArray, List.set_cons_zero, List.set_cons_succ]) (hCont (v274) _ ⟨hHeld, (by ((exact HO275.out))), (by ((exact HO_3.out))), HB.out⟩)
       ·skip
        refine gs_ Tryz.func127 #[.string (bB ByteArray.empty t268 x6_1)] ?_
        with_reducible refine (cZ.calls k1 (bB ByteArray.empty t268 x6_1) t277 _ A7.out).mono ?_
        rintro e w12 ⟨rfl, hb⟩
        have HS0_ := kp_ hb hHeld.1
        have HS1_ := kp_ hb hHeld.2
        refine ⟨_, rfl, ?_⟩
        replace HO_3 := ah.mk (Kd.bI (by ((exact HO_3.out))) hb)
        replace HB := ah.mk (av HB.out hb)
        (try clear hb)
        refine hK.out _ _ ⟨HS0_, HS1_⟩ (fun hHeld => ?_)
        clear hK K
        refine nm_ (N := (some 33)) ?_
        refine jO HT_ (i := 7) (N := some 27) (ls 17 16127) (fun K hK => ?_)
        refine Kd.qV (Kd.int .u8) _ 5 ?hg (N := 27) ?hd (xs := ([(((bB ByteArray.empty t268 x6_1).size : Int)) % 256] : List Int)) (inner := [.int .u8 ((((bB ByteArray.empty t268 x6_1).size : Int)) % 256)]) (ok := fun _ => True) (okp := fun _ => True) ?hr ?hp (fun _ hk => hk) trivial (Below.refl _ _) (Nat.le_refl _) (by simp) ?_; (case hd => rfl); (case hg => rfl); (case hr => (go_simp; rfl)); (case hp => exact (bQ.one (show Kd.M (Kd.int .u8) _ _ _ ((((bB ByteArray.empty t268 x6_1).size : Int)) % 256) [.int .u8 ((((bB ByteArray.empty t268 x6_1).size : Int)) % 256)] from rfl) (bQ.none _ _)))
        intro v274 w13 ho14 hb hg_ hnew_
        have HS0_ := kp_ hb hHeld.1
        have HS1_ := kp_ hb hHeld.2
        clear hg_ hnew_
        ((rw [← Ny273.out] at ho14))
        have HO275 := ah.mk (Kd.bZ ho14 (ay HB.out))
        replace HO_3 := ah.mk (Kd.bI (by ((exact HO_3.out))) hb)
        replace HB := ah.mk (av HB.out hb)
        clear hb ho14
        refine hK.out _ _ ⟨HS0_, HS1_⟩ (fun hHeld => ?_)
        clear hK K
        refine nm_ (N := (some 27)) ?_
        refine jO HT_ (i := 8) (N := some 28) (ls 17 16383) (fun K hK => ?_)
        have hcv15 := oN (P := Tryz.prog) Tryz.underlying133 Tryz.underlying5 Tryz.underlying9 (Kd.ng HO275.out)
        refine zN (w1 := ?_) (v := ?_) (by rfl) rfl ?_ ?_
        rotate_left 2
        ·go_simp
         constructor
         ·rfl
         ·rfl
        clear hcv15
        refine hK.out _ _ ⟨hHeld.1, hHeld.2⟩ (fun hHeld => ?_)
        clear hK K
        refine nm_ (N := (some 28)) ?_
        exact oO (by simp only [mK, Act.put, List.setIfInBounds_toArray, List.set_cons_zero, List.set_cons_succ]) (hCont (v274) _ ⟨hHeld, (by ((exact HO275.out))), (by ((exact HO_3.out))), HB.out⟩)
      rintro v274 w16 ⟨hS_, h0_, h1_, h2_⟩
      have n0_ : ah (Kd.R (Kd.int .u8) 5 w16 w.heap.size (fun _ => True) v274 y273) := ⟨h0_⟩
      have n1_ : ah (Kd.R Kd.string 9 w16 w.heap.size (fun _ => True) (.slice (some ad272) t268.length co10) t268) := ⟨h1_⟩
      have n2_ : ah (Below w.heap.size w w16) := ⟨h2_⟩
      clear HO_3
      clear HB
      clear h0_ h1_ h2_
      have HO275 := n0_
      have HO_3 := n1_
      have HB := n2_
      clear n0_ n1_ n2_
      have hHeld : w16.cell? (ad272.add (x6_1).toNat) = some (.string (bB ByteArray.empty t268 x6_1)) ∧ w16.cell? (ad272.add (x6_1).toNat) = some (.string (bB ByteArray.empty t268 x6_1)) := hS_
      refine oO (a' := ?_) ?_ ?_
      rotate_left
      ·simp only [mK, Act.put, List.setIfInBounds_toArray, List.set_cons_zero, List.set_cons_succ]
       rfl
      refine td_ [(14, 34), (15, 35), (16, 5)] ?_
      iterate 3 (refine pm_ HT_ ?_)
      refine dn_ ?_
      refine mV (mg HT_.out (by kernel_rfl)) ?_
      (try go_wp2)
      go_roundg k1
      case measure => have := HK1.out; omega
      case rel => exact ⟨(x5_1 ++ ((strOfNums y273) ++ t277)), (wrap64 (x6_1 + 1)), (by rfl), (by rfl), H', ⟨by have := HK1.out; omega⟩, ⟨by (with_reducible repeat ((apply Kd.bf))); exact HO_3.out⟩, ⟨HB.out⟩⟩
     ·go_wp2
      go_ret
      exact ⟨by rfl, HB.out⟩
  ·go_ret
   exact ⟨by rfl, HB.out⟩
end Go.Y.PRd
namespace Go.Y.PRd
open Go.Proofs.aj.aD Go.Proofs.aj.aQ Go.Proofs.aj.aW Go.Y.Given
attribute [local go_sem] dQ dP eD eF dJ dI dS dU
def dD.l0 : Nat → List ByteArray → ByteArray → ByteArray → Int → Option (ByteArray)
 | 0, _, _, _, _ => none
 | k + 1, x5, x7, x8, x9 => if x9 < (x5.length : Int) then (if 0 ≤ x9 then (if x9 < (x7.size : Int) then (if (bt x7 x9) = 110 then ((aH.f k (bB ByteArray.empty x5 x9)).bind fun t285 => (if x8.size + t285.size ≤ 9223372036854775807 then (dD.l0 k x5 x7 (x8 ++ t285) (wrap64 (x9 + 1))) else (none))) else (if (bt x7 x9) = 117 then ((aH.f k (bB ByteArray.empty x5 x9)).bind fun t287 => (if x8.size + t287.size ≤ 9223372036854775807 then (dD.l0 k x5 x7 (x8 ++ t287) (wrap64 (x9 + 1))) else (none))) else (if x8.size + (bB ByteArray.empty x5 x9).size ≤ 9223372036854775807 then (dD.l0 k x5 x7 (x8 ++ (bB ByteArray.empty x5 x9)) (wrap64 (x9 + 1))) else (none)))) else (none)) else (none)) else (some x8)
def dD.f (k : Nat) (a0 : Int) (a1 : ByteArray) : Option (ByteArray) := (dB.f k a0 a1).bind fun t278 => (if t278 = true then ((aG.f k a1 0 (a1.size : Int) a0).bind fun bt279 => ((cO.f k a0).bind fun t283 => (dD.l0 k bt279.1 t283 (⟨#[]⟩ : ByteArray) 0))) else (some (⟨#[]⟩ : ByteArray)))
theorem dD.calls (k : Nat) (a0 : Int) (a1 : ByteArray) (r : ByteArray) (w : World) (h : dD.f k a0 a1 = some r) :
    Calls Tryz.prog 178 #[.int .i64 a0, .string a1] w fun e w' => e = .returned (.string r) ∧ Below w.heap.size w w' := by
  have HB := ah.mk (Below.refl w.heap.size w)
  have H : ((dB.f k a0 a1).bind fun t278 => (if t278 = true then ((aG.f k a1 0 (a1.size : Int) a0).bind fun bt279 => ((cO.f k a0).bind fun t283 => (dD.l0 k bt279.1 t283 (⟨#[]⟩ : ByteArray) 0))) else (some (⟨#[]⟩ : ByteArray)))) = some r := h
  clear h
  obtain ⟨t278, A3, H⟩ := cK H
  by_cases c4 : t278 = true
  ·subst c4
   rw [if_pos rfl] at H
   replace H := Option.bind_eq_some_iff.mp H
   obtain ⟨⟨t279, t280⟩, A50, H⟩ := H
   replace H : ((cO.f k a0).bind fun t283 => (dD.l0 k t279 t283 (⟨#[]⟩ : ByteArray) 0)) = some r := H
   have A5 := ah.mk A50
   clear A50
   obtain ⟨t283, A6, H⟩ := cK H
   have H' := ah.mk H
   clear H
   go_enter Tryz.func178, Tryz.ntmps178
   go_wp2_with (first | ((with_reducible refine dZ (f := 117) rfl ?_); refine gT (some 12) rfl rfl Tryz.func117 (by kernel_rfl) rfl #[.int .i64 a0, .string a1] rfl (by (try simp only [mA_, mC_, mN_]); rfl) ?_; (with_reducible refine (dB.calls k a0 a1 _ _ A3.out).mono ?_); rintro e w7 ⟨rfl, hb⟩; refine ⟨_, rfl, ?_⟩; replace HB := ah.mk (av HB.out hb); (try clear hb)) | ((with_reducible refine dZ (f := 125) rfl ?_); refine gT (some 19) rfl rfl Tryz.func125 (by kernel_rfl) rfl #[.string a1, .int .i64 0, .int .i64 (a1.size : Int), .int .i64 a0] rfl (by (try simp only [mA_, mC_, mN_]); rfl) ?_; (with_reducible refine (aG.calls k a1 0 (a1.size : Int) a0 t279 t280 _ A5.out).mono ?_); rintro e w8 ⟨v281, rfl, ho0, hb⟩; refine ⟨_, rfl, ?_⟩; have HO282 := ah.mk (Kd.bZ ho0 (ay HB.out)); replace HB := ah.mk (av HB.out hb); (try clear hb); (try clear ho0)) | ((with_reducible refine dZ (f := 165) rfl ?_); refine gT (some 23) rfl rfl Tryz.func165 (by kernel_rfl) rfl #[.int .i64 a0] rfl (by (try simp only [mA_, mC_, mN_]); rfl) ?_; (with_reducible refine (cO.calls k a0 t283 _ A6.out).mono ?_); rintro e w' ⟨rfl, ⟨nd, rfl⟩⟩; refine ⟨_, rfl, ?_⟩))
   go_loopg [8, 9] k (fun kq v8 v9 w' => ∃ (x8_1 : ByteArray) (x9_1 : Int), v8 = .string x8_1 ∧ v9 = .int .i64 x9_1 ∧ ah (dD.l0 kq t279 t283 x8_1 x9_1 = some r) ∧ ah (kq ≤ k) ∧ ah (Kd.R Kd.string 9 w' w.heap.size (fun _ => True) v281 t279) ∧ ah (Below w.heap.size w w'))
   case atStart => exact ⟨((⟨#[]⟩ : ByteArray)), (0), (by rfl), (by rfl), H', ⟨Nat.le_refl _⟩, ⟨by (with_reducible repeat ((apply Kd.jA))); exact HO282.out⟩, ⟨by repeat ((with_reducible first | exact HB.out | apply bg))⟩⟩
   case round =>
    clear H'
    obtain ⟨x8_1, x9_1, rfl, rfl, HA, HK1, HO_5, HB⟩ := hrel
    cases gk with
    | zero => exact absurd HA.out (by simp [dD.l0])
    | succ k1 =>
     have H := HA.out
     clear HA
     simp only [dD.l0] at H
     by_cases c9 : x9_1 < (t279.length : Int)
     focus
      rw [if_pos c9] at H
      have c9b0 : decide (x9_1 < (t279.length : Int)) = true := decide_eq_true c9
      clear c9
      obtain ⟨c10b0, H⟩ := fq H
      obtain ⟨c11b0, H⟩ := fq H
      by_cases c13 : (bt t283 x9_1) = 110
      focus
       rw [if_pos c13] at H
       have c13b0 : ((bt t283 x9_1) == 110) = true := beq_iff_eq.mpr c13
       have c13b1 : ((bt t283 x9_1) != 110) = false := bne_eq_false_iff_eq.mpr c13
       clear c13
       obtain ⟨t285, A14, H⟩ := cK H
       obtain ⟨c15, H⟩ := gd_ H
       have c15b0 := eq_true c15
       have c15b1 : decide (x8_1.size + t285.size ≤ 9223372036854775807) = true := decide_eq_true c15
       (try have c15b2 : (9223372036854775807 < x8_1.size + t285.size) = False := eq_false (Nat.not_lt.2 c15))
      rotate_left
      focus
       rw [if_neg c13] at H
       have c13b0 : ((bt t283 x9_1) == 110) = false := beq_eq_false_iff_ne.mpr c13
       have c13b1 : ((bt t283 x9_1) != 110) = true := bne_iff_ne.mpr c13
       by_cases c19 : (bt t283 x9_1) = 117
       focus
        rw [if_pos c19] at H
        have c19b0 : ((bt t283 x9_1) == 117) = true := beq_iff_eq.mpr c19
        have c19b1 : ((bt t283 x9_1) != 117) = false := bne_eq_false_iff_eq.mpr c19
        clear c19
        obtain ⟨t287, A20, H⟩ := cK H
        obtain ⟨c21, H⟩ := gd_ H
        have c21b0 := eq_true c21
        have c21b1 : decide (x8_1.size + t287.size ≤ 9223372036854775807) = true := decide_eq_true c21
        (try have c21b2 : (9223372036854775807 < x8_1.size + t287.size) = False := eq_false (Nat.not_lt.2 c21))
       rotate_left
       focus
        rw [if_neg c19] at H
        have c19b0 : ((bt t283 x9_1) == 117) = false := beq_eq_false_iff_ne.mpr c19
        have c19b1 : ((bt t283 x9_1) != 117) = true := bne_iff_ne.mpr c19
        obtain ⟨c24, H⟩ := gd_ H
        have c24b0 := eq_true c24
        have c24b1 : decide (x8_1.size + (bB ByteArray.empty t279 x9_1).size ≤ 9223372036854775807) = true := decide_eq_true c24
        (try have c24b2 : (9223372036854775807 < x8_1.size + (bB ByteArray.empty t279 x9_1).size) = False := eq_false (Nat.not_lt.2 c24))
       rotate_left
      rotate_left 2
      all_goals
       have H' := ah.mk H
       clear H
     rotate_left 3
     focus
      rw [if_neg c9] at H
      have c9b0 : decide (x9_1 < (t279.length : Int)) = false := decide_eq_false c9
      clear c9
      obtain rfl := Option.some.inj H
     rotate_left
     all_goals
      obtain ⟨Ao16, co16, eo16⟩ := Kd.dn HO_5.out
      subst eo16
     iterate 3
      focus
       have p12 : 0 ≤ (x9_1 : Int) := of_decide_eq_true (by (with_reducible assumption))
       have q12 : x9_1 < (t283.size : Int) := of_decide_eq_true (by (with_reducible assumption))
       have hx12 := mX t283 x9_1
       replace p12 := eq_true p12
       replace q12 := eq_true q12
       have p284 : 0 ≤ (x9_1 : Int) := of_decide_eq_true (by (with_reducible assumption))
      rotate_left
     rotate_left
     rotate_left
     iterate 2
      focus
       have q18 : x9_1 < (t283.size : Int) := of_decide_eq_true (by (with_reducible assumption))
       have hx18 := mX t283 x9_1
       replace p284 := eq_true p284
       replace q18 := eq_true q18
       have p286 : 0 ≤ (x9_1 : Int) := of_decide_eq_true (by (with_reducible assumption))
      rotate_left
     rotate_left
     iterate 3
      focus
       have q284 : x9_1 < (t279.length : Int) := of_decide_eq_true (by (with_reducible assumption))
      rotate_left
     rotate_left
     ·obtain ⟨ad284, e284, hx284_0⟩ := Kd.fU (Kd.aV HO_5.out).2.2 x9_1 p284 q284
      cases e284
      replace p284 := eq_true p284
      replace q284 := eq_true q284
      go_wp2_with ((((with_reducible refine dZ (f := 75) rfl ?_); refine gT (some 45) rfl rfl Tryz.func75 (by kernel_rfl) rfl #[.string (bB ByteArray.empty t279 x9_1)] rfl (by (try simp only [mA_, mC_, mN_]); rfl) ?_; (with_reducible refine (aH.calls k1 (bB ByteArray.empty t279 x9_1) t285 _ A14.out).mono ?_); rintro e w17 ⟨rfl, hb⟩; refine ⟨_, rfl, ?_⟩; replace HO_5 := ah.mk (Kd.bI (by (with_reducible repeat ((apply Kd.bf))); exact HO_5.out) hb); replace HB := ah.mk (av HB.out hb); (try clear hb))))
      go_roundg k1
      case measure => have := HK1.out; omega
      case rel => exact ⟨(x8_1 ++ t285), (wrap64 (x9_1 + 1)), (by rfl), (by rfl), H', ⟨by have := HK1.out; omega⟩, ⟨by (with_reducible repeat ((apply Kd.bf))); exact HO_5.out⟩, ⟨HB.out⟩⟩
     iterate 2
      focus
       obtain ⟨ad286, e286, hx286_0⟩ := Kd.fU (Kd.aV HO_5.out).2.2 x9_1 p286 q284
       cases e286
       replace p286 := eq_true p286
       replace q284 := eq_true q284
      rotate_left
     rotate_left
     ·go_wp2_with ((((with_reducible refine dZ (f := 75) rfl ?_); refine gT (some 45) rfl rfl Tryz.func75 (by kernel_rfl) rfl #[.string (bB ByteArray.empty t279 x9_1)] rfl (by (try simp only [mA_, mC_, mN_]); rfl) ?_; (with_reducible refine (aH.calls k1 (bB ByteArray.empty t279 x9_1) t287 _ A20.out).mono ?_); rintro e w23 ⟨rfl, hb⟩; refine ⟨_, rfl, ?_⟩; replace HO_5 := ah.mk (Kd.bI (by (with_reducible repeat ((apply Kd.bf))); exact HO_5.out) hb); replace HB := ah.mk (av HB.out hb); (try clear hb))))
      go_roundg k1
      case measure => have := HK1.out; omega
      case rel => exact ⟨(x8_1 ++ t287), (wrap64 (x9_1 + 1)), (by rfl), (by rfl), H', ⟨by have := HK1.out; omega⟩, ⟨by (with_reducible repeat ((apply Kd.bf))); exact HO_5.out⟩, ⟨HB.out⟩⟩
     ·go_wp2
      go_roundg k1
      case measure => have := HK1.out; omega
      case rel => exact ⟨(x8_1 ++ (bB ByteArray.empty t279 x9_1)), (wrap64 (x9_1 + 1)), (by rfl), (by rfl), H', ⟨by have := HK1.out; omega⟩, ⟨by (with_reducible repeat ((apply Kd.bf))); exact HO_5.out⟩, ⟨HB.out⟩⟩
     ·go_wp2
      go_ret
      exact ⟨by rfl, HB.out⟩
  ·replace c4 := Bool.eq_false_iff.mpr c4
   subst c4
   rw [if_neg ff_] at H
   obtain rfl := Option.some.inj H
   go_enter Tryz.func178, Tryz.ntmps178
   go_wp2_with ((((with_reducible refine dZ (f := 117) rfl ?_); refine gT (some 12) rfl rfl Tryz.func117 (by kernel_rfl) rfl #[.int .i64 a0, .string a1] rfl (by (try simp only [mA_, mC_, mN_]); rfl) ?_; (with_reducible refine (dB.calls k a0 a1 _ _ A3.out).mono ?_); rintro e w27 ⟨rfl, hb⟩; refine ⟨_, rfl, ?_⟩; replace HB := ah.mk (av HB.out hb); (try clear hb))))
   go_ret
   exact ⟨by rfl, HB.out⟩
def bH.l0 : Nat → List ByteArray → List Int → Int → Option (ByteArray × ByteArray × Int × Int × Int × Int × Int × Bool)
 | 0, _, _, _ => none
 | k + 1, x4, x6, x7 => if x7 < 7 then (if 0 ≤ x7 then (if x7 < (x4.length : Int) then ((dA.f k (bB ByteArray.empty x4 x7)).bind fun t296 => (if x6.length < 35184372088832 then (bH.l0 k x4 (x6 ++ [(t296) % 4294967296]) (wrap64 (x7 + 1))) else (none))) else (none)) else (none)) else (if 0 < (x4.length : Int) then (if 1 < (x4.length : Int) then (if 0 < (x6.length : Int) then (if 1 < (x6.length : Int) then (if 2 < (x6.length : Int) then (if 3 < (x6.length : Int) then (if 4 < (x6.length : Int) then (some (bB ByteArray.empty x4 0, bB ByteArray.empty x4 1, rd x6 0, rd x6 1, rd x6 2, rd x6 3, rd x6 4, true)) else (none)) else (none)) else (none)) else (none)) else (none)) else (none)) else (none))
def bH.f (k : Nat) (a0 : ByteArray) : Option (ByteArray × ByteArray × Int × Int × Int × Int × Int × Bool) := (dB.f k 6 a0).bind fun t290 => (if t290 = true then ((aG.f k a0 0 (a0.size : Int) 6).bind fun bt291 => (bH.l0 k bt291.1 ([] : List Int) 2)) else (some ((⟨#[]⟩ : ByteArray), (⟨#[]⟩ : ByteArray), 0, 0, 0, 0, 0, false)))
def bH.T9 : Bool × List (List Nat × List Nat) := (true, [([], []), ([0], [0]), ([1], [1]), ([], []), ([3], [3]), ([4], [4]), ([], []), ([6], [6]), ([7], [7]), ([], []), ([9], [9]), ([10], [10]), ([], []), ([12], [12]), ([13], [13]), ([], []), ([15], [15]), ([16], [16]), ([], []), ([18], [18]), ([19], [19]), ([2, 5, 8, 11, 14, 17, 20], [2, 5, 8, 11, 14, 17, 20]), ([21, 0, 1, 2, 3, 4, 5, 6, 7, 8, 9, 10, 11, 12, 13, 14, 15, 16, 17, 18, 19, 20, 21], [21]), ([22, 0, 1, 2, 3, 4, 5, 6, 7, 8, 9, 10, 11, 12, 13, 14, 15, 16, 17, 18, 19, 20, 21, 22], [])])
def bH.B9 : List Nat := [0, 1, 3, 0, 8, 24, 0, 64, 192, 0, 512, 1536, 0, 4096, 12288, 0, 32768, 98304, 0, 262144, 786432, 2097151, 4194303, 8388607]
theorem bH.sQ : iy .any (opsOf Tryz.f71 9) = bH.T9 := by kernel_rfl
theorem bH.qd : iX bH.T9.2 bH.B9 = true := by kernel_rfl
theorem bH.calls (k : Nat) (a0 : ByteArray) (r1 : ByteArray) (r2 : ByteArray) (r3 : Int) (r4 : Int) (r5 : Int) (r6 : Int) (r7 : Int) (r8 : Bool) (w : World) (h : bH.f k a0 = some (r1, r2, r3, r4, r5, r6, r7, r8)) :
    Calls Tryz.prog 71 #[.string a0] w fun e w' => e = .returned (.tuple #[.agg #[.string r1, .string r2, .int .u32 r3, .int .u32 r4, .int .u32 r5, .int .u32 r6, .int .u32 r7], .bool r8]) ∧ Below w.heap.size w w' := by
  have hu38 := Tryz.underlying38
  have HB := ah.mk (Below.refl w.heap.size w)
  have H : ((dB.f k 6 a0).bind fun t290 => (if t290 = true then ((aG.f k a0 0 (a0.size : Int) 6).bind fun bt291 => (bH.l0 k bt291.1 ([] : List Int) 2)) else (some ((⟨#[]⟩ : ByteArray), (⟨#[]⟩ : ByteArray), 0, 0, 0, 0, 0, false)))) = some (r1, r2, r3, r4, r5, r6, r7, r8) := h
  clear h
  obtain ⟨t290, A2, H⟩ := cK H
  by_cases c3 : t290 = true
  ·subst c3
   rw [if_pos rfl] at H
   replace H := Option.bind_eq_some_iff.mp H
   obtain ⟨⟨t291, t292⟩, A40, H⟩ := H
   replace H : (bH.l0 k t291 ([] : List Int) 2) = some (r1, r2, r3, r4, r5, r6, r7, r8) := H
   have A4 := ah.mk A40
   clear A40
   have H' := ah.mk H
   clear H
   go_enter Tryz.func71, Tryz.ntmps71
   go_wp2_with (first | ((with_reducible refine bP (N := 2) rfl ?_); refine bW ?hg (N := 2) ?hd (cs := #[.string (⟨#[]⟩ : ByteArray), .string (⟨#[]⟩ : ByteArray), .int .u32 0, .int .u32 0, .int .u32 0, .int .u32 0, .int .u32 0]) (t := 38) ?hr ?_; (case hd => rfl); (case hg => rfl); (case hr => (go_simp; done)); intro gb289 hg w5 hbox hb; have BK289 := ah.mk (hbox); have GW289 := ah.mk ((by rw [hg]; exact (ay HB.out) : w.heap.size ≤ gb289)); have GE289 := ah.mk ((by rw [hg]; exact (ay HB.out) : w.heap.size ≤ gb289)); replace HB := ah.mk (av HB.out hb); clear hb hbox hg) | ((with_reducible refine dZ (f := 117) rfl ?_); refine gT (some 9) rfl rfl Tryz.func117 (by kernel_rfl) rfl #[.int .i64 6, .string a0] rfl (by (try simp only [mA_, mC_, mN_]); rfl) ?_; (with_reducible refine (dB.calls k 6 a0 _ _ A2.out).mono ?_); rintro e w6 ⟨rfl, hb⟩; refine ⟨_, rfl, ?_⟩; replace BK289 := ah.mk (aC (g := gb289) (o := .cells #[.string (⟨#[]⟩ : ByteArray), .string (⟨#[]⟩ : ByteArray), .int .u32 0, .int .u32 0, .int .u32 0, .int .u32 0, .int .u32 0] 38 (0, 0)) (by (with_reducible repeat ((refine ak ?_ _))); exact BK289.out) hb); replace HB := ah.mk (av HB.out hb); (try clear hb)) | ((with_reducible refine dZ (f := 125) rfl ?_); refine gT (some 16) rfl rfl Tryz.func125 (by kernel_rfl) rfl #[.string a0, .int .i64 0, .int .i64 (a0.size : Int), .int .i64 6] rfl (by (try simp only [mA_, mC_, mN_]); rfl) ?_; (with_reducible refine (aG.calls k a0 0 (a0.size : Int) 6 t291 t292 _ A4.out).mono ?_); rintro e w7 ⟨v293, rfl, ho0, hb⟩; refine ⟨_, rfl, ?_⟩; have HO294 := ah.mk (Kd.bZ ho0 (ay HB.out)); replace BK289 := ah.mk (aC (g := gb289) (o := .cells #[.string (⟨#[]⟩ : ByteArray), .string (⟨#[]⟩ : ByteArray), .int .u32 0, .int .u32 0, .int .u32 0, .int .u32 0, .int .u32 0] 38 (0, 0)) (by (with_reducible repeat ((refine ak ?_ _))); exact BK289.out) hb); replace HB := ah.mk (av HB.out hb); (try clear hb); (try clear ho0)))
   go_loopg [6, 7] k (fun kq v6 v7 w' => ∃ (x6_1 : List Int) (x7_1 : Int), v7 = .int .i64 x7_1 ∧ ah (bH.l0 kq t291 x6_1 x7_1 = some (r1, r2, r3, r4, r5, r6, r7, r8)) ∧ ah (kq ≤ k) ∧ ah (Kd.R Kd.string 9 w' w.heap.size (fun _ => True) v293 t291) ∧ ah (Kd.R (Kd.int .u32) 36 w' w.heap.size (fun _ => True) v6 x6_1) ∧ ah (w'.heap[gb289]? = some (.cells #[.string (⟨#[]⟩ : ByteArray), .string (⟨#[]⟩ : ByteArray), .int .u32 0, .int .u32 0, .int .u32 0, .int .u32 0, .int .u32 0] 38 (0, 0))) ∧ ah (Below w.heap.size w w'))
   case atStart => exact ⟨(([] : List Int)), (2), (by rfl), H', ⟨Nat.le_refl _⟩, ⟨by (with_reducible repeat ((apply Kd.bf))); exact HO294.out⟩, ⟨by (exact Kd.fJ _ _ _ _ _)⟩, ⟨by (with_reducible repeat ((refine ak ?_ _))); exact BK289.out⟩, ⟨HB.out⟩⟩
   case round =>
    clear H'
    obtain ⟨x6_1, x7_1, rfl, HA, HK1, HO_4, HO_6, BK289, HB⟩ := hrel
    cases gk with
    | zero => exact absurd HA.out (by simp [bH.l0])
    | succ k1 =>
     have H := HA.out
     clear HA
     simp only [bH.l0] at H
     by_cases c8 : x7_1 < 7
     ·rw [if_pos c8] at H
      have c8b0 : decide (x7_1 < 7) = true := decide_eq_true c8
      clear c8
      obtain ⟨c9b0, H⟩ := fq H
      obtain ⟨c10b0, H⟩ := fq H
      obtain ⟨t296, A11, H⟩ := cK H
      obtain ⟨c12, H⟩ := gd_ H
      have LMc12 := ah.mk c12
      clear c12
      obtain ⟨y297, hy297⟩ : ∃ y_ : List Int, y_ = (x6_1 ++ [(t296) % 4294967296]) := ⟨_, rfl⟩
      replace H : (bH.l0 k1 t291 y297 (wrap64 (x7_1 + 1))) = some (r1, r2, r3, r4, r5, r6, r7, r8) := by (rw [hy297]; with_reducible exact H)
      have Ny297 := ah.mk hy297
      clear hy297
      have H' := ah.mk H
      clear H
      obtain ⟨Ao13, co13, eo13⟩ := Kd.dn HO_4.out
      subst eo13
      have p295 : 0 ≤ (x7_1 : Int) := of_decide_eq_true (by (with_reducible assumption))
      have q295 : x7_1 < (t291.length : Int) := of_decide_eq_true (by (with_reducible assumption))
      obtain ⟨ad295, e295, hx295_0⟩ := Kd.fU (Kd.aV HO_4.out).2.2 x7_1 p295 q295
      cases e295
      replace p295 := eq_true p295
      replace q295 := eq_true q295
      go_wp2_with (first | ((with_reducible refine dZ (f := 126) rfl ?_); refine gT (some 28) rfl rfl Tryz.func126 (by kernel_rfl) rfl #[.string (bB ByteArray.empty t291 x7_1)] rfl (by (try simp only [mA_, mC_, mN_]); rfl) ?_; (with_reducible refine (dA.calls k1 (bB ByteArray.empty t291 x7_1) t296 _ A11.out).mono ?_); rintro e w' ⟨rfl, ⟨nd, rfl⟩⟩; refine ⟨_, rfl, ?_⟩) | ((with_reducible refine dX (b := .append) (xs := #[.tmp 23, .tmp 30]) rfl ?_); at_builtin; refine Kd.fO (Kd.int .u32) (w0 := w) w.heap.size rfl (.tmp 23) (.tmp 30) 131 36 (.int .u32 0) 4 rfl Tryz.underlying131 KP rfl (by decide) (by omega) u6 x6_1 ((t296) % 4294967296) [.int .u32 ((t296) % 4294967296)] (fun _ => True) (fun _ => False) rfl rfl ?aP (fun _ hk => hk.elim) ?aF ?aO ?aB ?aS ?aL ?_; (case aP => exact rfl); (case aB => exact (by repeat ((with_reducible first | exact HB.out | apply bg)))); (case aF => exact (fun _ _ => trivial)); (case aO => exact (by (with_reducible repeat ((apply Kd.jA))); exact HO_6.out)); (case aS => exact (ay (by repeat ((with_reducible first | exact HB.out | apply bg))))); (case aL => have := LMc12.out; omega); intro v298 w14 ho hb hg hat; rw [← Ny297.out] at ho; have n0_ := ah.mk (Kd.Jh (by (with_reducible repeat ((apply Kd.jA))); exact HO_4.out) (Kd.JW (by (with_reducible repeat ((apply Kd.jA))); exact HO_6.out)) (by decide) hg); have n1_ := ah.mk (gV (g := gb289) (o := .cells #[.string (⟨#[]⟩ : ByteArray), .string (⟨#[]⟩ : ByteArray), .int .u32 0, .int .u32 0, .int .u32 0, .int .u32 0, .int .u32 0] 38 (0, 0)) (by (with_reducible repeat ((refine ak ?_ _))); exact BK289.out) hg (Kd.fH HO_6.out BK289.out (by decide))); have n2_ := ah.mk (hb); have n3_ := ah.mk (ho); clear HO_4; clear BK289; clear HB; clear HO_6; have HO_4 := n0_; have BK289 := n1_; have HB := n2_; have HO299 := n3_; clear n0_ n1_ n2_ n3_; clear ho hb hg hat))
      go_roundg k1
      case measure => have := HK1.out; omega
      case rel => exact ⟨(y297), (wrap64 (x7_1 + 1)), (by rfl), H', ⟨by have := HK1.out; omega⟩, ⟨by (with_reducible repeat ((apply Kd.bf))); exact HO_4.out⟩, ⟨by (with_reducible repeat ((apply Kd.bf))); exact HO299.out⟩, ⟨by (with_reducible repeat ((refine ak ?_ _))); exact BK289.out⟩, ⟨HB.out⟩⟩
     ·rw [if_neg c8] at H
      have c8b0 : decide (x7_1 < 7) = false := decide_eq_false c8
      clear c8
      obtain ⟨c15, H⟩ := gd_ H
      have c15b0 : decide (0 < (t291.length : Int)) = true := decide_eq_true c15
      have c15b1 : decide (0 < t291.length) = true := decide_eq_true (by omega)
      clear c15
      obtain ⟨c16, H⟩ := gd_ H
      have c16b0 : decide (1 < (t291.length : Int)) = true := decide_eq_true c16
      have c16b1 : decide (1 < t291.length) = true := decide_eq_true (by omega)
      clear c16
      obtain ⟨c17, H⟩ := gd_ H
      have c17b0 : decide (0 < (x6_1.length : Int)) = true := decide_eq_true c17
      have c17b1 : decide (0 < x6_1.length) = true := decide_eq_true (by omega)
      clear c17
      obtain ⟨c18, H⟩ := gd_ H
      have c18b0 : decide (1 < (x6_1.length : Int)) = true := decide_eq_true c18
      have c18b1 : decide (1 < x6_1.length) = true := decide_eq_true (by omega)
      clear c18
      obtain ⟨c19, H⟩ := gd_ H
      have c19b0 : decide (2 < (x6_1.length : Int)) = true := decide_eq_true c19
      have c19b1 : decide (2 < x6_1.length) = true := decide_eq_true (by omega)
      clear c19
      obtain ⟨c20, H⟩ := gd_ H
      have c20b0 : decide (3 < (x6_1.length : Int)) = true := decide_eq_true c20
      have c20b1 : decide (3 < x6_1.length) = true := decide_eq_true (by omega)
      clear c20
      obtain ⟨c21, H⟩ := gd_ H
      have c21b0 : decide (4 < (x6_1.length : Int)) = true := decide_eq_true c21
      have c21b1 : decide (4 < x6_1.length) = true := decide_eq_true (by omega)
      clear c21
      simp only [Option.some.injEq, Prod.mk.injEq] at H
      obtain ⟨rfl, rfl, rfl, rfl, rfl, rfl, rfl, rfl⟩ := H
      (try go_wp2)
      replace HO_4 := ah.mk (Kd.jG HO_4.out)
      replace HO_6 := ah.mk (Kd.jG HO_6.out)
      replace BK289 := ah.mk (eG BK289.out)
      replace HB := ah.mk (eu HB.out)
      obtain ⟨Ao23, co23, eo23⟩ := Kd.dn HO_4.out
      ((subst eo23))
      have p300 : 0 ≤ (0 : Int) := (by omega)
      have q300 : 0 < (t291.length : Int) := of_decide_eq_true (by (with_reducible assumption))
      obtain ⟨ad300, e300, hx300_0⟩ := Kd.fU (Kd.aV HO_4.out).2.2 0 p300 q300
      cases e300
      have qi300 : (0 < t291.length) = True := eq_true (by omega)
      (try rw [show ((0 : Int)).toNat = 0 from rfl] at hx300_0)
      (try rw [Addr.add_zero'] at hx300_0)
      replace p300 := eq_true p300
      replace q300 := eq_true q300
      have p301 : 0 ≤ (1 : Int) := (by omega)
      have q301 : 1 < (t291.length : Int) := of_decide_eq_true (by (with_reducible assumption))
      obtain ⟨ad301, e301, hx301_0⟩ := Kd.fU (Kd.aV HO_4.out).2.2 1 p301 q301
      obtain rfl : ad300 = ad301 := (by injection e301)
      (try simp only [show (1 : Int).toNat = 1 from rfl, Nat.reduceMul, Nat.reduceEqDiff, Go.Addr.add, ↓reduceIte] at hx301_0)
      have qi301 : (1 < t291.length) = True := eq_true (by omega)
      replace p301 := eq_true p301
      replace q301 := eq_true q301
      obtain ⟨Ao24, co24, eo24⟩ := Kd.dn HO_6.out
      ((subst eo24))
      have p302 : 0 ≤ (0 : Int) := (by omega)
      have q302 : 0 < (x6_1.length : Int) := of_decide_eq_true (by (with_reducible assumption))
      obtain ⟨ad302, e302, hx302_0⟩ := Kd.kY (Kd.aV HO_6.out).2.2 0 p302 q302
      cases e302
      have qi302 : (0 < x6_1.length) = True := eq_true (by omega)
      (try rw [show ((0 : Int)).toNat = 0 from rfl] at hx302_0)
      (try rw [Addr.add_zero'] at hx302_0)
      replace p302 := eq_true p302
      replace q302 := eq_true q302
      have p303 : 0 ≤ (1 : Int) := (by omega)
      have q303 : 1 < (x6_1.length : Int) := of_decide_eq_true (by (with_reducible assumption))
      obtain ⟨ad303, e303, hx303_0⟩ := Kd.kY (Kd.aV HO_6.out).2.2 1 p303 q303
      obtain rfl : ad302 = ad303 := (by injection e303)
      (try simp only [show (1 : Int).toNat = 1 from rfl, Nat.reduceMul, Nat.reduceEqDiff, Go.Addr.add, ↓reduceIte] at hx303_0)
      have qi303 : (1 < x6_1.length) = True := eq_true (by omega)
      replace p303 := eq_true p303
      replace q303 := eq_true q303
      have p304 : 0 ≤ (2 : Int) := (by omega)
      have q304 : 2 < (x6_1.length : Int) := of_decide_eq_true (by (with_reducible assumption))
      obtain ⟨ad304, e304, hx304_0⟩ := Kd.kY (Kd.aV HO_6.out).2.2 2 p304 q304
      obtain rfl : ad302 = ad304 := (by injection e304)
      (try simp only [show (2 : Int).toNat = 2 from rfl, Nat.reduceMul, Nat.reduceEqDiff, Go.Addr.add, ↓reduceIte] at hx304_0)
      have qi304 : (2 < x6_1.length) = True := eq_true (by omega)
      replace p304 := eq_true p304
      replace q304 := eq_true q304
      have p305 : 0 ≤ (3 : Int) := (by omega)
      have q305 : 3 < (x6_1.length : Int) := of_decide_eq_true (by (with_reducible assumption))
      obtain ⟨ad305, e305, hx305_0⟩ := Kd.kY (Kd.aV HO_6.out).2.2 3 p305 q305
      obtain rfl : ad302 = ad305 := (by injection e305)
      (try simp only [show (3 : Int).toNat = 3 from rfl, Nat.reduceMul, Nat.reduceEqDiff, Go.Addr.add, ↓reduceIte] at hx305_0)
      have qi305 : (3 < x6_1.length) = True := eq_true (by omega)
      replace p305 := eq_true p305
      replace q305 := eq_true q305
      have p306 : 0 ≤ (4 : Int) := (by omega)
      have q306 : 4 < (x6_1.length : Int) := of_decide_eq_true (by (with_reducible assumption))
      obtain ⟨ad306, e306, hx306_0⟩ := Kd.kY (Kd.aV HO_6.out).2.2 4 p306 q306
      obtain rfl : ad302 = ad306 := (by injection e306)
      (try simp only [show (4 : Int).toNat = 4 from rfl, Nat.reduceMul, Nat.reduceEqDiff, Go.Addr.add, ↓reduceIte] at hx306_0)
      have qi306 : (4 < x6_1.length) = True := eq_true (by omega)
      replace p306 := eq_true p306
      replace q306 := eq_true q306
      refine jq (n := 24) (S := fun w' => w'.cell? ad300 = some (.string (bB ByteArray.empty t291 0)) ∧ w'.cell? ⟨ad300.block, ad300.off + 1, none⟩ = some (.string (bB ByteArray.empty t291 1)) ∧ w'.cell? ad302 = some (.int .u32 (rd x6_1 0)) ∧ w'.cell? ⟨ad302.block, ad302.off + 1, none⟩ = some (.int .u32 (rd x6_1 1)) ∧ w'.cell? ⟨ad302.block, ad302.off + 2, none⟩ = some (.int .u32 (rd x6_1 2)) ∧ w'.cell? ⟨ad302.block, ad302.off + 3, none⟩ = some (.int .u32 (rd x6_1 3)) ∧ w'.cell? ⟨ad302.block, ad302.off + 4, none⟩ = some (.int .u32 (rd x6_1 4))) (ds := []) (ls 24 0) (by kernel_rfl) rfl rfl ⟨hx300_0, hx301_0, hx302_0, hx303_0, hx304_0, hx305_0, hx306_0⟩ (fun hHeld => ?_); refine iH bH.sQ bH.qd (fun HT_ HW_ => ?_)
      generalize wr.drew = w22 at HO_4 HO_6 BK289 HB hx300_0 hx301_0 hx302_0 hx303_0 hx304_0 hx305_0 hx306_0 hHeld ⊢
      refine td_ [(0, 32), (1, 33), (3, 35), (4, 36), (6, 38), (7, 39), (9, 41), (10, 42), (12, 44), (13, 45), (15, 47), (16, 48), (18, 50), (19, 51)] ?_
      iterate 14 (refine pn_ (v := ?_) (a' := ?_) HT_ rfl rfl (by kernel_rfl) rfl (fun _ _ _ h => h) (fun w' => ?_) ?_ ?_; rotate_left 2; (focus go_simp; with_reducible rfl); (focus simp only [Act.put, sA_, sZ_, sS_, gu, jh]; rfl))
      refine dn_ ?_
      refine td_ [(2, 34), (5, 37), (8, 40), (11, 43), (14, 46), (17, 49), (20, 52)] ?_
      iterate 7 (refine tn_ (v := ?_) (a' := ?_) HT_ HW_ rfl rfl (by kernel_rfl) rfl (fun _ _ _ h => h) hHeld ?_ ?_ ?_; rotate_left 2; (focus rintro w' ⟨s0, s1, s2, s3, s4, s5, s6⟩; go_simp; with_reducible rfl); (focus simp only [Act.put, sA_, sZ_, sS_, gu, jh]; rfl))
      refine dn_ ?_
      refine td_ [(21, 53)] ?_
      iterate 1 (refine pn_ (v := ?_) (a' := ?_) HT_ rfl rfl (by kernel_rfl) rfl (fun _ _ _ h => h) (fun w' => ?_) ?_ ?_; rotate_left 2; (focus go_simp; with_reducible rfl); (focus simp only [Act.put, sA_, sZ_, sS_, gu, jh]; rfl))
      refine dn_ ?_
      refine sH (i := 22) (N := none) (ls 24 8388607) rfl rfl (rX HT_.out (by kernel_rfl)) (by decide) (fun K hK => ?_)
      have hs25 : w22.cell? ⟨gb289, 0, none⟩ = some (.string (⟨#[]⟩ : ByteArray)) := (aA BK289.out 0).trans rfl
      have hfs25 := aI BK289.out 0
      have hs26 : w22.cell? ⟨gb289, 1, none⟩ = some (.string (⟨#[]⟩ : ByteArray)) := (aA BK289.out 1).trans rfl
      have hfs26 := aI BK289.out 1
      have hs27 : w22.cell? ⟨gb289, 2, none⟩ = some (.int .u32 0) := (aA BK289.out 2).trans rfl
      have hfs27 := aI BK289.out 2
      have hs28 : w22.cell? ⟨gb289, 3, none⟩ = some (.int .u32 0) := (aA BK289.out 3).trans rfl
      have hfs28 := aI BK289.out 3
      have hs29 : w22.cell? ⟨gb289, 4, none⟩ = some (.int .u32 0) := (aA BK289.out 4).trans rfl
      have hfs29 := aI BK289.out 4
      have hs30 : w22.cell? ⟨gb289, 5, none⟩ = some (.int .u32 0) := (aA BK289.out 5).trans rfl
      have hfs30 := aI BK289.out 5
      have hs31 : w22.cell? ⟨gb289, 6, none⟩ = some (.int .u32 0) := (aA BK289.out 6).trans rfl
      have hfs31 := aI BK289.out 6
      refine vW (w1 := ?_) (by rfl) rfl ?_ ?_
      rotate_left
      ·go_simp
       rfl
      refine hK.out _ _ ⟨((cell_far (p := ⟨gb289, _, none⟩) (by (exact Kd.dM (Kd.fH HO_4.out BK289.out (by decide)))) _).trans (((cell_far (p := ⟨gb289, _, none⟩) (by (exact Kd.dM (Kd.fH HO_4.out BK289.out (by decide)))) _).trans (((cell_far (p := ⟨gb289, _, none⟩) (by (exact Kd.dM (Kd.fH HO_4.out BK289.out (by decide)))) _).trans (((cell_far (p := ⟨gb289, _, none⟩) (by (exact Kd.dM (Kd.fH HO_4.out BK289.out (by decide)))) _).trans (((cell_far (p := ⟨gb289, _, none⟩) (by (exact Kd.dM (Kd.fH HO_4.out BK289.out (by decide)))) _).trans (((cell_far (p := ⟨gb289, _, none⟩) (by (exact Kd.dM (Kd.fH HO_4.out BK289.out (by decide)))) _).trans (((cell_far (p := ⟨gb289, _, none⟩) (by (exact Kd.dM (Kd.fH HO_4.out BK289.out (by decide)))) _).trans (hHeld.1)))))))))))))), ((cell_far (p := ⟨gb289, _, none⟩) (by ((dsimp only; exact Kd.dM (Kd.fH HO_4.out BK289.out (by decide))))) _).trans (((cell_far (p := ⟨gb289, _, none⟩) (by ((dsimp only; exact Kd.dM (Kd.fH HO_4.out BK289.out (by decide))))) _).trans (((cell_far (p := ⟨gb289, _, none⟩) (by ((dsimp only; exact Kd.dM (Kd.fH HO_4.out BK289.out (by decide))))) _).trans (((cell_far (p := ⟨gb289, _, none⟩) (by ((dsimp only; exact Kd.dM (Kd.fH HO_4.out BK289.out (by decide))))) _).trans (((cell_far (p := ⟨gb289, _, none⟩) (by ((dsimp only; exact Kd.dM (Kd.fH HO_4.out BK289.out (by decide))))) _).trans (((cell_far (p := ⟨gb289, _, none⟩) (by ((dsimp only; exact Kd.dM (Kd.fH HO_4.out BK289.out (by decide))))) _).trans (((cell_far (p := ⟨gb289, _, none⟩) (by ((dsimp only; exact Kd.dM (Kd.fH HO_4.out BK289.out (by decide))))) _).trans (hHeld.2.1)))))))))))))), ((cell_far (p := ⟨gb289, _, none⟩) (by (exact Kd.dM (Kd.fH HO_6.out BK289.out (by decide)))) _).trans (((cell_far (p := ⟨gb289, _, none⟩) (by (exact Kd.dM (Kd.fH HO_6.out BK289.out (by decide)))) _).trans (((cell_far (p := ⟨gb289, _, none⟩) (by (exact Kd.dM (Kd.fH HO_6.out BK289.out (by decide)))) _).trans (((cell_far (p := ⟨gb289, _, none⟩) (by (exact Kd.dM (Kd.fH HO_6.out BK289.out (by decide)))) _).trans (((cell_far (p := ⟨gb289, _, none⟩) (by (exact Kd.dM (Kd.fH HO_6.out BK289.out (by decide)))) _).trans (((cell_far (p := ⟨gb289, _, none⟩) (by (exact Kd.dM (Kd.fH HO_6.out BK289.out (by decide)))) _).trans (((cell_far (p := ⟨gb289, _, none⟩) (by (exact Kd.dM (Kd.fH HO_6.out BK289.out (by decide)))) _).trans (hHeld.2.2.1)))))))))))))), ((cell_far (p := ⟨gb289, _, none⟩) (by ((dsimp only; exact Kd.dM (Kd.fH HO_6.out BK289.out (by decide))))) _).trans (((cell_far (p := ⟨gb289, _, none⟩) (by ((dsimp only; exact Kd.dM (Kd.fH HO_6.out BK289.out (by decide))))) _).trans (((cell_far (p := ⟨gb289, _, none⟩) (by ((dsimp only; exact Kd.dM (Kd.fH HO_6.out BK289.out (by decide))))) _).trans (((cell_far (p := ⟨gb289, _, none⟩) (by ((dsimp only; exact Kd.dM (Kd.fH HO_6.out BK289.out (by decide))))) _).trans (((cell_far (p := ⟨gb289, _, none⟩) (by ((dsimp only; exact Kd.dM (Kd.fH HO_6.out BK289.out (by decide))))) _).trans (((cell_far (p := ⟨gb289, _, none⟩) (by ((dsimp only; exact Kd.dM (Kd.fH HO_6.out BK289.out (by decide))))) _).trans (((cell_far (p := ⟨gb289, _, none⟩) (by ((dsimp only; exact Kd.dM (Kd.fH HO_6.out BK289.out (by decide))))) _).trans (hHeld.2.2.2.1)))))))))))))), ((cell_far (p := ⟨gb289, _, none⟩) (by ((dsimp only; exact Kd.dM (Kd.fH HO_6.out BK289.out (by decide))))) _).trans (((cell_far (p := ⟨gb289, _, none⟩) (by ((dsimp only; exact Kd.dM (Kd.fH HO_6.out BK289.out (by decide))))) _).trans (((cell_far (p := ⟨gb289, _, none⟩) (by ((dsimp only; exact Kd.dM (Kd.fH HO_6.out BK289.out (by decide))))) _).trans (((cell_far (p := ⟨gb289, _, none⟩) (by ((dsimp only; exact Kd.dM (Kd.fH HO_6.out BK289.out (by decide))))) _).trans (((cell_far (p := ⟨gb289, _, none⟩) (by ((dsimp only; exact Kd.dM (Kd.fH HO_6.out BK289.out (by decide))))) _).trans (((cell_far (p := ⟨gb289, _, none⟩) (by ((dsimp only; exact Kd.dM (Kd.fH HO_6.out BK289.out (by decide))))) _).trans (((cell_far (p := ⟨gb289, _, none⟩) (by ((dsimp only; exact Kd.dM (Kd.fH HO_6.out BK289.out (by decide))))) _).trans (hHeld.2.2.2.2.1)))))))))))))), ((cell_far (p := ⟨gb289, _, none⟩) (by ((dsimp only; exact Kd.dM (Kd.fH HO_6.out BK289.out (by decide))))) _).trans (((cell_far (p := ⟨gb289, _, none⟩) (by ((dsimp only; exact Kd.dM (Kd.fH HO_6.out BK289.out (by decide))))) _).trans (((cell_far (p := ⟨gb289, _, none⟩) (by ((dsimp only; exact Kd.dM (Kd.fH HO_6.out BK289.out (by decide))))) _).trans (((cell_far (p := ⟨gb289, _, none⟩) (by ((dsimp only; exact Kd.dM (Kd.fH HO_6.out BK289.out (by decide))))) _).trans (((cell_far (p := ⟨gb289, _, none⟩) (by ((dsimp only; exact Kd.dM (Kd.fH HO_6.out BK289.out (by decide))))) _).trans (((cell_far (p := ⟨gb289, _, none⟩) (by ((dsimp only; exact Kd.dM (Kd.fH HO_6.out BK289.out (by decide))))) _).trans (((cell_far (p := ⟨gb289, _, none⟩) (by ((dsimp only; exact Kd.dM (Kd.fH HO_6.out BK289.out (by decide))))) _).trans (hHeld.2.2.2.2.2.1)))))))))))))), ((cell_far (p := ⟨gb289, _, none⟩) (by ((dsimp only; exact Kd.dM (Kd.fH HO_6.out BK289.out (by decide))))) _).trans (((cell_far (p := ⟨gb289, _, none⟩) (by ((dsimp only; exact Kd.dM (Kd.fH HO_6.out BK289.out (by decide))))) _).trans (((cell_far (p := ⟨gb289, _, none⟩) (by ((dsimp only; exact Kd.dM (Kd.fH HO_6.out BK289.out (by decide))))) _).trans (((cell_far (p := ⟨gb289, _, none⟩) (by ((dsimp only; exact Kd.dM (Kd.fH HO_6.out BK289.out (by decide))))) _).trans (((cell_far (p := ⟨gb289, _, none⟩) (by ((dsimp only; exact Kd.dM (Kd.fH HO_6.out BK289.out (by decide))))) _).trans (((cell_far (p := ⟨gb289, _, none⟩) (by ((dsimp only; exact Kd.dM (Kd.fH HO_6.out BK289.out (by decide))))) _).trans (((cell_far (p := ⟨gb289, _, none⟩) (by ((dsimp only; exact Kd.dM (Kd.fH HO_6.out BK289.out (by decide))))) _).trans (hHeld.2.2.2.2.2.2))))))))))))))⟩ (fun hHeld => ?_)
      clear hK K
      refine td_ [(23, 3)] ?_
      iterate 1 (refine pn_ (v := ?_) (a' := ?_) HT_ rfl rfl (by kernel_rfl) rfl (fun _ _ _ h => h) (fun w' => ?_) ?_ ?_; rotate_left 2; (focus go_simp; with_reducible rfl); (focus simp only [Act.put, sA_, sZ_, sS_, gu, jh]; rfl))
      refine dn_ ?_
      refine mV (mg HT_.out (by kernel_rfl)) ?_
      (try go_wp2)
      refine bodyPost_ret (fI rfl _ _ gb289 38 #[.string (bB ByteArray.empty t291 0), .string (bB ByteArray.empty t291 1), .int .u32 (rd x6_1 0), .int .u32 (rd x6_1 1), .int .u32 (rd x6_1 2), .int .u32 (rd x6_1 3), .int .u32 (rd x6_1 4)] (0, 0) _ rfl (by (with_reducible repeat ((refine ak ?_ _))); refine aM (cs := #[.string (bB ByteArray.empty t291 0), .string (bB ByteArray.empty t291 1), .int .u32 (rd x6_1 0), .int .u32 (rd x6_1 1), .int .u32 (rd x6_1 2), .int .u32 (rd x6_1 3), .int .u32 0]) ?_ 6 _ rfl; (with_reducible repeat ((refine ak ?_ _))); refine aM (cs := #[.string (bB ByteArray.empty t291 0), .string (bB ByteArray.empty t291 1), .int .u32 (rd x6_1 0), .int .u32 (rd x6_1 1), .int .u32 (rd x6_1 2), .int .u32 0, .int .u32 0]) ?_ 5 _ rfl; (with_reducible repeat ((refine ak ?_ _))); refine aM (cs := #[.string (bB ByteArray.empty t291 0), .string (bB ByteArray.empty t291 1), .int .u32 (rd x6_1 0), .int .u32 (rd x6_1 1), .int .u32 0, .int .u32 0, .int .u32 0]) ?_ 4 _ rfl; (with_reducible repeat ((refine ak ?_ _))); refine aM (cs := #[.string (bB ByteArray.empty t291 0), .string (bB ByteArray.empty t291 1), .int .u32 (rd x6_1 0), .int .u32 0, .int .u32 0, .int .u32 0, .int .u32 0]) ?_ 3 _ rfl; (with_reducible repeat ((refine ak ?_ _))); refine aM (cs := #[.string (bB ByteArray.empty t291 0), .string (bB ByteArray.empty t291 1), .int .u32 0, .int .u32 0, .int .u32 0, .int .u32 0, .int .u32 0]) ?_ 2 _ rfl; (with_reducible repeat ((refine ak ?_ _))); refine aM (cs := #[.string (bB ByteArray.empty t291 0), .string (⟨#[]⟩ : ByteArray), .int .u32 0, .int .u32 0, .int .u32 0, .int .u32 0, .int .u32 0]) ?_ 1 _ rfl; (with_reducible repeat ((refine ak ?_ _))); refine aM (cs := #[.string (⟨#[]⟩ : ByteArray), .string (⟨#[]⟩ : ByteArray), .int .u32 0, .int .u32 0, .int .u32 0, .int .u32 0, .int .u32 0]) ?_ 0 _ rfl; (with_reducible repeat ((refine ak ?_ _))); exact BK289.out) Tryz.underlying38 rfl (by kernel_rfl)) rfl ?_
      exact ⟨by rfl, by repeat ((with_reducible first | exact HB.out | refine bL ?_ GE289.out))⟩
  ·replace c3 := Bool.eq_false_iff.mpr c3
   subst c3
   rw [if_neg ff_] at H
   simp only [Option.some.injEq, Prod.mk.injEq] at H
   obtain ⟨rfl, rfl, rfl, rfl, rfl, rfl, rfl, rfl⟩ := H
   go_enter Tryz.func71, Tryz.ntmps71
   go_wp2_with (first | ((with_reducible refine bP (N := 2) rfl ?_); refine bW ?hg (N := 2) ?hd (cs := #[.string (⟨#[]⟩ : ByteArray), .string (⟨#[]⟩ : ByteArray), .int .u32 0, .int .u32 0, .int .u32 0, .int .u32 0, .int .u32 0]) (t := 38) ?hr ?_; (case hd => rfl); (case hg => rfl); (case hr => (go_simp; done)); intro gb289 hg w32 hbox hb; have BK289 := ah.mk (hbox); have GW289 := ah.mk ((by rw [hg]; exact (ay HB.out) : w.heap.size ≤ gb289)); have GE289 := ah.mk ((by rw [hg]; exact (ay HB.out) : w.heap.size ≤ gb289)); replace HB := ah.mk (av HB.out hb); clear hb hbox hg) | ((with_reducible refine dZ (f := 117) rfl ?_); refine gT (some 9) rfl rfl Tryz.func117 (by kernel_rfl) rfl #[.int .i64 6, .string a0] rfl (by (try simp only [mA_, mC_, mN_]); rfl) ?_; (with_reducible refine (dB.calls k 6 a0 _ _ A2.out).mono ?_); rintro e w33 ⟨rfl, hb⟩; refine ⟨_, rfl, ?_⟩; replace BK289 := ah.mk (aC (g := gb289) (o := .cells #[.string (⟨#[]⟩ : ByteArray), .string (⟨#[]⟩ : ByteArray), .int .u32 0, .int .u32 0, .int .u32 0, .int .u32 0, .int .u32 0] 38 (0, 0)) (by (with_reducible repeat ((refine ak ?_ _))); exact BK289.out) hb); replace HB := ah.mk (av HB.out hb); (try clear hb); have hcz34_0 : w33.cell? ⟨gb289, 0, none⟩ = some (.string (⟨#[]⟩ : ByteArray)) := (aA BK289.out 0).trans rfl; have hcz34_1 : w33.cell? ⟨gb289, 1, none⟩ = some (.string (⟨#[]⟩ : ByteArray)) := (aA BK289.out 1).trans rfl; have hcz34_2 : w33.cell? ⟨gb289, 2, none⟩ = some (.int .u32 0) := (aA BK289.out 2).trans rfl; have hcz34_3 : w33.cell? ⟨gb289, 3, none⟩ = some (.int .u32 0) := (aA BK289.out 3).trans rfl; have hcz34_4 : w33.cell? ⟨gb289, 4, none⟩ = some (.int .u32 0) := (aA BK289.out 4).trans rfl; have hcz34_5 : w33.cell? ⟨gb289, 5, none⟩ = some (.int .u32 0) := (aA BK289.out 5).trans rfl; have hcz34_6 : w33.cell? ⟨gb289, 6, none⟩ = some (.int .u32 0) := (aA BK289.out 6).trans rfl; have hfz34_0 := aI BK289.out 0; have hfz34_1 := aI BK289.out 1; have hfz34_2 := aI BK289.out 2; have hfz34_3 := aI BK289.out 3; have hfz34_4 := aI BK289.out 4; have hfz34_5 := aI BK289.out 5; have hfz34_6 := aI BK289.out 6))
   refine bodyPost_ret (fI rfl _ _ gb289 38 #[.string (⟨#[]⟩ : ByteArray), .string (⟨#[]⟩ : ByteArray), .int .u32 0, .int .u32 0, .int .u32 0, .int .u32 0, .int .u32 0] (0, 0) _ rfl (by (with_reducible repeat ((refine ak ?_ _))); refine aM (cs := #[.string (⟨#[]⟩ : ByteArray), .string (⟨#[]⟩ : ByteArray), .int .u32 0, .int .u32 0, .int .u32 0, .int .u32 0, .int .u32 0]) ?_ 6 _ rfl; (with_reducible repeat ((refine ak ?_ _))); refine aM (cs := #[.string (⟨#[]⟩ : ByteArray), .string (⟨#[]⟩ : ByteArray), .int .u32 0, .int .u32 0, .int .u32 0, .int .u32 0, .int .u32 0]) ?_ 5 _ rfl; (with_reducible repeat ((refine ak ?_ _))); refine aM (cs := #[.string (⟨#[]⟩ : ByteArray), .string (⟨#[]⟩ : ByteArray), .int .u32 0, .int .u32 0, .int .u32 0, .int .u32 0, .int .u32 0]) ?_ 4 _ rfl; (with_reducible repeat ((refine ak ?_ _))); refine aM (cs := #[.string (⟨#[]⟩ : ByteArray), .string (⟨#[]⟩ : ByteArray), .int .u32 0, .int .u32 0, .int .u32 0, .int .u32 0, .int .u32 0]) ?_ 3 _ rfl; (with_reducible repeat ((refine ak ?_ _))); refine aM (cs := #[.string (⟨#[]⟩ : ByteArray), .string (⟨#[]⟩ : ByteArray), .int .u32 0, .int .u32 0, .int .u32 0, .int .u32 0, .int .u32 0]) ?_ 2 _ rfl; (with_reducible repeat ((refine ak ?_ _))); refine aM (cs := #[.string (⟨#[]⟩ : ByteArray), .string (⟨#[]⟩ : ByteArray), .int .u32 0, .int .u32 0, .int .u32 0, .int .u32 0, .int .u32 0]) ?_ 1 _ rfl; (with_reducible repeat ((refine ak ?_ _))); refine aM (cs := #[.string (⟨#[]⟩ : ByteArray), .string (⟨#[]⟩ : ByteArray), .int .u32 0, .int .u32 0, .int .u32 0, .int .u32 0, .int .u32 0]) ?_ 0 _ rfl; (with_reducible repeat ((refine ak ?_ _))); exact BK289.out) Tryz.underlying38 rfl (by kernel_rfl)) rfl ?_
   exact ⟨by rfl, by repeat ((with_reducible first | exact HB.out | refine bL ?_ GE289.out))⟩
end Go.Y.PRd
namespace Go.Y.PRd
open Go.Proofs.aj.aD Go.Proofs.aj.aQ Go.Proofs.aj.aW Go.Y.Given
attribute [local go_sem] dQ dP eD eF dJ dI dS dU
def ji.T1 : Bool × List (List Nat × List Nat) := (true, [([], []), ([0], [0]), ([], []), ([2], [2]), ([1, 3], [1, 3]), ([], []), ([5], [5]), ([6], [6]), ([4, 7], [4, 7]), ([], []), ([9], [9]), ([10, 7], [10]), ([8, 11], [8, 11]), ([], []), ([13], [13]), ([14, 11], [14]), ([12, 15], [12, 15]), ([], []), ([17], [17]), ([18, 15], [18]), ([16, 19], [16, 19]), ([], []), ([21], [21]), ([22, 19], [22]), ([20, 23], [20, 23]), ([24, 23, 0, 1, 2, 3, 4, 5, 6, 7, 8, 9, 10, 11, 12, 13, 14, 15, 16, 17, 18, 19, 20, 21, 22, 23, 24], [24])])
def ji.B1 : List Nat := [0, 1, 0, 4, 15, 0, 32, 96, 255, 0, 512, 1760, 4095, 0, 8192, 28384, 65535, 0, 131072, 454368, 1048575, 0, 2097152, 7270112, 16777215, 33554431]
theorem ji.Dr : iy .any (opsOf Tryz.f78 1) = ji.T1 := by kernel_rfl
theorem ji.yX : iX ji.T1.2 ji.B1 = true := by kernel_rfl
mutual
def aX.j0 : Nat → List ByteArray → List ByteArray → Bool → Option (Int)
 | 0, _, _, _ => none
 | k + 1, x5, x7, x29 => if x29 = true then (some 0) else (aX.l0 k x5 x7 1)
def aX.l0 : Nat → List ByteArray → List ByteArray → Int → Option (Int)
 | 0, _, _, _ => none
 | k + 1, x5, x7, x9 => if x9 ≤ (x5.length : Int) then (aX.j2 k x5 x7 x9 (decide (x9 ≤ (x7.length : Int)))) else (aX.j2 k x5 x7 x9 false)
def aX.j2 : Nat → List ByteArray → List ByteArray → Int → Bool → Option (Int)
 | 0, _, _, _, _ => none
 | k + 1, x5, x7, x9, x39 => if x39 = true then (if 0 ≤ (wrap64 ((x5.length : Int) - x9)) then (if (wrap64 ((x5.length : Int) - x9)) < (x5.length : Int) then (if 0 ≤ (wrap64 ((x7.length : Int) - x9)) then (if (wrap64 ((x7.length : Int) - x9)) < (x7.length : Int) then (if (Op.bytesLess ((bB ByteArray.empty x5 (wrap64 ((x5.length : Int) - x9))).toList) ((bB ByteArray.empty x7 (wrap64 ((x7.length : Int) - x9))).toList)) = true then (some (-1)) else (if (Op.bytesLess ((bB ByteArray.empty x7 (wrap64 ((x7.length : Int) - x9))).toList) ((bB ByteArray.empty x5 (wrap64 ((x5.length : Int) - x9))).toList)) = true then (some 1) else (aX.l0 k x5 x7 (wrap64 (x9 + 1))))) else (none)) else (none)) else (none)) else (none)) else (if (x5.length : Int) < (x7.length : Int) then (some (-1)) else (if (x5.length : Int) > (x7.length : Int) then (some 1) else (some 0)))
end
def aX.f (k : Nat) (a0 : ByteArray) (a1 : ByteArray) : Option (Int) := (aH.f k a0).bind fun t317 => ((aN.f k t317).bind fun bt318 => ((aH.f k a1).bind fun t322 => ((aN.f k t322).bind fun bt323 => (if bt318.2 = true then (aX.j0 k bt318.1 bt323.1 (!bt323.2)) else (aX.j0 k bt318.1 bt323.1 true)))))
theorem aX.calls (k : Nat) (a0 : ByteArray) (a1 : ByteArray) (r : Int) (w : World) (h : aX.f k a0 a1 = some r) :
    Calls Tryz.prog 135 #[.string a0, .string a1] w fun e w' => e = .returned (.int .i64 r) ∧ Below w.heap.size w w' := by
  have HB := ah.mk (Below.refl w.heap.size w)
  have H : ((aH.f k a0).bind fun t317 => ((aN.f k t317).bind fun bt318 => ((aH.f k a1).bind fun t322 => ((aN.f k t322).bind fun bt323 => (if bt318.2 = true then (aX.j0 k bt318.1 bt323.1 (!bt323.2)) else (aX.j0 k bt318.1 bt323.1 true)))))) = some r := h
  clear h
  obtain ⟨t317, A3, H⟩ := cK H
  replace H := Option.bind_eq_some_iff.mp H
  obtain ⟨⟨t318, t319⟩, A40, H⟩ := H
  replace H : ((aH.f k a1).bind fun t322 => ((aN.f k t322).bind fun bt323 => (if t319 = true then (aX.j0 k t318 bt323.1 (!bt323.2)) else (aX.j0 k t318 bt323.1 true)))) = some r := H
  have A4 := ah.mk A40
  clear A40
  obtain ⟨t322, A5, H⟩ := cK H
  replace H := Option.bind_eq_some_iff.mp H
  obtain ⟨⟨t323, t324⟩, A60, H⟩ := H
  replace H : (if t319 = true then (aX.j0 k t318 t323 (!t324)) else (aX.j0 k t318 t323 true)) = some r := H
  have A6 := ah.mk A60
  clear A60
  have HC7 := ah.mk H
  clear H
  go_enter Tryz.func135, Tryz.ntmps135
  go_upto_region 3 with (first | (go_at_call 75; (with_reducible refine (aH.calls k a0 t317 _ A3.out).mono ?_); rintro e w8 ⟨rfl, hb⟩; replace HB := ah.mk (av HB.out hb); (try clear hb)) | (go_at_call 115; (with_reducible refine (aN.calls k t317 t318 t319 _ A4.out).mono ?_); rintro e w9 ⟨v320, rfl, ho0, hb⟩; have HO321 := ah.mk (Kd.bZ ho0 (ay HB.out)); replace HB := ah.mk (av HB.out hb); (try clear hb); (try clear ho0)) | (go_at_call 75; (with_reducible refine (aH.calls k a1 t322 _ A5.out).mono ?_); rintro e w10 ⟨rfl, hb⟩; replace HO321 := ah.mk (Kd.bI (by ((exact HO321.out))) hb); replace HB := ah.mk (av HB.out hb); (try clear hb)) | (go_at_call 115; (with_reducible refine (aN.calls k t322 t323 t324 _ A6.out).mono ?_); rintro e w11 ⟨v325, rfl, ho0, hb⟩; have HO326 := ah.mk (Kd.bZ (Kd.jI ho0 (Kd.lI (by ((exact HO321.out))))) (ay HB.out)); replace HO321 := ah.mk (Kd.iI (by ((exact HO321.out))) (Kd.jF ho0) hb); replace HB := ah.mk (av HB.out hb); (try clear hb); (try clear ho0)))
  repeat (go_quiet (((go_at_call 75; (with_reducible refine (aH.calls k a0 t317 _ A3.out).mono ?_); rintro e w8 ⟨rfl, hb⟩; replace HB := ah.mk (av HB.out hb)))); go_upto_region 3 with (((go_at_call 75; (with_reducible refine (aH.calls k a0 t317 _ A3.out).mono ?_); rintro e w8 ⟨rfl, hb⟩; replace HB := ah.mk (av HB.out hb)))))
  go_cut [29] (fun v29 wc => ∃ (kq : Nat) (x29_6 : Bool), v29 = .bool x29_6 ∧ ah (aX.j0 kq t318 t323 x29_6 = some r) ∧ ah (kq ≤ k) ∧ ah (Kd.R Kd.string 9 wc w.heap.size (fun k_ => some k_ ≠ (v325 : Value).ownBlock) v320 t318) ∧ ah (Kd.R Kd.string 9 wc w.heap.size (fun k_ => some k_ ≠ (v320 : Value).ownBlock) v325 t323) ∧ ah (Below w.heap.size w wc))
  case first =>
   have H := HC7.out
   clear HC7
   by_cases c12 : t319 = true
   focus
    subst c12
    rw [if_pos rfl] at H
   rotate_left
   focus
    replace c12 := Bool.eq_false_iff.mpr c12
    subst c12
    rw [if_neg ff_] at H
   rotate_left
   all_goals
    have H' := ah.mk H
    clear H
    go_wp2
    repeat (go_quiet (fail); try go_wp2)
    go_meet
   ·case rel => exact ⟨_, (!t324), (by rfl), H', ⟨by omega⟩, ⟨by (with_reducible repeat ((apply Kd.bf))); exact Kd.dx HO321.out (fun _ hk => hk.2)⟩, ⟨by (with_reducible repeat ((apply Kd.bf))); exact Kd.dx HO326.out (fun _ hk => hk.2)⟩, ⟨HB.out⟩⟩
   ·case rel => exact ⟨_, (true), (by rfl), H', ⟨by omega⟩, ⟨by (with_reducible repeat ((apply Kd.bf))); exact Kd.dx HO321.out (fun _ hk => hk.2)⟩, ⟨by (with_reducible repeat ((apply Kd.bf))); exact Kd.dx HO326.out (fun _ hk => hk.2)⟩, ⟨HB.out⟩⟩
  case rest =>
   clear HC7
   obtain ⟨kq, x29_6, rfl, HA, HJ6, HO_5, HO_7, HB⟩ := hcut
   cases kq with
   | zero => exact absurd HA.out (by simp [aX.j0])
   | succ kj6 =>
    have H := HA.out
    clear HA
    simp only [aX.j0] at H
    by_cases c13 : x29_6 = true
    ·subst c13
     rw [if_pos rfl] at H
     obtain rfl := Option.some.inj H
     go_wp2
     repeat (go_quiet (fail); try go_wp2)
     go_ret
     exact ⟨by rfl, HB.out⟩
    ·replace c13 := Bool.eq_false_iff.mpr c13
     subst c13
     rw [if_neg ff_] at H
     have H' := ah.mk H
     clear H
     go_wp2
     repeat (go_quiet (fail); try go_wp2)
     go_loopg [9] kj6 (fun kq v9 w' => ∃ (x9_2 : Int), v9 = .int .i64 x9_2 ∧ ah (aX.l0 kq t318 t323 x9_2 = some r) ∧ ah (kq ≤ kj6) ∧ ah (Kd.R Kd.string 9 w' w.heap.size (fun k_ => some k_ ≠ (v325 : Value).ownBlock) v320 t318) ∧ ah (Kd.R Kd.string 9 w' w.heap.size (fun k_ => some k_ ≠ (v320 : Value).ownBlock) v325 t323) ∧ ah (Below w.heap.size w w'))
     case atStart => exact ⟨(1), (by rfl), H', ⟨Nat.le_refl _⟩, ⟨by (with_reducible repeat ((apply Kd.bf))); exact HO_5.out⟩, ⟨by (with_reducible repeat ((apply Kd.bf))); exact HO_7.out⟩, ⟨HB.out⟩⟩
     case round =>
      clear H'
      obtain ⟨x9_2, rfl, HA, HK2, HO_5, HO_7, HB⟩ := hrel
      cases gk with
      | zero => exact absurd HA.out (by simp [aX.l0])
      | succ k2 =>
       have H := HA.out
       clear HA
       simp only [aX.l0] at H
       have HC14 := ah.mk H
       clear H
       go_upto_region 6 with (fail)
       repeat (go_quiet (fail); go_upto_region 6 with (fail))
       go_cut [39] (fun v39 wc => ∃ (kq : Nat) (x39_13 : Bool), v39 = .bool x39_13 ∧ ah (aX.j2 kq t318 t323 x9_2 x39_13 = some r) ∧ ah (kq ≤ k2) ∧ ah (Kd.R Kd.string 9 wc w.heap.size (fun k_ => some k_ ≠ (v325 : Value).ownBlock) v320 t318) ∧ ah (Kd.R Kd.string 9 wc w.heap.size (fun k_ => some k_ ≠ (v320 : Value).ownBlock) v325 t323) ∧ ah (Below w.heap.size w wc))
       case first =>
        have H := HC14.out
        clear HC14
        by_cases c15 : x9_2 ≤ (t318.length : Int)
        focus
         rw [if_pos c15] at H
         have c15b0 : decide (x9_2 ≤ (t318.length : Int)) = true := decide_eq_true c15
        rotate_left
        focus
         rw [if_neg c15] at H
         have c15b0 : decide (x9_2 ≤ (t318.length : Int)) = false := decide_eq_false c15
        rotate_left
        all_goals
         clear c15
         (skip)
         have H' := ah.mk H
         clear H
         obtain ⟨Ao16, co16, eo16⟩ := Kd.dn HO_5.out
         subst eo16
        ·obtain ⟨Ao17, co17, eo17⟩ := Kd.dn HO_7.out
         subst eo17
         go_wp2
         repeat (go_quiet (fail); try go_wp2)
         go_meet
         case rel => exact ⟨_, (decide (x9_2 ≤ (t323.length : Int))), (by rfl), H', ⟨by have := HJ6.out; have := HK2.out; omega⟩, ⟨by (with_reducible repeat ((apply Kd.bf))); exact HO_5.out⟩, ⟨by (with_reducible repeat ((apply Kd.bf))); exact HO_7.out⟩, ⟨HB.out⟩⟩
        ·go_wp2
         repeat (go_quiet (fail); try go_wp2)
         go_meet
         case rel => exact ⟨_, (false), (by rfl), H', ⟨by have := HJ6.out; have := HK2.out; omega⟩, ⟨by (with_reducible repeat ((apply Kd.bf))); exact HO_5.out⟩, ⟨by (with_reducible repeat ((apply Kd.bf))); exact HO_7.out⟩, ⟨HB.out⟩⟩
       case rest =>
        clear HC14
        obtain ⟨kq, x39_13, rfl, HA, HJ13, HO_5, HO_7, HB⟩ := hcut
        cases kq with
        | zero => exact absurd HA.out (by simp [aX.j2])
        | succ kj13 =>
         have H := HA.out
         clear HA
         simp only [aX.j2] at H
         by_cases c19 : x39_13 = true
         ·subst c19
          rw [if_pos rfl] at H
          obtain ⟨ji20, hji20⟩ : ∃ j_ : Int, (wrap64 ((t318.length : Int) - x9_2)) = j_ := ⟨_, rfl⟩
          rw [hji20] at H
          have hji20w : (IntKind.i64.wrap ((t318.length : Int) - x9_2)) = ji20 := (gu _).trans hji20
          obtain ⟨c21b0, H⟩ := fq H
          obtain ⟨c22b0, H⟩ := fq H
          obtain ⟨ji23, hji23⟩ : ∃ j_ : Int, (wrap64 ((t323.length : Int) - x9_2)) = j_ := ⟨_, rfl⟩
          rw [hji23] at H
          have hji23w : (IntKind.i64.wrap ((t323.length : Int) - x9_2)) = ji23 := (gu _).trans hji23
          obtain ⟨c24b0, H⟩ := fq H
          obtain ⟨c25b0, H⟩ := fq H
          by_cases c26 : (Op.bytesLess ((bB ByteArray.empty t318 (ji20)).toList) ((bB ByteArray.empty t323 (ji23)).toList)) = true
          focus
           rw [if_pos c26] at H
           have c26b0 : (Op.bytesLess ((bB ByteArray.empty t318 (ji20)).toList) ((bB ByteArray.empty t323 (ji23)).toList)) = true := c26
           have c26b8 : (((bB ByteArray.empty t323 (ji23)).toList) == ((bB ByteArray.empty t318 (ji20)).toList)) = false := tY c26b0
           clear c26
           obtain rfl := Option.some.inj H
          rotate_left
          focus
           rw [if_neg c26] at H
           have c26b0 : (Op.bytesLess ((bB ByteArray.empty t318 (ji20)).toList) ((bB ByteArray.empty t323 (ji23)).toList)) = false := by simpa using c26
           clear c26
           by_cases c29 : (Op.bytesLess ((bB ByteArray.empty t323 (ji23)).toList) ((bB ByteArray.empty t318 (ji20)).toList)) = true
           focus
            rw [if_pos c29] at H
            have c29b0 : (Op.bytesLess ((bB ByteArray.empty t323 (ji23)).toList) ((bB ByteArray.empty t318 (ji20)).toList)) = true := c29
            have c29b8 : (((bB ByteArray.empty t318 (ji20)).toList) == ((bB ByteArray.empty t323 (ji23)).toList)) = false := tY c29b0
            clear c29
            obtain rfl := Option.some.inj H
           rotate_left
           focus
            rw [if_neg c29] at H
            have c29b0 : (Op.bytesLess ((bB ByteArray.empty t323 (ji23)).toList) ((bB ByteArray.empty t318 (ji20)).toList)) = false := by simpa using c29
            (try have c29b8 : (((bB ByteArray.empty t318 (ji20)).toList) == ((bB ByteArray.empty t323 (ji23)).toList)) = true := wR (by assumption) c29b0)
            clear c29
            have H' := ah.mk H
            clear H
           rotate_left
          rotate_left 2
          all_goals
           obtain ⟨Ao27, co27, eo27⟩ := Kd.dn HO_5.out
           subst eo27
           have p327 : 0 ≤ ((ji20) : Int) := of_decide_eq_true (by assumption)
           have q327 : (ji20) < (t318.length : Int) := of_decide_eq_true (by assumption)
           obtain ⟨ad327, e327, hx327_0⟩ := Kd.fU (Kd.aV HO_5.out).2.2 (ji20) p327 q327
           cases e327
           replace p327 := eq_true p327
           replace q327 := eq_true q327
           obtain ⟨Ao28, co28, eo28⟩ := Kd.dn HO_7.out
           subst eo28
           have p328 : 0 ≤ ((ji23) : Int) := of_decide_eq_true (by assumption)
           have q328 : (ji23) < (t323.length : Int) := of_decide_eq_true (by assumption)
           obtain ⟨ad328, e328, hx328_0⟩ := Kd.fU (Kd.aV HO_7.out).2.2 (ji23) p328 q328
           cases e328
           replace p328 := eq_true p328
           replace q328 := eq_true q328
           go_wp2
           repeat (go_quiet (fail); try go_wp2)
          ·go_ret
           exact ⟨by rfl, by repeat ((with_reducible first | exact HB.out | apply bg))⟩
          ·go_ret
           exact ⟨by rfl, by repeat ((with_reducible first | exact HB.out | apply bg))⟩
          ·go_roundg kj13
           case measure => have := HJ6.out; have := HK2.out; have := HJ13.out; omega
           case rel => exact ⟨(wrap64 (x9_2 + 1)), (by rfl), H', ⟨by have := HJ6.out; have := HK2.out; have := HJ13.out; omega⟩, ⟨by (with_reducible repeat ((apply Kd.jA))); exact HO_5.out⟩, ⟨by (with_reducible repeat ((apply Kd.jA))); exact HO_7.out⟩, ⟨by repeat ((with_reducible first | exact HB.out | apply bg))⟩⟩
         ·replace c19 := Bool.eq_false_iff.mpr c19
          subst c19
          rw [if_neg ff_] at H
          by_cases c34 : (t318.length : Int) < (t323.length : Int)
          focus
           rw [if_pos c34] at H
           have c34b0 : decide ((t318.length : Int) < (t323.length : Int)) = true := decide_eq_true c34
           have c34b1 : decide (t318.length < t323.length) = true := decide_eq_true (Int.ofNat_lt.mp c34)
           clear c34
          rotate_left
          focus
           rw [if_neg c34] at H
           have c34b0 : decide ((t318.length : Int) < (t323.length : Int)) = false := decide_eq_false c34
           have c34b1 : decide (t318.length < t323.length) = false := decide_eq_false (fun h => c34 (Int.ofNat_lt.mpr h))
           clear c34
           by_cases c37 : (t318.length : Int) > (t323.length : Int)
           focus
            rw [if_pos c37] at H
            have c37b0 : decide ((t323.length : Int) < (t318.length : Int)) = true := decide_eq_true c37
            have c37b1 : decide (t323.length < t318.length) = true := decide_eq_true (Int.ofNat_lt.mp c37)
           rotate_left
           focus
            rw [if_neg c37] at H
            have c37b0 : decide ((t323.length : Int) < (t318.length : Int)) = false := decide_eq_false c37
            have c37b1 : decide (t323.length < t318.length) = false := decide_eq_false (fun h => c37 (Int.ofNat_lt.mpr h))
           rotate_left
           all_goals
            clear c37
          rotate_left 2
          all_goals
           obtain rfl := Option.some.inj H
           obtain ⟨Ao35, co35, eo35⟩ := Kd.dn HO_5.out
           subst eo35
           obtain ⟨Ao36, co36, eo36⟩ := Kd.dn HO_7.out
           subst eo36
           go_wp2
           repeat (go_quiet (fail); try go_wp2)
           go_ret
           exact ⟨by rfl, HB.out⟩
end Go.Y.PRd
namespace Go.Y.PRd
open Go.Proofs.aj.aD Go.Proofs.aj.aQ Go.Proofs.aj.aW Go.Y.Given
attribute [local go_sem] dQ dP eD eF dJ dI dS dU
mutual
def aU.j0 : Nat → List ByteArray → List ByteArray → Bool → Option (Bool)
 | 0, _, _, _ => none
 | k + 1, x5, x7, x34 => if x34 = true then (some false) else (aU.l0 k x5 x7 0)
def aU.l0 : Nat → List ByteArray → List ByteArray → Int → Option (Bool)
 | 0, _, _, _ => none
 | k + 1, x5, x7, x9 => if x9 < (x7.length : Int) then (if 0 ≤ (wrap64 ((wrap64 ((x5.length : Int) - 1)) - x9)) then (if (wrap64 ((wrap64 ((x5.length : Int) - 1)) - x9)) < (x5.length : Int) then (if 0 ≤ (wrap64 ((wrap64 ((x7.length : Int) - 1)) - x9)) then (if (wrap64 ((wrap64 ((x7.length : Int) - 1)) - x9)) < (x7.length : Int) then (if (bB ByteArray.empty x5 (wrap64 ((wrap64 ((x5.length : Int) - 1)) - x9))).toList = (bB ByteArray.empty x7 (wrap64 ((wrap64 ((x7.length : Int) - 1)) - x9))).toList then (aU.l0 k x5 x7 (wrap64 (x9 + 1))) else (some false)) else (none)) else (none)) else (none)) else (none)) else (some true)
end
def aU.f (k : Nat) (a0 : ByteArray) (a1 : ByteArray) : Option (Bool) := (aH.f k a0).bind fun t329 => ((aN.f k t329).bind fun bt330 => ((aH.f k a1).bind fun t334 => ((aN.f k t334).bind fun bt335 => (if bt330.2 = true then (if bt335.2 = true then (aU.j0 k bt330.1 bt335.1 (decide ((bt330.1.length : Int) < (bt335.1.length : Int)))) else (aU.j0 k bt330.1 bt335.1 true)) else (aU.j0 k bt330.1 bt335.1 true)))))
theorem aU.calls (k : Nat) (a0 : ByteArray) (a1 : ByteArray) (r : Bool) (w : World) (h : aU.f k a0 a1 = some r) :
    Calls Tryz.prog 119 #[.string a0, .string a1] w fun e w' => e = .returned (.bool r) ∧ Below w.heap.size w w' := by
  have HB := ah.mk (Below.refl w.heap.size w)
  have H : ((aH.f k a0).bind fun t329 => ((aN.f k t329).bind fun bt330 => ((aH.f k a1).bind fun t334 => ((aN.f k t334).bind fun bt335 => (if bt330.2 = true then (if bt335.2 = true then (aU.j0 k bt330.1 bt335.1 (decide ((bt330.1.length : Int) < (bt335.1.length : Int)))) else (aU.j0 k bt330.1 bt335.1 true)) else (aU.j0 k bt330.1 bt335.1 true)))))) = some r := h
  clear h
  obtain ⟨t329, A3, H⟩ := cK H
  replace H := Option.bind_eq_some_iff.mp H
  obtain ⟨⟨t330, t331⟩, A40, H⟩ := H
  replace H : ((aH.f k a1).bind fun t334 => ((aN.f k t334).bind fun bt335 => (if t331 = true then (if bt335.2 = true then (aU.j0 k t330 bt335.1 (decide ((t330.length : Int) < (bt335.1.length : Int)))) else (aU.j0 k t330 bt335.1 true)) else (aU.j0 k t330 bt335.1 true)))) = some r := H
  have A4 := ah.mk A40
  clear A40
  obtain ⟨t334, A5, H⟩ := cK H
  replace H := Option.bind_eq_some_iff.mp H
  obtain ⟨⟨t335, t336⟩, A60, H⟩ := H
  replace H : (if t331 = true then (if t336 = true then (aU.j0 k t330 t335 (decide ((t330.length : Int) < (t335.length : Int)))) else (aU.j0 k t330 t335 true)) else (aU.j0 k t330 t335 true)) = some r := H
  have A6 := ah.mk A60
  clear A60
  have HC7 := ah.mk H
  clear H
  go_enter Tryz.func119, Tryz.ntmps119
  go_upto_region 3 with (first | (go_at_call 75; (with_reducible refine (aH.calls k a0 t329 _ A3.out).mono ?_); rintro e w8 ⟨rfl, hb⟩; replace HB := ah.mk (av HB.out hb); (try clear hb)) | (go_at_call 115; (with_reducible refine (aN.calls k t329 t330 t331 _ A4.out).mono ?_); rintro e w9 ⟨v332, rfl, ho0, hb⟩; have HO333 := ah.mk (Kd.bZ ho0 (ay HB.out)); replace HB := ah.mk (av HB.out hb); (try clear hb); (try clear ho0)) | (go_at_call 75; (with_reducible refine (aH.calls k a1 t334 _ A5.out).mono ?_); rintro e w10 ⟨rfl, hb⟩; replace HO333 := ah.mk (Kd.bI (by ((exact HO333.out))) hb); replace HB := ah.mk (av HB.out hb); (try clear hb)) | (go_at_call 115; (with_reducible refine (aN.calls k t334 t335 t336 _ A6.out).mono ?_); rintro e w11 ⟨v337, rfl, ho0, hb⟩; have HO338 := ah.mk (Kd.bZ (Kd.jI ho0 (Kd.lI (by ((exact HO333.out))))) (ay HB.out)); replace HO333 := ah.mk (Kd.iI (by ((exact HO333.out))) (Kd.jF ho0) hb); replace HB := ah.mk (av HB.out hb); (try clear hb); (try clear ho0)))
  repeat (go_quiet (((go_at_call 75; (with_reducible refine (aH.calls k a0 t329 _ A3.out).mono ?_); rintro e w8 ⟨rfl, hb⟩; replace HB := ah.mk (av HB.out hb)))); go_upto_region 3 with (((go_at_call 75; (with_reducible refine (aH.calls k a0 t329 _ A3.out).mono ?_); rintro e w8 ⟨rfl, hb⟩; replace HB := ah.mk (av HB.out hb)))))
  go_cut [34] (fun v34 wc => ∃ (kq : Nat) (x34_6 : Bool), v34 = .bool x34_6 ∧ ah (aU.j0 kq t330 t335 x34_6 = some r) ∧ ah (kq ≤ k) ∧ ah (Kd.R Kd.string 9 wc w.heap.size (fun k_ => some k_ ≠ (v337 : Value).ownBlock) v332 t330) ∧ ah (Kd.R Kd.string 9 wc w.heap.size (fun k_ => some k_ ≠ (v332 : Value).ownBlock) v337 t335) ∧ ah (Below w.heap.size w wc))
  case first =>
   have H := HC7.out
   clear HC7
   by_cases c12 : t331 = true
   ·subst c12
    rw [if_pos rfl] at H
    by_cases c13 : t336 = true
    ·subst c13
     rw [if_pos rfl] at H
     have H' := ah.mk H
     clear H
     obtain ⟨Ao14, co14, eo14⟩ := Kd.dn HO333.out
     subst eo14
     obtain ⟨Ao15, co15, eo15⟩ := Kd.dn HO338.out
     subst eo15
     go_wp2
     repeat (go_quiet (fail); try go_wp2)
     go_meet
     case rel => exact ⟨_, (decide ((t330.length : Int) < (t335.length : Int))), (by (simp; done)), H', ⟨by omega⟩, ⟨by (with_reducible repeat ((apply Kd.bf))); exact Kd.dx HO333.out (fun _ hk => hk.2)⟩, ⟨by (with_reducible repeat ((apply Kd.bf))); exact Kd.dx HO338.out (fun _ hk => hk.2)⟩, ⟨HB.out⟩⟩
    ·replace c13 := Bool.eq_false_iff.mpr c13
     subst c13
     rw [if_neg ff_] at H
     have H' := ah.mk H
     clear H
     go_wp2
     repeat (go_quiet (fail); try go_wp2)
     go_meet
     case rel => exact ⟨_, (true), (by rfl), H', ⟨by omega⟩, ⟨by (with_reducible repeat ((apply Kd.bf))); exact Kd.dx HO333.out (fun _ hk => hk.2)⟩, ⟨by (with_reducible repeat ((apply Kd.bf))); exact Kd.dx HO338.out (fun _ hk => hk.2)⟩, ⟨HB.out⟩⟩
   ·replace c12 := Bool.eq_false_iff.mpr c12
    subst c12
    rw [if_neg ff_] at H
    have H' := ah.mk H
    clear H
    go_wp2
    repeat (go_quiet (fail); try go_wp2)
    go_meet
    case rel => exact ⟨_, (true), (by rfl), H', ⟨by omega⟩, ⟨by (with_reducible repeat ((apply Kd.bf))); exact Kd.dx HO333.out (fun _ hk => hk.2)⟩, ⟨by (with_reducible repeat ((apply Kd.bf))); exact Kd.dx HO338.out (fun _ hk => hk.2)⟩, ⟨HB.out⟩⟩
  case rest =>
   clear HC7
   obtain ⟨kq, x34_6, rfl, HA, HJ6, HO_5, HO_7, HB⟩ := hcut
   cases kq with
   | zero => exact absurd HA.out (by simp [aU.j0])
   | succ kj6 =>
    have H := HA.out
    clear HA
    simp only [aU.j0] at H
    by_cases c16 : x34_6 = true
    ·subst c16
     rw [if_pos rfl] at H
     obtain rfl := Option.some.inj H
     go_wp2
     repeat (go_quiet (fail); try go_wp2)
     go_ret
     exact ⟨by rfl, HB.out⟩
    ·replace c16 := Bool.eq_false_iff.mpr c16
     subst c16
     rw [if_neg ff_] at H
     have H' := ah.mk H
     clear H
     go_wp2
     repeat (go_quiet (fail); try go_wp2)
     go_loopg [9] kj6 (fun kq v9 w' => ∃ (x9_2 : Int), v9 = .int .i64 x9_2 ∧ ah (aU.l0 kq t330 t335 x9_2 = some r) ∧ ah (kq ≤ kj6) ∧ ah (Kd.R Kd.string 9 w' w.heap.size (fun k_ => some k_ ≠ (v337 : Value).ownBlock) v332 t330) ∧ ah (Kd.R Kd.string 9 w' w.heap.size (fun k_ => some k_ ≠ (v332 : Value).ownBlock) v337 t335) ∧ ah (Below w.heap.size w w'))
     case atStart => exact ⟨(0), (by rfl), H', ⟨Nat.le_refl _⟩, ⟨by (with_reducible repeat ((apply Kd.bf))); exact HO_5.out⟩, ⟨by (with_reducible repeat ((apply Kd.bf))); exact HO_7.out⟩, ⟨HB.out⟩⟩
     case round =>
      clear H'
      obtain ⟨x9_2, rfl, HA, HK2, HO_5, HO_7, HB⟩ := hrel
      cases gk with
      | zero => exact absurd HA.out (by simp [aU.l0])
      | succ k2 =>
       have H := HA.out
       clear HA
       simp only [aU.l0] at H
       by_cases c17 : x9_2 < (t335.length : Int)
       ·rw [if_pos c17] at H
        have c17b0 : decide (x9_2 < (t335.length : Int)) = true := decide_eq_true c17
        clear c17
        obtain ⟨ji18, hji18⟩ : ∃ j_ : Int, (wrap64 ((wrap64 ((t330.length : Int) - 1)) - x9_2)) = j_ := ⟨_, rfl⟩
        rw [hji18] at H
        have hji18w : (IntKind.i64.wrap ((wrap64 ((t330.length : Int) - 1)) - x9_2)) = ji18 := (gu _).trans hji18
        obtain ⟨c19b0, H⟩ := fq H
        obtain ⟨c20b0, H⟩ := fq H
        obtain ⟨ji21, hji21⟩ : ∃ j_ : Int, (wrap64 ((wrap64 ((t335.length : Int) - 1)) - x9_2)) = j_ := ⟨_, rfl⟩
        rw [hji21] at H
        have hji21w : (IntKind.i64.wrap ((wrap64 ((t335.length : Int) - 1)) - x9_2)) = ji21 := (gu _).trans hji21
        obtain ⟨c22b0, H⟩ := fq H
        obtain ⟨c23b0, H⟩ := fq H
        by_cases c24 : (bB ByteArray.empty t330 (ji18)).toList = (bB ByteArray.empty t335 (ji21)).toList
        focus
         rw [if_pos c24] at H
         have c24b0 : ((bB ByteArray.empty t330 (ji18)).toList == (bB ByteArray.empty t335 (ji21)).toList) = true := beq_iff_eq.mpr c24
         have c24b1 : ((bB ByteArray.empty t330 (ji18)).toList != (bB ByteArray.empty t335 (ji21)).toList) = false := bne_eq_false_iff_eq.mpr c24
         clear c24
         have H' := ah.mk H
         clear H
        rotate_left
        focus
         rw [if_neg c24] at H
         have c24b0 : ((bB ByteArray.empty t330 (ji18)).toList == (bB ByteArray.empty t335 (ji21)).toList) = false := beq_eq_false_iff_ne.mpr c24
         have c24b1 : ((bB ByteArray.empty t330 (ji18)).toList != (bB ByteArray.empty t335 (ji21)).toList) = true := bne_iff_ne.mpr c24
         obtain rfl := Option.some.inj H
        rotate_left
        all_goals
         obtain ⟨Ao25, co25, eo25⟩ := Kd.dn HO_7.out
         subst eo25
         obtain ⟨Ao26, co26, eo26⟩ := Kd.dn HO_5.out
         subst eo26
         have p339 : 0 ≤ ((ji18) : Int) := of_decide_eq_true (by assumption)
         have q339 : (ji18) < (t330.length : Int) := of_decide_eq_true (by assumption)
         obtain ⟨ad339, e339, hx339_0⟩ := Kd.fU (Kd.aV HO_5.out).2.2 (ji18) p339 q339
         cases e339
         replace p339 := eq_true p339
         replace q339 := eq_true q339
         have p340 : 0 ≤ ((ji21) : Int) := of_decide_eq_true (by assumption)
         have q340 : (ji21) < (t335.length : Int) := of_decide_eq_true (by assumption)
         obtain ⟨ad340, e340, hx340_0⟩ := Kd.fU (Kd.aV HO_7.out).2.2 (ji21) p340 q340
         cases e340
         replace p340 := eq_true p340
         replace q340 := eq_true q340
         go_wp2
         repeat (go_quiet (fail); try go_wp2)
        ·go_roundg k2
         case measure => have := HJ6.out; have := HK2.out; omega
         case rel => exact ⟨(wrap64 (x9_2 + 1)), (by rfl), H', ⟨by have := HJ6.out; have := HK2.out; omega⟩, ⟨by (with_reducible repeat ((apply Kd.jA))); exact HO_5.out⟩, ⟨by (with_reducible repeat ((apply Kd.jA))); exact HO_7.out⟩, ⟨by repeat ((with_reducible first | exact HB.out | apply bg))⟩⟩
        ·go_ret
         exact ⟨by rfl, by repeat ((with_reducible first | exact HB.out | apply bg))⟩
       ·rw [if_neg c17] at H
        have c17b0 : decide (x9_2 < (t335.length : Int)) = false := decide_eq_false c17
        clear c17
        obtain rfl := Option.some.inj H
        obtain ⟨Ao29, co29, eo29⟩ := Kd.dn HO_7.out
        subst eo29
        go_wp2
        repeat (go_quiet (fail); try go_wp2)
        go_ret
        exact ⟨by rfl, HB.out⟩
def dK.f (k : Nat) (a0 : ByteArray) (a1 : ByteArray) : Option (Bool) := (bO.f k a0).bind fun t341 => (if t341 = true then ((bO.f k a1).bind fun t342 => (if t342 = true then ((aH.f k a0).bind fun t343 => ((aH.f k a1).bind fun t344 => (some (t343.toList == t344.toList)))) else (some false))) else (some false))
theorem dK.calls (k : Nat) (a0 : ByteArray) (a1 : ByteArray) (r : Bool) (w : World) (h : dK.f k a0 a1 = some r) :
    Calls Tryz.prog 44 #[.string a0, .string a1] w fun e w' => e = .returned (.bool r) ∧ Below w.heap.size w w' := by
  have HB := ah.mk (Below.refl w.heap.size w)
  have H : ((bO.f k a0).bind fun t341 => (if t341 = true then ((bO.f k a1).bind fun t342 => (if t342 = true then ((aH.f k a0).bind fun t343 => ((aH.f k a1).bind fun t344 => (some (t343.toList == t344.toList)))) else (some false))) else (some false))) = some r := h
  clear h
  obtain ⟨t341, A3, H⟩ := cK H
  by_cases c4 : t341 = true
  focus
   subst c4
   rw [if_pos rfl] at H
   obtain ⟨t342, A5, H⟩ := cK H
   by_cases c6 : t342 = true
   focus
    subst c6
    rw [if_pos rfl] at H
    obtain ⟨t343, A7, H⟩ := cK H
    obtain ⟨t344, A8, H⟩ := cK H
   rotate_left
   focus
    replace c6 := Bool.eq_false_iff.mpr c6
    subst c6
    rw [if_neg ff_] at H
   rotate_left
  rotate_left 2
  focus
   replace c4 := Bool.eq_false_iff.mpr c4
   subst c4
   rw [if_neg ff_] at H
  rotate_left
  all_goals
   obtain rfl := Option.some.inj H
   go_enter Tryz.func44, Tryz.ntmps44
  focus
   go_wp2_with (first | ((with_reducible refine dZ (f := 67) rfl ?_); refine gT (some 6) rfl rfl Tryz.func67 (by kernel_rfl) rfl #[.string a0] rfl (by (try simp only [mA_, mC_, mN_]); rfl) ?_; (with_reducible refine (bO.calls k a0 _ _ A3.out).mono ?_); rintro e w9 ⟨rfl, hb⟩; refine ⟨_, rfl, ?_⟩; replace HB := ah.mk (av HB.out hb); (try clear hb)) | (go_at_call 67; (with_reducible refine (bO.calls k a1 _ _ A5.out).mono ?_); rintro e w10 ⟨rfl, hb⟩; replace HB := ah.mk (av HB.out hb); (try clear hb)) | (go_at_call 75; (with_reducible refine (aH.calls k a0 t343 _ A7.out).mono ?_); rintro e w11 ⟨rfl, hb⟩; replace HB := ah.mk (av HB.out hb); (try clear hb)) | (go_at_call 75; (with_reducible refine (aH.calls k a1 t344 _ A8.out).mono ?_); rintro e w12 ⟨rfl, hb⟩; replace HB := ah.mk (av HB.out hb); (try clear hb)))
  rotate_left
  focus
   go_wp2_with (first | ((with_reducible refine dZ (f := 67) rfl ?_); refine gT (some 6) rfl rfl Tryz.func67 (by kernel_rfl) rfl #[.string a0] rfl (by (try simp only [mA_, mC_, mN_]); rfl) ?_; (with_reducible refine (bO.calls k a0 _ _ A3.out).mono ?_); rintro e w13 ⟨rfl, hb⟩; refine ⟨_, rfl, ?_⟩; replace HB := ah.mk (av HB.out hb); (try clear hb)) | (go_at_call 67; (with_reducible refine (bO.calls k a1 _ _ A5.out).mono ?_); rintro e w14 ⟨rfl, hb⟩; replace HB := ah.mk (av HB.out hb); (try clear hb)))
  rotate_left
  focus
   go_wp2_with ((((with_reducible refine dZ (f := 67) rfl ?_); refine gT (some 6) rfl rfl Tryz.func67 (by kernel_rfl) rfl #[.string a0] rfl (by (try simp only [mA_, mC_, mN_]); rfl) ?_; (with_reducible refine (bO.calls k a0 _ _ A3.out).mono ?_); rintro e w15 ⟨rfl, hb⟩; refine ⟨_, rfl, ?_⟩; replace HB := ah.mk (av HB.out hb); (try clear hb))))
  rotate_left
  all_goals
   go_ret
   exact ⟨by rfl, HB.out⟩
def dh.l0 : Nat → List ByteArray → List ByteArray → Int → Option (Bool)
 | 0, _, _, _ => none
 | k + 1, x0, x1, x5 => if x5 < (x0.length : Int) then (if 0 ≤ x5 then (if x5 < (x1.length : Int) then (if (bB ByteArray.empty x0 x5).toList = (bB ByteArray.empty x1 x5).toList then (dh.l0 k x0 x1 (wrap64 (x5 + 1))) else (some false)) else (none)) else (none)) else (some true)
def dh.f (k : Nat) (l0 : List ByteArray) (l1 : List ByteArray) : Option (Bool) := if (l0.length : Int) = (l1.length : Int) then (dh.l0 k l0 l1 0) else (some false)
theorem dh.calls (k : Nat) (A0 : Option Addr) (c0 : Nat) (l0 : List ByteArray) (A1 : Option Addr) (c1 : Nat) (l1 : List ByteArray) (r : Bool) (w : World) (hr0 : Kd.C Kd.string w A0 l0.length l0) (hc0 : l0.length ≤ c0) (hr1 : Kd.C Kd.string w A1 l1.length l1) (hc1 : l1.length ≤ c1) (h : dh.f k l0 l1 = some r) :
    Calls Tryz.prog 24 #[.slice A0 l0.length c0, .slice A1 l1.length c1] w fun e w' => e = .returned (.bool r) ∧ aZ w w' := by
  have HR0 := ah.mk hr0
  have HC0 := ah.mk hc0
  clear hr0 hc0
  have HR1 := ah.mk hr1
  have HC1 := ah.mk hc1
  clear hr1 hc1
  have H : (if (l0.length : Int) = (l1.length : Int) then (dh.l0 k l0 l1 0) else (some false)) = some r := h
  clear h
  by_cases c3 : (l0.length : Int) = (l1.length : Int)
  focus
   rw [if_pos c3] at H
   have c3b0 : ((l0.length : Int) == (l1.length : Int)) = true := beq_iff_eq.mpr c3
   have c3b1 : ((l0.length : Int) != (l1.length : Int)) = false := bne_eq_false_iff_eq.mpr c3
   have c3b2 : (l0.length == l1.length) = true := by (simp at c3 ⊢; omega)
   clear c3
   have H' := ah.mk H
   clear H
  rotate_left
  focus
   rw [if_neg c3] at H
   have c3b0 : ((l0.length : Int) == (l1.length : Int)) = false := beq_eq_false_iff_ne.mpr c3
   have c3b1 : ((l0.length : Int) != (l1.length : Int)) = true := bne_iff_ne.mpr c3
   have c3b2 : (l0.length == l1.length) = false := by (simp at c3 ⊢; omega)
   obtain rfl := Option.some.inj H
  rotate_left
  all_goals
   go_enter Tryz.func24, Tryz.ntmps24
   go_wp2
   repeat (go_quiet (fail); try go_wp2)
  ·go_loopg [5] k (fun kq v5 w' => ∃ (x5_1 : Int), v5 = .int .i64 x5_1 ∧ ah (dh.l0 kq l0 l1 x5_1 = some r) ∧ ah (kq ≤ k) ∧ aZ w w')
   case atStart => exact ⟨(0), (by rfl), H', ⟨Nat.le_refl _⟩, by repeat ((exact aZ.refl _))⟩
   case round =>
    clear H'
    (try clear c3b0)
    (try clear c3b1)
    (try clear c3b2)
    obtain ⟨x5_1, rfl, HA, HK1, ⟨m1, rfl⟩⟩ := hrel
    cases gk with
    | zero => exact absurd HA.out (by simp [dh.l0])
    | succ k1 =>
     have H := HA.out
     clear HA
     simp only [dh.l0] at H
     by_cases c4 : x5_1 < (l0.length : Int)
     ·rw [if_pos c4] at H
      have c4b0 : decide (x5_1 < (l0.length : Int)) = true := decide_eq_true c4
      clear c4
      obtain ⟨c5b0, H⟩ := fq H
      obtain ⟨c6b0, H⟩ := fq H
      by_cases c7 : (bB ByteArray.empty l0 x5_1).toList = (bB ByteArray.empty l1 x5_1).toList
      focus
       rw [if_pos c7] at H
       have c7b0 : ((bB ByteArray.empty l0 x5_1).toList == (bB ByteArray.empty l1 x5_1).toList) = true := beq_iff_eq.mpr c7
       have c7b1 : ((bB ByteArray.empty l0 x5_1).toList != (bB ByteArray.empty l1 x5_1).toList) = false := bne_eq_false_iff_eq.mpr c7
       clear c7
       have H' := ah.mk H
       clear H
      rotate_left
      focus
       rw [if_neg c7] at H
       have c7b0 : ((bB ByteArray.empty l0 x5_1).toList == (bB ByteArray.empty l1 x5_1).toList) = false := beq_eq_false_iff_ne.mpr c7
       have c7b1 : ((bB ByteArray.empty l0 x5_1).toList != (bB ByteArray.empty l1 x5_1).toList) = true := bne_iff_ne.mpr c7
       obtain rfl := Option.some.inj H
      rotate_left
      all_goals
       have p345 : 0 ≤ (x5_1 : Int) := of_decide_eq_true (by assumption)
       have q345 : x5_1 < (l0.length : Int) := of_decide_eq_true (by assumption)
       obtain ⟨ad345, e345, hx345_0⟩ := Kd.fU HR0.out x5_1 p345 q345
       cases e345
       replace p345 := eq_true p345
       replace q345 := eq_true q345
       have p346 : 0 ≤ (x5_1 : Int) := of_decide_eq_true (by assumption)
       have q346 : x5_1 < (l1.length : Int) := of_decide_eq_true (by assumption)
       obtain ⟨ad346, e346, hx346_0⟩ := Kd.fU HR1.out x5_1 p346 q346
       cases e346
       replace p346 := eq_true p346
       replace q346 := eq_true q346
       go_wp2
       repeat (go_quiet (fail); try go_wp2)
      ·go_roundg k1
       case measure => have := HK1.out; omega
       case rel => exact ⟨(wrap64 (x5_1 + 1)), (by rfl), H', ⟨by have := HK1.out; omega⟩, by repeat (first | exact aZ.refl _ | apply aZ.step)⟩
      ·go_ret
       exact ⟨by rfl, by repeat (first | exact aZ.refl _ | apply aZ.step)⟩
     ·rw [if_neg c4] at H
      have c4b0 : decide (x5_1 < (l0.length : Int)) = false := decide_eq_false c4
      clear c4
      obtain rfl := Option.some.inj H
      go_wp2
      repeat (go_quiet (fail); try go_wp2)
      go_ret
      exact ⟨by rfl, by repeat (first | exact aZ.refl _ | apply aZ.step)⟩
  ·go_ret
   exact ⟨by rfl, by repeat ((exact aZ.refl _))⟩
end Go.Y.PRd
namespace Go.Y.gL
open Go.Y.PRd Go.Proofs.aj.aD Go.Proofs.aj.aQ Go.Proofs.aj.aW Go.Y.Given Go.Y.Oct Go.Y.Name Go.Y.Cmp
theorem qH {x : Int} (h0 : 0 ≤ x) (h1 : x < 18446744073709551616) : IntKind.u64.wrap x = x := by
 simp only [IntKind.wrap, IntKind.bits, IntKind.signed]; simp; omega
theorem cu {x : Int} (h0 : -9223372036854775808 ≤ x) (h1 : x ≤ 9223372036854775807) : wrap64 x = x := by unfold wrap64; omega
theorem jr (l : List ByteArray) (i : Nat) (h : i < l.length) : bB ByteArray.empty l (i : Int) = l[i] := by
 unfold bB; rw [Int.toNat_natCast, List.getD_eq_getElem?_getD, List.getElem?_eq_getElem h]; rfl
theorem jQ (b : ByteArray) (i : Nat) (h : i < b.size) : bt b (i : Int) = ((b.data.toList[i]'(by rw [bS]; exact h)).toNat : Int) := by
 unfold bt
 rw [Int.toNat_natCast, dif_pos h]; rfl
def okR (r : ByteArray) : Bool := decide (jD r (fP r.size r) = iw)
theorem oL {b : ByteArray} {i : Nat} (h : i < b.size) : (b.extract i b.size).data.toList = b.data.toList[i]'(by rw [bS]; exact h) :: b.data.toList.drop (i + 1) := by
 rw [kN]; exact List.drop_eq_getElem_cons _
theorem Fa {b : ByteArray} {i : Nat} (h : i < b.size) : beN ((b.extract i b.size).data.toList.take 1) = (b.data.toList[i]'(by rw [bS]; exact h)).toNat := by
 rw [oL h]; simp [beN]
theorem xZ {b : ByteArray} {i : Nat} (h : i < b.size) : fG (b.extract i b.size) 1 = if (b.data.toList[i]'(by rw [bS]; exact h)).toNat ≤ b.size - i - 1 then
  some (b.extract (i + 1) (i + 1 + (b.data.toList[i]'(by rw [bS]; exact h)).toNat), b.extract (i + 1 + (b.data.toList[i]'(by rw [bS]; exact h)).toNat) b.size) else none := by
 unfold fG
 rw [if_pos (by rw [iF]; omega), Fa h, iF]
 split
 ·congr 2
  ·apply gM
   rw [jR, jR, kN, List.drop_drop]
  ·apply gM
   rw [show b.size - i = (b.extract i b.size).size from (iF b i).symm, kN, kN, kN, List.drop_drop, Nat.add_assoc]
 ·rfl
theorem Gq {b : ByteArray} {i : Nat} (h : i < b.size) : b.extract i b.size = iw ↔ ((b.data.toList[i]'(by rw [bS]; exact h)).toNat = 0 ∧ i + 1 = b.size) := by
 constructor
 ·intro e
  have h1 := congrArg (fun x => x.data.toList) e
  have h2 := congrArg ByteArray.size e
  rw [iF, show iw.size = 1 from rfl] at h2
  simp only [oL h] at h1
  have : b.data.toList[i]'(by rw [bS]; exact h) = 0 := by
   have h3 : iw.data.toList = [0] := rfl
   rw [h3] at h1
   exact (List.cons.inj h1).1
  exact ⟨by rw [this]; rfl, by omega⟩
 ·rintro ⟨h1, h2⟩
  apply gM
  rw [oL h, List.drop_of_length_le (by rw [bS]; omega)]
  have : b.data.toList[i]'(by rw [bS]; exact h) = 0 := UInt8.toNat_inj.mp (by rw [h1]; rfl)
  rw [this]; rfl
theorem vJ (b : ByteArray) (hb : b.size ≤ 255) : ∀ (d i k : Nat) (acc : List ByteArray), b.size - i ≤ d → i ≤ b.size → 2 * d + 3 ≤ k → acc.length + d ≤ 100000 →
  ∃ l, aN.l0 k b acc (i : Int) = some (l, okR (b.extract i b.size)) ∧ (okR (b.extract i b.size) = true → l = acc ++ (fP (b.extract i b.size).size (b.extract i b.size)).map (·.1)) := by
 intro d
 induction d with
 | zero =>
  intro i k acc hd hi hk ha
  obtain rfl : i = b.size := by omega
  obtain ⟨k, rfl⟩ : ∃ j, k = j + 2 := ⟨k - 2, by omega⟩
  have hz : (b.extract b.size b.size).size = 0 := by rw [iF]; omega
  have hn : okR (b.extract b.size b.size) = false := by
   unfold okR
   rw [hz]
   exact decide_eq_false (fun h => by have := congrArg ByteArray.size (show b.extract b.size b.size = iw from h); rw [hz] at this; exact absurd this (by decide))
  rw [hn, aN.l0, if_neg (by omega), aN.j1, if_neg (by decide), if_neg (by rw [cu (by omega) (by omega)]; omega)]
  exact ⟨_, rfl, fun h => absurd h (by decide)⟩
 | succ d ih =>
  intro i k acc hd hi hk ha
  obtain ⟨k, rfl⟩ : ∃ j, k = j + 2 := ⟨k - 2, by omega⟩
  by_cases hlt : i < b.size
  ·have hbt := jQ b i hlt
   have hcut := xZ hlt
   have hroot := Gq hlt
   have hc := UInt8.toNat_lt (b.data.toList[i]'(by rw [bS]; exact hlt))
   generalize (b.data.toList[i]'(by rw [bS]; exact hlt)).toNat = m at hbt hcut hroot hc
   have hsz : (b.extract i b.size).size = b.size - i := iF b i
   rw [aN.l0, if_pos (by omega), if_pos (by omega), hbt]
   have stop : ∀ (_ : fP (b.extract i b.size).size (b.extract i b.size) = []) (_ : ¬ b.extract i b.size = iw), okR (b.extract i b.size) = false := fun h h' => by
    unfold okR; rw [h]; exact decide_eq_false h'
   by_cases h0 : m = 0
   ·rw [decide_eq_false (by omega), aN.j1, if_neg (by decide), hbt, cu (by omega) (by omega)]
    by_cases hend : i + 1 = b.size
    ·have hr := hroot.mpr ⟨h0, hend⟩
     have hok : okR (b.extract i b.size) = true := by unfold okR; rw [hr]; rfl
     rw [if_pos (by omega), if_pos (by omega), if_pos (by omega), hok]
     refine ⟨acc, by rw [h0]; rfl, fun _ => ?_⟩
     rw [sD hr]; simp
    ·have hr : ¬ b.extract i b.size = iw := fun h => hend (hroot.mp h).2
     rw [if_pos (by omega)] at hcut
     have hl := pJ hcut (.inl (by rw [ByteArray.size_extract]; omega))
     rw [stop hl hr, if_neg (by omega)]
     exact ⟨_, rfl, fun h => absurd h (by decide)⟩
   ·have hr : ¬ b.extract i b.size = iw := fun h => h0 (hroot.mp h).1
    rw [decide_eq_true (by omega), aN.j1, if_pos rfl, if_pos (by omega), if_pos (by omega), hbt, cu (x := (m : Int)) (by omega) (by omega), cu (x := (i : Int) + 1) (by omega) (by omega), cu (x := (i : Int) + 1 + (m : Int)) (by omega) (by omega), cu (x := 1 + (m : Int)) (by omega) (by omega), cu (x := (i : Int) + (1 + (m : Int))) (by omega) (by omega)]
    by_cases h63 : m > 63
    ·have hl : fP (b.extract i b.size).size (b.extract i b.size) = [] := by
      by_cases hle : m ≤ b.size - i - 1
      ·rw [if_pos hle] at hcut
       exact pJ hcut (.inr (by rw [ByteArray.size_extract]; omega))
      ·rw [if_neg hle] at hcut
       exact qo hcut
     rw [if_pos (by omega), stop hl hr]
     exact ⟨_, rfl, fun h => absurd h (by decide)⟩
    ·rw [if_neg (by omega)]
     by_cases hle : m ≤ b.size - i - 1
     ·rw [if_pos hle] at hcut
      have hsz2 : (b.extract (i + 1) (i + 1 + m)).size = m := by rw [ByteArray.size_extract]; omega
      have hl := ql hr hcut (by rw [hsz2]; omega)
      rw [if_neg (by omega), if_pos (by omega), if_pos (by omega), if_pos (by omega), if_pos (by omega)]
      rw [show ((i : Int) + 1).toNat = i + 1 from by omega, show ((i : Int) + 1 + (m : Int)).toNat = i + 1 + m from by omega, show (i : Int) + (1 + (m : Int)) = ((i + 1 + m : Nat) : Int) from by omega]
      obtain ⟨l, e1, e2⟩ := ih (i + 1 + m) k (acc ++ [b.extract (i + 1) (i + 1 + m)]) (by omega) (by omega) (by omega) (by simp; omega)
      have hok : okR (b.extract i b.size) = okR (b.extract (i + 1 + m) b.size) := by
       unfold okR
       rw [hl]
       congr 2
       unfold jD
       cases hq : fP (b.extract (i + 1 + m) b.size).size (b.extract (i + 1 + m) b.size) with
       | nil => rfl
       | cons y t => rw [List.getLast?_cons_cons]; simp [List.getLast?_cons]
      rw [hok]
      refine ⟨l, e1, fun h => ?_⟩
      rw [e2 h, hl]
      simp
     ·rw [if_neg hle] at hcut
      rw [if_pos (by omega), stop (qo hcut) hr]
      exact ⟨_, rfl, fun h => absurd h (by decide)⟩
  ·obtain rfl : i = b.size := by omega
   exact ih b.size (k + 2) acc (by omega) (by omega) (by omega) (by omega)
theorem Ib (n : ByteArray) : bJ n = (decide (n.size ≤ 255) && okR n) := by
 unfold bJ okR
 congr 1
 by_cases h : jD n (fP n.size n) = iw
 ·rw [h]; simp [ByteArray.toList_eq]; rfl
 ·rw [decide_eq_false h]
  exact tQ h
theorem kM (b : ByteArray) : b.extract 0 b.size = b := by apply gM; rw [kN]; rfl
theorem qZ (n : ByteArray) (k : Nat) (hn : bJ n = false) (hk : 600 ≤ k) : ∃ l, aN.f k n = some (l, false) := by
 unfold aN.f
 by_cases h : (n.size : Int) > 255
 ·rw [if_pos h]; exact ⟨_, rfl⟩
 ·rw [if_neg h]
  obtain ⟨l, e1, _⟩ := vJ n (by omega) n.size 0 k [] (by omega) (by omega) (by omega) (by simp; omega)
  rw [kM] at e1
  rw [Ib, decide_eq_true (by omega), Bool.true_and] at hn
  rw [hn] at e1
  exact ⟨l, e1⟩
theorem kR (l : List ByteArray) (k : Nat) (hg : good l) (hs : (bN l).size ≤ 255) (hk : 600 ≤ k) : aN.f k (bN l) = some (l, true) := by
 unfold aN.f
 rw [if_neg (by omega)]
 obtain ⟨m, e1, e2⟩ := vJ (bN l) hs (bN l).size 0 k [] (by omega) (by omega) (by omega) (by simp; omega)
 rw [kM] at e1 e2
 have hok : okR (bN l) = true := by unfold okR; exact decide_eq_true (zW l hg)
 rw [hok] at e1
 have := e2 hok
 rw [List.nil_append, lV l hg, oD] at this
 rw [this] at e1; exact e1
theorem nP (n : ByteArray) (k : Nat) (hk : 600 ≤ k) : bO.f k n = some (bJ n) := by
 unfold bO.f
 cases h : bJ n with
 | false =>
  obtain ⟨l, e⟩ := qZ n k h hk
  rw [e]; rfl
 | true =>
  obtain ⟨l, hg, rfl, hs⟩ := (lM n).mp h
  rw [kR l k hg hs hk]; rfl
theorem kI (n : ByteArray) : dL.f n = some (bJ n) := rfl
theorem sW (l : List ByteArray) (hg : good l) (hs : (bN l).size ≤ 255) : jd.f (bN l) = some (l, 0) := by
 unfold jd.f
 rw [jU hg hs, if_pos rfl, lV l hg, oD]
theorem uq (l : List ByteArray) (hg : good l) (hs : (bN l).size ≤ 255) : lG.f (bN l) = some (match l with | [] => (⟨#[]⟩, false) | _ :: t => (bN t, true)) := by
 unfold lG.f oQ
 rw [jU hg hs, if_pos rfl, lV l hg]
 cases l <;> rfl
theorem jT (l : List ByteArray) (hg : good l) (hs : (bN l).size ≤ 255) : iA.f (bN l) = some (bN (l.map eP)) := by
 unfold iA.f gZ.f
 rw [kI, jU hg hs, Option.bind_some, if_pos rfl, if_pos (by omega), qm l hg]; rfl
theorem lT (n : ByteArray) (h : bJ n = false) : iA.f n = some ⟨#[]⟩ := by
 unfold iA.f
 rw [kI, h, Option.bind_some, if_neg (by decide)]
theorem tK (l m : List ByteArray) (hl : good l) (hm : good m) (sl : (bN l).size ≤ 255) (sm : (bN m).size ≤ 255) : dH.f (bN l) (bN m) = some (decide (l.map eP = m.map eP)) := by
 unfold dH.f gZ.f
 rw [kI, kI, jU hl sl, jU hm sm, Option.bind_some, if_pos rfl, Option.bind_some, if_pos rfl, if_pos (by omega), if_pos (by omega), Option.bind_some, Option.bind_some, qm l hl, qm m hm]
 congr 1
 by_cases h : l.map eP = m.map eP
 ·rw [h]; simp
 ·rw [decide_eq_false h, beq_eq_false_iff_ne]
  intro e
  exact h (zC (kD hl) (kD hm) (toList_inj.mp e))
def nJ : List ByteArray → ByteArray
 | [] => ⟨#[]⟩
 | s :: l => jH 1 s ++ nJ l
theorem IU (b : ByteArray) : b ++ (⟨#[]⟩ : ByteArray) = b := by apply gM; rw [iV]; simp
theorem Br (b : ByteArray) : (⟨#[]⟩ : ByteArray) ++ b = b := by apply gM; rw [iV]; simp
theorem xG (a b c : ByteArray) : a ++ b ++ c = a ++ (b ++ c) := by apply gM; rw [iV, iV, iV, iV, List.append_assoc]
theorem yD : ∀ l, bN l = nJ l ++ (⟨#[0]⟩ : ByteArray)
 | [] => by rw [nJ, Br]; rfl
 | s :: l => by rw [bN, nJ, yD l, xG]
theorem zV : ∀ l s, nJ (l ++ [s]) = nJ l ++ jH 1 s
 | [], s => by
  show jH 1 s ++ (⟨#[]⟩ : ByteArray) = (⟨#[]⟩ : ByteArray) ++ jH 1 s
  rw [IU, Br]
 | t :: l, s => by rw [List.cons_append, nJ, nJ, zV l s, xG]
theorem Gj (l : List ByteArray) (i : Nat) (h : i < l.length) : nJ (l.take (i + 1)) = nJ (l.take i) ++ jH 1 l[i] := by
 rw [List.take_succ_eq_append_getElem h, zV]
theorem qL : ∀ (l : List ByteArray), (∀ s ∈ l, s.size ≤ 63) → (nJ l).size ≤ 64 * l.length
 | [], _ => Nat.le_refl _
 | s :: l, h => by
  have h1 := h s (by simp)
  have h2 := qL l (fun t ht => h t (by simp [ht]))
  rw [nJ, ByteArray.size_append, qx, List.length_cons]; omega
theorem tX (a b : UInt8) (x y : List UInt8) : Op.bytesLess (a :: x) (b :: y) = true ↔ a.toNat < b.toNat ∨ (a = b ∧ Op.bytesLess x y = true) := by
 rw [Op.bytesLess, Bool.or_eq_true, Bool.and_eq_true, beq_iff_eq, decide_eq_true_iff, UInt8.lt_iff_toNat_lt]
theorem oq : ∀ x : List UInt8, Op.bytesLess x x = false
 | [] => rfl
 | a :: x => by
  cases h : Op.bytesLess (a :: x) (a :: x) with
  | false => rfl
  | true =>
   rcases (tX a a x x).mp h with h1 | ⟨_, h1⟩
   ·omega
   ·rw [oq x] at h1; exact absurd h1 (by decide)
theorem uM : ∀ x y z : List UInt8, Op.bytesLess x y = true → Op.bytesLess y z = true → Op.bytesLess x z = true
 | _, _, [], _, h => by rw [Op.bytesLess] at h; exact absurd h (by decide)
 | [], _, _ :: _, _, _ => rfl
 | a :: x, [], _ :: _, h, _ => by rw [Op.bytesLess] at h; exact absurd h (by decide)
 | a :: x, b :: y, c :: z, h1, h2 => by
  rw [tX] at h1 h2 ⊢
  rcases h1 with h1 | ⟨rfl, h1⟩
  ·rcases h2 with h2 | ⟨rfl, h2⟩
   ·exact .inl (by omega)
   ·exact .inl h1
  ·rcases h2 with h2 | ⟨rfl, h2⟩
   ·exact .inl h2
   ·exact .inr ⟨rfl, uM x y z h1 h2⟩
theorem FC : ∀ x y : List UInt8, Op.bytesLess x y = false → Op.bytesLess y x = false → x = y
 | [], [], _, _ => rfl
 | [], _ :: _, h, _ => by rw [Op.bytesLess] at h; exact absurd h (by decide)
 | _ :: _, [], _, h => by rw [Op.bytesLess] at h; exact absurd h (by decide)
 | a :: x, b :: y, h1, h2 => by
  have n1 : ¬ (a.toNat < b.toNat ∨ (a = b ∧ Op.bytesLess x y = true)) := fun h => by rw [(tX a b x y).mpr h] at h1; exact absurd h1 (by decide)
  have n2 : ¬ (b.toNat < a.toNat ∨ (b = a ∧ Op.bytesLess y x = true)) := fun h => by rw [(tX b a y x).mpr h] at h2; exact absurd h2 (by decide)
  have e : a = b := UInt8.toNat_inj.mp (by
   have : ¬ a.toNat < b.toNat := fun h => n1 (.inl h)
   have : ¬ b.toNat < a.toNat := fun h => n2 (.inl h)
   omega)
  subst e
  rw [FC x y (by cases h : Op.bytesLess x y with | false => rfl | true => exact absurd (.inr ⟨rfl, h⟩) n1) (by cases h : Op.bytesLess y x with | false => rfl | true => exact absurd (.inr ⟨rfl, h⟩) n2)]
theorem zy (x y : List UInt8) (h : Op.bytesLess x y = true) : Op.bytesLess y x = false := by
 cases h' : Op.bytesLess y x with
 | false => rfl
 | true => rw [← oq x, uM x y x h h']
structure Ord {α : Type} (c : α → α → Int) : Prop where
 vals : ∀ a b, c a b = -1 ∨ c a b = 0 ∨ c a b = 1
 flip : ∀ a b, c b a = - c a b
 zero : ∀ a b, c a b = 0 → a = b
 self : ∀ a, c a a = 0
 trans : ∀ a b d, c a b < 0 → c b d < 0 → c a d < 0
theorem Ord.le_trans {α : Type} {c : α → α → Int} (O : Ord c) {a b d : α} (h1 : c a b ≤ 0) (h2 : c b d ≤ 0) : c a d ≤ 0 ∧ (c a d = 0 → c a b = 0 ∧ c b d = 0) := by
 by_cases e1 : c a b = 0
 ·obtain rfl := O.zero _ _ e1
  exact ⟨h2, fun h => ⟨e1, h⟩⟩
 ·by_cases e2 : c b d = 0
  ·obtain rfl := O.zero _ _ e2
   exact ⟨h1, fun h => ⟨h, e2⟩⟩
  ·have := O.trans a b d (by omega) (by omega)
   exact ⟨by omega, fun h => by omega⟩
theorem pq (a : List UInt8) : kF a a = 0 := by
 unfold kF; rw [oq, if_neg (by decide), if_pos (by simp)]
theorem vw {a b : List UInt8} (h : Op.bytesLess a b = true) : kF a b = -1 := by unfold kF; rw [if_pos h]
theorem EJ {a b : List UInt8} (h : Op.bytesLess b a = true) : kF a b = 1 := by
 unfold kF
 rw [zy b a h, if_neg (by decide), if_neg]
 intro e
 rw [beq_iff_eq.mp e, oq] at h; exact absurd h (by decide)
theorem lQ (a b : List UInt8) : (Op.bytesLess a b = true ∧ kF a b = -1) ∨ (a = b ∧ kF a b = 0) ∨ (Op.bytesLess b a = true ∧ kF a b = 1) := by
 cases h1 : Op.bytesLess a b with
 | true => exact .inl ⟨rfl, vw h1⟩
 | false =>
  cases h2 : Op.bytesLess b a with
  | true => exact .inr (.inr ⟨rfl, EJ h2⟩)
  | false =>
   obtain rfl := FC a b h1 h2
   exact .inr (.inl ⟨rfl, pq a⟩)
theorem nN : Ord kF where
 vals a b := by rcases lQ a b with h | h | h <;> omega
 flip a b := by
  rcases lQ a b with ⟨h, e⟩ | ⟨h, e⟩ | ⟨h, e⟩
  ·rw [e, EJ h]; rfl
  ·rw [e, h, pq]; rfl
  ·rw [e, vw h]
 zero a b h := by rcases lQ a b with ⟨_, e⟩ | ⟨k, e⟩ | ⟨_, e⟩ <;> first | exact k | omega
 self := pq
 trans a b d h1 h2 := by
  rcases lQ a b with ⟨k1, e⟩ | ⟨_, e⟩ | ⟨_, e⟩ <;> try omega
  rcases lQ b d with ⟨k2, e'⟩ | ⟨_, e'⟩ | ⟨_, e'⟩ <;> try omega
  rw [vw (uM _ _ _ k1 k2)]; omega
def cmpL : List ByteArray → List ByteArray → Int
 | [], [] => 0
 | [], _ :: _ => -1
 | _ :: _, [] => 1
 | a :: x, b :: y => if kF a.toList b.toList = 0 then cmpL x y else kF a.toList b.toList
theorem yG : ∀ x, cmpL x x = 0
 | [] => rfl
 | a :: x => by rw [cmpL, pq, if_pos rfl, yG x]
theorem xX : ∀ x y, cmpL x y = -1 ∨ cmpL x y = 0 ∨ cmpL x y = 1
 | [], [] => .inr (.inl rfl)
 | [], _ :: _ => .inl rfl
 | _ :: _, [] => .inr (.inr rfl)
 | a :: x, b :: y => by
  rw [cmpL]; split
  ·exact xX x y
  ·exact nN.vals _ _
theorem yc : ∀ x y, cmpL y x = - cmpL x y
 | [], [] => rfl
 | [], _ :: _ => rfl
 | _ :: _, [] => rfl
 | a :: x, b :: y => by
  rw [cmpL, cmpL, nN.flip a.toList b.toList]
  by_cases h : kF a.toList b.toList = 0
  ·rw [if_pos (by omega), if_pos h, yc x y]
  ·rw [if_neg (by omega), if_neg h]
theorem yE : ∀ x y, cmpL x y = 0 → x = y
 | [], [], _ => rfl
 | [], _ :: _, h => by rw [cmpL] at h; omega
 | _ :: _, [], h => by rw [cmpL] at h; omega
 | a :: x, b :: y, h => by
  rw [cmpL] at h
  by_cases h0 : kF a.toList b.toList = 0
  ·rw [if_pos h0] at h
   rw [toList_inj.mp (nN.zero _ _ h0), yE x y h]
  ·rw [if_neg h0] at h; exact absurd h h0
theorem vC : ∀ x y z, cmpL x y < 0 → cmpL y z < 0 → cmpL x z < 0
 | [], [], _, h, _ => by rw [cmpL] at h; omega
 | _ :: _, [], _, h, _ => by rw [cmpL] at h; omega
 | _, _ :: _, [], _, h => by rw [cmpL] at h; omega
 | [], _ :: _, _ :: _, _, _ => by rw [cmpL]; omega
 | a :: x, b :: y, c :: z, h1, h2 => by
  rw [cmpL] at h1 h2 ⊢
  by_cases e1 : kF a.toList b.toList = 0
  ·rw [if_pos e1] at h1
   have ea := nN.zero _ _ e1
   rw [ea]
   by_cases e2 : kF b.toList c.toList = 0
   ·rw [if_pos e2] at h2 ⊢
    exact vC x y z h1 h2
   ·rw [if_neg e2] at h2 ⊢; exact h2
  ·rw [if_neg e1] at h1
   by_cases e2 : kF b.toList c.toList = 0
   ·rw [← nN.zero _ _ e2, if_neg e1]; exact h1
   ·rw [if_neg e2] at h2
    have := nN.trans _ _ _ h1 h2
    rw [if_neg (by omega)]; exact this
theorem pI : Ord cmpL := ⟨xX, yc, yE, yG, vC⟩
theorem JF (x y : List ByteArray) (hx : x.length ≤ 1000000) (hy : y.length ≤ 1000000) : ∀ (d i k : Nat), i + d = x.length → d < k → i ≤ y.length → cB.l0 k x y x (x.length : Int) (i : Int) = some (cmpL (x.drop i) (y.drop i)) := by
 intro d
 induction d with
 | zero =>
  intro i k hi hk hiy
  obtain ⟨k, rfl⟩ : ∃ j, k = j + 1 := ⟨k - 1, by omega⟩
  rw [cB.l0, if_neg (by omega), List.drop_of_length_le (by omega : x.length ≤ i)]
  by_cases h : i = y.length
  ·rw [if_neg (by omega), List.drop_of_length_le (by omega)]; rfl
  ·rw [if_pos (by omega), List.drop_eq_getElem_cons (by omega : i < y.length)]; rfl
 | succ d ih =>
  intro i k hi hk hiy
  obtain ⟨k, rfl⟩ : ∃ j, k = j + 1 := ⟨k - 1, by omega⟩
  have hix : i < x.length := by omega
  rw [cB.l0, if_pos (by omega), if_pos (by omega), if_pos (by omega), List.drop_eq_getElem_cons hix]
  by_cases h : i < y.length
  ·rw [if_neg (by omega), if_pos (by omega), jr x i hix, jr y i h, List.drop_eq_getElem_cons h, cmpL]
   show (if kF _ _ = 0 then _ else _) = _
   by_cases h0 : kF x[i].toList y[i].toList = 0
   ·rw [if_pos h0, if_pos h0, cu (by omega) (by omega)]
    exact ih (i + 1) k (by omega) (by omega) (by omega)
   ·rw [if_neg h0, if_neg h0]
  ·rw [if_pos (by omega), List.drop_of_length_le (by omega : y.length ≤ i)]; rfl
theorem KI (x y : List ByteArray) (k : Nat) (hx : x.length ≤ 1000000) (hy : y.length ≤ 1000000) (hk : x.length < k) : cB.f k x y = some (cmpL x y) :=
 JF x y hx hy x.length 0 k (by omega) hk (by omega)
theorem rev_at (x : List ByteArray) (hx : x.length ≤ 1000000) : ∀ (d i k : Nat) (y : List ByteArray), y.length = x.length → 2 * i + d = x.length + 1 → d + 1 ≤ k →
  (∀ p, p < x.length → y[p]? = if p < i ∨ x.length - i ≤ p then x[x.length - 1 - p]? else x[p]?) →
  aY.l0 k y (i : Int) ((x.length : Int) - 1 - (i : Int)) = some x.reverse := by
 intro d
 induction d using Nat.strongRecOn with
 | _ d ih =>
  intro i k y hy hd hk hp
  obtain ⟨k, rfl⟩ : ∃ j, k = j + 1 := ⟨k - 1, by omega⟩
  rw [aY.l0]
  by_cases h : (i : Int) < (x.length : Int) - 1 - (i : Int)
  ·rw [if_pos h, if_pos (by omega), if_pos (by omega), if_pos (by omega), if_pos (by omega)]
   rw [cu (by omega) (by omega), cu (by omega) (by omega)]
   obtain ⟨j, hj⟩ : ∃ j : Nat, (x.length : Int) - 1 - (i : Int) = (j : Int) := ⟨x.length - 1 - i, by omega⟩
   have hjn : j = x.length - 1 - i := by omega
   rw [hj, show (j : Int) - 1 = (x.length : Int) - 1 - ((i + 1 : Nat) : Int) from by omega, Int.toNat_natCast, Int.toNat_natCast]
   obtain ⟨e, rfl⟩ : ∃ e, d = e + 2 := ⟨d - 2, by omega⟩
   have ri : bB ByteArray.empty y (i : Int) = y[i] := jr y i (by omega)
   have rj : bB ByteArray.empty y (j : Int) = y[j] := jr y j (by omega)
   rw [ri, rj]
   refine ih e (by omega) (i + 1) k _ (by simp [hy]) (by omega) (by omega) ?_
   intro p hpx
   have hpi := hp i (by omega)
   have hpj := hp j (by omega)
   rw [if_neg (by omega), List.getElem?_eq_getElem (by omega : i < y.length)] at hpi
   rw [if_neg (by omega), List.getElem?_eq_getElem (by omega : j < y.length)] at hpj
   rw [List.getElem?_set, List.getElem?_set]
   by_cases c1 : j = p
   ·rw [if_pos c1, if_pos (by simp [hy]; omega), if_pos (by omega), hpi]
    congr 1; omega
   ·rw [if_neg c1]
    by_cases c2 : i = p
    ·rw [if_pos c2, if_pos (by omega), if_pos (by omega), hpj]
     congr 1; omega
    ·rw [if_neg c2, hp p hpx]
     by_cases c3 : p < i ∨ x.length - i ≤ p
     ·rw [if_pos c3, if_pos (by omega)]
     ·rw [if_neg c3, if_neg (by omega)]
  ·rw [if_neg h]
   congr 1
   apply List.ext_getElem?
   intro p
   by_cases hpx : p < x.length
   ·rw [hp p hpx, List.getElem?_reverse hpx]
    by_cases c3 : p < i ∨ x.length - i ≤ p
    ·rw [if_pos c3]
    ·rw [if_neg c3]; congr 1; omega
   ·rw [List.getElem?_eq_none (by omega), List.getElem?_eq_none (by simp; omega)]
theorem Iz (x : List ByteArray) (k : Nat) (hx : x.length ≤ 1000000) (hk : x.length + 2 ≤ k) : aY.f k x = some x.reverse := by
 unfold aY.f
 rw [cu (by omega) (by omega)]
 have := rev_at x hx (x.length + 1) 0 k x rfl (by omega) (by omega) (by intro p hp; rw [if_neg (by omega)])
 rw [show ((0 : Nat) : Int) = 0 from rfl, Int.sub_zero] at this
 exact this
def FV (l m : List ByteArray) : Int := cmpL (l.map eP).reverse (m.map eP).reverse
theorem FJ (l m : List ByteArray) (hl : good l) (hm : good m) (sl : (bN l).size ≤ 255) (sm : (bN m).size ≤ 255) (k : Nat) (hk : 300 ≤ k) : eX.f k (bN l) (bN m) = some (FV l m) := by
 have nl := kC l hl
 have nm := kC m hm
 unfold eX.f
 rw [jT l hl sl, Option.bind_some, sW _ (kD hl) (by rw [size_map]; exact sl), Option.bind_some, jT m hm sm, Option.bind_some, sW _ (kD hm) (by rw [size_map]; exact sm), Option.bind_some, if_pos rfl]
 obtain ⟨k, rfl⟩ : ∃ j, k = j + 1 := ⟨k - 1, by omega⟩
 rw [eX.j0, if_neg (by show ¬ false = true; decide), Iz _ k (by rw [List.length_map]; omega) (by rw [List.length_map]; omega), Option.bind_some, Iz _ k (by rw [List.length_map]; omega) (by rw [List.length_map]; omega), Option.bind_some, KI _ _ k (by simp; omega) (by simp; omega) (by simp; omega)]
 rfl
def mO (m : List ByteArray) : List ByteArray → Bool
 | [] => decide (([] : List ByteArray).map eP = m.map eP)
 | s :: t => decide ((s :: t).map eP = m.map eP) || mO m t
theorem zH (m : List ByteArray) (hm : good m) (sm : (bN m).size ≤ 255) : ∀ (l : List ByteArray) (k : Nat), good l → (bN l).size ≤ 255 → l.length + 3 ≤ k → bM.l0 k (bN l) (bN m) true = some (mO m l)
 | [], k, hl, sl, hk => by
  obtain ⟨k, rfl⟩ : ∃ j, k = j + 2 := ⟨k - 2, by omega⟩
  rw [bM.l0, if_pos rfl, tK [] m hl hm sl sm, Option.bind_some, uq [] hl sl, Option.bind_some]
  show (if decide (([] : List ByteArray).map eP = m.map eP) = true then _ else bM.l0 (k + 1) ⟨#[]⟩ (bN m) false) = _
  rw [bM.l0, if_neg (by decide : ¬ false = true), mO]
  cases decide (([] : List ByteArray).map eP = m.map eP) <;> simp
 | s :: t, k, hl, sl, hk => by
  obtain ⟨k, rfl⟩ : ∃ j, k = j + 1 := ⟨k - 1, by omega⟩
  have st := ny s t
  rw [bM.l0, if_pos rfl, tK (s :: t) m hl hm sl sm, Option.bind_some, uq (s :: t) hl sl, Option.bind_some]
  show (if _ then _ else bM.l0 k (bN t) (bN m) true) = _
  rw [zH m hm sm t k (fun s h => hl s (by simp [h])) (by omega) (by rw [List.length_cons] at hk; omega), mO]
  cases h : decide ((s :: t).map eP = m.map eP) <;> simp
theorem wQ (l m : List ByteArray) (hl : good l) (hm : good m) (sl : (bN l).size ≤ 255) (sm : (bN m).size ≤ 255) (k : Nat) (hk : 300 ≤ k) : bM.f k (bN l) (bN m) = some (mO m l) := by
 have nl := kC l hl
 unfold bM.f
 rw [kI, jU hl sl, Option.bind_some, if_pos rfl, kI, jU hm sm, Option.bind_some]
 obtain ⟨k, rfl⟩ : ∃ j, k = j + 1 := ⟨k - 1, by omega⟩
 rw [bM.j0, if_neg (by decide)]
 exact zH m hm sm l k hl sl (by omega)
theorem Gm (s : ByteArray) (hs : s.size ≤ 1000000) : ∀ (d i k : Nat) (acc : List UInt8), i + d = s.size → d < k → acc.length + d ≤ 1000000 →
  cZ.l0 k s (iW acc) (i : Int) = some (arr (acc ++ (s.data.toList.drop i).map low)) := by
 intro d
 induction d with
 | zero =>
  intro i k acc hi hk ha
  obtain ⟨k, rfl⟩ : ∃ j, k = j + 1 := ⟨k - 1, by omega⟩
  rw [cZ.l0, if_neg (by omega), List.drop_of_length_le (by rw [bS]; omega), pX, List.map_nil, List.append_nil]
 | succ d ih =>
  intro i k acc hi hk ha
  obtain ⟨k, rfl⟩ : ∃ j, k = j + 1 := ⟨k - 1, by omega⟩
  have hlt : i < s.size := by omega
  rw [cZ.l0, if_pos (by omega), if_pos (by omega), jQ s i hlt, List.drop_eq_getElem_cons (by rw [bS]; exact hlt), List.map_cons]
  generalize s.data.toList[i]'(by rw [bS]; exact hlt) = c
  have hc := UInt8.toNat_lt c
  have step : ∀ x : UInt8, x = low c → ([(x.toNat : Int)] : List Int) = iW [low c] := by intro x h; rw [h]; rfl
  have fin := ih (i + 1) k (acc ++ [low c]) (by omega) (by omega) (by simp; omega)
  rw [List.append_assoc, List.singleton_append] at fin
  have hlen : (iW acc).length < 140737488355328 := by rw [sJ]; omega
  by_cases h1 : 65 ≤ c.toNat
  ·by_cases h2 : c.toNat ≤ 90
   ·have e : (low c).toNat = c.toNat + 32 := by
     have : low c = UInt8.ofNat (c.toNat + 32) := by unfold low; rw [if_pos ⟨h1, h2⟩]
     rw [this, UInt8.toNat_ofNat']; omega
    have e2 : ([((c.toNat : Int) + 32) % 256] : List Int) = iW [low c] := by
     show _ = [((low c).toNat : Int)]
     rw [e]; congr 1; omega
    rw [if_pos (by omega), if_pos (by omega), if_pos hlen, e2, ← ou, cu (by omega) (by omega)]
    exact fin
   ·have e : low c = c := by unfold low; rw [if_neg (by omega)]
    rw [if_pos (by omega), if_neg (by omega), if_pos hlen, step c e.symm, ← ou, cu (by omega) (by omega)]
    exact fin
  ·have e : low c = c := by unfold low; rw [if_neg (by omega)]
   rw [if_neg (by omega), if_pos hlen, step c e.symm, ← ou, cu (by omega) (by omega)]
   exact fin
theorem JB (s : ByteArray) (k : Nat) (hs : s.size ≤ 1000000) (hk : s.size < k) : cZ.f k s = some (eP s) := by
 unfold cZ.f
 exact Gm s hs s.size 0 k [] (by omega) hk (by simp; omega)
theorem Es (s : ByteArray) (hs : s.size ≤ 63) : strOfNums ([(s.size : Int) % 256] : List Int) ++ eP s = jH 1 (eP s) := by
 have e : ([(s.size : Int) % 256] : List Int) = iW (beB 1 (eP s).size) := by
  rw [nu, beB, beB, List.nil_append]
  simp only [iW, List.map_cons, List.map_nil, qO]
  congr 1
 rw [e, pX]; rfl
theorem uO (l : List ByteArray) (hl : l.length ≤ 1000) (hs : ∀ s ∈ l, s.size ≤ 63) : ∀ (d i k : Nat), i + d = l.length → d + 100 ≤ k →
  aH.l0 k l (nJ ((l.map eP).take i)) (i : Int) = some (bN (l.map eP)) := by
 have hsz : ∀ i, (nJ ((l.map eP).take i)).size ≤ 64 * i := by
  intro i
  have h := qL ((l.map eP).take i) (by
   intro s h
   obtain ⟨t, ht, rfl⟩ := List.mem_map.mp (List.mem_of_mem_take h)
   rw [nu]; exact hs t ht)
  rw [List.length_take] at h
  omega
 intro d
 induction d with
 | zero =>
  intro i k hi hk
  obtain ⟨k, rfl⟩ : ∃ j, k = j + 1 := ⟨k - 1, by omega⟩
  have := hsz i
  rw [aH.l0, if_neg (by omega), if_pos (by omega), List.take_of_length_le (by rw [List.length_map]; omega), yD]
 | succ d ih =>
  intro i k hi hk
  obtain ⟨k, rfl⟩ : ∃ j, k = j + 1 := ⟨k - 1, by omega⟩
  have hil : i < l.length := by omega
  have h63 := hs _ (List.getElem_mem hil)
  have h1 := hsz i
  have hp := Es l[i] h63
  have hp2 : (strOfNums ([(l[i].size : Int) % 256] : List Int)).size + (eP l[i]).size = (jH 1 (eP l[i])).size := by rw [← hp, ByteArray.size_append]
  have hps := qx (eP l[i])
  rw [nu] at hps
  rw [aH.l0, if_pos (by omega), if_pos (by omega), jr l i hil, Option.bind_some, JB _ k (by omega) (by omega), Option.bind_some, hp2, hp, if_pos (by omega), if_pos (by omega), cu (by omega) (by omega)]
  have h2 := ih (i + 1) k (by omega) (by omega)
  rw [Gj (l.map eP) i (by rw [List.length_map]; exact hil), List.getElem_map] at h2
  exact h2
theorem jC (l : List ByteArray) (hg : good l) (sl : (bN l).size ≤ 255) (k : Nat) (hk : 700 ≤ k) : aH.f k (bN l) = some (bN (l.map eP)) := by
 have ll := kC l hg
 unfold aH.f
 rw [kR l k hg sl (by omega), Option.bind_some, if_pos rfl]
 exact uO l (by omega) (fun s h => (hg s h).2) l.length 0 k (by omega) (by omega)
theorem nQ (n : ByteArray) (h : bJ n = false) (k : Nat) (hk : 700 ≤ k) : aH.f k n = some ⟨#[]⟩ := by
 unfold aH.f
 obtain ⟨l, e⟩ := qZ n k h (by omega)
 rw [e, Option.bind_some, if_neg (by decide : ¬ false = true)]
theorem Eh : bJ ⟨#[]⟩ = false := by kernel_rfl
theorem Dc (l m : List ByteArray) (hl : good l) (hm : good m) (sl : (bN l).size ≤ 255) (sm : (bN m).size ≤ 255) (k : Nat) (hk : 700 ≤ k) : dK.f k (bN l) (bN m) = some (decide (l.map eP = m.map eP)) := by
 unfold dK.f
 rw [nP _ k (by omega), jU hl sl, Option.bind_some, if_pos rfl, nP _ k (by omega), jU hm sm, Option.bind_some, if_pos rfl, jC l hl sl k hk, Option.bind_some, jC m hm sm k hk, Option.bind_some]
 congr 1
 by_cases h : l.map eP = m.map eP
 ·rw [h]; simp
 ·rw [decide_eq_false h, beq_eq_false_iff_ne]
  intro e
  exact h (zC (kD hl) (kD hm) (toList_inj.mp e))
theorem zq (a b : ByteArray) (h : bJ a = false ∨ bJ b = false) : dH.f a b = some false := by
 unfold dH.f
 rw [kI, Option.bind_some]
 cases ha : bJ a with
 | false => rw [if_neg (by decide)]
 | true =>
  rw [if_pos rfl, kI, Option.bind_some, if_neg (by rcases h with h | h <;> simp_all)]
theorem Em (a b : ByteArray) (h : bJ a = false ∨ bJ b = false) (k : Nat) (hk : 700 ≤ k) : dK.f k a b = some false := by
 unfold dK.f
 rw [nP _ k (by omega), Option.bind_some]
 cases ha : bJ a with
 | false => rw [if_neg (by decide)]
 | true =>
  rw [if_pos rfl, nP _ k (by omega), Option.bind_some, if_neg (by rcases h with h | h <;> simp_all)]
theorem Fz (x : List ByteArray) (i : Nat) (h : i < x.length) (hx : x.length ≤ 1000) : bB ByteArray.empty x (wrap64 ((x.length : Int) - ((i + 1 : Nat) : Int))) = x.reverse[i]'(by rw [List.length_reverse]; exact h) := by
 rw [cu (by omega) (by omega), show (x.length : Int) - ((i + 1 : Nat) : Int) = ((x.length - 1 - i : Nat) : Int) from by omega, jr x _ (by omega), List.getElem_reverse]
theorem JV (x y : List ByteArray) (hx : x.length ≤ 1000) (hy : y.length ≤ 1000) : ∀ (d i k : Nat), i + d = x.length → i ≤ y.length → 2 * d + 3 ≤ k →
  aX.l0 k x y ((i + 1 : Nat) : Int) = some (cmpL (x.reverse.drop i) (y.reverse.drop i)) := by
 intro d
 induction d with
 | zero =>
  intro i k hi hiy hk
  obtain ⟨k, rfl⟩ : ∃ j, k = j + 2 := ⟨k - 2, by omega⟩
  rw [aX.l0, if_neg (by omega), aX.j2, if_neg (by decide), List.drop_of_length_le (by rw [List.length_reverse]; omega : x.reverse.length ≤ i)]
  by_cases h : i = y.length
  ·rw [if_neg (by omega), if_neg (by omega), List.drop_of_length_le (by rw [List.length_reverse]; omega)]; rfl
  ·rw [if_pos (by omega), List.drop_eq_getElem_cons (by rw [List.length_reverse]; omega : i < y.reverse.length)]; rfl
 | succ d ih =>
  intro i k hi hiy hk
  obtain ⟨k, rfl⟩ : ∃ j, k = j + 2 := ⟨k - 2, by omega⟩
  have hix : i < x.length := by omega
  rw [aX.l0, if_pos (by omega), List.drop_eq_getElem_cons (by rw [List.length_reverse]; exact hix : i < x.reverse.length)]
  by_cases h : i < y.length
  ·rw [decide_eq_true (by omega), aX.j2, if_pos rfl, if_pos (by rw [cu (by omega) (by omega)]; omega), if_pos (by rw [cu (by omega) (by omega)]; omega), if_pos (by rw [cu (by omega) (by omega)]; omega), if_pos (by rw [cu (by omega) (by omega)]; omega), Fz x i hix hx, Fz y i h hy, List.drop_eq_getElem_cons (by rw [List.length_reverse]; exact h : i < y.reverse.length), cmpL]
   generalize x.reverse[i]'(by rw [List.length_reverse]; exact hix) = a
   generalize y.reverse[i]'(by rw [List.length_reverse]; exact h) = b
   rcases lQ a.toList b.toList with ⟨h1, e⟩ | ⟨h1, e⟩ | ⟨h1, e⟩
   ·rw [if_pos h1, if_neg (by omega), e]
   ·rw [h1, oq, if_neg (by decide), if_neg (by decide), pq, if_pos rfl, cu (by omega) (by omega)]
    exact ih (i + 1) k (by omega) (by omega) (by omega)
   ·rw [zy _ _ h1, if_neg (by decide), if_pos h1, if_neg (by omega), e]
  ·rw [decide_eq_false (by omega), aX.j2, if_neg (by decide), if_neg (by omega), if_pos (by omega), List.drop_of_length_le (by rw [List.length_reverse]; omega : y.reverse.length ≤ i)]; rfl
theorem Ac (l m : List ByteArray) (hl : good l) (hm : good m) (sl : (bN l).size ≤ 255) (sm : (bN m).size ≤ 255) (k : Nat) (hk : 1000 ≤ k) : aX.f k (bN l) (bN m) = some (FV l m) := by
 have nl := kC l hl
 have nm := kC m hm
 unfold aX.f
 rw [jC l hl sl k (by omega), Option.bind_some, kR _ k (kD hl) (by rw [size_map]; exact sl) (by omega), Option.bind_some, jC m hm sm k (by omega), Option.bind_some, kR _ k (kD hm) (by rw [size_map]; exact sm) (by omega), Option.bind_some, if_pos rfl]
 obtain ⟨k, rfl⟩ : ∃ j, k = j + 1 := ⟨k - 1, by omega⟩
 rw [aX.j0, if_neg (by show ¬ false = true; decide)]
 have h := JV (l.map eP) (m.map eP) (by rw [List.length_map]; omega) (by rw [List.length_map]; omega) (l.map eP).length 0 k (by omega) (by omega) (by rw [List.length_map]; omega)
 exact h
theorem Bp (n : ByteArray) (k : Nat) (hk : 700 ≤ k) : ∃ f, aH.f k n = some f ∧ ∃ l ok, aN.f k f = some (l, ok) ∧ (bJ n = false → ok = false) := by
 cases hn : bJ n with
 | false =>
  obtain ⟨l, e⟩ := qZ ⟨#[]⟩ k Eh (by omega)
  exact ⟨_, nQ n hn k hk, _, _, e, fun _ => rfl⟩
 | true =>
  obtain ⟨l, hg, rfl, hs⟩ := (lM n).mp hn
  exact ⟨_, jC l hg hs k hk, _, _, kR _ k (kD hg) (by rw [size_map]; exact hs) (by omega), fun h => absurd h (by decide)⟩
theorem sK (m : List ByteArray) : ∀ l, mO m l = decide (m.map eP <:+ l.map eP)
 | [] => by
  rw [mO]; apply decide_eq_decide.2
  rw [List.map_nil, List.suffix_nil]; exact eq_comm
 | s :: t => by
  rw [mO, sK m t, ← Bool.decide_or]
  apply decide_eq_decide.2
  rw [List.map_cons, List.suffix_cons_iff]
  exact or_congr eq_comm Iff.rfl
theorem BH (x : List ByteArray) (i : Nat) (h : i < x.length) (hx : x.length ≤ 1000) : bB ByteArray.empty x (wrap64 ((wrap64 ((x.length : Int) - 1)) - (i : Int))) = x.reverse[i]'(by rw [List.length_reverse]; exact h) := by
 rw [cu (x := (x.length : Int) - 1) (by omega) (by omega), cu (by omega) (by omega), show (x.length : Int) - 1 - (i : Int) = ((x.length - 1 - i : Nat) : Int) from by omega, jr x _ (by omega), List.getElem_reverse]
theorem Er (x y : List ByteArray) (hx : x.length ≤ 1000) (hxy : y.length ≤ x.length) : ∀ (d i k : Nat), i + d = y.length → d + 1 ≤ k →
  aU.l0 k x y (i : Int) = some (decide (y.reverse.drop i <+: x.reverse.drop i)) := by
 intro d
 induction d with
 | zero =>
  intro i k hi hk
  obtain ⟨k, rfl⟩ : ∃ j, k = j + 1 := ⟨k - 1, by omega⟩
  rw [aU.l0, if_neg (by omega), List.drop_of_length_le (by rw [List.length_reverse]; omega : y.reverse.length ≤ i), decide_eq_true (List.nil_prefix)]
 | succ d ih =>
  intro i k hi hk
  obtain ⟨k, rfl⟩ : ∃ j, k = j + 1 := ⟨k - 1, by omega⟩
  have hiy : i < y.length := by omega
  have hix : i < x.length := by omega
  have wx : wrap64 ((wrap64 ((x.length : Int) - 1)) - (i : Int)) = ((x.length - 1 - i : Nat) : Int) := by rw [cu (x := (x.length : Int) - 1) (by omega) (by omega), cu (by omega) (by omega)]; omega
  have wy : wrap64 ((wrap64 ((y.length : Int) - 1)) - (i : Int)) = ((y.length - 1 - i : Nat) : Int) := by rw [cu (x := (y.length : Int) - 1) (by omega) (by omega), cu (by omega) (by omega)]; omega
  rw [aU.l0, if_pos (by omega), BH x i hix hx, BH y i hiy (by omega), wx, wy, if_pos (by omega), if_pos (by omega), if_pos (by omega), if_pos (by omega), List.drop_eq_getElem_cons (by rw [List.length_reverse]; exact hix : i < x.reverse.length), List.drop_eq_getElem_cons (by rw [List.length_reverse]; exact hiy : i < y.reverse.length)]
  generalize x.reverse[i]'(by rw [List.length_reverse]; exact hix) = a
  generalize y.reverse[i]'(by rw [List.length_reverse]; exact hiy) = b
  by_cases h : a = b
  ·subst h
   rw [if_pos rfl, cu (by omega) (by omega), show (i : Int) + 1 = ((i + 1 : Nat) : Int) from by omega, ih (i + 1) k (by omega) (by omega)]
   congr 1
   apply decide_eq_decide.2
   rw [List.cons_prefix_cons]
   exact ⟨fun h => ⟨rfl, h⟩, fun h => h.2⟩
  ·rw [if_neg (fun e => h (toList_inj.mp e)), decide_eq_false]
   rw [List.cons_prefix_cons]
   rintro ⟨e, _⟩
   exact h e.symm
theorem Df (l m : List ByteArray) (hl : good l) (hm : good m) (sl : (bN l).size ≤ 255) (sm : (bN m).size ≤ 255) (k : Nat) (hk : 1000 ≤ k) : aU.f k (bN l) (bN m) = some (mO m l) := by
 have nl := kC l hl
 have nm := kC m hm
 unfold aU.f
 rw [jC l hl sl k (by omega), Option.bind_some, kR _ k (kD hl) (by rw [size_map]; exact sl) (by omega), Option.bind_some, jC m hm sm k (by omega), Option.bind_some, kR _ k (kD hm) (by rw [size_map]; exact sm) (by omega), Option.bind_some, if_pos rfl, if_pos rfl]
 obtain ⟨k, rfl⟩ : ∃ j, k = j + 1 := ⟨k - 1, by omega⟩
 rw [sK]
 show aU.j0 (k + 1) (l.map eP) (m.map eP) (decide (((l.map eP).length : Int) < ((m.map eP).length : Int))) = _
 by_cases h : (m.map eP).length ≤ (l.map eP).length
 ·rw [decide_eq_false (by omega), aU.j0, if_neg (by decide)]
  have := Er (l.map eP) (m.map eP) (by rw [List.length_map]; omega) h (m.map eP).length 0 k (by omega) (by rw [List.length_map]; omega)
  refine this.trans ?_
  congr 1
  apply decide_eq_decide.2
  rw [List.drop_zero, List.drop_zero, List.reverse_prefix]
 ·rw [decide_eq_true (by omega), aU.j0, if_pos rfl]
  congr 1
  symm
  apply decide_eq_false
  intro hs
  exact h hs.length_le
theorem uY (a b : ByteArray) (h : bJ a = false ∨ bJ b = false) (k : Nat) (hk : 2 ≤ k) : bM.f k a b = some false := by
 obtain ⟨k, rfl⟩ : ∃ j, k = j + 1 := ⟨k - 1, by omega⟩
 unfold bM.f
 rw [kI, Option.bind_some]
 cases ha : bJ a with
 | false => rw [if_neg (by decide), bM.j0, if_pos rfl]
 | true =>
  have hb : bJ b = false := by
   rcases h with h | h
   ·rw [ha] at h; exact absurd h (by decide)
   ·exact h
  rw [if_pos rfl, kI, Option.bind_some, hb, bM.j0, if_pos (by decide)]
theorem DY (a b : ByteArray) (h : bJ a = false ∨ bJ b = false) (k : Nat) (hk : 1000 ≤ k) : aU.f k a b = some false := by
 obtain ⟨f, e1, l, ok, e2, e3⟩ := Bp a k (by omega)
 obtain ⟨f', e1', l', ok', e2', e3'⟩ := Bp b k (by omega)
 unfold aU.f
 rw [e1, Option.bind_some, e2, Option.bind_some, e1', Option.bind_some, e2', Option.bind_some]
 obtain ⟨k, rfl⟩ : ∃ j, k = j + 1 := ⟨k - 1, by omega⟩
 show (if ok = true then (if ok' = true then aU.j0 (k + 1) l l' _ else aU.j0 (k + 1) l l' true) else aU.j0 (k + 1) l l' true) = _
 cases ok with
 | false => rw [if_neg (by decide), aU.j0, if_pos rfl]
 | true =>
  have hb : bJ b = false := by
   rcases h with h | h
   ·exact absurd (e3 h) (by decide)
   ·exact h
  rw [if_pos rfl, e3' hb, if_neg (by decide), aU.j0, if_pos rfl]
end Go.Y.gL
namespace Go.Y.eU
variable {α : Type}
structure fM (c : α → α → Int) : Prop where
 vals : ∀ a b, c a b = -1 ∨ c a b = 0 ∨ c a b = 1
 flip : ∀ a b, c b a = - c a b
 cong : ∀ a b d, c a b = 0 → c a d = c b d
 trans : ∀ a b d, c a b < 0 → c b d < 0 → c a d < 0
namespace fM
variable {c : α → α → Int} (O : fM c)
include O
theorem refl (a : α) : c a a = 0 := by have := O.flip a a; omega
theorem symm {a b : α} (h : c a b = 0) : c b a = 0 := by have := O.flip a b; omega
theorem congr (a b d : α) (h : c a b = 0) : c d a = c d b := by have h1 := O.cong a b d h; have h2 := O.flip a d; have h3 := O.flip b d; omega
theorem lt_of_lt_of_eq {a b d : α} (h : c a b < 0) (h' : c b d = 0) : c a d < 0 := by rw [← O.congr b d a h']; exact h
theorem lt_of_eq_of_lt {a b d : α} (h : c a b = 0) (h' : c b d < 0) : c a d < 0 := by rw [O.cong a b d h]; exact h'
theorem le_trans {a b d : α} (h : c a b ≤ 0) (h' : c b d ≤ 0) : c a d ≤ 0 := by
 by_cases e : c a b = 0
 ·rw [O.cong a b d e]; exact h'
 ·by_cases e' : c b d = 0
  ·rw [← O.congr b d a e']; exact h
  ·have := O.trans a b d (by omega) (by omega); omega
theorem Ia {a b : α} (h : c a b ≤ 0) (h' : c b a ≤ 0) : c a b = 0 := by have := O.flip a b; omega
end fM
def cls (c : α → α → Int) (l : List α) (x : α) : List α := l.filter fun y => decide (c x y = 0)
def Sorted (c : α → α → Int) (l : List α) : Prop := l.Pairwise fun a b => c a b ≤ 0
def jw (c : α → α → Int) (l : List α) : Prop := l.Pairwise fun a b => c a b < 0
theorem jw.sorted {c : α → α → Int} {l : List α} (h : jw c l) : Sorted c l := h.imp fun h => by omega
theorem wL (c : α → α → Int) (x : α) : cls c [] x = [] := rfl
theorem gY (c : α → α → Int) (y : α) (l : List α) (x : α) : cls c (y :: l) x = if c x y = 0 then y :: cls c l x else cls c l x := by
 unfold cls; rw [List.filter_cons]; simp only [decide_eq_true_eq]
theorem gq (c : α → α → Int) (l m : List α) (x : α) : cls c (l ++ m) x = cls c l x ++ cls c m x := List.filter_append ..
theorem nT {c : α → α → Int} {l : List α} {x y : α} : y ∈ cls c l x ↔ y ∈ l ∧ c x y = 0 := by unfold cls; rw [List.mem_filter]; simp
theorem AA (c : α → α → Int) (l : List α) (x : α) : cls c l.reverse x = (cls c l x).reverse := by unfold cls; rw [List.filter_reverse]
theorem mZ {c : α → α → Int} {l : List α} {x : α} (h : ∀ y ∈ l, ¬ c x y = 0) : cls c l x = [] := by
 unfold cls; rw [List.filter_eq_nil_iff]; intro y hy; simpa using h y hy
theorem oo {c : α → α → Int} (O : fM c) (l : List α) {x y : α} (h : c x y = 0) : cls c l x = cls c l y := by
 unfold cls; congr 1; funext z; rw [O.cong x y z h]
theorem rD {c : α → α → Int} (O : fM c) : ∀ (l m : List α), Sorted c l → Sorted c m → (∀ x, cls c l x = cls c m x) → l = m := by
 intro l
 induction l with
 | nil =>
  intro m _ _ h
  cases m with
  | nil => rfl
  | cons y m => have := h y; rw [wL, gY, if_pos (O.refl y)] at this; cases this
 | cons a l ih =>
  intro m hl hm h
  cases m with
  | nil => have := h a; rw [wL, gY, if_pos (O.refl a)] at this; cases this
  | cons b m =>
   have hl' := List.pairwise_cons.mp hl
   have hm' := List.pairwise_cons.mp hm
   have ha : a ∈ b :: m := by
    have h1 := h a
    have h2 : a ∈ cls c (b :: m) a := by rw [← h1]; exact nT.mpr ⟨List.mem_cons_self .., O.refl a⟩
    exact (nT.mp h2).1
   have hb : b ∈ a :: l := by
    have h1 := h b
    have h2 : b ∈ cls c (a :: l) b := by rw [h1]; exact nT.mpr ⟨List.mem_cons_self .., O.refl b⟩
    exact (nT.mp h2).1
   have hab : c a b ≤ 0 := by
    rcases List.mem_cons.mp hb with e | e
    ·rw [e, O.refl]; omega
    ·exact hl'.1 b e
   have hba : c b a ≤ 0 := by
    rcases List.mem_cons.mp ha with e | e
    ·rw [e, O.refl]; omega
    ·exact hm'.1 a e
   have h0 := O.Ia hab hba
   have h1 := h a
   rw [gY, if_pos (O.refl a), gY, if_pos h0] at h1
   obtain ⟨rfl, _⟩ := List.cons.inj h1
   congr 1
   refine ih m hl'.2 hm'.2 fun x => ?_
   have h2 := h x
   rw [gY, gY] at h2
   split at h2
   ·exact (List.cons.inj h2).2
   ·exact h2
theorem sG {c : α → α → Int} (O : fM c) {a : α} {l : List α} (h : jw c (a :: l)) : cls c l a = [] :=
 mZ fun y hy h0 => by have := (List.pairwise_cons.mp h).1 y hy; omega
theorem JQ {c : α → α → Int} (O : fM c) : ∀ {l : List α} (_ : jw c l) {x y : α} (_ : y ∈ l) (_ : c x y = 0), cls c l x = [y] := by
 intro l
 induction l with
 | nil => intro _ x y hy; cases hy
 | cons a l ih =>
  intro h x y hy h0
  rw [gY]
  rcases List.mem_cons.mp hy with rfl | hy
  ·rw [if_pos h0, oo O l h0, sG O h]
  ·have hlt := (List.pairwise_cons.mp h).1 y hy
   rw [if_neg (fun e => by have h1 := O.cong x a y e; omega)]
   exact ih (List.pairwise_cons.mp h).2 hy h0
theorem rF {c : α → α → Int} (O : fM c) {l : List α} (h : jw c l) (x : α) : cls c l x = [] ∨ ∃ y, y ∈ l ∧ c x y = 0 ∧ cls c l x = [y] := by
 by_cases he : ∃ y ∈ l, c x y = 0
 ·obtain ⟨y, hy, h0⟩ := he
  exact .inr ⟨y, hy, h0, JQ O h hy h0⟩
 ·exact .inl (mZ fun y hy h0 => he ⟨y, hy, h0⟩)
theorem CG {c : α → α → Int} (O : fM c) {l m : List α} (hl : jw c l) (hm : jw c m) (h : ∀ x, cls c l x = cls c m x) : l = m := rD O l m hl.sorted hm.sorted h
theorem vZ {c : α → α → Int} (O : fM c) {l m : List α} (h : ∀ x, cls c l x = cls c m x) {y : α} (hy : y ∈ l) : y ∈ m := by
 have h1 : y ∈ cls c l y := nT.mpr ⟨hy, O.refl y⟩
 rw [h] at h1
 exact (nT.mp h1).1
def put (c : α → α → Int) : List α → α → List α
 | [], r => [r]
 | y :: l, r => if c r y < 0 then r :: y :: l else if c r y = 0 then r :: l else y :: put c l r
theorem wI {c : α → α → Int} : ∀ {l : List α} {r y : α}, y ∈ put c l r → y = r ∨ y ∈ l := by
 intro l
 induction l with
 | nil => intro r y h; simpa [put] using h
 | cons a l ih =>
  intro r y h
  rw [put] at h
  split at h
  ·exact List.mem_cons.mp h
  ·split at h
   ·rcases List.mem_cons.mp h with h | h
    ·exact .inl h
    ·exact .inr (List.mem_cons_of_mem _ h)
   ·rcases List.mem_cons.mp h with h | h
    ·exact .inr (by rw [h]; exact List.mem_cons_self ..)
    ·rcases ih h with h | h
     ·exact .inl h
     ·exact .inr (List.mem_cons_of_mem _ h)
theorem tZ {c : α → α → Int} (O : fM c) : ∀ {l : List α} (_ : jw c l) (r : α), jw c (put c l r) := by
 intro l
 induction l with
 | nil => intro _ r; exact List.pairwise_singleton _ _
 | cons a l ih =>
  intro h r
  have h' := List.pairwise_cons.mp h
  rw [put]
  split
  ·rename_i hlt
   refine List.pairwise_cons.mpr ⟨fun y hy => ?_, h⟩
   rcases List.mem_cons.mp hy with rfl | hy
   ·exact hlt
   ·exact O.trans _ _ _ hlt (h'.1 y hy)
  ·split
   ·rename_i _ h0
    refine List.pairwise_cons.mpr ⟨fun y hy => ?_, h'.2⟩
    exact O.lt_of_eq_of_lt h0 (h'.1 y hy)
   ·rename_i h1 h2
    refine List.pairwise_cons.mpr ⟨fun y hy => ?_, ih h'.2 r⟩
    rcases wI hy with rfl | hy
    ·have := O.flip y a; omega
    ·exact h'.1 y hy
theorem Jv {c : α → α → Int} (O : fM c) : ∀ {l : List α} (_ : jw c l) (r x : α), cls c (put c l r) x = if c x r = 0 then [r] else cls c l x := by
 intro l
 induction l with
 | nil => intro _ r x; rw [put, gY, wL]
 | cons a l ih =>
  intro h r x
  have h' := List.pairwise_cons.mp h
  rw [put]
  split
  ·rename_i hlt
   rw [gY]
   split
   ·rename_i h0
    rw [oo O _ h0, mZ fun y hy h1 => ?_]
    rcases List.mem_cons.mp hy with rfl | hy
    ·omega
    ·have := O.trans _ _ _ hlt (h'.1 y hy); omega
   ·rfl
  ·split
   ·rename_i _ h0
    rw [gY, gY]
    split
    ·rename_i hx
     rw [oo O l hx, oo O l h0, sG O h]
    ·rename_i hx
     rw [if_neg (fun e => hx (by rw [O.congr r a x h0]; exact e))]
   ·rename_i h1 h2
    rw [gY, ih h'.2, gY]
    split
    ·rename_i hx
     rw [if_neg (fun e => h2 (by rw [← O.cong x r a e]; exact hx)), if_neg (fun e => h2 (by rw [← O.cong x r a e]; exact hx))]
    ·rfl
def drop (c : α → α → Int) (l : List α) (r : α) : List α := l.filter fun y => !decide (c r y = 0)
def find (c : α → α → Int) (l : List α) (r : α) : Option α := (cls c l r).head?
theorem GV {c : α → α → Int} (O : fM c) {l : List α} (h : jw c l) (r x : α) : find c (put c l r) x = if c x r = 0 then some r else find c l x := by
 unfold find; rw [Jv O h]; split <;> rfl
theorem xI {c : α → α → Int} {l : List α} {x : α} : find c l x = none ↔ ∀ y ∈ l, ¬ c x y = 0 := by
 unfold find
 rw [List.head?_eq_none_iff]
 constructor
 ·intro h y hy h0
  have : y ∈ cls c l x := nT.mpr ⟨hy, h0⟩
  rw [h] at this; cases this
 ·exact fun h => mZ h
theorem Au {c : α → α → Int} (O : fM c) {l m : List α} (hl : jw c l) (hm : jw c m) (h : ∀ x, find c l x = find c m x) : l = m := by
 refine CG O hl hm fun x => ?_
 have h1 := h x
 unfold find at h1
 rcases rF O hl x with e | ⟨y, _, _, e⟩ <;> rcases rF O hm x with e' | ⟨z, _, _, e'⟩ <;> rw [e, e'] at h1 ⊢ <;> simp at h1 ⊢ <;> exact h1
theorem EA {c : α → α → Int} {l : List α} {r : α} (h : find c l r = none) : drop c l r = l := by
 unfold drop
 rw [List.filter_eq_self]
 intro y hy
 have := xI.mp h y hy
 simp [this]
theorem drop_drop {c : α → α → Int} (l : List α) (r : α) : drop c (drop c l r) r = drop c l r := by unfold drop; rw [List.filter_filter]; simp
theorem vG {c : α → α → Int} (O : fM c) : ∀ {l : List α} (_ : jw c l) (r : α), (put c l r).length = (drop c l r).length + 1 := by
 intro l
 induction l with
 | nil => intro _ r; rfl
 | cons a l ih =>
  intro h r
  have h' := List.pairwise_cons.mp h
  have hd : ∀ x, ¬ c x a = 0 → drop c (a :: l) x = a :: drop c l x := fun x hx => by unfold drop; rw [List.filter_cons]; simp [hx]
  rw [put]
  split
  ·rename_i hlt
   have : drop c (a :: l) r = a :: l := EA (xI.mpr fun y hy => by
    rcases List.mem_cons.mp hy with rfl | hy
    ·omega
    ·have := O.trans _ _ _ hlt (h'.1 y hy); omega)
   rw [this]; rfl
  ·split
   ·rename_i _ h0
    have : drop c (a :: l) r = l := by
     unfold drop
     rw [List.filter_cons]
     simp only [h0, decide_true, Bool.not_true, Bool.false_eq_true, if_false]
     have : ∀ y ∈ l, ¬ c r y = 0 := fun y hy => by have := O.lt_of_eq_of_lt h0 (h'.1 y hy); omega
     rw [List.filter_eq_self]; intro y hy; simp [this y hy]
    rw [this]; rfl
   ·rename_i h1 h2
    rw [hd r h2, List.length_cons, List.length_cons, ih h'.2]
def ofL (c : α → α → Int) (l : List α) : List α := l.foldl (put c) []
theorem foldl_set {c : α → α → Int} (O : fM c) : ∀ (l m : List α), jw c m → jw c (l.foldl (put c) m) := by
 intro l
 induction l with
 | nil => intro m h; exact h
 | cons a l ih => intro m h; exact ih _ (tZ O h a)
theorem AZ {c : α → α → Int} (O : fM c) (l : List α) : jw c (ofL c l) := foldl_set O l [] List.Pairwise.nil
theorem Di {c : α → α → Int} (O : fM c) : ∀ (l m : List α), jw c m → ∀ x, find c (l.foldl (put c) m) x = (cls c l x).getLast?.or (find c m x) := by
 intro l
 induction l with
 | nil => intro m _ x; rfl
 | cons a l ih =>
  intro m h x
  rw [List.foldl_cons, ih _ (tZ O h a), GV O h, gY]
  split
  ·cases hq : cls c l x with
   | nil => rfl
   | cons y t => rw [List.getLast?_cons_cons]; simp [List.getLast?_cons]
  ·rfl
theorem Iq {c : α → α → Int} (O : fM c) (l : List α) (x : α) : find c (ofL c l) x = (cls c l x).getLast? := by
 unfold ofL
 rw [Di O l [] List.Pairwise.nil]
 cases (cls c l x).getLast? <;> rfl
def firsts (c : α → α → Int) : List α → List α
 | [] => []
 | [a] => [a]
 | a :: b :: l => if c a b = 0 then firsts c (a :: l) else a :: firsts c (b :: l)
termination_by l => l.length
theorem CS {c : α → α → Int} : ∀ (n : Nat) (l : List α), l.length = n → ∀ y ∈ firsts c l, y ∈ l := by
 intro n
 induction n with
 | zero => intro l h y hy; obtain rfl := List.length_eq_zero_iff.mp h; rw [firsts] at hy; exact hy
 | succ n ih =>
  intro l h y hy
  match l, h with
  | [a], _ => rw [firsts] at hy; exact hy
  | a :: b :: l, h =>
   rw [firsts] at hy
   split at hy
   ·have := ih (a :: l) (by simpa using h) y hy
    rcases List.mem_cons.mp this with e | e
    ·rw [e]; exact List.mem_cons_self ..
    ·exact List.mem_cons_of_mem _ (List.mem_cons_of_mem _ e)
   ·rcases List.mem_cons.mp hy with e | e
    ·rw [e]; exact List.mem_cons_self ..
    ·exact List.mem_cons_of_mem _ (ih (b :: l) (by simpa using h) y e)
theorem Ce {c : α → α → Int} (O : fM c) : ∀ (n : Nat) (l : List α), l.length = n → Sorted c l → jw c (firsts c l) ∧ ∀ x, cls c (firsts c l) x = (cls c l x).head?.toList := by
 intro n
 induction n with
 | zero => intro l h _; obtain rfl := List.length_eq_zero_iff.mp h; rw [firsts]; exact ⟨List.Pairwise.nil, fun x => rfl⟩
 | succ n ih =>
  intro l h hs
  match l, h with
  | [a], _ =>
   rw [firsts]
   refine ⟨List.pairwise_singleton _ _, fun x => ?_⟩
   rw [gY]; split <;> rfl
  | a :: b :: l, h =>
   have hs' := List.pairwise_cons.mp hs
   rw [firsts]
   split
   ·rename_i h0
    have hsa : Sorted c (a :: l) := List.pairwise_cons.mpr ⟨fun y hy => hs'.1 y (List.mem_cons_of_mem _ hy), (List.pairwise_cons.mp hs'.2).2⟩
    obtain ⟨h1, h2⟩ := ih (a :: l) (by simpa using h) hsa
    refine ⟨h1, fun x => ?_⟩
    rw [h2, gY, gY c a (b :: l)]
    split
    ·rfl
    ·rename_i hx
     rw [gY, if_neg (fun e => hx (by rw [O.congr a b x h0]; exact e))]
   ·rename_i h0
    obtain ⟨h1, h2⟩ := ih (b :: l) (by simpa using h) hs'.2
    have hab : c a b < 0 := by have := hs'.1 b (List.mem_cons_self ..); omega
    have hall : ∀ y ∈ b :: l, c a y < 0 := fun y hy => by
     rcases List.mem_cons.mp hy with rfl | hy
     ·exact hab
     ·have h3 := (List.pairwise_cons.mp hs'.2).1 y hy
      by_cases e : c b y = 0
      ·exact O.lt_of_lt_of_eq hab e
      ·exact O.trans _ _ _ hab (by omega)
    refine ⟨List.pairwise_cons.mpr ⟨fun y hy => hall y (CS _ _ rfl y hy), h1⟩, fun x => ?_⟩
    rw [gY, h2, gY c a (b :: l)]
    split
    ·rename_i hx
     rw [oo O _ hx, mZ fun y hy e => by have := hall y hy; omega]; rfl
    ·rfl
def dR (c : α → α → Int) (l m : List α) : Prop := Sorted c m ∧ ∀ x, cls c m x = cls c l x
theorem dR.unique {c : α → α → Int} (O : fM c) {l m m' : List α} (h : dR c l m) (h' : dR c l m') : m = m' := rD O _ _ h.1 h'.1 fun x => (h.2 x).trans (h'.2 x).symm
theorem xY {c : α → α → Int} (O : fM c) {l m : List α} (h : dR c l.reverse m) : firsts c m = ofL c l := by
 obtain ⟨h1, h2⟩ := Ce O _ m rfl h.1
 refine Au O h1 (AZ O l) fun x => ?_
 rw [Iq O]
 unfold find
 rw [h2, h.2, AA, List.head?_reverse]
 cases (cls c l x).getLast? <;> rfl
end Go.Y.eU
namespace Go.Y.eU
open Go.Y.gL
def kT {α : Type} (c d : α → α → Int) (a b : α) : Int := if c a b = 0 then d a b else c a b
theorem fM.kT {α : Type} {c d : α → α → Int} (C : fM c) (D : fM d) : fM (kT c d) where
 vals a b := by
  unfold eU.kT; split
  ·exact D.vals a b
  ·exact C.vals a b
 flip a b := by
  have h := C.flip a b
  unfold eU.kT
  by_cases e : c a b = 0
  ·rw [if_pos e, if_pos (by omega)]; exact D.flip a b
  ·rw [if_neg e, if_neg (by omega)]; exact h
 cong a b e h := by
  unfold eU.kT at h ⊢
  by_cases e1 : c a b = 0
  ·rw [if_pos e1] at h
   rw [C.cong a b e e1, D.cong a b e h]
  ·rw [if_neg e1] at h; exact absurd h e1
 trans a b e h1 h2 := by
  unfold eU.kT at h1 h2 ⊢
  by_cases e1 : c a b = 0
  ·rw [if_pos e1] at h1
   by_cases e2 : c b e = 0
   ·rw [if_pos e2] at h2
    rw [if_pos (by rw [C.cong a b e e1]; exact e2)]
    exact D.trans a b e h1 h2
   ·rw [if_neg e2] at h2
    have : c a e < 0 := C.lt_of_eq_of_lt e1 h2
    rw [if_neg (by omega)]; exact this
  ·rw [if_neg e1] at h1
   by_cases e2 : c b e = 0
   ·have : c a e < 0 := C.lt_of_lt_of_eq h1 e2
    rw [if_neg (by omega)]; exact this
   ·rw [if_neg e2] at h2
    have := C.trans a b e h1 h2
    rw [if_neg (by omega)]; exact this
theorem fM.pull {α β : Type} {c : β → β → Int} (O : Ord c) (f : α → β) : fM (fun a b => c (f a) (f b)) where
 vals a b := O.vals _ _
 flip a b := O.flip _ _
 cong a b d h := by rw [O.zero _ _ h]
 trans a b d h1 h2 := O.trans _ _ _ h1 h2
def nD (a b : Int) : Int := if a < b then -1 else if a > b then 1 else 0
theorem zG : Ord nD where
  vals a b := by unfold nD; repeat' split
                 all_goals omega
  flip a b := by unfold nD; repeat' split
                 all_goals omega
  zero a b h := by unfold nD at h; revert h; repeat' split
                   all_goals (intro h; omega)
  self a := by unfold nD; rw [if_neg (by omega), if_neg (by omega)]
  trans a b d h1 h2 := by
    unfold nD at h1 h2 ⊢
    have e1 : a < b := by by_cases h : a < b; exact h; rw [if_neg h] at h1; split at h1 <;> omega
    have e2 : b < d := by by_cases h : b < d; exact h; rw [if_neg h] at h2; split at h2 <;> omega
    rw [if_pos (by omega)]; omega
end Go.Y.eU
namespace Go.Y.lg
open Go.Y.PRd Go.Proofs.aj.aD Go.Proofs.aj.aQ Go.Proofs.aj.aW Go.Y.Given Go.Y.Oct Go.Y.Name Go.Y.gL
theorem rA {n : ByteArray} (h : bJ n = true) : n.size ≤ 255 := by
 unfold bJ at h
 exact of_decide_eq_true (Bool.and_eq_true_iff.mp h).1
def by8 (m : ByteArray) (i : Nat) : Nat := (m.data.toList.getD i 0).toNat
theorem qG (m : ByteArray) (i : Nat) : by8 m i < 256 := UInt8.toNat_lt _
theorem oW {m : ByteArray} {i : Nat} (h : i < m.size) : (m.data.toList[i]'(by rw [bS]; exact h)).toNat = by8 m i := by
 unfold by8; rw [List.getD_eq_getElem?_getD, List.getElem?_eq_getElem (by rw [bS]; exact h)]; rfl
theorem Et {m : ByteArray} {i : Nat} (h : i < m.size) : bt m (i : Int) = (by8 m i : Int) := by rw [jQ m i h, oW h]
inductive Pc where
 | lab (c : Nat)
 | ptr (t : Nat)
def pc (m : ByteArray) (i : Nat) : Option Pc :=
 if i < m.size then
  if 192 ≤ by8 m i then (if i + 1 < m.size then some (.ptr ((by8 m i - 192) * 256 + by8 m (i + 1))) else none)
  else if 64 ≤ by8 m i then none
  else if i + 1 + by8 m i ≤ m.size then some (.lab (by8 m i)) else none
 else none
theorem JA {m : ByteArray} {i : Nat} (h : i + 1 < m.size) : beN ((m.extract i m.size).data.toList.take 2) = by8 m i * 256 + by8 m (i + 1) := by
 rw [oL (by omega), List.drop_eq_getElem_cons (by rw [bS]; exact h)]
 have h1 := oW (m := m) (i := i) (by omega)
 have h2 := oW (m := m) (i := i + 1) h
 rw [← h1, ← h2]
 simp [beN]
theorem Ed (m : ByteArray) (i : Nat) (hi : i ≤ m.size) (hs : m.size ≤ 1000000) : gG.f (m.extract i m.size) [2] =
  if i + 1 < m.size then some ([((by8 m i * 256 + by8 m (i + 1) : Nat) : Int)], m.extract (i + 2) m.size, 0) else some ([], ⟨#[]⟩, 2) := by
 unfold gG.f
 rw [if_pos ⟨by rw [iF]; omega, by decide⟩, if_pos (by decide +kernel)]
 by_cases h : i + 1 < m.size
 ·rw [if_pos h]
  have e : iU (m.extract i m.size) [2] [] = some ([((by8 m i * 256 + by8 m (i + 1) : Nat) : Int)], m.extract (i + 2) m.size) := by
   rw [iU, if_pos (by rw [iF]; show 2 ≤ m.size - i; omega), iU]
   have e2 : (2 : Int).toNat = 2 := rfl
   rw [e2, JA h, iF, (Bb m i 2 hi (by omega)).2]; rfl
  rw [e]
 ·rw [if_neg h]
  have e : iU (m.extract i m.size) [2] [] = none := by
   rw [iU, if_neg (by rw [iF]; show ¬ 2 ≤ m.size - i; omega)]
  rw [e]
def atR (m : ByteArray) (i : Nat) : ByteArray × Int × Int × Bool :=
 match pc m i with
 | none => (⟨#[]⟩, 0, 0, false)
 | some (.lab c) => (m.extract i (i + 1 + c), -1, ((i + 1 + c : Nat) : Int), true)
 | some (.ptr t) => (⟨#[]⟩, (t : Int), ((i + 2 : Nat) : Int), true)
theorem uR (m : ByteArray) (i k : Nat) (hi : i ≤ m.size) (hs : m.size ≤ 1000000) (x : ByteArray) (hc : ¬ (i < m.size ∧ by8 m i < 64 ∧ i + 1 + by8 m i ≤ m.size)) : iC.j0 (k + 1) m (i : Int) x false = some (atR m i) := by
 rw [iC.j0, if_neg (by decide), if_pos (by omega), if_pos (by omega)]
 show ((gG.f (m.extract i m.size) [2]).bind _) = _
 rw [Ed m i hi hs]
 have hb := qG m i
 have hb1 := qG m (i + 1)
 by_cases h : i + 1 < m.size
 ·rw [if_pos h, Option.bind_some]
  show (if (0 : Int) = 0 then _ else _) = _
  rw [if_pos rfl]
  show (if (0 : Int) < ((1 : Nat) : Int) then _ else _) = _
  rw [if_pos (by decide)]
  show (if ((by8 m i * 256 + by8 m (i + 1) : Nat) : Int) < 49152 then _ else some (_, wrap64 (IntKind.u64.wrap (((by8 m i * 256 + by8 m (i + 1) : Nat) : Int) - 49152)), _, _)) = _
  unfold atR pc
  rw [if_pos (by omega : i < m.size)]
  by_cases hp : 192 ≤ by8 m i
  ·rw [if_neg (by omega), if_pos hp, if_pos h]
   simp only []
   have e1 : ((by8 m i * 256 + by8 m (i + 1) : Nat) : Int) - 49152 = (((by8 m i - 192) * 256 + by8 m (i + 1) : Nat) : Int) := by omega
   have e2 : (((by8 m i - 192) * 256 + by8 m (i + 1) : Nat) : Int) % 2 ^ 64 = (((by8 m i - 192) * 256 + by8 m (i + 1) : Nat) : Int) := by omega
   have e3 : IntKind.u64.wrap (((by8 m i - 192) * 256 + by8 m (i + 1) : Nat) : Int) = (((by8 m i - 192) * 256 + by8 m (i + 1) : Nat) : Int) := by
    simp only [IntKind.wrap, IntKind.bits, IntKind.signed, e2]; rw [if_neg (by simp)]
   rw [e1, e3, cu (by omega) (by omega), cu (by omega) (by omega)]
   rfl
  ·rw [if_pos (by omega), if_neg hp]
   by_cases h64 : 64 ≤ by8 m i
   ·rw [if_pos h64]
   ·rw [if_neg h64, if_neg (by omega)]
 ·rw [if_neg h, Option.bind_some]
  show (if (2 : Int) = 0 then _ else _) = _
  rw [if_neg (by decide)]
  unfold atR pc
  by_cases hlt : i < m.size
  ·rw [if_pos hlt]
   by_cases hp : 192 ≤ by8 m i
   ·rw [if_pos hp, if_neg h]
   ·rw [if_neg hp]
    by_cases h64 : 64 ≤ by8 m i
    ·rw [if_pos h64]
    ·rw [if_neg h64, if_neg (by omega)]
  ·rw [if_neg hlt]
theorem KU (m : ByteArray) (i k : Nat) (hi : i ≤ m.size) (hs : m.size ≤ 1000000) : iC.f (k + 1) m (i : Int) = some (atR m i) := by
 unfold iC.f
 rw [if_pos (by omega), if_pos (by omega)]
 show ((iD.f (m.extract i m.size) 1).bind _) = _
 have hsz : (m.extract i m.size).size = m.size - i := iF m i
 by_cases hlt : i < m.size
 ·have hcut := xZ hlt
  rw [oW hlt] at hcut
  by_cases hfit : by8 m i ≤ m.size - i - 1
  ·rw [if_pos hfit] at hcut
   rw [zw (by omega) hcut, Option.bind_some]
   show (if (0 : Int) = 0 then _ else _) = _
   rw [if_pos rfl]
   have hs1 : (m.extract (i + 1) (i + 1 + by8 m i)).size = by8 m i := by rw [ByteArray.size_extract]; omega
   show iC.j0 (k + 1) m (i : Int) (m.extract (i + 1 + by8 m i) m.size) (decide (((m.extract (i + 1) (i + 1 + by8 m i)).size : Int) ≤ 63)) = _
   rw [hs1]
   by_cases h64 : by8 m i < 64
   ·rw [decide_eq_true (by omega), iC.j0, if_pos rfl, iF]
    have e1 : wrap64 ((m.size : Int) - ((m.size - (i + 1 + by8 m i) : Nat) : Int)) = ((i + 1 + by8 m i : Nat) : Int) := by rw [cu (by omega) (by omega)]; omega
    rw [e1, if_pos (by omega), if_pos (by omega), if_pos (by omega)]
    unfold atR pc
    rw [if_pos hlt, if_neg (by omega), if_neg (by omega), if_pos (by omega)]
    rfl
   ·rw [decide_eq_false (by omega)]
    exact uR m i k hi hs _ (by omega)
  ·rw [if_neg hfit] at hcut
   rw [uZ (by omega) hcut, Option.bind_some]
   show (if (2 : Int) = 0 then _ else _) = _
   rw [if_neg (by decide)]
   exact uR m i k hi hs _ (by omega)
 ·have hcut : fG (m.extract i m.size) 1 = none := by unfold fG; rw [if_neg (by omega)]
  rw [uZ (by omega) hcut, Option.bind_some]
  show (if (2 : Int) = 0 then _ else _) = _
  rw [if_neg (by decide)]
  exact uR m i k hi hs _ (by omega)
def err : ByteArray × Int × Int := (⟨#[]⟩, 0, 2)
def nxt (nx : Int) (i : Nat) : Int := if nx < 0 then (i : Int) else nx
def jS (m : ByteArray) : Nat → Nat → ByteArray → Int → Nat → ByteArray × Int × Int
 | 0, _, _, _, _ => err
 | d + 1, i, n, nx, fr =>
  match pc m i with
  | none => err
  | some (.ptr t) => if fr ≤ t then err else jS m d t n (nxt nx (i + 2)) t
  | some (.lab c) => if c = 0 then (if bJ (n ++ iw) = true then (n ++ iw, nxt nx (i + 1), 0) else err) else jS m d (i + 1 + c) (n ++ m.extract i (i + 1 + c)) nx fr
def mu (m : ByteArray) (i fr : Nat) : Nat := fr * (m.size + 1) + (m.size - i)
theorem Ez {m : ByteArray} {i fr t : Nat} (h : t < fr) : mu m t t < mu m i fr := by
 unfold mu
 obtain ⟨j, rfl⟩ : ∃ j, fr = t + 1 + j := ⟨fr - t - 1, by omega⟩
 have h1 : (t + 1 + j) * (m.size + 1) = t * (m.size + 1) + (m.size + 1) + j * (m.size + 1) := by rw [Nat.add_mul, Nat.add_mul, Nat.one_mul]
 have h2 : 0 ≤ j * (m.size + 1) := Nat.zero_le _
 omega
theorem zL {m : ByteArray} {i c : Nat} (h : pc m i = some (.lab c)) : i < m.size ∧ c = by8 m i ∧ c < 64 ∧ i + 1 + c ≤ m.size := by
 unfold pc at h
 by_cases h1 : i < m.size
 ·rw [if_pos h1] at h
  by_cases h2 : 192 ≤ by8 m i
  ·rw [if_pos h2] at h
   by_cases h3 : i + 1 < m.size
   ·rw [if_pos h3] at h; cases h
   ·rw [if_neg h3] at h; cases h
  ·rw [if_neg h2] at h
   by_cases h3 : 64 ≤ by8 m i
   ·rw [if_pos h3] at h; cases h
   ·rw [if_neg h3] at h
    by_cases h4 : i + 1 + by8 m i ≤ m.size
    ·rw [if_pos h4] at h
     cases h
     exact ⟨h1, rfl, by omega, h4⟩
    ·rw [if_neg h4] at h; cases h
 ·rw [if_neg h1] at h; cases h
theorem Ab {m : ByteArray} {i t : Nat} (h : pc m i = some (.ptr t)) : i + 1 < m.size ∧ 192 ≤ by8 m i ∧ t = (by8 m i - 192) * 256 + by8 m (i + 1) ∧ t < 16384 := by
 unfold pc at h
 by_cases h1 : i < m.size
 ·rw [if_pos h1] at h
  by_cases h2 : 192 ≤ by8 m i
  ·rw [if_pos h2] at h
   by_cases h3 : i + 1 < m.size
   ·rw [if_pos h3] at h
    have hb := qG m i
    have hb1 := qG m (i + 1)
    cases h
    exact ⟨h3, h2, rfl, by omega⟩
   ·rw [if_neg h3] at h; cases h
  ·rw [if_neg h2] at h
   by_cases h3 : 64 ≤ by8 m i
   ·rw [if_pos h3] at h; cases h
   ·rw [if_neg h3] at h
    by_cases h4 : i + 1 + by8 m i ≤ m.size
    ·rw [if_pos h4] at h; cases h
    ·rw [if_neg h4] at h; cases h
 ·rw [if_neg h1] at h; cases h
theorem FH {m : ByteArray} {i fr c : Nat} (h : i < m.size) : mu m (i + 1 + c) fr < mu m i fr := by unfold mu; omega
theorem vH {n : ByteArray} (h : 255 < n.size) : bJ n = false := by
 cases hr : bJ n with
 | false => rfl
 | true => have := rA hr; omega
theorem wF (m : ByteArray) : ∀ (d i : Nat) (n : ByteArray) (nx : Int) (fr : Nat), 255 < n.size → jS m d i n nx fr = err := by
 intro d
 induction d with
 | zero => intros; rfl
 | succ d ih =>
  intro i n nx fr hn
  rw [jS]
  cases hp : pc m i with
  | none => rfl
  | some p =>
   cases p with
   | ptr t =>
    simp only []
    by_cases hf : fr ≤ t
    ·rw [if_pos hf]
    ·rw [if_neg hf]; exact ih _ _ _ _ hn
   | lab c =>
    simp only []
    by_cases h0 : c = 0
    ·rw [if_pos h0, vH (by rw [ByteArray.size_append]; omega), if_neg (by decide)]
    ·rw [if_neg h0]; exact ih _ _ _ _ (by rw [ByteArray.size_append]; omega)
theorem zQ {m : ByteArray} {i : Nat} (h : i < m.size) (h0 : by8 m i = 0) : m.extract i (i + 1) = iw := by
 apply gM
 rw [jR, List.drop_eq_getElem_cons (by rw [bS]; exact h)]
 have := oW h
 rw [h0] at this
 have h1 : m.data.toList[i]'(by rw [bS]; exact h) = 0 := UInt8.toNat_inj.mp (by rw [this]; rfl)
 rw [h1]; rfl
theorem IX {m : ByteArray} {i c : Nat} (h : i < m.size) (hc : c = by8 m i) (h0 : ¬ c = 0) : ¬ (m.extract i (i + 1 + c)).toList = [0] := by
 intro e
 rw [ByteArray.toList_eq, show i + 1 + c = i + (1 + c) from by omega, jR, List.drop_eq_getElem_cons (by rw [bS]; exact h), Nat.add_comm 1 c, List.take_succ_cons] at e
 have h1 := (List.cons.inj e).1
 have := oW h
 rw [h1] at this
 apply h0; rw [hc, ← this]; rfl
theorem qX {m : ByteArray} {i c : Nat} (h : i + 1 + c ≤ m.size) : (m.extract i (i + 1 + c)).size = 1 + c := by rw [ByteArray.size_extract]; omega
theorem Ip {m n : ByteArray} {i c : Nat} (h : i + 1 + c ≤ m.size) (hc : c < 64) (hn : n.size < 300) : (n ++ m.extract i (i + 1 + c)).size ≤ 1000000 := by rw [ByteArray.size_append, qX h]; omega
theorem pj3 (k : Nat) (i : Nat) (n : ByteArray) (nx : Int) : dw.j3 (k + 1) (i : Int) n nx = some (if bJ n = true then (n, nxt nx i, 0) else err) := by
 rw [dw.j3]
 show (if bJ n = true then _ else _) = _
 unfold nxt
 by_cases hr : bJ n = true
 ·rw [if_pos hr, if_pos hr]
  by_cases hx : nx < 0
  ·rw [if_pos hx, if_pos hx]
  ·rw [if_neg hx, if_neg hx]
 ·rw [if_neg hr, if_neg hr]; rfl
theorem pread (m : ByteArray) (hs : m.size ≤ 1000000) : ∀ (d i k : Nat) (n : ByteArray) (nx : Int) (fr : Nat), i ≤ m.size → fr ≤ m.size → mu m i fr < d → 3 * d + 10 ≤ k → dw.l0 k m (i : Int) n nx (fr : Int) = some (jS m d i n nx fr) := by
 intro d
 induction d with
 | zero => intro i k n nx fr _ _ h; omega
 | succ d ih =>
  intro i k n nx fr hi hfr hmu hk
  obtain ⟨k, rfl⟩ : ∃ j, k = j + 4 := ⟨k - 4, by omega⟩
  rw [dw.l0]
  by_cases hn : (n.size : Int) ≤ 255
  ·rw [if_pos hn, KU m i (k + 2) hi hs, Option.bind_some]
   unfold atR
   rw [jS]
   cases hp : pc m i with
   | none =>
    simp only []
    rw [if_neg (by decide), dw.j2, if_pos rfl]; rfl
   | some p =>
    cases p with
    | ptr t =>
     simp only []
     rw [if_pos trivial]
     have hpp := Ab hp
     by_cases hf : fr ≤ t
     ·rw [decide_eq_true (by omega), dw.j2, if_pos rfl, if_pos hf]; rfl
     ·have hm := Ez (m := m) (i := i) (show t < fr by omega)
      rw [decide_eq_false (by omega), dw.j2, if_neg (by decide), if_pos (by omega), if_neg hf]
      unfold nxt
      by_cases hx : nx < 0
      ·rw [if_pos hx, if_pos hx]
       exact ih t (k + 2) n _ t (by omega) (by omega) (by omega) (by omega)
      ·rw [if_neg hx, if_neg hx]
       exact ih t (k + 2) n _ t (by omega) (by omega) (by omega) (by omega)
    | lab c =>
     simp only []
     have hl := zL hp
     have hm := FH (fr := fr) (c := c) hl.1
     rw [if_pos trivial, decide_eq_false (by omega), dw.j2, if_neg (by decide), if_neg (by decide), if_pos (by rw [ByteArray.size_extract]; omega)]
     by_cases h0 : c = 0
     ·subst h0
      rw [zQ hl.1 hl.2.1.symm, if_pos (by decide +kernel), if_pos rfl]
      have := pj3 (k + 1) (i + 1 + 0) (n ++ iw) nx
      exact this
     ·rw [if_neg (IX hl.1 hl.2.1 h0), if_neg h0]
      exact ih _ _ _ _ _ (by omega) hfr (by omega) (by omega)
  ·rw [if_neg hn, wF m (d + 1) i n nx fr (by omega)]
   have := pj3 (k + 2) i n nx
   rw [vH (by omega), if_neg (by decide)] at this
   exact this
theorem Li (m : ByteArray) (hs : m.size ≤ 1000000) : ∀ (d i k : Nat) (n : ByteArray) (nx : Int) (fr : Nat), i ≤ m.size → fr ≤ m.size → n.size ≤ 1000000 → mu m i fr < d → 3 * d + 1000 ≤ k → bn.l0 k m (i : Int) n nx (fr : Int) = some (jS m d i n nx fr) := by
 intro d
 induction d with
 | zero => intro i k n nx fr _ _ _ h; omega
 | succ d ih =>
  intro i k n nx fr hi hfr hns hmu hk
  obtain ⟨k, rfl⟩ : ∃ j, k = j + 4 := ⟨k - 4, by omega⟩
  by_cases hn : n.size < 300
  ·by_cases hlt : i < m.size
   ·rw [bn.l0, if_pos (by omega), decide_eq_true (by omega), bn.j2, if_pos rfl, if_pos (by omega), if_pos (by omega), Et hlt]
    have hb := qG m i
    have hb1 := qG m (i + 1)
    rw [jS]
    unfold pc
    rw [if_pos hlt, cu (x := (by8 m i : Int)) (by omega) (by omega)]
    by_cases h0 : by8 m i = 0
    ·rw [if_pos (show (by8 m i : Int) = 0 by omega), if_pos (show n.size + 1 ≤ 9223372036854775807 by omega), if_neg (show ¬ 192 ≤ by8 m i by omega), if_neg (show ¬ 64 ≤ by8 m i by omega), if_pos (show i + 1 + by8 m i ≤ m.size by omega)]
     simp only []
     rw [if_pos h0, nP _ _ (by omega), cu (x := (i : Int) + 1) (by omega) (by omega)]
     unfold nxt
     have fin : ∀ x : Int, ((some (bJ (n ++ iw))).bind fun t => if t = true then some (n ++ iw, x, (0 : Int)) else some (⟨#[]⟩, 0, 2)) = some (if bJ (n ++ iw) = true then (n ++ iw, x, 0) else err) := by
      intro x
      rw [Option.bind_some]
      by_cases hr : bJ (n ++ iw) = true
      ·rw [if_pos hr, if_pos hr]
      ·rw [if_neg hr, if_neg hr]; rfl
     by_cases hx : nx < 0
     ·rw [if_pos hx, if_pos hx]; exact fin _
     ·rw [if_neg hx, if_neg hx]; exact fin _
    ·rw [if_neg (by omega)]
     by_cases hp : 192 ≤ by8 m i
     ·rw [if_pos (by omega), if_pos hp, cu (x := (i : Int) + 1) (by omega) (by omega)]
      by_cases h1 : i + 1 < m.size
      ·rw [if_neg (by omega), if_pos (by omega), if_pos (by omega), if_pos h1, show ((i : Int) + 1) = ((i + 1 : Nat) : Int) from rfl, Et h1]
       have e1 : wrap64 ((wrap64 ((wrap64 ((by8 m i : Int) - 192)) * 256)) + (wrap64 (by8 m (i + 1) : Int))) = (((by8 m i - 192) * 256 + by8 m (i + 1) : Nat) : Int) := by
        rw [cu (x := (by8 m i : Int) - 192) (by omega) (by omega), cu (x := ((by8 m i : Int) - 192) * 256) (by omega) (by omega), cu (x := (by8 m (i + 1) : Int)) (by omega) (by omega), cu (by omega) (by omega)]
        omega
       rw [e1]
       simp only []
       generalize (by8 m i - 192) * 256 + by8 m (i + 1) = t
       by_cases hf : fr ≤ t
       ·rw [if_pos (by omega), if_pos hf]; rfl
       ·have hm := Ez (m := m) (i := i) (show t < fr by omega)
        rw [if_neg (by omega), if_neg hf, cu (by omega) (by omega)]
        unfold nxt
        by_cases hx : nx < 0
        ·rw [if_pos hx, if_pos hx]
         exact ih t (k + 2) n _ t (by omega) (by omega) hns (by omega) (by omega)
        ·rw [if_neg hx, if_neg hx]
         exact ih t (k + 2) n _ t (by omega) (by omega) hns (by omega) (by omega)
      ·rw [if_pos (by omega), if_neg h1]; rfl
     ·rw [if_neg (by omega), if_neg hp]
      by_cases h64 : 64 ≤ by8 m i
      ·rw [if_pos (by omega), if_pos h64]; rfl
      ·rw [if_neg (by omega), if_neg h64, cu (x := (i : Int) + 1) (by omega) (by omega), cu (x := (i : Int) + 1 + (by8 m i : Int)) (by omega) (by omega)]
       by_cases hfit : i + 1 + by8 m i ≤ m.size
       ·have hm := FH (fr := fr) (c := by8 m i) hlt
        rw [if_neg (by omega), if_pos (by omega), if_pos (by omega), if_pos hfit]
        simp only []
        have e2 : ((i : Int) + 1 + (by8 m i : Int)).toNat = i + 1 + by8 m i := by omega
        have e3 : wrap64 ((i : Int) + wrap64 (1 + (by8 m i : Int))) = ((i + 1 + by8 m i : Nat) : Int) := by rw [cu (x := 1 + (by8 m i : Int)) (by omega) (by omega), cu (by omega) (by omega)]; omega
        have hes : (m.extract i (i + 1 + by8 m i)).size = 1 + by8 m i := qX hfit
        have hns2 : (n ++ m.extract i (i + 1 + by8 m i)).size ≤ 1000000 := Ip hfit (by omega) hn
        have hmd : mu m (i + 1 + by8 m i) fr < d := by omega
        rw [if_neg h0, Int.toNat_natCast, e2, e3]
        have hle : n.size + (m.extract i (i + 1 + by8 m i)).size ≤ 9223372036854775807 := by omega
        rw [if_pos hle]
        exact ih (i + 1 + by8 m i) (k + 2) (n ++ m.extract i (i + 1 + by8 m i)) nx fr hfit hfr hns2 hmd (by omega)
       ·rw [if_pos (by omega), if_neg hfit]; rfl
   ·rw [bn.l0, if_neg (by omega), bn.j2, if_neg (by decide), jS]
    unfold pc
    rw [if_neg hlt]; rfl
  ·rw [wF m (d + 1) i n nx fr (by omega), bn.l0]
   by_cases hlt : i < m.size
   ·rw [if_pos (by omega), decide_eq_false (by omega), bn.j2, if_neg (by decide)]; rfl
   ·rw [if_neg (by omega), bn.j2, if_neg (by decide)]; rfl
def jV (m : ByteArray) (i : Nat) : ByteArray × Int × Int := jS m (mu m i i + 1) i ⟨#[]⟩ (-1) i
def fuel (m : ByteArray) : Nat := 3 * (m.size * (m.size + 1) + m.size + 1) + 1003
theorem Bh {m : ByteArray} {i : Nat} (h : i ≤ m.size) : mu m i i ≤ m.size * (m.size + 1) + m.size := by
 unfold mu
 have := Nat.mul_le_mul_right (m.size + 1) h
 omega
theorem Ki (m : ByteArray) (hs : m.size ≤ 1000000) (i k : Nat) (hi : i ≤ m.size) (hk : fuel m ≤ k) : dw.f k m (i : Int) = some (jV m i) := by
 have := Bh hi
 unfold fuel at hk
 obtain ⟨k, rfl⟩ : ∃ j, k = j + 1 := ⟨k - 1, by omega⟩
 unfold dw.f
 rw [if_neg (by omega), decide_eq_false (by omega), dw.j0, if_neg (by decide)]
 exact pread m hs _ i k _ _ i hi hi (Nat.lt_succ_self _) (by omega)
theorem Bf (m : ByteArray) (hs : m.size ≤ 1000000) (i k : Nat) (hi : i ≤ m.size) (hk : fuel m ≤ k) : bn.f k m (i : Int) = some (jV m i) := by
 have := Bh hi
 unfold fuel at hk
 obtain ⟨k, rfl⟩ : ∃ j, k = j + 1 := ⟨k - 1, by omega⟩
 unfold bn.f
 rw [if_neg (by omega), decide_eq_false (by omega), bn.j0, if_neg (by decide)]
 exact Li m hs _ i k _ _ i hi hi (by decide) (Nat.lt_succ_self _) (by omega)
end Go.Y.lg
