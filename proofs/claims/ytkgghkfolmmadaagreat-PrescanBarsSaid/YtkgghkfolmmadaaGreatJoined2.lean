/- Contracts and facts that the claim's row is drawn from, each with its own conditions. -/
import Derived.Test.YtkgghkfolmmadaaGreatJoined1
import Derived.WalkKit
import Derived.Below
import Derived.Lib.Hide
import Derived.Outline
import Derived.Deep.LoopGhost
import Derived.Shelf.Strings.BuilderK
import Derived.Test.YtkgghkfolmmadaaGreatProg
import Derived.Deep.Draws
import Derived.Deep.AppendLies
import Derived.Maps.AppendAt
import Derived.OwnWalk
import Derived.Laws.BytesArg
import Derived.Laws.MakeOwn
import Derived.Laws.OwnMore
import Derived.Deep.OwnRows
import Derived.Tactics
import Derived.Lib.ConvBytes
import Derived.Laws.Slices
import Derived.KernelRfl
import Derived.RowKit3
import Derived.Deep.QuietTactic
import Derived.BigQuiet
import Derived.WideLaws
import Derived.Deep.DeepCutAuto
import Derived.Deep.CutBlock
import Derived.Deep.RegionHeld3
import Derived.Laws.Rows
import Derived.Lib.AppendStr
import Derived.ArgAppend
import Derived.Laws.IdiomCopy
import Derived.OrdersHeld
import Derived.Laws.BitsLemmas
import Derived.RowKit
set_option linter.unusedSimpArgs false
set_option linter.unusedVariables false
set_option maxHeartbeats 8000000
set_option maxRecDepth 100000
open Go.Proofs Go.RowKit
namespace Go.Y.PRd
open Go.Proofs.aj.aA Go.Proofs.aj.aM Go.Proofs.aj.aN Go.Y.Given
attribute [local go_sem] dF dD dR dQ cB cK dH dG
def bW.j0 : Nat → Int → Bool → Option (ByteArray)
 | 0, _, _ => none
 | k + 1, x3, x8 => if x8 = true then (some (⟨#[110]⟩ : ByteArray)) else (if x3 = 15 then (some (⟨#[50, 110]⟩ : ByteArray)) else (if x3 = 6 then (some (⟨#[110, 110, 52, 52, 52, 52, 52]⟩ : ByteArray)) else (if x3 = 16 then (some (⟨#[116]⟩ : ByteArray)) else (if x3 = 33 then (some (⟨#[50, 50, 50, 117]⟩ : ByteArray)) else (some (⟨#[111]⟩ : ByteArray))))))
def bW.f (k : Nat) (a0 : Int) : Option (ByteArray) := if a0 = 1 then (some (⟨#[52]⟩ : ByteArray)) else (if a0 = 28 then (some (⟨#[104]⟩ : ByteArray)) else (if a0 = 2 then (bW.j0 k a0 (a0 == 2)) else (if a0 = 5 then (bW.j0 k a0 (a0 == 5)) else (bW.j0 k a0 (a0 == 12)))))
theorem bW.calls (k : Nat) (a0 : Int) (r : ByteArray) (w : World) (h : bW.f k a0 = some r) :
  Calls Tryz.prog 138 #[.int .i64 a0] w fun e w' => e = .returned (.string r) ∧ aX w w' := by
 have H : (if a0 = 1 then (some (⟨#[52]⟩ : ByteArray)) else (if a0 = 28 then (some (⟨#[104]⟩ : ByteArray)) else (if a0 = 2 then (bW.j0 k a0 (a0 == 2)) else (if a0 = 5 then (bW.j0 k a0 (a0 == 5)) else (bW.j0 k a0 (a0 == 12)))))) = some r := h
 clear h
 by_cases c2 : a0 = 1
 ·rw [if_pos c2] at H
  have c2b0 : (a0 == 1) = true := beq_iff_eq.mpr c2
  have c2b1 : (a0 != 1) = false := bne_eq_false_iff_eq.mpr c2
  clear c2
  obtain rfl := Option.some.inj H
  go_enter Tryz.func138, Tryz.ntmps138
  go_wp2
  go_ret
  exact ⟨by first | rfl | (simp; done) | (simp [*]; done), by repeat (first | exact aX.refl _ | apply aX.step)⟩
 ·rw [if_neg c2] at H
  have c2b0 : (a0 == 1) = false := beq_eq_false_iff_ne.mpr c2
  have c2b1 : (a0 != 1) = true := bne_iff_ne.mpr c2
  by_cases c3 : a0 = 28
  ·rw [if_pos c3] at H
   have c3b0 : (a0 == 28) = true := beq_iff_eq.mpr c3
   have c3b1 : (a0 != 28) = false := bne_eq_false_iff_eq.mpr c3
   clear c3
   obtain rfl := Option.some.inj H
   go_enter Tryz.func138, Tryz.ntmps138
   go_wp2
   go_ret
   exact ⟨by first | rfl | (simp; done) | (simp [*]; done), by repeat (first | exact aX.refl _ | apply aX.step)⟩
  ·rw [if_neg c3] at H
   have c3b0 : (a0 == 28) = false := beq_eq_false_iff_ne.mpr c3
   have c3b1 : (a0 != 28) = true := bne_iff_ne.mpr c3
   have HC4 := ah.mk H
   clear H
   go_enter Tryz.func138, Tryz.ntmps138
   go_upto_if 8 with (fail)
   go_cut [8] (fun v8 wc => ∃ (kq : Nat) (x8_3 : Bool), v8 = .bool x8_3 ∧ ah (bW.j0 kq a0 x8_3 = some r) ∧ ah (kq ≤ k) ∧ aX w wc)
   case first =>
    have H := HC4.out
    clear HC4
    by_cases c5 : a0 = 2
    ·rw [if_pos c5] at H
     have c5b0 : (a0 == 2) = true := beq_iff_eq.mpr c5
     have c5b1 : (a0 != 2) = false := bne_eq_false_iff_eq.mpr c5
     clear c5
     (first | rw [c5b0] | (simp only [iL, kr]; rw [c5b0]) | skip)
     have H' := ah.mk H
     clear H
     go_wp2
     go_meet
     case rel => exact ⟨_, ((a0 == 2)), (by first | rfl | (simp; done) | (simp [*]; done)), H', ⟨by first | omega | exact Nat.le_refl _⟩, by repeat (first | exact aX.refl _ | apply aX.step)⟩
    ·rw [if_neg c5] at H
     have c5b0 : (a0 == 2) = false := beq_eq_false_iff_ne.mpr c5
     have c5b1 : (a0 != 2) = true := bne_iff_ne.mpr c5
     (first | rw [c5b0] | (simp only [iL, kr]; rw [c5b0]) | skip)
     by_cases c6 : a0 = 5
     ·rw [if_pos c6] at H
      have c6b0 : (a0 == 5) = true := beq_iff_eq.mpr c6
      have c6b1 : (a0 != 5) = false := bne_eq_false_iff_eq.mpr c6
      clear c6
      have H' := ah.mk H
      clear H
      go_wp2
      go_meet
      case rel => exact ⟨_, ((a0 == 5)), (by first | rfl | (simp; done) | (simp [*]; done)), H', ⟨by first | omega | exact Nat.le_refl _⟩, by repeat (first | exact aX.refl _ | apply aX.step)⟩
     ·rw [if_neg c6] at H
      have c6b0 : (a0 == 5) = false := beq_eq_false_iff_ne.mpr c6
      have c6b1 : (a0 != 5) = true := bne_iff_ne.mpr c6
      have H' := ah.mk H
      clear H
      go_wp2
      go_meet
      case rel => exact ⟨_, ((a0 == 12)), (by first | rfl | (simp; done) | (simp [*]; done)), H', ⟨by first | omega | exact Nat.le_refl _⟩, by repeat (first | exact aX.refl _ | apply aX.step)⟩
   case rest =>
    clear HC4
    try clear c1
    try clear c2
    try clear c2b0
    try clear c2b1
    try clear p2
    try clear c3
    try clear c3b0
    try clear c3b1
    try clear c5
    try clear c5b0
    try clear c5b1
    try clear c6
    try clear c6b0
    try clear c6b1
    obtain ⟨kq, x8_3, rfl, HA, HJ3, ⟨mc3, rfl⟩⟩ := hcut
    cases kq with
    | zero => exact absurd HA.out (by simp [bW.j0])
    | succ kj3 =>
     have H := HA.out
     clear HA
     simp only [bW.j0] at H
     by_cases c7 : x8_3 = true
     ·subst c7
      have H1 : (some (⟨#[110]⟩ : ByteArray)) = some r := by rw [if_pos rfl] at H; exact H
      clear H
      have H := H1
      clear H1
      obtain rfl := Option.some.inj H
      go_wp2
      go_ret
      exact ⟨by first | rfl | (simp; done) | (simp [*]; done), by repeat (first | exact aX.refl _ | apply aX.step)⟩
     ·replace c7 := Bool.eq_false_iff.mpr c7
      subst c7
      have H1 : (if a0 = 15 then (some (⟨#[50, 110]⟩ : ByteArray)) else (if a0 = 6 then (some (⟨#[110, 110, 52, 52, 52, 52, 52]⟩ : ByteArray)) else (if a0 = 16 then (some (⟨#[116]⟩ : ByteArray)) else (if a0 = 33 then (some (⟨#[50, 50, 50, 117]⟩ : ByteArray)) else (some (⟨#[111]⟩ : ByteArray)))))) = some r := by rw [if_neg (show ¬ (false = true) by decide)] at H; exact H
      clear H
      have H := H1
      clear H1
      by_cases c8 : a0 = 15
      ·rw [if_pos c8] at H
       have c8b0 : (a0 == 15) = true := beq_iff_eq.mpr c8
       have c8b1 : (a0 != 15) = false := bne_eq_false_iff_eq.mpr c8
       clear c8
       obtain rfl := Option.some.inj H
       go_wp2
       go_ret
       exact ⟨by first | rfl | (simp; done) | (simp [*]; done), by repeat (first | exact aX.refl _ | apply aX.step)⟩
      ·rw [if_neg c8] at H
       have c8b0 : (a0 == 15) = false := beq_eq_false_iff_ne.mpr c8
       have c8b1 : (a0 != 15) = true := bne_iff_ne.mpr c8
       by_cases c9 : a0 = 6
       ·rw [if_pos c9] at H
        have c9b0 : (a0 == 6) = true := beq_iff_eq.mpr c9
        have c9b1 : (a0 != 6) = false := bne_eq_false_iff_eq.mpr c9
        clear c9
        obtain rfl := Option.some.inj H
        go_wp2
        go_ret
        exact ⟨by first | rfl | (simp; done) | (simp [*]; done), by repeat (first | exact aX.refl _ | apply aX.step)⟩
       ·rw [if_neg c9] at H
        have c9b0 : (a0 == 6) = false := beq_eq_false_iff_ne.mpr c9
        have c9b1 : (a0 != 6) = true := bne_iff_ne.mpr c9
        by_cases c10 : a0 = 16
        ·rw [if_pos c10] at H
         have c10b0 : (a0 == 16) = true := beq_iff_eq.mpr c10
         have c10b1 : (a0 != 16) = false := bne_eq_false_iff_eq.mpr c10
         clear c10
         obtain rfl := Option.some.inj H
         go_wp2
         go_ret
         exact ⟨by first | rfl | (simp; done) | (simp [*]; done), by repeat (first | exact aX.refl _ | apply aX.step)⟩
        ·rw [if_neg c10] at H
         have c10b0 : (a0 == 16) = false := beq_eq_false_iff_ne.mpr c10
         have c10b1 : (a0 != 16) = true := bne_iff_ne.mpr c10
         by_cases c11 : a0 = 33
         ·rw [if_pos c11] at H
          have c11b0 : (a0 == 33) = true := beq_iff_eq.mpr c11
          have c11b1 : (a0 != 33) = false := bne_eq_false_iff_eq.mpr c11
          clear c11
          obtain rfl := Option.some.inj H
          go_wp2
          go_ret
          exact ⟨by first | rfl | (simp; done) | (simp [*]; done), by repeat (first | exact aX.refl _ | apply aX.step)⟩
         ·rw [if_neg c11] at H
          have c11b0 : (a0 == 33) = false := beq_eq_false_iff_ne.mpr c11
          have c11b1 : (a0 != 33) = true := bne_iff_ne.mpr c11
          obtain rfl := Option.some.inj H
          go_wp2
          go_ret
          exact ⟨by first | rfl | (simp; done) | (simp [*]; done), by repeat (first | exact aX.refl _ | apply aX.step)⟩
end Go.Y.PRd
namespace Go.Y.PRd
open Go.Proofs.aj.aA Go.Proofs.aj.aM Go.Proofs.aj.aN Go.Y.Given
attribute [local go_sem] dF dD dR dQ cB cK dH dG
def dS.f (a0 : Int) : Option (Bool) := if a0 = 1 then (some true) else (if a0 = 2 then (some true) else (if a0 = 4 then (some true) else (some (a0 == 8))))
theorem dS.calls (a0 : Int) (r : Bool) (w : World) (h : dS.f a0 = some r) :
  Calls Tryz.prog 172 #[.int .i64 a0] w fun e w' => e = .returned (.bool r) ∧ aX w w' := by
 have H : (if a0 = 1 then (some true) else (if a0 = 2 then (some true) else (if a0 = 4 then (some true) else (some (a0 == 8))))) = some r := h
 clear h
 by_cases c2 : a0 = 1
 ·rw [if_pos c2] at H
  have c2b0 : (a0 == 1) = true := beq_iff_eq.mpr c2
  have c2b1 : (a0 != 1) = false := bne_eq_false_iff_eq.mpr c2
  clear c2
  obtain rfl := Option.some.inj H
  go_enter Tryz.func172, Tryz.ntmps172
  go_wp2
  go_ret
  exact ⟨by rfl, by repeat ((exact aX.refl _))⟩
 ·rw [if_neg c2] at H
  have c2b0 : (a0 == 1) = false := beq_eq_false_iff_ne.mpr c2
  have c2b1 : (a0 != 1) = true := bne_iff_ne.mpr c2
  by_cases c3 : a0 = 2
  ·rw [if_pos c3] at H
   have c3b0 : (a0 == 2) = true := beq_iff_eq.mpr c3
   have c3b1 : (a0 != 2) = false := bne_eq_false_iff_eq.mpr c3
   clear c3
   obtain rfl := Option.some.inj H
   go_enter Tryz.func172, Tryz.ntmps172
   go_wp2
   go_ret
   exact ⟨by rfl, by repeat ((exact aX.refl _))⟩
  ·rw [if_neg c3] at H
   have c3b0 : (a0 == 2) = false := beq_eq_false_iff_ne.mpr c3
   have c3b1 : (a0 != 2) = true := bne_iff_ne.mpr c3
   by_cases c4 : a0 = 4
   ·rw [if_pos c4] at H
    have c4b0 : (a0 == 4) = true := beq_iff_eq.mpr c4
    have c4b1 : (a0 != 4) = false := bne_eq_false_iff_eq.mpr c4
    clear c4
    obtain rfl := Option.some.inj H
    go_enter Tryz.func172, Tryz.ntmps172
    go_wp2
    go_ret
    exact ⟨by rfl, by repeat ((exact aX.refl _))⟩
   ·rw [if_neg c4] at H
    have c4b0 : (a0 == 4) = false := beq_eq_false_iff_ne.mpr c4
    have c4b1 : (a0 != 4) = true := bne_iff_ne.mpr c4
    obtain rfl := Option.some.inj H
    go_enter Tryz.func172, Tryz.ntmps172
    go_wp2
    go_ret
    exact ⟨by rfl, by repeat ((exact aX.refl _))⟩
def bY.l0 : Nat → ByteArray → Int → Int → Option (Int)
 | 0, _, _, _ => none
 | k + 1, x0, x3, x4 => if x4 < (x0.size : Int) then (if 0 ≤ x4 then (bY.l0 k x0 (IntKind.u64.wrap ((IntKind.u64.wrap (x3 * 256)) + (IntKind.u64.wrap (bt x0 x4)))) (wrap64 (x4 + 1))) else (none)) else (some x3)
def bY.f (k : Nat) (a0 : ByteArray) : Option (Int) := bY.l0 k a0 0 0
theorem bY.calls (k : Nat) (a0 : ByteArray) (r : Int) (w : World) (h : bY.f k a0 = some r) :
    Calls Tryz.prog 178 #[.string a0] w fun e w' => e = .returned (.int .u64 r) ∧ aX w w' := by
  have H : (bY.l0 k a0 0 0) = some r := h
  clear h
  have H' := ah.mk H
  clear H
  go_enter Tryz.func178, Tryz.ntmps178
  go_wp2
  go_loopg [3, 4] k (fun kq v3 v4 w' => ∃ (x3_1 : Int) (x4_1 : Int), v3 = .int .u64 x3_1 ∧ v4 = .int .i64 x4_1 ∧ ah (bY.l0 kq a0 x3_1 x4_1 = some r) ∧ ah (kq ≤ k) ∧ aX w w')
  case atStart => exact ⟨(0), (0), (by rfl), (by rfl), H', ⟨Nat.le_refl _⟩, by repeat ((exact aX.refl _))⟩
  case round =>
   clear H'
   obtain ⟨x3_1, x4_1, rfl, rfl, HA, HK1, ⟨m1, rfl⟩⟩ := hrel
   cases gk with
   | zero => exact absurd HA.out (by simp [bY.l0])
   | succ k1 =>
    have H := HA.out
    clear HA
    simp only [bY.l0] at H
    by_cases c2 : x4_1 < (a0.size : Int)
    ·rw [if_pos c2] at H
     have c2b0 : decide (x4_1 < (a0.size : Int)) = true := decide_eq_true c2
     clear c2
     obtain ⟨c3b0, H⟩ := eP H
     have H' := ah.mk H
     clear H
     have p4 : 0 ≤ (x4_1 : Int) := of_decide_eq_true (by assumption)
     have q4 : x4_1 < (a0.size : Int) := of_decide_eq_true (by assumption)
     have hx4 := mP a0 x4_1
     replace p4 := eq_true p4
     replace q4 := eq_true q4
     go_wp2
     go_roundg k1
     case measure => have := HK1.out; omega
     case rel => exact ⟨(IntKind.u64.wrap ((IntKind.u64.wrap (x3_1 * 256)) + (IntKind.u64.wrap (bt a0 x4_1)))), (wrap64 (x4_1 + 1)), (by rfl), (by rfl), H', ⟨by have := HK1.out; omega⟩, by repeat (first | exact aX.refl _ | apply aX.step)⟩
    ·rw [if_neg c2] at H
     have c2b0 : decide (x4_1 < (a0.size : Int)) = false := decide_eq_false c2
     clear c2
     obtain rfl := Option.some.inj H
     go_wp2
     go_ret
     exact ⟨by rfl, by repeat (first | exact aX.refl _ | apply aX.step)⟩
def cO.j0 : Nat → ByteArray → Int → Bool → Option (ByteArray × ByteArray × Int)
 | 0, _, _, _ => none
 | k + 1, x0, x1, x14 => if x14 = true then (some ((⟨#[]⟩ : ByteArray), (⟨#[]⟩ : ByteArray), 1)) else (if (x0.size : Int) < x1 then (some ((⟨#[]⟩ : ByteArray), (⟨#[]⟩ : ByteArray), 2)) else (if 0 ≤ x1 then (if x1 ≤ (x0.size : Int) then ((bY.f k (x0.extract 0 (x1 : Int).toNat)).bind fun t220 => (if t220 > (IntKind.u64.wrap (wrap64 ((x0.size : Int) - x1))) then (some ((⟨#[]⟩ : ByteArray), (⟨#[]⟩ : ByteArray), 2)) else (if x1 ≤ (wrap64 (x1 + (wrap64 (t220)))) then (if (wrap64 (x1 + (wrap64 (t220)))) ≤ (x0.size : Int) then (if 0 ≤ (wrap64 (x1 + (wrap64 (t220)))) then (some (x0.extract (x1 : Int).toNat ((wrap64 (x1 + (wrap64 (t220)))) : Int).toNat, x0.extract ((wrap64 (x1 + (wrap64 (t220)))) : Int).toNat x0.size, 0)) else (none)) else (none)) else (none)))) else (none)) else (none)))
def cO.f (k : Nat) (a0 : ByteArray) (a1 : Int) : Option (ByteArray × ByteArray × Int) := (dS.f a1).bind fun t219 => (if t219 = true then (cO.j0 k a0 a1 (a1 == 8)) else (cO.j0 k a0 a1 true))
theorem cO.calls (k : Nat) (a0 : ByteArray) (a1 : Int) (r1 : ByteArray) (r2 : ByteArray) (r3 : Int) (w : World) (h : cO.f k a0 a1 = some (r1, r2, r3)) :
    Calls Tryz.prog 173 #[.string a0, .int .i64 a1] w fun e w' => e = .returned (.tuple #[.string r1, .string r2, .int .i64 r3]) ∧ aX w w' := by
  have H : ((dS.f a1).bind fun t219 => (if t219 = true then (cO.j0 k a0 a1 (a1 == 8)) else (cO.j0 k a0 a1 true))) = some (r1, r2, r3) := h
  clear h
  have HC3 := ah.mk H
  clear H
  go_enter Tryz.func173, Tryz.ntmps173
  go_upto_region 1 with (fail)
  repeat (go_quiet (fail); go_upto_region 1 with (fail))
  go_cut [14] (fun v14 wc => ∃ (kq : Nat) (x14_2 : Bool), v14 = .bool x14_2 ∧ ah (cO.j0 kq a0 a1 x14_2 = some (r1, r2, r3)) ∧ ah (kq ≤ k) ∧ aX w wc)
  case first =>
   have H := HC3.out
   clear HC3
   obtain ⟨t219, A4, H⟩ := cZ H
   by_cases c5 : t219 = true
   focus
    subst c5
    rw [if_pos rfl] at H
   rotate_left
   focus
    replace c5 := Bool.eq_false_iff.mpr c5
    subst c5
    rw [if_neg ff_] at H
   rotate_left
   all_goals
    have H' := ah.mk H
    clear H
    go_wp2_with (((go_at_call 172; (with_reducible refine (dS.calls a1 _ _ A4.out).mono ?_); rintro e w' ⟨rfl, ⟨nd, rfl⟩⟩)))
    repeat (go_quiet (((go_at_call 172; (with_reducible refine (dS.calls a1 _ _ A4.out).mono ?_); rintro e w' ⟨rfl, ⟨nd, rfl⟩⟩))); try go_wp2_with (((go_at_call 172; (with_reducible refine (dS.calls a1 _ _ A4.out).mono ?_); rintro e w' ⟨rfl, ⟨nd, rfl⟩⟩))))
    go_meet
   ·case rel => exact ⟨_, ((a1 == 8)), (by rfl), H', ⟨by omega⟩, by repeat (first | exact aX.refl _ | apply aX.step)⟩
   ·case rel => exact ⟨_, (true), (by rfl), H', ⟨by omega⟩, by repeat (first | exact aX.refl _ | apply aX.step)⟩
  case rest =>
   clear HC3
   obtain ⟨kq, x14_2, rfl, HA, HJ2, ⟨mc2, rfl⟩⟩ := hcut
   cases kq with
   | zero => exact absurd HA.out (by simp [cO.j0])
   | succ kj2 =>
    have H := HA.out
    clear HA
    simp only [cO.j0] at H
    by_cases c6 : x14_2 = true
    focus
     subst c6
     rw [if_pos rfl] at H
    rotate_left
    focus
     replace c6 := Bool.eq_false_iff.mpr c6
     subst c6
     rw [if_neg ff_] at H
     by_cases c7 : (a0.size : Int) < a1
     focus
      rw [if_pos c7] at H
      have c7b0 : decide ((a0.size : Int) < a1) = true := decide_eq_true c7
      clear c7
     rotate_left
     focus
      rw [if_neg c7] at H
      have c7b0 : decide ((a0.size : Int) < a1) = false := decide_eq_false c7
      clear c7
      obtain ⟨c8, H⟩ := gd_ H
      have c8b0 := eq_true c8
      have c8b1 : decide (0 ≤ a1) = true := decide_eq_true c8
      clear c8
      obtain ⟨c9, H⟩ := gd_ H
      have c9b0 := eq_true c9
      have c9b1 : decide (a1 ≤ (a0.size : Int)) = true := decide_eq_true c9
      clear c9
      obtain ⟨t220, A10, H⟩ := cZ H
      by_cases c11 : t220 > (IntKind.u64.wrap (wrap64 ((a0.size : Int) - a1)))
      focus
       rw [if_pos c11] at H
       have c11b0 : decide ((IntKind.u64.wrap (wrap64 ((a0.size : Int) - a1))) < t220) = true := decide_eq_true c11
       clear c11
      rotate_left
      focus
       rw [if_neg c11] at H
       have c11b0 : decide ((IntKind.u64.wrap (wrap64 ((a0.size : Int) - a1))) < t220) = false := decide_eq_false c11
       clear c11
       have c12b0 := eq_true (of_decide_eq_true (by assumption) : 0 ≤ a1)
       obtain ⟨c13, H⟩ := gd_ H
       have c13b0 := eq_true c13
       have c13b1 : decide (a1 ≤ (wrap64 (a1 + (wrap64 (t220))))) = true := decide_eq_true c13
       obtain ⟨c14, H⟩ := gd_ H
       have c14b0 := eq_true c14
       have c14b1 : decide ((wrap64 (a1 + (wrap64 (t220)))) ≤ (a0.size : Int)) = true := decide_eq_true c14
       obtain ⟨ji15, hji15⟩ : ∃ j_ : Int, (wrap64 (a1 + (wrap64 (t220)))) = j_ := ⟨_, rfl⟩
       rw [hji15] at H
       (try rw [hji15] at c13b0)
       (try rw [hji15] at c13b1)
       (try rw [hji15] at c13)
       (try rw [hji15] at c14b0)
       (try rw [hji15] at c14b1)
       (try rw [hji15] at c14)
       have hji15w : (IntKind.i64.wrap (a1 + (wrap64 (t220)))) = ji15 := (iL _).trans hji15
       obtain ⟨c16, H⟩ := gd_ H
       have c16b0 := eq_true c16
       have c16b1 : decide (0 ≤ (ji15)) = true := decide_eq_true c16
       clear c16
       have c17b0 := eq_true (of_decide_eq_true (by assumption) : (ji15) ≤ (a0.size : Int))
      rotate_left
     rotate_left 2
    rotate_left 3
    all_goals
     simp only [Option.some.injEq, Prod.mk.injEq] at H
     obtain ⟨rfl, rfl, rfl⟩ := H
    ·go_wp2
     repeat (go_quiet (fail); try go_wp2)
     go_ret3
     exact ⟨by rfl, by repeat (first | exact aX.refl _ | apply aX.step)⟩
    ·go_wp2
     repeat (go_quiet (fail); try go_wp2)
     go_ret3
     exact ⟨by rfl, by repeat (first | exact aX.refl _ | apply aX.step)⟩
    all_goals
     go_wp2_with (((go_at_call 178; (with_reducible refine (bY.calls kj2 (a0.extract 0 (a1 : Int).toNat) t220 _ A10.out).mono ?_); rintro e w' ⟨rfl, ⟨nd, rfl⟩⟩)))
     repeat (go_quiet (((go_at_call 178; (with_reducible refine (bY.calls kj2 (a0.extract 0 (a1 : Int).toNat) t220 _ A10.out).mono ?_); rintro e w' ⟨rfl, ⟨nd, rfl⟩⟩))); try go_wp2_with (((go_at_call 178; (with_reducible refine (bY.calls kj2 (a0.extract 0 (a1 : Int).toNat) t220 _ A10.out).mono ?_); rintro e w' ⟨rfl, ⟨nd, rfl⟩⟩))))
     go_ret3
    ·exact ⟨by rfl, by repeat (first | exact aX.refl _ | apply aX.step)⟩
    ·exact ⟨by rfl, by repeat (first | exact aX.refl _ | apply aX.step)⟩
mutual
def aZ.j0 : Nat → ByteArray → Int → Bool → Option (List ByteArray × Int)
 | 0, _, _, _ => none
 | k + 1, x0, x1, x16 => if x16 = true then (some (([] : List ByteArray), 1)) else (aZ.l0 k x0 x1 ([] : List ByteArray))
def aZ.l0 : Nat → ByteArray → Int → List ByteArray → Option (List ByteArray × Int)
 | 0, _, _, _ => none
 | k + 1, x0, x1, x6 => if (x0.size : Int) > 0 then ((cO.f k x0 x1).bind fun bt222 => (if bt222.2.2 = 0 then (if x6.length < 8796093022208 then (aZ.l0 k bt222.2.1 x1 (x6 ++ [bt222.1])) else (none)) else (some (([] : List ByteArray), bt222.2.2)))) else (some (x6, 0))
end
def aZ.f (k : Nat) (a0 : ByteArray) (a1 : Int) : Option (List ByteArray × Int) := (dS.f a1).bind fun t221 => (if t221 = true then (aZ.j0 k a0 a1 (a1 == 8)) else (aZ.j0 k a0 a1 true))
theorem aZ.calls (k : Nat) (a0 : ByteArray) (a1 : Int) (r1 : List ByteArray) (r2 : Int) (w : World) (h : aZ.f k a0 a1 = some (r1, r2)) :
    Calls Tryz.prog 160 #[.string a0, .int .i64 a1] w fun e w' => ∃ v0_ : Value, e = .returned (.tuple #[v0_, .int .i64 r2]) ∧ Kd.R Kd.string 9 w' w.heap.size (fun _ => True) v0_ r1 ∧ Below w.heap.size w w' := by
  have HB := ah.mk (Below.refl w.heap.size w)
  have H : ((dS.f a1).bind fun t221 => (if t221 = true then (aZ.j0 k a0 a1 (a1 == 8)) else (aZ.j0 k a0 a1 true))) = some (r1, r2) := h
  clear h
  have HC3 := ah.mk H
  clear H
  go_enter Tryz.func160, Tryz.ntmps160
  go_upto_region 1 with (fail)
  go_cut [16] (fun v16 wc => ∃ (kq : Nat) (x16_2 : Bool), v16 = .bool x16_2 ∧ ah (aZ.j0 kq a0 a1 x16_2 = some (r1, r2)) ∧ ah (kq ≤ k) ∧ ah (Below w.heap.size w wc))
  case first =>
   have H := HC3.out
   clear HC3
   obtain ⟨t221, A4, H⟩ := cZ H
   by_cases c5 : t221 = true
   focus
    subst c5
    rw [if_pos rfl] at H
   rotate_left
   focus
    replace c5 := Bool.eq_false_iff.mpr c5
    subst c5
    rw [if_neg ff_] at H
   rotate_left
   all_goals
    have H' := ah.mk H
    clear H
    go_wp2_with (((refine gl_ (some 11) Tryz.func172 #[.int .i64 a1] ?_; (with_reducible refine (dS.calls a1 _ _ A4.out).mono ?_); rintro e w' ⟨rfl, ⟨nd, rfl⟩⟩; refine ⟨_, rfl, ?_⟩)))
    go_meet
   ·case rel => exact ⟨_, ((a1 == 8)), (by rfl), H', ⟨by omega⟩, ⟨by repeat ((with_reducible first | exact HB.out | apply aV))⟩⟩
   ·case rel => exact ⟨_, (true), (by rfl), H', ⟨by omega⟩, ⟨by repeat ((with_reducible first | exact HB.out | apply aV))⟩⟩
  case rest =>
   clear HC3
   obtain ⟨kq, x16_2, rfl, HA, HJ2, HB⟩ := hcut
   cases kq with
   | zero => exact absurd HA.out (by simp [aZ.j0])
   | succ kj2 =>
    have H := HA.out
    clear HA
    simp only [aZ.j0] at H
    by_cases c6 : x16_2 = true
    ·subst c6
     rw [if_pos rfl] at H
     simp only [Option.some.injEq, Prod.mk.injEq] at H
     obtain ⟨rfl, rfl⟩ := H
     go_wp2
     go_ret2
     exact ⟨_, by rfl, by (exact Kd.fQ _ _ _ _ _), HB.out⟩
    ·replace c6 := Bool.eq_false_iff.mpr c6
     subst c6
     rw [if_neg ff_] at H
     have H' := ah.mk H
     clear H
     go_wp2
     go_loopg [0, 6] kj2 (fun kq v0 v6 w' => ∃ (x0_2 : ByteArray) (x6_2 : List ByteArray), v0 = .string x0_2 ∧ ah (aZ.l0 kq x0_2 a1 x6_2 = some (r1, r2)) ∧ ah (kq ≤ kj2) ∧ ah (Kd.R Kd.string 9 w' w.heap.size (fun _ => True) v6 x6_2) ∧ ah (Below w.heap.size w w'))
     case atStart => exact ⟨(a0), (([] : List ByteArray)), (by rfl), H', ⟨Nat.le_refl _⟩, ⟨by (exact Kd.fQ _ _ _ _ _)⟩, ⟨HB.out⟩⟩
     case round =>
      clear H'
      obtain ⟨x0_2, x6_2, rfl, HA, HK2, HO_6, HB⟩ := hrel
      cases gk with
      | zero => exact absurd HA.out (by simp [aZ.l0])
      | succ k2 =>
       have H := HA.out
       clear HA
       simp only [aZ.l0] at H
       by_cases c7 : (x0_2.size : Int) > 0
       ·rw [if_pos c7] at H
        have c7b0 : decide (0 < (x0_2.size : Int)) = true := decide_eq_true c7
        have c7b1 : decide (0 < x0_2.size) = true := decide_eq_true (by omega)
        clear c7
        replace H := Option.bind_eq_some_iff.mp H
        obtain ⟨⟨t222, t223, t224⟩, A80, H⟩ := H
        replace H : (if t224 = 0 then (if x6_2.length < 8796093022208 then (aZ.l0 k2 t223 a1 (x6_2 ++ [t222])) else (none)) else (some (([] : List ByteArray), t224))) = some (r1, r2) := H
        have A8 := ah.mk A80
        clear A80
        by_cases c9 : t224 = 0
        ·rw [if_pos c9] at H
         have c9b0 : (t224 == 0) = true := beq_iff_eq.mpr c9
         have c9b1 : (t224 != 0) = false := bne_eq_false_iff_eq.mpr c9
         clear c9
         obtain ⟨c10, H⟩ := gd_ H
         have LMc10 := ah.mk c10
         clear c10
         obtain ⟨y225, hy225⟩ : ∃ y_ : List ByteArray, y_ = (x6_2 ++ [t222]) := ⟨_, rfl⟩
         replace H : (aZ.l0 k2 t223 a1 y225) = some (r1, r2) := by (rw [hy225]; with_reducible exact H)
         have Ny225 := ah.mk hy225
         clear hy225
         have H' := ah.mk H
         clear H
         go_wp2_with (first | (refine gl_ (some 23) Tryz.func173 #[.string x0_2, .int .i64 a1] ?_; (with_reducible refine (cO.calls k2 x0_2 a1 t222 t223 t224 _ A8.out).mono ?_); rintro e w' ⟨rfl, ⟨nd, rfl⟩⟩; refine ⟨_, rfl, ?_⟩) | ((with_reducible refine eY (b := .append) (xs := #[.tmp 30, .tmp 32]) rfl ?_); at_builtin; refine Kd.iI Kd.string (w0 := w) w.heap.size rfl (.tmp 30) (.tmp 32) 43 9 (.string ⟨#[]⟩) 16 rfl Tryz.underlying43 mR rfl (by decide) (by omega) u6 x6_2 t222 [.string t222] (fun _ => True) (fun _ => False) rfl rfl ?aP (fun _ hk => hk.elim) ?aF ?aO ?aB ?aS ?aL ?_; (case aP => exact rfl); (case aB => exact (by repeat ((with_reducible first | exact HB.out | apply aV)))); (case aF => exact (fun _ _ => trivial)); (case aO => exact (by (with_reducible repeat ((apply Kd.lJ))); exact HO_6.out)); (case aS => exact (av (by repeat ((with_reducible first | exact HB.out | apply aV))))); (case aL => have := LMc10.out; omega); intro v226 w11 ho hb hg hat; rw [← Ny225.out] at ho; have n0_ := ah.mk (hb); have n1_ := ah.mk (ho); clear HB; clear HO_6; have HB := n0_; have HO227 := n1_; clear n0_ n1_; clear ho hb hg hat))
         go_roundg k2
         case measure => have := HJ2.out; have := HK2.out; omega
         case rel => exact ⟨(t223), (y225), (by rfl), H', ⟨by have := HJ2.out; have := HK2.out; omega⟩, ⟨by (with_reducible repeat ((apply Kd.bJ))); exact HO227.out⟩, ⟨HB.out⟩⟩
        ·rw [if_neg c9] at H
         have c9b0 : (t224 == 0) = false := beq_eq_false_iff_ne.mpr c9
         have c9b1 : (t224 != 0) = true := bne_iff_ne.mpr c9
         simp only [Option.some.injEq, Prod.mk.injEq] at H
         obtain ⟨rfl, rfl⟩ := H
         go_wp2_with (((refine gl_ (some 23) Tryz.func173 #[.string x0_2, .int .i64 a1] ?_; (with_reducible refine (cO.calls k2 x0_2 a1 t222 t223 t224 _ A8.out).mono ?_); rintro e w' ⟨rfl, ⟨nd, rfl⟩⟩; refine ⟨_, rfl, ?_⟩)))
         go_ret2
         exact ⟨_, by rfl, by (exact Kd.fQ _ _ _ _ _), by repeat ((with_reducible first | exact HB.out | apply aV))⟩
       ·rw [if_neg c7] at H
        have c7b0 : decide (0 < (x0_2.size : Int)) = false := decide_eq_false c7
        have c7b1 : decide (0 < x0_2.size) = false := decide_eq_false (by omega)
        clear c7
        simp only [Option.some.injEq, Prod.mk.injEq] at H
        obtain ⟨rfl, rfl⟩ := H
        go_wp2
        go_ret2
        exact ⟨_, by rfl, by (with_reducible repeat ((apply Kd.bJ))); exact HO_6.out, HB.out⟩
end Go.Y.PRd
namespace Go.Y.PRd
open Go.Proofs.aj.aA Go.Proofs.aj.aM Go.Proofs.aj.aN Go.Y.Given
attribute [local go_sem] dF dD dR dQ cB cK dH dG
mutual
def aD.l0 : Nat → ByteArray → Int → Int → List ByteArray → ByteArray → Int → Option (List ByteArray × Bool)
 | 0, _, _, _, _, _, _ => none
 | k + 1, x0, x1, x2, x10, x11, x12 => if x12 < (x11.size : Int) then (if 0 ≤ x12 then (if (bt x11 x12) = 110 then (aD.j1 k x0 x1 x2 x10 x11 x12 (bt x11 x12) ((bt x11 x12) == 110)) else (aD.j1 k x0 x1 x2 x10 x11 x12 (bt x11 x12) ((bt x11 x12) == 117))) else (none)) else (some (x10, (x1 == x2)))
def aD.j1 : Nat → ByteArray → Int → Int → List ByteArray → ByteArray → Int → Int → Bool → Option (List ByteArray × Bool)
 | 0, _, _, _, _, _, _, _, _ => none
 | k + 1, x0, x1, x2, x10, x11, x12, x32, x38 => if x38 = true then ((aR.f k x0 x1).bind fun bt229 => (if bt229.2.2 = 0 then (if 0 ≤ x12 then (if x12 < (x11.size : Int) then (if (bt x11 x12) = 117 then (if 0 ≤ x1 then (if x1 ≤ bt229.2.1 then (if bt229.2.1 ≤ (x0.size : Int) then (aD.j2 k x0 x2 x10 x11 x12 bt229.1 bt229.2.1 (bt229.1.toList != (x0.extract (x1 : Int).toNat (bt229.2.1 : Int).toNat).toList)) else (none)) else (none)) else (none)) else (aD.j2 k x0 x2 x10 x11 x12 bt229.1 bt229.2.1 false)) else (none)) else (none)) else (aD.j2 k x0 x2 x10 x11 x12 bt229.1 bt229.2.1 true))) else (if x32 = 116 then (if 0 ≤ x1 then (if x1 ≤ (x0.size : Int) then ((aZ.f k (x0.extract (x1 : Int).toNat x0.size) 1).bind fun bt235 => (if bt235.2 = 0 then (aD.j3 k x0 x1 x2 x10 x11 x12 ((bt235.1.length : Int) == 0)) else (aD.j3 k x0 x1 x2 x10 x11 x12 true))) else (none)) else (none)) else (if x32 = 111 then (if (wrap64 (x1 + (wrap64 (x2 - x1)))) > x2 then (some (([] : List ByteArray), false)) else (if 0 ≤ x1 then (if x1 ≤ (wrap64 (x1 + (wrap64 (x2 - x1)))) then (if (wrap64 (x1 + (wrap64 (x2 - x1)))) ≤ (x0.size : Int) then (if x10.length < 8796093022208 then (aD.l0 k x0 (wrap64 (x1 + (wrap64 (x2 - x1)))) x2 (x10 ++ [x0.extract (x1 : Int).toNat ((wrap64 (x1 + (wrap64 (x2 - x1)))) : Int).toNat]) x11 (wrap64 (x12 + 1))) else (none)) else (none)) else (none)) else (none))) else (if x32 = 104 then (if (wrap64 (x1 + 16)) > x2 then (some (([] : List ByteArray), false)) else (if 0 ≤ x1 then (if x1 ≤ (wrap64 (x1 + 16)) then (if (wrap64 (x1 + 16)) ≤ (x0.size : Int) then (if x10.length < 8796093022208 then (aD.l0 k x0 (wrap64 (x1 + 16)) x2 (x10 ++ [x0.extract (x1 : Int).toNat ((wrap64 (x1 + 16)) : Int).toNat]) x11 (wrap64 (x12 + 1))) else (none)) else (none)) else (none)) else (none))) else (if 0 ≤ x12 then (if x12 < (x11.size : Int) then (if (wrap64 (x1 + (wrap64 ((wrap64 (bt x11 x12)) - 48)))) > x2 then (some (([] : List ByteArray), false)) else (if 0 ≤ x1 then (if x1 ≤ (wrap64 (x1 + (wrap64 ((wrap64 (bt x11 x12)) - 48)))) then (if (wrap64 (x1 + (wrap64 ((wrap64 (bt x11 x12)) - 48)))) ≤ (x0.size : Int) then (if x10.length < 8796093022208 then (aD.l0 k x0 (wrap64 (x1 + (wrap64 ((wrap64 (bt x11 x12)) - 48)))) x2 (x10 ++ [x0.extract (x1 : Int).toNat ((wrap64 (x1 + (wrap64 ((wrap64 (bt x11 x12)) - 48)))) : Int).toNat]) x11 (wrap64 (x12 + 1))) else (none)) else (none)) else (none)) else (none))) else (none)) else (none)))))
def aD.j2 : Nat → ByteArray → Int → List ByteArray → ByteArray → Int → ByteArray → Int → Bool → Option (List ByteArray × Bool)
 | 0, _, _, _, _, _, _, _, _ => none
 | k + 1, x0, x2, x10, x11, x12, x14, x15, x63 => if x63 = true then (some (([] : List ByteArray), false)) else (if x10.length < 8796093022208 then (aD.l0 k x0 x15 x2 (x10 ++ [x14]) x11 (wrap64 (x12 + 1))) else (none))
def aD.j3 : Nat → ByteArray → Int → Int → List ByteArray → ByteArray → Int → Bool → Option (List ByteArray × Bool)
 | 0, _, _, _, _, _, _, _ => none
 | k + 1, x0, x1, x2, x10, x11, x12, x84 => if x84 = true then (some (([] : List ByteArray), false)) else (if (wrap64 (x1 + (wrap64 (x2 - x1)))) > x2 then (some (([] : List ByteArray), false)) else (if 0 ≤ x1 then (if x1 ≤ (wrap64 (x1 + (wrap64 (x2 - x1)))) then (if (wrap64 (x1 + (wrap64 (x2 - x1)))) ≤ (x0.size : Int) then (if x10.length < 8796093022208 then (aD.l0 k x0 (wrap64 (x1 + (wrap64 (x2 - x1)))) x2 (x10 ++ [x0.extract (x1 : Int).toNat ((wrap64 (x1 + (wrap64 (x2 - x1)))) : Int).toNat]) x11 (wrap64 (x12 + 1))) else (none)) else (none)) else (none)) else (none)))
end
def aD.f (k : Nat) (a0 : ByteArray) (a1 : Int) (a2 : Int) (a3 : Int) : Option (List ByteArray × Bool) := (bW.f k a3).bind fun t228 => (if 0 ≤ a2 then (if a2 ≤ (a0.size : Int) then (aD.l0 k (a0.extract 0 (a2 : Int).toNat) a1 a2 ([] : List ByteArray) t228 0) else (none)) else (none))
theorem aD.calls (k : Nat) (a0 : ByteArray) (a1 : Int) (a2 : Int) (a3 : Int) (r1 : List ByteArray) (r2 : Bool) (w : World) (h : aD.f k a0 a1 a2 a3 = some (r1, r2)) :
    Calls Tryz.prog 133 #[.string a0, .int .i64 a1, .int .i64 a2, .int .i64 a3] w fun e w' => ∃ v0_ : Value, e = .returned (.tuple #[v0_, .bool r2]) ∧ Kd.R Kd.string 9 w' w.heap.size (fun _ => True) v0_ r1 ∧ Below w.heap.size w w' := by
  have HB := ah.mk (Below.refl w.heap.size w)
  have H : ((bW.f k a3).bind fun t228 => (if 0 ≤ a2 then (if a2 ≤ (a0.size : Int) then (aD.l0 k (a0.extract 0 (a2 : Int).toNat) a1 a2 ([] : List ByteArray) t228 0) else (none)) else (none))) = some (r1, r2) := h
  clear h
  obtain ⟨t228, A5, H⟩ := cZ H
  obtain ⟨c6, H⟩ := gd_ H
  have c6b0 := eq_true c6
  have c6b1 : decide (0 ≤ a2) = true := decide_eq_true c6
  clear c6
  obtain ⟨c7, H⟩ := gd_ H
  have c7b0 := eq_true c7
  have c7b1 : decide (a2 ≤ (a0.size : Int)) = true := decide_eq_true c7
  clear c7
  have H' := ah.mk H
  clear H
  go_enter Tryz.func133, Tryz.ntmps133
  go_wp2_with ((((with_reducible refine gP (f := 138) rfl ?_); refine jK (some 20) rfl rfl Tryz.func138 (by kernel_rfl) rfl #[.int .i64 a3] rfl (by (try simp only [mA_, mC_, mN_]); rfl) ?_; (with_reducible refine (bW.calls k a3 t228 _ A5.out).mono ?_); rintro e w' ⟨rfl, ⟨nd, rfl⟩⟩; refine ⟨_, rfl, ?_⟩)))
  go_loopg [1, 10, 12] k (fun kq v1 v10 v12 w' => ∃ (x1_1 : Int) (x10_1 : List ByteArray) (x12_1 : Int), v1 = .int .i64 x1_1 ∧ v12 = .int .i64 x12_1 ∧ ah (aD.l0 kq (a0.extract 0 (a2 : Int).toNat) x1_1 a2 x10_1 t228 x12_1 = some (r1, r2)) ∧ ah (kq ≤ k) ∧ ah (Kd.R Kd.string 9 w' w.heap.size (fun _ => True) v10 x10_1) ∧ ah (Below w.heap.size w w'))
  case atStart => exact ⟨(a1), (([] : List ByteArray)), (0), (by rfl), (by rfl), H', ⟨Nat.le_refl _⟩, ⟨by (exact Kd.fQ _ _ _ _ _)⟩, ⟨by repeat ((with_reducible first | exact HB.out | apply aV))⟩⟩
  case round =>
   clear H'
   (try clear c6b0)
   (try clear c6b1)
   (try clear c7b0)
   (try clear c7b1)
   obtain ⟨x1_1, x10_1, x12_1, rfl, rfl, HA, HK1, HO_10, HB⟩ := hrel
   cases gk with
   | zero => exact absurd HA.out (by simp [aD.l0])
   | succ k1 =>
    have H := HA.out
    clear HA
    simp only [aD.l0] at H
    by_cases c8 : x12_1 < (t228.size : Int)
    ·rw [if_pos c8] at H
     have c8b0 : decide (x12_1 < (t228.size : Int)) = true := decide_eq_true c8
     clear c8
     obtain ⟨c9b0, H⟩ := eP H
     have HC11 := ah.mk H
     clear H
     have p10 : 0 ≤ (x12_1 : Int) := of_decide_eq_true (by assumption)
     have q10 : x12_1 < (t228.size : Int) := of_decide_eq_true (by assumption)
     have hx10 := mP t228 x12_1
     replace p10 := eq_true p10
     replace q10 := eq_true q10
     go_upto_if 38 with (fail)
     go_cut [38] (fun v38 wc => ∃ (kq : Nat) (x38_10 : Bool), v38 = .bool x38_10 ∧ ah (aD.j1 kq (a0.extract 0 (a2 : Int).toNat) x1_1 a2 x10_1 t228 x12_1 (bt t228 x12_1) x38_10 = some (r1, r2)) ∧ ah (kq ≤ k1) ∧ ah (Kd.R Kd.string 9 wc w.heap.size (fun _ => True) u10 x10_1) ∧ ah (Below w.heap.size w wc))
     case first =>
      have H := HC11.out
      clear HC11
      by_cases c12 : (bt t228 x12_1) = 110
      focus
       rw [if_pos c12] at H
       have c12b0 : ((bt t228 x12_1) == 110) = true := beq_iff_eq.mpr c12
       have c12b1 : ((bt t228 x12_1) != 110) = false := bne_eq_false_iff_eq.mpr c12
       clear c12
      rotate_left
      focus
       rw [if_neg c12] at H
       have c12b0 : ((bt t228 x12_1) == 110) = false := beq_eq_false_iff_ne.mpr c12
       have c12b1 : ((bt t228 x12_1) != 110) = true := bne_iff_ne.mpr c12
      rotate_left
      all_goals
       ((rw [c12b0]))
       have H' := ah.mk H
       clear H
       go_wp2
       go_meet
      ·case rel => exact ⟨_, (((bt t228 x12_1) == 110)), (by (simp [*]; done)), H', ⟨by have := HK1.out; omega⟩, ⟨by (with_reducible repeat ((apply Kd.bJ))); exact HO_10.out⟩, ⟨HB.out⟩⟩
      ·case rel => exact ⟨_, (((bt t228 x12_1) == 117)), (by rfl), H', ⟨by have := HK1.out; omega⟩, ⟨by (with_reducible repeat ((apply Kd.bJ))); exact HO_10.out⟩, ⟨HB.out⟩⟩
     case rest =>
      clear HC11
      (try clear c8b0)
      (try clear c9b0)
      (try clear p10)
      (try clear q10)
      (try clear hx10)
      obtain ⟨kq, x38_10, rfl, HA, HJ10, HO_10, HB⟩ := hcut
      cases kq with
      | zero => exact absurd HA.out (by simp [aD.j1])
      | succ kj10 =>
       have H := HA.out
       clear HA
       simp only [aD.j1] at H
       by_cases c13 : x38_10 = true
       ·subst c13
        rw [if_pos rfl] at H
        replace H := Option.bind_eq_some_iff.mp H
        obtain ⟨⟨t229, t230, t231⟩, A140, H⟩ := H
        replace H : (if t231 = 0 then (if 0 ≤ x12_1 then (if x12_1 < (t228.size : Int) then (if (bt t228 x12_1) = 117 then (if 0 ≤ x1_1 then (if x1_1 ≤ t230 then (if t230 ≤ ((a0.extract 0 (a2 : Int).toNat).size : Int) then (aD.j2 kj10 (a0.extract 0 (a2 : Int).toNat) a2 x10_1 t228 x12_1 t229 t230 (t229.toList != ((a0.extract 0 (a2 : Int).toNat).extract (x1_1 : Int).toNat (t230 : Int).toNat).toList)) else (none)) else (none)) else (none)) else (aD.j2 kj10 (a0.extract 0 (a2 : Int).toNat) a2 x10_1 t228 x12_1 t229 t230 false)) else (none)) else (none)) else (aD.j2 kj10 (a0.extract 0 (a2 : Int).toNat) a2 x10_1 t228 x12_1 t229 t230 true)) = some (r1, r2) := H
        have A14 := ah.mk A140
        clear A140
        have HC15 := ah.mk H
        clear H
        go_upto_region 13 with ((((with_reducible refine gP (f := 159) rfl ?_); refine jK (some 44) rfl rfl Tryz.func159 (by kernel_rfl) rfl #[.string (a0.extract 0 (a2 : Int).toNat), .int .i64 x1_1] rfl (by (try simp only [mA_, mC_, mN_]); rfl) ?_; (with_reducible refine (aR.calls kj10 (a0.extract 0 (a2 : Int).toNat) x1_1 t229 t230 t231 _ A14.out).mono ?_); rintro e w16 ⟨rfl, hb⟩; refine ⟨_, rfl, ?_⟩; replace HO_10 := ah.mk (Kd.aU (by ((exact HO_10.out))) hb); replace HB := ah.mk (ak HB.out hb); (try clear hb))))
        go_cut [63] (fun v63 wc => ∃ (kq : Nat) (x63_14 : Bool), v63 = .bool x63_14 ∧ ah (aD.j2 kq (a0.extract 0 (a2 : Int).toNat) a2 x10_1 t228 x12_1 t229 t230 x63_14 = some (r1, r2)) ∧ ah (kq ≤ kj10) ∧ ah (Kd.R Kd.string 9 wc w.heap.size (fun _ => True) u10 x10_1) ∧ ah (Below w.heap.size w wc))
        case first =>
         have H := HC15.out
         clear HC15
         by_cases c17 : t231 = 0
         focus
          rw [if_pos c17] at H
          have c17b0 : (t231 == 0) = true := beq_iff_eq.mpr c17
          have c17b1 : (t231 != 0) = false := bne_eq_false_iff_eq.mpr c17
          clear c17
         rotate_left
         focus
          rw [if_neg c17] at H
          have c17b0 : (t231 == 0) = false := beq_eq_false_iff_ne.mpr c17
          have c17b1 : (t231 != 0) = true := bne_iff_ne.mpr c17
         rotate_left
         all_goals
          (skip)
         ·obtain ⟨c18b0, H⟩ := eP H
          obtain ⟨c19b0, H⟩ := eP H
          by_cases c21 : (bt t228 x12_1) = 117
          focus
           rw [if_pos c21] at H
           have c21b0 : ((bt t228 x12_1) == 117) = true := beq_iff_eq.mpr c21
           have c21b1 : ((bt t228 x12_1) != 117) = false := bne_eq_false_iff_eq.mpr c21
           clear c21
           obtain ⟨c22, H⟩ := gd_ H
           have c22b0 := eq_true c22
           have c22b1 : decide (0 ≤ x1_1) = true := decide_eq_true c22
           clear c22
           obtain ⟨c23, H⟩ := gd_ H
           have c23b0 := eq_true c23
           have c23b1 : decide (x1_1 ≤ t230) = true := decide_eq_true c23
           clear c23
           obtain ⟨c24, H⟩ := gd_ H
           have c24b0 := eq_true c24
           have c24b1 : decide (t230 ≤ ((a0.extract 0 (a2 : Int).toNat).size : Int)) = true := decide_eq_true c24
           (try have c24b1v := c24b1)
           (try simp only [ByteArray.size_extract, Nat.sub_zero] at c24b1v)
           (try have c24b1w := eq_true (of_decide_eq_true c24b1v))
           clear c24
          rotate_left
          focus
           rw [if_neg c21] at H
           have c21b0 : ((bt t228 x12_1) == 117) = false := beq_eq_false_iff_ne.mpr c21
           have c21b1 : ((bt t228 x12_1) != 117) = true := bne_iff_ne.mpr c21
          rotate_left
          all_goals
           have H' := ah.mk H
           clear H
           have p20 : 0 ≤ (x12_1 : Int) := of_decide_eq_true (by assumption)
           have q20 : x12_1 < (t228.size : Int) := of_decide_eq_true (by assumption)
           have hx20 := mP t228 x12_1
           replace p20 := eq_true p20
           replace q20 := eq_true q20
           go_wp2
           go_meet
          ·case rel => exact ⟨_, ((t229.toList != ((a0.extract 0 (a2 : Int).toNat).extract (x1_1 : Int).toNat (t230 : Int).toNat).toList)), (by rfl), H', ⟨by have := HK1.out; have := HJ10.out; omega⟩, ⟨by (with_reducible repeat ((apply Kd.bJ))); exact HO_10.out⟩, ⟨HB.out⟩⟩
          ·case rel => exact ⟨_, (false), (by rfl), H', ⟨by have := HK1.out; have := HJ10.out; omega⟩, ⟨by (with_reducible repeat ((apply Kd.bJ))); exact HO_10.out⟩, ⟨HB.out⟩⟩
         ·have H' := ah.mk H
          clear H
          go_wp2
          go_meet
          case rel => exact ⟨_, (true), (by rfl), H', ⟨by have := HK1.out; have := HJ10.out; omega⟩, ⟨by (with_reducible repeat ((apply Kd.bJ))); exact HO_10.out⟩, ⟨HB.out⟩⟩
        case rest =>
         clear HC15
         obtain ⟨kq, x63_14, rfl, HA, HJ14, HO_10, HB⟩ := hcut
         cases kq with
         | zero => exact absurd HA.out (by simp [aD.j2])
         | succ kj14 =>
          have H := HA.out
          clear HA
          simp only [aD.j2] at H
          by_cases c25 : x63_14 = true
          ·subst c25
           rw [if_pos rfl] at H
           simp only [Option.some.injEq, Prod.mk.injEq] at H
           obtain ⟨rfl, rfl⟩ := H
           go_wp2
           go_ret2
           exact ⟨_, by rfl, by (exact Kd.fQ _ _ _ _ _), HB.out⟩
          ·replace c25 := Bool.eq_false_iff.mpr c25
           subst c25
           rw [if_neg ff_] at H
           obtain ⟨c26, H⟩ := gd_ H
           have LMc26 := ah.mk c26
           clear c26
           obtain ⟨y232, hy232⟩ : ∃ y_ : List ByteArray, y_ = (x10_1 ++ [t229]) := ⟨_, rfl⟩
           replace H : (aD.l0 kj14 (a0.extract 0 (a2 : Int).toNat) t230 a2 y232 t228 (wrap64 (x12_1 + 1))) = some (r1, r2) := by (rw [hy232]; with_reducible exact H)
           have Ny232 := ah.mk hy232
           clear hy232
           have H' := ah.mk H
           clear H
           go_wp2_with ((((with_reducible refine eY (b := .append) (xs := #[.tmp 64, .tmp 66]) rfl ?_); (try (refine dA (by rfl) ?_; dsimp only)); at_builtin; refine Kd.iI Kd.string (w0 := w) w.heap.size rfl (.tmp 64) (.tmp 66) 43 9 (.string ⟨#[]⟩) 16 rfl Tryz.underlying43 mR rfl (by decide) (by omega) u10 x10_1 t229 [.string t229] (fun _ => True) (fun _ => False) rfl rfl ?aP (fun _ hk => hk.elim) ?aF ?aO ?aB ?aS ?aL ?_; (case aP => exact rfl); (case aB => exact HB.out); (case aF => exact (fun _ _ => trivial)); (case aO => exact (by ((exact HO_10.out)))); (case aS => exact (av HB.out)); (case aL => have := LMc26.out; omega); intro v233 w27 ho hb hg hat; rw [← Ny232.out] at ho; have n0_ := ah.mk (hb); have n1_ := ah.mk (ho); clear HB; clear HO_10; have HB := n0_; have HO234 := n1_; clear n0_ n1_; clear ho hb hg hat)))
           go_roundg kj14
           case measure => have := HK1.out; have := HJ10.out; have := HJ14.out; omega
           case rel => exact ⟨(t230), (y232), (wrap64 (x12_1 + 1)), (by rfl), (by rfl), H', ⟨by have := HK1.out; have := HJ10.out; have := HJ14.out; omega⟩, ⟨by (with_reducible repeat ((apply Kd.bJ))); exact HO234.out⟩, ⟨HB.out⟩⟩
       ·replace c13 := Bool.eq_false_iff.mpr c13
        subst c13
        rw [if_neg ff_] at H
        by_cases c28 : (bt t228 x12_1) = 116
        ·rw [if_pos c28] at H
         have c28b0 : ((bt t228 x12_1) == 116) = true := beq_iff_eq.mpr c28
         have c28b1 : ((bt t228 x12_1) != 116) = false := bne_eq_false_iff_eq.mpr c28
         clear c28
         obtain ⟨c29, H⟩ := gd_ H
         have c29b0 := eq_true c29
         have c29b1 : decide (0 ≤ x1_1) = true := decide_eq_true c29
         clear c29
         obtain ⟨c30, H⟩ := gd_ H
         have c30b0 := eq_true c30
         have c30b1 : decide (x1_1 ≤ ((a0.extract 0 (a2 : Int).toNat).size : Int)) = true := decide_eq_true c30
         (try have c30b1v := c30b1)
         (try simp only [ByteArray.size_extract, Nat.sub_zero] at c30b1v)
         (try have c30b1w := eq_true (of_decide_eq_true c30b1v))
         clear c30
         replace H := Option.bind_eq_some_iff.mp H
         obtain ⟨⟨t235, t236⟩, A310, H⟩ := H
         replace H : (if t236 = 0 then (aD.j3 kj10 (a0.extract 0 (a2 : Int).toNat) x1_1 a2 x10_1 t228 x12_1 ((t235.length : Int) == 0)) else (aD.j3 kj10 (a0.extract 0 (a2 : Int).toNat) x1_1 a2 x10_1 t228 x12_1 true)) = some (r1, r2) := H
         have A31 := ah.mk A310
         clear A310
         have HC32 := ah.mk H
         clear H
         go_upto_region 19 with ((((with_reducible refine gP (f := 160) rfl ?_); refine jK (some 75) rfl rfl Tryz.func160 (by kernel_rfl) rfl #[.string ((a0.extract 0 (a2 : Int).toNat).extract (x1_1 : Int).toNat (a0.extract 0 (a2 : Int).toNat).size), .int .i64 1] rfl (by (try simp only [List.map_toArray, List.map_cons, List.map_nil]); (simp only [ByteArray.size_extract, Nat.sub_zero]; rfl)) ?_; (with_reducible refine (aZ.calls kj10 ((a0.extract 0 (a2 : Int).toNat).extract (x1_1 : Int).toNat (a0.extract 0 (a2 : Int).toNat).size) 1 t235 t236 _ A31.out).mono ?_); rintro e w33 ⟨v237, rfl, ho0, hb⟩; refine ⟨_, rfl, ?_⟩; have HO238 := ah.mk (Kd.bC (Kd.fM ho0 (Kd.iQ (by ((exact HO_10.out))))) (av HB.out)); replace HO_10 := ah.mk (Kd.dY (by ((exact HO_10.out))) (Kd.fH ho0) hb); replace HB := ah.mk (ak HB.out hb); (try clear hb); (try clear ho0))))
         go_cut [84] (fun v84 wc => ∃ (kq : Nat) (x84_31 : Bool), v84 = .bool x84_31 ∧ ah (aD.j3 kq (a0.extract 0 (a2 : Int).toNat) x1_1 a2 x10_1 t228 x12_1 x84_31 = some (r1, r2)) ∧ ah (kq ≤ kj10) ∧ ah (Kd.R Kd.string 9 wc w.heap.size (fun _ => True) u10 x10_1) ∧ ah (Below w.heap.size w wc))
         case first =>
          have H := HC32.out
          clear HC32
          by_cases c34 : t236 = 0
          focus
           rw [if_pos c34] at H
           have c34b0 : (t236 == 0) = true := beq_iff_eq.mpr c34
           have c34b1 : (t236 != 0) = false := bne_eq_false_iff_eq.mpr c34
           clear c34
          rotate_left
          focus
           rw [if_neg c34] at H
           have c34b0 : (t236 == 0) = false := beq_eq_false_iff_ne.mpr c34
           have c34b1 : (t236 != 0) = true := bne_iff_ne.mpr c34
          rotate_left
          all_goals
           (skip)
           have H' := ah.mk H
           clear H
          ·obtain ⟨Ao35, co35, eo35⟩ := Kd.bS HO238.out
           subst eo35
           go_wp2
           go_meet
           case rel => exact ⟨_, (((t235.length : Int) == 0)), (by rfl), H', ⟨by have := HK1.out; have := HJ10.out; omega⟩, ⟨by (with_reducible repeat ((apply Kd.bJ))); exact Kd.dw HO_10.out (fun _ hk => trivial)⟩, ⟨HB.out⟩⟩
          ·go_wp2
           go_meet
           case rel => exact ⟨_, (true), (by rfl), H', ⟨by have := HK1.out; have := HJ10.out; omega⟩, ⟨by (with_reducible repeat ((apply Kd.bJ))); exact Kd.dw HO_10.out (fun _ hk => trivial)⟩, ⟨HB.out⟩⟩
         case rest =>
          clear HC32
          (try clear c28b0)
          (try clear c28b1)
          (try clear c29b0)
          (try clear c29b1)
          (try clear c30b0)
          (try clear c30b1)
          obtain ⟨kq, x84_31, rfl, HA, HJ31, HO_10, HB⟩ := hcut
          cases kq with
          | zero => exact absurd HA.out (by simp [aD.j3])
          | succ kj31 =>
           have H := HA.out
           clear HA
           simp only [aD.j3] at H
           by_cases c36 : x84_31 = true
           ·subst c36
            rw [if_pos rfl] at H
            simp only [Option.some.injEq, Prod.mk.injEq] at H
            obtain ⟨rfl, rfl⟩ := H
            go_wp2
            go_ret2
            exact ⟨_, by rfl, by (exact Kd.fQ _ _ _ _ _), HB.out⟩
           ·replace c36 := Bool.eq_false_iff.mpr c36
            subst c36
            rw [if_neg ff_] at H
            by_cases c37 : (wrap64 (x1_1 + (wrap64 (a2 - x1_1)))) > a2
            ·rw [if_pos c37] at H
             have c37b0 : decide (a2 < (wrap64 (x1_1 + (wrap64 (a2 - x1_1))))) = true := decide_eq_true c37
             clear c37
             simp only [Option.some.injEq, Prod.mk.injEq] at H
             obtain ⟨rfl, rfl⟩ := H
             go_wp2
             go_ret2
             exact ⟨_, by rfl, by (exact Kd.fQ _ _ _ _ _), HB.out⟩
            ·rw [if_neg c37] at H
             have c37b0 : decide (a2 < (wrap64 (x1_1 + (wrap64 (a2 - x1_1))))) = false := decide_eq_false c37
             clear c37
             obtain ⟨c38, H⟩ := gd_ H
             have c38b0 := eq_true c38
             have c38b1 : decide (0 ≤ x1_1) = true := decide_eq_true c38
             clear c38
             obtain ⟨c39, H⟩ := gd_ H
             have c39b0 := eq_true c39
             have c39b1 : decide (x1_1 ≤ (wrap64 (x1_1 + (wrap64 (a2 - x1_1))))) = true := decide_eq_true c39
             obtain ⟨c40, H⟩ := gd_ H
             have c40b0 := eq_true c40
             have c40b1 : decide ((wrap64 (x1_1 + (wrap64 (a2 - x1_1)))) ≤ ((a0.extract 0 (a2 : Int).toNat).size : Int)) = true := decide_eq_true c40
             (try have c40b1v := c40b1)
             (try simp only [ByteArray.size_extract, Nat.sub_zero] at c40b1v)
             (try have c40b1w := eq_true (of_decide_eq_true c40b1v))
             obtain ⟨c41, H⟩ := gd_ H
             have LMc41 := ah.mk c41
             clear c41
             obtain ⟨y239, hy239⟩ : ∃ y_ : List ByteArray, y_ = (x10_1 ++ [(a0.extract 0 (a2 : Int).toNat).extract (x1_1 : Int).toNat ((wrap64 (x1_1 + (wrap64 (a2 - x1_1)))) : Int).toNat]) := ⟨_, rfl⟩
             replace H : (aD.l0 kj31 (a0.extract 0 (a2 : Int).toNat) (wrap64 (x1_1 + (wrap64 (a2 - x1_1)))) a2 y239 t228 (wrap64 (x12_1 + 1))) = some (r1, r2) := by (rw [hy239]; with_reducible exact H)
             have Ny239 := ah.mk hy239
             clear hy239
             have H' := ah.mk H
             clear H
             go_wp2_with ((((with_reducible refine eY (b := .append) (xs := #[.tmp 100, .tmp 107]) rfl ?_); (try (refine dA (by rfl) ?_; dsimp only)); at_builtin; refine Kd.iI Kd.string (w0 := w) w.heap.size rfl (.tmp 100) (.tmp 107) 43 9 (.string ⟨#[]⟩) 16 rfl Tryz.underlying43 mR rfl (by decide) (by omega) u10 x10_1 ((a0.extract 0 (a2 : Int).toNat).extract (x1_1 : Int).toNat ((wrap64 (x1_1 + (wrap64 (a2 - x1_1)))) : Int).toNat) [.string ((a0.extract 0 (a2 : Int).toNat).extract (x1_1 : Int).toNat ((wrap64 (x1_1 + (wrap64 (a2 - x1_1)))) : Int).toNat)] (fun _ => True) (fun _ => False) rfl rfl ?aP (fun _ hk => hk.elim) ?aF ?aO ?aB ?aS ?aL ?_; (case aP => exact rfl); (case aB => exact HB.out); (case aF => exact (fun _ _ => trivial)); (case aO => exact (by ((exact HO_10.out)))); (case aS => exact (av HB.out)); (case aL => have := LMc41.out; omega); intro v240 w42 ho hb hg hat; rw [← Ny239.out] at ho; have n0_ := ah.mk (hb); have n1_ := ah.mk (ho); clear HB; clear HO_10; have HB := n0_; have HO241 := n1_; clear n0_ n1_; clear ho hb hg hat)))
             go_roundg kj31
             case measure => have := HK1.out; have := HJ10.out; have := HJ31.out; omega
             case rel => exact ⟨(wrap64 (x1_1 + (wrap64 (a2 - x1_1)))), (y239), (wrap64 (x12_1 + 1)), (by rfl), (by rfl), H', ⟨by have := HK1.out; have := HJ10.out; have := HJ31.out; omega⟩, ⟨by (with_reducible repeat ((apply Kd.bJ))); exact HO241.out⟩, ⟨HB.out⟩⟩
        ·rw [if_neg c28] at H
         have c28b0 : ((bt t228 x12_1) == 116) = false := beq_eq_false_iff_ne.mpr c28
         have c28b1 : ((bt t228 x12_1) != 116) = true := bne_iff_ne.mpr c28
         by_cases c43 : (bt t228 x12_1) = 111
         ·rw [if_pos c43] at H
          have c43b0 : ((bt t228 x12_1) == 111) = true := beq_iff_eq.mpr c43
          have c43b1 : ((bt t228 x12_1) != 111) = false := bne_eq_false_iff_eq.mpr c43
          clear c43
          by_cases c44 : (wrap64 (x1_1 + (wrap64 (a2 - x1_1)))) > a2
          ·rw [if_pos c44] at H
           have c44b0 : decide (a2 < (wrap64 (x1_1 + (wrap64 (a2 - x1_1))))) = true := decide_eq_true c44
           clear c44
           simp only [Option.some.injEq, Prod.mk.injEq] at H
           obtain ⟨rfl, rfl⟩ := H
           go_wp2
           go_ret2
           exact ⟨_, by rfl, by (exact Kd.fQ _ _ _ _ _), HB.out⟩
          ·rw [if_neg c44] at H
           have c44b0 : decide (a2 < (wrap64 (x1_1 + (wrap64 (a2 - x1_1))))) = false := decide_eq_false c44
           clear c44
           obtain ⟨c45, H⟩ := gd_ H
           have c45b0 := eq_true c45
           have c45b1 : decide (0 ≤ x1_1) = true := decide_eq_true c45
           clear c45
           obtain ⟨c46, H⟩ := gd_ H
           have c46b0 := eq_true c46
           have c46b1 : decide (x1_1 ≤ (wrap64 (x1_1 + (wrap64 (a2 - x1_1))))) = true := decide_eq_true c46
           obtain ⟨c47, H⟩ := gd_ H
           have c47b0 := eq_true c47
           have c47b1 : decide ((wrap64 (x1_1 + (wrap64 (a2 - x1_1)))) ≤ ((a0.extract 0 (a2 : Int).toNat).size : Int)) = true := decide_eq_true c47
           (try have c47b1v := c47b1)
           (try simp only [ByteArray.size_extract, Nat.sub_zero] at c47b1v)
           (try have c47b1w := eq_true (of_decide_eq_true c47b1v))
           obtain ⟨c48, H⟩ := gd_ H
           have LMc48 := ah.mk c48
           clear c48
           obtain ⟨y242, hy242⟩ : ∃ y_ : List ByteArray, y_ = (x10_1 ++ [(a0.extract 0 (a2 : Int).toNat).extract (x1_1 : Int).toNat ((wrap64 (x1_1 + (wrap64 (a2 - x1_1)))) : Int).toNat]) := ⟨_, rfl⟩
           replace H : (aD.l0 kj10 (a0.extract 0 (a2 : Int).toNat) (wrap64 (x1_1 + (wrap64 (a2 - x1_1)))) a2 y242 t228 (wrap64 (x12_1 + 1))) = some (r1, r2) := by (rw [hy242]; with_reducible exact H)
           have Ny242 := ah.mk hy242
           clear hy242
           have H' := ah.mk H
           clear H
           go_wp2_with ((((with_reducible refine eY (b := .append) (xs := #[.tmp 100, .tmp 107]) rfl ?_); (try (refine dA (by rfl) ?_; dsimp only)); at_builtin; refine Kd.iI Kd.string (w0 := w) w.heap.size rfl (.tmp 100) (.tmp 107) 43 9 (.string ⟨#[]⟩) 16 rfl Tryz.underlying43 mR rfl (by decide) (by omega) u10 x10_1 ((a0.extract 0 (a2 : Int).toNat).extract (x1_1 : Int).toNat ((wrap64 (x1_1 + (wrap64 (a2 - x1_1)))) : Int).toNat) [.string ((a0.extract 0 (a2 : Int).toNat).extract (x1_1 : Int).toNat ((wrap64 (x1_1 + (wrap64 (a2 - x1_1)))) : Int).toNat)] (fun _ => True) (fun _ => False) rfl rfl ?aP (fun _ hk => hk.elim) ?aF ?aO ?aB ?aS ?aL ?_; (case aP => exact rfl); (case aB => exact HB.out); (case aF => exact (fun _ _ => trivial)); (case aO => exact (by ((exact HO_10.out)))); (case aS => exact (av HB.out)); (case aL => have := LMc48.out; omega); intro v243 w49 ho hb hg hat; rw [← Ny242.out] at ho; have n0_ := ah.mk (hb); have n1_ := ah.mk (ho); clear HB; clear HO_10; have HB := n0_; have HO244 := n1_; clear n0_ n1_; clear ho hb hg hat)))
           go_roundg kj10
           case measure => have := HK1.out; have := HJ10.out; omega
           case rel => exact ⟨(wrap64 (x1_1 + (wrap64 (a2 - x1_1)))), (y242), (wrap64 (x12_1 + 1)), (by rfl), (by rfl), H', ⟨by have := HK1.out; have := HJ10.out; omega⟩, ⟨by (with_reducible repeat ((apply Kd.bJ))); exact HO244.out⟩, ⟨HB.out⟩⟩
         ·rw [if_neg c43] at H
          have c43b0 : ((bt t228 x12_1) == 111) = false := beq_eq_false_iff_ne.mpr c43
          have c43b1 : ((bt t228 x12_1) != 111) = true := bne_iff_ne.mpr c43
          by_cases c50 : (bt t228 x12_1) = 104
          ·rw [if_pos c50] at H
           have c50b0 : ((bt t228 x12_1) == 104) = true := beq_iff_eq.mpr c50
           have c50b1 : ((bt t228 x12_1) != 104) = false := bne_eq_false_iff_eq.mpr c50
           clear c50
           by_cases c51 : (wrap64 (x1_1 + 16)) > a2
           ·rw [if_pos c51] at H
            have c51b0 : decide (a2 < (wrap64 (x1_1 + 16))) = true := decide_eq_true c51
            clear c51
            simp only [Option.some.injEq, Prod.mk.injEq] at H
            obtain ⟨rfl, rfl⟩ := H
            go_wp2
            go_ret2
            exact ⟨_, by rfl, by (exact Kd.fQ _ _ _ _ _), HB.out⟩
           ·rw [if_neg c51] at H
            have c51b0 : decide (a2 < (wrap64 (x1_1 + 16))) = false := decide_eq_false c51
            clear c51
            obtain ⟨c52, H⟩ := gd_ H
            have c52b0 := eq_true c52
            have c52b1 : decide (0 ≤ x1_1) = true := decide_eq_true c52
            clear c52
            obtain ⟨c53, H⟩ := gd_ H
            have c53b0 := eq_true c53
            have c53b1 : decide (x1_1 ≤ (wrap64 (x1_1 + 16))) = true := decide_eq_true c53
            obtain ⟨c54, H⟩ := gd_ H
            have c54b0 := eq_true c54
            have c54b1 : decide ((wrap64 (x1_1 + 16)) ≤ ((a0.extract 0 (a2 : Int).toNat).size : Int)) = true := decide_eq_true c54
            (try have c54b1v := c54b1)
            (try simp only [ByteArray.size_extract, Nat.sub_zero] at c54b1v)
            (try have c54b1w := eq_true (of_decide_eq_true c54b1v))
            obtain ⟨c55, H⟩ := gd_ H
            have LMc55 := ah.mk c55
            clear c55
            obtain ⟨y245, hy245⟩ : ∃ y_ : List ByteArray, y_ = (x10_1 ++ [(a0.extract 0 (a2 : Int).toNat).extract (x1_1 : Int).toNat ((wrap64 (x1_1 + 16)) : Int).toNat]) := ⟨_, rfl⟩
            replace H : (aD.l0 kj10 (a0.extract 0 (a2 : Int).toNat) (wrap64 (x1_1 + 16)) a2 y245 t228 (wrap64 (x12_1 + 1))) = some (r1, r2) := by (rw [hy245]; with_reducible exact H)
            have Ny245 := ah.mk hy245
            clear hy245
            have H' := ah.mk H
            clear H
            go_wp2_with ((((with_reducible refine eY (b := .append) (xs := #[.tmp 100, .tmp 107]) rfl ?_); (try (refine dA (by rfl) ?_; dsimp only)); at_builtin; refine Kd.iI Kd.string (w0 := w) w.heap.size rfl (.tmp 100) (.tmp 107) 43 9 (.string ⟨#[]⟩) 16 rfl Tryz.underlying43 mR rfl (by decide) (by omega) u10 x10_1 ((a0.extract 0 (a2 : Int).toNat).extract (x1_1 : Int).toNat ((wrap64 (x1_1 + 16)) : Int).toNat) [.string ((a0.extract 0 (a2 : Int).toNat).extract (x1_1 : Int).toNat ((wrap64 (x1_1 + 16)) : Int).toNat)] (fun _ => True) (fun _ => False) rfl rfl ?aP (fun _ hk => hk.elim) ?aF ?aO ?aB ?aS ?aL ?_; (case aP => exact rfl); (case aB => exact HB.out); (case aF => exact (fun _ _ => trivial)); (case aO => exact (by ((exact HO_10.out)))); (case aS => exact (av HB.out)); (case aL => have := LMc55.out; omega); intro v246 w56 ho hb hg hat; rw [← Ny245.out] at ho; have n0_ := ah.mk (hb); have n1_ := ah.mk (ho); clear HB; clear HO_10; have HB := n0_; have HO247 := n1_; clear n0_ n1_; clear ho hb hg hat)))
            go_roundg kj10
            case measure => have := HK1.out; have := HJ10.out; omega
            case rel => exact ⟨(wrap64 (x1_1 + 16)), (y245), (wrap64 (x12_1 + 1)), (by rfl), (by rfl), H', ⟨by have := HK1.out; have := HJ10.out; omega⟩, ⟨by (with_reducible repeat ((apply Kd.bJ))); exact HO247.out⟩, ⟨HB.out⟩⟩
          ·rw [if_neg c50] at H
           have c50b0 : ((bt t228 x12_1) == 104) = false := beq_eq_false_iff_ne.mpr c50
           have c50b1 : ((bt t228 x12_1) != 104) = true := bne_iff_ne.mpr c50
           obtain ⟨c57b0, H⟩ := eP H
           obtain ⟨c58b0, H⟩ := eP H
           by_cases c60 : (wrap64 (x1_1 + (wrap64 ((wrap64 (bt t228 x12_1)) - 48)))) > a2
           focus
            rw [if_pos c60] at H
            have c60b0 : decide (a2 < (wrap64 (x1_1 + (wrap64 ((wrap64 (bt t228 x12_1)) - 48))))) = true := decide_eq_true c60
            clear c60
            simp only [Option.some.injEq, Prod.mk.injEq] at H
            obtain ⟨rfl, rfl⟩ := H
           rotate_left
           focus
            rw [if_neg c60] at H
            have c60b0 : decide (a2 < (wrap64 (x1_1 + (wrap64 ((wrap64 (bt t228 x12_1)) - 48))))) = false := decide_eq_false c60
            clear c60
            obtain ⟨c61, H⟩ := gd_ H
            have c61b0 := eq_true c61
            have c61b1 : decide (0 ≤ x1_1) = true := decide_eq_true c61
            clear c61
            obtain ⟨c62, H⟩ := gd_ H
            have c62b0 := eq_true c62
            have c62b1 : decide (x1_1 ≤ (wrap64 (x1_1 + (wrap64 ((wrap64 (bt t228 x12_1)) - 48))))) = true := decide_eq_true c62
            obtain ⟨c63, H⟩ := gd_ H
            have c63b0 := eq_true c63
            have c63b1 : decide ((wrap64 (x1_1 + (wrap64 ((wrap64 (bt t228 x12_1)) - 48)))) ≤ ((a0.extract 0 (a2 : Int).toNat).size : Int)) = true := decide_eq_true c63
            (try have c63b1v := c63b1)
            (try simp only [ByteArray.size_extract, Nat.sub_zero] at c63b1v)
            (try have c63b1w := eq_true (of_decide_eq_true c63b1v))
            obtain ⟨c64, H⟩ := gd_ H
            have LMc64 := ah.mk c64
            clear c64
            obtain ⟨y248, hy248⟩ : ∃ y_ : List ByteArray, y_ = (x10_1 ++ [(a0.extract 0 (a2 : Int).toNat).extract (x1_1 : Int).toNat ((wrap64 (x1_1 + (wrap64 ((wrap64 (bt t228 x12_1)) - 48)))) : Int).toNat]) := ⟨_, rfl⟩
            replace H : (aD.l0 kj10 (a0.extract 0 (a2 : Int).toNat) (wrap64 (x1_1 + (wrap64 ((wrap64 (bt t228 x12_1)) - 48)))) a2 y248 t228 (wrap64 (x12_1 + 1))) = some (r1, r2) := by (rw [hy248]; with_reducible exact H)
            have Ny248 := ah.mk hy248
            clear hy248
            have H' := ah.mk H
            clear H
           rotate_left
           all_goals
            have p59 : 0 ≤ (x12_1 : Int) := of_decide_eq_true (by assumption)
            have q59 : x12_1 < (t228.size : Int) := of_decide_eq_true (by assumption)
            have hx59 := mP t228 x12_1
            replace p59 := eq_true p59
            replace q59 := eq_true q59
           ·go_wp2
            go_ret2
            exact ⟨_, by rfl, by (exact Kd.fQ _ _ _ _ _), HB.out⟩
           ·go_wp2_with ((((with_reducible refine eY (b := .append) (xs := #[.tmp 100, .tmp 107]) rfl ?_); (try (refine dA (by rfl) ?_; dsimp only)); at_builtin; refine Kd.iI Kd.string (w0 := w) w.heap.size rfl (.tmp 100) (.tmp 107) 43 9 (.string ⟨#[]⟩) 16 rfl Tryz.underlying43 mR rfl (by decide) (by omega) u10 x10_1 ((a0.extract 0 (a2 : Int).toNat).extract (x1_1 : Int).toNat ((wrap64 (x1_1 + (wrap64 ((wrap64 (bt t228 x12_1)) - 48)))) : Int).toNat) [.string ((a0.extract 0 (a2 : Int).toNat).extract (x1_1 : Int).toNat ((wrap64 (x1_1 + (wrap64 ((wrap64 (bt t228 x12_1)) - 48)))) : Int).toNat)] (fun _ => True) (fun _ => False) rfl rfl ?aP (fun _ hk => hk.elim) ?aF ?aO ?aB ?aS ?aL ?_; (case aP => exact rfl); (case aB => exact HB.out); (case aF => exact (fun _ _ => trivial)); (case aO => exact (by ((exact HO_10.out)))); (case aS => exact (av HB.out)); (case aL => have := LMc64.out; omega); intro v249 w65 ho hb hg hat; rw [← Ny248.out] at ho; have n0_ := ah.mk (hb); have n1_ := ah.mk (ho); clear HB; clear HO_10; have HB := n0_; have HO250 := n1_; clear n0_ n1_; clear ho hb hg hat)))
            go_roundg kj10
            case measure => have := HK1.out; have := HJ10.out; omega
            case rel => exact ⟨(wrap64 (x1_1 + (wrap64 ((wrap64 (bt t228 x12_1)) - 48)))), (y248), (wrap64 (x12_1 + 1)), (by rfl), (by rfl), H', ⟨by have := HK1.out; have := HJ10.out; omega⟩, ⟨by (with_reducible repeat ((apply Kd.bJ))); exact HO250.out⟩, ⟨HB.out⟩⟩
    ·rw [if_neg c8] at H
     have c8b0 : decide (x12_1 < (t228.size : Int)) = false := decide_eq_false c8
     clear c8
     simp only [Option.some.injEq, Prod.mk.injEq] at H
     obtain ⟨rfl, rfl⟩ := H
     go_wp2
     go_ret2
     exact ⟨_, by rfl, by (with_reducible repeat ((apply Kd.bJ))); exact HO_10.out, HB.out⟩
end Go.Y.PRd
namespace Go.Y.PRd
open Go.Proofs.aj.aA Go.Proofs.aj.aM Go.Proofs.aj.aN Go.Y.Given
attribute [local go_sem] dF dD dR dQ cB cK dH dG
def bZ.l0 : Nat → List ByteArray → ByteArray → Int → Option (ByteArray)
 | 0, _, _, _ => none
 | k + 1, x0, x3, x4 => if x4 < (x0.length : Int) then (if 0 ≤ x4 then (if x3.size + (dz ByteArray.empty x0 x4).size ≤ 9223372036854775807 then (bZ.l0 k x0 (x3 ++ (dz ByteArray.empty x0 x4)) (wrap64 (x4 + 1))) else (none)) else (none)) else (some x3)
def bZ.f (k : Nat) (l0 : List ByteArray) : Option (ByteArray) := bZ.l0 k l0 (⟨#[]⟩ : ByteArray) 0
theorem bZ.calls (k : Nat) (A0 : Option Addr) (c0 : Nat) (l0 : List ByteArray) (r : ByteArray) (w : World) (hr0 : Kd.C Kd.string w A0 l0.length l0) (hc0 : l0.length ≤ c0) (h : bZ.f k l0 = some r) :
    Calls Tryz.prog 134 #[.slice A0 l0.length c0] w fun e w' => e = .returned (.string r) ∧ aX w w' := by
  have HR0 := ah.mk hr0
  have HC0 := ah.mk hc0
  clear hr0 hc0
  have H : (bZ.l0 k l0 (⟨#[]⟩ : ByteArray) 0) = some r := h
  clear h
  have H' := ah.mk H
  clear H
  go_enter Tryz.func134, Tryz.ntmps134
  go_wp2
  go_loopg [3, 4] k (fun kq v3 v4 w' => ∃ (x3_1 : ByteArray) (x4_1 : Int), v3 = .string x3_1 ∧ v4 = .int .i64 x4_1 ∧ ah (bZ.l0 kq l0 x3_1 x4_1 = some r) ∧ ah (kq ≤ k) ∧ aX w w')
  case atStart => exact ⟨((⟨#[]⟩ : ByteArray)), (0), (by rfl), (by rfl), H', ⟨Nat.le_refl _⟩, by repeat ((exact aX.refl _))⟩
  case round =>
   clear H'
   obtain ⟨x3_1, x4_1, rfl, rfl, HA, HK1, ⟨m1, rfl⟩⟩ := hrel
   cases gk with
   | zero => exact absurd HA.out (by simp [bZ.l0])
   | succ k1 =>
    have H := HA.out
    clear HA
    simp only [bZ.l0] at H
    by_cases c2 : x4_1 < (l0.length : Int)
    ·rw [if_pos c2] at H
     have c2b0 : decide (x4_1 < (l0.length : Int)) = true := decide_eq_true c2
     clear c2
     obtain ⟨c3b0, H⟩ := eP H
     obtain ⟨c4, H⟩ := gd_ H
     have c4b0 := eq_true c4
     have c4b1 : decide (x3_1.size + (dz ByteArray.empty l0 x4_1).size ≤ 9223372036854775807) = true := decide_eq_true c4
     (try have c4b2 : (9223372036854775807 < x3_1.size + (dz ByteArray.empty l0 x4_1).size) = False := eq_false (Nat.not_lt.2 c4))
     have H' := ah.mk H
     clear H
     have p251 : 0 ≤ (x4_1 : Int) := of_decide_eq_true (by assumption)
     have q251 : x4_1 < (l0.length : Int) := of_decide_eq_true (by assumption)
     obtain ⟨ad251, e251, hx251_0⟩ := Kd.jH HR0.out x4_1 p251 q251
     cases e251
     replace p251 := eq_true p251
     replace q251 := eq_true q251
     go_wp2
     go_roundg k1
     case measure => have := HK1.out; omega
     case rel => exact ⟨(x3_1 ++ (dz ByteArray.empty l0 x4_1)), (wrap64 (x4_1 + 1)), (by rfl), (by rfl), H', ⟨by have := HK1.out; omega⟩, by repeat (first | exact aX.refl _ | apply aX.step)⟩
    ·rw [if_neg c2] at H
     have c2b0 : decide (x4_1 < (l0.length : Int)) = false := decide_eq_false c2
     clear c2
     obtain rfl := Option.some.inj H
     go_wp2
     go_ret
     exact ⟨by rfl, by repeat (first | exact aX.refl _ | apply aX.step)⟩
def gD.f (k : Nat) (a0 : ByteArray) (a1 : Int) (a2 : Int) (a3 : Int) : Option (ByteArray × Bool) := (aD.f k a0 a1 a2 a3).bind fun bt252 => ((bZ.f k bt252.1).bind fun t256 => (if bt252.2 = true then (some (t256, decide ((t256.size : Int) ≤ 65535))) else (some (t256, false))))
theorem gD.calls (k : Nat) (a0 : ByteArray) (a1 : Int) (a2 : Int) (a3 : Int) (r1 : ByteArray) (r2 : Bool) (w : World) (h : gD.f k a0 a1 a2 a3 = some (r1, r2)) :
    Calls Tryz.prog 108 #[.string a0, .int .i64 a1, .int .i64 a2, .int .i64 a3] w fun e w' => e = .returned (.tuple #[.string r1, .bool r2]) ∧ Below w.heap.size w w' := by
  have HB := ah.mk (Below.refl w.heap.size w)
  have H : ((aD.f k a0 a1 a2 a3).bind fun bt252 => ((bZ.f k bt252.1).bind fun t256 => (if bt252.2 = true then (some (t256, decide ((t256.size : Int) ≤ 65535))) else (some (t256, false))))) = some (r1, r2) := h
  clear h
  replace H := Option.bind_eq_some_iff.mp H
  obtain ⟨⟨t252, t253⟩, A50, H⟩ := H
  replace H : ((bZ.f k t252).bind fun t256 => (if t253 = true then (some (t256, decide ((t256.size : Int) ≤ 65535))) else (some (t256, false)))) = some (r1, r2) := H
  have A5 := ah.mk A50
  clear A50
  obtain ⟨t256, A6, H⟩ := cZ H
  by_cases c7 : t253 = true
  focus
   subst c7
   rw [if_pos rfl] at H
  rotate_left
  focus
   replace c7 := Bool.eq_false_iff.mpr c7
   subst c7
   rw [if_neg ff_] at H
  rotate_left
  all_goals
   simp only [Option.some.injEq, Prod.mk.injEq] at H
   obtain ⟨rfl, rfl⟩ := H
   go_enter Tryz.func108, Tryz.ntmps108
   go_wp2_with (first | (refine gl_ (some 18) Tryz.func133 #[.string a0, .int .i64 a1, .int .i64 a2, .int .i64 a3] ?_; (with_reducible refine (aD.calls k a0 a1 a2 a3 t252 _ _ A5.out).mono ?_); rintro e w8 ⟨v254, rfl, ho0, hb⟩; refine ⟨_, rfl, ?_⟩; have HO255 := ah.mk (Kd.bC ho0 (av HB.out)); replace HB := ah.mk (ak HB.out hb); (try clear hb); (try clear ho0); obtain ⟨Ao9, co9, eo9⟩ := Kd.bS HO255.out; subst eo9) | (refine gl_ (some 22) Tryz.func134 #[.slice Ao9 t252.length co9] ?_; (with_reducible refine (bZ.calls k _ _ t252 t256 _ ?side1 ?side2 A6.out).mono ?_); (case side1 => exact (Kd.aI HO255.out).2.2); (case side2 => exact (Kd.aI HO255.out).2.1); rintro e w' ⟨rfl, ⟨nd, rfl⟩⟩; refine ⟨_, rfl, ?_⟩))
   go_ret2
   exact ⟨by rfl, by repeat ((with_reducible first | exact HB.out | apply aV))⟩
def fC.f (k : Nat) (a0 : Int) (a1 : ByteArray) : Option (Bool) := (gD.f k a1 0 (a1.size : Int) a0).bind fun bt257 => (if bt257.2 = true then (some (bt257.1.toList == a1.toList)) else (some false))
theorem fC.calls (k : Nat) (a0 : Int) (a1 : ByteArray) (r : Bool) (w : World) (h : fC.f k a0 a1 = some r) :
    Calls Tryz.prog 71 #[.int .i64 a0, .string a1] w fun e w' => e = .returned (.bool r) ∧ Below w.heap.size w w' := by
  have HB := ah.mk (Below.refl w.heap.size w)
  have H : ((gD.f k a1 0 (a1.size : Int) a0).bind fun bt257 => (if bt257.2 = true then (some (bt257.1.toList == a1.toList)) else (some false))) = some r := h
  clear h
  replace H := Option.bind_eq_some_iff.mp H
  obtain ⟨⟨t257, t258⟩, A30, H⟩ := H
  replace H : (if t258 = true then (some (t257.toList == a1.toList)) else (some false)) = some r := H
  have A3 := ah.mk A30
  clear A30
  by_cases c4 : t258 = true
  focus
   subst c4
   rw [if_pos rfl] at H
  rotate_left
  focus
   replace c4 := Bool.eq_false_iff.mpr c4
   subst c4
   rw [if_neg ff_] at H
  rotate_left
  all_goals
   obtain rfl := Option.some.inj H
   go_enter Tryz.func71, Tryz.ntmps71
   go_wp2_with (((refine gl_ (some 12) Tryz.func108 #[.string a1, .int .i64 0, .int .i64 (a1.size : Int), .int .i64 a0] ?_; (with_reducible refine (gD.calls k a1 0 (a1.size : Int) a0 t257 _ _ A3.out).mono ?_); rintro e w5 ⟨rfl, hb⟩; refine ⟨_, rfl, ?_⟩; replace HB := ah.mk (ak HB.out hb); (try clear hb))))
   go_ret
   exact ⟨by rfl, HB.out⟩
def bN.l0 : Nat → ByteArray → List Int → Int → Option (ByteArray)
 | 0, _, _, _ => none
 | k + 1, x0, x3, x4 => if x4 < (x0.size : Int) then (if 0 ≤ x4 then (if (bt x0 x4) ≥ 65 then (if (bt x0 x4) ≤ 90 then (if x3.length < 140737488355328 then (bN.l0 k x0 (x3 ++ [((bt x0 x4) + 32) % 256]) (wrap64 (x4 + 1))) else (none)) else (if x3.length < 140737488355328 then (bN.l0 k x0 (x3 ++ [bt x0 x4]) (wrap64 (x4 + 1))) else (none))) else (if x3.length < 140737488355328 then (bN.l0 k x0 (x3 ++ [bt x0 x4]) (wrap64 (x4 + 1))) else (none))) else (none)) else (some (strOfNums x3))
def bN.f (k : Nat) (a0 : ByteArray) : Option (ByteArray) := bN.l0 k a0 ([] : List Int) 0
theorem bN.calls (k : Nat) (a0 : ByteArray) (r : ByteArray) (w : World) (h : bN.f k a0 = some r) :
    Calls Tryz.prog 104 #[.string a0] w fun e w' => e = .returned (.string r) ∧ Below w.heap.size w w' := by
  have HB := ah.mk (Below.refl w.heap.size w)
  have H : (bN.l0 k a0 ([] : List Int) 0) = some r := h
  clear h
  have H' := ah.mk H
  clear H
  go_enter Tryz.func104, Tryz.ntmps104
  go_wp2
  go_loopg [3, 4] k (fun kq v3 v4 w' => ∃ (x3_1 : List Int) (x4_1 : Int), v4 = .int .i64 x4_1 ∧ ah (bN.l0 kq a0 x3_1 x4_1 = some r) ∧ ah (kq ≤ k) ∧ ah (Kd.R (Kd.int .u8) 5 w' w.heap.size (fun _ => True) v3 x3_1) ∧ ah (Below w.heap.size w w'))
  case atStart => exact ⟨(([] : List Int)), (0), (by rfl), H', ⟨Nat.le_refl _⟩, ⟨by (exact Kd.fQ _ _ _ _ _)⟩, ⟨HB.out⟩⟩
  case round =>
   clear H'
   obtain ⟨x3_1, x4_1, rfl, HA, HK1, HO_3, HB⟩ := hrel
   cases gk with
   | zero => exact absurd HA.out (by simp [bN.l0])
   | succ k1 =>
    have H := HA.out
    clear HA
    simp only [bN.l0] at H
    by_cases c2 : x4_1 < (a0.size : Int)
    ·rw [if_pos c2] at H
     have c2b0 : decide (x4_1 < (a0.size : Int)) = true := decide_eq_true c2
     clear c2
     obtain ⟨c3b0, H⟩ := eP H
     by_cases c5 : (bt a0 x4_1) ≥ 65
     focus
      rw [if_pos c5] at H
      have c5b0 : decide (65 ≤ (bt a0 x4_1)) = true := decide_eq_true c5
      clear c5
      by_cases c6 : (bt a0 x4_1) ≤ 90
      focus
       rw [if_pos c6] at H
       have c6b0 : decide ((bt a0 x4_1) ≤ 90) = true := decide_eq_true c6
      rotate_left
      focus
       rw [if_neg c6] at H
       have c6b0 : decide ((bt a0 x4_1) ≤ 90) = false := decide_eq_false c6
      rotate_left
      all_goals
       clear c6
     rotate_left 2
     focus
      rw [if_neg c5] at H
      have c5b0 : decide (65 ≤ (bt a0 x4_1)) = false := decide_eq_false c5
      clear c5
     rotate_left
     all_goals
      obtain ⟨c7, H⟩ := gd_ H
      have LMc7 := ah.mk c7
      clear c7
     focus
      obtain ⟨y259, hy259⟩ : ∃ y_ : List Int, y_ = (x3_1 ++ [((bt a0 x4_1) + 32) % 256]) := ⟨_, rfl⟩
     rotate_left
     focus
      obtain ⟨y259, hy259⟩ : ∃ y_ : List Int, y_ = (x3_1 ++ [bt a0 x4_1]) := ⟨_, rfl⟩
     rotate_left
     focus
      obtain ⟨y259, hy259⟩ : ∃ y_ : List Int, y_ = (x3_1 ++ [bt a0 x4_1]) := ⟨_, rfl⟩
     rotate_left
     all_goals
      replace H : (bN.l0 k1 a0 y259 (wrap64 (x4_1 + 1))) = some r := by (rw [hy259]; with_reducible exact H)
      have Ny259 := ah.mk hy259
      clear hy259
      have H' := ah.mk H
      clear H
      have p4 : 0 ≤ (x4_1 : Int) := of_decide_eq_true (by assumption)
      have q4 : x4_1 < (a0.size : Int) := of_decide_eq_true (by assumption)
      have hx4 := mP a0 x4_1
      replace p4 := eq_true p4
      replace q4 := eq_true q4
     focus
      go_wp2_with ((((with_reducible refine eY (b := .append) (xs := #[.tmp 23, .tmp 25]) rfl ?_); at_builtin; refine Kd.iI (Kd.int .u8) (w0 := w) w.heap.size rfl (.tmp 23) (.tmp 25) 101 5 (.int .u8 0) 1 rfl Tryz.underlying101 info5 rfl (by decide) (by omega) u3 x3_1 (((bt a0 x4_1) + 32) % 256) [.int .u8 (((bt a0 x4_1) + 32) % 256)] (fun _ => True) (fun _ => False) rfl rfl ?aP (fun _ hk => hk.elim) ?aF ?aO ?aB ?aS ?aL ?_; (case aP => exact rfl); (case aB => exact HB.out); (case aF => exact (fun _ _ => trivial)); (case aO => exact (by ((exact HO_3.out)))); (case aS => exact (av HB.out)); (case aL => have := LMc7.out; omega); intro v260 w8 ho hb hg hat; rw [← Ny259.out] at ho; have n0_ := ah.mk (hb); have n1_ := ah.mk (ho); clear HB; clear HO_3; have HB := n0_; have HO261 := n1_; clear n0_ n1_; clear ho hb hg hat)))
     rotate_left
     focus
      go_wp2_with ((((with_reducible refine eY (b := .append) (xs := #[.tmp 23, .tmp 25]) rfl ?_); at_builtin; refine Kd.iI (Kd.int .u8) (w0 := w) w.heap.size rfl (.tmp 23) (.tmp 25) 101 5 (.int .u8 0) 1 rfl Tryz.underlying101 info5 rfl (by decide) (by omega) u3 x3_1 (bt a0 x4_1) [.int .u8 (bt a0 x4_1)] (fun _ => True) (fun _ => False) rfl rfl ?aP (fun _ hk => hk.elim) ?aF ?aO ?aB ?aS ?aL ?_; (case aP => exact rfl); (case aB => exact HB.out); (case aF => exact (fun _ _ => trivial)); (case aO => exact (by ((exact HO_3.out)))); (case aS => exact (av HB.out)); (case aL => have := LMc7.out; omega); intro v263 w10 ho hb hg hat; rw [← Ny259.out] at ho; have n0_ := ah.mk (hb); have n1_ := ah.mk (ho); clear HB; clear HO_3; have HB := n0_; have HO261 := n1_; clear n0_ n1_; clear ho hb hg hat)))
     rotate_left
     focus
      go_wp2_with ((((with_reducible refine eY (b := .append) (xs := #[.tmp 23, .tmp 25]) rfl ?_); at_builtin; refine Kd.iI (Kd.int .u8) (w0 := w) w.heap.size rfl (.tmp 23) (.tmp 25) 101 5 (.int .u8 0) 1 rfl Tryz.underlying101 info5 rfl (by decide) (by omega) u3 x3_1 (bt a0 x4_1) [.int .u8 (bt a0 x4_1)] (fun _ => True) (fun _ => False) rfl rfl ?aP (fun _ hk => hk.elim) ?aF ?aO ?aB ?aS ?aL ?_; (case aP => exact rfl); (case aB => exact HB.out); (case aF => exact (fun _ _ => trivial)); (case aO => exact (by ((exact HO_3.out)))); (case aS => exact (av HB.out)); (case aL => have := LMc7.out; omega); intro v266 w12 ho hb hg hat; rw [← Ny259.out] at ho; have n0_ := ah.mk (hb); have n1_ := ah.mk (ho); clear HB; clear HO_3; have HB := n0_; have HO261 := n1_; clear n0_ n1_; clear ho hb hg hat)))
     rotate_left
     all_goals
      go_roundg k1
      case measure => have := HK1.out; omega
      case rel => exact ⟨(y259), (wrap64 (x4_1 + 1)), (by rfl), H', ⟨by have := HK1.out; omega⟩, ⟨by (with_reducible repeat ((apply Kd.bJ))); exact HO261.out⟩, ⟨HB.out⟩⟩
    ·rw [if_neg c2] at H
     have c2b0 : decide (x4_1 < (a0.size : Int)) = false := decide_eq_false c2
     clear c2
     obtain rfl := Option.some.inj H
     have hcv13 := nK (P := Tryz.prog) Tryz.underlying101 Tryz.underlying5 Tryz.underlying9 (Kd.lD HO_3.out)
     go_wp2
     go_ret
     exact ⟨by rfl, HB.out⟩
def aQ.l0 : Nat → List ByteArray → ByteArray → Int → Option (ByteArray)
 | 0, _, _, _ => none
 | k + 1, x3, x5, x6 => if x6 < (x3.length : Int) then (if 0 ≤ x6 then ((some (([(((dz ByteArray.empty x3 x6).size : Int)) % 256] : List Int) : List Int)).bind fun y273 => ((bN.f k (dz ByteArray.empty x3 x6)).bind fun t277 => (if (strOfNums y273).size + t277.size ≤ 9223372036854775807 then (if x5.size + ((strOfNums y273) ++ t277).size ≤ 9223372036854775807 then (aQ.l0 k x3 (x5 ++ ((strOfNums y273) ++ t277)) (wrap64 (x6 + 1))) else (none)) else (none)))) else (none)) else (if x5.size + 1 ≤ 9223372036854775807 then (some (x5 ++ (⟨#[0]⟩ : ByteArray))) else (none))
def aQ.f (k : Nat) (a0 : ByteArray) : Option (ByteArray) := (aJ.f k a0).bind fun bt268 => (if bt268.2 = true then (aQ.l0 k bt268.1 (⟨#[]⟩ : ByteArray) 0) else (some (⟨#[]⟩ : ByteArray)))
def aQ.T8 : Bool × List (List Nat × List Nat) := (true, [([], []), ([], []), ([], []), ([1, 2], [1, 2]), ([3], [3]), ([4], [4]), ([5], [5]), ([6], [6]), ([7], [7]), ([], []), ([], []), ([9, 10], [9, 10]), ([11], [11]), ([12], [12]), ([8, 13], [8, 13]), ([0, 14], [0, 14]), ([15, 13, 0, 1, 2, 3, 4, 5, 6, 7, 8, 9, 10, 11, 12, 13, 14, 15], [0, 15])])
def aQ.B8 : List Nat := [0, 0, 0, 6, 14, 30, 62, 126, 254, 0, 0, 1536, 3584, 7680, 16382, 32767, 65535]
theorem aQ.Ku : gG .any (opsOf Tryz.f66 8) = aQ.T8 := by kernel_rfl
theorem aQ.Kh : jc aQ.T8.2 aQ.B8 = true := by kernel_rfl
theorem aQ.calls (k : Nat) (a0 : ByteArray) (r : ByteArray) (w : World) (h : aQ.f k a0 = some r) :
    Calls Tryz.prog 66 #[.string a0] w fun e w' => e = .returned (.string r) ∧ Below w.heap.size w w' := by
  have HB := ah.mk (Below.refl w.heap.size w)
  have H : ((aJ.f k a0).bind fun bt268 => (if bt268.2 = true then (aQ.l0 k bt268.1 (⟨#[]⟩ : ByteArray) 0) else (some (⟨#[]⟩ : ByteArray)))) = some r := h
  clear h
  replace H := Option.bind_eq_some_iff.mp H
  obtain ⟨⟨t268, t269⟩, A20, H⟩ := H
  replace H : (if t269 = true then (aQ.l0 k t268 (⟨#[]⟩ : ByteArray) 0) else (some (⟨#[]⟩ : ByteArray))) = some r := H
  have A2 := ah.mk A20
  clear A20
  by_cases c3 : t269 = true
  focus
   subst c3
   rw [if_pos rfl] at H
   have H' := ah.mk H
   clear H
  rotate_left
  focus
   replace c3 := Bool.eq_false_iff.mpr c3
   subst c3
   rw [if_neg ff_] at H
   obtain rfl := Option.some.inj H
  rotate_left
  all_goals
   go_enter Tryz.func66, Tryz.ntmps66
   go_wp2_with (((refine gl_ (some 9) Tryz.func67 #[.string a0] ?_; (with_reducible refine (aJ.calls k a0 t268 _ _ A2.out).mono ?_); rintro e w4 ⟨v270, rfl, ho0, hb⟩; refine ⟨_, rfl, ?_⟩; have HO271 := ah.mk (Kd.bC ho0 (av HB.out)); replace HB := ah.mk (ak HB.out hb); (try clear hb); (try clear ho0))))
  ·go_loopg [5, 6] k (fun kq v5 v6 w' => ∃ (x5_1 : ByteArray) (x6_1 : Int), v5 = .string x5_1 ∧ v6 = .int .i64 x6_1 ∧ ah (aQ.l0 kq t268 x5_1 x6_1 = some r) ∧ ah (kq ≤ k) ∧ ah (Kd.R Kd.string 9 w' w.heap.size (fun _ => True) v270 t268) ∧ ah (Below w.heap.size w w'))
   case atStart => exact ⟨((⟨#[]⟩ : ByteArray)), (0), (by rfl), (by rfl), H', ⟨Nat.le_refl _⟩, ⟨by (with_reducible repeat ((apply Kd.bJ))); exact HO271.out⟩, ⟨HB.out⟩⟩
   case round =>
    clear H'
    obtain ⟨x5_1, x6_1, rfl, rfl, HA, HK1, HO_3, HB⟩ := hrel
    cases gk with
    | zero => exact absurd HA.out (by simp [aQ.l0])
    | succ k1 =>
     have H := HA.out
     clear HA
     simp only [aQ.l0] at H
     by_cases c5 : x6_1 < (t268.length : Int)
     focus
      rw [if_pos c5] at H
      have c5b0 : decide (x6_1 < (t268.length : Int)) = true := decide_eq_true c5
      clear c5
      obtain ⟨c6b0, H⟩ := eP H
      obtain ⟨y273, hy273⟩ : ∃ y_ : List Int, y_ = (([(((dz ByteArray.empty t268 x6_1).size : Int)) % 256] : List Int)) := ⟨_, rfl⟩
      replace H : ((bN.f k1 (dz ByteArray.empty t268 x6_1)).bind fun t277 => (if (strOfNums y273).size + t277.size ≤ 9223372036854775807 then (if x5_1.size + ((strOfNums y273) ++ t277).size ≤ 9223372036854775807 then (aQ.l0 k1 t268 (x5_1 ++ ((strOfNums y273) ++ t277)) (wrap64 (x6_1 + 1))) else (none)) else (none))) = some r := by (have H2_ := (Option.bind_some _ _).symm.trans H; rw [hy273]; with_reducible exact H2_)
      have Ny273 := ah.mk hy273
      clear hy273
      obtain ⟨t277, A7, H⟩ := cZ H
      obtain ⟨c8, H⟩ := gd_ H
      have c8b0 := eq_true c8
      have c8b1 : decide ((strOfNums y273).size + t277.size ≤ 9223372036854775807) = true := decide_eq_true c8
      (try have c8b2 : (9223372036854775807 < (strOfNums y273).size + t277.size) = False := eq_false (Nat.not_lt.2 c8))
      obtain ⟨c9, H⟩ := gd_ H
      have c9b0 := eq_true c9
      have c9b1 : decide (x5_1.size + ((strOfNums y273) ++ t277).size ≤ 9223372036854775807) = true := decide_eq_true c9
      (try have c9b2 : (9223372036854775807 < x5_1.size + ((strOfNums y273) ++ t277).size) = False := eq_false (Nat.not_lt.2 c9))
      (try have c9b3 := c9b2)
      (try simp only [ByteArray.size_append] at c9b3)
      have H' := ah.mk H
      clear H
     rotate_left
     focus
      rw [if_neg c5] at H
      have c5b0 : decide (x6_1 < (t268.length : Int)) = false := decide_eq_false c5
      clear c5
      obtain ⟨c17, H⟩ := gd_ H
      have c17b0 := eq_true c17
      have c17b1 : decide (x5_1.size + 1 ≤ 9223372036854775807) = true := decide_eq_true c17
      (try have c17b2 : (9223372036854775807 < x5_1.size + 1) = False := eq_false (Nat.not_lt.2 c17))
      obtain rfl := Option.some.inj H
     rotate_left
     all_goals
      obtain ⟨Ao10, co10, eo10⟩ := Kd.bS HO_3.out
      subst eo10
     ·try go_wp2
      replace HO_3 := ah.mk (Kd.jN HO_3.out)
      replace HB := ah.mk (dJ HB.out)
      have p272 : 0 ≤ (x6_1 : Int) := of_decide_eq_true (by assumption)
      have q272 : x6_1 < (t268.length : Int) := of_decide_eq_true (by assumption)
      obtain ⟨ad272, e272, hx272_0⟩ := Kd.jH (Kd.aI HO_3.out).2.2 x6_1 p272 q272
      cases e272
      replace p272 := eq_true p272
      replace q272 := eq_true q272
      have p276 : 0 ≤ (x6_1 : Int) := of_decide_eq_true (by assumption)
      have q276 : x6_1 < (t268.length : Int) := of_decide_eq_true (by assumption)
      obtain ⟨ad276, e276, hx276_0⟩ := Kd.jH (Kd.aI HO_3.out).2.2 x6_1 p276 q276
      obtain rfl : ad272 = ad276 := (by injection e276)
      replace p276 := eq_true p276
      replace q276 := eq_true q276
      refine jg (n := 17) (S := fun w' => w'.cell? (ad272.add (x6_1).toNat) = some (.string (dz ByteArray.empty t268 x6_1)) ∧ w'.cell? (ad272.add (x6_1).toNat) = some (.string (dz ByteArray.empty t268 x6_1))) (ds := []) (ls 17 0) (by kernel_rfl) rfl rfl ⟨hx272_0, hx276_0⟩ (fun hHeld => ?_); refine ig aQ.Ku aQ.Kh (fun HT_ HW_ => ?_)
      generalize wr.drew = w11 at HO_3 HB hx272_0 hx276_0 hHeld ⊢
      refine td_ [(0, 20), (1, 21), (2, 22), (3, 23), (9, 29), (10, 30), (11, 31)] ?_
      iterate 7 (refine pm_ HT_ ?_)
      refine dn_ ?_
      refine td_ [(4, 24)] ?_
      refine tm_ HT_ HW_ hHeld ?_
      refine dn_ ?_
      refine td_ [(5, 25), (6, 26)] ?_
      iterate 2 (refine pm_ HT_ ?_)
      refine dn_ ?_
      refine td_ [(12, 32)] ?_
      refine tm_ HT_ HW_ hHeld ?_
      refine dn_ ?_
      refine Hq (σ := Value) 3 (ls 17 16383) (fun s_ => [(27, s_), (28, .string (strOfNums y273)), (33, .string t277)]) (fun s_ w' => (w'.cell? (ad272.add (x6_1).toNat) = some (.string (dz ByteArray.empty t268 x6_1)) ∧ w'.cell? (ad272.add (x6_1).toNat) = some (.string (dz ByteArray.empty t268 x6_1))) ∧ (Kd.R (Kd.int .u8) 5 w' w.heap.size (fun _ => True) s_ y273) ∧ (Kd.R Kd.string 9 w' w.heap.size (fun _ => True) (.slice (some ad272) t268.length co10) t268) ∧ (Below w.heap.size w w')) ?_ ?_
      rotate_left
      ·intro hCont
       refine Gv (i := 7) (j := 13) (Ni := some 27) (Nj := some 33) (ls 17 7935) (ls 17 15999) rfl rfl rfl rfl (EB HT_.out (by kernel_rfl)) (by decide) (by decide) (fun K hK => ?_) (fun K hK => ?_)
       ·skip
        refine Kd.qj (Kd.int .u8) _ 5 ?hg (N := 27) ?hd (xs := ([(((dz ByteArray.empty t268 x6_1).size : Int)) % 256] : List Int)) (inner := [.int .u8 ((((dz ByteArray.empty t268 x6_1).size : Int)) % 256)]) (ok := fun _ => True) (okp := fun _ => True) ?hr ?hp (fun _ hk => hk) trivial (Below.refl _ _) (Nat.le_refl _) (by simp) ?_; (case hd => rfl); (case hg => rfl); (case hr => (go_simp; rfl)); (case hp => exact (aY.one (show Kd.M (Kd.int .u8) _ _ _ ((((dz ByteArray.empty t268 x6_1).size : Int)) % 256) [.int .u8 ((((dz ByteArray.empty t268 x6_1).size : Int)) % 256)] from rfl) (aY.none _ _)))
        intro v274 w12 ho13 hb hg_ hnew_
        have HS0_ := kp_ hb hHeld.1
        have HS1_ := kp_ hb hHeld.2
        clear hg_ hnew_
        ((rw [← Ny273.out] at ho13))
        have HO275 := ah.mk (Kd.bC ho13 (av HB.out))
        replace HO_3 := ah.mk (Kd.aU (by ((exact HO_3.out))) hb)
        replace HB := ah.mk (ak HB.out hb)
        clear hb ho13
        refine hK.out _ _ ⟨HS0_, HS1_⟩ (fun hHeld => ?_)
        clear hK K
        refine nm_ (N := (some 27)) ?_
        refine Gv (i := 8) (j := 13) (Ni := some 28) (Nj := some 33) (ls 17 8191) (ls 17 16127) rfl rfl rfl rfl (EB HT_.out (by kernel_rfl)) (by decide) (by decide) (fun K hK => ?_) (fun K hK => ?_)
        ·skip
         have hcv14 := nK (P := Tryz.prog) Tryz.underlying101 Tryz.underlying5 Tryz.underlying9 (Kd.lD HO275.out)
         refine yx (w1 := ?_) (v := ?_) (by rfl) rfl ?_ ?_
         rotate_left 2
         ·go_simp
          constructor
          ·rfl
          ·rfl
         clear hcv14
         refine hK.out _ _ ⟨hHeld.1, hHeld.2⟩ (fun hHeld => ?_)
         clear hK K
         refine nm_ (N := (some 28)) ?_
         refine jL HT_ (i := 13) (N := some 33) (ls 17 16383) (fun K hK => ?_)
         refine gs_ Tryz.func104 #[.string (dz ByteArray.empty t268 x6_1)] ?_
         with_reducible refine (bN.calls k1 (dz ByteArray.empty t268 x6_1) t277 _ A7.out).mono ?_
         rintro e w15 ⟨rfl, hb⟩
         have HS0_ := kp_ hb hHeld.1
         have HS1_ := kp_ hb hHeld.2
         refine ⟨_, rfl, ?_⟩
         replace HO_3 := ah.mk (Kd.aU (by ((exact HO_3.out))) hb)
         replace HO275 := ah.mk (Kd.aU (by ((exact HO275.out))) hb)
         replace HB := ah.mk (ak HB.out hb)
         (try clear hb)
         refine hK.out _ _ ⟨HS0_, HS1_⟩ (fun hHeld => ?_)
         clear hK K
         refine nm_ (N := (some 33)) ?_
         exact oJ (by simp only [kV, Act.put, List.setIfInBounds_toArray, List.set_cons_zero, List.set_cons_succ]) (hCont (v274) _ ⟨hHeld, (by ((exact HO275.out))), (by ((exact HO_3.out))), HB.out⟩)
        ·skip
         refine gs_ Tryz.func104 #[.string (dz ByteArray.empty t268 x6_1)] ?_
         with_reducible refine (bN.calls k1 (dz ByteArray.empty t268 x6_1) t277 _ A7.out).mono ?_
         rintro e w14 ⟨rfl, hb⟩
         have HS0_ := kp_ hb hHeld.1
         have HS1_ := kp_ hb hHeld.2
         refine ⟨_, rfl, ?_⟩
         replace HO_3 := ah.mk (Kd.aU (by ((exact HO_3.out))) hb)
         replace HO275 := ah.mk (Kd.aU (by ((exact HO275.out))) hb)
         replace HB := ah.mk (ak HB.out hb)
         (try clear hb)
         refine hK.out _ _ ⟨HS0_, HS1_⟩ (fun hHeld => ?_)
         clear hK K
         refine nm_ (N := (some 33)) ?_
         refine jL HT_ (i := 8) (N := some 28) (ls 17 16383) (fun K hK => ?_)
         have hcv15 := nK (P := Tryz.prog) Tryz.underlying101 Tryz.underlying5 Tryz.underlying9 (Kd.lD HO275.out)
         refine yx (w1 := ?_) (v := ?_) (by rfl) rfl ?_ ?_
         rotate_left 2
         ·go_simp
          constructor
          ·rfl
          ·rfl
         clear hcv15
         refine hK.out _ _ ⟨hHeld.1, hHeld.2⟩ (fun hHeld => ?_)
         clear hK K
         refine nm_ (N := (some 28)) ?_
         exact oJ (by simp only [kV, Act.put, List.setIfInBounds_toArray, List.set_cons_zero, List.set_cons_succ]) (hCont (v274) _ ⟨hHeld, (by ((exact HO275.out))), (by ((exact HO_3.out))), HB.out⟩)
       ·skip
        refine gs_ Tryz.func104 #[.string (dz ByteArray.empty t268 x6_1)] ?_
        with_reducible refine (bN.calls k1 (dz ByteArray.empty t268 x6_1) t277 _ A7.out).mono ?_
        rintro e w12 ⟨rfl, hb⟩
        have HS0_ := kp_ hb hHeld.1
        have HS1_ := kp_ hb hHeld.2
        refine ⟨_, rfl, ?_⟩
        replace HO_3 := ah.mk (Kd.aU (by ((exact HO_3.out))) hb)
        replace HB := ah.mk (ak HB.out hb)
        (try clear hb)
        refine hK.out _ _ ⟨HS0_, HS1_⟩ (fun hHeld => ?_)
        clear hK K
        refine nm_ (N := (some 33)) ?_
        refine jL HT_ (i := 7) (N := some 27) (ls 17 16127) (fun K hK => ?_)
        refine Kd.qj (Kd.int .u8) _ 5 ?hg (N := 27) ?hd (xs := ([(((dz ByteArray.empty t268 x6_1).size : Int)) % 256] : List Int)) (inner := [.int .u8 ((((dz ByteArray.empty t268 x6_1).size : Int)) % 256)]) (ok := fun _ => True) (okp := fun _ => True) ?hr ?hp (fun _ hk => hk) trivial (Below.refl _ _) (Nat.le_refl _) (by simp) ?_; (case hd => rfl); (case hg => rfl); (case hr => (go_simp; rfl)); (case hp => exact (aY.one (show Kd.M (Kd.int .u8) _ _ _ ((((dz ByteArray.empty t268 x6_1).size : Int)) % 256) [.int .u8 ((((dz ByteArray.empty t268 x6_1).size : Int)) % 256)] from rfl) (aY.none _ _)))
        intro v274 w13 ho14 hb hg_ hnew_
        have HS0_ := kp_ hb hHeld.1
        have HS1_ := kp_ hb hHeld.2
        clear hg_ hnew_
        ((rw [← Ny273.out] at ho14))
        have HO275 := ah.mk (Kd.bC ho14 (av HB.out))
        replace HO_3 := ah.mk (Kd.aU (by ((exact HO_3.out))) hb)
        replace HB := ah.mk (ak HB.out hb)
        clear hb ho14
        refine hK.out _ _ ⟨HS0_, HS1_⟩ (fun hHeld => ?_)
        clear hK K
        refine nm_ (N := (some 27)) ?_
        refine jL HT_ (i := 8) (N := some 28) (ls 17 16383) (fun K hK => ?_)
        have hcv15 := nK (P := Tryz.prog) Tryz.underlying101 Tryz.underlying5 Tryz.underlying9 (Kd.lD HO275.out)
        refine yx (w1 := ?_) (v := ?_) (by rfl) rfl ?_ ?_
        rotate_left 2
        ·go_simp
         constructor
         ·rfl
         ·rfl
        clear hcv15
        refine hK.out _ _ ⟨hHeld.1, hHeld.2⟩ (fun hHeld => ?_)
        clear hK K
        refine nm_ (N := (some 28)) ?_
        exact oJ (by simp only [kV, Act.put, List.setIfInBounds_toArray, List.set_cons_zero, List.set_cons_succ]) (hCont (v274) _ ⟨hHeld, (by ((exact HO275.out))), (by ((exact HO_3.out))), HB.out⟩)
      rintro v274 w16 ⟨hS_, h0_, h1_, h2_⟩
      have n0_ : ah (Kd.R (Kd.int .u8) 5 w16 w.heap.size (fun _ => True) v274 y273) := ⟨h0_⟩
      have n1_ : ah (Kd.R Kd.string 9 w16 w.heap.size (fun _ => True) (.slice (some ad272) t268.length co10) t268) := ⟨h1_⟩
      have n2_ : ah (Below w.heap.size w w16) := ⟨h2_⟩
      clear HO_3
      clear HB
      clear h0_ h1_ h2_
      have HO275 := n0_
      have HO_3 := n1_
      have HB := n2_
      clear n0_ n1_ n2_
      have hHeld : w16.cell? (ad272.add (x6_1).toNat) = some (.string (dz ByteArray.empty t268 x6_1)) ∧ w16.cell? (ad272.add (x6_1).toNat) = some (.string (dz ByteArray.empty t268 x6_1)) := hS_
      refine oJ (a' := ?_) ?_ ?_
      rotate_left
      ·simp only [kV, Act.put, List.setIfInBounds_toArray, List.set_cons_zero, List.set_cons_succ]
       rfl
      refine td_ [(14, 34), (15, 35), (16, 5)] ?_
      iterate 3 (refine pm_ HT_ ?_)
      refine dn_ ?_
      refine nL (mG HT_.out (by kernel_rfl)) ?_
      (try go_wp2)
      go_roundg k1
      case measure => have := HK1.out; omega
      case rel => exact ⟨(x5_1 ++ ((strOfNums y273) ++ t277)), (wrap64 (x6_1 + 1)), (by rfl), (by rfl), H', ⟨by have := HK1.out; omega⟩, ⟨by (with_reducible repeat ((apply Kd.bJ))); exact HO_3.out⟩, ⟨HB.out⟩⟩
     ·go_wp2
      go_ret
      exact ⟨by rfl, HB.out⟩
  ·go_ret
   exact ⟨by rfl, HB.out⟩
end Go.Y.PRd
namespace Go.Y.PRd
open Go.Proofs.aj.aA Go.Proofs.aj.aM Go.Proofs.aj.aN Go.Y.Given
attribute [local go_sem] dF dD dR dQ cB cK dH dG
def gM.l0 : Nat → List ByteArray → ByteArray → ByteArray → Int → Option (ByteArray)
 | 0, _, _, _, _ => none
 | k + 1, x5, x7, x8, x9 => if x9 < (x5.length : Int) then (if 0 ≤ x9 then (if x9 < (x7.size : Int) then (if (bt x7 x9) = 110 then ((aQ.f k (dz ByteArray.empty x5 x9)).bind fun t285 => (if x8.size + t285.size ≤ 9223372036854775807 then (gM.l0 k x5 x7 (x8 ++ t285) (wrap64 (x9 + 1))) else (none))) else (if (bt x7 x9) = 117 then ((aQ.f k (dz ByteArray.empty x5 x9)).bind fun t287 => (if x8.size + t287.size ≤ 9223372036854775807 then (gM.l0 k x5 x7 (x8 ++ t287) (wrap64 (x9 + 1))) else (none))) else (if x8.size + (dz ByteArray.empty x5 x9).size ≤ 9223372036854775807 then (gM.l0 k x5 x7 (x8 ++ (dz ByteArray.empty x5 x9)) (wrap64 (x9 + 1))) else (none)))) else (none)) else (none)) else (some x8)
end Go.Y.PRd
namespace Go.Y.PRd
open Go.Proofs.aj.aA Go.Proofs.aj.aM Go.Proofs.aj.aN Go.Y.Given
attribute [local go_sem] dF dD dR dQ cB cK dH dG
mutual
def aH.j0 : Nat → List ByteArray → List ByteArray → Bool → Option (Bool)
 | 0, _, _, _ => none
 | k + 1, x5, x7, x34 => if x34 = true then (some false) else (aH.l0 k x5 x7 0)
def aH.l0 : Nat → List ByteArray → List ByteArray → Int → Option (Bool)
 | 0, _, _, _ => none
 | k + 1, x5, x7, x9 => if x9 < (x7.length : Int) then (if 0 ≤ (wrap64 ((wrap64 ((x5.length : Int) - 1)) - x9)) then (if (wrap64 ((wrap64 ((x5.length : Int) - 1)) - x9)) < (x5.length : Int) then (if 0 ≤ (wrap64 ((wrap64 ((x7.length : Int) - 1)) - x9)) then (if (wrap64 ((wrap64 ((x7.length : Int) - 1)) - x9)) < (x7.length : Int) then (if (dz ByteArray.empty x5 (wrap64 ((wrap64 ((x5.length : Int) - 1)) - x9))).toList = (dz ByteArray.empty x7 (wrap64 ((wrap64 ((x7.length : Int) - 1)) - x9))).toList then (aH.l0 k x5 x7 (wrap64 (x9 + 1))) else (some false)) else (none)) else (none)) else (none)) else (none)) else (some true)
end
def aH.f (k : Nat) (a0 : ByteArray) (a1 : ByteArray) : Option (Bool) := (aQ.f k a0).bind fun t329 => ((aJ.f k t329).bind fun bt330 => ((aQ.f k a1).bind fun t334 => ((aJ.f k t334).bind fun bt335 => (if bt330.2 = true then (if bt335.2 = true then (aH.j0 k bt330.1 bt335.1 (decide ((bt330.1.length : Int) < (bt335.1.length : Int)))) else (aH.j0 k bt330.1 bt335.1 true)) else (aH.j0 k bt330.1 bt335.1 true)))))
theorem aH.calls (k : Nat) (a0 : ByteArray) (a1 : ByteArray) (r : Bool) (w : World) (h : aH.f k a0 a1 = some r) :
    Calls Tryz.prog 28 #[.string a0, .string a1] w fun e w' => e = .returned (.bool r) ∧ Below w.heap.size w w' := by
  have HB := ah.mk (Below.refl w.heap.size w)
  have H : ((aQ.f k a0).bind fun t329 => ((aJ.f k t329).bind fun bt330 => ((aQ.f k a1).bind fun t334 => ((aJ.f k t334).bind fun bt335 => (if bt330.2 = true then (if bt335.2 = true then (aH.j0 k bt330.1 bt335.1 (decide ((bt330.1.length : Int) < (bt335.1.length : Int)))) else (aH.j0 k bt330.1 bt335.1 true)) else (aH.j0 k bt330.1 bt335.1 true)))))) = some r := h
  clear h
  obtain ⟨t329, A3, H⟩ := cZ H
  replace H := Option.bind_eq_some_iff.mp H
  obtain ⟨⟨t330, t331⟩, A40, H⟩ := H
  replace H : ((aQ.f k a1).bind fun t334 => ((aJ.f k t334).bind fun bt335 => (if t331 = true then (if bt335.2 = true then (aH.j0 k t330 bt335.1 (decide ((t330.length : Int) < (bt335.1.length : Int)))) else (aH.j0 k t330 bt335.1 true)) else (aH.j0 k t330 bt335.1 true)))) = some r := H
  have A4 := ah.mk A40
  clear A40
  obtain ⟨t334, A5, H⟩ := cZ H
  replace H := Option.bind_eq_some_iff.mp H
  obtain ⟨⟨t335, t336⟩, A60, H⟩ := H
  replace H : (if t331 = true then (if t336 = true then (aH.j0 k t330 t335 (decide ((t330.length : Int) < (t335.length : Int)))) else (aH.j0 k t330 t335 true)) else (aH.j0 k t330 t335 true)) = some r := H
  have A6 := ah.mk A60
  clear A60
  have HC7 := ah.mk H
  clear H
  go_enter Tryz.func28, Tryz.ntmps28
  go_upto_region 3 with (first | (go_at_call 66; (with_reducible refine (aQ.calls k a0 t329 _ A3.out).mono ?_); rintro e w8 ⟨rfl, hb⟩; replace HB := ah.mk (ak HB.out hb); (try clear hb)) | (go_at_call 67; (with_reducible refine (aJ.calls k t329 t330 t331 _ A4.out).mono ?_); rintro e w9 ⟨v332, rfl, ho0, hb⟩; have HO333 := ah.mk (Kd.bC ho0 (av HB.out)); replace HB := ah.mk (ak HB.out hb); (try clear hb); (try clear ho0)) | (go_at_call 66; (with_reducible refine (aQ.calls k a1 t334 _ A5.out).mono ?_); rintro e w10 ⟨rfl, hb⟩; replace HO333 := ah.mk (Kd.aU (by ((exact HO333.out))) hb); replace HB := ah.mk (ak HB.out hb); (try clear hb)) | (go_at_call 67; (with_reducible refine (aJ.calls k t334 t335 t336 _ A6.out).mono ?_); rintro e w11 ⟨v337, rfl, ho0, hb⟩; have HO338 := ah.mk (Kd.bC (Kd.fM ho0 (Kd.iQ (by ((exact HO333.out))))) (av HB.out)); replace HO333 := ah.mk (Kd.dY (by ((exact HO333.out))) (Kd.fH ho0) hb); replace HB := ah.mk (ak HB.out hb); (try clear hb); (try clear ho0)))
  repeat (go_quiet (((go_at_call 66; (with_reducible refine (aQ.calls k a0 t329 _ A3.out).mono ?_); rintro e w8 ⟨rfl, hb⟩; replace HB := ah.mk (ak HB.out hb)))); go_upto_region 3 with (((go_at_call 66; (with_reducible refine (aQ.calls k a0 t329 _ A3.out).mono ?_); rintro e w8 ⟨rfl, hb⟩; replace HB := ah.mk (ak HB.out hb)))))
  go_cut [34] (fun v34 wc => ∃ (kq : Nat) (x34_6 : Bool), v34 = .bool x34_6 ∧ ah (aH.j0 kq t330 t335 x34_6 = some r) ∧ ah (kq ≤ k) ∧ ah (Kd.R Kd.string 9 wc w.heap.size (fun k_ => some k_ ≠ (v337 : Value).ownBlock) v332 t330) ∧ ah (Kd.R Kd.string 9 wc w.heap.size (fun k_ => some k_ ≠ (v332 : Value).ownBlock) v337 t335) ∧ ah (Below w.heap.size w wc))
  case first =>
   have H := HC7.out
   clear HC7
   by_cases c12 : t331 = true
   ·subst c12
    rw [if_pos rfl] at H
    by_cases c13 : t336 = true
    ·subst c13
     rw [if_pos rfl] at H
     have H' := ah.mk H
     clear H
     obtain ⟨Ao14, co14, eo14⟩ := Kd.bS HO333.out
     subst eo14
     obtain ⟨Ao15, co15, eo15⟩ := Kd.bS HO338.out
     subst eo15
     go_wp2
     repeat (go_quiet (fail); try go_wp2)
     go_meet
     case rel => exact ⟨_, (decide ((t330.length : Int) < (t335.length : Int))), (by (simp; done)), H', ⟨by omega⟩, ⟨by (with_reducible repeat ((apply Kd.bJ))); exact Kd.dw HO333.out (fun _ hk => hk.2)⟩, ⟨by (with_reducible repeat ((apply Kd.bJ))); exact Kd.dw HO338.out (fun _ hk => hk.2)⟩, ⟨HB.out⟩⟩
    ·replace c13 := Bool.eq_false_iff.mpr c13
     subst c13
     rw [if_neg ff_] at H
     have H' := ah.mk H
     clear H
     go_wp2
     repeat (go_quiet (fail); try go_wp2)
     go_meet
     case rel => exact ⟨_, (true), (by rfl), H', ⟨by omega⟩, ⟨by (with_reducible repeat ((apply Kd.bJ))); exact Kd.dw HO333.out (fun _ hk => hk.2)⟩, ⟨by (with_reducible repeat ((apply Kd.bJ))); exact Kd.dw HO338.out (fun _ hk => hk.2)⟩, ⟨HB.out⟩⟩
   ·replace c12 := Bool.eq_false_iff.mpr c12
    subst c12
    rw [if_neg ff_] at H
    have H' := ah.mk H
    clear H
    go_wp2
    repeat (go_quiet (fail); try go_wp2)
    go_meet
    case rel => exact ⟨_, (true), (by rfl), H', ⟨by omega⟩, ⟨by (with_reducible repeat ((apply Kd.bJ))); exact Kd.dw HO333.out (fun _ hk => hk.2)⟩, ⟨by (with_reducible repeat ((apply Kd.bJ))); exact Kd.dw HO338.out (fun _ hk => hk.2)⟩, ⟨HB.out⟩⟩
  case rest =>
   clear HC7
   obtain ⟨kq, x34_6, rfl, HA, HJ6, HO_5, HO_7, HB⟩ := hcut
   cases kq with
   | zero => exact absurd HA.out (by simp [aH.j0])
   | succ kj6 =>
    have H := HA.out
    clear HA
    simp only [aH.j0] at H
    by_cases c16 : x34_6 = true
    ·subst c16
     rw [if_pos rfl] at H
     obtain rfl := Option.some.inj H
     go_wp2
     repeat (go_quiet (fail); try go_wp2)
     go_ret
     exact ⟨by rfl, HB.out⟩
    ·replace c16 := Bool.eq_false_iff.mpr c16
     subst c16
     rw [if_neg ff_] at H
     have H' := ah.mk H
     clear H
     go_wp2
     repeat (go_quiet (fail); try go_wp2)
     go_loopg [9] kj6 (fun kq v9 w' => ∃ (x9_2 : Int), v9 = .int .i64 x9_2 ∧ ah (aH.l0 kq t330 t335 x9_2 = some r) ∧ ah (kq ≤ kj6) ∧ ah (Kd.R Kd.string 9 w' w.heap.size (fun k_ => some k_ ≠ (v337 : Value).ownBlock) v332 t330) ∧ ah (Kd.R Kd.string 9 w' w.heap.size (fun k_ => some k_ ≠ (v332 : Value).ownBlock) v337 t335) ∧ ah (Below w.heap.size w w'))
     case atStart => exact ⟨(0), (by rfl), H', ⟨Nat.le_refl _⟩, ⟨by (with_reducible repeat ((apply Kd.bJ))); exact HO_5.out⟩, ⟨by (with_reducible repeat ((apply Kd.bJ))); exact HO_7.out⟩, ⟨HB.out⟩⟩
     case round =>
      clear H'
      obtain ⟨x9_2, rfl, HA, HK2, HO_5, HO_7, HB⟩ := hrel
      cases gk with
      | zero => exact absurd HA.out (by simp [aH.l0])
      | succ k2 =>
       have H := HA.out
       clear HA
       simp only [aH.l0] at H
       by_cases c17 : x9_2 < (t335.length : Int)
       ·rw [if_pos c17] at H
        have c17b0 : decide (x9_2 < (t335.length : Int)) = true := decide_eq_true c17
        clear c17
        obtain ⟨ji18, hji18⟩ : ∃ j_ : Int, (wrap64 ((wrap64 ((t330.length : Int) - 1)) - x9_2)) = j_ := ⟨_, rfl⟩
        rw [hji18] at H
        have hji18w : (IntKind.i64.wrap ((wrap64 ((t330.length : Int) - 1)) - x9_2)) = ji18 := (iL _).trans hji18
        obtain ⟨c19b0, H⟩ := eP H
        obtain ⟨c20b0, H⟩ := eP H
        obtain ⟨ji21, hji21⟩ : ∃ j_ : Int, (wrap64 ((wrap64 ((t335.length : Int) - 1)) - x9_2)) = j_ := ⟨_, rfl⟩
        rw [hji21] at H
        have hji21w : (IntKind.i64.wrap ((wrap64 ((t335.length : Int) - 1)) - x9_2)) = ji21 := (iL _).trans hji21
        obtain ⟨c22b0, H⟩ := eP H
        obtain ⟨c23b0, H⟩ := eP H
        by_cases c24 : (dz ByteArray.empty t330 (ji18)).toList = (dz ByteArray.empty t335 (ji21)).toList
        focus
         rw [if_pos c24] at H
         have c24b0 : ((dz ByteArray.empty t330 (ji18)).toList == (dz ByteArray.empty t335 (ji21)).toList) = true := beq_iff_eq.mpr c24
         have c24b1 : ((dz ByteArray.empty t330 (ji18)).toList != (dz ByteArray.empty t335 (ji21)).toList) = false := bne_eq_false_iff_eq.mpr c24
         clear c24
         have H' := ah.mk H
         clear H
        rotate_left
        focus
         rw [if_neg c24] at H
         have c24b0 : ((dz ByteArray.empty t330 (ji18)).toList == (dz ByteArray.empty t335 (ji21)).toList) = false := beq_eq_false_iff_ne.mpr c24
         have c24b1 : ((dz ByteArray.empty t330 (ji18)).toList != (dz ByteArray.empty t335 (ji21)).toList) = true := bne_iff_ne.mpr c24
         obtain rfl := Option.some.inj H
        rotate_left
        all_goals
         obtain ⟨Ao25, co25, eo25⟩ := Kd.bS HO_7.out
         subst eo25
         obtain ⟨Ao26, co26, eo26⟩ := Kd.bS HO_5.out
         subst eo26
         have p339 : 0 ≤ ((ji18) : Int) := of_decide_eq_true (by assumption)
         have q339 : (ji18) < (t330.length : Int) := of_decide_eq_true (by assumption)
         obtain ⟨ad339, e339, hx339_0⟩ := Kd.jH (Kd.aI HO_5.out).2.2 (ji18) p339 q339
         cases e339
         replace p339 := eq_true p339
         replace q339 := eq_true q339
         have p340 : 0 ≤ ((ji21) : Int) := of_decide_eq_true (by assumption)
         have q340 : (ji21) < (t335.length : Int) := of_decide_eq_true (by assumption)
         obtain ⟨ad340, e340, hx340_0⟩ := Kd.jH (Kd.aI HO_7.out).2.2 (ji21) p340 q340
         cases e340
         replace p340 := eq_true p340
         replace q340 := eq_true q340
         go_wp2
         repeat (go_quiet (fail); try go_wp2)
        ·go_roundg k2
         case measure => have := HJ6.out; have := HK2.out; omega
         case rel => exact ⟨(wrap64 (x9_2 + 1)), (by rfl), H', ⟨by have := HJ6.out; have := HK2.out; omega⟩, ⟨by (with_reducible repeat ((apply Kd.lJ))); exact HO_5.out⟩, ⟨by (with_reducible repeat ((apply Kd.lJ))); exact HO_7.out⟩, ⟨by repeat ((with_reducible first | exact HB.out | apply aV))⟩⟩
        ·go_ret
         exact ⟨by rfl, by repeat ((with_reducible first | exact HB.out | apply aV))⟩
       ·rw [if_neg c17] at H
        have c17b0 : decide (x9_2 < (t335.length : Int)) = false := decide_eq_false c17
        clear c17
        obtain rfl := Option.some.inj H
        obtain ⟨Ao29, co29, eo29⟩ := Kd.bS HO_7.out
        subst eo29
        go_wp2
        repeat (go_quiet (fail); try go_wp2)
        go_ret
        exact ⟨by rfl, HB.out⟩
end Go.Y.PRd
namespace Go.Y.dX
open Go.Y.PRd Go.Proofs.aj.aA Go.Proofs.aj.aM Go.Proofs.aj.aN Go.Y.Given Go.Y.Oct Go.Y.Name Go.Y.Cmp
theorem qK {x : Int} (h0 : 0 ≤ x) (h1 : x < 18446744073709551616) : IntKind.u64.wrap x = x := by
 simp only [IntKind.wrap, IntKind.bits, IntKind.signed]; simp; omega
theorem bV {x : Int} (h0 : -9223372036854775808 ≤ x) (h1 : x ≤ 9223372036854775807) : wrap64 x = x := by unfold wrap64; omega
theorem jF (l : List ByteArray) (i : Nat) (h : i < l.length) : dz ByteArray.empty l (i : Int) = l[i] := by
 unfold dz; rw [Int.toNat_natCast, List.getD_eq_getElem?_getD, List.getElem?_eq_getElem h]; rfl
theorem jB (b : ByteArray) (i : Nat) (h : i < b.size) : bt b (i : Int) = ((b.data.toList[i]'(by rw [bR]; exact h)).toNat : Int) := by
 unfold bt
 rw [Int.toNat_natCast, dif_pos h]; rfl
def okR (r : ByteArray) : Bool := decide (iM r (eu r.size r) = fO)
theorem nI {b : ByteArray} {i : Nat} (h : i < b.size) : (b.extract i b.size).data.toList = b.data.toList[i]'(by rw [bR]; exact h) :: b.data.toList.drop (i + 1) := by
 rw [jR]; exact List.drop_eq_getElem_cons _
theorem EU {b : ByteArray} {i : Nat} (h : i < b.size) : beN ((b.extract i b.size).data.toList.take 1) = (b.data.toList[i]'(by rw [bR]; exact h)).toNat := by
 rw [nI h]; simp [beN]
theorem xD {b : ByteArray} {i : Nat} (h : i < b.size) : dZ (b.extract i b.size) 1 = if (b.data.toList[i]'(by rw [bR]; exact h)).toNat ≤ b.size - i - 1 then
  some (b.extract (i + 1) (i + 1 + (b.data.toList[i]'(by rw [bR]; exact h)).toNat), b.extract (i + 1 + (b.data.toList[i]'(by rw [bR]; exact h)).toNat) b.size) else none := by
 unfold dZ
 rw [if_pos (by rw [gy]; omega), EU h, gy]
 split
 ·congr 2
  ·apply fK
   rw [je, je, jR, List.drop_drop]
  ·apply fK
   rw [show b.size - i = (b.extract i b.size).size from (gy b i).symm, jR, jR, jR, List.drop_drop, Nat.add_assoc]
 ·rfl
theorem FT {b : ByteArray} {i : Nat} (h : i < b.size) : b.extract i b.size = fO ↔ ((b.data.toList[i]'(by rw [bR]; exact h)).toNat = 0 ∧ i + 1 = b.size) := by
 constructor
 ·intro e
  have h1 := congrArg (fun x => x.data.toList) e
  have h2 := congrArg ByteArray.size e
  rw [gy, show fO.size = 1 from rfl] at h2
  simp only [nI h] at h1
  have : b.data.toList[i]'(by rw [bR]; exact h) = 0 := by
   have h3 : fO.data.toList = [0] := rfl
   rw [h3] at h1
   exact (List.cons.inj h1).1
  exact ⟨by rw [this]; rfl, by omega⟩
 ·rintro ⟨h1, h2⟩
  apply fK
  rw [nI h, List.drop_of_length_le (by rw [bR]; omega)]
  have : b.data.toList[i]'(by rw [bR]; exact h) = 0 := UInt8.toNat_inj.mp (by rw [h1]; rfl)
  rw [this]; rfl
theorem vo (b : ByteArray) (hb : b.size ≤ 255) : ∀ (d i k : Nat) (acc : List ByteArray), b.size - i ≤ d → i ≤ b.size → 2 * d + 3 ≤ k → acc.length + d ≤ 100000 →
  ∃ l, aJ.l0 k b acc (i : Int) = some (l, okR (b.extract i b.size)) ∧ (okR (b.extract i b.size) = true → l = acc ++ (eu (b.extract i b.size).size (b.extract i b.size)).map (·.1)) := by
 intro d
 induction d with
 | zero =>
  intro i k acc hd hi hk ha
  obtain rfl : i = b.size := by omega
  obtain ⟨k, rfl⟩ : ∃ j, k = j + 2 := ⟨k - 2, by omega⟩
  have hz : (b.extract b.size b.size).size = 0 := by rw [gy]; omega
  have hn : okR (b.extract b.size b.size) = false := by
   unfold okR
   rw [hz]
   exact decide_eq_false (fun h => by have := congrArg ByteArray.size (show b.extract b.size b.size = fO from h); rw [hz] at this; exact absurd this (by decide))
  rw [hn, aJ.l0, if_neg (by omega), aJ.j1, if_neg (by decide), if_neg (by rw [bV (by omega) (by omega)]; omega)]
  exact ⟨_, rfl, fun h => absurd h (by decide)⟩
 | succ d ih =>
  intro i k acc hd hi hk ha
  obtain ⟨k, rfl⟩ : ∃ j, k = j + 2 := ⟨k - 2, by omega⟩
  by_cases hlt : i < b.size
  ·have hbt := jB b i hlt
   have hcut := xD hlt
   have hroot := FT hlt
   have hc := UInt8.toNat_lt (b.data.toList[i]'(by rw [bR]; exact hlt))
   generalize (b.data.toList[i]'(by rw [bR]; exact hlt)).toNat = m at hbt hcut hroot hc
   have hsz : (b.extract i b.size).size = b.size - i := gy b i
   rw [aJ.l0, if_pos (by omega), if_pos (by omega), hbt]
   have stop : ∀ (_ : eu (b.extract i b.size).size (b.extract i b.size) = []) (_ : ¬ b.extract i b.size = fO), okR (b.extract i b.size) = false := fun h h' => by
    unfold okR; rw [h]; exact decide_eq_false h'
   by_cases h0 : m = 0
   ·rw [decide_eq_false (by omega), aJ.j1, if_neg (by decide), hbt, bV (by omega) (by omega)]
    by_cases hend : i + 1 = b.size
    ·have hr := hroot.mpr ⟨h0, hend⟩
     have hok : okR (b.extract i b.size) = true := by unfold okR; rw [hr]; rfl
     rw [if_pos (by omega), if_pos (by omega), if_pos (by omega), hok]
     refine ⟨acc, by rw [h0]; rfl, fun _ => ?_⟩
     rw [qL hr]; simp
    ·have hr : ¬ b.extract i b.size = fO := fun h => hend (hroot.mp h).2
     rw [if_pos (by omega)] at hcut
     have hl := nV hcut (.inl (by rw [ByteArray.size_extract]; omega))
     rw [stop hl hr, if_neg (by omega)]
     exact ⟨_, rfl, fun h => absurd h (by decide)⟩
   ·have hr : ¬ b.extract i b.size = fO := fun h => h0 (hroot.mp h).1
    rw [decide_eq_true (by omega), aJ.j1, if_pos rfl, if_pos (by omega), if_pos (by omega), hbt, bV (x := (m : Int)) (by omega) (by omega), bV (x := (i : Int) + 1) (by omega) (by omega), bV (x := (i : Int) + 1 + (m : Int)) (by omega) (by omega), bV (x := 1 + (m : Int)) (by omega) (by omega), bV (x := (i : Int) + (1 + (m : Int))) (by omega) (by omega)]
    by_cases h63 : m > 63
    ·have hl : eu (b.extract i b.size).size (b.extract i b.size) = [] := by
      by_cases hle : m ≤ b.size - i - 1
      ·rw [if_pos hle] at hcut
       exact nV hcut (.inr (by rw [ByteArray.size_extract]; omega))
      ·rw [if_neg hle] at hcut
       exact oh hcut
     rw [if_pos (by omega), stop hl hr]
     exact ⟨_, rfl, fun h => absurd h (by decide)⟩
    ·rw [if_neg (by omega)]
     by_cases hle : m ≤ b.size - i - 1
     ·rw [if_pos hle] at hcut
      have hsz2 : (b.extract (i + 1) (i + 1 + m)).size = m := by rw [ByteArray.size_extract]; omega
      have hl := ow hr hcut (by rw [hsz2]; omega)
      rw [if_neg (by omega), if_pos (by omega), if_pos (by omega), if_pos (by omega), if_pos (by omega)]
      rw [show ((i : Int) + 1).toNat = i + 1 from by omega, show ((i : Int) + 1 + (m : Int)).toNat = i + 1 + m from by omega, show (i : Int) + (1 + (m : Int)) = ((i + 1 + m : Nat) : Int) from by omega]
      obtain ⟨l, e1, e2⟩ := ih (i + 1 + m) k (acc ++ [b.extract (i + 1) (i + 1 + m)]) (by omega) (by omega) (by omega) (by simp; omega)
      have hok : okR (b.extract i b.size) = okR (b.extract (i + 1 + m) b.size) := by
       unfold okR
       rw [hl]
       congr 2
       unfold iM
       cases hq : eu (b.extract (i + 1 + m) b.size).size (b.extract (i + 1 + m) b.size) with
       | nil => rfl
       | cons y t => rw [List.getLast?_cons_cons]; simp [List.getLast?_cons]
      rw [hok]
      refine ⟨l, e1, fun h => ?_⟩
      rw [e2 h, hl]
      simp
     ·rw [if_neg hle] at hcut
      rw [if_pos (by omega), stop (oh hcut) hr]
      exact ⟨_, rfl, fun h => absurd h (by decide)⟩
  ·obtain rfl : i = b.size := by omega
   exact ih b.size (k + 2) acc (by omega) (by omega) (by omega) (by omega)
theorem FX (n : ByteArray) : bB n = (decide (n.size ≤ 255) && okR n) := by
 unfold bB okR
 congr 1
 by_cases h : iM n (eu n.size n) = fO
 ·rw [h]; simp [ByteArray.toList_eq]; rfl
 ·rw [decide_eq_false h]
  exact sH h
theorem jC (b : ByteArray) : b.extract 0 b.size = b := by apply fK; rw [jR]; rfl
theorem qb (n : ByteArray) (k : Nat) (hn : bB n = false) (hk : 600 ≤ k) : ∃ l, aJ.f k n = some (l, false) := by
 unfold aJ.f
 by_cases h : (n.size : Int) > 255
 ·rw [if_pos h]; exact ⟨_, rfl⟩
 ·rw [if_neg h]
  obtain ⟨l, e1, _⟩ := vo n (by omega) n.size 0 k [] (by omega) (by omega) (by omega) (by simp; omega)
  rw [jC] at e1
  rw [FX, decide_eq_true (by omega), Bool.true_and] at hn
  rw [hn] at e1
  exact ⟨l, e1⟩
theorem kU (l : List ByteArray) (k : Nat) (hg : good l) (hs : (bF l).size ≤ 255) (hk : 600 ≤ k) : aJ.f k (bF l) = some (l, true) := by
 unfold aJ.f
 rw [if_neg (by omega)]
 obtain ⟨m, e1, e2⟩ := vo (bF l) hs (bF l).size 0 k [] (by omega) (by omega) (by omega) (by simp; omega)
 rw [jC] at e1 e2
 have hok : okR (bF l) = true := by unfold okR; exact decide_eq_true (yV l hg)
 rw [hok] at e1
 have := e2 hok
 rw [List.nil_append, kH l hg, nk] at this
 rw [this] at e1; exact e1
theorem zJ (n : ByteArray) (k : Nat) (hk : 600 ≤ k) : dN.f k n = some (bB n) := by
 unfold dN.f
 cases h : bB n with
 | false =>
  obtain ⟨l, e⟩ := qb n k h hk
  rw [e]; rfl
 | true =>
  obtain ⟨l, hg, rfl, hs⟩ := (jS n).mp h
  rw [kU l k hg hs hk]; rfl
theorem jy (n : ByteArray) : bX.f n = some (bB n) := rfl
theorem rC (l : List ByteArray) (hg : good l) (hs : (bF l).size ≤ 255) : iA.f (bF l) = some (l, 0) := by
 unfold iA.f
 rw [jX hg hs, if_pos rfl, kH l hg, nk]
theorem sU (l : List ByteArray) (hg : good l) (hs : (bF l).size ≤ 255) : kg.f (bF l) = some (match l with | [] => (⟨#[]⟩, false) | _ :: t => (bF t, true)) := by
 unfold kg.f nO
 rw [jX hg hs, if_pos rfl, kH l hg]
 cases l <;> rfl
theorem iR (l : List ByteArray) (hg : good l) (hs : (bF l).size ≤ 255) : fU.f (bF l) = some (bF (l.map dP)) := by
 unfold fU.f fP.f
 rw [jy, jX hg hs, Option.bind_some, if_pos rfl, if_pos (by omega), oC l hg]; rfl
theorem kD (n : ByteArray) (h : bB n = false) : fU.f n = some ⟨#[]⟩ := by
 unfold fU.f
 rw [jy, h, Option.bind_some, if_neg (by decide)]
theorem su (l m : List ByteArray) (hl : good l) (hm : good m) (sl : (bF l).size ≤ 255) (sm : (bF m).size ≤ 255) : dx.f (bF l) (bF m) = some (decide (l.map dP = m.map dP)) := by
 unfold dx.f fP.f
 rw [jy, jy, jX hl sl, jX hm sm, Option.bind_some, if_pos rfl, Option.bind_some, if_pos rfl, if_pos (by omega), if_pos (by omega), Option.bind_some, Option.bind_some, oC l hl, oC m hm]
 congr 1
 by_cases h : l.map dP = m.map dP
 ·rw [h]; simp
 ·rw [decide_eq_false h, beq_eq_false_iff_ne]
  intro e
  exact h (Fv (lC hl) (lC hm) (toList_inj.mp e))
def lN : List ByteArray → ByteArray
 | [] => ⟨#[]⟩
 | s :: l => jk 1 s ++ lN l
theorem Ik (b : ByteArray) : b ++ (⟨#[]⟩ : ByteArray) = b := by apply fK; rw [gZ]; simp
theorem Am (b : ByteArray) : (⟨#[]⟩ : ByteArray) ++ b = b := by apply fK; rw [gZ]; simp
theorem wU (a b c : ByteArray) : a ++ b ++ c = a ++ (b ++ c) := by apply fK; rw [gZ, gZ, gZ, gZ, List.append_assoc]
theorem xI : ∀ l, bF l = lN l ++ (⟨#[0]⟩ : ByteArray)
 | [] => by rw [lN, Am]; rfl
 | s :: l => by rw [bF, lN, xI l, wU]
theorem yC : ∀ l s, lN (l ++ [s]) = lN l ++ jk 1 s
 | [], s => by
  show jk 1 s ++ (⟨#[]⟩ : ByteArray) = (⟨#[]⟩ : ByteArray) ++ jk 1 s
  rw [Ik, Am]
 | t :: l, s => by rw [List.cons_append, lN, lN, yC l s, wU]
theorem Fx (l : List ByteArray) (i : Nat) (h : i < l.length) : lN (l.take (i + 1)) = lN (l.take i) ++ jk 1 l[i] := by
 rw [List.take_succ_eq_append_getElem h, yC]
theorem pV : ∀ (l : List ByteArray), (∀ s ∈ l, s.size ≤ 63) → (lN l).size ≤ 64 * l.length
 | [], _ => Nat.le_refl _
 | s :: l, h => by
  have h1 := h s (by simp)
  have h2 := pV l (fun t ht => h t (by simp [ht]))
  rw [lN, ByteArray.size_append, oM, List.length_cons]; omega
theorem rW (a b : UInt8) (x y : List UInt8) : Op.bytesLess (a :: x) (b :: y) = true ↔ a.toNat < b.toNat ∨ (a = b ∧ Op.bytesLess x y = true) := by
 rw [Op.bytesLess, Bool.or_eq_true, Bool.and_eq_true, beq_iff_eq, decide_eq_true_iff, UInt8.lt_iff_toNat_lt]
theorem og : ∀ x : List UInt8, Op.bytesLess x x = false
 | [] => rfl
 | a :: x => by
  cases h : Op.bytesLess (a :: x) (a :: x) with
  | false => rfl
  | true =>
   rcases (rW a a x x).mp h with h1 | ⟨_, h1⟩
   ·omega
   ·rw [og x] at h1; exact absurd h1 (by decide)
theorem tC : ∀ x y z : List UInt8, Op.bytesLess x y = true → Op.bytesLess y z = true → Op.bytesLess x z = true
 | _, _, [], _, h => by rw [Op.bytesLess] at h; exact absurd h (by decide)
 | [], _, _ :: _, _, _ => rfl
 | a :: x, [], _ :: _, h, _ => by rw [Op.bytesLess] at h; exact absurd h (by decide)
 | a :: x, b :: y, c :: z, h1, h2 => by
  rw [rW] at h1 h2 ⊢
  rcases h1 with h1 | ⟨rfl, h1⟩
  ·rcases h2 with h2 | ⟨rfl, h2⟩
   ·exact .inl (by omega)
   ·exact .inl h1
  ·rcases h2 with h2 | ⟨rfl, h2⟩
   ·exact .inl h2
   ·exact .inr ⟨rfl, tC x y z h1 h2⟩
theorem DX : ∀ x y : List UInt8, Op.bytesLess x y = false → Op.bytesLess y x = false → x = y
 | [], [], _, _ => rfl
 | [], _ :: _, h, _ => by rw [Op.bytesLess] at h; exact absurd h (by decide)
 | _ :: _, [], _, h => by rw [Op.bytesLess] at h; exact absurd h (by decide)
 | a :: x, b :: y, h1, h2 => by
  have n1 : ¬ (a.toNat < b.toNat ∨ (a = b ∧ Op.bytesLess x y = true)) := fun h => by rw [(rW a b x y).mpr h] at h1; exact absurd h1 (by decide)
  have n2 : ¬ (b.toNat < a.toNat ∨ (b = a ∧ Op.bytesLess y x = true)) := fun h => by rw [(rW b a y x).mpr h] at h2; exact absurd h2 (by decide)
  have e : a = b := UInt8.toNat_inj.mp (by
   have : ¬ a.toNat < b.toNat := fun h => n1 (.inl h)
   have : ¬ b.toNat < a.toNat := fun h => n2 (.inl h)
   omega)
  subst e
  rw [DX x y (by cases h : Op.bytesLess x y with | false => rfl | true => exact absurd (.inr ⟨rfl, h⟩) n1) (by cases h : Op.bytesLess y x with | false => rfl | true => exact absurd (.inr ⟨rfl, h⟩) n2)]
theorem FY (x y : List UInt8) (h : Op.bytesLess x y = true) : Op.bytesLess y x = false := by
 cases h' : Op.bytesLess y x with
 | false => rfl
 | true => rw [← og x, tC x y x h h']
structure Ord {α : Type} (c : α → α → Int) : Prop where
 vals : ∀ a b, c a b = -1 ∨ c a b = 0 ∨ c a b = 1
 flip : ∀ a b, c b a = - c a b
 zero : ∀ a b, c a b = 0 → a = b
 self : ∀ a, c a a = 0
 trans : ∀ a b d, c a b < 0 → c b d < 0 → c a d < 0
theorem Ord.le_trans {α : Type} {c : α → α → Int} (O : Ord c) {a b d : α} (h1 : c a b ≤ 0) (h2 : c b d ≤ 0) : c a d ≤ 0 ∧ (c a d = 0 → c a b = 0 ∧ c b d = 0) := by
 by_cases e1 : c a b = 0
 ·obtain rfl := O.zero _ _ e1
  exact ⟨h2, fun h => ⟨e1, h⟩⟩
 ·by_cases e2 : c b d = 0
  ·obtain rfl := O.zero _ _ e2
   exact ⟨h1, fun h => ⟨h, e2⟩⟩
  ·have := O.trans a b d (by omega) (by omega)
   exact ⟨by omega, fun h => by omega⟩
theorem pY (a : List UInt8) : jw a a = 0 := by
 unfold jw; rw [og, if_neg (by decide), if_pos (by simp)]
theorem ze {a b : List UInt8} (h : Op.bytesLess a b = true) : jw a b = -1 := by unfold jw; rw [if_pos h]
theorem CW {a b : List UInt8} (h : Op.bytesLess b a = true) : jw a b = 1 := by
 unfold jw
 rw [FY b a h, if_neg (by decide), if_neg]
 intro e
 rw [beq_iff_eq.mp e, og] at h; exact absurd h (by decide)
theorem mY (a b : List UInt8) : (Op.bytesLess a b = true ∧ jw a b = -1) ∨ (a = b ∧ jw a b = 0) ∨ (Op.bytesLess b a = true ∧ jw a b = 1) := by
 cases h1 : Op.bytesLess a b with
 | true => exact .inl ⟨rfl, ze h1⟩
 | false =>
  cases h2 : Op.bytesLess b a with
  | true => exact .inr (.inr ⟨rfl, CW h2⟩)
  | false =>
   obtain rfl := DX a b h1 h2
   exact .inr (.inl ⟨rfl, pY a⟩)
theorem mF : Ord jw where
 vals a b := by rcases mY a b with h | h | h <;> omega
 flip a b := by
  rcases mY a b with ⟨h, e⟩ | ⟨h, e⟩ | ⟨h, e⟩
  ·rw [e, CW h]; rfl
  ·rw [e, h, pY]; rfl
  ·rw [e, ze h]
 zero a b h := by rcases mY a b with ⟨_, e⟩ | ⟨k, e⟩ | ⟨_, e⟩ <;> first | exact k | omega
 self := pY
 trans a b d h1 h2 := by
  rcases mY a b with ⟨k1, e⟩ | ⟨_, e⟩ | ⟨_, e⟩ <;> try omega
  rcases mY b d with ⟨k2, e'⟩ | ⟨_, e'⟩ | ⟨_, e'⟩ <;> try omega
  rw [ze (tC _ _ _ k1 k2)]; omega
def cmpL : List ByteArray → List ByteArray → Int
 | [], [] => 0
 | [], _ :: _ => -1
 | _ :: _, [] => 1
 | a :: x, b :: y => if jw a.toList b.toList = 0 then cmpL x y else jw a.toList b.toList
theorem xL : ∀ x, cmpL x x = 0
 | [] => rfl
 | a :: x => by rw [cmpL, pY, if_pos rfl, xL x]
theorem wY : ∀ x y, cmpL x y = -1 ∨ cmpL x y = 0 ∨ cmpL x y = 1
 | [], [] => .inr (.inl rfl)
 | [], _ :: _ => .inl rfl
 | _ :: _, [] => .inr (.inr rfl)
 | a :: x, b :: y => by
  rw [cmpL]; split
  ·exact wY x y
  ·exact mF.vals _ _
theorem wW : ∀ x y, cmpL y x = - cmpL x y
 | [], [] => rfl
 | [], _ :: _ => rfl
 | _ :: _, [] => rfl
 | a :: x, b :: y => by
  rw [cmpL, cmpL, mF.flip a.toList b.toList]
  by_cases h : jw a.toList b.toList = 0
  ·rw [if_pos (by omega), if_pos h, wW x y]
  ·rw [if_neg (by omega), if_neg h]
theorem rP : ∀ x y, cmpL x y = 0 → x = y
 | [], [], _ => rfl
 | [], _ :: _, h => by rw [cmpL] at h; omega
 | _ :: _, [], h => by rw [cmpL] at h; omega
 | a :: x, b :: y, h => by
  rw [cmpL] at h
  by_cases h0 : jw a.toList b.toList = 0
  ·rw [if_pos h0] at h
   rw [toList_inj.mp (mF.zero _ _ h0), rP x y h]
  ·rw [if_neg h0] at h; exact absurd h h0
theorem vw : ∀ x y z, cmpL x y < 0 → cmpL y z < 0 → cmpL x z < 0
 | [], [], _, h, _ => by rw [cmpL] at h; omega
 | _ :: _, [], _, h, _ => by rw [cmpL] at h; omega
 | _, _ :: _, [], _, h => by rw [cmpL] at h; omega
 | [], _ :: _, _ :: _, _, _ => by rw [cmpL]; omega
 | a :: x, b :: y, c :: z, h1, h2 => by
  rw [cmpL] at h1 h2 ⊢
  by_cases e1 : jw a.toList b.toList = 0
  ·rw [if_pos e1] at h1
   have ea := mF.zero _ _ e1
   rw [ea]
   by_cases e2 : jw b.toList c.toList = 0
   ·rw [if_pos e2] at h2 ⊢
    exact vw x y z h1 h2
   ·rw [if_neg e2] at h2 ⊢; exact h2
  ·rw [if_neg e1] at h1
   by_cases e2 : jw b.toList c.toList = 0
   ·rw [← mF.zero _ _ e2, if_neg e1]; exact h1
   ·rw [if_neg e2] at h2
    have := mF.trans _ _ _ h1 h2
    rw [if_neg (by omega)]; exact this
theorem mq : Ord cmpL := ⟨wY, wW, rP, xL, vw⟩
theorem Jh (x y : List ByteArray) (hx : x.length ≤ 1000000) (hy : y.length ≤ 1000000) : ∀ (d i k : Nat), i + d = x.length → d < k → i ≤ y.length → bM.l0 k x y x (x.length : Int) (i : Int) = some (cmpL (x.drop i) (y.drop i)) := by
 intro d
 induction d with
 | zero =>
  intro i k hi hk hiy
  obtain ⟨k, rfl⟩ : ∃ j, k = j + 1 := ⟨k - 1, by omega⟩
  rw [bM.l0, if_neg (by omega), List.drop_of_length_le (by omega : x.length ≤ i)]
  by_cases h : i = y.length
  ·rw [if_neg (by omega), List.drop_of_length_le (by omega)]; rfl
  ·rw [if_pos (by omega), List.drop_eq_getElem_cons (by omega : i < y.length)]; rfl
 | succ d ih =>
  intro i k hi hk hiy
  obtain ⟨k, rfl⟩ : ∃ j, k = j + 1 := ⟨k - 1, by omega⟩
  have hix : i < x.length := by omega
  rw [bM.l0, if_pos (by omega), if_pos (by omega), if_pos (by omega), List.drop_eq_getElem_cons hix]
  by_cases h : i < y.length
  ·rw [if_neg (by omega), if_pos (by omega), jF x i hix, jF y i h, List.drop_eq_getElem_cons h, cmpL]
   show (if jw _ _ = 0 then _ else _) = _
   by_cases h0 : jw x[i].toList y[i].toList = 0
   ·rw [if_pos h0, if_pos h0, bV (by omega) (by omega)]
    exact ih (i + 1) k (by omega) (by omega) (by omega)
   ·rw [if_neg h0, if_neg h0]
  ·rw [if_pos (by omega), List.drop_of_length_le (by omega : y.length ≤ i)]; rfl
theorem Jz (x y : List ByteArray) (k : Nat) (hx : x.length ≤ 1000000) (hy : y.length ≤ 1000000) (hk : x.length < k) : bM.f k x y = some (cmpL x y) :=
 Jh x y hx hy x.length 0 k (by omega) hk (by omega)
theorem rev_at (x : List ByteArray) (hx : x.length ≤ 1000000) : ∀ (d i k : Nat) (y : List ByteArray), y.length = x.length → 2 * i + d = x.length + 1 → d + 1 ≤ k →
  (∀ p, p < x.length → y[p]? = if p < i ∨ x.length - i ≤ p then x[x.length - 1 - p]? else x[p]?) →
  aK.l0 k y (i : Int) ((x.length : Int) - 1 - (i : Int)) = some x.reverse := by
 intro d
 induction d using Nat.strongRecOn with
 | _ d ih =>
  intro i k y hy hd hk hp
  obtain ⟨k, rfl⟩ : ∃ j, k = j + 1 := ⟨k - 1, by omega⟩
  rw [aK.l0]
  by_cases h : (i : Int) < (x.length : Int) - 1 - (i : Int)
  ·rw [if_pos h, if_pos (by omega), if_pos (by omega), if_pos (by omega), if_pos (by omega)]
   rw [bV (by omega) (by omega), bV (by omega) (by omega)]
   obtain ⟨j, hj⟩ : ∃ j : Nat, (x.length : Int) - 1 - (i : Int) = (j : Int) := ⟨x.length - 1 - i, by omega⟩
   have hjn : j = x.length - 1 - i := by omega
   rw [hj, show (j : Int) - 1 = (x.length : Int) - 1 - ((i + 1 : Nat) : Int) from by omega, Int.toNat_natCast, Int.toNat_natCast]
   obtain ⟨e, rfl⟩ : ∃ e, d = e + 2 := ⟨d - 2, by omega⟩
   have ri : dz ByteArray.empty y (i : Int) = y[i] := jF y i (by omega)
   have rj : dz ByteArray.empty y (j : Int) = y[j] := jF y j (by omega)
   rw [ri, rj]
   refine ih e (by omega) (i + 1) k _ (by simp [hy]) (by omega) (by omega) ?_
   intro p hpx
   have hpi := hp i (by omega)
   have hpj := hp j (by omega)
   rw [if_neg (by omega), List.getElem?_eq_getElem (by omega : i < y.length)] at hpi
   rw [if_neg (by omega), List.getElem?_eq_getElem (by omega : j < y.length)] at hpj
   rw [List.getElem?_set, List.getElem?_set]
   by_cases c1 : j = p
   ·rw [if_pos c1, if_pos (by simp [hy]; omega), if_pos (by omega), hpi]
    congr 1; omega
   ·rw [if_neg c1]
    by_cases c2 : i = p
    ·rw [if_pos c2, if_pos (by omega), if_pos (by omega), hpj]
     congr 1; omega
    ·rw [if_neg c2, hp p hpx]
     by_cases c3 : p < i ∨ x.length - i ≤ p
     ·rw [if_pos c3, if_pos (by omega)]
     ·rw [if_neg c3, if_neg (by omega)]
  ·rw [if_neg h]
   congr 1
   apply List.ext_getElem?
   intro p
   by_cases hpx : p < x.length
   ·rw [hp p hpx, List.getElem?_reverse hpx]
    by_cases c3 : p < i ∨ x.length - i ≤ p
    ·rw [if_pos c3]
    ·rw [if_neg c3]; congr 1; omega
   ·rw [List.getElem?_eq_none (by omega), List.getElem?_eq_none (by simp; omega)]
theorem Ht (x : List ByteArray) (k : Nat) (hx : x.length ≤ 1000000) (hk : x.length + 2 ≤ k) : aK.f k x = some x.reverse := by
 unfold aK.f
 rw [bV (by omega) (by omega)]
 have := rev_at x hx (x.length + 1) 0 k x rfl (by omega) (by omega) (by intro p hp; rw [if_neg (by omega)])
 rw [show ((0 : Nat) : Int) = 0 from rfl, Int.sub_zero] at this
 exact this
def Kr (l m : List ByteArray) : Int := cmpL (l.map dP).reverse (m.map dP).reverse
theorem wH (l m : List ByteArray) (hl : good l) (hm : good m) (sl : (bF l).size ≤ 255) (sm : (bF m).size ≤ 255) (k : Nat) (hk : 300 ≤ k) : dI.f k (bF l) (bF m) = some (Kr l m) := by
 have nl := lu l hl
 have nm := lu m hm
 unfold dI.f
 rw [iR l hl sl, Option.bind_some, rC _ (lC hl) (by rw [size_map]; exact sl), Option.bind_some, iR m hm sm, Option.bind_some, rC _ (lC hm) (by rw [size_map]; exact sm), Option.bind_some, if_pos rfl]
 obtain ⟨k, rfl⟩ : ∃ j, k = j + 1 := ⟨k - 1, by omega⟩
 rw [dI.j0, if_neg (by show ¬ false = true; decide), Ht _ k (by rw [List.length_map]; omega) (by rw [List.length_map]; omega), Option.bind_some, Ht _ k (by rw [List.length_map]; omega) (by rw [List.length_map]; omega), Option.bind_some, Jz _ _ k (by simp; omega) (by simp; omega) (by simp; omega)]
 rfl
def kW (m : List ByteArray) : List ByteArray → Bool
 | [] => decide (([] : List ByteArray).map dP = m.map dP)
 | s :: t => decide ((s :: t).map dP = m.map dP) || kW m t
theorem yG (m : List ByteArray) (hm : good m) (sm : (bF m).size ≤ 255) : ∀ (l : List ByteArray) (k : Nat), good l → (bF l).size ≤ 255 → l.length + 3 ≤ k → bf.l0 k (bF l) (bF m) true = some (kW m l)
 | [], k, hl, sl, hk => by
  obtain ⟨k, rfl⟩ : ∃ j, k = j + 2 := ⟨k - 2, by omega⟩
  rw [bf.l0, if_pos rfl, su [] m hl hm sl sm, Option.bind_some, sU [] hl sl, Option.bind_some]
  show (if decide (([] : List ByteArray).map dP = m.map dP) = true then _ else bf.l0 (k + 1) ⟨#[]⟩ (bF m) false) = _
  rw [bf.l0, if_neg (by decide : ¬ false = true), kW]
  cases decide (([] : List ByteArray).map dP = m.map dP) <;> simp
 | s :: t, k, hl, sl, hk => by
  obtain ⟨k, rfl⟩ : ∃ j, k = j + 1 := ⟨k - 1, by omega⟩
  have st := lM s t
  rw [bf.l0, if_pos rfl, su (s :: t) m hl hm sl sm, Option.bind_some, sU (s :: t) hl sl, Option.bind_some]
  show (if _ then _ else bf.l0 k (bF t) (bF m) true) = _
  rw [yG m hm sm t k (fun s h => hl s (by simp [h])) (by omega) (by rw [List.length_cons] at hk; omega), kW]
  cases h : decide ((s :: t).map dP = m.map dP) <;> simp
theorem vJ (l m : List ByteArray) (hl : good l) (hm : good m) (sl : (bF l).size ≤ 255) (sm : (bF m).size ≤ 255) (k : Nat) (hk : 300 ≤ k) : bf.f k (bF l) (bF m) = some (kW m l) := by
 have nl := lu l hl
 unfold bf.f
 rw [jy, jX hl sl, Option.bind_some, if_pos rfl, jy, jX hm sm, Option.bind_some]
 obtain ⟨k, rfl⟩ : ∃ j, k = j + 1 := ⟨k - 1, by omega⟩
 rw [bf.j0, if_neg (by decide)]
 exact yG m hm sm l k hl sl (by omega)
theorem FP (s : ByteArray) (hs : s.size ≤ 1000000) : ∀ (d i k : Nat) (acc : List UInt8), i + d = s.size → d < k → acc.length + d ≤ 1000000 →
  bN.l0 k s (iZ acc) (i : Int) = some (arr (acc ++ (s.data.toList.drop i).map low)) := by
 intro d
 induction d with
 | zero =>
  intro i k acc hi hk ha
  obtain ⟨k, rfl⟩ : ∃ j, k = j + 1 := ⟨k - 1, by omega⟩
  rw [bN.l0, if_neg (by omega), List.drop_of_length_le (by rw [bR]; omega), qY, List.map_nil, List.append_nil]
 | succ d ih =>
  intro i k acc hi hk ha
  obtain ⟨k, rfl⟩ : ∃ j, k = j + 1 := ⟨k - 1, by omega⟩
  have hlt : i < s.size := by omega
  rw [bN.l0, if_pos (by omega), if_pos (by omega), jB s i hlt, List.drop_eq_getElem_cons (by rw [bR]; exact hlt), List.map_cons]
  generalize s.data.toList[i]'(by rw [bR]; exact hlt) = c
  have hc := UInt8.toNat_lt c
  have step : ∀ x : UInt8, x = low c → ([(x.toNat : Int)] : List Int) = iZ [low c] := by intro x h; rw [h]; rfl
  have fin := ih (i + 1) k (acc ++ [low c]) (by omega) (by omega) (by simp; omega)
  rw [List.append_assoc, List.singleton_append] at fin
  have hlen : (iZ acc).length < 140737488355328 := by rw [Ey]; omega
  by_cases h1 : 65 ≤ c.toNat
  ·by_cases h2 : c.toNat ≤ 90
   ·have e : (low c).toNat = c.toNat + 32 := by
     have : low c = UInt8.ofNat (c.toNat + 32) := by unfold low; rw [if_pos ⟨h1, h2⟩]
     rw [this, UInt8.toNat_ofNat']; omega
    have e2 : ([((c.toNat : Int) + 32) % 256] : List Int) = iZ [low c] := by
     show _ = [((low c).toNat : Int)]
     rw [e]; congr 1; omega
    rw [if_pos (by omega), if_pos (by omega), if_pos hlen, e2, ← qZ, bV (by omega) (by omega)]
    exact fin
   ·have e : low c = c := by unfold low; rw [if_neg (by omega)]
    rw [if_pos (by omega), if_neg (by omega), if_pos hlen, step c e.symm, ← qZ, bV (by omega) (by omega)]
    exact fin
  ·have e : low c = c := by unfold low; rw [if_neg (by omega)]
   rw [if_neg (by omega), if_pos hlen, step c e.symm, ← qZ, bV (by omega) (by omega)]
   exact fin
theorem IU (s : ByteArray) (k : Nat) (hs : s.size ≤ 1000000) (hk : s.size < k) : bN.f k s = some (dP s) := by
 unfold bN.f
 exact FP s hs s.size 0 k [] (by omega) hk (by simp; omega)
theorem Du (s : ByteArray) (hs : s.size ≤ 63) : strOfNums ([(s.size : Int) % 256] : List Int) ++ dP s = jk 1 (dP s) := by
 have e : ([(s.size : Int) % 256] : List Int) = iZ (beB 1 (dP s).size) := by
  rw [kE, beB, beB, List.nil_append]
  simp only [iZ, List.map_cons, List.map_nil, uj]
  congr 1
 rw [e, qY]; rfl
theorem yP (l : List ByteArray) (hl : l.length ≤ 1000) (hs : ∀ s ∈ l, s.size ≤ 63) : ∀ (d i k : Nat), i + d = l.length → d + 100 ≤ k →
  aQ.l0 k l (lN ((l.map dP).take i)) (i : Int) = some (bF (l.map dP)) := by
 have hsz : ∀ i, (lN ((l.map dP).take i)).size ≤ 64 * i := by
  intro i
  have h := pV ((l.map dP).take i) (by
   intro s h
   obtain ⟨t, ht, rfl⟩ := List.mem_map.mp (List.mem_of_mem_take h)
   rw [kE]; exact hs t ht)
  rw [List.length_take] at h
  omega
 intro d
 induction d with
 | zero =>
  intro i k hi hk
  obtain ⟨k, rfl⟩ : ∃ j, k = j + 1 := ⟨k - 1, by omega⟩
  have := hsz i
  rw [aQ.l0, if_neg (by omega), if_pos (by omega), List.take_of_length_le (by rw [List.length_map]; omega), xI]
 | succ d ih =>
  intro i k hi hk
  obtain ⟨k, rfl⟩ : ∃ j, k = j + 1 := ⟨k - 1, by omega⟩
  have hil : i < l.length := by omega
  have h63 := hs _ (List.getElem_mem hil)
  have h1 := hsz i
  have hp := Du l[i] h63
  have hp2 : (strOfNums ([(l[i].size : Int) % 256] : List Int)).size + (dP l[i]).size = (jk 1 (dP l[i])).size := by rw [← hp, ByteArray.size_append]
  have hps := oM (dP l[i])
  rw [kE] at hps
  rw [aQ.l0, if_pos (by omega), if_pos (by omega), jF l i hil, Option.bind_some, IU _ k (by omega) (by omega), Option.bind_some, hp2, hp, if_pos (by omega), if_pos (by omega), bV (by omega) (by omega)]
  have h2 := ih (i + 1) k (by omega) (by omega)
  rw [Fx (l.map dP) i (by rw [List.length_map]; exact hil), List.getElem_map] at h2
  exact h2
theorem jP (l : List ByteArray) (hg : good l) (sl : (bF l).size ≤ 255) (k : Nat) (hk : 700 ≤ k) : aQ.f k (bF l) = some (bF (l.map dP)) := by
 have ll := lu l hg
 unfold aQ.f
 rw [kU l k hg sl (by omega), Option.bind_some, if_pos rfl]
 exact yP l (by omega) (fun s h => (hg s h).2) l.length 0 k (by omega) (by omega)
theorem mJ (n : ByteArray) (h : bB n = false) (k : Nat) (hk : 700 ≤ k) : aQ.f k n = some ⟨#[]⟩ := by
 unfold aQ.f
 obtain ⟨l, e⟩ := qb n k h (by omega)
 rw [e, Option.bind_some, if_neg (by decide : ¬ false = true)]
theorem EL : bB ⟨#[]⟩ = false := by kernel_rfl
theorem Fp (a b : ByteArray) (h : bB a = false ∨ bB b = false) : dx.f a b = some false := by
 unfold dx.f
 rw [jy, Option.bind_some]
 cases ha : bB a with
 | false => rw [if_neg (by decide)]
 | true =>
  rw [if_pos rfl, jy, Option.bind_some, if_neg (by rcases h with h | h <;> simp_all)]
theorem Al (n : ByteArray) (k : Nat) (hk : 700 ≤ k) : ∃ f, aQ.f k n = some f ∧ ∃ l ok, aJ.f k f = some (l, ok) ∧ (bB n = false → ok = false) := by
 cases hn : bB n with
 | false =>
  obtain ⟨l, e⟩ := qb ⟨#[]⟩ k EL (by omega)
  exact ⟨_, mJ n hn k hk, _, _, e, fun _ => rfl⟩
 | true =>
  obtain ⟨l, hg, rfl, hs⟩ := (jS n).mp hn
  exact ⟨_, jP l hg hs k hk, _, _, kU _ k (lC hg) (by rw [size_map]; exact hs) (by omega), fun h => absurd h (by decide)⟩
theorem qU (m : List ByteArray) : ∀ l, kW m l = decide (m.map dP <:+ l.map dP)
 | [] => by
  rw [kW]; apply decide_eq_decide.2
  rw [List.map_nil, List.suffix_nil]; exact eq_comm
 | s :: t => by
  rw [kW, qU m t, ← Bool.decide_or]
  apply decide_eq_decide.2
  rw [List.map_cons, List.suffix_cons_iff]
  exact or_congr eq_comm Iff.rfl
theorem Ay (x : List ByteArray) (i : Nat) (h : i < x.length) (hx : x.length ≤ 1000) : dz ByteArray.empty x (wrap64 ((wrap64 ((x.length : Int) - 1)) - (i : Int))) = x.reverse[i]'(by rw [List.length_reverse]; exact h) := by
 rw [bV (x := (x.length : Int) - 1) (by omega) (by omega), bV (by omega) (by omega), show (x.length : Int) - 1 - (i : Int) = ((x.length - 1 - i : Nat) : Int) from by omega, jF x _ (by omega), List.getElem_reverse]
theorem DI (x y : List ByteArray) (hx : x.length ≤ 1000) (hxy : y.length ≤ x.length) : ∀ (d i k : Nat), i + d = y.length → d + 1 ≤ k →
  aH.l0 k x y (i : Int) = some (decide (y.reverse.drop i <+: x.reverse.drop i)) := by
 intro d
 induction d with
 | zero =>
  intro i k hi hk
  obtain ⟨k, rfl⟩ : ∃ j, k = j + 1 := ⟨k - 1, by omega⟩
  rw [aH.l0, if_neg (by omega), List.drop_of_length_le (by rw [List.length_reverse]; omega : y.reverse.length ≤ i), decide_eq_true (List.nil_prefix)]
 | succ d ih =>
  intro i k hi hk
  obtain ⟨k, rfl⟩ : ∃ j, k = j + 1 := ⟨k - 1, by omega⟩
  have hiy : i < y.length := by omega
  have hix : i < x.length := by omega
  have wx : wrap64 ((wrap64 ((x.length : Int) - 1)) - (i : Int)) = ((x.length - 1 - i : Nat) : Int) := by rw [bV (x := (x.length : Int) - 1) (by omega) (by omega), bV (by omega) (by omega)]; omega
  have wy : wrap64 ((wrap64 ((y.length : Int) - 1)) - (i : Int)) = ((y.length - 1 - i : Nat) : Int) := by rw [bV (x := (y.length : Int) - 1) (by omega) (by omega), bV (by omega) (by omega)]; omega
  rw [aH.l0, if_pos (by omega), Ay x i hix hx, Ay y i hiy (by omega), wx, wy, if_pos (by omega), if_pos (by omega), if_pos (by omega), if_pos (by omega), List.drop_eq_getElem_cons (by rw [List.length_reverse]; exact hix : i < x.reverse.length), List.drop_eq_getElem_cons (by rw [List.length_reverse]; exact hiy : i < y.reverse.length)]
  generalize x.reverse[i]'(by rw [List.length_reverse]; exact hix) = a
  generalize y.reverse[i]'(by rw [List.length_reverse]; exact hiy) = b
  by_cases h : a = b
  ·subst h
   rw [if_pos rfl, bV (by omega) (by omega), show (i : Int) + 1 = ((i + 1 : Nat) : Int) from by omega, ih (i + 1) k (by omega) (by omega)]
   congr 1
   apply decide_eq_decide.2
   rw [List.cons_prefix_cons]
   exact ⟨fun h => ⟨rfl, h⟩, fun h => h.2⟩
  ·rw [if_neg (fun e => h (toList_inj.mp e)), decide_eq_false]
   rw [List.cons_prefix_cons]
   rintro ⟨e, _⟩
   exact h e.symm
theorem BP (l m : List ByteArray) (hl : good l) (hm : good m) (sl : (bF l).size ≤ 255) (sm : (bF m).size ≤ 255) (k : Nat) (hk : 1000 ≤ k) : aH.f k (bF l) (bF m) = some (kW m l) := by
 have nl := lu l hl
 have nm := lu m hm
 unfold aH.f
 rw [jP l hl sl k (by omega), Option.bind_some, kU _ k (lC hl) (by rw [size_map]; exact sl) (by omega), Option.bind_some, jP m hm sm k (by omega), Option.bind_some, kU _ k (lC hm) (by rw [size_map]; exact sm) (by omega), Option.bind_some, if_pos rfl, if_pos rfl]
 obtain ⟨k, rfl⟩ : ∃ j, k = j + 1 := ⟨k - 1, by omega⟩
 rw [qU]
 show aH.j0 (k + 1) (l.map dP) (m.map dP) (decide (((l.map dP).length : Int) < ((m.map dP).length : Int))) = _
 by_cases h : (m.map dP).length ≤ (l.map dP).length
 ·rw [decide_eq_false (by omega), aH.j0, if_neg (by decide)]
  have := DI (l.map dP) (m.map dP) (by rw [List.length_map]; omega) h (m.map dP).length 0 k (by omega) (by rw [List.length_map]; omega)
  refine this.trans ?_
  congr 1
  apply decide_eq_decide.2
  rw [List.drop_zero, List.drop_zero, List.reverse_prefix]
 ·rw [decide_eq_true (by omega), aH.j0, if_pos rfl]
  congr 1
  symm
  apply decide_eq_false
  intro hs
  exact h hs.length_le
theorem uy (a b : ByteArray) (h : bB a = false ∨ bB b = false) (k : Nat) (hk : 2 ≤ k) : bf.f k a b = some false := by
 obtain ⟨k, rfl⟩ : ∃ j, k = j + 1 := ⟨k - 1, by omega⟩
 unfold bf.f
 rw [jy, Option.bind_some]
 cases ha : bB a with
 | false => rw [if_neg (by decide), bf.j0, if_pos rfl]
 | true =>
  have hb : bB b = false := by
   rcases h with h | h
   ·rw [ha] at h; exact absurd h (by decide)
   ·exact h
  rw [if_pos rfl, jy, Option.bind_some, hb, bf.j0, if_pos (by decide)]
theorem Dr (a b : ByteArray) (h : bB a = false ∨ bB b = false) (k : Nat) (hk : 1000 ≤ k) : aH.f k a b = some false := by
 obtain ⟨f, e1, l, ok, e2, e3⟩ := Al a k (by omega)
 obtain ⟨f', e1', l', ok', e2', e3'⟩ := Al b k (by omega)
 unfold aH.f
 rw [e1, Option.bind_some, e2, Option.bind_some, e1', Option.bind_some, e2', Option.bind_some]
 obtain ⟨k, rfl⟩ : ∃ j, k = j + 1 := ⟨k - 1, by omega⟩
 show (if ok = true then (if ok' = true then aH.j0 (k + 1) l l' _ else aH.j0 (k + 1) l l' true) else aH.j0 (k + 1) l l' true) = _
 cases ok with
 | false => rw [if_neg (by decide), aH.j0, if_pos rfl]
 | true =>
  have hb : bB b = false := by
   rcases h with h | h
   ·exact absurd (e3 h) (by decide)
   ·exact h
  rw [if_pos rfl, e3' hb, if_neg (by decide), aH.j0, if_pos rfl]
end Go.Y.dX
namespace Go.Y.dh
variable {α : Type}
structure dV (c : α → α → Int) : Prop where
 vals : ∀ a b, c a b = -1 ∨ c a b = 0 ∨ c a b = 1
 flip : ∀ a b, c b a = - c a b
 cong : ∀ a b d, c a b = 0 → c a d = c b d
 trans : ∀ a b d, c a b < 0 → c b d < 0 → c a d < 0
namespace dV
variable {c : α → α → Int} (O : dV c)
include O
theorem refl (a : α) : c a a = 0 := by have := O.flip a a; omega
theorem symm {a b : α} (h : c a b = 0) : c b a = 0 := by have := O.flip a b; omega
theorem congr (a b d : α) (h : c a b = 0) : c d a = c d b := by have h1 := O.cong a b d h; have h2 := O.flip a d; have h3 := O.flip b d; omega
theorem lt_of_lt_of_eq {a b d : α} (h : c a b < 0) (h' : c b d = 0) : c a d < 0 := by rw [← O.congr b d a h']; exact h
theorem lt_of_eq_of_lt {a b d : α} (h : c a b = 0) (h' : c b d < 0) : c a d < 0 := by rw [O.cong a b d h]; exact h'
theorem le_trans {a b d : α} (h : c a b ≤ 0) (h' : c b d ≤ 0) : c a d ≤ 0 := by
 by_cases e : c a b = 0
 ·rw [O.cong a b d e]; exact h'
 ·by_cases e' : c b d = 0
  ·rw [← O.congr b d a e']; exact h
  ·have := O.trans a b d (by omega) (by omega); omega
theorem yS {a b : α} (h : c a b ≤ 0) (h' : c b a ≤ 0) : c a b = 0 := by have := O.flip a b; omega
end dV
def cls (c : α → α → Int) (l : List α) (x : α) : List α := l.filter fun y => decide (c x y = 0)
def Sorted (c : α → α → Int) (l : List α) : Prop := l.Pairwise fun a b => c a b ≤ 0
def gV (c : α → α → Int) (l : List α) : Prop := l.Pairwise fun a b => c a b < 0
theorem gV.sorted {c : α → α → Int} {l : List α} (h : gV c l) : Sorted c l := h.imp fun h => by omega
theorem vO (c : α → α → Int) (x : α) : cls c [] x = [] := rfl
theorem fI (c : α → α → Int) (y : α) (l : List α) (x : α) : cls c (y :: l) x = if c x y = 0 then y :: cls c l x else cls c l x := by
 unfold cls; rw [List.filter_cons]; simp only [decide_eq_true_eq]
theorem eH (c : α → α → Int) (l m : List α) (x : α) : cls c (l ++ m) x = cls c l x ++ cls c m x := List.filter_append ..
theorem kR {c : α → α → Int} {l : List α} {x y : α} : y ∈ cls c l x ↔ y ∈ l ∧ c x y = 0 := by unfold cls; rw [List.mem_filter]; simp
theorem zQ (c : α → α → Int) (l : List α) (x : α) : cls c l.reverse x = (cls c l x).reverse := by unfold cls; rw [List.filter_reverse]
theorem kL {c : α → α → Int} {l : List α} {x : α} (h : ∀ y ∈ l, ¬ c x y = 0) : cls c l x = [] := by
 unfold cls; rw [List.filter_eq_nil_iff]; intro y hy; simpa using h y hy
theorem mX {c : α → α → Int} (O : dV c) (l : List α) {x y : α} (h : c x y = 0) : cls c l x = cls c l y := by
 unfold cls; congr 1; funext z; rw [O.cong x y z h]
theorem qB {c : α → α → Int} (O : dV c) : ∀ (l m : List α), Sorted c l → Sorted c m → (∀ x, cls c l x = cls c m x) → l = m := by
 intro l
 induction l with
 | nil =>
  intro m _ _ h
  cases m with
  | nil => rfl
  | cons y m => have := h y; rw [vO, fI, if_pos (O.refl y)] at this; cases this
 | cons a l ih =>
  intro m hl hm h
  cases m with
  | nil => have := h a; rw [vO, fI, if_pos (O.refl a)] at this; cases this
  | cons b m =>
   have hl' := List.pairwise_cons.mp hl
   have hm' := List.pairwise_cons.mp hm
   have ha : a ∈ b :: m := by
    have h1 := h a
    have h2 : a ∈ cls c (b :: m) a := by rw [← h1]; exact kR.mpr ⟨List.mem_cons_self .., O.refl a⟩
    exact (kR.mp h2).1
   have hb : b ∈ a :: l := by
    have h1 := h b
    have h2 : b ∈ cls c (a :: l) b := by rw [h1]; exact kR.mpr ⟨List.mem_cons_self .., O.refl b⟩
    exact (kR.mp h2).1
   have hab : c a b ≤ 0 := by
    rcases List.mem_cons.mp hb with e | e
    ·rw [e, O.refl]; omega
    ·exact hl'.1 b e
   have hba : c b a ≤ 0 := by
    rcases List.mem_cons.mp ha with e | e
    ·rw [e, O.refl]; omega
    ·exact hm'.1 a e
   have h0 := O.yS hab hba
   have h1 := h a
   rw [fI, if_pos (O.refl a), fI, if_pos h0] at h1
   obtain ⟨rfl, _⟩ := List.cons.inj h1
   congr 1
   refine ih m hl'.2 hm'.2 fun x => ?_
   have h2 := h x
   rw [fI, fI] at h2
   split at h2
   ·exact (List.cons.inj h2).2
   ·exact h2
theorem rO {c : α → α → Int} (O : dV c) {a : α} {l : List α} (h : gV c (a :: l)) : cls c l a = [] :=
 kL fun y hy h0 => by have := (List.pairwise_cons.mp h).1 y hy; omega
theorem vZ {c : α → α → Int} (O : dV c) : ∀ {l : List α} (_ : gV c l) {x y : α} (_ : y ∈ l) (_ : c x y = 0), cls c l x = [y] := by
 intro l
 induction l with
 | nil => intro _ x y hy; cases hy
 | cons a l ih =>
  intro h x y hy h0
  rw [fI]
  rcases List.mem_cons.mp hy with rfl | hy
  ·rw [if_pos h0, mX O l h0, rO O h]
  ·have hlt := (List.pairwise_cons.mp h).1 y hy
   rw [if_neg (fun e => by have h1 := O.cong x a y e; omega)]
   exact ih (List.pairwise_cons.mp h).2 hy h0
theorem nC {c : α → α → Int} (O : dV c) {l : List α} (h : gV c l) (x : α) : cls c l x = [] ∨ ∃ y, y ∈ l ∧ c x y = 0 ∧ cls c l x = [y] := by
 by_cases he : ∃ y ∈ l, c x y = 0
 ·obtain ⟨y, hy, h0⟩ := he
  exact .inr ⟨y, hy, h0, vZ O h hy h0⟩
 ·exact .inl (kL fun y hy h0 => he ⟨y, hy, h0⟩)
theorem vI {c : α → α → Int} (O : dV c) {l m : List α} (hl : gV c l) (hm : gV c m) (h : ∀ x, cls c l x = cls c m x) : l = m := qB O l m hl.sorted hm.sorted h
theorem uE {c : α → α → Int} (O : dV c) {l m : List α} (h : ∀ x, cls c l x = cls c m x) {y : α} (hy : y ∈ l) : y ∈ m := by
 have h1 : y ∈ cls c l y := kR.mpr ⟨hy, O.refl y⟩
 rw [h] at h1
 exact (kR.mp h1).1
def put (c : α → α → Int) : List α → α → List α
 | [], r => [r]
 | y :: l, r => if c r y < 0 then r :: y :: l else if c r y = 0 then r :: l else y :: put c l r
theorem pq {c : α → α → Int} : ∀ {l : List α} {r y : α}, y ∈ put c l r → y = r ∨ y ∈ l := by
 intro l
 induction l with
 | nil => intro r y h; simpa [put] using h
 | cons a l ih =>
  intro r y h
  rw [put] at h
  split at h
  ·exact List.mem_cons.mp h
  ·split at h
   ·rcases List.mem_cons.mp h with h | h
    ·exact .inl h
    ·exact .inr (List.mem_cons_of_mem _ h)
   ·rcases List.mem_cons.mp h with h | h
    ·exact .inr (by rw [h]; exact List.mem_cons_self ..)
    ·rcases ih h with h | h
     ·exact .inl h
     ·exact .inr (List.mem_cons_of_mem _ h)
theorem pJ {c : α → α → Int} (O : dV c) : ∀ {l : List α} (_ : gV c l) (r : α), gV c (put c l r) := by
 intro l
 induction l with
 | nil => intro _ r; exact List.pairwise_singleton _ _
 | cons a l ih =>
  intro h r
  have h' := List.pairwise_cons.mp h
  rw [put]
  split
  ·rename_i hlt
   refine List.pairwise_cons.mpr ⟨fun y hy => ?_, h⟩
   rcases List.mem_cons.mp hy with rfl | hy
   ·exact hlt
   ·exact O.trans _ _ _ hlt (h'.1 y hy)
  ·split
   ·rename_i _ h0
    refine List.pairwise_cons.mpr ⟨fun y hy => ?_, h'.2⟩
    exact O.lt_of_eq_of_lt h0 (h'.1 y hy)
   ·rename_i h1 h2
    refine List.pairwise_cons.mpr ⟨fun y hy => ?_, ih h'.2 r⟩
    rcases pq hy with rfl | hy
    ·have := O.flip y a; omega
    ·exact h'.1 y hy
theorem Jc {c : α → α → Int} (O : dV c) : ∀ {l : List α} (_ : gV c l) (r x : α), cls c (put c l r) x = if c x r = 0 then [r] else cls c l x := by
 intro l
 induction l with
 | nil => intro _ r x; rw [put, fI, vO]
 | cons a l ih =>
  intro h r x
  have h' := List.pairwise_cons.mp h
  rw [put]
  split
  ·rename_i hlt
   rw [fI]
   split
   ·rename_i h0
    rw [mX O _ h0, kL fun y hy h1 => ?_]
    rcases List.mem_cons.mp hy with rfl | hy
    ·omega
    ·have := O.trans _ _ _ hlt (h'.1 y hy); omega
   ·rfl
  ·split
   ·rename_i _ h0
    rw [fI, fI]
    split
    ·rename_i hx
     rw [mX O l hx, mX O l h0, rO O h]
    ·rename_i hx
     rw [if_neg (fun e => hx (by rw [O.congr r a x h0]; exact e))]
   ·rename_i h1 h2
    rw [fI, ih h'.2, fI]
    split
    ·rename_i hx
     rw [if_neg (fun e => h2 (by rw [← O.cong x r a e]; exact hx)), if_neg (fun e => h2 (by rw [← O.cong x r a e]; exact hx))]
    ·rfl
def drop (c : α → α → Int) (l : List α) (r : α) : List α := l.filter fun y => !decide (c r y = 0)
def find (c : α → α → Int) (l : List α) (r : α) : Option α := (cls c l r).head?
theorem qd {c : α → α → Int} (O : dV c) {l : List α} (h : gV c l) (r x : α) : find c (put c l r) x = if c x r = 0 then some r else find c l x := by
 unfold find; rw [Jc O h]; split <;> rfl
theorem tJ {c : α → α → Int} {l : List α} {x y : α} (h : find c l x = some y) : y ∈ l ∧ c x y = 0 := by
 unfold find at h
 have : y ∈ cls c l x := List.mem_of_mem_head? h
 exact kR.mp this
theorem zY {c : α → α → Int} (O : dV c) {l : List α} (h : gV c l) {x y : α} (hy : y ∈ l) (h0 : c x y = 0) : find c l x = some y := by
 unfold find; rw [vZ O h hy h0]; rfl
theorem wL {c : α → α → Int} {l : List α} {x : α} : find c l x = none ↔ ∀ y ∈ l, ¬ c x y = 0 := by
 unfold find
 rw [List.head?_eq_none_iff]
 constructor
 ·intro h y hy h0
  have : y ∈ cls c l x := kR.mpr ⟨hy, h0⟩
  rw [h] at this; cases this
 ·exact fun h => kL h
theorem zL {c : α → α → Int} (O : dV c) {l m : List α} (hl : gV c l) (hm : gV c m) (h : ∀ x, find c l x = find c m x) : l = m := by
 refine vI O hl hm fun x => ?_
 have h1 := h x
 unfold find at h1
 rcases nC O hl x with e | ⟨y, _, _, e⟩ <;> rcases nC O hm x with e' | ⟨z, _, _, e'⟩ <;> rw [e, e'] at h1 ⊢ <;> simp at h1 ⊢ <;> exact h1
theorem EA {c : α → α → Int} {l : List α} {r : α} (h : find c l r = none) : drop c l r = l := by
 unfold drop
 rw [List.filter_eq_self]
 intro y hy
 have := wL.mp h y hy
 simp [this]
theorem drop_drop {c : α → α → Int} (l : List α) (r : α) : drop c (drop c l r) r = drop c l r := by unfold drop; rw [List.filter_filter]; simp
theorem vC {c : α → α → Int} (O : dV c) : ∀ {l : List α} (_ : gV c l) (r : α), (put c l r).length = (drop c l r).length + 1 := by
 intro l
 induction l with
 | nil => intro _ r; rfl
 | cons a l ih =>
  intro h r
  have h' := List.pairwise_cons.mp h
  have hd : ∀ x, ¬ c x a = 0 → drop c (a :: l) x = a :: drop c l x := fun x hx => by unfold drop; rw [List.filter_cons]; simp [hx]
  rw [put]
  split
  ·rename_i hlt
   have : drop c (a :: l) r = a :: l := EA (wL.mpr fun y hy => by
    rcases List.mem_cons.mp hy with rfl | hy
    ·omega
    ·have := O.trans _ _ _ hlt (h'.1 y hy); omega)
   rw [this]; rfl
  ·split
   ·rename_i _ h0
    have : drop c (a :: l) r = l := by
     unfold drop
     rw [List.filter_cons]
     simp only [h0, decide_true, Bool.not_true, Bool.false_eq_true, if_false]
     have : ∀ y ∈ l, ¬ c r y = 0 := fun y hy => by have := O.lt_of_eq_of_lt h0 (h'.1 y hy); omega
     rw [List.filter_eq_self]; intro y hy; simp [this y hy]
    rw [this]; rfl
   ·rename_i h1 h2
    rw [hd r h2, List.length_cons, List.length_cons, ih h'.2]
def ofL (c : α → α → Int) (l : List α) : List α := l.foldl (put c) []
theorem foldl_set {c : α → α → Int} (O : dV c) : ∀ (l m : List α), gV c m → gV c (l.foldl (put c) m) := by
 intro l
 induction l with
 | nil => intro m h; exact h
 | cons a l ih => intro m h; exact ih _ (pJ O h a)
theorem pz {c : α → α → Int} (O : dV c) (l : List α) : gV c (ofL c l) := foldl_set O l [] List.Pairwise.nil
theorem Ck {c : α → α → Int} (O : dV c) : ∀ (l m : List α), gV c m → ∀ x, find c (l.foldl (put c) m) x = (cls c l x).getLast?.or (find c m x) := by
 intro l
 induction l with
 | nil => intro m _ x; rfl
 | cons a l ih =>
  intro m h x
  rw [List.foldl_cons, ih _ (pJ O h a), qd O h, fI]
  split
  ·cases hq : cls c l x with
   | nil => rfl
   | cons y t => rw [List.getLast?_cons_cons]; simp [List.getLast?_cons]
  ·rfl
theorem Gs {c : α → α → Int} (O : dV c) (l : List α) (x : α) : find c (ofL c l) x = (cls c l x).getLast? := by
 unfold ofL
 rw [Ck O l [] List.Pairwise.nil]
 cases (cls c l x).getLast? <;> rfl
def firsts (c : α → α → Int) : List α → List α
 | [] => []
 | [a] => [a]
 | a :: b :: l => if c a b = 0 then firsts c (a :: l) else a :: firsts c (b :: l)
termination_by l => l.length
theorem Cm {c : α → α → Int} : ∀ (n : Nat) (l : List α), l.length = n → ∀ y ∈ firsts c l, y ∈ l := by
 intro n
 induction n with
 | zero => intro l h y hy; obtain rfl := List.length_eq_zero_iff.mp h; rw [firsts] at hy; exact hy
 | succ n ih =>
  intro l h y hy
  match l, h with
  | [a], _ => rw [firsts] at hy; exact hy
  | a :: b :: l, h =>
   rw [firsts] at hy
   split at hy
   ·have := ih (a :: l) (by simpa using h) y hy
    rcases List.mem_cons.mp this with e | e
    ·rw [e]; exact List.mem_cons_self ..
    ·exact List.mem_cons_of_mem _ (List.mem_cons_of_mem _ e)
   ·rcases List.mem_cons.mp hy with e | e
    ·rw [e]; exact List.mem_cons_self ..
    ·exact List.mem_cons_of_mem _ (ih (b :: l) (by simpa using h) y e)
theorem BX {c : α → α → Int} (O : dV c) : ∀ (n : Nat) (l : List α), l.length = n → Sorted c l → gV c (firsts c l) ∧ ∀ x, cls c (firsts c l) x = (cls c l x).head?.toList := by
 intro n
 induction n with
 | zero => intro l h _; obtain rfl := List.length_eq_zero_iff.mp h; rw [firsts]; exact ⟨List.Pairwise.nil, fun x => rfl⟩
 | succ n ih =>
  intro l h hs
  match l, h with
  | [a], _ =>
   rw [firsts]
   refine ⟨List.pairwise_singleton _ _, fun x => ?_⟩
   rw [fI]; split <;> rfl
  | a :: b :: l, h =>
   have hs' := List.pairwise_cons.mp hs
   rw [firsts]
   split
   ·rename_i h0
    have hsa : Sorted c (a :: l) := List.pairwise_cons.mpr ⟨fun y hy => hs'.1 y (List.mem_cons_of_mem _ hy), (List.pairwise_cons.mp hs'.2).2⟩
    obtain ⟨h1, h2⟩ := ih (a :: l) (by simpa using h) hsa
    refine ⟨h1, fun x => ?_⟩
    rw [h2, fI, fI c a (b :: l)]
    split
    ·rfl
    ·rename_i hx
     rw [fI, if_neg (fun e => hx (by rw [O.congr a b x h0]; exact e))]
   ·rename_i h0
    obtain ⟨h1, h2⟩ := ih (b :: l) (by simpa using h) hs'.2
    have hab : c a b < 0 := by have := hs'.1 b (List.mem_cons_self ..); omega
    have hall : ∀ y ∈ b :: l, c a y < 0 := fun y hy => by
     rcases List.mem_cons.mp hy with rfl | hy
     ·exact hab
     ·have h3 := (List.pairwise_cons.mp hs'.2).1 y hy
      by_cases e : c b y = 0
      ·exact O.lt_of_lt_of_eq hab e
      ·exact O.trans _ _ _ hab (by omega)
    refine ⟨List.pairwise_cons.mpr ⟨fun y hy => hall y (Cm _ _ rfl y hy), h1⟩, fun x => ?_⟩
    rw [fI, h2, fI c a (b :: l)]
    split
    ·rename_i hx
     rw [mX O _ hx, kL fun y hy e => by have := hall y hy; omega]; rfl
    ·rfl
def cu (c : α → α → Int) (l m : List α) : Prop := Sorted c m ∧ ∀ x, cls c m x = cls c l x
theorem cu.unique {c : α → α → Int} (O : dV c) {l m m' : List α} (h : cu c l m) (h' : cu c l m') : m = m' := qB O _ _ h.1 h'.1 fun x => (h.2 x).trans (h'.2 x).symm
theorem wZ {c : α → α → Int} (O : dV c) {l m : List α} (h : cu c l.reverse m) : firsts c m = ofL c l := by
 obtain ⟨h1, h2⟩ := BX O _ m rfl h.1
 refine zL O h1 (pz O l) fun x => ?_
 rw [Gs O]
 unfold find
 rw [h2, h.2, zQ, List.head?_reverse]
 cases (cls c l x).getLast? <;> rfl
end Go.Y.dh
namespace Go.Y.dh
open Go.Y.dX
def jW {α : Type} (c d : α → α → Int) (a b : α) : Int := if c a b = 0 then d a b else c a b
theorem dV.jW {α : Type} {c d : α → α → Int} (C : dV c) (D : dV d) : dV (jW c d) where
 vals a b := by
  unfold dh.jW; split
  ·exact D.vals a b
  ·exact C.vals a b
 flip a b := by
  have h := C.flip a b
  unfold dh.jW
  by_cases e : c a b = 0
  ·rw [if_pos e, if_pos (by omega)]; exact D.flip a b
  ·rw [if_neg e, if_neg (by omega)]; exact h
 cong a b e h := by
  unfold dh.jW at h ⊢
  by_cases e1 : c a b = 0
  ·rw [if_pos e1] at h
   rw [C.cong a b e e1, D.cong a b e h]
  ·rw [if_neg e1] at h; exact absurd h e1
 trans a b e h1 h2 := by
  unfold dh.jW at h1 h2 ⊢
  by_cases e1 : c a b = 0
  ·rw [if_pos e1] at h1
   by_cases e2 : c b e = 0
   ·rw [if_pos e2] at h2
    rw [if_pos (by rw [C.cong a b e e1]; exact e2)]
    exact D.trans a b e h1 h2
   ·rw [if_neg e2] at h2
    have : c a e < 0 := C.lt_of_eq_of_lt e1 h2
    rw [if_neg (by omega)]; exact this
  ·rw [if_neg e1] at h1
   by_cases e2 : c b e = 0
   ·have : c a e < 0 := C.lt_of_lt_of_eq h1 e2
    rw [if_neg (by omega)]; exact this
   ·rw [if_neg e2] at h2
    have := C.trans a b e h1 h2
    rw [if_neg (by omega)]; exact this
theorem dV.pull {α β : Type} {c : β → β → Int} (O : Ord c) (f : α → β) : dV (fun a b => c (f a) (f b)) where
 vals a b := O.vals _ _
 flip a b := O.flip _ _
 cong a b d h := by rw [O.zero _ _ h]
 trans a b d h1 h2 := O.trans _ _ _ h1 h2
def oO (a b : Int) : Int := if a < b then -1 else if a > b then 1 else 0
theorem zu : Ord oO where
  vals a b := by unfold oO; repeat' split
                 all_goals omega
  flip a b := by unfold oO; repeat' split
                 all_goals omega
  zero a b h := by unfold oO at h; revert h; repeat' split
                   all_goals (intro h; omega)
  self a := by unfold oO; rw [if_neg (by omega), if_neg (by omega)]
  trans a b d h1 h2 := by
    unfold oO at h1 h2 ⊢
    have e1 : a < b := by by_cases h : a < b; exact h; rw [if_neg h] at h1; split at h1 <;> omega
    have e2 : b < d := by by_cases h : b < d; exact h; rw [if_neg h] at h2; split at h2 <;> omega
    rw [if_pos (by omega)]; omega
end Go.Y.dh
namespace Go.Y.lH
open Go.Y.PRd Go.Proofs.aj.aA Go.Proofs.aj.aM Go.Proofs.aj.aN Go.Y.Given Go.Y.Oct Go.Y.Name Go.Y.dX
theorem qx {n : ByteArray} (h : bB n = true) : n.size ≤ 255 := by
 unfold bB at h
 exact of_decide_eq_true (Bool.and_eq_true_iff.mp h).1
def by8 (m : ByteArray) (i : Nat) : Nat := (m.data.toList.getD i 0).toNat
theorem pF (m : ByteArray) (i : Nat) : by8 m i < 256 := UInt8.toNat_lt _
theorem nP {m : ByteArray} {i : Nat} (h : i < m.size) : (m.data.toList[i]'(by rw [bR]; exact h)).toNat = by8 m i := by
 unfold by8; rw [List.getD_eq_getElem?_getD, List.getElem?_eq_getElem (by rw [bR]; exact h)]; rfl
theorem DR {m : ByteArray} {i : Nat} (h : i < m.size) : bt m (i : Int) = (by8 m i : Int) := by rw [jB m i h, nP h]
inductive Pc where
 | lab (c : Nat)
 | ptr (t : Nat)
def pc (m : ByteArray) (i : Nat) : Option Pc :=
 if i < m.size then
  if 192 ≤ by8 m i then (if i + 1 < m.size then some (.ptr ((by8 m i - 192) * 256 + by8 m (i + 1))) else none)
  else if 64 ≤ by8 m i then none
  else if i + 1 + by8 m i ≤ m.size then some (.lab (by8 m i)) else none
 else none
theorem Ir {m : ByteArray} {i : Nat} (h : i + 1 < m.size) : beN ((m.extract i m.size).data.toList.take 2) = by8 m i * 256 + by8 m (i + 1) := by
 rw [nI (by omega), List.drop_eq_getElem_cons (by rw [bR]; exact h)]
 have h1 := nP (m := m) (i := i) (by omega)
 have h2 := nP (m := m) (i := i + 1) h
 rw [← h1, ← h2]
 simp [beN]
theorem ET (m : ByteArray) (i : Nat) (hi : i ≤ m.size) (hs : m.size ≤ 1000000) : gL.f (m.extract i m.size) [2] =
  if i + 1 < m.size then some ([((by8 m i * 256 + by8 m (i + 1) : Nat) : Int)], m.extract (i + 2) m.size, 0) else some ([], ⟨#[]⟩, 2) := by
 unfold gL.f
 rw [if_pos ⟨by rw [gy]; omega, by decide⟩, if_pos (by decide +kernel)]
 by_cases h : i + 1 < m.size
 ·rw [if_pos h]
  have e : iO (m.extract i m.size) [2] [] = some ([((by8 m i * 256 + by8 m (i + 1) : Nat) : Int)], m.extract (i + 2) m.size) := by
   rw [iO, if_pos (by rw [gy]; show 2 ≤ m.size - i; omega), iO]
   have e2 : (2 : Int).toNat = 2 := rfl
   rw [e2, Ir h, gy, (AZ m i 2 hi (by omega)).2]; rfl
  rw [e]
 ·rw [if_neg h]
  have e : iO (m.extract i m.size) [2] [] = none := by
   rw [iO, if_neg (by rw [gy]; show ¬ 2 ≤ m.size - i; omega)]
  rw [e]
def atR (m : ByteArray) (i : Nat) : ByteArray × Int × Int × Bool :=
 match pc m i with
 | none => (⟨#[]⟩, 0, 0, false)
 | some (.lab c) => (m.extract i (i + 1 + c), -1, ((i + 1 + c : Nat) : Int), true)
 | some (.ptr t) => (⟨#[]⟩, (t : Int), ((i + 2 : Nat) : Int), true)
theorem uf (m : ByteArray) (i k : Nat) (hi : i ≤ m.size) (hs : m.size ≤ 1000000) (x : ByteArray) (hc : ¬ (i < m.size ∧ by8 m i < 64 ∧ i + 1 + by8 m i ≤ m.size)) : gq.j0 (k + 1) m (i : Int) x false = some (atR m i) := by
 rw [gq.j0, if_neg (by decide), if_pos (by omega), if_pos (by omega)]
 show ((gL.f (m.extract i m.size) [2]).bind _) = _
 rw [ET m i hi hs]
 have hb := pF m i
 have hb1 := pF m (i + 1)
 by_cases h : i + 1 < m.size
 ·rw [if_pos h, Option.bind_some]
  show (if (0 : Int) = 0 then _ else _) = _
  rw [if_pos rfl]
  show (if (0 : Int) < ((1 : Nat) : Int) then _ else _) = _
  rw [if_pos (by decide)]
  show (if ((by8 m i * 256 + by8 m (i + 1) : Nat) : Int) < 49152 then _ else some (_, wrap64 (IntKind.u64.wrap (((by8 m i * 256 + by8 m (i + 1) : Nat) : Int) - 49152)), _, _)) = _
  unfold atR pc
  rw [if_pos (by omega : i < m.size)]
  by_cases hp : 192 ≤ by8 m i
  ·rw [if_neg (by omega), if_pos hp, if_pos h]
   simp only []
   have e1 : ((by8 m i * 256 + by8 m (i + 1) : Nat) : Int) - 49152 = (((by8 m i - 192) * 256 + by8 m (i + 1) : Nat) : Int) := by omega
   have e2 : (((by8 m i - 192) * 256 + by8 m (i + 1) : Nat) : Int) % 2 ^ 64 = (((by8 m i - 192) * 256 + by8 m (i + 1) : Nat) : Int) := by omega
   have e3 : IntKind.u64.wrap (((by8 m i - 192) * 256 + by8 m (i + 1) : Nat) : Int) = (((by8 m i - 192) * 256 + by8 m (i + 1) : Nat) : Int) := by
    simp only [IntKind.wrap, IntKind.bits, IntKind.signed, e2]; rw [if_neg (by simp)]
   rw [e1, e3, bV (by omega) (by omega), bV (by omega) (by omega)]
   rfl
  ·rw [if_pos (by omega), if_neg hp]
   by_cases h64 : 64 ≤ by8 m i
   ·rw [if_pos h64]
   ·rw [if_neg h64, if_neg (by omega)]
 ·rw [if_neg h, Option.bind_some]
  show (if (2 : Int) = 0 then _ else _) = _
  rw [if_neg (by decide)]
  unfold atR pc
  by_cases hlt : i < m.size
  ·rw [if_pos hlt]
   by_cases hp : 192 ≤ by8 m i
   ·rw [if_pos hp, if_neg h]
   ·rw [if_neg hp]
    by_cases h64 : 64 ≤ by8 m i
    ·rw [if_pos h64]
    ·rw [if_neg h64, if_neg (by omega)]
  ·rw [if_neg hlt]
theorem Jo (m : ByteArray) (i k : Nat) (hi : i ≤ m.size) (hs : m.size ≤ 1000000) : gq.f (k + 1) m (i : Int) = some (atR m i) := by
 unfold gq.f
 rw [if_pos (by omega), if_pos (by omega)]
 show ((gu.f (m.extract i m.size) 1).bind _) = _
 have hsz : (m.extract i m.size).size = m.size - i := gy m i
 by_cases hlt : i < m.size
 ·have hcut := xD hlt
  rw [nP hlt] at hcut
  by_cases hfit : by8 m i ≤ m.size - i - 1
  ·rw [if_pos hfit] at hcut
   rw [zC (by omega) hcut, Option.bind_some]
   show (if (0 : Int) = 0 then _ else _) = _
   rw [if_pos rfl]
   have hs1 : (m.extract (i + 1) (i + 1 + by8 m i)).size = by8 m i := by rw [ByteArray.size_extract]; omega
   show gq.j0 (k + 1) m (i : Int) (m.extract (i + 1 + by8 m i) m.size) (decide (((m.extract (i + 1) (i + 1 + by8 m i)).size : Int) ≤ 63)) = _
   rw [hs1]
   by_cases h64 : by8 m i < 64
   ·rw [decide_eq_true (by omega), gq.j0, if_pos rfl, gy]
    have e1 : wrap64 ((m.size : Int) - ((m.size - (i + 1 + by8 m i) : Nat) : Int)) = ((i + 1 + by8 m i : Nat) : Int) := by rw [bV (by omega) (by omega)]; omega
    rw [e1, if_pos (by omega), if_pos (by omega), if_pos (by omega)]
    unfold atR pc
    rw [if_pos hlt, if_neg (by omega), if_neg (by omega), if_pos (by omega)]
    rfl
   ·rw [decide_eq_false (by omega)]
    exact uf m i k hi hs _ (by omega)
  ·rw [if_neg hfit] at hcut
   rw [tX (by omega) hcut, Option.bind_some]
   show (if (2 : Int) = 0 then _ else _) = _
   rw [if_neg (by decide)]
   exact uf m i k hi hs _ (by omega)
 ·have hcut : dZ (m.extract i m.size) 1 = none := by unfold dZ; rw [if_neg (by omega)]
  rw [tX (by omega) hcut, Option.bind_some]
  show (if (2 : Int) = 0 then _ else _) = _
  rw [if_neg (by decide)]
  exact uf m i k hi hs _ (by omega)
def err : ByteArray × Int × Int := (⟨#[]⟩, 0, 2)
def nxt (nx : Int) (i : Nat) : Int := if nx < 0 then (i : Int) else nx
def jJ (m : ByteArray) : Nat → Nat → ByteArray → Int → Nat → ByteArray × Int × Int
 | 0, _, _, _, _ => err
 | d + 1, i, n, nx, fr =>
  match pc m i with
  | none => err
  | some (.ptr t) => if fr ≤ t then err else jJ m d t n (nxt nx (i + 2)) t
  | some (.lab c) => if c = 0 then (if bB (n ++ fO) = true then (n ++ fO, nxt nx (i + 1), 0) else err) else jJ m d (i + 1 + c) (n ++ m.extract i (i + 1 + c)) nx fr
def mu (m : ByteArray) (i fr : Nat) : Nat := fr * (m.size + 1) + (m.size - i)
theorem Dl {m : ByteArray} {i fr t : Nat} (h : t < fr) : mu m t t < mu m i fr := by
 unfold mu
 obtain ⟨j, rfl⟩ : ∃ j, fr = t + 1 + j := ⟨fr - t - 1, by omega⟩
 have h1 : (t + 1 + j) * (m.size + 1) = t * (m.size + 1) + (m.size + 1) + j * (m.size + 1) := by rw [Nat.add_mul, Nat.add_mul, Nat.one_mul]
 have h2 : 0 ≤ j * (m.size + 1) := Nat.zero_le _
 omega
theorem zi {m : ByteArray} {i c : Nat} (h : pc m i = some (.lab c)) : i < m.size ∧ c = by8 m i ∧ c < 64 ∧ i + 1 + c ≤ m.size := by
 unfold pc at h
 by_cases h1 : i < m.size
 ·rw [if_pos h1] at h
  by_cases h2 : 192 ≤ by8 m i
  ·rw [if_pos h2] at h
   by_cases h3 : i + 1 < m.size
   ·rw [if_pos h3] at h; cases h
   ·rw [if_neg h3] at h; cases h
  ·rw [if_neg h2] at h
   by_cases h3 : 64 ≤ by8 m i
   ·rw [if_pos h3] at h; cases h
   ·rw [if_neg h3] at h
    by_cases h4 : i + 1 + by8 m i ≤ m.size
    ·rw [if_pos h4] at h
     cases h
     exact ⟨h1, rfl, by omega, h4⟩
    ·rw [if_neg h4] at h; cases h
 ·rw [if_neg h1] at h; cases h
theorem zy {m : ByteArray} {i t : Nat} (h : pc m i = some (.ptr t)) : i + 1 < m.size ∧ 192 ≤ by8 m i ∧ t = (by8 m i - 192) * 256 + by8 m (i + 1) ∧ t < 16384 := by
 unfold pc at h
 by_cases h1 : i < m.size
 ·rw [if_pos h1] at h
  by_cases h2 : 192 ≤ by8 m i
  ·rw [if_pos h2] at h
   by_cases h3 : i + 1 < m.size
   ·rw [if_pos h3] at h
    have hb := pF m i
    have hb1 := pF m (i + 1)
    cases h
    exact ⟨h3, h2, rfl, by omega⟩
   ·rw [if_neg h3] at h; cases h
  ·rw [if_neg h2] at h
   by_cases h3 : 64 ≤ by8 m i
   ·rw [if_pos h3] at h; cases h
   ·rw [if_neg h3] at h
    by_cases h4 : i + 1 + by8 m i ≤ m.size
    ·rw [if_pos h4] at h; cases h
    ·rw [if_neg h4] at h; cases h
 ·rw [if_neg h1] at h; cases h
theorem Et {m : ByteArray} {i fr c : Nat} (h : i < m.size) : mu m (i + 1 + c) fr < mu m i fr := by unfold mu; omega
theorem uY {n : ByteArray} (h : 255 < n.size) : bB n = false := by
 cases hr : bB n with
 | false => rfl
 | true => have := qx hr; omega
theorem vk (m : ByteArray) : ∀ (d i : Nat) (n : ByteArray) (nx : Int) (fr : Nat), 255 < n.size → jJ m d i n nx fr = err := by
 intro d
 induction d with
 | zero => intros; rfl
 | succ d ih =>
  intro i n nx fr hn
  rw [jJ]
  cases hp : pc m i with
  | none => rfl
  | some p =>
   cases p with
   | ptr t =>
    simp only []
    by_cases hf : fr ≤ t
    ·rw [if_pos hf]
    ·rw [if_neg hf]; exact ih _ _ _ _ hn
   | lab c =>
    simp only []
    by_cases h0 : c = 0
    ·rw [if_pos h0, uY (by rw [ByteArray.size_append]; omega), if_neg (by decide)]
    ·rw [if_neg h0]; exact ih _ _ _ _ (by rw [ByteArray.size_append]; omega)
theorem yL {m : ByteArray} {i : Nat} (h : i < m.size) (h0 : by8 m i = 0) : m.extract i (i + 1) = fO := by
 apply fK
 rw [je, List.drop_eq_getElem_cons (by rw [bR]; exact h)]
 have := nP h
 rw [h0] at this
 have h1 : m.data.toList[i]'(by rw [bR]; exact h) = 0 := UInt8.toNat_inj.mp (by rw [this]; rfl)
 rw [h1]; rfl
theorem Jl {m : ByteArray} {i c : Nat} (h : i < m.size) (hc : c = by8 m i) (h0 : ¬ c = 0) : ¬ (m.extract i (i + 1 + c)).toList = [0] := by
 intro e
 rw [ByteArray.toList_eq, show i + 1 + c = i + (1 + c) from by omega, je, List.drop_eq_getElem_cons (by rw [bR]; exact h), Nat.add_comm 1 c, List.take_succ_cons] at e
 have h1 := (List.cons.inj e).1
 have := nP h
 rw [h1] at this
 apply h0; rw [hc, ← this]; rfl
theorem qg {m : ByteArray} {i c : Nat} (h : i + 1 + c ≤ m.size) : (m.extract i (i + 1 + c)).size = 1 + c := by rw [ByteArray.size_extract]; omega
theorem GQ {m n : ByteArray} {i c : Nat} (h : i + 1 + c ≤ m.size) (hc : c < 64) (hn : n.size < 300) : (n ++ m.extract i (i + 1 + c)).size ≤ 1000000 := by rw [ByteArray.size_append, qg h]; omega
theorem pj3 (k : Nat) (i : Nat) (n : ByteArray) (nx : Int) : bP.j3 (k + 1) (i : Int) n nx = some (if bB n = true then (n, nxt nx i, 0) else err) := by
 rw [bP.j3]
 show (if bB n = true then _ else _) = _
 unfold nxt
 by_cases hr : bB n = true
 ·rw [if_pos hr, if_pos hr]
  by_cases hx : nx < 0
  ·rw [if_pos hx, if_pos hx]
  ·rw [if_neg hx, if_neg hx]
 ·rw [if_neg hr, if_neg hr]; rfl
theorem pread (m : ByteArray) (hs : m.size ≤ 1000000) : ∀ (d i k : Nat) (n : ByteArray) (nx : Int) (fr : Nat), i ≤ m.size → fr ≤ m.size → mu m i fr < d → 3 * d + 10 ≤ k → bP.l0 k m (i : Int) n nx (fr : Int) = some (jJ m d i n nx fr) := by
 intro d
 induction d with
 | zero => intro i k n nx fr _ _ h; omega
 | succ d ih =>
  intro i k n nx fr hi hfr hmu hk
  obtain ⟨k, rfl⟩ : ∃ j, k = j + 4 := ⟨k - 4, by omega⟩
  rw [bP.l0]
  by_cases hn : (n.size : Int) ≤ 255
  ·rw [if_pos hn, Jo m i (k + 2) hi hs, Option.bind_some]
   unfold atR
   rw [jJ]
   cases hp : pc m i with
   | none =>
    simp only []
    rw [if_neg (by decide), bP.j2, if_pos rfl]; rfl
   | some p =>
    cases p with
    | ptr t =>
     simp only []
     rw [if_pos trivial]
     have hpp := zy hp
     by_cases hf : fr ≤ t
     ·rw [decide_eq_true (by omega), bP.j2, if_pos rfl, if_pos hf]; rfl
     ·have hm := Dl (m := m) (i := i) (show t < fr by omega)
      rw [decide_eq_false (by omega), bP.j2, if_neg (by decide), if_pos (by omega), if_neg hf]
      unfold nxt
      by_cases hx : nx < 0
      ·rw [if_pos hx, if_pos hx]
       exact ih t (k + 2) n _ t (by omega) (by omega) (by omega) (by omega)
      ·rw [if_neg hx, if_neg hx]
       exact ih t (k + 2) n _ t (by omega) (by omega) (by omega) (by omega)
    | lab c =>
     simp only []
     have hl := zi hp
     have hm := Et (fr := fr) (c := c) hl.1
     rw [if_pos trivial, decide_eq_false (by omega), bP.j2, if_neg (by decide), if_neg (by decide), if_pos (by rw [ByteArray.size_extract]; omega)]
     by_cases h0 : c = 0
     ·subst h0
      rw [yL hl.1 hl.2.1.symm, if_pos (by decide +kernel), if_pos rfl]
      have := pj3 (k + 1) (i + 1 + 0) (n ++ fO) nx
      exact this
     ·rw [if_neg (Jl hl.1 hl.2.1 h0), if_neg h0]
      exact ih _ _ _ _ _ (by omega) hfr (by omega) (by omega)
  ·rw [if_neg hn, vk m (d + 1) i n nx fr (by omega)]
   have := pj3 (k + 2) i n nx
   rw [uY (by omega), if_neg (by decide)] at this
   exact this
theorem JZ (m : ByteArray) (hs : m.size ≤ 1000000) : ∀ (d i k : Nat) (n : ByteArray) (nx : Int) (fr : Nat), i ≤ m.size → fr ≤ m.size → n.size ≤ 1000000 → mu m i fr < d → 3 * d + 1000 ≤ k → aR.l0 k m (i : Int) n nx (fr : Int) = some (jJ m d i n nx fr) := by
 intro d
 induction d with
 | zero => intro i k n nx fr _ _ _ h; omega
 | succ d ih =>
  intro i k n nx fr hi hfr hns hmu hk
  obtain ⟨k, rfl⟩ : ∃ j, k = j + 4 := ⟨k - 4, by omega⟩
  by_cases hn : n.size < 300
  ·by_cases hlt : i < m.size
   ·rw [aR.l0, if_pos (by omega), decide_eq_true (by omega), aR.j2, if_pos rfl, if_pos (by omega), if_pos (by omega), DR hlt]
    have hb := pF m i
    have hb1 := pF m (i + 1)
    rw [jJ]
    unfold pc
    rw [if_pos hlt, bV (x := (by8 m i : Int)) (by omega) (by omega)]
    by_cases h0 : by8 m i = 0
    ·rw [if_pos (show (by8 m i : Int) = 0 by omega), if_pos (show n.size + 1 ≤ 9223372036854775807 by omega), if_neg (show ¬ 192 ≤ by8 m i by omega), if_neg (show ¬ 64 ≤ by8 m i by omega), if_pos (show i + 1 + by8 m i ≤ m.size by omega)]
     simp only []
     rw [if_pos h0, zJ _ _ (by omega), bV (x := (i : Int) + 1) (by omega) (by omega)]
     unfold nxt
     have fin : ∀ x : Int, ((some (bB (n ++ fO))).bind fun t => if t = true then some (n ++ fO, x, (0 : Int)) else some (⟨#[]⟩, 0, 2)) = some (if bB (n ++ fO) = true then (n ++ fO, x, 0) else err) := by
      intro x
      rw [Option.bind_some]
      by_cases hr : bB (n ++ fO) = true
      ·rw [if_pos hr, if_pos hr]
      ·rw [if_neg hr, if_neg hr]; rfl
     by_cases hx : nx < 0
     ·rw [if_pos hx, if_pos hx]; exact fin _
     ·rw [if_neg hx, if_neg hx]; exact fin _
    ·rw [if_neg (by omega)]
     by_cases hp : 192 ≤ by8 m i
     ·rw [if_pos (by omega), if_pos hp, bV (x := (i : Int) + 1) (by omega) (by omega)]
      by_cases h1 : i + 1 < m.size
      ·rw [if_neg (by omega), if_pos (by omega), if_pos (by omega), if_pos h1, show ((i : Int) + 1) = ((i + 1 : Nat) : Int) from rfl, DR h1]
       have e1 : wrap64 ((wrap64 ((wrap64 ((by8 m i : Int) - 192)) * 256)) + (wrap64 (by8 m (i + 1) : Int))) = (((by8 m i - 192) * 256 + by8 m (i + 1) : Nat) : Int) := by
        rw [bV (x := (by8 m i : Int) - 192) (by omega) (by omega), bV (x := ((by8 m i : Int) - 192) * 256) (by omega) (by omega), bV (x := (by8 m (i + 1) : Int)) (by omega) (by omega), bV (by omega) (by omega)]
        omega
       rw [e1]
       simp only []
       generalize (by8 m i - 192) * 256 + by8 m (i + 1) = t
       by_cases hf : fr ≤ t
       ·rw [if_pos (by omega), if_pos hf]; rfl
       ·have hm := Dl (m := m) (i := i) (show t < fr by omega)
        rw [if_neg (by omega), if_neg hf, bV (by omega) (by omega)]
        unfold nxt
        by_cases hx : nx < 0
        ·rw [if_pos hx, if_pos hx]
         exact ih t (k + 2) n _ t (by omega) (by omega) hns (by omega) (by omega)
        ·rw [if_neg hx, if_neg hx]
         exact ih t (k + 2) n _ t (by omega) (by omega) hns (by omega) (by omega)
      ·rw [if_pos (by omega), if_neg h1]; rfl
     ·rw [if_neg (by omega), if_neg hp]
      by_cases h64 : 64 ≤ by8 m i
      ·rw [if_pos (by omega), if_pos h64]; rfl
      ·rw [if_neg (by omega), if_neg h64, bV (x := (i : Int) + 1) (by omega) (by omega), bV (x := (i : Int) + 1 + (by8 m i : Int)) (by omega) (by omega)]
       by_cases hfit : i + 1 + by8 m i ≤ m.size
       ·have hm := Et (fr := fr) (c := by8 m i) hlt
        rw [if_neg (by omega), if_pos (by omega), if_pos (by omega), if_pos hfit]
        simp only []
        have e2 : ((i : Int) + 1 + (by8 m i : Int)).toNat = i + 1 + by8 m i := by omega
        have e3 : wrap64 ((i : Int) + wrap64 (1 + (by8 m i : Int))) = ((i + 1 + by8 m i : Nat) : Int) := by rw [bV (x := 1 + (by8 m i : Int)) (by omega) (by omega), bV (by omega) (by omega)]; omega
        have hes : (m.extract i (i + 1 + by8 m i)).size = 1 + by8 m i := qg hfit
        have hns2 : (n ++ m.extract i (i + 1 + by8 m i)).size ≤ 1000000 := GQ hfit (by omega) hn
        have hmd : mu m (i + 1 + by8 m i) fr < d := by omega
        rw [if_neg h0, Int.toNat_natCast, e2, e3]
        have hle : n.size + (m.extract i (i + 1 + by8 m i)).size ≤ 9223372036854775807 := by omega
        rw [if_pos hle]
        exact ih (i + 1 + by8 m i) (k + 2) (n ++ m.extract i (i + 1 + by8 m i)) nx fr hfit hfr hns2 hmd (by omega)
       ·rw [if_pos (by omega), if_neg hfit]; rfl
   ·rw [aR.l0, if_neg (by omega), aR.j2, if_neg (by decide), jJ]
    unfold pc
    rw [if_neg hlt]; rfl
  ·rw [vk m (d + 1) i n nx fr (by omega), aR.l0]
   by_cases hlt : i < m.size
   ·rw [if_pos (by omega), decide_eq_false (by omega), aR.j2, if_neg (by decide)]; rfl
   ·rw [if_neg (by omega), aR.j2, if_neg (by decide)]; rfl
def jr (m : ByteArray) (i : Nat) : ByteArray × Int × Int := jJ m (mu m i i + 1) i ⟨#[]⟩ (-1) i
def fuel (m : ByteArray) : Nat := 3 * (m.size * (m.size + 1) + m.size + 1) + 1003
theorem Av {m : ByteArray} {i : Nat} (h : i ≤ m.size) : mu m i i ≤ m.size * (m.size + 1) + m.size := by
 unfold mu
 have := Nat.mul_le_mul_right (m.size + 1) h
 omega
theorem Jk (m : ByteArray) (hs : m.size ≤ 1000000) (i k : Nat) (hi : i ≤ m.size) (hk : fuel m ≤ k) : bP.f k m (i : Int) = some (jr m i) := by
 have := Av hi
 unfold fuel at hk
 obtain ⟨k, rfl⟩ : ∃ j, k = j + 1 := ⟨k - 1, by omega⟩
 unfold bP.f
 rw [if_neg (by omega), decide_eq_false (by omega), bP.j0, if_neg (by decide)]
 exact pread m hs _ i k _ _ i hi hi (Nat.lt_succ_self _) (by omega)
theorem Aw (m : ByteArray) (hs : m.size ≤ 1000000) (i k : Nat) (hi : i ≤ m.size) (hk : fuel m ≤ k) : aR.f k m (i : Int) = some (jr m i) := by
 have := Av hi
 unfold fuel at hk
 obtain ⟨k, rfl⟩ : ∃ j, k = j + 1 := ⟨k - 1, by omega⟩
 unfold aR.f
 rw [if_neg (by omega), decide_eq_false (by omega), aR.j0, if_neg (by decide)]
 exact JZ m hs _ i k _ _ i hi hi (by decide) (Nat.lt_succ_self _) (by omega)
end Go.Y.lH
namespace Go.Y.mg
open Go.Y.PRd Go.Proofs.aj.aA Go.Proofs.aj.aM Go.Proofs.aj.aN Go.Y.Given Go.Y.Oct
theorem qK {x : Int} (h0 : 0 ≤ x) (h1 : x < 18446744073709551616) : IntKind.u64.wrap x = x := by
 simp only [IntKind.wrap, IntKind.bits, IntKind.signed]; simp; omega
theorem bV {x : Int} (h0 : -9223372036854775808 ≤ x) (h1 : x ≤ 9223372036854775807) : wrap64 x = x := by unfold wrap64; omega
theorem jF (l : List ByteArray) (i : Nat) (h : i < l.length) : dz ByteArray.empty l (i : Int) = l[i] := by
 unfold dz; rw [Int.toNat_natCast, List.getD_eq_getElem?_getD, List.getElem?_eq_getElem h]; rfl
theorem jB (b : ByteArray) (i : Nat) (h : i < b.size) : bt b (i : Int) = ((b.data.toList[i]'(by rw [bR]; exact h)).toNat : Int) := by
 unfold bt
 rw [Int.toNat_natCast, dif_pos h]; rfl
theorem EX (b : ByteArray) (hb : b.size ≤ 8) : ∀ (d i k : Nat), i + d = b.size → d < k → bY.l0 k b (beN (b.data.toList.take i) : Int) (i : Int) = some (beN b.data.toList : Int) := by
 intro d
 induction d with
 | zero =>
  intro i k hi hk
  obtain ⟨k, rfl⟩ : ∃ j, k = j + 1 := ⟨k - 1, by omega⟩
  rw [bY.l0, if_neg (by omega), List.take_of_length_le (by rw [bR]; omega)]
 | succ d ih =>
  intro i k hi hk
  obtain ⟨k, rfl⟩ : ∃ j, k = j + 1 := ⟨k - 1, by omega⟩
  rw [bY.l0, if_pos (by omega), if_pos (by omega), jB b i (by omega)]
  have h1 : i < b.data.toList.length := by rw [bR]; omega
  have h2 : beN (b.data.toList.take (i + 1)) = beN (b.data.toList.take i) * 256 + (b.data.toList[i]).toNat := by
   rw [List.take_succ_eq_append_getElem h1, nW]
  have h3 := uL (b.data.toList.take i)
  rw [List.length_take, Nat.min_eq_left (by omega)] at h3
  have h4 : (256 : Nat) ^ i ≤ 256 ^ 7 := Nat.pow_le_pow_right (by omega) (by omega)
  have h5 := UInt8.toNat_lt (b.data.toList[i])
  rw [qK (x := (beN (b.data.toList.take i) : Int) * 256) (by omega) (by omega), qK (x := ((b.data.toList[i]).toNat : Int)) (by omega) (by omega), qK (by omega) (by omega), bV (by omega) (by omega)]
  have := ih (i + 1) k (by omega) (by omega)
  rw [h2] at this
  rw [← this]
  congr 1
theorem Gg (b : ByteArray) (hb : b.size ≤ 8) (k : Nat) (hk : 9 ≤ k) : bY.f k b = some (beN b.data.toList : Int) :=
 EX b hb b.size 0 k (by omega) (by omega)
theorem qV (n : Int) : gT n = true ↔ n = 1 ∨ n = 2 ∨ n = 4 ∨ n = 8 := by unfold gT; exact decide_eq_true_iff
theorem zx (n : Int) : dS.f n = some (gT n) := by
 unfold dS.f gT
 by_cases h1 : n = 1
 ·simp [h1]
 ·by_cases h2 : n = 2
  ·simp [h2]
  ·by_cases h4 : n = 4
   ·simp [h4]
   ·simp [h1, h2, h4]
    by_cases h8 : n = 8 <;> simp [h8]
theorem IG {n : Nat} (h : n ≤ 8) : 256 ^ n ≤ 18446744073709551616 := by
 have : (256 : Nat) ^ n ≤ 256 ^ 8 := Nat.pow_le_pow_right (by omega) h
 omega
theorem yK (n : Int) : (gT n = true ∧ ¬ (n = 8)) ↔ (n = 1 ∨ n = 2 ∨ n = 4) := by rw [qV]; omega
def He (b : ByteArray) (n : Int) : ByteArray × ByteArray × Int :=
 if n = 1 ∨ n = 2 ∨ n = 4 then
  match dZ b n.toNat with
  | some (s, r) => (s, r, 0)
  | none => (⟨#[]⟩, ⟨#[]⟩, 2)
 else (⟨#[]⟩, ⟨#[]⟩, 1)
theorem JN (b : ByteArray) (n : Int) (k : Nat) (hb : b.size ≤ 100000000) (hk : 20 ≤ k) : cO.f k b n = some (He b n) := by
 obtain ⟨k, rfl⟩ : ∃ j, k = j + 1 := ⟨k - 1, by omega⟩
 unfold cO.f He
 rw [zx, Option.bind_some]
 by_cases h : n = 1 ∨ n = 2 ∨ n = 4
 ·have hw := (yK n).mpr h
  rw [if_pos hw.1, if_pos h, cO.j0, if_neg (by simp [hw.2])]
  obtain ⟨m, rfl⟩ := Int.eq_ofNat_of_zero_le (show 0 ≤ n by omega)
  rw [Int.toNat_natCast]
  by_cases hm : m ≤ b.size
  ·have h1 := uL (b.data.toList.take m)
   rw [take_size b m hm] at h1
   have h2 := IG (n := m) (by omega)
   rw [if_neg (by omega), if_pos (by omega), if_pos (by omega), Gg _ (by rw [ext_size _ _ hm]; omega) k (by omega), ext_list, Option.bind_some, bV (x := (b.size : Int) - (m : Int)) (by omega) (by omega), qK (by omega) (by omega), dZ, if_pos hm]
   by_cases hc : beN (b.data.toList.take m) ≤ b.size - m
   ·rw [if_neg (by omega), if_pos hc, bV (x := (beN (b.data.toList.take m) : Int)) (by omega) (by omega), bV (by omega) (by omega), if_pos (by omega), if_pos (by omega), if_pos (by omega)]
    rw [show ((m : Int) + (beN (b.data.toList.take m) : Int)).toNat = m + beN (b.data.toList.take m) from by omega]
   ·rw [if_pos (by omega), if_neg hc]
  ·rw [if_pos (by omega), dZ, if_neg hm]
 ·rw [if_neg h]
  by_cases hw : gT n = true
  ·have h8 : n = 8 := by have := (qV n).mp hw; omega
   rw [if_pos hw, cO.j0, if_pos (by simp [h8])]
  ·rw [if_neg hw, cO.j0, if_pos rfl]
def jm (b : ByteArray) (n : Int) : List ByteArray × Int :=
 if n = 1 ∨ n = 2 ∨ n = 4 then
  match iD n.toNat b.size b [] with
  | some xs => (xs, 0)
  | none => ([], 2)
 else ([], 1)
theorem nS (b : ByteArray) (n : Int) (hb : b.size < 8796093022208) : fF.f b n = some (jm b n) := by
 unfold fF.f jm
 rw [if_pos hb]
 by_cases h : n = 1 ∨ n = 2 ∨ n = 4
 ·rw [if_pos h, if_pos h]
  cases iD n.toNat b.size b [] <;> rfl
 ·rw [if_neg h, if_neg h]
theorem CO (n : Int) (h : n = 1 ∨ n = 2 ∨ n = 4) : ∀ (d k : Nat) (b : ByteArray) (acc : List ByteArray), b.size ≤ d → d ≤ 100000000 → d + 30 ≤ k → acc.length + d ≤ 100000000 → aZ.l0 k b n acc = some (match iD n.toNat d b acc with | some xs => (xs, 0) | none => ([], 2)) := by
 intro d
 induction d with
 | zero =>
  intro k b acc hb hd hk ha
  obtain ⟨k, rfl⟩ : ∃ j, k = j + 1 := ⟨k - 1, by omega⟩
  rw [aZ.l0, if_neg (by omega), iD, if_pos (by omega)]
 | succ d ih =>
  intro k b acc hb hd hk ha
  obtain ⟨k, rfl⟩ : ∃ j, k = j + 1 := ⟨k - 1, by omega⟩
  rw [aZ.l0, iD]
  by_cases h0 : b.size = 0
  ·rw [if_neg (by omega), if_pos h0]
  ·rw [if_pos (by omega), if_neg h0, JN b n k (by omega) (by omega), Option.bind_some, He, if_pos h]
   cases hc : dZ b n.toNat with
   | none => rfl
   | some x =>
    obtain ⟨s, r⟩ := x
    have hs := uX hc
    show (if (0 : Int) = 0 then _ else _) = _
    rw [if_pos rfl, if_pos (by omega)]
    exact ih k r _ (by omega) (by omega) (by omega) (by simp; omega)
theorem mZ (b : ByteArray) (n : Int) (k : Nat) (hb : b.size ≤ 10000000) (hk : b.size + 40 ≤ k) : aZ.f k b n = some (jm b n) := by
 obtain ⟨k, rfl⟩ : ∃ j, k = j + 1 := ⟨k - 1, by omega⟩
 unfold aZ.f jm
 rw [zx, Option.bind_some]
 by_cases h : n = 1 ∨ n = 2 ∨ n = 4
 ·have hw := (yK n).mpr h
  rw [if_pos hw.1, if_pos h, aZ.j0, if_neg (by simp [hw.2])]
  exact CO n h b.size k b [] (by omega) (by omega) (by omega) (by simp; omega)
 ·rw [if_neg h]
  by_cases hw : gT n = true
  ·have h8 : n = 8 := by have := (qV n).mp hw; omega
   rw [if_pos hw, aZ.j0, if_pos (by simp [h8])]
  ·rw [if_neg hw, aZ.j0, if_pos rfl]
end Go.Y.mg
namespace Go.Y.dL
open Go.Y.PRd Go.Proofs.aj.aA Go.Proofs.aj.aM Go.Proofs.aj.aN Go.Y.Given Go.Y.Oct Go.Y.Name Go.Y.lH
open Go.Y.dX (iR kD jP mJ jC)
open Go.Y.mg (jm nS mZ bV jB jF)
def FU : Nat := 3 * (1000000 * 1000001 + 1000001) + 5000
theorem Ba {m : ByteArray} (h : m.size ≤ 1000000) : fuel m + 3000 ≤ FU := by
 unfold fuel FU
 have : m.size * (m.size + 1) ≤ 1000000 * 1000001 := Nat.mul_le_mul h (by omega)
 omega
def dW (t : Int) : List Int := if t = 1 then [4] else if t = 28 then [16] else if t = 2 ∨ t = 5 ∨ t = 12 then [-1] else if t = 15 then [2, -1] else if t = 6 then [-1, -1, 4, 4, 4, 4, 4] else if t = 16 then [-3] else if t = 33 then [2, 2, 2, -2] else [-4]
theorem Ar (t : Int) (k : Nat) (hk : 1 ≤ k) : eD.f k t = some (dW t) := by
 obtain ⟨k, rfl⟩ : ∃ j, k = j + 1 := ⟨k - 1, by omega⟩
 unfold eD.f dW
 by_cases h1 : t = 1
 ·rw [if_pos h1, if_pos h1]
 ·rw [if_neg h1, if_neg h1]
  by_cases h2 : t = 28
  ·rw [if_pos h2, if_pos h2]
  ·rw [if_neg h2, if_neg h2]
   by_cases h3 : t = 2
   ·subst h3; rfl
   ·by_cases h4 : t = 5
    ·subst h4; rfl
    ·by_cases h5 : t = 12
     ·subst h5; rfl
     ·rw [if_neg h3, if_neg h4, if_neg (show ¬ (t = 2 ∨ t = 5 ∨ t = 12) by omega), eD.j0, if_neg (by simp [h5])]
      by_cases h6 : t = 15
      ·rw [if_pos h6, if_pos h6]
      ·rw [if_neg h6, if_neg h6]
       by_cases h7 : t = 6
       ·rw [if_pos h7, if_pos h7]
       ·rw [if_neg h7, if_neg h7]
        by_cases h8 : t = 16
        ·rw [if_pos h8, if_pos h8]
        ·rw [if_neg h8, if_neg h8]
         by_cases h9 : t = 33
         ·rw [if_pos h9, if_pos h9]
         ·rw [if_neg h9, if_neg h9]
def Kind (kind : Int) : Prop := kind = -1 ∨ kind = -2 ∨ kind = -3 ∨ kind = -4 ∨ kind = 2 ∨ kind = 4 ∨ kind = 16
theorem uS (t : Int) : ∀ x ∈ dW t, Kind x := by
 intro x hx
 unfold dW at hx
 unfold Kind
 repeat' split at hx
 all_goals simp at hx; omega
theorem kJ (t : Int) : (dW t).length ≤ 7 := by
 unfold dW
 repeat' split
 all_goals simp
def jq (B : ByteArray) (at_ : Nat) (kind : Int) : Option (ByteArray × Nat) :=
 if kind = -1 then (if (jr B at_).2.2 = 0 then some ((jr B at_).1, (jr B at_).2.1.toNat) else none)
 else if kind = -2 then (if (jr B at_).2.2 = 0 ∧ (jr B at_).1 = B.extract at_ (jr B at_).2.1.toNat then some ((jr B at_).1, (jr B at_).2.1.toNat) else none)
 else if kind = -3 then (if (jm (B.extract at_ B.size) 1).2 = 0 ∧ 0 < (jm (B.extract at_ B.size) 1).1.length then some (B.extract at_ B.size, B.size) else none)
 else if kind = -4 then some (B.extract at_ B.size, B.size)
 else if kind > (B.size : Int) - at_ then none else some (B.extract at_ (at_ + kind.toNat), at_ + kind.toNat)
theorem lZ (m : ByteArray) : ∀ (d i : Nat) (n : ByteArray) (nx : Int) (fr : Nat) (x : ByteArray) (y : Int), jJ m d i n nx fr = (x, y, 0) → (0 ≤ nx → y = nx) ∧ (nx < 0 → (i : Int) < y ∧ y ≤ m.size) ∧ (x.size = n.size + 1 ∨ n.size + 3 ≤ x.size) ∧ x.size ≤ 255 := by
 intro d
 induction d with
 | zero => intro i n nx fr x y h; rw [jJ, err] at h; simp at h
 | succ d ih =>
  intro i n nx fr x y h
  rw [jJ] at h
  split at h
  ·rw [err] at h; simp at h
  ·rename_i t hp
   have hp := zy hp
   split at h
   ·rw [err] at h; simp at h
   ·obtain ⟨h1, h2, h3, h4⟩ := ih _ _ _ _ _ _ h
    have hn : 0 ≤ nxt nx (i + 2) := by unfold nxt; split <;> omega
    refine ⟨fun hx => ?_, fun hx => ?_, h3, h4⟩
    ·rw [h1 hn]; unfold nxt; rw [if_neg (by omega)]
    ·rw [h1 hn]; unfold nxt; rw [if_pos hx]; omega
  ·rename_i c hp
   have hp := zi hp
   split at h
   ·split at h
    ·rename_i hr
     simp only [Prod.mk.injEq] at h
     obtain ⟨rfl, rfl, _⟩ := h
     refine ⟨fun hx => by unfold nxt; rw [if_neg (by omega)], fun hx => ?_, .inl (by rw [ByteArray.size_append]; rfl), qx hr⟩
     unfold nxt; rw [if_pos hx]; omega
    ·rw [err] at h; simp at h
   ·obtain ⟨h1, h2, h3, h4⟩ := ih _ _ _ _ _ _ h
    have hz := qg (m := m) (i := i) (c := c) (by omega)
    refine ⟨h1, fun hx => ?_, ?_, h4⟩
    ·have := h2 hx; omega
    ·rw [ByteArray.size_append, hz] at h3; right; omega
theorem zW (m : ByteArray) : ∀ (d i : Nat) (n : ByteArray) (nx : Int) (fr : Nat) (x : ByteArray) (y : Int), nx < 0 → jJ m d i n nx fr = (x, y, 0) → x = n ++ m.extract i y.toNat ∨ (x.size : Int) ≠ n.size + (y - i) ∧ 0 < fr := by
 intro d
 induction d with
 | zero => intro i n nx fr x y hx h; rw [jJ, err] at h; simp at h
 | succ d ih =>
  intro i n nx fr x y hx h
  have hnext := lZ m (d + 1) i n nx fr x y h
  rw [jJ] at h
  split at h
  ·rw [err] at h; simp at h
  ·rename_i t hp
   have hp := zy hp
   split at h
   ·rw [err] at h; simp at h
   ·right
    obtain ⟨h1, h2, h3, h4⟩ := lZ _ _ _ _ _ _ _ _ h
    have hn : 0 ≤ nxt nx (i + 2) := by unfold nxt; split <;> omega
    have hy : y = (i : Int) + 2 := by rw [h1 hn]; unfold nxt; rw [if_pos hx]; omega
    refine ⟨?_, by omega⟩
    rw [hy]
    rcases h3 with e | e <;> omega
  ·rename_i c hp
   have hp' := zi hp
   split at h
   ·rename_i h0
    split at h
    ·simp only [Prod.mk.injEq] at h
     obtain ⟨rfl, rfl, _⟩ := h
     left
     congr 1
     unfold nxt; rw [if_pos hx, Int.toNat_natCast]
     exact (yL hp'.1 (by omega)).symm
    ·rw [err] at h; simp at h
   ·have hy := lZ _ _ _ _ _ _ _ _ h
    have hz := qg (m := m) (i := i) (c := c) (by omega)
    rcases ih _ _ _ _ _ _ hx h with e | e
    ·left
     have := hy.2.1 hx
     rw [e]
     apply fK
     rw [gZ, gZ, gZ, List.append_assoc]
     congr 1
     obtain ⟨q, hq⟩ : ∃ q, y.toNat = i + 1 + c + q := ⟨y.toNat - (i + 1 + c), by omega⟩
     rw [hq, show i + 1 + c = i + (1 + c) by omega, je, je, show i + (1 + c) + q = i + ((1 + c) + q) by omega, je, show ∀ L : List UInt8, L.take (1 + c + q) = L.take (1 + c) ++ (L.drop (1 + c)).take q from fun L => List.take_add, List.drop_drop]
    ·right
     rw [ByteArray.size_append, hz] at e
     omega
theorem kI {B : ByteArray} {at_ : Nat} (h : (jr B at_).2.2 = 0) : ∃ (x : ByteArray) (y : Nat), jr B at_ = (x, (y : Int), 0) ∧ at_ < y ∧ y ≤ B.size ∧ (x = B.extract at_ y ∨ x.size ≠ y - at_ ∧ 0 < at_) := by
 obtain ⟨x, y, c, hr⟩ : ∃ x y c, jr B at_ = (x, y, c) := ⟨_, _, _, rfl⟩
 rw [hr] at h
 simp only at h
 subst h
 have h1 := lZ B _ at_ _ _ _ x y hr
 have h2 := zW B _ at_ _ _ _ x y (by decide) hr
 have hb := h1.2.1 (by decide)
 obtain ⟨z, rfl⟩ := Int.eq_ofNat_of_zero_le (show 0 ≤ y by omega)
 refine ⟨x, z, hr, by omega, by omega, ?_⟩
 rcases h2 with e | e
 ·left
  rw [e, Int.toNat_natCast]
  apply fK; rw [gZ]; simp
 ·right
  have hz : (⟨#[]⟩ : ByteArray).size = 0 := rfl
  omega
theorem qP {a b : ByteArray} : (a.toList == b.toList) = decide (a = b) := by
 by_cases h : a = b
 ·rw [h]; simp
 ·rw [decide_eq_false h]
  refine beq_eq_false_iff_ne.mpr fun e => h (fK ?_)
  rw [ByteArray.toList_eq, ByteArray.toList_eq] at e; exact e
theorem Jr (B : ByteArray) (at_ : Nat) (kind : Int) (k : Nat) (hle : at_ ≤ B.size) (hB : B.size ≤ 1000000) (hkind : Kind kind) (hk : FU ≤ k) :
  ∃ s n ok, eZ.f k B (at_ : Int) (B.size : Int) kind = some (s, n, ok) ∧ match jq B at_ kind with | some (s', n') => ok = true ∧ s = s' ∧ n = (n' : Int) | none => ok = false := by
 have hf := Ba hB
 obtain ⟨k, rfl⟩ : ∃ j, k = j + 1 := ⟨k - 1, by omega⟩
 have hread := Jk B hB at_ k hle (by omega)
 have hcut : B.extract 0 ((B.size : Nat) : Int).toNat = B := by rw [Int.toNat_natCast]; exact jC B
 have hmid : B.extract ((at_ : Nat) : Int).toNat ((B.size : Nat) : Int).toNat = B.extract at_ B.size := by rw [Int.toNat_natCast, Int.toNat_natCast]
 unfold eZ.f jq
 by_cases h1 : kind = -1
 ·subst h1
  rw [if_pos rfl, eZ.j0, if_pos (by decide), if_pos (by omega), if_pos (by omega), hcut, hread, Option.bind_some, if_pos rfl]
  by_cases hr : (jr B at_).2.2 = 0
  ·obtain ⟨x, y, e, _⟩ := kI hr
   rw [if_pos hr, if_pos rfl, if_pos hr, e]
   exact ⟨_, _, _, rfl, rfl, rfl, by simp⟩
  ·rw [if_neg hr, if_neg hr]
   exact ⟨_, _, _, rfl, rfl⟩
 ·rw [if_neg h1, if_neg h1]
  by_cases h2 : kind = -2
  ·subst h2
   rw [eZ.j0, if_pos (by decide), if_pos (by omega), if_pos (by omega), hcut, hread, Option.bind_some, if_pos rfl]
   by_cases hr : (jr B at_).2.2 = 0
   ·obtain ⟨x, y, e, h3, h4, _⟩ := kI hr
    rw [if_pos hr, if_neg (by decide), e]
    simp only
    rw [if_pos (by omega), if_pos (by omega), if_pos (by omega), Int.toNat_natCast, Int.toNat_natCast, qP]
    by_cases hx : x = B.extract at_ y
    ·rw [if_pos ⟨trivial, hx⟩, decide_eq_true hx]
     exact ⟨_, _, _, rfl, by simp⟩
    ·rw [if_neg (fun e => hx e.2), decide_eq_false hx]
     exact ⟨_, _, _, rfl, rfl⟩
   ·rw [if_neg hr, if_neg (fun e => hr e.1)]
    exact ⟨_, _, _, rfl, rfl⟩
  ·rw [if_neg h2, eZ.j0, if_neg (by simp [h2])]
   by_cases h3 : kind = -3
   ·subst h3
    rw [if_pos rfl, if_pos rfl, if_pos (by omega), if_pos (by omega), if_pos (by omega), hmid, nS _ _ (by rw [ByteArray.size_extract]; omega), Option.bind_some]
    by_cases hp : (jm (B.extract at_ B.size) 1).2 = 0
    ·rw [if_pos hp]
     by_cases hl : 0 < (jm (B.extract at_ B.size) 1).1.length
     ·rw [if_pos ⟨hp, hl⟩, decide_eq_true (by omega)]
      exact ⟨_, _, _, rfl, rfl, rfl, rfl⟩
     ·rw [if_neg (fun e => hl e.2), decide_eq_false (by omega)]
      exact ⟨_, _, _, rfl, rfl⟩
    ·rw [if_neg hp, if_neg (fun e => hp e.1)]
     exact ⟨_, _, _, rfl, rfl⟩
   ·rw [if_neg h3, if_neg h3]
    by_cases h4 : kind = -4
    ·subst h4
     rw [if_pos rfl, if_pos rfl, if_pos (by omega), if_pos (by omega), if_pos (by omega), hmid]
     exact ⟨_, _, _, rfl, rfl, rfl, rfl⟩
    ·rw [if_neg h4, if_neg h4, bV (by omega) (by omega)]
     by_cases h5 : kind > (B.size : Int) - at_
     ·rw [if_pos h5, if_pos h5]
      exact ⟨_, _, _, rfl, rfl⟩
     ·have hk0 : 0 ≤ kind := by unfold Kind at hkind; omega
      rw [if_neg h5, if_neg h5, bV (by omega) (by omega), if_pos (by omega), if_pos (by omega), if_pos (by omega)]
      refine ⟨_, _, _, rfl, rfl, ?_, by omega⟩
      congr 1; omega
theorem mV {B : ByteArray} {at_ : Nat} {kind : Int} {s : ByteArray} {n : Nat} (hle : at_ ≤ B.size) (hk : Kind kind) (h : jq B at_ kind = some (s, n)) : at_ ≤ n ∧ n ≤ B.size ∧ (s = B.extract at_ n ∨ kind = -1 ∧ s.size ≠ n - at_ ∧ 0 < at_) := by
 unfold jq at h
 split at h
 ·split at h
  ·rename_i hr
   obtain ⟨x, y, e, h1, h2, h3⟩ := kI hr
   rw [e] at h
   simp only [Option.some.injEq, Prod.mk.injEq, Int.toNat_natCast] at h
   obtain ⟨rfl, rfl⟩ := h
   refine ⟨by omega, h2, ?_⟩
   rcases h3 with e | e
   ·exact .inl e
   ·exact .inr ⟨by assumption, e⟩
  ·cases h
 ·split at h
  ·split at h
   ·rename_i hr
    obtain ⟨x, y, e, h1, h2, h3⟩ := kI hr.1
    have hrr := hr.2
    rw [e] at h hrr
    simp only [Option.some.injEq, Prod.mk.injEq, Int.toNat_natCast] at h hrr
    obtain ⟨rfl, rfl⟩ := h
    exact ⟨by omega, h2, .inl hrr⟩
   ·cases h
  ·split at h
   ·split at h
    ·simp only [Option.some.injEq, Prod.mk.injEq] at h
     obtain ⟨rfl, rfl⟩ := h
     exact ⟨hle, Nat.le_refl _, .inl rfl⟩
    ·cases h
   ·split at h
    ·simp only [Option.some.injEq, Prod.mk.injEq] at h
     obtain ⟨rfl, rfl⟩ := h
     exact ⟨hle, Nat.le_refl _, .inl rfl⟩
    ·split at h
     ·cases h
     ·simp only [Option.some.injEq, Prod.mk.injEq] at h
      obtain ⟨rfl, rfl⟩ := h
      unfold Kind at hk
      exact ⟨by omega, by omega, .inl rfl⟩
end Go.Y.dL
namespace Go.Y.tY
open Go.Proofs.aj.aA
structure Tch (S : Nat → Prop) (w w' : World) : Prop where
 os : w'.os = w.os
 tape : w'.tape = w.tape
 output : w'.output = w.output
 size : w.heap.size ≤ w'.heap.size
 block : ∀ k, k < w.heap.size → ¬ S k → w'.heap[k]? = w.heap[k]?
theorem Tch.refl (S : Nat → Prop) (w : World) : Tch S w w := ⟨rfl, rfl, rfl, Nat.le_refl _, fun _ _ _ => rfl⟩
theorem Tch.mono {S S' : Nat → Prop} {w w' : World} (h : Tch S w w') (hs : ∀ k, k < w.heap.size → S k → S' k) : Tch S' w w' := ⟨h.os, h.tape, h.output, h.size, fun k hk hn => h.block k hk fun hS => hn (hs k hk hS)⟩
theorem Tch.trans {S S' : Nat → Prop} {a b c : World} (h : Tch S a b) (h' : Tch S' b c) (hs : ∀ k, k < a.heap.size → S' k → S k) : Tch S a c :=
 ⟨h'.os.trans h.os, h'.tape.trans h.tape, h'.output.trans h.output, Nat.le_trans h.size h'.size, fun k hk hn => (h'.block k (Nat.lt_of_lt_of_le hk h.size) fun hS => hn (hs k hk hS)).trans (h.block k hk hn)⟩
theorem Tch.tQ {S : Nat → Prop} {w w' : World} {row : Option Nat} (h : w.grownBy w' row) (hs : ∀ k, row = some k → S k) : Tch S w w' := ⟨h.os, h.tape, h.output, h.size, fun k hk hn => h.block k hk fun e => hn (hs k e.symm)⟩
theorem Tch.setCell {S : Nat → Prop} {w : World} {p : Addr} (hp : S p.block) (u : Value) : Tch S w (w.setCell p u) := ⟨rfl, rfl, rfl, by simp [World.setCell], fun k hk hn => Below.heap_setCell _ _ _ _ fun e => hn (e ▸ hp)⟩
theorem Tch.of_below {S : Nat → Prop} {w w' : World} (h : Below w.heap.size w w') : Tch S w w' := ⟨h.os, h.tape, h.output, h.size, fun k hk _ => h.block k hk⟩
theorem Tch.below {S : Nat → Prop} {w w' : World} {B : Nat} (h : Tch S w w') (hB : B ≤ w.heap.size) (hs : ∀ k, S k → B ≤ k) : Below B w w' := ⟨h.os, h.tape, h.output, h.size, fun k hk => h.block k (by omega) fun hS => by have := hs k hS; omega⟩
theorem Tch.alloc {S : Nat → Prop} (w : World) (o : Obj) : Tch S w (w.alloc o) := Tch.tQ (World.grownBy_alloc w o Option.none) (by simp)
theorem Tch.fresh {S S' : Nat → Prop} {a b c : World} (h : Tch S a b) (h' : Tch S' b c) (hs : ∀ k, S' k → S k ∨ a.heap.size ≤ k) : Tch S a c :=
  h.trans h' fun k hk hS => by rcases hs k hS with e | e; · exact e
                               · omega
theorem Ih {α : Type} {d : Kd α} {e : Nat} {w w1 : World} {base : Nat} {ok : Nat → Prop} {v : Value} {xs : List α} {S : Nat → Prop} (h : Kd.R d e w base ok v xs) (ht : Tch S w w1) (hn : ∀ k, ok k → k < w.heap.size → ¬ S k) : Kd.R d e w1 base ok v xs :=
 Kd.rE h fun k hk hlt => ht.block k hlt (hn k hk hlt)
end Go.Y.tY
namespace Go.Y.oF
open Go.Proofs.aj.aA Go.Proofs.aj.aM Go.Proofs.aj.aN Go.Y.Given Go.Y.PRd Go.Y.tY
def om (k : Nat) (msg : ByteArray) (en : Int) : List Int → Int → Option (List (Int × ByteArray) × Bool)
 | [], at_ => some ([], at_ == en)
 | kind :: ks, at_ => (eZ.f k msg at_ en kind).bind fun r => if r.2.2 = true then (om k msg en ks r.2.1).map fun x => ((kind, r.1) :: x.1, x.2) else some ([], false)
structure Ct (g : Nat) (cb : Array Value) (St : List (Int × ByteArray) → (Nat → Prop) → World → Prop) : Prop where
 rest : ∀ d F W W', St d F W → Below W.heap.size W W' → ∃ F', St d F' W' ∧ ∀ k, F' k → F k ∨ W.heap.size ≤ k ∧ ∃ c fz, W'.heap[k]? = some (.cells c 5 fz)
 lt : ∀ d F W k, St d F W → F k → k < W.heap.size
 take : ∀ d F W kind s, s.size ≤ 1000000 → d.length < 100 → St d F W → Calls Tryz.prog g (#[.int .i64 kind, .string s] ++ cb) W fun e w' => e = .returned (.tuple #[]) ∧ ∃ F', St (d ++ [(kind, s)]) F' w' ∧ Tch F W w' ∧ ∀ k, F' k → F k ∨ W.heap.size ≤ k
 enters : ∀ args w, (callFunc g args).run Tryz.prog w = .ok (.enter g args) w
theorem zl {g : Nat} {cb : Array Value} {St : List (Int × ByteArray) → (Nat → Prop) → World → Prop} (T : Ct g cb St) (k : Nat) (msg : ByteArray) (at0 en t : Int) (ks : List Int) (hks : eD.f k t = some ks)
  (d0 pieces : List (Int × ByteArray)) (b : Bool) (hw : om k msg en ks at0 = some (pieces, b)) (F : Nat → Prop) (w : World) (hst : St d0 F w) (hn : ks.length ≤ 100) (hps : ∀ x ∈ pieces, x.2.size ≤ 1000000) (hd0 : d0.length + pieces.length ≤ 100) :
  Calls Tryz.prog 118 #[.string msg, .int .i64 at0, .int .i64 en, .int .i64 t, .func (.func g) #[] cb] w fun e w' =>
   e = .returned (.bool b) ∧ ∃ F', St (d0 ++ pieces) F' w' ∧ Tch F w w' ∧ ∀ k, F' k → F k ∨ w.heap.size ≤ k := by
 have HT := Lib.hid T
 have HE := T.enters
 have HKS := Lib.hid hks
 have HW := Lib.hid hw
 have HPS := Lib.hid hps
 have HD0 := Lib.hid hd0
 have HST := Lib.hid hst
 clear hks hw hst T hps hd0
 go_enter Tryz.func118, Tryz.ntmps118
 go_wp2_with fail
 refine (eD.calls k t ks _ HKS.out).mono ?_
 rintro e w1 ⟨v, rfl, hr, hb⟩
 obtain ⟨A, c, rfl, hcl, hC⟩ := Kd.mH hr
 have HR := Lib.hid hr
 obtain ⟨F1, h1, hf1⟩ := HT.out.rest _ _ _ _ HST.out hb
 have H1 := Lib.hid (show St (d0 ++ []) F1 w1 from by rw [List.append_nil]; exact h1)
 have HF := Lib.hid (show ∀ k, F k → k < w.heap.size from fun k hk => HT.out.lt _ _ _ k HST.out hk)
 have HF1 := Lib.hid hf1
 clear h1 hf1
 have HB := Lib.hid hb
 clear hr hb hC
 go_wp2_with fail
 go_loopw [1, 19] (fun v1 v19 wr => ∃ (i : Nat) (at_ : Int) (done rest : List (Int × ByteArray)) (F' : Nat → Prop), i ≤ ks.length ∧ v1 = .int .i64 at_ ∧ v19 = .int .i64 i ∧ Hid (om k msg en (ks.drop i) at_ = some (rest, b)) ∧ Hid (pieces = done ++ rest) ∧ Hid (St (d0 ++ done) F' wr) ∧ Hid (Tch F w wr) ∧ Hid (∀ k, F' k → F k ∨ w.heap.size ≤ k) ∧
  Hid (Kd.R (Kd.int .i64) 3 wr w.heap.size (fun k => ¬ F' k) (.slice A ks.length c) ks)) (fun _ v _ => ks.length - (intOf v).toNat)
 case atStart =>
  refine ⟨0, at0, [], pieces, F1, Nat.zero_le _, rfl, rfl, HW, Lib.hid rfl, H1, Lib.hid (Tch.of_below HB.out), Lib.hid (fun k hk => (HF1.out k hk).imp id fun h => h.1), Lib.hid ?_⟩
  refine Kd.dw (Kd.ko HR.out) fun k hk hF => ?_
  rcases HF1.out k hF with e | ⟨_, c, fz, e⟩
  ·have := HF.out k e; omega
  ·obtain ⟨_, _, _, q, hq, cells, hc⟩ := hk
   rw [e] at hc
   injection hc with hc
   injection hc with _ hc _
   rw [← hc] at hq
   revert hq
   decide
 case round =>
  obtain ⟨i, at_, done, rest, F', hi, rfl, rfl, HWK, HP, HS, HTC, HFF, HRR⟩ := hrel
  clear H1 HW HB HR
  obtain ⟨A', c', hsl, _, hC⟩ := Kd.mH HRR.out
  by_cases hlt : i < ks.length
  ·have t0 : decide ((i : Int) < (ks.length : Int)) = true := decide_eq_true (by omega)
   injection hsl with hA _ hcc
   subst hA
   subst hcc
   obtain ⟨ad, rfl, hcell⟩ := Kd.nX hC (i : Int) (by omega) (by omega)
   have hrd : rd ks (i : Int) = ks[i] := by unfold rd; rw [Int.toNat_natCast, List.getD_eq_getElem?_getD, List.getElem?_eq_getElem hlt]; rfl
   rw [hrd, Int.toNat_natCast] at hcell
   have hwk := HWK.out
   rw [List.drop_eq_getElem_cons hlt, om] at hwk
   obtain ⟨kind, hkd⟩ : ∃ x, ks[i] = x := ⟨_, rfl⟩
   rw [hkd] at hcell hwk
   obtain ⟨⟨s, next, ok⟩, hpart, hwk⟩ := Option.bind_eq_some_iff.mp hwk
   have HPART := Lib.hid hpart
   have HWK2 := Lib.hid hwk
   clear hpart hwk HWK hC hkd hrd
   go_wp2_with fail
   refine (eZ.calls k msg at_ en kind s next ok _ HPART.out).mono ?_
   rintro e w2 ⟨rfl, hb2⟩
   obtain ⟨F2, hs2, hf2⟩ := HT.out.rest _ _ _ _ HS.out hb2
   have HS2 := Lib.hid hs2
   have HTC2 := Lib.hid (HTC.out.trans (Tch.of_below (S := F) hb2) fun _ _ h => h)
   have HFF2 := Lib.hid (show ∀ k, F2 k → F k ∨ w.heap.size ≤ k from fun k hk => by
    rcases hf2 k hk with e | e
    ·exact HFF.out k e
    ·have := HTC.out.size; exact .inr (by omega))
   have HR2 := Lib.hid (show Kd.R (Kd.int .i64) 3 w2 w.heap.size (fun k => ¬ F2 k) (.slice (some ad) ks.length c) ks from by
    refine Kd.dw (Kd.aU (Kd.ko HRR.out) hb2) fun k hk hF => ?_
    rcases hf2 k hF with e | e
    ·exact hk.1 e
    ·omega)
   have HSZ2 := Lib.hid hb2.size
   clear hb2 HS HTC HRR hcell hs2 hf2 HFF
   cases ok with
   | false =>
    have hwk := HWK2.out
    rw [if_neg (by decide)] at hwk
    injection hwk with hwk
    injection hwk with h1 h2
    subst h1 h2
    have HPP := Lib.hid (show pieces = done from by rw [HP.out, List.append_nil])
    clear hwk HWK2 HP
    go_wp2_with fail
    go_ret
    exact ⟨rfl, F2, by rw [HPP.out]; exact HS2.out, HTC2.out, HFF2.out⟩
   | true =>
    have hwk := HWK2.out
    rw [if_pos rfl] at hwk
    obtain ⟨⟨rest', b'⟩, hwk2, hwk3⟩ := Option.map_eq_some_iff.mp hwk
    injection hwk3 with h1 h2
    subst h1 h2
    have HWK3 := Lib.hid hwk2
    clear hwk hwk2 HWK2
    have hg := HT.out.take _ _ w2 kind s (HPS.out (kind, s) (by rw [HP.out]; simp)) (by have h1 := HD0.out; have h2 := congrArg List.length HP.out; simp at h2 ⊢; omega) HS2.out
    have HG := Lib.hid hg
    clear hg
    go_wp2_with fail
    refine (HG.out).mono ?_
    rintro e w3 ⟨rfl, F3, hs3, ht3, hf3⟩
    have hsz := HTC2.out.size
    have HS3 := Lib.hid hs3
    have HTC3 := Lib.hid (HTC2.out.fresh ht3 HFF2.out)
    have HFF3 := Lib.hid (show ∀ k, F3 k → F k ∨ w.heap.size ≤ k from fun k hk => by
     rcases hf3 k hk with e | e
     ·exact HFF2.out k e
     ·exact .inr (by omega))
    have hr3 : Kd.R (Kd.int .i64) 3 w3 w.heap.size (fun k => ¬ F3 k) (.slice (some ad) ks.length c) ks := by
     refine Kd.dw (Ih (Kd.ko HR2.out) ht3 fun k hk _ => hk.1) fun k hk hF => ?_
     rcases hf3 k hF with e | e
     ·exact hk.1 e
     ·omega
    have HR3 := Lib.hid hr3
    have HP3 := Lib.hid (show pieces = (done ++ [(kind, s)]) ++ rest' from by rw [HP.out]; simp)
    clear hs3 ht3 hf3 hr3 HP HG HS2 HTC2 HR2 HFF2 hsz
    go_wp2_with fail
    refine ⟨⟨i + 1, next, done ++ [(kind, s)], rest', F3, by omega, rfl, by simp, HWK3, HP3, Lib.hid (by rw [← List.append_assoc]; exact HS3.out), HTC3, HFF3, HR3⟩, by simp [intOf]; omega⟩
  ·obtain rfl : i = ks.length := by omega
   have hwk := HWK.out
   rw [List.drop_of_length_le (Nat.le_refl _), om] at hwk
   injection hwk with hwk
   injection hwk with h1 h2
   subst h1 h2
   have HPP := Lib.hid (show pieces = done from by rw [HP.out, List.append_nil])
   clear HP hC HWK
   go_wp2_with fail
   go_ret
   exact ⟨rfl, F', by rw [HPP.out]; exact HS.out, HTC.out, HFF.out⟩
end Go.Y.oF
namespace Go.Y.dL
open Go.Y.PRd Go.Proofs.aj.aA Go.Proofs.aj.aM Go.Proofs.aj.aN Go.Y.Given Go.Y.Oct Go.Y.Name Go.Y.lH Go.Y.oF
open Go.Y.dX (iR kD jP mJ jC)
open Go.Y.mg (jm nS mZ bV jB jF)
def dK (B : ByteArray) : List Int → Nat → List (Int × ByteArray) × Bool
 | [], at_ => ([], decide (at_ = B.size))
 | kind :: ks, at_ => match jq B at_ kind with
  | some (s, n) => ((kind, s) :: (dK B ks n).1, (dK B ks n).2)
  | none => ([], false)
theorem Di (B : ByteArray) (hB : B.size ≤ 1000000) (k : Nat) (hk : FU ≤ k) : ∀ (ks : List Int) (at_ : Nat), (∀ x ∈ ks, Kind x) → at_ ≤ B.size → om k B (B.size : Int) ks (at_ : Int) = some (dK B ks at_) := by
 intro ks
 induction ks with
 | nil =>
  intro at_ _ _
  rw [om, dK]
  congr 2
  by_cases h : at_ = B.size
  ·rw [h]; simp
  ·rw [decide_eq_false h]; exact beq_eq_false_iff_ne.mpr (by omega)
 | cons kind ks ih =>
  intro at_ hk' hle
  have hkind := hk' kind (List.mem_cons_self ..)
  obtain ⟨s, n, ok, e, hp⟩ := Jr B at_ kind k hle hB hkind hk
  rw [om, e, Option.bind_some, dK]
  cases hpp : jq B at_ kind with
  | none =>
   rw [hpp] at hp
   simp only at hp
   rw [hp]; simp
  | some x =>
   obtain ⟨s', n'⟩ := x
   rw [hpp] at hp
   obtain ⟨rfl, rfl, rfl⟩ := hp
   have hb := mV hle hkind hpp
   simp only [if_true]
   rw [ih n' (fun x hx => hk' x (List.mem_cons_of_mem _ hx)) hb.2.1]; rfl
def tot (l : List (Int × ByteArray)) : Nat := (l.map fun x => x.2.size).sum
def cat (l : List ByteArray) : ByteArray := l.foldl (· ++ ·) ⟨#[]⟩
theorem Jw : ∀ (l : List ByteArray) (a : ByteArray), (l.foldl (· ++ ·) a).data.toList = a.data.toList ++ (l.map fun s => s.data.toList).flatten := by
 intro l
 induction l with
 | nil => intro a; simp
 | cons x l ih => intro a; rw [List.foldl_cons, ih, gZ, List.map_cons, List.flatten_cons, List.append_assoc]
theorem tZ (l : List ByteArray) : (cat l).data.toList = (l.map fun s => s.data.toList).flatten := by unfold cat; rw [Jw]; rfl
theorem pV (l : List (Int × ByteArray)) : (cat (l.map (·.2))).size = tot l := by
 rw [← bR, tZ, List.length_flatten, List.map_map, List.map_map]
 unfold tot
 congr 1
theorem tL {B : ByteArray} {i j k : Nat} (h : i ≤ j) (h' : j ≤ k) : (B.extract i j).data.toList ++ (B.extract j k).data.toList = (B.extract i k).data.toList := by
 obtain ⟨a, rfl⟩ : ∃ a, j = i + a := ⟨j - i, by omega⟩
 obtain ⟨b, rfl⟩ : ∃ b, k = i + a + b := ⟨k - (i + a), by omega⟩
 rw [je, je, show i + a + b = i + (a + b) by omega, je, List.take_add, List.drop_drop]
theorem kN (B : ByteArray) : ∀ (ks : List Int) (at_ : Nat), (∀ x ∈ ks, Kind x ∧ x ≠ -1) → at_ ≤ B.size → (dK B ks at_).2 = true → ((dK B ks at_).1.map fun x => x.2.data.toList).flatten = (B.extract at_ B.size).data.toList := by
 intro ks
 induction ks with
 | nil =>
  intro at_ _ _ h
  rw [dK] at h
  have := of_decide_eq_true h
  subst this
  simp [dK]
 | cons kind ks ih =>
  intro at_ hk hle h
  rw [dK] at h ⊢
  cases hpp : jq B at_ kind with
  | none => rw [hpp] at h; cases h
  | some x =>
   obtain ⟨s, n⟩ := x
   rw [hpp] at h
   simp only at h ⊢
   have hkk := hk kind (List.mem_cons_self ..)
   obtain ⟨h1, h2, h3⟩ := mV hle hkk.1 hpp
   have hs : s = B.extract at_ n := by
    rcases h3 with e | e
    ·exact e
    ·exact absurd e.1 hkk.2
   rw [List.map_cons, List.flatten_cons, ih n (fun x hx => hk x (List.mem_cons_of_mem _ hx)) h2 h, hs]
   exact tL h1 h2
theorem Fj (l : List (Int × ByteArray)) : (l.map fun x => x.2.data.toList).flatten.length = tot l := by
 rw [List.length_flatten, List.map_map]; unfold tot; congr 1
theorem yT (B : ByteArray) (ks : List Int) (at_ : Nat) (hk : ∀ x ∈ ks, Kind x ∧ x ≠ -1) (hle : at_ ≤ B.size) (h : (dK B (-1 :: ks) at_).2 = true) (ht : tot (dK B (-1 :: ks) at_).1 = B.size - at_) :
  ((dK B (-1 :: ks) at_).1.map fun x => x.2.data.toList).flatten = (B.extract at_ B.size).data.toList := by
 rw [dK] at h ht ⊢
 cases hpp : jq B at_ (-1) with
 | none => rw [hpp] at h; cases h
 | some x =>
  obtain ⟨s, n⟩ := x
  rw [hpp] at h ht
  simp only at h ht ⊢
  obtain ⟨h1, h2, h3⟩ := mV hle (.inl rfl) hpp
  have hp := kN B ks n hk h2 h
  have hl := congrArg List.length hp
  rw [Fj, bR, ByteArray.size_extract] at hl
  have hs : s = B.extract at_ n := by
   rcases h3 with e | e
   ·exact e
   ·exfalso
    have : tot ((-1, s) :: (dK B ks n).1) = s.size + tot (dK B ks n).1 := by unfold tot; simp
    rw [this] at ht
    omega
  rw [List.map_cons, List.flatten_cons, hp, hs]
  exact tL h1 h2
theorem CG (B : ByteArray) (kind : Int) (ks : List Int) (hk : Kind kind) (h : (dK B (kind :: ks) 0).2 = true) : ∃ n, n ≤ B.size ∧ (dK B ks n).2 = true ∧ (dK B (kind :: ks) 0).1 = (kind, B.extract 0 n) :: (dK B ks n).1 := by
 rw [dK] at h ⊢
 cases hpp : jq B 0 kind with
 | none => rw [hpp] at h; cases h
 | some x =>
  obtain ⟨s, n⟩ := x
  rw [hpp] at h
  simp only at h ⊢
  obtain ⟨h1, h2, h3⟩ := mV (Nat.zero_le _) hk hpp
  have hs : s = B.extract 0 n := by
   rcases h3 with e | e
   ·exact e
   ·omega
  exact ⟨n, h2, h, by rw [hs]⟩
theorem Bo {B : ByteArray} {n : Nat} (hn : n ≤ B.size) : (B.extract 0 n).size = n := by rw [ByteArray.size_extract]; omega
theorem tT (x : Int × ByteArray) (l : List (Int × ByteArray)) : tot (x :: l) = x.2.size + tot l := by unfold tot; simp
theorem BI (B : ByteArray) (t : Int) (h : (dK B (dW t) 0).2 = true) (ht : tot (dK B (dW t) 0).1 = B.size) : cat ((dK B (dW t) 0).1.map (·.2)) = B := by
 have key : ((dK B (dW t) 0).1.map fun x => x.2.data.toList).flatten = B.data.toList := by
  have hall : (B.extract 0 B.size).data.toList = B.data.toList := by rw [jC]
  have two : ∀ (kind : Int) (ks : List Int), Kind kind → (∀ x ∈ ks, Kind x ∧ x ≠ -1) → (dK B (kind :: -1 :: ks) 0).2 = true → tot (dK B (kind :: -1 :: ks) 0).1 = B.size → ((dK B (kind :: -1 :: ks) 0).1.map fun x => x.2.data.toList).flatten = B.data.toList := by
   intro kind ks hk hks h1 h2
   obtain ⟨n, hn, h3, h4⟩ := CG B kind _ hk h1
   rw [h4, tT, Bo hn] at h2
   rw [h4, List.map_cons, List.flatten_cons, yT B ks n hks hn h3 (by omega), tL (Nat.zero_le _) hn, hall]
  unfold dW at h ht ⊢
  by_cases h1 : t = 1
  ·rw [if_pos h1] at h ht ⊢; rw [kN B _ 0 (by intro x hx; simp at hx; unfold Kind; omega) (Nat.zero_le _) h, hall]
  ·rw [if_neg h1] at h ht ⊢
   by_cases h2 : t = 28
   ·rw [if_pos h2] at h ht ⊢; rw [kN B _ 0 (by intro x hx; simp at hx; unfold Kind; omega) (Nat.zero_le _) h, hall]
   ·rw [if_neg h2] at h ht ⊢
    by_cases h3 : t = 2 ∨ t = 5 ∨ t = 12
    ·rw [if_pos h3] at h ht ⊢; rw [yT B [] 0 (by simp) (Nat.zero_le _) h (by omega), hall]
    ·rw [if_neg h3] at h ht ⊢
     by_cases h4 : t = 15
     ·rw [if_pos h4] at h ht ⊢; exact two 2 [] (by unfold Kind; omega) (by simp) h ht
     ·rw [if_neg h4] at h ht ⊢
      by_cases h5 : t = 6
      ·rw [if_pos h5] at h ht ⊢; exact two (-1) _ (by unfold Kind; omega) (by intro x hx; simp at hx; unfold Kind; omega) h ht
      ·rw [if_neg h5] at h ht ⊢
       by_cases h6 : t = 16
       ·rw [if_pos h6] at h ht ⊢; rw [kN B _ 0 (by intro x hx; simp at hx; unfold Kind; omega) (Nat.zero_le _) h, hall]
       ·rw [if_neg h6] at h ht ⊢
        by_cases h7 : t = 33
        ·rw [if_pos h7] at h ht ⊢; rw [kN B _ 0 (by intro x hx; simp at hx; unfold Kind; omega) (Nat.zero_le _) h, hall]
        ·rw [if_neg h7] at h ht ⊢; rw [kN B _ 0 (by intro x hx; simp at hx; unfold Kind; omega) (Nat.zero_le _) h, hall]
 apply fK
 rw [tZ, List.map_map]
 exact key
def jf (t : Int) (B : ByteArray) : Bool := decide (B.size ≤ 65535) && (dK B (dW t) 0).2 && decide (tot (dK B (dW t) 0).1 = B.size)
def gF (n : ByteArray) : ByteArray := (fU.f n).getD ⟨#[]⟩
def eX (x : Int × ByteArray) : ByteArray := if x.1 = -1 ∨ x.1 = -2 then gF x.2 else x.2
def pX (t : Int) (B : ByteArray) : ByteArray := if jf t B = true then cat ((dK B (dW t) 0).1.map eX) else ⟨#[]⟩
def kindOf (c : Nat) : Int := if c = 110 then -1 else if c = 117 then -2 else if c = 116 then -3 else if c = 111 then -4 else if c = 104 then 16 else (c : Int) - 48
def letters (t : Int) : List UInt8 := if t = 1 then [52] else if t = 28 then [104] else if t = 2 ∨ t = 5 ∨ t = 12 then [110] else if t = 15 then [50, 110] else if t = 6 then [110, 110, 52, 52, 52, 52, 52] else if t = 16 then [116] else if t = 33 then [50, 50, 50, 117] else [111]
theorem qD (t : Int) : (letters t).map (fun c => kindOf c.toNat) = dW t := by
 unfold letters dW
 repeat' split
 all_goals rfl
theorem Gy (t : Int) (k : Nat) (hk : 1 ≤ k) : ∃ p, bW.f k t = some p ∧ p.data.toList = letters t := by
 obtain ⟨k, rfl⟩ : ∃ j, k = j + 1 := ⟨k - 1, by omega⟩
 unfold bW.f letters
 by_cases h1 : t = 1
 ·rw [if_pos h1, if_pos h1]; exact ⟨_, rfl, rfl⟩
 ·rw [if_neg h1, if_neg h1]
  by_cases h2 : t = 28
  ·rw [if_pos h2, if_pos h2]; exact ⟨_, rfl, rfl⟩
  ·rw [if_neg h2, if_neg h2]
   by_cases h3 : t = 2
   ·subst h3; exact ⟨_, rfl, rfl⟩
   ·by_cases h4 : t = 5
    ·subst h4; exact ⟨_, rfl, rfl⟩
    ·by_cases h5 : t = 12
     ·subst h5; exact ⟨_, rfl, rfl⟩
     ·rw [if_neg h3, if_neg h4, if_neg (show ¬ (t = 2 ∨ t = 5 ∨ t = 12) by omega), bW.j0, if_neg (by simp [h5])]
      by_cases h6 : t = 15
      ·rw [if_pos h6, if_pos h6]; exact ⟨_, rfl, rfl⟩
      ·rw [if_neg h6, if_neg h6]
       by_cases h7 : t = 6
       ·rw [if_pos h7, if_pos h7]; exact ⟨_, rfl, rfl⟩
       ·rw [if_neg h7, if_neg h7]
        by_cases h8 : t = 16
        ·rw [if_pos h8, if_pos h8]; exact ⟨_, rfl, rfl⟩
        ·rw [if_neg h8, if_neg h8]
         by_cases h9 : t = 33
         ·rw [if_pos h9, if_pos h9]; exact ⟨_, rfl, rfl⟩
         ·rw [if_neg h9, if_neg h9]; exact ⟨_, rfl, rfl⟩
end Go.Y.dL
namespace Go.Y.dL
open Go.Proofs
open Go.Y.PRd Go.Proofs.aj.aA Go.Proofs.aj.aM Go.Proofs.aj.aN Go.Y.Given Go.Y.Oct Go.Y.Name Go.Y.lH Go.Y.oF
open Go.Y.dX (iR kD jP mJ jC)
open Go.Y.mg (jm nS mZ bV jB jF)
def Letter (c : Nat) : Prop := c = 110 ∨ c = 117 ∨ c = 116 ∨ c = 111 ∨ c = 104 ∨ c = 52 ∨ c = 50
theorem zZ (t : Int) : ∀ c ∈ letters t, Letter c.toNat := by
 intro c hc
 unfold letters at hc
 unfold Letter
 repeat' split at hc
 all_goals
  simp at hc
  rcases hc with rfl | rfl | hc <;> first | decide | (rcases hc with rfl | rfl <;> decide) | skip
theorem IJ {a b : ByteArray} : (a.toList != b.toList) = decide (¬ a = b) := by
 rw [bne, qP]; simp
theorem FV (B : ByteArray) (hB : B.size ≤ 1000000) (p : ByteArray) (hp : ∀ c ∈ p.data.toList, Letter c.toNat) (hps : p.size ≤ 100) : ∀ (d i at_ k : Nat) (acc : List ByteArray), i + d = p.size → at_ ≤ B.size → acc.length + d ≤ 1000 → FU + 4 * d ≤ k →
  ∃ l b, aD.l0 k B (at_ : Int) (B.size : Int) acc p (i : Int) = some (l, b) ∧ b = (dK B ((p.data.toList.drop i).map fun c => kindOf c.toNat) at_).2 ∧ (l = acc ++ (dK B ((p.data.toList.drop i).map fun c => kindOf c.toNat) at_).1.map (·.2) ∨ l = [] ∧ b = false) := by
 intro d
 induction d with
 | zero =>
  intro i at_ k acc hd hle ha hk
  have : 1 ≤ k := by unfold FU at hk; omega
  obtain ⟨k, rfl⟩ : ∃ j, k = j + 1 := ⟨k - 1, by omega⟩
  rw [aD.l0, if_neg (by omega), List.drop_of_length_le (by rw [bR]; omega), List.map_nil, dK]
  refine ⟨_, _, rfl, ?_, Or.inl (by simp)⟩
  by_cases h : at_ = B.size
  ·rw [h]; simp
  ·rw [decide_eq_false h]; exact beq_eq_false_iff_ne.mpr (by omega)
 | succ d ih =>
  intro i at_ k acc hd hle ha hk
  have hf := Ba hB
  have : FU ≥ 5000 := by unfold FU; omega
  obtain ⟨k, rfl⟩ : ∃ j, k = j + 4 := ⟨k - 4, by omega⟩
  have hlt : i < p.size := by omega
  have hbt := jB p i hlt
  have hL := hp (p.data.toList[i]'(by rw [bR]; exact hlt)) (List.getElem_mem _)
  have hdrop : p.data.toList.drop i = p.data.toList[i]'(by rw [bR]; exact hlt) :: p.data.toList.drop (i + 1) := List.drop_eq_getElem_cons _
  rw [hdrop, List.map_cons]
  generalize (p.data.toList[i]'(by rw [bR]; exact hlt)).toNat = c at hbt hL
  have hnext := Lib.hid (show wrap64 ((i : Int) + 1) = ((i + 1 : Nat) : Int) from by rw [bV (by omega) (by omega)]; omega)
  rw [dK]
  -- what is done behind a part
  have go : ∀ (j n : Nat) (s : ByteArray), FU + 4 * d ≤ j → n ≤ B.size → ∃ l b, aD.l0 j B (n : Int) (B.size : Int) (acc ++ [s]) p (wrap64 ((i : Int) + 1)) = some (l, b) ∧ b = (dK B ((p.data.toList.drop (i + 1)).map fun c => kindOf c.toNat) n).2 ∧ (l = acc ++ (s :: (dK B ((p.data.toList.drop (i + 1)).map fun c => kindOf c.toNat) n).1.map (·.2)) ∨ l = [] ∧ b = false) := by
   intro j n s hj hn
   rw [hnext.out]
   obtain ⟨l, b, e1, e2, e3⟩ := ih (i + 1) n j (acc ++ [s]) (by omega) hn (by simp; omega) hj
   exact ⟨l, b, e1, e2, e3.imp (fun h => by rw [h]; simp) id⟩
  have part : ∀ (kind : Int), 0 ≤ kind → jq B at_ kind = if kind > (B.size : Int) - at_ then none else some (B.extract at_ (at_ + kind.toNat), at_ + kind.toNat) := by
   intro kind hk
   unfold jq
   rw [if_neg (show ¬ kind = -1 by omega), if_neg (show ¬ kind = -2 by omega), if_neg (show ¬ kind = -3 by omega), if_neg (show ¬ kind = -4 by omega)]
  rw [aD.l0, if_pos (by omega), if_pos (by omega), hbt]
  by_cases h110 : c = 110
  ·subst h110
   rw [if_pos (by omega), aD.j1, if_pos (by simp), Aw B hB at_ _ hle (by omega), Option.bind_some, show kindOf 110 = -1 from rfl]
   unfold jq
   rw [if_pos (show (-1 : Int) = -1 from rfl)]
   by_cases hr : (jr B at_).2.2 = 0
   ·obtain ⟨x, y, e, h1, h2, _⟩ := kI hr
    rw [if_pos hr, if_pos hr, e]
    simp only [Int.toNat_natCast]
    rw [if_pos (by omega), if_pos (by omega), hbt, if_neg (by omega), aD.j2, if_neg (by simp), if_pos (by omega)]
    exact go _ y x (by omega) h2
   ·rw [if_neg hr, if_neg hr, aD.j2, if_pos rfl]
    exact ⟨_, _, rfl, rfl, Or.inr ⟨rfl, rfl⟩⟩
  ·rw [if_neg (by omega)]
   by_cases h117 : c = 117
   ·subst h117
    rw [aD.j1, if_pos (by simp), Aw B hB at_ _ hle (by omega), Option.bind_some, show kindOf 117 = -2 from rfl]
    unfold jq
    rw [if_neg (show ¬ (-2 : Int) = -1 by decide), if_pos (show (-2 : Int) = -2 from rfl)]
    by_cases hr : (jr B at_).2.2 = 0
    ·obtain ⟨x, y, e, h1, h2, _⟩ := kI hr
     rw [if_pos hr, e]
     simp only [Int.toNat_natCast]
     rw [if_pos (by omega), if_pos (by omega), hbt, if_pos (by omega), if_pos (by omega), if_pos (by omega), if_pos (by omega), IJ, aD.j2]
     by_cases hx : x = B.extract at_ y
     ·rw [if_neg (by simp [hx]), if_pos (by omega), if_pos ⟨trivial, hx⟩]
      exact go _ y x (by omega) h2
     ·rw [if_pos (by simp [hx]), if_neg (fun e => hx e.2)]
      exact ⟨_, _, rfl, rfl, Or.inr ⟨rfl, rfl⟩⟩
    ·rw [if_neg hr, if_neg (fun e => hr e.1), aD.j2, if_pos rfl]
     exact ⟨_, _, rfl, rfl, Or.inr ⟨rfl, rfl⟩⟩
   ·rw [aD.j1, if_neg (by simp; omega)]
    by_cases h116 : c = 116
    ·subst h116
     rw [if_pos (by omega), if_pos (by omega), if_pos (by omega), Int.toNat_natCast, mZ _ _ _ (by rw [ByteArray.size_extract]; omega) (by rw [ByteArray.size_extract]; unfold FU at hk; omega), Option.bind_some, show kindOf 116 = -3 from rfl]
     unfold jq
     rw [if_neg (show ¬ (-3 : Int) = -1 by decide), if_neg (show ¬ (-3 : Int) = -2 by decide), if_pos (show (-3 : Int) = -3 from rfl)]
     have e1 := Lib.hid (show wrap64 ((at_ : Int) + wrap64 ((B.size : Int) - at_)) = (B.size : Int) from by rw [bV (x := (B.size : Int) - at_) (by omega) (by omega), bV (by omega) (by omega)]; omega)
     generalize jm (B.extract at_ B.size) 1 = ps
     by_cases hp0 : ps.2 = 0
     ·rw [if_pos hp0, aD.j3]
      by_cases hl : 0 < ps.1.length
      ·rw [if_neg (show ¬ ((ps.1.length : Int) == 0) = true from fun e => by have := beq_iff_eq.mp e; omega), if_pos (show ps.2 = 0 ∧ 0 < ps.1.length from ⟨hp0, hl⟩), e1.out, if_neg (by omega), if_pos (by omega), if_pos (by omega), if_pos (by omega), if_pos (by omega)]
       simp only [Int.toNat_natCast]
       exact go _ B.size _ (by omega) (Nat.le_refl _)
      ·rw [if_pos (show ((ps.1.length : Int) == 0) = true from beq_iff_eq.mpr (by omega)), if_neg (show ¬ (ps.2 = 0 ∧ 0 < ps.1.length) from fun e => hl e.2)]
       exact ⟨_, _, rfl, rfl, Or.inr ⟨rfl, rfl⟩⟩
     ·rw [if_neg hp0, if_neg (show ¬ (ps.2 = 0 ∧ 0 < ps.1.length) from fun e => hp0 e.1), aD.j3, if_pos rfl]
      exact ⟨_, _, rfl, rfl, Or.inr ⟨rfl, rfl⟩⟩
    ·rw [if_neg (by omega)]
     by_cases h111 : c = 111
     ·subst h111
      have e1 := Lib.hid (show wrap64 ((at_ : Int) + wrap64 ((B.size : Int) - at_)) = (B.size : Int) from by rw [bV (x := (B.size : Int) - at_) (by omega) (by omega), bV (by omega) (by omega)]; omega)
      rw [if_pos (by omega), e1.out, if_neg (by omega), if_pos (by omega), if_pos (by omega), if_pos (by omega), if_pos (by omega), show kindOf 111 = -4 from rfl]
      unfold jq
      rw [if_neg (show ¬ (-4 : Int) = -1 by decide), if_neg (show ¬ (-4 : Int) = -2 by decide), if_neg (show ¬ (-4 : Int) = -3 by decide), if_pos (show (-4 : Int) = -4 from rfl)]
      simp only [Int.toNat_natCast]
      exact go _ B.size _ (by omega) (Nat.le_refl _)
     ·rw [if_neg (by omega)]
      by_cases h104 : c = 104
      ·subst h104
       rw [if_pos (by omega), bV (by omega) (by omega), show kindOf 104 = 16 from rfl, part 16 (by decide)]
       by_cases h5 : (16 : Int) > (B.size : Int) - at_
       ·rw [if_pos (by omega), if_pos h5]
        exact ⟨_, _, rfl, rfl, Or.inr ⟨rfl, rfl⟩⟩
       ·rw [if_neg (by omega), if_neg h5, if_pos (by omega), if_pos (by omega), if_pos (by omega), if_pos (by omega), show (at_ : Int) + 16 = ((at_ + 16 : Nat) : Int) by omega]
        simp only [Int.toNat_natCast]
        exact go _ (at_ + 16) _ (by omega) (by omega)
      ·have hkc : kindOf c = (c : Int) - 48 := by unfold kindOf; rw [if_neg h110, if_neg h117, if_neg h116, if_neg h111, if_neg h104]
       have hc : c = 52 ∨ c = 50 := by unfold Letter at hL; omega
       have hw := Lib.hid (show wrap64 ((wrap64 (c : Int)) - 48) = (c : Int) - 48 from by rw [bV (x := (c : Int)) (by omega) (by omega), bV (by omega) (by omega)])
       rw [if_neg (by omega), if_pos (by omega), if_pos (by omega), hbt, hw.out, bV (by omega) (by omega), hkc, part ((c : Int) - 48) (by omega)]
       by_cases h5 : (c : Int) - 48 > (B.size : Int) - at_
       ·rw [if_pos (by omega), if_pos h5]
        exact ⟨_, _, rfl, rfl, Or.inr ⟨rfl, rfl⟩⟩
       ·rw [if_neg (by omega), if_neg h5, if_pos (by omega), if_pos (by omega), if_pos (by omega), if_pos (by omega), show (at_ : Int) + ((c : Int) - 48) = ((at_ + ((c : Int) - 48).toNat : Nat) : Int) by omega]
        simp only [Int.toNat_natCast]
        exact go _ (at_ + ((c : Int) - 48).toNat) _ (by omega) (by omega)
end Go.Y.dL
namespace Go.Y.dL
open Go.Proofs
open Go.Y.PRd Go.Proofs.aj.aA Go.Proofs.aj.aM Go.Proofs.aj.aN Go.Y.Given Go.Y.Oct Go.Y.Name Go.Y.lH Go.Y.oF
open Go.Y.dX (iR kD jP mJ jC)
open Go.Y.mg (jm nS mZ bV jB jF)
theorem EP {B : ByteArray} {at_ : Nat} {kind : Int} {s : ByteArray} {n : Nat} (hB : B.size ≤ 1000000) (h : jq B at_ kind = some (s, n)) : s.size ≤ 1000000 := by
 have hread : ∀ {x : ByteArray} {y : Int}, jr B at_ = (x, y, 0) → x.size ≤ 1000000 := fun h => by
  have := (lZ B _ at_ _ _ _ _ _ h).2.2.2; omega
 have hx : ∀ i j, (B.extract i j).size ≤ 1000000 := fun i j => by rw [ByteArray.size_extract]; omega
 unfold jq at h
 split at h
 ·split at h
  ·rename_i hr
   obtain ⟨x, y, e, _⟩ := kI hr
   have := hread e
   rw [e] at h; simp at h; rw [← h.1]; exact this
  ·cases h
 ·split at h
  ·split at h
   ·rename_i hr
    obtain ⟨x, y, e, _⟩ := kI hr.1
    have := hread e
    rw [e] at h; simp at h; rw [← h.1]; exact this
   ·cases h
  ·split at h
   ·split at h
    ·simp at h; rw [← h.1]; exact hx _ _
    ·cases h
   ·split at h
    ·simp at h; rw [← h.1]; exact hx _ _
    ·split at h
     ·cases h
     ·simp at h; rw [← h.1]; exact hx _ _
theorem oo (B : ByteArray) (hB : B.size ≤ 1000000) : ∀ (ks : List Int) (at_ : Nat), (∀ x ∈ (dK B ks at_).1, x.2.size ≤ 1000000) ∧ (dK B ks at_).1.length ≤ ks.length := by
 intro ks
 induction ks with
 | nil => intro at_; rw [dK]; exact ⟨by simp, by simp⟩
 | cons kind ks ih =>
  intro at_
  rw [dK]
  cases hpp : jq B at_ kind with
  | none => exact ⟨by simp, by simp⟩
  | some x =>
   obtain ⟨s, n⟩ := x
   simp only
   refine ⟨fun x hx => ?_, by have := (ih n).2; simp; omega⟩
   rcases List.mem_cons.mp hx with e | e
   ·rw [e]; exact EP hB hpp
   ·exact (ih n).1 x e
theorem IZ (l : List ByteArray) (hl : l.length ≤ 1000) (hs : ∀ s ∈ l, s.size ≤ 1000000) : ∀ (d i k : Nat) (a : ByteArray), i + d = l.length → d < k → a.size + d * 1000000 ≤ 10000000000 → bZ.l0 k l a (i : Int) = some ((l.drop i).foldl (· ++ ·) a) := by
 intro d
 induction d with
 | zero =>
  intro i k a hd hk _
  obtain ⟨k, rfl⟩ : ∃ j, k = j + 1 := ⟨k - 1, by omega⟩
  rw [bZ.l0, if_neg (by omega), List.drop_of_length_le (by omega)]; rfl
 | succ d ih =>
  intro i k a hd hk ha
  obtain ⟨k, rfl⟩ : ∃ j, k = j + 1 := ⟨k - 1, by omega⟩
  have hlt : i < l.length := by omega
  have hz := hs l[i] (List.getElem_mem hlt)
  rw [bZ.l0, if_pos (by omega), if_pos (by omega), jF l i hlt, if_pos (by omega), List.drop_eq_getElem_cons hlt, List.foldl_cons, show wrap64 ((i : Int) + 1) = ((i + 1 : Nat) : Int) by rw [bV (by omega) (by omega)]; omega]
  exact ih (i + 1) k _ (by omega) (by omega) (by rw [ByteArray.size_append]; omega)
theorem Ju (l : List ByteArray) (k : Nat) (hl : l.length ≤ 1000) (hs : ∀ s ∈ l, s.size ≤ 1000000) (hk : 1001 ≤ k) : bZ.f k l = some (cat l) := by
 unfold bZ.f
 have hz : (⟨#[]⟩ : ByteArray).size = 0 := rfl
 have := IZ l hl hs l.length 0 k ⟨#[]⟩ (by omega) (by omega) (by rw [hz]; omega)
 rw [List.drop_zero] at this; exact this
theorem Eu (t : Int) (B : ByteArray) (hB : B.size ≤ 1000000) (k : Nat) (hk : FU + 100 ≤ k) : ∃ l b, aD.f k B 0 (B.size : Int) t = some (l, b) ∧ b = (dK B (dW t) 0).2 ∧ (l = (dK B (dW t) 0).1.map (·.2) ∨ l = [] ∧ b = false) := by
 obtain ⟨p, hp, hpl⟩ := Gy t k (by omega)
 have hps : p.size ≤ 7 := by
  rw [← bR, hpl]; have := congrArg List.length (qD t); rw [List.length_map] at this; rw [this]; exact kJ t
 unfold aD.f
 rw [hp, Option.bind_some, if_pos (Int.natCast_nonneg _), if_pos (Int.le_refl _), Int.toNat_natCast, jC]
 obtain ⟨l, b, e1, e2, e3⟩ := FV B hB p (by rw [hpl]; exact zZ t) (by omega) p.size 0 0 k [] (by omega) (Nat.zero_le _) (by simp; omega) (by omega)
 rw [List.drop_zero, hpl, qD] at e2 e3
 exact ⟨l, b, e1, e2, by simpa using e3⟩
theorem GV (t : Int) (B : ByteArray) (hB : B.size ≤ 1000000) (k : Nat) (hk : FU + 2000 ≤ k) : ∃ s, gD.f k B 0 (B.size : Int) t = some (s, (dK B (dW t) 0).2 && decide (s.size ≤ 65535)) ∧ ((dK B (dW t) 0).2 = true → s = cat ((dK B (dW t) 0).1.map (·.2))) := by
 obtain ⟨l, b, e1, e2, e3⟩ := Eu t B hB k (Nat.le_trans (Nat.add_le_add_left (by decide) FU) hk)
 have hw := oo B hB (dW t) 0
 have hl7 := kJ t
 have hlen : l.length ≤ 1000 ∧ ∀ s ∈ l, s.size ≤ 1000000 := by
  rcases e3 with e | e
  ·rw [e]
   refine ⟨by rw [List.length_map]; omega, fun s hs => ?_⟩
   obtain ⟨x, hx, rfl⟩ := List.mem_map.mp hs
   exact hw.1 x hx
  ·rw [e.1]; exact ⟨by simp, by simp⟩
 unfold gD.f
 rw [e1, Option.bind_some, Ju l k hlen.1 hlen.2 (Nat.le_trans (by decide) (Nat.le_trans (Nat.le_add_left 2000 FU) hk)), Option.bind_some]
 refine ⟨cat l, ?_, fun h => ?_⟩
 ·rw [← e2]
  cases b with
  | true =>
   rw [if_pos rfl, Bool.true_and]
   congr 2
   by_cases h : (cat l).size ≤ 65535
   ·rw [decide_eq_true h, decide_eq_true (by omega)]
   ·rw [decide_eq_false h, decide_eq_false (by omega)]
  | false => rw [if_neg (fun h => by cases h)]; rfl
 ·rcases e3 with e | e
  ·rw [e]
  ·rw [e2, h] at e; cases e.2
theorem Gj (t : Int) (B : ByteArray) (hB : B.size ≤ 1000000) (k : Nat) (hk : FU + 2000 ≤ k) : fC.f k t B = some (jf t B) := by
 obtain ⟨s, e1, e2⟩ := GV t B hB k hk
 unfold fC.f jf
 rw [e1, Option.bind_some]
 cases hw : (dK B (dW t) 0).2 with
 | false => simp
 | true =>
  have hs := e2 hw
  have hz := pV (dK B (dW t) 0).1
  rw [← hs] at hz
  rw [Bool.true_and, Bool.and_true, ← hz]
  by_cases h1 : s.size ≤ 65535
  ·rw [decide_eq_true h1, if_pos rfl, qP]
   by_cases h2 : s = B
   ·rw [decide_eq_true h2, ← h2, decide_eq_true h1]; simp
   ·rw [decide_eq_false h2]
    have : ¬ s.size = B.size := fun e => h2 (by rw [hs]; exact BI B t hw (by rw [← hz]; exact e))
    rw [decide_eq_false this]; simp
  ·rw [decide_eq_false h1, if_neg (fun h => by cases h)]
   by_cases h2 : s.size = B.size
   ·rw [decide_eq_false (show ¬ B.size ≤ 65535 by omega)]; simp
   ·rw [decide_eq_false h2]; simp
theorem rQ {n : ByteArray} (h : bB n = true) : ∃ l, good l ∧ n = bF l ∧ (bF l).size ≤ 255 := by
 obtain ⟨l, hg, e, hz⟩ := (jS n).mp h
 exact ⟨l, hg, e, hz⟩
theorem Eo (n : ByteArray) : fU.f n = some (gF n) := by
 unfold gF
 cases hr : bB n with
 | true =>
  obtain ⟨l, hg, rfl, hz⟩ := rQ hr
  rw [iR l hg hz]; rfl
 | false => rw [kD n hr]; rfl
theorem Ie (n : ByteArray) (k : Nat) (hk : 700 ≤ k) : aQ.f k n = some (gF n) := by
 unfold gF
 cases hr : bB n with
 | true =>
  obtain ⟨l, hg, rfl, hz⟩ := rQ hr
  rw [iR l hg hz, jP l hg hz k hk]; rfl
 | false => rw [kD n hr, mJ n hr k hk]; rfl
end Go.Y.dL
namespace Go.Y.dL
open Go.Proofs
open Go.Y.PRd Go.Proofs.aj.aA Go.Proofs.aj.aM Go.Proofs.aj.aN Go.Y.Given Go.Y.Oct Go.Y.Name Go.Y.lH Go.Y.oF
open Go.Y.mg (bV jB jF)
theorem vF (n : ByteArray) : (gF n).size ≤ 1000000 := by
 unfold gF
 cases hr : bB n with
 | true =>
  have hz := qx hr
  obtain ⟨l, hg, rfl, hz⟩ := rQ hr
  rw [Go.Y.dX.iR l hg hz]
  show (bF (l.map dP)).size ≤ 1000000
  rw [size_map]; omega
 | false => rw [Go.Y.dX.kD n hr]; show (0 : Nat) ≤ 1000000; omega
theorem xW {x : Int × ByteArray} (h : x.2.size ≤ 1000000) : (eX x).size ≤ 1000000 := by
 unfold eX; split
 ·exact vF _
 ·exact h
theorem yP (ps : List (Int × ByteArray)) (p : ByteArray) (hp : ∀ c ∈ p.data.toList, Letter c.toNat) (hkd : ps.map (·.1) = (p.data.toList.map fun c => kindOf c.toNat).take ps.length) (hlen : ps.length ≤ p.size) (hps : p.size ≤ 100) (hsz : ∀ x ∈ ps, x.2.size ≤ 1000000) :
  ∀ (d i k : Nat) (a : ByteArray), i + d = ps.length → d + 1000 ≤ k → a.size + d * 1000000 ≤ 10000000000 → gM.l0 k (ps.map (·.2)) p a (i : Int) = some (((ps.drop i).map eX).foldl (· ++ ·) a) := by
 intro d
 induction d with
 | zero =>
  intro i k a hd hk _
  obtain ⟨k, rfl⟩ : ∃ j, k = j + 1 := ⟨k - 1, by omega⟩
  rw [gM.l0, if_neg (by rw [List.length_map]; omega), List.drop_of_length_le (by omega)]; rfl
 | succ d ih =>
  intro i k a hd hk ha
  obtain ⟨k, rfl⟩ : ∃ j, k = j + 1 := ⟨k - 1, by omega⟩
  have hlt : i < ps.length := by omega
  have hlp : i < p.data.toList.length := by rw [bR]; omega
  have hbt := jB p i (by omega)
  have hL := hp (p.data.toList[i]) (List.getElem_mem _)
  have hkk : ps[i].1 = kindOf (p.data.toList[i]).toNat := by
   have h1 : (ps.map (·.1))[i]? = some ps[i].1 := by rw [List.getElem?_map, List.getElem?_eq_getElem hlt]; rfl
   rw [hkd, List.getElem?_take_of_lt hlt, List.getElem?_map, List.getElem?_eq_getElem hlp] at h1
   simpa using h1.symm
  have hz := hsz ps[i] (List.getElem_mem hlt)
  have hf := vF ps[i].2
  have hrd : dz ByteArray.empty (ps.map (·.2)) (i : Int) = ps[i].2 := by rw [jF _ i (by rw [List.length_map]; exact hlt)]; simp
  have hnx := Lib.hid (show wrap64 ((i : Int) + 1) = ((i + 1 : Nat) : Int) from by rw [bV (by omega) (by omega)]; omega)
  generalize (p.data.toList[i]).toNat = c at hbt hL hkk
  rw [gM.l0, if_pos (by rw [List.length_map]; omega), if_pos (by omega), if_pos (by omega), hbt, List.drop_eq_getElem_cons hlt, List.map_cons, List.foldl_cons, hrd, Ie _ _ (by omega)]
  have step : ∀ b : ByteArray, b.size ≤ a.size + 1000000 → gM.l0 k (ps.map (·.2)) p b (wrap64 ((i : Int) + 1)) = some (((ps.drop (i + 1)).map eX).foldl (· ++ ·) b) := fun b hb => by
   rw [hnx.out]; exact ih (i + 1) k b (by omega) (by omega) (by omega)
  by_cases h110 : c = 110
  ·have : eX ps[i] = gF ps[i].2 := by unfold eX; rw [if_pos (.inl (by rw [hkk, h110]; rfl))]
   rw [if_pos (by omega), Option.bind_some, if_pos (by omega), this]
   exact step _ (by rw [ByteArray.size_append]; omega)
  ·rw [if_neg (by omega)]
   by_cases h117 : c = 117
   ·have : eX ps[i] = gF ps[i].2 := by unfold eX; rw [if_pos (.inr (by rw [hkk, h117]; rfl))]
    rw [if_pos (by omega), Option.bind_some, if_pos (by omega), this]
    exact step _ (by rw [ByteArray.size_append]; omega)
   ·have : eX ps[i] = ps[i].2 := by
     unfold eX
     rw [if_neg]
     rw [hkk]
     unfold kindOf
     rw [if_neg h110, if_neg h117]
     unfold Letter at hL
     rcases hL with e | e | e | e | e | e | e <;> first | omega | (subst e; decide)
    rw [if_neg (by omega), if_pos (by omega), this]
    exact step _ (by rw [ByteArray.size_append]; omega)
end Go.Y.dL
namespace Go.Y.Shelf
open Go.Proofs Go.Shelf Go.RowKit
def Dx : Go.Shelf.Ren := ⟨fun | 166 => 136 | 240 => 161 | 276 => 174 | n => n, fun | 0 => 0 | 3 => 3 | 4 => 4 | 5 => 5 | 9 => 9 | 20 => 20 | 37 => 101 | 70 => 128 | 72 => 130 | 75 => 132 | 80 => 93 | 164 => 167 | n => n, fun | n => n⟩
theorem IY : Go.Proofs.Lays.n166 Tryz.prog Dx := {
 mixed := by kernel_rfl
 f166 := Tryz.func136.trans (congrArg some (by kernel_rfl))
 f240 := Tryz.func161.trans (congrArg some (by kernel_rfl))
 f276 := Tryz.func174.trans (congrArg some (by kernel_rfl))
 t0 := Tryz.underlying0
 a0 := Tryz.isAgg0
 z0 := Tryz.sizeOf0
 v0 := Tryz.zeroValue0
 t3 := Tryz.underlying3
 a3 := Tryz.isAgg3
 z3 := Tryz.sizeOf3
 v3 := Tryz.zeroValue3
 t4 := Tryz.underlying4
 a4 := Tryz.isAgg4
 z4 := Tryz.sizeOf4
 v4 := Tryz.zeroValue4
 t9 := Tryz.underlying9
 a9 := Tryz.isAgg9
 z9 := Tryz.sizeOf9
 v9 := Tryz.zeroValue9
 t20 := Tryz.underlying20
 a20 := Tryz.isAgg20
 z20 := Tryz.sizeOf20
 v20 := Tryz.zeroValue20
 t37 := Tryz.underlying101
 a37 := Tryz.isAgg101
 z37 := Tryz.sizeOf101
 v37 := Tryz.zeroValue101
 t70 := Tryz.underlying128
 a70 := Tryz.isAgg128
 z70 := Tryz.sizeOf128
 v70 := Tryz.zeroValue128
 t72 := Tryz.underlying130
 a72 := Tryz.isAgg130
 z72 := Tryz.sizeOf130
 v72 := Tryz.zeroValue130
 t75 := Tryz.underlying132
 a75 := Tryz.isAgg132
 z75 := Tryz.sizeOf132
 v75 := Tryz.zeroValue132
 t164 := Tryz.underlying167
 a164 := Tryz.isAgg167
 z164 := Tryz.sizeOf167
 v164 := Tryz.zeroValue167 }
theorem GZ : Builder.Extra Tryz.prog Dx := {
 sizeBuilder := by kernel_rfl
 liesBuilder := by kernel_rfl
 t5 := Tryz.underlying5
 a5 := Tryz.isAgg5
 z5 := Tryz.sizeOf5
 v5 := Tryz.zeroValue5
 infoByte := by kernel_rfl
 cellsByte := by kernel_rfl
 sizeByte := by kernel_rfl
 neB5 := by decide }
def Eh : Go.Shelf.Ren := ⟨fun | 169 => 137 | n => n, fun | 0 => 0 | 3 => 3 | 5 => 5 | 9 => 9 | 37 => 101 | 70 => 128 | 72 => 130 | 127 => 156 | n => n, fun | n => n⟩
theorem IV : Go.Proofs.Lays.n169 Tryz.prog Eh := {
 mixed := by kernel_rfl
 f169 := Tryz.func137.trans (congrArg some (by kernel_rfl))
 t0 := Tryz.underlying0
 a0 := Tryz.isAgg0
 z0 := Tryz.sizeOf0
 v0 := Tryz.zeroValue0
 t3 := Tryz.underlying3
 a3 := Tryz.isAgg3
 z3 := Tryz.sizeOf3
 v3 := Tryz.zeroValue3
 t9 := Tryz.underlying9
 a9 := Tryz.isAgg9
 z9 := Tryz.sizeOf9
 v9 := Tryz.zeroValue9
 t37 := Tryz.underlying101
 a37 := Tryz.isAgg101
 z37 := Tryz.sizeOf101
 v37 := Tryz.zeroValue101
 t70 := Tryz.underlying128
 a70 := Tryz.isAgg128
 z70 := Tryz.sizeOf128
 v70 := Tryz.zeroValue128
 t72 := Tryz.underlying130
 a72 := Tryz.isAgg130
 z72 := Tryz.sizeOf130
 v72 := Tryz.zeroValue130
 t127 := Tryz.underlying156
 a127 := Tryz.isAgg156
 z127 := Tryz.sizeOf156
 v127 := Tryz.zeroValue156 }
theorem Fh : Builder.Extra Tryz.prog Eh := {
 sizeBuilder := by kernel_rfl
 liesBuilder := by kernel_rfl
 t5 := Tryz.underlying5
 a5 := Tryz.isAgg5
 z5 := Tryz.sizeOf5
 v5 := Tryz.zeroValue5
 infoByte := by kernel_rfl
 cellsByte := by kernel_rfl
 sizeByte := by kernel_rfl
 neB5 := by decide }
theorem xS (B b : Nat) (bs : List Value) (s : ByteArray) (w : World) (h : Lib.IsBuilderF 130 5 B b bs w) (hlen : bs.length + s.size ≤ 140737488355328) (hBw : B ≤ w.heap.size) :
  Calls Tryz.prog 136 #[.pointer (some ⟨b, 0, none⟩), .string s] w fun e w' => e = .returned (.tuple #[.int .i64 s.size, .nilIface]) ∧ (Lib.BuilderAtF 130 5 B b (.pointer (some ⟨b, 0, none⟩)) (bs ++ Lib.strCells s) w' ∧ Below B w w' ∧ Lib.OthersKept 5 (some b) w w') := Any.Builder_WriteString_k IY GZ B b bs s w h hlen hBw
theorem GK (B b : Nat) (l : List UInt8) (w : World) (h : Lib.IsBuilderF 130 5 B b (Lib.byteCells l) w) (hBw : B ≤ w.heap.size) :
  Calls Tryz.prog 137 #[.pointer (some ⟨b, 0, none⟩)] w fun e w' => e = .returned (.string ⟨l.toArray⟩) ∧ (Lib.IsBuilderF 130 5 B b (Lib.byteCells l) w' ∧ Below B w w' ∧ Lib.OthersKept 5 (some b) w w') := Any.Builder_String_any_k IV Fh B b l w h hBw
end Go.Y.Shelf
namespace Go.Y.oF
open Go.Proofs.aj.aA Go.Y.Given Go.Y.PRd Go.Y.tY Go.Y.dL Go.Y.Oct
def nums (d : List (Int × ByteArray)) : Int := d.foldl (fun n x => wrap64 (n + (x.2.size : Int))) 0
theorem Ee (d : List (Int × ByteArray)) (x : Int × ByteArray) : nums (d ++ [x]) = wrap64 (nums d + (x.2.size : Int)) := by unfold nums; rw [List.foldl_append]; rfl
theorem Ib : ∀ (d : List (Int × ByteArray)) (n : Nat), n + tot d ≤ 1000000000 → d.foldl (fun n x => wrap64 (n + (x.2.size : Int))) (n : Int) = ((n + tot d : Nat) : Int) := by
 intro d
 induction d with
 | nil => intro n _; simp [tot]
 | cons x d ih =>
  intro n h
  rw [tT] at h ⊢
  rw [List.foldl_cons, show wrap64 ((n : Int) + (x.2.size : Int)) = ((n + x.2.size : Nat) : Int) by unfold wrap64; omega, ih _ (by omega)]
  omega
theorem FD {d : List (Int × ByteArray)} (h : tot d ≤ 1000000000) : nums d = (tot d : Int) := by
 unfold nums; have := Ib d 0 (by omega); rw [Nat.zero_add] at this; exact this
theorem Ef (kind n : Int) (s : ByteArray) (B : Nat) (W : World) (h : W.heap[B]? = some (.cells #[.int .i64 n] 3 (0, 0))) :
  Calls Tryz.prog 119 (#[.int .i64 kind, .string s] ++ #[.pointer (some ⟨B, 0, none⟩)]) W fun e w' => e = .returned (.tuple #[]) ∧ w' = W.setCell ⟨B, 0, none⟩ (.int .i64 (wrap64 (n + (s.size : Int)))) := by
 have hc := aG h 0
 have hf := bq h 0
 have hc' : W.cell? ⟨B, 0, none⟩ = some (.int .i64 n) := hc
 clear hc h
 go_enter Tryz.func119, Tryz.ntmps119
 go_wp2
 go_end0
 exact ⟨rfl, rfl⟩
def Il (B : Nat) (d : List (Int × ByteArray)) (F : Nat → Prop) (W : World) : Prop := (∀ k, F k ↔ k = B) ∧ W.heap[B]? = some (.cells #[.int .i64 (nums d)] 3 (0, 0))
theorem counts (B : Nat) : Ct 119 #[.pointer (some ⟨B, 0, none⟩)] (Il B) where
 rest := fun d F W W' h hb => ⟨F, ⟨h.1, (hb.block B (eF h.2)).trans h.2⟩, fun k hk => .inl hk⟩
 lt := fun d F W k h hk => by rw [(h.1 k).mp hk]; exact eF h.2
 take := fun d F W kind s _ _ h => (Ef kind (nums d) s B W h.2).mono fun e w' ⟨he, hw⟩ => ⟨he, F, ⟨h.1, by rw [hw, Ee]; exact bA h.2 0 _ rfl⟩, by rw [hw]; exact Tch.setCell (S := F) (p := ⟨B, 0, none⟩) ((h.1 B).mpr rfl) _, fun k hk => .inl hk⟩
 enters := enters_of Tryz.func119 (by kernel_rfl) rfl
theorem Gi (t : Int) (B : ByteArray) (hB : B.size ≤ 1000000) : tot (dK B (dW t) 0).1 ≤ 1000000000 := by
 have h := oo B hB (dW t) 0
 have h7 := kJ t
 have : ∀ l : List (Int × ByteArray), (∀ x ∈ l, x.2.size ≤ 1000000) → tot l ≤ 1000000 * l.length := by
  intro l
  induction l with
  | nil => intro _; simp [tot]
  | cons x l ih =>
   intro hl
   rw [tT, List.length_cons]
   have := ih fun y hy => hl y (List.mem_cons_of_mem _ hy)
   have := hl x (List.mem_cons_self ..)
   omega
 have := this _ h.1
 omega
theorem iq (t : Int) (B : ByteArray) (w : World) (hs : B.size ≤ 9223372036854775807) :
  Calls Tryz.prog 86 #[.int .i64 t, .string B] w fun e w' => e = .returned (.bool (jf t B)) ∧ Below w.heap.size w w' := by
 by_cases hB : B.size ≤ 65535
 ·have t0 : decide (65535 < (B.size : Int)) = false := decide_eq_false (by omega)
  have t0' : decide (65535 < B.size) = false := decide_eq_false (by omega)
  have htot := Gi t B (by omega)
  have hsz := oo B (by omega) (dW t) 0
  have hnum := FD htot
  have hw := Di B (by omega) (FU + 1) (Nat.le_succ _) (dW t) 0 (uS t) (Nat.zero_le _)
  have hrd : jf t B = ((dK B (dW t) 0).2 && decide (tot (dK B (dW t) 0).1 = B.size)) := by unfold jf; rw [decide_eq_true hB, Bool.true_and]
  have HR := Lib.hid (Ar t (FU + 1) (Nat.succ_le_succ (Nat.zero_le _)))
  obtain ⟨⟨ps, b⟩, hp⟩ : ∃ x, dK B (dW t) 0 = x := ⟨_, rfl⟩
  rw [hp] at hw hnum htot hrd hsz
  simp only at hrd
  rw [hrd]
  have HW := Lib.hid hw
  have HN := Lib.hid hnum
  have HL := Lib.hid (kJ t)
  have HSZ := Lib.hid hsz.1
  have HL7 := Lib.hid (Nat.le_trans hsz.2 (kJ t))
  clear hw hnum hrd hp hsz
  simp only at htot
  go_enter Tryz.func86, Tryz.ntmps86
  go_wp2_with fail
  refine (zl (counts w.heap.size) (FU + 1) B 0 (B.size : Int) t (dW t) HR.out [] ps b HW.out (fun k => k = w.heap.size) _ ⟨fun k => Iff.rfl, ?_⟩ (by have := HL.out; omega) HSZ.out (by have := HL7.out; simp; omega)).mono ?_
  ·first | exact bA (heap_alloc_new w _) 0 _ rfl | exact heap_alloc_new w _
  rintro e w1 ⟨rfl, F', hst, ht, _⟩
  have hbel : Below w.heap.size w w1 := by
   have hb0 : Below w.heap.size w (w.alloc (.cells #[.int .i64 0] 3)) := (Below.refl _ w).alloc (Nat.le_refl _) _
   exact hb0.trans (ht.below hb0.size fun k hk => by rw [hk]; exact Nat.le_refl _)
  have hc := aG hst.2 0
  rw [List.nil_append, HN.out] at hc
  have hc' : w1.cell? ⟨w.heap.size, 0, none⟩ = some (.int .i64 (tot ps : Int)) := hc
  have HBEL := Lib.hid hbel
  clear hc hst ht hbel
  cases b with
  | false =>
   go_wp2_with fail
   go_ret
   exact ⟨by simp, HBEL.out⟩
  | true =>
   cases he : decide (tot ps = B.size) with
   | true =>
    have h1 := of_decide_eq_true he
    have t1 : ((tot ps : Int) == (B.size : Int)) = true := beq_iff_eq.mpr (by omega)
    have t1' : (tot ps == B.size) = true := beq_iff_eq.mpr h1
    clear h1 he
    go_wp2_with fail
    go_ret
    refine ⟨?_, HBEL.out⟩
    have h2 := t1'
    simp at h2
    simp [h2]
   | false =>
    have h1 := of_decide_eq_false he
    have t1 : ((tot ps : Int) == (B.size : Int)) = false := beq_eq_false_iff_ne.mpr (by omega)
    have t1' : (tot ps == B.size) = false := beq_eq_false_iff_ne.mpr h1
    clear h1 he
    go_wp2_with fail
    go_ret
    refine ⟨?_, HBEL.out⟩
    have h2 := t1'
    simp at h2
    simp [h2]
 ·have hr : jf t B = false := by unfold jf; rw [decide_eq_false hB]; rfl
  have t0 : decide (65535 < (B.size : Int)) = true := decide_eq_true (by omega)
  have t0' : decide (65535 < B.size) = true := decide_eq_true (by omega)
  rw [hr]
  clear hr
  go_enter Tryz.func86, Tryz.ntmps86
  go_wp2_with fail
  go_ret
  exact ⟨rfl, Below.refl _ _⟩
def mE (d : List (Int × ByteArray)) : List UInt8 := (d.map fun x => (eX x).data.toList).flatten
theorem wS (d : List (Int × ByteArray)) (x : Int × ByteArray) : mE (d ++ [x]) = mE d ++ (eX x).data.toList := by unfold mE; simp
theorem Fz (d : List (Int × ByteArray)) : (⟨(mE d).toArray⟩ : ByteArray) = cat (d.map eX) := by
 apply fK
 rw [tZ, List.map_map]
 show (mE d).toArray.toList = _
 unfold mE
 simp [Function.comp_def]
abbrev BT := 130
abbrev BE := 5
theorem yN {T e : TypeId} {lo b : Nat} {p : Value} {bs : List Value} {w w' : World} (h : Lib.BuilderAtF T e lo b p bs w) (hb : Below w.heap.size w w') : Lib.BuilderAtF T e lo b p bs w' := by
 obtain ⟨h1, v, h2, h3, h4⟩ := h
 refine ⟨h1, v, (hb.block b (eF h2)).trans h2, ?_, h4⟩
 refine ⟨h3.1, ?_⟩
 rcases h3.2 with h | ⟨g, cap, cur, fz, hv, hl, hh, r⟩
 ·exact .inl h
 ·exact .inr ⟨g, cap, cur, fz, hv, hl, (hb.block g (eF hh)).trans hh, r⟩
theorem Gh {T e : TypeId} {lo b : Nat} {bs : List Value} {w w' : World} (h : Lib.IsBuilderF T e lo b bs w) (hb : Below w.heap.size w w') : Lib.IsBuilderF T e lo b bs w' := h.imp (fun h => yN h hb) (fun h => yN h hb)
theorem JD {T e : TypeId} {lo b : Nat} {bs : List Value} {w : World} (h : Lib.IsBuilderF T e lo b bs w) : lo ≤ b ∧ b < w.heap.size := by
 rcases h with ⟨h1, v, h2, _⟩ | ⟨h1, v, h2, _⟩ <;> exact ⟨h1, eF h2⟩
def foot (lo b : Nat) (W : World) (k : Nat) : Prop := lo ≤ k ∧ k < W.heap.size ∧ (k = b ∨ ∃ c fz, W.heap[k]? = some (.cells c BE fz))
def kM (lo b : Nat) (d : List (Int × ByteArray)) (F : Nat → Prop) (W : World) : Prop := (∀ k, F k ↔ foot lo b W k) ∧ Lib.IsBuilderF BT BE lo b (Lib.byteCells (mE d)) W ∧ lo ≤ W.heap.size ∧ (mE d).length ≤ d.length * 1000000
theorem DZ (lo b : Nat) (d : List (Int × ByteArray)) (x : Int × ByteArray) (F : Nat → Prop) (W W' : World) (h : kM lo b d F W) (hx : (eX x).size ≤ 1000000)
  (h1 : Lib.BuilderAtF BT BE lo b (.pointer (some ⟨b, 0, none⟩)) (Lib.byteCells (mE d) ++ Lib.strCells (eX x)) W') (h2 : Below lo W W') (h3 : Lib.OthersKept BE (some b) W W') :
  ∃ F', kM lo b (d ++ [x]) F' W' ∧ Tch F W W' ∧ ∀ k, F' k → F k ∨ W.heap.size ≤ k := by
 have hcells : Lib.byteCells (mE d) ++ Lib.strCells (eX x) = Lib.byteCells (mE (d ++ [x])) := by rw [wS]; simp [Lib.byteCells, Lib.strCells]
 rw [hcells] at h1
 have keep : ∀ k, k < W.heap.size → ¬ F k → W'.heap[k]? = W.heap[k]? := fun k hk hn => by
  by_cases hl : k < lo
  ·exact h2.block k hl
  ·obtain ⟨o, ho⟩ : ∃ o, W.heap[k]? = some o := ⟨W.heap[k], Array.getElem?_eq_getElem hk⟩
   rw [ho]
   refine h3 k o ho (fun e => hn ((h.1 k).mpr ⟨by omega, hk, .inl (Option.some.inj e)⟩)) fun c fz e => hn ((h.1 k).mpr ⟨by omega, hk, .inr ⟨c, fz, by rw [ho, e]⟩⟩)
 refine ⟨foot lo b W', ⟨fun k => Iff.rfl, .inr h1, Nat.le_trans h.2.2.1 h2.size, ?_⟩, ⟨h2.os, h2.tape, h2.output, h2.size, keep⟩, fun k hk => ?_⟩
 ·rw [wS, List.length_append, List.length_append, bR]
  have := h.2.2.2
  simp only [List.length_cons, List.length_nil]
  omega
 ·by_cases hlt : k < W.heap.size
  ·left
   by_cases hF : F k
   ·exact hF
   ·have hke := keep k hlt hF
    refine (h.1 k).mpr ⟨hk.1, hlt, ?_⟩
    rcases hk.2.2 with e | ⟨c, fz, e⟩
    ·exact .inl e
    ·exact .inr ⟨c, fz, by rw [← hke]; exact e⟩
  ·exact .inr (by omega)
theorem xC (lo b : Nat) (d : List (Int × ByteArray)) (F : Nat → Prop) (W W' : World) (h : kM lo b d F W) (hb : Below W.heap.size W W') : ∃ F', kM lo b d F' W' ∧ ∀ k, F' k → F k ∨ W.heap.size ≤ k ∧ ∃ c fz, W'.heap[k]? = some (.cells c BE fz) := by
 refine ⟨foot lo b W', ⟨fun k => Iff.rfl, Gh h.2.1 hb, Nat.le_trans h.2.2.1 hb.size, h.2.2.2⟩, fun k hk => ?_⟩
 by_cases hlt : k < W.heap.size
 ·left
  refine (h.1 k).mpr ⟨hk.1, hlt, ?_⟩
  rcases hk.2.2 with e | ⟨c, fz, e⟩
  ·exact .inl e
  ·exact .inr ⟨c, fz, by rw [← hb.block k hlt]; exact e⟩
 ·right
  refine ⟨by omega, ?_⟩
  rcases hk.2.2 with e | e
  ·have := (JD h.2.1).2; omega
  ·exact e
theorem DL (lo b : Nat) (d : List (Int × ByteArray)) (F : Nat → Prop) (W : World) (kind : Int) (s : ByteArray) (hs : s.size ≤ 1000000) (hd : d.length < 100) (h : kM lo b d F W) :
  Calls Tryz.prog 135 (#[.int .i64 kind, .string s] ++ #[.pointer (some ⟨b, 0, none⟩)]) W fun e w' => e = .returned (.tuple #[]) ∧ ∃ F', kM lo b (d ++ [(kind, s)]) F' w' ∧ Tch F W w' ∧ ∀ k, F' k → F k ∨ W.heap.size ≤ k := by
 have hx := xW (x := (kind, s)) hs
 have HX := Lib.hid hx
 have H := Lib.hid h
 have hw : ∀ (x : ByteArray) (F1 : Nat → Prop) (W1 : World), eX (kind, s) = x → kM lo b d F1 W1 → Calls Tryz.prog 136 #[.pointer (some ⟨b, 0, none⟩), .string x] W1 fun e w' => e = .returned (.tuple #[.int .i64 x.size, .nilIface]) ∧ ∃ F', kM lo b (d ++ [(kind, s)]) F' w' ∧ Tch F1 W1 w' ∧ ∀ k, F' k → F1 k ∨ W1.heap.size ≤ k := by
  intro x F1 W1 hxe h1
  have h4 := h1.2.2.2
  refine (Shelf.xS lo b _ x W1 h1.2.1 (by simp [Lib.byteCells]; rw [← hxe]; omega) h1.2.2.1).mono ?_
  rintro e w' ⟨he, hb, hbel, hoth⟩
  exact ⟨he, DZ lo b d (kind, s) F1 W1 w' h1 hx (by rw [hxe]; exact hb) hbel hoth⟩
 have HW := Lib.hid hw
 clear hw hx h
 by_cases hk : kind = -1 ∨ kind = -2
 ·have hfp : eX (kind, s) = gF s := by unfold eX; rw [if_pos hk]
  have HFP := Lib.hid hfp
  clear hfp
  have hfold := fun W' => fU.calls s (gF s) W' (Eo s)
  go_enter Tryz.func135, Tryz.ntmps135
  rcases hk with rfl | rfl
  all_goals
   go_wp2_with fail
   refine (hfold _).mono ?_
   rintro e w1 ⟨rfl, hb1⟩
   obtain ⟨F1, h1, hf1⟩ := xC lo b d F W w1 H.out hb1
   have HC := Lib.hid (HW.out (gF s) F1 w1 HFP.out h1)
   have HB1 := Lib.hid hb1
   have HF1 := Lib.hid hf1
   clear h1 hb1 hf1
   go_wp2_with fail
   refine (HC.out).mono ?_
   rintro e w2 ⟨rfl, F2, h2, ht2, hf2⟩
   have hsz := HB1.out.size
   have hpost : kM lo b (d ++ [_]) F2 w2 ∧ Tch F W w2 ∧ ∀ k, F2 k → F k ∨ W.heap.size ≤ k := ⟨h2, (Tch.of_below (S := F) HB1.out).fresh ht2 fun k hk => (HF1.out k hk).imp id fun h => h.1, fun k hk => by
    rcases hf2 k hk with e | e
    ·rcases HF1.out k e with e | e
     ·exact .inl e
     ·exact .inr e.1
    ·exact .inr (by omega)⟩
   have HP := Lib.hid hpost
   clear h2 ht2 hf2 hpost
   go_wp2_with fail
   go_end0
   exact ⟨rfl, F2, HP.out⟩
 ·have hfp : eX (kind, s) = s := by unfold eX; rw [if_neg hk]
  have HFP := Lib.hid hfp
  clear hfp
  have t1 : (kind == -1) = false := beq_eq_false_iff_ne.mpr fun e => hk (.inl e)
  have t2 : (kind == -2) = false := beq_eq_false_iff_ne.mpr fun e => hk (.inr e)
  clear hk
  go_enter Tryz.func135, Tryz.ntmps135
  go_wp2_with fail
  refine (HW.out s F W HFP.out H.out).mono ?_
  rintro e w2 ⟨rfl, F2, h2, ht2, hf2⟩
  have HP := Lib.hid (And.intro h2 (And.intro ht2 hf2))
  clear h2 ht2 hf2
  go_wp2_with fail
  go_end0
  exact ⟨rfl, F2, HP.out⟩
theorem folds (lo b : Nat) : Ct 135 #[.pointer (some ⟨b, 0, none⟩)] (kM lo b) where
 rest := xC lo b
 lt := fun d F W k h hk => ((h.1 k).mp hk).2.1
 take := DL lo b
 enters := enters_of Tryz.func135 (by kernel_rfl) rfl
theorem xM (w : World) : kM w.heap.size w.heap.size [] (foot w.heap.size w.heap.size (w.alloc (.cells #[.pointer none, .slice none 0 0] BT))) (w.alloc (.cells #[.pointer none, .slice none 0 0] BT)) :=
 ⟨fun k => Iff.rfl, Lib.IsBuilderF.of (.inl ⟨Nat.le_refl _, .slice none 0 0, heap_alloc_new w _, ⟨rfl, .inl ⟨rfl, rfl⟩⟩, by simp [Value.ownBlock]⟩), by simp, Nat.zero_le _⟩
theorem FE (t : Int) (B : ByteArray) (w : World) (hs : B.size ≤ 9223372036854775807) :
  Calls Tryz.prog 111 #[.int .i64 t, .string B] w fun e w' => e = .returned (.string (pX t B)) ∧ Below w.heap.size w w' := by
 have hright := fun W => iq t B W hs
 cases hr : jf t B with
 | false =>
  have hf : pX t B = ⟨#[]⟩ := by unfold pX; rw [hr]; rfl
  rw [hf]
  rw [hr] at hright
  clear hf hr
  go_enter Tryz.func111, Tryz.ntmps111
  go_wp2_with fail
  refine (hright _).mono ?_
  rintro e w1 ⟨rfl, hb1⟩
  go_wp2_with fail
  go_ret
  exact ⟨rfl, hb1⟩
 | true =>
  have hB : B.size ≤ 65535 := by unfold jf at hr; simp only [Bool.and_eq_true, decide_eq_true_eq] at hr; exact hr.1.1
  have hf : pX t B = ⟨(mE (dK B (dW t) 0).1).toArray⟩ := by unfold pX; rw [if_pos hr, Fz]
  have hsz := oo B (by omega) (dW t) 0
  have hw := Di B (by omega) (FU + 1) (Nat.le_succ _) (dW t) 0 (uS t) (Nat.zero_le _)
  obtain ⟨⟨ps, b⟩, hp⟩ : ∃ x, dK B (dW t) 0 = x := ⟨_, rfl⟩
  rw [hp] at hw hf hsz
  rw [hf]
  rw [hr] at hright
  have HR := Lib.hid (Ar t (FU + 1) (Nat.succ_le_succ (Nat.zero_le _)))
  have HW := Lib.hid hw
  have HL := Lib.hid (kJ t)
  have HSZ := Lib.hid hsz.1
  have HL7 := Lib.hid (Nat.le_trans hsz.2 (kJ t))
  clear hw hf hsz hp hr
  go_enter Tryz.func111, Tryz.ntmps111
  go_wp2_with fail
  refine (hright _).mono ?_
  rintro e w1 ⟨rfl, hb1⟩
  have HB1 := Lib.hid hb1
  clear hb1 hright
  go_wp2_with fail
  have hst := xM w1
  refine (zl (folds w1.heap.size w1.heap.size) (FU + 1) B 0 (B.size : Int) t (dW t) HR.out [] ps b HW.out _ _ hst (by have := HL.out; omega) HSZ.out (by have := HL7.out; simp at this ⊢; omega)).mono ?_
  rintro e w2 ⟨rfl, F', hst2, ht, _⟩
  have hb2 : Below w.heap.size w w2 := by
   have h0 : Below w1.heap.size w1 (w1.alloc (.cells #[.pointer none, .slice none 0 0] BT)) := (Below.refl _ w1).alloc (Nat.le_refl _) _
   exact eG HB1.out HB1.out.size (h0.trans (ht.below h0.size fun k hk => hk.1))
  rw [List.nil_append] at hst2
  have H2 := Lib.hid hst2
  have HB2 := Lib.hid hb2
  clear hst hst2 ht hb2
  go_wp2_with fail
  refine (Shelf.GK w1.heap.size w1.heap.size (mE ps) w2 H2.out.2.1 H2.out.2.2.1).mono ?_
  rintro e w3 ⟨rfl, _, hb3, _⟩
  have HB3 := Lib.hid (show Below w.heap.size w w3 from HB2.out.trans (hb3.mono HB1.out.size))
  clear hb3
  go_wp2_with fail
  go_ret
  exact ⟨rfl, HB3.out⟩
end Go.Y.oF
namespace Go.Y.Given
open Go.Y.dL Go.Y.oF
def gQ.f (a0 : Int) (a1 : ByteArray) : Option Bool := if a1.size ≤ 9223372036854775807 then some (jf a0 a1) else none
theorem gQ.calls (a0 : Int) (a1 : ByteArray) (r : Bool) (w : World) (h : gQ.f a0 a1 = some r) :
  Calls Tryz.prog 86 #[.int .i64 a0, .string a1] w fun e w' => e = .returned (.bool r) ∧ Below w.heap.size w w' := by
 unfold gQ.f at h
 split at h
 ·injection h with h; subst h; exact iq a0 a1 w (by assumption)
 ·cases h
def jT.f (a0 : Int) (a1 : ByteArray) : Option ByteArray := if a1.size ≤ 9223372036854775807 then some (pX a0 a1) else none
theorem jT.calls (a0 : Int) (a1 : ByteArray) (r : ByteArray) (w : World) (h : jT.f a0 a1 = some r) :
  Calls Tryz.prog 111 #[.int .i64 a0, .string a1] w fun e w' => e = .returned (.string r) ∧ Below w.heap.size w w' := by
 unfold jT.f at h
 split at h
 ·injection h with h; subst h; exact FE a0 a1 w (by assumption)
 ·cases h
end Go.Y.Given
namespace Go.Y.PRr
open Go.Proofs.aj.aA Go.Proofs.aj.aM Go.Proofs.aj.aN Go.Y.Given Go.Y.PRd
attribute [local go_sem] dF dD dR dQ cB cK dH dG
def iX : Option Int → Value
 | none => .nilIface
 | some c => .iface 0 (.int .i64 c)
theorem iY : iX none = .nilIface := rfl
theorem iV (c : Int) : iX (some c) = .iface 0 (.int .i64 c) := rfl
theorem Dq : (Tryz.prog.info? 28).map (fun i => (i.zero, i.size, i.bytes)) = some (some (.agg #[(.string ⟨#[]⟩), (.int .i64 0), (.int .i64 0), (.int .i64 0), (.string ⟨#[]⟩)]), 5, 56) := by kernel_rfl
structure S28 where
 f0 : ByteArray
 f1 : Int
 f2 : Int
 f3 : Int
 f4 : ByteArray
def z28 : S28 := ⟨(⟨#[]⟩ : ByteArray), (0 : Int), (0 : Int), (0 : Int), (⟨#[]⟩ : ByteArray)⟩
def k28 : Kd S28 := Kd.iso (Kd.pair Kd.string (Kd.pair (Kd.int .i64) (Kd.pair (Kd.int .i64) (Kd.pair (Kd.int .i64) Kd.string)))) (fun x : S28 => (x.f0, x.f1, x.f2, x.f3, x.f4))
theorem zG {w : World} {x : S28} {cs : List Value} (h : k28.K w x cs) : cs = [.string x.f0, .int .i64 x.f1, .int .i64 x.f2, .int .i64 x.f3, .string x.f4] := by
 obtain ⟨_, _, rfl, rfl, ⟨_, _, rfl, rfl, ⟨_, _, rfl, rfl, ⟨_, _, rfl, rfl, rfl⟩⟩⟩⟩ := h
 exact rfl
theorem Dv {w : World} {base : Nat} {ok : Nat → Prop} {x : S28} {cs : List Value} (h : k28.M w base ok x cs) : cs = [.string x.f0, .int .i64 x.f1, .int .i64 x.f2, .int .i64 x.f3, .string x.f4] := by
 obtain ⟨_, _, rfl, rfl, ⟨_, _, rfl, rfl, ⟨_, _, rfl, rfl, ⟨_, _, rfl, rfl, rfl⟩⟩⟩⟩ := h
 exact rfl
theorem Jt (w : World) (x : S28)  : k28.K w x [.string x.f0, .int .i64 x.f1, .int .i64 x.f2, .int .i64 x.f3, .string x.f4] := ⟨[.string x.f0], [.int .i64 x.f1, .int .i64 x.f2, .int .i64 x.f3, .string x.f4], rfl, rfl, ⟨[.int .i64 x.f1], [.int .i64 x.f2, .int .i64 x.f3, .string x.f4], rfl, rfl, ⟨[.int .i64 x.f2], [.int .i64 x.f3, .string x.f4], rfl, rfl, ⟨[.int .i64 x.f3], [.string x.f4], rfl, rfl, rfl⟩⟩⟩⟩
theorem gY (w : World) (base : Nat) (ok : Nat → Prop) (x : S28)  : k28.M w base ok x [.string x.f0, .int .i64 x.f1, .int .i64 x.f2, .int .i64 x.f3, .string x.f4] := ⟨[.string x.f0], [.int .i64 x.f1, .int .i64 x.f2, .int .i64 x.f3, .string x.f4], rfl, rfl, ⟨[.int .i64 x.f1], [.int .i64 x.f2, .int .i64 x.f3, .string x.f4], rfl, rfl, ⟨[.int .i64 x.f2], [.int .i64 x.f3, .string x.f4], rfl, rfl, ⟨[.int .i64 x.f3], [.string x.f4], rfl, rfl, rfl⟩⟩⟩⟩
def aC (xs : List S28) (i : Int) : S28 := xs.getD i.toNat z28
theorem iy {w : World} {A : Option Addr} {n : Nat} {xs : List S28} (h : Kd.C k28 w A n xs) (i : Int) (h0 : 0 ≤ i) (h1 : i < n) : ∃ ad , A = some ad ∧ w.cell? (ad.add (i.toNat * 5)) = some (.string (aC xs i).f0) ∧ w.cell? ⟨(ad.add (i.toNat * 5)).block, (ad.add (i.toNat * 5)).off + 1, none⟩ = some (.int .i64 (aC xs i).f1) ∧ w.cell? ⟨(ad.add (i.toNat * 5)).block, (ad.add (i.toNat * 5)).off + 2, none⟩ = some (.int .i64 (aC xs i).f2) ∧ w.cell? ⟨(ad.add (i.toNat * 5)).block, (ad.add (i.toNat * 5)).off + 3, none⟩ = some (.int .i64 (aC xs i).f3) ∧ w.cell? ⟨(ad.add (i.toNat * 5)).block, (ad.add (i.toNat * 5)).off + 4, none⟩ = some (.string (aC xs i).f4) := by
 obtain ⟨ad, c, e, _, hK, hc0⟩ := Kd.Ke h z28 i h0 h1
 have hc : ∀ j u, c[j]? = some u → w.cell? (ad.add (i.toNat * 5 + j)) = some u := hc0
 obtain rfl := zG hK
 exact ⟨ad, e, hc 0 _ rfl, by rw [← ou _ _ 1 (by omega)]; exact hc 1 _ rfl, by rw [← ou _ _ 2 (by omega)]; exact hc 2 _ rfl, by rw [← ou _ _ 3 (by omega)]; exact hc 3 _ rfl, by rw [← ou _ _ 4 (by omega)]; exact hc 4 _ rfl⟩
end Go.Y.PRr
namespace Go.Y.PRr
open Go.Proofs.aj.aA Go.Proofs.aj.aM Go.Proofs.aj.aN Go.Y.Given Go.Y.PRd
attribute [local go_sem] dF dD dR dQ cB cK dH dG
def iW.f (a0_0 : ByteArray) (a0_1 : Int) (a0_2 : Int) (a0_3 : Int) (a0_4 : ByteArray) : Option (Bool) := if a0_2 = 1 then (some true) else (if a0_2 = 254 then (some (!a0_4.toList.isEmpty)) else (some false))
theorem iW.calls (a0_0 : ByteArray) (a0_1 : Int) (a0_2 : Int) (a0_3 : Int) (a0_4 : ByteArray) (r : Bool) (w : World) (h : iW.f a0_0 a0_1 a0_2 a0_3 a0_4 = some r) :
    Calls Tryz.prog 85 #[.agg #[.string a0_0, .int .i64 a0_1, .int .i64 a0_2, .int .i64 a0_3, .string a0_4]] w fun e w' => e = .returned (.bool r) ∧ Below w.heap.size w w' := by
  have hu28 := Tryz.underlying28
  have HB := ah.mk (Below.refl w.heap.size w)
  have H : (if a0_2 = 1 then (some true) else (if a0_2 = 254 then (some (!a0_4.toList.isEmpty)) else (some false))) = some r := h
  clear h
  by_cases c2 : a0_2 = 1
  focus
   rw [if_pos c2] at H
   have c2b0 : (a0_2 == 1) = true := beq_iff_eq.mpr c2
   have c2b1 : (a0_2 != 1) = false := bne_eq_false_iff_eq.mpr c2
   clear c2
  rotate_left
  focus
   rw [if_neg c2] at H
   have c2b0 : (a0_2 == 1) = false := beq_eq_false_iff_ne.mpr c2
   have c2b1 : (a0_2 != 1) = true := bne_iff_ne.mpr c2
   by_cases c5 : a0_2 = 254
   focus
    rw [if_pos c5] at H
    have c5b0 : (a0_2 == 254) = true := beq_iff_eq.mpr c5
    have c5b1 : (a0_2 != 254) = false := bne_eq_false_iff_eq.mpr c5
    clear c5
   rotate_left
   focus
    rw [if_neg c5] at H
    have c5b0 : (a0_2 == 254) = false := beq_eq_false_iff_ne.mpr c5
    have c5b1 : (a0_2 != 254) = true := bne_iff_ne.mpr c5
   rotate_left
  rotate_left 2
  all_goals
   obtain rfl := Option.some.inj H
   go_enter Tryz.func85, Tryz.ntmps85
   go_wp2_with ((((with_reducible refine bK (N := 1) rfl ?_); refine dn ?hg (N := 1) ?hd (cs := #[.string a0_0, .int .i64 a0_1, .int .i64 a0_2, .int .i64 a0_3, .string a0_4]) (t := 28) ?hr ?_; (case hd => rfl); (case hg => rfl); (case hr => (go_simp; done)); intro gb101 hg w3 hbox hb; have BK101 := ah.mk (hbox); have GW101 := ah.mk (ge_ hg (av HB.out)); have GE101 := ah.mk (ge_ hg (av HB.out)); replace HB := ah.mk (ak HB.out hb); clear hb hbox hg; obtain ⟨hcz4_0, hcz4_1, hcz4_2, hcz4_3, hcz4_4, hfz4_0, hfz4_1, hfz4_2, hfz4_3, hfz4_4⟩ := z5_ BK101.out)))
   go_ret
   exact ⟨by rfl, HB.out⟩
def bn.j0 : Nat → Bool → ByteArray → Int → Int → Int → ByteArray → Option (Bool)
 | 0, _, _, _, _, _, _ => none
 | k + 1, x42, x103000, x103001, x103002, x103003, x103004 => if x42 = true then (some false) else ((iW.f x103000 x103001 x103002 x103003 x103004).bind fun t104 => (if t104 = true then ((gQ.f x103001 x103004).bind fun t105 => (some t105)) else (some true)))
def bn.f (k : Nat) (a0_0 : ByteArray) (a0_1 : Int) (a0_2 : Int) (a0_3 : Int) (a0_4 : ByteArray) : Option (Bool) := (bX.f a0_0).bind fun t103 => (if t103 = true then (if a0_1 < 0 then (bn.j0 k true a0_0 a0_1 a0_2 a0_3 a0_4) else (if a0_1 > 65535 then (bn.j0 k true a0_0 a0_1 a0_2 a0_3 a0_4) else (if a0_2 < 0 then (bn.j0 k true a0_0 a0_1 a0_2 a0_3 a0_4) else (if a0_2 > 65535 then (bn.j0 k true a0_0 a0_1 a0_2 a0_3 a0_4) else (if a0_3 < 0 then (bn.j0 k true a0_0 a0_1 a0_2 a0_3 a0_4) else (if a0_3 > 2147483647 then (bn.j0 k true a0_0 a0_1 a0_2 a0_3 a0_4) else (bn.j0 k (decide ((a0_4.size : Int) > 65535)) a0_0 a0_1 a0_2 a0_3 a0_4))))))) else (bn.j0 k true a0_0 a0_1 a0_2 a0_3 a0_4))
theorem bn.qX : ∀ k, (∀ y0 y1 y2 y3 y4 y5, LeO (bn.j0 k y0 y1 y2 y3 y4 y5) (bn.j0 (k + 1) y0 y1 y2 y3 y4 y5))
 | 0 => fun _ _ _ _ _ _ r h => by simp [bn.j0] at h
 | k + 1 => by
  have ih0 := bn.qX k
  ·intro y0 y1 y2 y3 y4 y5
   unfold bn.j0
   repeat' first
   | (with_reducible exact ih0 _ _ _ _ _ _)
   | (with_reducible exact LeO.refl _)
   | (with_reducible exact LeO.none _)
   | (with_reducible refine LeO.ite ?_ ?_)
   | (with_reducible refine LeO.bind ?_ (fun _ => ?_))
   | exact ih0 _ _ _ _ _ _
   | exact LeO.none _
   | refine LeO.ite ?_ ?_
   | refine LeO.bind ?_ (fun _ => ?_)
theorem bn.mono : ∀ a0 a1 a2 a3 a4 k, LeO (bn.f k a0 a1 a2 a3 a4) (bn.f (k + 1) a0 a1 a2 a3 a4) := by
 intro a0 a1 a2 a3 a4 k
 have ih0 := bn.qX k
 unfold bn.f
 repeat' first
   | (with_reducible exact ih0 _ _ _ _ _ _)
   | (with_reducible exact LeO.refl _)
   | (with_reducible exact LeO.none _)
   | (with_reducible refine LeO.ite ?_ ?_)
   | (with_reducible refine LeO.bind ?_ (fun _ => ?_))
   | exact ih0 _ _ _ _ _ _
   | exact LeO.none _
   | refine LeO.ite ?_ ?_
   | refine LeO.bind ?_ (fun _ => ?_)
theorem bn.calls (k : Nat) (a0_0 : ByteArray) (a0_1 : Int) (a0_2 : Int) (a0_3 : Int) (a0_4 : ByteArray) (r : Bool) (w : World) (h : bn.f k a0_0 a0_1 a0_2 a0_3 a0_4 = some r) :
    Calls Tryz.prog 50 #[.agg #[.string a0_0, .int .i64 a0_1, .int .i64 a0_2, .int .i64 a0_3, .string a0_4]] w fun e w' => e = .returned (.bool r) ∧ Below w.heap.size w w' := by
  have hu28 := Tryz.underlying28
  have HB := ah.mk (Below.refl w.heap.size w)
  have H : ((bX.f a0_0).bind fun t103 => (if t103 = true then (if a0_1 < 0 then (bn.j0 k true a0_0 a0_1 a0_2 a0_3 a0_4) else (if a0_1 > 65535 then (bn.j0 k true a0_0 a0_1 a0_2 a0_3 a0_4) else (if a0_2 < 0 then (bn.j0 k true a0_0 a0_1 a0_2 a0_3 a0_4) else (if a0_2 > 65535 then (bn.j0 k true a0_0 a0_1 a0_2 a0_3 a0_4) else (if a0_3 < 0 then (bn.j0 k true a0_0 a0_1 a0_2 a0_3 a0_4) else (if a0_3 > 2147483647 then (bn.j0 k true a0_0 a0_1 a0_2 a0_3 a0_4) else (bn.j0 k (decide ((a0_4.size : Int) > 65535)) a0_0 a0_1 a0_2 a0_3 a0_4))))))) else (bn.j0 k true a0_0 a0_1 a0_2 a0_3 a0_4))) = some r := h
  clear h
  have HC2 := ah.mk H
  clear H
  go_enter Tryz.func50, Tryz.ntmps50
  go_upto_region 1 with ((((with_reducible refine bK (N := 1) rfl ?_); (try (refine dA (by rfl) ?_; dsimp only)); refine dn ?hg (N := 1) ?hd (cs := #[.string a0_0, .int .i64 a0_1, .int .i64 a0_2, .int .i64 a0_3, .string a0_4]) (t := 28) ?hr ?_; (case hd => rfl); (case hg => rfl); (case hr => (go_simp; done)); intro gb102 hg w3 hbox hb; have BK102 := ah.mk (hbox); have GW102 := ah.mk (ge_ hg (av HB.out)); have GE102 := ah.mk (ge_ hg (av HB.out)); replace HB := ah.mk (ak HB.out hb); clear hb hbox hg)))
  go_cut [42] (fun v42 wc => ∃ (kq : Nat) (x42_1 : Bool), v42 = .bool x42_1 ∧ ah (bn.j0 kq x42_1 a0_0 a0_1 a0_2 a0_3 a0_4 = some r) ∧ ah (kq ≤ k) ∧ ah (wc.heap[gb102]? = some (.cells #[.string a0_0, .int .i64 a0_1, .int .i64 a0_2, .int .i64 a0_3, .string a0_4] 28 (0, 0))) ∧ ah (Below w.heap.size w wc))
  case first =>
   have H := HC2.out
   clear HC2
   obtain ⟨t103, A4, H⟩ := cZ H
   by_cases c5 : t103 = true
   focus
    subst c5
    rw [if_pos rfl] at H
    by_cases c6 : a0_1 < 0
    focus
     rw [if_pos c6] at H
     have c6b0 : decide (a0_1 < 0) = true := decide_eq_true c6
    rotate_left
    focus
     rw [if_neg c6] at H
     have c6b0 : decide (a0_1 < 0) = false := decide_eq_false c6
    rotate_left
    all_goals
     clear c6
     (skip)
    rotate_left
    focus
     by_cases c10 : a0_1 > 65535
     focus
      rw [if_pos c10] at H
      have c10b0 : decide (65535 < a0_1) = true := decide_eq_true c10
      clear c10
     rotate_left
     focus
      rw [if_neg c10] at H
      have c10b0 : decide (65535 < a0_1) = false := decide_eq_false c10
      clear c10
      by_cases c14 : a0_2 < 0
      focus
       rw [if_pos c14] at H
       have c14b0 : decide (a0_2 < 0) = true := decide_eq_true c14
       clear c14
      rotate_left
      focus
       rw [if_neg c14] at H
       have c14b0 : decide (a0_2 < 0) = false := decide_eq_false c14
       clear c14
       by_cases c18 : a0_2 > 65535
       focus
        rw [if_pos c18] at H
        have c18b0 : decide (65535 < a0_2) = true := decide_eq_true c18
        clear c18
       rotate_left
       focus
        rw [if_neg c18] at H
        have c18b0 : decide (65535 < a0_2) = false := decide_eq_false c18
        clear c18
        by_cases c22 : a0_3 < 0
        focus
         rw [if_pos c22] at H
         have c22b0 : decide (a0_3 < 0) = true := decide_eq_true c22
         clear c22
        rotate_left
        focus
         rw [if_neg c22] at H
         have c22b0 : decide (a0_3 < 0) = false := decide_eq_false c22
         clear c22
         by_cases c26 : a0_3 > 2147483647
         focus
          rw [if_pos c26] at H
          have c26b0 : decide (2147483647 < a0_3) = true := decide_eq_true c26
         rotate_left
         focus
          rw [if_neg c26] at H
          have c26b0 : decide (2147483647 < a0_3) = false := decide_eq_false c26
         rotate_left
         all_goals
          clear c26
        rotate_left 2
       rotate_left 3
      rotate_left 4
     rotate_left 5
    rotate_left 6
   rotate_left 7
   focus
    replace c5 := Bool.eq_false_iff.mpr c5
    subst c5
    rw [if_neg ff_] at H
   rotate_left
   all_goals
    have H' := ah.mk H
    clear H
    obtain ⟨hcz7_0, hcz7_1, hcz7_2, hcz7_3, hcz7_4, hfz7_0, hfz7_1, hfz7_2, hfz7_3, hfz7_4⟩ := z5_ BK102.out
   iterate 7
    focus
     go_wp2_with (((refine gl_ (some 5) Tryz.func47 #[.string a0_0] ?_; (with_reducible refine (bX.calls a0_0 _ _ A4.out).mono ?_); rintro e w8 ⟨rfl, hb⟩; refine ⟨_, rfl, ?_⟩; replace BK102 := ah.mk (ay (by ((exact BK102.out))) hb); replace HB := ah.mk (ak HB.out hb); (try clear hb); obtain ⟨hcz9_0, hcz9_1, hcz9_2, hcz9_3, hcz9_4, hfz9_0, hfz9_1, hfz9_2, hfz9_3, hfz9_4⟩ := z5_ BK102.out)))
     go_meet
    rotate_left
   rotate_left
   ·case rel => exact ⟨_, (true), (by rfl), H', ⟨by omega⟩, ⟨by (with_reducible repeat ((refine au ?_ _))); exact BK102.out⟩, ⟨HB.out⟩⟩
   ·case rel => exact ⟨_, (true), (by rfl), H', ⟨by omega⟩, ⟨by (with_reducible repeat ((refine au ?_ _))); exact BK102.out⟩, ⟨HB.out⟩⟩
   ·case rel => exact ⟨_, (true), (by rfl), H', ⟨by omega⟩, ⟨by (with_reducible repeat ((refine au ?_ _))); exact BK102.out⟩, ⟨HB.out⟩⟩
   ·case rel => exact ⟨_, (true), (by rfl), H', ⟨by omega⟩, ⟨by (with_reducible repeat ((refine au ?_ _))); exact BK102.out⟩, ⟨HB.out⟩⟩
   ·case rel => exact ⟨_, (true), (by rfl), H', ⟨by omega⟩, ⟨by (with_reducible repeat ((refine au ?_ _))); exact BK102.out⟩, ⟨HB.out⟩⟩
   ·case rel => exact ⟨_, (true), (by rfl), H', ⟨by omega⟩, ⟨by (with_reducible repeat ((refine au ?_ _))); exact BK102.out⟩, ⟨HB.out⟩⟩
   ·case rel => exact ⟨_, (decide ((a0_4.size : Int) > 65535)), (by rfl), H', ⟨by omega⟩, ⟨by (with_reducible repeat ((refine au ?_ _))); exact BK102.out⟩, ⟨HB.out⟩⟩
   ·go_wp2_with (((refine gl_ (some 5) Tryz.func47 #[.string a0_0] ?_; (with_reducible refine (bX.calls a0_0 _ _ A4.out).mono ?_); rintro e w34 ⟨rfl, hb⟩; refine ⟨_, rfl, ?_⟩; replace BK102 := ah.mk (ay (by ((exact BK102.out))) hb); replace HB := ah.mk (ak HB.out hb); (try clear hb))))
    go_meet
    case rel => exact ⟨_, (true), (by rfl), H', ⟨by omega⟩, ⟨by (with_reducible repeat ((refine au ?_ _))); exact BK102.out⟩, ⟨HB.out⟩⟩
  case rest =>
   clear HC2
   obtain ⟨kq, x42_1, rfl, HA, HJ1, BK102, HB⟩ := hcut
   cases kq with
   | zero => exact absurd HA.out (by simp [bn.j0])
   | succ kj1 =>
    have H := HA.out
    clear HA
    simp only [bn.j0] at H
    by_cases c35 : x42_1 = true
    focus
     subst c35
     rw [if_pos rfl] at H
     obtain rfl := Option.some.inj H
     go_wp2
    rotate_left
    focus
     replace c35 := Bool.eq_false_iff.mpr c35
     subst c35
     rw [if_neg ff_] at H
     obtain ⟨t104, A36, H⟩ := cZ H
     by_cases c37 : t104 = true
     focus
      subst c37
      rw [if_pos rfl] at H
      obtain ⟨t105, A38, H⟩ := cZ H
     rotate_left
     focus
      replace c37 := Bool.eq_false_iff.mpr c37
      subst c37
      rw [if_neg ff_] at H
     rotate_left
     all_goals
      obtain rfl := Option.some.inj H
      obtain ⟨hcz39_0, hcz39_1, hcz39_2, hcz39_3, hcz39_4, hfz39_0, hfz39_1, hfz39_2, hfz39_3, hfz39_4⟩ := z5_ BK102.out
     focus
      go_wp2_with (first | (refine gl_ (some 44) Tryz.func85 #[.agg #[.string a0_0, .int .i64 a0_1, .int .i64 a0_2, .int .i64 a0_3, .string a0_4]] ?_; (with_reducible refine (iW.calls a0_0 a0_1 a0_2 a0_3 a0_4 _ _ A36.out).mono ?_); rintro e w40 ⟨rfl, hb⟩; refine ⟨_, rfl, ?_⟩; replace BK102 := ah.mk (ay (by ((exact BK102.out))) hb); replace HB := ah.mk (ak HB.out hb); (try clear hb); obtain ⟨hcz41_0, hcz41_1, hcz41_2, hcz41_3, hcz41_4, hfz41_0, hfz41_1, hfz41_2, hfz41_3, hfz41_4⟩ := z5_ BK102.out) | (go_at_call 86; (with_reducible refine (gQ.calls a0_1 a0_4 t105 _ A38.out).mono ?_); rintro e w42 ⟨rfl, hb⟩; replace BK102 := ah.mk (ay (by ((exact BK102.out))) hb); replace HB := ah.mk (ak HB.out hb); (try clear hb)))
     rotate_left
     focus
      go_wp2_with (((refine gl_ (some 44) Tryz.func85 #[.agg #[.string a0_0, .int .i64 a0_1, .int .i64 a0_2, .int .i64 a0_3, .string a0_4]] ?_; (with_reducible refine (iW.calls a0_0 a0_1 a0_2 a0_3 a0_4 _ _ A36.out).mono ?_); rintro e w44 ⟨rfl, hb⟩; refine ⟨_, rfl, ?_⟩; replace BK102 := ah.mk (ay (by ((exact BK102.out))) hb); replace HB := ah.mk (ak HB.out hb); (try clear hb))))
     rotate_left
    rotate_left 2
    all_goals
     go_ret
     exact ⟨by rfl, HB.out⟩
def fE.l0 : Nat → Int → List Int → Int → Int → Option (Int)
 | 0, _, _, _, _ => none
 | k + 1, x3, x6, x7, x8 => if x8 < x7 then (if 0 ≤ x8 then (if x8 < (x6.length : Int) then (if (rd x6 x8) = x3 then (fE.l0 k x3 x6 x7 (wrap64 (x8 + 1))) else (some (rd x6 x8))) else (none)) else (none)) else (some x3)
def fE.f (k : Nat) (l0 : List Int) : Option (Int) := fE.l0 k 0 l0 (l0.length : Int) 0
theorem fE.calls (k : Nat) (A0 : Option Addr) (c0 : Nat) (l0 : List Int) (r : Int) (w : World) (hr0 : Kd.C (Kd.int .i64) w A0 l0.length l0) (hc0 : l0.length ≤ c0) (h : fE.f k l0 = some r) :
    Calls Tryz.prog 72 #[.slice A0 l0.length c0] w fun e w' => e = .returned (.int .i64 r) ∧ aX w w' := by
  have HR0 := ah.mk hr0
  have HC0 := ah.mk hc0
  clear hr0 hc0
  have H : (fE.l0 k 0 l0 (l0.length : Int) 0) = some r := h
  clear h
  have H' := ah.mk H
  clear H
  go_enter Tryz.func72, Tryz.ntmps72
  go_wp2
  go_loopg [8] k (fun kq v8 w' => ∃ (x8_1 : Int), v8 = .int .i64 x8_1 ∧ ah (fE.l0 kq 0 l0 (l0.length : Int) x8_1 = some r) ∧ ah (kq ≤ k) ∧ aX w w')
  case atStart => exact ⟨(0), (by rfl), H', ⟨Nat.le_refl _⟩, by repeat ((exact aX.refl _))⟩
  case round =>
   clear H'
   obtain ⟨x8_1, rfl, HA, HK1, ⟨m1, rfl⟩⟩ := hrel
   cases gk with
   | zero => exact absurd HA.out (by simp [fE.l0])
   | succ k1 =>
    have H := HA.out
    clear HA
    simp only [fE.l0] at H
    by_cases c2 : x8_1 < (l0.length : Int)
    ·rw [if_pos c2] at H
     have c2b0 : decide (x8_1 < (l0.length : Int)) = true := decide_eq_true c2
     clear c2
     obtain ⟨c3b0, H⟩ := eP H
     obtain ⟨c4b0, H⟩ := eP H
     by_cases c5 : (rd l0 x8_1) = 0
     focus
      rw [if_pos c5] at H
      have c5b0 : ((rd l0 x8_1) == 0) = true := beq_iff_eq.mpr c5
      have c5b1 : ((rd l0 x8_1) != 0) = false := bne_eq_false_iff_eq.mpr c5
      clear c5
      have H' := ah.mk H
      clear H
     rotate_left
     focus
      rw [if_neg c5] at H
      have c5b0 : ((rd l0 x8_1) == 0) = false := beq_eq_false_iff_ne.mpr c5
      have c5b1 : ((rd l0 x8_1) != 0) = true := bne_iff_ne.mpr c5
      obtain rfl := Option.some.inj H
     rotate_left
     all_goals
      have p106 : 0 ≤ (x8_1 : Int) := of_decide_eq_true (by assumption)
      have q106 : x8_1 < (l0.length : Int) := of_decide_eq_true (by assumption)
      obtain ⟨ad106, e106, hx106_0⟩ := Kd.nX HR0.out x8_1 p106 q106
      cases e106
      replace p106 := eq_true p106
      replace q106 := eq_true q106
      go_wp2
     ·go_roundg k1
      case measure => have := HK1.out; omega
      case rel => exact ⟨(wrap64 (x8_1 + 1)), (by rfl), H', ⟨by have := HK1.out; omega⟩, by repeat (first | exact aX.refl _ | apply aX.step)⟩
     ·go_ret
      exact ⟨by rfl, by repeat (first | exact aX.refl _ | apply aX.step)⟩
    ·rw [if_neg c2] at H
     have c2b0 : decide (x8_1 < (l0.length : Int)) = false := decide_eq_false c2
     clear c2
     obtain rfl := Option.some.inj H
     go_wp2
     go_ret
     exact ⟨by rfl, by repeat (first | exact aX.refl _ | apply aX.step)⟩
def cmp_isNaN_int.f (a0 : Int) : Option (Bool) := some (a0 != a0)
theorem cmp_isNaN_int.calls (a0 : Int) (r : Bool) (w : World) (h : cmp_isNaN_int.f a0 = some r) :
  Calls Tryz.prog 109 #[.int .i64 a0] w fun e w' => e = .returned (.bool r) ∧ aX w w' := by
 have H : (some (a0 != a0)) = some r := h
 clear h
 obtain rfl := Option.some.inj H
 go_enter Tryz.func109, Tryz.ntmps109
 go_wp2
 go_ret
 exact ⟨by rfl, by repeat ((exact aX.refl _))⟩
def cmp_Compare_int.f (a0 : Int) (a1 : Int) : Option (Int) := (cmp_isNaN_int.f a0).bind fun t107 => ((cmp_isNaN_int.f a1).bind fun t108 => (if t107 = true then (if t108 = true then (some 0) else (some (-1))) else (if t108 = true then (some 1) else (if a0 < a1 then (some (-1)) else (if a0 > a1 then (some 1) else (some 0))))))
theorem cmp_Compare_int.calls (a0 : Int) (a1 : Int) (r : Int) (w : World) (h : cmp_Compare_int.f a0 a1 = some r) :
    Calls Tryz.prog 73 #[.int .i64 a0, .int .i64 a1] w fun e w' => e = .returned (.int .i64 r) ∧ aX w w' := by
  have H : ((cmp_isNaN_int.f a0).bind fun t107 => ((cmp_isNaN_int.f a1).bind fun t108 => (if t107 = true then (if t108 = true then (some 0) else (some (-1))) else (if t108 = true then (some 1) else (if a0 < a1 then (some (-1)) else (if a0 > a1 then (some 1) else (some 0))))))) = some r := h
  clear h
  obtain ⟨t107, A3, H⟩ := cZ H
  obtain ⟨t108, A4, H⟩ := cZ H
  by_cases c5 : t107 = true
  focus
   subst c5
   rw [if_pos rfl] at H
   by_cases c6 : t108 = true
   focus
    subst c6
    rw [if_pos rfl] at H
   rotate_left
   focus
    replace c6 := Bool.eq_false_iff.mpr c6
    subst c6
    rw [if_neg ff_] at H
   rotate_left
  rotate_left 2
  focus
   replace c5 := Bool.eq_false_iff.mpr c5
   subst c5
   rw [if_neg ff_] at H
   by_cases c7 : t108 = true
   focus
    subst c7
    rw [if_pos rfl] at H
   rotate_left
   focus
    replace c7 := Bool.eq_false_iff.mpr c7
    subst c7
    rw [if_neg ff_] at H
    by_cases c8 : a0 < a1
    focus
     rw [if_pos c8] at H
     have c8b0 : decide (a0 < a1) = true := decide_eq_true c8
     clear c8
    rotate_left
    focus
     rw [if_neg c8] at H
     have c8b0 : decide (a0 < a1) = false := decide_eq_false c8
     clear c8
     by_cases c9 : a0 > a1
     focus
      rw [if_pos c9] at H
      have c9b0 : decide (a1 < a0) = true := decide_eq_true c9
     rotate_left
     focus
      rw [if_neg c9] at H
      have c9b0 : decide (a1 < a0) = false := decide_eq_false c9
     rotate_left
     all_goals
      clear c9
    rotate_left 2
   rotate_left 3
  rotate_left 4
  all_goals
   obtain rfl := Option.some.inj H
   go_enter Tryz.func73, Tryz.ntmps73
   go_wp2_with (first | (refine gl_ (some 8) Tryz.func109 #[.int .i64 a0] ?_; (with_reducible refine (cmp_isNaN_int.calls a0 _ _ A3.out).mono ?_); rintro e w' ⟨rfl, ⟨nd, rfl⟩⟩; refine ⟨_, rfl, ?_⟩) | (refine gl_ (some 10) Tryz.func109 #[.int .i64 a1] ?_; (with_reducible refine (cmp_isNaN_int.calls a1 _ _ A4.out).mono ?_); rintro e w' ⟨rfl, ⟨nd, rfl⟩⟩; refine ⟨_, rfl, ?_⟩))
   go_ret
   exact ⟨by rfl, by repeat (first | exact aX.refl _ | apply aX.step)⟩
def iE.f (a0_0 : ByteArray) (a0_1 : Int) (a0_2 : Int) (a0_3 : Int) (a0_4 : ByteArray) : Option (ByteArray) := (gQ.f a0_1 a0_4).bind fun t110 => (if t110 = true then ((jT.f a0_1 a0_4).bind fun t111 => (some t111)) else (some a0_4))
theorem iE.calls (a0_0 : ByteArray) (a0_1 : Int) (a0_2 : Int) (a0_3 : Int) (a0_4 : ByteArray) (r : ByteArray) (w : World) (h : iE.f a0_0 a0_1 a0_2 a0_3 a0_4 = some r) :
    Calls Tryz.prog 75 #[.agg #[.string a0_0, .int .i64 a0_1, .int .i64 a0_2, .int .i64 a0_3, .string a0_4]] w fun e w' => e = .returned (.string r) ∧ Below w.heap.size w w' := by
  have hu28 := Tryz.underlying28
  have HB := ah.mk (Below.refl w.heap.size w)
  have H : ((gQ.f a0_1 a0_4).bind fun t110 => (if t110 = true then ((jT.f a0_1 a0_4).bind fun t111 => (some t111)) else (some a0_4))) = some r := h
  clear h
  obtain ⟨t110, A2, H⟩ := cZ H
  by_cases c3 : t110 = true
  focus
   subst c3
   rw [if_pos rfl] at H
   obtain ⟨t111, A4, H⟩ := cZ H
  rotate_left
  focus
   replace c3 := Bool.eq_false_iff.mpr c3
   subst c3
   rw [if_neg ff_] at H
  rotate_left
  all_goals
   obtain rfl := Option.some.inj H
   go_enter Tryz.func75, Tryz.ntmps75
  focus
   go_wp2_with (first | ((with_reducible refine bK (N := 1) rfl ?_); refine dn ?hg (N := 1) ?hd (cs := #[.string a0_0, .int .i64 a0_1, .int .i64 a0_2, .int .i64 a0_3, .string a0_4]) (t := 28) ?hr ?_; (case hd => rfl); (case hg => rfl); (case hr => (go_simp; done)); intro gb109 hg w5 hbox hb; have BK109 := ah.mk (hbox); have GW109 := ah.mk (ge_ hg (av HB.out)); have GE109 := ah.mk (ge_ hg (av HB.out)); replace HB := ah.mk (ak HB.out hb); clear hb hbox hg; obtain ⟨hcz6_0, hcz6_1, hcz6_2, hcz6_3, hcz6_4, hfz6_0, hfz6_1, hfz6_2, hfz6_3, hfz6_4⟩ := z5_ BK109.out) | (refine gl_ (some 7) Tryz.func86 #[.int .i64 a0_1, .string a0_4] ?_; (with_reducible refine (gQ.calls a0_1 a0_4 _ _ A2.out).mono ?_); rintro e w7 ⟨rfl, hb⟩; refine ⟨_, rfl, ?_⟩; replace BK109 := ah.mk (ay (by ((exact BK109.out))) hb); replace HB := ah.mk (ak HB.out hb); (try clear hb); obtain ⟨hcz8_0, hcz8_1, hcz8_2, hcz8_3, hcz8_4, hfz8_0, hfz8_1, hfz8_2, hfz8_3, hfz8_4⟩ := z5_ BK109.out) | (refine gl_ (some 15) Tryz.func111 #[.int .i64 a0_1, .string a0_4] ?_; (with_reducible refine (jT.calls a0_1 a0_4 t111 _ A4.out).mono ?_); rintro e w9 ⟨rfl, hb⟩; refine ⟨_, rfl, ?_⟩; replace BK109 := ah.mk (ay (by ((exact BK109.out))) hb); replace HB := ah.mk (ak HB.out hb); (try clear hb)))
  rotate_left
  focus
   go_wp2_with (first | ((with_reducible refine bK (N := 1) rfl ?_); refine dn ?hg (N := 1) ?hd (cs := #[.string a0_0, .int .i64 a0_1, .int .i64 a0_2, .int .i64 a0_3, .string a0_4]) (t := 28) ?hr ?_; (case hd => rfl); (case hg => rfl); (case hr => (go_simp; done)); intro gb109 hg w10 hbox hb; have BK109 := ah.mk (hbox); have GW109 := ah.mk (ge_ hg (av HB.out)); have GE109 := ah.mk (ge_ hg (av HB.out)); replace HB := ah.mk (ak HB.out hb); clear hb hbox hg; obtain ⟨hcz11_0, hcz11_1, hcz11_2, hcz11_3, hcz11_4, hfz11_0, hfz11_1, hfz11_2, hfz11_3, hfz11_4⟩ := z5_ BK109.out) | (refine gl_ (some 7) Tryz.func86 #[.int .i64 a0_1, .string a0_4] ?_; (with_reducible refine (gQ.calls a0_1 a0_4 _ _ A2.out).mono ?_); rintro e w12 ⟨rfl, hb⟩; refine ⟨_, rfl, ?_⟩; replace BK109 := ah.mk (ay (by ((exact BK109.out))) hb); replace HB := ah.mk (ak HB.out hb); (try clear hb); obtain ⟨hcz13_0, hcz13_1, hcz13_2, hcz13_3, hcz13_4, hfz13_0, hfz13_1, hfz13_2, hfz13_3, hfz13_4⟩ := z5_ BK109.out))
  rotate_left
  all_goals
   go_ret
   exact ⟨by rfl, HB.out⟩
end Go.Y.PRr
