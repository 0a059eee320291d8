/- Contracts and facts that the claim's row is drawn from, each with its own conditions. -/
import Derived.Test.YtkgghkfolmmadaaGreatJoined1
import Derived.WalkKit
import Derived.Below
import Derived.Lib.Hide
import Derived.Outline
import Derived.Deep.LoopGhost
import Derived.Shelf.Strings.BuilderK
import Derived.Test.YtkgghkfolmmadaaGreatProg
import Derived.Deep.Draws
import Derived.Deep.AppendLies
import Derived.Maps.AppendAt
import Derived.OwnWalk
import Derived.Laws.BytesArg
import Derived.Laws.MakeOwn
import Derived.Laws.OwnMore
import Derived.Deep.OwnRows
import Derived.Tactics
import Derived.Lib.ConvBytes
import Derived.Laws.Slices
import Derived.KernelRfl
import Derived.RowKit3
import Derived.Deep.QuietTactic
import Derived.BigQuiet
import Derived.WideLaws
import Derived.Deep.DeepCutAuto
import Derived.Deep.CutBlock
import Derived.Deep.RegionHeld3
import Derived.Laws.Rows
import Derived.Lib.AppendStr
import Derived.ArgAppend
import Derived.Laws.IdiomCopy
import Derived.OrdersHeld
import Derived.Laws.BitsLemmas
import Derived.RowKit
set_option linter.unusedSimpArgs false
set_option linter.unusedVariables false
set_option maxHeartbeats 8000000
set_option maxRecDepth 100000
open Go.Proofs Go.RowKit
namespace Go.Y.PRd
open Go.Proofs.ah.av Go.Proofs.ah.aT Go.Proofs.ah.aU Go.Y.Given
attribute [local go_sem] dB dD dQ dP cK cB dA dF
def bV.j0 : Nat → Int → Bool → Option (ByteArray)
 | 0, _, _ => none
 | k + 1, x3, x8 => if x8 = true then (some (⟨#[110]⟩ : ByteArray)) else (if x3 = 15 then (some (⟨#[50, 110]⟩ : ByteArray)) else (if x3 = 6 then (some (⟨#[110, 110, 52, 52, 52, 52, 52]⟩ : ByteArray)) else (if x3 = 16 then (some (⟨#[116]⟩ : ByteArray)) else (if x3 = 33 then (some (⟨#[50, 50, 50, 117]⟩ : ByteArray)) else (some (⟨#[111]⟩ : ByteArray))))))
def bV.f (k : Nat) (a0 : Int) : Option (ByteArray) := if a0 = 1 then (some (⟨#[52]⟩ : ByteArray)) else (if a0 = 28 then (some (⟨#[104]⟩ : ByteArray)) else (if a0 = 2 then (bV.j0 k a0 (a0 == 2)) else (if a0 = 5 then (bV.j0 k a0 (a0 == 5)) else (bV.j0 k a0 (a0 == 12)))))
theorem bV.calls (k : Nat) (a0 : Int) (r : ByteArray) (w : World) (h : bV.f k a0 = some r) :
  Calls Tryz.prog 138 #[.int .i64 a0] w fun e w' => e = .returned (.string r) ∧ bf w w' := by
 have H : (if a0 = 1 then (some (⟨#[52]⟩ : ByteArray)) else (if a0 = 28 then (some (⟨#[104]⟩ : ByteArray)) else (if a0 = 2 then (bV.j0 k a0 (a0 == 2)) else (if a0 = 5 then (bV.j0 k a0 (a0 == 5)) else (bV.j0 k a0 (a0 == 12)))))) = some r := h
 clear h
 by_cases c2 : a0 = 1
 ·rw [if_pos c2] at H
  have c2b0 : (a0 == 1) = true := beq_iff_eq.mpr c2
  have c2b1 : (a0 != 1) = false := bne_eq_false_iff_eq.mpr c2
  clear c2
  obtain rfl := Option.some.inj H
  go_enter Tryz.func138, Tryz.ntmps138
  go_wp2
  go_ret
  exact ⟨by first | rfl | (simp; done) | (simp [*]; done), by repeat (first | exact bf.refl _ | apply bf.step)⟩
 ·rw [if_neg c2] at H
  have c2b0 : (a0 == 1) = false := beq_eq_false_iff_ne.mpr c2
  have c2b1 : (a0 != 1) = true := bne_iff_ne.mpr c2
  by_cases c3 : a0 = 28
  ·rw [if_pos c3] at H
   have c3b0 : (a0 == 28) = true := beq_iff_eq.mpr c3
   have c3b1 : (a0 != 28) = false := bne_eq_false_iff_eq.mpr c3
   clear c3
   obtain rfl := Option.some.inj H
   go_enter Tryz.func138, Tryz.ntmps138
   go_wp2
   go_ret
   exact ⟨by first | rfl | (simp; done) | (simp [*]; done), by repeat (first | exact bf.refl _ | apply bf.step)⟩
  ·rw [if_neg c3] at H
   have c3b0 : (a0 == 28) = false := beq_eq_false_iff_ne.mpr c3
   have c3b1 : (a0 != 28) = true := bne_iff_ne.mpr c3
   have HC4 := aj.mk H
   clear H
   go_enter Tryz.func138, Tryz.ntmps138
   go_upto_if 8 with (fail)
   go_cut [8] (fun v8 wc => ∃ (kq : Nat) (x8_3 : Bool), v8 = .bool x8_3 ∧ aj (bV.j0 kq a0 x8_3 = some r) ∧ aj (kq ≤ k) ∧ bf w wc)
   case first =>
    have H := HC4.out
    clear HC4
    by_cases c5 : a0 = 2
    ·rw [if_pos c5] at H
     have c5b0 : (a0 == 2) = true := beq_iff_eq.mpr c5
     have c5b1 : (a0 != 2) = false := bne_eq_false_iff_eq.mpr c5
     clear c5
     (first | rw [c5b0] | (simp only [dU, fA]; rw [c5b0]) | skip)
     have H' := aj.mk H
     clear H
     go_wp2
     go_meet
     case rel => exact ⟨_, ((a0 == 2)), (by first | rfl | (simp; done) | (simp [*]; done)), H', ⟨by first | omega | exact Nat.le_refl _⟩, by repeat (first | exact bf.refl _ | apply bf.step)⟩
    ·rw [if_neg c5] at H
     have c5b0 : (a0 == 2) = false := beq_eq_false_iff_ne.mpr c5
     have c5b1 : (a0 != 2) = true := bne_iff_ne.mpr c5
     (first | rw [c5b0] | (simp only [dU, fA]; rw [c5b0]) | skip)
     by_cases c6 : a0 = 5
     ·rw [if_pos c6] at H
      have c6b0 : (a0 == 5) = true := beq_iff_eq.mpr c6
      have c6b1 : (a0 != 5) = false := bne_eq_false_iff_eq.mpr c6
      clear c6
      have H' := aj.mk H
      clear H
      go_wp2
      go_meet
      case rel => exact ⟨_, ((a0 == 5)), (by first | rfl | (simp; done) | (simp [*]; done)), H', ⟨by first | omega | exact Nat.le_refl _⟩, by repeat (first | exact bf.refl _ | apply bf.step)⟩
     ·rw [if_neg c6] at H
      have c6b0 : (a0 == 5) = false := beq_eq_false_iff_ne.mpr c6
      have c6b1 : (a0 != 5) = true := bne_iff_ne.mpr c6
      have H' := aj.mk H
      clear H
      go_wp2
      go_meet
      case rel => exact ⟨_, ((a0 == 12)), (by first | rfl | (simp; done) | (simp [*]; done)), H', ⟨by first | omega | exact Nat.le_refl _⟩, by repeat (first | exact bf.refl _ | apply bf.step)⟩
   case rest =>
    clear HC4
    try clear c1
    try clear c2
    try clear c2b0
    try clear c2b1
    try clear p2
    try clear c3
    try clear c3b0
    try clear c3b1
    try clear c5
    try clear c5b0
    try clear c5b1
    try clear c6
    try clear c6b0
    try clear c6b1
    obtain ⟨kq, x8_3, rfl, HA, HJ3, ⟨mc3, rfl⟩⟩ := hcut
    cases kq with
    | zero => exact absurd HA.out (by simp [bV.j0])
    | succ kj3 =>
     have H := HA.out
     clear HA
     simp only [bV.j0] at H
     by_cases c7 : x8_3 = true
     ·subst c7
      have H1 : (some (⟨#[110]⟩ : ByteArray)) = some r := by rw [if_pos rfl] at H; exact H
      clear H
      have H := H1
      clear H1
      obtain rfl := Option.some.inj H
      go_wp2
      go_ret
      exact ⟨by first | rfl | (simp; done) | (simp [*]; done), by repeat (first | exact bf.refl _ | apply bf.step)⟩
     ·replace c7 := Bool.eq_false_iff.mpr c7
      subst c7
      have H1 : (if a0 = 15 then (some (⟨#[50, 110]⟩ : ByteArray)) else (if a0 = 6 then (some (⟨#[110, 110, 52, 52, 52, 52, 52]⟩ : ByteArray)) else (if a0 = 16 then (some (⟨#[116]⟩ : ByteArray)) else (if a0 = 33 then (some (⟨#[50, 50, 50, 117]⟩ : ByteArray)) else (some (⟨#[111]⟩ : ByteArray)))))) = some r := by rw [if_neg (show ¬ (false = true) by decide)] at H; exact H
      clear H
      have H := H1
      clear H1
      by_cases c8 : a0 = 15
      ·rw [if_pos c8] at H
       have c8b0 : (a0 == 15) = true := beq_iff_eq.mpr c8
       have c8b1 : (a0 != 15) = false := bne_eq_false_iff_eq.mpr c8
       clear c8
       obtain rfl := Option.some.inj H
       go_wp2
       go_ret
       exact ⟨by first | rfl | (simp; done) | (simp [*]; done), by repeat (first | exact bf.refl _ | apply bf.step)⟩
      ·rw [if_neg c8] at H
       have c8b0 : (a0 == 15) = false := beq_eq_false_iff_ne.mpr c8
       have c8b1 : (a0 != 15) = true := bne_iff_ne.mpr c8
       by_cases c9 : a0 = 6
       ·rw [if_pos c9] at H
        have c9b0 : (a0 == 6) = true := beq_iff_eq.mpr c9
        have c9b1 : (a0 != 6) = false := bne_eq_false_iff_eq.mpr c9
        clear c9
        obtain rfl := Option.some.inj H
        go_wp2
        go_ret
        exact ⟨by first | rfl | (simp; done) | (simp [*]; done), by repeat (first | exact bf.refl _ | apply bf.step)⟩
       ·rw [if_neg c9] at H
        have c9b0 : (a0 == 6) = false := beq_eq_false_iff_ne.mpr c9
        have c9b1 : (a0 != 6) = true := bne_iff_ne.mpr c9
        by_cases c10 : a0 = 16
        ·rw [if_pos c10] at H
         have c10b0 : (a0 == 16) = true := beq_iff_eq.mpr c10
         have c10b1 : (a0 != 16) = false := bne_eq_false_iff_eq.mpr c10
         clear c10
         obtain rfl := Option.some.inj H
         go_wp2
         go_ret
         exact ⟨by first | rfl | (simp; done) | (simp [*]; done), by repeat (first | exact bf.refl _ | apply bf.step)⟩
        ·rw [if_neg c10] at H
         have c10b0 : (a0 == 16) = false := beq_eq_false_iff_ne.mpr c10
         have c10b1 : (a0 != 16) = true := bne_iff_ne.mpr c10
         by_cases c11 : a0 = 33
         ·rw [if_pos c11] at H
          have c11b0 : (a0 == 33) = true := beq_iff_eq.mpr c11
          have c11b1 : (a0 != 33) = false := bne_eq_false_iff_eq.mpr c11
          clear c11
          obtain rfl := Option.some.inj H
          go_wp2
          go_ret
          exact ⟨by first | rfl | (simp; done) | (simp [*]; done), by repeat (first | exact bf.refl _ | apply bf.step)⟩
         ·rw [if_neg c11] at H
          have c11b0 : (a0 == 33) = false := beq_eq_false_iff_ne.mpr c11
          have c11b1 : (a0 != 33) = true := bne_iff_ne.mpr c11
          obtain rfl := Option.some.inj H
          go_wp2
          go_ret
          exact ⟨by first | rfl | (simp; done) | (simp [*]; done), by repeat (first | exact bf.refl _ | apply bf.step)⟩
end Go.Y.PRd
namespace Go.Y.PRd
open Go.Proofs.ah.av Go.Proofs.ah.aT Go.Proofs.ah.aU Go.Y.Given
attribute [local go_sem] dB dD dQ dP cK cB dA dF
def dR.f (a0 : Int) : Option (Bool) := if a0 = 1 then (some true) else (if a0 = 2 then (some true) else (if a0 = 4 then (some true) else (some (a0 == 8))))
theorem dR.calls (a0 : Int) (r : Bool) (w : World) (h : dR.f a0 = some r) :
  Calls Tryz.prog 172 #[.int .i64 a0] w fun e w' => e = .returned (.bool r) ∧ bf w w' := by
 have H : (if a0 = 1 then (some true) else (if a0 = 2 then (some true) else (if a0 = 4 then (some true) else (some (a0 == 8))))) = some r := h
 clear h
 by_cases c2 : a0 = 1
 ·rw [if_pos c2] at H
  have c2b0 : (a0 == 1) = true := beq_iff_eq.mpr c2
  have c2b1 : (a0 != 1) = false := bne_eq_false_iff_eq.mpr c2
  clear c2
  obtain rfl := Option.some.inj H
  go_enter Tryz.func172, Tryz.ntmps172
  go_wp2
  go_ret
  exact ⟨by rfl, by repeat ((exact bf.refl _))⟩
 ·rw [if_neg c2] at H
  have c2b0 : (a0 == 1) = false := beq_eq_false_iff_ne.mpr c2
  have c2b1 : (a0 != 1) = true := bne_iff_ne.mpr c2
  by_cases c3 : a0 = 2
  ·rw [if_pos c3] at H
   have c3b0 : (a0 == 2) = true := beq_iff_eq.mpr c3
   have c3b1 : (a0 != 2) = false := bne_eq_false_iff_eq.mpr c3
   clear c3
   obtain rfl := Option.some.inj H
   go_enter Tryz.func172, Tryz.ntmps172
   go_wp2
   go_ret
   exact ⟨by rfl, by repeat ((exact bf.refl _))⟩
  ·rw [if_neg c3] at H
   have c3b0 : (a0 == 2) = false := beq_eq_false_iff_ne.mpr c3
   have c3b1 : (a0 != 2) = true := bne_iff_ne.mpr c3
   by_cases c4 : a0 = 4
   ·rw [if_pos c4] at H
    have c4b0 : (a0 == 4) = true := beq_iff_eq.mpr c4
    have c4b1 : (a0 != 4) = false := bne_eq_false_iff_eq.mpr c4
    clear c4
    obtain rfl := Option.some.inj H
    go_enter Tryz.func172, Tryz.ntmps172
    go_wp2
    go_ret
    exact ⟨by rfl, by repeat ((exact bf.refl _))⟩
   ·rw [if_neg c4] at H
    have c4b0 : (a0 == 4) = false := beq_eq_false_iff_ne.mpr c4
    have c4b1 : (a0 != 4) = true := bne_iff_ne.mpr c4
    obtain rfl := Option.some.inj H
    go_enter Tryz.func172, Tryz.ntmps172
    go_wp2
    go_ret
    exact ⟨by rfl, by repeat ((exact bf.refl _))⟩
def bW.l0 : Nat → ByteArray → Int → Int → Option (Int)
 | 0, _, _, _ => none
 | k + 1, x0, x3, x4 => if x4 < (x0.size : Int) then (if 0 ≤ x4 then (bW.l0 k x0 (IntKind.u64.wrap ((IntKind.u64.wrap (x3 * 256)) + (IntKind.u64.wrap (bt x0 x4)))) (wrap64 (x4 + 1))) else (none)) else (some x3)
def bW.f (k : Nat) (a0 : ByteArray) : Option (Int) := bW.l0 k a0 0 0
theorem bW.calls (k : Nat) (a0 : ByteArray) (r : Int) (w : World) (h : bW.f k a0 = some r) :
    Calls Tryz.prog 178 #[.string a0] w fun e w' => e = .returned (.int .u64 r) ∧ bf w w' := by
  have H : (bW.l0 k a0 0 0) = some r := h
  clear h
  have H' := aj.mk H
  clear H
  go_enter Tryz.func178, Tryz.ntmps178
  go_wp2
  go_loopg [3, 4] k (fun kq v3 v4 w' => ∃ (x3_1 : Int) (x4_1 : Int), v3 = .int .u64 x3_1 ∧ v4 = .int .i64 x4_1 ∧ aj (bW.l0 kq a0 x3_1 x4_1 = some r) ∧ aj (kq ≤ k) ∧ bf w w')
  case atStart => exact ⟨(0), (0), (by rfl), (by rfl), H', ⟨Nat.le_refl _⟩, by repeat ((exact bf.refl _))⟩
  case round =>
   clear H'
   obtain ⟨x3_1, x4_1, rfl, rfl, HA, HK1, ⟨m1, rfl⟩⟩ := hrel
   cases gk with
   | zero => exact absurd HA.out (by simp [bW.l0])
   | succ k1 =>
    have H := HA.out
    clear HA
    simp only [bW.l0] at H
    by_cases c2 : x4_1 < (a0.size : Int)
    ·rw [if_pos c2] at H
     have c2b0 : decide (x4_1 < (a0.size : Int)) = true := decide_eq_true c2
     clear c2
     obtain ⟨c3b0, H⟩ := dX H
     have H' := aj.mk H
     clear H
     have p4 : 0 ≤ (x4_1 : Int) := of_decide_eq_true (by assumption)
     have q4 : x4_1 < (a0.size : Int) := of_decide_eq_true (by assumption)
     have hx4 := ng a0 x4_1
     replace p4 := eq_true p4
     replace q4 := eq_true q4
     go_wp2
     go_roundg k1
     case measure => have := HK1.out; omega
     case rel => exact ⟨(IntKind.u64.wrap ((IntKind.u64.wrap (x3_1 * 256)) + (IntKind.u64.wrap (bt a0 x4_1)))), (wrap64 (x4_1 + 1)), (by rfl), (by rfl), H', ⟨by have := HK1.out; omega⟩, by repeat (first | exact bf.refl _ | apply bf.step)⟩
    ·rw [if_neg c2] at H
     have c2b0 : decide (x4_1 < (a0.size : Int)) = false := decide_eq_false c2
     clear c2
     obtain rfl := Option.some.inj H
     go_wp2
     go_ret
     exact ⟨by rfl, by repeat (first | exact bf.refl _ | apply bf.step)⟩
def dh.j0 : Nat → ByteArray → Int → Bool → Option (ByteArray × ByteArray × Int)
 | 0, _, _, _ => none
 | k + 1, x0, x1, x14 => if x14 = true then (some ((⟨#[]⟩ : ByteArray), (⟨#[]⟩ : ByteArray), 1)) else (if (x0.size : Int) < x1 then (some ((⟨#[]⟩ : ByteArray), (⟨#[]⟩ : ByteArray), 2)) else (if 0 ≤ x1 then (if x1 ≤ (x0.size : Int) then ((bW.f k (x0.extract 0 (x1 : Int).toNat)).bind fun t220 => (if t220 > (IntKind.u64.wrap (wrap64 ((x0.size : Int) - x1))) then (some ((⟨#[]⟩ : ByteArray), (⟨#[]⟩ : ByteArray), 2)) else (if x1 ≤ (wrap64 (x1 + (wrap64 (t220)))) then (if (wrap64 (x1 + (wrap64 (t220)))) ≤ (x0.size : Int) then (if 0 ≤ (wrap64 (x1 + (wrap64 (t220)))) then (some (x0.extract (x1 : Int).toNat ((wrap64 (x1 + (wrap64 (t220)))) : Int).toNat, x0.extract ((wrap64 (x1 + (wrap64 (t220)))) : Int).toNat x0.size, 0)) else (none)) else (none)) else (none)))) else (none)) else (none)))
def dh.f (k : Nat) (a0 : ByteArray) (a1 : Int) : Option (ByteArray × ByteArray × Int) := (dR.f a1).bind fun t219 => (if t219 = true then (dh.j0 k a0 a1 (a1 == 8)) else (dh.j0 k a0 a1 true))
theorem dh.calls (k : Nat) (a0 : ByteArray) (a1 : Int) (r1 : ByteArray) (r2 : ByteArray) (r3 : Int) (w : World) (h : dh.f k a0 a1 = some (r1, r2, r3)) :
    Calls Tryz.prog 173 #[.string a0, .int .i64 a1] w fun e w' => e = .returned (.tuple #[.string r1, .string r2, .int .i64 r3]) ∧ bf w w' := by
  have H : ((dR.f a1).bind fun t219 => (if t219 = true then (dh.j0 k a0 a1 (a1 == 8)) else (dh.j0 k a0 a1 true))) = some (r1, r2, r3) := h
  clear h
  have HC3 := aj.mk H
  clear H
  go_enter Tryz.func173, Tryz.ntmps173
  go_upto_region 1 with (fail)
  repeat (go_quiet (fail); go_upto_region 1 with (fail))
  go_cut [14] (fun v14 wc => ∃ (kq : Nat) (x14_2 : Bool), v14 = .bool x14_2 ∧ aj (dh.j0 kq a0 a1 x14_2 = some (r1, r2, r3)) ∧ aj (kq ≤ k) ∧ bf w wc)
  case first =>
   have H := HC3.out
   clear HC3
   obtain ⟨t219, A4, H⟩ := cu H
   by_cases c5 : t219 = true
   focus
    subst c5
    rw [if_pos rfl] at H
   rotate_left
   focus
    replace c5 := Bool.eq_false_iff.mpr c5
    subst c5
    rw [if_neg ff_] at H
   rotate_left
   all_goals
    have H' := aj.mk H
    clear H
    go_wp2_with (((go_at_call 172; (with_reducible refine (dR.calls a1 _ _ A4.out).mono ?_); rintro e w' ⟨rfl, ⟨nd, rfl⟩⟩)))
    repeat (go_quiet (((go_at_call 172; (with_reducible refine (dR.calls a1 _ _ A4.out).mono ?_); rintro e w' ⟨rfl, ⟨nd, rfl⟩⟩))); try go_wp2_with (((go_at_call 172; (with_reducible refine (dR.calls a1 _ _ A4.out).mono ?_); rintro e w' ⟨rfl, ⟨nd, rfl⟩⟩))))
    go_meet
   ·case rel => exact ⟨_, ((a1 == 8)), (by rfl), H', ⟨by omega⟩, by repeat (first | exact bf.refl _ | apply bf.step)⟩
   ·case rel => exact ⟨_, (true), (by rfl), H', ⟨by omega⟩, by repeat (first | exact bf.refl _ | apply bf.step)⟩
  case rest =>
   clear HC3
   obtain ⟨kq, x14_2, rfl, HA, HJ2, ⟨mc2, rfl⟩⟩ := hcut
   cases kq with
   | zero => exact absurd HA.out (by simp [dh.j0])
   | succ kj2 =>
    have H := HA.out
    clear HA
    simp only [dh.j0] at H
    by_cases c6 : x14_2 = true
    focus
     subst c6
     rw [if_pos rfl] at H
    rotate_left
    focus
     replace c6 := Bool.eq_false_iff.mpr c6
     subst c6
     rw [if_neg ff_] at H
     by_cases c7 : (a0.size : Int) < a1
     focus
      rw [if_pos c7] at H
      have c7b0 : decide ((a0.size : Int) < a1) = true := decide_eq_true c7
      clear c7
     rotate_left
     focus
      rw [if_neg c7] at H
      have c7b0 : decide ((a0.size : Int) < a1) = false := decide_eq_false c7
      clear c7
      obtain ⟨c8, H⟩ := gd_ H
      have c8b0 := eq_true c8
      have c8b1 : decide (0 ≤ a1) = true := decide_eq_true c8
      clear c8
      obtain ⟨c9, H⟩ := gd_ H
      have c9b0 := eq_true c9
      have c9b1 : decide (a1 ≤ (a0.size : Int)) = true := decide_eq_true c9
      clear c9
      obtain ⟨t220, A10, H⟩ := cu H
      by_cases c11 : t220 > (IntKind.u64.wrap (wrap64 ((a0.size : Int) - a1)))
      focus
       rw [if_pos c11] at H
       have c11b0 : decide ((IntKind.u64.wrap (wrap64 ((a0.size : Int) - a1))) < t220) = true := decide_eq_true c11
       clear c11
      rotate_left
      focus
       rw [if_neg c11] at H
       have c11b0 : decide ((IntKind.u64.wrap (wrap64 ((a0.size : Int) - a1))) < t220) = false := decide_eq_false c11
       clear c11
       have c12b0 := eq_true (of_decide_eq_true (by assumption) : 0 ≤ a1)
       obtain ⟨c13, H⟩ := gd_ H
       have c13b0 := eq_true c13
       have c13b1 : decide (a1 ≤ (wrap64 (a1 + (wrap64 (t220))))) = true := decide_eq_true c13
       obtain ⟨c14, H⟩ := gd_ H
       have c14b0 := eq_true c14
       have c14b1 : decide ((wrap64 (a1 + (wrap64 (t220)))) ≤ (a0.size : Int)) = true := decide_eq_true c14
       obtain ⟨ji15, hji15⟩ : ∃ j_ : Int, (wrap64 (a1 + (wrap64 (t220)))) = j_ := ⟨_, rfl⟩
       rw [hji15] at H
       (try rw [hji15] at c13b0)
       (try rw [hji15] at c13b1)
       (try rw [hji15] at c13)
       (try rw [hji15] at c14b0)
       (try rw [hji15] at c14b1)
       (try rw [hji15] at c14)
       have hji15w : (IntKind.i64.wrap (a1 + (wrap64 (t220)))) = ji15 := (dU _).trans hji15
       obtain ⟨c16, H⟩ := gd_ H
       have c16b0 := eq_true c16
       have c16b1 : decide (0 ≤ (ji15)) = true := decide_eq_true c16
       clear c16
       have c17b0 := eq_true (of_decide_eq_true (by assumption) : (ji15) ≤ (a0.size : Int))
      rotate_left
     rotate_left 2
    rotate_left 3
    all_goals
     simp only [Option.some.injEq, Prod.mk.injEq] at H
     obtain ⟨rfl, rfl, rfl⟩ := H
    ·go_wp2
     repeat (go_quiet (fail); try go_wp2)
     go_ret3
     exact ⟨by rfl, by repeat (first | exact bf.refl _ | apply bf.step)⟩
    ·go_wp2
     repeat (go_quiet (fail); try go_wp2)
     go_ret3
     exact ⟨by rfl, by repeat (first | exact bf.refl _ | apply bf.step)⟩
    all_goals
     go_wp2_with (((go_at_call 178; (with_reducible refine (bW.calls kj2 (a0.extract 0 (a1 : Int).toNat) t220 _ A10.out).mono ?_); rintro e w' ⟨rfl, ⟨nd, rfl⟩⟩)))
     repeat (go_quiet (((go_at_call 178; (with_reducible refine (bW.calls kj2 (a0.extract 0 (a1 : Int).toNat) t220 _ A10.out).mono ?_); rintro e w' ⟨rfl, ⟨nd, rfl⟩⟩))); try go_wp2_with (((go_at_call 178; (with_reducible refine (bW.calls kj2 (a0.extract 0 (a1 : Int).toNat) t220 _ A10.out).mono ?_); rintro e w' ⟨rfl, ⟨nd, rfl⟩⟩))))
     go_ret3
    ·exact ⟨by rfl, by repeat (first | exact bf.refl _ | apply bf.step)⟩
    ·exact ⟨by rfl, by repeat (first | exact bf.refl _ | apply bf.step)⟩
mutual
def bq.j0 : Nat → ByteArray → Int → Bool → Option (List ByteArray × Int)
 | 0, _, _, _ => none
 | k + 1, x0, x1, x16 => if x16 = true then (some (([] : List ByteArray), 1)) else (bq.l0 k x0 x1 ([] : List ByteArray))
def bq.l0 : Nat → ByteArray → Int → List ByteArray → Option (List ByteArray × Int)
 | 0, _, _, _ => none
 | k + 1, x0, x1, x6 => if (x0.size : Int) > 0 then ((dh.f k x0 x1).bind fun bt222 => (if bt222.2.2 = 0 then (if x6.length < 8796093022208 then (bq.l0 k bt222.2.1 x1 (x6 ++ [bt222.1])) else (none)) else (some (([] : List ByteArray), bt222.2.2)))) else (some (x6, 0))
end
def bq.f (k : Nat) (a0 : ByteArray) (a1 : Int) : Option (List ByteArray × Int) := (dR.f a1).bind fun t221 => (if t221 = true then (bq.j0 k a0 a1 (a1 == 8)) else (bq.j0 k a0 a1 true))
theorem bq.calls (k : Nat) (a0 : ByteArray) (a1 : Int) (r1 : List ByteArray) (r2 : Int) (w : World) (h : bq.f k a0 a1 = some (r1, r2)) :
    Calls Tryz.prog 160 #[.string a0, .int .i64 a1] w fun e w' => ∃ v0_ : Value, e = .returned (.tuple #[v0_, .int .i64 r2]) ∧ Kd.R Kd.string 9 w' w.heap.size (fun _ => True) v0_ r1 ∧ Below w.heap.size w w' := by
  have HB := aj.mk (Below.refl w.heap.size w)
  have H : ((dR.f a1).bind fun t221 => (if t221 = true then (bq.j0 k a0 a1 (a1 == 8)) else (bq.j0 k a0 a1 true))) = some (r1, r2) := h
  clear h
  have HC3 := aj.mk H
  clear H
  go_enter Tryz.func160, Tryz.ntmps160
  go_upto_region 1 with (fail)
  go_cut [16] (fun v16 wc => ∃ (kq : Nat) (x16_2 : Bool), v16 = .bool x16_2 ∧ aj (bq.j0 kq a0 a1 x16_2 = some (r1, r2)) ∧ aj (kq ≤ k) ∧ aj (Below w.heap.size w wc))
  case first =>
   have H := HC3.out
   clear HC3
   obtain ⟨t221, A4, H⟩ := cu H
   by_cases c5 : t221 = true
   focus
    subst c5
    rw [if_pos rfl] at H
   rotate_left
   focus
    replace c5 := Bool.eq_false_iff.mpr c5
    subst c5
    rw [if_neg ff_] at H
   rotate_left
   all_goals
    have H' := aj.mk H
    clear H
    go_wp2_with (((refine gl_ (some 11) Tryz.func172 #[.int .i64 a1] ?_; (with_reducible refine (dR.calls a1 _ _ A4.out).mono ?_); rintro e w' ⟨rfl, ⟨nd, rfl⟩⟩; refine ⟨_, rfl, ?_⟩)))
    go_meet
   ·case rel => exact ⟨_, ((a1 == 8)), (by rfl), H', ⟨by omega⟩, ⟨by repeat ((with_reducible first | exact HB.out | apply aW))⟩⟩
   ·case rel => exact ⟨_, (true), (by rfl), H', ⟨by omega⟩, ⟨by repeat ((with_reducible first | exact HB.out | apply aW))⟩⟩
  case rest =>
   clear HC3
   obtain ⟨kq, x16_2, rfl, HA, HJ2, HB⟩ := hcut
   cases kq with
   | zero => exact absurd HA.out (by simp [bq.j0])
   | succ kj2 =>
    have H := HA.out
    clear HA
    simp only [bq.j0] at H
    by_cases c6 : x16_2 = true
    ·subst c6
     rw [if_pos rfl] at H
     simp only [Option.some.injEq, Prod.mk.injEq] at H
     obtain ⟨rfl, rfl⟩ := H
     go_wp2
     go_ret2
     exact ⟨_, by rfl, by (exact Kd.fU _ _ _ _ _), HB.out⟩
    ·replace c6 := Bool.eq_false_iff.mpr c6
     subst c6
     rw [if_neg ff_] at H
     have H' := aj.mk H
     clear H
     go_wp2
     go_loopg [0, 6] kj2 (fun kq v0 v6 w' => ∃ (x0_2 : ByteArray) (x6_2 : List ByteArray), v0 = .string x0_2 ∧ aj (bq.l0 kq x0_2 a1 x6_2 = some (r1, r2)) ∧ aj (kq ≤ kj2) ∧ aj (Kd.R Kd.string 9 w' w.heap.size (fun _ => True) v6 x6_2) ∧ aj (Below w.heap.size w w'))
     case atStart => exact ⟨(a0), (([] : List ByteArray)), (by rfl), H', ⟨Nat.le_refl _⟩, ⟨by (exact Kd.fU _ _ _ _ _)⟩, ⟨HB.out⟩⟩
     case round =>
      clear H'
      obtain ⟨x0_2, x6_2, rfl, HA, HK2, HO_6, HB⟩ := hrel
      cases gk with
      | zero => exact absurd HA.out (by simp [bq.l0])
      | succ k2 =>
       have H := HA.out
       clear HA
       simp only [bq.l0] at H
       by_cases c7 : (x0_2.size : Int) > 0
       ·rw [if_pos c7] at H
        have c7b0 : decide (0 < (x0_2.size : Int)) = true := decide_eq_true c7
        have c7b1 : decide (0 < x0_2.size) = true := decide_eq_true (by omega)
        clear c7
        replace H := Option.bind_eq_some_iff.mp H
        obtain ⟨⟨t222, t223, t224⟩, A80, H⟩ := H
        replace H : (if t224 = 0 then (if x6_2.length < 8796093022208 then (bq.l0 k2 t223 a1 (x6_2 ++ [t222])) else (none)) else (some (([] : List ByteArray), t224))) = some (r1, r2) := H
        have A8 := aj.mk A80
        clear A80
        by_cases c9 : t224 = 0
        ·rw [if_pos c9] at H
         have c9b0 : (t224 == 0) = true := beq_iff_eq.mpr c9
         have c9b1 : (t224 != 0) = false := bne_eq_false_iff_eq.mpr c9
         clear c9
         obtain ⟨c10, H⟩ := gd_ H
         have LMc10 := aj.mk c10
         clear c10
         obtain ⟨y225, hy225⟩ : ∃ y_ : List ByteArray, y_ = (x6_2 ++ [t222]) := ⟨_, rfl⟩
         replace H : (bq.l0 k2 t223 a1 y225) = some (r1, r2) := by (rw [hy225]; with_reducible exact H)
         have Ny225 := aj.mk hy225
         clear hy225
         have H' := aj.mk H
         clear H
         go_wp2_with (first | (refine gl_ (some 23) Tryz.func173 #[.string x0_2, .int .i64 a1] ?_; (with_reducible refine (dh.calls k2 x0_2 a1 t222 t223 t224 _ A8.out).mono ?_); rintro e w' ⟨rfl, ⟨nd, rfl⟩⟩; refine ⟨_, rfl, ?_⟩) | ((with_reducible refine eO (b := .append) (xs := #[.tmp 30, .tmp 32]) rfl ?_); at_builtin; refine Kd.iL Kd.string (w0 := w) w.heap.size rfl (.tmp 30) (.tmp 32) 43 9 (.string ⟨#[]⟩) 16 rfl Tryz.underlying43 nA rfl (by decide) (by omega) u6 x6_2 t222 [.string t222] (fun _ => True) (fun _ => False) rfl rfl ?aP (fun _ hk => hk.elim) ?aF ?aO ?aB ?aS ?aL ?_; (case aP => exact rfl); (case aB => exact (by repeat ((with_reducible first | exact HB.out | apply aW)))); (case aF => exact (fun _ _ => trivial)); (case aO => exact (by (with_reducible repeat ((apply Kd.kH))); exact HO_6.out)); (case aS => exact (ay (by repeat ((with_reducible first | exact HB.out | apply aW))))); (case aL => have := LMc10.out; omega); intro v226 w11 ho hb hg hat; rw [← Ny225.out] at ho; have n0_ := aj.mk (hb); have n1_ := aj.mk (ho); clear HB; clear HO_6; have HB := n0_; have HO227 := n1_; clear n0_ n1_; clear ho hb hg hat))
         go_roundg k2
         case measure => have := HJ2.out; have := HK2.out; omega
         case rel => exact ⟨(t223), (y225), (by rfl), H', ⟨by have := HJ2.out; have := HK2.out; omega⟩, ⟨by (with_reducible repeat ((apply Kd.aN))); exact HO227.out⟩, ⟨HB.out⟩⟩
        ·rw [if_neg c9] at H
         have c9b0 : (t224 == 0) = false := beq_eq_false_iff_ne.mpr c9
         have c9b1 : (t224 != 0) = true := bne_iff_ne.mpr c9
         simp only [Option.some.injEq, Prod.mk.injEq] at H
         obtain ⟨rfl, rfl⟩ := H
         go_wp2_with (((refine gl_ (some 23) Tryz.func173 #[.string x0_2, .int .i64 a1] ?_; (with_reducible refine (dh.calls k2 x0_2 a1 t222 t223 t224 _ A8.out).mono ?_); rintro e w' ⟨rfl, ⟨nd, rfl⟩⟩; refine ⟨_, rfl, ?_⟩)))
         go_ret2
         exact ⟨_, by rfl, by (exact Kd.fU _ _ _ _ _), by repeat ((with_reducible first | exact HB.out | apply aW))⟩
       ·rw [if_neg c7] at H
        have c7b0 : decide (0 < (x0_2.size : Int)) = false := decide_eq_false c7
        have c7b1 : decide (0 < x0_2.size) = false := decide_eq_false (by omega)
        clear c7
        simp only [Option.some.injEq, Prod.mk.injEq] at H
        obtain ⟨rfl, rfl⟩ := H
        go_wp2
        go_ret2
        exact ⟨_, by rfl, by (with_reducible repeat ((apply Kd.aN))); exact HO_6.out, HB.out⟩
end Go.Y.PRd
namespace Go.Y.PRd
open Go.Proofs.ah.av Go.Proofs.ah.aT Go.Proofs.ah.aU Go.Y.Given
attribute [local go_sem] dB dD dQ dP cK cB dA dF
mutual
def aD.l0 : Nat → ByteArray → Int → Int → List ByteArray → ByteArray → Int → Option (List ByteArray × Bool)
 | 0, _, _, _, _, _, _ => none
 | k + 1, x0, x1, x2, x10, x11, x12 => if x12 < (x11.size : Int) then (if 0 ≤ x12 then (if (bt x11 x12) = 110 then (aD.j1 k x0 x1 x2 x10 x11 x12 (bt x11 x12) ((bt x11 x12) == 110)) else (aD.j1 k x0 x1 x2 x10 x11 x12 (bt x11 x12) ((bt x11 x12) == 117))) else (none)) else (some (x10, (x1 == x2)))
def aD.j1 : Nat → ByteArray → Int → Int → List ByteArray → ByteArray → Int → Int → Bool → Option (List ByteArray × Bool)
 | 0, _, _, _, _, _, _, _, _ => none
 | k + 1, x0, x1, x2, x10, x11, x12, x32, x38 => if x38 = true then ((aY.f k x0 x1).bind fun bt229 => (if bt229.2.2 = 0 then (if 0 ≤ x12 then (if x12 < (x11.size : Int) then (if (bt x11 x12) = 117 then (if 0 ≤ x1 then (if x1 ≤ bt229.2.1 then (if bt229.2.1 ≤ (x0.size : Int) then (aD.j2 k x0 x2 x10 x11 x12 bt229.1 bt229.2.1 (bt229.1.toList != (x0.extract (x1 : Int).toNat (bt229.2.1 : Int).toNat).toList)) else (none)) else (none)) else (none)) else (aD.j2 k x0 x2 x10 x11 x12 bt229.1 bt229.2.1 false)) else (none)) else (none)) else (aD.j2 k x0 x2 x10 x11 x12 bt229.1 bt229.2.1 true))) else (if x32 = 116 then (if 0 ≤ x1 then (if x1 ≤ (x0.size : Int) then ((bq.f k (x0.extract (x1 : Int).toNat x0.size) 1).bind fun bt235 => (if bt235.2 = 0 then (aD.j3 k x0 x1 x2 x10 x11 x12 ((bt235.1.length : Int) == 0)) else (aD.j3 k x0 x1 x2 x10 x11 x12 true))) else (none)) else (none)) else (if x32 = 111 then (if (wrap64 (x1 + (wrap64 (x2 - x1)))) > x2 then (some (([] : List ByteArray), false)) else (if 0 ≤ x1 then (if x1 ≤ (wrap64 (x1 + (wrap64 (x2 - x1)))) then (if (wrap64 (x1 + (wrap64 (x2 - x1)))) ≤ (x0.size : Int) then (if x10.length < 8796093022208 then (aD.l0 k x0 (wrap64 (x1 + (wrap64 (x2 - x1)))) x2 (x10 ++ [x0.extract (x1 : Int).toNat ((wrap64 (x1 + (wrap64 (x2 - x1)))) : Int).toNat]) x11 (wrap64 (x12 + 1))) else (none)) else (none)) else (none)) else (none))) else (if x32 = 104 then (if (wrap64 (x1 + 16)) > x2 then (some (([] : List ByteArray), false)) else (if 0 ≤ x1 then (if x1 ≤ (wrap64 (x1 + 16)) then (if (wrap64 (x1 + 16)) ≤ (x0.size : Int) then (if x10.length < 8796093022208 then (aD.l0 k x0 (wrap64 (x1 + 16)) x2 (x10 ++ [x0.extract (x1 : Int).toNat ((wrap64 (x1 + 16)) : Int).toNat]) x11 (wrap64 (x12 + 1))) else (none)) else (none)) else (none)) else (none))) else (if 0 ≤ x12 then (if x12 < (x11.size : Int) then (if (wrap64 (x1 + (wrap64 ((wrap64 (bt x11 x12)) - 48)))) > x2 then (some (([] : List ByteArray), false)) else (if 0 ≤ x1 then (if x1 ≤ (wrap64 (x1 + (wrap64 ((wrap64 (bt x11 x12)) - 48)))) then (if (wrap64 (x1 + (wrap64 ((wrap64 (bt x11 x12)) - 48)))) ≤ (x0.size : Int) then (if x10.length < 8796093022208 then (aD.l0 k x0 (wrap64 (x1 + (wrap64 ((wrap64 (bt x11 x12)) - 48)))) x2 (x10 ++ [x0.extract (x1 : Int).toNat ((wrap64 (x1 + (wrap64 ((wrap64 (bt x11 x12)) - 48)))) : Int).toNat]) x11 (wrap64 (x12 + 1))) else (none)) else (none)) else (none)) else (none))) else (none)) else (none)))))
def aD.j2 : Nat → ByteArray → Int → List ByteArray → ByteArray → Int → ByteArray → Int → Bool → Option (List ByteArray × Bool)
 | 0, _, _, _, _, _, _, _, _ => none
 | k + 1, x0, x2, x10, x11, x12, x14, x15, x63 => if x63 = true then (some (([] : List ByteArray), false)) else (if x10.length < 8796093022208 then (aD.l0 k x0 x15 x2 (x10 ++ [x14]) x11 (wrap64 (x12 + 1))) else (none))
def aD.j3 : Nat → ByteArray → Int → Int → List ByteArray → ByteArray → Int → Bool → Option (List ByteArray × Bool)
 | 0, _, _, _, _, _, _, _ => none
 | k + 1, x0, x1, x2, x10, x11, x12, x84 => if x84 = true then (some (([] : List ByteArray), false)) else (if (wrap64 (x1 + (wrap64 (x2 - x1)))) > x2 then (some (([] : List ByteArray), false)) else (if 0 ≤ x1 then (if x1 ≤ (wrap64 (x1 + (wrap64 (x2 - x1)))) then (if (wrap64 (x1 + (wrap64 (x2 - x1)))) ≤ (x0.size : Int) then (if x10.length < 8796093022208 then (aD.l0 k x0 (wrap64 (x1 + (wrap64 (x2 - x1)))) x2 (x10 ++ [x0.extract (x1 : Int).toNat ((wrap64 (x1 + (wrap64 (x2 - x1)))) : Int).toNat]) x11 (wrap64 (x12 + 1))) else (none)) else (none)) else (none)) else (none)))
end
def aD.f (k : Nat) (a0 : ByteArray) (a1 : Int) (a2 : Int) (a3 : Int) : Option (List ByteArray × Bool) := (bV.f k a3).bind fun t228 => (if 0 ≤ a2 then (if a2 ≤ (a0.size : Int) then (aD.l0 k (a0.extract 0 (a2 : Int).toNat) a1 a2 ([] : List ByteArray) t228 0) else (none)) else (none))
theorem aD.calls (k : Nat) (a0 : ByteArray) (a1 : Int) (a2 : Int) (a3 : Int) (r1 : List ByteArray) (r2 : Bool) (w : World) (h : aD.f k a0 a1 a2 a3 = some (r1, r2)) :
    Calls Tryz.prog 133 #[.string a0, .int .i64 a1, .int .i64 a2, .int .i64 a3] w fun e w' => ∃ v0_ : Value, e = .returned (.tuple #[v0_, .bool r2]) ∧ Kd.R Kd.string 9 w' w.heap.size (fun _ => True) v0_ r1 ∧ Below w.heap.size w w' := by
  have HB := aj.mk (Below.refl w.heap.size w)
  have H : ((bV.f k a3).bind fun t228 => (if 0 ≤ a2 then (if a2 ≤ (a0.size : Int) then (aD.l0 k (a0.extract 0 (a2 : Int).toNat) a1 a2 ([] : List ByteArray) t228 0) else (none)) else (none))) = some (r1, r2) := h
  clear h
  obtain ⟨t228, A5, H⟩ := cu H
  obtain ⟨c6, H⟩ := gd_ H
  have c6b0 := eq_true c6
  have c6b1 : decide (0 ≤ a2) = true := decide_eq_true c6
  clear c6
  obtain ⟨c7, H⟩ := gd_ H
  have c7b0 := eq_true c7
  have c7b1 : decide (a2 ≤ (a0.size : Int)) = true := decide_eq_true c7
  clear c7
  have H' := aj.mk H
  clear H
  go_enter Tryz.func133, Tryz.ntmps133
  go_wp2_with ((((with_reducible refine eG (f := 138) rfl ?_); refine iK (some 20) rfl rfl Tryz.func138 (by kernel_rfl) rfl #[.int .i64 a3] rfl (by (try simp only [mA_, mC_, mN_]); rfl) ?_; (with_reducible refine (bV.calls k a3 t228 _ A5.out).mono ?_); rintro e w' ⟨rfl, ⟨nd, rfl⟩⟩; refine ⟨_, rfl, ?_⟩)))
  go_loopg [1, 10, 12] k (fun kq v1 v10 v12 w' => ∃ (x1_1 : Int) (x10_1 : List ByteArray) (x12_1 : Int), v1 = .int .i64 x1_1 ∧ v12 = .int .i64 x12_1 ∧ aj (aD.l0 kq (a0.extract 0 (a2 : Int).toNat) x1_1 a2 x10_1 t228 x12_1 = some (r1, r2)) ∧ aj (kq ≤ k) ∧ aj (Kd.R Kd.string 9 w' w.heap.size (fun _ => True) v10 x10_1) ∧ aj (Below w.heap.size w w'))
  case atStart => exact ⟨(a1), (([] : List ByteArray)), (0), (by rfl), (by rfl), H', ⟨Nat.le_refl _⟩, ⟨by (exact Kd.fU _ _ _ _ _)⟩, ⟨by repeat ((with_reducible first | exact HB.out | apply aW))⟩⟩
  case round =>
   clear H'
   (try clear c6b0)
   (try clear c6b1)
   (try clear c7b0)
   (try clear c7b1)
   obtain ⟨x1_1, x10_1, x12_1, rfl, rfl, HA, HK1, HO_10, HB⟩ := hrel
   cases gk with
   | zero => exact absurd HA.out (by simp [aD.l0])
   | succ k1 =>
    have H := HA.out
    clear HA
    simp only [aD.l0] at H
    by_cases c8 : x12_1 < (t228.size : Int)
    ·rw [if_pos c8] at H
     have c8b0 : decide (x12_1 < (t228.size : Int)) = true := decide_eq_true c8
     clear c8
     obtain ⟨c9b0, H⟩ := dX H
     have HC11 := aj.mk H
     clear H
     have p10 : 0 ≤ (x12_1 : Int) := of_decide_eq_true (by assumption)
     have q10 : x12_1 < (t228.size : Int) := of_decide_eq_true (by assumption)
     have hx10 := ng t228 x12_1
     replace p10 := eq_true p10
     replace q10 := eq_true q10
     go_upto_if 38 with (fail)
     go_cut [38] (fun v38 wc => ∃ (kq : Nat) (x38_10 : Bool), v38 = .bool x38_10 ∧ aj (aD.j1 kq (a0.extract 0 (a2 : Int).toNat) x1_1 a2 x10_1 t228 x12_1 (bt t228 x12_1) x38_10 = some (r1, r2)) ∧ aj (kq ≤ k1) ∧ aj (Kd.R Kd.string 9 wc w.heap.size (fun _ => True) u10 x10_1) ∧ aj (Below w.heap.size w wc))
     case first =>
      have H := HC11.out
      clear HC11
      by_cases c12 : (bt t228 x12_1) = 110
      focus
       rw [if_pos c12] at H
       have c12b0 : ((bt t228 x12_1) == 110) = true := beq_iff_eq.mpr c12
       have c12b1 : ((bt t228 x12_1) != 110) = false := bne_eq_false_iff_eq.mpr c12
       clear c12
      rotate_left
      focus
       rw [if_neg c12] at H
       have c12b0 : ((bt t228 x12_1) == 110) = false := beq_eq_false_iff_ne.mpr c12
       have c12b1 : ((bt t228 x12_1) != 110) = true := bne_iff_ne.mpr c12
      rotate_left
      all_goals
       ((rw [c12b0]))
       have H' := aj.mk H
       clear H
       go_wp2
       go_meet
      ·case rel => exact ⟨_, (((bt t228 x12_1) == 110)), (by (simp [*]; done)), H', ⟨by have := HK1.out; omega⟩, ⟨by (with_reducible repeat ((apply Kd.aN))); exact HO_10.out⟩, ⟨HB.out⟩⟩
      ·case rel => exact ⟨_, (((bt t228 x12_1) == 117)), (by rfl), H', ⟨by have := HK1.out; omega⟩, ⟨by (with_reducible repeat ((apply Kd.aN))); exact HO_10.out⟩, ⟨HB.out⟩⟩
     case rest =>
      clear HC11
      (try clear c8b0)
      (try clear c9b0)
      (try clear p10)
      (try clear q10)
      (try clear hx10)
      obtain ⟨kq, x38_10, rfl, HA, HJ10, HO_10, HB⟩ := hcut
      cases kq with
      | zero => exact absurd HA.out (by simp [aD.j1])
      | succ kj10 =>
       have H := HA.out
       clear HA
       simp only [aD.j1] at H
       by_cases c13 : x38_10 = true
       ·subst c13
        rw [if_pos rfl] at H
        replace H := Option.bind_eq_some_iff.mp H
        obtain ⟨⟨t229, t230, t231⟩, A140, H⟩ := H
        replace H : (if t231 = 0 then (if 0 ≤ x12_1 then (if x12_1 < (t228.size : Int) then (if (bt t228 x12_1) = 117 then (if 0 ≤ x1_1 then (if x1_1 ≤ t230 then (if t230 ≤ ((a0.extract 0 (a2 : Int).toNat).size : Int) then (aD.j2 kj10 (a0.extract 0 (a2 : Int).toNat) a2 x10_1 t228 x12_1 t229 t230 (t229.toList != ((a0.extract 0 (a2 : Int).toNat).extract (x1_1 : Int).toNat (t230 : Int).toNat).toList)) else (none)) else (none)) else (none)) else (aD.j2 kj10 (a0.extract 0 (a2 : Int).toNat) a2 x10_1 t228 x12_1 t229 t230 false)) else (none)) else (none)) else (aD.j2 kj10 (a0.extract 0 (a2 : Int).toNat) a2 x10_1 t228 x12_1 t229 t230 true)) = some (r1, r2) := H
        have A14 := aj.mk A140
        clear A140
        have HC15 := aj.mk H
        clear H
        go_upto_region 13 with ((((with_reducible refine eG (f := 159) rfl ?_); refine iK (some 44) rfl rfl Tryz.func159 (by kernel_rfl) rfl #[.string (a0.extract 0 (a2 : Int).toNat), .int .i64 x1_1] rfl (by (try simp only [mA_, mC_, mN_]); rfl) ?_; (with_reducible refine (aY.calls kj10 (a0.extract 0 (a2 : Int).toNat) x1_1 t229 t230 t231 _ A14.out).mono ?_); rintro e w16 ⟨rfl, hb⟩; refine ⟨_, rfl, ?_⟩; replace HO_10 := aj.mk (Kd.bD (by ((exact HO_10.out))) hb); replace HB := aj.mk (au HB.out hb); (try clear hb))))
        go_cut [63] (fun v63 wc => ∃ (kq : Nat) (x63_14 : Bool), v63 = .bool x63_14 ∧ aj (aD.j2 kq (a0.extract 0 (a2 : Int).toNat) a2 x10_1 t228 x12_1 t229 t230 x63_14 = some (r1, r2)) ∧ aj (kq ≤ kj10) ∧ aj (Kd.R Kd.string 9 wc w.heap.size (fun _ => True) u10 x10_1) ∧ aj (Below w.heap.size w wc))
        case first =>
         have H := HC15.out
         clear HC15
         by_cases c17 : t231 = 0
         focus
          rw [if_pos c17] at H
          have c17b0 : (t231 == 0) = true := beq_iff_eq.mpr c17
          have c17b1 : (t231 != 0) = false := bne_eq_false_iff_eq.mpr c17
          clear c17
         rotate_left
         focus
          rw [if_neg c17] at H
          have c17b0 : (t231 == 0) = false := beq_eq_false_iff_ne.mpr c17
          have c17b1 : (t231 != 0) = true := bne_iff_ne.mpr c17
         rotate_left
         all_goals
          (skip)
         ·obtain ⟨c18b0, H⟩ := dX H
          obtain ⟨c19b0, H⟩ := dX H
          by_cases c21 : (bt t228 x12_1) = 117
          focus
           rw [if_pos c21] at H
           have c21b0 : ((bt t228 x12_1) == 117) = true := beq_iff_eq.mpr c21
           have c21b1 : ((bt t228 x12_1) != 117) = false := bne_eq_false_iff_eq.mpr c21
           clear c21
           obtain ⟨c22, H⟩ := gd_ H
           have c22b0 := eq_true c22
           have c22b1 : decide (0 ≤ x1_1) = true := decide_eq_true c22
           clear c22
           obtain ⟨c23, H⟩ := gd_ H
           have c23b0 := eq_true c23
           have c23b1 : decide (x1_1 ≤ t230) = true := decide_eq_true c23
           clear c23
           obtain ⟨c24, H⟩ := gd_ H
           have c24b0 := eq_true c24
           have c24b1 : decide (t230 ≤ ((a0.extract 0 (a2 : Int).toNat).size : Int)) = true := decide_eq_true c24
           (try have c24b1v := c24b1)
           (try simp only [ByteArray.size_extract, Nat.sub_zero] at c24b1v)
           (try have c24b1w := eq_true (of_decide_eq_true c24b1v))
           clear c24
          rotate_left
          focus
           rw [if_neg c21] at H
           have c21b0 : ((bt t228 x12_1) == 117) = false := beq_eq_false_iff_ne.mpr c21
           have c21b1 : ((bt t228 x12_1) != 117) = true := bne_iff_ne.mpr c21
          rotate_left
          all_goals
           have H' := aj.mk H
           clear H
           have p20 : 0 ≤ (x12_1 : Int) := of_decide_eq_true (by assumption)
           have q20 : x12_1 < (t228.size : Int) := of_decide_eq_true (by assumption)
           have hx20 := ng t228 x12_1
           replace p20 := eq_true p20
           replace q20 := eq_true q20
           go_wp2
           go_meet
          ·case rel => exact ⟨_, ((t229.toList != ((a0.extract 0 (a2 : Int).toNat).extract (x1_1 : Int).toNat (t230 : Int).toNat).toList)), (by rfl), H', ⟨by have := HK1.out; have := HJ10.out; omega⟩, ⟨by (with_reducible repeat ((apply Kd.aN))); exact HO_10.out⟩, ⟨HB.out⟩⟩
          ·case rel => exact ⟨_, (false), (by rfl), H', ⟨by have := HK1.out; have := HJ10.out; omega⟩, ⟨by (with_reducible repeat ((apply Kd.aN))); exact HO_10.out⟩, ⟨HB.out⟩⟩
         ·have H' := aj.mk H
          clear H
          go_wp2
          go_meet
          case rel => exact ⟨_, (true), (by rfl), H', ⟨by have := HK1.out; have := HJ10.out; omega⟩, ⟨by (with_reducible repeat ((apply Kd.aN))); exact HO_10.out⟩, ⟨HB.out⟩⟩
        case rest =>
         clear HC15
         obtain ⟨kq, x63_14, rfl, HA, HJ14, HO_10, HB⟩ := hcut
         cases kq with
         | zero => exact absurd HA.out (by simp [aD.j2])
         | succ kj14 =>
          have H := HA.out
          clear HA
          simp only [aD.j2] at H
          by_cases c25 : x63_14 = true
          ·subst c25
           rw [if_pos rfl] at H
           simp only [Option.some.injEq, Prod.mk.injEq] at H
           obtain ⟨rfl, rfl⟩ := H
           go_wp2
           go_ret2
           exact ⟨_, by rfl, by (exact Kd.fU _ _ _ _ _), HB.out⟩
          ·replace c25 := Bool.eq_false_iff.mpr c25
           subst c25
           rw [if_neg ff_] at H
           obtain ⟨c26, H⟩ := gd_ H
           have LMc26 := aj.mk c26
           clear c26
           obtain ⟨y232, hy232⟩ : ∃ y_ : List ByteArray, y_ = (x10_1 ++ [t229]) := ⟨_, rfl⟩
           replace H : (aD.l0 kj14 (a0.extract 0 (a2 : Int).toNat) t230 a2 y232 t228 (wrap64 (x12_1 + 1))) = some (r1, r2) := by (rw [hy232]; with_reducible exact H)
           have Ny232 := aj.mk hy232
           clear hy232
           have H' := aj.mk H
           clear H
           go_wp2_with ((((with_reducible refine eO (b := .append) (xs := #[.tmp 64, .tmp 66]) rfl ?_); (try (refine dZ (by rfl) ?_; dsimp only)); at_builtin; refine Kd.iL Kd.string (w0 := w) w.heap.size rfl (.tmp 64) (.tmp 66) 43 9 (.string ⟨#[]⟩) 16 rfl Tryz.underlying43 nA rfl (by decide) (by omega) u10 x10_1 t229 [.string t229] (fun _ => True) (fun _ => False) rfl rfl ?aP (fun _ hk => hk.elim) ?aF ?aO ?aB ?aS ?aL ?_; (case aP => exact rfl); (case aB => exact HB.out); (case aF => exact (fun _ _ => trivial)); (case aO => exact (by ((exact HO_10.out)))); (case aS => exact (ay HB.out)); (case aL => have := LMc26.out; omega); intro v233 w27 ho hb hg hat; rw [← Ny232.out] at ho; have n0_ := aj.mk (hb); have n1_ := aj.mk (ho); clear HB; clear HO_10; have HB := n0_; have HO234 := n1_; clear n0_ n1_; clear ho hb hg hat)))
           go_roundg kj14
           case measure => have := HK1.out; have := HJ10.out; have := HJ14.out; omega
           case rel => exact ⟨(t230), (y232), (wrap64 (x12_1 + 1)), (by rfl), (by rfl), H', ⟨by have := HK1.out; have := HJ10.out; have := HJ14.out; omega⟩, ⟨by (with_reducible repeat ((apply Kd.aN))); exact HO234.out⟩, ⟨HB.out⟩⟩
       ·replace c13 := Bool.eq_false_iff.mpr c13
        subst c13
        rw [if_neg ff_] at H
        by_cases c28 : (bt t228 x12_1) = 116
        ·rw [if_pos c28] at H
         have c28b0 : ((bt t228 x12_1) == 116) = true := beq_iff_eq.mpr c28
         have c28b1 : ((bt t228 x12_1) != 116) = false := bne_eq_false_iff_eq.mpr c28
         clear c28
         obtain ⟨c29, H⟩ := gd_ H
         have c29b0 := eq_true c29
         have c29b1 : decide (0 ≤ x1_1) = true := decide_eq_true c29
         clear c29
         obtain ⟨c30, H⟩ := gd_ H
         have c30b0 := eq_true c30
         have c30b1 : decide (x1_1 ≤ ((a0.extract 0 (a2 : Int).toNat).size : Int)) = true := decide_eq_true c30
         (try have c30b1v := c30b1)
         (try simp only [ByteArray.size_extract, Nat.sub_zero] at c30b1v)
         (try have c30b1w := eq_true (of_decide_eq_true c30b1v))
         clear c30
         replace H := Option.bind_eq_some_iff.mp H
         obtain ⟨⟨t235, t236⟩, A310, H⟩ := H
         replace H : (if t236 = 0 then (aD.j3 kj10 (a0.extract 0 (a2 : Int).toNat) x1_1 a2 x10_1 t228 x12_1 ((t235.length : Int) == 0)) else (aD.j3 kj10 (a0.extract 0 (a2 : Int).toNat) x1_1 a2 x10_1 t228 x12_1 true)) = some (r1, r2) := H
         have A31 := aj.mk A310
         clear A310
         have HC32 := aj.mk H
         clear H
         go_upto_region 19 with ((((with_reducible refine eG (f := 160) rfl ?_); refine iK (some 75) rfl rfl Tryz.func160 (by kernel_rfl) rfl #[.string ((a0.extract 0 (a2 : Int).toNat).extract (x1_1 : Int).toNat (a0.extract 0 (a2 : Int).toNat).size), .int .i64 1] rfl (by (try simp only [List.map_toArray, List.map_cons, List.map_nil]); (simp only [ByteArray.size_extract, Nat.sub_zero]; rfl)) ?_; (with_reducible refine (bq.calls kj10 ((a0.extract 0 (a2 : Int).toNat).extract (x1_1 : Int).toNat (a0.extract 0 (a2 : Int).toNat).size) 1 t235 t236 _ A31.out).mono ?_); rintro e w33 ⟨v237, rfl, ho0, hb⟩; refine ⟨_, rfl, ?_⟩; have HO238 := aj.mk (Kd.bS (Kd.iU ho0 (Kd.jS (by ((exact HO_10.out))))) (ay HB.out)); replace HO_10 := aj.mk (Kd.gK (by ((exact HO_10.out))) (Kd.iV ho0) hb); replace HB := aj.mk (au HB.out hb); (try clear hb); (try clear ho0))))
         go_cut [84] (fun v84 wc => ∃ (kq : Nat) (x84_31 : Bool), v84 = .bool x84_31 ∧ aj (aD.j3 kq (a0.extract 0 (a2 : Int).toNat) x1_1 a2 x10_1 t228 x12_1 x84_31 = some (r1, r2)) ∧ aj (kq ≤ kj10) ∧ aj (Kd.R Kd.string 9 wc w.heap.size (fun _ => True) u10 x10_1) ∧ aj (Below w.heap.size w wc))
         case first =>
          have H := HC32.out
          clear HC32
          by_cases c34 : t236 = 0
          focus
           rw [if_pos c34] at H
           have c34b0 : (t236 == 0) = true := beq_iff_eq.mpr c34
           have c34b1 : (t236 != 0) = false := bne_eq_false_iff_eq.mpr c34
           clear c34
          rotate_left
          focus
           rw [if_neg c34] at H
           have c34b0 : (t236 == 0) = false := beq_eq_false_iff_ne.mpr c34
           have c34b1 : (t236 != 0) = true := bne_iff_ne.mpr c34
          rotate_left
          all_goals
           (skip)
           have H' := aj.mk H
           clear H
          ·obtain ⟨Ao35, co35, eo35⟩ := Kd.cO HO238.out
           subst eo35
           go_wp2
           go_meet
           case rel => exact ⟨_, (((t235.length : Int) == 0)), (by rfl), H', ⟨by have := HK1.out; have := HJ10.out; omega⟩, ⟨by (with_reducible repeat ((apply Kd.aN))); exact Kd.dn HO_10.out (fun _ hk => trivial)⟩, ⟨HB.out⟩⟩
          ·go_wp2
           go_meet
           case rel => exact ⟨_, (true), (by rfl), H', ⟨by have := HK1.out; have := HJ10.out; omega⟩, ⟨by (with_reducible repeat ((apply Kd.aN))); exact Kd.dn HO_10.out (fun _ hk => trivial)⟩, ⟨HB.out⟩⟩
         case rest =>
          clear HC32
          (try clear c28b0)
          (try clear c28b1)
          (try clear c29b0)
          (try clear c29b1)
          (try clear c30b0)
          (try clear c30b1)
          obtain ⟨kq, x84_31, rfl, HA, HJ31, HO_10, HB⟩ := hcut
          cases kq with
          | zero => exact absurd HA.out (by simp [aD.j3])
          | succ kj31 =>
           have H := HA.out
           clear HA
           simp only [aD.j3] at H
           by_cases c36 : x84_31 = true
           ·subst c36
            rw [if_pos rfl] at H
            simp only [Option.some.injEq, Prod.mk.injEq] at H
            obtain ⟨rfl, rfl⟩ := H
            go_wp2
            go_ret2
            exact ⟨_, by rfl, by (exact Kd.fU _ _ _ _ _), HB.out⟩
           ·replace c36 := Bool.eq_false_iff.mpr c36
            subst c36
            rw [if_neg ff_] at H
            by_cases c37 : (wrap64 (x1_1 + (wrap64 (a2 - x1_1)))) > a2
            ·rw [if_pos c37] at H
             have c37b0 : decide (a2 < (wrap64 (x1_1 + (wrap64 (a2 - x1_1))))) = true := decide_eq_true c37
             clear c37
             simp only [Option.some.injEq, Prod.mk.injEq] at H
             obtain ⟨rfl, rfl⟩ := H
             go_wp2
             go_ret2
             exact ⟨_, by rfl, by (exact Kd.fU _ _ _ _ _), HB.out⟩
            ·rw [if_neg c37] at H
             have c37b0 : decide (a2 < (wrap64 (x1_1 + (wrap64 (a2 - x1_1))))) = false := decide_eq_false c37
             clear c37
             obtain ⟨c38, H⟩ := gd_ H
             have c38b0 := eq_true c38
             have c38b1 : decide (0 ≤ x1_1) = true := decide_eq_true c38
             clear c38
             obtain ⟨c39, H⟩ := gd_ H
             have c39b0 := eq_true c39
             have c39b1 : decide (x1_1 ≤ (wrap64 (x1_1 + (wrap64 (a2 - x1_1))))) = true := decide_eq_true c39
             obtain ⟨c40, H⟩ := gd_ H
             have c40b0 := eq_true c40
             have c40b1 : decide ((wrap64 (x1_1 + (wrap64 (a2 - x1_1)))) ≤ ((a0.extract 0 (a2 : Int).toNat).size : Int)) = true := decide_eq_true c40
             (try have c40b1v := c40b1)
             (try simp only [ByteArray.size_extract, Nat.sub_zero] at c40b1v)
             (try have c40b1w := eq_true (of_decide_eq_true c40b1v))
             obtain ⟨c41, H⟩ := gd_ H
             have LMc41 := aj.mk c41
             clear c41
             obtain ⟨y239, hy239⟩ : ∃ y_ : List ByteArray, y_ = (x10_1 ++ [(a0.extract 0 (a2 : Int).toNat).extract (x1_1 : Int).toNat ((wrap64 (x1_1 + (wrap64 (a2 - x1_1)))) : Int).toNat]) := ⟨_, rfl⟩
             replace H : (aD.l0 kj31 (a0.extract 0 (a2 : Int).toNat) (wrap64 (x1_1 + (wrap64 (a2 - x1_1)))) a2 y239 t228 (wrap64 (x12_1 + 1))) = some (r1, r2) := by (rw [hy239]; with_reducible exact H)
             have Ny239 := aj.mk hy239
             clear hy239
             have H' := aj.mk H
             clear H
             go_wp2_with ((((with_reducible refine eO (b := .append) (xs := #[.tmp 100, .tmp 107]) rfl ?_); (try (refine dZ (by rfl) ?_; dsimp only)); at_builtin; refine Kd.iL Kd.string (w0 := w) w.heap.size rfl (.tmp 100) (.tmp 107) 43 9 (.string ⟨#[]⟩) 16 rfl Tryz.underlying43 nA rfl (by decide) (by omega) u10 x10_1 ((a0.extract 0 (a2 : Int).toNat).extract (x1_1 : Int).toNat ((wrap64 (x1_1 + (wrap64 (a2 - x1_1)))) : Int).toNat) [.string ((a0.extract 0 (a2 : Int).toNat).extract (x1_1 : Int).toNat ((wrap64 (x1_1 + (wrap64 (a2 - x1_1)))) : Int).toNat)] (fun _ => True) (fun _ => False) rfl rfl ?aP (fun _ hk => hk.elim) ?aF ?aO ?aB ?aS ?aL ?_; (case aP => exact rfl); (case aB => exact HB.out); (case aF => exact (fun _ _ => trivial)); (case aO => exact (by ((exact HO_10.out)))); (case aS => exact (ay HB.out)); (case aL => have := LMc41.out; omega); intro v240 w42 ho hb hg hat; rw [← Ny239.out] at ho; have n0_ := aj.mk (hb); have n1_ := aj.mk (ho); clear HB; clear HO_10; have HB := n0_; have HO241 := n1_; clear n0_ n1_; clear ho hb hg hat)))
             go_roundg kj31
             case measure => have := HK1.out; have := HJ10.out; have := HJ31.out; omega
             case rel => exact ⟨(wrap64 (x1_1 + (wrap64 (a2 - x1_1)))), (y239), (wrap64 (x12_1 + 1)), (by rfl), (by rfl), H', ⟨by have := HK1.out; have := HJ10.out; have := HJ31.out; omega⟩, ⟨by (with_reducible repeat ((apply Kd.aN))); exact HO241.out⟩, ⟨HB.out⟩⟩
        ·rw [if_neg c28] at H
         have c28b0 : ((bt t228 x12_1) == 116) = false := beq_eq_false_iff_ne.mpr c28
         have c28b1 : ((bt t228 x12_1) != 116) = true := bne_iff_ne.mpr c28
         by_cases c43 : (bt t228 x12_1) = 111
         ·rw [if_pos c43] at H
          have c43b0 : ((bt t228 x12_1) == 111) = true := beq_iff_eq.mpr c43
          have c43b1 : ((bt t228 x12_1) != 111) = false := bne_eq_false_iff_eq.mpr c43
          clear c43
          by_cases c44 : (wrap64 (x1_1 + (wrap64 (a2 - x1_1)))) > a2
          ·rw [if_pos c44] at H
           have c44b0 : decide (a2 < (wrap64 (x1_1 + (wrap64 (a2 - x1_1))))) = true := decide_eq_true c44
           clear c44
           simp only [Option.some.injEq, Prod.mk.injEq] at H
           obtain ⟨rfl, rfl⟩ := H
           go_wp2
           go_ret2
           exact ⟨_, by rfl, by (exact Kd.fU _ _ _ _ _), HB.out⟩
          ·rw [if_neg c44] at H
           have c44b0 : decide (a2 < (wrap64 (x1_1 + (wrap64 (a2 - x1_1))))) = false := decide_eq_false c44
           clear c44
           obtain ⟨c45, H⟩ := gd_ H
           have c45b0 := eq_true c45
           have c45b1 : decide (0 ≤ x1_1) = true := decide_eq_true c45
           clear c45
           obtain ⟨c46, H⟩ := gd_ H
           have c46b0 := eq_true c46
           have c46b1 : decide (x1_1 ≤ (wrap64 (x1_1 + (wrap64 (a2 - x1_1))))) = true := decide_eq_true c46
           obtain ⟨c47, H⟩ := gd_ H
           have c47b0 := eq_true c47
           have c47b1 : decide ((wrap64 (x1_1 + (wrap64 (a2 - x1_1)))) ≤ ((a0.extract 0 (a2 : Int).toNat).size : Int)) = true := decide_eq_true c47
           (try have c47b1v := c47b1)
           (try simp only [ByteArray.size_extract, Nat.sub_zero] at c47b1v)
           (try have c47b1w := eq_true (of_decide_eq_true c47b1v))
           obtain ⟨c48, H⟩ := gd_ H
           have LMc48 := aj.mk c48
           clear c48
           obtain ⟨y242, hy242⟩ : ∃ y_ : List ByteArray, y_ = (x10_1 ++ [(a0.extract 0 (a2 : Int).toNat).extract (x1_1 : Int).toNat ((wrap64 (x1_1 + (wrap64 (a2 - x1_1)))) : Int).toNat]) := ⟨_, rfl⟩
           replace H : (aD.l0 kj10 (a0.extract 0 (a2 : Int).toNat) (wrap64 (x1_1 + (wrap64 (a2 - x1_1)))) a2 y242 t228 (wrap64 (x12_1 + 1))) = some (r1, r2) := by (rw [hy242]; with_reducible exact H)
           have Ny242 := aj.mk hy242
           clear hy242
           have H' := aj.mk H
           clear H
           go_wp2_with ((((with_reducible refine eO (b := .append) (xs := #[.tmp 100, .tmp 107]) rfl ?_); (try (refine dZ (by rfl) ?_; dsimp only)); at_builtin; refine Kd.iL Kd.string (w0 := w) w.heap.size rfl (.tmp 100) (.tmp 107) 43 9 (.string ⟨#[]⟩) 16 rfl Tryz.underlying43 nA rfl (by decide) (by omega) u10 x10_1 ((a0.extract 0 (a2 : Int).toNat).extract (x1_1 : Int).toNat ((wrap64 (x1_1 + (wrap64 (a2 - x1_1)))) : Int).toNat) [.string ((a0.extract 0 (a2 : Int).toNat).extract (x1_1 : Int).toNat ((wrap64 (x1_1 + (wrap64 (a2 - x1_1)))) : Int).toNat)] (fun _ => True) (fun _ => False) rfl rfl ?aP (fun _ hk => hk.elim) ?aF ?aO ?aB ?aS ?aL ?_; (case aP => exact rfl); (case aB => exact HB.out); (case aF => exact (fun _ _ => trivial)); (case aO => exact (by ((exact HO_10.out)))); (case aS => exact (ay HB.out)); (case aL => have := LMc48.out; omega); intro v243 w49 ho hb hg hat; rw [← Ny242.out] at ho; have n0_ := aj.mk (hb); have n1_ := aj.mk (ho); clear HB; clear HO_10; have HB := n0_; have HO244 := n1_; clear n0_ n1_; clear ho hb hg hat)))
           go_roundg kj10
           case measure => have := HK1.out; have := HJ10.out; omega
           case rel => exact ⟨(wrap64 (x1_1 + (wrap64 (a2 - x1_1)))), (y242), (wrap64 (x12_1 + 1)), (by rfl), (by rfl), H', ⟨by have := HK1.out; have := HJ10.out; omega⟩, ⟨by (with_reducible repeat ((apply Kd.aN))); exact HO244.out⟩, ⟨HB.out⟩⟩
         ·rw [if_neg c43] at H
          have c43b0 : ((bt t228 x12_1) == 111) = false := beq_eq_false_iff_ne.mpr c43
          have c43b1 : ((bt t228 x12_1) != 111) = true := bne_iff_ne.mpr c43
          by_cases c50 : (bt t228 x12_1) = 104
          ·rw [if_pos c50] at H
           have c50b0 : ((bt t228 x12_1) == 104) = true := beq_iff_eq.mpr c50
           have c50b1 : ((bt t228 x12_1) != 104) = false := bne_eq_false_iff_eq.mpr c50
           clear c50
           by_cases c51 : (wrap64 (x1_1 + 16)) > a2
           ·rw [if_pos c51] at H
            have c51b0 : decide (a2 < (wrap64 (x1_1 + 16))) = true := decide_eq_true c51
            clear c51
            simp only [Option.some.injEq, Prod.mk.injEq] at H
            obtain ⟨rfl, rfl⟩ := H
            go_wp2
            go_ret2
            exact ⟨_, by rfl, by (exact Kd.fU _ _ _ _ _), HB.out⟩
           ·rw [if_neg c51] at H
            have c51b0 : decide (a2 < (wrap64 (x1_1 + 16))) = false := decide_eq_false c51
            clear c51
            obtain ⟨c52, H⟩ := gd_ H
            have c52b0 := eq_true c52
            have c52b1 : decide (0 ≤ x1_1) = true := decide_eq_true c52
            clear c52
            obtain ⟨c53, H⟩ := gd_ H
            have c53b0 := eq_true c53
            have c53b1 : decide (x1_1 ≤ (wrap64 (x1_1 + 16))) = true := decide_eq_true c53
            obtain ⟨c54, H⟩ := gd_ H
            have c54b0 := eq_true c54
            have c54b1 : decide ((wrap64 (x1_1 + 16)) ≤ ((a0.extract 0 (a2 : Int).toNat).size : Int)) = true := decide_eq_true c54
            (try have c54b1v := c54b1)
            (try simp only [ByteArray.size_extract, Nat.sub_zero] at c54b1v)
            (try have c54b1w := eq_true (of_decide_eq_true c54b1v))
            obtain ⟨c55, H⟩ := gd_ H
            have LMc55 := aj.mk c55
            clear c55
            obtain ⟨y245, hy245⟩ : ∃ y_ : List ByteArray, y_ = (x10_1 ++ [(a0.extract 0 (a2 : Int).toNat).extract (x1_1 : Int).toNat ((wrap64 (x1_1 + 16)) : Int).toNat]) := ⟨_, rfl⟩
            replace H : (aD.l0 kj10 (a0.extract 0 (a2 : Int).toNat) (wrap64 (x1_1 + 16)) a2 y245 t228 (wrap64 (x12_1 + 1))) = some (r1, r2) := by (rw [hy245]; with_reducible exact H)
            have Ny245 := aj.mk hy245
            clear hy245
            have H' := aj.mk H
            clear H
            go_wp2_with ((((with_reducible refine eO (b := .append) (xs := #[.tmp 100, .tmp 107]) rfl ?_); (try (refine dZ (by rfl) ?_; dsimp only)); at_builtin; refine Kd.iL Kd.string (w0 := w) w.heap.size rfl (.tmp 100) (.tmp 107) 43 9 (.string ⟨#[]⟩) 16 rfl Tryz.underlying43 nA rfl (by decide) (by omega) u10 x10_1 ((a0.extract 0 (a2 : Int).toNat).extract (x1_1 : Int).toNat ((wrap64 (x1_1 + 16)) : Int).toNat) [.string ((a0.extract 0 (a2 : Int).toNat).extract (x1_1 : Int).toNat ((wrap64 (x1_1 + 16)) : Int).toNat)] (fun _ => True) (fun _ => False) rfl rfl ?aP (fun _ hk => hk.elim) ?aF ?aO ?aB ?aS ?aL ?_; (case aP => exact rfl); (case aB => exact HB.out); (case aF => exact (fun _ _ => trivial)); (case aO => exact (by ((exact HO_10.out)))); (case aS => exact (ay HB.out)); (case aL => have := LMc55.out; omega); intro v246 w56 ho hb hg hat; rw [← Ny245.out] at ho; have n0_ := aj.mk (hb); have n1_ := aj.mk (ho); clear HB; clear HO_10; have HB := n0_; have HO247 := n1_; clear n0_ n1_; clear ho hb hg hat)))
            go_roundg kj10
            case measure => have := HK1.out; have := HJ10.out; omega
            case rel => exact ⟨(wrap64 (x1_1 + 16)), (y245), (wrap64 (x12_1 + 1)), (by rfl), (by rfl), H', ⟨by have := HK1.out; have := HJ10.out; omega⟩, ⟨by (with_reducible repeat ((apply Kd.aN))); exact HO247.out⟩, ⟨HB.out⟩⟩
          ·rw [if_neg c50] at H
           have c50b0 : ((bt t228 x12_1) == 104) = false := beq_eq_false_iff_ne.mpr c50
           have c50b1 : ((bt t228 x12_1) != 104) = true := bne_iff_ne.mpr c50
           obtain ⟨c57b0, H⟩ := dX H
           obtain ⟨c58b0, H⟩ := dX H
           by_cases c60 : (wrap64 (x1_1 + (wrap64 ((wrap64 (bt t228 x12_1)) - 48)))) > a2
           focus
            rw [if_pos c60] at H
            have c60b0 : decide (a2 < (wrap64 (x1_1 + (wrap64 ((wrap64 (bt t228 x12_1)) - 48))))) = true := decide_eq_true c60
            clear c60
            simp only [Option.some.injEq, Prod.mk.injEq] at H
            obtain ⟨rfl, rfl⟩ := H
           rotate_left
           focus
            rw [if_neg c60] at H
            have c60b0 : decide (a2 < (wrap64 (x1_1 + (wrap64 ((wrap64 (bt t228 x12_1)) - 48))))) = false := decide_eq_false c60
            clear c60
            obtain ⟨c61, H⟩ := gd_ H
            have c61b0 := eq_true c61
            have c61b1 : decide (0 ≤ x1_1) = true := decide_eq_true c61
            clear c61
            obtain ⟨c62, H⟩ := gd_ H
            have c62b0 := eq_true c62
            have c62b1 : decide (x1_1 ≤ (wrap64 (x1_1 + (wrap64 ((wrap64 (bt t228 x12_1)) - 48))))) = true := decide_eq_true c62
            obtain ⟨c63, H⟩ := gd_ H
            have c63b0 := eq_true c63
            have c63b1 : decide ((wrap64 (x1_1 + (wrap64 ((wrap64 (bt t228 x12_1)) - 48)))) ≤ ((a0.extract 0 (a2 : Int).toNat).size : Int)) = true := decide_eq_true c63
            (try have c63b1v := c63b1)
            (try simp only [ByteArray.size_extract, Nat.sub_zero] at c63b1v)
            (try have c63b1w := eq_true (of_decide_eq_true c63b1v))
            obtain ⟨c64, H⟩ := gd_ H
            have LMc64 := aj.mk c64
            clear c64
            obtain ⟨y248, hy248⟩ : ∃ y_ : List ByteArray, y_ = (x10_1 ++ [(a0.extract 0 (a2 : Int).toNat).extract (x1_1 : Int).toNat ((wrap64 (x1_1 + (wrap64 ((wrap64 (bt t228 x12_1)) - 48)))) : Int).toNat]) := ⟨_, rfl⟩
            replace H : (aD.l0 kj10 (a0.extract 0 (a2 : Int).toNat) (wrap64 (x1_1 + (wrap64 ((wrap64 (bt t228 x12_1)) - 48)))) a2 y248 t228 (wrap64 (x12_1 + 1))) = some (r1, r2) := by (rw [hy248]; with_reducible exact H)
            have Ny248 := aj.mk hy248
            clear hy248
            have H' := aj.mk H
            clear H
           rotate_left
           all_goals
            have p59 : 0 ≤ (x12_1 : Int) := of_decide_eq_true (by assumption)
            have q59 : x12_1 < (t228.size : Int) := of_decide_eq_true (by assumption)
            have hx59 := ng t228 x12_1
            replace p59 := eq_true p59
            replace q59 := eq_true q59
           ·go_wp2
            go_ret2
            exact ⟨_, by rfl, by (exact Kd.fU _ _ _ _ _), HB.out⟩
           ·go_wp2_with ((((with_reducible refine eO (b := .append) (xs := #[.tmp 100, .tmp 107]) rfl ?_); (try (refine dZ (by rfl) ?_; dsimp only)); at_builtin; refine Kd.iL Kd.string (w0 := w) w.heap.size rfl (.tmp 100) (.tmp 107) 43 9 (.string ⟨#[]⟩) 16 rfl Tryz.underlying43 nA rfl (by decide) (by omega) u10 x10_1 ((a0.extract 0 (a2 : Int).toNat).extract (x1_1 : Int).toNat ((wrap64 (x1_1 + (wrap64 ((wrap64 (bt t228 x12_1)) - 48)))) : Int).toNat) [.string ((a0.extract 0 (a2 : Int).toNat).extract (x1_1 : Int).toNat ((wrap64 (x1_1 + (wrap64 ((wrap64 (bt t228 x12_1)) - 48)))) : Int).toNat)] (fun _ => True) (fun _ => False) rfl rfl ?aP (fun _ hk => hk.elim) ?aF ?aO ?aB ?aS ?aL ?_; (case aP => exact rfl); (case aB => exact HB.out); (case aF => exact (fun _ _ => trivial)); (case aO => exact (by ((exact HO_10.out)))); (case aS => exact (ay HB.out)); (case aL => have := LMc64.out; omega); intro v249 w65 ho hb hg hat; rw [← Ny248.out] at ho; have n0_ := aj.mk (hb); have n1_ := aj.mk (ho); clear HB; clear HO_10; have HB := n0_; have HO250 := n1_; clear n0_ n1_; clear ho hb hg hat)))
            go_roundg kj10
            case measure => have := HK1.out; have := HJ10.out; omega
            case rel => exact ⟨(wrap64 (x1_1 + (wrap64 ((wrap64 (bt t228 x12_1)) - 48)))), (y248), (wrap64 (x12_1 + 1)), (by rfl), (by rfl), H', ⟨by have := HK1.out; have := HJ10.out; omega⟩, ⟨by (with_reducible repeat ((apply Kd.aN))); exact HO250.out⟩, ⟨HB.out⟩⟩
    ·rw [if_neg c8] at H
     have c8b0 : decide (x12_1 < (t228.size : Int)) = false := decide_eq_false c8
     clear c8
     simp only [Option.some.injEq, Prod.mk.injEq] at H
     obtain ⟨rfl, rfl⟩ := H
     go_wp2
     go_ret2
     exact ⟨_, by rfl, by (with_reducible repeat ((apply Kd.aN))); exact HO_10.out, HB.out⟩
end Go.Y.PRd
namespace Go.Y.PRd
open Go.Proofs.ah.av Go.Proofs.ah.aT Go.Proofs.ah.aU Go.Y.Given
attribute [local go_sem] dB dD dQ dP cK cB dA dF
def bZ.l0 : Nat → List ByteArray → ByteArray → Int → Option (ByteArray)
 | 0, _, _, _ => none
 | k + 1, x0, x3, x4 => if x4 < (x0.length : Int) then (if 0 ≤ x4 then (if x3.size + (bH ByteArray.empty x0 x4).size ≤ 9223372036854775807 then (bZ.l0 k x0 (x3 ++ (bH ByteArray.empty x0 x4)) (wrap64 (x4 + 1))) else (none)) else (none)) else (some x3)
def bZ.f (k : Nat) (l0 : List ByteArray) : Option (ByteArray) := bZ.l0 k l0 (⟨#[]⟩ : ByteArray) 0
theorem bZ.calls (k : Nat) (A0 : Option Addr) (c0 : Nat) (l0 : List ByteArray) (r : ByteArray) (w : World) (hr0 : Kd.C Kd.string w A0 l0.length l0) (hc0 : l0.length ≤ c0) (h : bZ.f k l0 = some r) :
    Calls Tryz.prog 134 #[.slice A0 l0.length c0] w fun e w' => e = .returned (.string r) ∧ bf w w' := by
  have HR0 := aj.mk hr0
  have HC0 := aj.mk hc0
  clear hr0 hc0
  have H : (bZ.l0 k l0 (⟨#[]⟩ : ByteArray) 0) = some r := h
  clear h
  have H' := aj.mk H
  clear H
  go_enter Tryz.func134, Tryz.ntmps134
  go_wp2
  go_loopg [3, 4] k (fun kq v3 v4 w' => ∃ (x3_1 : ByteArray) (x4_1 : Int), v3 = .string x3_1 ∧ v4 = .int .i64 x4_1 ∧ aj (bZ.l0 kq l0 x3_1 x4_1 = some r) ∧ aj (kq ≤ k) ∧ bf w w')
  case atStart => exact ⟨((⟨#[]⟩ : ByteArray)), (0), (by rfl), (by rfl), H', ⟨Nat.le_refl _⟩, by repeat ((exact bf.refl _))⟩
  case round =>
   clear H'
   obtain ⟨x3_1, x4_1, rfl, rfl, HA, HK1, ⟨m1, rfl⟩⟩ := hrel
   cases gk with
   | zero => exact absurd HA.out (by simp [bZ.l0])
   | succ k1 =>
    have H := HA.out
    clear HA
    simp only [bZ.l0] at H
    by_cases c2 : x4_1 < (l0.length : Int)
    ·rw [if_pos c2] at H
     have c2b0 : decide (x4_1 < (l0.length : Int)) = true := decide_eq_true c2
     clear c2
     obtain ⟨c3b0, H⟩ := dX H
     obtain ⟨c4, H⟩ := gd_ H
     have c4b0 := eq_true c4
     have c4b1 : decide (x3_1.size + (bH ByteArray.empty l0 x4_1).size ≤ 9223372036854775807) = true := decide_eq_true c4
     (try have c4b2 : (9223372036854775807 < x3_1.size + (bH ByteArray.empty l0 x4_1).size) = False := eq_false (Nat.not_lt.2 c4))
     have H' := aj.mk H
     clear H
     have p251 : 0 ≤ (x4_1 : Int) := of_decide_eq_true (by assumption)
     have q251 : x4_1 < (l0.length : Int) := of_decide_eq_true (by assumption)
     obtain ⟨ad251, e251, hx251_0⟩ := Kd.fZ HR0.out x4_1 p251 q251
     cases e251
     replace p251 := eq_true p251
     replace q251 := eq_true q251
     go_wp2
     go_roundg k1
     case measure => have := HK1.out; omega
     case rel => exact ⟨(x3_1 ++ (bH ByteArray.empty l0 x4_1)), (wrap64 (x4_1 + 1)), (by rfl), (by rfl), H', ⟨by have := HK1.out; omega⟩, by repeat (first | exact bf.refl _ | apply bf.step)⟩
    ·rw [if_neg c2] at H
     have c2b0 : decide (x4_1 < (l0.length : Int)) = false := decide_eq_false c2
     clear c2
     obtain rfl := Option.some.inj H
     go_wp2
     go_ret
     exact ⟨by rfl, by repeat (first | exact bf.refl _ | apply bf.step)⟩
def gJ.f (k : Nat) (a0 : ByteArray) (a1 : Int) (a2 : Int) (a3 : Int) : Option (ByteArray × Bool) := (aD.f k a0 a1 a2 a3).bind fun bt252 => ((bZ.f k bt252.1).bind fun t256 => (if bt252.2 = true then (some (t256, decide ((t256.size : Int) ≤ 65535))) else (some (t256, false))))
theorem gJ.calls (k : Nat) (a0 : ByteArray) (a1 : Int) (a2 : Int) (a3 : Int) (r1 : ByteArray) (r2 : Bool) (w : World) (h : gJ.f k a0 a1 a2 a3 = some (r1, r2)) :
    Calls Tryz.prog 108 #[.string a0, .int .i64 a1, .int .i64 a2, .int .i64 a3] w fun e w' => e = .returned (.tuple #[.string r1, .bool r2]) ∧ Below w.heap.size w w' := by
  have HB := aj.mk (Below.refl w.heap.size w)
  have H : ((aD.f k a0 a1 a2 a3).bind fun bt252 => ((bZ.f k bt252.1).bind fun t256 => (if bt252.2 = true then (some (t256, decide ((t256.size : Int) ≤ 65535))) else (some (t256, false))))) = some (r1, r2) := h
  clear h
  replace H := Option.bind_eq_some_iff.mp H
  obtain ⟨⟨t252, t253⟩, A50, H⟩ := H
  replace H : ((bZ.f k t252).bind fun t256 => (if t253 = true then (some (t256, decide ((t256.size : Int) ≤ 65535))) else (some (t256, false)))) = some (r1, r2) := H
  have A5 := aj.mk A50
  clear A50
  obtain ⟨t256, A6, H⟩ := cu H
  by_cases c7 : t253 = true
  focus
   subst c7
   rw [if_pos rfl] at H
  rotate_left
  focus
   replace c7 := Bool.eq_false_iff.mpr c7
   subst c7
   rw [if_neg ff_] at H
  rotate_left
  all_goals
   simp only [Option.some.injEq, Prod.mk.injEq] at H
   obtain ⟨rfl, rfl⟩ := H
   go_enter Tryz.func108, Tryz.ntmps108
   go_wp2_with (first | (refine gl_ (some 18) Tryz.func133 #[.string a0, .int .i64 a1, .int .i64 a2, .int .i64 a3] ?_; (with_reducible refine (aD.calls k a0 a1 a2 a3 t252 _ _ A5.out).mono ?_); rintro e w8 ⟨v254, rfl, ho0, hb⟩; refine ⟨_, rfl, ?_⟩; have HO255 := aj.mk (Kd.bS ho0 (ay HB.out)); replace HB := aj.mk (au HB.out hb); (try clear hb); (try clear ho0); obtain ⟨Ao9, co9, eo9⟩ := Kd.cO HO255.out; subst eo9) | (refine gl_ (some 22) Tryz.func134 #[.slice Ao9 t252.length co9] ?_; (with_reducible refine (bZ.calls k _ _ t252 t256 _ ?side1 ?side2 A6.out).mono ?_); (case side1 => exact (Kd.aX HO255.out).2.2); (case side2 => exact (Kd.aX HO255.out).2.1); rintro e w' ⟨rfl, ⟨nd, rfl⟩⟩; refine ⟨_, rfl, ?_⟩))
   go_ret2
   exact ⟨by rfl, by repeat ((with_reducible first | exact HB.out | apply aW))⟩
def fG.f (k : Nat) (a0 : Int) (a1 : ByteArray) : Option (Bool) := (gJ.f k a1 0 (a1.size : Int) a0).bind fun bt257 => (if bt257.2 = true then (some (bt257.1.toList == a1.toList)) else (some false))
theorem fG.calls (k : Nat) (a0 : Int) (a1 : ByteArray) (r : Bool) (w : World) (h : fG.f k a0 a1 = some r) :
    Calls Tryz.prog 71 #[.int .i64 a0, .string a1] w fun e w' => e = .returned (.bool r) ∧ Below w.heap.size w w' := by
  have HB := aj.mk (Below.refl w.heap.size w)
  have H : ((gJ.f k a1 0 (a1.size : Int) a0).bind fun bt257 => (if bt257.2 = true then (some (bt257.1.toList == a1.toList)) else (some false))) = some r := h
  clear h
  replace H := Option.bind_eq_some_iff.mp H
  obtain ⟨⟨t257, t258⟩, A30, H⟩ := H
  replace H : (if t258 = true then (some (t257.toList == a1.toList)) else (some false)) = some r := H
  have A3 := aj.mk A30
  clear A30
  by_cases c4 : t258 = true
  focus
   subst c4
   rw [if_pos rfl] at H
  rotate_left
  focus
   replace c4 := Bool.eq_false_iff.mpr c4
   subst c4
   rw [if_neg ff_] at H
  rotate_left
  all_goals
   obtain rfl := Option.some.inj H
   go_enter Tryz.func71, Tryz.ntmps71
   go_wp2_with (((refine gl_ (some 12) Tryz.func108 #[.string a1, .int .i64 0, .int .i64 (a1.size : Int), .int .i64 a0] ?_; (with_reducible refine (gJ.calls k a1 0 (a1.size : Int) a0 t257 _ _ A3.out).mono ?_); rintro e w5 ⟨rfl, hb⟩; refine ⟨_, rfl, ?_⟩; replace HB := aj.mk (au HB.out hb); (try clear hb))))
   go_ret
   exact ⟨by rfl, HB.out⟩
def bO.l0 : Nat → ByteArray → List Int → Int → Option (ByteArray)
 | 0, _, _, _ => none
 | k + 1, x0, x3, x4 => if x4 < (x0.size : Int) then (if 0 ≤ x4 then (if (bt x0 x4) ≥ 65 then (if (bt x0 x4) ≤ 90 then (if x3.length < 140737488355328 then (bO.l0 k x0 (x3 ++ [((bt x0 x4) + 32) % 256]) (wrap64 (x4 + 1))) else (none)) else (if x3.length < 140737488355328 then (bO.l0 k x0 (x3 ++ [bt x0 x4]) (wrap64 (x4 + 1))) else (none))) else (if x3.length < 140737488355328 then (bO.l0 k x0 (x3 ++ [bt x0 x4]) (wrap64 (x4 + 1))) else (none))) else (none)) else (some (strOfNums x3))
def bO.f (k : Nat) (a0 : ByteArray) : Option (ByteArray) := bO.l0 k a0 ([] : List Int) 0
theorem bO.calls (k : Nat) (a0 : ByteArray) (r : ByteArray) (w : World) (h : bO.f k a0 = some r) :
    Calls Tryz.prog 104 #[.string a0] w fun e w' => e = .returned (.string r) ∧ Below w.heap.size w w' := by
  have HB := aj.mk (Below.refl w.heap.size w)
  have H : (bO.l0 k a0 ([] : List Int) 0) = some r := h
  clear h
  have H' := aj.mk H
  clear H
  go_enter Tryz.func104, Tryz.ntmps104
  go_wp2
  go_loopg [3, 4] k (fun kq v3 v4 w' => ∃ (x3_1 : List Int) (x4_1 : Int), v4 = .int .i64 x4_1 ∧ aj (bO.l0 kq a0 x3_1 x4_1 = some r) ∧ aj (kq ≤ k) ∧ aj (Kd.R (Kd.int .u8) 5 w' w.heap.size (fun _ => True) v3 x3_1) ∧ aj (Below w.heap.size w w'))
  case atStart => exact ⟨(([] : List Int)), (0), (by rfl), H', ⟨Nat.le_refl _⟩, ⟨by (exact Kd.fU _ _ _ _ _)⟩, ⟨HB.out⟩⟩
  case round =>
   clear H'
   obtain ⟨x3_1, x4_1, rfl, HA, HK1, HO_3, HB⟩ := hrel
   cases gk with
   | zero => exact absurd HA.out (by simp [bO.l0])
   | succ k1 =>
    have H := HA.out
    clear HA
    simp only [bO.l0] at H
    by_cases c2 : x4_1 < (a0.size : Int)
    ·rw [if_pos c2] at H
     have c2b0 : decide (x4_1 < (a0.size : Int)) = true := decide_eq_true c2
     clear c2
     obtain ⟨c3b0, H⟩ := dX H
     by_cases c5 : (bt a0 x4_1) ≥ 65
     focus
      rw [if_pos c5] at H
      have c5b0 : decide (65 ≤ (bt a0 x4_1)) = true := decide_eq_true c5
      clear c5
      by_cases c6 : (bt a0 x4_1) ≤ 90
      focus
       rw [if_pos c6] at H
       have c6b0 : decide ((bt a0 x4_1) ≤ 90) = true := decide_eq_true c6
      rotate_left
      focus
       rw [if_neg c6] at H
       have c6b0 : decide ((bt a0 x4_1) ≤ 90) = false := decide_eq_false c6
      rotate_left
      all_goals
       clear c6
     rotate_left 2
     focus
      rw [if_neg c5] at H
      have c5b0 : decide (65 ≤ (bt a0 x4_1)) = false := decide_eq_false c5
      clear c5
     rotate_left
     all_goals
      obtain ⟨c7, H⟩ := gd_ H
      have LMc7 := aj.mk c7
      clear c7
     focus
      obtain ⟨y259, hy259⟩ : ∃ y_ : List Int, y_ = (x3_1 ++ [((bt a0 x4_1) + 32) % 256]) := ⟨_, rfl⟩
     rotate_left
     focus
      obtain ⟨y259, hy259⟩ : ∃ y_ : List Int, y_ = (x3_1 ++ [bt a0 x4_1]) := ⟨_, rfl⟩
     rotate_left
     focus
      obtain ⟨y259, hy259⟩ : ∃ y_ : List Int, y_ = (x3_1 ++ [bt a0 x4_1]) := ⟨_, rfl⟩
     rotate_left
     all_goals
      replace H : (bO.l0 k1 a0 y259 (wrap64 (x4_1 + 1))) = some r := by (rw [hy259]; with_reducible exact H)
      have Ny259 := aj.mk hy259
      clear hy259
      have H' := aj.mk H
      clear H
      have p4 : 0 ≤ (x4_1 : Int) := of_decide_eq_true (by assumption)
      have q4 : x4_1 < (a0.size : Int) := of_decide_eq_true (by assumption)
      have hx4 := ng a0 x4_1
      replace p4 := eq_true p4
      replace q4 := eq_true q4
     focus
      go_wp2_with ((((with_reducible refine eO (b := .append) (xs := #[.tmp 23, .tmp 25]) rfl ?_); at_builtin; refine Kd.iL (Kd.int .u8) (w0 := w) w.heap.size rfl (.tmp 23) (.tmp 25) 101 5 (.int .u8 0) 1 rfl Tryz.underlying101 info5 rfl (by decide) (by omega) u3 x3_1 (((bt a0 x4_1) + 32) % 256) [.int .u8 (((bt a0 x4_1) + 32) % 256)] (fun _ => True) (fun _ => False) rfl rfl ?aP (fun _ hk => hk.elim) ?aF ?aO ?aB ?aS ?aL ?_; (case aP => exact rfl); (case aB => exact HB.out); (case aF => exact (fun _ _ => trivial)); (case aO => exact (by ((exact HO_3.out)))); (case aS => exact (ay HB.out)); (case aL => have := LMc7.out; omega); intro v260 w8 ho hb hg hat; rw [← Ny259.out] at ho; have n0_ := aj.mk (hb); have n1_ := aj.mk (ho); clear HB; clear HO_3; have HB := n0_; have HO261 := n1_; clear n0_ n1_; clear ho hb hg hat)))
     rotate_left
     focus
      go_wp2_with ((((with_reducible refine eO (b := .append) (xs := #[.tmp 23, .tmp 25]) rfl ?_); at_builtin; refine Kd.iL (Kd.int .u8) (w0 := w) w.heap.size rfl (.tmp 23) (.tmp 25) 101 5 (.int .u8 0) 1 rfl Tryz.underlying101 info5 rfl (by decide) (by omega) u3 x3_1 (bt a0 x4_1) [.int .u8 (bt a0 x4_1)] (fun _ => True) (fun _ => False) rfl rfl ?aP (fun _ hk => hk.elim) ?aF ?aO ?aB ?aS ?aL ?_; (case aP => exact rfl); (case aB => exact HB.out); (case aF => exact (fun _ _ => trivial)); (case aO => exact (by ((exact HO_3.out)))); (case aS => exact (ay HB.out)); (case aL => have := LMc7.out; omega); intro v263 w10 ho hb hg hat; rw [← Ny259.out] at ho; have n0_ := aj.mk (hb); have n1_ := aj.mk (ho); clear HB; clear HO_3; have HB := n0_; have HO261 := n1_; clear n0_ n1_; clear ho hb hg hat)))
     rotate_left
     focus
      go_wp2_with ((((with_reducible refine eO (b := .append) (xs := #[.tmp 23, .tmp 25]) rfl ?_); at_builtin; refine Kd.iL (Kd.int .u8) (w0 := w) w.heap.size rfl (.tmp 23) (.tmp 25) 101 5 (.int .u8 0) 1 rfl Tryz.underlying101 info5 rfl (by decide) (by omega) u3 x3_1 (bt a0 x4_1) [.int .u8 (bt a0 x4_1)] (fun _ => True) (fun _ => False) rfl rfl ?aP (fun _ hk => hk.elim) ?aF ?aO ?aB ?aS ?aL ?_; (case aP => exact rfl); (case aB => exact HB.out); (case aF => exact (fun _ _ => trivial)); (case aO => exact (by ((exact HO_3.out)))); (case aS => exact (ay HB.out)); (case aL => have := LMc7.out; omega); intro v266 w12 ho hb hg hat; rw [← Ny259.out] at ho; have n0_ := aj.mk (hb); have n1_ := aj.mk (ho); clear HB; clear HO_3; have HB := n0_; have HO261 := n1_; clear n0_ n1_; clear ho hb hg hat)))
     rotate_left
     all_goals
      go_roundg k1
      case measure => have := HK1.out; omega
      case rel => exact ⟨(y259), (wrap64 (x4_1 + 1)), (by rfl), H', ⟨by have := HK1.out; omega⟩, ⟨by (with_reducible repeat ((apply Kd.aN))); exact HO261.out⟩, ⟨HB.out⟩⟩
    ·rw [if_neg c2] at H
     have c2b0 : decide (x4_1 < (a0.size : Int)) = false := decide_eq_false c2
     clear c2
     obtain rfl := Option.some.inj H
     have hcv13 := nV (P := Tryz.prog) Tryz.underlying101 Tryz.underlying5 Tryz.underlying9 (Kd.lK HO_3.out)
     go_wp2
     go_ret
     exact ⟨by rfl, HB.out⟩
def aJ.l0 : Nat → List ByteArray → ByteArray → Int → Option (ByteArray)
 | 0, _, _, _ => none
 | k + 1, x3, x5, x6 => if x6 < (x3.length : Int) then (if 0 ≤ x6 then ((some (([(((bH ByteArray.empty x3 x6).size : Int)) % 256] : List Int) : List Int)).bind fun y273 => ((bO.f k (bH ByteArray.empty x3 x6)).bind fun t277 => (if (strOfNums y273).size + t277.size ≤ 9223372036854775807 then (if x5.size + ((strOfNums y273) ++ t277).size ≤ 9223372036854775807 then (aJ.l0 k x3 (x5 ++ ((strOfNums y273) ++ t277)) (wrap64 (x6 + 1))) else (none)) else (none)))) else (none)) else (if x5.size + 1 ≤ 9223372036854775807 then (some (x5 ++ (⟨#[0]⟩ : ByteArray))) else (none))
def aJ.f (k : Nat) (a0 : ByteArray) : Option (ByteArray) := (aH.f k a0).bind fun bt268 => (if bt268.2 = true then (aJ.l0 k bt268.1 (⟨#[]⟩ : ByteArray) 0) else (some (⟨#[]⟩ : ByteArray)))
def aJ.T8 : Bool × List (List Nat × List Nat) := (true, [([], []), ([], []), ([], []), ([1, 2], [1, 2]), ([3], [3]), ([4], [4]), ([5], [5]), ([6], [6]), ([7], [7]), ([], []), ([], []), ([9, 10], [9, 10]), ([11], [11]), ([12], [12]), ([8, 13], [8, 13]), ([0, 14], [0, 14]), ([15, 13, 0, 1, 2, 3, 4, 5, 6, 7, 8, 9, 10, 11, 12, 13, 14, 15], [0, 15])])
def aJ.B8 : List Nat := [0, 0, 0, 6, 14, 30, 62, 126, 254, 0, 0, 1536, 3584, 7680, 16382, 32767, 65535]
theorem aJ.KW : gF .any (opsOf Tryz.f66 8) = aJ.T8 := by kernel_rfl
theorem aJ.KP : iO aJ.T8.2 aJ.B8 = true := by kernel_rfl
theorem aJ.calls (k : Nat) (a0 : ByteArray) (r : ByteArray) (w : World) (h : aJ.f k a0 = some r) :
    Calls Tryz.prog 66 #[.string a0] w fun e w' => e = .returned (.string r) ∧ Below w.heap.size w w' := by
  have HB := aj.mk (Below.refl w.heap.size w)
  have H : ((aH.f k a0).bind fun bt268 => (if bt268.2 = true then (aJ.l0 k bt268.1 (⟨#[]⟩ : ByteArray) 0) else (some (⟨#[]⟩ : ByteArray)))) = some r := h
  clear h
  replace H := Option.bind_eq_some_iff.mp H
  obtain ⟨⟨t268, t269⟩, A20, H⟩ := H
  replace H : (if t269 = true then (aJ.l0 k t268 (⟨#[]⟩ : ByteArray) 0) else (some (⟨#[]⟩ : ByteArray))) = some r := H
  have A2 := aj.mk A20
  clear A20
  by_cases c3 : t269 = true
  focus
   subst c3
   rw [if_pos rfl] at H
   have H' := aj.mk H
   clear H
  rotate_left
  focus
   replace c3 := Bool.eq_false_iff.mpr c3
   subst c3
   rw [if_neg ff_] at H
   obtain rfl := Option.some.inj H
  rotate_left
  all_goals
   go_enter Tryz.func66, Tryz.ntmps66
   go_wp2_with (((refine gl_ (some 9) Tryz.func67 #[.string a0] ?_; (with_reducible refine (aH.calls k a0 t268 _ _ A2.out).mono ?_); rintro e w4 ⟨v270, rfl, ho0, hb⟩; refine ⟨_, rfl, ?_⟩; have HO271 := aj.mk (Kd.bS ho0 (ay HB.out)); replace HB := aj.mk (au HB.out hb); (try clear hb); (try clear ho0))))
  ·go_loopg [5, 6] k (fun kq v5 v6 w' => ∃ (x5_1 : ByteArray) (x6_1 : Int), v5 = .string x5_1 ∧ v6 = .int .i64 x6_1 ∧ aj (aJ.l0 kq t268 x5_1 x6_1 = some r) ∧ aj (kq ≤ k) ∧ aj (Kd.R Kd.string 9 w' w.heap.size (fun _ => True) v270 t268) ∧ aj (Below w.heap.size w w'))
   case atStart => exact ⟨((⟨#[]⟩ : ByteArray)), (0), (by rfl), (by rfl), H', ⟨Nat.le_refl _⟩, ⟨by (with_reducible repeat ((apply Kd.aN))); exact HO271.out⟩, ⟨HB.out⟩⟩
   case round =>
    clear H'
    obtain ⟨x5_1, x6_1, rfl, rfl, HA, HK1, HO_3, HB⟩ := hrel
    cases gk with
    | zero => exact absurd HA.out (by simp [aJ.l0])
    | succ k1 =>
     have H := HA.out
     clear HA
     simp only [aJ.l0] at H
     by_cases c5 : x6_1 < (t268.length : Int)
     focus
      rw [if_pos c5] at H
      have c5b0 : decide (x6_1 < (t268.length : Int)) = true := decide_eq_true c5
      clear c5
      obtain ⟨c6b0, H⟩ := dX H
      obtain ⟨y273, hy273⟩ : ∃ y_ : List Int, y_ = (([(((bH ByteArray.empty t268 x6_1).size : Int)) % 256] : List Int)) := ⟨_, rfl⟩
      replace H : ((bO.f k1 (bH ByteArray.empty t268 x6_1)).bind fun t277 => (if (strOfNums y273).size + t277.size ≤ 9223372036854775807 then (if x5_1.size + ((strOfNums y273) ++ t277).size ≤ 9223372036854775807 then (aJ.l0 k1 t268 (x5_1 ++ ((strOfNums y273) ++ t277)) (wrap64 (x6_1 + 1))) else (none)) else (none))) = some r := by (have H2_ := (Option.bind_some _ _).symm.trans H; rw [hy273]; with_reducible exact H2_)
      have Ny273 := aj.mk hy273
      clear hy273
      obtain ⟨t277, A7, H⟩ := cu H
      obtain ⟨c8, H⟩ := gd_ H
      have c8b0 := eq_true c8
      have c8b1 : decide ((strOfNums y273).size + t277.size ≤ 9223372036854775807) = true := decide_eq_true c8
      (try have c8b2 : (9223372036854775807 < (strOfNums y273).size + t277.size) = False := eq_false (Nat.not_lt.2 c8))
      obtain ⟨c9, H⟩ := gd_ H
      have c9b0 := eq_true c9
      have c9b1 : decide (x5_1.size + ((strOfNums y273) ++ t277).size ≤ 9223372036854775807) = true := decide_eq_true c9
      (try have c9b2 : (9223372036854775807 < x5_1.size + ((strOfNums y273) ++ t277).size) = False := eq_false (Nat.not_lt.2 c9))
      (try have c9b3 := c9b2)
      (try simp only [ByteArray.size_append] at c9b3)
      have H' := aj.mk H
      clear H
     rotate_left
     focus
      rw [if_neg c5] at H
      have c5b0 : decide (x6_1 < (t268.length : Int)) = false := decide_eq_false c5
      clear c5
      obtain ⟨c17, H⟩ := gd_ H
      have c17b0 := eq_true c17
      have c17b1 : decide (x5_1.size + 1 ≤ 9223372036854775807) = true := decide_eq_true c17
      (try have c17b2 : (9223372036854775807 < x5_1.size + 1) = False := eq_false (Nat.not_lt.2 c17))
      obtain rfl := Option.some.inj H
     rotate_left
     all_goals
      obtain ⟨Ao10, co10, eo10⟩ := Kd.cO HO_3.out
      subst eo10
     ·try go_wp2
      replace HO_3 := aj.mk (Kd.iF HO_3.out)
      replace HB := aj.mk (dz HB.out)
      have p272 : 0 ≤ (x6_1 : Int) := of_decide_eq_true (by assumption)
      have q272 : x6_1 < (t268.length : Int) := of_decide_eq_true (by assumption)
      obtain ⟨ad272, e272, hx272_0⟩ := Kd.fZ (Kd.aX HO_3.out).2.2 x6_1 p272 q272
      cases e272
      replace p272 := eq_true p272
      replace q272 := eq_true q272
      have p276 : 0 ≤ (x6_1 : Int) := of_decide_eq_true (by assumption)
      have q276 : x6_1 < (t268.length : Int) := of_decide_eq_true (by assumption)
      obtain ⟨ad276, e276, hx276_0⟩ := Kd.fZ (Kd.aX HO_3.out).2.2 x6_1 p276 q276
      obtain rfl : ad272 = ad276 := (by injection e276)
      replace p276 := eq_true p276
      replace q276 := eq_true q276
      refine iH (n := 17) (S := fun w' => w'.cell? (ad272.add (x6_1).toNat) = some (.string (bH ByteArray.empty t268 x6_1)) ∧ w'.cell? (ad272.add (x6_1).toNat) = some (.string (bH ByteArray.empty t268 x6_1))) (ds := []) (ls 17 0) (by kernel_rfl) rfl rfl ⟨hx272_0, hx276_0⟩ (fun hHeld => ?_); refine fF aJ.KW aJ.KP (fun HT_ HW_ => ?_)
      generalize wr.drew = w11 at HO_3 HB hx272_0 hx276_0 hHeld ⊢
      refine td_ [(0, 20), (1, 21), (2, 22), (3, 23), (9, 29), (10, 30), (11, 31)] ?_
      iterate 7 (refine pm_ HT_ ?_)
      refine dn_ ?_
      refine td_ [(4, 24)] ?_
      refine tm_ HT_ HW_ hHeld ?_
      refine dn_ ?_
      refine td_ [(5, 25), (6, 26)] ?_
      iterate 2 (refine pm_ HT_ ?_)
      refine dn_ ?_
      refine td_ [(12, 32)] ?_
      refine tm_ HT_ HW_ hHeld ?_
      refine dn_ ?_
      refine Ir (σ := Value) 3 (ls 17 16383) (fun s_ => [(27, s_), (28, .string (strOfNums y273)), (33, .string t277)]) (fun s_ w' => (w'.cell? (ad272.add (x6_1).toNat) = some (.string (bH ByteArray.empty t268 x6_1)) ∧ w'.cell? (ad272.add (x6_1).toNat) = some (.string (bH ByteArray.empty t268 x6_1))) ∧ (Kd.R (Kd.int .u8) 5 w' w.heap.size (fun _ => True) s_ y273) ∧ (Kd.R Kd.string 9 w' w.heap.size (fun _ => True) (.slice (some ad272) t268.length co10) t268) ∧ (Below w.heap.size w w')) ?_ ?_
      rotate_left
      ·intro hCont
       refine Ht (i := 7) (j := 13) (Ni := some 27) (Nj := some 33) (ls 17 7935) (ls 17 15999) rfl rfl rfl rfl (Ec HT_.out (by kernel_rfl)) (by decide) (by decide) (fun K hK => ?_) (fun K hK => ?_)
       ·skip
        refine Kd.qA (Kd.int .u8) _ 5 ?hg (N := 27) ?hd (xs := ([(((bH ByteArray.empty t268 x6_1).size : Int)) % 256] : List Int)) (inner := [.int .u8 ((((bH ByteArray.empty t268 x6_1).size : Int)) % 256)]) (ok := fun _ => True) (okp := fun _ => True) ?hr ?hp (fun _ hk => hk) trivial (Below.refl _ _) (Nat.le_refl _) (by simp) ?_; (case hd => rfl); (case hg => rfl); (case hr => (go_simp; rfl)); (case hp => exact (bF.one (show Kd.M (Kd.int .u8) _ _ _ ((((bH ByteArray.empty t268 x6_1).size : Int)) % 256) [.int .u8 ((((bH ByteArray.empty t268 x6_1).size : Int)) % 256)] from rfl) (bF.none _ _)))
        intro v274 w12 ho13 hb hg_ hnew_
        have HS0_ := kp_ hb hHeld.1
        have HS1_ := kp_ hb hHeld.2
        clear hg_ hnew_
        ((rw [← Ny273.out] at ho13))
        have HO275 := aj.mk (Kd.bS ho13 (ay HB.out))
        replace HO_3 := aj.mk (Kd.bD (by ((exact HO_3.out))) hb)
        replace HB := aj.mk (au HB.out hb)
        clear hb ho13
        refine hK.out _ _ ⟨HS0_, HS1_⟩ (fun hHeld => ?_)
        clear hK K
        refine nm_ (N := (some 27)) ?_
        refine Ht (i := 8) (j := 13) (Ni := some 28) (Nj := some 33) (ls 17 8191) (ls 17 16127) rfl rfl rfl rfl (Ec HT_.out (by kernel_rfl)) (by decide) (by decide) (fun K hK => ?_) (fun K hK => ?_)
        ·skip
         have hcv14 := nV (P := Tryz.prog) Tryz.underlying101 Tryz.underlying5 Tryz.underlying9 (Kd.lK HO275.out)
         refine zV (w1 := ?_) (v := ?_) (by rfl) rfl ?_ ?_
         rotate_left 2
         ·go_simp
          constructor
          ·rfl
          ·rfl
         clear hcv14
         refine hK.out _ _ ⟨hHeld.1, hHeld.2⟩ (fun hHeld => ?_)
         clear hK K
         refine nm_ (N := (some 28)) ?_
         refine jR HT_ (i := 13) (N := some 33) (ls 17 16383) (fun K hK => ?_)
         refine gs_ Tryz.func104 #[.string (bH ByteArray.empty t268 x6_1)] ?_
         with_reducible refine (bO.calls k1 (bH ByteArray.empty t268 x6_1) t277 _ A7.out).mono ?_
         rintro e w15 ⟨rfl, hb⟩
         have HS0_ := kp_ hb hHeld.1
         have HS1_ := kp_ hb hHeld.2
         refine ⟨_, rfl, ?_⟩
         replace HO_3 := aj.mk (Kd.bD (by ((exact HO_3.out))) hb)
         replace HO275 := aj.mk (Kd.bD (by ((exact HO275.out))) hb)
         replace HB := aj.mk (au HB.out hb)
         (try clear hb)
         refine hK.out _ _ ⟨HS0_, HS1_⟩ (fun hHeld => ?_)
         clear hK K
         refine nm_ (N := (some 33)) ?_
         exact lC (by simp only [lF, Act.put, List.setIfInBounds_toArray, List.set_cons_zero, List.set_cons_succ]) (hCont (v274) _ ⟨hHeld, (by ((exact HO275.out))), (by ((exact HO_3.out))), HB.out⟩)
        ·skip
         refine gs_ Tryz.func104 #[.string (bH ByteArray.empty t268 x6_1)] ?_
         with_reducible refine (bO.calls k1 (bH ByteArray.empty t268 x6_1) t277 _ A7.out).mono ?_
         rintro e w14 ⟨rfl, hb⟩
         have HS0_ := kp_ hb hHeld.1
         have HS1_ := kp_ hb hHeld.2
         refine ⟨_, rfl, ?_⟩
         replace HO_3 := aj.mk (Kd.bD (by ((exact HO_3.out))) hb)
         replace HO275 := aj.mk (Kd.bD (by ((exact HO275.out))) hb)
         replace HB := aj.mk (au HB.out hb)
         (try clear hb)
         refine hK.out _ _ ⟨HS0_, HS1_⟩ (fun hHeld => ?_)
         clear hK K
         refine nm_ (N := (some 33)) ?_
         refine jR HT_ (i := 8) (N := some 28) (ls 17 16383) (fun K hK => ?_)
         have hcv15 := nV (P := Tryz.prog) Tryz.underlying101 Tryz.underlying5 Tryz.underlying9 (Kd.lK HO275.out)
         refine zV (w1 := ?_) (v := ?_) (by rfl) rfl ?_ ?_
         rotate_left 2
         ·go_simp
          constructor
          ·rfl
          ·rfl
         clear hcv15
         refine hK.out _ _ ⟨hHeld.1, hHeld.2⟩ (fun hHeld => ?_)
         clear hK K
         refine nm_ (N := (some 28)) ?_
         exact lC (by simp only [lF, Act.put, List.setIfInBounds_toArray, List.set_cons_zero, List.set_cons_succ]) (hCont (v274) _ ⟨hHeld, (by ((exact HO275.out))), (by ((exact HO_3.out))), HB.out⟩)
       ·skip
        refine gs_ Tryz.func104 #[.string (bH ByteArray.empty t268 x6_1)] ?_
        with_reducible refine (bO.calls k1 (bH ByteArray.empty t268 x6_1) t277 _ A7.out).mono ?_
        rintro e w12 ⟨rfl, hb⟩
        have HS0_ := kp_ hb hHeld.1
        have HS1_ := kp_ hb hHeld.2
        refine ⟨_, rfl, ?_⟩
        replace HO_3 := aj.mk (Kd.bD (by ((exact HO_3.out))) hb)
        replace HB := aj.mk (au HB.out hb)
        (try clear hb)
        refine hK.out _ _ ⟨HS0_, HS1_⟩ (fun hHeld => ?_)
        clear hK K
        refine nm_ (N := (some 33)) ?_
        refine jR HT_ (i := 7) (N := some 27) (ls 17 16127) (fun K hK => ?_)
        refine Kd.qA (Kd.int .u8) _ 5 ?hg (N := 27) ?hd (xs := ([(((bH ByteArray.empty t268 x6_1).size : Int)) % 256] : List Int)) (inner := [.int .u8 ((((bH ByteArray.empty t268 x6_1).size : Int)) % 256)]) (ok := fun _ => True) (okp := fun _ => True) ?hr ?hp (fun _ hk => hk) trivial (Below.refl _ _) (Nat.le_refl _) (by simp) ?_; (case hd => rfl); (case hg => rfl); (case hr => (go_simp; rfl)); (case hp => exact (bF.one (show Kd.M (Kd.int .u8) _ _ _ ((((bH ByteArray.empty t268 x6_1).size : Int)) % 256) [.int .u8 ((((bH ByteArray.empty t268 x6_1).size : Int)) % 256)] from rfl) (bF.none _ _)))
        intro v274 w13 ho14 hb hg_ hnew_
        have HS0_ := kp_ hb hHeld.1
        have HS1_ := kp_ hb hHeld.2
        clear hg_ hnew_
        ((rw [← Ny273.out] at ho14))
        have HO275 := aj.mk (Kd.bS ho14 (ay HB.out))
        replace HO_3 := aj.mk (Kd.bD (by ((exact HO_3.out))) hb)
        replace HB := aj.mk (au HB.out hb)
        clear hb ho14
        refine hK.out _ _ ⟨HS0_, HS1_⟩ (fun hHeld => ?_)
        clear hK K
        refine nm_ (N := (some 27)) ?_
        refine jR HT_ (i := 8) (N := some 28) (ls 17 16383) (fun K hK => ?_)
        have hcv15 := nV (P := Tryz.prog) Tryz.underlying101 Tryz.underlying5 Tryz.underlying9 (Kd.lK HO275.out)
        refine zV (w1 := ?_) (v := ?_) (by rfl) rfl ?_ ?_
        rotate_left 2
        ·go_simp
         constructor
         ·rfl
         ·rfl
        clear hcv15
        refine hK.out _ _ ⟨hHeld.1, hHeld.2⟩ (fun hHeld => ?_)
        clear hK K
        refine nm_ (N := (some 28)) ?_
        exact lC (by simp only [lF, Act.put, List.setIfInBounds_toArray, List.set_cons_zero, List.set_cons_succ]) (hCont (v274) _ ⟨hHeld, (by ((exact HO275.out))), (by ((exact HO_3.out))), HB.out⟩)
      rintro v274 w16 ⟨hS_, h0_, h1_, h2_⟩
      have n0_ : aj (Kd.R (Kd.int .u8) 5 w16 w.heap.size (fun _ => True) v274 y273) := ⟨h0_⟩
      have n1_ : aj (Kd.R Kd.string 9 w16 w.heap.size (fun _ => True) (.slice (some ad272) t268.length co10) t268) := ⟨h1_⟩
      have n2_ : aj (Below w.heap.size w w16) := ⟨h2_⟩
      clear HO_3
      clear HB
      clear h0_ h1_ h2_
      have HO275 := n0_
      have HO_3 := n1_
      have HB := n2_
      clear n0_ n1_ n2_
      have hHeld : w16.cell? (ad272.add (x6_1).toNat) = some (.string (bH ByteArray.empty t268 x6_1)) ∧ w16.cell? (ad272.add (x6_1).toNat) = some (.string (bH ByteArray.empty t268 x6_1)) := hS_
      refine lC (a' := ?_) ?_ ?_
      rotate_left
      ·simp only [lF, Act.put, List.setIfInBounds_toArray, List.set_cons_zero, List.set_cons_succ]
       rfl
      refine td_ [(14, 34), (15, 35), (16, 5)] ?_
      iterate 3 (refine pm_ HT_ ?_)
      refine dn_ ?_
      refine mJ (kY HT_.out (by kernel_rfl)) ?_
      (try go_wp2)
      go_roundg k1
      case measure => have := HK1.out; omega
      case rel => exact ⟨(x5_1 ++ ((strOfNums y273) ++ t277)), (wrap64 (x6_1 + 1)), (by rfl), (by rfl), H', ⟨by have := HK1.out; omega⟩, ⟨by (with_reducible repeat ((apply Kd.aN))); exact HO_3.out⟩, ⟨HB.out⟩⟩
     ·go_wp2
      go_ret
      exact ⟨by rfl, HB.out⟩
  ·go_ret
   exact ⟨by rfl, HB.out⟩
end Go.Y.PRd
namespace Go.Y.PRd
open Go.Proofs.ah.av Go.Proofs.ah.aT Go.Proofs.ah.aU Go.Y.Given
attribute [local go_sem] dB dD dQ dP cK cB dA dF
def gQ.l0 : Nat → List ByteArray → ByteArray → ByteArray → Int → Option (ByteArray)
 | 0, _, _, _, _ => none
 | k + 1, x5, x7, x8, x9 => if x9 < (x5.length : Int) then (if 0 ≤ x9 then (if x9 < (x7.size : Int) then (if (bt x7 x9) = 110 then ((aJ.f k (bH ByteArray.empty x5 x9)).bind fun t285 => (if x8.size + t285.size ≤ 9223372036854775807 then (gQ.l0 k x5 x7 (x8 ++ t285) (wrap64 (x9 + 1))) else (none))) else (if (bt x7 x9) = 117 then ((aJ.f k (bH ByteArray.empty x5 x9)).bind fun t287 => (if x8.size + t287.size ≤ 9223372036854775807 then (gQ.l0 k x5 x7 (x8 ++ t287) (wrap64 (x9 + 1))) else (none))) else (if x8.size + (bH ByteArray.empty x5 x9).size ≤ 9223372036854775807 then (gQ.l0 k x5 x7 (x8 ++ (bH ByteArray.empty x5 x9)) (wrap64 (x9 + 1))) else (none)))) else (none)) else (none)) else (some x8)
end Go.Y.PRd
namespace Go.Y.PRd
open Go.Proofs.ah.av Go.Proofs.ah.aT Go.Proofs.ah.aU Go.Y.Given
attribute [local go_sem] dB dD dQ dP cK cB dA dF
mutual
def aM.j0 : Nat → List ByteArray → List ByteArray → Bool → Option (Int)
 | 0, _, _, _ => none
 | k + 1, x5, x7, x29 => if x29 = true then (some 0) else (aM.l0 k x5 x7 1)
def aM.l0 : Nat → List ByteArray → List ByteArray → Int → Option (Int)
 | 0, _, _, _ => none
 | k + 1, x5, x7, x9 => if x9 ≤ (x5.length : Int) then (aM.j2 k x5 x7 x9 (decide (x9 ≤ (x7.length : Int)))) else (aM.j2 k x5 x7 x9 false)
def aM.j2 : Nat → List ByteArray → List ByteArray → Int → Bool → Option (Int)
 | 0, _, _, _, _ => none
 | k + 1, x5, x7, x9, x39 => if x39 = true then (if 0 ≤ (wrap64 ((x5.length : Int) - x9)) then (if (wrap64 ((x5.length : Int) - x9)) < (x5.length : Int) then (if 0 ≤ (wrap64 ((x7.length : Int) - x9)) then (if (wrap64 ((x7.length : Int) - x9)) < (x7.length : Int) then (if (Op.bytesLess ((bH ByteArray.empty x5 (wrap64 ((x5.length : Int) - x9))).toList) ((bH ByteArray.empty x7 (wrap64 ((x7.length : Int) - x9))).toList)) = true then (some (-1)) else (if (Op.bytesLess ((bH ByteArray.empty x7 (wrap64 ((x7.length : Int) - x9))).toList) ((bH ByteArray.empty x5 (wrap64 ((x5.length : Int) - x9))).toList)) = true then (some 1) else (aM.l0 k x5 x7 (wrap64 (x9 + 1))))) else (none)) else (none)) else (none)) else (none)) else (if (x5.length : Int) < (x7.length : Int) then (some (-1)) else (if (x5.length : Int) > (x7.length : Int) then (some 1) else (some 0)))
end
def aM.f (k : Nat) (a0 : ByteArray) (a1 : ByteArray) : Option (Int) := (aJ.f k a0).bind fun t317 => ((aH.f k t317).bind fun bt318 => ((aJ.f k a1).bind fun t322 => ((aH.f k t322).bind fun bt323 => (if bt318.2 = true then (aM.j0 k bt318.1 bt323.1 (!bt323.2)) else (aM.j0 k bt318.1 bt323.1 true)))))
theorem aM.calls (k : Nat) (a0 : ByteArray) (a1 : ByteArray) (r : Int) (w : World) (h : aM.f k a0 a1 = some r) :
    Calls Tryz.prog 29 #[.string a0, .string a1] w fun e w' => e = .returned (.int .i64 r) ∧ Below w.heap.size w w' := by
  have HB := aj.mk (Below.refl w.heap.size w)
  have H : ((aJ.f k a0).bind fun t317 => ((aH.f k t317).bind fun bt318 => ((aJ.f k a1).bind fun t322 => ((aH.f k t322).bind fun bt323 => (if bt318.2 = true then (aM.j0 k bt318.1 bt323.1 (!bt323.2)) else (aM.j0 k bt318.1 bt323.1 true)))))) = some r := h
  clear h
  obtain ⟨t317, A3, H⟩ := cu H
  replace H := Option.bind_eq_some_iff.mp H
  obtain ⟨⟨t318, t319⟩, A40, H⟩ := H
  replace H : ((aJ.f k a1).bind fun t322 => ((aH.f k t322).bind fun bt323 => (if t319 = true then (aM.j0 k t318 bt323.1 (!bt323.2)) else (aM.j0 k t318 bt323.1 true)))) = some r := H
  have A4 := aj.mk A40
  clear A40
  obtain ⟨t322, A5, H⟩ := cu H
  replace H := Option.bind_eq_some_iff.mp H
  obtain ⟨⟨t323, t324⟩, A60, H⟩ := H
  replace H : (if t319 = true then (aM.j0 k t318 t323 (!t324)) else (aM.j0 k t318 t323 true)) = some r := H
  have A6 := aj.mk A60
  clear A60
  have HC7 := aj.mk H
  clear H
  go_enter Tryz.func29, Tryz.ntmps29
  go_upto_region 3 with (first | (go_at_call 66; (with_reducible refine (aJ.calls k a0 t317 _ A3.out).mono ?_); rintro e w8 ⟨rfl, hb⟩; replace HB := aj.mk (au HB.out hb); (try clear hb)) | (go_at_call 67; (with_reducible refine (aH.calls k t317 t318 t319 _ A4.out).mono ?_); rintro e w9 ⟨v320, rfl, ho0, hb⟩; have HO321 := aj.mk (Kd.bS ho0 (ay HB.out)); replace HB := aj.mk (au HB.out hb); (try clear hb); (try clear ho0)) | (go_at_call 66; (with_reducible refine (aJ.calls k a1 t322 _ A5.out).mono ?_); rintro e w10 ⟨rfl, hb⟩; replace HO321 := aj.mk (Kd.bD (by ((exact HO321.out))) hb); replace HB := aj.mk (au HB.out hb); (try clear hb)) | (go_at_call 67; (with_reducible refine (aH.calls k t322 t323 t324 _ A6.out).mono ?_); rintro e w11 ⟨v325, rfl, ho0, hb⟩; have HO326 := aj.mk (Kd.bS (Kd.iU ho0 (Kd.jS (by ((exact HO321.out))))) (ay HB.out)); replace HO321 := aj.mk (Kd.gK (by ((exact HO321.out))) (Kd.iV ho0) hb); replace HB := aj.mk (au HB.out hb); (try clear hb); (try clear ho0)))
  repeat (go_quiet (((go_at_call 66; (with_reducible refine (aJ.calls k a0 t317 _ A3.out).mono ?_); rintro e w8 ⟨rfl, hb⟩; replace HB := aj.mk (au HB.out hb)))); go_upto_region 3 with (((go_at_call 66; (with_reducible refine (aJ.calls k a0 t317 _ A3.out).mono ?_); rintro e w8 ⟨rfl, hb⟩; replace HB := aj.mk (au HB.out hb)))))
  go_cut [29] (fun v29 wc => ∃ (kq : Nat) (x29_6 : Bool), v29 = .bool x29_6 ∧ aj (aM.j0 kq t318 t323 x29_6 = some r) ∧ aj (kq ≤ k) ∧ aj (Kd.R Kd.string 9 wc w.heap.size (fun k_ => some k_ ≠ (v325 : Value).ownBlock) v320 t318) ∧ aj (Kd.R Kd.string 9 wc w.heap.size (fun k_ => some k_ ≠ (v320 : Value).ownBlock) v325 t323) ∧ aj (Below w.heap.size w wc))
  case first =>
   have H := HC7.out
   clear HC7
   by_cases c12 : t319 = true
   focus
    subst c12
    rw [if_pos rfl] at H
   rotate_left
   focus
    replace c12 := Bool.eq_false_iff.mpr c12
    subst c12
    rw [if_neg ff_] at H
   rotate_left
   all_goals
    have H' := aj.mk H
    clear H
    go_wp2
    repeat (go_quiet (fail); try go_wp2)
    go_meet
   ·case rel => exact ⟨_, (!t324), (by rfl), H', ⟨by omega⟩, ⟨by (with_reducible repeat ((apply Kd.aN))); exact Kd.dn HO321.out (fun _ hk => hk.2)⟩, ⟨by (with_reducible repeat ((apply Kd.aN))); exact Kd.dn HO326.out (fun _ hk => hk.2)⟩, ⟨HB.out⟩⟩
   ·case rel => exact ⟨_, (true), (by rfl), H', ⟨by omega⟩, ⟨by (with_reducible repeat ((apply Kd.aN))); exact Kd.dn HO321.out (fun _ hk => hk.2)⟩, ⟨by (with_reducible repeat ((apply Kd.aN))); exact Kd.dn HO326.out (fun _ hk => hk.2)⟩, ⟨HB.out⟩⟩
  case rest =>
   clear HC7
   obtain ⟨kq, x29_6, rfl, HA, HJ6, HO_5, HO_7, HB⟩ := hcut
   cases kq with
   | zero => exact absurd HA.out (by simp [aM.j0])
   | succ kj6 =>
    have H := HA.out
    clear HA
    simp only [aM.j0] at H
    by_cases c13 : x29_6 = true
    ·subst c13
     rw [if_pos rfl] at H
     obtain rfl := Option.some.inj H
     go_wp2
     repeat (go_quiet (fail); try go_wp2)
     go_ret
     exact ⟨by rfl, HB.out⟩
    ·replace c13 := Bool.eq_false_iff.mpr c13
     subst c13
     rw [if_neg ff_] at H
     have H' := aj.mk H
     clear H
     go_wp2
     repeat (go_quiet (fail); try go_wp2)
     go_loopg [9] kj6 (fun kq v9 w' => ∃ (x9_2 : Int), v9 = .int .i64 x9_2 ∧ aj (aM.l0 kq t318 t323 x9_2 = some r) ∧ aj (kq ≤ kj6) ∧ aj (Kd.R Kd.string 9 w' w.heap.size (fun k_ => some k_ ≠ (v325 : Value).ownBlock) v320 t318) ∧ aj (Kd.R Kd.string 9 w' w.heap.size (fun k_ => some k_ ≠ (v320 : Value).ownBlock) v325 t323) ∧ aj (Below w.heap.size w w'))
     case atStart => exact ⟨(1), (by rfl), H', ⟨Nat.le_refl _⟩, ⟨by (with_reducible repeat ((apply Kd.aN))); exact HO_5.out⟩, ⟨by (with_reducible repeat ((apply Kd.aN))); exact HO_7.out⟩, ⟨HB.out⟩⟩
     case round =>
      clear H'
      obtain ⟨x9_2, rfl, HA, HK2, HO_5, HO_7, HB⟩ := hrel
      cases gk with
      | zero => exact absurd HA.out (by simp [aM.l0])
      | succ k2 =>
       have H := HA.out
       clear HA
       simp only [aM.l0] at H
       have HC14 := aj.mk H
       clear H
       go_upto_region 6 with (fail)
       repeat (go_quiet (fail); go_upto_region 6 with (fail))
       go_cut [39] (fun v39 wc => ∃ (kq : Nat) (x39_13 : Bool), v39 = .bool x39_13 ∧ aj (aM.j2 kq t318 t323 x9_2 x39_13 = some r) ∧ aj (kq ≤ k2) ∧ aj (Kd.R Kd.string 9 wc w.heap.size (fun k_ => some k_ ≠ (v325 : Value).ownBlock) v320 t318) ∧ aj (Kd.R Kd.string 9 wc w.heap.size (fun k_ => some k_ ≠ (v320 : Value).ownBlock) v325 t323) ∧ aj (Below w.heap.size w wc))
       case first =>
        have H := HC14.out
        clear HC14
        by_cases c15 : x9_2 ≤ (t318.length : Int)
        focus
         rw [if_pos c15] at H
         have c15b0 : decide (x9_2 ≤ (t318.length : Int)) = true := decide_eq_true c15
        rotate_left
        focus
         rw [if_neg c15] at H
         have c15b0 : decide (x9_2 ≤ (t318.length : Int)) = false := decide_eq_false c15
        rotate_left
        all_goals
         clear c15
         (skip)
         have H' := aj.mk H
         clear H
         obtain ⟨Ao16, co16, eo16⟩ := Kd.cO HO_5.out
         subst eo16
        ·obtain ⟨Ao17, co17, eo17⟩ := Kd.cO HO_7.out
         subst eo17
         go_wp2
         repeat (go_quiet (fail); try go_wp2)
         go_meet
         case rel => exact ⟨_, (decide (x9_2 ≤ (t323.length : Int))), (by rfl), H', ⟨by have := HJ6.out; have := HK2.out; omega⟩, ⟨by (with_reducible repeat ((apply Kd.aN))); exact HO_5.out⟩, ⟨by (with_reducible repeat ((apply Kd.aN))); exact HO_7.out⟩, ⟨HB.out⟩⟩
        ·go_wp2
         repeat (go_quiet (fail); try go_wp2)
         go_meet
         case rel => exact ⟨_, (false), (by rfl), H', ⟨by have := HJ6.out; have := HK2.out; omega⟩, ⟨by (with_reducible repeat ((apply Kd.aN))); exact HO_5.out⟩, ⟨by (with_reducible repeat ((apply Kd.aN))); exact HO_7.out⟩, ⟨HB.out⟩⟩
       case rest =>
        clear HC14
        obtain ⟨kq, x39_13, rfl, HA, HJ13, HO_5, HO_7, HB⟩ := hcut
        cases kq with
        | zero => exact absurd HA.out (by simp [aM.j2])
        | succ kj13 =>
         have H := HA.out
         clear HA
         simp only [aM.j2] at H
         by_cases c19 : x39_13 = true
         ·subst c19
          rw [if_pos rfl] at H
          obtain ⟨ji20, hji20⟩ : ∃ j_ : Int, (wrap64 ((t318.length : Int) - x9_2)) = j_ := ⟨_, rfl⟩
          rw [hji20] at H
          have hji20w : (IntKind.i64.wrap ((t318.length : Int) - x9_2)) = ji20 := (dU _).trans hji20
          obtain ⟨c21b0, H⟩ := dX H
          obtain ⟨c22b0, H⟩ := dX H
          obtain ⟨ji23, hji23⟩ : ∃ j_ : Int, (wrap64 ((t323.length : Int) - x9_2)) = j_ := ⟨_, rfl⟩
          rw [hji23] at H
          have hji23w : (IntKind.i64.wrap ((t323.length : Int) - x9_2)) = ji23 := (dU _).trans hji23
          obtain ⟨c24b0, H⟩ := dX H
          obtain ⟨c25b0, H⟩ := dX H
          by_cases c26 : (Op.bytesLess ((bH ByteArray.empty t318 (ji20)).toList) ((bH ByteArray.empty t323 (ji23)).toList)) = true
          focus
           rw [if_pos c26] at H
           have c26b0 : (Op.bytesLess ((bH ByteArray.empty t318 (ji20)).toList) ((bH ByteArray.empty t323 (ji23)).toList)) = true := c26
           have c26b8 : (((bH ByteArray.empty t323 (ji23)).toList) == ((bH ByteArray.empty t318 (ji20)).toList)) = false := BF c26b0
           clear c26
           obtain rfl := Option.some.inj H
          rotate_left
          focus
           rw [if_neg c26] at H
           have c26b0 : (Op.bytesLess ((bH ByteArray.empty t318 (ji20)).toList) ((bH ByteArray.empty t323 (ji23)).toList)) = false := by simpa using c26
           clear c26
           by_cases c29 : (Op.bytesLess ((bH ByteArray.empty t323 (ji23)).toList) ((bH ByteArray.empty t318 (ji20)).toList)) = true
           focus
            rw [if_pos c29] at H
            have c29b0 : (Op.bytesLess ((bH ByteArray.empty t323 (ji23)).toList) ((bH ByteArray.empty t318 (ji20)).toList)) = true := c29
            have c29b8 : (((bH ByteArray.empty t318 (ji20)).toList) == ((bH ByteArray.empty t323 (ji23)).toList)) = false := BF c29b0
            clear c29
            obtain rfl := Option.some.inj H
           rotate_left
           focus
            rw [if_neg c29] at H
            have c29b0 : (Op.bytesLess ((bH ByteArray.empty t323 (ji23)).toList) ((bH ByteArray.empty t318 (ji20)).toList)) = false := by simpa using c29
            (try have c29b8 : (((bH ByteArray.empty t318 (ji20)).toList) == ((bH ByteArray.empty t323 (ji23)).toList)) = true := Bo (by assumption) c29b0)
            clear c29
            have H' := aj.mk H
            clear H
           rotate_left
          rotate_left 2
          all_goals
           obtain ⟨Ao27, co27, eo27⟩ := Kd.cO HO_5.out
           subst eo27
           have p327 : 0 ≤ ((ji20) : Int) := of_decide_eq_true (by assumption)
           have q327 : (ji20) < (t318.length : Int) := of_decide_eq_true (by assumption)
           obtain ⟨ad327, e327, hx327_0⟩ := Kd.fZ (Kd.aX HO_5.out).2.2 (ji20) p327 q327
           cases e327
           replace p327 := eq_true p327
           replace q327 := eq_true q327
           obtain ⟨Ao28, co28, eo28⟩ := Kd.cO HO_7.out
           subst eo28
           have p328 : 0 ≤ ((ji23) : Int) := of_decide_eq_true (by assumption)
           have q328 : (ji23) < (t323.length : Int) := of_decide_eq_true (by assumption)
           obtain ⟨ad328, e328, hx328_0⟩ := Kd.fZ (Kd.aX HO_7.out).2.2 (ji23) p328 q328
           cases e328
           replace p328 := eq_true p328
           replace q328 := eq_true q328
           go_wp2
           repeat (go_quiet (fail); try go_wp2)
          ·go_ret
           exact ⟨by rfl, by repeat ((with_reducible first | exact HB.out | apply aW))⟩
          ·go_ret
           exact ⟨by rfl, by repeat ((with_reducible first | exact HB.out | apply aW))⟩
          ·go_roundg kj13
           case measure => have := HJ6.out; have := HK2.out; have := HJ13.out; omega
           case rel => exact ⟨(wrap64 (x9_2 + 1)), (by rfl), H', ⟨by have := HJ6.out; have := HK2.out; have := HJ13.out; omega⟩, ⟨by (with_reducible repeat ((apply Kd.kH))); exact HO_5.out⟩, ⟨by (with_reducible repeat ((apply Kd.kH))); exact HO_7.out⟩, ⟨by repeat ((with_reducible first | exact HB.out | apply aW))⟩⟩
         ·replace c19 := Bool.eq_false_iff.mpr c19
          subst c19
          rw [if_neg ff_] at H
          by_cases c34 : (t318.length : Int) < (t323.length : Int)
          focus
           rw [if_pos c34] at H
           have c34b0 : decide ((t318.length : Int) < (t323.length : Int)) = true := decide_eq_true c34
           have c34b1 : decide (t318.length < t323.length) = true := decide_eq_true (Int.ofNat_lt.mp c34)
           clear c34
          rotate_left
          focus
           rw [if_neg c34] at H
           have c34b0 : decide ((t318.length : Int) < (t323.length : Int)) = false := decide_eq_false c34
           have c34b1 : decide (t318.length < t323.length) = false := decide_eq_false (fun h => c34 (Int.ofNat_lt.mpr h))
           clear c34
           by_cases c37 : (t318.length : Int) > (t323.length : Int)
           focus
            rw [if_pos c37] at H
            have c37b0 : decide ((t323.length : Int) < (t318.length : Int)) = true := decide_eq_true c37
            have c37b1 : decide (t323.length < t318.length) = true := decide_eq_true (Int.ofNat_lt.mp c37)
           rotate_left
           focus
            rw [if_neg c37] at H
            have c37b0 : decide ((t323.length : Int) < (t318.length : Int)) = false := decide_eq_false c37
            have c37b1 : decide (t323.length < t318.length) = false := decide_eq_false (fun h => c37 (Int.ofNat_lt.mpr h))
           rotate_left
           all_goals
            clear c37
          rotate_left 2
          all_goals
           obtain rfl := Option.some.inj H
           obtain ⟨Ao35, co35, eo35⟩ := Kd.cO HO_5.out
           subst eo35
           obtain ⟨Ao36, co36, eo36⟩ := Kd.cO HO_7.out
           subst eo36
           go_wp2
           repeat (go_quiet (fail); try go_wp2)
           go_ret
           exact ⟨by rfl, HB.out⟩
end Go.Y.PRd
namespace Go.Y.PRd
open Go.Proofs.ah.av Go.Proofs.ah.aT Go.Proofs.ah.aU Go.Y.Given
attribute [local go_sem] dB dD dQ dP cK cB dA dF
mutual
def aK.j0 : Nat → List ByteArray → List ByteArray → Bool → Option (Bool)
 | 0, _, _, _ => none
 | k + 1, x5, x7, x34 => if x34 = true then (some false) else (aK.l0 k x5 x7 0)
def aK.l0 : Nat → List ByteArray → List ByteArray → Int → Option (Bool)
 | 0, _, _, _ => none
 | k + 1, x5, x7, x9 => if x9 < (x7.length : Int) then (if 0 ≤ (wrap64 ((wrap64 ((x5.length : Int) - 1)) - x9)) then (if (wrap64 ((wrap64 ((x5.length : Int) - 1)) - x9)) < (x5.length : Int) then (if 0 ≤ (wrap64 ((wrap64 ((x7.length : Int) - 1)) - x9)) then (if (wrap64 ((wrap64 ((x7.length : Int) - 1)) - x9)) < (x7.length : Int) then (if (bH ByteArray.empty x5 (wrap64 ((wrap64 ((x5.length : Int) - 1)) - x9))).toList = (bH ByteArray.empty x7 (wrap64 ((wrap64 ((x7.length : Int) - 1)) - x9))).toList then (aK.l0 k x5 x7 (wrap64 (x9 + 1))) else (some false)) else (none)) else (none)) else (none)) else (none)) else (some true)
end
def aK.f (k : Nat) (a0 : ByteArray) (a1 : ByteArray) : Option (Bool) := (aJ.f k a0).bind fun t329 => ((aH.f k t329).bind fun bt330 => ((aJ.f k a1).bind fun t334 => ((aH.f k t334).bind fun bt335 => (if bt330.2 = true then (if bt335.2 = true then (aK.j0 k bt330.1 bt335.1 (decide ((bt330.1.length : Int) < (bt335.1.length : Int)))) else (aK.j0 k bt330.1 bt335.1 true)) else (aK.j0 k bt330.1 bt335.1 true)))))
theorem aK.calls (k : Nat) (a0 : ByteArray) (a1 : ByteArray) (r : Bool) (w : World) (h : aK.f k a0 a1 = some r) :
    Calls Tryz.prog 28 #[.string a0, .string a1] w fun e w' => e = .returned (.bool r) ∧ Below w.heap.size w w' := by
  have HB := aj.mk (Below.refl w.heap.size w)
  have H : ((aJ.f k a0).bind fun t329 => ((aH.f k t329).bind fun bt330 => ((aJ.f k a1).bind fun t334 => ((aH.f k t334).bind fun bt335 => (if bt330.2 = true then (if bt335.2 = true then (aK.j0 k bt330.1 bt335.1 (decide ((bt330.1.length : Int) < (bt335.1.length : Int)))) else (aK.j0 k bt330.1 bt335.1 true)) else (aK.j0 k bt330.1 bt335.1 true)))))) = some r := h
  clear h
  obtain ⟨t329, A3, H⟩ := cu H
  replace H := Option.bind_eq_some_iff.mp H
  obtain ⟨⟨t330, t331⟩, A40, H⟩ := H
  replace H : ((aJ.f k a1).bind fun t334 => ((aH.f k t334).bind fun bt335 => (if t331 = true then (if bt335.2 = true then (aK.j0 k t330 bt335.1 (decide ((t330.length : Int) < (bt335.1.length : Int)))) else (aK.j0 k t330 bt335.1 true)) else (aK.j0 k t330 bt335.1 true)))) = some r := H
  have A4 := aj.mk A40
  clear A40
  obtain ⟨t334, A5, H⟩ := cu H
  replace H := Option.bind_eq_some_iff.mp H
  obtain ⟨⟨t335, t336⟩, A60, H⟩ := H
  replace H : (if t331 = true then (if t336 = true then (aK.j0 k t330 t335 (decide ((t330.length : Int) < (t335.length : Int)))) else (aK.j0 k t330 t335 true)) else (aK.j0 k t330 t335 true)) = some r := H
  have A6 := aj.mk A60
  clear A60
  have HC7 := aj.mk H
  clear H
  go_enter Tryz.func28, Tryz.ntmps28
  go_upto_region 3 with (first | (go_at_call 66; (with_reducible refine (aJ.calls k a0 t329 _ A3.out).mono ?_); rintro e w8 ⟨rfl, hb⟩; replace HB := aj.mk (au HB.out hb); (try clear hb)) | (go_at_call 67; (with_reducible refine (aH.calls k t329 t330 t331 _ A4.out).mono ?_); rintro e w9 ⟨v332, rfl, ho0, hb⟩; have HO333 := aj.mk (Kd.bS ho0 (ay HB.out)); replace HB := aj.mk (au HB.out hb); (try clear hb); (try clear ho0)) | (go_at_call 66; (with_reducible refine (aJ.calls k a1 t334 _ A5.out).mono ?_); rintro e w10 ⟨rfl, hb⟩; replace HO333 := aj.mk (Kd.bD (by ((exact HO333.out))) hb); replace HB := aj.mk (au HB.out hb); (try clear hb)) | (go_at_call 67; (with_reducible refine (aH.calls k t334 t335 t336 _ A6.out).mono ?_); rintro e w11 ⟨v337, rfl, ho0, hb⟩; have HO338 := aj.mk (Kd.bS (Kd.iU ho0 (Kd.jS (by ((exact HO333.out))))) (ay HB.out)); replace HO333 := aj.mk (Kd.gK (by ((exact HO333.out))) (Kd.iV ho0) hb); replace HB := aj.mk (au HB.out hb); (try clear hb); (try clear ho0)))
  repeat (go_quiet (((go_at_call 66; (with_reducible refine (aJ.calls k a0 t329 _ A3.out).mono ?_); rintro e w8 ⟨rfl, hb⟩; replace HB := aj.mk (au HB.out hb)))); go_upto_region 3 with (((go_at_call 66; (with_reducible refine (aJ.calls k a0 t329 _ A3.out).mono ?_); rintro e w8 ⟨rfl, hb⟩; replace HB := aj.mk (au HB.out hb)))))
  go_cut [34] (fun v34 wc => ∃ (kq : Nat) (x34_6 : Bool), v34 = .bool x34_6 ∧ aj (aK.j0 kq t330 t335 x34_6 = some r) ∧ aj (kq ≤ k) ∧ aj (Kd.R Kd.string 9 wc w.heap.size (fun k_ => some k_ ≠ (v337 : Value).ownBlock) v332 t330) ∧ aj (Kd.R Kd.string 9 wc w.heap.size (fun k_ => some k_ ≠ (v332 : Value).ownBlock) v337 t335) ∧ aj (Below w.heap.size w wc))
  case first =>
   have H := HC7.out
   clear HC7
   by_cases c12 : t331 = true
   ·subst c12
    rw [if_pos rfl] at H
    by_cases c13 : t336 = true
    ·subst c13
     rw [if_pos rfl] at H
     have H' := aj.mk H
     clear H
     obtain ⟨Ao14, co14, eo14⟩ := Kd.cO HO333.out
     subst eo14
     obtain ⟨Ao15, co15, eo15⟩ := Kd.cO HO338.out
     subst eo15
     go_wp2
     repeat (go_quiet (fail); try go_wp2)
     go_meet
     case rel => exact ⟨_, (decide ((t330.length : Int) < (t335.length : Int))), (by (simp; done)), H', ⟨by omega⟩, ⟨by (with_reducible repeat ((apply Kd.aN))); exact Kd.dn HO333.out (fun _ hk => hk.2)⟩, ⟨by (with_reducible repeat ((apply Kd.aN))); exact Kd.dn HO338.out (fun _ hk => hk.2)⟩, ⟨HB.out⟩⟩
    ·replace c13 := Bool.eq_false_iff.mpr c13
     subst c13
     rw [if_neg ff_] at H
     have H' := aj.mk H
     clear H
     go_wp2
     repeat (go_quiet (fail); try go_wp2)
     go_meet
     case rel => exact ⟨_, (true), (by rfl), H', ⟨by omega⟩, ⟨by (with_reducible repeat ((apply Kd.aN))); exact Kd.dn HO333.out (fun _ hk => hk.2)⟩, ⟨by (with_reducible repeat ((apply Kd.aN))); exact Kd.dn HO338.out (fun _ hk => hk.2)⟩, ⟨HB.out⟩⟩
   ·replace c12 := Bool.eq_false_iff.mpr c12
    subst c12
    rw [if_neg ff_] at H
    have H' := aj.mk H
    clear H
    go_wp2
    repeat (go_quiet (fail); try go_wp2)
    go_meet
    case rel => exact ⟨_, (true), (by rfl), H', ⟨by omega⟩, ⟨by (with_reducible repeat ((apply Kd.aN))); exact Kd.dn HO333.out (fun _ hk => hk.2)⟩, ⟨by (with_reducible repeat ((apply Kd.aN))); exact Kd.dn HO338.out (fun _ hk => hk.2)⟩, ⟨HB.out⟩⟩
  case rest =>
   clear HC7
   obtain ⟨kq, x34_6, rfl, HA, HJ6, HO_5, HO_7, HB⟩ := hcut
   cases kq with
   | zero => exact absurd HA.out (by simp [aK.j0])
   | succ kj6 =>
    have H := HA.out
    clear HA
    simp only [aK.j0] at H
    by_cases c16 : x34_6 = true
    ·subst c16
     rw [if_pos rfl] at H
     obtain rfl := Option.some.inj H
     go_wp2
     repeat (go_quiet (fail); try go_wp2)
     go_ret
     exact ⟨by rfl, HB.out⟩
    ·replace c16 := Bool.eq_false_iff.mpr c16
     subst c16
     rw [if_neg ff_] at H
     have H' := aj.mk H
     clear H
     go_wp2
     repeat (go_quiet (fail); try go_wp2)
     go_loopg [9] kj6 (fun kq v9 w' => ∃ (x9_2 : Int), v9 = .int .i64 x9_2 ∧ aj (aK.l0 kq t330 t335 x9_2 = some r) ∧ aj (kq ≤ kj6) ∧ aj (Kd.R Kd.string 9 w' w.heap.size (fun k_ => some k_ ≠ (v337 : Value).ownBlock) v332 t330) ∧ aj (Kd.R Kd.string 9 w' w.heap.size (fun k_ => some k_ ≠ (v332 : Value).ownBlock) v337 t335) ∧ aj (Below w.heap.size w w'))
     case atStart => exact ⟨(0), (by rfl), H', ⟨Nat.le_refl _⟩, ⟨by (with_reducible repeat ((apply Kd.aN))); exact HO_5.out⟩, ⟨by (with_reducible repeat ((apply Kd.aN))); exact HO_7.out⟩, ⟨HB.out⟩⟩
     case round =>
      clear H'
      obtain ⟨x9_2, rfl, HA, HK2, HO_5, HO_7, HB⟩ := hrel
      cases gk with
      | zero => exact absurd HA.out (by simp [aK.l0])
      | succ k2 =>
       have H := HA.out
       clear HA
       simp only [aK.l0] at H
       by_cases c17 : x9_2 < (t335.length : Int)
       ·rw [if_pos c17] at H
        have c17b0 : decide (x9_2 < (t335.length : Int)) = true := decide_eq_true c17
        clear c17
        obtain ⟨ji18, hji18⟩ : ∃ j_ : Int, (wrap64 ((wrap64 ((t330.length : Int) - 1)) - x9_2)) = j_ := ⟨_, rfl⟩
        rw [hji18] at H
        have hji18w : (IntKind.i64.wrap ((wrap64 ((t330.length : Int) - 1)) - x9_2)) = ji18 := (dU _).trans hji18
        obtain ⟨c19b0, H⟩ := dX H
        obtain ⟨c20b0, H⟩ := dX H
        obtain ⟨ji21, hji21⟩ : ∃ j_ : Int, (wrap64 ((wrap64 ((t335.length : Int) - 1)) - x9_2)) = j_ := ⟨_, rfl⟩
        rw [hji21] at H
        have hji21w : (IntKind.i64.wrap ((wrap64 ((t335.length : Int) - 1)) - x9_2)) = ji21 := (dU _).trans hji21
        obtain ⟨c22b0, H⟩ := dX H
        obtain ⟨c23b0, H⟩ := dX H
        by_cases c24 : (bH ByteArray.empty t330 (ji18)).toList = (bH ByteArray.empty t335 (ji21)).toList
        focus
         rw [if_pos c24] at H
         have c24b0 : ((bH ByteArray.empty t330 (ji18)).toList == (bH ByteArray.empty t335 (ji21)).toList) = true := beq_iff_eq.mpr c24
         have c24b1 : ((bH ByteArray.empty t330 (ji18)).toList != (bH ByteArray.empty t335 (ji21)).toList) = false := bne_eq_false_iff_eq.mpr c24
         clear c24
         have H' := aj.mk H
         clear H
        rotate_left
        focus
         rw [if_neg c24] at H
         have c24b0 : ((bH ByteArray.empty t330 (ji18)).toList == (bH ByteArray.empty t335 (ji21)).toList) = false := beq_eq_false_iff_ne.mpr c24
         have c24b1 : ((bH ByteArray.empty t330 (ji18)).toList != (bH ByteArray.empty t335 (ji21)).toList) = true := bne_iff_ne.mpr c24
         obtain rfl := Option.some.inj H
        rotate_left
        all_goals
         obtain ⟨Ao25, co25, eo25⟩ := Kd.cO HO_7.out
         subst eo25
         obtain ⟨Ao26, co26, eo26⟩ := Kd.cO HO_5.out
         subst eo26
         have p339 : 0 ≤ ((ji18) : Int) := of_decide_eq_true (by assumption)
         have q339 : (ji18) < (t330.length : Int) := of_decide_eq_true (by assumption)
         obtain ⟨ad339, e339, hx339_0⟩ := Kd.fZ (Kd.aX HO_5.out).2.2 (ji18) p339 q339
         cases e339
         replace p339 := eq_true p339
         replace q339 := eq_true q339
         have p340 : 0 ≤ ((ji21) : Int) := of_decide_eq_true (by assumption)
         have q340 : (ji21) < (t335.length : Int) := of_decide_eq_true (by assumption)
         obtain ⟨ad340, e340, hx340_0⟩ := Kd.fZ (Kd.aX HO_7.out).2.2 (ji21) p340 q340
         cases e340
         replace p340 := eq_true p340
         replace q340 := eq_true q340
         go_wp2
         repeat (go_quiet (fail); try go_wp2)
        ·go_roundg k2
         case measure => have := HJ6.out; have := HK2.out; omega
         case rel => exact ⟨(wrap64 (x9_2 + 1)), (by rfl), H', ⟨by have := HJ6.out; have := HK2.out; omega⟩, ⟨by (with_reducible repeat ((apply Kd.kH))); exact HO_5.out⟩, ⟨by (with_reducible repeat ((apply Kd.kH))); exact HO_7.out⟩, ⟨by repeat ((with_reducible first | exact HB.out | apply aW))⟩⟩
        ·go_ret
         exact ⟨by rfl, by repeat ((with_reducible first | exact HB.out | apply aW))⟩
       ·rw [if_neg c17] at H
        have c17b0 : decide (x9_2 < (t335.length : Int)) = false := decide_eq_false c17
        clear c17
        obtain rfl := Option.some.inj H
        obtain ⟨Ao29, co29, eo29⟩ := Kd.cO HO_7.out
        subst eo29
        go_wp2
        repeat (go_quiet (fail); try go_wp2)
        go_ret
        exact ⟨by rfl, HB.out⟩
end Go.Y.PRd
namespace Go.Y.dY
open Go.Y.PRd Go.Proofs.ah.av Go.Proofs.ah.aT Go.Proofs.ah.aU Go.Y.Given Go.Y.Oct Go.Y.Name Go.Y.Cmp
theorem sD {x : Int} (h0 : 0 ≤ x) (h1 : x < 18446744073709551616) : IntKind.u64.wrap x = x := by
 simp only [IntKind.wrap, IntKind.bits, IntKind.signed]; simp; omega
theorem bT {x : Int} (h0 : -9223372036854775808 ≤ x) (h1 : x ≤ 9223372036854775807) : wrap64 x = x := by unfold wrap64; omega
theorem jw (l : List ByteArray) (i : Nat) (h : i < l.length) : bH ByteArray.empty l (i : Int) = l[i] := by
 unfold bH; rw [Int.toNat_natCast, List.getD_eq_getElem?_getD, List.getElem?_eq_getElem h]; rfl
theorem jF (b : ByteArray) (i : Nat) (h : i < b.size) : bt b (i : Int) = ((b.data.toList[i]'(by rw [bR]; exact h)).toNat : Int) := by
 unfold bt
 rw [Int.toNat_natCast, dif_pos h]; rfl
def okR (r : ByteArray) : Bool := decide (iQ r (eH r.size r) = fT)
theorem nS {b : ByteArray} {i : Nat} (h : i < b.size) : (b.extract i b.size).data.toList = b.data.toList[i]'(by rw [bR]; exact h) :: b.data.toList.drop (i + 1) := by
 rw [jZ]; exact List.drop_eq_getElem_cons _
theorem EX {b : ByteArray} {i : Nat} (h : i < b.size) : beN ((b.extract i b.size).data.toList.take 1) = (b.data.toList[i]'(by rw [bR]; exact h)).toNat := by
 rw [nS h]; simp [beN]
theorem yu {b : ByteArray} {i : Nat} (h : i < b.size) : eu (b.extract i b.size) 1 = if (b.data.toList[i]'(by rw [bR]; exact h)).toNat ≤ b.size - i - 1 then
  some (b.extract (i + 1) (i + 1 + (b.data.toList[i]'(by rw [bR]; exact h)).toNat), b.extract (i + 1 + (b.data.toList[i]'(by rw [bR]; exact h)).toNat) b.size) else none := by
 unfold eu
 rw [if_pos (by rw [gI]; omega), EX h, gI]
 split
 ·congr 2
  ·apply fO
   rw [jk, jk, jZ, List.drop_drop]
  ·apply fO
   rw [show b.size - i = (b.extract i b.size).size from (gI b i).symm, jZ, jZ, jZ, List.drop_drop, Nat.add_assoc]
 ·rfl
theorem GH {b : ByteArray} {i : Nat} (h : i < b.size) : b.extract i b.size = fT ↔ ((b.data.toList[i]'(by rw [bR]; exact h)).toNat = 0 ∧ i + 1 = b.size) := by
 constructor
 ·intro e
  have h1 := congrArg (fun x => x.data.toList) e
  have h2 := congrArg ByteArray.size e
  rw [gI, show fT.size = 1 from rfl] at h2
  simp only [nS h] at h1
  have : b.data.toList[i]'(by rw [bR]; exact h) = 0 := by
   have h3 : fT.data.toList = [0] := rfl
   rw [h3] at h1
   exact (List.cons.inj h1).1
  exact ⟨by rw [this]; rfl, by omega⟩
 ·rintro ⟨h1, h2⟩
  apply fO
  rw [nS h, List.drop_of_length_le (by rw [bR]; omega)]
  have : b.data.toList[i]'(by rw [bR]; exact h) = 0 := UInt8.toNat_inj.mp (by rw [h1]; rfl)
  rw [this]; rfl
theorem vo (b : ByteArray) (hb : b.size ≤ 255) : ∀ (d i k : Nat) (acc : List ByteArray), b.size - i ≤ d → i ≤ b.size → 2 * d + 3 ≤ k → acc.length + d ≤ 100000 →
  ∃ l, aH.l0 k b acc (i : Int) = some (l, okR (b.extract i b.size)) ∧ (okR (b.extract i b.size) = true → l = acc ++ (eH (b.extract i b.size).size (b.extract i b.size)).map (·.1)) := by
 intro d
 induction d with
 | zero =>
  intro i k acc hd hi hk ha
  obtain rfl : i = b.size := by omega
  obtain ⟨k, rfl⟩ : ∃ j, k = j + 2 := ⟨k - 2, by omega⟩
  have hz : (b.extract b.size b.size).size = 0 := by rw [gI]; omega
  have hn : okR (b.extract b.size b.size) = false := by
   unfold okR
   rw [hz]
   exact decide_eq_false (fun h => by have := congrArg ByteArray.size (show b.extract b.size b.size = fT from h); rw [hz] at this; exact absurd this (by decide))
  rw [hn, aH.l0, if_neg (by omega), aH.j1, if_neg (by decide), if_neg (by rw [bT (by omega) (by omega)]; omega)]
  exact ⟨_, rfl, fun h => absurd h (by decide)⟩
 | succ d ih =>
  intro i k acc hd hi hk ha
  obtain ⟨k, rfl⟩ : ∃ j, k = j + 2 := ⟨k - 2, by omega⟩
  by_cases hlt : i < b.size
  ·have hbt := jF b i hlt
   have hcut := yu hlt
   have hroot := GH hlt
   have hc := UInt8.toNat_lt (b.data.toList[i]'(by rw [bR]; exact hlt))
   generalize (b.data.toList[i]'(by rw [bR]; exact hlt)).toNat = m at hbt hcut hroot hc
   have hsz : (b.extract i b.size).size = b.size - i := gI b i
   rw [aH.l0, if_pos (by omega), if_pos (by omega), hbt]
   have stop : ∀ (_ : eH (b.extract i b.size).size (b.extract i b.size) = []) (_ : ¬ b.extract i b.size = fT), okR (b.extract i b.size) = false := fun h h' => by
    unfold okR; rw [h]; exact decide_eq_false h'
   by_cases h0 : m = 0
   ·rw [decide_eq_false (by omega), aH.j1, if_neg (by decide), hbt, bT (by omega) (by omega)]
    by_cases hend : i + 1 = b.size
    ·have hr := hroot.mpr ⟨h0, hend⟩
     have hok : okR (b.extract i b.size) = true := by unfold okR; rw [hr]; rfl
     rw [if_pos (by omega), if_pos (by omega), if_pos (by omega), hok]
     refine ⟨acc, by rw [h0]; rfl, fun _ => ?_⟩
     rw [rU hr]; simp
    ·have hr : ¬ b.extract i b.size = fT := fun h => hend (hroot.mp h).2
     rw [if_pos (by omega)] at hcut
     have hl := oH hcut (.inl (by rw [ByteArray.size_extract]; omega))
     rw [stop hl hr, if_neg (by omega)]
     exact ⟨_, rfl, fun h => absurd h (by decide)⟩
   ·have hr : ¬ b.extract i b.size = fT := fun h => h0 (hroot.mp h).1
    rw [decide_eq_true (by omega), aH.j1, if_pos rfl, if_pos (by omega), if_pos (by omega), hbt, bT (x := (m : Int)) (by omega) (by omega), bT (x := (i : Int) + 1) (by omega) (by omega), bT (x := (i : Int) + 1 + (m : Int)) (by omega) (by omega), bT (x := 1 + (m : Int)) (by omega) (by omega), bT (x := (i : Int) + (1 + (m : Int))) (by omega) (by omega)]
    by_cases h63 : m > 63
    ·have hl : eH (b.extract i b.size).size (b.extract i b.size) = [] := by
      by_cases hle : m ≤ b.size - i - 1
      ·rw [if_pos hle] at hcut
       exact oH hcut (.inr (by rw [ByteArray.size_extract]; omega))
      ·rw [if_neg hle] at hcut
       exact pF hcut
     rw [if_pos (by omega), stop hl hr]
     exact ⟨_, rfl, fun h => absurd h (by decide)⟩
    ·rw [if_neg (by omega)]
     by_cases hle : m ≤ b.size - i - 1
     ·rw [if_pos hle] at hcut
      have hsz2 : (b.extract (i + 1) (i + 1 + m)).size = m := by rw [ByteArray.size_extract]; omega
      have hl := oO hr hcut (by rw [hsz2]; omega)
      rw [if_neg (by omega), if_pos (by omega), if_pos (by omega), if_pos (by omega), if_pos (by omega)]
      rw [show ((i : Int) + 1).toNat = i + 1 from by omega, show ((i : Int) + 1 + (m : Int)).toNat = i + 1 + m from by omega, show (i : Int) + (1 + (m : Int)) = ((i + 1 + m : Nat) : Int) from by omega]
      obtain ⟨l, e1, e2⟩ := ih (i + 1 + m) k (acc ++ [b.extract (i + 1) (i + 1 + m)]) (by omega) (by omega) (by omega) (by simp; omega)
      have hok : okR (b.extract i b.size) = okR (b.extract (i + 1 + m) b.size) := by
       unfold okR
       rw [hl]
       congr 2
       unfold iQ
       cases hq : eH (b.extract (i + 1 + m) b.size).size (b.extract (i + 1 + m) b.size) with
       | nil => rfl
       | cons y t => rw [List.getLast?_cons_cons]; simp [List.getLast?_cons]
      rw [hok]
      refine ⟨l, e1, fun h => ?_⟩
      rw [e2 h, hl]
      simp
     ·rw [if_neg hle] at hcut
      rw [if_pos (by omega), stop (pF hcut) hr]
      exact ⟨_, rfl, fun h => absurd h (by decide)⟩
  ·obtain rfl : i = b.size := by omega
   exact ih b.size (k + 2) acc (by omega) (by omega) (by omega) (by omega)
theorem Ih (n : ByteArray) : bC n = (decide (n.size ≤ 255) && okR n) := by
 unfold bC okR
 congr 1
 by_cases h : iQ n (eH n.size n) = fT
 ·rw [h]; simp [ByteArray.toList_eq]; rfl
 ·rw [decide_eq_false h]
  exact tF h
theorem jM (b : ByteArray) : b.extract 0 b.size = b := by apply fO; rw [jZ]; rfl
theorem qD (n : ByteArray) (k : Nat) (hn : bC n = false) (hk : 600 ≤ k) : ∃ l, aH.f k n = some (l, false) := by
 unfold aH.f
 by_cases h : (n.size : Int) > 255
 ·rw [if_pos h]; exact ⟨_, rfl⟩
 ·rw [if_neg h]
  obtain ⟨l, e1, _⟩ := vo n (by omega) n.size 0 k [] (by omega) (by omega) (by omega) (by simp; omega)
  rw [jM] at e1
  rw [Ih, decide_eq_true (by omega), Bool.true_and] at hn
  rw [hn] at e1
  exact ⟨l, e1⟩
theorem jP (l : List ByteArray) (k : Nat) (hg : good l) (hs : (bE l).size ≤ 255) (hk : 600 ≤ k) : aH.f k (bE l) = some (l, true) := by
 unfold aH.f
 rw [if_neg (by omega)]
 obtain ⟨m, e1, e2⟩ := vo (bE l) hs (bE l).size 0 k [] (by omega) (by omega) (by omega) (by simp; omega)
 rw [jM] at e1 e2
 have hok : okR (bE l) = true := by unfold okR; exact decide_eq_true (zH l hg)
 rw [hok] at e1
 have := e2 hok
 rw [List.nil_append, kR l hg, nD] at this
 rw [this] at e1; exact e1
theorem zC (n : ByteArray) (k : Nat) (hk : 600 ≤ k) : dL.f k n = some (bC n) := by
 unfold dL.f
 cases h : bC n with
 | false =>
  obtain ⟨l, e⟩ := qD n k h hk
  rw [e]; rfl
 | true =>
  obtain ⟨l, hg, rfl, hs⟩ := (jX n).mp h
  rw [jP l k hg hs hk]; rfl
theorem jG (n : ByteArray) : bX.f n = some (bC n) := rfl
theorem rA (l : List ByteArray) (hg : good l) (hs : (bE l).size ≤ 255) : iC.f (bE l) = some (l, 0) := by
 unfold iC.f
 rw [kD hg hs, if_pos rfl, kR l hg, nD]
theorem uf (l : List ByteArray) (hg : good l) (hs : (bE l).size ≤ 255) : kK.f (bE l) = some (match l with | [] => (⟨#[]⟩, false) | _ :: t => (bE t, true)) := by
 unfold kK.f nZ
 rw [kD hg hs, if_pos rfl, kR l hg]
 cases l <;> rfl
theorem iX (l : List ByteArray) (hg : good l) (hs : (bE l).size ≤ 255) : gq.f (bE l) = some (bE (l.map dH)) := by
 unfold gq.f fQ.f
 rw [jG, kD hg hs, Option.bind_some, if_pos rfl, if_pos (by omega), oP l hg]; rfl
theorem kU (n : ByteArray) (h : bC n = false) : gq.f n = some ⟨#[]⟩ := by
 unfold gq.f
 rw [jG, h, Option.bind_some, if_neg (by decide)]
theorem sU (l m : List ByteArray) (hl : good l) (hm : good m) (sl : (bE l).size ≤ 255) (sm : (bE m).size ≤ 255) : dx.f (bE l) (bE m) = some (decide (l.map dH = m.map dH)) := by
 unfold dx.f fQ.f
 rw [jG, jG, kD hl sl, kD hm sm, Option.bind_some, if_pos rfl, Option.bind_some, if_pos rfl, if_pos (by omega), if_pos (by omega), Option.bind_some, Option.bind_some, oP l hl, oP m hm]
 congr 1
 by_cases h : l.map dH = m.map dH
 ·rw [h]; simp
 ·rw [decide_eq_false h, beq_eq_false_iff_ne]
  intro e
  exact h (Gq (ko hl) (ko hm) (toList_inj.mp e))
def mI : List ByteArray → ByteArray
 | [] => ⟨#[]⟩
 | s :: l => jl 1 s ++ mI l
theorem Jk (b : ByteArray) : b ++ (⟨#[]⟩ : ByteArray) = b := by apply fO; rw [iy]; simp
theorem BQ (b : ByteArray) : (⟨#[]⟩ : ByteArray) ++ b = b := by apply fO; rw [iy]; simp
theorem xH (a b c : ByteArray) : a ++ b ++ c = a ++ (b ++ c) := by apply fO; rw [iy, iy, iy, iy, List.append_assoc]
theorem xZ : ∀ l, bE l = mI l ++ (⟨#[0]⟩ : ByteArray)
 | [] => by rw [mI, BQ]; rfl
 | s :: l => by rw [bE, mI, xZ l, xH]
theorem zF : ∀ l s, mI (l ++ [s]) = mI l ++ jl 1 s
 | [], s => by
  show jl 1 s ++ (⟨#[]⟩ : ByteArray) = (⟨#[]⟩ : ByteArray) ++ jl 1 s
  rw [Jk, BQ]
 | t :: l, s => by rw [List.cons_append, mI, mI, zF l s, xH]
theorem Gw (l : List ByteArray) (i : Nat) (h : i < l.length) : mI (l.take (i + 1)) = mI (l.take i) ++ jl 1 l[i] := by
 rw [List.take_succ_eq_append_getElem h, zF]
theorem qI : ∀ (l : List ByteArray), (∀ s ∈ l, s.size ≤ 63) → (mI l).size ≤ 64 * l.length
 | [], _ => Nat.le_refl _
 | s :: l, h => by
  have h1 := h s (by simp)
  have h2 := qI l (fun t ht => h t (by simp [ht]))
  rw [mI, ByteArray.size_append, pI, List.length_cons]; omega
theorem sS (a b : UInt8) (x y : List UInt8) : Op.bytesLess (a :: x) (b :: y) = true ↔ a.toNat < b.toNat ∨ (a = b ∧ Op.bytesLess x y = true) := by
 rw [Op.bytesLess, Bool.or_eq_true, Bool.and_eq_true, beq_iff_eq, decide_eq_true_iff, UInt8.lt_iff_toNat_lt]
theorem nI : ∀ x : List UInt8, Op.bytesLess x x = false
 | [] => rfl
 | a :: x => by
  cases h : Op.bytesLess (a :: x) (a :: x) with
  | false => rfl
  | true =>
   rcases (sS a a x x).mp h with h1 | ⟨_, h1⟩
   ·omega
   ·rw [nI x] at h1; exact absurd h1 (by decide)
theorem uX : ∀ x y z : List UInt8, Op.bytesLess x y = true → Op.bytesLess y z = true → Op.bytesLess x z = true
 | _, _, [], _, h => by rw [Op.bytesLess] at h; exact absurd h (by decide)
 | [], _, _ :: _, _, _ => rfl
 | a :: x, [], _ :: _, h, _ => by rw [Op.bytesLess] at h; exact absurd h (by decide)
 | a :: x, b :: y, c :: z, h1, h2 => by
  rw [sS] at h1 h2 ⊢
  rcases h1 with h1 | ⟨rfl, h1⟩
  ·rcases h2 with h2 | ⟨rfl, h2⟩
   ·exact .inl (by omega)
   ·exact .inl h1
  ·rcases h2 with h2 | ⟨rfl, h2⟩
   ·exact .inl h2
   ·exact .inr ⟨rfl, uX x y z h1 h2⟩
theorem EN : ∀ x y : List UInt8, Op.bytesLess x y = false → Op.bytesLess y x = false → x = y
 | [], [], _, _ => rfl
 | [], _ :: _, h, _ => by rw [Op.bytesLess] at h; exact absurd h (by decide)
 | _ :: _, [], _, h => by rw [Op.bytesLess] at h; exact absurd h (by decide)
 | a :: x, b :: y, h1, h2 => by
  have n1 : ¬ (a.toNat < b.toNat ∨ (a = b ∧ Op.bytesLess x y = true)) := fun h => by rw [(sS a b x y).mpr h] at h1; exact absurd h1 (by decide)
  have n2 : ¬ (b.toNat < a.toNat ∨ (b = a ∧ Op.bytesLess y x = true)) := fun h => by rw [(sS b a y x).mpr h] at h2; exact absurd h2 (by decide)
  have e : a = b := UInt8.toNat_inj.mp (by
   have : ¬ a.toNat < b.toNat := fun h => n1 (.inl h)
   have : ¬ b.toNat < a.toNat := fun h => n2 (.inl h)
   omega)
  subst e
  rw [EN x y (by cases h : Op.bytesLess x y with | false => rfl | true => exact absurd (.inr ⟨rfl, h⟩) n1) (by cases h : Op.bytesLess y x with | false => rfl | true => exact absurd (.inr ⟨rfl, h⟩) n2)]
theorem zD (x y : List UInt8) (h : Op.bytesLess x y = true) : Op.bytesLess y x = false := by
 cases h' : Op.bytesLess y x with
 | false => rfl
 | true => rw [← nI x, uX x y x h h']
structure Ord {α : Type} (c : α → α → Int) : Prop where
 vals : ∀ a b, c a b = -1 ∨ c a b = 0 ∨ c a b = 1
 flip : ∀ a b, c b a = - c a b
 zero : ∀ a b, c a b = 0 → a = b
 self : ∀ a, c a a = 0
 trans : ∀ a b d, c a b < 0 → c b d < 0 → c a d < 0
theorem Ord.le_trans {α : Type} {c : α → α → Int} (O : Ord c) {a b d : α} (h1 : c a b ≤ 0) (h2 : c b d ≤ 0) : c a d ≤ 0 ∧ (c a d = 0 → c a b = 0 ∧ c b d = 0) := by
 by_cases e1 : c a b = 0
 ·obtain rfl := O.zero _ _ e1
  exact ⟨h2, fun h => ⟨e1, h⟩⟩
 ·by_cases e2 : c b d = 0
  ·obtain rfl := O.zero _ _ e2
   exact ⟨h1, fun h => ⟨h, e2⟩⟩
  ·have := O.trans a b d (by omega) (by omega)
   exact ⟨by omega, fun h => by omega⟩
theorem oq (a : List UInt8) : jD a a = 0 := by
 unfold jD; rw [nI, if_neg (by decide), if_pos (by simp)]
theorem Ab {a b : List UInt8} (h : Op.bytesLess a b = true) : jD a b = -1 := by unfold jD; rw [if_pos h]
theorem Fy {a b : List UInt8} (h : Op.bytesLess b a = true) : jD a b = 1 := by
 unfold jD
 rw [zD b a h, if_neg (by decide), if_neg]
 intro e
 rw [beq_iff_eq.mp e, nI] at h; exact absurd h (by decide)
theorem lS (a b : List UInt8) : (Op.bytesLess a b = true ∧ jD a b = -1) ∨ (a = b ∧ jD a b = 0) ∨ (Op.bytesLess b a = true ∧ jD a b = 1) := by
 cases h1 : Op.bytesLess a b with
 | true => exact .inl ⟨rfl, Ab h1⟩
 | false =>
  cases h2 : Op.bytesLess b a with
  | true => exact .inr (.inr ⟨rfl, Fy h2⟩)
  | false =>
   obtain rfl := EN a b h1 h2
   exact .inr (.inl ⟨rfl, oq a⟩)
theorem mQ : Ord jD where
 vals a b := by rcases lS a b with h | h | h <;> omega
 flip a b := by
  rcases lS a b with ⟨h, e⟩ | ⟨h, e⟩ | ⟨h, e⟩
  ·rw [e, Fy h]; rfl
  ·rw [e, h, oq]; rfl
  ·rw [e, Ab h]
 zero a b h := by rcases lS a b with ⟨_, e⟩ | ⟨k, e⟩ | ⟨_, e⟩ <;> first | exact k | omega
 self := oq
 trans a b d h1 h2 := by
  rcases lS a b with ⟨k1, e⟩ | ⟨_, e⟩ | ⟨_, e⟩ <;> try omega
  rcases lS b d with ⟨k2, e'⟩ | ⟨_, e'⟩ | ⟨_, e'⟩ <;> try omega
  rw [Ab (uX _ _ _ k1 k2)]; omega
def cmpL : List ByteArray → List ByteArray → Int
 | [], [] => 0
 | [], _ :: _ => -1
 | _ :: _, [] => 1
 | a :: x, b :: y => if jD a.toList b.toList = 0 then cmpL x y else jD a.toList b.toList
theorem xV : ∀ x, cmpL x x = 0
 | [] => rfl
 | a :: x => by rw [cmpL, oq, if_pos rfl, xV x]
theorem xI : ∀ x y, cmpL x y = -1 ∨ cmpL x y = 0 ∨ cmpL x y = 1
 | [], [] => .inr (.inl rfl)
 | [], _ :: _ => .inl rfl
 | _ :: _, [] => .inr (.inr rfl)
 | a :: x, b :: y => by
  rw [cmpL]; split
  ·exact xI x y
  ·exact mQ.vals _ _
theorem xu : ∀ x y, cmpL y x = - cmpL x y
 | [], [] => rfl
 | [], _ :: _ => rfl
 | _ :: _, [] => rfl
 | a :: x, b :: y => by
  rw [cmpL, cmpL, mQ.flip a.toList b.toList]
  by_cases h : jD a.toList b.toList = 0
  ·rw [if_pos (by omega), if_pos h, xu x y]
  ·rw [if_neg (by omega), if_neg h]
theorem sG : ∀ x y, cmpL x y = 0 → x = y
 | [], [], _ => rfl
 | [], _ :: _, h => by rw [cmpL] at h; omega
 | _ :: _, [], h => by rw [cmpL] at h; omega
 | a :: x, b :: y, h => by
  rw [cmpL] at h
  by_cases h0 : jD a.toList b.toList = 0
  ·rw [if_pos h0] at h
   rw [toList_inj.mp (mQ.zero _ _ h0), sG x y h]
  ·rw [if_neg h0] at h; exact absurd h h0
theorem uY : ∀ x y z, cmpL x y < 0 → cmpL y z < 0 → cmpL x z < 0
 | [], [], _, h, _ => by rw [cmpL] at h; omega
 | _ :: _, [], _, h, _ => by rw [cmpL] at h; omega
 | _, _ :: _, [], _, h => by rw [cmpL] at h; omega
 | [], _ :: _, _ :: _, _, _ => by rw [cmpL]; omega
 | a :: x, b :: y, c :: z, h1, h2 => by
  rw [cmpL] at h1 h2 ⊢
  by_cases e1 : jD a.toList b.toList = 0
  ·rw [if_pos e1] at h1
   have ea := mQ.zero _ _ e1
   rw [ea]
   by_cases e2 : jD b.toList c.toList = 0
   ·rw [if_pos e2] at h2 ⊢
    exact uY x y z h1 h2
   ·rw [if_neg e2] at h2 ⊢; exact h2
  ·rw [if_neg e1] at h1
   by_cases e2 : jD b.toList c.toList = 0
   ·rw [← mQ.zero _ _ e2, if_neg e1]; exact h1
   ·rw [if_neg e2] at h2
    have := mQ.trans _ _ _ h1 h2
    rw [if_neg (by omega)]; exact this
theorem mU : Ord cmpL := ⟨xI, xu, sG, xV, uY⟩
theorem Jo (x y : List ByteArray) (hx : x.length ≤ 1000000) (hy : y.length ≤ 1000000) : ∀ (d i k : Nat), i + d = x.length → d < k → i ≤ y.length → bN.l0 k x y x (x.length : Int) (i : Int) = some (cmpL (x.drop i) (y.drop i)) := by
 intro d
 induction d with
 | zero =>
  intro i k hi hk hiy
  obtain ⟨k, rfl⟩ : ∃ j, k = j + 1 := ⟨k - 1, by omega⟩
  rw [bN.l0, if_neg (by omega), List.drop_of_length_le (by omega : x.length ≤ i)]
  by_cases h : i = y.length
  ·rw [if_neg (by omega), List.drop_of_length_le (by omega)]; rfl
  ·rw [if_pos (by omega), List.drop_eq_getElem_cons (by omega : i < y.length)]; rfl
 | succ d ih =>
  intro i k hi hk hiy
  obtain ⟨k, rfl⟩ : ∃ j, k = j + 1 := ⟨k - 1, by omega⟩
  have hix : i < x.length := by omega
  rw [bN.l0, if_pos (by omega), if_pos (by omega), if_pos (by omega), List.drop_eq_getElem_cons hix]
  by_cases h : i < y.length
  ·rw [if_neg (by omega), if_pos (by omega), jw x i hix, jw y i h, List.drop_eq_getElem_cons h, cmpL]
   show (if jD _ _ = 0 then _ else _) = _
   by_cases h0 : jD x[i].toList y[i].toList = 0
   ·rw [if_pos h0, if_pos h0, bT (by omega) (by omega)]
    exact ih (i + 1) k (by omega) (by omega) (by omega)
   ·rw [if_neg h0, if_neg h0]
  ·rw [if_pos (by omega), List.drop_of_length_le (by omega : y.length ≤ i)]; rfl
theorem Ki (x y : List ByteArray) (k : Nat) (hx : x.length ≤ 1000000) (hy : y.length ≤ 1000000) (hk : x.length < k) : bN.f k x y = some (cmpL x y) :=
 Jo x y hx hy x.length 0 k (by omega) hk (by omega)
theorem rev_at (x : List ByteArray) (hx : x.length ≤ 1000000) : ∀ (d i k : Nat) (y : List ByteArray), y.length = x.length → 2 * i + d = x.length + 1 → d + 1 ≤ k →
  (∀ p, p < x.length → y[p]? = if p < i ∨ x.length - i ≤ p then x[x.length - 1 - p]? else x[p]?) →
  aQ.l0 k y (i : Int) ((x.length : Int) - 1 - (i : Int)) = some x.reverse := by
 intro d
 induction d using Nat.strongRecOn with
 | _ d ih =>
  intro i k y hy hd hk hp
  obtain ⟨k, rfl⟩ : ∃ j, k = j + 1 := ⟨k - 1, by omega⟩
  rw [aQ.l0]
  by_cases h : (i : Int) < (x.length : Int) - 1 - (i : Int)
  ·rw [if_pos h, if_pos (by omega), if_pos (by omega), if_pos (by omega), if_pos (by omega)]
   rw [bT (by omega) (by omega), bT (by omega) (by omega)]
   obtain ⟨j, hj⟩ : ∃ j : Nat, (x.length : Int) - 1 - (i : Int) = (j : Int) := ⟨x.length - 1 - i, by omega⟩
   have hjn : j = x.length - 1 - i := by omega
   rw [hj, show (j : Int) - 1 = (x.length : Int) - 1 - ((i + 1 : Nat) : Int) from by omega, Int.toNat_natCast, Int.toNat_natCast]
   obtain ⟨e, rfl⟩ : ∃ e, d = e + 2 := ⟨d - 2, by omega⟩
   have ri : bH ByteArray.empty y (i : Int) = y[i] := jw y i (by omega)
   have rj : bH ByteArray.empty y (j : Int) = y[j] := jw y j (by omega)
   rw [ri, rj]
   refine ih e (by omega) (i + 1) k _ (by simp [hy]) (by omega) (by omega) ?_
   intro p hpx
   have hpi := hp i (by omega)
   have hpj := hp j (by omega)
   rw [if_neg (by omega), List.getElem?_eq_getElem (by omega : i < y.length)] at hpi
   rw [if_neg (by omega), List.getElem?_eq_getElem (by omega : j < y.length)] at hpj
   rw [List.getElem?_set, List.getElem?_set]
   by_cases c1 : j = p
   ·rw [if_pos c1, if_pos (by simp [hy]; omega), if_pos (by omega), hpi]
    congr 1; omega
   ·rw [if_neg c1]
    by_cases c2 : i = p
    ·rw [if_pos c2, if_pos (by omega), if_pos (by omega), hpj]
     congr 1; omega
    ·rw [if_neg c2, hp p hpx]
     by_cases c3 : p < i ∨ x.length - i ≤ p
     ·rw [if_pos c3, if_pos (by omega)]
     ·rw [if_neg c3, if_neg (by omega)]
  ·rw [if_neg h]
   congr 1
   apply List.ext_getElem?
   intro p
   by_cases hpx : p < x.length
   ·rw [hp p hpx, List.getElem?_reverse hpx]
    by_cases c3 : p < i ∨ x.length - i ≤ p
    ·rw [if_pos c3]
    ·rw [if_neg c3]; congr 1; omega
   ·rw [List.getElem?_eq_none (by omega), List.getElem?_eq_none (by simp; omega)]
theorem Iy (x : List ByteArray) (k : Nat) (hx : x.length ≤ 1000000) (hk : x.length + 2 ≤ k) : aQ.f k x = some x.reverse := by
 unfold aQ.f
 rw [bT (by omega) (by omega)]
 have := rev_at x hx (x.length + 1) 0 k x rfl (by omega) (by omega) (by intro p hp; rw [if_neg (by omega)])
 rw [show ((0 : Nat) : Int) = 0 from rfl, Int.sub_zero] at this
 exact this
def Ga (l m : List ByteArray) : Int := cmpL (l.map dH).reverse (m.map dH).reverse
theorem xG (l m : List ByteArray) (hl : good l) (hm : good m) (sl : (bE l).size ≤ 255) (sm : (bE m).size ≤ 255) (k : Nat) (hk : 300 ≤ k) : dI.f k (bE l) (bE m) = some (Ga l m) := by
 have nl := ku l hl
 have nm := ku m hm
 unfold dI.f
 rw [iX l hl sl, Option.bind_some, rA _ (ko hl) (by rw [size_map]; exact sl), Option.bind_some, iX m hm sm, Option.bind_some, rA _ (ko hm) (by rw [size_map]; exact sm), Option.bind_some, if_pos rfl]
 obtain ⟨k, rfl⟩ : ∃ j, k = j + 1 := ⟨k - 1, by omega⟩
 rw [dI.j0, if_neg (by show ¬ false = true; decide), Iy _ k (by rw [List.length_map]; omega) (by rw [List.length_map]; omega), Option.bind_some, Iy _ k (by rw [List.length_map]; omega) (by rw [List.length_map]; omega), Option.bind_some, Ki _ _ k (by simp; omega) (by simp; omega) (by simp; omega)]
 rfl
def jL (m : List ByteArray) : List ByteArray → Bool
 | [] => decide (([] : List ByteArray).map dH = m.map dH)
 | s :: t => decide ((s :: t).map dH = m.map dH) || jL m t
theorem zI (m : List ByteArray) (hm : good m) (sm : (bE m).size ≤ 255) : ∀ (l : List ByteArray) (k : Nat), good l → (bE l).size ≤ 255 → l.length + 3 ≤ k → bn.l0 k (bE l) (bE m) true = some (jL m l)
 | [], k, hl, sl, hk => by
  obtain ⟨k, rfl⟩ : ∃ j, k = j + 2 := ⟨k - 2, by omega⟩
  rw [bn.l0, if_pos rfl, sU [] m hl hm sl sm, Option.bind_some, uf [] hl sl, Option.bind_some]
  show (if decide (([] : List ByteArray).map dH = m.map dH) = true then _ else bn.l0 (k + 1) ⟨#[]⟩ (bE m) false) = _
  rw [bn.l0, if_neg (by decide : ¬ false = true), jL]
  cases decide (([] : List ByteArray).map dH = m.map dH) <;> simp
 | s :: t, k, hl, sl, hk => by
  obtain ⟨k, rfl⟩ : ∃ j, k = j + 1 := ⟨k - 1, by omega⟩
  have st := lT s t
  rw [bn.l0, if_pos rfl, sU (s :: t) m hl hm sl sm, Option.bind_some, uf (s :: t) hl sl, Option.bind_some]
  show (if _ then _ else bn.l0 k (bE t) (bE m) true) = _
  rw [zI m hm sm t k (fun s h => hl s (by simp [h])) (by omega) (by rw [List.length_cons] at hk; omega), jL]
  cases h : decide ((s :: t).map dH = m.map dH) <;> simp
theorem wL (l m : List ByteArray) (hl : good l) (hm : good m) (sl : (bE l).size ≤ 255) (sm : (bE m).size ≤ 255) (k : Nat) (hk : 300 ≤ k) : bn.f k (bE l) (bE m) = some (jL m l) := by
 have nl := ku l hl
 unfold bn.f
 rw [jG, kD hl sl, Option.bind_some, if_pos rfl, jG, kD hm sm, Option.bind_some]
 obtain ⟨k, rfl⟩ : ∃ j, k = j + 1 := ⟨k - 1, by omega⟩
 rw [bn.j0, if_neg (by decide)]
 exact zI m hm sm l k hl sl (by omega)
theorem Gd (s : ByteArray) (hs : s.size ≤ 1000000) : ∀ (d i k : Nat) (acc : List UInt8), i + d = s.size → d < k → acc.length + d ≤ 1000000 →
  bO.l0 k s (ji acc) (i : Int) = some (arr (acc ++ (s.data.toList.drop i).map low)) := by
 intro d
 induction d with
 | zero =>
  intro i k acc hi hk ha
  obtain ⟨k, rfl⟩ : ∃ j, k = j + 1 := ⟨k - 1, by omega⟩
  rw [bO.l0, if_neg (by omega), List.drop_of_length_le (by rw [bR]; omega), sN, List.map_nil, List.append_nil]
 | succ d ih =>
  intro i k acc hi hk ha
  obtain ⟨k, rfl⟩ : ∃ j, k = j + 1 := ⟨k - 1, by omega⟩
  have hlt : i < s.size := by omega
  rw [bO.l0, if_pos (by omega), if_pos (by omega), jF s i hlt, List.drop_eq_getElem_cons (by rw [bR]; exact hlt), List.map_cons]
  generalize s.data.toList[i]'(by rw [bR]; exact hlt) = c
  have hc := UInt8.toNat_lt c
  have step : ∀ x : UInt8, x = low c → ([(x.toNat : Int)] : List Int) = ji [low c] := by intro x h; rw [h]; rfl
  have fin := ih (i + 1) k (acc ++ [low c]) (by omega) (by omega) (by simp; omega)
  rw [List.append_assoc, List.singleton_append] at fin
  have hlen : (ji acc).length < 140737488355328 := by rw [EL]; omega
  by_cases h1 : 65 ≤ c.toNat
  ·by_cases h2 : c.toNat ≤ 90
   ·have e : (low c).toNat = c.toNat + 32 := by
     have : low c = UInt8.ofNat (c.toNat + 32) := by unfold low; rw [if_pos ⟨h1, h2⟩]
     rw [this, UInt8.toNat_ofNat']; omega
    have e2 : ([((c.toNat : Int) + 32) % 256] : List Int) = ji [low c] := by
     show _ = [((low c).toNat : Int)]
     rw [e]; congr 1; omega
    rw [if_pos (by omega), if_pos (by omega), if_pos hlen, e2, ← rJ, bT (by omega) (by omega)]
    exact fin
   ·have e : low c = c := by unfold low; rw [if_neg (by omega)]
    rw [if_pos (by omega), if_neg (by omega), if_pos hlen, step c e.symm, ← rJ, bT (by omega) (by omega)]
    exact fin
  ·have e : low c = c := by unfold low; rw [if_neg (by omega)]
   rw [if_neg (by omega), if_pos hlen, step c e.symm, ← rJ, bT (by omega) (by omega)]
   exact fin
theorem Jp (s : ByteArray) (k : Nat) (hs : s.size ≤ 1000000) (hk : s.size < k) : bO.f k s = some (dH s) := by
 unfold bO.f
 exact Gd s hs s.size 0 k [] (by omega) hk (by simp; omega)
theorem Dv (s : ByteArray) (hs : s.size ≤ 63) : strOfNums ([(s.size : Int) % 256] : List Int) ++ dH s = jl 1 (dH s) := by
 have e : ([(s.size : Int) % 256] : List Int) = ji (beB 1 (dH s).size) := by
  rw [kL, beB, beB, List.nil_append]
  simp only [ji, List.map_cons, List.map_nil, uJ]
  congr 1
 rw [e, sN]; rfl
theorem zG (l : List ByteArray) (hl : l.length ≤ 1000) (hs : ∀ s ∈ l, s.size ≤ 63) : ∀ (d i k : Nat), i + d = l.length → d + 100 ≤ k →
  aJ.l0 k l (mI ((l.map dH).take i)) (i : Int) = some (bE (l.map dH)) := by
 have hsz : ∀ i, (mI ((l.map dH).take i)).size ≤ 64 * i := by
  intro i
  have h := qI ((l.map dH).take i) (by
   intro s h
   obtain ⟨t, ht, rfl⟩ := List.mem_map.mp (List.mem_of_mem_take h)
   rw [kL]; exact hs t ht)
  rw [List.length_take] at h
  omega
 intro d
 induction d with
 | zero =>
  intro i k hi hk
  obtain ⟨k, rfl⟩ : ∃ j, k = j + 1 := ⟨k - 1, by omega⟩
  have := hsz i
  rw [aJ.l0, if_neg (by omega), if_pos (by omega), List.take_of_length_le (by rw [List.length_map]; omega), xZ]
 | succ d ih =>
  intro i k hi hk
  obtain ⟨k, rfl⟩ : ∃ j, k = j + 1 := ⟨k - 1, by omega⟩
  have hil : i < l.length := by omega
  have h63 := hs _ (List.getElem_mem hil)
  have h1 := hsz i
  have hp := Dv l[i] h63
  have hp2 : (strOfNums ([(l[i].size : Int) % 256] : List Int)).size + (dH l[i]).size = (jl 1 (dH l[i])).size := by rw [← hp, ByteArray.size_append]
  have hps := pI (dH l[i])
  rw [kL] at hps
  rw [aJ.l0, if_pos (by omega), if_pos (by omega), jw l i hil, Option.bind_some, Jp _ k (by omega) (by omega), Option.bind_some, hp2, hp, if_pos (by omega), if_pos (by omega), bT (by omega) (by omega)]
  have h2 := ih (i + 1) k (by omega) (by omega)
  rw [Gw (l.map dH) i (by rw [List.length_map]; exact hil), List.getElem_map] at h2
  exact h2
theorem jr (l : List ByteArray) (hg : good l) (sl : (bE l).size ≤ 255) (k : Nat) (hk : 700 ≤ k) : aJ.f k (bE l) = some (bE (l.map dH)) := by
 have ll := ku l hg
 unfold aJ.f
 rw [jP l k hg sl (by omega), Option.bind_some, if_pos rfl]
 exact zG l (by omega) (fun s h => (hg s h).2) l.length 0 k (by omega) (by omega)
theorem mW (n : ByteArray) (h : bC n = false) (k : Nat) (hk : 700 ≤ k) : aJ.f k n = some ⟨#[]⟩ := by
 unfold aJ.f
 obtain ⟨l, e⟩ := qD n k h (by omega)
 rw [e, Option.bind_some, if_neg (by decide : ¬ false = true)]
theorem DT : bC ⟨#[]⟩ = false := by kernel_rfl
theorem Ic (a b : ByteArray) (h : bC a = false ∨ bC b = false) : dx.f a b = some false := by
 unfold dx.f
 rw [jG, Option.bind_some]
 cases ha : bC a with
 | false => rw [if_neg (by decide)]
 | true =>
  rw [if_pos rfl, jG, Option.bind_some, if_neg (by rcases h with h | h <;> simp_all)]
theorem Eb (x : List ByteArray) (i : Nat) (h : i < x.length) (hx : x.length ≤ 1000) : bH ByteArray.empty x (wrap64 ((x.length : Int) - ((i + 1 : Nat) : Int))) = x.reverse[i]'(by rw [List.length_reverse]; exact h) := by
 rw [bT (by omega) (by omega), show (x.length : Int) - ((i + 1 : Nat) : Int) = ((x.length - 1 - i : Nat) : Int) from by omega, jw x _ (by omega), List.getElem_reverse]
theorem II (x y : List ByteArray) (hx : x.length ≤ 1000) (hy : y.length ≤ 1000) : ∀ (d i k : Nat), i + d = x.length → i ≤ y.length → 2 * d + 3 ≤ k →
  aM.l0 k x y ((i + 1 : Nat) : Int) = some (cmpL (x.reverse.drop i) (y.reverse.drop i)) := by
 intro d
 induction d with
 | zero =>
  intro i k hi hiy hk
  obtain ⟨k, rfl⟩ : ∃ j, k = j + 2 := ⟨k - 2, by omega⟩
  rw [aM.l0, if_neg (by omega), aM.j2, if_neg (by decide), List.drop_of_length_le (by rw [List.length_reverse]; omega : x.reverse.length ≤ i)]
  by_cases h : i = y.length
  ·rw [if_neg (by omega), if_neg (by omega), List.drop_of_length_le (by rw [List.length_reverse]; omega)]; rfl
  ·rw [if_pos (by omega), List.drop_eq_getElem_cons (by rw [List.length_reverse]; omega : i < y.reverse.length)]; rfl
 | succ d ih =>
  intro i k hi hiy hk
  obtain ⟨k, rfl⟩ : ∃ j, k = j + 2 := ⟨k - 2, by omega⟩
  have hix : i < x.length := by omega
  rw [aM.l0, if_pos (by omega), List.drop_eq_getElem_cons (by rw [List.length_reverse]; exact hix : i < x.reverse.length)]
  by_cases h : i < y.length
  ·rw [decide_eq_true (by omega), aM.j2, if_pos rfl, if_pos (by rw [bT (by omega) (by omega)]; omega), if_pos (by rw [bT (by omega) (by omega)]; omega), if_pos (by rw [bT (by omega) (by omega)]; omega), if_pos (by rw [bT (by omega) (by omega)]; omega), Eb x i hix hx, Eb y i h hy, List.drop_eq_getElem_cons (by rw [List.length_reverse]; exact h : i < y.reverse.length), cmpL]
   generalize x.reverse[i]'(by rw [List.length_reverse]; exact hix) = a
   generalize y.reverse[i]'(by rw [List.length_reverse]; exact h) = b
   rcases lS a.toList b.toList with ⟨h1, e⟩ | ⟨h1, e⟩ | ⟨h1, e⟩
   ·rw [if_pos h1, if_neg (by omega), e]
   ·rw [h1, nI, if_neg (by decide), if_neg (by decide), oq, if_pos rfl, bT (by omega) (by omega)]
    exact ih (i + 1) k (by omega) (by omega) (by omega)
   ·rw [zD _ _ h1, if_neg (by decide), if_pos h1, if_neg (by omega), e]
  ·rw [decide_eq_false (by omega), aM.j2, if_neg (by decide), if_neg (by omega), if_pos (by omega), List.drop_of_length_le (by rw [List.length_reverse]; omega : y.reverse.length ≤ i)]; rfl
theorem zZ (l m : List ByteArray) (hl : good l) (hm : good m) (sl : (bE l).size ≤ 255) (sm : (bE m).size ≤ 255) (k : Nat) (hk : 1000 ≤ k) : aM.f k (bE l) (bE m) = some (Ga l m) := by
 have nl := ku l hl
 have nm := ku m hm
 unfold aM.f
 rw [jr l hl sl k (by omega), Option.bind_some, jP _ k (ko hl) (by rw [size_map]; exact sl) (by omega), Option.bind_some, jr m hm sm k (by omega), Option.bind_some, jP _ k (ko hm) (by rw [size_map]; exact sm) (by omega), Option.bind_some, if_pos rfl]
 obtain ⟨k, rfl⟩ : ∃ j, k = j + 1 := ⟨k - 1, by omega⟩
 rw [aM.j0, if_neg (by show ¬ false = true; decide)]
 have h := II (l.map dH) (m.map dH) (by rw [List.length_map]; omega) (by rw [List.length_map]; omega) (l.map dH).length 0 k (by omega) (by omega) (by rw [List.length_map]; omega)
 exact h
theorem BG (n : ByteArray) (k : Nat) (hk : 700 ≤ k) : ∃ f, aJ.f k n = some f ∧ ∃ l ok, aH.f k f = some (l, ok) ∧ (bC n = false → ok = false) := by
 cases hn : bC n with
 | false =>
  obtain ⟨l, e⟩ := qD ⟨#[]⟩ k DT (by omega)
  exact ⟨_, mW n hn k hk, _, _, e, fun _ => rfl⟩
 | true =>
  obtain ⟨l, hg, rfl, hs⟩ := (jX n).mp hn
  exact ⟨_, jr l hg hs k hk, _, _, jP _ k (ko hg) (by rw [size_map]; exact hs) (by omega), fun h => absurd h (by decide)⟩
theorem rO (m : List ByteArray) : ∀ l, jL m l = decide (m.map dH <:+ l.map dH)
 | [] => by
  rw [jL]; apply decide_eq_decide.2
  rw [List.map_nil, List.suffix_nil]; exact eq_comm
 | s :: t => by
  rw [jL, rO m t, ← Bool.decide_or]
  apply decide_eq_decide.2
  rw [List.map_cons, List.suffix_cons_iff]
  exact or_congr eq_comm Iff.rfl
theorem Bb (x : List ByteArray) (i : Nat) (h : i < x.length) (hx : x.length ≤ 1000) : bH ByteArray.empty x (wrap64 ((wrap64 ((x.length : Int) - 1)) - (i : Int))) = x.reverse[i]'(by rw [List.length_reverse]; exact h) := by
 rw [bT (x := (x.length : Int) - 1) (by omega) (by omega), bT (by omega) (by omega), show (x.length : Int) - 1 - (i : Int) = ((x.length - 1 - i : Nat) : Int) from by omega, jw x _ (by omega), List.getElem_reverse]
theorem EM (x y : List ByteArray) (hx : x.length ≤ 1000) (hxy : y.length ≤ x.length) : ∀ (d i k : Nat), i + d = y.length → d + 1 ≤ k →
  aK.l0 k x y (i : Int) = some (decide (y.reverse.drop i <+: x.reverse.drop i)) := by
 intro d
 induction d with
 | zero =>
  intro i k hi hk
  obtain ⟨k, rfl⟩ : ∃ j, k = j + 1 := ⟨k - 1, by omega⟩
  rw [aK.l0, if_neg (by omega), List.drop_of_length_le (by rw [List.length_reverse]; omega : y.reverse.length ≤ i), decide_eq_true (List.nil_prefix)]
 | succ d ih =>
  intro i k hi hk
  obtain ⟨k, rfl⟩ : ∃ j, k = j + 1 := ⟨k - 1, by omega⟩
  have hiy : i < y.length := by omega
  have hix : i < x.length := by omega
  have wx : wrap64 ((wrap64 ((x.length : Int) - 1)) - (i : Int)) = ((x.length - 1 - i : Nat) : Int) := by rw [bT (x := (x.length : Int) - 1) (by omega) (by omega), bT (by omega) (by omega)]; omega
  have wy : wrap64 ((wrap64 ((y.length : Int) - 1)) - (i : Int)) = ((y.length - 1 - i : Nat) : Int) := by rw [bT (x := (y.length : Int) - 1) (by omega) (by omega), bT (by omega) (by omega)]; omega
  rw [aK.l0, if_pos (by omega), Bb x i hix hx, Bb y i hiy (by omega), wx, wy, if_pos (by omega), if_pos (by omega), if_pos (by omega), if_pos (by omega), List.drop_eq_getElem_cons (by rw [List.length_reverse]; exact hix : i < x.reverse.length), List.drop_eq_getElem_cons (by rw [List.length_reverse]; exact hiy : i < y.reverse.length)]
  generalize x.reverse[i]'(by rw [List.length_reverse]; exact hix) = a
  generalize y.reverse[i]'(by rw [List.length_reverse]; exact hiy) = b
  by_cases h : a = b
  ·subst h
   rw [if_pos rfl, bT (by omega) (by omega), show (i : Int) + 1 = ((i + 1 : Nat) : Int) from by omega, ih (i + 1) k (by omega) (by omega)]
   congr 1
   apply decide_eq_decide.2
   rw [List.cons_prefix_cons]
   exact ⟨fun h => ⟨rfl, h⟩, fun h => h.2⟩
  ·rw [if_neg (fun e => h (toList_inj.mp e)), decide_eq_false]
   rw [List.cons_prefix_cons]
   rintro ⟨e, _⟩
   exact h e.symm
theorem Dk (l m : List ByteArray) (hl : good l) (hm : good m) (sl : (bE l).size ≤ 255) (sm : (bE m).size ≤ 255) (k : Nat) (hk : 1000 ≤ k) : aK.f k (bE l) (bE m) = some (jL m l) := by
 have nl := ku l hl
 have nm := ku m hm
 unfold aK.f
 rw [jr l hl sl k (by omega), Option.bind_some, jP _ k (ko hl) (by rw [size_map]; exact sl) (by omega), Option.bind_some, jr m hm sm k (by omega), Option.bind_some, jP _ k (ko hm) (by rw [size_map]; exact sm) (by omega), Option.bind_some, if_pos rfl, if_pos rfl]
 obtain ⟨k, rfl⟩ : ∃ j, k = j + 1 := ⟨k - 1, by omega⟩
 rw [rO]
 show aK.j0 (k + 1) (l.map dH) (m.map dH) (decide (((l.map dH).length : Int) < ((m.map dH).length : Int))) = _
 by_cases h : (m.map dH).length ≤ (l.map dH).length
 ·rw [decide_eq_false (by omega), aK.j0, if_neg (by decide)]
  have := EM (l.map dH) (m.map dH) (by rw [List.length_map]; omega) h (m.map dH).length 0 k (by omega) (by rw [List.length_map]; omega)
  refine this.trans ?_
  congr 1
  apply decide_eq_decide.2
  rw [List.drop_zero, List.drop_zero, List.reverse_prefix]
 ·rw [decide_eq_true (by omega), aK.j0, if_pos rfl]
  congr 1
  symm
  apply decide_eq_false
  intro hs
  exact h hs.length_le
theorem uz (a b : ByteArray) (h : bC a = false ∨ bC b = false) (k : Nat) (hk : 2 ≤ k) : bn.f k a b = some false := by
 obtain ⟨k, rfl⟩ : ∃ j, k = j + 1 := ⟨k - 1, by omega⟩
 unfold bn.f
 rw [jG, Option.bind_some]
 cases ha : bC a with
 | false => rw [if_neg (by decide), bn.j0, if_pos rfl]
 | true =>
  have hb : bC b = false := by
   rcases h with h | h
   ·rw [ha] at h; exact absurd h (by decide)
   ·exact h
  rw [if_pos rfl, jG, Option.bind_some, hb, bn.j0, if_pos (by decide)]
theorem Fa (a b : ByteArray) (h : bC a = false ∨ bC b = false) (k : Nat) (hk : 1000 ≤ k) : aK.f k a b = some false := by
 obtain ⟨f, e1, l, ok, e2, e3⟩ := BG a k (by omega)
 obtain ⟨f', e1', l', ok', e2', e3'⟩ := BG b k (by omega)
 unfold aK.f
 rw [e1, Option.bind_some, e2, Option.bind_some, e1', Option.bind_some, e2', Option.bind_some]
 obtain ⟨k, rfl⟩ : ∃ j, k = j + 1 := ⟨k - 1, by omega⟩
 show (if ok = true then (if ok' = true then aK.j0 (k + 1) l l' _ else aK.j0 (k + 1) l l' true) else aK.j0 (k + 1) l l' true) = _
 cases ok with
 | false => rw [if_neg (by decide), aK.j0, if_pos rfl]
 | true =>
  have hb : bC b = false := by
   rcases h with h | h
   ·exact absurd (e3 h) (by decide)
   ·exact h
  rw [if_pos rfl, e3' hb, if_neg (by decide), aK.j0, if_pos rfl]
end Go.Y.dY
namespace Go.Y.bY
variable {α : Type}
structure dV (c : α → α → Int) : Prop where
 vals : ∀ a b, c a b = -1 ∨ c a b = 0 ∨ c a b = 1
 flip : ∀ a b, c b a = - c a b
 cong : ∀ a b d, c a b = 0 → c a d = c b d
 trans : ∀ a b d, c a b < 0 → c b d < 0 → c a d < 0
namespace dV
variable {c : α → α → Int} (O : dV c)
include O
theorem refl (a : α) : c a a = 0 := by have := O.flip a a; omega
theorem symm {a b : α} (h : c a b = 0) : c b a = 0 := by have := O.flip a b; omega
theorem congr (a b d : α) (h : c a b = 0) : c d a = c d b := by have h1 := O.cong a b d h; have h2 := O.flip a d; have h3 := O.flip b d; omega
theorem lt_of_lt_of_eq {a b d : α} (h : c a b < 0) (h' : c b d = 0) : c a d < 0 := by rw [← O.congr b d a h']; exact h
theorem lt_of_eq_of_lt {a b d : α} (h : c a b = 0) (h' : c b d < 0) : c a d < 0 := by rw [O.cong a b d h]; exact h'
theorem le_trans {a b d : α} (h : c a b ≤ 0) (h' : c b d ≤ 0) : c a d ≤ 0 := by
 by_cases e : c a b = 0
 ·rw [O.cong a b d e]; exact h'
 ·by_cases e' : c b d = 0
  ·rw [← O.congr b d a e']; exact h
  ·have := O.trans a b d (by omega) (by omega); omega
theorem zW {a b : α} (h : c a b ≤ 0) (h' : c b a ≤ 0) : c a b = 0 := by have := O.flip a b; omega
end dV
def cls (c : α → α → Int) (l : List α) (x : α) : List α := l.filter fun y => decide (c x y = 0)
def Sorted (c : α → α → Int) (l : List α) : Prop := l.Pairwise fun a b => c a b ≤ 0
def gG (c : α → α → Int) (l : List α) : Prop := l.Pairwise fun a b => c a b < 0
theorem gG.sorted {c : α → α → Int} {l : List α} (h : gG c l) : Sorted c l := h.imp fun h => by omega
theorem wY (c : α → α → Int) (x : α) : cls c [] x = [] := rfl
theorem fM (c : α → α → Int) (y : α) (l : List α) (x : α) : cls c (y :: l) x = if c x y = 0 then y :: cls c l x else cls c l x := by
 unfold cls; rw [List.filter_cons]; simp only [decide_eq_true_eq]
theorem eZ (c : α → α → Int) (l m : List α) (x : α) : cls c (l ++ m) x = cls c l x ++ cls c m x := List.filter_append ..
theorem lu {c : α → α → Int} {l : List α} {x y : α} : y ∈ cls c l x ↔ y ∈ l ∧ c x y = 0 := by unfold cls; rw [List.mem_filter]; simp
theorem Az (c : α → α → Int) (l : List α) (x : α) : cls c l.reverse x = (cls c l x).reverse := by unfold cls; rw [List.filter_reverse]
theorem kX {c : α → α → Int} {l : List α} {x : α} (h : ∀ y ∈ l, ¬ c x y = 0) : cls c l x = [] := by
 unfold cls; rw [List.filter_eq_nil_iff]; intro y hy; simpa using h y hy
theorem nJ {c : α → α → Int} (O : dV c) (l : List α) {x y : α} (h : c x y = 0) : cls c l x = cls c l y := by
 unfold cls; congr 1; funext z; rw [O.cong x y z h]
theorem qO {c : α → α → Int} (O : dV c) : ∀ (l m : List α), Sorted c l → Sorted c m → (∀ x, cls c l x = cls c m x) → l = m := by
 intro l
 induction l with
 | nil =>
  intro m _ _ h
  cases m with
  | nil => rfl
  | cons y m => have := h y; rw [wY, fM, if_pos (O.refl y)] at this; cases this
 | cons a l ih =>
  intro m hl hm h
  cases m with
  | nil => have := h a; rw [wY, fM, if_pos (O.refl a)] at this; cases this
  | cons b m =>
   have hl' := List.pairwise_cons.mp hl
   have hm' := List.pairwise_cons.mp hm
   have ha : a ∈ b :: m := by
    have h1 := h a
    have h2 : a ∈ cls c (b :: m) a := by rw [← h1]; exact lu.mpr ⟨List.mem_cons_self .., O.refl a⟩
    exact (lu.mp h2).1
   have hb : b ∈ a :: l := by
    have h1 := h b
    have h2 : b ∈ cls c (a :: l) b := by rw [h1]; exact lu.mpr ⟨List.mem_cons_self .., O.refl b⟩
    exact (lu.mp h2).1
   have hab : c a b ≤ 0 := by
    rcases List.mem_cons.mp hb with e | e
    ·rw [e, O.refl]; omega
    ·exact hl'.1 b e
   have hba : c b a ≤ 0 := by
    rcases List.mem_cons.mp ha with e | e
    ·rw [e, O.refl]; omega
    ·exact hm'.1 a e
   have h0 := O.zW hab hba
   have h1 := h a
   rw [fM, if_pos (O.refl a), fM, if_pos h0] at h1
   obtain ⟨rfl, _⟩ := List.cons.inj h1
   congr 1
   refine ih m hl'.2 hm'.2 fun x => ?_
   have h2 := h x
   rw [fM, fM] at h2
   split at h2
   ·exact (List.cons.inj h2).2
   ·exact h2
theorem sK {c : α → α → Int} (O : dV c) {a : α} {l : List α} (h : gG c (a :: l)) : cls c l a = [] :=
 kX fun y hy h0 => by have := (List.pairwise_cons.mp h).1 y hy; omega
theorem wS {c : α → α → Int} (O : dV c) : ∀ {l : List α} (_ : gG c l) {x y : α} (_ : y ∈ l) (_ : c x y = 0), cls c l x = [y] := by
 intro l
 induction l with
 | nil => intro _ x y hy; cases hy
 | cons a l ih =>
  intro h x y hy h0
  rw [fM]
  rcases List.mem_cons.mp hy with rfl | hy
  ·rw [if_pos h0, nJ O l h0, sK O h]
  ·have hlt := (List.pairwise_cons.mp h).1 y hy
   rw [if_neg (fun e => by have h1 := O.cong x a y e; omega)]
   exact ih (List.pairwise_cons.mp h).2 hy h0
theorem nQ {c : α → α → Int} (O : dV c) {l : List α} (h : gG c l) (x : α) : cls c l x = [] ∨ ∃ y, y ∈ l ∧ c x y = 0 ∧ cls c l x = [y] := by
 by_cases he : ∃ y ∈ l, c x y = 0
 ·obtain ⟨y, hy, h0⟩ := he
  exact .inr ⟨y, hy, h0, wS O h hy h0⟩
 ·exact .inl (kX fun y hy h0 => he ⟨y, hy, h0⟩)
theorem vP {c : α → α → Int} (O : dV c) {l m : List α} (hl : gG c l) (hm : gG c m) (h : ∀ x, cls c l x = cls c m x) : l = m := qO O l m hl.sorted hm.sorted h
theorem vv {c : α → α → Int} (O : dV c) {l m : List α} (h : ∀ x, cls c l x = cls c m x) {y : α} (hy : y ∈ l) : y ∈ m := by
 have h1 : y ∈ cls c l y := lu.mpr ⟨hy, O.refl y⟩
 rw [h] at h1
 exact (lu.mp h1).1
def put (c : α → α → Int) : List α → α → List α
 | [], r => [r]
 | y :: l, r => if c r y < 0 then r :: y :: l else if c r y = 0 then r :: l else y :: put c l r
theorem pX {c : α → α → Int} : ∀ {l : List α} {r y : α}, y ∈ put c l r → y = r ∨ y ∈ l := by
 intro l
 induction l with
 | nil => intro r y h; simpa [put] using h
 | cons a l ih =>
  intro r y h
  rw [put] at h
  split at h
  ·exact List.mem_cons.mp h
  ·split at h
   ·rcases List.mem_cons.mp h with h | h
    ·exact .inl h
    ·exact .inr (List.mem_cons_of_mem _ h)
   ·rcases List.mem_cons.mp h with h | h
    ·exact .inr (by rw [h]; exact List.mem_cons_self ..)
    ·rcases ih h with h | h
     ·exact .inl h
     ·exact .inr (List.mem_cons_of_mem _ h)
theorem qm {c : α → α → Int} (O : dV c) : ∀ {l : List α} (_ : gG c l) (r : α), gG c (put c l r) := by
 intro l
 induction l with
 | nil => intro _ r; exact List.pairwise_singleton _ _
 | cons a l ih =>
  intro h r
  have h' := List.pairwise_cons.mp h
  rw [put]
  split
  ·rename_i hlt
   refine List.pairwise_cons.mpr ⟨fun y hy => ?_, h⟩
   rcases List.mem_cons.mp hy with rfl | hy
   ·exact hlt
   ·exact O.trans _ _ _ hlt (h'.1 y hy)
  ·split
   ·rename_i _ h0
    refine List.pairwise_cons.mpr ⟨fun y hy => ?_, h'.2⟩
    exact O.lt_of_eq_of_lt h0 (h'.1 y hy)
   ·rename_i h1 h2
    refine List.pairwise_cons.mpr ⟨fun y hy => ?_, ih h'.2 r⟩
    rcases pX hy with rfl | hy
    ·have := O.flip y a; omega
    ·exact h'.1 y hy
theorem Jj {c : α → α → Int} (O : dV c) : ∀ {l : List α} (_ : gG c l) (r x : α), cls c (put c l r) x = if c x r = 0 then [r] else cls c l x := by
 intro l
 induction l with
 | nil => intro _ r x; rw [put, fM, wY]
 | cons a l ih =>
  intro h r x
  have h' := List.pairwise_cons.mp h
  rw [put]
  split
  ·rename_i hlt
   rw [fM]
   split
   ·rename_i h0
    rw [nJ O _ h0, kX fun y hy h1 => ?_]
    rcases List.mem_cons.mp hy with rfl | hy
    ·omega
    ·have := O.trans _ _ _ hlt (h'.1 y hy); omega
   ·rfl
  ·split
   ·rename_i _ h0
    rw [fM, fM]
    split
    ·rename_i hx
     rw [nJ O l hx, nJ O l h0, sK O h]
    ·rename_i hx
     rw [if_neg (fun e => hx (by rw [O.congr r a x h0]; exact e))]
   ·rename_i h1 h2
    rw [fM, ih h'.2, fM]
    split
    ·rename_i hx
     rw [if_neg (fun e => h2 (by rw [← O.cong x r a e]; exact hx)), if_neg (fun e => h2 (by rw [← O.cong x r a e]; exact hx))]
    ·rfl
def drop (c : α → α → Int) (l : List α) (r : α) : List α := l.filter fun y => !decide (c r y = 0)
def find (c : α → α → Int) (l : List α) (r : α) : Option α := (cls c l r).head?
theorem qN {c : α → α → Int} (O : dV c) {l : List α} (h : gG c l) (r x : α) : find c (put c l r) x = if c x r = 0 then some r else find c l x := by
 unfold find; rw [Jj O h]; split <;> rfl
theorem uS {c : α → α → Int} {l : List α} {x y : α} (h : find c l x = some y) : y ∈ l ∧ c x y = 0 := by
 unfold find at h
 have : y ∈ cls c l x := List.mem_of_mem_head? h
 exact lu.mp this
theorem Ak {c : α → α → Int} (O : dV c) {l : List α} (h : gG c l) {x y : α} (hy : y ∈ l) (h0 : c x y = 0) : find c l x = some y := by
 unfold find; rw [wS O h hy h0]; rfl
theorem yB {c : α → α → Int} {l : List α} {x : α} : find c l x = none ↔ ∀ y ∈ l, ¬ c x y = 0 := by
 unfold find
 rw [List.head?_eq_none_iff]
 constructor
 ·intro h y hy h0
  have : y ∈ cls c l x := lu.mpr ⟨hy, h0⟩
  rw [h] at this; cases this
 ·exact fun h => kX h
theorem Au {c : α → α → Int} (O : dV c) {l m : List α} (hl : gG c l) (hm : gG c m) (h : ∀ x, find c l x = find c m x) : l = m := by
 refine vP O hl hm fun x => ?_
 have h1 := h x
 unfold find at h1
 rcases nQ O hl x with e | ⟨y, _, _, e⟩ <;> rcases nQ O hm x with e' | ⟨z, _, _, e'⟩ <;> rw [e, e'] at h1 ⊢ <;> simp at h1 ⊢ <;> exact h1
theorem ER {c : α → α → Int} {l : List α} {r : α} (h : find c l r = none) : drop c l r = l := by
 unfold drop
 rw [List.filter_eq_self]
 intro y hy
 have := yB.mp h y hy
 simp [this]
theorem drop_drop {c : α → α → Int} (l : List α) (r : α) : drop c (drop c l r) r = drop c l r := by unfold drop; rw [List.filter_filter]; simp
theorem vY {c : α → α → Int} (O : dV c) : ∀ {l : List α} (_ : gG c l) (r : α), (put c l r).length = (drop c l r).length + 1 := by
 intro l
 induction l with
 | nil => intro _ r; rfl
 | cons a l ih =>
  intro h r
  have h' := List.pairwise_cons.mp h
  have hd : ∀ x, ¬ c x a = 0 → drop c (a :: l) x = a :: drop c l x := fun x hx => by unfold drop; rw [List.filter_cons]; simp [hx]
  rw [put]
  split
  ·rename_i hlt
   have : drop c (a :: l) r = a :: l := ER (yB.mpr fun y hy => by
    rcases List.mem_cons.mp hy with rfl | hy
    ·omega
    ·have := O.trans _ _ _ hlt (h'.1 y hy); omega)
   rw [this]; rfl
  ·split
   ·rename_i _ h0
    have : drop c (a :: l) r = l := by
     unfold drop
     rw [List.filter_cons]
     simp only [h0, decide_true, Bool.not_true, Bool.false_eq_true, if_false]
     have : ∀ y ∈ l, ¬ c r y = 0 := fun y hy => by have := O.lt_of_eq_of_lt h0 (h'.1 y hy); omega
     rw [List.filter_eq_self]; intro y hy; simp [this y hy]
    rw [this]; rfl
   ·rename_i h1 h2
    rw [hd r h2, List.length_cons, List.length_cons, ih h'.2]
def ofL (c : α → α → Int) (l : List α) : List α := l.foldl (put c) []
theorem foldl_set {c : α → α → Int} (O : dV c) : ∀ (l m : List α), gG c m → gG c (l.foldl (put c) m) := by
 intro l
 induction l with
 | nil => intro m h; exact h
 | cons a l ih => intro m h; exact ih _ (qm O h a)
theorem lN {c : α → α → Int} (O : dV c) (l : List α) : gG c (ofL c l) := foldl_set O l [] List.Pairwise.nil
theorem Ct {c : α → α → Int} (O : dV c) : ∀ (l m : List α), gG c m → ∀ x, find c (l.foldl (put c) m) x = (cls c l x).getLast?.or (find c m x) := by
 intro l
 induction l with
 | nil => intro m _ x; rfl
 | cons a l ih =>
  intro m h x
  rw [List.foldl_cons, ih _ (qm O h a), qN O h, fM]
  split
  ·cases hq : cls c l x with
   | nil => rfl
   | cons y t => rw [List.getLast?_cons_cons]; simp [List.getLast?_cons]
  ·rfl
theorem GA {c : α → α → Int} (O : dV c) (l : List α) (x : α) : find c (ofL c l) x = (cls c l x).getLast? := by
 unfold ofL
 rw [Ct O l [] List.Pairwise.nil]
 cases (cls c l x).getLast? <;> rfl
def firsts (c : α → α → Int) : List α → List α
 | [] => []
 | [a] => [a]
 | a :: b :: l => if c a b = 0 then firsts c (a :: l) else a :: firsts c (b :: l)
termination_by l => l.length
theorem CU {c : α → α → Int} : ∀ (n : Nat) (l : List α), l.length = n → ∀ y ∈ firsts c l, y ∈ l := by
 intro n
 induction n with
 | zero => intro l h y hy; obtain rfl := List.length_eq_zero_iff.mp h; rw [firsts] at hy; exact hy
 | succ n ih =>
  intro l h y hy
  match l, h with
  | [a], _ => rw [firsts] at hy; exact hy
  | a :: b :: l, h =>
   rw [firsts] at hy
   split at hy
   ·have := ih (a :: l) (by simpa using h) y hy
    rcases List.mem_cons.mp this with e | e
    ·rw [e]; exact List.mem_cons_self ..
    ·exact List.mem_cons_of_mem _ (List.mem_cons_of_mem _ e)
   ·rcases List.mem_cons.mp hy with e | e
    ·rw [e]; exact List.mem_cons_self ..
    ·exact List.mem_cons_of_mem _ (ih (b :: l) (by simpa using h) y e)
theorem CW {c : α → α → Int} (O : dV c) : ∀ (n : Nat) (l : List α), l.length = n → Sorted c l → gG c (firsts c l) ∧ ∀ x, cls c (firsts c l) x = (cls c l x).head?.toList := by
 intro n
 induction n with
 | zero => intro l h _; obtain rfl := List.length_eq_zero_iff.mp h; rw [firsts]; exact ⟨List.Pairwise.nil, fun x => rfl⟩
 | succ n ih =>
  intro l h hs
  match l, h with
  | [a], _ =>
   rw [firsts]
   refine ⟨List.pairwise_singleton _ _, fun x => ?_⟩
   rw [fM]; split <;> rfl
  | a :: b :: l, h =>
   have hs' := List.pairwise_cons.mp hs
   rw [firsts]
   split
   ·rename_i h0
    have hsa : Sorted c (a :: l) := List.pairwise_cons.mpr ⟨fun y hy => hs'.1 y (List.mem_cons_of_mem _ hy), (List.pairwise_cons.mp hs'.2).2⟩
    obtain ⟨h1, h2⟩ := ih (a :: l) (by simpa using h) hsa
    refine ⟨h1, fun x => ?_⟩
    rw [h2, fM, fM c a (b :: l)]
    split
    ·rfl
    ·rename_i hx
     rw [fM, if_neg (fun e => hx (by rw [O.congr a b x h0]; exact e))]
   ·rename_i h0
    obtain ⟨h1, h2⟩ := ih (b :: l) (by simpa using h) hs'.2
    have hab : c a b < 0 := by have := hs'.1 b (List.mem_cons_self ..); omega
    have hall : ∀ y ∈ b :: l, c a y < 0 := fun y hy => by
     rcases List.mem_cons.mp hy with rfl | hy
     ·exact hab
     ·have h3 := (List.pairwise_cons.mp hs'.2).1 y hy
      by_cases e : c b y = 0
      ·exact O.lt_of_lt_of_eq hab e
      ·exact O.trans _ _ _ hab (by omega)
    refine ⟨List.pairwise_cons.mpr ⟨fun y hy => hall y (CU _ _ rfl y hy), h1⟩, fun x => ?_⟩
    rw [fM, h2, fM c a (b :: l)]
    split
    ·rename_i hx
     rw [nJ O _ hx, kX fun y hy e => by have := hall y hy; omega]; rfl
    ·rfl
def cZ (c : α → α → Int) (l m : List α) : Prop := Sorted c m ∧ ∀ x, cls c m x = cls c l x
theorem cZ.unique {c : α → α → Int} (O : dV c) {l m m' : List α} (h : cZ c l m) (h' : cZ c l m') : m = m' := qO O _ _ h.1 h'.1 fun x => (h.2 x).trans (h'.2 x).symm
theorem xL {c : α → α → Int} (O : dV c) {l m : List α} (h : cZ c l.reverse m) : firsts c m = ofL c l := by
 obtain ⟨h1, h2⟩ := CW O _ m rfl h.1
 refine Au O h1 (lN O l) fun x => ?_
 rw [GA O]
 unfold find
 rw [h2, h.2, Az, List.head?_reverse]
 cases (cls c l x).getLast? <;> rfl
end Go.Y.bY
namespace Go.Y.bY
open Go.Y.dY
def kF {α : Type} (c d : α → α → Int) (a b : α) : Int := if c a b = 0 then d a b else c a b
theorem dV.kF {α : Type} {c d : α → α → Int} (C : dV c) (D : dV d) : dV (kF c d) where
 vals a b := by
  unfold bY.kF; split
  ·exact D.vals a b
  ·exact C.vals a b
 flip a b := by
  have h := C.flip a b
  unfold bY.kF
  by_cases e : c a b = 0
  ·rw [if_pos e, if_pos (by omega)]; exact D.flip a b
  ·rw [if_neg e, if_neg (by omega)]; exact h
 cong a b e h := by
  unfold bY.kF at h ⊢
  by_cases e1 : c a b = 0
  ·rw [if_pos e1] at h
   rw [C.cong a b e e1, D.cong a b e h]
  ·rw [if_neg e1] at h; exact absurd h e1
 trans a b e h1 h2 := by
  unfold bY.kF at h1 h2 ⊢
  by_cases e1 : c a b = 0
  ·rw [if_pos e1] at h1
   by_cases e2 : c b e = 0
   ·rw [if_pos e2] at h2
    rw [if_pos (by rw [C.cong a b e e1]; exact e2)]
    exact D.trans a b e h1 h2
   ·rw [if_neg e2] at h2
    have : c a e < 0 := C.lt_of_eq_of_lt e1 h2
    rw [if_neg (by omega)]; exact this
  ·rw [if_neg e1] at h1
   by_cases e2 : c b e = 0
   ·have : c a e < 0 := C.lt_of_lt_of_eq h1 e2
    rw [if_neg (by omega)]; exact this
   ·rw [if_neg e2] at h2
    have := C.trans a b e h1 h2
    rw [if_neg (by omega)]; exact this
theorem dV.pull {α β : Type} {c : β → β → Int} (O : Ord c) (f : α → β) : dV (fun a b => c (f a) (f b)) where
 vals a b := O.vals _ _
 flip a b := O.flip _ _
 cong a b d h := by rw [O.zero _ _ h]
 trans a b d h1 h2 := O.trans _ _ _ h1 h2
def pG (a b : Int) : Int := if a < b then -1 else if a > b then 1 else 0
theorem yZ : Ord pG where
  vals a b := by unfold pG; repeat' split
                 all_goals omega
  flip a b := by unfold pG; repeat' split
                 all_goals omega
  zero a b h := by unfold pG at h; revert h; repeat' split
                   all_goals (intro h; omega)
  self a := by unfold pG; rw [if_neg (by omega), if_neg (by omega)]
  trans a b d h1 h2 := by
    unfold pG at h1 h2 ⊢
    have e1 : a < b := by by_cases h : a < b; exact h; rw [if_neg h] at h1; split at h1 <;> omega
    have e2 : b < d := by by_cases h : b < d; exact h; rw [if_neg h] at h2; split at h2 <;> omega
    rw [if_pos (by omega)]; omega
end Go.Y.bY
namespace Go.Y.lV
open Go.Y.PRd Go.Proofs.ah.av Go.Proofs.ah.aT Go.Proofs.ah.aU Go.Y.Given Go.Y.Oct Go.Y.Name Go.Y.dY
theorem qH {n : ByteArray} (h : bC n = true) : n.size ≤ 255 := by
 unfold bC at h
 exact of_decide_eq_true (Bool.and_eq_true_iff.mp h).1
def by8 (m : ByteArray) (i : Nat) : Nat := (m.data.toList.getD i 0).toNat
theorem qj (m : ByteArray) (i : Nat) : by8 m i < 256 := UInt8.toNat_lt _
theorem og {m : ByteArray} {i : Nat} (h : i < m.size) : (m.data.toList[i]'(by rw [bR]; exact h)).toNat = by8 m i := by
 unfold by8; rw [List.getD_eq_getElem?_getD, List.getElem?_eq_getElem (by rw [bR]; exact h)]; rfl
theorem Dy {m : ByteArray} {i : Nat} (h : i < m.size) : bt m (i : Int) = (by8 m i : Int) := by rw [jF m i h, og h]
inductive Pc where
 | lab (c : Nat)
 | ptr (t : Nat)
def pc (m : ByteArray) (i : Nat) : Option Pc :=
 if i < m.size then
  if 192 ≤ by8 m i then (if i + 1 < m.size then some (.ptr ((by8 m i - 192) * 256 + by8 m (i + 1))) else none)
  else if 64 ≤ by8 m i then none
  else if i + 1 + by8 m i ≤ m.size then some (.lab (by8 m i)) else none
 else none
theorem Jh {m : ByteArray} {i : Nat} (h : i + 1 < m.size) : beN ((m.extract i m.size).data.toList.take 2) = by8 m i * 256 + by8 m (i + 1) := by
 rw [nS (by omega), List.drop_eq_getElem_cons (by rw [bR]; exact h)]
 have h1 := og (m := m) (i := i) (by omega)
 have h2 := og (m := m) (i := i + 1) h
 rw [← h1, ← h2]
 simp [beN]
theorem EU (m : ByteArray) (i : Nat) (hi : i ≤ m.size) (hs : m.size ≤ 1000000) : gT.f (m.extract i m.size) [2] =
  if i + 1 < m.size then some ([((by8 m i * 256 + by8 m (i + 1) : Nat) : Int)], m.extract (i + 2) m.size, 0) else some ([], ⟨#[]⟩, 2) := by
 unfold gT.f
 rw [if_pos ⟨by rw [gI]; omega, by decide⟩, if_pos (by decide +kernel)]
 by_cases h : i + 1 < m.size
 ·rw [if_pos h]
  have e : iT (m.extract i m.size) [2] [] = some ([((by8 m i * 256 + by8 m (i + 1) : Nat) : Int)], m.extract (i + 2) m.size) := by
   rw [iT, if_pos (by rw [gI]; show 2 ≤ m.size - i; omega), iT]
   have e2 : (2 : Int).toNat = 2 := rfl
   rw [e2, Jh h, gI, (Bl m i 2 hi (by omega)).2]; rfl
  rw [e]
 ·rw [if_neg h]
  have e : iT (m.extract i m.size) [2] [] = none := by
   rw [iT, if_neg (by rw [gI]; show ¬ 2 ≤ m.size - i; omega)]
  rw [e]
def atR (m : ByteArray) (i : Nat) : ByteArray × Int × Int × Bool :=
 match pc m i with
 | none => (⟨#[]⟩, 0, 0, false)
 | some (.lab c) => (m.extract i (i + 1 + c), -1, ((i + 1 + c : Nat) : Int), true)
 | some (.ptr t) => (⟨#[]⟩, (t : Int), ((i + 2 : Nat) : Int), true)
theorem uQ (m : ByteArray) (i k : Nat) (hi : i ≤ m.size) (hs : m.size ≤ 1000000) (x : ByteArray) (hc : ¬ (i < m.size ∧ by8 m i < 64 ∧ i + 1 + by8 m i ≤ m.size)) : gB.j0 (k + 1) m (i : Int) x false = some (atR m i) := by
 rw [gB.j0, if_neg (by decide), if_pos (by omega), if_pos (by omega)]
 show ((gT.f (m.extract i m.size) [2]).bind _) = _
 rw [EU m i hi hs]
 have hb := qj m i
 have hb1 := qj m (i + 1)
 by_cases h : i + 1 < m.size
 ·rw [if_pos h, Option.bind_some]
  show (if (0 : Int) = 0 then _ else _) = _
  rw [if_pos rfl]
  show (if (0 : Int) < ((1 : Nat) : Int) then _ else _) = _
  rw [if_pos (by decide)]
  show (if ((by8 m i * 256 + by8 m (i + 1) : Nat) : Int) < 49152 then _ else some (_, wrap64 (IntKind.u64.wrap (((by8 m i * 256 + by8 m (i + 1) : Nat) : Int) - 49152)), _, _)) = _
  unfold atR pc
  rw [if_pos (by omega : i < m.size)]
  by_cases hp : 192 ≤ by8 m i
  ·rw [if_neg (by omega), if_pos hp, if_pos h]
   simp only []
   have e1 : ((by8 m i * 256 + by8 m (i + 1) : Nat) : Int) - 49152 = (((by8 m i - 192) * 256 + by8 m (i + 1) : Nat) : Int) := by omega
   have e2 : (((by8 m i - 192) * 256 + by8 m (i + 1) : Nat) : Int) % 2 ^ 64 = (((by8 m i - 192) * 256 + by8 m (i + 1) : Nat) : Int) := by omega
   have e3 : IntKind.u64.wrap (((by8 m i - 192) * 256 + by8 m (i + 1) : Nat) : Int) = (((by8 m i - 192) * 256 + by8 m (i + 1) : Nat) : Int) := by
    simp only [IntKind.wrap, IntKind.bits, IntKind.signed, e2]; rw [if_neg (by simp)]
   rw [e1, e3, bT (by omega) (by omega), bT (by omega) (by omega)]
   rfl
  ·rw [if_pos (by omega), if_neg hp]
   by_cases h64 : 64 ≤ by8 m i
   ·rw [if_pos h64]
   ·rw [if_neg h64, if_neg (by omega)]
 ·rw [if_neg h, Option.bind_some]
  show (if (2 : Int) = 0 then _ else _) = _
  rw [if_neg (by decide)]
  unfold atR pc
  by_cases hlt : i < m.size
  ·rw [if_pos hlt]
   by_cases hp : 192 ≤ by8 m i
   ·rw [if_pos hp, if_neg h]
   ·rw [if_neg hp]
    by_cases h64 : 64 ≤ by8 m i
    ·rw [if_pos h64]
    ·rw [if_neg h64, if_neg (by omega)]
  ·rw [if_neg hlt]
theorem JZ (m : ByteArray) (i k : Nat) (hi : i ≤ m.size) (hs : m.size ≤ 1000000) : gB.f (k + 1) m (i : Int) = some (atR m i) := by
 unfold gB.f
 rw [if_pos (by omega), if_pos (by omega)]
 show ((gD.f (m.extract i m.size) 1).bind _) = _
 have hsz : (m.extract i m.size).size = m.size - i := gI m i
 by_cases hlt : i < m.size
 ·have hcut := yu hlt
  rw [og hlt] at hcut
  by_cases hfit : by8 m i ≤ m.size - i - 1
  ·rw [if_pos hfit] at hcut
   rw [zl (by omega) hcut, Option.bind_some]
   show (if (0 : Int) = 0 then _ else _) = _
   rw [if_pos rfl]
   have hs1 : (m.extract (i + 1) (i + 1 + by8 m i)).size = by8 m i := by rw [ByteArray.size_extract]; omega
   show gB.j0 (k + 1) m (i : Int) (m.extract (i + 1 + by8 m i) m.size) (decide (((m.extract (i + 1) (i + 1 + by8 m i)).size : Int) ≤ 63)) = _
   rw [hs1]
   by_cases h64 : by8 m i < 64
   ·rw [decide_eq_true (by omega), gB.j0, if_pos rfl, gI]
    have e1 : wrap64 ((m.size : Int) - ((m.size - (i + 1 + by8 m i) : Nat) : Int)) = ((i + 1 + by8 m i : Nat) : Int) := by rw [bT (by omega) (by omega)]; omega
    rw [e1, if_pos (by omega), if_pos (by omega), if_pos (by omega)]
    unfold atR pc
    rw [if_pos hlt, if_neg (by omega), if_neg (by omega), if_pos (by omega)]
    rfl
   ·rw [decide_eq_false (by omega)]
    exact uQ m i k hi hs _ (by omega)
  ·rw [if_neg hfit] at hcut
   rw [uM (by omega) hcut, Option.bind_some]
   show (if (2 : Int) = 0 then _ else _) = _
   rw [if_neg (by decide)]
   exact uQ m i k hi hs _ (by omega)
 ·have hcut : eu (m.extract i m.size) 1 = none := by unfold eu; rw [if_neg (by omega)]
  rw [uM (by omega) hcut, Option.bind_some]
  show (if (2 : Int) = 0 then _ else _) = _
  rw [if_neg (by decide)]
  exact uQ m i k hi hs _ (by omega)
def err : ByteArray × Int × Int := (⟨#[]⟩, 0, 2)
def nxt (nx : Int) (i : Nat) : Int := if nx < 0 then (i : Int) else nx
def jQ (m : ByteArray) : Nat → Nat → ByteArray → Int → Nat → ByteArray × Int × Int
 | 0, _, _, _, _ => err
 | d + 1, i, n, nx, fr =>
  match pc m i with
  | none => err
  | some (.ptr t) => if fr ≤ t then err else jQ m d t n (nxt nx (i + 2)) t
  | some (.lab c) => if c = 0 then (if bC (n ++ fT) = true then (n ++ fT, nxt nx (i + 1), 0) else err) else jQ m d (i + 1 + c) (n ++ m.extract i (i + 1 + c)) nx fr
def mu (m : ByteArray) (i fr : Nat) : Nat := fr * (m.size + 1) + (m.size - i)
theorem EP {m : ByteArray} {i fr t : Nat} (h : t < fr) : mu m t t < mu m i fr := by
 unfold mu
 obtain ⟨j, rfl⟩ : ∃ j, fr = t + 1 + j := ⟨fr - t - 1, by omega⟩
 have h1 : (t + 1 + j) * (m.size + 1) = t * (m.size + 1) + (m.size + 1) + j * (m.size + 1) := by rw [Nat.add_mul, Nat.add_mul, Nat.one_mul]
 have h2 : 0 ≤ j * (m.size + 1) := Nat.zero_le _
 omega
theorem zX {m : ByteArray} {i c : Nat} (h : pc m i = some (.lab c)) : i < m.size ∧ c = by8 m i ∧ c < 64 ∧ i + 1 + c ≤ m.size := by
 unfold pc at h
 by_cases h1 : i < m.size
 ·rw [if_pos h1] at h
  by_cases h2 : 192 ≤ by8 m i
  ·rw [if_pos h2] at h
   by_cases h3 : i + 1 < m.size
   ·rw [if_pos h3] at h; cases h
   ·rw [if_neg h3] at h; cases h
  ·rw [if_neg h2] at h
   by_cases h3 : 64 ≤ by8 m i
   ·rw [if_pos h3] at h; cases h
   ·rw [if_neg h3] at h
    by_cases h4 : i + 1 + by8 m i ≤ m.size
    ·rw [if_pos h4] at h
     cases h
     exact ⟨h1, rfl, by omega, h4⟩
    ·rw [if_neg h4] at h; cases h
 ·rw [if_neg h1] at h; cases h
theorem zu {m : ByteArray} {i t : Nat} (h : pc m i = some (.ptr t)) : i + 1 < m.size ∧ 192 ≤ by8 m i ∧ t = (by8 m i - 192) * 256 + by8 m (i + 1) ∧ t < 16384 := by
 unfold pc at h
 by_cases h1 : i < m.size
 ·rw [if_pos h1] at h
  by_cases h2 : 192 ≤ by8 m i
  ·rw [if_pos h2] at h
   by_cases h3 : i + 1 < m.size
   ·rw [if_pos h3] at h
    have hb := qj m i
    have hb1 := qj m (i + 1)
    cases h
    exact ⟨h3, h2, rfl, by omega⟩
   ·rw [if_neg h3] at h; cases h
  ·rw [if_neg h2] at h
   by_cases h3 : 64 ≤ by8 m i
   ·rw [if_pos h3] at h; cases h
   ·rw [if_neg h3] at h
    by_cases h4 : i + 1 + by8 m i ≤ m.size
    ·rw [if_pos h4] at h; cases h
    ·rw [if_neg h4] at h; cases h
 ·rw [if_neg h1] at h; cases h
theorem FN {m : ByteArray} {i fr c : Nat} (h : i < m.size) : mu m (i + 1 + c) fr < mu m i fr := by unfold mu; omega
theorem vF {n : ByteArray} (h : 255 < n.size) : bC n = false := by
 cases hr : bC n with
 | false => rfl
 | true => have := qH hr; omega
theorem wz (m : ByteArray) : ∀ (d i : Nat) (n : ByteArray) (nx : Int) (fr : Nat), 255 < n.size → jQ m d i n nx fr = err := by
 intro d
 induction d with
 | zero => intros; rfl
 | succ d ih =>
  intro i n nx fr hn
  rw [jQ]
  cases hp : pc m i with
  | none => rfl
  | some p =>
   cases p with
   | ptr t =>
    simp only []
    by_cases hf : fr ≤ t
    ·rw [if_pos hf]
    ·rw [if_neg hf]; exact ih _ _ _ _ hn
   | lab c =>
    simp only []
    by_cases h0 : c = 0
    ·rw [if_pos h0, vF (by rw [ByteArray.size_append]; omega), if_neg (by decide)]
    ·rw [if_neg h0]; exact ih _ _ _ _ (by rw [ByteArray.size_append]; omega)
theorem yT {m : ByteArray} {i : Nat} (h : i < m.size) (h0 : by8 m i = 0) : m.extract i (i + 1) = fT := by
 apply fO
 rw [jk, List.drop_eq_getElem_cons (by rw [bR]; exact h)]
 have := og h
 rw [h0] at this
 have h1 : m.data.toList[i]'(by rw [bR]; exact h) = 0 := UInt8.toNat_inj.mp (by rw [this]; rfl)
 rw [h1]; rfl
theorem IG {m : ByteArray} {i c : Nat} (h : i < m.size) (hc : c = by8 m i) (h0 : ¬ c = 0) : ¬ (m.extract i (i + 1 + c)).toList = [0] := by
 intro e
 rw [ByteArray.toList_eq, show i + 1 + c = i + (1 + c) from by omega, jk, List.drop_eq_getElem_cons (by rw [bR]; exact h), Nat.add_comm 1 c, List.take_succ_cons] at e
 have h1 := (List.cons.inj e).1
 have := og h
 rw [h1] at this
 apply h0; rw [hc, ← this]; rfl
theorem qB {m : ByteArray} {i c : Nat} (h : i + 1 + c ≤ m.size) : (m.extract i (i + 1 + c)).size = 1 + c := by rw [ByteArray.size_extract]; omega
theorem Gt {m n : ByteArray} {i c : Nat} (h : i + 1 + c ≤ m.size) (hc : c < 64) (hn : n.size < 300) : (n ++ m.extract i (i + 1 + c)).size ≤ 1000000 := by rw [ByteArray.size_append, qB h]; omega
theorem pj3 (k : Nat) (i : Nat) (n : ByteArray) (nx : Int) : bQ.j3 (k + 1) (i : Int) n nx = some (if bC n = true then (n, nxt nx i, 0) else err) := by
 rw [bQ.j3]
 show (if bC n = true then _ else _) = _
 unfold nxt
 by_cases hr : bC n = true
 ·rw [if_pos hr, if_pos hr]
  by_cases hx : nx < 0
  ·rw [if_pos hx, if_pos hx]
  ·rw [if_neg hx, if_neg hx]
 ·rw [if_neg hr, if_neg hr]; rfl
theorem pread (m : ByteArray) (hs : m.size ≤ 1000000) : ∀ (d i k : Nat) (n : ByteArray) (nx : Int) (fr : Nat), i ≤ m.size → fr ≤ m.size → mu m i fr < d → 3 * d + 10 ≤ k → bQ.l0 k m (i : Int) n nx (fr : Int) = some (jQ m d i n nx fr) := by
 intro d
 induction d with
 | zero => intro i k n nx fr _ _ h; omega
 | succ d ih =>
  intro i k n nx fr hi hfr hmu hk
  obtain ⟨k, rfl⟩ : ∃ j, k = j + 4 := ⟨k - 4, by omega⟩
  rw [bQ.l0]
  by_cases hn : (n.size : Int) ≤ 255
  ·rw [if_pos hn, JZ m i (k + 2) hi hs, Option.bind_some]
   unfold atR
   rw [jQ]
   cases hp : pc m i with
   | none =>
    simp only []
    rw [if_neg (by decide), bQ.j2, if_pos rfl]; rfl
   | some p =>
    cases p with
    | ptr t =>
     simp only []
     rw [if_pos trivial]
     have hpp := zu hp
     by_cases hf : fr ≤ t
     ·rw [decide_eq_true (by omega), bQ.j2, if_pos rfl, if_pos hf]; rfl
     ·have hm := EP (m := m) (i := i) (show t < fr by omega)
      rw [decide_eq_false (by omega), bQ.j2, if_neg (by decide), if_pos (by omega), if_neg hf]
      unfold nxt
      by_cases hx : nx < 0
      ·rw [if_pos hx, if_pos hx]
       exact ih t (k + 2) n _ t (by omega) (by omega) (by omega) (by omega)
      ·rw [if_neg hx, if_neg hx]
       exact ih t (k + 2) n _ t (by omega) (by omega) (by omega) (by omega)
    | lab c =>
     simp only []
     have hl := zX hp
     have hm := FN (fr := fr) (c := c) hl.1
     rw [if_pos trivial, decide_eq_false (by omega), bQ.j2, if_neg (by decide), if_neg (by decide), if_pos (by rw [ByteArray.size_extract]; omega)]
     by_cases h0 : c = 0
     ·subst h0
      rw [yT hl.1 hl.2.1.symm, if_pos (by decide +kernel), if_pos rfl]
      have := pj3 (k + 1) (i + 1 + 0) (n ++ fT) nx
      exact this
     ·rw [if_neg (IG hl.1 hl.2.1 h0), if_neg h0]
      exact ih _ _ _ _ _ (by omega) hfr (by omega) (by omega)
  ·rw [if_neg hn, wz m (d + 1) i n nx fr (by omega)]
   have := pj3 (k + 2) i n nx
   rw [vF (by omega), if_neg (by decide)] at this
   exact this
theorem KL (m : ByteArray) (hs : m.size ≤ 1000000) : ∀ (d i k : Nat) (n : ByteArray) (nx : Int) (fr : Nat), i ≤ m.size → fr ≤ m.size → n.size ≤ 1000000 → mu m i fr < d → 3 * d + 1000 ≤ k → aY.l0 k m (i : Int) n nx (fr : Int) = some (jQ m d i n nx fr) := by
 intro d
 induction d with
 | zero => intro i k n nx fr _ _ _ h; omega
 | succ d ih =>
  intro i k n nx fr hi hfr hns hmu hk
  obtain ⟨k, rfl⟩ : ∃ j, k = j + 4 := ⟨k - 4, by omega⟩
  by_cases hn : n.size < 300
  ·by_cases hlt : i < m.size
   ·rw [aY.l0, if_pos (by omega), decide_eq_true (by omega), aY.j2, if_pos rfl, if_pos (by omega), if_pos (by omega), Dy hlt]
    have hb := qj m i
    have hb1 := qj m (i + 1)
    rw [jQ]
    unfold pc
    rw [if_pos hlt, bT (x := (by8 m i : Int)) (by omega) (by omega)]
    by_cases h0 : by8 m i = 0
    ·rw [if_pos (show (by8 m i : Int) = 0 by omega), if_pos (show n.size + 1 ≤ 9223372036854775807 by omega), if_neg (show ¬ 192 ≤ by8 m i by omega), if_neg (show ¬ 64 ≤ by8 m i by omega), if_pos (show i + 1 + by8 m i ≤ m.size by omega)]
     simp only []
     rw [if_pos h0, zC _ _ (by omega), bT (x := (i : Int) + 1) (by omega) (by omega)]
     unfold nxt
     have fin : ∀ x : Int, ((some (bC (n ++ fT))).bind fun t => if t = true then some (n ++ fT, x, (0 : Int)) else some (⟨#[]⟩, 0, 2)) = some (if bC (n ++ fT) = true then (n ++ fT, x, 0) else err) := by
      intro x
      rw [Option.bind_some]
      by_cases hr : bC (n ++ fT) = true
      ·rw [if_pos hr, if_pos hr]
      ·rw [if_neg hr, if_neg hr]; rfl
     by_cases hx : nx < 0
     ·rw [if_pos hx, if_pos hx]; exact fin _
     ·rw [if_neg hx, if_neg hx]; exact fin _
    ·rw [if_neg (by omega)]
     by_cases hp : 192 ≤ by8 m i
     ·rw [if_pos (by omega), if_pos hp, bT (x := (i : Int) + 1) (by omega) (by omega)]
      by_cases h1 : i + 1 < m.size
      ·rw [if_neg (by omega), if_pos (by omega), if_pos (by omega), if_pos h1, show ((i : Int) + 1) = ((i + 1 : Nat) : Int) from rfl, Dy h1]
       have e1 : wrap64 ((wrap64 ((wrap64 ((by8 m i : Int) - 192)) * 256)) + (wrap64 (by8 m (i + 1) : Int))) = (((by8 m i - 192) * 256 + by8 m (i + 1) : Nat) : Int) := by
        rw [bT (x := (by8 m i : Int) - 192) (by omega) (by omega), bT (x := ((by8 m i : Int) - 192) * 256) (by omega) (by omega), bT (x := (by8 m (i + 1) : Int)) (by omega) (by omega), bT (by omega) (by omega)]
        omega
       rw [e1]
       simp only []
       generalize (by8 m i - 192) * 256 + by8 m (i + 1) = t
       by_cases hf : fr ≤ t
       ·rw [if_pos (by omega), if_pos hf]; rfl
       ·have hm := EP (m := m) (i := i) (show t < fr by omega)
        rw [if_neg (by omega), if_neg hf, bT (by omega) (by omega)]
        unfold nxt
        by_cases hx : nx < 0
        ·rw [if_pos hx, if_pos hx]
         exact ih t (k + 2) n _ t (by omega) (by omega) hns (by omega) (by omega)
        ·rw [if_neg hx, if_neg hx]
         exact ih t (k + 2) n _ t (by omega) (by omega) hns (by omega) (by omega)
      ·rw [if_pos (by omega), if_neg h1]; rfl
     ·rw [if_neg (by omega), if_neg hp]
      by_cases h64 : 64 ≤ by8 m i
      ·rw [if_pos (by omega), if_pos h64]; rfl
      ·rw [if_neg (by omega), if_neg h64, bT (x := (i : Int) + 1) (by omega) (by omega), bT (x := (i : Int) + 1 + (by8 m i : Int)) (by omega) (by omega)]
       by_cases hfit : i + 1 + by8 m i ≤ m.size
       ·have hm := FN (fr := fr) (c := by8 m i) hlt
        rw [if_neg (by omega), if_pos (by omega), if_pos (by omega), if_pos hfit]
        simp only []
        have e2 : ((i : Int) + 1 + (by8 m i : Int)).toNat = i + 1 + by8 m i := by omega
        have e3 : wrap64 ((i : Int) + wrap64 (1 + (by8 m i : Int))) = ((i + 1 + by8 m i : Nat) : Int) := by rw [bT (x := 1 + (by8 m i : Int)) (by omega) (by omega), bT (by omega) (by omega)]; omega
        have hes : (m.extract i (i + 1 + by8 m i)).size = 1 + by8 m i := qB hfit
        have hns2 : (n ++ m.extract i (i + 1 + by8 m i)).size ≤ 1000000 := Gt hfit (by omega) hn
        have hmd : mu m (i + 1 + by8 m i) fr < d := by omega
        rw [if_neg h0, Int.toNat_natCast, e2, e3]
        have hle : n.size + (m.extract i (i + 1 + by8 m i)).size ≤ 9223372036854775807 := by omega
        rw [if_pos hle]
        exact ih (i + 1 + by8 m i) (k + 2) (n ++ m.extract i (i + 1 + by8 m i)) nx fr hfit hfr hns2 hmd (by omega)
       ·rw [if_pos (by omega), if_neg hfit]; rfl
   ·rw [aY.l0, if_neg (by omega), aY.j2, if_neg (by decide), jQ]
    unfold pc
    rw [if_neg hlt]; rfl
  ·rw [wz m (d + 1) i n nx fr (by omega), aY.l0]
   by_cases hlt : i < m.size
   ·rw [if_pos (by omega), decide_eq_false (by omega), aY.j2, if_neg (by decide)]; rfl
   ·rw [if_neg (by omega), aY.j2, if_neg (by decide)]; rfl
def jA (m : ByteArray) (i : Nat) : ByteArray × Int × Int := jQ m (mu m i i + 1) i ⟨#[]⟩ (-1) i
def fuel (m : ByteArray) : Nat := 3 * (m.size * (m.size + 1) + m.size + 1) + 1003
theorem Bz {m : ByteArray} {i : Nat} (h : i ≤ m.size) : mu m i i ≤ m.size * (m.size + 1) + m.size := by
 unfold mu
 have := Nat.mul_le_mul_right (m.size + 1) h
 omega
theorem Jv (m : ByteArray) (hs : m.size ≤ 1000000) (i k : Nat) (hi : i ≤ m.size) (hk : fuel m ≤ k) : bQ.f k m (i : Int) = some (jA m i) := by
 have := Bz hi
 unfold fuel at hk
 obtain ⟨k, rfl⟩ : ∃ j, k = j + 1 := ⟨k - 1, by omega⟩
 unfold bQ.f
 rw [if_neg (by omega), decide_eq_false (by omega), bQ.j0, if_neg (by decide)]
 exact pread m hs _ i k _ _ i hi hi (Nat.lt_succ_self _) (by omega)
theorem BL (m : ByteArray) (hs : m.size ≤ 1000000) (i k : Nat) (hi : i ≤ m.size) (hk : fuel m ≤ k) : aY.f k m (i : Int) = some (jA m i) := by
 have := Bz hi
 unfold fuel at hk
 obtain ⟨k, rfl⟩ : ∃ j, k = j + 1 := ⟨k - 1, by omega⟩
 unfold aY.f
 rw [if_neg (by omega), decide_eq_false (by omega), aY.j0, if_neg (by decide)]
 exact KL m hs _ i k _ _ i hi hi (by decide) (Nat.lt_succ_self _) (by omega)
end Go.Y.lV
namespace Go.Y.mO
open Go.Y.PRd Go.Proofs.ah.av Go.Proofs.ah.aT Go.Proofs.ah.aU Go.Y.Given Go.Y.Oct
theorem sD {x : Int} (h0 : 0 ≤ x) (h1 : x < 18446744073709551616) : IntKind.u64.wrap x = x := by
 simp only [IntKind.wrap, IntKind.bits, IntKind.signed]; simp; omega
theorem bT {x : Int} (h0 : -9223372036854775808 ≤ x) (h1 : x ≤ 9223372036854775807) : wrap64 x = x := by unfold wrap64; omega
theorem jw (l : List ByteArray) (i : Nat) (h : i < l.length) : bH ByteArray.empty l (i : Int) = l[i] := by
 unfold bH; rw [Int.toNat_natCast, List.getD_eq_getElem?_getD, List.getElem?_eq_getElem h]; rfl
theorem jF (b : ByteArray) (i : Nat) (h : i < b.size) : bt b (i : Int) = ((b.data.toList[i]'(by rw [bR]; exact h)).toNat : Int) := by
 unfold bt
 rw [Int.toNat_natCast, dif_pos h]; rfl
theorem FB (b : ByteArray) (hb : b.size ≤ 8) : ∀ (d i k : Nat), i + d = b.size → d < k → bW.l0 k b (beN (b.data.toList.take i) : Int) (i : Int) = some (beN b.data.toList : Int) := by
 intro d
 induction d with
 | zero =>
  intro i k hi hk
  obtain ⟨k, rfl⟩ : ∃ j, k = j + 1 := ⟨k - 1, by omega⟩
  rw [bW.l0, if_neg (by omega), List.take_of_length_le (by rw [bR]; omega)]
 | succ d ih =>
  intro i k hi hk
  obtain ⟨k, rfl⟩ : ∃ j, k = j + 1 := ⟨k - 1, by omega⟩
  rw [bW.l0, if_pos (by omega), if_pos (by omega), jF b i (by omega)]
  have h1 : i < b.data.toList.length := by rw [bR]; omega
  have h2 : beN (b.data.toList.take (i + 1)) = beN (b.data.toList.take i) * 256 + (b.data.toList[i]).toNat := by
   rw [List.take_succ_eq_append_getElem h1, oC]
  have h3 := vR (b.data.toList.take i)
  rw [List.length_take, Nat.min_eq_left (by omega)] at h3
  have h4 : (256 : Nat) ^ i ≤ 256 ^ 7 := Nat.pow_le_pow_right (by omega) (by omega)
  have h5 := UInt8.toNat_lt (b.data.toList[i])
  rw [sD (x := (beN (b.data.toList.take i) : Int) * 256) (by omega) (by omega), sD (x := ((b.data.toList[i]).toNat : Int)) (by omega) (by omega), sD (by omega) (by omega), bT (by omega) (by omega)]
  have := ih (i + 1) k (by omega) (by omega)
  rw [h2] at this
  rw [← this]
  congr 1
theorem Hl (b : ByteArray) (hb : b.size ≤ 8) (k : Nat) (hk : 9 ≤ k) : bW.f k b = some (beN b.data.toList : Int) :=
 FB b hb b.size 0 k (by omega) (by omega)
theorem sJ (n : Int) : gX n = true ↔ n = 1 ∨ n = 2 ∨ n = 4 ∨ n = 8 := by unfold gX; exact decide_eq_true_iff
theorem yS (n : Int) : dR.f n = some (gX n) := by
 unfold dR.f gX
 by_cases h1 : n = 1
 ·simp [h1]
 ·by_cases h2 : n = 2
  ·simp [h2]
  ·by_cases h4 : n = 4
   ·simp [h4]
   ·simp [h1, h2, h4]
    by_cases h8 : n = 8 <;> simp [h8]
theorem Jf {n : Nat} (h : n ≤ 8) : 256 ^ n ≤ 18446744073709551616 := by
 have : (256 : Nat) ^ n ≤ 256 ^ 8 := Nat.pow_le_pow_right (by omega) h
 omega
theorem zw (n : Int) : (gX n = true ∧ ¬ (n = 8)) ↔ (n = 1 ∨ n = 2 ∨ n = 4) := by rw [sJ]; omega
def Gu (b : ByteArray) (n : Int) : ByteArray × ByteArray × Int :=
 if n = 1 ∨ n = 2 ∨ n = 4 then
  match eu b n.toNat with
  | some (s, r) => (s, r, 0)
  | none => (⟨#[]⟩, ⟨#[]⟩, 2)
 else (⟨#[]⟩, ⟨#[]⟩, 1)
theorem Kg (b : ByteArray) (n : Int) (k : Nat) (hb : b.size ≤ 100000000) (hk : 20 ≤ k) : dh.f k b n = some (Gu b n) := by
 obtain ⟨k, rfl⟩ : ∃ j, k = j + 1 := ⟨k - 1, by omega⟩
 unfold dh.f Gu
 rw [yS, Option.bind_some]
 by_cases h : n = 1 ∨ n = 2 ∨ n = 4
 ·have hw := (zw n).mpr h
  rw [if_pos hw.1, if_pos h, dh.j0, if_neg (by simp [hw.2])]
  obtain ⟨m, rfl⟩ := Int.eq_ofNat_of_zero_le (show 0 ≤ n by omega)
  rw [Int.toNat_natCast]
  by_cases hm : m ≤ b.size
  ·have h1 := vR (b.data.toList.take m)
   rw [take_size b m hm] at h1
   have h2 := Jf (n := m) (by omega)
   rw [if_neg (by omega), if_pos (by omega), if_pos (by omega), Hl _ (by rw [ext_size _ _ hm]; omega) k (by omega), ext_list, Option.bind_some, bT (x := (b.size : Int) - (m : Int)) (by omega) (by omega), sD (by omega) (by omega), eu, if_pos hm]
   by_cases hc : beN (b.data.toList.take m) ≤ b.size - m
   ·rw [if_neg (by omega), if_pos hc, bT (x := (beN (b.data.toList.take m) : Int)) (by omega) (by omega), bT (by omega) (by omega), if_pos (by omega), if_pos (by omega), if_pos (by omega)]
    rw [show ((m : Int) + (beN (b.data.toList.take m) : Int)).toNat = m + beN (b.data.toList.take m) from by omega]
   ·rw [if_pos (by omega), if_neg hc]
  ·rw [if_pos (by omega), eu, if_neg hm]
 ·rw [if_neg h]
  by_cases hw : gX n = true
  ·have h8 : n = 8 := by have := (sJ n).mp hw; omega
   rw [if_pos hw, dh.j0, if_pos (by simp [h8])]
  ·rw [if_neg hw, dh.j0, if_pos rfl]
def jv (b : ByteArray) (n : Int) : List ByteArray × Int :=
 if n = 1 ∨ n = 2 ∨ n = 4 then
  match iG n.toNat b.size b [] with
  | some xs => (xs, 0)
  | none => ([], 2)
 else ([], 1)
theorem oG (b : ByteArray) (n : Int) (hb : b.size < 8796093022208) : fK.f b n = some (jv b n) := by
 unfold fK.f jv
 rw [if_pos hb]
 by_cases h : n = 1 ∨ n = 2 ∨ n = 4
 ·rw [if_pos h, if_pos h]
  cases iG n.toNat b.size b [] <;> rfl
 ·rw [if_neg h, if_neg h]
theorem Cv (n : Int) (h : n = 1 ∨ n = 2 ∨ n = 4) : ∀ (d k : Nat) (b : ByteArray) (acc : List ByteArray), b.size ≤ d → d ≤ 100000000 → d + 30 ≤ k → acc.length + d ≤ 100000000 → bq.l0 k b n acc = some (match iG n.toNat d b acc with | some xs => (xs, 0) | none => ([], 2)) := by
 intro d
 induction d with
 | zero =>
  intro k b acc hb hd hk ha
  obtain ⟨k, rfl⟩ : ∃ j, k = j + 1 := ⟨k - 1, by omega⟩
  rw [bq.l0, if_neg (by omega), iG, if_pos (by omega)]
 | succ d ih =>
  intro k b acc hb hd hk ha
  obtain ⟨k, rfl⟩ : ∃ j, k = j + 1 := ⟨k - 1, by omega⟩
  rw [bq.l0, iG]
  by_cases h0 : b.size = 0
  ·rw [if_neg (by omega), if_pos h0]
  ·rw [if_pos (by omega), if_neg h0, Kg b n k (by omega) (by omega), Option.bind_some, Gu, if_pos h]
   cases hc : eu b n.toNat with
   | none => rfl
   | some x =>
    obtain ⟨s, r⟩ := x
    have hs := vE hc
    show (if (0 : Int) = 0 then _ else _) = _
    rw [if_pos rfl, if_pos (by omega)]
    exact ih k r _ (by omega) (by omega) (by omega) (by simp; omega)
theorem nH (b : ByteArray) (n : Int) (k : Nat) (hb : b.size ≤ 10000000) (hk : b.size + 40 ≤ k) : bq.f k b n = some (jv b n) := by
 obtain ⟨k, rfl⟩ : ∃ j, k = j + 1 := ⟨k - 1, by omega⟩
 unfold bq.f jv
 rw [yS, Option.bind_some]
 by_cases h : n = 1 ∨ n = 2 ∨ n = 4
 ·have hw := (zw n).mpr h
  rw [if_pos hw.1, if_pos h, bq.j0, if_neg (by simp [hw.2])]
  exact Cv n h b.size k b [] (by omega) (by omega) (by omega) (by simp; omega)
 ·rw [if_neg h]
  by_cases hw : gX n = true
  ·have h8 : n = 8 := by have := (sJ n).mp hw; omega
   rw [if_pos hw, bq.j0, if_pos (by simp [h8])]
  ·rw [if_neg hw, bq.j0, if_pos rfl]
end Go.Y.mO
namespace Go.Y.dK
open Go.Y.PRd Go.Proofs.ah.av Go.Proofs.ah.aT Go.Proofs.ah.aU Go.Y.Given Go.Y.Oct Go.Y.Name Go.Y.lV
open Go.Y.dY (iX kU jr mW jM)
open Go.Y.mO (jv oG nH bT jF jw)
def FU : Nat := 3 * (1000000 * 1000001 + 1000001) + 5000
theorem Bp {m : ByteArray} (h : m.size ≤ 1000000) : fuel m + 3000 ≤ FU := by
 unfold fuel FU
 have : m.size * (m.size + 1) ≤ 1000000 * 1000001 := Nat.mul_le_mul h (by omega)
 omega
def dW (t : Int) : List Int := if t = 1 then [4] else if t = 28 then [16] else if t = 2 ∨ t = 5 ∨ t = 12 then [-1] else if t = 15 then [2, -1] else if t = 6 then [-1, -1, 4, 4, 4, 4, 4] else if t = 16 then [-3] else if t = 33 then [2, 2, 2, -2] else [-4]
theorem Bd (t : Int) (k : Nat) (hk : 1 ≤ k) : eT.f k t = some (dW t) := by
 obtain ⟨k, rfl⟩ : ∃ j, k = j + 1 := ⟨k - 1, by omega⟩
 unfold eT.f dW
 by_cases h1 : t = 1
 ·rw [if_pos h1, if_pos h1]
 ·rw [if_neg h1, if_neg h1]
  by_cases h2 : t = 28
  ·rw [if_pos h2, if_pos h2]
  ·rw [if_neg h2, if_neg h2]
   by_cases h3 : t = 2
   ·subst h3; rfl
   ·by_cases h4 : t = 5
    ·subst h4; rfl
    ·by_cases h5 : t = 12
     ·subst h5; rfl
     ·rw [if_neg h3, if_neg h4, if_neg (show ¬ (t = 2 ∨ t = 5 ∨ t = 12) by omega), eT.j0, if_neg (by simp [h5])]
      by_cases h6 : t = 15
      ·rw [if_pos h6, if_pos h6]
      ·rw [if_neg h6, if_neg h6]
       by_cases h7 : t = 6
       ·rw [if_pos h7, if_pos h7]
       ·rw [if_neg h7, if_neg h7]
        by_cases h8 : t = 16
        ·rw [if_pos h8, if_pos h8]
        ·rw [if_neg h8, if_neg h8]
         by_cases h9 : t = 33
         ·rw [if_pos h9, if_pos h9]
         ·rw [if_neg h9, if_neg h9]
def Kind (kind : Int) : Prop := kind = -1 ∨ kind = -2 ∨ kind = -3 ∨ kind = -4 ∨ kind = 2 ∨ kind = 4 ∨ kind = 16
theorem vL (t : Int) : ∀ x ∈ dW t, Kind x := by
 intro x hx
 unfold dW at hx
 unfold Kind
 repeat' split at hx
 all_goals simp at hx; omega
theorem kW (t : Int) : (dW t).length ≤ 7 := by
 unfold dW
 repeat' split
 all_goals simp
def jC (B : ByteArray) (at_ : Nat) (kind : Int) : Option (ByteArray × Nat) :=
 if kind = -1 then (if (jA B at_).2.2 = 0 then some ((jA B at_).1, (jA B at_).2.1.toNat) else none)
 else if kind = -2 then (if (jA B at_).2.2 = 0 ∧ (jA B at_).1 = B.extract at_ (jA B at_).2.1.toNat then some ((jA B at_).1, (jA B at_).2.1.toNat) else none)
 else if kind = -3 then (if (jv (B.extract at_ B.size) 1).2 = 0 ∧ 0 < (jv (B.extract at_ B.size) 1).1.length then some (B.extract at_ B.size, B.size) else none)
 else if kind = -4 then some (B.extract at_ B.size, B.size)
 else if kind > (B.size : Int) - at_ then none else some (B.extract at_ (at_ + kind.toNat), at_ + kind.toNat)
theorem mG (m : ByteArray) : ∀ (d i : Nat) (n : ByteArray) (nx : Int) (fr : Nat) (x : ByteArray) (y : Int), jQ m d i n nx fr = (x, y, 0) → (0 ≤ nx → y = nx) ∧ (nx < 0 → (i : Int) < y ∧ y ≤ m.size) ∧ (x.size = n.size + 1 ∨ n.size + 3 ≤ x.size) ∧ x.size ≤ 255 := by
 intro d
 induction d with
 | zero => intro i n nx fr x y h; rw [jQ, err] at h; simp at h
 | succ d ih =>
  intro i n nx fr x y h
  rw [jQ] at h
  split at h
  ·rw [err] at h; simp at h
  ·rename_i t hp
   have hp := zu hp
   split at h
   ·rw [err] at h; simp at h
   ·obtain ⟨h1, h2, h3, h4⟩ := ih _ _ _ _ _ _ h
    have hn : 0 ≤ nxt nx (i + 2) := by unfold nxt; split <;> omega
    refine ⟨fun hx => ?_, fun hx => ?_, h3, h4⟩
    ·rw [h1 hn]; unfold nxt; rw [if_neg (by omega)]
    ·rw [h1 hn]; unfold nxt; rw [if_pos hx]; omega
  ·rename_i c hp
   have hp := zX hp
   split at h
   ·split at h
    ·rename_i hr
     simp only [Prod.mk.injEq] at h
     obtain ⟨rfl, rfl, _⟩ := h
     refine ⟨fun hx => by unfold nxt; rw [if_neg (by omega)], fun hx => ?_, .inl (by rw [ByteArray.size_append]; rfl), qH hr⟩
     unfold nxt; rw [if_pos hx]; omega
    ·rw [err] at h; simp at h
   ·obtain ⟨h1, h2, h3, h4⟩ := ih _ _ _ _ _ _ h
    have hz := qB (m := m) (i := i) (c := c) (by omega)
    refine ⟨h1, fun hx => ?_, ?_, h4⟩
    ·have := h2 hx; omega
    ·rw [ByteArray.size_append, hz] at h3; right; omega
theorem AP (m : ByteArray) : ∀ (d i : Nat) (n : ByteArray) (nx : Int) (fr : Nat) (x : ByteArray) (y : Int), nx < 0 → jQ m d i n nx fr = (x, y, 0) → x = n ++ m.extract i y.toNat ∨ (x.size : Int) ≠ n.size + (y - i) ∧ 0 < fr := by
 intro d
 induction d with
 | zero => intro i n nx fr x y hx h; rw [jQ, err] at h; simp at h
 | succ d ih =>
  intro i n nx fr x y hx h
  have hnext := mG m (d + 1) i n nx fr x y h
  rw [jQ] at h
  split at h
  ·rw [err] at h; simp at h
  ·rename_i t hp
   have hp := zu hp
   split at h
   ·rw [err] at h; simp at h
   ·right
    obtain ⟨h1, h2, h3, h4⟩ := mG _ _ _ _ _ _ _ _ h
    have hn : 0 ≤ nxt nx (i + 2) := by unfold nxt; split <;> omega
    have hy : y = (i : Int) + 2 := by rw [h1 hn]; unfold nxt; rw [if_pos hx]; omega
    refine ⟨?_, by omega⟩
    rw [hy]
    rcases h3 with e | e <;> omega
  ·rename_i c hp
   have hp' := zX hp
   split at h
   ·rename_i h0
    split at h
    ·simp only [Prod.mk.injEq] at h
     obtain ⟨rfl, rfl, _⟩ := h
     left
     congr 1
     unfold nxt; rw [if_pos hx, Int.toNat_natCast]
     exact (yT hp'.1 (by omega)).symm
    ·rw [err] at h; simp at h
   ·have hy := mG _ _ _ _ _ _ _ _ h
    have hz := qB (m := m) (i := i) (c := c) (by omega)
    rcases ih _ _ _ _ _ _ hx h with e | e
    ·left
     have := hy.2.1 hx
     rw [e]
     apply fO
     rw [iy, iy, iy, List.append_assoc]
     congr 1
     obtain ⟨q, hq⟩ : ∃ q, y.toNat = i + 1 + c + q := ⟨y.toNat - (i + 1 + c), by omega⟩
     rw [hq, show i + 1 + c = i + (1 + c) by omega, jk, jk, show i + (1 + c) + q = i + ((1 + c) + q) by omega, jk, show ∀ L : List UInt8, L.take (1 + c + q) = L.take (1 + c) ++ (L.drop (1 + c)).take q from fun L => List.take_add, List.drop_drop]
    ·right
     rw [ByteArray.size_append, hz] at e
     omega
theorem kP {B : ByteArray} {at_ : Nat} (h : (jA B at_).2.2 = 0) : ∃ (x : ByteArray) (y : Nat), jA B at_ = (x, (y : Int), 0) ∧ at_ < y ∧ y ≤ B.size ∧ (x = B.extract at_ y ∨ x.size ≠ y - at_ ∧ 0 < at_) := by
 obtain ⟨x, y, c, hr⟩ : ∃ x y c, jA B at_ = (x, y, c) := ⟨_, _, _, rfl⟩
 rw [hr] at h
 simp only at h
 subst h
 have h1 := mG B _ at_ _ _ _ x y hr
 have h2 := AP B _ at_ _ _ _ x y (by decide) hr
 have hb := h1.2.1 (by decide)
 obtain ⟨z, rfl⟩ := Int.eq_ofNat_of_zero_le (show 0 ≤ y by omega)
 refine ⟨x, z, hr, by omega, by omega, ?_⟩
 rcases h2 with e | e
 ·left
  rw [e, Int.toNat_natCast]
  apply fO; rw [iy]; simp
 ·right
  have hz : (⟨#[]⟩ : ByteArray).size = 0 := rfl
  omega
theorem qY {a b : ByteArray} : (a.toList == b.toList) = decide (a = b) := by
 by_cases h : a = b
 ·rw [h]; simp
 ·rw [decide_eq_false h]
  refine beq_eq_false_iff_ne.mpr fun e => h (fO ?_)
  rw [ByteArray.toList_eq, ByteArray.toList_eq] at e; exact e
theorem JR (B : ByteArray) (at_ : Nat) (kind : Int) (k : Nat) (hle : at_ ≤ B.size) (hB : B.size ≤ 1000000) (hkind : Kind kind) (hk : FU ≤ k) :
  ∃ s n ok, fC.f k B (at_ : Int) (B.size : Int) kind = some (s, n, ok) ∧ match jC B at_ kind with | some (s', n') => ok = true ∧ s = s' ∧ n = (n' : Int) | none => ok = false := by
 have hf := Bp hB
 obtain ⟨k, rfl⟩ : ∃ j, k = j + 1 := ⟨k - 1, by omega⟩
 have hread := Jv B hB at_ k hle (by omega)
 have hcut : B.extract 0 ((B.size : Nat) : Int).toNat = B := by rw [Int.toNat_natCast]; exact jM B
 have hmid : B.extract ((at_ : Nat) : Int).toNat ((B.size : Nat) : Int).toNat = B.extract at_ B.size := by rw [Int.toNat_natCast, Int.toNat_natCast]
 unfold fC.f jC
 by_cases h1 : kind = -1
 ·subst h1
  rw [if_pos rfl, fC.j0, if_pos (by decide), if_pos (by omega), if_pos (by omega), hcut, hread, Option.bind_some, if_pos rfl]
  by_cases hr : (jA B at_).2.2 = 0
  ·obtain ⟨x, y, e, _⟩ := kP hr
   rw [if_pos hr, if_pos rfl, if_pos hr, e]
   exact ⟨_, _, _, rfl, rfl, rfl, by simp⟩
  ·rw [if_neg hr, if_neg hr]
   exact ⟨_, _, _, rfl, rfl⟩
 ·rw [if_neg h1, if_neg h1]
  by_cases h2 : kind = -2
  ·subst h2
   rw [fC.j0, if_pos (by decide), if_pos (by omega), if_pos (by omega), hcut, hread, Option.bind_some, if_pos rfl]
   by_cases hr : (jA B at_).2.2 = 0
   ·obtain ⟨x, y, e, h3, h4, _⟩ := kP hr
    rw [if_pos hr, if_neg (by decide), e]
    simp only
    rw [if_pos (by omega), if_pos (by omega), if_pos (by omega), Int.toNat_natCast, Int.toNat_natCast, qY]
    by_cases hx : x = B.extract at_ y
    ·rw [if_pos ⟨trivial, hx⟩, decide_eq_true hx]
     exact ⟨_, _, _, rfl, by simp⟩
    ·rw [if_neg (fun e => hx e.2), decide_eq_false hx]
     exact ⟨_, _, _, rfl, rfl⟩
   ·rw [if_neg hr, if_neg (fun e => hr e.1)]
    exact ⟨_, _, _, rfl, rfl⟩
  ·rw [if_neg h2, fC.j0, if_neg (by simp [h2])]
   by_cases h3 : kind = -3
   ·subst h3
    rw [if_pos rfl, if_pos rfl, if_pos (by omega), if_pos (by omega), if_pos (by omega), hmid, oG _ _ (by rw [ByteArray.size_extract]; omega), Option.bind_some]
    by_cases hp : (jv (B.extract at_ B.size) 1).2 = 0
    ·rw [if_pos hp]
     by_cases hl : 0 < (jv (B.extract at_ B.size) 1).1.length
     ·rw [if_pos ⟨hp, hl⟩, decide_eq_true (by omega)]
      exact ⟨_, _, _, rfl, rfl, rfl, rfl⟩
     ·rw [if_neg (fun e => hl e.2), decide_eq_false (by omega)]
      exact ⟨_, _, _, rfl, rfl⟩
    ·rw [if_neg hp, if_neg (fun e => hp e.1)]
     exact ⟨_, _, _, rfl, rfl⟩
   ·rw [if_neg h3, if_neg h3]
    by_cases h4 : kind = -4
    ·subst h4
     rw [if_pos rfl, if_pos rfl, if_pos (by omega), if_pos (by omega), if_pos (by omega), hmid]
     exact ⟨_, _, _, rfl, rfl, rfl, rfl⟩
    ·rw [if_neg h4, if_neg h4, bT (by omega) (by omega)]
     by_cases h5 : kind > (B.size : Int) - at_
     ·rw [if_pos h5, if_pos h5]
      exact ⟨_, _, _, rfl, rfl⟩
     ·have hk0 : 0 ≤ kind := by unfold Kind at hkind; omega
      rw [if_neg h5, if_neg h5, bT (by omega) (by omega), if_pos (by omega), if_pos (by omega), if_pos (by omega)]
      refine ⟨_, _, _, rfl, rfl, ?_, by omega⟩
      congr 1; omega
theorem nk {B : ByteArray} {at_ : Nat} {kind : Int} {s : ByteArray} {n : Nat} (hle : at_ ≤ B.size) (hk : Kind kind) (h : jC B at_ kind = some (s, n)) : at_ ≤ n ∧ n ≤ B.size ∧ (s = B.extract at_ n ∨ kind = -1 ∧ s.size ≠ n - at_ ∧ 0 < at_) := by
 unfold jC at h
 split at h
 ·split at h
  ·rename_i hr
   obtain ⟨x, y, e, h1, h2, h3⟩ := kP hr
   rw [e] at h
   simp only [Option.some.injEq, Prod.mk.injEq, Int.toNat_natCast] at h
   obtain ⟨rfl, rfl⟩ := h
   refine ⟨by omega, h2, ?_⟩
   rcases h3 with e | e
   ·exact .inl e
   ·exact .inr ⟨by assumption, e⟩
  ·cases h
 ·split at h
  ·split at h
   ·rename_i hr
    obtain ⟨x, y, e, h1, h2, h3⟩ := kP hr.1
    have hrr := hr.2
    rw [e] at h hrr
    simp only [Option.some.injEq, Prod.mk.injEq, Int.toNat_natCast] at h hrr
    obtain ⟨rfl, rfl⟩ := h
    exact ⟨by omega, h2, .inl hrr⟩
   ·cases h
  ·split at h
   ·split at h
    ·simp only [Option.some.injEq, Prod.mk.injEq] at h
     obtain ⟨rfl, rfl⟩ := h
     exact ⟨hle, Nat.le_refl _, .inl rfl⟩
    ·cases h
   ·split at h
    ·simp only [Option.some.injEq, Prod.mk.injEq] at h
     obtain ⟨rfl, rfl⟩ := h
     exact ⟨hle, Nat.le_refl _, .inl rfl⟩
    ·split at h
     ·cases h
     ·simp only [Option.some.injEq, Prod.mk.injEq] at h
      obtain ⟨rfl, rfl⟩ := h
      unfold Kind at hk
      exact ⟨by omega, by omega, .inl rfl⟩
end Go.Y.dK
namespace Go.Y.uU
open Go.Proofs.ah.av
structure Tch (S : Nat → Prop) (w w' : World) : Prop where
 os : w'.os = w.os
 tape : w'.tape = w.tape
 output : w'.output = w.output
 size : w.heap.size ≤ w'.heap.size
 block : ∀ k, k < w.heap.size → ¬ S k → w'.heap[k]? = w.heap[k]?
theorem Tch.refl (S : Nat → Prop) (w : World) : Tch S w w := ⟨rfl, rfl, rfl, Nat.le_refl _, fun _ _ _ => rfl⟩
theorem Tch.mono {S S' : Nat → Prop} {w w' : World} (h : Tch S w w') (hs : ∀ k, k < w.heap.size → S k → S' k) : Tch S' w w' := ⟨h.os, h.tape, h.output, h.size, fun k hk hn => h.block k hk fun hS => hn (hs k hk hS)⟩
theorem Tch.trans {S S' : Nat → Prop} {a b c : World} (h : Tch S a b) (h' : Tch S' b c) (hs : ∀ k, k < a.heap.size → S' k → S k) : Tch S a c :=
 ⟨h'.os.trans h.os, h'.tape.trans h.tape, h'.output.trans h.output, Nat.le_trans h.size h'.size, fun k hk hn => (h'.block k (Nat.lt_of_lt_of_le hk h.size) fun hS => hn (hs k hk hS)).trans (h.block k hk hn)⟩
theorem Tch.uL {S : Nat → Prop} {w w' : World} {row : Option Nat} (h : w.grownBy w' row) (hs : ∀ k, row = some k → S k) : Tch S w w' := ⟨h.os, h.tape, h.output, h.size, fun k hk hn => h.block k hk fun e => hn (hs k e.symm)⟩
theorem Tch.setCell {S : Nat → Prop} {w : World} {p : Addr} (hp : S p.block) (u : Value) : Tch S w (w.setCell p u) := ⟨rfl, rfl, rfl, by simp [World.setCell], fun k hk hn => Below.heap_setCell _ _ _ _ fun e => hn (e ▸ hp)⟩
theorem Tch.of_below {S : Nat → Prop} {w w' : World} (h : Below w.heap.size w w') : Tch S w w' := ⟨h.os, h.tape, h.output, h.size, fun k hk _ => h.block k hk⟩
theorem Tch.below {S : Nat → Prop} {w w' : World} {B : Nat} (h : Tch S w w') (hB : B ≤ w.heap.size) (hs : ∀ k, S k → B ≤ k) : Below B w w' := ⟨h.os, h.tape, h.output, h.size, fun k hk => h.block k (by omega) fun hS => by have := hs k hS; omega⟩
theorem Tch.alloc {S : Nat → Prop} (w : World) (o : Obj) : Tch S w (w.alloc o) := Tch.uL (World.grownBy_alloc w o Option.none) (by simp)
theorem Tch.fresh {S S' : Nat → Prop} {a b c : World} (h : Tch S a b) (h' : Tch S' b c) (hs : ∀ k, S' k → S k ∨ a.heap.size ≤ k) : Tch S a c :=
  h.trans h' fun k hk hS => by rcases hs k hS with e | e; · exact e
                               · omega
theorem Ji {α : Type} {d : Kd α} {e : Nat} {w w1 : World} {base : Nat} {ok : Nat → Prop} {v : Value} {xs : List α} {S : Nat → Prop} (h : Kd.R d e w base ok v xs) (ht : Tch S w w1) (hn : ∀ k, ok k → k < w.heap.size → ¬ S k) : Kd.R d e w1 base ok v xs :=
 Kd.sF h fun k hk hlt => ht.block k hlt (hn k hk hlt)
end Go.Y.uU
namespace Go.Y.pz
open Go.Proofs.ah.av Go.Proofs.ah.aT Go.Proofs.ah.aU Go.Y.Given Go.Y.PRd Go.Y.uU
def oV (k : Nat) (msg : ByteArray) (en : Int) : List Int → Int → Option (List (Int × ByteArray) × Bool)
 | [], at_ => some ([], at_ == en)
 | kind :: ks, at_ => (fC.f k msg at_ en kind).bind fun r => if r.2.2 = true then (oV k msg en ks r.2.1).map fun x => ((kind, r.1) :: x.1, x.2) else some ([], false)
structure BS (g : Nat) (cb : Array Value) (St : List (Int × ByteArray) → (Nat → Prop) → World → Prop) : Prop where
 rest : ∀ d F W W', St d F W → Below W.heap.size W W' → ∃ F', St d F' W' ∧ ∀ k, F' k → F k ∨ W.heap.size ≤ k ∧ ∃ c fz, W'.heap[k]? = some (.cells c 5 fz)
 lt : ∀ d F W k, St d F W → F k → k < W.heap.size
 take : ∀ d F W kind s, s.size ≤ 1000000 → d.length < 100 → St d F W → Calls Tryz.prog g (#[.int .i64 kind, .string s] ++ cb) W fun e w' => e = .returned (.tuple #[]) ∧ ∃ F', St (d ++ [(kind, s)]) F' w' ∧ Tch F W w' ∧ ∀ k, F' k → F k ∨ W.heap.size ≤ k
 enters : ∀ args w, (callFunc g args).run Tryz.prog w = .ok (.enter g args) w
theorem zx {g : Nat} {cb : Array Value} {St : List (Int × ByteArray) → (Nat → Prop) → World → Prop} (T : BS g cb St) (k : Nat) (msg : ByteArray) (at0 en t : Int) (ks : List Int) (hks : eT.f k t = some ks)
  (d0 pieces : List (Int × ByteArray)) (b : Bool) (hw : oV k msg en ks at0 = some (pieces, b)) (F : Nat → Prop) (w : World) (hst : St d0 F w) (hn : ks.length ≤ 100) (hps : ∀ x ∈ pieces, x.2.size ≤ 1000000) (hd0 : d0.length + pieces.length ≤ 100) :
  Calls Tryz.prog 118 #[.string msg, .int .i64 at0, .int .i64 en, .int .i64 t, .func (.func g) #[] cb] w fun e w' =>
   e = .returned (.bool b) ∧ ∃ F', St (d0 ++ pieces) F' w' ∧ Tch F w w' ∧ ∀ k, F' k → F k ∨ w.heap.size ≤ k := by
 have HT := Lib.hid T
 have HE := T.enters
 have HKS := Lib.hid hks
 have HW := Lib.hid hw
 have HPS := Lib.hid hps
 have HD0 := Lib.hid hd0
 have HST := Lib.hid hst
 clear hks hw hst T hps hd0
 go_enter Tryz.func118, Tryz.ntmps118
 go_wp2_with fail
 refine (eT.calls k t ks _ HKS.out).mono ?_
 rintro e w1 ⟨v, rfl, hr, hb⟩
 obtain ⟨A, c, rfl, hcl, hC⟩ := Kd.mX hr
 have HR := Lib.hid hr
 obtain ⟨F1, h1, hf1⟩ := HT.out.rest _ _ _ _ HST.out hb
 have H1 := Lib.hid (show St (d0 ++ []) F1 w1 from by rw [List.append_nil]; exact h1)
 have HF := Lib.hid (show ∀ k, F k → k < w.heap.size from fun k hk => HT.out.lt _ _ _ k HST.out hk)
 have HF1 := Lib.hid hf1
 clear h1 hf1
 have HB := Lib.hid hb
 clear hr hb hC
 go_wp2_with fail
 go_loopw [1, 19] (fun v1 v19 wr => ∃ (i : Nat) (at_ : Int) (done rest : List (Int × ByteArray)) (F' : Nat → Prop), i ≤ ks.length ∧ v1 = .int .i64 at_ ∧ v19 = .int .i64 i ∧ Hid (oV k msg en (ks.drop i) at_ = some (rest, b)) ∧ Hid (pieces = done ++ rest) ∧ Hid (St (d0 ++ done) F' wr) ∧ Hid (Tch F w wr) ∧ Hid (∀ k, F' k → F k ∨ w.heap.size ≤ k) ∧
  Hid (Kd.R (Kd.int .i64) 3 wr w.heap.size (fun k => ¬ F' k) (.slice A ks.length c) ks)) (fun _ v _ => ks.length - (intOf v).toNat)
 case atStart =>
  refine ⟨0, at0, [], pieces, F1, Nat.zero_le _, rfl, rfl, HW, Lib.hid rfl, H1, Lib.hid (Tch.of_below HB.out), Lib.hid (fun k hk => (HF1.out k hk).imp id fun h => h.1), Lib.hid ?_⟩
  refine Kd.dn (Kd.kI HR.out) fun k hk hF => ?_
  rcases HF1.out k hF with e | ⟨_, c, fz, e⟩
  ·have := HF.out k e; omega
  ·obtain ⟨_, _, _, q, hq, cells, hc⟩ := hk
   rw [e] at hc
   injection hc with hc
   injection hc with _ hc _
   rw [← hc] at hq
   revert hq
   decide
 case round =>
  obtain ⟨i, at_, done, rest, F', hi, rfl, rfl, HWK, HP, HS, HTC, HFF, HRR⟩ := hrel
  clear H1 HW HB HR
  obtain ⟨A', c', hsl, _, hC⟩ := Kd.mX HRR.out
  by_cases hlt : i < ks.length
  ·have t0 : decide ((i : Int) < (ks.length : Int)) = true := decide_eq_true (by omega)
   injection hsl with hA _ hcc
   subst hA
   subst hcc
   obtain ⟨ad, rfl, hcell⟩ := Kd.oF hC (i : Int) (by omega) (by omega)
   have hrd : rd ks (i : Int) = ks[i] := by unfold rd; rw [Int.toNat_natCast, List.getD_eq_getElem?_getD, List.getElem?_eq_getElem hlt]; rfl
   rw [hrd, Int.toNat_natCast] at hcell
   have hwk := HWK.out
   rw [List.drop_eq_getElem_cons hlt, oV] at hwk
   obtain ⟨kind, hkd⟩ : ∃ x, ks[i] = x := ⟨_, rfl⟩
   rw [hkd] at hcell hwk
   obtain ⟨⟨s, next, ok⟩, hpart, hwk⟩ := Option.bind_eq_some_iff.mp hwk
   have HPART := Lib.hid hpart
   have HWK2 := Lib.hid hwk
   clear hpart hwk HWK hC hkd hrd
   go_wp2_with fail
   refine (fC.calls k msg at_ en kind s next ok _ HPART.out).mono ?_
   rintro e w2 ⟨rfl, hb2⟩
   obtain ⟨F2, hs2, hf2⟩ := HT.out.rest _ _ _ _ HS.out hb2
   have HS2 := Lib.hid hs2
   have HTC2 := Lib.hid (HTC.out.trans (Tch.of_below (S := F) hb2) fun _ _ h => h)
   have HFF2 := Lib.hid (show ∀ k, F2 k → F k ∨ w.heap.size ≤ k from fun k hk => by
    rcases hf2 k hk with e | e
    ·exact HFF.out k e
    ·have := HTC.out.size; exact .inr (by omega))
   have HR2 := Lib.hid (show Kd.R (Kd.int .i64) 3 w2 w.heap.size (fun k => ¬ F2 k) (.slice (some ad) ks.length c) ks from by
    refine Kd.dn (Kd.bD (Kd.kI HRR.out) hb2) fun k hk hF => ?_
    rcases hf2 k hF with e | e
    ·exact hk.1 e
    ·omega)
   have HSZ2 := Lib.hid hb2.size
   clear hb2 HS HTC HRR hcell hs2 hf2 HFF
   cases ok with
   | false =>
    have hwk := HWK2.out
    rw [if_neg (by decide)] at hwk
    injection hwk with hwk
    injection hwk with h1 h2
    subst h1 h2
    have HPP := Lib.hid (show pieces = done from by rw [HP.out, List.append_nil])
    clear hwk HWK2 HP
    go_wp2_with fail
    go_ret
    exact ⟨rfl, F2, by rw [HPP.out]; exact HS2.out, HTC2.out, HFF2.out⟩
   | true =>
    have hwk := HWK2.out
    rw [if_pos rfl] at hwk
    obtain ⟨⟨rest', b'⟩, hwk2, hwk3⟩ := Option.map_eq_some_iff.mp hwk
    injection hwk3 with h1 h2
    subst h1 h2
    have HWK3 := Lib.hid hwk2
    clear hwk hwk2 HWK2
    have hg := HT.out.take _ _ w2 kind s (HPS.out (kind, s) (by rw [HP.out]; simp)) (by have h1 := HD0.out; have h2 := congrArg List.length HP.out; simp at h2 ⊢; omega) HS2.out
    have HG := Lib.hid hg
    clear hg
    go_wp2_with fail
    refine (HG.out).mono ?_
    rintro e w3 ⟨rfl, F3, hs3, ht3, hf3⟩
    have hsz := HTC2.out.size
    have HS3 := Lib.hid hs3
    have HTC3 := Lib.hid (HTC2.out.fresh ht3 HFF2.out)
    have HFF3 := Lib.hid (show ∀ k, F3 k → F k ∨ w.heap.size ≤ k from fun k hk => by
     rcases hf3 k hk with e | e
     ·exact HFF2.out k e
     ·exact .inr (by omega))
    have hr3 : Kd.R (Kd.int .i64) 3 w3 w.heap.size (fun k => ¬ F3 k) (.slice (some ad) ks.length c) ks := by
     refine Kd.dn (Ji (Kd.kI HR2.out) ht3 fun k hk _ => hk.1) fun k hk hF => ?_
     rcases hf3 k hF with e | e
     ·exact hk.1 e
     ·omega
    have HR3 := Lib.hid hr3
    have HP3 := Lib.hid (show pieces = (done ++ [(kind, s)]) ++ rest' from by rw [HP.out]; simp)
    clear hs3 ht3 hf3 hr3 HP HG HS2 HTC2 HR2 HFF2 hsz
    go_wp2_with fail
    refine ⟨⟨i + 1, next, done ++ [(kind, s)], rest', F3, by omega, rfl, by simp, HWK3, HP3, Lib.hid (by rw [← List.append_assoc]; exact HS3.out), HTC3, HFF3, HR3⟩, by simp [intOf]; omega⟩
  ·obtain rfl : i = ks.length := by omega
   have hwk := HWK.out
   rw [List.drop_of_length_le (Nat.le_refl _), oV] at hwk
   injection hwk with hwk
   injection hwk with h1 h2
   subst h1 h2
   have HPP := Lib.hid (show pieces = done from by rw [HP.out, List.append_nil])
   clear HP hC HWK
   go_wp2_with fail
   go_ret
   exact ⟨rfl, F', by rw [HPP.out]; exact HS.out, HTC.out, HFF.out⟩
end Go.Y.pz
namespace Go.Y.dK
open Go.Y.PRd Go.Proofs.ah.av Go.Proofs.ah.aT Go.Proofs.ah.aU Go.Y.Given Go.Y.Oct Go.Y.Name Go.Y.lV Go.Y.pz
open Go.Y.dY (iX kU jr mW jM)
open Go.Y.mO (jv oG nH bT jF jw)
def dJ (B : ByteArray) : List Int → Nat → List (Int × ByteArray) × Bool
 | [], at_ => ([], decide (at_ = B.size))
 | kind :: ks, at_ => match jC B at_ kind with
  | some (s, n) => ((kind, s) :: (dJ B ks n).1, (dJ B ks n).2)
  | none => ([], false)
theorem EO (B : ByteArray) (hB : B.size ≤ 1000000) (k : Nat) (hk : FU ≤ k) : ∀ (ks : List Int) (at_ : Nat), (∀ x ∈ ks, Kind x) → at_ ≤ B.size → oV k B (B.size : Int) ks (at_ : Int) = some (dJ B ks at_) := by
 intro ks
 induction ks with
 | nil =>
  intro at_ _ _
  rw [oV, dJ]
  congr 2
  by_cases h : at_ = B.size
  ·rw [h]; simp
  ·rw [decide_eq_false h]; exact beq_eq_false_iff_ne.mpr (by omega)
 | cons kind ks ih =>
  intro at_ hk' hle
  have hkind := hk' kind (List.mem_cons_self ..)
  obtain ⟨s, n, ok, e, hp⟩ := JR B at_ kind k hle hB hkind hk
  rw [oV, e, Option.bind_some, dJ]
  cases hpp : jC B at_ kind with
  | none =>
   rw [hpp] at hp
   simp only at hp
   rw [hp]; simp
  | some x =>
   obtain ⟨s', n'⟩ := x
   rw [hpp] at hp
   obtain ⟨rfl, rfl, rfl⟩ := hp
   have hb := nk hle hkind hpp
   simp only [if_true]
   rw [ih n' (fun x hx => hk' x (List.mem_cons_of_mem _ hx)) hb.2.1]; rfl
def tot (l : List (Int × ByteArray)) : Nat := (l.map fun x => x.2.size).sum
def cat (l : List ByteArray) : ByteArray := l.foldl (· ++ ·) ⟨#[]⟩
theorem KA : ∀ (l : List ByteArray) (a : ByteArray), (l.foldl (· ++ ·) a).data.toList = a.data.toList ++ (l.map fun s => s.data.toList).flatten := by
 intro l
 induction l with
 | nil => intro a; simp
 | cons x l ih => intro a; rw [List.foldl_cons, ih, iy, List.map_cons, List.flatten_cons, List.append_assoc]
theorem uI (l : List ByteArray) : (cat l).data.toList = (l.map fun s => s.data.toList).flatten := by unfold cat; rw [KA]; rfl
theorem qI (l : List (Int × ByteArray)) : (cat (l.map (·.2))).size = tot l := by
 rw [← bR, uI, List.length_flatten, List.map_map, List.map_map]
 unfold tot
 congr 1
theorem uT {B : ByteArray} {i j k : Nat} (h : i ≤ j) (h' : j ≤ k) : (B.extract i j).data.toList ++ (B.extract j k).data.toList = (B.extract i k).data.toList := by
 obtain ⟨a, rfl⟩ : ∃ a, j = i + a := ⟨j - i, by omega⟩
 obtain ⟨b, rfl⟩ : ∃ b, k = i + a + b := ⟨k - (i + a), by omega⟩
 rw [jk, jk, show i + a + b = i + (a + b) by omega, jk, List.take_add, List.drop_drop]
theorem lq (B : ByteArray) : ∀ (ks : List Int) (at_ : Nat), (∀ x ∈ ks, Kind x ∧ x ≠ -1) → at_ ≤ B.size → (dJ B ks at_).2 = true → ((dJ B ks at_).1.map fun x => x.2.data.toList).flatten = (B.extract at_ B.size).data.toList := by
 intro ks
 induction ks with
 | nil =>
  intro at_ _ _ h
  rw [dJ] at h
  have := of_decide_eq_true h
  subst this
  simp [dJ]
 | cons kind ks ih =>
  intro at_ hk hle h
  rw [dJ] at h ⊢
  cases hpp : jC B at_ kind with
  | none => rw [hpp] at h; cases h
  | some x =>
   obtain ⟨s, n⟩ := x
   rw [hpp] at h
   simp only at h ⊢
   have hkk := hk kind (List.mem_cons_self ..)
   obtain ⟨h1, h2, h3⟩ := nk hle hkk.1 hpp
   have hs : s = B.extract at_ n := by
    rcases h3 with e | e
    ·exact e
    ·exact absurd e.1 hkk.2
   rw [List.map_cons, List.flatten_cons, ih n (fun x hx => hk x (List.mem_cons_of_mem _ hx)) h2 h, hs]
   exact uT h1 h2
theorem Hg (l : List (Int × ByteArray)) : (l.map fun x => x.2.data.toList).flatten.length = tot l := by
 rw [List.length_flatten, List.map_map]; unfold tot; congr 1
theorem zk (B : ByteArray) (ks : List Int) (at_ : Nat) (hk : ∀ x ∈ ks, Kind x ∧ x ≠ -1) (hle : at_ ≤ B.size) (h : (dJ B (-1 :: ks) at_).2 = true) (ht : tot (dJ B (-1 :: ks) at_).1 = B.size - at_) :
  ((dJ B (-1 :: ks) at_).1.map fun x => x.2.data.toList).flatten = (B.extract at_ B.size).data.toList := by
 rw [dJ] at h ht ⊢
 cases hpp : jC B at_ (-1) with
 | none => rw [hpp] at h; cases h
 | some x =>
  obtain ⟨s, n⟩ := x
  rw [hpp] at h ht
  simp only at h ht ⊢
  obtain ⟨h1, h2, h3⟩ := nk hle (.inl rfl) hpp
  have hp := lq B ks n hk h2 h
  have hl := congrArg List.length hp
  rw [Hg, bR, ByteArray.size_extract] at hl
  have hs : s = B.extract at_ n := by
   rcases h3 with e | e
   ·exact e
   ·exfalso
    have : tot ((-1, s) :: (dJ B ks n).1) = s.size + tot (dJ B ks n).1 := by unfold tot; simp
    rw [this] at ht
    omega
  rw [List.map_cons, List.flatten_cons, hp, hs]
  exact uT h1 h2
theorem Cy (B : ByteArray) (kind : Int) (ks : List Int) (hk : Kind kind) (h : (dJ B (kind :: ks) 0).2 = true) : ∃ n, n ≤ B.size ∧ (dJ B ks n).2 = true ∧ (dJ B (kind :: ks) 0).1 = (kind, B.extract 0 n) :: (dJ B ks n).1 := by
 rw [dJ] at h ⊢
 cases hpp : jC B 0 kind with
 | none => rw [hpp] at h; cases h
 | some x =>
  obtain ⟨s, n⟩ := x
  rw [hpp] at h
  simp only at h ⊢
  obtain ⟨h1, h2, h3⟩ := nk (Nat.zero_le _) hk hpp
  have hs : s = B.extract 0 n := by
   rcases h3 with e | e
   ·exact e
   ·omega
  exact ⟨n, h2, h, by rw [hs]⟩
theorem Co {B : ByteArray} {n : Nat} (hn : n ≤ B.size) : (B.extract 0 n).size = n := by rw [ByteArray.size_extract]; omega
theorem uK (x : Int × ByteArray) (l : List (Int × ByteArray)) : tot (x :: l) = x.2.size + tot l := by unfold tot; simp
theorem Cu (B : ByteArray) (t : Int) (h : (dJ B (dW t) 0).2 = true) (ht : tot (dJ B (dW t) 0).1 = B.size) : cat ((dJ B (dW t) 0).1.map (·.2)) = B := by
 have key : ((dJ B (dW t) 0).1.map fun x => x.2.data.toList).flatten = B.data.toList := by
  have hall : (B.extract 0 B.size).data.toList = B.data.toList := by rw [jM]
  have two : ∀ (kind : Int) (ks : List Int), Kind kind → (∀ x ∈ ks, Kind x ∧ x ≠ -1) → (dJ B (kind :: -1 :: ks) 0).2 = true → tot (dJ B (kind :: -1 :: ks) 0).1 = B.size → ((dJ B (kind :: -1 :: ks) 0).1.map fun x => x.2.data.toList).flatten = B.data.toList := by
   intro kind ks hk hks h1 h2
   obtain ⟨n, hn, h3, h4⟩ := Cy B kind _ hk h1
   rw [h4, uK, Co hn] at h2
   rw [h4, List.map_cons, List.flatten_cons, zk B ks n hks hn h3 (by omega), uT (Nat.zero_le _) hn, hall]
  unfold dW at h ht ⊢
  by_cases h1 : t = 1
  ·rw [if_pos h1] at h ht ⊢; rw [lq B _ 0 (by intro x hx; simp at hx; unfold Kind; omega) (Nat.zero_le _) h, hall]
  ·rw [if_neg h1] at h ht ⊢
   by_cases h2 : t = 28
   ·rw [if_pos h2] at h ht ⊢; rw [lq B _ 0 (by intro x hx; simp at hx; unfold Kind; omega) (Nat.zero_le _) h, hall]
   ·rw [if_neg h2] at h ht ⊢
    by_cases h3 : t = 2 ∨ t = 5 ∨ t = 12
    ·rw [if_pos h3] at h ht ⊢; rw [zk B [] 0 (by simp) (Nat.zero_le _) h (by omega), hall]
    ·rw [if_neg h3] at h ht ⊢
     by_cases h4 : t = 15
     ·rw [if_pos h4] at h ht ⊢; exact two 2 [] (by unfold Kind; omega) (by simp) h ht
     ·rw [if_neg h4] at h ht ⊢
      by_cases h5 : t = 6
      ·rw [if_pos h5] at h ht ⊢; exact two (-1) _ (by unfold Kind; omega) (by intro x hx; simp at hx; unfold Kind; omega) h ht
      ·rw [if_neg h5] at h ht ⊢
       by_cases h6 : t = 16
       ·rw [if_pos h6] at h ht ⊢; rw [lq B _ 0 (by intro x hx; simp at hx; unfold Kind; omega) (Nat.zero_le _) h, hall]
       ·rw [if_neg h6] at h ht ⊢
        by_cases h7 : t = 33
        ·rw [if_pos h7] at h ht ⊢; rw [lq B _ 0 (by intro x hx; simp at hx; unfold Kind; omega) (Nat.zero_le _) h, hall]
        ·rw [if_neg h7] at h ht ⊢; rw [lq B _ 0 (by intro x hx; simp at hx; unfold Kind; omega) (Nat.zero_le _) h, hall]
 apply fO
 rw [uI, List.map_map]
 exact key
def jm (t : Int) (B : ByteArray) : Bool := decide (B.size ≤ 65535) && (dJ B (dW t) 0).2 && decide (tot (dJ B (dW t) 0).1 = B.size)
def gL (n : ByteArray) : ByteArray := (gq.f n).getD ⟨#[]⟩
def fq (x : Int × ByteArray) : ByteArray := if x.1 = -1 ∨ x.1 = -2 then gL x.2 else x.2
def qG (t : Int) (B : ByteArray) : ByteArray := if jm t B = true then cat ((dJ B (dW t) 0).1.map fq) else ⟨#[]⟩
def kindOf (c : Nat) : Int := if c = 110 then -1 else if c = 117 then -2 else if c = 116 then -3 else if c = 111 then -4 else if c = 104 then 16 else (c : Int) - 48
def letters (t : Int) : List UInt8 := if t = 1 then [52] else if t = 28 then [104] else if t = 2 ∨ t = 5 ∨ t = 12 then [110] else if t = 15 then [50, 110] else if t = 6 then [110, 110, 52, 52, 52, 52, 52] else if t = 16 then [116] else if t = 33 then [50, 50, 50, 117] else [111]
theorem qP (t : Int) : (letters t).map (fun c => kindOf c.toNat) = dW t := by
 unfold letters dW
 repeat' split
 all_goals rfl
theorem Hw (t : Int) (k : Nat) (hk : 1 ≤ k) : ∃ p, bV.f k t = some p ∧ p.data.toList = letters t := by
 obtain ⟨k, rfl⟩ : ∃ j, k = j + 1 := ⟨k - 1, by omega⟩
 unfold bV.f letters
 by_cases h1 : t = 1
 ·rw [if_pos h1, if_pos h1]; exact ⟨_, rfl, rfl⟩
 ·rw [if_neg h1, if_neg h1]
  by_cases h2 : t = 28
  ·rw [if_pos h2, if_pos h2]; exact ⟨_, rfl, rfl⟩
  ·rw [if_neg h2, if_neg h2]
   by_cases h3 : t = 2
   ·subst h3; exact ⟨_, rfl, rfl⟩
   ·by_cases h4 : t = 5
    ·subst h4; exact ⟨_, rfl, rfl⟩
    ·by_cases h5 : t = 12
     ·subst h5; exact ⟨_, rfl, rfl⟩
     ·rw [if_neg h3, if_neg h4, if_neg (show ¬ (t = 2 ∨ t = 5 ∨ t = 12) by omega), bV.j0, if_neg (by simp [h5])]
      by_cases h6 : t = 15
      ·rw [if_pos h6, if_pos h6]; exact ⟨_, rfl, rfl⟩
      ·rw [if_neg h6, if_neg h6]
       by_cases h7 : t = 6
       ·rw [if_pos h7, if_pos h7]; exact ⟨_, rfl, rfl⟩
       ·rw [if_neg h7, if_neg h7]
        by_cases h8 : t = 16
        ·rw [if_pos h8, if_pos h8]; exact ⟨_, rfl, rfl⟩
        ·rw [if_neg h8, if_neg h8]
         by_cases h9 : t = 33
         ·rw [if_pos h9, if_pos h9]; exact ⟨_, rfl, rfl⟩
         ·rw [if_neg h9, if_neg h9]; exact ⟨_, rfl, rfl⟩
end Go.Y.dK
namespace Go.Y.dK
open Go.Proofs
open Go.Y.PRd Go.Proofs.ah.av Go.Proofs.ah.aT Go.Proofs.ah.aU Go.Y.Given Go.Y.Oct Go.Y.Name Go.Y.lV Go.Y.pz
open Go.Y.dY (iX kU jr mW jM)
open Go.Y.mO (jv oG nH bT jF jw)
def Letter (c : Nat) : Prop := c = 110 ∨ c = 117 ∨ c = 116 ∨ c = 111 ∨ c = 104 ∨ c = 52 ∨ c = 50
theorem Ah (t : Int) : ∀ c ∈ letters t, Letter c.toNat := by
 intro c hc
 unfold letters at hc
 unfold Letter
 repeat' split at hc
 all_goals
  simp at hc
  rcases hc with rfl | rfl | hc <;> first | decide | (rcases hc with rfl | rfl <;> decide) | skip
theorem Jg {a b : ByteArray} : (a.toList != b.toList) = decide (¬ a = b) := by
 rw [bne, qY]; simp
theorem FW (B : ByteArray) (hB : B.size ≤ 1000000) (p : ByteArray) (hp : ∀ c ∈ p.data.toList, Letter c.toNat) (hps : p.size ≤ 100) : ∀ (d i at_ k : Nat) (acc : List ByteArray), i + d = p.size → at_ ≤ B.size → acc.length + d ≤ 1000 → FU + 4 * d ≤ k →
  ∃ l b, aD.l0 k B (at_ : Int) (B.size : Int) acc p (i : Int) = some (l, b) ∧ b = (dJ B ((p.data.toList.drop i).map fun c => kindOf c.toNat) at_).2 ∧ (l = acc ++ (dJ B ((p.data.toList.drop i).map fun c => kindOf c.toNat) at_).1.map (·.2) ∨ l = [] ∧ b = false) := by
 intro d
 induction d with
 | zero =>
  intro i at_ k acc hd hle ha hk
  have : 1 ≤ k := by unfold FU at hk; omega
  obtain ⟨k, rfl⟩ : ∃ j, k = j + 1 := ⟨k - 1, by omega⟩
  rw [aD.l0, if_neg (by omega), List.drop_of_length_le (by rw [bR]; omega), List.map_nil, dJ]
  refine ⟨_, _, rfl, ?_, Or.inl (by simp)⟩
  by_cases h : at_ = B.size
  ·rw [h]; simp
  ·rw [decide_eq_false h]; exact beq_eq_false_iff_ne.mpr (by omega)
 | succ d ih =>
  intro i at_ k acc hd hle ha hk
  have hf := Bp hB
  have : FU ≥ 5000 := by unfold FU; omega
  obtain ⟨k, rfl⟩ : ∃ j, k = j + 4 := ⟨k - 4, by omega⟩
  have hlt : i < p.size := by omega
  have hbt := jF p i hlt
  have hL := hp (p.data.toList[i]'(by rw [bR]; exact hlt)) (List.getElem_mem _)
  have hdrop : p.data.toList.drop i = p.data.toList[i]'(by rw [bR]; exact hlt) :: p.data.toList.drop (i + 1) := List.drop_eq_getElem_cons _
  rw [hdrop, List.map_cons]
  generalize (p.data.toList[i]'(by rw [bR]; exact hlt)).toNat = c at hbt hL
  have hnext := Lib.hid (show wrap64 ((i : Int) + 1) = ((i + 1 : Nat) : Int) from by rw [bT (by omega) (by omega)]; omega)
  rw [dJ]
  -- what is done behind a part
  have go : ∀ (j n : Nat) (s : ByteArray), FU + 4 * d ≤ j → n ≤ B.size → ∃ l b, aD.l0 j B (n : Int) (B.size : Int) (acc ++ [s]) p (wrap64 ((i : Int) + 1)) = some (l, b) ∧ b = (dJ B ((p.data.toList.drop (i + 1)).map fun c => kindOf c.toNat) n).2 ∧ (l = acc ++ (s :: (dJ B ((p.data.toList.drop (i + 1)).map fun c => kindOf c.toNat) n).1.map (·.2)) ∨ l = [] ∧ b = false) := by
   intro j n s hj hn
   rw [hnext.out]
   obtain ⟨l, b, e1, e2, e3⟩ := ih (i + 1) n j (acc ++ [s]) (by omega) hn (by simp; omega) hj
   exact ⟨l, b, e1, e2, e3.imp (fun h => by rw [h]; simp) id⟩
  have part : ∀ (kind : Int), 0 ≤ kind → jC B at_ kind = if kind > (B.size : Int) - at_ then none else some (B.extract at_ (at_ + kind.toNat), at_ + kind.toNat) := by
   intro kind hk
   unfold jC
   rw [if_neg (show ¬ kind = -1 by omega), if_neg (show ¬ kind = -2 by omega), if_neg (show ¬ kind = -3 by omega), if_neg (show ¬ kind = -4 by omega)]
  rw [aD.l0, if_pos (by omega), if_pos (by omega), hbt]
  by_cases h110 : c = 110
  ·subst h110
   rw [if_pos (by omega), aD.j1, if_pos (by simp), BL B hB at_ _ hle (by omega), Option.bind_some, show kindOf 110 = -1 from rfl]
   unfold jC
   rw [if_pos (show (-1 : Int) = -1 from rfl)]
   by_cases hr : (jA B at_).2.2 = 0
   ·obtain ⟨x, y, e, h1, h2, _⟩ := kP hr
    rw [if_pos hr, if_pos hr, e]
    simp only [Int.toNat_natCast]
    rw [if_pos (by omega), if_pos (by omega), hbt, if_neg (by omega), aD.j2, if_neg (by simp), if_pos (by omega)]
    exact go _ y x (by omega) h2
   ·rw [if_neg hr, if_neg hr, aD.j2, if_pos rfl]
    exact ⟨_, _, rfl, rfl, Or.inr ⟨rfl, rfl⟩⟩
  ·rw [if_neg (by omega)]
   by_cases h117 : c = 117
   ·subst h117
    rw [aD.j1, if_pos (by simp), BL B hB at_ _ hle (by omega), Option.bind_some, show kindOf 117 = -2 from rfl]
    unfold jC
    rw [if_neg (show ¬ (-2 : Int) = -1 by decide), if_pos (show (-2 : Int) = -2 from rfl)]
    by_cases hr : (jA B at_).2.2 = 0
    ·obtain ⟨x, y, e, h1, h2, _⟩ := kP hr
     rw [if_pos hr, e]
     simp only [Int.toNat_natCast]
     rw [if_pos (by omega), if_pos (by omega), hbt, if_pos (by omega), if_pos (by omega), if_pos (by omega), if_pos (by omega), Jg, aD.j2]
     by_cases hx : x = B.extract at_ y
     ·rw [if_neg (by simp [hx]), if_pos (by omega), if_pos ⟨trivial, hx⟩]
      exact go _ y x (by omega) h2
     ·rw [if_pos (by simp [hx]), if_neg (fun e => hx e.2)]
      exact ⟨_, _, rfl, rfl, Or.inr ⟨rfl, rfl⟩⟩
    ·rw [if_neg hr, if_neg (fun e => hr e.1), aD.j2, if_pos rfl]
     exact ⟨_, _, rfl, rfl, Or.inr ⟨rfl, rfl⟩⟩
   ·rw [aD.j1, if_neg (by simp; omega)]
    by_cases h116 : c = 116
    ·subst h116
     rw [if_pos (by omega), if_pos (by omega), if_pos (by omega), Int.toNat_natCast, nH _ _ _ (by rw [ByteArray.size_extract]; omega) (by rw [ByteArray.size_extract]; unfold FU at hk; omega), Option.bind_some, show kindOf 116 = -3 from rfl]
     unfold jC
     rw [if_neg (show ¬ (-3 : Int) = -1 by decide), if_neg (show ¬ (-3 : Int) = -2 by decide), if_pos (show (-3 : Int) = -3 from rfl)]
     have e1 := Lib.hid (show wrap64 ((at_ : Int) + wrap64 ((B.size : Int) - at_)) = (B.size : Int) from by rw [bT (x := (B.size : Int) - at_) (by omega) (by omega), bT (by omega) (by omega)]; omega)
     generalize jv (B.extract at_ B.size) 1 = ps
     by_cases hp0 : ps.2 = 0
     ·rw [if_pos hp0, aD.j3]
      by_cases hl : 0 < ps.1.length
      ·rw [if_neg (show ¬ ((ps.1.length : Int) == 0) = true from fun e => by have := beq_iff_eq.mp e; omega), if_pos (show ps.2 = 0 ∧ 0 < ps.1.length from ⟨hp0, hl⟩), e1.out, if_neg (by omega), if_pos (by omega), if_pos (by omega), if_pos (by omega), if_pos (by omega)]
       simp only [Int.toNat_natCast]
       exact go _ B.size _ (by omega) (Nat.le_refl _)
      ·rw [if_pos (show ((ps.1.length : Int) == 0) = true from beq_iff_eq.mpr (by omega)), if_neg (show ¬ (ps.2 = 0 ∧ 0 < ps.1.length) from fun e => hl e.2)]
       exact ⟨_, _, rfl, rfl, Or.inr ⟨rfl, rfl⟩⟩
     ·rw [if_neg hp0, if_neg (show ¬ (ps.2 = 0 ∧ 0 < ps.1.length) from fun e => hp0 e.1), aD.j3, if_pos rfl]
      exact ⟨_, _, rfl, rfl, Or.inr ⟨rfl, rfl⟩⟩
    ·rw [if_neg (by omega)]
     by_cases h111 : c = 111
     ·subst h111
      have e1 := Lib.hid (show wrap64 ((at_ : Int) + wrap64 ((B.size : Int) - at_)) = (B.size : Int) from by rw [bT (x := (B.size : Int) - at_) (by omega) (by omega), bT (by omega) (by omega)]; omega)
      rw [if_pos (by omega), e1.out, if_neg (by omega), if_pos (by omega), if_pos (by omega), if_pos (by omega), if_pos (by omega), show kindOf 111 = -4 from rfl]
      unfold jC
      rw [if_neg (show ¬ (-4 : Int) = -1 by decide), if_neg (show ¬ (-4 : Int) = -2 by decide), if_neg (show ¬ (-4 : Int) = -3 by decide), if_pos (show (-4 : Int) = -4 from rfl)]
      simp only [Int.toNat_natCast]
      exact go _ B.size _ (by omega) (Nat.le_refl _)
     ·rw [if_neg (by omega)]
      by_cases h104 : c = 104
      ·subst h104
       rw [if_pos (by omega), bT (by omega) (by omega), show kindOf 104 = 16 from rfl, part 16 (by decide)]
       by_cases h5 : (16 : Int) > (B.size : Int) - at_
       ·rw [if_pos (by omega), if_pos h5]
        exact ⟨_, _, rfl, rfl, Or.inr ⟨rfl, rfl⟩⟩
       ·rw [if_neg (by omega), if_neg h5, if_pos (by omega), if_pos (by omega), if_pos (by omega), if_pos (by omega), show (at_ : Int) + 16 = ((at_ + 16 : Nat) : Int) by omega]
        simp only [Int.toNat_natCast]
        exact go _ (at_ + 16) _ (by omega) (by omega)
      ·have hkc : kindOf c = (c : Int) - 48 := by unfold kindOf; rw [if_neg h110, if_neg h117, if_neg h116, if_neg h111, if_neg h104]
       have hc : c = 52 ∨ c = 50 := by unfold Letter at hL; omega
       have hw := Lib.hid (show wrap64 ((wrap64 (c : Int)) - 48) = (c : Int) - 48 from by rw [bT (x := (c : Int)) (by omega) (by omega), bT (by omega) (by omega)])
       rw [if_neg (by omega), if_pos (by omega), if_pos (by omega), hbt, hw.out, bT (by omega) (by omega), hkc, part ((c : Int) - 48) (by omega)]
       by_cases h5 : (c : Int) - 48 > (B.size : Int) - at_
       ·rw [if_pos (by omega), if_pos h5]
        exact ⟨_, _, rfl, rfl, Or.inr ⟨rfl, rfl⟩⟩
       ·rw [if_neg (by omega), if_neg h5, if_pos (by omega), if_pos (by omega), if_pos (by omega), if_pos (by omega), show (at_ : Int) + ((c : Int) - 48) = ((at_ + ((c : Int) - 48).toNat : Nat) : Int) by omega]
        simp only [Int.toNat_natCast]
        exact go _ (at_ + ((c : Int) - 48).toNat) _ (by omega) (by omega)
end Go.Y.dK
namespace Go.Y.dK
open Go.Proofs
open Go.Y.PRd Go.Proofs.ah.av Go.Proofs.ah.aT Go.Proofs.ah.aU Go.Y.Given Go.Y.Oct Go.Y.Name Go.Y.lV Go.Y.pz
open Go.Y.dY (iX kU jr mW jM)
open Go.Y.mO (jv oG nH bT jF jw)
theorem Fq {B : ByteArray} {at_ : Nat} {kind : Int} {s : ByteArray} {n : Nat} (hB : B.size ≤ 1000000) (h : jC B at_ kind = some (s, n)) : s.size ≤ 1000000 := by
 have hread : ∀ {x : ByteArray} {y : Int}, jA B at_ = (x, y, 0) → x.size ≤ 1000000 := fun h => by
  have := (mG B _ at_ _ _ _ _ _ h).2.2.2; omega
 have hx : ∀ i j, (B.extract i j).size ≤ 1000000 := fun i j => by rw [ByteArray.size_extract]; omega
 unfold jC at h
 split at h
 ·split at h
  ·rename_i hr
   obtain ⟨x, y, e, _⟩ := kP hr
   have := hread e
   rw [e] at h; simp at h; rw [← h.1]; exact this
  ·cases h
 ·split at h
  ·split at h
   ·rename_i hr
    obtain ⟨x, y, e, _⟩ := kP hr.1
    have := hread e
    rw [e] at h; simp at h; rw [← h.1]; exact this
   ·cases h
  ·split at h
   ·split at h
    ·simp at h; rw [← h.1]; exact hx _ _
    ·cases h
   ·split at h
    ·simp at h; rw [← h.1]; exact hx _ _
    ·split at h
     ·cases h
     ·simp at h; rw [← h.1]; exact hx _ _
theorem pq (B : ByteArray) (hB : B.size ≤ 1000000) : ∀ (ks : List Int) (at_ : Nat), (∀ x ∈ (dJ B ks at_).1, x.2.size ≤ 1000000) ∧ (dJ B ks at_).1.length ≤ ks.length := by
 intro ks
 induction ks with
 | nil => intro at_; rw [dJ]; exact ⟨by simp, by simp⟩
 | cons kind ks ih =>
  intro at_
  rw [dJ]
  cases hpp : jC B at_ kind with
  | none => exact ⟨by simp, by simp⟩
  | some x =>
   obtain ⟨s, n⟩ := x
   simp only
   refine ⟨fun x hx => ?_, by have := (ih n).2; simp; omega⟩
   rcases List.mem_cons.mp hx with e | e
   ·rw [e]; exact Fq hB hpp
   ·exact (ih n).1 x e
theorem Jm (l : List ByteArray) (hl : l.length ≤ 1000) (hs : ∀ s ∈ l, s.size ≤ 1000000) : ∀ (d i k : Nat) (a : ByteArray), i + d = l.length → d < k → a.size + d * 1000000 ≤ 10000000000 → bZ.l0 k l a (i : Int) = some ((l.drop i).foldl (· ++ ·) a) := by
 intro d
 induction d with
 | zero =>
  intro i k a hd hk _
  obtain ⟨k, rfl⟩ : ∃ j, k = j + 1 := ⟨k - 1, by omega⟩
  rw [bZ.l0, if_neg (by omega), List.drop_of_length_le (by omega)]; rfl
 | succ d ih =>
  intro i k a hd hk ha
  obtain ⟨k, rfl⟩ : ∃ j, k = j + 1 := ⟨k - 1, by omega⟩
  have hlt : i < l.length := by omega
  have hz := hs l[i] (List.getElem_mem hlt)
  rw [bZ.l0, if_pos (by omega), if_pos (by omega), jw l i hlt, if_pos (by omega), List.drop_eq_getElem_cons hlt, List.foldl_cons, show wrap64 ((i : Int) + 1) = ((i + 1 : Nat) : Int) by rw [bT (by omega) (by omega)]; omega]
  exact ih (i + 1) k _ (by omega) (by omega) (by rw [ByteArray.size_append]; omega)
theorem JQ (l : List ByteArray) (k : Nat) (hl : l.length ≤ 1000) (hs : ∀ s ∈ l, s.size ≤ 1000000) (hk : 1001 ≤ k) : bZ.f k l = some (cat l) := by
 unfold bZ.f
 have hz : (⟨#[]⟩ : ByteArray).size = 0 := rfl
 have := Jm l hl hs l.length 0 k ⟨#[]⟩ (by omega) (by omega) (by rw [hz]; omega)
 rw [List.drop_zero] at this; exact this
theorem EH (t : Int) (B : ByteArray) (hB : B.size ≤ 1000000) (k : Nat) (hk : FU + 100 ≤ k) : ∃ l b, aD.f k B 0 (B.size : Int) t = some (l, b) ∧ b = (dJ B (dW t) 0).2 ∧ (l = (dJ B (dW t) 0).1.map (·.2) ∨ l = [] ∧ b = false) := by
 obtain ⟨p, hp, hpl⟩ := Hw t k (by omega)
 have hps : p.size ≤ 7 := by
  rw [← bR, hpl]; have := congrArg List.length (qP t); rw [List.length_map] at this; rw [this]; exact kW t
 unfold aD.f
 rw [hp, Option.bind_some, if_pos (Int.natCast_nonneg _), if_pos (Int.le_refl _), Int.toNat_natCast, jM]
 obtain ⟨l, b, e1, e2, e3⟩ := FW B hB p (by rw [hpl]; exact Ah t) (by omega) p.size 0 0 k [] (by omega) (Nat.zero_le _) (by simp; omega) (by omega)
 rw [List.drop_zero, hpl, qP] at e2 e3
 exact ⟨l, b, e1, e2, by simpa using e3⟩
theorem Gs (t : Int) (B : ByteArray) (hB : B.size ≤ 1000000) (k : Nat) (hk : FU + 2000 ≤ k) : ∃ s, gJ.f k B 0 (B.size : Int) t = some (s, (dJ B (dW t) 0).2 && decide (s.size ≤ 65535)) ∧ ((dJ B (dW t) 0).2 = true → s = cat ((dJ B (dW t) 0).1.map (·.2))) := by
 obtain ⟨l, b, e1, e2, e3⟩ := EH t B hB k (Nat.le_trans (Nat.add_le_add_left (by decide) FU) hk)
 have hw := pq B hB (dW t) 0
 have hl7 := kW t
 have hlen : l.length ≤ 1000 ∧ ∀ s ∈ l, s.size ≤ 1000000 := by
  rcases e3 with e | e
  ·rw [e]
   refine ⟨by rw [List.length_map]; omega, fun s hs => ?_⟩
   obtain ⟨x, hx, rfl⟩ := List.mem_map.mp hs
   exact hw.1 x hx
  ·rw [e.1]; exact ⟨by simp, by simp⟩
 unfold gJ.f
 rw [e1, Option.bind_some, JQ l k hlen.1 hlen.2 (Nat.le_trans (by decide) (Nat.le_trans (Nat.le_add_left 2000 FU) hk)), Option.bind_some]
 refine ⟨cat l, ?_, fun h => ?_⟩
 ·rw [← e2]
  cases b with
  | true =>
   rw [if_pos rfl, Bool.true_and]
   congr 2
   by_cases h : (cat l).size ≤ 65535
   ·rw [decide_eq_true h, decide_eq_true (by omega)]
   ·rw [decide_eq_false h, decide_eq_false (by omega)]
  | false => rw [if_neg (fun h => by cases h)]; rfl
 ·rcases e3 with e | e
  ·rw [e]
  ·rw [e2, h] at e; cases e.2
theorem GU (t : Int) (B : ByteArray) (hB : B.size ≤ 1000000) (k : Nat) (hk : FU + 2000 ≤ k) : fG.f k t B = some (jm t B) := by
 obtain ⟨s, e1, e2⟩ := Gs t B hB k hk
 unfold fG.f jm
 rw [e1, Option.bind_some]
 cases hw : (dJ B (dW t) 0).2 with
 | false => simp
 | true =>
  have hs := e2 hw
  have hz := qI (dJ B (dW t) 0).1
  rw [← hs] at hz
  rw [Bool.true_and, Bool.and_true, ← hz]
  by_cases h1 : s.size ≤ 65535
  ·rw [decide_eq_true h1, if_pos rfl, qY]
   by_cases h2 : s = B
   ·rw [decide_eq_true h2, ← h2, decide_eq_true h1]; simp
   ·rw [decide_eq_false h2]
    have : ¬ s.size = B.size := fun e => h2 (by rw [hs]; exact Cu B t hw (by rw [← hz]; exact e))
    rw [decide_eq_false this]; simp
  ·rw [decide_eq_false h1, if_neg (fun h => by cases h)]
   by_cases h2 : s.size = B.size
   ·rw [decide_eq_false (show ¬ B.size ≤ 65535 by omega)]; simp
   ·rw [decide_eq_false h2]; simp
theorem sV {n : ByteArray} (h : bC n = true) : ∃ l, good l ∧ n = bE l ∧ (bE l).size ≤ 255 := by
 obtain ⟨l, hg, e, hz⟩ := (jX n).mp h
 exact ⟨l, hg, e, hz⟩
theorem DF (n : ByteArray) : gq.f n = some (gL n) := by
 unfold gL
 cases hr : bC n with
 | true =>
  obtain ⟨l, hg, rfl, hz⟩ := sV hr
  rw [iX l hg hz]; rfl
 | false => rw [kU n hr]; rfl
theorem Ju (n : ByteArray) (k : Nat) (hk : 700 ≤ k) : aJ.f k n = some (gL n) := by
 unfold gL
 cases hr : bC n with
 | true =>
  obtain ⟨l, hg, rfl, hz⟩ := sV hr
  rw [iX l hg hz, jr l hg hz k hk]; rfl
 | false => rw [kU n hr, mW n hr k hk]; rfl
end Go.Y.dK
namespace Go.Y.dK
open Go.Proofs
open Go.Y.PRd Go.Proofs.ah.av Go.Proofs.ah.aT Go.Proofs.ah.aU Go.Y.Given Go.Y.Oct Go.Y.Name Go.Y.lV Go.Y.pz
open Go.Y.mO (bT jF jw)
theorem vI (n : ByteArray) : (gL n).size ≤ 1000000 := by
 unfold gL
 cases hr : bC n with
 | true =>
  have hz := qH hr
  obtain ⟨l, hg, rfl, hz⟩ := sV hr
  rw [Go.Y.dY.iX l hg hz]
  show (bE (l.map dH)).size ≤ 1000000
  rw [size_map]; omega
 | false => rw [Go.Y.dY.kU n hr]; show (0 : Nat) ≤ 1000000; omega
theorem yM {x : Int × ByteArray} (h : x.2.size ≤ 1000000) : (fq x).size ≤ 1000000 := by
 unfold fq; split
 ·exact vI _
 ·exact h
theorem zG (ps : List (Int × ByteArray)) (p : ByteArray) (hp : ∀ c ∈ p.data.toList, Letter c.toNat) (hkd : ps.map (·.1) = (p.data.toList.map fun c => kindOf c.toNat).take ps.length) (hlen : ps.length ≤ p.size) (hps : p.size ≤ 100) (hsz : ∀ x ∈ ps, x.2.size ≤ 1000000) :
  ∀ (d i k : Nat) (a : ByteArray), i + d = ps.length → d + 1000 ≤ k → a.size + d * 1000000 ≤ 10000000000 → gQ.l0 k (ps.map (·.2)) p a (i : Int) = some (((ps.drop i).map fq).foldl (· ++ ·) a) := by
 intro d
 induction d with
 | zero =>
  intro i k a hd hk _
  obtain ⟨k, rfl⟩ : ∃ j, k = j + 1 := ⟨k - 1, by omega⟩
  rw [gQ.l0, if_neg (by rw [List.length_map]; omega), List.drop_of_length_le (by omega)]; rfl
 | succ d ih =>
  intro i k a hd hk ha
  obtain ⟨k, rfl⟩ : ∃ j, k = j + 1 := ⟨k - 1, by omega⟩
  have hlt : i < ps.length := by omega
  have hlp : i < p.data.toList.length := by rw [bR]; omega
  have hbt := jF p i (by omega)
  have hL := hp (p.data.toList[i]) (List.getElem_mem _)
  have hkk : ps[i].1 = kindOf (p.data.toList[i]).toNat := by
   have h1 : (ps.map (·.1))[i]? = some ps[i].1 := by rw [List.getElem?_map, List.getElem?_eq_getElem hlt]; rfl
   rw [hkd, List.getElem?_take_of_lt hlt, List.getElem?_map, List.getElem?_eq_getElem hlp] at h1
   simpa using h1.symm
  have hz := hsz ps[i] (List.getElem_mem hlt)
  have hf := vI ps[i].2
  have hrd : bH ByteArray.empty (ps.map (·.2)) (i : Int) = ps[i].2 := by rw [jw _ i (by rw [List.length_map]; exact hlt)]; simp
  have hnx := Lib.hid (show wrap64 ((i : Int) + 1) = ((i + 1 : Nat) : Int) from by rw [bT (by omega) (by omega)]; omega)
  generalize (p.data.toList[i]).toNat = c at hbt hL hkk
  rw [gQ.l0, if_pos (by rw [List.length_map]; omega), if_pos (by omega), if_pos (by omega), hbt, List.drop_eq_getElem_cons hlt, List.map_cons, List.foldl_cons, hrd, Ju _ _ (by omega)]
  have step : ∀ b : ByteArray, b.size ≤ a.size + 1000000 → gQ.l0 k (ps.map (·.2)) p b (wrap64 ((i : Int) + 1)) = some (((ps.drop (i + 1)).map fq).foldl (· ++ ·) b) := fun b hb => by
   rw [hnx.out]; exact ih (i + 1) k b (by omega) (by omega) (by omega)
  by_cases h110 : c = 110
  ·have : fq ps[i] = gL ps[i].2 := by unfold fq; rw [if_pos (.inl (by rw [hkk, h110]; rfl))]
   rw [if_pos (by omega), Option.bind_some, if_pos (by omega), this]
   exact step _ (by rw [ByteArray.size_append]; omega)
  ·rw [if_neg (by omega)]
   by_cases h117 : c = 117
   ·have : fq ps[i] = gL ps[i].2 := by unfold fq; rw [if_pos (.inr (by rw [hkk, h117]; rfl))]
    rw [if_pos (by omega), Option.bind_some, if_pos (by omega), this]
    exact step _ (by rw [ByteArray.size_append]; omega)
   ·have : fq ps[i] = ps[i].2 := by
     unfold fq
     rw [if_neg]
     rw [hkk]
     unfold kindOf
     rw [if_neg h110, if_neg h117]
     unfold Letter at hL
     rcases hL with e | e | e | e | e | e | e <;> first | omega | (subst e; decide)
    rw [if_neg (by omega), if_pos (by omega), this]
    exact step _ (by rw [ByteArray.size_append]; omega)
end Go.Y.dK
namespace Go.Y.Shelf
open Go.Proofs Go.Shelf Go.RowKit
def En : Go.Shelf.Ren := ⟨fun | 166 => 136 | 240 => 161 | 276 => 174 | n => n, fun | 0 => 0 | 3 => 3 | 4 => 4 | 5 => 5 | 9 => 9 | 20 => 20 | 37 => 101 | 70 => 128 | 72 => 130 | 75 => 132 | 80 => 93 | 164 => 167 | n => n, fun | n => n⟩
theorem JG : Go.Proofs.Lays.n166 Tryz.prog En := {
 mixed := by kernel_rfl
 f166 := Tryz.func136.trans (congrArg some (by kernel_rfl))
 f240 := Tryz.func161.trans (congrArg some (by kernel_rfl))
 f276 := Tryz.func174.trans (congrArg some (by kernel_rfl))
 t0 := Tryz.underlying0
 a0 := Tryz.isAgg0
 z0 := Tryz.sizeOf0
 v0 := Tryz.zeroValue0
 t3 := Tryz.underlying3
 a3 := Tryz.isAgg3
 z3 := Tryz.sizeOf3
 v3 := Tryz.zeroValue3
 t4 := Tryz.underlying4
 a4 := Tryz.isAgg4
 z4 := Tryz.sizeOf4
 v4 := Tryz.zeroValue4
 t9 := Tryz.underlying9
 a9 := Tryz.isAgg9
 z9 := Tryz.sizeOf9
 v9 := Tryz.zeroValue9
 t20 := Tryz.underlying20
 a20 := Tryz.isAgg20
 z20 := Tryz.sizeOf20
 v20 := Tryz.zeroValue20
 t37 := Tryz.underlying101
 a37 := Tryz.isAgg101
 z37 := Tryz.sizeOf101
 v37 := Tryz.zeroValue101
 t70 := Tryz.underlying128
 a70 := Tryz.isAgg128
 z70 := Tryz.sizeOf128
 v70 := Tryz.zeroValue128
 t72 := Tryz.underlying130
 a72 := Tryz.isAgg130
 z72 := Tryz.sizeOf130
 v72 := Tryz.zeroValue130
 t75 := Tryz.underlying132
 a75 := Tryz.isAgg132
 z75 := Tryz.sizeOf132
 v75 := Tryz.zeroValue132
 t164 := Tryz.underlying167
 a164 := Tryz.isAgg167
 z164 := Tryz.sizeOf167
 v164 := Tryz.zeroValue167 }
theorem FX : Builder.Extra Tryz.prog En := {
 sizeBuilder := by kernel_rfl
 liesBuilder := by kernel_rfl
 t5 := Tryz.underlying5
 a5 := Tryz.isAgg5
 z5 := Tryz.sizeOf5
 v5 := Tryz.zeroValue5
 infoByte := by kernel_rfl
 cellsByte := by kernel_rfl
 sizeByte := by kernel_rfl
 neB5 := by decide }
def Dz : Go.Shelf.Ren := ⟨fun | 169 => 137 | n => n, fun | 0 => 0 | 3 => 3 | 5 => 5 | 9 => 9 | 37 => 101 | 70 => 128 | 72 => 130 | 127 => 156 | n => n, fun | n => n⟩
theorem JF : Go.Proofs.Lays.n169 Tryz.prog Dz := {
 mixed := by kernel_rfl
 f169 := Tryz.func137.trans (congrArg some (by kernel_rfl))
 t0 := Tryz.underlying0
 a0 := Tryz.isAgg0
 z0 := Tryz.sizeOf0
 v0 := Tryz.zeroValue0
 t3 := Tryz.underlying3
 a3 := Tryz.isAgg3
 z3 := Tryz.sizeOf3
 v3 := Tryz.zeroValue3
 t9 := Tryz.underlying9
 a9 := Tryz.isAgg9
 z9 := Tryz.sizeOf9
 v9 := Tryz.zeroValue9
 t37 := Tryz.underlying101
 a37 := Tryz.isAgg101
 z37 := Tryz.sizeOf101
 v37 := Tryz.zeroValue101
 t70 := Tryz.underlying128
 a70 := Tryz.isAgg128
 z70 := Tryz.sizeOf128
 v70 := Tryz.zeroValue128
 t72 := Tryz.underlying130
 a72 := Tryz.isAgg130
 z72 := Tryz.sizeOf130
 v72 := Tryz.zeroValue130
 t127 := Tryz.underlying156
 a127 := Tryz.isAgg156
 z127 := Tryz.sizeOf156
 v127 := Tryz.zeroValue156 }
theorem Gb : Builder.Extra Tryz.prog Dz := {
 sizeBuilder := by kernel_rfl
 liesBuilder := by kernel_rfl
 t5 := Tryz.underlying5
 a5 := Tryz.isAgg5
 z5 := Tryz.sizeOf5
 v5 := Tryz.zeroValue5
 infoByte := by kernel_rfl
 cellsByte := by kernel_rfl
 sizeByte := by kernel_rfl
 neB5 := by decide }
theorem yI (B b : Nat) (bs : List Value) (s : ByteArray) (w : World) (h : Lib.IsBuilderF 130 5 B b bs w) (hlen : bs.length + s.size ≤ 140737488355328) (hBw : B ≤ w.heap.size) :
  Calls Tryz.prog 136 #[.pointer (some ⟨b, 0, none⟩), .string s] w fun e w' => e = .returned (.tuple #[.int .i64 s.size, .nilIface]) ∧ (Lib.BuilderAtF 130 5 B b (.pointer (some ⟨b, 0, none⟩)) (bs ++ Lib.strCells s) w' ∧ Below B w w' ∧ Lib.OthersKept 5 (some b) w w') := Any.Builder_WriteString_k JG FX B b bs s w h hlen hBw
theorem FY (B b : Nat) (l : List UInt8) (w : World) (h : Lib.IsBuilderF 130 5 B b (Lib.byteCells l) w) (hBw : B ≤ w.heap.size) :
  Calls Tryz.prog 137 #[.pointer (some ⟨b, 0, none⟩)] w fun e w' => e = .returned (.string ⟨l.toArray⟩) ∧ (Lib.IsBuilderF 130 5 B b (Lib.byteCells l) w' ∧ Below B w w' ∧ Lib.OthersKept 5 (some b) w w') := Any.Builder_String_any_k JF Gb B b l w h hBw
end Go.Y.Shelf
namespace Go.Y.pz
open Go.Proofs.ah.av Go.Y.Given Go.Y.PRd Go.Y.uU Go.Y.dK Go.Y.Oct
def nums (d : List (Int × ByteArray)) : Int := d.foldl (fun n x => wrap64 (n + (x.2.size : Int))) 0
theorem DN (d : List (Int × ByteArray)) (x : Int × ByteArray) : nums (d ++ [x]) = wrap64 (nums d + (x.2.size : Int)) := by unfold nums; rw [List.foldl_append]; rfl
theorem JA : ∀ (d : List (Int × ByteArray)) (n : Nat), n + tot d ≤ 1000000000 → d.foldl (fun n x => wrap64 (n + (x.2.size : Int))) (n : Int) = ((n + tot d : Nat) : Int) := by
 intro d
 induction d with
 | nil => intro n _; simp [tot]
 | cons x d ih =>
  intro n h
  rw [uK] at h ⊢
  rw [List.foldl_cons, show wrap64 ((n : Int) + (x.2.size : Int)) = ((n + x.2.size : Nat) : Int) by unfold wrap64; omega, ih _ (by omega)]
  omega
theorem FR {d : List (Int × ByteArray)} (h : tot d ≤ 1000000000) : nums d = (tot d : Int) := by
 unfold nums; have := JA d 0 (by omega); rw [Nat.zero_add] at this; exact this
theorem Ey (kind n : Int) (s : ByteArray) (B : Nat) (W : World) (h : W.heap[B]? = some (.cells #[.int .i64 n] 3 (0, 0))) :
  Calls Tryz.prog 119 (#[.int .i64 kind, .string s] ++ #[.pointer (some ⟨B, 0, none⟩)]) W fun e w' => e = .returned (.tuple #[]) ∧ w' = W.setCell ⟨B, 0, none⟩ (.int .i64 (wrap64 (n + (s.size : Int)))) := by
 have hc := aG h 0
 have hf := bB h 0
 have hc' : W.cell? ⟨B, 0, none⟩ = some (.int .i64 n) := hc
 clear hc h
 go_enter Tryz.func119, Tryz.ntmps119
 go_wp2
 go_end0
 exact ⟨rfl, rfl⟩
def Jw (B : Nat) (d : List (Int × ByteArray)) (F : Nat → Prop) (W : World) : Prop := (∀ k, F k ↔ k = B) ∧ W.heap[B]? = some (.cells #[.int .i64 (nums d)] 3 (0, 0))
theorem counts (B : Nat) : BS 119 #[.pointer (some ⟨B, 0, none⟩)] (Jw B) where
 rest := fun d F W W' h hb => ⟨F, ⟨h.1, (hb.block B (eU h.2)).trans h.2⟩, fun k hk => .inl hk⟩
 lt := fun d F W k h hk => by rw [(h.1 k).mp hk]; exact eU h.2
 take := fun d F W kind s _ _ h => (Ey kind (nums d) s B W h.2).mono fun e w' ⟨he, hw⟩ => ⟨he, F, ⟨h.1, by rw [hw, DN]; exact bM h.2 0 _ rfl⟩, by rw [hw]; exact Tch.setCell (S := F) (p := ⟨B, 0, none⟩) ((h.1 B).mpr rfl) _, fun k hk => .inl hk⟩
 enters := enters_of Tryz.func119 (by kernel_rfl) rfl
theorem GV (t : Int) (B : ByteArray) (hB : B.size ≤ 1000000) : tot (dJ B (dW t) 0).1 ≤ 1000000000 := by
 have h := pq B hB (dW t) 0
 have h7 := kW t
 have : ∀ l : List (Int × ByteArray), (∀ x ∈ l, x.2.size ≤ 1000000) → tot l ≤ 1000000 * l.length := by
  intro l
  induction l with
  | nil => intro _; simp [tot]
  | cons x l ih =>
   intro hl
   rw [uK, List.length_cons]
   have := ih fun y hy => hl y (List.mem_cons_of_mem _ hy)
   have := hl x (List.mem_cons_self ..)
   omega
 have := this _ h.1
 omega
theorem iA (t : Int) (B : ByteArray) (w : World) (hs : B.size ≤ 9223372036854775807) :
  Calls Tryz.prog 86 #[.int .i64 t, .string B] w fun e w' => e = .returned (.bool (jm t B)) ∧ Below w.heap.size w w' := by
 by_cases hB : B.size ≤ 65535
 ·have t0 : decide (65535 < (B.size : Int)) = false := decide_eq_false (by omega)
  have t0' : decide (65535 < B.size) = false := decide_eq_false (by omega)
  have htot := GV t B (by omega)
  have hsz := pq B (by omega) (dW t) 0
  have hnum := FR htot
  have hw := EO B (by omega) (FU + 1) (Nat.le_succ _) (dW t) 0 (vL t) (Nat.zero_le _)
  have hrd : jm t B = ((dJ B (dW t) 0).2 && decide (tot (dJ B (dW t) 0).1 = B.size)) := by unfold jm; rw [decide_eq_true hB, Bool.true_and]
  have HR := Lib.hid (Bd t (FU + 1) (Nat.succ_le_succ (Nat.zero_le _)))
  obtain ⟨⟨ps, b⟩, hp⟩ : ∃ x, dJ B (dW t) 0 = x := ⟨_, rfl⟩
  rw [hp] at hw hnum htot hrd hsz
  simp only at hrd
  rw [hrd]
  have HW := Lib.hid hw
  have HN := Lib.hid hnum
  have HL := Lib.hid (kW t)
  have HSZ := Lib.hid hsz.1
  have HL7 := Lib.hid (Nat.le_trans hsz.2 (kW t))
  clear hw hnum hrd hp hsz
  simp only at htot
  go_enter Tryz.func86, Tryz.ntmps86
  go_wp2_with fail
  refine (zx (counts w.heap.size) (FU + 1) B 0 (B.size : Int) t (dW t) HR.out [] ps b HW.out (fun k => k = w.heap.size) _ ⟨fun k => Iff.rfl, ?_⟩ (by have := HL.out; omega) HSZ.out (by have := HL7.out; simp; omega)).mono ?_
  ·first | exact bM (heap_alloc_new w _) 0 _ rfl | exact heap_alloc_new w _
  rintro e w1 ⟨rfl, F', hst, ht, _⟩
  have hbel : Below w.heap.size w w1 := by
   have hb0 : Below w.heap.size w (w.alloc (.cells #[.int .i64 0] 3)) := (Below.refl _ w).alloc (Nat.le_refl _) _
   exact hb0.trans (ht.below hb0.size fun k hk => by rw [hk]; exact Nat.le_refl _)
  have hc := aG hst.2 0
  rw [List.nil_append, HN.out] at hc
  have hc' : w1.cell? ⟨w.heap.size, 0, none⟩ = some (.int .i64 (tot ps : Int)) := hc
  have HBEL := Lib.hid hbel
  clear hc hst ht hbel
  cases b with
  | false =>
   go_wp2_with fail
   go_ret
   exact ⟨by simp, HBEL.out⟩
  | true =>
   cases he : decide (tot ps = B.size) with
   | true =>
    have h1 := of_decide_eq_true he
    have t1 : ((tot ps : Int) == (B.size : Int)) = true := beq_iff_eq.mpr (by omega)
    have t1' : (tot ps == B.size) = true := beq_iff_eq.mpr h1
    clear h1 he
    go_wp2_with fail
    go_ret
    refine ⟨?_, HBEL.out⟩
    have h2 := t1'
    simp at h2
    simp [h2]
   | false =>
    have h1 := of_decide_eq_false he
    have t1 : ((tot ps : Int) == (B.size : Int)) = false := beq_eq_false_iff_ne.mpr (by omega)
    have t1' : (tot ps == B.size) = false := beq_eq_false_iff_ne.mpr h1
    clear h1 he
    go_wp2_with fail
    go_ret
    refine ⟨?_, HBEL.out⟩
    have h2 := t1'
    simp at h2
    simp [h2]
 ·have hr : jm t B = false := by unfold jm; rw [decide_eq_false hB]; rfl
  have t0 : decide (65535 < (B.size : Int)) = true := decide_eq_true (by omega)
  have t0' : decide (65535 < B.size) = true := decide_eq_true (by omega)
  rw [hr]
  clear hr
  go_enter Tryz.func86, Tryz.ntmps86
  go_wp2_with fail
  go_ret
  exact ⟨rfl, Below.refl _ _⟩
def mP (d : List (Int × ByteArray)) : List UInt8 := (d.map fun x => (fq x).data.toList).flatten
theorem xW (d : List (Int × ByteArray)) (x : Int × ByteArray) : mP (d ++ [x]) = mP d ++ (fq x).data.toList := by unfold mP; simp
theorem Gl (d : List (Int × ByteArray)) : (⟨(mP d).toArray⟩ : ByteArray) = cat (d.map fq) := by
 apply fO
 rw [uI, List.map_map]
 show (mP d).toArray.toList = _
 unfold mP
 simp [Function.comp_def]
abbrev BT := 130
abbrev BE := 5
theorem zS {T e : TypeId} {lo b : Nat} {p : Value} {bs : List Value} {w w' : World} (h : Lib.BuilderAtF T e lo b p bs w) (hb : Below w.heap.size w w') : Lib.BuilderAtF T e lo b p bs w' := by
 obtain ⟨h1, v, h2, h3, h4⟩ := h
 refine ⟨h1, v, (hb.block b (eU h2)).trans h2, ?_, h4⟩
 refine ⟨h3.1, ?_⟩
 rcases h3.2 with h | ⟨g, cap, cur, fz, hv, hl, hh, r⟩
 ·exact .inl h
 ·exact .inr ⟨g, cap, cur, fz, hv, hl, (hb.block g (eU hh)).trans hh, r⟩
theorem GZ {T e : TypeId} {lo b : Nat} {bs : List Value} {w w' : World} (h : Lib.IsBuilderF T e lo b bs w) (hb : Below w.heap.size w w') : Lib.IsBuilderF T e lo b bs w' := h.imp (fun h => zS h hb) (fun h => zS h hb)
theorem Ke {T e : TypeId} {lo b : Nat} {bs : List Value} {w : World} (h : Lib.IsBuilderF T e lo b bs w) : lo ≤ b ∧ b < w.heap.size := by
 rcases h with ⟨h1, v, h2, _⟩ | ⟨h1, v, h2, _⟩ <;> exact ⟨h1, eU h2⟩
def foot (lo b : Nat) (W : World) (k : Nat) : Prop := lo ≤ k ∧ k < W.heap.size ∧ (k = b ∨ ∃ c fz, W.heap[k]? = some (.cells c BE fz))
def kN (lo b : Nat) (d : List (Int × ByteArray)) (F : Nat → Prop) (W : World) : Prop := (∀ k, F k ↔ foot lo b W k) ∧ Lib.IsBuilderF BT BE lo b (Lib.byteCells (mP d)) W ∧ lo ≤ W.heap.size ∧ (mP d).length ≤ d.length * 1000000
theorem Dx (lo b : Nat) (d : List (Int × ByteArray)) (x : Int × ByteArray) (F : Nat → Prop) (W W' : World) (h : kN lo b d F W) (hx : (fq x).size ≤ 1000000)
  (h1 : Lib.BuilderAtF BT BE lo b (.pointer (some ⟨b, 0, none⟩)) (Lib.byteCells (mP d) ++ Lib.strCells (fq x)) W') (h2 : Below lo W W') (h3 : Lib.OthersKept BE (some b) W W') :
  ∃ F', kN lo b (d ++ [x]) F' W' ∧ Tch F W W' ∧ ∀ k, F' k → F k ∨ W.heap.size ≤ k := by
 have hcells : Lib.byteCells (mP d) ++ Lib.strCells (fq x) = Lib.byteCells (mP (d ++ [x])) := by rw [xW]; simp [Lib.byteCells, Lib.strCells]
 rw [hcells] at h1
 have keep : ∀ k, k < W.heap.size → ¬ F k → W'.heap[k]? = W.heap[k]? := fun k hk hn => by
  by_cases hl : k < lo
  ·exact h2.block k hl
  ·obtain ⟨o, ho⟩ : ∃ o, W.heap[k]? = some o := ⟨W.heap[k], Array.getElem?_eq_getElem hk⟩
   rw [ho]
   refine h3 k o ho (fun e => hn ((h.1 k).mpr ⟨by omega, hk, .inl (Option.some.inj e)⟩)) fun c fz e => hn ((h.1 k).mpr ⟨by omega, hk, .inr ⟨c, fz, by rw [ho, e]⟩⟩)
 refine ⟨foot lo b W', ⟨fun k => Iff.rfl, .inr h1, Nat.le_trans h.2.2.1 h2.size, ?_⟩, ⟨h2.os, h2.tape, h2.output, h2.size, keep⟩, fun k hk => ?_⟩
 ·rw [xW, List.length_append, List.length_append, bR]
  have := h.2.2.2
  simp only [List.length_cons, List.length_nil]
  omega
 ·by_cases hlt : k < W.heap.size
  ·left
   by_cases hF : F k
   ·exact hF
   ·have hke := keep k hlt hF
    refine (h.1 k).mpr ⟨hk.1, hlt, ?_⟩
    rcases hk.2.2 with e | ⟨c, fz, e⟩
    ·exact .inl e
    ·exact .inr ⟨c, fz, by rw [← hke]; exact e⟩
  ·exact .inr (by omega)
theorem xB (lo b : Nat) (d : List (Int × ByteArray)) (F : Nat → Prop) (W W' : World) (h : kN lo b d F W) (hb : Below W.heap.size W W') : ∃ F', kN lo b d F' W' ∧ ∀ k, F' k → F k ∨ W.heap.size ≤ k ∧ ∃ c fz, W'.heap[k]? = some (.cells c BE fz) := by
 refine ⟨foot lo b W', ⟨fun k => Iff.rfl, GZ h.2.1 hb, Nat.le_trans h.2.2.1 hb.size, h.2.2.2⟩, fun k hk => ?_⟩
 by_cases hlt : k < W.heap.size
 ·left
  refine (h.1 k).mpr ⟨hk.1, hlt, ?_⟩
  rcases hk.2.2 with e | ⟨c, fz, e⟩
  ·exact .inl e
  ·exact .inr ⟨c, fz, by rw [← hb.block k hlt]; exact e⟩
 ·right
  refine ⟨by omega, ?_⟩
  rcases hk.2.2 with e | e
  ·have := (Ke h.2.1).2; omega
  ·exact e
theorem DY (lo b : Nat) (d : List (Int × ByteArray)) (F : Nat → Prop) (W : World) (kind : Int) (s : ByteArray) (hs : s.size ≤ 1000000) (hd : d.length < 100) (h : kN lo b d F W) :
  Calls Tryz.prog 135 (#[.int .i64 kind, .string s] ++ #[.pointer (some ⟨b, 0, none⟩)]) W fun e w' => e = .returned (.tuple #[]) ∧ ∃ F', kN lo b (d ++ [(kind, s)]) F' w' ∧ Tch F W w' ∧ ∀ k, F' k → F k ∨ W.heap.size ≤ k := by
 have hx := yM (x := (kind, s)) hs
 have HX := Lib.hid hx
 have H := Lib.hid h
 have hw : ∀ (x : ByteArray) (F1 : Nat → Prop) (W1 : World), fq (kind, s) = x → kN lo b d F1 W1 → Calls Tryz.prog 136 #[.pointer (some ⟨b, 0, none⟩), .string x] W1 fun e w' => e = .returned (.tuple #[.int .i64 x.size, .nilIface]) ∧ ∃ F', kN lo b (d ++ [(kind, s)]) F' w' ∧ Tch F1 W1 w' ∧ ∀ k, F' k → F1 k ∨ W1.heap.size ≤ k := by
  intro x F1 W1 hxe h1
  have h4 := h1.2.2.2
  refine (Shelf.yI lo b _ x W1 h1.2.1 (by simp [Lib.byteCells]; rw [← hxe]; omega) h1.2.2.1).mono ?_
  rintro e w' ⟨he, hb, hbel, hoth⟩
  exact ⟨he, Dx lo b d (kind, s) F1 W1 w' h1 hx (by rw [hxe]; exact hb) hbel hoth⟩
 have HW := Lib.hid hw
 clear hw hx h
 by_cases hk : kind = -1 ∨ kind = -2
 ·have hfp : fq (kind, s) = gL s := by unfold fq; rw [if_pos hk]
  have HFP := Lib.hid hfp
  clear hfp
  have hfold := fun W' => gq.calls s (gL s) W' (DF s)
  go_enter Tryz.func135, Tryz.ntmps135
  rcases hk with rfl | rfl
  all_goals
   go_wp2_with fail
   refine (hfold _).mono ?_
   rintro e w1 ⟨rfl, hb1⟩
   obtain ⟨F1, h1, hf1⟩ := xB lo b d F W w1 H.out hb1
   have HC := Lib.hid (HW.out (gL s) F1 w1 HFP.out h1)
   have HB1 := Lib.hid hb1
   have HF1 := Lib.hid hf1
   clear h1 hb1 hf1
   go_wp2_with fail
   refine (HC.out).mono ?_
   rintro e w2 ⟨rfl, F2, h2, ht2, hf2⟩
   have hsz := HB1.out.size
   have hpost : kN lo b (d ++ [_]) F2 w2 ∧ Tch F W w2 ∧ ∀ k, F2 k → F k ∨ W.heap.size ≤ k := ⟨h2, (Tch.of_below (S := F) HB1.out).fresh ht2 fun k hk => (HF1.out k hk).imp id fun h => h.1, fun k hk => by
    rcases hf2 k hk with e | e
    ·rcases HF1.out k e with e | e
     ·exact .inl e
     ·exact .inr e.1
    ·exact .inr (by omega)⟩
   have HP := Lib.hid hpost
   clear h2 ht2 hf2 hpost
   go_wp2_with fail
   go_end0
   exact ⟨rfl, F2, HP.out⟩
 ·have hfp : fq (kind, s) = s := by unfold fq; rw [if_neg hk]
  have HFP := Lib.hid hfp
  clear hfp
  have t1 : (kind == -1) = false := beq_eq_false_iff_ne.mpr fun e => hk (.inl e)
  have t2 : (kind == -2) = false := beq_eq_false_iff_ne.mpr fun e => hk (.inr e)
  clear hk
  go_enter Tryz.func135, Tryz.ntmps135
  go_wp2_with fail
  refine (HW.out s F W HFP.out H.out).mono ?_
  rintro e w2 ⟨rfl, F2, h2, ht2, hf2⟩
  have HP := Lib.hid (And.intro h2 (And.intro ht2 hf2))
  clear h2 ht2 hf2
  go_wp2_with fail
  go_end0
  exact ⟨rfl, F2, HP.out⟩
theorem folds (lo b : Nat) : BS 135 #[.pointer (some ⟨b, 0, none⟩)] (kN lo b) where
 rest := xB lo b
 lt := fun d F W k h hk => ((h.1 k).mp hk).2.1
 take := DY lo b
 enters := enters_of Tryz.func135 (by kernel_rfl) rfl
theorem yK (w : World) : kN w.heap.size w.heap.size [] (foot w.heap.size w.heap.size (w.alloc (.cells #[.pointer none, .slice none 0 0] BT))) (w.alloc (.cells #[.pointer none, .slice none 0 0] BT)) :=
 ⟨fun k => Iff.rfl, Lib.IsBuilderF.of (.inl ⟨Nat.le_refl _, .slice none 0 0, heap_alloc_new w _, ⟨rfl, .inl ⟨rfl, rfl⟩⟩, by simp [Value.ownBlock]⟩), by simp, Nat.zero_le _⟩
theorem GN (t : Int) (B : ByteArray) (w : World) (hs : B.size ≤ 9223372036854775807) :
  Calls Tryz.prog 111 #[.int .i64 t, .string B] w fun e w' => e = .returned (.string (qG t B)) ∧ Below w.heap.size w w' := by
 have hright := fun W => iA t B W hs
 cases hr : jm t B with
 | false =>
  have hf : qG t B = ⟨#[]⟩ := by unfold qG; rw [hr]; rfl
  rw [hf]
  rw [hr] at hright
  clear hf hr
  go_enter Tryz.func111, Tryz.ntmps111
  go_wp2_with fail
  refine (hright _).mono ?_
  rintro e w1 ⟨rfl, hb1⟩
  go_wp2_with fail
  go_ret
  exact ⟨rfl, hb1⟩
 | true =>
  have hB : B.size ≤ 65535 := by unfold jm at hr; simp only [Bool.and_eq_true, decide_eq_true_eq] at hr; exact hr.1.1
  have hf : qG t B = ⟨(mP (dJ B (dW t) 0).1).toArray⟩ := by unfold qG; rw [if_pos hr, Gl]
  have hsz := pq B (by omega) (dW t) 0
  have hw := EO B (by omega) (FU + 1) (Nat.le_succ _) (dW t) 0 (vL t) (Nat.zero_le _)
  obtain ⟨⟨ps, b⟩, hp⟩ : ∃ x, dJ B (dW t) 0 = x := ⟨_, rfl⟩
  rw [hp] at hw hf hsz
  rw [hf]
  rw [hr] at hright
  have HR := Lib.hid (Bd t (FU + 1) (Nat.succ_le_succ (Nat.zero_le _)))
  have HW := Lib.hid hw
  have HL := Lib.hid (kW t)
  have HSZ := Lib.hid hsz.1
  have HL7 := Lib.hid (Nat.le_trans hsz.2 (kW t))
  clear hw hf hsz hp hr
  go_enter Tryz.func111, Tryz.ntmps111
  go_wp2_with fail
  refine (hright _).mono ?_
  rintro e w1 ⟨rfl, hb1⟩
  have HB1 := Lib.hid hb1
  clear hb1 hright
  go_wp2_with fail
  have hst := yK w1
  refine (zx (folds w1.heap.size w1.heap.size) (FU + 1) B 0 (B.size : Int) t (dW t) HR.out [] ps b HW.out _ _ hst (by have := HL.out; omega) HSZ.out (by have := HL7.out; simp at this ⊢; omega)).mono ?_
  rintro e w2 ⟨rfl, F', hst2, ht, _⟩
  have hb2 : Below w.heap.size w w2 := by
   have h0 : Below w1.heap.size w1 (w1.alloc (.cells #[.pointer none, .slice none 0 0] BT)) := (Below.refl _ w1).alloc (Nat.le_refl _) _
   exact eY HB1.out HB1.out.size (h0.trans (ht.below h0.size fun k hk => hk.1))
  rw [List.nil_append] at hst2
  have H2 := Lib.hid hst2
  have HB2 := Lib.hid hb2
  clear hst hst2 ht hb2
  go_wp2_with fail
  refine (Shelf.FY w1.heap.size w1.heap.size (mP ps) w2 H2.out.2.1 H2.out.2.2.1).mono ?_
  rintro e w3 ⟨rfl, _, hb3, _⟩
  have HB3 := Lib.hid (show Below w.heap.size w w3 from HB2.out.trans (hb3.mono HB1.out.size))
  clear hb3
  go_wp2_with fail
  go_ret
  exact ⟨rfl, HB3.out⟩
end Go.Y.pz
namespace Go.Y.Given
open Go.Y.dK Go.Y.pz
def gV.f (a0 : Int) (a1 : ByteArray) : Option Bool := if a1.size ≤ 9223372036854775807 then some (jm a0 a1) else none
theorem gV.calls (a0 : Int) (a1 : ByteArray) (r : Bool) (w : World) (h : gV.f a0 a1 = some r) :
  Calls Tryz.prog 86 #[.int .i64 a0, .string a1] w fun e w' => e = .returned (.bool r) ∧ Below w.heap.size w w' := by
 unfold gV.f at h
 split at h
 ·injection h with h; subst h; exact iA a0 a1 w (by assumption)
 ·cases h
def kC.f (a0 : Int) (a1 : ByteArray) : Option ByteArray := if a1.size ≤ 9223372036854775807 then some (qG a0 a1) else none
theorem kC.calls (a0 : Int) (a1 : ByteArray) (r : ByteArray) (w : World) (h : kC.f a0 a1 = some r) :
  Calls Tryz.prog 111 #[.int .i64 a0, .string a1] w fun e w' => e = .returned (.string r) ∧ Below w.heap.size w w' := by
 unfold kC.f at h
 split at h
 ·injection h with h; subst h; exact GN a0 a1 w (by assumption)
 ·cases h
end Go.Y.Given
namespace Go.Y.PRr
open Go.Proofs.ah.av Go.Proofs.ah.aT Go.Proofs.ah.aU Go.Y.Given Go.Y.PRd
attribute [local go_sem] dB dD dQ dP cK cB dA dF
def je : Option Int → Value
 | none => .nilIface
 | some c => .iface 0 (.int .i64 c)
theorem iZ : je none = .nilIface := rfl
theorem jd (c : Int) : je (some c) = .iface 0 (.int .i64 c) := rfl
theorem wm : (Tryz.prog.info? 28).map (fun i => (i.zero, i.size, i.bytes)) = some (some (.agg #[(.string ⟨#[]⟩), (.int .i64 0), (.int .i64 0), (.int .i64 0), (.string ⟨#[]⟩)]), 5, 56) := by kernel_rfl
structure S28 where
 f0 : ByteArray
 f1 : Int
 f2 : Int
 f3 : Int
 f4 : ByteArray
def z28 : S28 := ⟨(⟨#[]⟩ : ByteArray), (0 : Int), (0 : Int), (0 : Int), (⟨#[]⟩ : ByteArray)⟩
def k28 : Kd S28 := Kd.iso (Kd.pair Kd.string (Kd.pair (Kd.int .i64) (Kd.pair (Kd.int .i64) (Kd.pair (Kd.int .i64) Kd.string)))) (fun x : S28 => (x.f0, x.f1, x.f2, x.f3, x.f4))
theorem zm {w : World} {x : S28} {cs : List Value} (h : k28.K w x cs) : cs = [.string x.f0, .int .i64 x.f1, .int .i64 x.f2, .int .i64 x.f3, .string x.f4] := by
 obtain ⟨_, _, rfl, rfl, ⟨_, _, rfl, rfl, ⟨_, _, rfl, rfl, ⟨_, _, rfl, rfl, rfl⟩⟩⟩⟩ := h
 exact rfl
theorem Es {w : World} {base : Nat} {ok : Nat → Prop} {x : S28} {cs : List Value} (h : k28.M w base ok x cs) : cs = [.string x.f0, .int .i64 x.f1, .int .i64 x.f2, .int .i64 x.f3, .string x.f4] := by
 obtain ⟨_, _, rfl, rfl, ⟨_, _, rfl, rfl, ⟨_, _, rfl, rfl, ⟨_, _, rfl, rfl, rfl⟩⟩⟩⟩ := h
 exact rfl
theorem Kz (w : World) (x : S28)  : k28.K w x [.string x.f0, .int .i64 x.f1, .int .i64 x.f2, .int .i64 x.f3, .string x.f4] := ⟨[.string x.f0], [.int .i64 x.f1, .int .i64 x.f2, .int .i64 x.f3, .string x.f4], rfl, rfl, ⟨[.int .i64 x.f1], [.int .i64 x.f2, .int .i64 x.f3, .string x.f4], rfl, rfl, ⟨[.int .i64 x.f2], [.int .i64 x.f3, .string x.f4], rfl, rfl, ⟨[.int .i64 x.f3], [.string x.f4], rfl, rfl, rfl⟩⟩⟩⟩
theorem lQ (w : World) (base : Nat) (ok : Nat → Prop) (x : S28)  : k28.M w base ok x [.string x.f0, .int .i64 x.f1, .int .i64 x.f2, .int .i64 x.f3, .string x.f4] := ⟨[.string x.f0], [.int .i64 x.f1, .int .i64 x.f2, .int .i64 x.f3, .string x.f4], rfl, rfl, ⟨[.int .i64 x.f1], [.int .i64 x.f2, .int .i64 x.f3, .string x.f4], rfl, rfl, ⟨[.int .i64 x.f2], [.int .i64 x.f3, .string x.f4], rfl, rfl, ⟨[.int .i64 x.f3], [.string x.f4], rfl, rfl, rfl⟩⟩⟩⟩
def aC (xs : List S28) (i : Int) : S28 := xs.getD i.toNat z28
theorem iD {w : World} {A : Option Addr} {n : Nat} {xs : List S28} (h : Kd.C k28 w A n xs) (i : Int) (h0 : 0 ≤ i) (h1 : i < n) : ∃ ad , A = some ad ∧ w.cell? (ad.add (i.toNat * 5)) = some (.string (aC xs i).f0) ∧ w.cell? ⟨(ad.add (i.toNat * 5)).block, (ad.add (i.toNat * 5)).off + 1, none⟩ = some (.int .i64 (aC xs i).f1) ∧ w.cell? ⟨(ad.add (i.toNat * 5)).block, (ad.add (i.toNat * 5)).off + 2, none⟩ = some (.int .i64 (aC xs i).f2) ∧ w.cell? ⟨(ad.add (i.toNat * 5)).block, (ad.add (i.toNat * 5)).off + 3, none⟩ = some (.int .i64 (aC xs i).f3) ∧ w.cell? ⟨(ad.add (i.toNat * 5)).block, (ad.add (i.toNat * 5)).off + 4, none⟩ = some (.string (aC xs i).f4) := by
 obtain ⟨ad, c, e, _, hK, hc0⟩ := Kd.KE h z28 i h0 h1
 have hc : ∀ j u, c[j]? = some u → w.cell? (ad.add (i.toNat * 5 + j)) = some u := hc0
 obtain rfl := zm hK
 exact ⟨ad, e, hc 0 _ rfl, by rw [← pE _ _ 1 (by omega)]; exact hc 1 _ rfl, by rw [← pE _ _ 2 (by omega)]; exact hc 2 _ rfl, by rw [← pE _ _ 3 (by omega)]; exact hc 3 _ rfl, by rw [← pE _ _ 4 (by omega)]; exact hc 4 _ rfl⟩
end Go.Y.PRr
