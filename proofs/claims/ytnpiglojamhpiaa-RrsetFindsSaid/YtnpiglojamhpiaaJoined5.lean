/- Joined out of this session's own texts: contracts and facts that the claim's row is drawn from, each with its own conditions. -/
import Derived.Test.YtnpiglojamhpiaaJoined4
import Derived.Deep.QuietTactic
import Derived.BigQuiet
import Derived.Deep.Slices
import Derived.Deep.Fields
import Derived.ProofKit
import Derived.Test.YtnpiglojamhpiaaProg
import Derived.Below
import Derived.Deep.Draws
import Derived.Deep.AppendLies
import Derived.Maps.AppendAt
import Derived.OwnWalk
import Derived.Laws.BytesArg
import Derived.Laws.MakeOwn
import Derived.Laws.OwnMore
import Derived.Deep.OwnRows
import Derived.Tactics
import Derived.Lib.ConvBytes
import Derived.Laws.Slices
import Derived.WalkKit
import Derived.KernelRfl
import Derived.RowKit3
import Derived.Deep.LoopGhost
import Derived.WideLaws
import Derived.Deep.DeepCutAuto
import Derived.Deep.CutBlock
import Derived.Deep.RegionHeld3
import Derived.Laws.Rows
import Derived.Lib.AppendStr
import Derived.ArgAppend
import Derived.Laws.IdiomCopy
import Derived.OrdersHeld
import Derived.Laws.BitsLemmas
import Derived.RowKit
namespace Go.Proofs.Ytnpiglojamhpiaa.PRr
open Go.RowKit Go.Proofs.YtnpiglojamhpiaaW.PrintWords Go.Proofs.YtnpiglojamhpiaaW.PrintLast Go.Proofs.YtnpiglojamhpiaaW.PrintMore Go.Proofs.Ytnpiglojamhpiaa.Given Go.Proofs.Ytnpiglojamhpiaa.PRd
attribute [local go_sem] max2_int min2_int max_two min_two max_three min_three max_four min_four   -- for this text's walks alone
set_option linter.unusedVariables false
set_option linter.unusedSimpArgs false
attribute [local go_sem high] eqA24
def beadrollref11_Same.l0 : Nat → List (S24) → List (S24) → Int → Option (Bool)
 | 0, _, _, _ => none
 | k + 1, x0, x1, x5 => if x5 < (x0.length : Int) then (if 0 ≤ x5 then (if x5 < (x1.length : Int) then (if (!((((rd_T24 x0 x5).f0).toList) == (((rd_T24 x1 x5).f0).toList)) || (!(((rd_T24 x0 x5).f1) == ((rd_T24 x1 x5).f1)) || (!(((rd_T24 x0 x5).f2) == ((rd_T24 x1 x5).f2)) || (!(((rd_T24 x0 x5).f3) == ((rd_T24 x1 x5).f3)) || (!((((rd_T24 x0 x5).f4).toList) == (((rd_T24 x1 x5).f4).toList))))))) = true then (some false) else (beadrollref11_Same.l0 k x0 x1 (wrap64 (x5 + 1)))) else (none)) else (none)) else (some true)
def beadrollref11_Same.f (k : Nat) (l0 : List (S24)) (l1 : List (S24)) : Option (Bool) := if (l0.length : Int) = (l1.length : Int) then (beadrollref11_Same.l0 k l0 l1 0) else (some false)
set_option maxHeartbeats 8000000 in
set_option maxRecDepth 100000 in
theorem beadrollref11_Same.calls (k : Nat) (A0 : Option Addr) (c0 : Nat) (l0 : List (S24)) (A1 : Option Addr) (c1 : Nat) (l1 : List (S24)) (r : Bool) (w : World) (hr0 : Kd.C k24 w A0 l0.length l0) (hc0 : l0.length ≤ c0) (hr1 : Kd.C k24 w A1 l1.length l1) (hc1 : l1.length ≤ c1) (h : beadrollref11_Same.f k l0 l1 = some r) :
  Calls Try.prog 14 #[.slice A0 l0.length c0, .slice A1 l1.length c1] w fun e w' => e = .returned (.bool r) ∧ Drawn0 w w' := by
 have hu24 := Try.underlying24
 have HR0 := Aside0.mk hr0
 have HC0 := Aside0.mk hc0
 clear hr0 hc0
 have HR1 := Aside0.mk hr1
 have HC1 := Aside0.mk hc1
 clear hr1 hc1
 have H : (if (l0.length : Int) = (l1.length : Int) then (beadrollref11_Same.l0 k l0 l1 0) else (some false)) = some r := h
 clear h
 by_cases c3 : (l0.length : Int) = (l1.length : Int)
 ·rw [if_pos c3] at H
  have c3b0 : ((l0.length : Int) == (l1.length : Int)) = true := beq_iff_eq.mpr c3
  have c3b1 : ((l0.length : Int) != (l1.length : Int)) = false := bne_eq_false_iff_eq.mpr c3
  have c3b2 : (l0.length == l1.length) = true := by first | simpa using c3 | (simp at c3 ⊢; omega)
  clear c3
  have H' := Aside0.mk H
  clear H
  go_enter Try.func14, Try.ntmps14
  go_wp2
  repeat (go_quiet (fail); try go_wp2)
  go_loopg [5] k (fun kq v5 w' => ∃ (x5_1 : Int), v5 = .int .i64 x5_1 ∧ Aside0 (beadrollref11_Same.l0 kq l0 l1 x5_1 = some r) ∧ Aside0 (kq ≤ k) ∧ Drawn0 w w')
  case atStart => exact ⟨(0), (by first | rfl | (simp; done) | (simp [*]; done)), H', ⟨Nat.le_refl _⟩, by repeat (first | exact Drawn0.refl _ | apply Drawn0.step)⟩
  case round =>
   clear H'
   try clear c1
   try clear p2
   try clear c3
   try clear c3b0
   try clear c3b1
   try clear c3b2
   obtain ⟨x5_1, rfl, HA, HK1, ⟨m1, rfl⟩⟩ := hrel
   cases gk with
   | zero => exact absurd HA.out (by simp [beadrollref11_Same.l0])
   | succ k1 =>
    have H := HA.out
    clear HA
    simp only [beadrollref11_Same.l0] at H
    by_cases c4 : x5_1 < (l0.length : Int)
    ·rw [if_pos c4] at H
     have c4b0 : decide (x5_1 < (l0.length : Int)) = true := decide_eq_true c4
     clear c4
     by_cases c5 : 0 ≤ x5_1
     ·rw [if_pos c5] at H
      have c5b0 : decide (0 ≤ x5_1) = true := decide_eq_true c5
      clear c5
      by_cases c6 : x5_1 < (l1.length : Int)
      ·rw [if_pos c6] at H
       have c6b0 : decide (x5_1 < (l1.length : Int)) = true := decide_eq_true c6
       clear c6
       by_cases c7 : (!((((rd_T24 l0 x5_1).f0).toList) == (((rd_T24 l1 x5_1).f0).toList)) || (!(((rd_T24 l0 x5_1).f1) == ((rd_T24 l1 x5_1).f1)) || (!(((rd_T24 l0 x5_1).f2) == ((rd_T24 l1 x5_1).f2)) || (!(((rd_T24 l0 x5_1).f3) == ((rd_T24 l1 x5_1).f3)) || (!((((rd_T24 l0 x5_1).f4).toList) == (((rd_T24 l1 x5_1).f4).toList))))))) = true
       ·rw [if_pos c7] at H
        have c7b0 : (!((((rd_T24 l0 x5_1).f0).toList) == (((rd_T24 l1 x5_1).f0).toList)) || (!(((rd_T24 l0 x5_1).f1) == ((rd_T24 l1 x5_1).f1)) || (!(((rd_T24 l0 x5_1).f2) == ((rd_T24 l1 x5_1).f2)) || (!(((rd_T24 l0 x5_1).f3) == ((rd_T24 l1 x5_1).f3)) || (!((((rd_T24 l0 x5_1).f4).toList) == (((rd_T24 l1 x5_1).f4).toList))))))) = true := c7
        clear c7
        obtain rfl := Option.some.inj H
        have p138 : 0 ≤ (x5_1 : Int) := of_decide_eq_true (by first | (with_reducible assumption) | assumption)
        have q138 : x5_1 < (l0.length : Int) := of_decide_eq_true (by first | (with_reducible assumption) | assumption)
        obtain ⟨ad138, e138, hx138_0, hx138_1, hx138_2, hx138_3, hx138_4⟩ := at_T24 HR0.out x5_1 p138 q138
        cases e138
        replace p138 := eq_true p138
        replace q138 := eq_true q138
        have p139 : 0 ≤ (x5_1 : Int) := of_decide_eq_true (by first | (with_reducible assumption) | assumption)
        have q139 : x5_1 < (l1.length : Int) := of_decide_eq_true (by first | (with_reducible assumption) | assumption)
        obtain ⟨ad139, e139, hx139_0, hx139_1, hx139_2, hx139_3, hx139_4⟩ := at_T24 HR1.out x5_1 p139 q139
        cases e139
        replace p139 := eq_true p139
        replace q139 := eq_true q139
        go_wp2
        repeat (go_quiet (fail); try go_wp2)
        go_ret
        exact ⟨by first | rfl | (simp; done) | (simp [*]; done), by repeat (first | exact Drawn0.refl _ | apply Drawn0.step)⟩
       ·rw [if_neg c7] at H
        have c7b0 : (!((((rd_T24 l0 x5_1).f0).toList) == (((rd_T24 l1 x5_1).f0).toList)) || (!(((rd_T24 l0 x5_1).f1) == ((rd_T24 l1 x5_1).f1)) || (!(((rd_T24 l0 x5_1).f2) == ((rd_T24 l1 x5_1).f2)) || (!(((rd_T24 l0 x5_1).f3) == ((rd_T24 l1 x5_1).f3)) || (!((((rd_T24 l0 x5_1).f4).toList) == (((rd_T24 l1 x5_1).f4).toList))))))) = false := by simpa using c7
        clear c7
        have H' := Aside0.mk H
        clear H
        have p138 : 0 ≤ (x5_1 : Int) := of_decide_eq_true (by first | (with_reducible assumption) | assumption)
        have q138 : x5_1 < (l0.length : Int) := of_decide_eq_true (by first | (with_reducible assumption) | assumption)
        obtain ⟨ad138, e138, hx138_0, hx138_1, hx138_2, hx138_3, hx138_4⟩ := at_T24 HR0.out x5_1 p138 q138
        cases e138
        replace p138 := eq_true p138
        replace q138 := eq_true q138
        have p139 : 0 ≤ (x5_1 : Int) := of_decide_eq_true (by first | (with_reducible assumption) | assumption)
        have q139 : x5_1 < (l1.length : Int) := of_decide_eq_true (by first | (with_reducible assumption) | assumption)
        obtain ⟨ad139, e139, hx139_0, hx139_1, hx139_2, hx139_3, hx139_4⟩ := at_T24 HR1.out x5_1 p139 q139
        cases e139
        replace p139 := eq_true p139
        replace q139 := eq_true q139
        go_wp2
        repeat (go_quiet (fail); try go_wp2)
        go_roundg k1
        case measure => have := HK1.out; omega
        case rel => exact ⟨(wrap64 (x5_1 + 1)), (by first | rfl | (simp; done) | (simp [*]; done)), H', ⟨by have := HK1.out; omega⟩, by repeat (first | exact Drawn0.refl _ | apply Drawn0.step)⟩
      ·rw [if_neg c6] at H
       exact absurd H (by simp)
     ·rw [if_neg c5] at H
      exact absurd H (by simp)
    ·rw [if_neg c4] at H
     have c4b0 : decide (x5_1 < (l0.length : Int)) = false := decide_eq_false c4
     clear c4
     obtain rfl := Option.some.inj H
     go_wp2
     repeat (go_quiet (fail); try go_wp2)
     go_ret
     exact ⟨by first | rfl | (simp; done) | (simp [*]; done), by repeat (first | exact Drawn0.refl _ | apply Drawn0.step)⟩
 ·rw [if_neg c3] at H
  have c3b0 : ((l0.length : Int) == (l1.length : Int)) = false := beq_eq_false_iff_ne.mpr c3
  have c3b1 : ((l0.length : Int) != (l1.length : Int)) = true := bne_iff_ne.mpr c3
  have c3b2 : (l0.length == l1.length) = false := by first | simpa using c3 | (simp at c3 ⊢; omega)
  obtain rfl := Option.some.inj H
  go_enter Try.func14, Try.ntmps14
  go_wp2
  repeat (go_quiet (fail); try go_wp2)
  go_ret
  exact ⟨by first | rfl | (simp; done) | (simp [*]; done), by repeat (first | exact Drawn0.refl _ | apply Drawn0.step)⟩
def beadrollref13_Is.l0 : Nat → List (S24) → Int → Option (Bool)
 | 0, _, _ => none
 | k + 1, x0, x3 => if x3 < (x0.length : Int) then (if 0 ≤ (wrap64 (x3 - 1)) then (if (wrap64 (x3 - 1)) < (x0.length : Int) then (if 0 ≤ x3 then ((beadrollref11_Compare.f k ((rd_T24 x0 (wrap64 (x3 - 1))).f0) ((rd_T24 x0 (wrap64 (x3 - 1))).f1) ((rd_T24 x0 (wrap64 (x3 - 1))).f2) ((rd_T24 x0 (wrap64 (x3 - 1))).f3) ((rd_T24 x0 (wrap64 (x3 - 1))).f4) ((rd_T24 x0 x3).f0) ((rd_T24 x0 x3).f1) ((rd_T24 x0 x3).f2) ((rd_T24 x0 x3).f3) ((rd_T24 x0 x3).f4)).bind fun t142 => (if t142 = (-1) then (beadrollref13_Is.l0 k x0 (wrap64 (x3 + 1))) else (some false))) else (none)) else (none)) else (none)) else (some true)
def beadrollref13_Is.f (k : Nat) (l0 : List (S24)) : Option (Bool) := beadrollref13_Is.l0 k l0 1
def beadrollref13_Is.T4 : Bool × List (List Nat × List Nat) := (true, [([], []), ([], []), ([1], [1]), ([0, 2], [0, 2]), ([3], [3]), ([], []), ([], []), ([5, 6], [5, 6]), ([7], [7]), ([4, 8], [4, 8]), ([9], [9])])
def beadrollref13_Is.B4 : List Nat := [0, 0, 2, 7, 15, 0, 0, 96, 224, 511, 1023]
theorem beadrollref13_Is.tab4 : rtab .any (opsOf Try.f7 4) = beadrollref13_Is.T4 := by kernel_rfl
theorem beadrollref13_Is.bits4 : waitsOk beadrollref13_Is.T4.2 beadrollref13_Is.B4 = true := by kernel_rfl
set_option maxHeartbeats 8000000 in
set_option maxRecDepth 100000 in
theorem beadrollref13_Is.calls (k : Nat) (A0 : Option Addr) (c0 : Nat) (l0 : List (S24)) (r : Bool) (w : World) (hr0 : Kd.C k24 w A0 l0.length l0) (hc0 : l0.length ≤ c0) (h : beadrollref13_Is.f k l0 = some r) :
  Calls Try.prog 7 #[.slice A0 l0.length c0] w fun e w' => e = .returned (.bool r) ∧ Below w.heap.size w w' := by
 have hu24 := Try.underlying24
 have HR0 := Aside0.mk hr0
 have HC0 := Aside0.mk hc0
 clear hr0 hc0
 have HB := Aside0.mk (Below.refl w.heap.size w)
 have H : (beadrollref13_Is.l0 k l0 1) = some r := h
 clear h
 have H' := Aside0.mk H
 clear H
 go_enter Try.func7, Try.ntmps7
 go_wp2
 go_loopg [3] k (fun kq v3 w' => ∃ (x3_1 : Int), v3 = .int .i64 x3_1 ∧ Aside0 (beadrollref13_Is.l0 kq l0 x3_1 = some r) ∧ Aside0 (kq ≤ k) ∧ Aside0 (Below w.heap.size w w'))
 case atStart => exact ⟨(1), (by first | rfl | (simp; done) | (simp [*]; done)), H', ⟨Nat.le_refl _⟩, ⟨by repeat (first | (with_reducible first | exact HB.out | apply below_alloc | apply pw_below_drewN | apply below_drew1) | exact HB.out)⟩⟩
 case round =>
  clear H'
  obtain ⟨x3_1, rfl, HA, HK1, HB⟩ := hrel
  cases gk with
  | zero => exact absurd HA.out (by simp [beadrollref13_Is.l0])
  | succ k1 =>
   have H := HA.out
   clear HA
   simp only [beadrollref13_Is.l0] at H
   by_cases c2 : x3_1 < (l0.length : Int)
   ·rw [if_pos c2] at H
    have c2b0 : decide (x3_1 < (l0.length : Int)) = true := decide_eq_true c2
    clear c2
    obtain ⟨ji3, hji3⟩ : ∃ j_ : Int, (wrap64 (x3_1 - 1)) = j_ := ⟨_, rfl⟩
    replace H : (if 0 ≤ (ji3) then (if (ji3) < (l0.length : Int) then (if 0 ≤ x3_1 then ((beadrollref11_Compare.f k1 ((rd_T24 l0 (ji3)).f0) ((rd_T24 l0 (ji3)).f1) ((rd_T24 l0 (ji3)).f2) ((rd_T24 l0 (ji3)).f3) ((rd_T24 l0 (ji3)).f4) ((rd_T24 l0 x3_1).f0) ((rd_T24 l0 x3_1).f1) ((rd_T24 l0 x3_1).f2) ((rd_T24 l0 x3_1).f3) ((rd_T24 l0 x3_1).f4)).bind fun t142 => (if t142 = (-1) then (beadrollref13_Is.l0 k1 l0 (wrap64 (x3_1 + 1))) else (some false))) else (none)) else (none)) else (none)) = some r := by first | (rw [hji3] at H; exact H) | (simp only [hji3] at H ⊢; exact H)
    have hji3w : (IntKind.i64.wrap (x3_1 - 1)) = ji3 := (i64_w _).trans hji3
    by_cases c4 : 0 ≤ (ji3)
    ·rw [if_pos c4] at H
     have c4b0 : decide (0 ≤ (ji3)) = true := decide_eq_true c4
     clear c4
     by_cases c5 : (ji3) < (l0.length : Int)
     ·rw [if_pos c5] at H
      have c5b0 : decide ((ji3) < (l0.length : Int)) = true := decide_eq_true c5
      clear c5
      by_cases c6 : 0 ≤ x3_1
      ·rw [if_pos c6] at H
       have c6b0 : decide (0 ≤ x3_1) = true := decide_eq_true c6
       clear c6
       replace H := Option.bind_eq_some_iff.mp H
       obtain ⟨t142, A70, H⟩ := H
       replace H : (if t142 = (-1) then (beadrollref13_Is.l0 k1 l0 (wrap64 (x3_1 + 1))) else (some false)) = some r := H
       have A7 := Aside0.mk A70
       clear A70
       by_cases c8 : t142 = (-1)
       ·rw [if_pos c8] at H
        have c8b0 : (t142 == (-1)) = true := beq_iff_eq.mpr c8
        have c8b1 : (t142 != (-1)) = false := bne_eq_false_iff_eq.mpr c8
        clear c8
        have H' := Aside0.mk H
        clear H
        try go_wp2
        have n0_ := Aside0.mk (below_drew1 HB.out)
        clear HB
        have HB := n0_
        clear n0_
        have p140 : 0 ≤ ((ji3) : Int) := of_decide_eq_true (by first | (with_reducible assumption) | assumption)
        have q140 : (ji3) < (l0.length : Int) := of_decide_eq_true (by first | (with_reducible assumption) | assumption)
        obtain ⟨ad140, e140, hx140_0, hx140_1, hx140_2, hx140_3, hx140_4⟩ := at_T24 HR0.out (ji3) p140 q140
        have hw140_4 := hx140_4
        have hw140_3 := hx140_3
        have hw140_2 := hx140_2
        have hw140_1 := hx140_1
        have hw140_0 := hx140_0
        cases e140
        replace hx140_0 := (HB.out.cell (World.block_lt_of_cell? w _ hx140_0)).trans hx140_0
        replace hx140_1 := (HB.out.cell (World.block_lt_of_cell? w _ hx140_1)).trans hx140_1
        replace hx140_2 := (HB.out.cell (World.block_lt_of_cell? w _ hx140_2)).trans hx140_2
        replace hx140_3 := (HB.out.cell (World.block_lt_of_cell? w _ hx140_3)).trans hx140_3
        replace hx140_4 := (HB.out.cell (World.block_lt_of_cell? w _ hx140_4)).trans hx140_4
        replace p140 := eq_true p140
        replace q140 := eq_true q140
        have p141 : 0 ≤ (x3_1 : Int) := of_decide_eq_true (by first | (with_reducible assumption) | assumption)
        have q141 : x3_1 < (l0.length : Int) := of_decide_eq_true (by first | (with_reducible assumption) | assumption)
        obtain ⟨ad141, e141, hx141_0, hx141_1, hx141_2, hx141_3, hx141_4⟩ := at_T24 HR0.out x3_1 p141 q141
        have hw141_4 := hx141_4
        have hw141_3 := hx141_3
        have hw141_2 := hx141_2
        have hw141_1 := hx141_1
        have hw141_0 := hx141_0
        obtain rfl : ad140 = ad141 := (by injection e141)
        replace hx141_0 := (HB.out.cell (World.block_lt_of_cell? w _ hx141_0)).trans hx141_0
        replace hx141_1 := (HB.out.cell (World.block_lt_of_cell? w _ hx141_1)).trans hx141_1
        replace hx141_2 := (HB.out.cell (World.block_lt_of_cell? w _ hx141_2)).trans hx141_2
        replace hx141_3 := (HB.out.cell (World.block_lt_of_cell? w _ hx141_3)).trans hx141_3
        replace hx141_4 := (HB.out.cell (World.block_lt_of_cell? w _ hx141_4)).trans hx141_4
        replace p141 := eq_true p141
        replace q141 := eq_true q141
        refine start_ (n := 11) (S := fun w' => w'.cell? (ad140.add (((ji3)).toNat * 5)) = some (.string ((rd_T24 l0 (ji3)).f0)) ∧ w'.cell? ⟨(ad140.add (((ji3)).toNat * 5)).block, (ad140.add (((ji3)).toNat * 5)).off + 1, none⟩ = some (.int .i64 ((rd_T24 l0 (ji3)).f1)) ∧ w'.cell? ⟨(ad140.add (((ji3)).toNat * 5)).block, (ad140.add (((ji3)).toNat * 5)).off + 2, none⟩ = some (.int .i64 ((rd_T24 l0 (ji3)).f2)) ∧ w'.cell? ⟨(ad140.add (((ji3)).toNat * 5)).block, (ad140.add (((ji3)).toNat * 5)).off + 3, none⟩ = some (.int .i64 ((rd_T24 l0 (ji3)).f3)) ∧ w'.cell? ⟨(ad140.add (((ji3)).toNat * 5)).block, (ad140.add (((ji3)).toNat * 5)).off + 4, none⟩ = some (.string ((rd_T24 l0 (ji3)).f4)) ∧ w'.cell? (ad140.add ((x3_1).toNat * 5)) = some (.string ((rd_T24 l0 x3_1).f0)) ∧ w'.cell? ⟨(ad140.add ((x3_1).toNat * 5)).block, (ad140.add ((x3_1).toNat * 5)).off + 1, none⟩ = some (.int .i64 ((rd_T24 l0 x3_1).f1)) ∧ w'.cell? ⟨(ad140.add ((x3_1).toNat * 5)).block, (ad140.add ((x3_1).toNat * 5)).off + 2, none⟩ = some (.int .i64 ((rd_T24 l0 x3_1).f2)) ∧ w'.cell? ⟨(ad140.add ((x3_1).toNat * 5)).block, (ad140.add ((x3_1).toNat * 5)).off + 3, none⟩ = some (.int .i64 ((rd_T24 l0 x3_1).f3)) ∧ w'.cell? ⟨(ad140.add ((x3_1).toNat * 5)).block, (ad140.add ((x3_1).toNat * 5)).off + 4, none⟩ = some (.string ((rd_T24 l0 x3_1).f4))) (ds := []) #[false, false, false, false, false, false, false, false, false, false, false] (by kernel_rfl) rfl rfl ⟨((HB.out.cell (World.block_lt_of_cell? w _ hw140_0)).trans hw140_0), ((HB.out.cell (World.block_lt_of_cell? w _ hw140_1)).trans hw140_1), ((HB.out.cell (World.block_lt_of_cell? w _ hw140_2)).trans hw140_2), ((HB.out.cell (World.block_lt_of_cell? w _ hw140_3)).trans hw140_3), ((HB.out.cell (World.block_lt_of_cell? w _ hw140_4)).trans hw140_4), ((HB.out.cell (World.block_lt_of_cell? w _ hw141_0)).trans hw141_0), ((HB.out.cell (World.block_lt_of_cell? w _ hw141_1)).trans hw141_1), ((HB.out.cell (World.block_lt_of_cell? w _ hw141_2)).trans hw141_2), ((HB.out.cell (World.block_lt_of_cell? w _ hw141_3)).trans hw141_3), ((HB.out.cell (World.block_lt_of_cell? w _ hw141_4)).trans hw141_4)⟩ (fun hHeld => ?_); refine with_tabW beadrollref13_Is.tab4 beadrollref13_Is.bits4 (fun HT_ HW_ => ?_)
        generalize wr.drew = w9 at HB hx140_0 hx140_1 hx140_2 hx140_3 hx140_4 hx141_0 hx141_1 hx141_2 hx141_3 hx141_4 hHeld ⊢
        refine pure_ (i := 0) (N := some 10) (v := ?_) (a' := ?_) #[true, false, false, false, false, false, false, false, false, false, false] rfl rfl (any_of HT_.out (by kernel_rfl)) (fun _ _ _ h => h) (Or.inl ⟨by rfl, ?_⟩) ?_ ?_
        rotate_left
        ·intro w'
         go_simp
         with_reducible rfl
        rotate_left
        ·simp only [Act.put, List.setIfInBounds_toArray, List.set_cons_zero, List.set_cons_succ, i64_w, i32_w]
         rfl
        refine pure_ (i := 1) (N := some 11) (v := ?_) (a' := ?_) #[true, true, false, false, false, false, false, false, false, false, false] rfl rfl (any_of HT_.out (by kernel_rfl)) (fun _ _ _ h => h) (Or.inl ⟨by rfl, ?_⟩) ?_ ?_
        rotate_left
        ·intro w'
         go_simp
         with_reducible rfl
        rotate_left
        ·simp only [Act.put, List.setIfInBounds_toArray, List.set_cons_zero, List.set_cons_succ, i64_w, i32_w]
         rfl
        refine pure_ (i := 2) (N := some 12) (v := ?_) (a' := ?_) #[true, true, true, false, false, false, false, false, false, false, false] rfl rfl (any_of HT_.out (by kernel_rfl)) (fun _ _ _ h => h) (Or.inl ⟨by rfl, ?_⟩) ?_ ?_
        rotate_left
        ·intro w'
         go_simp
         with_reducible rfl
        rotate_left
        ·simp only [Act.put, List.setIfInBounds_toArray, List.set_cons_zero, List.set_cons_succ, i64_w, i32_w]
         rfl
        refine pure_ (i := 3) (N := some 13) (v := ?_) (a' := ?_) #[true, true, true, true, false, false, false, false, false, false, false] rfl rfl (any_of HT_.out (by kernel_rfl)) (fun _ _ _ h => h) (Or.inl ⟨by rfl, ?_⟩) ?_ ?_
        rotate_left
        ·intro w'
         go_simp
         with_reducible rfl
        rotate_left
        ·simp only [Act.put, List.setIfInBounds_toArray, List.set_cons_zero, List.set_cons_succ, i64_w, i32_w]
         rfl
        refine pure_ (i := 5) (N := some 15) (v := ?_) (a' := ?_) #[true, true, true, true, false, true, false, false, false, false, false] rfl rfl (any_of HT_.out (by kernel_rfl)) (fun _ _ _ h => h) (Or.inl ⟨by rfl, ?_⟩) ?_ ?_
        rotate_left
        ·intro w'
         go_simp
         with_reducible rfl
        rotate_left
        ·simp only [Act.put, List.setIfInBounds_toArray, List.set_cons_zero, List.set_cons_succ, i64_w, i32_w]
         rfl
        refine pure_ (i := 6) (N := some 16) (v := ?_) (a' := ?_) #[true, true, true, true, false, true, true, false, false, false, false] rfl rfl (any_of HT_.out (by kernel_rfl)) (fun _ _ _ h => h) (Or.inl ⟨by rfl, ?_⟩) ?_ ?_
        rotate_left
        ·intro w'
         go_simp
         with_reducible rfl
        rotate_left
        ·simp only [Act.put, List.setIfInBounds_toArray, List.set_cons_zero, List.set_cons_succ, i64_w, i32_w]
         rfl
        refine pure_ (i := 7) (N := some 17) (v := ?_) (a' := ?_) #[true, true, true, true, false, true, true, true, false, false, false] rfl rfl (any_of HT_.out (by kernel_rfl)) (fun _ _ _ h => h) (Or.inl ⟨by rfl, ?_⟩) ?_ ?_
        rotate_left
        ·intro w'
         go_simp
         with_reducible rfl
        rotate_left
        ·simp only [Act.put, List.setIfInBounds_toArray, List.set_cons_zero, List.set_cons_succ, i64_w, i32_w]
         rfl
        refine take_ (i := 4) (N := some 14) (v := ?_) (a' := ?_) #[true, true, true, true, true, true, true, true, false, false, false] rfl rfl (take_ofW HT_.out HW_.out (by kernel_rfl)) (fun _ _ _ h => h) (Or.inl ⟨by rfl, ?_⟩) hHeld ?_ ?_
        rotate_left
        ·rintro w' ⟨s0, s1, s2, s3, s4, s5, s6, s7, s8, s9⟩
         go_simp
         with_reducible rfl
        rotate_left
        ·simp only [Act.put, List.setIfInBounds_toArray, List.set_cons_zero, List.set_cons_succ, i64_w, i32_w]
         rfl
        refine take_ (i := 8) (N := some 18) (v := ?_) (a' := ?_) #[true, true, true, true, true, true, true, true, true, false, false] rfl rfl (take_ofW HT_.out HW_.out (by kernel_rfl)) (fun _ _ _ h => h) (Or.inl ⟨by rfl, ?_⟩) hHeld ?_ ?_
        rotate_left
        ·rintro w' ⟨s0, s1, s2, s3, s4, s5, s6, s7, s8, s9⟩
         go_simp
         with_reducible rfl
        rotate_left
        ·simp only [Act.put, List.setIfInBounds_toArray, List.set_cons_zero, List.set_cons_succ, i64_w, i32_w]
         rfl
        refine one_ (i := 9) (N := some 19) #[true, true, true, true, true, true, true, true, true, true, false] rfl rfl (one_of HT_.out (by kernel_rfl)) (by decide) (fun K hK => ?_)
        refine goes_ Try.func17 (by kernel_rfl) rfl #[.agg #[.string ((rd_T24 l0 (ji3)).f0), .int .i64 ((rd_T24 l0 (ji3)).f1), .int .i64 ((rd_T24 l0 (ji3)).f2), .int .i64 ((rd_T24 l0 (ji3)).f3), .string ((rd_T24 l0 (ji3)).f4)], .agg #[.string ((rd_T24 l0 x3_1).f0), .int .i64 ((rd_T24 l0 x3_1).f1), .int .i64 ((rd_T24 l0 x3_1).f2), .int .i64 ((rd_T24 l0 x3_1).f3), .string ((rd_T24 l0 x3_1).f4)]] (by rfl) rfl rfl (by (try simp only [List.map_toArray, List.map_cons, List.map_nil]); first | done | (simp only [hji3]; rfl) | rfl | (simp only [List.length_drop, List.length_take]; rfl)) ?_
        with_reducible refine (beadrollref11_Compare.calls k1 ((rd_T24 l0 (ji3)).f0) ((rd_T24 l0 (ji3)).f1) ((rd_T24 l0 (ji3)).f2) ((rd_T24 l0 (ji3)).f3) ((rd_T24 l0 (ji3)).f4) ((rd_T24 l0 x3_1).f0) ((rd_T24 l0 x3_1).f1) ((rd_T24 l0 x3_1).f2) ((rd_T24 l0 x3_1).f3) ((rd_T24 l0 x3_1).f4) t142 _ A7.out).mono ?_
        rintro e w10 ⟨rfl, hb⟩
        refine ⟨_, rfl, ?_⟩
        have n0_ := Aside0.mk (below_step (by repeat (first | (with_reducible first | exact HB.out | apply below_alloc | apply pw_below_drewN | apply below_drew1) | exact HB.out)) hb)
        clear HB
        have HB := n0_
        clear n0_
        (try clear hb)
        (try clear hb2)
        (try clear hk)
        (try clear hi)
        refine hK.out _ _ ⟨((HB.out.cell (World.block_lt_of_cell? w _ hw140_0)).trans hw140_0), ((HB.out.cell (World.block_lt_of_cell? w _ hw140_1)).trans hw140_1), ((HB.out.cell (World.block_lt_of_cell? w _ hw140_2)).trans hw140_2), ((HB.out.cell (World.block_lt_of_cell? w _ hw140_3)).trans hw140_3), ((HB.out.cell (World.block_lt_of_cell? w _ hw140_4)).trans hw140_4), ((HB.out.cell (World.block_lt_of_cell? w _ hw141_0)).trans hw141_0), ((HB.out.cell (World.block_lt_of_cell? w _ hw141_1)).trans hw141_1), ((HB.out.cell (World.block_lt_of_cell? w _ hw141_2)).trans hw141_2), ((HB.out.cell (World.block_lt_of_cell? w _ hw141_3)).trans hw141_3), ((HB.out.cell (World.block_lt_of_cell? w _ hw141_4)).trans hw141_4)⟩ (fun hHeld => ?_)
        clear hK K
        refine norm_ (a' := ?_) ?_ ?_
        rotate_left
        ·show Act.put _ (some 19) _ = _
         simp only [Act.put, List.setIfInBounds_toArray, List.set_cons_zero, List.set_cons_succ, i64_w, i32_w]
         rfl
        refine pure_ (i := 10) (N := some 20) (v := ?_) (a' := ?_) #[true, true, true, true, true, true, true, true, true, true, true] rfl rfl (any_of HT_.out (by kernel_rfl)) (fun _ _ _ h => h) (Or.inl ⟨by rfl, ?_⟩) ?_ ?_
        rotate_left
        ·intro w'
         go_simp
         with_reducible rfl
        rotate_left
        ·simp only [Act.put, List.setIfInBounds_toArray, List.set_cons_zero, List.set_cons_succ, i64_w, i32_w]
         rfl
        refine done_ (done_of HT_.out (by kernel_rfl)) ?_
        try go_wp2
        go_roundg k1
        case measure => have := HK1.out; omega
        case rel => exact ⟨(wrap64 (x3_1 + 1)), (by first | rfl | (simp; done) | (simp [*]; done)), H', ⟨by have := HK1.out; omega⟩, ⟨by repeat (first | (with_reducible first | exact HB.out | apply below_alloc | apply pw_below_drewN | apply below_drew1) | exact HB.out)⟩⟩
       ·rw [if_neg c8] at H
        have c8b0 : (t142 == (-1)) = false := beq_eq_false_iff_ne.mpr c8
        have c8b1 : (t142 != (-1)) = true := bne_iff_ne.mpr c8
        obtain rfl := Option.some.inj H
        try go_wp2
        have n0_ := Aside0.mk (below_drew1 HB.out)
        clear HB
        have HB := n0_
        clear n0_
        have p140 : 0 ≤ ((ji3) : Int) := of_decide_eq_true (by first | (with_reducible assumption) | assumption)
        have q140 : (ji3) < (l0.length : Int) := of_decide_eq_true (by first | (with_reducible assumption) | assumption)
        obtain ⟨ad140, e140, hx140_0, hx140_1, hx140_2, hx140_3, hx140_4⟩ := at_T24 HR0.out (ji3) p140 q140
        have hw140_4 := hx140_4
        have hw140_3 := hx140_3
        have hw140_2 := hx140_2
        have hw140_1 := hx140_1
        have hw140_0 := hx140_0
        cases e140
        replace hx140_0 := (HB.out.cell (World.block_lt_of_cell? w _ hx140_0)).trans hx140_0
        replace hx140_1 := (HB.out.cell (World.block_lt_of_cell? w _ hx140_1)).trans hx140_1
        replace hx140_2 := (HB.out.cell (World.block_lt_of_cell? w _ hx140_2)).trans hx140_2
        replace hx140_3 := (HB.out.cell (World.block_lt_of_cell? w _ hx140_3)).trans hx140_3
        replace hx140_4 := (HB.out.cell (World.block_lt_of_cell? w _ hx140_4)).trans hx140_4
        replace p140 := eq_true p140
        replace q140 := eq_true q140
        have p141 : 0 ≤ (x3_1 : Int) := of_decide_eq_true (by first | (with_reducible assumption) | assumption)
        have q141 : x3_1 < (l0.length : Int) := of_decide_eq_true (by first | (with_reducible assumption) | assumption)
        obtain ⟨ad141, e141, hx141_0, hx141_1, hx141_2, hx141_3, hx141_4⟩ := at_T24 HR0.out x3_1 p141 q141
        have hw141_4 := hx141_4
        have hw141_3 := hx141_3
        have hw141_2 := hx141_2
        have hw141_1 := hx141_1
        have hw141_0 := hx141_0
        obtain rfl : ad140 = ad141 := (by injection e141)
        replace hx141_0 := (HB.out.cell (World.block_lt_of_cell? w _ hx141_0)).trans hx141_0
        replace hx141_1 := (HB.out.cell (World.block_lt_of_cell? w _ hx141_1)).trans hx141_1
        replace hx141_2 := (HB.out.cell (World.block_lt_of_cell? w _ hx141_2)).trans hx141_2
        replace hx141_3 := (HB.out.cell (World.block_lt_of_cell? w _ hx141_3)).trans hx141_3
        replace hx141_4 := (HB.out.cell (World.block_lt_of_cell? w _ hx141_4)).trans hx141_4
        replace p141 := eq_true p141
        replace q141 := eq_true q141
        refine start_ (n := 11) (S := fun w' => w'.cell? (ad140.add (((ji3)).toNat * 5)) = some (.string ((rd_T24 l0 (ji3)).f0)) ∧ w'.cell? ⟨(ad140.add (((ji3)).toNat * 5)).block, (ad140.add (((ji3)).toNat * 5)).off + 1, none⟩ = some (.int .i64 ((rd_T24 l0 (ji3)).f1)) ∧ w'.cell? ⟨(ad140.add (((ji3)).toNat * 5)).block, (ad140.add (((ji3)).toNat * 5)).off + 2, none⟩ = some (.int .i64 ((rd_T24 l0 (ji3)).f2)) ∧ w'.cell? ⟨(ad140.add (((ji3)).toNat * 5)).block, (ad140.add (((ji3)).toNat * 5)).off + 3, none⟩ = some (.int .i64 ((rd_T24 l0 (ji3)).f3)) ∧ w'.cell? ⟨(ad140.add (((ji3)).toNat * 5)).block, (ad140.add (((ji3)).toNat * 5)).off + 4, none⟩ = some (.string ((rd_T24 l0 (ji3)).f4)) ∧ w'.cell? (ad140.add ((x3_1).toNat * 5)) = some (.string ((rd_T24 l0 x3_1).f0)) ∧ w'.cell? ⟨(ad140.add ((x3_1).toNat * 5)).block, (ad140.add ((x3_1).toNat * 5)).off + 1, none⟩ = some (.int .i64 ((rd_T24 l0 x3_1).f1)) ∧ w'.cell? ⟨(ad140.add ((x3_1).toNat * 5)).block, (ad140.add ((x3_1).toNat * 5)).off + 2, none⟩ = some (.int .i64 ((rd_T24 l0 x3_1).f2)) ∧ w'.cell? ⟨(ad140.add ((x3_1).toNat * 5)).block, (ad140.add ((x3_1).toNat * 5)).off + 3, none⟩ = some (.int .i64 ((rd_T24 l0 x3_1).f3)) ∧ w'.cell? ⟨(ad140.add ((x3_1).toNat * 5)).block, (ad140.add ((x3_1).toNat * 5)).off + 4, none⟩ = some (.string ((rd_T24 l0 x3_1).f4))) (ds := []) #[false, false, false, false, false, false, false, false, false, false, false] (by kernel_rfl) rfl rfl ⟨((HB.out.cell (World.block_lt_of_cell? w _ hw140_0)).trans hw140_0), ((HB.out.cell (World.block_lt_of_cell? w _ hw140_1)).trans hw140_1), ((HB.out.cell (World.block_lt_of_cell? w _ hw140_2)).trans hw140_2), ((HB.out.cell (World.block_lt_of_cell? w _ hw140_3)).trans hw140_3), ((HB.out.cell (World.block_lt_of_cell? w _ hw140_4)).trans hw140_4), ((HB.out.cell (World.block_lt_of_cell? w _ hw141_0)).trans hw141_0), ((HB.out.cell (World.block_lt_of_cell? w _ hw141_1)).trans hw141_1), ((HB.out.cell (World.block_lt_of_cell? w _ hw141_2)).trans hw141_2), ((HB.out.cell (World.block_lt_of_cell? w _ hw141_3)).trans hw141_3), ((HB.out.cell (World.block_lt_of_cell? w _ hw141_4)).trans hw141_4)⟩ (fun hHeld => ?_); refine with_tabW beadrollref13_Is.tab4 beadrollref13_Is.bits4 (fun HT_ HW_ => ?_)
        generalize wr.drew = w11 at HB hx140_0 hx140_1 hx140_2 hx140_3 hx140_4 hx141_0 hx141_1 hx141_2 hx141_3 hx141_4 hHeld ⊢
        refine pure_ (i := 0) (N := some 10) (v := ?_) (a' := ?_) #[true, false, false, false, false, false, false, false, false, false, false] rfl rfl (any_of HT_.out (by kernel_rfl)) (fun _ _ _ h => h) (Or.inl ⟨by rfl, ?_⟩) ?_ ?_
        rotate_left
        ·intro w'
         go_simp
         with_reducible rfl
        rotate_left
        ·simp only [Act.put, List.setIfInBounds_toArray, List.set_cons_zero, List.set_cons_succ, i64_w, i32_w]
         rfl
        refine pure_ (i := 1) (N := some 11) (v := ?_) (a' := ?_) #[true, true, false, false, false, false, false, false, false, false, false] rfl rfl (any_of HT_.out (by kernel_rfl)) (fun _ _ _ h => h) (Or.inl ⟨by rfl, ?_⟩) ?_ ?_
        rotate_left
        ·intro w'
         go_simp
         with_reducible rfl
        rotate_left
        ·simp only [Act.put, List.setIfInBounds_toArray, List.set_cons_zero, List.set_cons_succ, i64_w, i32_w]
         rfl
        refine pure_ (i := 2) (N := some 12) (v := ?_) (a' := ?_) #[true, true, true, false, false, false, false, false, false, false, false] rfl rfl (any_of HT_.out (by kernel_rfl)) (fun _ _ _ h => h) (Or.inl ⟨by rfl, ?_⟩) ?_ ?_
        rotate_left
        ·intro w'
         go_simp
         with_reducible rfl
        rotate_left
        ·simp only [Act.put, List.setIfInBounds_toArray, List.set_cons_zero, List.set_cons_succ, i64_w, i32_w]
         rfl
        refine pure_ (i := 3) (N := some 13) (v := ?_) (a' := ?_) #[true, true, true, true, false, false, false, false, false, false, false] rfl rfl (any_of HT_.out (by kernel_rfl)) (fun _ _ _ h => h) (Or.inl ⟨by rfl, ?_⟩) ?_ ?_
        rotate_left
        ·intro w'
         go_simp
         with_reducible rfl
        rotate_left
        ·simp only [Act.put, List.setIfInBounds_toArray, List.set_cons_zero, List.set_cons_succ, i64_w, i32_w]
         rfl
        refine pure_ (i := 5) (N := some 15) (v := ?_) (a' := ?_) #[true, true, true, true, false, true, false, false, false, false, false] rfl rfl (any_of HT_.out (by kernel_rfl)) (fun _ _ _ h => h) (Or.inl ⟨by rfl, ?_⟩) ?_ ?_
        rotate_left
        ·intro w'
         go_simp
         with_reducible rfl
        rotate_left
        ·simp only [Act.put, List.setIfInBounds_toArray, List.set_cons_zero, List.set_cons_succ, i64_w, i32_w]
         rfl
        refine pure_ (i := 6) (N := some 16) (v := ?_) (a' := ?_) #[true, true, true, true, false, true, true, false, false, false, false] rfl rfl (any_of HT_.out (by kernel_rfl)) (fun _ _ _ h => h) (Or.inl ⟨by rfl, ?_⟩) ?_ ?_
        rotate_left
        ·intro w'
         go_simp
         with_reducible rfl
        rotate_left
        ·simp only [Act.put, List.setIfInBounds_toArray, List.set_cons_zero, List.set_cons_succ, i64_w, i32_w]
         rfl
        refine pure_ (i := 7) (N := some 17) (v := ?_) (a' := ?_) #[true, true, true, true, false, true, true, true, false, false, false] rfl rfl (any_of HT_.out (by kernel_rfl)) (fun _ _ _ h => h) (Or.inl ⟨by rfl, ?_⟩) ?_ ?_
        rotate_left
        ·intro w'
         go_simp
         with_reducible rfl
        rotate_left
        ·simp only [Act.put, List.setIfInBounds_toArray, List.set_cons_zero, List.set_cons_succ, i64_w, i32_w]
         rfl
        refine take_ (i := 4) (N := some 14) (v := ?_) (a' := ?_) #[true, true, true, true, true, true, true, true, false, false, false] rfl rfl (take_ofW HT_.out HW_.out (by kernel_rfl)) (fun _ _ _ h => h) (Or.inl ⟨by rfl, ?_⟩) hHeld ?_ ?_
        rotate_left
        ·rintro w' ⟨s0, s1, s2, s3, s4, s5, s6, s7, s8, s9⟩
         go_simp
         with_reducible rfl
        rotate_left
        ·simp only [Act.put, List.setIfInBounds_toArray, List.set_cons_zero, List.set_cons_succ, i64_w, i32_w]
         rfl
        refine take_ (i := 8) (N := some 18) (v := ?_) (a' := ?_) #[true, true, true, true, true, true, true, true, true, false, false] rfl rfl (take_ofW HT_.out HW_.out (by kernel_rfl)) (fun _ _ _ h => h) (Or.inl ⟨by rfl, ?_⟩) hHeld ?_ ?_
        rotate_left
        ·rintro w' ⟨s0, s1, s2, s3, s4, s5, s6, s7, s8, s9⟩
         go_simp
         with_reducible rfl
        rotate_left
        ·simp only [Act.put, List.setIfInBounds_toArray, List.set_cons_zero, List.set_cons_succ, i64_w, i32_w]
         rfl
        refine one_ (i := 9) (N := some 19) #[true, true, true, true, true, true, true, true, true, true, false] rfl rfl (one_of HT_.out (by kernel_rfl)) (by decide) (fun K hK => ?_)
        refine goes_ Try.func17 (by kernel_rfl) rfl #[.agg #[.string ((rd_T24 l0 (ji3)).f0), .int .i64 ((rd_T24 l0 (ji3)).f1), .int .i64 ((rd_T24 l0 (ji3)).f2), .int .i64 ((rd_T24 l0 (ji3)).f3), .string ((rd_T24 l0 (ji3)).f4)], .agg #[.string ((rd_T24 l0 x3_1).f0), .int .i64 ((rd_T24 l0 x3_1).f1), .int .i64 ((rd_T24 l0 x3_1).f2), .int .i64 ((rd_T24 l0 x3_1).f3), .string ((rd_T24 l0 x3_1).f4)]] (by rfl) rfl rfl (by (try simp only [List.map_toArray, List.map_cons, List.map_nil]); first | done | (simp only [hji3]; rfl) | rfl | (simp only [List.length_drop, List.length_take]; rfl)) ?_
        with_reducible refine (beadrollref11_Compare.calls k1 ((rd_T24 l0 (ji3)).f0) ((rd_T24 l0 (ji3)).f1) ((rd_T24 l0 (ji3)).f2) ((rd_T24 l0 (ji3)).f3) ((rd_T24 l0 (ji3)).f4) ((rd_T24 l0 x3_1).f0) ((rd_T24 l0 x3_1).f1) ((rd_T24 l0 x3_1).f2) ((rd_T24 l0 x3_1).f3) ((rd_T24 l0 x3_1).f4) t142 _ A7.out).mono ?_
        rintro e w12 ⟨rfl, hb⟩
        refine ⟨_, rfl, ?_⟩
        have n0_ := Aside0.mk (below_step (by repeat (first | (with_reducible first | exact HB.out | apply below_alloc | apply pw_below_drewN | apply below_drew1) | exact HB.out)) hb)
        clear HB
        have HB := n0_
        clear n0_
        (try clear hb)
        (try clear hb2)
        (try clear hk)
        (try clear hi)
        refine hK.out _ _ ⟨((HB.out.cell (World.block_lt_of_cell? w _ hw140_0)).trans hw140_0), ((HB.out.cell (World.block_lt_of_cell? w _ hw140_1)).trans hw140_1), ((HB.out.cell (World.block_lt_of_cell? w _ hw140_2)).trans hw140_2), ((HB.out.cell (World.block_lt_of_cell? w _ hw140_3)).trans hw140_3), ((HB.out.cell (World.block_lt_of_cell? w _ hw140_4)).trans hw140_4), ((HB.out.cell (World.block_lt_of_cell? w _ hw141_0)).trans hw141_0), ((HB.out.cell (World.block_lt_of_cell? w _ hw141_1)).trans hw141_1), ((HB.out.cell (World.block_lt_of_cell? w _ hw141_2)).trans hw141_2), ((HB.out.cell (World.block_lt_of_cell? w _ hw141_3)).trans hw141_3), ((HB.out.cell (World.block_lt_of_cell? w _ hw141_4)).trans hw141_4)⟩ (fun hHeld => ?_)
        clear hK K
        refine norm_ (a' := ?_) ?_ ?_
        rotate_left
        ·show Act.put _ (some 19) _ = _
         simp only [Act.put, List.setIfInBounds_toArray, List.set_cons_zero, List.set_cons_succ, i64_w, i32_w]
         rfl
        refine pure_ (i := 10) (N := some 20) (v := ?_) (a' := ?_) #[true, true, true, true, true, true, true, true, true, true, true] rfl rfl (any_of HT_.out (by kernel_rfl)) (fun _ _ _ h => h) (Or.inl ⟨by rfl, ?_⟩) ?_ ?_
        rotate_left
        ·intro w'
         go_simp
         with_reducible rfl
        rotate_left
        ·simp only [Act.put, List.setIfInBounds_toArray, List.set_cons_zero, List.set_cons_succ, i64_w, i32_w]
         rfl
        refine done_ (done_of HT_.out (by kernel_rfl)) ?_
        try go_wp2
        go_ret
        exact ⟨by first | rfl | (simp [errW_none, errW_some] <;> rfl) | (simp only [← hji3]; first | rfl | (simp [errW_none, errW_some] <;> rfl)) | (simp [*, errW_none, errW_some] <;> rfl), by repeat (first | (with_reducible first | exact HB.out | apply below_alloc | apply pw_below_drewN | apply below_drew1) | exact HB.out)⟩
      ·rw [if_neg c6] at H
       exact absurd H (by simp)
     ·rw [if_neg c5] at H
      exact absurd H (by simp)
    ·rw [if_neg c4] at H
     exact absurd H (by simp)
   ·rw [if_neg c2] at H
    have c2b0 : decide (x3_1 < (l0.length : Int)) = false := decide_eq_false c2
    clear c2
    obtain rfl := Option.some.inj H
    go_wp2
    go_ret
    exact ⟨by first | rfl | (simp [errW_none, errW_some] <;> rfl) | (simp [*, errW_none, errW_some] <;> rfl), by repeat (first | (with_reducible first | exact HB.out | apply below_alloc | apply pw_below_drewN | apply below_drew1) | exact HB.out)⟩
end Go.Proofs.Ytnpiglojamhpiaa.PRr
namespace Go.Proofs.Ytnpiglojamhpiaa.PRr
open Go.RowKit Go.Proofs.YtnpiglojamhpiaaW.PrintWords Go.Proofs.YtnpiglojamhpiaaW.PrintLast Go.Proofs.YtnpiglojamhpiaaW.PrintMore Go.Proofs.Ytnpiglojamhpiaa.Given Go.Proofs.Ytnpiglojamhpiaa.PRd
attribute [local go_sem] max2_int min2_int max_two min_two max_three min_three max_four min_four   -- for this text's walks alone
set_option linter.unusedVariables false
set_option linter.unusedSimpArgs false
def beadrollref13_Rights.l0 : Nat → List (S24) → Int → Option (Bool)
 | 0, _, _ => none
 | k + 1, x0, x3 => if x3 < (x0.length : Int) then (if 0 ≤ x3 then (if (((rd_T24 x0 x3).f4).size : Int) > 2000 then (some false) else ((beadrollref11_Right.f k ((rd_T24 x0 x3).f0) ((rd_T24 x0 x3).f1) ((rd_T24 x0 x3).f2) ((rd_T24 x0 x3).f3) ((rd_T24 x0 x3).f4)).bind fun t188 => (if t188 = true then (beadrollref13_Rights.l0 k x0 (wrap64 (x3 + 1))) else (some false)))) else (none)) else (some (decide ((x0.length : Int) ≤ 30)))
def beadrollref13_Rights.f (k : Nat) (l0 : List (S24)) : Option (Bool) := beadrollref13_Rights.l0 k l0 0
set_option maxHeartbeats 8000000 in
set_option maxRecDepth 100000 in
theorem beadrollref13_Rights.calls (k : Nat) (A0 : Option Addr) (c0 : Nat) (l0 : List (S24)) (r : Bool) (w : World) (hr0 : Kd.C k24 w A0 l0.length l0) (hc0 : l0.length ≤ c0) (h : beadrollref13_Rights.f k l0 = some r) :
  Calls Try.prog 6 #[.slice A0 l0.length c0] w fun e w' => e = .returned (.bool r) ∧ Below w.heap.size w w' := by
 have hu24 := Try.underlying24
 have HR0 := Aside0.mk hr0
 have HC0 := Aside0.mk hc0
 clear hr0 hc0
 have HB := Aside0.mk (Below.refl w.heap.size w)
 have H : (beadrollref13_Rights.l0 k l0 0) = some r := h
 clear h
 have H' := Aside0.mk H
 clear H
 go_enter Try.func6, Try.ntmps6
 go_wp2
 go_loopg [3] k (fun kq v3 w' => ∃ (x3_1 : Int), v3 = .int .i64 x3_1 ∧ Aside0 (beadrollref13_Rights.l0 kq l0 x3_1 = some r) ∧ Aside0 (kq ≤ k) ∧ Aside0 (Below w.heap.size w w'))
 case atStart => exact ⟨(0), (by first | rfl | (simp; done) | (simp [*]; done)), H', ⟨Nat.le_refl _⟩, ⟨by repeat (first | (with_reducible first | exact HB.out | apply below_alloc | apply pw_below_drewN | apply below_drew1) | exact HB.out)⟩⟩
 case round =>
  clear H'
  obtain ⟨x3_1, rfl, HA, HK1, HB⟩ := hrel
  cases gk with
  | zero => exact absurd HA.out (by simp [beadrollref13_Rights.l0])
  | succ k1 =>
   have H := HA.out
   clear HA
   simp only [beadrollref13_Rights.l0] at H
   by_cases c2 : x3_1 < (l0.length : Int)
   ·rw [if_pos c2] at H
    have c2b0 : decide (x3_1 < (l0.length : Int)) = true := decide_eq_true c2
    clear c2
    by_cases c3 : 0 ≤ x3_1
    ·rw [if_pos c3] at H
     have c3b0 : decide (0 ≤ x3_1) = true := decide_eq_true c3
     clear c3
     by_cases c4 : (((rd_T24 l0 x3_1).f4).size : Int) > 2000
     ·rw [if_pos c4] at H
      have c4b0 : decide (2000 < (((rd_T24 l0 x3_1).f4).size : Int)) = true := decide_eq_true c4
      have c4b1 : decide (2000 < ((rd_T24 l0 x3_1).f4).size) = true := decide_eq_true (by omega)
      clear c4
      obtain rfl := Option.some.inj H
      have p186 : 0 ≤ (x3_1 : Int) := of_decide_eq_true (by first | (with_reducible assumption) | assumption)
      have q186 : x3_1 < (l0.length : Int) := of_decide_eq_true (by first | (with_reducible assumption) | assumption)
      obtain ⟨ad186, e186, hx186_0, hx186_1, hx186_2, hx186_3, hx186_4⟩ := at_T24 HR0.out x3_1 p186 q186
      cases e186
      replace hx186_0 := (HB.out.cell (World.block_lt_of_cell? w _ hx186_0)).trans hx186_0
      replace hx186_1 := (HB.out.cell (World.block_lt_of_cell? w _ hx186_1)).trans hx186_1
      replace hx186_2 := (HB.out.cell (World.block_lt_of_cell? w _ hx186_2)).trans hx186_2
      replace hx186_3 := (HB.out.cell (World.block_lt_of_cell? w _ hx186_3)).trans hx186_3
      replace hx186_4 := (HB.out.cell (World.block_lt_of_cell? w _ hx186_4)).trans hx186_4
      replace p186 := eq_true p186
      replace q186 := eq_true q186
      go_wp2
      go_ret
      exact ⟨by first | rfl | (simp [errW_none, errW_some] <;> rfl) | (simp [*, errW_none, errW_some] <;> rfl), by repeat (first | (with_reducible first | exact HB.out | apply below_alloc | apply pw_below_drewN | apply below_drew1) | exact HB.out)⟩
     ·rw [if_neg c4] at H
      have c4b0 : decide (2000 < (((rd_T24 l0 x3_1).f4).size : Int)) = false := decide_eq_false c4
      have c4b1 : decide (2000 < ((rd_T24 l0 x3_1).f4).size) = false := decide_eq_false (by omega)
      clear c4
      replace H := Option.bind_eq_some_iff.mp H
      obtain ⟨t188, A50, H⟩ := H
      replace H : (if t188 = true then (beadrollref13_Rights.l0 k1 l0 (wrap64 (x3_1 + 1))) else (some false)) = some r := H
      have A5 := Aside0.mk A50
      clear A50
      by_cases c6 : t188 = true
      ·subst c6
       have H1 : (beadrollref13_Rights.l0 k1 l0 (wrap64 (x3_1 + 1))) = some r := by rw [if_pos rfl] at H; exact H
       clear H
       have H := H1
       clear H1
       have H' := Aside0.mk H
       clear H
       have p186 : 0 ≤ (x3_1 : Int) := of_decide_eq_true (by first | (with_reducible assumption) | assumption)
       have q186 : x3_1 < (l0.length : Int) := of_decide_eq_true (by first | (with_reducible assumption) | assumption)
       obtain ⟨ad186, e186, hx186_0, hx186_1, hx186_2, hx186_3, hx186_4⟩ := at_T24 HR0.out x3_1 p186 q186
       cases e186
       replace hx186_0 := (HB.out.cell (World.block_lt_of_cell? w _ hx186_0)).trans hx186_0
       replace hx186_1 := (HB.out.cell (World.block_lt_of_cell? w _ hx186_1)).trans hx186_1
       replace hx186_2 := (HB.out.cell (World.block_lt_of_cell? w _ hx186_2)).trans hx186_2
       replace hx186_3 := (HB.out.cell (World.block_lt_of_cell? w _ hx186_3)).trans hx186_3
       replace hx186_4 := (HB.out.cell (World.block_lt_of_cell? w _ hx186_4)).trans hx186_4
       replace p186 := eq_true p186
       replace q186 := eq_true q186
       have p187 : 0 ≤ (x3_1 : Int) := of_decide_eq_true (by first | (with_reducible assumption) | assumption)
       have q187 : x3_1 < (l0.length : Int) := of_decide_eq_true (by first | (with_reducible assumption) | assumption)
       obtain ⟨ad187, e187, hx187_0, hx187_1, hx187_2, hx187_3, hx187_4⟩ := at_T24 HR0.out x3_1 p187 q187
       obtain rfl : ad186 = ad187 := (by injection e187)
       replace hx187_0 := (HB.out.cell (World.block_lt_of_cell? w _ hx187_0)).trans hx187_0
       replace hx187_1 := (HB.out.cell (World.block_lt_of_cell? w _ hx187_1)).trans hx187_1
       replace hx187_2 := (HB.out.cell (World.block_lt_of_cell? w _ hx187_2)).trans hx187_2
       replace hx187_3 := (HB.out.cell (World.block_lt_of_cell? w _ hx187_3)).trans hx187_3
       replace hx187_4 := (HB.out.cell (World.block_lt_of_cell? w _ hx187_4)).trans hx187_4
       replace p187 := eq_true p187
       replace q187 := eq_true q187
       go_wp2_with (first | (go_at_call 16; (with_reducible refine (beadrollref11_Right.calls k1 ((rd_T24 l0 x3_1).f0) ((rd_T24 l0 x3_1).f1) ((rd_T24 l0 x3_1).f2) ((rd_T24 l0 x3_1).f3) ((rd_T24 l0 x3_1).f4) true _ A5.out).mono ?_); rintro e w7 ⟨rfl, hb⟩; have n0_ := Aside0.mk (below_step (by repeat (first | (with_reducible first | exact HB.out | apply below_alloc | apply pw_below_drewN | apply below_drew1) | exact HB.out)) hb); clear HB; have HB := n0_; clear n0_; (try clear hb); (try clear hb2); (try clear hk); (try clear hi)))
       go_roundg k1
       case measure => have := HK1.out; omega
       case rel => exact ⟨(wrap64 (x3_1 + 1)), (by first | rfl | (simp; done) | (simp [*]; done)), H', ⟨by have := HK1.out; omega⟩, ⟨by repeat (first | (with_reducible first | exact HB.out | apply below_alloc | apply pw_below_drewN | apply below_drew1) | exact HB.out)⟩⟩
      ·replace c6 := Bool.eq_false_iff.mpr c6
       subst c6
       have H1 : (some false) = some r := by rw [if_neg (show ¬ (false = true) by decide)] at H; exact H
       clear H
       have H := H1
       clear H1
       obtain rfl := Option.some.inj H
       have p186 : 0 ≤ (x3_1 : Int) := of_decide_eq_true (by first | (with_reducible assumption) | assumption)
       have q186 : x3_1 < (l0.length : Int) := of_decide_eq_true (by first | (with_reducible assumption) | assumption)
       obtain ⟨ad186, e186, hx186_0, hx186_1, hx186_2, hx186_3, hx186_4⟩ := at_T24 HR0.out x3_1 p186 q186
       cases e186
       replace hx186_0 := (HB.out.cell (World.block_lt_of_cell? w _ hx186_0)).trans hx186_0
       replace hx186_1 := (HB.out.cell (World.block_lt_of_cell? w _ hx186_1)).trans hx186_1
       replace hx186_2 := (HB.out.cell (World.block_lt_of_cell? w _ hx186_2)).trans hx186_2
       replace hx186_3 := (HB.out.cell (World.block_lt_of_cell? w _ hx186_3)).trans hx186_3
       replace hx186_4 := (HB.out.cell (World.block_lt_of_cell? w _ hx186_4)).trans hx186_4
       replace p186 := eq_true p186
       replace q186 := eq_true q186
       have p187 : 0 ≤ (x3_1 : Int) := of_decide_eq_true (by first | (with_reducible assumption) | assumption)
       have q187 : x3_1 < (l0.length : Int) := of_decide_eq_true (by first | (with_reducible assumption) | assumption)
       obtain ⟨ad187, e187, hx187_0, hx187_1, hx187_2, hx187_3, hx187_4⟩ := at_T24 HR0.out x3_1 p187 q187
       obtain rfl : ad186 = ad187 := (by injection e187)
       replace hx187_0 := (HB.out.cell (World.block_lt_of_cell? w _ hx187_0)).trans hx187_0
       replace hx187_1 := (HB.out.cell (World.block_lt_of_cell? w _ hx187_1)).trans hx187_1
       replace hx187_2 := (HB.out.cell (World.block_lt_of_cell? w _ hx187_2)).trans hx187_2
       replace hx187_3 := (HB.out.cell (World.block_lt_of_cell? w _ hx187_3)).trans hx187_3
       replace hx187_4 := (HB.out.cell (World.block_lt_of_cell? w _ hx187_4)).trans hx187_4
       replace p187 := eq_true p187
       replace q187 := eq_true q187
       go_wp2_with (first | (go_at_call 16; (with_reducible refine (beadrollref11_Right.calls k1 ((rd_T24 l0 x3_1).f0) ((rd_T24 l0 x3_1).f1) ((rd_T24 l0 x3_1).f2) ((rd_T24 l0 x3_1).f3) ((rd_T24 l0 x3_1).f4) false _ A5.out).mono ?_); rintro e w8 ⟨rfl, hb⟩; have n0_ := Aside0.mk (below_step (by repeat (first | (with_reducible first | exact HB.out | apply below_alloc | apply pw_below_drewN | apply below_drew1) | exact HB.out)) hb); clear HB; have HB := n0_; clear n0_; (try clear hb); (try clear hb2); (try clear hk); (try clear hi)))
       go_ret
       exact ⟨by first | rfl | (simp [errW_none, errW_some] <;> rfl) | (simp [*, errW_none, errW_some] <;> rfl), by repeat (first | (with_reducible first | exact HB.out | apply below_alloc | apply pw_below_drewN | apply below_drew1) | exact HB.out)⟩
    ·rw [if_neg c3] at H
     exact absurd H (by simp)
   ·rw [if_neg c2] at H
    have c2b0 : decide (x3_1 < (l0.length : Int)) = false := decide_eq_false c2
    clear c2
    obtain rfl := Option.some.inj H
    go_wp2
    go_ret
    exact ⟨by first | rfl | (simp [errW_none, errW_some] <;> rfl) | (simp [*, errW_none, errW_some] <;> rfl), by repeat (first | (with_reducible first | exact HB.out | apply below_alloc | apply pw_below_drewN | apply below_drew1) | exact HB.out)⟩
end Go.Proofs.Ytnpiglojamhpiaa.PRr
namespace Go.Proofs.Ytnpiglojamhpiaa.Rrs
open Go.RowKit Go.Proofs.YtnpiglojamhpiaaW.PrintWords Go.Proofs.YtnpiglojamhpiaaW.PrintLast Go.Proofs.YtnpiglojamhpiaaW.PrintMore Go.Proofs.Ytnpiglojamhpiaa.Given Go.Proofs.Ytnpiglojamhpiaa.PRd Go.Proofs.Ytnpiglojamhpiaa.PRr
set_option linter.unusedVariables false
theorem set_block {w : World} {g : Nat} {cur : List Value} (h : w.heap[g]? = some (.cells cur.toArray tRR (0, 0))) (k : Nat) (v : Value) : (w.setCell ⟨g, k, none⟩ v).heap[g]? = some (.cells (cur.set k v).toArray tRR (0, 0)) := by
  rw [setCell_eq_setRow w g k cur.toArray tRR (0, 0) v h, setRow_heap w g _ _ _ _ h]
  simp
theorem flat_set (a0 a1 a2 a3 a4 : Value) (x : RR) (hx : cellsR x = [a0, a1, a2, a3, a4]) : ∀ (l : List RR) (rest : List Value) (p : Nat), p < l.length →
    (((((flat l ++ rest).set (p * 5) a0).set (p * 5 + 1) a1).set (p * 5 + 2) a2).set (p * 5 + 3) a3).set (p * 5 + 4) a4 = flat (l.set p x) ++ rest
  | [], _, p, h => by simp at h
  | y :: l, rest, 0, _ => by
    show _ = cellsR x ++ flat l ++ rest
    rw [hx]
    rfl
  | y :: l, rest, p + 1, h => by
    have ih := flat_set a0 a1 a2 a3 a4 x hx l rest p (by simpa using h)
    show _ = cellsR y ++ flat (l.set p x) ++ rest
    rw [List.append_assoc, ← ih]
    have e : (p + 1) * 5 = p * 5 + 5 := by omega
    rw [e]
    rfl
theorem Row.put {w : World} {base g cap : Nat} {l : List RR} {rest : List Value} (h : Row w base g cap l rest) (x : RR) (p : Nat) (hp : p < l.length) (a0 a1 a2 a3 a4 : Value) (hx : cellsR x = [a0, a1, a2, a3, a4]) :
    Row (((((w.setCell ⟨g, p * 5, none⟩ a0).setCell ⟨g, p * 5 + 1, none⟩ a1).setCell ⟨g, p * 5 + 2, none⟩ a2).setCell ⟨g, p * 5 + 3, none⟩ a3).setCell ⟨g, p * 5 + 4, none⟩ a4) base g cap (l.set p x) rest := by
  have hb := set_block (set_block (set_block (set_block (set_block h.blk (p * 5) a0) (p * 5 + 1) a1) (p * 5 + 2) a2) (p * 5 + 3) a3) (p * 5 + 4) a4
  rw [flat_set a0 a1 a2 a3 a4 x hx l rest p hp] at hb
  exact ⟨hb, h.lo, h.fits, by rw [List.length_set]; exact h.len⟩
def eqR (x y : RR) : Bool := x.f0.toList == y.f0.toList && (x.f1 == y.f1 && (x.f2 == y.f2 && (x.f3 == y.f3 && (x.f4.toList == y.f4.toList))))
noncomputable def putS (l : List RR) (x : RR) : List RR := if hit l x = true then l.set (place l x) x else l.take (place l x) ++ x :: l.drop (place l x)
noncomputable def putB (l : List RR) (x : RR) : Bool := if hit l x = true then !(eqR (rdR l (place l x : Nat)) x) else true
end Go.Proofs.Ytnpiglojamhpiaa.Rrs
namespace Go.Proofs.Ytnpiglojamhpiaa.Given
open Go.RowKit Go.Proofs.YtnpiglojamhpiaaW.PrintWords Go.Proofs.YtnpiglojamhpiaaW.PrintLast Go.Proofs.YtnpiglojamhpiaaW.PrintMore Go.Proofs.Ytnpiglojamhpiaa.PRd Go.Proofs.Ytnpiglojamhpiaa.PRr Go.Proofs.Ytnpiglojamhpiaa.Rrs
set_option linter.unusedVariables false
open Classical in
noncomputable def rrset_Put.f (l0 : List (S24)) (a1_0 : ByteArray) (a1_1 : Int) (a1_2 : Int) (a1_3 : Int) (a1_4 : ByteArray) : Option (List (S24) × Bool) :=
  if Splits l0 ⟨a1_0, a1_1, a1_2, a1_3, a1_4⟩ then some (putS l0 ⟨a1_0, a1_1, a1_2, a1_3, a1_4⟩, putB l0 ⟨a1_0, a1_1, a1_2, a1_3, a1_4⟩) else none
attribute [local go_sem high] eqA24
set_option maxHeartbeats 8000000 in
set_option maxRecDepth 100000 in
theorem rrset_Put.calls (A0 : Option Addr) (c0 : Nat) (l0 : List (S24)) (a1_0 : ByteArray) (a1_1 : Int) (a1_2 : Int) (a1_3 : Int) (a1_4 : ByteArray) (r1 : List (S24)) (r2 : Bool) (w : World) (hr0 : Kd.C k24 w A0 l0.length l0) (hc0 : l0.length ≤ c0) (h : rrset_Put.f l0 a1_0 a1_1 a1_2 a1_3 a1_4 = some (r1, r2)) :
    Calls Try.prog 8 #[.slice A0 l0.length c0, .agg #[.string a1_0, .int .i64 a1_1, .int .i64 a1_2, .int .i64 a1_3, .string a1_4]] w fun e w' => ∃ v0_ : Value, e = .returned (.tuple #[v0_, .bool r2]) ∧ Kd.R k24 24 w' w.heap.size (fun _ => True) v0_ r1 ∧ Below w.heap.size w w' := by
  unfold rrset_Put.f at h
  obtain ⟨x, hx⟩ : ∃ x : RR, (⟨a1_0, a1_1, a1_2, a1_3, a1_4⟩ : RR) = x := ⟨_, rfl⟩
  rw [hx] at h
  have hS : Splits l0 x := Classical.byContradiction fun hn => by rw [if_neg hn] at h; cases h
  rw [if_pos hS] at h
  injection h with h
  injection h with h1 h2
  have hat : rrset_at.f l0 a1_0 a1_1 a1_2 a1_3 a1_4 = some (((place l0 x : Nat) : Int), hit l0 x) := by unfold rrset_at.f; rw [hx, if_pos hS]
  have hcl : slices_Clone.f l0 = some l0 := by unfold slices_Clone.f; rw [if_pos hS.len]
  have HS := Lib.hid hS
  have H1 := Lib.hid h1
  have H2 := Lib.hid h2
  have HX := Lib.hid hx
  have HAT := Lib.hid hat
  have HCL := Lib.hid hcl
  have HR := Lib.hid hr0
  have HP := Lib.hid (place_le l0 x)
  clear h1 h2 hx hat hcl hS hr0
  have HB := Aside0.mk (Below.refl w.heap.size w)
  have hu41 := Try.underlying24
  go_enter Try.func8, Try.ntmps8
  go_wp2_with (first | ((with_reducible refine gate_dst (N := 3) rfl ?_); refine box_event ?hg (N := 3) ?hd (cs := #[.string a1_0, .int .i64 a1_1, .int .i64 a1_2, .int .i64 a1_3, .string a1_4]) (t := 24) ?hr ?_; (case hd => rfl); (case hg => rfl); (case hr => first | (go_simp; done) | (go_simp; rfl)); intro gb hg w3 hbox hb; have n0_ := Aside0.mk (below_step (HB.out) hb); have n1_ := Aside0.mk (hbox); have n2_ := Aside0.mk (show w.heap.size ≤ gb by rw [hg]; exact below_size HB.out); clear HB; have HB := n0_; have BK := n1_; have GE := n2_; clear n0_ n1_ n2_; clear hb hbox hg))
  refine (slices_Clone.calls A0 c0 l0 l0 w3 (Kd.C_below HR.out HB.out) hc0 HCL.out).mono ?_
  rintro e w4 ⟨v, rfl, hv, hb4⟩
  obtain ⟨A, c, rfl, hlc, hC⟩ := Kd.R_reads hv
  have HB4 := Lib.hid (below_then HB.out HB.out.size hb4)
  have BK4 := Lib.hid (blk_below BK.out hb4)
  have HV := Lib.hid (show Kd.R k24 24 w4 w3.heap.size (fun k => k ≠ gb) (.slice A l0.length c) l0 from Kd.R_mono (Kd.R_bound hv) fun k hk e => by have h1 := hk.2.1; have h2 := blk_lt BK.out; omega)
  have HS3 := Lib.hid HB.out.size
  have HC := Lib.hid hC
  clear hv hC hb4 HB BK
  have hcz0 : w4.cell? ⟨gb, 0, none⟩ = some (.string a1_0) := (blk_cell BK4.out 0).trans rfl
  have hcz1 : w4.cell? ⟨gb, 1, none⟩ = some (.int .i64 a1_1) := (blk_cell BK4.out 1).trans rfl
  have hcz2 : w4.cell? ⟨gb, 2, none⟩ = some (.int .i64 a1_2) := (blk_cell BK4.out 2).trans rfl
  have hcz3 : w4.cell? ⟨gb, 3, none⟩ = some (.int .i64 a1_3) := (blk_cell BK4.out 3).trans rfl
  have hcz4 : w4.cell? ⟨gb, 4, none⟩ = some (.string a1_4) := (blk_cell BK4.out 4).trans rfl
  go_wp2_with fail
  refine (rrset_at.calls A c l0 a1_0 a1_1 a1_2 a1_3 a1_4 _ _ w4 HC.out hlc HAT.out).mono ?_
  rintro e w5 ⟨rfl, hb5⟩
  have HB5 := Lib.hid (below_then HB4.out HB4.out.size hb5)
  have BK5 := Lib.hid (blk_below BK4.out hb5)
  have HV5 := Lib.hid (Kd.R_below HV.out hb5)
  have HSZ := Lib.hid hb5.size
  clear hb5 HB4 BK4 HV HC hcz0 hcz1 hcz2 hcz3 hcz4
  have hcz0 : w5.cell? ⟨gb, 0, none⟩ = some (.string a1_0) := (blk_cell BK5.out 0).trans rfl
  have hcz1 : w5.cell? ⟨gb, 1, none⟩ = some (.int .i64 a1_1) := (blk_cell BK5.out 1).trans rfl
  have hcz2 : w5.cell? ⟨gb, 2, none⟩ = some (.int .i64 a1_2) := (blk_cell BK5.out 2).trans rfl
  have hcz3 : w5.cell? ⟨gb, 3, none⟩ = some (.int .i64 a1_3) := (blk_cell BK5.out 3).trans rfl
  have hcz4 : w5.cell? ⟨gb, 4, none⟩ = some (.string a1_4) := (blk_cell BK5.out 4).trans rfl
  obtain ⟨p, hp⟩ : ∃ p, place l0 x = p := ⟨_, rfl⟩
  have HPP := Lib.hid hp
  cases hh : hit l0 x with
  | false =>
    have HH := Lib.hid hh
    rw [hp]
    clear hh hp
    go_wp2_with fail
    have hR5 : Kd.R kRR tRR (w5.alloc (.cells (cellsR x).toArray tRR)) w.heap.size (fun _ => True) (.slice A l0.length c) l0 := Kd.R_mono (Kd.R_lower (Kd.R_below HV5.out (below_alloc (Below.refl _ _) _)) HS3.out) (fun _ _ => trivial)
    have hB5 : Below w.heap.size w (w5.alloc (.cells (cellsR x).toArray tRR)) := below_alloc HB5.out _
    have hne : some w5.heap.size ≠ (Value.slice A l0.length c).ownBlock := fun e => by
      have h1 := (Kd.R_bound HV5.out).1 _ e.symm
      omega
    have hi := insert_any l0 x HS.out.len p (by rw [← HPP.out]; exact HP.out) w.heap.size (fun _ => True) w (w5.alloc (.cells (cellsR x).toArray tRR)) hB5 hB5.size _ hR5 (fun _ _ => trivial) w5.heap.size (by show (w5.heap.push _)[w5.heap.size]? = _; simp) hne
    have hxc : cellsR x = [.string a1_0, .int .i64 a1_1, .int .i64 a1_2, .int .i64 a1_3, .string a1_4] := by rw [← HX.out]; rfl
    rw [hxc] at hi
    have HI := Lib.hid hi
    clear hi hR5 hB5 hne hxc hcz0 hcz1 hcz2 hcz3 hcz4
    refine (HI.out).mono ?_
    rintro e w6 ⟨v', rfl, hv', hb6⟩
    have e1 : putS l0 x = l0.take p ++ x :: l0.drop p := by unfold putS; rw [HH.out, if_neg (by decide), HPP.out]
    have e2 : putB l0 x = true := by unfold putB; rw [HH.out, if_neg (by decide)]
    have HV6 := Lib.hid hv'
    have HB6 := Lib.hid hb6
    have E1 := Lib.hid (H1.out.symm.trans e1)
    have E2 := Lib.hid (H2.out.symm.trans e2)
    clear hv' hb6 e1 e2
    go_wp2_with fail
    go_ret2
    exact ⟨_, by rw [E2.out]; rfl, by rw [E1.out]; exact HV6.out, HB6.out⟩
  | true =>
    have HH := Lib.hid hh
    rw [hp]
    clear hh hp
    have hpl : p < l0.length := by
      have h := HH.out
      unfold hit at h
      rw [HPP.out] at h
      simp at h
      exact h.1
    rcases Row.of_R HV5.out with ⟨_, hn0⟩ | ⟨g, c', rest, hsl, hg, hrow⟩
    · rw [hn0] at hpl; simp at hpl
    · injection hsl with hA _ hcc
      subst hA hcc
      have p1 : (0 : Int) ≤ (p : Int) := by omega
      have q1 : (p : Int) < (l0.length : Int) := by omega
      obtain ⟨ad, e1, hx0, hx1, hx2, hx3, hx4⟩ := at_T24 (Kd.R_reads' HV5.out).2.2 (p : Int) p1 q1
      cases e1
      rw [Int.toNat_natCast] at hx0 hx1 hx2 hx3 hx4
      have hgw : (g : Nat) ≠ gb := hg
      have b0 := blk_frozen hrow.blk (p * 5)
      have b1 := blk_frozen hrow.blk (p * 5 + 1)
      have b2 := blk_frozen hrow.blk (p * 5 + 2)
      have b3 := blk_frozen hrow.blk (p * 5 + 3)
      have b4 := blk_frozen hrow.blk (p * 5 + 4)
      simp only [Addr.add_lit, Nat.zero_add] at hx0 hx1 hx2 hx3 hx4
      have HROW := Lib.hid hrow
      clear hrow
      go_wp2_with fail
      go_quiet (fail)
      go_wp2_with fail
      have hxc : cellsR x = [.string a1_0, .int .i64 a1_1, .int .i64 a1_2, .int .i64 a1_3, .string a1_4] := by rw [← HX.out]; rfl
      have hrow2 : Row (w5.drewN nq) w.heap.size g c l0 rest := ⟨HROW.out.blk, Nat.le_trans HS3.out HROW.out.lo, HROW.out.fits, HROW.out.len⟩
      have hfin := hrow2.put x p hpl _ _ _ _ _ hxc
      have hge : w.heap.size ≤ g := Nat.le_trans HS3.out HROW.out.lo
      have hBF : Below w.heap.size w ((((((w5.drewN nq).setCell ⟨g, p * 5, none⟩ (.string a1_0)).setCell ⟨g, p * 5 + 1, none⟩ (.int .i64 a1_1)).setCell ⟨g, p * 5 + 2, none⟩ (.int .i64 a1_2)).setCell ⟨g, p * 5 + 3, none⟩ (.int .i64 a1_3)).setCell ⟨g, p * 5 + 4, none⟩ (.string a1_4)) :=
        below_set (below_set (below_set (below_set (below_set (pw_below_drewN HB5.out _) hge) hge) hge) hge) hge
      have e1 : putS l0 x = l0.set p x := by unfold putS; rw [HH.out, if_pos rfl, HPP.out]
      have e2 : putB l0 x = !(eqR (rdR l0 (p : Nat)) x) := by unfold putB; rw [HH.out, if_pos rfl, HPP.out]
      have hr2 : r2 = !(eqR (rdR l0 (p : Nat)) x) := H2.out.symm.trans e2
      have hr1 : r1 = l0.set p x := H1.out.symm.trans e1
      have hR := hfin.R (ok := fun _ => True) trivial
      rw [List.length_set, ← hr1] at hR
      have HRR := Lib.hid hR
      have HBF := Lib.hid hBF
      have HR2 := Lib.hid hr2
      clear hR hBF hr1 hr2 e1 e2 hfin hrow2 hxc
      go_ret2
      refine ⟨_, ?_, HRR.out, HBF.out⟩
      rw [HR2.out, ← HX.out]
      show _ = Ending.returned (Value.tuple #[_, Value.bool (!(_ == _ && (_ == _ && (_ == _ && (_ == _ && (_ == _))))))])
      simp only [Bool.not_and]
      rfl
end Go.Proofs.Ytnpiglojamhpiaa.Given
namespace Go.Proofs.Ytnpiglojamhpiaa.Rrs
open Go.RowKit Go.Proofs.YtnpiglojamhpiaaW.PrintWords Go.Proofs.YtnpiglojamhpiaaW.PrintLast Go.Proofs.YtnpiglojamhpiaaW.PrintMore Go.Proofs.Ytnpiglojamhpiaa.Given Go.Proofs.Ytnpiglojamhpiaa.PRd Go.Proofs.Ytnpiglojamhpiaa.PRr Go.Proofs.Ytnpiglojamhpiaa.Oct Go.Proofs.Ytnpiglojamhpiaa.Name Go.Proofs.Ytnpiglojamhpiaa.Cmp Go.Proofs.Ytnpiglojamhpiaa.NameFacts Go.Proofs.Ytnpiglojamhpiaa.RdataFacts Go.Proofs.Ytnpiglojamhpiaa.SetLaw
set_option linter.unusedVariables false
def fine (x : RR) : Prop := rightB x.f0 = true ∧ x.f4.size ≤ 100000
def rcO (k : Nat) (x y : RR) : Option Int := beadrollref11_Compare.f k x.f0 x.f1 x.f2 x.f3 x.f4 y.f0 y.f1 y.f2 y.f3 y.f4
theorem ev_rcmp (x y : RR) (hx : fine x) (hy : fine y) : Ev (fun k => rcO k x y) (cmpRR x y) := ⟨FU + 4000, fun k hk => rcmp_eq x y hx.1 hy.1 hx.2 hy.2 k hk⟩
theorem ev_cmp (x y : RR) (hx : fine x) (hy : fine y) : Ev (fun k => cmpO k x y) (cmpRR x y) := ⟨1000, fun k hk => cmpO_eq x y hx.1 hy.1 hx.2 hy.2 k hk⟩
theorem cmpC_fine {x y : RR} (hx : fine x) (hy : fine y) : cmpC x y = cmpRR x y := cmpC_is x y hx.1 hy.1 hx.2 hy.2
theorem Ev.const {α : Type} {o : Option α} {r : α} (h : o = some r) : Ev (fun _ => o) r := ⟨0, fun _ _ => h⟩
def typedB (c : Int) (d : ByteArray) : Bool := if c = 1 then true else if c = 254 then !d.toList.isEmpty else false
def rightRR (x : RR) : Bool := rightB x.f0 && (decide (0 ≤ x.f1) && (decide (x.f1 ≤ 65535) && (decide (0 ≤ x.f2) && (decide (x.f2 ≤ 65535) && (decide (0 ≤ x.f3) && (decide (x.f3 ≤ 2147483647) && (decide (x.f4.size ≤ 65535) && (!typedB x.f2 x.f4 || rightD x.f1 x.f4))))))))
theorem rightRR_fine {x : RR} (h : rightRR x = true) : fine x := by
  unfold rightRR at h
  simp only [Bool.and_eq_true, decide_eq_true_eq] at h
  exact ⟨h.1, by omega⟩
theorem typed_f (c : Int) (d : ByteArray) : beadrollref11_typed.f c d.toList.isEmpty = some (typedB c d) := by
  unfold beadrollref11_typed.f typedB
  repeat' split
  all_goals rfl
theorem ev_rdright (t : Int) (d : ByteArray) (h : d.size ≤ 1000000) : Ev (fun k => beadrollref10_Right.f k t d) (rightD t d) := ⟨FU + 2000, fun k hk => rright_d t d h k hk⟩
theorem ev_rnright (n : ByteArray) : Ev (fun k => beadrollref07_Right.f k n) (rightB n) := ⟨600, fun k hk => rright_f n k hk⟩
theorem ev_rright_j (b : Bool) (x : RR) (h : b = false → x.f4.size ≤ 1000000) : Ev (fun k => beadrollref11_Right.j0 k b x.f0 x.f1 x.f2 x.f3 x.f4) (!b && (!typedB x.f2 x.f4 || rightD x.f1 x.f4)) := by
  have hs : ∀ k, beadrollref11_Right.j0 (k + 1) b x.f0 x.f1 x.f2 x.f3 x.f4 = if b = true then some false else (beadrollref11_typed.f x.f2 x.f4.toList.isEmpty).bind fun t => if t = true then (beadrollref10_Right.f k x.f1 x.f4).bind fun u => some u else some true := fun k => by
    simp only [beadrollref11_Right.j0]
  refine Ev.step hs ?_
  cases b
  · simp only [typed_f, Option.bind_some, Bool.false_eq_true, if_false]
    cases ht : typedB x.f2 x.f4
    · simp only [Bool.false_eq_true, if_false]
      exact Ev.now _
    · simp only [if_true]
      refine Ev.bind (ev_rdright _ _ (h rfl)) ?_
      exact Ev.now _
  · simp only [if_true]
    exact Ev.now _
theorem ev_rright (x : RR) : Ev (fun k => beadrollref11_Right.f k x.f0 x.f1 x.f2 x.f3 x.f4) (rightRR x) := by
  have hs : ∀ k, beadrollref11_Right.f k x.f0 x.f1 x.f2 x.f3 x.f4 = (beadrollref07_Right.f k x.f0).bind fun t => beadrollref11_Right.j0 k (!(t && (decide (0 ≤ x.f1) && (decide (x.f1 ≤ 65535) && (decide (0 ≤ x.f2) && (decide (x.f2 ≤ 65535) && (decide (0 ≤ x.f3) && (decide (x.f3 ≤ 2147483647) && decide (x.f4.size ≤ 65535))))))))) x.f0 x.f1 x.f2 x.f3 x.f4 := fun k => by
    unfold beadrollref11_Right.f
    congr 1
    funext t
    by_cases h1 : x.f1 < 0
    · simp [h1, show ¬ (0 ≤ x.f1) by omega]
    by_cases h2 : x.f1 > 65535
    · simp [h1, h2, show ¬ (x.f1 ≤ 65535) by omega]
    by_cases h3 : x.f2 < 0
    · simp [h1, h2, h3, show ¬ (0 ≤ x.f2) by omega]
    by_cases h4 : x.f2 > 65535
    · simp [h1, h2, h3, h4, show ¬ (x.f2 ≤ 65535) by omega]
    by_cases h5 : x.f3 < 0
    · simp [h1, h2, h3, h4, h5, show ¬ (0 ≤ x.f3) by omega]
    by_cases h6 : x.f3 > 2147483647
    · simp [h1, h2, h3, h4, h5, h6, show ¬ (x.f3 ≤ 2147483647) by omega]
    have e7 : decide ((x.f4.size : Int) > 65535) = !decide (x.f4.size ≤ 65535) := by
      by_cases h7 : x.f4.size ≤ 65535
      · rw [decide_eq_true h7, decide_eq_false (by omega)]; rfl
      · rw [decide_eq_false h7, decide_eq_true (by omega)]; rfl
    rw [if_neg h1, if_neg h2, if_neg h3, if_neg h4, if_neg h5, if_neg h6, e7]
    cases t
    · simp
    · simp [show 0 ≤ x.f1 by omega, show x.f1 ≤ 65535 by omega, show 0 ≤ x.f2 by omega, show x.f2 ≤ 65535 by omega, show 0 ≤ x.f3 by omega, show x.f3 ≤ 2147483647 by omega]
  refine Ev.congr hs (Ev.bind (ev_rnright x.f0) ?_)
  refine (?_ : (!(!(rightB x.f0 && _)) && _) = rightRR x) ▸ ev_rright_j _ x ?_
  · unfold rightRR
    simp only [Bool.not_not, Bool.and_assoc]
  · intro h
    simp only [Bool.not_eq_false', Bool.and_eq_true, decide_eq_true_eq] at h
    omega
def chain {α : Type} (c : α → α → Int) : List α → Bool
  | [] => true
  | [_] => true
  | a :: b :: l => decide (c a b < 0) && chain c (b :: l)
theorem chain_iff {α : Type} {c : α → α → Int} (O : POrd c) : ∀ l : List α, chain c l = true ↔ IsSet c l
  | [] => by simp [chain, IsSet]
  | [a] => by simp [chain, IsSet]
  | a :: b :: l => by
    have ih := chain_iff O (b :: l)
    rw [chain, Bool.and_eq_true, decide_eq_true_eq, ih]
    constructor
    · rintro ⟨h1, h2⟩
      refine List.pairwise_cons.mpr ⟨fun y hy => ?_, h2⟩
      rcases List.mem_cons.mp hy with rfl | hy
      · exact h1
      · exact O.trans _ _ _ h1 ((List.pairwise_cons.mp h2).1 y hy)
    · intro h
      exact ⟨(List.pairwise_cons.mp h).1 b (List.mem_cons_self ..), (List.pairwise_cons.mp h).2⟩
theorem drop_two {α : Type} (l : List α) (i : Nat) (h : i + 1 < l.length) : l.drop i = l[i] :: l[i + 1] :: l.drop (i + 2) := by
  rw [List.drop_eq_getElem_cons (by omega), List.drop_eq_getElem_cons (by omega)]
theorem ris_loop (l : List RR) (hl : ∀ y ∈ l, fine y) (hn : l.length ≤ 1000000) : ∀ (d i : Nat), l.length ≤ i + d → Ev (fun k => beadrollref13_Is.l0 k l ((i + 1 : Nat) : Int)) (chain cmpRR (l.drop i)) := by
  intro d
  induction d with
  | zero =>
    intro i hd
    refine Ev.step (f := fun _ => some true) (fun k => by simp only [beadrollref13_Is.l0]; rw [if_neg (by omega)]) ?_
    rw [List.drop_of_length_le (by omega)]
    exact Ev.now _
  | succ d ih =>
    intro i hd
    by_cases hi : i + 1 < l.length
    · have e0 : wrap64 (((i + 1 : Nat) : Int) - 1) = (i : Int) := by unfold wrap64; omega
      have e1 : wrap64 (((i + 1 : Nat) : Int) + 1) = ((i + 1 + 1 : Nat) : Int) := by unfold wrap64; omega
      have hs : ∀ k, beadrollref13_Is.l0 (k + 1) l ((i + 1 : Nat) : Int) = (rcO k (rdR l (i : Nat)) (rdR l ((i + 1 : Nat) : Int))).bind fun t => if t = -1 then beadrollref13_Is.l0 k l ((i + 1 + 1 : Nat) : Int) else some false := fun k => by
        simp only [beadrollref13_Is.l0, e0, e1]
        rw [if_pos (by omega), if_pos (by omega), if_pos (by omega), if_pos (by omega)]
        rfl
      refine Ev.step hs ?_
      rw [rdR_get l i (by omega), rdR_get l (i + 1) hi]
      refine Ev.bind (ev_rcmp _ _ (hl _ (List.getElem_mem _)) (hl _ (List.getElem_mem _))) ?_
      rw [drop_two l i hi, chain, ← List.drop_eq_getElem_cons hi]
      by_cases hc : cmpRR l[i] l[i + 1] = -1
      · rw [decide_eq_true (by omega), Bool.true_and]
        simp only [hc, if_true]
        exact ih (i + 1) (by omega)
      · have := ordRR.vals l[i] l[i + 1]
        rw [decide_eq_false (by omega), Bool.false_and]
        simp only [hc, if_false]
        exact Ev.now _
    · refine Ev.step (f := fun _ => some true) (fun k => by simp only [beadrollref13_Is.l0]; rw [if_neg (by omega)]) ?_
      have : (l.drop i).length ≤ 1 := by rw [List.length_drop]; omega
      have e : chain cmpRR (l.drop i) = true := by
        match h : l.drop i, this with
        | [], _ => rfl
        | [_], _ => rfl
        | _ :: _ :: _, h' => simp at h'
      rw [e]
      exact Ev.now _
theorem ev_ris (l : List RR) (hl : ∀ y ∈ l, fine y) (hn : l.length ≤ 1000000) : Ev (fun k => beadrollref13_Is.f k l) (chain cmpRR l) := by
  have h := ris_loop l hl hn l.length 0 (by omega)
  rw [List.drop_zero] at h
  exact h
def rightsB (l : List RR) : Bool := l.all (fun y => decide (y.f4.size ≤ 2000) && rightRR y) && decide (l.length ≤ 30)
theorem rights_loop (l : List RR) (hn : l.length ≤ 9223372036854775807) : ∀ (d i : Nat), l.length ≤ i + d → i ≤ l.length → Ev (fun k => beadrollref13_Rights.l0 k l (i : Int)) ((l.drop i).all (fun y => decide (y.f4.size ≤ 2000) && rightRR y) && decide (l.length ≤ 30)) := by
  have hend : ∀ i : Nat, l.length ≤ i → Ev (fun k => beadrollref13_Rights.l0 k l (i : Int)) ((l.drop i).all (fun y => decide (y.f4.size ≤ 2000) && rightRR y) && decide (l.length ≤ 30)) := by
    intro i hd
    have e : decide ((l.length : Int) ≤ 30) = decide (l.length ≤ 30) := by
      by_cases h : l.length ≤ 30
      · rw [decide_eq_true h, decide_eq_true (by omega)]
      · rw [decide_eq_false h, decide_eq_false (by omega)]
    refine Ev.step (f := fun _ => some (decide (l.length ≤ 30))) (fun k => by simp only [beadrollref13_Rights.l0]; rw [if_neg (by omega), e]) ?_
    rw [List.drop_of_length_le (by omega), List.all_nil, Bool.true_and]
    exact Ev.now _
  intro d
  induction d with
  | zero => exact fun i hd _ => hend i (by omega)
  | succ d ih =>
    intro i hd hi0
    by_cases hi : i < l.length
    · have e1 : wrap64 ((i : Int) + 1) = ((i + 1 : Nat) : Int) := by unfold wrap64; omega
      have hs : ∀ k, beadrollref13_Rights.l0 (k + 1) l (i : Int) = if ((rdR l (i : Nat)).f4.size : Int) > 2000 then some false else (beadrollref11_Right.f k (rdR l (i : Nat)).f0 (rdR l (i : Nat)).f1 (rdR l (i : Nat)).f2 (rdR l (i : Nat)).f3 (rdR l (i : Nat)).f4).bind fun t => if t = true then beadrollref13_Rights.l0 k l ((i + 1 : Nat) : Int) else some false := fun k => by
        simp only [beadrollref13_Rights.l0, e1]
        rw [if_pos (by omega), if_pos (by omega)]
      refine Ev.step hs ?_
      rw [rdR_get l i hi, List.drop_eq_getElem_cons hi, List.all_cons]
      by_cases hz : (l[i].f4.size : Int) > 2000
      · rw [decide_eq_false (show ¬ l[i].f4.size ≤ 2000 by omega)]
        simp only [hz, if_true, Bool.false_and]
        exact Ev.now _
      · rw [decide_eq_true (show l[i].f4.size ≤ 2000 by omega)]
        simp only [hz, if_false, Bool.true_and]
        refine Ev.bind (ev_rright l[i]) ?_
        cases hr : rightRR l[i]
        · simp only [Bool.false_eq_true, if_false, Bool.false_and]
          exact Ev.now _
        · simp only [if_true, Bool.true_and]
          exact ih (i + 1) (by omega) (by omega)
    · exact hend i (by omega)
theorem ev_rights (l : List RR) (hn : l.length ≤ 9223372036854775807) : Ev (fun k => beadrollref13_Rights.f k l) (rightsB l) := by
  have h := rights_loop l hn l.length 0 (by omega) (by omega)
  rw [List.drop_zero] at h
  exact h
theorem rights_fine {l : List RR} (h : rightsB l = true) : (∀ y ∈ l, fine y) ∧ l.length ≤ 30 ∧ ∀ y ∈ l, rightRR y = true := by
  unfold rightsB at h
  simp only [Bool.and_eq_true, List.all_eq_true, decide_eq_true_eq] at h
  exact ⟨fun y hy => rightRR_fine (h.1 y hy).2, h.2, fun y hy => (h.1 y hy).2⟩
theorem eqR_iff (x y : RR) : eqR x y = true ↔ x = y := by
  obtain ⟨a0, a1, a2, a3, a4⟩ := x
  obtain ⟨b0, b1, b2, b3, b4⟩ := y
  unfold eqR
  simp only [Bool.and_eq_true, beq_iff_eq, toList_inj]
  constructor
  · rintro ⟨rfl, rfl, rfl, rfl, rfl⟩; rfl
  · intro h; injection h with h0 h1 h2 h3 h4; exact ⟨h0, h1, h2, h3, h4⟩
theorem neR_eq (x y : RR) : (!(x.f0.toList == y.f0.toList) || (!(x.f1 == y.f1) || (!(x.f2 == y.f2) || (!(x.f3 == y.f3) || (!(x.f4.toList == y.f4.toList)))))) = !eqR x y := by
  unfold eqR
  simp only [Bool.not_and]
theorem same_loop (l m : List RR) (hlm : l.length = m.length) (hn : l.length ≤ 9223372036854775807) : ∀ (d i : Nat), l.length ≤ i + d → i ≤ l.length → ∃ b, Ev (fun k => beadrollref11_Same.l0 k l m (i : Int)) b ∧ (b = true ↔ l.drop i = m.drop i) := by
  have hend : ∀ i : Nat, l.length ≤ i → ∃ b, Ev (fun k => beadrollref11_Same.l0 k l m (i : Int)) b ∧ (b = true ↔ l.drop i = m.drop i) := by
    intro i hd
    refine ⟨true, Ev.step (f := fun _ => some true) (fun k => by simp only [beadrollref11_Same.l0]; rw [if_neg (by omega)]) (Ev.now _), ?_⟩
    rw [List.drop_of_length_le (by omega), List.drop_of_length_le (by omega)]
    simp
  intro d
  induction d with
  | zero => exact fun i hd _ => hend i (by omega)
  | succ d ih =>
    intro i hd hi0
    by_cases hi : i < l.length
    · have him : i < m.length := by omega
      have e1 : wrap64 ((i : Int) + 1) = ((i + 1 : Nat) : Int) := by unfold wrap64; omega
      have hs : ∀ k, beadrollref11_Same.l0 (k + 1) l m (i : Int) = if (!eqR l[i] m[i]) = true then some false else beadrollref11_Same.l0 k l m ((i + 1 : Nat) : Int) := fun k => by
        simp only [beadrollref11_Same.l0, e1]
        rw [if_pos (by omega), if_pos (by omega), if_pos (by omega)]
        have hq := neR_eq (rdR l (i : Nat)) (rdR m (i : Nat))
        rw [show (!((rdR l (i : Nat)).f0.toList == (rdR m (i : Nat)).f0.toList) || _) = _ from hq, rdR_get l i hi, rdR_get m i him]
      obtain ⟨b, hb, hiff⟩ := ih (i + 1) (by omega) (by omega)
      rw [List.drop_eq_getElem_cons hi, List.drop_eq_getElem_cons him]
      cases he : eqR l[i] m[i]
      · refine ⟨false, Ev.step hs ?_, ?_⟩
        · simp only [he, Bool.not_false, if_true]
          exact Ev.now _
        · have : ¬ l[i] = m[i] := fun e => by rw [(eqR_iff _ _).mpr e] at he; cases he
          exact ⟨fun e => Bool.noConfusion e, fun e => absurd (List.cons.inj e).1 this⟩
      · refine ⟨b, Ev.step hs ?_, ?_⟩
        · simp only [he, Bool.not_true, Bool.false_eq_true, if_false]
          exact hb
        · rw [(eqR_iff _ _).mp he, hiff]
          exact ⟨fun e => by rw [e], fun e => (List.cons.inj e).2⟩
    · exact hend i (by omega)
open Classical in
theorem ev_same (l m : List RR) (hn : l.length ≤ 9223372036854775807) : Ev (fun k => beadrollref11_Same.f k l m) (decide (l = m)) := by
  unfold beadrollref11_Same.f
  by_cases h : l.length = m.length
  · obtain ⟨b, hb, hiff⟩ := same_loop l m h hn l.length 0 (by omega) (by omega)
    have e : b = decide (l = m) := by
      rw [List.drop_zero, List.drop_zero] at hiff
      by_cases hlm : l = m
      · rw [decide_eq_true hlm]; exact hiff.mpr hlm
      · rw [decide_eq_false hlm]; cases b; rfl; exact absurd (hiff.mp rfl) hlm
    rw [← e]
    simp only [show ((l.length : Int) = (m.length : Int)) from by omega, if_true]
    exact hb
  · have hlm : ¬ l = m := fun e => h (by rw [e])
    rw [decide_eq_false hlm]
    simp only [show ¬ ((l.length : Int) = (m.length : Int)) from by omega, if_false]
    exact Ev.now _
end Go.Proofs.Ytnpiglojamhpiaa.Rrs
namespace Go.Proofs.Ytnpiglojamhpiaa.SetLaw
set_option linter.unusedVariables false
theorem put_split {α : Type} {c : α → α → Int} (O : POrd c) : ∀ (a b : List α) (x : α), (∀ y ∈ a, c y x < 0) → put c (a ++ b) x = a ++ put c b x
  | [], b, x, _ => rfl
  | y :: a, b, x, h => by
    have h1 := h y (List.mem_cons_self ..)
    have h2 := O.flip y x
    rw [List.cons_append, put, if_neg (by omega), if_neg (by omega), put_split O a b x (fun z hz => h z (List.mem_cons_of_mem _ hz)), List.cons_append]
theorem drop_split {α : Type} {c : α → α → Int} (O : POrd c) (a b : List α) (x : α) (h : ∀ y ∈ a, c y x < 0) : drop c (a ++ b) x = a ++ drop c b x := by
  unfold drop
  rw [List.filter_append]
  congr 1
  rw [List.filter_eq_self]
  intro y hy
  have h1 := h y hy
  have h2 := O.flip y x
  rw [decide_eq_false (by omega)]; rfl
theorem drop_head {α : Type} {c : α → α → Int} (O : POrd c) {y : α} {b : List α} {x : α} (hs : IsSet c (y :: b)) (h : c y x = 0) : drop c (y :: b) x = b := by
  have h' := O.symm h
  unfold drop
  rw [List.filter_cons, decide_eq_true h']
  simp only [Bool.not_true, Bool.false_eq_true, if_false]
  rw [List.filter_eq_self]
  intro z hz
  have := O.lt_of_eq_of_lt h' ((List.pairwise_cons.mp hs).1 z hz)
  rw [decide_eq_false (by omega)]; rfl
end Go.Proofs.Ytnpiglojamhpiaa.SetLaw
namespace Go.Proofs.Ytnpiglojamhpiaa.Rrs
open Go.RowKit Go.Proofs.YtnpiglojamhpiaaW.PrintWords Go.Proofs.YtnpiglojamhpiaaW.PrintLast Go.Proofs.YtnpiglojamhpiaaW.PrintMore Go.Proofs.Ytnpiglojamhpiaa.Given Go.Proofs.Ytnpiglojamhpiaa.PRd Go.Proofs.Ytnpiglojamhpiaa.PRr Go.Proofs.Ytnpiglojamhpiaa.Oct Go.Proofs.Ytnpiglojamhpiaa.Name Go.Proofs.Ytnpiglojamhpiaa.Cmp Go.Proofs.Ytnpiglojamhpiaa.NameFacts Go.Proofs.Ytnpiglojamhpiaa.RdataFacts Go.Proofs.Ytnpiglojamhpiaa.SetLaw
set_option linter.unusedVariables false
structure SetOf (l : List RR) : Prop where
  all : ∀ y ∈ l, fine y
  len : l.length ≤ 1000000
  set : IsSet cmpRR l
theorem SetOf.splits {l : List RR} (h : SetOf l) {x : RR} (hx : fine x) : Splits l x := splits_set l x h.all hx h.len h.set
section
variable {l : List RR} {x : RR} (h : SetOf l) (hx : fine x)
include h hx
theorem place_lo : ∀ y ∈ l.take (place l x), cmpRR y x < 0 := by
  intro y hy
  obtain ⟨i, hi, rfl⟩ := List.getElem_of_mem hy
  have hi1 : i < place l x := by rw [List.length_take] at hi; omega
  have hil : i < l.length := by rw [List.length_take] at hi; omega
  have h1 := (h.splits hx).lo i hi1
  rw [rdR_get l i hil, cmpC_fine (h.all _ (List.getElem_mem _)) hx] at h1
  rw [List.getElem_take]; exact h1
theorem place_at (hp : place l x < l.length) : 0 ≤ cmpRR l[place l x] x := by
  have h1 := (h.splits hx).hi (place l x) (Nat.le_refl _) hp
  rw [rdR_get l _ hp, cmpC_fine (h.all _ (List.getElem_mem _)) hx] at h1
  exact h1
theorem hit_is : hit l x = true ↔ ∃ hp : place l x < l.length, cmpRR l[place l x] x = 0 := by
  unfold hit
  by_cases hp : place l x < l.length
  · rw [decide_eq_true hp, Bool.true_and, rdR_get l _ hp, cmpC_fine (h.all _ (List.getElem_mem _)) hx, beq_iff_eq]
    exact ⟨fun e => ⟨hp, e⟩, fun ⟨_, e⟩ => e⟩
  · rw [decide_eq_false hp, Bool.false_and]
    exact ⟨fun e => by simp at e, fun ⟨e, _⟩ => absurd e hp⟩
omit hx in
theorem tail_set (hp : place l x < l.length) : IsSet cmpRR (l[place l x] :: l.drop (place l x + 1)) := by
  rw [← List.drop_eq_getElem_cons hp]
  exact h.set.sublist (List.drop_sublist _ _)
theorem putS_eq : putS l x = put cmpRR l x := by
  have e := put_split ordRR (l.take (place l x)) (l.drop (place l x)) x (place_lo h hx)
  rw [List.take_append_drop] at e
  rw [e]
  unfold putS
  by_cases hh : hit l x = true
  · rw [if_pos hh]
    obtain ⟨hp, h0⟩ := (hit_is h hx).mp hh
    have h1 := ordRR.flip l[place l x] x
    rw [List.drop_eq_getElem_cons hp, put, if_neg (by omega), if_pos (by omega), List.set_eq_take_append_cons_drop, if_pos hp]
  · rw [if_neg hh]
    by_cases hp : place l x < l.length
    · have h1 := place_at h hx hp
      have h2 : ¬ cmpRR l[place l x] x = 0 := fun e => hh ((hit_is h hx).mpr ⟨hp, e⟩)
      have h3 := ordRR.flip l[place l x] x
      rw [List.drop_eq_getElem_cons hp, put, if_pos (by omega)]
    · rw [List.drop_of_length_le (by omega), put]
theorem dropS_eq : dropS l x = drop cmpRR l x := by
  have e := drop_split ordRR (l.take (place l x)) (l.drop (place l x)) x (place_lo h hx)
  rw [List.take_append_drop] at e
  unfold dropS
  by_cases hh : hit l x = true
  · rw [if_pos hh, e]
    obtain ⟨hp, h0⟩ := (hit_is h hx).mp hh
    rw [List.drop_eq_getElem_cons hp, drop_head ordRR (tail_set h hp) h0, List.eraseIdx_eq_take_drop_succ]
  · rw [if_neg hh]
    refine (drop_none (find_none.mpr fun y hy => ?_)).symm
    have hf := ordRR.flip y x
    rw [← List.take_append_drop (place l x) l] at hy
    rcases List.mem_append.mp hy with hy | hy
    · have := place_lo h hx y hy; omega
    · by_cases hp : place l x < l.length
      · have h1 := place_at h hx hp
        have h2 : ¬ cmpRR l[place l x] x = 0 := fun e => hh ((hit_is h hx).mpr ⟨hp, e⟩)
        have h3 := ordRR.flip l[place l x] x
        rw [List.drop_eq_getElem_cons hp] at hy
        rcases List.mem_cons.mp hy with rfl | hy
        · omega
        · have h4 := (List.pairwise_cons.mp (tail_set h hp)).1 y hy
          have := ordRR.trans x _ y (by omega) h4
          omega
      · rw [List.drop_of_length_le (by omega)] at hy; cases hy
theorem find_hit : find cmpRR l x = if hit l x = true then some (rdR l (place l x : Nat)) else none := by
  by_cases hh : hit l x = true
  · rw [if_pos hh]
    obtain ⟨hp, h0⟩ := (hit_is h hx).mp hh
    rw [rdR_get l _ hp]
    exact find_of_mem ordRR h.set (List.getElem_mem _) (ordRR.symm h0)
  · rw [if_neg hh]
    have e := dropS_eq h hx
    unfold dropS at e
    rw [if_neg hh] at e
    rw [find_none]
    intro y hy h0
    rw [e] at hy
    unfold drop at hy
    have := (List.mem_filter.mp hy).2
    rw [decide_eq_true h0] at this
    cases this
theorem SetOf.put (hn : l.length < 1000000) : SetOf (SetLaw.put cmpRR l x) where
  all y hy := by
    rcases mem_put hy with rfl | hy
    · exact hx
    · exact h.all y hy
  len := by
    have h1 := put_length ordRR h.set x
    have h2 : (drop cmpRR l x).length ≤ l.length := by unfold drop; exact List.length_filter_le _ _
    omega
  set := put_set ordRR h.set x
omit hx in
theorem SetOf.drop : SetOf (SetLaw.drop cmpRR l x) where
  all y hy := h.all y (by unfold SetLaw.drop at hy; exact (List.mem_filter.mp hy).1)
  len := Nat.le_trans (by unfold SetLaw.drop; exact List.length_filter_le _ _) h.len
  set := drop_set h.set x
theorem at_f : rrset_at.f l x.f0 x.f1 x.f2 x.f3 x.f4 = some (((place l x : Nat) : Int), hit l x) := by
  unfold rrset_at.f
  rw [if_pos (h.splits hx)]
theorem put_f : rrset_Put.f l x.f0 x.f1 x.f2 x.f3 x.f4 = some (SetLaw.put cmpRR l x, putB l x) := by
  unfold rrset_Put.f
  rw [if_pos (h.splits hx)]
  show some (putS l x, putB l x) = _
  rw [putS_eq h hx]
theorem drop_f : rrset_Drop.f l x.f0 x.f1 x.f2 x.f3 x.f4 = some (SetLaw.drop cmpRR l x, (find cmpRR l x).isSome) := by
  unfold rrset_Drop.f
  rw [if_pos (h.splits hx)]
  show some (dropS l x, hit l x) = _
  rw [dropS_eq h hx, find_hit h hx]
  cases hit l x <;> rfl
theorem putB_is : putB l x = true ↔ ¬ SetLaw.put cmpRR l x = l := by
  have e := find_hit h hx
  unfold putB
  by_cases hh : hit l x = true
  · rw [if_pos hh, Bool.not_eq_true']
    rw [if_pos hh] at e
    obtain ⟨hm, h0⟩ := find_mem e
    constructor
    · intro h1 h2
      have h3 : find cmpRR (SetLaw.put cmpRR l x) x = some x := by rw [find_put ordRR h.set, if_pos (ordRR.refl x)]
      rw [h2, e] at h3
      rw [Option.some.inj h3, (eqR_iff x x).mpr rfl] at h1
      cases h1
    · intro h1
      cases hq : eqR (rdR l (place l x : Nat)) x
      · rfl
      · rw [(eqR_iff _ _).mp hq] at hm
        exact absurd (put_same ordRR h.set hm) h1
  · rw [if_neg hh]
    rw [if_neg hh] at e
    refine ⟨fun _ h2 => ?_, fun _ => rfl⟩
    have h3 : find cmpRR (SetLaw.put cmpRR l x) x = some x := by rw [find_put ordRR h.set, if_pos (ordRR.refl x)]
    rw [h2, e] at h3
    cases h3
end
end Go.Proofs.Ytnpiglojamhpiaa.Rrs
namespace Go.Proofs.Ytnpiglojamhpiaa.RowStructs
open Go.RowKit Go.ChangeShapes Go.WideShapes Go.Deep Go.Proofs.YtnpiglojamhpiaaW.PrintWords
set_option linter.unusedVariables false
section
variable {H : Type} {enc : TypeId × Value → H} {P : Program} {W : World} {base : Nat} {spare : Nat → Bool} {held : Bool}
theorem fields_of {e : TypeId} {fs : Array Field} {fuel : Nat} {cs : List Value} {x : DataW H × List MemPlace} (he : P.underlying e = some (.struct fs)) (hone : oneCellFields P fs = true) (hC : P.cellsOf e = fs.size)
    (h : DataW.trod enc P W base spare held fuel e cs = some x) : cs.length = fs.size ∧ ∃ n, ∀ (j : Nat) (f : Field), fs[j]? = some f → ∃ v y, cs[j]? = some v ∧ DataW.trod enc P W base spare held n f.type [v] = some y := by
  obtain ⟨ys, n, _, _, hl, hyl, hf⟩ := DataW.trod_struct he h
  refine ⟨hl.trans hC, n, fun j f hj => ?_⟩
  obtain ⟨ho, hk⟩ := hone_of hone j f hj
  have hjl : j < fs.size := (Array.getElem?_eq_some_iff.1 hj).1
  have hcl : j < cs.length := by omega
  have hyj : j < ys.length := by omega
  have h1 := hf j f hj
  rw [ho, hk, List.drop_eq_getElem_cons hcl, List.take_succ_cons, List.take_zero] at h1
  exact ⟨cs[j], ys[j], List.getElem?_eq_getElem hcl, h1.trans (List.getElem?_eq_getElem hyj)⟩
theorem list_of {S : Type} (n : Nat) (R : Nat → S → Prop) (h : ∀ i, i < n → ∃ s, R i s) : ∃ l : List S, l.length = n ∧ ∀ i s, l[i]? = some s → R i s := by
  induction n with
  | zero => exact ⟨[], rfl, fun i s hs => by simp at hs⟩
  | succ n ih =>
    obtain ⟨l, hl, hr⟩ := ih fun i hi => h i (by omega)
    obtain ⟨s, hs⟩ := h n (by omega)
    refine ⟨l ++ [s], by simp [hl], fun i t ht => ?_⟩
    by_cases hi : i < n
    · rw [List.getElem?_append_left (by omega)] at ht; exact hr i t ht
    · rw [List.getElem?_append_right (by omega)] at ht
      by_cases e : i = n
      · subst e; rw [hl, Nat.sub_self] at ht; simp at ht; subst ht; exact hs
      · rw [List.getElem?_eq_none (by simp; omega)] at ht; cases ht
theorem structs_of {S : Type} (k : Kd S) (good : S → Prop) {t e : TypeId} {a : Option Addr} {len cap : Nat} {d : DataW H} {ps : List MemPlace} (hu : P.underlying t = some (.slice e)) (hC : P.cellsOf e = k.sz) (hpos : 0 < k.sz)
    (open1 : ∀ fuel cs x, DataW.trod enc P W base spare held fuel e cs = some x → ∃ s, k.K W s cs ∧ good s) (h : DataW.Trod enc P W base spare held t (.slice a len cap) d ps) :
    ∃ l : List S, len = l.length ∧ Kd.C k W a l.length l ∧ l.length ≤ cap ∧ l.length ≤ maxLen ∧ ∀ s ∈ l, good s := by
  obtain ⟨fuel, hf⟩ := h
  rcases open_slice hu hf with ⟨hcs, _⟩ | ⟨x, l, c, m, n, D, Pl, hcs, _, hl, hm, hmm, _, hi⟩
  · simp [Value.cells] at hcs
    obtain ⟨rfl, rfl, rfl⟩ := hcs
    exact ⟨[], rfl, Kd.C_nil _ _, Nat.le_refl _, Nat.zero_le _, by simp⟩
  · simp [Value.cells] at hcs
    obtain ⟨rfl, rfl, rfl⟩ := hcs
    have hlm : len ≤ m := by rw [hmm]; split <;> omega
    obtain ⟨L, hL, hR⟩ := list_of len (fun i s => good s ∧ ∃ cs', k.K W s cs' ∧ cs'.length = k.sz ∧ ∀ j u, cs'[j]? = some u → W.cell? (x.add (i * k.sz + j)) = some u) (fun i hi' => by
      obtain ⟨cs', hc, ht⟩ := hi i (by omega)
      obtain ⟨s, hs, hg⟩ := open1 _ _ _ ht
      rw [hC] at hc
      obtain ⟨_, hcl, hat⟩ := World.cells?_some hc
      refine ⟨s, hg, cs', hs, hcl, fun j u hj => ?_⟩
      have hjl : j < k.sz := by rw [← hcl]; exact (List.getElem?_eq_some_iff.1 hj).1
      have := hat j hjl
      rw [← Go.Deep.add_add]; rw [this]; exact hj)
    refine ⟨L, hL.symm, ⟨rfl, by unfold maxLen at hm; omega, fun _ => ⟨x, rfl, fun j p hp => ?_⟩⟩, by omega, by omega, fun s hs => ?_⟩
    · obtain ⟨_, c, h1, h2, h3⟩ := hR j p hp
      exact ⟨c, h2, h1, h3⟩
    · obtain ⟨i, hi', he⟩ := List.getElem_of_mem hs
      exact (hR i s (by rw [List.getElem?_eq_getElem hi', he])).1
end
end Go.Proofs.Ytnpiglojamhpiaa.RowStructs
namespace Go.Proofs.Ytnpiglojamhpiaa.RowStructs
open Go.RowKit Go.ChangeShapes Go.WideShapes Go.Deep Go.Proofs.YtnpiglojamhpiaaW.PrintWords Go.Proofs.Ytnpiglojamhpiaa.PRd Go.Proofs.Ytnpiglojamhpiaa.PRr
set_option linter.unusedVariables false
structure GoodRR (s : S24) : Prop where
  n0 : s.f0.size ≤ maxLen
  n4 : s.f4.size ≤ maxLen
  i1 : (Lit.int .i64 s.f1).wf = true
  i2 : (Lit.int .i64 s.f2).wf = true
  i3 : (Lit.int .i64 s.f3).wf = true
section
variable {H : Type} {enc : TypeId × Value → H} {W : World} {base : Nat} {spare : Nat → Bool} {held : Bool}
theorem rr_of {fuel : Nat} {cs : List Value} {x : DataW H × List MemPlace} (h : DataW.trod enc Try.prog W base spare held fuel 24 cs = some x) : ∃ s : S24, cs = [.string s.f0, .int .i64 s.f1, .int .i64 s.f2, .int .i64 s.f3, .string s.f4] ∧ GoodRR s := by
  obtain ⟨hl, n, hf⟩ := fields_of Try.underlying24 (by kernel_rfl) (by kernel_rfl) h
  obtain ⟨v0, y0, c0, h0⟩ := hf 0 _ rfl
  obtain ⟨v1, y1, c1, h1⟩ := hf 1 _ rfl
  obtain ⟨v2, y2, c2, h2⟩ := hf 2 _ rfl
  obtain ⟨v3, y3, c3, h3⟩ := hf 3 _ rfl
  obtain ⟨v4, y4, c4, h4⟩ := hf 4 _ rfl
  obtain ⟨s, e0, _, g0⟩ := DataW.trod_string Try.underlying9 h0
  obtain ⟨a, e1, _, g1⟩ := DataW.trod_int Try.underlying3 h1
  obtain ⟨b, e2, _, g2⟩ := DataW.trod_int Try.underlying3 h2
  obtain ⟨c, e3, _, g3⟩ := DataW.trod_int Try.underlying3 h3
  obtain ⟨d, e4, _, g4⟩ := DataW.trod_string Try.underlying9 h4
  obtain rfl : v0 = .string s := by simpa using e0
  obtain rfl : v1 = .int .i64 a := by simpa using e1
  obtain rfl : v2 = .int .i64 b := by simpa using e2
  obtain rfl : v3 = .int .i64 c := by simpa using e3
  obtain rfl : v4 = .string d := by simpa using e4
  have : cs = [.string s, .int .i64 a, .int .i64 b, .int .i64 c, .string d] := by
    match cs, hl with
    | [p, q, r, t, u], _ => simp at c0 c1 c2 c3 c4; rw [c0, c1, c2, c3, c4]
  exact ⟨⟨s, a, b, c, d⟩, this, ⟨g0, g4, g1, g2, g3⟩⟩
theorem of_T24 {t : TypeId} {a : Option Addr} {len cap : Nat} {d : DataW H} {ps : List MemPlace} (hu : Try.prog.underlying t = some (.slice 24)) (h : DataW.Trod enc Try.prog W base spare held t (.slice a len cap) d ps) :
    ∃ l : List S24, len = l.length ∧ Kd.C k24 W a l.length l ∧ l.length ≤ cap ∧ l.length ≤ maxLen ∧ ∀ s ∈ l, GoodRR s :=
  structs_of k24 GoodRR hu (by kernel_rfl) (by decide) (fun _ _ _ h => by
    obtain ⟨s, rfl, hg⟩ := rr_of h
    exact ⟨s, k24_mk W s, hg⟩) h
set_option maxRecDepth 100000 in
theorem by_T24 {r : Reach} {b0 : Nat} {v : Value} {d : DataW H} {ps : List MemPlace} (hv : Value.okWide Try.prog W r b0 24 v) (h : DataW.Trod enc Try.prog W base spare held 24 v d ps) :
    ∃ s : S24, v = .agg #[.string s.f0, .int .i64 s.f1, .int .i64 s.f2, .int .i64 s.f3, .string s.f4] ∧ GoodRR s := by
  obtain ⟨cs, rfl, _⟩ := okWide_struct Try.underlying24 hv
  obtain ⟨fuel, hf⟩ := h
  obtain ⟨s, e, hg⟩ := rr_of hf
  refine ⟨s, ?_, hg⟩
  congr 1
  have e' : cs.toList = [.string s.f0, .int .i64 s.f1, .int .i64 s.f2, .int .i64 s.f3, .string s.f4] := by simpa [Value.cells] using e
  rw [← Array.toArray_toList (xs := cs), e']
end
end Go.Proofs.Ytnpiglojamhpiaa.RowStructs
namespace Go.Proofs.Ytnpiglojamhpiaa.PRs
open Go.RowKit Go.Proofs.YtnpiglojamhpiaaW.PrintWords Go.Proofs.YtnpiglojamhpiaaW.PrintLast Go.Proofs.YtnpiglojamhpiaaW.PrintMore Go.Proofs.Ytnpiglojamhpiaa.Given Go.Proofs.Ytnpiglojamhpiaa.PRd Go.Proofs.Ytnpiglojamhpiaa.PRr
attribute [local go_sem] max2_int min2_int max_two min_two max_three min_three max_four min_four   -- for this text's walks alone
set_option linter.unusedVariables false
set_option linter.unusedSimpArgs false
def errW : Option Int → Value
 | none => .nilIface
 | some c => .iface 0 (.int .i64 c)
theorem errW_none : errW none = .nilIface := rfl
theorem errW_some (c : Int) : errW (some c) = .iface 0 (.int .i64 c) := rfl
end Go.Proofs.Ytnpiglojamhpiaa.PRs
namespace Go.Proofs.Ytnpiglojamhpiaa.PRs
open Go.RowKit Go.Proofs.YtnpiglojamhpiaaW.PrintWords Go.Proofs.YtnpiglojamhpiaaW.PrintLast Go.Proofs.YtnpiglojamhpiaaW.PrintMore Go.Proofs.Ytnpiglojamhpiaa.Given Go.Proofs.Ytnpiglojamhpiaa.PRd Go.Proofs.Ytnpiglojamhpiaa.PRr
attribute [local go_sem] max2_int min2_int max_two min_two max_three min_three max_four min_four   -- for this text's walks alone
set_option linter.unusedVariables false
set_option linter.unusedSimpArgs false
theorem eqA24 (d : Nat) (w : World) (x0 y0 : ByteArray) (x1 y1 : Int) (x2 y2 : Int) (x3 y3 : Int) (x4 y4 : ByteArray) :
  (Op.equalIn (d + 2) 24 (.agg #[.string x0, .int .i64 x1, .int .i64 x2, .int .i64 x3, .string x4]) (.agg #[.string y0, .int .i64 y1, .int .i64 y2, .int .i64 y3, .string y4])).run Try.prog w = .ok (x0.toList == y0.toList && (x1 == y1 && (x2 == y2 && (x3 == y3 && (x4.toList == y4.toList))))) w := by
 refine eqA_of Try.underlying24 (by kernel_rfl) ?_
 refine eqf_cons (by rfl) (by go_simp; rfl) (by go_simp; rfl) (by go_simp) ?_
 refine eqf_cons (by rfl) (by go_simp; rfl) (by go_simp; rfl) (by go_simp) ?_
 refine eqf_cons (by rfl) (by go_simp; rfl) (by go_simp; rfl) (by go_simp) ?_
 refine eqf_cons (by rfl) (by go_simp; rfl) (by go_simp; rfl) (by go_simp) ?_
 exact eqf_last (by rfl) (by go_simp; rfl) (by go_simp; rfl) (by go_simp)
end Go.Proofs.Ytnpiglojamhpiaa.PRs
namespace Go.Proofs.Ytnpiglojamhpiaa.PRs
open Go.RowKit Go.Proofs.YtnpiglojamhpiaaW.PrintWords Go.Proofs.YtnpiglojamhpiaaW.PrintLast Go.Proofs.YtnpiglojamhpiaaW.PrintMore Go.Proofs.Ytnpiglojamhpiaa.Given Go.Proofs.Ytnpiglojamhpiaa.PRd Go.Proofs.Ytnpiglojamhpiaa.PRr
attribute [local go_sem] max2_int min2_int max_two min_two max_three min_three max_four min_four   -- for this text's walks alone
set_option linter.unusedVariables false
set_option linter.unusedSimpArgs false
attribute [local go_sem high] eqA24
noncomputable def beadrolllaw13_awake.f  : Option (Bool) := (rrset_Put.f ([] : List (S24)) (⟨#[1, 97, 0]⟩ : ByteArray) 1 1 0 (⟨#[97, 98, 99, 100]⟩ : ByteArray)).bind fun bt102 => (if bt102.2 = true then (if (bt102.1.length : Int) = 1 then (if 0 < (bt102.1.length : Int) then (some ((((rd_T24 bt102.1 0).f0).toList) == ([1, 97, 0] : List UInt8) && (((rd_T24 bt102.1 0).f1) == 1 && (((rd_T24 bt102.1 0).f2) == 1 && (((rd_T24 bt102.1 0).f3) == 0 && ((((rd_T24 bt102.1 0).f4).toList) == ([97, 98, 99, 100] : List UInt8))))))) else (none)) else (none)) else (none))
set_option maxHeartbeats 8000000 in
set_option maxRecDepth 100000 in
theorem beadrolllaw13_awake.calls  (r : Bool) (w : World) (h : beadrolllaw13_awake.f  = some r) :
  Calls Try.prog 5 #[] w fun e w' => e = .returned (.bool r) ∧ Below w.heap.size w w' := by
 have hu24 := Try.underlying24
 have HB := Aside0.mk (Below.refl w.heap.size w)
 have H : ((rrset_Put.f ([] : List (S24)) (⟨#[1, 97, 0]⟩ : ByteArray) 1 1 0 (⟨#[97, 98, 99, 100]⟩ : ByteArray)).bind fun bt102 => (if bt102.2 = true then (if (bt102.1.length : Int) = 1 then (if 0 < (bt102.1.length : Int) then (some ((((rd_T24 bt102.1 0).f0).toList) == ([1, 97, 0] : List UInt8) && (((rd_T24 bt102.1 0).f1) == 1 && (((rd_T24 bt102.1 0).f2) == 1 && (((rd_T24 bt102.1 0).f3) == 0 && ((((rd_T24 bt102.1 0).f4).toList) == ([97, 98, 99, 100] : List UInt8))))))) else (none)) else (none)) else (none))) = some r := h
 clear h
 replace H := Option.bind_eq_some_iff.mp H
 obtain ⟨⟨t102, t105⟩, A10, H⟩ := H
 replace H : (if t105 = true then (if (t102.length : Int) = 1 then (if 0 < (t102.length : Int) then (some ((((rd_T24 t102 0).f0).toList) == ([1, 97, 0] : List UInt8) && (((rd_T24 t102 0).f1) == 1 && (((rd_T24 t102 0).f2) == 1 && (((rd_T24 t102 0).f3) == 0 && ((((rd_T24 t102 0).f4).toList) == ([97, 98, 99, 100] : List UInt8))))))) else (none)) else (none)) else (none)) = some r := H
 have A1 := Aside0.mk A10
 clear A10
 by_cases c2 : t105 = true
 ·subst c2
  have H1 : (if (t102.length : Int) = 1 then (if 0 < (t102.length : Int) then (some ((((rd_T24 t102 0).f0).toList) == ([1, 97, 0] : List UInt8) && (((rd_T24 t102 0).f1) == 1 && (((rd_T24 t102 0).f2) == 1 && (((rd_T24 t102 0).f3) == 0 && ((((rd_T24 t102 0).f4).toList) == ([97, 98, 99, 100] : List UInt8))))))) else (none)) else (none)) = some r := by rw [if_pos rfl] at H; exact H
  clear H
  have H := H1
  clear H1
  by_cases c3 : (t102.length : Int) = 1
  ·rw [if_pos c3] at H
   have c3b0 : ((t102.length : Int) == 1) = true := beq_iff_eq.mpr c3
   have c3b1 : ((t102.length : Int) != 1) = false := bne_eq_false_iff_eq.mpr c3
   clear c3
   by_cases c4 : 0 < (t102.length : Int)
   ·rw [if_pos c4] at H
    have c4b0 : decide (0 < (t102.length : Int)) = true := decide_eq_true c4
    have c4b1 : decide (0 < t102.length) = true := decide_eq_true (by omega)
    clear c4
    obtain rfl := Option.some.inj H
    go_enter Try.func5, Try.ntmps5
    go_wp2_with (first | ((with_reducible refine gate_dst (N := 1) rfl ?_); (try (refine gate_guard (by rfl) ?_; dsimp only)); refine box_event ?hg (N := 1) ?hd (cs := #[.string (⟨#[]⟩ : ByteArray), .int .i64 0, .int .i64 0, .int .i64 0, .string (⟨#[]⟩ : ByteArray)]) (t := 24) ?hr ?_; (case hd => rfl); (case hg => rfl); (case hr => first | (go_simp; done) | (go_simp; rfl)); intro gb101 hg w5 hbox hb; have n0_ := Aside0.mk (below_step (by repeat (first | (with_reducible first | exact HB.out | apply below_alloc | apply pw_below_drewN | apply below_drew1) | exact HB.out)) hb); have n1_ := Aside0.mk (hbox); have n2_ := Aside0.mk ((by rw [hg]; exact (below_size (by repeat (first | (with_reducible first | exact HB.out | apply below_alloc | apply pw_below_drewN | apply below_drew1) | exact HB.out))) : w.heap.size ≤ gb101)); have n3_ := Aside0.mk ((by rw [hg]; exact (below_size (by repeat (first | (with_reducible first | exact HB.out | apply below_alloc | apply pw_below_drewN | apply below_drew1) | exact HB.out))) : w.heap.size ≤ gb101)); clear HB; have HB := n0_; have BK101 := n1_; have GW101 := n2_; have GE101 := n3_; clear n0_ n1_ n2_ n3_; clear hb hbox hg; have hcz6_0 : w5.cell? ⟨gb101, 0, none⟩ = some (.string (⟨#[]⟩ : ByteArray)) := (blk_cell BK101.out 0).trans rfl; have hcz6_1 : w5.cell? ⟨gb101, 1, none⟩ = some (.int .i64 0) := (blk_cell BK101.out 1).trans rfl; have hcz6_2 : w5.cell? ⟨gb101, 2, none⟩ = some (.int .i64 0) := (blk_cell BK101.out 2).trans rfl; have hcz6_3 : w5.cell? ⟨gb101, 3, none⟩ = some (.int .i64 0) := (blk_cell BK101.out 3).trans rfl; have hcz6_4 : w5.cell? ⟨gb101, 4, none⟩ = some (.string (⟨#[]⟩ : ByteArray)) := (blk_cell BK101.out 4).trans rfl; have hfz6_0 := blk_frozen BK101.out 0; have hfz6_1 := blk_frozen BK101.out 1; have hfz6_2 := blk_frozen BK101.out 2; have hfz6_3 := blk_frozen BK101.out 3; have hfz6_4 := blk_frozen BK101.out 4) | (go_at_call 8; (refine (rrset_Put.calls _ _ ([] : List (S24)) (⟨#[1, 97, 0]⟩ : ByteArray) 1 1 0 (⟨#[97, 98, 99, 100]⟩ : ByteArray) t102 true _ ?side1 ?side2 A1.out).mono ?_); (case side1 => exact Kd.C_nil _ _); (case side2 => exact Nat.le_refl _); rintro e w7 ⟨v103, rfl, ho0, hb⟩; have n0_ := Aside0.mk (Kd.R_lower (Kd.R_newB ho0 (g := gb101) (o := .cells #[.string (⟨#[1, 97, 0]⟩ : ByteArray), .int .i64 1, .int .i64 1, .int .i64 0, .string (⟨#[97, 98, 99, 100]⟩ : ByteArray)] 24 (0, 0)) (by (with_reducible repeat (first | refine blk_drewN ?_ _ | refine blk_drew ?_ | refine blk_alloc ?_ _)); refine blk_put (cs := #[.string (⟨#[1, 97, 0]⟩ : ByteArray), .int .i64 1, .int .i64 1, .int .i64 0, .string (⟨#[]⟩ : ByteArray)]) ?_ 4 _ rfl; (with_reducible repeat (first | refine blk_drewN ?_ _ | refine blk_drew ?_ | refine blk_alloc ?_ _)); refine blk_put (cs := #[.string (⟨#[1, 97, 0]⟩ : ByteArray), .int .i64 1, .int .i64 1, .int .i64 0, .string (⟨#[]⟩ : ByteArray)]) ?_ 3 _ rfl; (with_reducible repeat (first | refine blk_drewN ?_ _ | refine blk_drew ?_ | refine blk_alloc ?_ _)); refine blk_put (cs := #[.string (⟨#[1, 97, 0]⟩ : ByteArray), .int .i64 1, .int .i64 0, .int .i64 0, .string (⟨#[]⟩ : ByteArray)]) ?_ 2 _ rfl; (with_reducible repeat (first | refine blk_drewN ?_ _ | refine blk_drew ?_ | refine blk_alloc ?_ _)); refine blk_put (cs := #[.string (⟨#[1, 97, 0]⟩ : ByteArray), .int .i64 0, .int .i64 0, .int .i64 0, .string (⟨#[]⟩ : ByteArray)]) ?_ 1 _ rfl; (with_reducible repeat (first | refine blk_drewN ?_ _ | refine blk_drew ?_ | refine blk_alloc ?_ _)); refine blk_put (cs := #[.string (⟨#[]⟩ : ByteArray), .int .i64 0, .int .i64 0, .int .i64 0, .string (⟨#[]⟩ : ByteArray)]) ?_ 0 _ rfl; (with_reducible repeat (first | refine blk_drewN ?_ _ | refine blk_drew ?_ | refine blk_alloc ?_ _)); exact BK101.out)) (below_size (by repeat (first | (with_reducible first | exact HB.out | apply below_alloc | apply pw_below_drewN | apply below_drew1 | refine below_set ?_ GE101.out) | exact HB.out)))); have n1_ := Aside0.mk (blk_below (g := gb101) (o := .cells #[.string (⟨#[1, 97, 0]⟩ : ByteArray), .int .i64 1, .int .i64 1, .int .i64 0, .string (⟨#[97, 98, 99, 100]⟩ : ByteArray)] 24 (0, 0)) (by (with_reducible repeat (first | refine blk_drewN ?_ _ | refine blk_drew ?_ | refine blk_alloc ?_ _)); refine blk_put (cs := #[.string (⟨#[1, 97, 0]⟩ : ByteArray), .int .i64 1, .int .i64 1, .int .i64 0, .string (⟨#[]⟩ : ByteArray)]) ?_ 4 _ rfl; (with_reducible repeat (first | refine blk_drewN ?_ _ | refine blk_drew ?_ | refine blk_alloc ?_ _)); refine blk_put (cs := #[.string (⟨#[1, 97, 0]⟩ : ByteArray), .int .i64 1, .int .i64 1, .int .i64 0, .string (⟨#[]⟩ : ByteArray)]) ?_ 3 _ rfl; (with_reducible repeat (first | refine blk_drewN ?_ _ | refine blk_drew ?_ | refine blk_alloc ?_ _)); refine blk_put (cs := #[.string (⟨#[1, 97, 0]⟩ : ByteArray), .int .i64 1, .int .i64 0, .int .i64 0, .string (⟨#[]⟩ : ByteArray)]) ?_ 2 _ rfl; (with_reducible repeat (first | refine blk_drewN ?_ _ | refine blk_drew ?_ | refine blk_alloc ?_ _)); refine blk_put (cs := #[.string (⟨#[1, 97, 0]⟩ : ByteArray), .int .i64 0, .int .i64 0, .int .i64 0, .string (⟨#[]⟩ : ByteArray)]) ?_ 1 _ rfl; (with_reducible repeat (first | refine blk_drewN ?_ _ | refine blk_drew ?_ | refine blk_alloc ?_ _)); refine blk_put (cs := #[.string (⟨#[]⟩ : ByteArray), .int .i64 0, .int .i64 0, .int .i64 0, .string (⟨#[]⟩ : ByteArray)]) ?_ 0 _ rfl; (with_reducible repeat (first | refine blk_drewN ?_ _ | refine blk_drew ?_ | refine blk_alloc ?_ _)); exact BK101.out) hb); have n2_ := Aside0.mk (below_step (by repeat (first | (with_reducible first | exact HB.out | apply below_alloc | apply pw_below_drewN | apply below_drew1 | refine below_set ?_ GE101.out) | exact HB.out)) hb); clear BK101; clear HB; have HO104 := n0_; have BK101 := n1_; have HB := n2_; clear n0_ n1_ n2_; (try clear hb); (try clear hb2); (try clear hk); (try clear hi); (try clear ho0); obtain ⟨Ao8, co8, eo8⟩ := Kd.R_slice HO104.out; subst eo8; have p106 : 0 ≤ (0 : Int) := (by omega); have q106 : 0 < (t102.length : Int) := of_decide_eq_true (by first | (with_reducible assumption) | assumption); obtain ⟨ad106, e106, hx106_0, hx106_1, hx106_2, hx106_3, hx106_4⟩ := at_T24 (Kd.R_reads' HO104.out).2.2 0 p106 q106; cases e106; have qi106 : (0 < t102.length) = True := eq_true (by omega); (try rw [show ((0 : Int)).toNat = 0 from rfl] at hx106_0); (try rw [show 0 * 5 = 0 from rfl] at hx106_0); (try rw [Addr.add_zero'] at hx106_0); (try rw [show ((0 : Int)).toNat = 0 from rfl] at hx106_1); (try rw [show 0 * 5 = 0 from rfl] at hx106_1); (try rw [Addr.add_zero'] at hx106_1); (try rw [show ((0 : Int)).toNat = 0 from rfl] at hx106_2); (try rw [show 0 * 5 = 0 from rfl] at hx106_2); (try rw [Addr.add_zero'] at hx106_2); (try rw [show ((0 : Int)).toNat = 0 from rfl] at hx106_3); (try rw [show 0 * 5 = 0 from rfl] at hx106_3); (try rw [Addr.add_zero'] at hx106_3); (try rw [show ((0 : Int)).toNat = 0 from rfl] at hx106_4); (try rw [show 0 * 5 = 0 from rfl] at hx106_4); (try rw [Addr.add_zero'] at hx106_4); replace p106 := eq_true p106; replace q106 := eq_true q106; have hcz9_0 : w7.cell? ⟨gb101, 0, none⟩ = some (.string (⟨#[1, 97, 0]⟩ : ByteArray)) := (blk_cell BK101.out 0).trans rfl; have hcz9_1 : w7.cell? ⟨gb101, 1, none⟩ = some (.int .i64 1) := (blk_cell BK101.out 1).trans rfl; have hcz9_2 : w7.cell? ⟨gb101, 2, none⟩ = some (.int .i64 1) := (blk_cell BK101.out 2).trans rfl; have hcz9_3 : w7.cell? ⟨gb101, 3, none⟩ = some (.int .i64 0) := (blk_cell BK101.out 3).trans rfl; have hcz9_4 : w7.cell? ⟨gb101, 4, none⟩ = some (.string (⟨#[97, 98, 99, 100]⟩ : ByteArray)) := (blk_cell BK101.out 4).trans rfl; have hfz9_0 := blk_frozen BK101.out 0; have hfz9_1 := blk_frozen BK101.out 1; have hfz9_2 := blk_frozen BK101.out 2; have hfz9_3 := blk_frozen BK101.out 3; have hfz9_4 := blk_frozen BK101.out 4))
    repeat (go_quiet (first | ((with_reducible refine gate_dst (N := 1) rfl ?_); (try (refine gate_guard (by rfl) ?_; dsimp only)); refine box_event ?hg (N := 1) ?hd (cs := #[.string (⟨#[]⟩ : ByteArray), .int .i64 0, .int .i64 0, .int .i64 0, .string (⟨#[]⟩ : ByteArray)]) (t := 24) ?hr ?_; (case hd => rfl); (case hg => rfl); (case hr => first | (go_simp; done) | (go_simp; rfl)); intro gb101 hg w5 hbox hb; have n0_ := Aside0.mk (below_step (by repeat (first | (with_reducible first | exact HB.out | apply below_alloc | apply pw_below_drewN | apply below_drew1) | exact HB.out)) hb); have n1_ := Aside0.mk (hbox); have n2_ := Aside0.mk ((by rw [hg]; exact (below_size (by repeat (first | (with_reducible first | exact HB.out | apply below_alloc | apply pw_below_drewN | apply below_drew1) | exact HB.out))) : w.heap.size ≤ gb101)); have n3_ := Aside0.mk ((by rw [hg]; exact (below_size (by repeat (first | (with_reducible first | exact HB.out | apply below_alloc | apply pw_below_drewN | apply below_drew1) | exact HB.out))) : w.heap.size ≤ gb101)); clear HB; have HB := n0_; have BK101 := n1_; have GW101 := n2_; have GE101 := n3_; clear n0_ n1_ n2_ n3_; clear hb hbox hg; have hcz6_0 : w5.cell? ⟨gb101, 0, none⟩ = some (.string (⟨#[]⟩ : ByteArray)) := (blk_cell BK101.out 0).trans rfl; have hcz6_1 : w5.cell? ⟨gb101, 1, none⟩ = some (.int .i64 0) := (blk_cell BK101.out 1).trans rfl; have hcz6_2 : w5.cell? ⟨gb101, 2, none⟩ = some (.int .i64 0) := (blk_cell BK101.out 2).trans rfl; have hcz6_3 : w5.cell? ⟨gb101, 3, none⟩ = some (.int .i64 0) := (blk_cell BK101.out 3).trans rfl; have hcz6_4 : w5.cell? ⟨gb101, 4, none⟩ = some (.string (⟨#[]⟩ : ByteArray)) := (blk_cell BK101.out 4).trans rfl; have hfz6_0 := blk_frozen BK101.out 0; have hfz6_1 := blk_frozen BK101.out 1; have hfz6_2 := blk_frozen BK101.out 2; have hfz6_3 := blk_frozen BK101.out 3; have hfz6_4 := blk_frozen BK101.out 4) | (go_at_call 8; (refine (rrset_Put.calls _ _ ([] : List (S24)) (⟨#[1, 97, 0]⟩ : ByteArray) 1 1 0 (⟨#[97, 98, 99, 100]⟩ : ByteArray) t102 true _ ?side1 ?side2 A1.out).mono ?_); (case side1 => exact Kd.C_nil _ _); (case side2 => exact Nat.le_refl _); rintro e w7 ⟨v103, rfl, ho0, hb⟩; have n0_ := Aside0.mk (Kd.R_lower (Kd.R_newB ho0 (g := gb101) (o := .cells #[.string (⟨#[1, 97, 0]⟩ : ByteArray), .int .i64 1, .int .i64 1, .int .i64 0, .string (⟨#[97, 98, 99, 100]⟩ : ByteArray)] 24 (0, 0)) (by (with_reducible repeat (first | refine blk_drewN ?_ _ | refine blk_drew ?_ | refine blk_alloc ?_ _)); refine blk_put (cs := #[.string (⟨#[1, 97, 0]⟩ : ByteArray), .int .i64 1, .int .i64 1, .int .i64 0, .string (⟨#[]⟩ : ByteArray)]) ?_ 4 _ rfl; (with_reducible repeat (first | refine blk_drewN ?_ _ | refine blk_drew ?_ | refine blk_alloc ?_ _)); refine blk_put (cs := #[.string (⟨#[1, 97, 0]⟩ : ByteArray), .int .i64 1, .int .i64 1, .int .i64 0, .string (⟨#[]⟩ : ByteArray)]) ?_ 3 _ rfl; (with_reducible repeat (first | refine blk_drewN ?_ _ | refine blk_drew ?_ | refine blk_alloc ?_ _)); refine blk_put (cs := #[.string (⟨#[1, 97, 0]⟩ : ByteArray), .int .i64 1, .int .i64 0, .int .i64 0, .string (⟨#[]⟩ : ByteArray)]) ?_ 2 _ rfl; (with_reducible repeat (first | refine blk_drewN ?_ _ | refine blk_drew ?_ | refine blk_alloc ?_ _)); refine blk_put (cs := #[.string (⟨#[1, 97, 0]⟩ : ByteArray), .int .i64 0, .int .i64 0, .int .i64 0, .string (⟨#[]⟩ : ByteArray)]) ?_ 1 _ rfl; (with_reducible repeat (first | refine blk_drewN ?_ _ | refine blk_drew ?_ | refine blk_alloc ?_ _)); refine blk_put (cs := #[.string (⟨#[]⟩ : ByteArray), .int .i64 0, .int .i64 0, .int .i64 0, .string (⟨#[]⟩ : ByteArray)]) ?_ 0 _ rfl; (with_reducible repeat (first | refine blk_drewN ?_ _ | refine blk_drew ?_ | refine blk_alloc ?_ _)); exact BK101.out)) (below_size (by repeat (first | (with_reducible first | exact HB.out | apply below_alloc | apply pw_below_drewN | apply below_drew1 | refine below_set ?_ GE101.out) | exact HB.out)))); have n1_ := Aside0.mk (blk_below (g := gb101) (o := .cells #[.string (⟨#[1, 97, 0]⟩ : ByteArray), .int .i64 1, .int .i64 1, .int .i64 0, .string (⟨#[97, 98, 99, 100]⟩ : ByteArray)] 24 (0, 0)) (by (with_reducible repeat (first | refine blk_drewN ?_ _ | refine blk_drew ?_ | refine blk_alloc ?_ _)); refine blk_put (cs := #[.string (⟨#[1, 97, 0]⟩ : ByteArray), .int .i64 1, .int .i64 1, .int .i64 0, .string (⟨#[]⟩ : ByteArray)]) ?_ 4 _ rfl; (with_reducible repeat (first | refine blk_drewN ?_ _ | refine blk_drew ?_ | refine blk_alloc ?_ _)); refine blk_put (cs := #[.string (⟨#[1, 97, 0]⟩ : ByteArray), .int .i64 1, .int .i64 1, .int .i64 0, .string (⟨#[]⟩ : ByteArray)]) ?_ 3 _ rfl; (with_reducible repeat (first | refine blk_drewN ?_ _ | refine blk_drew ?_ | refine blk_alloc ?_ _)); refine blk_put (cs := #[.string (⟨#[1, 97, 0]⟩ : ByteArray), .int .i64 1, .int .i64 0, .int .i64 0, .string (⟨#[]⟩ : ByteArray)]) ?_ 2 _ rfl; (with_reducible repeat (first | refine blk_drewN ?_ _ | refine blk_drew ?_ | refine blk_alloc ?_ _)); refine blk_put (cs := #[.string (⟨#[1, 97, 0]⟩ : ByteArray), .int .i64 0, .int .i64 0, .int .i64 0, .string (⟨#[]⟩ : ByteArray)]) ?_ 1 _ rfl; (with_reducible repeat (first | refine blk_drewN ?_ _ | refine blk_drew ?_ | refine blk_alloc ?_ _)); refine blk_put (cs := #[.string (⟨#[]⟩ : ByteArray), .int .i64 0, .int .i64 0, .int .i64 0, .string (⟨#[]⟩ : ByteArray)]) ?_ 0 _ rfl; (with_reducible repeat (first | refine blk_drewN ?_ _ | refine blk_drew ?_ | refine blk_alloc ?_ _)); exact BK101.out) hb); have n2_ := Aside0.mk (below_step (by repeat (first | (with_reducible first | exact HB.out | apply below_alloc | apply pw_below_drewN | apply below_drew1 | refine below_set ?_ GE101.out) | exact HB.out)) hb); clear BK101; clear HB; have HO104 := n0_; have BK101 := n1_; have HB := n2_; clear n0_ n1_ n2_; (try clear hb); (try clear hb2); (try clear hk); (try clear hi); (try clear ho0); obtain ⟨Ao8, co8, eo8⟩ := Kd.R_slice HO104.out; subst eo8; have p106 : 0 ≤ (0 : Int) := (by omega); have q106 : 0 < (t102.length : Int) := of_decide_eq_true (by first | (with_reducible assumption) | assumption); obtain ⟨ad106, e106, hx106_0, hx106_1, hx106_2, hx106_3, hx106_4⟩ := at_T24 (Kd.R_reads' HO104.out).2.2 0 p106 q106; cases e106; have qi106 : (0 < t102.length) = True := eq_true (by omega); (try rw [show ((0 : Int)).toNat = 0 from rfl] at hx106_0); (try rw [show 0 * 5 = 0 from rfl] at hx106_0); (try rw [Addr.add_zero'] at hx106_0); (try rw [show ((0 : Int)).toNat = 0 from rfl] at hx106_1); (try rw [show 0 * 5 = 0 from rfl] at hx106_1); (try rw [Addr.add_zero'] at hx106_1); (try rw [show ((0 : Int)).toNat = 0 from rfl] at hx106_2); (try rw [show 0 * 5 = 0 from rfl] at hx106_2); (try rw [Addr.add_zero'] at hx106_2); (try rw [show ((0 : Int)).toNat = 0 from rfl] at hx106_3); (try rw [show 0 * 5 = 0 from rfl] at hx106_3); (try rw [Addr.add_zero'] at hx106_3); (try rw [show ((0 : Int)).toNat = 0 from rfl] at hx106_4); (try rw [show 0 * 5 = 0 from rfl] at hx106_4); (try rw [Addr.add_zero'] at hx106_4); replace p106 := eq_true p106; replace q106 := eq_true q106; have hcz9_0 : w7.cell? ⟨gb101, 0, none⟩ = some (.string (⟨#[1, 97, 0]⟩ : ByteArray)) := (blk_cell BK101.out 0).trans rfl; have hcz9_1 : w7.cell? ⟨gb101, 1, none⟩ = some (.int .i64 1) := (blk_cell BK101.out 1).trans rfl; have hcz9_2 : w7.cell? ⟨gb101, 2, none⟩ = some (.int .i64 1) := (blk_cell BK101.out 2).trans rfl; have hcz9_3 : w7.cell? ⟨gb101, 3, none⟩ = some (.int .i64 0) := (blk_cell BK101.out 3).trans rfl; have hcz9_4 : w7.cell? ⟨gb101, 4, none⟩ = some (.string (⟨#[97, 98, 99, 100]⟩ : ByteArray)) := (blk_cell BK101.out 4).trans rfl; have hfz9_0 := blk_frozen BK101.out 0; have hfz9_1 := blk_frozen BK101.out 1; have hfz9_2 := blk_frozen BK101.out 2; have hfz9_3 := blk_frozen BK101.out 3; have hfz9_4 := blk_frozen BK101.out 4)); try go_wp2_with (first | ((with_reducible refine gate_dst (N := 1) rfl ?_); (try (refine gate_guard (by rfl) ?_; dsimp only)); refine box_event ?hg (N := 1) ?hd (cs := #[.string (⟨#[]⟩ : ByteArray), .int .i64 0, .int .i64 0, .int .i64 0, .string (⟨#[]⟩ : ByteArray)]) (t := 24) ?hr ?_; (case hd => rfl); (case hg => rfl); (case hr => first | (go_simp; done) | (go_simp; rfl)); intro gb101 hg w5 hbox hb; have n0_ := Aside0.mk (below_step (by repeat (first | (with_reducible first | exact HB.out | apply below_alloc | apply pw_below_drewN | apply below_drew1) | exact HB.out)) hb); have n1_ := Aside0.mk (hbox); have n2_ := Aside0.mk ((by rw [hg]; exact (below_size (by repeat (first | (with_reducible first | exact HB.out | apply below_alloc | apply pw_below_drewN | apply below_drew1) | exact HB.out))) : w.heap.size ≤ gb101)); have n3_ := Aside0.mk ((by rw [hg]; exact (below_size (by repeat (first | (with_reducible first | exact HB.out | apply below_alloc | apply pw_below_drewN | apply below_drew1) | exact HB.out))) : w.heap.size ≤ gb101)); clear HB; have HB := n0_; have BK101 := n1_; have GW101 := n2_; have GE101 := n3_; clear n0_ n1_ n2_ n3_; clear hb hbox hg; have hcz6_0 : w5.cell? ⟨gb101, 0, none⟩ = some (.string (⟨#[]⟩ : ByteArray)) := (blk_cell BK101.out 0).trans rfl; have hcz6_1 : w5.cell? ⟨gb101, 1, none⟩ = some (.int .i64 0) := (blk_cell BK101.out 1).trans rfl; have hcz6_2 : w5.cell? ⟨gb101, 2, none⟩ = some (.int .i64 0) := (blk_cell BK101.out 2).trans rfl; have hcz6_3 : w5.cell? ⟨gb101, 3, none⟩ = some (.int .i64 0) := (blk_cell BK101.out 3).trans rfl; have hcz6_4 : w5.cell? ⟨gb101, 4, none⟩ = some (.string (⟨#[]⟩ : ByteArray)) := (blk_cell BK101.out 4).trans rfl; have hfz6_0 := blk_frozen BK101.out 0; have hfz6_1 := blk_frozen BK101.out 1; have hfz6_2 := blk_frozen BK101.out 2; have hfz6_3 := blk_frozen BK101.out 3; have hfz6_4 := blk_frozen BK101.out 4) | (go_at_call 8; (refine (rrset_Put.calls _ _ ([] : List (S24)) (⟨#[1, 97, 0]⟩ : ByteArray) 1 1 0 (⟨#[97, 98, 99, 100]⟩ : ByteArray) t102 true _ ?side1 ?side2 A1.out).mono ?_); (case side1 => exact Kd.C_nil _ _); (case side2 => exact Nat.le_refl _); rintro e w7 ⟨v103, rfl, ho0, hb⟩; have n0_ := Aside0.mk (Kd.R_lower (Kd.R_newB ho0 (g := gb101) (o := .cells #[.string (⟨#[1, 97, 0]⟩ : ByteArray), .int .i64 1, .int .i64 1, .int .i64 0, .string (⟨#[97, 98, 99, 100]⟩ : ByteArray)] 24 (0, 0)) (by (with_reducible repeat (first | refine blk_drewN ?_ _ | refine blk_drew ?_ | refine blk_alloc ?_ _)); refine blk_put (cs := #[.string (⟨#[1, 97, 0]⟩ : ByteArray), .int .i64 1, .int .i64 1, .int .i64 0, .string (⟨#[]⟩ : ByteArray)]) ?_ 4 _ rfl; (with_reducible repeat (first | refine blk_drewN ?_ _ | refine blk_drew ?_ | refine blk_alloc ?_ _)); refine blk_put (cs := #[.string (⟨#[1, 97, 0]⟩ : ByteArray), .int .i64 1, .int .i64 1, .int .i64 0, .string (⟨#[]⟩ : ByteArray)]) ?_ 3 _ rfl; (with_reducible repeat (first | refine blk_drewN ?_ _ | refine blk_drew ?_ | refine blk_alloc ?_ _)); refine blk_put (cs := #[.string (⟨#[1, 97, 0]⟩ : ByteArray), .int .i64 1, .int .i64 0, .int .i64 0, .string (⟨#[]⟩ : ByteArray)]) ?_ 2 _ rfl; (with_reducible repeat (first | refine blk_drewN ?_ _ | refine blk_drew ?_ | refine blk_alloc ?_ _)); refine blk_put (cs := #[.string (⟨#[1, 97, 0]⟩ : ByteArray), .int .i64 0, .int .i64 0, .int .i64 0, .string (⟨#[]⟩ : ByteArray)]) ?_ 1 _ rfl; (with_reducible repeat (first | refine blk_drewN ?_ _ | refine blk_drew ?_ | refine blk_alloc ?_ _)); refine blk_put (cs := #[.string (⟨#[]⟩ : ByteArray), .int .i64 0, .int .i64 0, .int .i64 0, .string (⟨#[]⟩ : ByteArray)]) ?_ 0 _ rfl; (with_reducible repeat (first | refine blk_drewN ?_ _ | refine blk_drew ?_ | refine blk_alloc ?_ _)); exact BK101.out)) (below_size (by repeat (first | (with_reducible first | exact HB.out | apply below_alloc | apply pw_below_drewN | apply below_drew1 | refine below_set ?_ GE101.out) | exact HB.out)))); have n1_ := Aside0.mk (blk_below (g := gb101) (o := .cells #[.string (⟨#[1, 97, 0]⟩ : ByteArray), .int .i64 1, .int .i64 1, .int .i64 0, .string (⟨#[97, 98, 99, 100]⟩ : ByteArray)] 24 (0, 0)) (by (with_reducible repeat (first | refine blk_drewN ?_ _ | refine blk_drew ?_ | refine blk_alloc ?_ _)); refine blk_put (cs := #[.string (⟨#[1, 97, 0]⟩ : ByteArray), .int .i64 1, .int .i64 1, .int .i64 0, .string (⟨#[]⟩ : ByteArray)]) ?_ 4 _ rfl; (with_reducible repeat (first | refine blk_drewN ?_ _ | refine blk_drew ?_ | refine blk_alloc ?_ _)); refine blk_put (cs := #[.string (⟨#[1, 97, 0]⟩ : ByteArray), .int .i64 1, .int .i64 1, .int .i64 0, .string (⟨#[]⟩ : ByteArray)]) ?_ 3 _ rfl; (with_reducible repeat (first | refine blk_drewN ?_ _ | refine blk_drew ?_ | refine blk_alloc ?_ _)); refine blk_put (cs := #[.string (⟨#[1, 97, 0]⟩ : ByteArray), .int .i64 1, .int .i64 0, .int .i64 0, .string (⟨#[]⟩ : ByteArray)]) ?_ 2 _ rfl; (with_reducible repeat (first | refine blk_drewN ?_ _ | refine blk_drew ?_ | refine blk_alloc ?_ _)); refine blk_put (cs := #[.string (⟨#[1, 97, 0]⟩ : ByteArray), .int .i64 0, .int .i64 0, .int .i64 0, .string (⟨#[]⟩ : ByteArray)]) ?_ 1 _ rfl; (with_reducible repeat (first | refine blk_drewN ?_ _ | refine blk_drew ?_ | refine blk_alloc ?_ _)); refine blk_put (cs := #[.string (⟨#[]⟩ : ByteArray), .int .i64 0, .int .i64 0, .int .i64 0, .string (⟨#[]⟩ : ByteArray)]) ?_ 0 _ rfl; (with_reducible repeat (first | refine blk_drewN ?_ _ | refine blk_drew ?_ | refine blk_alloc ?_ _)); exact BK101.out) hb); have n2_ := Aside0.mk (below_step (by repeat (first | (with_reducible first | exact HB.out | apply below_alloc | apply pw_below_drewN | apply below_drew1 | refine below_set ?_ GE101.out) | exact HB.out)) hb); clear BK101; clear HB; have HO104 := n0_; have BK101 := n1_; have HB := n2_; clear n0_ n1_ n2_; (try clear hb); (try clear hb2); (try clear hk); (try clear hi); (try clear ho0); obtain ⟨Ao8, co8, eo8⟩ := Kd.R_slice HO104.out; subst eo8; have p106 : 0 ≤ (0 : Int) := (by omega); have q106 : 0 < (t102.length : Int) := of_decide_eq_true (by first | (with_reducible assumption) | assumption); obtain ⟨ad106, e106, hx106_0, hx106_1, hx106_2, hx106_3, hx106_4⟩ := at_T24 (Kd.R_reads' HO104.out).2.2 0 p106 q106; cases e106; have qi106 : (0 < t102.length) = True := eq_true (by omega); (try rw [show ((0 : Int)).toNat = 0 from rfl] at hx106_0); (try rw [show 0 * 5 = 0 from rfl] at hx106_0); (try rw [Addr.add_zero'] at hx106_0); (try rw [show ((0 : Int)).toNat = 0 from rfl] at hx106_1); (try rw [show 0 * 5 = 0 from rfl] at hx106_1); (try rw [Addr.add_zero'] at hx106_1); (try rw [show ((0 : Int)).toNat = 0 from rfl] at hx106_2); (try rw [show 0 * 5 = 0 from rfl] at hx106_2); (try rw [Addr.add_zero'] at hx106_2); (try rw [show ((0 : Int)).toNat = 0 from rfl] at hx106_3); (try rw [show 0 * 5 = 0 from rfl] at hx106_3); (try rw [Addr.add_zero'] at hx106_3); (try rw [show ((0 : Int)).toNat = 0 from rfl] at hx106_4); (try rw [show 0 * 5 = 0 from rfl] at hx106_4); (try rw [Addr.add_zero'] at hx106_4); replace p106 := eq_true p106; replace q106 := eq_true q106; have hcz9_0 : w7.cell? ⟨gb101, 0, none⟩ = some (.string (⟨#[1, 97, 0]⟩ : ByteArray)) := (blk_cell BK101.out 0).trans rfl; have hcz9_1 : w7.cell? ⟨gb101, 1, none⟩ = some (.int .i64 1) := (blk_cell BK101.out 1).trans rfl; have hcz9_2 : w7.cell? ⟨gb101, 2, none⟩ = some (.int .i64 1) := (blk_cell BK101.out 2).trans rfl; have hcz9_3 : w7.cell? ⟨gb101, 3, none⟩ = some (.int .i64 0) := (blk_cell BK101.out 3).trans rfl; have hcz9_4 : w7.cell? ⟨gb101, 4, none⟩ = some (.string (⟨#[97, 98, 99, 100]⟩ : ByteArray)) := (blk_cell BK101.out 4).trans rfl; have hfz9_0 := blk_frozen BK101.out 0; have hfz9_1 := blk_frozen BK101.out 1; have hfz9_2 := blk_frozen BK101.out 2; have hfz9_3 := blk_frozen BK101.out 3; have hfz9_4 := blk_frozen BK101.out 4)))
    go_ret
    exact ⟨by first | rfl | (simp [errW_none, errW_some] <;> rfl) | (simp [*, errW_none, errW_some] <;> rfl), by repeat (first | (with_reducible first | exact HB.out | apply below_alloc | apply pw_below_drewN | apply below_drew1 | refine below_set ?_ GE101.out) | exact HB.out)⟩
   ·rw [if_neg c4] at H
    exact absurd H (by simp)
  ·rw [if_neg c3] at H
   exact absurd H (by simp)
 ·replace c2 := Bool.eq_false_iff.mpr c2
  subst c2
  have H1 : (none) = some r := by rw [if_neg (show ¬ (false = true) by decide)] at H; exact H
  clear H
  have H := H1
  clear H1
  exact absurd H (by simp)
noncomputable def rrset_Find.f (l0 : List (S24)) (a1_0 : ByteArray) (a1_1 : Int) (a1_2 : Int) (a1_3 : Int) (a1_4 : ByteArray) : Option (ByteArray × Int × Int × Int × ByteArray × Bool) := (rrset_at.f l0 a1_0 a1_1 a1_2 a1_3 a1_4).bind fun bt109 => (if bt109.2 = true then (if 0 ≤ bt109.1 then (if bt109.1 < (l0.length : Int) then (some ((rd_T24 l0 bt109.1).f0, (rd_T24 l0 bt109.1).f1, (rd_T24 l0 bt109.1).f2, (rd_T24 l0 bt109.1).f3, (rd_T24 l0 bt109.1).f4, true)) else (none)) else (none)) else (some ((⟨#[]⟩ : ByteArray), 0, 0, 0, (⟨#[]⟩ : ByteArray), false)))
set_option maxHeartbeats 8000000 in
set_option maxRecDepth 100000 in
theorem rrset_Find.calls (A0 : Option Addr) (c0 : Nat) (l0 : List (S24)) (a1_0 : ByteArray) (a1_1 : Int) (a1_2 : Int) (a1_3 : Int) (a1_4 : ByteArray) (r1 : ByteArray) (r2 : Int) (r3 : Int) (r4 : Int) (r5 : ByteArray) (r6 : Bool) (w : World) (hr0 : Kd.C k24 w A0 l0.length l0) (hc0 : l0.length ≤ c0) (h : rrset_Find.f l0 a1_0 a1_1 a1_2 a1_3 a1_4 = some (r1, r2, r3, r4, r5, r6)) :
  Calls Try.prog 10 #[.slice A0 l0.length c0, .agg #[.string a1_0, .int .i64 a1_1, .int .i64 a1_2, .int .i64 a1_3, .string a1_4]] w fun e w' => e = .returned (.tuple #[.agg #[.string r1, .int .i64 r2, .int .i64 r3, .int .i64 r4, .string r5], .bool r6]) ∧ Below w.heap.size w w' := by
 have hu24 := Try.underlying24
 have HR0 := Aside0.mk hr0
 have HC0 := Aside0.mk hc0
 clear hr0 hc0
 have HB := Aside0.mk (Below.refl w.heap.size w)
 have H : ((rrset_at.f l0 a1_0 a1_1 a1_2 a1_3 a1_4).bind fun bt109 => (if bt109.2 = true then (if 0 ≤ bt109.1 then (if bt109.1 < (l0.length : Int) then (some ((rd_T24 l0 bt109.1).f0, (rd_T24 l0 bt109.1).f1, (rd_T24 l0 bt109.1).f2, (rd_T24 l0 bt109.1).f3, (rd_T24 l0 bt109.1).f4, true)) else (none)) else (none)) else (some ((⟨#[]⟩ : ByteArray), 0, 0, 0, (⟨#[]⟩ : ByteArray), false)))) = some (r1, r2, r3, r4, r5, r6) := h
 clear h
 replace H := Option.bind_eq_some_iff.mp H
 obtain ⟨⟨t109, t110⟩, A30, H⟩ := H
 replace H : (if t110 = true then (if 0 ≤ t109 then (if t109 < (l0.length : Int) then (some ((rd_T24 l0 t109).f0, (rd_T24 l0 t109).f1, (rd_T24 l0 t109).f2, (rd_T24 l0 t109).f3, (rd_T24 l0 t109).f4, true)) else (none)) else (none)) else (some ((⟨#[]⟩ : ByteArray), 0, 0, 0, (⟨#[]⟩ : ByteArray), false))) = some (r1, r2, r3, r4, r5, r6) := H
 have A3 := Aside0.mk A30
 clear A30
 by_cases c4 : t110 = true
 ·subst c4
  have H1 : (if 0 ≤ t109 then (if t109 < (l0.length : Int) then (some ((rd_T24 l0 t109).f0, (rd_T24 l0 t109).f1, (rd_T24 l0 t109).f2, (rd_T24 l0 t109).f3, (rd_T24 l0 t109).f4, true)) else (none)) else (none)) = some (r1, r2, r3, r4, r5, r6) := by rw [if_pos rfl] at H; exact H
  clear H
  have H := H1
  clear H1
  by_cases c5 : 0 ≤ t109
  ·rw [if_pos c5] at H
   have c5b0 : decide (0 ≤ t109) = true := decide_eq_true c5
   clear c5
   by_cases c6 : t109 < (l0.length : Int)
   ·rw [if_pos c6] at H
    have c6b0 : decide (t109 < (l0.length : Int)) = true := decide_eq_true c6
    clear c6
    simp only [Option.some.injEq, Prod.mk.injEq] at H
    obtain ⟨rfl, rfl, rfl, rfl, rfl, rfl⟩ := H
    go_enter Try.func10, Try.ntmps10
    go_wp2_with (first | ((with_reducible refine gate_dst (N := 3) rfl ?_); refine box_event ?hg (N := 3) ?hd (cs := #[.string a1_0, .int .i64 a1_1, .int .i64 a1_2, .int .i64 a1_3, .string a1_4]) (t := 24) ?hr ?_; (case hd => rfl); (case hg => rfl); (case hr => first | (go_simp; done) | (go_simp; rfl)); intro gb107 hg w7 hbox hb; have n0_ := Aside0.mk (below_step (by repeat (first | (with_reducible first | exact HB.out | apply below_alloc | apply pw_below_drewN | apply below_drew1) | exact HB.out)) hb); have n1_ := Aside0.mk (hbox); have n2_ := Aside0.mk ((by rw [hg]; exact (below_size (by repeat (first | (with_reducible first | exact HB.out | apply below_alloc | apply pw_below_drewN | apply below_drew1) | exact HB.out))) : w.heap.size ≤ gb107)); have n3_ := Aside0.mk ((by rw [hg]; exact (below_size (by repeat (first | (with_reducible first | exact HB.out | apply below_alloc | apply pw_below_drewN | apply below_drew1) | exact HB.out))) : w.heap.size ≤ gb107)); clear HB; have HB := n0_; have BK107 := n1_; have GW107 := n2_; have GE107 := n3_; clear n0_ n1_ n2_ n3_; clear hb hbox hg) | ((with_reducible refine gate_dst (N := 4) rfl ?_); refine box_event ?hg (N := 4) ?hd (cs := #[.string (⟨#[]⟩ : ByteArray), .int .i64 0, .int .i64 0, .int .i64 0, .string (⟨#[]⟩ : ByteArray)]) (t := 24) ?hr ?_; (case hd => rfl); (case hg => rfl); (case hr => first | (go_simp; done) | (go_simp; rfl)); intro gb108 hg w8 hbox hb; have n0_ := Aside0.mk (blk_below (g := gb107) (o := .cells #[.string a1_0, .int .i64 a1_1, .int .i64 a1_2, .int .i64 a1_3, .string a1_4] 24 (0, 0)) (by (with_reducible repeat (first | refine blk_drewN ?_ _ | refine blk_drew ?_ | refine blk_alloc ?_ _)); exact BK107.out) hb); have n1_ := Aside0.mk (below_step (by repeat (first | (with_reducible first | exact HB.out | apply below_alloc | apply pw_below_drewN | apply below_drew1 | refine below_set ?_ GE107.out) | exact HB.out)) hb); have n2_ := Aside0.mk (hbox); have n3_ := Aside0.mk ((by rw [hg]; exact (below_size (by repeat (first | (with_reducible first | exact HB.out | apply below_alloc | apply pw_below_drewN | apply below_drew1 | refine below_set ?_ GE107.out) | exact HB.out))) : w.heap.size ≤ gb108)); have n4_ := Aside0.mk ((by rw [hg]; exact (below_size (by repeat (first | (with_reducible first | exact HB.out | apply below_alloc | apply pw_below_drewN | apply below_drew1 | refine below_set ?_ GE107.out) | exact HB.out))) : w.heap.size ≤ gb108)); have n5_ := Aside0.mk ((by rw [hg]; exact Nat.ne_of_lt (blk_lt (g := gb107) (o := .cells #[.string a1_0, .int .i64 a1_1, .int .i64 a1_2, .int .i64 a1_3, .string a1_4] 24 (0, 0)) (by (with_reducible repeat (first | refine blk_drewN ?_ _ | refine blk_drew ?_ | refine blk_alloc ?_ _)); exact BK107.out)) : gb107 ≠ gb108)); have n6_ := Aside0.mk ((by rw [hg]; exact Nat.ne_of_gt (blk_lt (g := gb107) (o := .cells #[.string a1_0, .int .i64 a1_1, .int .i64 a1_2, .int .i64 a1_3, .string a1_4] 24 (0, 0)) (by (with_reducible repeat (first | refine blk_drewN ?_ _ | refine blk_drew ?_ | refine blk_alloc ?_ _)); exact BK107.out)) : gb108 ≠ gb107)); clear BK107; clear HB; have BK107 := n0_; have HB := n1_; have BK108 := n2_; have GW108 := n3_; have GE108 := n4_; have NB107_108 := n5_; have NB108_107 := n6_; clear n0_ n1_ n2_ n3_ n4_ n5_ n6_; clear hb hbox hg; have hnb9 := NB107_108.out; have hnc9 := NB108_107.out; have hcz10_0 : w8.cell? ⟨gb107, 0, none⟩ = some (.string a1_0) := (blk_cell BK107.out 0).trans rfl; have hcz10_1 : w8.cell? ⟨gb107, 1, none⟩ = some (.int .i64 a1_1) := (blk_cell BK107.out 1).trans rfl; have hcz10_2 : w8.cell? ⟨gb107, 2, none⟩ = some (.int .i64 a1_2) := (blk_cell BK107.out 2).trans rfl; have hcz10_3 : w8.cell? ⟨gb107, 3, none⟩ = some (.int .i64 a1_3) := (blk_cell BK107.out 3).trans rfl; have hcz10_4 : w8.cell? ⟨gb107, 4, none⟩ = some (.string a1_4) := (blk_cell BK107.out 4).trans rfl; have hfz10_0 := blk_frozen BK107.out 0; have hfz10_1 := blk_frozen BK107.out 1; have hfz10_2 := blk_frozen BK107.out 2; have hfz10_3 := blk_frozen BK107.out 3; have hfz10_4 := blk_frozen BK107.out 4) | ((with_reducible refine gate_callee (f := 19) rfl ?_); refine goesL_ (some 11) rfl rfl Try.func19 (by kernel_rfl) rfl #[.slice A0 l0.length c0, .agg #[.string a1_0, .int .i64 a1_1, .int .i64 a1_2, .int .i64 a1_3, .string a1_4]] rfl (by (try simp only [List.map_toArray, List.map_cons, List.map_nil]); first | done | rfl | (simp only [List.length_drop, List.length_take]; rfl)) ?_; (with_reducible refine (rrset_at.calls _ _ l0 a1_0 a1_1 a1_2 a1_3 a1_4 t109 true _ ?side1 ?side2 A3.out).mono ?_); (case side1 => repeat (first | exact (Kd.C_below HR0.out HB.out) | (with_reducible refine Kd.C_alloc ?_ _) | (with_reducible refine Kd.C_drewN ?_ _) | (with_reducible refine Kd.C_drew ?_))); (case side2 => exact HC0.out); rintro e w11 ⟨rfl, hb⟩; refine ⟨_, rfl, ?_⟩; have n0_ := Aside0.mk (blk_below (g := gb107) (o := .cells #[.string a1_0, .int .i64 a1_1, .int .i64 a1_2, .int .i64 a1_3, .string a1_4] 24 (0, 0)) (by (with_reducible repeat (first | refine blk_drewN ?_ _ | refine blk_drew ?_ | refine blk_alloc ?_ _)); exact BK107.out) hb); have n1_ := Aside0.mk (blk_below (g := gb108) (o := .cells #[.string (⟨#[]⟩ : ByteArray), .int .i64 0, .int .i64 0, .int .i64 0, .string (⟨#[]⟩ : ByteArray)] 24 (0, 0)) (by (with_reducible repeat (first | refine blk_drewN ?_ _ | refine blk_drew ?_ | refine blk_alloc ?_ _)); exact BK108.out) hb); have n2_ := Aside0.mk (below_step (by repeat (first | (with_reducible first | exact HB.out | apply below_alloc | apply pw_below_drewN | apply below_drew1 | refine below_set ?_ GE107.out | refine below_set ?_ GE108.out) | exact HB.out)) hb); clear BK107; clear BK108; clear HB; have BK107 := n0_; have BK108 := n1_; have HB := n2_; clear n0_ n1_ n2_; (try clear hb); (try clear hb2); (try clear hk); (try clear hi); have p111 : 0 ≤ (t109 : Int) := of_decide_eq_true (by first | (with_reducible assumption) | assumption); have q111 : t109 < (l0.length : Int) := of_decide_eq_true (by first | (with_reducible assumption) | assumption); obtain ⟨ad111, e111, hx111_0, hx111_1, hx111_2, hx111_3, hx111_4⟩ := at_T24 HR0.out t109 p111 q111; cases e111; replace hx111_0 := (HB.out.cell (World.block_lt_of_cell? w _ hx111_0)).trans hx111_0; replace hx111_1 := (HB.out.cell (World.block_lt_of_cell? w _ hx111_1)).trans hx111_1; replace hx111_2 := (HB.out.cell (World.block_lt_of_cell? w _ hx111_2)).trans hx111_2; replace hx111_3 := (HB.out.cell (World.block_lt_of_cell? w _ hx111_3)).trans hx111_3; replace hx111_4 := (HB.out.cell (World.block_lt_of_cell? w _ hx111_4)).trans hx111_4; replace p111 := eq_true p111; replace q111 := eq_true q111; have hcz12_0 : w11.cell? ⟨gb108, 0, none⟩ = some (.string (⟨#[]⟩ : ByteArray)) := (blk_cell BK108.out 0).trans rfl; have hcz12_1 : w11.cell? ⟨gb108, 1, none⟩ = some (.int .i64 0) := (blk_cell BK108.out 1).trans rfl; have hcz12_2 : w11.cell? ⟨gb108, 2, none⟩ = some (.int .i64 0) := (blk_cell BK108.out 2).trans rfl; have hcz12_3 : w11.cell? ⟨gb108, 3, none⟩ = some (.int .i64 0) := (blk_cell BK108.out 3).trans rfl; have hcz12_4 : w11.cell? ⟨gb108, 4, none⟩ = some (.string (⟨#[]⟩ : ByteArray)) := (blk_cell BK108.out 4).trans rfl; have hfz12_0 := blk_frozen BK108.out 0; have hfz12_1 := blk_frozen BK108.out 1; have hfz12_2 := blk_frozen BK108.out 2; have hfz12_3 := blk_frozen BK108.out 3; have hfz12_4 := blk_frozen BK108.out 4))
    refine bodyPost_ret (results_ct rfl _ _ gb108 24 #[.string ((rd_T24 l0 t109).f0), .int .i64 ((rd_T24 l0 t109).f1), .int .i64 ((rd_T24 l0 t109).f2), .int .i64 ((rd_T24 l0 t109).f3), .string ((rd_T24 l0 t109).f4)] (0, 0) _ rfl (by (with_reducible repeat (first | refine blk_drewN ?_ _ | refine blk_drew ?_ | refine blk_alloc ?_ _)); refine blk_put (cs := #[.string ((rd_T24 l0 t109).f0), .int .i64 ((rd_T24 l0 t109).f1), .int .i64 ((rd_T24 l0 t109).f2), .int .i64 ((rd_T24 l0 t109).f3), .string (⟨#[]⟩ : ByteArray)]) ?_ 4 _ rfl; (with_reducible repeat (first | refine blk_drewN ?_ _ | refine blk_drew ?_ | refine blk_alloc ?_ _)); refine blk_put (cs := #[.string ((rd_T24 l0 t109).f0), .int .i64 ((rd_T24 l0 t109).f1), .int .i64 ((rd_T24 l0 t109).f2), .int .i64 0, .string (⟨#[]⟩ : ByteArray)]) ?_ 3 _ rfl; (with_reducible repeat (first | refine blk_drewN ?_ _ | refine blk_drew ?_ | refine blk_alloc ?_ _)); refine blk_put (cs := #[.string ((rd_T24 l0 t109).f0), .int .i64 ((rd_T24 l0 t109).f1), .int .i64 0, .int .i64 0, .string (⟨#[]⟩ : ByteArray)]) ?_ 2 _ rfl; (with_reducible repeat (first | refine blk_drewN ?_ _ | refine blk_drew ?_ | refine blk_alloc ?_ _)); refine blk_put (cs := #[.string ((rd_T24 l0 t109).f0), .int .i64 0, .int .i64 0, .int .i64 0, .string (⟨#[]⟩ : ByteArray)]) ?_ 1 _ rfl; (with_reducible repeat (first | refine blk_drewN ?_ _ | refine blk_drew ?_ | refine blk_alloc ?_ _)); refine blk_put (cs := #[.string (⟨#[]⟩ : ByteArray), .int .i64 0, .int .i64 0, .int .i64 0, .string (⟨#[]⟩ : ByteArray)]) ?_ 0 _ rfl; (with_reducible repeat (first | refine blk_drewN ?_ _ | refine blk_drew ?_ | refine blk_alloc ?_ _)); exact BK108.out) Try.underlying24 rfl (by kernel_rfl)) rfl ?_
    exact ⟨by first | rfl | (simp [errW_none, errW_some] <;> rfl) | (simp [*, errW_none, errW_some] <;> rfl), by repeat (first | (with_reducible first | exact HB.out | apply below_alloc | apply pw_below_drewN | apply below_drew1 | refine below_set ?_ GE107.out | refine below_set ?_ GE108.out) | exact HB.out)⟩
   ·rw [if_neg c6] at H
    exact absurd H (by simp)
  ·rw [if_neg c5] at H
   exact absurd H (by simp)
 ·replace c4 := Bool.eq_false_iff.mpr c4
  subst c4
  have H1 : (some ((⟨#[]⟩ : ByteArray), 0, 0, 0, (⟨#[]⟩ : ByteArray), false)) = some (r1, r2, r3, r4, r5, r6) := by rw [if_neg (show ¬ (false = true) by decide)] at H; exact H
  clear H
  have H := H1
  clear H1
  simp only [Option.some.injEq, Prod.mk.injEq] at H
  obtain ⟨rfl, rfl, rfl, rfl, rfl, rfl⟩ := H
  go_enter Try.func10, Try.ntmps10
  go_wp2_with (first | ((with_reducible refine gate_dst (N := 3) rfl ?_); refine box_event ?hg (N := 3) ?hd (cs := #[.string a1_0, .int .i64 a1_1, .int .i64 a1_2, .int .i64 a1_3, .string a1_4]) (t := 24) ?hr ?_; (case hd => rfl); (case hg => rfl); (case hr => first | (go_simp; done) | (go_simp; rfl)); intro gb107 hg w13 hbox hb; have n0_ := Aside0.mk (below_step (by repeat (first | (with_reducible first | exact HB.out | apply below_alloc | apply pw_below_drewN | apply below_drew1) | exact HB.out)) hb); have n1_ := Aside0.mk (hbox); have n2_ := Aside0.mk ((by rw [hg]; exact (below_size (by repeat (first | (with_reducible first | exact HB.out | apply below_alloc | apply pw_below_drewN | apply below_drew1) | exact HB.out))) : w.heap.size ≤ gb107)); have n3_ := Aside0.mk ((by rw [hg]; exact (below_size (by repeat (first | (with_reducible first | exact HB.out | apply below_alloc | apply pw_below_drewN | apply below_drew1) | exact HB.out))) : w.heap.size ≤ gb107)); clear HB; have HB := n0_; have BK107 := n1_; have GW107 := n2_; have GE107 := n3_; clear n0_ n1_ n2_ n3_; clear hb hbox hg) | ((with_reducible refine gate_dst (N := 4) rfl ?_); refine box_event ?hg (N := 4) ?hd (cs := #[.string (⟨#[]⟩ : ByteArray), .int .i64 0, .int .i64 0, .int .i64 0, .string (⟨#[]⟩ : ByteArray)]) (t := 24) ?hr ?_; (case hd => rfl); (case hg => rfl); (case hr => first | (go_simp; done) | (go_simp; rfl)); intro gb108 hg w14 hbox hb; have n0_ := Aside0.mk (blk_below (g := gb107) (o := .cells #[.string a1_0, .int .i64 a1_1, .int .i64 a1_2, .int .i64 a1_3, .string a1_4] 24 (0, 0)) (by (with_reducible repeat (first | refine blk_drewN ?_ _ | refine blk_drew ?_ | refine blk_alloc ?_ _)); exact BK107.out) hb); have n1_ := Aside0.mk (below_step (by repeat (first | (with_reducible first | exact HB.out | apply below_alloc | apply pw_below_drewN | apply below_drew1 | refine below_set ?_ GE107.out) | exact HB.out)) hb); have n2_ := Aside0.mk (hbox); have n3_ := Aside0.mk ((by rw [hg]; exact (below_size (by repeat (first | (with_reducible first | exact HB.out | apply below_alloc | apply pw_below_drewN | apply below_drew1 | refine below_set ?_ GE107.out) | exact HB.out))) : w.heap.size ≤ gb108)); have n4_ := Aside0.mk ((by rw [hg]; exact (below_size (by repeat (first | (with_reducible first | exact HB.out | apply below_alloc | apply pw_below_drewN | apply below_drew1 | refine below_set ?_ GE107.out) | exact HB.out))) : w.heap.size ≤ gb108)); have n5_ := Aside0.mk ((by rw [hg]; exact Nat.ne_of_lt (blk_lt (g := gb107) (o := .cells #[.string a1_0, .int .i64 a1_1, .int .i64 a1_2, .int .i64 a1_3, .string a1_4] 24 (0, 0)) (by (with_reducible repeat (first | refine blk_drewN ?_ _ | refine blk_drew ?_ | refine blk_alloc ?_ _)); exact BK107.out)) : gb107 ≠ gb108)); have n6_ := Aside0.mk ((by rw [hg]; exact Nat.ne_of_gt (blk_lt (g := gb107) (o := .cells #[.string a1_0, .int .i64 a1_1, .int .i64 a1_2, .int .i64 a1_3, .string a1_4] 24 (0, 0)) (by (with_reducible repeat (first | refine blk_drewN ?_ _ | refine blk_drew ?_ | refine blk_alloc ?_ _)); exact BK107.out)) : gb108 ≠ gb107)); clear BK107; clear HB; have BK107 := n0_; have HB := n1_; have BK108 := n2_; have GW108 := n3_; have GE108 := n4_; have NB107_108 := n5_; have NB108_107 := n6_; clear n0_ n1_ n2_ n3_ n4_ n5_ n6_; clear hb hbox hg; have hnb15 := NB107_108.out; have hnc15 := NB108_107.out; have hcz16_0 : w14.cell? ⟨gb107, 0, none⟩ = some (.string a1_0) := (blk_cell BK107.out 0).trans rfl; have hcz16_1 : w14.cell? ⟨gb107, 1, none⟩ = some (.int .i64 a1_1) := (blk_cell BK107.out 1).trans rfl; have hcz16_2 : w14.cell? ⟨gb107, 2, none⟩ = some (.int .i64 a1_2) := (blk_cell BK107.out 2).trans rfl; have hcz16_3 : w14.cell? ⟨gb107, 3, none⟩ = some (.int .i64 a1_3) := (blk_cell BK107.out 3).trans rfl; have hcz16_4 : w14.cell? ⟨gb107, 4, none⟩ = some (.string a1_4) := (blk_cell BK107.out 4).trans rfl; have hfz16_0 := blk_frozen BK107.out 0; have hfz16_1 := blk_frozen BK107.out 1; have hfz16_2 := blk_frozen BK107.out 2; have hfz16_3 := blk_frozen BK107.out 3; have hfz16_4 := blk_frozen BK107.out 4) | ((with_reducible refine gate_callee (f := 19) rfl ?_); refine goesL_ (some 11) rfl rfl Try.func19 (by kernel_rfl) rfl #[.slice A0 l0.length c0, .agg #[.string a1_0, .int .i64 a1_1, .int .i64 a1_2, .int .i64 a1_3, .string a1_4]] rfl (by (try simp only [List.map_toArray, List.map_cons, List.map_nil]); first | done | rfl | (simp only [List.length_drop, List.length_take]; rfl)) ?_; (with_reducible refine (rrset_at.calls _ _ l0 a1_0 a1_1 a1_2 a1_3 a1_4 t109 false _ ?side1 ?side2 A3.out).mono ?_); (case side1 => repeat (first | exact (Kd.C_below HR0.out HB.out) | (with_reducible refine Kd.C_alloc ?_ _) | (with_reducible refine Kd.C_drewN ?_ _) | (with_reducible refine Kd.C_drew ?_))); (case side2 => exact HC0.out); rintro e w17 ⟨rfl, hb⟩; refine ⟨_, rfl, ?_⟩; have n0_ := Aside0.mk (blk_below (g := gb107) (o := .cells #[.string a1_0, .int .i64 a1_1, .int .i64 a1_2, .int .i64 a1_3, .string a1_4] 24 (0, 0)) (by (with_reducible repeat (first | refine blk_drewN ?_ _ | refine blk_drew ?_ | refine blk_alloc ?_ _)); exact BK107.out) hb); have n1_ := Aside0.mk (blk_below (g := gb108) (o := .cells #[.string (⟨#[]⟩ : ByteArray), .int .i64 0, .int .i64 0, .int .i64 0, .string (⟨#[]⟩ : ByteArray)] 24 (0, 0)) (by (with_reducible repeat (first | refine blk_drewN ?_ _ | refine blk_drew ?_ | refine blk_alloc ?_ _)); exact BK108.out) hb); have n2_ := Aside0.mk (below_step (by repeat (first | (with_reducible first | exact HB.out | apply below_alloc | apply pw_below_drewN | apply below_drew1 | refine below_set ?_ GE107.out | refine below_set ?_ GE108.out) | exact HB.out)) hb); clear BK107; clear BK108; clear HB; have BK107 := n0_; have BK108 := n1_; have HB := n2_; clear n0_ n1_ n2_; (try clear hb); (try clear hb2); (try clear hk); (try clear hi); have hcz18_0 : w17.cell? ⟨gb108, 0, none⟩ = some (.string (⟨#[]⟩ : ByteArray)) := (blk_cell BK108.out 0).trans rfl; have hcz18_1 : w17.cell? ⟨gb108, 1, none⟩ = some (.int .i64 0) := (blk_cell BK108.out 1).trans rfl; have hcz18_2 : w17.cell? ⟨gb108, 2, none⟩ = some (.int .i64 0) := (blk_cell BK108.out 2).trans rfl; have hcz18_3 : w17.cell? ⟨gb108, 3, none⟩ = some (.int .i64 0) := (blk_cell BK108.out 3).trans rfl; have hcz18_4 : w17.cell? ⟨gb108, 4, none⟩ = some (.string (⟨#[]⟩ : ByteArray)) := (blk_cell BK108.out 4).trans rfl; have hfz18_0 := blk_frozen BK108.out 0; have hfz18_1 := blk_frozen BK108.out 1; have hfz18_2 := blk_frozen BK108.out 2; have hfz18_3 := blk_frozen BK108.out 3; have hfz18_4 := blk_frozen BK108.out 4))
  refine bodyPost_ret (results_ct rfl _ _ gb108 24 #[.string (⟨#[]⟩ : ByteArray), .int .i64 0, .int .i64 0, .int .i64 0, .string (⟨#[]⟩ : ByteArray)] (0, 0) _ rfl (by (with_reducible repeat (first | refine blk_drewN ?_ _ | refine blk_drew ?_ | refine blk_alloc ?_ _)); refine blk_put (cs := #[.string (⟨#[]⟩ : ByteArray), .int .i64 0, .int .i64 0, .int .i64 0, .string (⟨#[]⟩ : ByteArray)]) ?_ 4 _ rfl; (with_reducible repeat (first | refine blk_drewN ?_ _ | refine blk_drew ?_ | refine blk_alloc ?_ _)); refine blk_put (cs := #[.string (⟨#[]⟩ : ByteArray), .int .i64 0, .int .i64 0, .int .i64 0, .string (⟨#[]⟩ : ByteArray)]) ?_ 3 _ rfl; (with_reducible repeat (first | refine blk_drewN ?_ _ | refine blk_drew ?_ | refine blk_alloc ?_ _)); refine blk_put (cs := #[.string (⟨#[]⟩ : ByteArray), .int .i64 0, .int .i64 0, .int .i64 0, .string (⟨#[]⟩ : ByteArray)]) ?_ 2 _ rfl; (with_reducible repeat (first | refine blk_drewN ?_ _ | refine blk_drew ?_ | refine blk_alloc ?_ _)); refine blk_put (cs := #[.string (⟨#[]⟩ : ByteArray), .int .i64 0, .int .i64 0, .int .i64 0, .string (⟨#[]⟩ : ByteArray)]) ?_ 1 _ rfl; (with_reducible repeat (first | refine blk_drewN ?_ _ | refine blk_drew ?_ | refine blk_alloc ?_ _)); refine blk_put (cs := #[.string (⟨#[]⟩ : ByteArray), .int .i64 0, .int .i64 0, .int .i64 0, .string (⟨#[]⟩ : ByteArray)]) ?_ 0 _ rfl; (with_reducible repeat (first | refine blk_drewN ?_ _ | refine blk_drew ?_ | refine blk_alloc ?_ _)); exact BK108.out) Try.underlying24 rfl (by kernel_rfl)) rfl ?_
  exact ⟨by first | rfl | (simp [errW_none, errW_some] <;> rfl) | (simp [*, errW_none, errW_some] <;> rfl), by repeat (first | (with_reducible first | exact HB.out | apply below_alloc | apply pw_below_drewN | apply below_drew1 | refine below_set ?_ GE107.out | refine below_set ?_ GE108.out) | exact HB.out)⟩
noncomputable def rrset_Is.l0 : Nat → List (S24) → Int → Option (Bool)
 | 0, _, _ => none
 | k + 1, x0, x3 => if x3 < (x0.length : Int) then (if 0 ≤ (wrap64 (x3 - 1)) then (if (wrap64 (x3 - 1)) < (x0.length : Int) then (if 0 ≤ x3 then ((record_Compare.f k ((rd_T24 x0 (wrap64 (x3 - 1))).f0) ((rd_T24 x0 (wrap64 (x3 - 1))).f1) ((rd_T24 x0 (wrap64 (x3 - 1))).f2) ((rd_T24 x0 (wrap64 (x3 - 1))).f3) ((rd_T24 x0 (wrap64 (x3 - 1))).f4) ((rd_T24 x0 x3).f0) ((rd_T24 x0 x3).f1) ((rd_T24 x0 x3).f2) ((rd_T24 x0 x3).f3) ((rd_T24 x0 x3).f4)).bind fun t114 => (if t114 ≥ 0 then (some false) else (rrset_Is.l0 k x0 (wrap64 (x3 + 1))))) else (none)) else (none)) else (none)) else (some true)
noncomputable def rrset_Is.f (k : Nat) (l0 : List (S24)) : Option (Bool) := rrset_Is.l0 k l0 1
def rrset_Is.T4 : Bool × List (List Nat × List Nat) := (true, [([], []), ([], []), ([1], [1]), ([0, 2], [0, 2]), ([3], [3]), ([], []), ([], []), ([5, 6], [5, 6]), ([7], [7]), ([4, 8], [4, 8]), ([9], [9])])
def rrset_Is.B4 : List Nat := [0, 0, 2, 7, 15, 0, 0, 96, 224, 511, 1023]
theorem rrset_Is.tab4 : rtab .any (opsOf Try.f15 4) = rrset_Is.T4 := by kernel_rfl
theorem rrset_Is.bits4 : waitsOk rrset_Is.T4.2 rrset_Is.B4 = true := by kernel_rfl
set_option maxHeartbeats 8000000 in
set_option maxRecDepth 100000 in
theorem rrset_Is.calls (k : Nat) (A0 : Option Addr) (c0 : Nat) (l0 : List (S24)) (r : Bool) (w : World) (hr0 : Kd.C k24 w A0 l0.length l0) (hc0 : l0.length ≤ c0) (h : rrset_Is.f k l0 = some r) :
  Calls Try.prog 15 #[.slice A0 l0.length c0] w fun e w' => e = .returned (.bool r) ∧ Below w.heap.size w w' := by
 have hu24 := Try.underlying24
 have HR0 := Aside0.mk hr0
 have HC0 := Aside0.mk hc0
 clear hr0 hc0
 have HB := Aside0.mk (Below.refl w.heap.size w)
 have H : (rrset_Is.l0 k l0 1) = some r := h
 clear h
 have H' := Aside0.mk H
 clear H
 go_enter Try.func15, Try.ntmps15
 go_wp2
 go_loopg [3] k (fun kq v3 w' => ∃ (x3_1 : Int), v3 = .int .i64 x3_1 ∧ Aside0 (rrset_Is.l0 kq l0 x3_1 = some r) ∧ Aside0 (kq ≤ k) ∧ Aside0 (Below w.heap.size w w'))
 case atStart => exact ⟨(1), (by first | rfl | (simp; done) | (simp [*]; done)), H', ⟨Nat.le_refl _⟩, ⟨by repeat (first | (with_reducible first | exact HB.out | apply below_alloc | apply pw_below_drewN | apply below_drew1) | exact HB.out)⟩⟩
 case round =>
  clear H'
  try clear c1
  obtain ⟨x3_1, rfl, HA, HK1, HB⟩ := hrel
  cases gk with
  | zero => exact absurd HA.out (by simp [rrset_Is.l0])
  | succ k1 =>
   have H := HA.out
   clear HA
   simp only [rrset_Is.l0] at H
   by_cases c2 : x3_1 < (l0.length : Int)
   ·rw [if_pos c2] at H
    have c2b0 : decide (x3_1 < (l0.length : Int)) = true := decide_eq_true c2
    clear c2
    obtain ⟨ji3, hji3⟩ : ∃ j_ : Int, (wrap64 (x3_1 - 1)) = j_ := ⟨_, rfl⟩
    replace H : (if 0 ≤ (ji3) then (if (ji3) < (l0.length : Int) then (if 0 ≤ x3_1 then ((record_Compare.f k1 ((rd_T24 l0 (ji3)).f0) ((rd_T24 l0 (ji3)).f1) ((rd_T24 l0 (ji3)).f2) ((rd_T24 l0 (ji3)).f3) ((rd_T24 l0 (ji3)).f4) ((rd_T24 l0 x3_1).f0) ((rd_T24 l0 x3_1).f1) ((rd_T24 l0 x3_1).f2) ((rd_T24 l0 x3_1).f3) ((rd_T24 l0 x3_1).f4)).bind fun t114 => (if t114 ≥ 0 then (some false) else (rrset_Is.l0 k1 l0 (wrap64 (x3_1 + 1))))) else (none)) else (none)) else (none)) = some r := by first | (rw [hji3] at H; exact H) | (simp only [hji3] at H ⊢; exact H)
    have hji3w : (IntKind.i64.wrap (x3_1 - 1)) = ji3 := (i64_w _).trans hji3
    by_cases c4 : 0 ≤ (ji3)
    ·rw [if_pos c4] at H
     have c4b0 : decide (0 ≤ (ji3)) = true := decide_eq_true c4
     clear c4
     by_cases c5 : (ji3) < (l0.length : Int)
     ·rw [if_pos c5] at H
      have c5b0 : decide ((ji3) < (l0.length : Int)) = true := decide_eq_true c5
      clear c5
      by_cases c6 : 0 ≤ x3_1
      ·rw [if_pos c6] at H
       have c6b0 : decide (0 ≤ x3_1) = true := decide_eq_true c6
       clear c6
       replace H := Option.bind_eq_some_iff.mp H
       obtain ⟨t114, A70, H⟩ := H
       replace H : (if t114 ≥ 0 then (some false) else (rrset_Is.l0 k1 l0 (wrap64 (x3_1 + 1)))) = some r := H
       have A7 := Aside0.mk A70
       clear A70
       by_cases c8 : t114 ≥ 0
       ·rw [if_pos c8] at H
        have c8b0 : decide (0 ≤ t114) = true := decide_eq_true c8
        clear c8
        obtain rfl := Option.some.inj H
        try go_wp2
        have n0_ := Aside0.mk (below_drew1 HB.out)
        clear HB
        have HB := n0_
        clear n0_
        have p112 : 0 ≤ ((ji3) : Int) := of_decide_eq_true (by first | (with_reducible assumption) | assumption)
        have q112 : (ji3) < (l0.length : Int) := of_decide_eq_true (by first | (with_reducible assumption) | assumption)
        obtain ⟨ad112, e112, hx112_0, hx112_1, hx112_2, hx112_3, hx112_4⟩ := at_T24 HR0.out (ji3) p112 q112
        have hw112_4 := hx112_4
        have hw112_3 := hx112_3
        have hw112_2 := hx112_2
        have hw112_1 := hx112_1
        have hw112_0 := hx112_0
        cases e112
        replace hx112_0 := (HB.out.cell (World.block_lt_of_cell? w _ hx112_0)).trans hx112_0
        replace hx112_1 := (HB.out.cell (World.block_lt_of_cell? w _ hx112_1)).trans hx112_1
        replace hx112_2 := (HB.out.cell (World.block_lt_of_cell? w _ hx112_2)).trans hx112_2
        replace hx112_3 := (HB.out.cell (World.block_lt_of_cell? w _ hx112_3)).trans hx112_3
        replace hx112_4 := (HB.out.cell (World.block_lt_of_cell? w _ hx112_4)).trans hx112_4
        replace p112 := eq_true p112
        replace q112 := eq_true q112
        have p113 : 0 ≤ (x3_1 : Int) := of_decide_eq_true (by first | (with_reducible assumption) | assumption)
        have q113 : x3_1 < (l0.length : Int) := of_decide_eq_true (by first | (with_reducible assumption) | assumption)
        obtain ⟨ad113, e113, hx113_0, hx113_1, hx113_2, hx113_3, hx113_4⟩ := at_T24 HR0.out x3_1 p113 q113
        have hw113_4 := hx113_4
        have hw113_3 := hx113_3
        have hw113_2 := hx113_2
        have hw113_1 := hx113_1
        have hw113_0 := hx113_0
        obtain rfl : ad112 = ad113 := (by injection e113)
        replace hx113_0 := (HB.out.cell (World.block_lt_of_cell? w _ hx113_0)).trans hx113_0
        replace hx113_1 := (HB.out.cell (World.block_lt_of_cell? w _ hx113_1)).trans hx113_1
        replace hx113_2 := (HB.out.cell (World.block_lt_of_cell? w _ hx113_2)).trans hx113_2
        replace hx113_3 := (HB.out.cell (World.block_lt_of_cell? w _ hx113_3)).trans hx113_3
        replace hx113_4 := (HB.out.cell (World.block_lt_of_cell? w _ hx113_4)).trans hx113_4
        replace p113 := eq_true p113
        replace q113 := eq_true q113
        refine start_ (n := 11) (S := fun w' => w'.cell? (ad112.add (((ji3)).toNat * 5)) = some (.string ((rd_T24 l0 (ji3)).f0)) ∧ w'.cell? ⟨(ad112.add (((ji3)).toNat * 5)).block, (ad112.add (((ji3)).toNat * 5)).off + 1, none⟩ = some (.int .i64 ((rd_T24 l0 (ji3)).f1)) ∧ w'.cell? ⟨(ad112.add (((ji3)).toNat * 5)).block, (ad112.add (((ji3)).toNat * 5)).off + 2, none⟩ = some (.int .i64 ((rd_T24 l0 (ji3)).f2)) ∧ w'.cell? ⟨(ad112.add (((ji3)).toNat * 5)).block, (ad112.add (((ji3)).toNat * 5)).off + 3, none⟩ = some (.int .i64 ((rd_T24 l0 (ji3)).f3)) ∧ w'.cell? ⟨(ad112.add (((ji3)).toNat * 5)).block, (ad112.add (((ji3)).toNat * 5)).off + 4, none⟩ = some (.string ((rd_T24 l0 (ji3)).f4)) ∧ w'.cell? (ad112.add ((x3_1).toNat * 5)) = some (.string ((rd_T24 l0 x3_1).f0)) ∧ w'.cell? ⟨(ad112.add ((x3_1).toNat * 5)).block, (ad112.add ((x3_1).toNat * 5)).off + 1, none⟩ = some (.int .i64 ((rd_T24 l0 x3_1).f1)) ∧ w'.cell? ⟨(ad112.add ((x3_1).toNat * 5)).block, (ad112.add ((x3_1).toNat * 5)).off + 2, none⟩ = some (.int .i64 ((rd_T24 l0 x3_1).f2)) ∧ w'.cell? ⟨(ad112.add ((x3_1).toNat * 5)).block, (ad112.add ((x3_1).toNat * 5)).off + 3, none⟩ = some (.int .i64 ((rd_T24 l0 x3_1).f3)) ∧ w'.cell? ⟨(ad112.add ((x3_1).toNat * 5)).block, (ad112.add ((x3_1).toNat * 5)).off + 4, none⟩ = some (.string ((rd_T24 l0 x3_1).f4))) (ds := []) #[false, false, false, false, false, false, false, false, false, false, false] (by kernel_rfl) rfl rfl ⟨((HB.out.cell (World.block_lt_of_cell? w _ hw112_0)).trans hw112_0), ((HB.out.cell (World.block_lt_of_cell? w _ hw112_1)).trans hw112_1), ((HB.out.cell (World.block_lt_of_cell? w _ hw112_2)).trans hw112_2), ((HB.out.cell (World.block_lt_of_cell? w _ hw112_3)).trans hw112_3), ((HB.out.cell (World.block_lt_of_cell? w _ hw112_4)).trans hw112_4), ((HB.out.cell (World.block_lt_of_cell? w _ hw113_0)).trans hw113_0), ((HB.out.cell (World.block_lt_of_cell? w _ hw113_1)).trans hw113_1), ((HB.out.cell (World.block_lt_of_cell? w _ hw113_2)).trans hw113_2), ((HB.out.cell (World.block_lt_of_cell? w _ hw113_3)).trans hw113_3), ((HB.out.cell (World.block_lt_of_cell? w _ hw113_4)).trans hw113_4)⟩ (fun hHeld => ?_); refine with_tabW rrset_Is.tab4 rrset_Is.bits4 (fun HT_ HW_ => ?_)
        generalize wr.drew = w9 at HB hx112_0 hx112_1 hx112_2 hx112_3 hx112_4 hx113_0 hx113_1 hx113_2 hx113_3 hx113_4 hHeld ⊢
        refine pure_ (i := 0) (N := some 10) (v := ?_) (a' := ?_) #[true, false, false, false, false, false, false, false, false, false, false] rfl rfl (any_of HT_.out (by kernel_rfl)) (fun _ _ _ h => h) (Or.inl ⟨by rfl, ?_⟩) ?_ ?_
        rotate_left
        ·intro w'
         go_simp
         with_reducible rfl
        rotate_left
        ·simp only [Act.put, List.setIfInBounds_toArray, List.set_cons_zero, List.set_cons_succ, i64_w, i32_w]
         rfl
        refine pure_ (i := 1) (N := some 11) (v := ?_) (a' := ?_) #[true, true, false, false, false, false, false, false, false, false, false] rfl rfl (any_of HT_.out (by kernel_rfl)) (fun _ _ _ h => h) (Or.inl ⟨by rfl, ?_⟩) ?_ ?_
        rotate_left
        ·intro w'
         go_simp
         with_reducible rfl
        rotate_left
        ·simp only [Act.put, List.setIfInBounds_toArray, List.set_cons_zero, List.set_cons_succ, i64_w, i32_w]
         rfl
        refine pure_ (i := 2) (N := some 12) (v := ?_) (a' := ?_) #[true, true, true, false, false, false, false, false, false, false, false] rfl rfl (any_of HT_.out (by kernel_rfl)) (fun _ _ _ h => h) (Or.inl ⟨by rfl, ?_⟩) ?_ ?_
        rotate_left
        ·intro w'
         go_simp
         with_reducible rfl
        rotate_left
        ·simp only [Act.put, List.setIfInBounds_toArray, List.set_cons_zero, List.set_cons_succ, i64_w, i32_w]
         rfl
        refine pure_ (i := 3) (N := some 13) (v := ?_) (a' := ?_) #[true, true, true, true, false, false, false, false, false, false, false] rfl rfl (any_of HT_.out (by kernel_rfl)) (fun _ _ _ h => h) (Or.inl ⟨by rfl, ?_⟩) ?_ ?_
        rotate_left
        ·intro w'
         go_simp
         with_reducible rfl
        rotate_left
        ·simp only [Act.put, List.setIfInBounds_toArray, List.set_cons_zero, List.set_cons_succ, i64_w, i32_w]
         rfl
        refine pure_ (i := 5) (N := some 15) (v := ?_) (a' := ?_) #[true, true, true, true, false, true, false, false, false, false, false] rfl rfl (any_of HT_.out (by kernel_rfl)) (fun _ _ _ h => h) (Or.inl ⟨by rfl, ?_⟩) ?_ ?_
        rotate_left
        ·intro w'
         go_simp
         with_reducible rfl
        rotate_left
        ·simp only [Act.put, List.setIfInBounds_toArray, List.set_cons_zero, List.set_cons_succ, i64_w, i32_w]
         rfl
        refine pure_ (i := 6) (N := some 16) (v := ?_) (a' := ?_) #[true, true, true, true, false, true, true, false, false, false, false] rfl rfl (any_of HT_.out (by kernel_rfl)) (fun _ _ _ h => h) (Or.inl ⟨by rfl, ?_⟩) ?_ ?_
        rotate_left
        ·intro w'
         go_simp
         with_reducible rfl
        rotate_left
        ·simp only [Act.put, List.setIfInBounds_toArray, List.set_cons_zero, List.set_cons_succ, i64_w, i32_w]
         rfl
        refine pure_ (i := 7) (N := some 17) (v := ?_) (a' := ?_) #[true, true, true, true, false, true, true, true, false, false, false] rfl rfl (any_of HT_.out (by kernel_rfl)) (fun _ _ _ h => h) (Or.inl ⟨by rfl, ?_⟩) ?_ ?_
        rotate_left
        ·intro w'
         go_simp
         with_reducible rfl
        rotate_left
        ·simp only [Act.put, List.setIfInBounds_toArray, List.set_cons_zero, List.set_cons_succ, i64_w, i32_w]
         rfl
        refine take_ (i := 4) (N := some 14) (v := ?_) (a' := ?_) #[true, true, true, true, true, true, true, true, false, false, false] rfl rfl (take_ofW HT_.out HW_.out (by kernel_rfl)) (fun _ _ _ h => h) (Or.inl ⟨by rfl, ?_⟩) hHeld ?_ ?_
        rotate_left
        ·rintro w' ⟨s0, s1, s2, s3, s4, s5, s6, s7, s8, s9⟩
         go_simp
         with_reducible rfl
        rotate_left
        ·simp only [Act.put, List.setIfInBounds_toArray, List.set_cons_zero, List.set_cons_succ, i64_w, i32_w]
         rfl
        refine take_ (i := 8) (N := some 18) (v := ?_) (a' := ?_) #[true, true, true, true, true, true, true, true, true, false, false] rfl rfl (take_ofW HT_.out HW_.out (by kernel_rfl)) (fun _ _ _ h => h) (Or.inl ⟨by rfl, ?_⟩) hHeld ?_ ?_
        rotate_left
        ·rintro w' ⟨s0, s1, s2, s3, s4, s5, s6, s7, s8, s9⟩
         go_simp
         with_reducible rfl
        rotate_left
        ·simp only [Act.put, List.setIfInBounds_toArray, List.set_cons_zero, List.set_cons_succ, i64_w, i32_w]
         rfl
        refine one_ (i := 9) (N := some 19) #[true, true, true, true, true, true, true, true, true, true, false] rfl rfl (one_of HT_.out (by kernel_rfl)) (by decide) (fun K hK => ?_)
        refine goes_ Try.func23 (by kernel_rfl) rfl #[.agg #[.string ((rd_T24 l0 (ji3)).f0), .int .i64 ((rd_T24 l0 (ji3)).f1), .int .i64 ((rd_T24 l0 (ji3)).f2), .int .i64 ((rd_T24 l0 (ji3)).f3), .string ((rd_T24 l0 (ji3)).f4)], .agg #[.string ((rd_T24 l0 x3_1).f0), .int .i64 ((rd_T24 l0 x3_1).f1), .int .i64 ((rd_T24 l0 x3_1).f2), .int .i64 ((rd_T24 l0 x3_1).f3), .string ((rd_T24 l0 x3_1).f4)]] (by rfl) rfl rfl (by (try simp only [List.map_toArray, List.map_cons, List.map_nil]); first | done | (simp only [hji3]; rfl) | rfl | (simp only [List.length_drop, List.length_take]; rfl)) ?_
        with_reducible refine (record_Compare.calls k1 ((rd_T24 l0 (ji3)).f0) ((rd_T24 l0 (ji3)).f1) ((rd_T24 l0 (ji3)).f2) ((rd_T24 l0 (ji3)).f3) ((rd_T24 l0 (ji3)).f4) ((rd_T24 l0 x3_1).f0) ((rd_T24 l0 x3_1).f1) ((rd_T24 l0 x3_1).f2) ((rd_T24 l0 x3_1).f3) ((rd_T24 l0 x3_1).f4) t114 _ A7.out).mono ?_
        rintro e w10 ⟨rfl, hb⟩
        refine ⟨_, rfl, ?_⟩
        have n0_ := Aside0.mk (below_step (by repeat (first | (with_reducible first | exact HB.out | apply below_alloc | apply pw_below_drewN | apply below_drew1) | exact HB.out)) hb)
        clear HB
        have HB := n0_
        clear n0_
        (try clear hb)
        (try clear hb2)
        (try clear hk)
        (try clear hi)
        refine hK.out _ _ ⟨((HB.out.cell (World.block_lt_of_cell? w _ hw112_0)).trans hw112_0), ((HB.out.cell (World.block_lt_of_cell? w _ hw112_1)).trans hw112_1), ((HB.out.cell (World.block_lt_of_cell? w _ hw112_2)).trans hw112_2), ((HB.out.cell (World.block_lt_of_cell? w _ hw112_3)).trans hw112_3), ((HB.out.cell (World.block_lt_of_cell? w _ hw112_4)).trans hw112_4), ((HB.out.cell (World.block_lt_of_cell? w _ hw113_0)).trans hw113_0), ((HB.out.cell (World.block_lt_of_cell? w _ hw113_1)).trans hw113_1), ((HB.out.cell (World.block_lt_of_cell? w _ hw113_2)).trans hw113_2), ((HB.out.cell (World.block_lt_of_cell? w _ hw113_3)).trans hw113_3), ((HB.out.cell (World.block_lt_of_cell? w _ hw113_4)).trans hw113_4)⟩ (fun hHeld => ?_)
        clear hK K
        refine norm_ (a' := ?_) ?_ ?_
        rotate_left
        ·show Act.put _ (some 19) _ = _
         simp only [Act.put, List.setIfInBounds_toArray, List.set_cons_zero, List.set_cons_succ, i64_w, i32_w]
         rfl
        refine pure_ (i := 10) (N := some 20) (v := ?_) (a' := ?_) #[true, true, true, true, true, true, true, true, true, true, true] rfl rfl (any_of HT_.out (by kernel_rfl)) (fun _ _ _ h => h) (Or.inl ⟨by rfl, ?_⟩) ?_ ?_
        rotate_left
        ·intro w'
         go_simp
         with_reducible rfl
        rotate_left
        ·simp only [Act.put, List.setIfInBounds_toArray, List.set_cons_zero, List.set_cons_succ, i64_w, i32_w]
         rfl
        refine done_ (done_of HT_.out (by kernel_rfl)) ?_
        try go_wp2
        go_ret
        exact ⟨by first | rfl | (simp [errW_none, errW_some] <;> rfl) | (simp only [← hji3]; first | rfl | (simp [errW_none, errW_some] <;> rfl)) | (simp [*, errW_none, errW_some] <;> rfl), by repeat (first | (with_reducible first | exact HB.out | apply below_alloc | apply pw_below_drewN | apply below_drew1) | exact HB.out)⟩
       ·rw [if_neg c8] at H
        have c8b0 : decide (0 ≤ t114) = false := decide_eq_false c8
        clear c8
        have H' := Aside0.mk H
        clear H
        try go_wp2
        have n0_ := Aside0.mk (below_drew1 HB.out)
        clear HB
        have HB := n0_
        clear n0_
        have p112 : 0 ≤ ((ji3) : Int) := of_decide_eq_true (by first | (with_reducible assumption) | assumption)
        have q112 : (ji3) < (l0.length : Int) := of_decide_eq_true (by first | (with_reducible assumption) | assumption)
        obtain ⟨ad112, e112, hx112_0, hx112_1, hx112_2, hx112_3, hx112_4⟩ := at_T24 HR0.out (ji3) p112 q112
        have hw112_4 := hx112_4
        have hw112_3 := hx112_3
        have hw112_2 := hx112_2
        have hw112_1 := hx112_1
        have hw112_0 := hx112_0
        cases e112
        replace hx112_0 := (HB.out.cell (World.block_lt_of_cell? w _ hx112_0)).trans hx112_0
        replace hx112_1 := (HB.out.cell (World.block_lt_of_cell? w _ hx112_1)).trans hx112_1
        replace hx112_2 := (HB.out.cell (World.block_lt_of_cell? w _ hx112_2)).trans hx112_2
        replace hx112_3 := (HB.out.cell (World.block_lt_of_cell? w _ hx112_3)).trans hx112_3
        replace hx112_4 := (HB.out.cell (World.block_lt_of_cell? w _ hx112_4)).trans hx112_4
        replace p112 := eq_true p112
        replace q112 := eq_true q112
        have p113 : 0 ≤ (x3_1 : Int) := of_decide_eq_true (by first | (with_reducible assumption) | assumption)
        have q113 : x3_1 < (l0.length : Int) := of_decide_eq_true (by first | (with_reducible assumption) | assumption)
        obtain ⟨ad113, e113, hx113_0, hx113_1, hx113_2, hx113_3, hx113_4⟩ := at_T24 HR0.out x3_1 p113 q113
        have hw113_4 := hx113_4
        have hw113_3 := hx113_3
        have hw113_2 := hx113_2
        have hw113_1 := hx113_1
        have hw113_0 := hx113_0
        obtain rfl : ad112 = ad113 := (by injection e113)
        replace hx113_0 := (HB.out.cell (World.block_lt_of_cell? w _ hx113_0)).trans hx113_0
        replace hx113_1 := (HB.out.cell (World.block_lt_of_cell? w _ hx113_1)).trans hx113_1
        replace hx113_2 := (HB.out.cell (World.block_lt_of_cell? w _ hx113_2)).trans hx113_2
        replace hx113_3 := (HB.out.cell (World.block_lt_of_cell? w _ hx113_3)).trans hx113_3
        replace hx113_4 := (HB.out.cell (World.block_lt_of_cell? w _ hx113_4)).trans hx113_4
        replace p113 := eq_true p113
        replace q113 := eq_true q113
        refine start_ (n := 11) (S := fun w' => w'.cell? (ad112.add (((ji3)).toNat * 5)) = some (.string ((rd_T24 l0 (ji3)).f0)) ∧ w'.cell? ⟨(ad112.add (((ji3)).toNat * 5)).block, (ad112.add (((ji3)).toNat * 5)).off + 1, none⟩ = some (.int .i64 ((rd_T24 l0 (ji3)).f1)) ∧ w'.cell? ⟨(ad112.add (((ji3)).toNat * 5)).block, (ad112.add (((ji3)).toNat * 5)).off + 2, none⟩ = some (.int .i64 ((rd_T24 l0 (ji3)).f2)) ∧ w'.cell? ⟨(ad112.add (((ji3)).toNat * 5)).block, (ad112.add (((ji3)).toNat * 5)).off + 3, none⟩ = some (.int .i64 ((rd_T24 l0 (ji3)).f3)) ∧ w'.cell? ⟨(ad112.add (((ji3)).toNat * 5)).block, (ad112.add (((ji3)).toNat * 5)).off + 4, none⟩ = some (.string ((rd_T24 l0 (ji3)).f4)) ∧ w'.cell? (ad112.add ((x3_1).toNat * 5)) = some (.string ((rd_T24 l0 x3_1).f0)) ∧ w'.cell? ⟨(ad112.add ((x3_1).toNat * 5)).block, (ad112.add ((x3_1).toNat * 5)).off + 1, none⟩ = some (.int .i64 ((rd_T24 l0 x3_1).f1)) ∧ w'.cell? ⟨(ad112.add ((x3_1).toNat * 5)).block, (ad112.add ((x3_1).toNat * 5)).off + 2, none⟩ = some (.int .i64 ((rd_T24 l0 x3_1).f2)) ∧ w'.cell? ⟨(ad112.add ((x3_1).toNat * 5)).block, (ad112.add ((x3_1).toNat * 5)).off + 3, none⟩ = some (.int .i64 ((rd_T24 l0 x3_1).f3)) ∧ w'.cell? ⟨(ad112.add ((x3_1).toNat * 5)).block, (ad112.add ((x3_1).toNat * 5)).off + 4, none⟩ = some (.string ((rd_T24 l0 x3_1).f4))) (ds := []) #[false, false, false, false, false, false, false, false, false, false, false] (by kernel_rfl) rfl rfl ⟨((HB.out.cell (World.block_lt_of_cell? w _ hw112_0)).trans hw112_0), ((HB.out.cell (World.block_lt_of_cell? w _ hw112_1)).trans hw112_1), ((HB.out.cell (World.block_lt_of_cell? w _ hw112_2)).trans hw112_2), ((HB.out.cell (World.block_lt_of_cell? w _ hw112_3)).trans hw112_3), ((HB.out.cell (World.block_lt_of_cell? w _ hw112_4)).trans hw112_4), ((HB.out.cell (World.block_lt_of_cell? w _ hw113_0)).trans hw113_0), ((HB.out.cell (World.block_lt_of_cell? w _ hw113_1)).trans hw113_1), ((HB.out.cell (World.block_lt_of_cell? w _ hw113_2)).trans hw113_2), ((HB.out.cell (World.block_lt_of_cell? w _ hw113_3)).trans hw113_3), ((HB.out.cell (World.block_lt_of_cell? w _ hw113_4)).trans hw113_4)⟩ (fun hHeld => ?_); refine with_tabW rrset_Is.tab4 rrset_Is.bits4 (fun HT_ HW_ => ?_)
        generalize wr.drew = w11 at HB hx112_0 hx112_1 hx112_2 hx112_3 hx112_4 hx113_0 hx113_1 hx113_2 hx113_3 hx113_4 hHeld ⊢
        refine pure_ (i := 0) (N := some 10) (v := ?_) (a' := ?_) #[true, false, false, false, false, false, false, false, false, false, false] rfl rfl (any_of HT_.out (by kernel_rfl)) (fun _ _ _ h => h) (Or.inl ⟨by rfl, ?_⟩) ?_ ?_
        rotate_left
        ·intro w'
         go_simp
         with_reducible rfl
        rotate_left
        ·simp only [Act.put, List.setIfInBounds_toArray, List.set_cons_zero, List.set_cons_succ, i64_w, i32_w]
         rfl
        refine pure_ (i := 1) (N := some 11) (v := ?_) (a' := ?_) #[true, true, false, false, false, false, false, false, false, false, false] rfl rfl (any_of HT_.out (by kernel_rfl)) (fun _ _ _ h => h) (Or.inl ⟨by rfl, ?_⟩) ?_ ?_
        rotate_left
        ·intro w'
         go_simp
         with_reducible rfl
        rotate_left
        ·simp only [Act.put, List.setIfInBounds_toArray, List.set_cons_zero, List.set_cons_succ, i64_w, i32_w]
         rfl
        refine pure_ (i := 2) (N := some 12) (v := ?_) (a' := ?_) #[true, true, true, false, false, false, false, false, false, false, false] rfl rfl (any_of HT_.out (by kernel_rfl)) (fun _ _ _ h => h) (Or.inl ⟨by rfl, ?_⟩) ?_ ?_
        rotate_left
        ·intro w'
         go_simp
         with_reducible rfl
        rotate_left
        ·simp only [Act.put, List.setIfInBounds_toArray, List.set_cons_zero, List.set_cons_succ, i64_w, i32_w]
         rfl
        refine pure_ (i := 3) (N := some 13) (v := ?_) (a' := ?_) #[true, true, true, true, false, false, false, false, false, false, false] rfl rfl (any_of HT_.out (by kernel_rfl)) (fun _ _ _ h => h) (Or.inl ⟨by rfl, ?_⟩) ?_ ?_
        rotate_left
        ·intro w'
         go_simp
         with_reducible rfl
        rotate_left
        ·simp only [Act.put, List.setIfInBounds_toArray, List.set_cons_zero, List.set_cons_succ, i64_w, i32_w]
         rfl
        refine pure_ (i := 5) (N := some 15) (v := ?_) (a' := ?_) #[true, true, true, true, false, true, false, false, false, false, false] rfl rfl (any_of HT_.out (by kernel_rfl)) (fun _ _ _ h => h) (Or.inl ⟨by rfl, ?_⟩) ?_ ?_
        rotate_left
        ·intro w'
         go_simp
         with_reducible rfl
        rotate_left
        ·simp only [Act.put, List.setIfInBounds_toArray, List.set_cons_zero, List.set_cons_succ, i64_w, i32_w]
         rfl
        refine pure_ (i := 6) (N := some 16) (v := ?_) (a' := ?_) #[true, true, true, true, false, true, true, false, false, false, false] rfl rfl (any_of HT_.out (by kernel_rfl)) (fun _ _ _ h => h) (Or.inl ⟨by rfl, ?_⟩) ?_ ?_
        rotate_left
        ·intro w'
         go_simp
         with_reducible rfl
        rotate_left
        ·simp only [Act.put, List.setIfInBounds_toArray, List.set_cons_zero, List.set_cons_succ, i64_w, i32_w]
         rfl
        refine pure_ (i := 7) (N := some 17) (v := ?_) (a' := ?_) #[true, true, true, true, false, true, true, true, false, false, false] rfl rfl (any_of HT_.out (by kernel_rfl)) (fun _ _ _ h => h) (Or.inl ⟨by rfl, ?_⟩) ?_ ?_
        rotate_left
        ·intro w'
         go_simp
         with_reducible rfl
        rotate_left
        ·simp only [Act.put, List.setIfInBounds_toArray, List.set_cons_zero, List.set_cons_succ, i64_w, i32_w]
         rfl
        refine take_ (i := 4) (N := some 14) (v := ?_) (a' := ?_) #[true, true, true, true, true, true, true, true, false, false, false] rfl rfl (take_ofW HT_.out HW_.out (by kernel_rfl)) (fun _ _ _ h => h) (Or.inl ⟨by rfl, ?_⟩) hHeld ?_ ?_
        rotate_left
        ·rintro w' ⟨s0, s1, s2, s3, s4, s5, s6, s7, s8, s9⟩
         go_simp
         with_reducible rfl
        rotate_left
        ·simp only [Act.put, List.setIfInBounds_toArray, List.set_cons_zero, List.set_cons_succ, i64_w, i32_w]
         rfl
        refine take_ (i := 8) (N := some 18) (v := ?_) (a' := ?_) #[true, true, true, true, true, true, true, true, true, false, false] rfl rfl (take_ofW HT_.out HW_.out (by kernel_rfl)) (fun _ _ _ h => h) (Or.inl ⟨by rfl, ?_⟩) hHeld ?_ ?_
        rotate_left
        ·rintro w' ⟨s0, s1, s2, s3, s4, s5, s6, s7, s8, s9⟩
         go_simp
         with_reducible rfl
        rotate_left
        ·simp only [Act.put, List.setIfInBounds_toArray, List.set_cons_zero, List.set_cons_succ, i64_w, i32_w]
         rfl
        refine one_ (i := 9) (N := some 19) #[true, true, true, true, true, true, true, true, true, true, false] rfl rfl (one_of HT_.out (by kernel_rfl)) (by decide) (fun K hK => ?_)
        refine goes_ Try.func23 (by kernel_rfl) rfl #[.agg #[.string ((rd_T24 l0 (ji3)).f0), .int .i64 ((rd_T24 l0 (ji3)).f1), .int .i64 ((rd_T24 l0 (ji3)).f2), .int .i64 ((rd_T24 l0 (ji3)).f3), .string ((rd_T24 l0 (ji3)).f4)], .agg #[.string ((rd_T24 l0 x3_1).f0), .int .i64 ((rd_T24 l0 x3_1).f1), .int .i64 ((rd_T24 l0 x3_1).f2), .int .i64 ((rd_T24 l0 x3_1).f3), .string ((rd_T24 l0 x3_1).f4)]] (by rfl) rfl rfl (by (try simp only [List.map_toArray, List.map_cons, List.map_nil]); first | done | (simp only [hji3]; rfl) | rfl | (simp only [List.length_drop, List.length_take]; rfl)) ?_
        with_reducible refine (record_Compare.calls k1 ((rd_T24 l0 (ji3)).f0) ((rd_T24 l0 (ji3)).f1) ((rd_T24 l0 (ji3)).f2) ((rd_T24 l0 (ji3)).f3) ((rd_T24 l0 (ji3)).f4) ((rd_T24 l0 x3_1).f0) ((rd_T24 l0 x3_1).f1) ((rd_T24 l0 x3_1).f2) ((rd_T24 l0 x3_1).f3) ((rd_T24 l0 x3_1).f4) t114 _ A7.out).mono ?_
        rintro e w12 ⟨rfl, hb⟩
        refine ⟨_, rfl, ?_⟩
        have n0_ := Aside0.mk (below_step (by repeat (first | (with_reducible first | exact HB.out | apply below_alloc | apply pw_below_drewN | apply below_drew1) | exact HB.out)) hb)
        clear HB
        have HB := n0_
        clear n0_
        (try clear hb)
        (try clear hb2)
        (try clear hk)
        (try clear hi)
        refine hK.out _ _ ⟨((HB.out.cell (World.block_lt_of_cell? w _ hw112_0)).trans hw112_0), ((HB.out.cell (World.block_lt_of_cell? w _ hw112_1)).trans hw112_1), ((HB.out.cell (World.block_lt_of_cell? w _ hw112_2)).trans hw112_2), ((HB.out.cell (World.block_lt_of_cell? w _ hw112_3)).trans hw112_3), ((HB.out.cell (World.block_lt_of_cell? w _ hw112_4)).trans hw112_4), ((HB.out.cell (World.block_lt_of_cell? w _ hw113_0)).trans hw113_0), ((HB.out.cell (World.block_lt_of_cell? w _ hw113_1)).trans hw113_1), ((HB.out.cell (World.block_lt_of_cell? w _ hw113_2)).trans hw113_2), ((HB.out.cell (World.block_lt_of_cell? w _ hw113_3)).trans hw113_3), ((HB.out.cell (World.block_lt_of_cell? w _ hw113_4)).trans hw113_4)⟩ (fun hHeld => ?_)
        clear hK K
        refine norm_ (a' := ?_) ?_ ?_
        rotate_left
        ·show Act.put _ (some 19) _ = _
         simp only [Act.put, List.setIfInBounds_toArray, List.set_cons_zero, List.set_cons_succ, i64_w, i32_w]
         rfl
        refine pure_ (i := 10) (N := some 20) (v := ?_) (a' := ?_) #[true, true, true, true, true, true, true, true, true, true, true] rfl rfl (any_of HT_.out (by kernel_rfl)) (fun _ _ _ h => h) (Or.inl ⟨by rfl, ?_⟩) ?_ ?_
        rotate_left
        ·intro w'
         go_simp
         with_reducible rfl
        rotate_left
        ·simp only [Act.put, List.setIfInBounds_toArray, List.set_cons_zero, List.set_cons_succ, i64_w, i32_w]
         rfl
        refine done_ (done_of HT_.out (by kernel_rfl)) ?_
        try go_wp2
        go_roundg k1
        case measure => have := HK1.out; omega
        case rel => exact ⟨(wrap64 (x3_1 + 1)), (by first | rfl | (simp; done) | (simp [*]; done)), H', ⟨by have := HK1.out; omega⟩, ⟨by repeat (first | (with_reducible first | exact HB.out | apply below_alloc | apply pw_below_drewN | apply below_drew1) | exact HB.out)⟩⟩
      ·rw [if_neg c6] at H
       exact absurd H (by simp)
     ·rw [if_neg c5] at H
      exact absurd H (by simp)
    ·rw [if_neg c4] at H
     exact absurd H (by simp)
   ·rw [if_neg c2] at H
    have c2b0 : decide (x3_1 < (l0.length : Int)) = false := decide_eq_false c2
    clear c2
    obtain rfl := Option.some.inj H
    go_wp2
    go_ret
    exact ⟨by first | rfl | (simp [errW_none, errW_some] <;> rfl) | (simp [*, errW_none, errW_some] <;> rfl), by repeat (first | (with_reducible first | exact HB.out | apply below_alloc | apply pw_below_drewN | apply below_drew1) | exact HB.out)⟩
noncomputable def beadrolllaw13_RrsetFinds.j0 : Nat → List (S24) → Bool → ByteArray → Int → Int → Int → ByteArray → Option (Bool)
 | 0, _, _, _, _, _, _, _ => none
 | k + 1, x0, x34, x116000, x116001, x116002, x116003, x116004 => if x34 = true then ((beadrolllaw13_awake.f).bind fun t123 => (some t123)) else ((rrset_Put.f x0 x116000 x116001 x116002 x116003 x116004).bind fun bt124 => ((rrset_Find.f bt124.1 x116000 x116001 x116002 x116003 x116004).bind fun bt128 => ((rrset_Put.f bt124.1 x116000 x116001 x116002 x116003 x116004).bind fun bt135 => ((rrset_Drop.f bt124.1 x116000 x116001 x116002 x116003 x116004).bind fun bt139 => ((rrset_Find.f bt139.1 x116000 x116001 x116002 x116003 x116004).bind fun bt143 => ((rrset_Drop.f bt139.1 x116000 x116001 x116002 x116003 x116004).bind fun bt150 => ((rrset_Is.f k bt124.1).bind fun t154 => (if t154 = true then ((rrset_Is.f k bt139.1).bind fun t155 => (if t155 = true then (if bt128.2.2.2.2.2 = true then (if (bt128.1.toList == x116000.toList && (bt128.2.1 == x116001 && (bt128.2.2.1 == x116002 && (bt128.2.2.2.1 == x116003 && (bt128.2.2.2.2.1.toList == x116004.toList))))) = true then (if bt135.2 = true then (none) else ((beadrollref11_Same.f k bt124.1 bt135.1).bind fun t156 => (if t156 = true then (if bt139.2 = true then (if bt143.2.2.2.2.2 = true then (none) else (if bt150.2 = true then (none) else ((beadrollref11_Same.f k bt139.1 bt150.1).bind fun t157 => (if t157 = true then (some ((bt124.1.length : Int) == (wrap64 ((bt139.1.length : Int) + 1)))) else (none))))) else (none)) else (none)))) else (none)) else (none)) else (none))) else (none)))))))))
noncomputable def beadrolllaw13_RrsetFinds.f (k : Nat) (l0 : List (S24)) (a1_0 : ByteArray) (a1_1 : Int) (a1_2 : Int) (a1_3 : Int) (a1_4 : ByteArray) : Option (Bool) := (beadrolllaw13_awake.f).bind fun t116 => (if t116 = true then ((beadrollref13_Rights.f k l0).bind fun t117 => (if t117 = true then ((beadrollref13_Is.f k l0).bind fun t118 => (if t118 = true then ((beadrollref13_Rights.f k (([(⟨a1_0, a1_1, a1_2, a1_3, a1_4⟩ : S24)] : List (S24)))).bind fun t122 => (beadrolllaw13_RrsetFinds.j0 k l0 (!t122) a1_0 a1_1 a1_2 a1_3 a1_4)) else (beadrolllaw13_RrsetFinds.j0 k l0 true a1_0 a1_1 a1_2 a1_3 a1_4))) else (beadrolllaw13_RrsetFinds.j0 k l0 true a1_0 a1_1 a1_2 a1_3 a1_4))) else (beadrolllaw13_RrsetFinds.j0 k l0 true a1_0 a1_1 a1_2 a1_3 a1_4))
set_option maxHeartbeats 8000000 in
set_option maxRecDepth 100000 in
theorem beadrolllaw13_RrsetFinds.calls (k : Nat) (A0 : Option Addr) (c0 : Nat) (l0 : List (S24)) (a1_0 : ByteArray) (a1_1 : Int) (a1_2 : Int) (a1_3 : Int) (a1_4 : ByteArray) (r : Bool) (w : World) (hr0 : Kd.C k24 w A0 l0.length l0) (hc0 : l0.length ≤ c0) (h : beadrolllaw13_RrsetFinds.f k l0 a1_0 a1_1 a1_2 a1_3 a1_4 = some r) :
  Calls Try.prog 4 #[.slice A0 l0.length c0, .agg #[.string a1_0, .int .i64 a1_1, .int .i64 a1_2, .int .i64 a1_3, .string a1_4]] w fun e w' => e = .returned (.bool r) ∧ Below w.heap.size w w' := by
 have hu24 := Try.underlying24
 have HR0 := Aside0.mk hr0
 have HC0 := Aside0.mk hc0
 clear hr0 hc0
 have HB := Aside0.mk (Below.refl w.heap.size w)
 have H : ((beadrolllaw13_awake.f).bind fun t116 => (if t116 = true then ((beadrollref13_Rights.f k l0).bind fun t117 => (if t117 = true then ((beadrollref13_Is.f k l0).bind fun t118 => (if t118 = true then ((beadrollref13_Rights.f k (([(⟨a1_0, a1_1, a1_2, a1_3, a1_4⟩ : S24)] : List (S24)))).bind fun t122 => (beadrolllaw13_RrsetFinds.j0 k l0 (!t122) a1_0 a1_1 a1_2 a1_3 a1_4)) else (beadrolllaw13_RrsetFinds.j0 k l0 true a1_0 a1_1 a1_2 a1_3 a1_4))) else (beadrolllaw13_RrsetFinds.j0 k l0 true a1_0 a1_1 a1_2 a1_3 a1_4))) else (beadrolllaw13_RrsetFinds.j0 k l0 true a1_0 a1_1 a1_2 a1_3 a1_4))) = some r := h
 clear h
 have HC3 := Aside0.mk H
 clear H
 go_enter Try.func4, Try.ntmps4
 go_upto_region 1 with (first | ((with_reducible refine gate_dst (N := 3) rfl ?_); (try (refine gate_guard (by rfl) ?_; dsimp only)); refine box_event ?hg (N := 3) ?hd (cs := #[.string a1_0, .int .i64 a1_1, .int .i64 a1_2, .int .i64 a1_3, .string a1_4]) (t := 24) ?hr ?_; (case hd => rfl); (case hg => rfl); (case hr => first | (go_simp; done) | (go_simp; rfl)); intro gb115 hg w4 hbox hb; have n0_ := Aside0.mk (below_step (by repeat (first | (with_reducible first | exact HB.out | apply below_alloc | apply pw_below_drewN | apply below_drew1) | exact HB.out)) hb); have n1_ := Aside0.mk (hbox); have n2_ := Aside0.mk ((by rw [hg]; exact (below_size (by repeat (first | (with_reducible first | exact HB.out | apply below_alloc | apply pw_below_drewN | apply below_drew1) | exact HB.out))) : w.heap.size ≤ gb115)); have n3_ := Aside0.mk ((by rw [hg]; exact (below_size (by repeat (first | (with_reducible first | exact HB.out | apply below_alloc | apply pw_below_drewN | apply below_drew1) | exact HB.out))) : w.heap.size ≤ gb115)); clear HB; have HB := n0_; have BK115 := n1_; have GW115 := n2_; have GE115 := n3_; clear n0_ n1_ n2_ n3_; clear hb hbox hg))
 (try simp only [Act.put, List.setIfInBounds_toArray, List.set_cons_zero, List.set_cons_succ])
 go_cut [34] (fun v34 wc => ∃ (kq : Nat) (x34_2 : Bool), v34 = .bool x34_2 ∧ Aside0 (beadrolllaw13_RrsetFinds.j0 kq l0 x34_2 a1_0 a1_1 a1_2 a1_3 a1_4 = some r) ∧ Aside0 (kq ≤ k) ∧ Aside0 (wc.heap[gb115]? = some (.cells #[.string a1_0, .int .i64 a1_1, .int .i64 a1_2, .int .i64 a1_3, .string a1_4] 24 (0, 0))) ∧ Aside0 (Below w.heap.size w wc))
 case first =>
  have H := HC3.out
  clear HC3
  replace H := Option.bind_eq_some_iff.mp H
  obtain ⟨t116, A50, H⟩ := H
  replace H : (if t116 = true then ((beadrollref13_Rights.f k l0).bind fun t117 => (if t117 = true then ((beadrollref13_Is.f k l0).bind fun t118 => (if t118 = true then ((beadrollref13_Rights.f k (([(⟨a1_0, a1_1, a1_2, a1_3, a1_4⟩ : S24)] : List (S24)))).bind fun t122 => (beadrolllaw13_RrsetFinds.j0 k l0 (!t122) a1_0 a1_1 a1_2 a1_3 a1_4)) else (beadrolllaw13_RrsetFinds.j0 k l0 true a1_0 a1_1 a1_2 a1_3 a1_4))) else (beadrolllaw13_RrsetFinds.j0 k l0 true a1_0 a1_1 a1_2 a1_3 a1_4))) else (beadrolllaw13_RrsetFinds.j0 k l0 true a1_0 a1_1 a1_2 a1_3 a1_4)) = some r := H
  have A5 := Aside0.mk A50
  clear A50
  by_cases c6 : t116 = true
  ·subst c6
   have H1 : ((beadrollref13_Rights.f k l0).bind fun t117 => (if t117 = true then ((beadrollref13_Is.f k l0).bind fun t118 => (if t118 = true then ((beadrollref13_Rights.f k (([(⟨a1_0, a1_1, a1_2, a1_3, a1_4⟩ : S24)] : List (S24)))).bind fun t122 => (beadrolllaw13_RrsetFinds.j0 k l0 (!t122) a1_0 a1_1 a1_2 a1_3 a1_4)) else (beadrolllaw13_RrsetFinds.j0 k l0 true a1_0 a1_1 a1_2 a1_3 a1_4))) else (beadrolllaw13_RrsetFinds.j0 k l0 true a1_0 a1_1 a1_2 a1_3 a1_4))) = some r := by rw [if_pos rfl] at H; exact H
   clear H
   have H := H1
   clear H1
   replace H := Option.bind_eq_some_iff.mp H
   obtain ⟨t117, A70, H⟩ := H
   replace H : (if t117 = true then ((beadrollref13_Is.f k l0).bind fun t118 => (if t118 = true then ((beadrollref13_Rights.f k (([(⟨a1_0, a1_1, a1_2, a1_3, a1_4⟩ : S24)] : List (S24)))).bind fun t122 => (beadrolllaw13_RrsetFinds.j0 k l0 (!t122) a1_0 a1_1 a1_2 a1_3 a1_4)) else (beadrolllaw13_RrsetFinds.j0 k l0 true a1_0 a1_1 a1_2 a1_3 a1_4))) else (beadrolllaw13_RrsetFinds.j0 k l0 true a1_0 a1_1 a1_2 a1_3 a1_4)) = some r := H
   have A7 := Aside0.mk A70
   clear A70
   by_cases c8 : t117 = true
   ·subst c8
    have H1 : ((beadrollref13_Is.f k l0).bind fun t118 => (if t118 = true then ((beadrollref13_Rights.f k (([(⟨a1_0, a1_1, a1_2, a1_3, a1_4⟩ : S24)] : List (S24)))).bind fun t122 => (beadrolllaw13_RrsetFinds.j0 k l0 (!t122) a1_0 a1_1 a1_2 a1_3 a1_4)) else (beadrolllaw13_RrsetFinds.j0 k l0 true a1_0 a1_1 a1_2 a1_3 a1_4))) = some r := by rw [if_pos rfl] at H; exact H
    clear H
    have H := H1
    clear H1
    replace H := Option.bind_eq_some_iff.mp H
    obtain ⟨t118, A90, H⟩ := H
    replace H : (if t118 = true then ((beadrollref13_Rights.f k (([(⟨a1_0, a1_1, a1_2, a1_3, a1_4⟩ : S24)] : List (S24)))).bind fun t122 => (beadrolllaw13_RrsetFinds.j0 k l0 (!t122) a1_0 a1_1 a1_2 a1_3 a1_4)) else (beadrolllaw13_RrsetFinds.j0 k l0 true a1_0 a1_1 a1_2 a1_3 a1_4)) = some r := H
    have A9 := Aside0.mk A90
    clear A90
    by_cases c10 : t118 = true
    ·subst c10
     have H1 : ((beadrollref13_Rights.f k (([(⟨a1_0, a1_1, a1_2, a1_3, a1_4⟩ : S24)] : List (S24)))).bind fun t122 => (beadrolllaw13_RrsetFinds.j0 k l0 (!t122) a1_0 a1_1 a1_2 a1_3 a1_4)) = some r := by rw [if_pos rfl] at H; exact H
     clear H
     have H := H1
     clear H1
     obtain ⟨y119, hy119⟩ : ∃ y_ : List (S24), y_ = (([(⟨a1_0, a1_1, a1_2, a1_3, a1_4⟩ : S24)] : List (S24))) := ⟨_, rfl⟩
     replace H : ((beadrollref13_Rights.f k y119).bind fun t122 => (beadrolllaw13_RrsetFinds.j0 k l0 (!t122) a1_0 a1_1 a1_2 a1_3 a1_4)) = some r := by first | (rw [hy119]; with_reducible exact H) | (have H2_ := (Option.bind_some _ _).symm.trans H; rw [hy119]; with_reducible exact H2_) | (have H2_ := (Option.bind_some _ _).symm.trans H; with_reducible exact H2_) | with_reducible exact H | (rw [hy119]; exact H) | exact H
     have Ny119 := Aside0.mk hy119
     clear hy119
     replace H := Option.bind_eq_some_iff.mp H
     obtain ⟨t122, A110, H⟩ := H
     replace H : (beadrolllaw13_RrsetFinds.j0 k l0 (!t122) a1_0 a1_1 a1_2 a1_3 a1_4) = some r := H
     have A11 := Aside0.mk A110
     clear A110
     have H' := Aside0.mk H
     clear H
     go_wp2_with (first | ((with_reducible refine gate_callee (f := 5) rfl ?_); refine goesL_ (some 17) rfl rfl Try.func5 (by kernel_rfl) rfl #[] rfl (by (try simp only [List.map_toArray, List.map_cons, List.map_nil]); first | done | rfl | (simp only [List.length_drop, List.length_take]; rfl)) ?_; (with_reducible refine (beadrolllaw13_awake.calls  true _ A5.out).mono ?_); rintro e w12 ⟨rfl, hb⟩; refine ⟨_, rfl, ?_⟩; have n0_ := Aside0.mk (blk_below (g := gb115) (o := .cells #[.string a1_0, .int .i64 a1_1, .int .i64 a1_2, .int .i64 a1_3, .string a1_4] 24 (0, 0)) (by (with_reducible repeat (first | refine blk_drewN ?_ _ | refine blk_drew ?_ | refine blk_alloc ?_ _)); exact BK115.out) hb); have n1_ := Aside0.mk (below_step (by repeat (first | (with_reducible first | exact HB.out | apply below_alloc | apply pw_below_drewN | apply below_drew1 | refine below_set ?_ GE115.out) | exact HB.out)) hb); clear BK115; clear HB; have BK115 := n0_; have HB := n1_; clear n0_ n1_; (try clear hb); (try clear hb2); (try clear hk); (try clear hi)) | (go_at_call 6; (with_reducible refine (beadrollref13_Rights.calls k _ _ l0 true _ ?side1 ?side2 A7.out).mono ?_); (case side1 => repeat (first | exact (Kd.C_below HR0.out HB.out) | (with_reducible refine Kd.C_alloc ?_ _) | (with_reducible refine Kd.C_drewN ?_ _) | (with_reducible refine Kd.C_drew ?_))); (case side2 => exact HC0.out); rintro e w13 ⟨rfl, hb⟩; have n0_ := Aside0.mk (blk_below (g := gb115) (o := .cells #[.string a1_0, .int .i64 a1_1, .int .i64 a1_2, .int .i64 a1_3, .string a1_4] 24 (0, 0)) (by (with_reducible repeat (first | refine blk_drewN ?_ _ | refine blk_drew ?_ | refine blk_alloc ?_ _)); exact BK115.out) hb); have n1_ := Aside0.mk (below_step (by repeat (first | (with_reducible first | exact HB.out | apply below_alloc | apply pw_below_drewN | apply below_drew1 | refine below_set ?_ GE115.out) | exact HB.out)) hb); clear BK115; clear HB; have BK115 := n0_; have HB := n1_; clear n0_ n1_; (try clear hb); (try clear hb2); (try clear hk); (try clear hi)) | (go_at_call 7; (with_reducible refine (beadrollref13_Is.calls k _ _ l0 true _ ?side1 ?side2 A9.out).mono ?_); (case side1 => repeat (first | exact (Kd.C_below HR0.out HB.out) | (with_reducible refine Kd.C_alloc ?_ _) | (with_reducible refine Kd.C_drewN ?_ _) | (with_reducible refine Kd.C_drew ?_))); (case side2 => exact HC0.out); rintro e w14 ⟨rfl, hb⟩; have n0_ := Aside0.mk (blk_below (g := gb115) (o := .cells #[.string a1_0, .int .i64 a1_1, .int .i64 a1_2, .int .i64 a1_3, .string a1_4] 24 (0, 0)) (by (with_reducible repeat (first | refine blk_drewN ?_ _ | refine blk_drew ?_ | refine blk_alloc ?_ _)); exact BK115.out) hb); have n1_ := Aside0.mk (below_step (by repeat (first | (with_reducible first | exact HB.out | apply below_alloc | apply pw_below_drewN | apply below_drew1 | refine below_set ?_ GE115.out) | exact HB.out)) hb); clear BK115; clear HB; have BK115 := n0_; have HB := n1_; clear n0_ n1_; (try clear hb); (try clear hb2); (try clear hk); (try clear hi); have hcz15_0 : w14.cell? ⟨gb115, 0, none⟩ = some (.string a1_0) := (blk_cell BK115.out 0).trans rfl; have hcz15_1 : w14.cell? ⟨gb115, 1, none⟩ = some (.int .i64 a1_1) := (blk_cell BK115.out 1).trans rfl; have hcz15_2 : w14.cell? ⟨gb115, 2, none⟩ = some (.int .i64 a1_2) := (blk_cell BK115.out 2).trans rfl; have hcz15_3 : w14.cell? ⟨gb115, 3, none⟩ = some (.int .i64 a1_3) := (blk_cell BK115.out 3).trans rfl; have hcz15_4 : w14.cell? ⟨gb115, 4, none⟩ = some (.string a1_4) := (blk_cell BK115.out 4).trans rfl; have hfz15_0 := blk_frozen BK115.out 0; have hfz15_1 := blk_frozen BK115.out 1; have hfz15_2 := blk_frozen BK115.out 2; have hfz15_3 := blk_frozen BK115.out 3; have hfz15_4 := blk_frozen BK115.out 4) | ((with_reducible refine gate_dst (N := 31) rfl ?_); (try (refine gate_guard (by rfl) ?_; dsimp only)); refine Kd.R_lit k24 _ 24 ?hg (N := 31) ?hd (xs := ([(⟨a1_0, a1_1, a1_2, a1_3, a1_4⟩ : S24)] : List (S24))) (inner := [.string a1_0, .int .i64 a1_1, .int .i64 a1_2, .int .i64 a1_3, .string a1_4]) (ok := fun _ => True) (okp := fun _ => True) ?hr ?hp (fun _ hk => hk) trivial (Below.refl _ _) (Nat.le_refl _) (by simp) ?_; (case hd => rfl); (case hg => rfl); (case hr => first | (go_simp; done) | (go_simp; rfl)); (case hp => exact (Reps.c5 (show Kd.M k24 _ _ _ (⟨a1_0, a1_1, a1_2, a1_3, a1_4⟩ : S24) [.string a1_0, .int .i64 a1_1, .int .i64 a1_2, .int .i64 a1_3, .string a1_4] from (k24_mkM _ _ _ (⟨a1_0, a1_1, a1_2, a1_3, a1_4⟩ : S24) )) (Reps.none _ _))); intro v120 w16 ho17 hb hg_ hnew_; clear hg_ hnew_; (first | rw [← Ny119.out] at ho17 | (simp only [Int.reduceToNat] at ho17; rw [← Ny119.out] at ho17)); have n0_ := Aside0.mk (Kd.R_lower (Kd.R_newB ho17 (g := gb115) (o := .cells #[.string a1_0, .int .i64 a1_1, .int .i64 a1_2, .int .i64 a1_3, .string a1_4] 24 (0, 0)) (by (with_reducible repeat (first | refine blk_drewN ?_ _ | refine blk_drew ?_ | refine blk_alloc ?_ _)); exact BK115.out)) (below_size (by repeat (first | (with_reducible first | exact HB.out | apply below_alloc | apply pw_below_drewN | apply below_drew1 | refine below_set ?_ GE115.out) | exact HB.out)))); have n1_ := Aside0.mk (blk_below (g := gb115) (o := .cells #[.string a1_0, .int .i64 a1_1, .int .i64 a1_2, .int .i64 a1_3, .string a1_4] 24 (0, 0)) (by (with_reducible repeat (first | refine blk_drewN ?_ _ | refine blk_drew ?_ | refine blk_alloc ?_ _)); exact BK115.out) hb); have n2_ := Aside0.mk (below_step (by repeat (first | (with_reducible first | exact HB.out | apply below_alloc | apply pw_below_drewN | apply below_drew1 | refine below_set ?_ GE115.out) | exact HB.out)) hb); clear BK115; clear HB; have HO121 := n0_; have BK115 := n1_; have HB := n2_; clear n0_ n1_ n2_; clear hb ho17; obtain ⟨Ao18, co18, eo18⟩ := Kd.R_slice HO121.out; subst eo18) | (go_at_call 6; (with_reducible refine (beadrollref13_Rights.calls k _ _ y119 t122 _ ?side1 ?side2 A11.out).mono ?_); (case side1 => repeat (first | exact (Kd.R_reads' HO121.out).2.2 | (with_reducible refine Kd.C_alloc ?_ _) | (with_reducible refine Kd.C_drewN ?_ _) | (with_reducible refine Kd.C_drew ?_))); (case side2 => exact (Kd.R_reads' HO121.out).2.1); rintro e w19 ⟨rfl, hb⟩; have n0_ := Aside0.mk (Kd.R_below (by (with_reducible repeat (first | apply Kd.R_alloc | apply Kd.R_drewN | apply Kd.R_drew)); exact HO121.out) hb); have n1_ := Aside0.mk (blk_below (g := gb115) (o := .cells #[.string a1_0, .int .i64 a1_1, .int .i64 a1_2, .int .i64 a1_3, .string a1_4] 24 (0, 0)) (by (with_reducible repeat (first | refine blk_drewN ?_ _ | refine blk_drew ?_ | refine blk_alloc ?_ _)); exact BK115.out) hb); have n2_ := Aside0.mk (below_step (by repeat (first | (with_reducible first | exact HB.out | apply below_alloc | apply pw_below_drewN | apply below_drew1 | refine below_set ?_ GE115.out) | exact HB.out)) hb); clear HO121; clear BK115; clear HB; have HO121 := n0_; have BK115 := n1_; have HB := n2_; clear n0_ n1_ n2_; (try clear hb); (try clear hb2); (try clear hk); (try clear hi)))
     go_meet
     case rel => exact ⟨_, (!t122), (by first | rfl | (simp; done) | (simp [*]; done)), H', ⟨by first | omega | exact Nat.le_refl _⟩, ⟨by (with_reducible repeat (first | refine blk_drewN ?_ _ | refine blk_drew ?_ | refine blk_alloc ?_ _)); exact BK115.out⟩, ⟨by repeat (first | (with_reducible first | exact HB.out | apply below_alloc | apply pw_below_drewN | apply below_drew1 | refine below_set ?_ GE115.out) | exact HB.out)⟩⟩
    ·replace c10 := Bool.eq_false_iff.mpr c10
     subst c10
     have H1 : (beadrolllaw13_RrsetFinds.j0 k l0 true a1_0 a1_1 a1_2 a1_3 a1_4) = some r := by rw [if_neg (show ¬ (false = true) by decide)] at H; exact H
     clear H
     have H := H1
     clear H1
     have H' := Aside0.mk H
     clear H
     go_wp2_with (first | ((with_reducible refine gate_callee (f := 5) rfl ?_); refine goesL_ (some 17) rfl rfl Try.func5 (by kernel_rfl) rfl #[] rfl (by (try simp only [List.map_toArray, List.map_cons, List.map_nil]); first | done | rfl | (simp only [List.length_drop, List.length_take]; rfl)) ?_; (with_reducible refine (beadrolllaw13_awake.calls  true _ A5.out).mono ?_); rintro e w20 ⟨rfl, hb⟩; refine ⟨_, rfl, ?_⟩; have n0_ := Aside0.mk (blk_below (g := gb115) (o := .cells #[.string a1_0, .int .i64 a1_1, .int .i64 a1_2, .int .i64 a1_3, .string a1_4] 24 (0, 0)) (by (with_reducible repeat (first | refine blk_drewN ?_ _ | refine blk_drew ?_ | refine blk_alloc ?_ _)); exact BK115.out) hb); have n1_ := Aside0.mk (below_step (by repeat (first | (with_reducible first | exact HB.out | apply below_alloc | apply pw_below_drewN | apply below_drew1 | refine below_set ?_ GE115.out) | exact HB.out)) hb); clear BK115; clear HB; have BK115 := n0_; have HB := n1_; clear n0_ n1_; (try clear hb); (try clear hb2); (try clear hk); (try clear hi)) | (go_at_call 6; (with_reducible refine (beadrollref13_Rights.calls k _ _ l0 true _ ?side1 ?side2 A7.out).mono ?_); (case side1 => repeat (first | exact (Kd.C_below HR0.out HB.out) | (with_reducible refine Kd.C_alloc ?_ _) | (with_reducible refine Kd.C_drewN ?_ _) | (with_reducible refine Kd.C_drew ?_))); (case side2 => exact HC0.out); rintro e w21 ⟨rfl, hb⟩; have n0_ := Aside0.mk (blk_below (g := gb115) (o := .cells #[.string a1_0, .int .i64 a1_1, .int .i64 a1_2, .int .i64 a1_3, .string a1_4] 24 (0, 0)) (by (with_reducible repeat (first | refine blk_drewN ?_ _ | refine blk_drew ?_ | refine blk_alloc ?_ _)); exact BK115.out) hb); have n1_ := Aside0.mk (below_step (by repeat (first | (with_reducible first | exact HB.out | apply below_alloc | apply pw_below_drewN | apply below_drew1 | refine below_set ?_ GE115.out) | exact HB.out)) hb); clear BK115; clear HB; have BK115 := n0_; have HB := n1_; clear n0_ n1_; (try clear hb); (try clear hb2); (try clear hk); (try clear hi)) | (go_at_call 7; (with_reducible refine (beadrollref13_Is.calls k _ _ l0 false _ ?side1 ?side2 A9.out).mono ?_); (case side1 => repeat (first | exact (Kd.C_below HR0.out HB.out) | (with_reducible refine Kd.C_alloc ?_ _) | (with_reducible refine Kd.C_drewN ?_ _) | (with_reducible refine Kd.C_drew ?_))); (case side2 => exact HC0.out); rintro e w22 ⟨rfl, hb⟩; have n0_ := Aside0.mk (blk_below (g := gb115) (o := .cells #[.string a1_0, .int .i64 a1_1, .int .i64 a1_2, .int .i64 a1_3, .string a1_4] 24 (0, 0)) (by (with_reducible repeat (first | refine blk_drewN ?_ _ | refine blk_drew ?_ | refine blk_alloc ?_ _)); exact BK115.out) hb); have n1_ := Aside0.mk (below_step (by repeat (first | (with_reducible first | exact HB.out | apply below_alloc | apply pw_below_drewN | apply below_drew1 | refine below_set ?_ GE115.out) | exact HB.out)) hb); clear BK115; clear HB; have BK115 := n0_; have HB := n1_; clear n0_ n1_; (try clear hb); (try clear hb2); (try clear hk); (try clear hi)))
     go_meet
     case rel => exact ⟨_, (true), (by first | rfl | (simp; done) | (simp [*]; done)), H', ⟨by first | omega | exact Nat.le_refl _⟩, ⟨by (with_reducible repeat (first | refine blk_drewN ?_ _ | refine blk_drew ?_ | refine blk_alloc ?_ _)); exact BK115.out⟩, ⟨by repeat (first | (with_reducible first | exact HB.out | apply below_alloc | apply pw_below_drewN | apply below_drew1 | refine below_set ?_ GE115.out) | exact HB.out)⟩⟩
   ·replace c8 := Bool.eq_false_iff.mpr c8
    subst c8
    have H1 : (beadrolllaw13_RrsetFinds.j0 k l0 true a1_0 a1_1 a1_2 a1_3 a1_4) = some r := by rw [if_neg (show ¬ (false = true) by decide)] at H; exact H
    clear H
    have H := H1
    clear H1
    have H' := Aside0.mk H
    clear H
    go_wp2_with (first | ((with_reducible refine gate_callee (f := 5) rfl ?_); refine goesL_ (some 17) rfl rfl Try.func5 (by kernel_rfl) rfl #[] rfl (by (try simp only [List.map_toArray, List.map_cons, List.map_nil]); first | done | rfl | (simp only [List.length_drop, List.length_take]; rfl)) ?_; (with_reducible refine (beadrolllaw13_awake.calls  true _ A5.out).mono ?_); rintro e w23 ⟨rfl, hb⟩; refine ⟨_, rfl, ?_⟩; have n0_ := Aside0.mk (blk_below (g := gb115) (o := .cells #[.string a1_0, .int .i64 a1_1, .int .i64 a1_2, .int .i64 a1_3, .string a1_4] 24 (0, 0)) (by (with_reducible repeat (first | refine blk_drewN ?_ _ | refine blk_drew ?_ | refine blk_alloc ?_ _)); exact BK115.out) hb); have n1_ := Aside0.mk (below_step (by repeat (first | (with_reducible first | exact HB.out | apply below_alloc | apply pw_below_drewN | apply below_drew1 | refine below_set ?_ GE115.out) | exact HB.out)) hb); clear BK115; clear HB; have BK115 := n0_; have HB := n1_; clear n0_ n1_; (try clear hb); (try clear hb2); (try clear hk); (try clear hi)) | (go_at_call 6; (with_reducible refine (beadrollref13_Rights.calls k _ _ l0 false _ ?side1 ?side2 A7.out).mono ?_); (case side1 => repeat (first | exact (Kd.C_below HR0.out HB.out) | (with_reducible refine Kd.C_alloc ?_ _) | (with_reducible refine Kd.C_drewN ?_ _) | (with_reducible refine Kd.C_drew ?_))); (case side2 => exact HC0.out); rintro e w24 ⟨rfl, hb⟩; have n0_ := Aside0.mk (blk_below (g := gb115) (o := .cells #[.string a1_0, .int .i64 a1_1, .int .i64 a1_2, .int .i64 a1_3, .string a1_4] 24 (0, 0)) (by (with_reducible repeat (first | refine blk_drewN ?_ _ | refine blk_drew ?_ | refine blk_alloc ?_ _)); exact BK115.out) hb); have n1_ := Aside0.mk (below_step (by repeat (first | (with_reducible first | exact HB.out | apply below_alloc | apply pw_below_drewN | apply below_drew1 | refine below_set ?_ GE115.out) | exact HB.out)) hb); clear BK115; clear HB; have BK115 := n0_; have HB := n1_; clear n0_ n1_; (try clear hb); (try clear hb2); (try clear hk); (try clear hi)))
    go_meet
    case rel => exact ⟨_, (true), (by first | rfl | (simp; done) | (simp [*]; done)), H', ⟨by first | omega | exact Nat.le_refl _⟩, ⟨by (with_reducible repeat (first | refine blk_drewN ?_ _ | refine blk_drew ?_ | refine blk_alloc ?_ _)); exact BK115.out⟩, ⟨by repeat (first | (with_reducible first | exact HB.out | apply below_alloc | apply pw_below_drewN | apply below_drew1 | refine below_set ?_ GE115.out) | exact HB.out)⟩⟩
  ·replace c6 := Bool.eq_false_iff.mpr c6
   subst c6
   have H1 : (beadrolllaw13_RrsetFinds.j0 k l0 true a1_0 a1_1 a1_2 a1_3 a1_4) = some r := by rw [if_neg (show ¬ (false = true) by decide)] at H; exact H
   clear H
   have H := H1
   clear H1
   have H' := Aside0.mk H
   clear H
   go_wp2_with (first | ((with_reducible refine gate_callee (f := 5) rfl ?_); refine goesL_ (some 17) rfl rfl Try.func5 (by kernel_rfl) rfl #[] rfl (by (try simp only [List.map_toArray, List.map_cons, List.map_nil]); first | done | rfl | (simp only [List.length_drop, List.length_take]; rfl)) ?_; (with_reducible refine (beadrolllaw13_awake.calls  false _ A5.out).mono ?_); rintro e w25 ⟨rfl, hb⟩; refine ⟨_, rfl, ?_⟩; have n0_ := Aside0.mk (blk_below (g := gb115) (o := .cells #[.string a1_0, .int .i64 a1_1, .int .i64 a1_2, .int .i64 a1_3, .string a1_4] 24 (0, 0)) (by (with_reducible repeat (first | refine blk_drewN ?_ _ | refine blk_drew ?_ | refine blk_alloc ?_ _)); exact BK115.out) hb); have n1_ := Aside0.mk (below_step (by repeat (first | (with_reducible first | exact HB.out | apply below_alloc | apply pw_below_drewN | apply below_drew1 | refine below_set ?_ GE115.out) | exact HB.out)) hb); clear BK115; clear HB; have BK115 := n0_; have HB := n1_; clear n0_ n1_; (try clear hb); (try clear hb2); (try clear hk); (try clear hi)))
   go_meet
   case rel => exact ⟨_, (true), (by first | rfl | (simp; done) | (simp [*]; done)), H', ⟨by first | omega | exact Nat.le_refl _⟩, ⟨by (with_reducible repeat (first | refine blk_drewN ?_ _ | refine blk_drew ?_ | refine blk_alloc ?_ _)); exact BK115.out⟩, ⟨by repeat (first | (with_reducible first | exact HB.out | apply below_alloc | apply pw_below_drewN | apply below_drew1 | refine below_set ?_ GE115.out) | exact HB.out)⟩⟩
 case rest =>
  clear HC3
  try clear c1
  try clear p2
  try clear c4
  try clear c5
  try clear c6
  try clear c8
  try clear c10
  try clear hcz15_0
  try clear hcz15_1
  try clear hcz15_2
  try clear hcz15_3
  try clear hcz15_4
  try clear hfz15_0
  try clear hfz15_1
  try clear hfz15_2
  try clear hfz15_3
  try clear hfz15_4
  obtain ⟨kq, x34_2, rfl, HA, HJ2, BK115, HB⟩ := hcut
  cases kq with
  | zero => exact absurd HA.out (by simp [beadrolllaw13_RrsetFinds.j0])
  | succ kj2 =>
   have H := HA.out
   clear HA
   simp only [beadrolllaw13_RrsetFinds.j0] at H
   by_cases c26 : x34_2 = true
   ·subst c26
    have H1 : ((beadrolllaw13_awake.f).bind fun t123 => (some t123)) = some r := by rw [if_pos rfl] at H; exact H
    clear H
    have H := H1
    clear H1
    replace H := Option.bind_eq_some_iff.mp H
    obtain ⟨t123, A270, H⟩ := H
    replace H : (some t123) = some r := H
    have A27 := Aside0.mk A270
    clear A270
    obtain rfl := Option.some.inj H
    go_wp2_with (first | ((with_reducible refine gate_callee (f := 5) rfl ?_); refine goesL_ (some 35) rfl rfl Try.func5 (by kernel_rfl) rfl #[] rfl (by (try simp only [List.map_toArray, List.map_cons, List.map_nil]); first | done | rfl | (simp only [List.length_drop, List.length_take]; rfl)) ?_; (with_reducible refine (beadrolllaw13_awake.calls  t123 _ A27.out).mono ?_); rintro e w28 ⟨rfl, hb⟩; refine ⟨_, rfl, ?_⟩; have n0_ := Aside0.mk (blk_below (g := gb115) (o := .cells #[.string a1_0, .int .i64 a1_1, .int .i64 a1_2, .int .i64 a1_3, .string a1_4] 24 (0, 0)) (by (with_reducible repeat (first | refine blk_drewN ?_ _ | refine blk_drew ?_ | refine blk_alloc ?_ _)); exact BK115.out) hb); have n1_ := Aside0.mk (below_step (by repeat (first | (with_reducible first | exact HB.out | apply below_alloc | apply pw_below_drewN | apply below_drew1 | refine below_set ?_ GE115.out) | exact HB.out)) hb); clear BK115; clear HB; have BK115 := n0_; have HB := n1_; clear n0_ n1_; (try clear hb); (try clear hb2); (try clear hk); (try clear hi)))
    go_ret
    exact ⟨by first | rfl | (simp [errW_none, errW_some] <;> rfl) | (simp [*, errW_none, errW_some] <;> rfl), by repeat (first | (with_reducible first | exact HB.out | apply below_alloc | apply pw_below_drewN | apply below_drew1 | refine below_set ?_ GE115.out) | exact HB.out)⟩
   ·replace c26 := Bool.eq_false_iff.mpr c26
    subst c26
    have H1 : ((rrset_Put.f l0 a1_0 a1_1 a1_2 a1_3 a1_4).bind fun bt124 => ((rrset_Find.f bt124.1 a1_0 a1_1 a1_2 a1_3 a1_4).bind fun bt128 => ((rrset_Put.f bt124.1 a1_0 a1_1 a1_2 a1_3 a1_4).bind fun bt135 => ((rrset_Drop.f bt124.1 a1_0 a1_1 a1_2 a1_3 a1_4).bind fun bt139 => ((rrset_Find.f bt139.1 a1_0 a1_1 a1_2 a1_3 a1_4).bind fun bt143 => ((rrset_Drop.f bt139.1 a1_0 a1_1 a1_2 a1_3 a1_4).bind fun bt150 => ((rrset_Is.f kj2 bt124.1).bind fun t154 => (if t154 = true then ((rrset_Is.f kj2 bt139.1).bind fun t155 => (if t155 = true then (if bt128.2.2.2.2.2 = true then (if (bt128.1.toList == a1_0.toList && (bt128.2.1 == a1_1 && (bt128.2.2.1 == a1_2 && (bt128.2.2.2.1 == a1_3 && (bt128.2.2.2.2.1.toList == a1_4.toList))))) = true then (if bt135.2 = true then (none) else ((beadrollref11_Same.f kj2 bt124.1 bt135.1).bind fun t156 => (if t156 = true then (if bt139.2 = true then (if bt143.2.2.2.2.2 = true then (none) else (if bt150.2 = true then (none) else ((beadrollref11_Same.f kj2 bt139.1 bt150.1).bind fun t157 => (if t157 = true then (some ((bt124.1.length : Int) == (wrap64 ((bt139.1.length : Int) + 1)))) else (none))))) else (none)) else (none)))) else (none)) else (none)) else (none))) else (none))))))))) = some r := by rw [if_neg (show ¬ (false = true) by decide)] at H; exact H
    clear H
    have H := H1
    clear H1
    replace H := Option.bind_eq_some_iff.mp H
    obtain ⟨⟨t124, t127⟩, A290, H⟩ := H
    replace H : ((rrset_Find.f t124 a1_0 a1_1 a1_2 a1_3 a1_4).bind fun bt128 => ((rrset_Put.f t124 a1_0 a1_1 a1_2 a1_3 a1_4).bind fun bt135 => ((rrset_Drop.f t124 a1_0 a1_1 a1_2 a1_3 a1_4).bind fun bt139 => ((rrset_Find.f bt139.1 a1_0 a1_1 a1_2 a1_3 a1_4).bind fun bt143 => ((rrset_Drop.f bt139.1 a1_0 a1_1 a1_2 a1_3 a1_4).bind fun bt150 => ((rrset_Is.f kj2 t124).bind fun t154 => (if t154 = true then ((rrset_Is.f kj2 bt139.1).bind fun t155 => (if t155 = true then (if bt128.2.2.2.2.2 = true then (if (bt128.1.toList == a1_0.toList && (bt128.2.1 == a1_1 && (bt128.2.2.1 == a1_2 && (bt128.2.2.2.1 == a1_3 && (bt128.2.2.2.2.1.toList == a1_4.toList))))) = true then (if bt135.2 = true then (none) else ((beadrollref11_Same.f kj2 t124 bt135.1).bind fun t156 => (if t156 = true then (if bt139.2 = true then (if bt143.2.2.2.2.2 = true then (none) else (if bt150.2 = true then (none) else ((beadrollref11_Same.f kj2 bt139.1 bt150.1).bind fun t157 => (if t157 = true then (some ((t124.length : Int) == (wrap64 ((bt139.1.length : Int) + 1)))) else (none))))) else (none)) else (none)))) else (none)) else (none)) else (none))) else (none)))))))) = some r := H
    have A29 := Aside0.mk A290
    clear A290
    replace H := Option.bind_eq_some_iff.mp H
    obtain ⟨⟨t128, t129, t130, t131, t132, t133⟩, A300, H⟩ := H
    replace H : ((rrset_Put.f t124 a1_0 a1_1 a1_2 a1_3 a1_4).bind fun bt135 => ((rrset_Drop.f t124 a1_0 a1_1 a1_2 a1_3 a1_4).bind fun bt139 => ((rrset_Find.f bt139.1 a1_0 a1_1 a1_2 a1_3 a1_4).bind fun bt143 => ((rrset_Drop.f bt139.1 a1_0 a1_1 a1_2 a1_3 a1_4).bind fun bt150 => ((rrset_Is.f kj2 t124).bind fun t154 => (if t154 = true then ((rrset_Is.f kj2 bt139.1).bind fun t155 => (if t155 = true then (if t133 = true then (if (t128.toList == a1_0.toList && (t129 == a1_1 && (t130 == a1_2 && (t131 == a1_3 && (t132.toList == a1_4.toList))))) = true then (if bt135.2 = true then (none) else ((beadrollref11_Same.f kj2 t124 bt135.1).bind fun t156 => (if t156 = true then (if bt139.2 = true then (if bt143.2.2.2.2.2 = true then (none) else (if bt150.2 = true then (none) else ((beadrollref11_Same.f kj2 bt139.1 bt150.1).bind fun t157 => (if t157 = true then (some ((t124.length : Int) == (wrap64 ((bt139.1.length : Int) + 1)))) else (none))))) else (none)) else (none)))) else (none)) else (none)) else (none))) else (none))))))) = some r := H
    have A30 := Aside0.mk A300
    clear A300
    replace H := Option.bind_eq_some_iff.mp H
    obtain ⟨⟨t135, t138⟩, A310, H⟩ := H
    replace H : ((rrset_Drop.f t124 a1_0 a1_1 a1_2 a1_3 a1_4).bind fun bt139 => ((rrset_Find.f bt139.1 a1_0 a1_1 a1_2 a1_3 a1_4).bind fun bt143 => ((rrset_Drop.f bt139.1 a1_0 a1_1 a1_2 a1_3 a1_4).bind fun bt150 => ((rrset_Is.f kj2 t124).bind fun t154 => (if t154 = true then ((rrset_Is.f kj2 bt139.1).bind fun t155 => (if t155 = true then (if t133 = true then (if (t128.toList == a1_0.toList && (t129 == a1_1 && (t130 == a1_2 && (t131 == a1_3 && (t132.toList == a1_4.toList))))) = true then (if t138 = true then (none) else ((beadrollref11_Same.f kj2 t124 t135).bind fun t156 => (if t156 = true then (if bt139.2 = true then (if bt143.2.2.2.2.2 = true then (none) else (if bt150.2 = true then (none) else ((beadrollref11_Same.f kj2 bt139.1 bt150.1).bind fun t157 => (if t157 = true then (some ((t124.length : Int) == (wrap64 ((bt139.1.length : Int) + 1)))) else (none))))) else (none)) else (none)))) else (none)) else (none)) else (none))) else (none)))))) = some r := H
    have A31 := Aside0.mk A310
    clear A310
    replace H := Option.bind_eq_some_iff.mp H
    obtain ⟨⟨t139, t142⟩, A320, H⟩ := H
    replace H : ((rrset_Find.f t139 a1_0 a1_1 a1_2 a1_3 a1_4).bind fun bt143 => ((rrset_Drop.f t139 a1_0 a1_1 a1_2 a1_3 a1_4).bind fun bt150 => ((rrset_Is.f kj2 t124).bind fun t154 => (if t154 = true then ((rrset_Is.f kj2 t139).bind fun t155 => (if t155 = true then (if t133 = true then (if (t128.toList == a1_0.toList && (t129 == a1_1 && (t130 == a1_2 && (t131 == a1_3 && (t132.toList == a1_4.toList))))) = true then (if t138 = true then (none) else ((beadrollref11_Same.f kj2 t124 t135).bind fun t156 => (if t156 = true then (if t142 = true then (if bt143.2.2.2.2.2 = true then (none) else (if bt150.2 = true then (none) else ((beadrollref11_Same.f kj2 t139 bt150.1).bind fun t157 => (if t157 = true then (some ((t124.length : Int) == (wrap64 ((t139.length : Int) + 1)))) else (none))))) else (none)) else (none)))) else (none)) else (none)) else (none))) else (none))))) = some r := H
    have A32 := Aside0.mk A320
    clear A320
    replace H := Option.bind_eq_some_iff.mp H
    obtain ⟨⟨t143, t144, t145, t146, t147, t148⟩, A330, H⟩ := H
    replace H : ((rrset_Drop.f t139 a1_0 a1_1 a1_2 a1_3 a1_4).bind fun bt150 => ((rrset_Is.f kj2 t124).bind fun t154 => (if t154 = true then ((rrset_Is.f kj2 t139).bind fun t155 => (if t155 = true then (if t133 = true then (if (t128.toList == a1_0.toList && (t129 == a1_1 && (t130 == a1_2 && (t131 == a1_3 && (t132.toList == a1_4.toList))))) = true then (if t138 = true then (none) else ((beadrollref11_Same.f kj2 t124 t135).bind fun t156 => (if t156 = true then (if t142 = true then (if t148 = true then (none) else (if bt150.2 = true then (none) else ((beadrollref11_Same.f kj2 t139 bt150.1).bind fun t157 => (if t157 = true then (some ((t124.length : Int) == (wrap64 ((t139.length : Int) + 1)))) else (none))))) else (none)) else (none)))) else (none)) else (none)) else (none))) else (none)))) = some r := H
    have A33 := Aside0.mk A330
    clear A330
    replace H := Option.bind_eq_some_iff.mp H
    obtain ⟨⟨t150, t153⟩, A340, H⟩ := H
    replace H : ((rrset_Is.f kj2 t124).bind fun t154 => (if t154 = true then ((rrset_Is.f kj2 t139).bind fun t155 => (if t155 = true then (if t133 = true then (if (t128.toList == a1_0.toList && (t129 == a1_1 && (t130 == a1_2 && (t131 == a1_3 && (t132.toList == a1_4.toList))))) = true then (if t138 = true then (none) else ((beadrollref11_Same.f kj2 t124 t135).bind fun t156 => (if t156 = true then (if t142 = true then (if t148 = true then (none) else (if t153 = true then (none) else ((beadrollref11_Same.f kj2 t139 t150).bind fun t157 => (if t157 = true then (some ((t124.length : Int) == (wrap64 ((t139.length : Int) + 1)))) else (none))))) else (none)) else (none)))) else (none)) else (none)) else (none))) else (none))) = some r := H
    have A34 := Aside0.mk A340
    clear A340
    replace H := Option.bind_eq_some_iff.mp H
    obtain ⟨t154, A350, H⟩ := H
    replace H : (if t154 = true then ((rrset_Is.f kj2 t139).bind fun t155 => (if t155 = true then (if t133 = true then (if (t128.toList == a1_0.toList && (t129 == a1_1 && (t130 == a1_2 && (t131 == a1_3 && (t132.toList == a1_4.toList))))) = true then (if t138 = true then (none) else ((beadrollref11_Same.f kj2 t124 t135).bind fun t156 => (if t156 = true then (if t142 = true then (if t148 = true then (none) else (if t153 = true then (none) else ((beadrollref11_Same.f kj2 t139 t150).bind fun t157 => (if t157 = true then (some ((t124.length : Int) == (wrap64 ((t139.length : Int) + 1)))) else (none))))) else (none)) else (none)))) else (none)) else (none)) else (none))) else (none)) = some r := H
    have A35 := Aside0.mk A350
    clear A350
    by_cases c36 : t154 = true
    ·subst c36
     have H1 : ((rrset_Is.f kj2 t139).bind fun t155 => (if t155 = true then (if t133 = true then (if (t128.toList == a1_0.toList && (t129 == a1_1 && (t130 == a1_2 && (t131 == a1_3 && (t132.toList == a1_4.toList))))) = true then (if t138 = true then (none) else ((beadrollref11_Same.f kj2 t124 t135).bind fun t156 => (if t156 = true then (if t142 = true then (if t148 = true then (none) else (if t153 = true then (none) else ((beadrollref11_Same.f kj2 t139 t150).bind fun t157 => (if t157 = true then (some ((t124.length : Int) == (wrap64 ((t139.length : Int) + 1)))) else (none))))) else (none)) else (none)))) else (none)) else (none)) else (none))) = some r := by rw [if_pos rfl] at H; exact H
     clear H
     have H := H1
     clear H1
     replace H := Option.bind_eq_some_iff.mp H
     obtain ⟨t155, A370, H⟩ := H
     replace H : (if t155 = true then (if t133 = true then (if (t128.toList == a1_0.toList && (t129 == a1_1 && (t130 == a1_2 && (t131 == a1_3 && (t132.toList == a1_4.toList))))) = true then (if t138 = true then (none) else ((beadrollref11_Same.f kj2 t124 t135).bind fun t156 => (if t156 = true then (if t142 = true then (if t148 = true then (none) else (if t153 = true then (none) else ((beadrollref11_Same.f kj2 t139 t150).bind fun t157 => (if t157 = true then (some ((t124.length : Int) == (wrap64 ((t139.length : Int) + 1)))) else (none))))) else (none)) else (none)))) else (none)) else (none)) else (none)) = some r := H
     have A37 := Aside0.mk A370
     clear A370
     by_cases c38 : t155 = true
     ·subst c38
      have H1 : (if t133 = true then (if (t128.toList == a1_0.toList && (t129 == a1_1 && (t130 == a1_2 && (t131 == a1_3 && (t132.toList == a1_4.toList))))) = true then (if t138 = true then (none) else ((beadrollref11_Same.f kj2 t124 t135).bind fun t156 => (if t156 = true then (if t142 = true then (if t148 = true then (none) else (if t153 = true then (none) else ((beadrollref11_Same.f kj2 t139 t150).bind fun t157 => (if t157 = true then (some ((t124.length : Int) == (wrap64 ((t139.length : Int) + 1)))) else (none))))) else (none)) else (none)))) else (none)) else (none)) = some r := by rw [if_pos rfl] at H; exact H
      clear H
      have H := H1
      clear H1
      by_cases c39 : t133 = true
      ·subst c39
       have H1 : (if (t128.toList == a1_0.toList && (t129 == a1_1 && (t130 == a1_2 && (t131 == a1_3 && (t132.toList == a1_4.toList))))) = true then (if t138 = true then (none) else ((beadrollref11_Same.f kj2 t124 t135).bind fun t156 => (if t156 = true then (if t142 = true then (if t148 = true then (none) else (if t153 = true then (none) else ((beadrollref11_Same.f kj2 t139 t150).bind fun t157 => (if t157 = true then (some ((t124.length : Int) == (wrap64 ((t139.length : Int) + 1)))) else (none))))) else (none)) else (none)))) else (none)) = some r := by rw [if_pos rfl] at H; exact H
       clear H
       have H := H1
       clear H1
       by_cases c40 : (t128.toList == a1_0.toList && (t129 == a1_1 && (t130 == a1_2 && (t131 == a1_3 && (t132.toList == a1_4.toList))))) = true
       ·rw [if_pos c40] at H
        have c40b0 : (t128.toList == a1_0.toList && (t129 == a1_1 && (t130 == a1_2 && (t131 == a1_3 && (t132.toList == a1_4.toList))))) = true := c40
        (try (have c40b1 : decide (t128.toList = a1_0.toList && (t129 == a1_1 && (t130 == a1_2 && (t131 == a1_3 && (t132.toList == a1_4.toList))))) = true := by simpa using c40))
        (try (have c40b2 : (t128.toList == a1_0.toList && (t129 == a1_1 && (t130 == a1_2 && (t131 == a1_3 && (t132.toList == a1_4.toList))))) = true := by simpa using c40))
        clear c40
        by_cases c41 : t138 = true
        ·subst c41
         have H1 : (none) = some r := by rw [if_pos rfl] at H; exact H
         clear H
         have H := H1
         clear H1
         exact absurd H (by simp)
        ·replace c41 := Bool.eq_false_iff.mpr c41
         subst c41
         have H1 : ((beadrollref11_Same.f kj2 t124 t135).bind fun t156 => (if t156 = true then (if t142 = true then (if t148 = true then (none) else (if t153 = true then (none) else ((beadrollref11_Same.f kj2 t139 t150).bind fun t157 => (if t157 = true then (some ((t124.length : Int) == (wrap64 ((t139.length : Int) + 1)))) else (none))))) else (none)) else (none))) = some r := by rw [if_neg (show ¬ (false = true) by decide)] at H; exact H
         clear H
         have H := H1
         clear H1
         replace H := Option.bind_eq_some_iff.mp H
         obtain ⟨t156, A420, H⟩ := H
         replace H : (if t156 = true then (if t142 = true then (if t148 = true then (none) else (if t153 = true then (none) else ((beadrollref11_Same.f kj2 t139 t150).bind fun t157 => (if t157 = true then (some ((t124.length : Int) == (wrap64 ((t139.length : Int) + 1)))) else (none))))) else (none)) else (none)) = some r := H
         have A42 := Aside0.mk A420
         clear A420
         by_cases c43 : t156 = true
         ·subst c43
          have H1 : (if t142 = true then (if t148 = true then (none) else (if t153 = true then (none) else ((beadrollref11_Same.f kj2 t139 t150).bind fun t157 => (if t157 = true then (some ((t124.length : Int) == (wrap64 ((t139.length : Int) + 1)))) else (none))))) else (none)) = some r := by rw [if_pos rfl] at H; exact H
          clear H
          have H := H1
          clear H1
          by_cases c44 : t142 = true
          ·subst c44
           have H1 : (if t148 = true then (none) else (if t153 = true then (none) else ((beadrollref11_Same.f kj2 t139 t150).bind fun t157 => (if t157 = true then (some ((t124.length : Int) == (wrap64 ((t139.length : Int) + 1)))) else (none))))) = some r := by rw [if_pos rfl] at H; exact H
           clear H
           have H := H1
           clear H1
           by_cases c45 : t148 = true
           ·subst c45
            have H1 : (none) = some r := by rw [if_pos rfl] at H; exact H
            clear H
            have H := H1
            clear H1
            exact absurd H (by simp)
           ·replace c45 := Bool.eq_false_iff.mpr c45
            subst c45
            have H1 : (if t153 = true then (none) else ((beadrollref11_Same.f kj2 t139 t150).bind fun t157 => (if t157 = true then (some ((t124.length : Int) == (wrap64 ((t139.length : Int) + 1)))) else (none)))) = some r := by rw [if_neg (show ¬ (false = true) by decide)] at H; exact H
            clear H
            have H := H1
            clear H1
            by_cases c46 : t153 = true
            ·subst c46
             have H1 : (none) = some r := by rw [if_pos rfl] at H; exact H
             clear H
             have H := H1
             clear H1
             exact absurd H (by simp)
            ·replace c46 := Bool.eq_false_iff.mpr c46
             subst c46
             have H1 : ((beadrollref11_Same.f kj2 t139 t150).bind fun t157 => (if t157 = true then (some ((t124.length : Int) == (wrap64 ((t139.length : Int) + 1)))) else (none))) = some r := by rw [if_neg (show ¬ (false = true) by decide)] at H; exact H
             clear H
             have H := H1
             clear H1
             replace H := Option.bind_eq_some_iff.mp H
             obtain ⟨t157, A470, H⟩ := H
             replace H : (if t157 = true then (some ((t124.length : Int) == (wrap64 ((t139.length : Int) + 1)))) else (none)) = some r := H
             have A47 := Aside0.mk A470
             clear A470
             by_cases c48 : t157 = true
             ·subst c48
              have H1 : (some ((t124.length : Int) == (wrap64 ((t139.length : Int) + 1)))) = some r := by rw [if_pos rfl] at H; exact H
              clear H
              have H := H1
              clear H1
              obtain rfl := Option.some.inj H
              have hcz49_0 : wc.cell? ⟨gb115, 0, none⟩ = some (.string a1_0) := (blk_cell BK115.out 0).trans rfl
              have hcz49_1 : wc.cell? ⟨gb115, 1, none⟩ = some (.int .i64 a1_1) := (blk_cell BK115.out 1).trans rfl
              have hcz49_2 : wc.cell? ⟨gb115, 2, none⟩ = some (.int .i64 a1_2) := (blk_cell BK115.out 2).trans rfl
              have hcz49_3 : wc.cell? ⟨gb115, 3, none⟩ = some (.int .i64 a1_3) := (blk_cell BK115.out 3).trans rfl
              have hcz49_4 : wc.cell? ⟨gb115, 4, none⟩ = some (.string a1_4) := (blk_cell BK115.out 4).trans rfl
              have hfz49_0 := blk_frozen BK115.out 0
              have hfz49_1 := blk_frozen BK115.out 1
              have hfz49_2 := blk_frozen BK115.out 2
              have hfz49_3 := blk_frozen BK115.out 3
              have hfz49_4 := blk_frozen BK115.out 4
              go_wp2_with (first | ((with_reducible refine gate_callee (f := 8) rfl ?_); refine goesL_ (some 39) rfl rfl Try.func8 (by kernel_rfl) rfl #[.slice A0 l0.length c0, .agg #[.string a1_0, .int .i64 a1_1, .int .i64 a1_2, .int .i64 a1_3, .string a1_4]] rfl (by (try simp only [List.map_toArray, List.map_cons, List.map_nil]); first | done | rfl | (simp only [List.length_drop, List.length_take]; rfl)) ?_; (with_reducible refine (rrset_Put.calls _ _ l0 a1_0 a1_1 a1_2 a1_3 a1_4 t124 t127 _ ?side1 ?side2 A29.out).mono ?_); (case side1 => repeat (first | exact (Kd.C_below HR0.out HB.out) | (with_reducible refine Kd.C_alloc ?_ _) | (with_reducible refine Kd.C_drewN ?_ _) | (with_reducible refine Kd.C_drew ?_))); (case side2 => exact HC0.out); rintro e w50 ⟨v125, rfl, ho0, hb⟩; refine ⟨_, rfl, ?_⟩; have n0_ := Aside0.mk (Kd.R_lower (Kd.R_newB ho0 (g := gb115) (o := .cells #[.string a1_0, .int .i64 a1_1, .int .i64 a1_2, .int .i64 a1_3, .string a1_4] 24 (0, 0)) (by (with_reducible repeat (first | refine blk_drewN ?_ _ | refine blk_drew ?_ | refine blk_alloc ?_ _)); exact BK115.out)) (below_size (by repeat (first | (with_reducible first | exact HB.out | apply below_alloc | apply pw_below_drewN | apply below_drew1 | refine below_set ?_ GE115.out) | exact HB.out)))); have n1_ := Aside0.mk (blk_below (g := gb115) (o := .cells #[.string a1_0, .int .i64 a1_1, .int .i64 a1_2, .int .i64 a1_3, .string a1_4] 24 (0, 0)) (by (with_reducible repeat (first | refine blk_drewN ?_ _ | refine blk_drew ?_ | refine blk_alloc ?_ _)); exact BK115.out) hb); have n2_ := Aside0.mk (below_step (by repeat (first | (with_reducible first | exact HB.out | apply below_alloc | apply pw_below_drewN | apply below_drew1 | refine below_set ?_ GE115.out) | exact HB.out)) hb); clear BK115; clear HB; have HO126 := n0_; have BK115 := n1_; have HB := n2_; clear n0_ n1_ n2_; (try clear hb); (try clear hb2); (try clear hk); (try clear hi); (try clear ho0); have hcz51_0 : w50.cell? ⟨gb115, 0, none⟩ = some (.string a1_0) := (blk_cell BK115.out 0).trans rfl; have hcz51_1 : w50.cell? ⟨gb115, 1, none⟩ = some (.int .i64 a1_1) := (blk_cell BK115.out 1).trans rfl; have hcz51_2 : w50.cell? ⟨gb115, 2, none⟩ = some (.int .i64 a1_2) := (blk_cell BK115.out 2).trans rfl; have hcz51_3 : w50.cell? ⟨gb115, 3, none⟩ = some (.int .i64 a1_3) := (blk_cell BK115.out 3).trans rfl; have hcz51_4 : w50.cell? ⟨gb115, 4, none⟩ = some (.string a1_4) := (blk_cell BK115.out 4).trans rfl; have hfz51_0 := blk_frozen BK115.out 0; have hfz51_1 := blk_frozen BK115.out 1; have hfz51_2 := blk_frozen BK115.out 2; have hfz51_3 := blk_frozen BK115.out 3; have hfz51_4 := blk_frozen BK115.out 4; obtain ⟨Ao52, co52, eo52⟩ := Kd.R_slice HO126.out; subst eo52) | ((with_reducible refine gate_callee (f := 10) rfl ?_); refine goesL_ (some 45) rfl rfl Try.func10 (by kernel_rfl) rfl #[.slice Ao52 t124.length co52, .agg #[.string a1_0, .int .i64 a1_1, .int .i64 a1_2, .int .i64 a1_3, .string a1_4]] rfl (by (try simp only [List.map_toArray, List.map_cons, List.map_nil]); first | done | rfl | (simp only [List.length_drop, List.length_take]; rfl)) ?_; (with_reducible refine (rrset_Find.calls _ _ t124 a1_0 a1_1 a1_2 a1_3 a1_4 t128 t129 t130 t131 t132 true _ ?side1 ?side2 A30.out).mono ?_); (case side1 => repeat (first | exact (Kd.R_reads' HO126.out).2.2 | (with_reducible refine Kd.C_alloc ?_ _) | (with_reducible refine Kd.C_drewN ?_ _) | (with_reducible refine Kd.C_drew ?_))); (case side2 => exact (Kd.R_reads' HO126.out).2.1); rintro e w53 ⟨rfl, hb⟩; refine ⟨_, rfl, ?_⟩; have n0_ := Aside0.mk (Kd.R_below (by (with_reducible repeat (first | apply Kd.R_alloc | apply Kd.R_drewN | apply Kd.R_drew)); exact HO126.out) hb); have n1_ := Aside0.mk (blk_below (g := gb115) (o := .cells #[.string a1_0, .int .i64 a1_1, .int .i64 a1_2, .int .i64 a1_3, .string a1_4] 24 (0, 0)) (by (with_reducible repeat (first | refine blk_drewN ?_ _ | refine blk_drew ?_ | refine blk_alloc ?_ _)); exact BK115.out) hb); have n2_ := Aside0.mk (below_step (by repeat (first | (with_reducible first | exact HB.out | apply below_alloc | apply pw_below_drewN | apply below_drew1 | refine below_set ?_ GE115.out) | exact HB.out)) hb); clear HO126; clear BK115; clear HB; have HO126 := n0_; have BK115 := n1_; have HB := n2_; clear n0_ n1_ n2_; (try clear hb); (try clear hb2); (try clear hk); (try clear hi)) | ((with_reducible refine gate_dst (N := 7) rfl ?_); (try (refine gate_guard (by rfl) ?_; dsimp only)); refine box_event ?hg (N := 7) ?hd (cs := #[.string (⟨#[]⟩ : ByteArray), .int .i64 0, .int .i64 0, .int .i64 0, .string (⟨#[]⟩ : ByteArray)]) (t := 24) ?hr ?_; (case hd => rfl); (case hg => rfl); (case hr => first | (go_simp; done) | (go_simp; rfl)); intro gb134 hg w54 hbox hb; have n0_ := Aside0.mk (Kd.R_below (Kd.R_elderB (by (with_reducible repeat (first | apply Kd.R_alloc | apply Kd.R_drewN | apply Kd.R_drew)); exact HO126.out) gb134 (Nat.le_of_eq hg.symm)) hb); have n1_ := Aside0.mk (blk_below (g := gb115) (o := .cells #[.string a1_0, .int .i64 a1_1, .int .i64 a1_2, .int .i64 a1_3, .string a1_4] 24 (0, 0)) (by (with_reducible repeat (first | refine blk_drewN ?_ _ | refine blk_drew ?_ | refine blk_alloc ?_ _)); exact BK115.out) hb); have n2_ := Aside0.mk (below_step (by repeat (first | (with_reducible first | exact HB.out | apply below_alloc | apply pw_below_drewN | apply below_drew1 | refine below_set ?_ GE115.out) | exact HB.out)) hb); have n3_ := Aside0.mk (hbox); have n4_ := Aside0.mk ((by rw [hg]; exact (below_size (by repeat (first | (with_reducible first | exact HB.out | apply below_alloc | apply pw_below_drewN | apply below_drew1 | refine below_set ?_ GE115.out) | exact HB.out))) : w.heap.size ≤ gb134)); have n5_ := Aside0.mk ((by rw [hg]; exact (below_size (by repeat (first | (with_reducible first | exact HB.out | apply below_alloc | apply pw_below_drewN | apply below_drew1 | refine below_set ?_ GE115.out) | exact HB.out))) : w.heap.size ≤ gb134)); have n6_ := Aside0.mk ((by rw [hg]; exact Nat.ne_of_lt (blk_lt (g := gb115) (o := .cells #[.string a1_0, .int .i64 a1_1, .int .i64 a1_2, .int .i64 a1_3, .string a1_4] 24 (0, 0)) (by (with_reducible repeat (first | refine blk_drewN ?_ _ | refine blk_drew ?_ | refine blk_alloc ?_ _)); exact BK115.out)) : gb115 ≠ gb134)); have n7_ := Aside0.mk ((by rw [hg]; exact Nat.ne_of_gt (blk_lt (g := gb115) (o := .cells #[.string a1_0, .int .i64 a1_1, .int .i64 a1_2, .int .i64 a1_3, .string a1_4] 24 (0, 0)) (by (with_reducible repeat (first | refine blk_drewN ?_ _ | refine blk_drew ?_ | refine blk_alloc ?_ _)); exact BK115.out)) : gb134 ≠ gb115)); clear HO126; clear BK115; clear HB; have HO126 := n0_; have BK115 := n1_; have HB := n2_; have BK134 := n3_; have GW134 := n4_; have GE134 := n5_; have NB115_134 := n6_; have NB134_115 := n7_; clear n0_ n1_ n2_ n3_ n4_ n5_ n6_ n7_; clear hb hbox hg; have hnb55 := NB134_115.out; have hnc55 := NB115_134.out; have hcz56_0 : w54.cell? ⟨gb134, 0, none⟩ = some (.string (⟨#[]⟩ : ByteArray)) := (blk_cell BK134.out 0).trans rfl; have hcz56_1 : w54.cell? ⟨gb134, 1, none⟩ = some (.int .i64 0) := (blk_cell BK134.out 1).trans rfl; have hcz56_2 : w54.cell? ⟨gb134, 2, none⟩ = some (.int .i64 0) := (blk_cell BK134.out 2).trans rfl; have hcz56_3 : w54.cell? ⟨gb134, 3, none⟩ = some (.int .i64 0) := (blk_cell BK134.out 3).trans rfl; have hcz56_4 : w54.cell? ⟨gb134, 4, none⟩ = some (.string (⟨#[]⟩ : ByteArray)) := (blk_cell BK134.out 4).trans rfl; have hfz56_0 := blk_frozen BK134.out 0; have hfz56_1 := blk_frozen BK134.out 1; have hfz56_2 := blk_frozen BK134.out 2; have hfz56_3 := blk_frozen BK134.out 3; have hfz56_4 := blk_frozen BK134.out 4; have hcz57_0 : w54.cell? ⟨gb115, 0, none⟩ = some (.string a1_0) := (blk_cell BK115.out 0).trans rfl; have hcz57_1 : w54.cell? ⟨gb115, 1, none⟩ = some (.int .i64 a1_1) := (blk_cell BK115.out 1).trans rfl; have hcz57_2 : w54.cell? ⟨gb115, 2, none⟩ = some (.int .i64 a1_2) := (blk_cell BK115.out 2).trans rfl; have hcz57_3 : w54.cell? ⟨gb115, 3, none⟩ = some (.int .i64 a1_3) := (blk_cell BK115.out 3).trans rfl; have hcz57_4 : w54.cell? ⟨gb115, 4, none⟩ = some (.string a1_4) := (blk_cell BK115.out 4).trans rfl; have hfz57_0 := blk_frozen BK115.out 0; have hfz57_1 := blk_frozen BK115.out 1; have hfz57_2 := blk_frozen BK115.out 2; have hfz57_3 := blk_frozen BK115.out 3; have hfz57_4 := blk_frozen BK115.out 4) | ((with_reducible refine gate_callee (f := 8) rfl ?_); refine goesL_ (some 51) rfl rfl Try.func8 (by kernel_rfl) rfl #[.slice Ao52 t124.length co52, .agg #[.string a1_0, .int .i64 a1_1, .int .i64 a1_2, .int .i64 a1_3, .string a1_4]] rfl (by (try simp only [List.map_toArray, List.map_cons, List.map_nil]); first | done | rfl | (simp only [List.length_drop, List.length_take]; rfl)) ?_; (with_reducible refine (rrset_Put.calls _ _ t124 a1_0 a1_1 a1_2 a1_3 a1_4 t135 false _ ?side1 ?side2 A31.out).mono ?_); (case side1 => refine (Kd.R_reads' (e := 24) (base := w.heap.size) (ok := fun k_ => ((True ∧ k_ ≠ gb115) ∧ k_ ≠ gb134)) (n := t124.length) (c := co52) ?_).2.2; exact (by (with_reducible repeat (first | apply Kd.R_alloc | apply Kd.R_drewN | apply Kd.R_drew)); exact (Kd.R_mono (Kd.R_far (p := ⟨gb134, 4, none⟩) (Kd.R_far (p := ⟨gb134, 3, none⟩) (Kd.R_far (p := ⟨gb134, 2, none⟩) (Kd.R_far (p := ⟨gb134, 1, none⟩) (Kd.R_far (p := ⟨gb134, 0, none⟩) (Kd.R_mono HO126.out (fun k_ hk => (⟨hk, hk.2⟩ : _ ∧ k_ ≠ gb134))) (fun _ hk => hk.2) (.string t128)) (fun _ hk => hk.2) (.int .i64 t129)) (fun _ hk => hk.2) (.int .i64 t130)) (fun _ hk => hk.2) (.int .i64 t131)) (fun _ hk => hk.2) (.string t132)) (fun _ h_ => h_.1)))); (case side2 => exact (Kd.R_reads' HO126.out).2.1); rintro e w58 ⟨v136, rfl, ho0, hb⟩; refine ⟨_, rfl, ?_⟩; have n0_ := Aside0.mk (Kd.R_elder' (by (with_reducible repeat (first | apply Kd.R_alloc | apply Kd.R_drewN | apply Kd.R_drew)); exact (Kd.R_mono (Kd.R_far (p := ⟨gb134, 4, none⟩) (Kd.R_far (p := ⟨gb134, 3, none⟩) (Kd.R_far (p := ⟨gb134, 2, none⟩) (Kd.R_far (p := ⟨gb134, 1, none⟩) (Kd.R_far (p := ⟨gb134, 0, none⟩) (Kd.R_mono HO126.out (fun k_ hk => (⟨hk, hk.2⟩ : _ ∧ k_ ≠ gb134))) (fun _ hk => hk.2) (.string t128)) (fun _ hk => hk.2) (.int .i64 t129)) (fun _ hk => hk.2) (.int .i64 t130)) (fun _ hk => hk.2) (.int .i64 t131)) (fun _ hk => hk.2) (.string t132)) (fun _ h_ => h_.1))) (Kd.R_base ho0) hb); have n1_ := Aside0.mk (Kd.R_lower (Kd.R_newB (Kd.R_newB (Kd.R_new' ho0 (Kd.R_lt (by (with_reducible repeat (first | apply Kd.R_alloc | apply Kd.R_drewN | apply Kd.R_drew)); exact (Kd.R_mono (Kd.R_far (p := ⟨gb134, 4, none⟩) (Kd.R_far (p := ⟨gb134, 3, none⟩) (Kd.R_far (p := ⟨gb134, 2, none⟩) (Kd.R_far (p := ⟨gb134, 1, none⟩) (Kd.R_far (p := ⟨gb134, 0, none⟩) (Kd.R_mono HO126.out (fun k_ hk => (⟨hk, hk.2⟩ : _ ∧ k_ ≠ gb134))) (fun _ hk => hk.2) (.string t128)) (fun _ hk => hk.2) (.int .i64 t129)) (fun _ hk => hk.2) (.int .i64 t130)) (fun _ hk => hk.2) (.int .i64 t131)) (fun _ hk => hk.2) (.string t132)) (fun _ h_ => h_.1))))) (g := gb115) (o := .cells #[.string a1_0, .int .i64 a1_1, .int .i64 a1_2, .int .i64 a1_3, .string a1_4] 24 (0, 0)) (by (with_reducible repeat (first | refine blk_drewN ?_ _ | refine blk_drew ?_ | refine blk_alloc ?_ _)); refine blk_far ?_ NB115_134.out _; (with_reducible repeat (first | refine blk_drewN ?_ _ | refine blk_drew ?_ | refine blk_alloc ?_ _)); refine blk_far ?_ NB115_134.out _; (with_reducible repeat (first | refine blk_drewN ?_ _ | refine blk_drew ?_ | refine blk_alloc ?_ _)); refine blk_far ?_ NB115_134.out _; (with_reducible repeat (first | refine blk_drewN ?_ _ | refine blk_drew ?_ | refine blk_alloc ?_ _)); refine blk_far ?_ NB115_134.out _; (with_reducible repeat (first | refine blk_drewN ?_ _ | refine blk_drew ?_ | refine blk_alloc ?_ _)); refine blk_far ?_ NB115_134.out _; (with_reducible repeat (first | refine blk_drewN ?_ _ | refine blk_drew ?_ | refine blk_alloc ?_ _)); exact BK115.out)) (g := gb134) (o := .cells #[.string t128, .int .i64 t129, .int .i64 t130, .int .i64 t131, .string t132] 24 (0, 0)) (by (with_reducible repeat (first | refine blk_drewN ?_ _ | refine blk_drew ?_ | refine blk_alloc ?_ _)); refine blk_put (cs := #[.string t128, .int .i64 t129, .int .i64 t130, .int .i64 t131, .string (⟨#[]⟩ : ByteArray)]) ?_ 4 _ rfl; (with_reducible repeat (first | refine blk_drewN ?_ _ | refine blk_drew ?_ | refine blk_alloc ?_ _)); refine blk_put (cs := #[.string t128, .int .i64 t129, .int .i64 t130, .int .i64 0, .string (⟨#[]⟩ : ByteArray)]) ?_ 3 _ rfl; (with_reducible repeat (first | refine blk_drewN ?_ _ | refine blk_drew ?_ | refine blk_alloc ?_ _)); refine blk_put (cs := #[.string t128, .int .i64 t129, .int .i64 0, .int .i64 0, .string (⟨#[]⟩ : ByteArray)]) ?_ 2 _ rfl; (with_reducible repeat (first | refine blk_drewN ?_ _ | refine blk_drew ?_ | refine blk_alloc ?_ _)); refine blk_put (cs := #[.string t128, .int .i64 0, .int .i64 0, .int .i64 0, .string (⟨#[]⟩ : ByteArray)]) ?_ 1 _ rfl; (with_reducible repeat (first | refine blk_drewN ?_ _ | refine blk_drew ?_ | refine blk_alloc ?_ _)); refine blk_put (cs := #[.string (⟨#[]⟩ : ByteArray), .int .i64 0, .int .i64 0, .int .i64 0, .string (⟨#[]⟩ : ByteArray)]) ?_ 0 _ rfl; (with_reducible repeat (first | refine blk_drewN ?_ _ | refine blk_drew ?_ | refine blk_alloc ?_ _)); exact BK134.out)) (below_size (by repeat (first | (with_reducible first | exact HB.out | apply below_alloc | apply pw_below_drewN | apply below_drew1 | refine below_set ?_ GE115.out | refine below_set ?_ GE134.out) | exact HB.out)))); have n2_ := Aside0.mk (blk_below (g := gb115) (o := .cells #[.string a1_0, .int .i64 a1_1, .int .i64 a1_2, .int .i64 a1_3, .string a1_4] 24 (0, 0)) (by (with_reducible repeat (first | refine blk_drewN ?_ _ | refine blk_drew ?_ | refine blk_alloc ?_ _)); refine blk_far ?_ NB115_134.out _; (with_reducible repeat (first | refine blk_drewN ?_ _ | refine blk_drew ?_ | refine blk_alloc ?_ _)); refine blk_far ?_ NB115_134.out _; (with_reducible repeat (first | refine blk_drewN ?_ _ | refine blk_drew ?_ | refine blk_alloc ?_ _)); refine blk_far ?_ NB115_134.out _; (with_reducible repeat (first | refine blk_drewN ?_ _ | refine blk_drew ?_ | refine blk_alloc ?_ _)); refine blk_far ?_ NB115_134.out _; (with_reducible repeat (first | refine blk_drewN ?_ _ | refine blk_drew ?_ | refine blk_alloc ?_ _)); refine blk_far ?_ NB115_134.out _; (with_reducible repeat (first | refine blk_drewN ?_ _ | refine blk_drew ?_ | refine blk_alloc ?_ _)); exact BK115.out) hb); have n3_ := Aside0.mk (blk_below (g := gb134) (o := .cells #[.string t128, .int .i64 t129, .int .i64 t130, .int .i64 t131, .string t132] 24 (0, 0)) (by (with_reducible repeat (first | refine blk_drewN ?_ _ | refine blk_drew ?_ | refine blk_alloc ?_ _)); refine blk_put (cs := #[.string t128, .int .i64 t129, .int .i64 t130, .int .i64 t131, .string (⟨#[]⟩ : ByteArray)]) ?_ 4 _ rfl; (with_reducible repeat (first | refine blk_drewN ?_ _ | refine blk_drew ?_ | refine blk_alloc ?_ _)); refine blk_put (cs := #[.string t128, .int .i64 t129, .int .i64 t130, .int .i64 0, .string (⟨#[]⟩ : ByteArray)]) ?_ 3 _ rfl; (with_reducible repeat (first | refine blk_drewN ?_ _ | refine blk_drew ?_ | refine blk_alloc ?_ _)); refine blk_put (cs := #[.string t128, .int .i64 t129, .int .i64 0, .int .i64 0, .string (⟨#[]⟩ : ByteArray)]) ?_ 2 _ rfl; (with_reducible repeat (first | refine blk_drewN ?_ _ | refine blk_drew ?_ | refine blk_alloc ?_ _)); refine blk_put (cs := #[.string t128, .int .i64 0, .int .i64 0, .int .i64 0, .string (⟨#[]⟩ : ByteArray)]) ?_ 1 _ rfl; (with_reducible repeat (first | refine blk_drewN ?_ _ | refine blk_drew ?_ | refine blk_alloc ?_ _)); refine blk_put (cs := #[.string (⟨#[]⟩ : ByteArray), .int .i64 0, .int .i64 0, .int .i64 0, .string (⟨#[]⟩ : ByteArray)]) ?_ 0 _ rfl; (with_reducible repeat (first | refine blk_drewN ?_ _ | refine blk_drew ?_ | refine blk_alloc ?_ _)); exact BK134.out) hb); have n4_ := Aside0.mk (below_step (by repeat (first | (with_reducible first | exact HB.out | apply below_alloc | apply pw_below_drewN | apply below_drew1 | refine below_set ?_ GE115.out | refine below_set ?_ GE134.out) | exact HB.out)) hb); clear HO126; clear BK115; clear BK134; clear HB; have HO126 := n0_; have HO137 := n1_; have BK115 := n2_; have BK134 := n3_; have HB := n4_; clear n0_ n1_ n2_ n3_ n4_; (try clear hb); (try clear hb2); (try clear hk); (try clear hi); (try clear ho0); have hcz59_0 : w58.cell? ⟨gb115, 0, none⟩ = some (.string a1_0) := (blk_cell BK115.out 0).trans rfl; have hcz59_1 : w58.cell? ⟨gb115, 1, none⟩ = some (.int .i64 a1_1) := (blk_cell BK115.out 1).trans rfl; have hcz59_2 : w58.cell? ⟨gb115, 2, none⟩ = some (.int .i64 a1_2) := (blk_cell BK115.out 2).trans rfl; have hcz59_3 : w58.cell? ⟨gb115, 3, none⟩ = some (.int .i64 a1_3) := (blk_cell BK115.out 3).trans rfl; have hcz59_4 : w58.cell? ⟨gb115, 4, none⟩ = some (.string a1_4) := (blk_cell BK115.out 4).trans rfl; have hfz59_0 := blk_frozen BK115.out 0; have hfz59_1 := blk_frozen BK115.out 1; have hfz59_2 := blk_frozen BK115.out 2; have hfz59_3 := blk_frozen BK115.out 3; have hfz59_4 := blk_frozen BK115.out 4) | ((with_reducible refine gate_callee (f := 9) rfl ?_); refine goesL_ (some 57) rfl rfl Try.func9 (by kernel_rfl) rfl #[.slice Ao52 t124.length co52, .agg #[.string a1_0, .int .i64 a1_1, .int .i64 a1_2, .int .i64 a1_3, .string a1_4]] rfl (by (try simp only [List.map_toArray, List.map_cons, List.map_nil]); first | done | rfl | (simp only [List.length_drop, List.length_take]; rfl)) ?_; (with_reducible refine (rrset_Drop.calls _ _ t124 a1_0 a1_1 a1_2 a1_3 a1_4 t139 true _ ?side1 ?side2 A32.out).mono ?_); (case side1 => repeat (first | exact (Kd.R_reads' HO126.out).2.2 | (with_reducible refine Kd.C_alloc ?_ _) | (with_reducible refine Kd.C_drewN ?_ _) | (with_reducible refine Kd.C_drew ?_))); (case side2 => exact (Kd.R_reads' HO126.out).2.1); rintro e w60 ⟨v140, rfl, ho0, hb⟩; refine ⟨_, rfl, ?_⟩; have n0_ := Aside0.mk (Kd.R_elder' (by (with_reducible repeat (first | apply Kd.R_alloc | apply Kd.R_drewN | apply Kd.R_drew)); exact HO126.out) (Kd.R_base ho0) hb); have n1_ := Aside0.mk (Kd.R_elder' (by (with_reducible repeat (first | apply Kd.R_alloc | apply Kd.R_drewN | apply Kd.R_drew)); exact HO137.out) (Kd.R_base ho0) hb); have n2_ := Aside0.mk (Kd.R_lower (Kd.R_newB (Kd.R_newB (Kd.R_new' (Kd.R_new' ho0 (Kd.R_lt (by (with_reducible repeat (first | apply Kd.R_alloc | apply Kd.R_drewN | apply Kd.R_drew)); exact HO126.out))) (Kd.R_lt (by (with_reducible repeat (first | apply Kd.R_alloc | apply Kd.R_drewN | apply Kd.R_drew)); exact HO137.out))) (g := gb115) (o := .cells #[.string a1_0, .int .i64 a1_1, .int .i64 a1_2, .int .i64 a1_3, .string a1_4] 24 (0, 0)) (by (with_reducible repeat (first | refine blk_drewN ?_ _ | refine blk_drew ?_ | refine blk_alloc ?_ _)); exact BK115.out)) (g := gb134) (o := .cells #[.string t128, .int .i64 t129, .int .i64 t130, .int .i64 t131, .string t132] 24 (0, 0)) (by (with_reducible repeat (first | refine blk_drewN ?_ _ | refine blk_drew ?_ | refine blk_alloc ?_ _)); exact BK134.out)) (below_size (by repeat (first | (with_reducible first | exact HB.out | apply below_alloc | apply pw_below_drewN | apply below_drew1 | refine below_set ?_ GE115.out | refine below_set ?_ GE134.out) | exact HB.out)))); have n3_ := Aside0.mk (blk_below (g := gb115) (o := .cells #[.string a1_0, .int .i64 a1_1, .int .i64 a1_2, .int .i64 a1_3, .string a1_4] 24 (0, 0)) (by (with_reducible repeat (first | refine blk_drewN ?_ _ | refine blk_drew ?_ | refine blk_alloc ?_ _)); exact BK115.out) hb); have n4_ := Aside0.mk (blk_below (g := gb134) (o := .cells #[.string t128, .int .i64 t129, .int .i64 t130, .int .i64 t131, .string t132] 24 (0, 0)) (by (with_reducible repeat (first | refine blk_drewN ?_ _ | refine blk_drew ?_ | refine blk_alloc ?_ _)); exact BK134.out) hb); have n5_ := Aside0.mk (below_step (by repeat (first | (with_reducible first | exact HB.out | apply below_alloc | apply pw_below_drewN | apply below_drew1 | refine below_set ?_ GE115.out | refine below_set ?_ GE134.out) | exact HB.out)) hb); clear HO126; clear HO137; clear BK115; clear BK134; clear HB; have HO126 := n0_; have HO137 := n1_; have HO141 := n2_; have BK115 := n3_; have BK134 := n4_; have HB := n5_; clear n0_ n1_ n2_ n3_ n4_ n5_; (try clear hb); (try clear hb2); (try clear hk); (try clear hi); (try clear ho0); have hcz61_0 : w60.cell? ⟨gb115, 0, none⟩ = some (.string a1_0) := (blk_cell BK115.out 0).trans rfl; have hcz61_1 : w60.cell? ⟨gb115, 1, none⟩ = some (.int .i64 a1_1) := (blk_cell BK115.out 1).trans rfl; have hcz61_2 : w60.cell? ⟨gb115, 2, none⟩ = some (.int .i64 a1_2) := (blk_cell BK115.out 2).trans rfl; have hcz61_3 : w60.cell? ⟨gb115, 3, none⟩ = some (.int .i64 a1_3) := (blk_cell BK115.out 3).trans rfl; have hcz61_4 : w60.cell? ⟨gb115, 4, none⟩ = some (.string a1_4) := (blk_cell BK115.out 4).trans rfl; have hfz61_0 := blk_frozen BK115.out 0; have hfz61_1 := blk_frozen BK115.out 1; have hfz61_2 := blk_frozen BK115.out 2; have hfz61_3 := blk_frozen BK115.out 3; have hfz61_4 := blk_frozen BK115.out 4; obtain ⟨Ao62, co62, eo62⟩ := Kd.R_slice HO141.out; subst eo62) | ((with_reducible refine gate_callee (f := 10) rfl ?_); refine goesL_ (some 63) rfl rfl Try.func10 (by kernel_rfl) rfl #[.slice Ao62 t139.length co62, .agg #[.string a1_0, .int .i64 a1_1, .int .i64 a1_2, .int .i64 a1_3, .string a1_4]] rfl (by (try simp only [List.map_toArray, List.map_cons, List.map_nil]); first | done | rfl | (simp only [List.length_drop, List.length_take]; rfl)) ?_; (with_reducible refine (rrset_Find.calls _ _ t139 a1_0 a1_1 a1_2 a1_3 a1_4 t143 t144 t145 t146 t147 false _ ?side1 ?side2 A33.out).mono ?_); (case side1 => repeat (first | exact (Kd.R_reads' HO141.out).2.2 | (with_reducible refine Kd.C_alloc ?_ _) | (with_reducible refine Kd.C_drewN ?_ _) | (with_reducible refine Kd.C_drew ?_))); (case side2 => exact (Kd.R_reads' HO141.out).2.1); rintro e w63 ⟨rfl, hb⟩; refine ⟨_, rfl, ?_⟩; have n0_ := Aside0.mk (Kd.R_below (by (with_reducible repeat (first | apply Kd.R_alloc | apply Kd.R_drewN | apply Kd.R_drew)); exact HO126.out) hb); have n1_ := Aside0.mk (Kd.R_below (by (with_reducible repeat (first | apply Kd.R_alloc | apply Kd.R_drewN | apply Kd.R_drew)); exact HO137.out) hb); have n2_ := Aside0.mk (Kd.R_below (by (with_reducible repeat (first | apply Kd.R_alloc | apply Kd.R_drewN | apply Kd.R_drew)); exact HO141.out) hb); have n3_ := Aside0.mk (blk_below (g := gb115) (o := .cells #[.string a1_0, .int .i64 a1_1, .int .i64 a1_2, .int .i64 a1_3, .string a1_4] 24 (0, 0)) (by (with_reducible repeat (first | refine blk_drewN ?_ _ | refine blk_drew ?_ | refine blk_alloc ?_ _)); exact BK115.out) hb); have n4_ := Aside0.mk (blk_below (g := gb134) (o := .cells #[.string t128, .int .i64 t129, .int .i64 t130, .int .i64 t131, .string t132] 24 (0, 0)) (by (with_reducible repeat (first | refine blk_drewN ?_ _ | refine blk_drew ?_ | refine blk_alloc ?_ _)); exact BK134.out) hb); have n5_ := Aside0.mk (below_step (by repeat (first | (with_reducible first | exact HB.out | apply below_alloc | apply pw_below_drewN | apply below_drew1 | refine below_set ?_ GE115.out | refine below_set ?_ GE134.out) | exact HB.out)) hb); clear HO126; clear HO137; clear HO141; clear BK115; clear BK134; clear HB; have HO126 := n0_; have HO137 := n1_; have HO141 := n2_; have BK115 := n3_; have BK134 := n4_; have HB := n5_; clear n0_ n1_ n2_ n3_ n4_ n5_; (try clear hb); (try clear hb2); (try clear hk); (try clear hi)) | ((with_reducible refine gate_dst (N := 13) rfl ?_); (try (refine gate_guard (by rfl) ?_; dsimp only)); refine box_event ?hg (N := 13) ?hd (cs := #[.string (⟨#[]⟩ : ByteArray), .int .i64 0, .int .i64 0, .int .i64 0, .string (⟨#[]⟩ : ByteArray)]) (t := 24) ?hr ?_; (case hd => rfl); (case hg => rfl); (case hr => first | (go_simp; done) | (go_simp; rfl)); intro gb149 hg w64 hbox hb; have n0_ := Aside0.mk (Kd.R_below (Kd.R_elderB (by (with_reducible repeat (first | apply Kd.R_alloc | apply Kd.R_drewN | apply Kd.R_drew)); exact HO126.out) gb149 (Nat.le_of_eq hg.symm)) hb); have n1_ := Aside0.mk (Kd.R_below (Kd.R_elderB (by (with_reducible repeat (first | apply Kd.R_alloc | apply Kd.R_drewN | apply Kd.R_drew)); exact HO137.out) gb149 (Nat.le_of_eq hg.symm)) hb); have n2_ := Aside0.mk (Kd.R_below (Kd.R_elderB (by (with_reducible repeat (first | apply Kd.R_alloc | apply Kd.R_drewN | apply Kd.R_drew)); exact HO141.out) gb149 (Nat.le_of_eq hg.symm)) hb); have n3_ := Aside0.mk (blk_below (g := gb115) (o := .cells #[.string a1_0, .int .i64 a1_1, .int .i64 a1_2, .int .i64 a1_3, .string a1_4] 24 (0, 0)) (by (with_reducible repeat (first | refine blk_drewN ?_ _ | refine blk_drew ?_ | refine blk_alloc ?_ _)); exact BK115.out) hb); have n4_ := Aside0.mk (blk_below (g := gb134) (o := .cells #[.string t128, .int .i64 t129, .int .i64 t130, .int .i64 t131, .string t132] 24 (0, 0)) (by (with_reducible repeat (first | refine blk_drewN ?_ _ | refine blk_drew ?_ | refine blk_alloc ?_ _)); exact BK134.out) hb); have n5_ := Aside0.mk (below_step (by repeat (first | (with_reducible first | exact HB.out | apply below_alloc | apply pw_below_drewN | apply below_drew1 | refine below_set ?_ GE115.out | refine below_set ?_ GE134.out) | exact HB.out)) hb); have n6_ := Aside0.mk (hbox); have n7_ := Aside0.mk ((by rw [hg]; exact (below_size (by repeat (first | (with_reducible first | exact HB.out | apply below_alloc | apply pw_below_drewN | apply below_drew1 | refine below_set ?_ GE115.out | refine below_set ?_ GE134.out) | exact HB.out))) : w.heap.size ≤ gb149)); have n8_ := Aside0.mk ((by rw [hg]; exact (below_size (by repeat (first | (with_reducible first | exact HB.out | apply below_alloc | apply pw_below_drewN | apply below_drew1 | refine below_set ?_ GE115.out | refine below_set ?_ GE134.out) | exact HB.out))) : w.heap.size ≤ gb149)); have n9_ := Aside0.mk ((by rw [hg]; exact Nat.ne_of_lt (blk_lt (g := gb115) (o := .cells #[.string a1_0, .int .i64 a1_1, .int .i64 a1_2, .int .i64 a1_3, .string a1_4] 24 (0, 0)) (by (with_reducible repeat (first | refine blk_drewN ?_ _ | refine blk_drew ?_ | refine blk_alloc ?_ _)); exact BK115.out)) : gb115 ≠ gb149)); have n10_ := Aside0.mk ((by rw [hg]; exact Nat.ne_of_gt (blk_lt (g := gb115) (o := .cells #[.string a1_0, .int .i64 a1_1, .int .i64 a1_2, .int .i64 a1_3, .string a1_4] 24 (0, 0)) (by (with_reducible repeat (first | refine blk_drewN ?_ _ | refine blk_drew ?_ | refine blk_alloc ?_ _)); exact BK115.out)) : gb149 ≠ gb115)); have n11_ := Aside0.mk ((by rw [hg]; exact Nat.ne_of_lt (blk_lt (g := gb134) (o := .cells #[.string t128, .int .i64 t129, .int .i64 t130, .int .i64 t131, .string t132] 24 (0, 0)) (by (with_reducible repeat (first | refine blk_drewN ?_ _ | refine blk_drew ?_ | refine blk_alloc ?_ _)); exact BK134.out)) : gb134 ≠ gb149)); have n12_ := Aside0.mk ((by rw [hg]; exact Nat.ne_of_gt (blk_lt (g := gb134) (o := .cells #[.string t128, .int .i64 t129, .int .i64 t130, .int .i64 t131, .string t132] 24 (0, 0)) (by (with_reducible repeat (first | refine blk_drewN ?_ _ | refine blk_drew ?_ | refine blk_alloc ?_ _)); exact BK134.out)) : gb149 ≠ gb134)); clear HO126; clear HO137; clear HO141; clear BK115; clear BK134; clear HB; have HO126 := n0_; have HO137 := n1_; have HO141 := n2_; have BK115 := n3_; have BK134 := n4_; have HB := n5_; have BK149 := n6_; have GW149 := n7_; have GE149 := n8_; have NB115_149 := n9_; have NB149_115 := n10_; have NB134_149 := n11_; have NB149_134 := n12_; clear n0_ n1_ n2_ n3_ n4_ n5_ n6_ n7_ n8_ n9_ n10_ n11_ n12_; clear hb hbox hg; have hnb65 := NB149_115.out; have hnc65 := NB115_149.out; have hnb66 := NB149_134.out; have hnc66 := NB134_149.out; have hcz67_0 : w64.cell? ⟨gb149, 0, none⟩ = some (.string (⟨#[]⟩ : ByteArray)) := (blk_cell BK149.out 0).trans rfl; have hcz67_1 : w64.cell? ⟨gb149, 1, none⟩ = some (.int .i64 0) := (blk_cell BK149.out 1).trans rfl; have hcz67_2 : w64.cell? ⟨gb149, 2, none⟩ = some (.int .i64 0) := (blk_cell BK149.out 2).trans rfl; have hcz67_3 : w64.cell? ⟨gb149, 3, none⟩ = some (.int .i64 0) := (blk_cell BK149.out 3).trans rfl; have hcz67_4 : w64.cell? ⟨gb149, 4, none⟩ = some (.string (⟨#[]⟩ : ByteArray)) := (blk_cell BK149.out 4).trans rfl; have hfz67_0 := blk_frozen BK149.out 0; have hfz67_1 := blk_frozen BK149.out 1; have hfz67_2 := blk_frozen BK149.out 2; have hfz67_3 := blk_frozen BK149.out 3; have hfz67_4 := blk_frozen BK149.out 4; have hcz68_0 : w64.cell? ⟨gb115, 0, none⟩ = some (.string a1_0) := (blk_cell BK115.out 0).trans rfl; have hcz68_1 : w64.cell? ⟨gb115, 1, none⟩ = some (.int .i64 a1_1) := (blk_cell BK115.out 1).trans rfl; have hcz68_2 : w64.cell? ⟨gb115, 2, none⟩ = some (.int .i64 a1_2) := (blk_cell BK115.out 2).trans rfl; have hcz68_3 : w64.cell? ⟨gb115, 3, none⟩ = some (.int .i64 a1_3) := (blk_cell BK115.out 3).trans rfl; have hcz68_4 : w64.cell? ⟨gb115, 4, none⟩ = some (.string a1_4) := (blk_cell BK115.out 4).trans rfl; have hfz68_0 := blk_frozen BK115.out 0; have hfz68_1 := blk_frozen BK115.out 1; have hfz68_2 := blk_frozen BK115.out 2; have hfz68_3 := blk_frozen BK115.out 3; have hfz68_4 := blk_frozen BK115.out 4) | ((with_reducible refine gate_callee (f := 9) rfl ?_); refine goesL_ (some 69) rfl rfl Try.func9 (by kernel_rfl) rfl #[.slice Ao62 t139.length co62, .agg #[.string a1_0, .int .i64 a1_1, .int .i64 a1_2, .int .i64 a1_3, .string a1_4]] rfl (by (try simp only [List.map_toArray, List.map_cons, List.map_nil]); first | done | rfl | (simp only [List.length_drop, List.length_take]; rfl)) ?_; (with_reducible refine (rrset_Drop.calls _ _ t139 a1_0 a1_1 a1_2 a1_3 a1_4 t150 false _ ?side1 ?side2 A34.out).mono ?_); (case side1 => refine (Kd.R_reads' (e := 24) (base := w.heap.size) (ok := fun k_ => (((((True ∧ some k_ ≠ (.slice Ao52 t124.length co52 : Value).ownBlock) ∧ some k_ ≠ (v136 : Value).ownBlock) ∧ k_ ≠ gb115) ∧ k_ ≠ gb134) ∧ k_ ≠ gb149)) (n := t139.length) (c := co62) ?_).2.2; exact (by (with_reducible repeat (first | apply Kd.R_alloc | apply Kd.R_drewN | apply Kd.R_drew)); exact (Kd.R_mono (Kd.R_far (p := ⟨gb149, 4, none⟩) (Kd.R_far (p := ⟨gb149, 3, none⟩) (Kd.R_far (p := ⟨gb149, 2, none⟩) (Kd.R_far (p := ⟨gb149, 1, none⟩) (Kd.R_far (p := ⟨gb149, 0, none⟩) (Kd.R_mono HO141.out (fun k_ hk => (⟨hk, hk.2⟩ : _ ∧ k_ ≠ gb149))) (fun _ hk => hk.2) (.string t143)) (fun _ hk => hk.2) (.int .i64 t144)) (fun _ hk => hk.2) (.int .i64 t145)) (fun _ hk => hk.2) (.int .i64 t146)) (fun _ hk => hk.2) (.string t147)) (fun _ h_ => h_.1)))); (case side2 => exact (Kd.R_reads' HO141.out).2.1); rintro e w69 ⟨v151, rfl, ho0, hb⟩; refine ⟨_, rfl, ?_⟩; have n0_ := Aside0.mk (Kd.R_elder' (by (with_reducible repeat (first | apply Kd.R_alloc | apply Kd.R_drewN | apply Kd.R_drew)); exact (Kd.R_mono (Kd.R_far (p := ⟨gb149, 4, none⟩) (Kd.R_far (p := ⟨gb149, 3, none⟩) (Kd.R_far (p := ⟨gb149, 2, none⟩) (Kd.R_far (p := ⟨gb149, 1, none⟩) (Kd.R_far (p := ⟨gb149, 0, none⟩) (Kd.R_mono HO126.out (fun k_ hk => (⟨hk, hk.2⟩ : _ ∧ k_ ≠ gb149))) (fun _ hk => hk.2) (.string t143)) (fun _ hk => hk.2) (.int .i64 t144)) (fun _ hk => hk.2) (.int .i64 t145)) (fun _ hk => hk.2) (.int .i64 t146)) (fun _ hk => hk.2) (.string t147)) (fun _ h_ => h_.1))) (Kd.R_base ho0) hb); have n1_ := Aside0.mk (Kd.R_elder' (by (with_reducible repeat (first | apply Kd.R_alloc | apply Kd.R_drewN | apply Kd.R_drew)); exact (Kd.R_mono (Kd.R_far (p := ⟨gb149, 4, none⟩) (Kd.R_far (p := ⟨gb149, 3, none⟩) (Kd.R_far (p := ⟨gb149, 2, none⟩) (Kd.R_far (p := ⟨gb149, 1, none⟩) (Kd.R_far (p := ⟨gb149, 0, none⟩) (Kd.R_mono HO137.out (fun k_ hk => (⟨hk, hk.2⟩ : _ ∧ k_ ≠ gb149))) (fun _ hk => hk.2) (.string t143)) (fun _ hk => hk.2) (.int .i64 t144)) (fun _ hk => hk.2) (.int .i64 t145)) (fun _ hk => hk.2) (.int .i64 t146)) (fun _ hk => hk.2) (.string t147)) (fun _ h_ => h_.1))) (Kd.R_base ho0) hb); have n2_ := Aside0.mk (Kd.R_elder' (by (with_reducible repeat (first | apply Kd.R_alloc | apply Kd.R_drewN | apply Kd.R_drew)); exact (Kd.R_mono (Kd.R_far (p := ⟨gb149, 4, none⟩) (Kd.R_far (p := ⟨gb149, 3, none⟩) (Kd.R_far (p := ⟨gb149, 2, none⟩) (Kd.R_far (p := ⟨gb149, 1, none⟩) (Kd.R_far (p := ⟨gb149, 0, none⟩) (Kd.R_mono HO141.out (fun k_ hk => (⟨hk, hk.2⟩ : _ ∧ k_ ≠ gb149))) (fun _ hk => hk.2) (.string t143)) (fun _ hk => hk.2) (.int .i64 t144)) (fun _ hk => hk.2) (.int .i64 t145)) (fun _ hk => hk.2) (.int .i64 t146)) (fun _ hk => hk.2) (.string t147)) (fun _ h_ => h_.1))) (Kd.R_base ho0) hb); have n3_ := Aside0.mk (Kd.R_lower (Kd.R_newB (Kd.R_newB (Kd.R_newB (Kd.R_new' (Kd.R_new' (Kd.R_new' ho0 (Kd.R_lt (by (with_reducible repeat (first | apply Kd.R_alloc | apply Kd.R_drewN | apply Kd.R_drew)); exact (Kd.R_mono (Kd.R_far (p := ⟨gb149, 4, none⟩) (Kd.R_far (p := ⟨gb149, 3, none⟩) (Kd.R_far (p := ⟨gb149, 2, none⟩) (Kd.R_far (p := ⟨gb149, 1, none⟩) (Kd.R_far (p := ⟨gb149, 0, none⟩) (Kd.R_mono HO126.out (fun k_ hk => (⟨hk, hk.2⟩ : _ ∧ k_ ≠ gb149))) (fun _ hk => hk.2) (.string t143)) (fun _ hk => hk.2) (.int .i64 t144)) (fun _ hk => hk.2) (.int .i64 t145)) (fun _ hk => hk.2) (.int .i64 t146)) (fun _ hk => hk.2) (.string t147)) (fun _ h_ => h_.1))))) (Kd.R_lt (by (with_reducible repeat (first | apply Kd.R_alloc | apply Kd.R_drewN | apply Kd.R_drew)); exact (Kd.R_mono (Kd.R_far (p := ⟨gb149, 4, none⟩) (Kd.R_far (p := ⟨gb149, 3, none⟩) (Kd.R_far (p := ⟨gb149, 2, none⟩) (Kd.R_far (p := ⟨gb149, 1, none⟩) (Kd.R_far (p := ⟨gb149, 0, none⟩) (Kd.R_mono HO137.out (fun k_ hk => (⟨hk, hk.2⟩ : _ ∧ k_ ≠ gb149))) (fun _ hk => hk.2) (.string t143)) (fun _ hk => hk.2) (.int .i64 t144)) (fun _ hk => hk.2) (.int .i64 t145)) (fun _ hk => hk.2) (.int .i64 t146)) (fun _ hk => hk.2) (.string t147)) (fun _ h_ => h_.1))))) (Kd.R_lt (by (with_reducible repeat (first | apply Kd.R_alloc | apply Kd.R_drewN | apply Kd.R_drew)); exact (Kd.R_mono (Kd.R_far (p := ⟨gb149, 4, none⟩) (Kd.R_far (p := ⟨gb149, 3, none⟩) (Kd.R_far (p := ⟨gb149, 2, none⟩) (Kd.R_far (p := ⟨gb149, 1, none⟩) (Kd.R_far (p := ⟨gb149, 0, none⟩) (Kd.R_mono HO141.out (fun k_ hk => (⟨hk, hk.2⟩ : _ ∧ k_ ≠ gb149))) (fun _ hk => hk.2) (.string t143)) (fun _ hk => hk.2) (.int .i64 t144)) (fun _ hk => hk.2) (.int .i64 t145)) (fun _ hk => hk.2) (.int .i64 t146)) (fun _ hk => hk.2) (.string t147)) (fun _ h_ => h_.1))))) (g := gb115) (o := .cells #[.string a1_0, .int .i64 a1_1, .int .i64 a1_2, .int .i64 a1_3, .string a1_4] 24 (0, 0)) (by (with_reducible repeat (first | refine blk_drewN ?_ _ | refine blk_drew ?_ | refine blk_alloc ?_ _)); refine blk_far ?_ NB115_149.out _; (with_reducible repeat (first | refine blk_drewN ?_ _ | refine blk_drew ?_ | refine blk_alloc ?_ _)); refine blk_far ?_ NB115_149.out _; (with_reducible repeat (first | refine blk_drewN ?_ _ | refine blk_drew ?_ | refine blk_alloc ?_ _)); refine blk_far ?_ NB115_149.out _; (with_reducible repeat (first | refine blk_drewN ?_ _ | refine blk_drew ?_ | refine blk_alloc ?_ _)); refine blk_far ?_ NB115_149.out _; (with_reducible repeat (first | refine blk_drewN ?_ _ | refine blk_drew ?_ | refine blk_alloc ?_ _)); refine blk_far ?_ NB115_149.out _; (with_reducible repeat (first | refine blk_drewN ?_ _ | refine blk_drew ?_ | refine blk_alloc ?_ _)); exact BK115.out)) (g := gb134) (o := .cells #[.string t128, .int .i64 t129, .int .i64 t130, .int .i64 t131, .string t132] 24 (0, 0)) (by (with_reducible repeat (first | refine blk_drewN ?_ _ | refine blk_drew ?_ | refine blk_alloc ?_ _)); refine blk_far ?_ NB134_149.out _; (with_reducible repeat (first | refine blk_drewN ?_ _ | refine blk_drew ?_ | refine blk_alloc ?_ _)); refine blk_far ?_ NB134_149.out _; (with_reducible repeat (first | refine blk_drewN ?_ _ | refine blk_drew ?_ | refine blk_alloc ?_ _)); refine blk_far ?_ NB134_149.out _; (with_reducible repeat (first | refine blk_drewN ?_ _ | refine blk_drew ?_ | refine blk_alloc ?_ _)); refine blk_far ?_ NB134_149.out _; (with_reducible repeat (first | refine blk_drewN ?_ _ | refine blk_drew ?_ | refine blk_alloc ?_ _)); refine blk_far ?_ NB134_149.out _; (with_reducible repeat (first | refine blk_drewN ?_ _ | refine blk_drew ?_ | refine blk_alloc ?_ _)); exact BK134.out)) (g := gb149) (o := .cells #[.string t143, .int .i64 t144, .int .i64 t145, .int .i64 t146, .string t147] 24 (0, 0)) (by (with_reducible repeat (first | refine blk_drewN ?_ _ | refine blk_drew ?_ | refine blk_alloc ?_ _)); refine blk_put (cs := #[.string t143, .int .i64 t144, .int .i64 t145, .int .i64 t146, .string (⟨#[]⟩ : ByteArray)]) ?_ 4 _ rfl; (with_reducible repeat (first | refine blk_drewN ?_ _ | refine blk_drew ?_ | refine blk_alloc ?_ _)); refine blk_put (cs := #[.string t143, .int .i64 t144, .int .i64 t145, .int .i64 0, .string (⟨#[]⟩ : ByteArray)]) ?_ 3 _ rfl; (with_reducible repeat (first | refine blk_drewN ?_ _ | refine blk_drew ?_ | refine blk_alloc ?_ _)); refine blk_put (cs := #[.string t143, .int .i64 t144, .int .i64 0, .int .i64 0, .string (⟨#[]⟩ : ByteArray)]) ?_ 2 _ rfl; (with_reducible repeat (first | refine blk_drewN ?_ _ | refine blk_drew ?_ | refine blk_alloc ?_ _)); refine blk_put (cs := #[.string t143, .int .i64 0, .int .i64 0, .int .i64 0, .string (⟨#[]⟩ : ByteArray)]) ?_ 1 _ rfl; (with_reducible repeat (first | refine blk_drewN ?_ _ | refine blk_drew ?_ | refine blk_alloc ?_ _)); refine blk_put (cs := #[.string (⟨#[]⟩ : ByteArray), .int .i64 0, .int .i64 0, .int .i64 0, .string (⟨#[]⟩ : ByteArray)]) ?_ 0 _ rfl; (with_reducible repeat (first | refine blk_drewN ?_ _ | refine blk_drew ?_ | refine blk_alloc ?_ _)); exact BK149.out)) (below_size (by repeat (first | (with_reducible first | exact HB.out | apply below_alloc | apply pw_below_drewN | apply below_drew1 | refine below_set ?_ GE115.out | refine below_set ?_ GE134.out | refine below_set ?_ GE149.out) | exact HB.out)))); have n4_ := Aside0.mk (blk_below (g := gb115) (o := .cells #[.string a1_0, .int .i64 a1_1, .int .i64 a1_2, .int .i64 a1_3, .string a1_4] 24 (0, 0)) (by (with_reducible repeat (first | refine blk_drewN ?_ _ | refine blk_drew ?_ | refine blk_alloc ?_ _)); refine blk_far ?_ NB115_149.out _; (with_reducible repeat (first | refine blk_drewN ?_ _ | refine blk_drew ?_ | refine blk_alloc ?_ _)); refine blk_far ?_ NB115_149.out _; (with_reducible repeat (first | refine blk_drewN ?_ _ | refine blk_drew ?_ | refine blk_alloc ?_ _)); refine blk_far ?_ NB115_149.out _; (with_reducible repeat (first | refine blk_drewN ?_ _ | refine blk_drew ?_ | refine blk_alloc ?_ _)); refine blk_far ?_ NB115_149.out _; (with_reducible repeat (first | refine blk_drewN ?_ _ | refine blk_drew ?_ | refine blk_alloc ?_ _)); refine blk_far ?_ NB115_149.out _; (with_reducible repeat (first | refine blk_drewN ?_ _ | refine blk_drew ?_ | refine blk_alloc ?_ _)); exact BK115.out) hb); have n5_ := Aside0.mk (blk_below (g := gb134) (o := .cells #[.string t128, .int .i64 t129, .int .i64 t130, .int .i64 t131, .string t132] 24 (0, 0)) (by (with_reducible repeat (first | refine blk_drewN ?_ _ | refine blk_drew ?_ | refine blk_alloc ?_ _)); refine blk_far ?_ NB134_149.out _; (with_reducible repeat (first | refine blk_drewN ?_ _ | refine blk_drew ?_ | refine blk_alloc ?_ _)); refine blk_far ?_ NB134_149.out _; (with_reducible repeat (first | refine blk_drewN ?_ _ | refine blk_drew ?_ | refine blk_alloc ?_ _)); refine blk_far ?_ NB134_149.out _; (with_reducible repeat (first | refine blk_drewN ?_ _ | refine blk_drew ?_ | refine blk_alloc ?_ _)); refine blk_far ?_ NB134_149.out _; (with_reducible repeat (first | refine blk_drewN ?_ _ | refine blk_drew ?_ | refine blk_alloc ?_ _)); refine blk_far ?_ NB134_149.out _; (with_reducible repeat (first | refine blk_drewN ?_ _ | refine blk_drew ?_ | refine blk_alloc ?_ _)); exact BK134.out) hb); have n6_ := Aside0.mk (blk_below (g := gb149) (o := .cells #[.string t143, .int .i64 t144, .int .i64 t145, .int .i64 t146, .string t147] 24 (0, 0)) (by (with_reducible repeat (first | refine blk_drewN ?_ _ | refine blk_drew ?_ | refine blk_alloc ?_ _)); refine blk_put (cs := #[.string t143, .int .i64 t144, .int .i64 t145, .int .i64 t146, .string (⟨#[]⟩ : ByteArray)]) ?_ 4 _ rfl; (with_reducible repeat (first | refine blk_drewN ?_ _ | refine blk_drew ?_ | refine blk_alloc ?_ _)); refine blk_put (cs := #[.string t143, .int .i64 t144, .int .i64 t145, .int .i64 0, .string (⟨#[]⟩ : ByteArray)]) ?_ 3 _ rfl; (with_reducible repeat (first | refine blk_drewN ?_ _ | refine blk_drew ?_ | refine blk_alloc ?_ _)); refine blk_put (cs := #[.string t143, .int .i64 t144, .int .i64 0, .int .i64 0, .string (⟨#[]⟩ : ByteArray)]) ?_ 2 _ rfl; (with_reducible repeat (first | refine blk_drewN ?_ _ | refine blk_drew ?_ | refine blk_alloc ?_ _)); refine blk_put (cs := #[.string t143, .int .i64 0, .int .i64 0, .int .i64 0, .string (⟨#[]⟩ : ByteArray)]) ?_ 1 _ rfl; (with_reducible repeat (first | refine blk_drewN ?_ _ | refine blk_drew ?_ | refine blk_alloc ?_ _)); refine blk_put (cs := #[.string (⟨#[]⟩ : ByteArray), .int .i64 0, .int .i64 0, .int .i64 0, .string (⟨#[]⟩ : ByteArray)]) ?_ 0 _ rfl; (with_reducible repeat (first | refine blk_drewN ?_ _ | refine blk_drew ?_ | refine blk_alloc ?_ _)); exact BK149.out) hb); have n7_ := Aside0.mk (below_step (by repeat (first | (with_reducible first | exact HB.out | apply below_alloc | apply pw_below_drewN | apply below_drew1 | refine below_set ?_ GE115.out | refine below_set ?_ GE134.out | refine below_set ?_ GE149.out) | exact HB.out)) hb); clear HO126; clear HO137; clear HO141; clear BK115; clear BK134; clear BK149; clear HB; have HO126 := n0_; have HO137 := n1_; have HO141 := n2_; have HO152 := n3_; have BK115 := n4_; have BK134 := n5_; have BK149 := n6_; have HB := n7_; clear n0_ n1_ n2_ n3_ n4_ n5_ n6_ n7_; (try clear hb); (try clear hb2); (try clear hk); (try clear hi); (try clear ho0)) | ((with_reducible refine gate_callee (f := 15) rfl ?_); refine goesL_ (some 73) rfl rfl Try.func15 (by kernel_rfl) rfl #[.slice Ao52 t124.length co52] rfl (by (try simp only [List.map_toArray, List.map_cons, List.map_nil]); first | done | rfl | (simp only [List.length_drop, List.length_take]; rfl)) ?_; (with_reducible refine (rrset_Is.calls kj2 _ _ t124 true _ ?side1 ?side2 A35.out).mono ?_); (case side1 => repeat (first | exact (Kd.R_reads' HO126.out).2.2 | (with_reducible refine Kd.C_alloc ?_ _) | (with_reducible refine Kd.C_drewN ?_ _) | (with_reducible refine Kd.C_drew ?_))); (case side2 => exact (Kd.R_reads' HO126.out).2.1); rintro e w70 ⟨rfl, hb⟩; refine ⟨_, rfl, ?_⟩; have n0_ := Aside0.mk (Kd.R_below (by (with_reducible repeat (first | apply Kd.R_alloc | apply Kd.R_drewN | apply Kd.R_drew)); exact HO126.out) hb); have n1_ := Aside0.mk (Kd.R_below (by (with_reducible repeat (first | apply Kd.R_alloc | apply Kd.R_drewN | apply Kd.R_drew)); exact HO137.out) hb); have n2_ := Aside0.mk (Kd.R_below (by (with_reducible repeat (first | apply Kd.R_alloc | apply Kd.R_drewN | apply Kd.R_drew)); exact HO141.out) hb); have n3_ := Aside0.mk (Kd.R_below (by (with_reducible repeat (first | apply Kd.R_alloc | apply Kd.R_drewN | apply Kd.R_drew)); exact HO152.out) hb); have n4_ := Aside0.mk (blk_below (g := gb115) (o := .cells #[.string a1_0, .int .i64 a1_1, .int .i64 a1_2, .int .i64 a1_3, .string a1_4] 24 (0, 0)) (by (with_reducible repeat (first | refine blk_drewN ?_ _ | refine blk_drew ?_ | refine blk_alloc ?_ _)); exact BK115.out) hb); have n5_ := Aside0.mk (blk_below (g := gb134) (o := .cells #[.string t128, .int .i64 t129, .int .i64 t130, .int .i64 t131, .string t132] 24 (0, 0)) (by (with_reducible repeat (first | refine blk_drewN ?_ _ | refine blk_drew ?_ | refine blk_alloc ?_ _)); exact BK134.out) hb); have n6_ := Aside0.mk (blk_below (g := gb149) (o := .cells #[.string t143, .int .i64 t144, .int .i64 t145, .int .i64 t146, .string t147] 24 (0, 0)) (by (with_reducible repeat (first | refine blk_drewN ?_ _ | refine blk_drew ?_ | refine blk_alloc ?_ _)); exact BK149.out) hb); have n7_ := Aside0.mk (below_step (by repeat (first | (with_reducible first | exact HB.out | apply below_alloc | apply pw_below_drewN | apply below_drew1 | refine below_set ?_ GE115.out | refine below_set ?_ GE134.out | refine below_set ?_ GE149.out) | exact HB.out)) hb); clear HO126; clear HO137; clear HO141; clear HO152; clear BK115; clear BK134; clear BK149; clear HB; have HO126 := n0_; have HO137 := n1_; have HO141 := n2_; have HO152 := n3_; have BK115 := n4_; have BK134 := n5_; have BK149 := n6_; have HB := n7_; clear n0_ n1_ n2_ n3_ n4_ n5_ n6_ n7_; (try clear hb); (try clear hb2); (try clear hk); (try clear hi)) | (go_at_call 15; (with_reducible refine (rrset_Is.calls kj2 _ _ t139 true _ ?side1 ?side2 A37.out).mono ?_); (case side1 => repeat (first | exact (Kd.R_reads' HO141.out).2.2 | (with_reducible refine Kd.C_alloc ?_ _) | (with_reducible refine Kd.C_drewN ?_ _) | (with_reducible refine Kd.C_drew ?_))); (case side2 => exact (Kd.R_reads' HO141.out).2.1); rintro e w71 ⟨rfl, hb⟩; have n0_ := Aside0.mk (Kd.R_below (by (with_reducible repeat (first | apply Kd.R_alloc | apply Kd.R_drewN | apply Kd.R_drew)); exact HO126.out) hb); have n1_ := Aside0.mk (Kd.R_below (by (with_reducible repeat (first | apply Kd.R_alloc | apply Kd.R_drewN | apply Kd.R_drew)); exact HO137.out) hb); have n2_ := Aside0.mk (Kd.R_below (by (with_reducible repeat (first | apply Kd.R_alloc | apply Kd.R_drewN | apply Kd.R_drew)); exact HO141.out) hb); have n3_ := Aside0.mk (Kd.R_below (by (with_reducible repeat (first | apply Kd.R_alloc | apply Kd.R_drewN | apply Kd.R_drew)); exact HO152.out) hb); have n4_ := Aside0.mk (blk_below (g := gb115) (o := .cells #[.string a1_0, .int .i64 a1_1, .int .i64 a1_2, .int .i64 a1_3, .string a1_4] 24 (0, 0)) (by (with_reducible repeat (first | refine blk_drewN ?_ _ | refine blk_drew ?_ | refine blk_alloc ?_ _)); exact BK115.out) hb); have n5_ := Aside0.mk (blk_below (g := gb134) (o := .cells #[.string t128, .int .i64 t129, .int .i64 t130, .int .i64 t131, .string t132] 24 (0, 0)) (by (with_reducible repeat (first | refine blk_drewN ?_ _ | refine blk_drew ?_ | refine blk_alloc ?_ _)); exact BK134.out) hb); have n6_ := Aside0.mk (blk_below (g := gb149) (o := .cells #[.string t143, .int .i64 t144, .int .i64 t145, .int .i64 t146, .string t147] 24 (0, 0)) (by (with_reducible repeat (first | refine blk_drewN ?_ _ | refine blk_drew ?_ | refine blk_alloc ?_ _)); exact BK149.out) hb); have n7_ := Aside0.mk (below_step (by repeat (first | (with_reducible first | exact HB.out | apply below_alloc | apply pw_below_drewN | apply below_drew1 | refine below_set ?_ GE115.out | refine below_set ?_ GE134.out | refine below_set ?_ GE149.out) | exact HB.out)) hb); clear HO126; clear HO137; clear HO141; clear HO152; clear BK115; clear BK134; clear BK149; clear HB; have HO126 := n0_; have HO137 := n1_; have HO141 := n2_; have HO152 := n3_; have BK115 := n4_; have BK134 := n5_; have BK149 := n6_; have HB := n7_; clear n0_ n1_ n2_ n3_ n4_ n5_ n6_ n7_; (try clear hb); (try clear hb2); (try clear hk); (try clear hi); have hcz72_0 : w71.cell? ⟨gb134, 0, none⟩ = some (.string t128) := (blk_cell BK134.out 0).trans rfl; have hcz72_1 : w71.cell? ⟨gb134, 1, none⟩ = some (.int .i64 t129) := (blk_cell BK134.out 1).trans rfl; have hcz72_2 : w71.cell? ⟨gb134, 2, none⟩ = some (.int .i64 t130) := (blk_cell BK134.out 2).trans rfl; have hcz72_3 : w71.cell? ⟨gb134, 3, none⟩ = some (.int .i64 t131) := (blk_cell BK134.out 3).trans rfl; have hcz72_4 : w71.cell? ⟨gb134, 4, none⟩ = some (.string t132) := (blk_cell BK134.out 4).trans rfl; have hfz72_0 := blk_frozen BK134.out 0; have hfz72_1 := blk_frozen BK134.out 1; have hfz72_2 := blk_frozen BK134.out 2; have hfz72_3 := blk_frozen BK134.out 3; have hfz72_4 := blk_frozen BK134.out 4; have hcz73_0 : w71.cell? ⟨gb115, 0, none⟩ = some (.string a1_0) := (blk_cell BK115.out 0).trans rfl; have hcz73_1 : w71.cell? ⟨gb115, 1, none⟩ = some (.int .i64 a1_1) := (blk_cell BK115.out 1).trans rfl; have hcz73_2 : w71.cell? ⟨gb115, 2, none⟩ = some (.int .i64 a1_2) := (blk_cell BK115.out 2).trans rfl; have hcz73_3 : w71.cell? ⟨gb115, 3, none⟩ = some (.int .i64 a1_3) := (blk_cell BK115.out 3).trans rfl; have hcz73_4 : w71.cell? ⟨gb115, 4, none⟩ = some (.string a1_4) := (blk_cell BK115.out 4).trans rfl; have hfz73_0 := blk_frozen BK115.out 0; have hfz73_1 := blk_frozen BK115.out 1; have hfz73_2 := blk_frozen BK115.out 2; have hfz73_3 := blk_frozen BK115.out 3; have hfz73_4 := blk_frozen BK115.out 4; obtain ⟨Ao74, co74, eo74⟩ := Kd.R_slice HO137.out; subst eo74) | (go_at_call 14; (with_reducible refine (beadrollref11_Same.calls kj2 _ _ t124 _ _ t135 true _ ?side1 ?side2 ?side3 ?side4 A42.out).mono ?_); (case side1 => repeat (first | exact (Kd.R_reads' HO126.out).2.2 | (with_reducible refine Kd.C_alloc ?_ _) | (with_reducible refine Kd.C_drewN ?_ _) | (with_reducible refine Kd.C_drew ?_))); (case side2 => exact (Kd.R_reads' HO126.out).2.1); (case side3 => repeat (first | exact (Kd.R_reads' HO137.out).2.2 | (with_reducible refine Kd.C_alloc ?_ _) | (with_reducible refine Kd.C_drewN ?_ _) | (with_reducible refine Kd.C_drew ?_))); (case side4 => exact (Kd.R_reads' HO137.out).2.1); rintro e w' ⟨rfl, ⟨nd, rfl⟩⟩; obtain ⟨Ao75, co75, eo75⟩ := Kd.R_slice HO152.out; subst eo75) | (go_at_call 14; (with_reducible refine (beadrollref11_Same.calls kj2 _ _ t139 _ _ t150 true _ ?side1 ?side2 ?side3 ?side4 A47.out).mono ?_); (case side1 => repeat (first | exact (Kd.R_reads' HO141.out).2.2 | (with_reducible refine Kd.C_alloc ?_ _) | (with_reducible refine Kd.C_drewN ?_ _) | (with_reducible refine Kd.C_drew ?_))); (case side2 => exact (Kd.R_reads' HO141.out).2.1); (case side3 => repeat (first | exact (Kd.R_reads' HO152.out).2.2 | (with_reducible refine Kd.C_alloc ?_ _) | (with_reducible refine Kd.C_drewN ?_ _) | (with_reducible refine Kd.C_drew ?_))); (case side4 => exact (Kd.R_reads' HO152.out).2.1); rintro e w' ⟨rfl, ⟨nd, rfl⟩⟩))
              go_ret
              exact ⟨by first | rfl | (simp [errW_none, errW_some] <;> rfl) | (simp [*, errW_none, errW_some] <;> rfl), by repeat (first | (with_reducible first | exact HB.out | apply below_alloc | apply pw_below_drewN | apply below_drew1 | refine below_set ?_ GE115.out | refine below_set ?_ GE134.out | refine below_set ?_ GE149.out) | exact HB.out)⟩
             ·replace c48 := Bool.eq_false_iff.mpr c48
              subst c48
              have H1 : (none) = some r := by rw [if_neg (show ¬ (false = true) by decide)] at H; exact H
              clear H
              have H := H1
              clear H1
              exact absurd H (by simp)
          ·replace c44 := Bool.eq_false_iff.mpr c44
           subst c44
           have H1 : (none) = some r := by rw [if_neg (show ¬ (false = true) by decide)] at H; exact H
           clear H
           have H := H1
           clear H1
           exact absurd H (by simp)
         ·replace c43 := Bool.eq_false_iff.mpr c43
          subst c43
          have H1 : (none) = some r := by rw [if_neg (show ¬ (false = true) by decide)] at H; exact H
          clear H
          have H := H1
          clear H1
          exact absurd H (by simp)
       ·rw [if_neg c40] at H
        exact absurd H (by simp)
      ·replace c39 := Bool.eq_false_iff.mpr c39
       subst c39
       have H1 : (none) = some r := by rw [if_neg (show ¬ (false = true) by decide)] at H; exact H
       clear H
       have H := H1
       clear H1
       exact absurd H (by simp)
     ·replace c38 := Bool.eq_false_iff.mpr c38
      subst c38
      have H1 : (none) = some r := by rw [if_neg (show ¬ (false = true) by decide)] at H; exact H
      clear H
      have H := H1
      clear H1
      exact absurd H (by simp)
    ·replace c36 := Bool.eq_false_iff.mpr c36
     subst c36
     have H1 : (none) = some r := by rw [if_neg (show ¬ (false = true) by decide)] at H; exact H
     clear H
     have H := H1
     clear H1
     exact absurd H (by simp)
end Go.Proofs.Ytnpiglojamhpiaa.PRs
namespace Go.Proofs.Ytnpiglojamhpiaa.Rrs
open Go.RowKit Go.Proofs.YtnpiglojamhpiaaW.PrintWords Go.Proofs.YtnpiglojamhpiaaW.PrintLast Go.Proofs.YtnpiglojamhpiaaW.PrintMore Go.Proofs.Ytnpiglojamhpiaa.Given Go.Proofs.Ytnpiglojamhpiaa.PRd Go.Proofs.Ytnpiglojamhpiaa.PRr Go.Proofs.Ytnpiglojamhpiaa.PRs Go.Proofs.Ytnpiglojamhpiaa.Oct Go.Proofs.Ytnpiglojamhpiaa.Name Go.Proofs.Ytnpiglojamhpiaa.Cmp Go.Proofs.Ytnpiglojamhpiaa.NameFacts Go.Proofs.Ytnpiglojamhpiaa.RdataFacts Go.Proofs.Ytnpiglojamhpiaa.SetLaw
set_option linter.unusedVariables false
theorem is_loop (l : List RR) (hl : ∀ y ∈ l, fine y) (hn : l.length ≤ 1000000) : ∀ (d i : Nat), l.length ≤ i + d → Ev (fun k => rrset_Is.l0 k l ((i + 1 : Nat) : Int)) (chain cmpRR (l.drop i)) := by
  intro d
  induction d with
  | zero =>
    intro i hd
    refine Ev.step (f := fun _ => some true) (fun k => by simp only [rrset_Is.l0]; rw [if_neg (by omega)]) ?_
    rw [List.drop_of_length_le (by omega)]
    exact Ev.now _
  | succ d ih =>
    intro i hd
    by_cases hi : i + 1 < l.length
    · have e0 : wrap64 (((i + 1 : Nat) : Int) - 1) = (i : Int) := by unfold wrap64; omega
      have e1 : wrap64 (((i + 1 : Nat) : Int) + 1) = ((i + 1 + 1 : Nat) : Int) := by unfold wrap64; omega
      have hs : ∀ k, rrset_Is.l0 (k + 1) l ((i + 1 : Nat) : Int) = (cmpO k (rdR l (i : Nat)) (rdR l ((i + 1 : Nat) : Int))).bind fun t => if t ≥ 0 then some false else rrset_Is.l0 k l ((i + 1 + 1 : Nat) : Int) := fun k => by
        simp only [rrset_Is.l0, e0, e1]
        rw [if_pos (by omega), if_pos (by omega), if_pos (by omega), if_pos (by omega)]
        rfl
      refine Ev.step hs ?_
      rw [rdR_get l i (by omega), rdR_get l (i + 1) hi]
      refine Ev.bind (ev_cmp _ _ (hl _ (List.getElem_mem _)) (hl _ (List.getElem_mem _))) ?_
      rw [drop_two l i hi, chain, ← List.drop_eq_getElem_cons hi]
      by_cases hc : cmpRR l[i] l[i + 1] ≥ 0
      · rw [decide_eq_false (by omega), Bool.false_and]
        simp only [hc, if_true]
        exact Ev.now _
      · rw [decide_eq_true (by omega), Bool.true_and]
        simp only [hc, if_false]
        exact ih (i + 1) (by omega)
    · refine Ev.step (f := fun _ => some true) (fun k => by simp only [rrset_Is.l0]; rw [if_neg (by omega)]) ?_
      have : (l.drop i).length ≤ 1 := by rw [List.length_drop]; omega
      have e : chain cmpRR (l.drop i) = true := by
        match h : l.drop i, this with
        | [], _ => rfl
        | [_], _ => rfl
        | _ :: _ :: _, h' => simp at h'
      rw [e]
      exact Ev.now _
theorem ev_is (l : List RR) (hl : ∀ y ∈ l, fine y) (hn : l.length ≤ 1000000) : Ev (fun k => rrset_Is.f k l) (chain cmpRR l) := by
  have h := is_loop l hl hn l.length 0 (by omega)
  rw [List.drop_zero] at h
  exact h
def foundT : Option RR → ByteArray × Int × Int × Int × ByteArray × Bool
  | some y => (y.f0, y.f1, y.f2, y.f3, y.f4, true)
  | none => (⟨#[]⟩, 0, 0, 0, ⟨#[]⟩, false)
theorem Find_f {l : List RR} {x : RR} (h : SetOf l) (hx : fine x) : rrset_Find.f l x.f0 x.f1 x.f2 x.f3 x.f4 = some (foundT (find cmpRR l x)) := by
  unfold rrset_Find.f
  rw [at_f h hx, Option.bind_some, find_hit h hx]
  by_cases hh : hit l x = true
  · obtain ⟨hp, _⟩ := (hit_is h hx).mp hh
    simp only [hh, if_true]
    rw [if_pos (by omega), if_pos (by omega)]
    rfl
  · simp only [hh, Bool.false_eq_true, if_false]
    rfl
theorem setOf_nil : SetOf [] := ⟨fun y hy => by (cases hy), Nat.zero_le _, List.Pairwise.nil⟩
theorem awake_f : beadrolllaw13_awake.f = some true := by
  have hx : fine (⟨⟨#[1, 97, 0]⟩, 1, 1, 0, ⟨#[97, 98, 99, 100]⟩⟩ : RR) := ⟨by kernel_rfl, by decide⟩
  have e : rrset_Put.f ([] : List RR) (⟨#[1, 97, 0]⟩ : ByteArray) 1 1 0 (⟨#[97, 98, 99, 100]⟩ : ByteArray) = _ := put_f setOf_nil hx
  have hb : putB [] (⟨⟨#[1, 97, 0]⟩, 1, 1, 0, ⟨#[97, 98, 99, 100]⟩⟩ : RR) = true := (putB_is setOf_nil hx).mpr (by rw [put]; simp)
  unfold beadrolllaw13_awake.f
  have t1 : (⟨#[1, 97, 0]⟩ : ByteArray).toList = [1, 97, 0] := by kernel_rfl
  have t2 : (⟨#[97, 98, 99, 100]⟩ : ByteArray).toList = [97, 98, 99, 100] := by kernel_rfl
  have r0 : rdR [(⟨⟨#[1, 97, 0]⟩, 1, 1, 0, ⟨#[97, 98, 99, 100]⟩⟩ : RR)] 0 = ⟨⟨#[1, 97, 0]⟩, 1, 1, 0, ⟨#[97, 98, 99, 100]⟩⟩ := rfl
  rw [e, hb, put]
  simp only [Option.bind_some, if_true, r0, t1, t2, List.length_singleton]
  rfl
end Go.Proofs.Ytnpiglojamhpiaa.Rrs
namespace Go.Proofs.Ytnpiglojamhpiaa.Pure
open Go.RowKit Go.Proofs.YtnpiglojamhpiaaW.PrintWords Go.Proofs.YtnpiglojamhpiaaW.PrintLast Go.Proofs.YtnpiglojamhpiaaW.PrintMore Go.Proofs.Ytnpiglojamhpiaa.Given Go.Proofs.Ytnpiglojamhpiaa.PRd Go.Proofs.Ytnpiglojamhpiaa.PRr Go.Proofs.Ytnpiglojamhpiaa.PRs Go.Proofs.Ytnpiglojamhpiaa.SetLaw Go.Proofs.Ytnpiglojamhpiaa.Rrs Go.Proofs.Ytnpiglojamhpiaa.RowStructs
set_option linter.unusedVariables false
theorem finds_yes (l : List RR) (x : RR) (h : SetOf l) (hx : fine x) (hn : l.length ≤ 1000) : Ev (fun k => beadrolllaw13_RrsetFinds.j0 k l false x.f0 x.f1 x.f2 x.f3 x.f4) true := by
  have ha : SetOf (put cmpRR l x) := h.put hx (by omega)
  have hc : SetOf (drop cmpRR (put cmpRR l x) x) := ha.drop
  have f1 : find cmpRR (put cmpRR l x) x = some x := by rw [find_put ordRR h.set, if_pos (ordRR.refl x)]
  have f2 : find cmpRR (drop cmpRR (put cmpRR l x) x) x = none := by rw [find_drop ordRR, if_pos (ordRR.refl x)]
  have p1 : put cmpRR (put cmpRR l x) x = put cmpRR l x := put_put ordRR h.set x
  have p2 : putB (put cmpRR l x) x = false := by
    exact Bool.eq_false_iff.mpr fun h1 => (putB_is ha hx).mp h1 p1
  have d1 : drop cmpRR (drop cmpRR (put cmpRR l x) x) x = drop cmpRR (put cmpRR l x) x := drop_drop _ _
  have len : (put cmpRR l x).length = (drop cmpRR (put cmpRR l x) x).length + 1 := by
    have := put_length ordRR ha.set x
    rw [p1] at this
    exact this
  have hal := ha.len
  refine Ev.step (fun k => by rw [beadrolllaw13_RrsetFinds.j0, if_neg (by decide), put_f h hx, Option.bind_some, Find_f ha hx, Option.bind_some, put_f ha hx, Option.bind_some, drop_f ha hx, Option.bind_some, Find_f hc hx, Option.bind_some, drop_f hc hx, Option.bind_some, f1, f2, p1, p2, d1]) ?_
  refine Ev.bind (ev_is _ ha.all ha.len) ?_
  rw [(chain_iff ordRR _).mpr ha.set]
  simp only [if_true]
  refine Ev.bind (ev_is _ hc.all hc.len) ?_
  rw [(chain_iff ordRR _).mpr hc.set]
  simp only [foundT, if_true, beq_self_eq_true, Bool.and_self, Option.isSome_some, Option.isSome_none, Bool.false_eq_true, if_false]
  refine Ev.bind (ev_same _ _ (by omega)) ?_
  simp only [decide_true, if_true]
  refine Ev.bind (ev_same _ _ (by have := hc.len; omega)) ?_
  simp only [decide_true, if_true]
  refine Ev.const ?_
  rw [len, show wrap64 (((drop cmpRR (put cmpRR l x) x).length : Int) + 1) = (((drop cmpRR (put cmpRR l x) x).length + 1 : Nat) : Int) from by unfold wrap64; omega, beq_self_eq_true]
theorem finds_off (l : List RR) (x : RR) : Ev (fun k => beadrolllaw13_RrsetFinds.j0 k l true x.f0 x.f1 x.f2 x.f3 x.f4) true :=
  Ev.step (f := fun _ => some true) (fun k => by rw [beadrolllaw13_RrsetFinds.j0, if_pos rfl, awake_f]; rfl) (Ev.now _)
theorem RrsetFinds (l : List RR) (x : RR) (hm : l.length ≤ maxLen) (hs : ∀ s ∈ l, GoodRR s) (hx : GoodRR x) : ∃ k, beadrolllaw13_RrsetFinds.f k l x.f0 x.f1 x.f2 x.f3 x.f4 = some true := by
  refine Ev.rounds ?_
  unfold maxLen at hm
  unfold beadrolllaw13_RrsetFinds.f
  simp only [awake_f, Option.bind_some, if_true]
  refine Ev.bind (ev_rights l (by omega)) ?_
  cases hr : rightsB l
  · simp only [Bool.false_eq_true, if_false]
    exact finds_off l x
  · obtain ⟨hl, hn, _⟩ := rights_fine hr
    simp only [if_true]
    refine Ev.bind (ev_ris l hl (by omega)) ?_
    cases hc : chain cmpRR l
    · simp only [Bool.false_eq_true, if_false]
      exact finds_off l x
    · simp only [if_true]
      refine Ev.bind (ev_rights [x] (by simp)) ?_
      cases hr1 : rightsB [x]
      · exact finds_off l x
      · obtain ⟨h1, _, _⟩ := rights_fine hr1
        exact finds_yes l x ⟨hl, by omega, (chain_iff ordRR l).mp hc⟩ (h1 x (List.mem_cons_self ..)) (by omega)
end Go.Proofs.Ytnpiglojamhpiaa.Pure
