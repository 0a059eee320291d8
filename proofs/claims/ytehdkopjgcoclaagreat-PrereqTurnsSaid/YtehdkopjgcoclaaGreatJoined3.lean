/- Joined out of this session's own texts: contracts and facts that the claim's row is drawn from, each with its own conditions. -/
import Derived.Test.YtehdkopjgcoclaaGreatJoined2
import Derived.Lib.SliceRun
import Derived.Shelf.Spec.SlicesInsert
import Derived.Lib.AppendZerosOnto
import Derived.Laws.CopyRow
import Derived.Deep.QuietTactic
import Derived.BigQuiet
import Derived.Deep.LoopGhost
import Derived.Test.YtehdkopjgcoclaaGreatProg
import Derived.Below
import Derived.Deep.Draws
import Derived.Deep.AppendLies
import Derived.Maps.AppendAt
import Derived.OwnWalk
import Derived.Laws.BytesArg
import Derived.Laws.MakeOwn
import Derived.Laws.OwnMore
import Derived.Deep.OwnRows
import Derived.Tactics
import Derived.Lib.ConvBytes
import Derived.Laws.Slices
import Derived.WalkKit
import Derived.KernelRfl
import Derived.RowKit3
import Derived.WideLaws
import Derived.Deep.DeepCutAuto
import Derived.Deep.CutBlock
import Derived.Deep.RegionHeld3
import Derived.Laws.Rows
import Derived.Lib.AppendStr
import Derived.ArgAppend
import Derived.Laws.IdiomCopy
import Derived.OrdersHeld
import Derived.Laws.BitsLemmas
import Derived.RowKit
set_option linter.unusedSimpArgs false
set_option linter.unusedVariables false
set_option maxHeartbeats 40000000
set_option maxRecDepth 100000
open Go.Proofs
namespace Go.Y.PRr
open Go.RowKit Go.V.aD Go.V.aN Go.V.aR Go.Y.Given Go.Y.PRd
attribute [local go_sem] dn dh dJ dK bU bT cZ dw   -- for this text's walks alone
def fI.f (a0 : Int) : Option (Bool) := if a0 ≥ 1 then (if a0 ≤ 65535 then (if a0 = 41 then (some false) else (if a0 < 128 then (some true) else (some (decide (a0 > 255))))) else (some false)) else (some false)
theorem fI.calls (a0 : Int) (r : Bool) (w : World) (h : fI.f a0 = some r) :
    Calls Tryz.prog 83 #[.int .i64 a0] w fun e w' => e = .returned (.bool r) ∧ bf w w' := by
  have H : (if a0 ≥ 1 then (if a0 ≤ 65535 then (if a0 = 41 then (some false) else (if a0 < 128 then (some true) else (some (decide (a0 > 255))))) else (some false)) else (some false)) = some r := h
  clear h
  by_cases c2 : a0 ≥ 1
  focus
   rw [if_pos c2] at H
   have c2b0 : decide (1 ≤ a0) = true := decide_eq_true c2
   clear c2
   by_cases c3 : a0 ≤ 65535
   focus
    rw [if_pos c3] at H
    have c3b0 : decide (a0 ≤ 65535) = true := decide_eq_true c3
    clear c3
    by_cases c4 : a0 = 41
    focus
     rw [if_pos c4] at H
     have c4b0 : (a0 == 41) = true := beq_iff_eq.mpr c4
     have c4b1 : (a0 != 41) = false := bne_eq_false_iff_eq.mpr c4
     clear c4
    rotate_left
    focus
     rw [if_neg c4] at H
     have c4b0 : (a0 == 41) = false := beq_eq_false_iff_ne.mpr c4
     have c4b1 : (a0 != 41) = true := bne_iff_ne.mpr c4
     by_cases c5 : a0 < 128
     focus
      rw [if_pos c5] at H
      have c5b0 : decide (a0 < 128) = true := decide_eq_true c5
     rotate_left
     focus
      rw [if_neg c5] at H
      have c5b0 : decide (a0 < 128) = false := decide_eq_false c5
     rotate_left
     all_goals
      clear c5
    rotate_left 2
   rotate_left 3
   focus
    rw [if_neg c3] at H
    have c3b0 : decide (a0 ≤ 65535) = false := decide_eq_false c3
    clear c3
   rotate_left
  rotate_left 4
  focus
   rw [if_neg c2] at H
   have c2b0 : decide (1 ≤ a0) = false := decide_eq_false c2
   clear c2
  rotate_left
  all_goals
   obtain rfl := Option.some.inj H
   go_enter Tryz.func83, Tryz.ntmps83
   go_wp2
   go_ret
   exact ⟨by rfl, by repeat ((exact bf.refl _))⟩
def fP.f (k : Nat) (a0 : ByteArray) (a1_0 : ByteArray) (a1_1 : Int) (a1_2 : Int) (a1_3 : Int) (a1_4 : ByteArray) : Option (Bool) := if a1_2 = 1 then ((fI.f a1_1).bind fun t130 => (if t130 = true then ((bq.f k a1_0 a0).bind fun t131 => (some t131)) else (some false))) else (some false)
theorem fP.mono : ∀ a0 a1 a2 a3 a4 a5 k, LeO (fP.f k a0 a1 a2 a3 a4 a5) (fP.f (k + 1) a0 a1 a2 a3 a4 a5) := by
 intro a0 a1 a2 a3 a4 a5 k
 unfold fP.f
 repeat' first
   | (with_reducible exact bq.mono _ _ _)
   | (with_reducible exact LeO.refl _)
   | (with_reducible exact LeO.none _)
   | (with_reducible refine LeO.ite ?_ ?_)
   | (with_reducible refine LeO.bind ?_ (fun _ => ?_))
   | exact bq.mono _ _ _
   | exact LeO.none _
   | refine LeO.ite ?_ ?_
   | refine LeO.bind ?_ (fun _ => ?_)
theorem fP.calls (k : Nat) (a0 : ByteArray) (a1_0 : ByteArray) (a1_1 : Int) (a1_2 : Int) (a1_3 : Int) (a1_4 : ByteArray) (r : Bool) (w : World) (h : fP.f k a0 a1_0 a1_1 a1_2 a1_3 a1_4 = some r) :
    Calls Tryz.prog 43 #[.string a0, .agg #[.string a1_0, .int .i64 a1_1, .int .i64 a1_2, .int .i64 a1_3, .string a1_4]] w fun e w' => e = .returned (.bool r) ∧ Below w.heap.size w w' := by
  have hu44 := Tryz.underlying44
  have HB := ah.mk (Below.refl w.heap.size w)
  have H : (if a1_2 = 1 then ((fI.f a1_1).bind fun t130 => (if t130 = true then ((bq.f k a1_0 a0).bind fun t131 => (some t131)) else (some false))) else (some false)) = some r := h
  clear h
  by_cases c3 : a1_2 = 1
  focus
   rw [if_pos c3] at H
   have c3b0 : (a1_2 == 1) = true := beq_iff_eq.mpr c3
   have c3b1 : (a1_2 != 1) = false := bne_eq_false_iff_eq.mpr c3
   clear c3
   obtain ⟨t130, A4, H⟩ := bR H
   by_cases c5 : t130 = true
   focus
    subst c5
    rw [if_pos rfl] at H
    obtain ⟨t131, A6, H⟩ := bR H
   rotate_left
   focus
    replace c5 := Bool.eq_false_iff.mpr c5
    subst c5
    rw [if_neg ff_] at H
   rotate_left
  rotate_left 2
  focus
   rw [if_neg c3] at H
   have c3b0 : (a1_2 == 1) = false := beq_eq_false_iff_ne.mpr c3
   have c3b1 : (a1_2 != 1) = true := bne_iff_ne.mpr c3
  rotate_left
  all_goals
   obtain rfl := Option.some.inj H
   go_enter Tryz.func43, Tryz.ntmps43
  focus
   go_wp2_with (first | ((with_reducible refine bB (N := 3) rfl ?_); refine bG ?hg (N := 3) ?hd (cs := #[.string a1_0, .int .i64 a1_1, .int .i64 a1_2, .int .i64 a1_3, .string a1_4]) (t := 44) ?hr ?_; (case hd => rfl); (case hg => rfl); (case hr => (go_simp; done)); intro gb129 hg w7 hbox hb; have BK129 := ah.mk (hbox); have GW129 := ah.mk (ge_ hg (aA HB.out)); have GE129 := ah.mk (ge_ hg (aA HB.out)); replace HB := ah.mk (au HB.out hb); clear hb hbox hg; obtain ⟨hcz8_0, hcz8_1, hcz8_2, hcz8_3, hcz8_4, hfz8_0, hfz8_1, hfz8_2, hfz8_3, hfz8_4⟩ := z5_ BK129.out) | (go_at_call 83; (with_reducible refine (fI.calls a1_1 _ _ A4.out).mono ?_); rintro e w' ⟨rfl, ⟨nd, rfl⟩⟩) | (go_at_call 56; (with_reducible refine (bq.calls k a1_0 a0 t131 _ A6.out).mono ?_); rintro e w9 ⟨rfl, hb⟩; replace BK129 := ah.mk (ay (by ((exact BK129.out))) hb); replace HB := ah.mk (au (by repeat ((with_reducible first | exact HB.out | apply cK))) hb); (try clear hb)))
  rotate_left
  focus
   go_wp2_with (first | ((with_reducible refine bB (N := 3) rfl ?_); refine bG ?hg (N := 3) ?hd (cs := #[.string a1_0, .int .i64 a1_1, .int .i64 a1_2, .int .i64 a1_3, .string a1_4]) (t := 44) ?hr ?_; (case hd => rfl); (case hg => rfl); (case hr => (go_simp; done)); intro gb129 hg w10 hbox hb; have BK129 := ah.mk (hbox); have GW129 := ah.mk (ge_ hg (aA HB.out)); have GE129 := ah.mk (ge_ hg (aA HB.out)); replace HB := ah.mk (au HB.out hb); clear hb hbox hg; obtain ⟨hcz11_0, hcz11_1, hcz11_2, hcz11_3, hcz11_4, hfz11_0, hfz11_1, hfz11_2, hfz11_3, hfz11_4⟩ := z5_ BK129.out) | (go_at_call 83; (with_reducible refine (fI.calls a1_1 _ _ A4.out).mono ?_); rintro e w' ⟨rfl, ⟨nd, rfl⟩⟩))
  rotate_left
  focus
   go_wp2_with ((((with_reducible refine bB (N := 3) rfl ?_); refine bG ?hg (N := 3) ?hd (cs := #[.string a1_0, .int .i64 a1_1, .int .i64 a1_2, .int .i64 a1_3, .string a1_4]) (t := 44) ?hr ?_; (case hd => rfl); (case hg => rfl); (case hr => (go_simp; done)); intro gb129 hg w12 hbox hb; have BK129 := ah.mk (hbox); have GW129 := ah.mk (ge_ hg (aA HB.out)); have GE129 := ah.mk (ge_ hg (aA HB.out)); replace HB := ah.mk (au HB.out hb); clear hb hbox hg; obtain ⟨hcz13_0, hcz13_1, hcz13_2, hcz13_3, hcz13_4, hfz13_0, hfz13_1, hfz13_2, hfz13_3, hfz13_4⟩ := z5_ BK129.out)))
  rotate_left
  all_goals
   go_ret
   exact ⟨by rfl, by repeat ((with_reducible first | exact HB.out | apply cK))⟩
end Go.Y.PRr
namespace Go.Y.PRr
open Go.RowKit Go.V.aD Go.V.aN Go.V.aR Go.Y.Given Go.Y.PRd
attribute [local go_sem] dn dh dJ dK bU bT cZ dw   -- for this text's walks alone
def bK.l0 : Nat → List (S44) → List (S44) → Int → Int → Option (Bool)
 | 0, _, _, _, _ => none
 | k + 1, x0, x5, x6, x7 => if x7 < x6 then (if 0 ≤ x7 then (if x7 < (x5.length : Int) then (if ((aj x5 x7).f1) = 5 then (if x7 > 0 then (if 0 ≤ (wrap64 (x7 - 1)) then (if (wrap64 (x7 - 1)) < (x0.length : Int) then ((bW.f ((aj x0 (wrap64 (x7 - 1))).f0) ((aj x5 x7).f0)).bind fun t135 => (if t135 = true then (some false) else (if (wrap64 (x7 + 1)) < (x0.length : Int) then (if 0 ≤ (wrap64 (x7 + 1)) then ((bW.f ((aj x0 (wrap64 (x7 + 1))).f0) ((aj x5 x7).f0)).bind fun t137 => (if t137 = true then (some false) else (bK.l0 k x0 x5 x6 (wrap64 (x7 + 1))))) else (none)) else (bK.l0 k x0 x5 x6 (wrap64 (x7 + 1)))))) else (none)) else (none)) else (if (wrap64 (x7 + 1)) < (x0.length : Int) then (if 0 ≤ (wrap64 (x7 + 1)) then ((bW.f ((aj x0 (wrap64 (x7 + 1))).f0) ((aj x5 x7).f0)).bind fun t139 => (if t139 = true then (some false) else (bK.l0 k x0 x5 x6 (wrap64 (x7 + 1))))) else (none)) else (bK.l0 k x0 x5 x6 (wrap64 (x7 + 1))))) else (bK.l0 k x0 x5 x6 (wrap64 (x7 + 1)))) else (none)) else (none)) else (some true)
def bK.f (k : Nat) (l0 : List (S44)) : Option (Bool) := bK.l0 k l0 l0 (l0.length : Int) 0
def bK.T5 : Bool × List (List Nat × List Nat) := (true, [([], []), ([0], [0]), ([1], [1]), ([2], [2]), ([2], [2]), ([4, 2], [2, 4]), ([3, 5, 2], [2, 3, 5]), ([6, 2], [2, 6]), ([7, 2], [2, 7]), ([2], [2]), ([9, 2], [2, 9]), ([8, 10, 2, 2], [2, 8, 10]), ([2, 11], [2, 11]), ([12, 11], [12]), ([13], [13]), ([14, 13], [13, 14]), ([13], [13]), ([16, 13], [13, 16]), ([15, 17, 13], [13, 15, 17]), ([18, 13, 13], [13, 18]), ([19], [19]), ([19], [19]), ([21, 19], [19, 21]), ([20, 22, 19], [19, 20, 22]), ([23, 19], [19, 23]), ([24, 19], [19, 24]), ([19], [19]), ([26, 19], [19, 26]), ([25, 27, 19, 19], [19, 25, 27]), ([19, 28, 13], [13, 19, 28]), ([13, 29], [13, 29])])
def bK.B5 : List Nat := [0, 1, 3, 7, 7, 23, 63, 127, 255, 7, 519, 2047, 4095, 8191, 16383, 32767, 16383, 81919, 262143, 524287, 1048575, 1048575, 3145727, 8388607, 16777215, 33554431, 1048575, 68157439, 268435455, 536870911, 1073741823]
theorem bK.rY : dP .any (opsOf Tryz.f45 5) = bK.T5 := by kernel_rfl
theorem bK.oW : dS bK.T5.2 bK.B5 = true := by kernel_rfl
theorem bK.calls (k : Nat) (A0 : Option Addr) (c0 : Nat) (l0 : List (S44)) (r : Bool) (w : World) (hr0 : Kd.C k44 w A0 l0.length l0) (hc0 : l0.length ≤ c0) (h : bK.f k l0 = some r) :
    Calls Tryz.prog 45 #[.slice A0 l0.length c0] w fun e w' => e = .returned (.bool r) ∧ Below w.heap.size w w' := by
  have hu44 := Tryz.underlying44
  have HR0 := ah.mk hr0
  have HC0 := ah.mk hc0
  clear hr0 hc0
  have HB := ah.mk (Below.refl w.heap.size w)
  have H : (bK.l0 k l0 l0 (l0.length : Int) 0) = some r := h
  clear h
  have H' := ah.mk H
  clear H
  go_enter Tryz.func45, Tryz.ntmps45
  go_wp2
  go_loopg [7] k (fun kq v7 w' => ∃ (x7_1 : Int), v7 = .int .i64 x7_1 ∧ ah (bK.l0 kq l0 l0 (l0.length : Int) x7_1 = some r) ∧ ah (kq ≤ k) ∧ ah (Below w.heap.size w w'))
  case atStart => exact ⟨(0), (by rfl), H', ⟨Nat.le_refl _⟩, ⟨HB.out⟩⟩
  case round =>
   clear H'
   obtain ⟨x7_1, rfl, HA, HK1, HB⟩ := hrel
   cases gk with
   | zero => exact absurd HA.out (by simp [bK.l0])
   | succ k1 =>
    have H := HA.out
    clear HA
    simp only [bK.l0] at H
    by_cases c2 : x7_1 < (l0.length : Int)
    ·rw [if_pos c2] at H
     have c2b0 : decide (x7_1 < (l0.length : Int)) = true := decide_eq_true c2
     clear c2
     obtain ⟨c3b0, H⟩ := dL H
     obtain ⟨c4b0, H⟩ := dL H
     by_cases c5 : ((aj l0 x7_1).f1) = 5
     focus
      rw [if_pos c5] at H
      have c5b0 : (((aj l0 x7_1).f1) == 5) = true := beq_iff_eq.mpr c5
      have c5b1 : (((aj l0 x7_1).f1) != 5) = false := bne_eq_false_iff_eq.mpr c5
      clear c5
      by_cases c6 : x7_1 > 0
      focus
       rw [if_pos c6] at H
       have c6b0 : decide (0 < x7_1) = true := decide_eq_true c6
       clear c6
       obtain ⟨ji7, hji7⟩ : ∃ j_ : Int, (wrap64 (x7_1 - 1)) = j_ := ⟨_, rfl⟩
       rw [hji7] at H
       have hji7w : (IntKind.i64.wrap (x7_1 - 1)) = ji7 := (bE _).trans hji7
       obtain ⟨c8b0, H⟩ := dL H
       obtain ⟨c9b0, H⟩ := dL H
       obtain ⟨t135, A10, H⟩ := bR H
       by_cases c11 : t135 = true
       focus
        subst c11
        rw [if_pos rfl] at H
        obtain rfl := Option.some.inj H
       rotate_left
       focus
        replace c11 := Bool.eq_false_iff.mpr c11
        subst c11
        rw [if_neg ff_] at H
        by_cases c17 : (wrap64 (x7_1 + 1)) < (l0.length : Int)
        focus
         rw [if_pos c17] at H
         have c17b0 : decide ((wrap64 (x7_1 + 1)) < (l0.length : Int)) = true := decide_eq_true c17
         clear c17
         obtain ⟨ji18, hji18⟩ : ∃ j_ : Int, (wrap64 (x7_1 + 1)) = j_ := ⟨_, rfl⟩
         rw [hji18] at H
         (try rw [hji18] at c17b0)
         have hji18w : (IntKind.i64.wrap (x7_1 + 1)) = ji18 := (bE _).trans hji18
         obtain ⟨c19b0, H⟩ := dL H
         obtain ⟨t137, A20, H⟩ := bR H
         by_cases c21 : t137 = true
         focus
          subst c21
          rw [if_pos rfl] at H
          obtain rfl := Option.some.inj H
         rotate_left
         focus
          replace c21 := Bool.eq_false_iff.mpr c21
          subst c21
          rw [if_neg ff_] at H
          have H' := ah.mk H
          clear H
         rotate_left
        rotate_left 2
        focus
         rw [if_neg c17] at H
         have c17b0 : decide ((wrap64 (x7_1 + 1)) < (l0.length : Int)) = false := decide_eq_false c17
         clear c17
         have H' := ah.mk H
         clear H
        rotate_left
       rotate_left 3
      rotate_left 4
      focus
       rw [if_neg c6] at H
       have c6b0 : decide (0 < x7_1) = false := decide_eq_false c6
       clear c6
       by_cases c39 : (wrap64 (x7_1 + 1)) < (l0.length : Int)
       focus
        rw [if_pos c39] at H
        have c39b0 : decide ((wrap64 (x7_1 + 1)) < (l0.length : Int)) = true := decide_eq_true c39
        clear c39
        obtain ⟨ji40, hji40⟩ : ∃ j_ : Int, (wrap64 (x7_1 + 1)) = j_ := ⟨_, rfl⟩
        rw [hji40] at H
        (try rw [hji40] at c39b0)
        have hji40w : (IntKind.i64.wrap (x7_1 + 1)) = ji40 := (bE _).trans hji40
        obtain ⟨c41b0, H⟩ := dL H
        obtain ⟨t139, A42, H⟩ := bR H
        by_cases c43 : t139 = true
        focus
         subst c43
         rw [if_pos rfl] at H
         obtain rfl := Option.some.inj H
        rotate_left
        focus
         replace c43 := Bool.eq_false_iff.mpr c43
         subst c43
         rw [if_neg ff_] at H
         have H' := ah.mk H
         clear H
        rotate_left
       rotate_left 2
       focus
        rw [if_neg c39] at H
        have c39b0 : decide ((wrap64 (x7_1 + 1)) < (l0.length : Int)) = false := decide_eq_false c39
        clear c39
        have H' := ah.mk H
        clear H
       rotate_left
      rotate_left 3
     rotate_left 7
     focus
      rw [if_neg c5] at H
      have c5b0 : (((aj l0 x7_1).f1) == 5) = false := beq_eq_false_iff_ne.mpr c5
      have c5b1 : (((aj l0 x7_1).f1) != 5) = true := bne_iff_ne.mpr c5
      have H' := ah.mk H
      clear H
     rotate_left
     all_goals
      have p132 : 0 ≤ (x7_1 : Int) := of_decide_eq_true (by assumption)
      have q132 : x7_1 < (l0.length : Int) := of_decide_eq_true (by assumption)
      obtain ⟨ad132, e132, hx132_0, hx132_1, hx132_2, hx132_3, hx132_4⟩ := dU HR0.out x7_1 p132 q132
      cases e132
      replace hx132_0 := kp_ HB.out hx132_0
      replace hx132_1 := kp_ HB.out hx132_1
      replace hx132_2 := kp_ HB.out hx132_2
      replace hx132_3 := kp_ HB.out hx132_3
      replace hx132_4 := kp_ HB.out hx132_4
      replace p132 := eq_true p132
      replace q132 := eq_true q132
     iterate 7
      focus
       (try go_wp2_with ((((with_reducible refine bB (N := 4) rfl ?_); (try (refine eD (by rfl) ?_; dsimp only)); refine bG ?hg (N := 4) ?hd (cs := #[.string (⟨#[]⟩ : ByteArray), .int .i64 0, .int .i64 0, .int .i64 0, .string (⟨#[]⟩ : ByteArray)]) (t := 44) ?hr ?_; (case hd => rfl); (case hg => rfl); (case hr => (go_simp; done)); intro gb133 hg w12 hbox hb; have BK133 := ah.mk (hbox); have GW133 := ah.mk (ge_ hg (aA HB.out)); have GE133 := ah.mk (ge_ hg (aA HB.out)); replace HB := ah.mk (au HB.out hb); clear hb hbox hg; obtain ⟨hcz13_0, hcz13_1, hcz13_2, hcz13_3, hcz13_4, hfz13_0, hfz13_1, hfz13_2, hfz13_3, hfz13_4⟩ := z5_ BK133.out))))
       have n0_ : ah ((((((w12.setCell ⟨gb133, 0, none⟩ (.string ((aj l0 x7_1).f0))).setCell ⟨gb133, 1, none⟩ (.int .i64 ((aj l0 x7_1).f1))).setCell ⟨gb133, 2, none⟩ (.int .i64 ((aj l0 x7_1).f2))).setCell ⟨gb133, 3, none⟩ (.int .i64 ((aj l0 x7_1).f3))).setCell ⟨gb133, 4, none⟩ (.string ((aj l0 x7_1).f4))).heap[gb133]? = some (.cells #[.string ((aj l0 x7_1).f0), .int .i64 ((aj l0 x7_1).f1), .int .i64 ((aj l0 x7_1).f2), .int .i64 ((aj l0 x7_1).f3), .string ((aj l0 x7_1).f4)] 44 (0, 0))) := ⟨by (with_reducible repeat ((refine ak ?_ _))); refine aM (cs := #[.string ((aj l0 x7_1).f0), .int .i64 ((aj l0 x7_1).f1), .int .i64 ((aj l0 x7_1).f2), .int .i64 ((aj l0 x7_1).f3), .string (⟨#[]⟩ : ByteArray)]) ?_ 4 _ rfl; (with_reducible repeat ((refine ak ?_ _))); refine aM (cs := #[.string ((aj l0 x7_1).f0), .int .i64 ((aj l0 x7_1).f1), .int .i64 ((aj l0 x7_1).f2), .int .i64 0, .string (⟨#[]⟩ : ByteArray)]) ?_ 3 _ rfl; (with_reducible repeat ((refine ak ?_ _))); refine aM (cs := #[.string ((aj l0 x7_1).f0), .int .i64 ((aj l0 x7_1).f1), .int .i64 0, .int .i64 0, .string (⟨#[]⟩ : ByteArray)]) ?_ 2 _ rfl; (with_reducible repeat ((refine ak ?_ _))); refine aM (cs := #[.string ((aj l0 x7_1).f0), .int .i64 0, .int .i64 0, .int .i64 0, .string (⟨#[]⟩ : ByteArray)]) ?_ 1 _ rfl; (with_reducible repeat ((refine ak ?_ _))); refine aM (cs := #[.string (⟨#[]⟩ : ByteArray), .int .i64 0, .int .i64 0, .int .i64 0, .string (⟨#[]⟩ : ByteArray)]) ?_ 0 _ rfl; (with_reducible repeat ((refine ak ?_ _))); exact BK133.out⟩
       have n1_ : ah (Below w.heap.size w (((((w12.setCell ⟨gb133, 0, none⟩ (.string ((aj l0 x7_1).f0))).setCell ⟨gb133, 1, none⟩ (.int .i64 ((aj l0 x7_1).f1))).setCell ⟨gb133, 2, none⟩ (.int .i64 ((aj l0 x7_1).f2))).setCell ⟨gb133, 3, none⟩ (.int .i64 ((aj l0 x7_1).f3))).setCell ⟨gb133, 4, none⟩ (.string ((aj l0 x7_1).f4)))) := ⟨by repeat ((with_reducible first | exact HB.out | refine bS ?_ GE133.out))⟩
       (try clear BK133)
       (try clear HB)
       generalize (((((w12.setCell ⟨gb133, 0, none⟩ (.string ((aj l0 x7_1).f0))).setCell ⟨gb133, 1, none⟩ (.int .i64 ((aj l0 x7_1).f1))).setCell ⟨gb133, 2, none⟩ (.int .i64 ((aj l0 x7_1).f2))).setCell ⟨gb133, 3, none⟩ (.int .i64 ((aj l0 x7_1).f3))).setCell ⟨gb133, 4, none⟩ (.string ((aj l0 x7_1).f4))) = w14 at n0_ n1_ ⊢
       have BK133 := n0_
       have HB := n1_
       clear n0_ n1_
       replace BK133 := ah.mk (eX BK133.out)
       replace HB := ah.mk (dO HB.out)
      rotate_left
     rotate_left
     iterate 4
      focus
       have p134 : 0 ≤ ((ji7) : Int) := of_decide_eq_true (by assumption)
       have q134 : (ji7) < (l0.length : Int) := of_decide_eq_true (by assumption)
       obtain ⟨ad134, e134, hx134_0, hx134_1, hx134_2, hx134_3, hx134_4⟩ := dU HR0.out (ji7) p134 q134
       have hw134_4 := hx134_4
       have hw134_3 := hx134_3
       have hw134_2 := hx134_2
       have hw134_1 := hx134_1
       have hw134_0 := hx134_0
       obtain rfl : ad132 = ad134 := (by injection e134)
       replace hx134_0 := kp_ HB.out hx134_0
       replace hx134_1 := kp_ HB.out hx134_1
       replace hx134_2 := kp_ HB.out hx134_2
       replace hx134_3 := kp_ HB.out hx134_3
       replace hx134_4 := kp_ HB.out hx134_4
       replace p134 := eq_true p134
       replace q134 := eq_true q134
      rotate_left
     rotate_left 4
     focus
      refine fM (n := 31) (ds := []) (ls 31 0) (by kernel_rfl) rfl rfl (c5_ BK133.out (ec_ (kp_ HB.out hw134_0) (ec_ (kp_ HB.out hw134_1) (ec_ (kp_ HB.out hw134_2) (ec_ (kp_ HB.out hw134_3) (ed_ (kp_ HB.out hw134_4))))))) (fun hHeld => ?_); refine dW bK.rY bK.oW (fun HT_ HW_ => ?_)
      generalize w14.drew = w15 at BK133 HB hx134_0 hx134_1 hx134_2 hx134_3 hx134_4 hHeld ⊢
     rotate_left
     iterate 2
      focus
       have p136 : 0 ≤ ((ji18) : Int) := of_decide_eq_true (by assumption)
       have q136 : (ji18) < (l0.length : Int) := of_decide_eq_true (by assumption)
       obtain ⟨ad136, e136, hx136_0, hx136_1, hx136_2, hx136_3, hx136_4⟩ := dU HR0.out (ji18) p136 q136
       have hw136_4 := hx136_4
       have hw136_3 := hx136_3
       have hw136_2 := hx136_2
       have hw136_1 := hx136_1
       have hw136_0 := hx136_0
       obtain rfl : ad132 = ad136 := (by injection e136)
       replace hx136_0 := kp_ HB.out hx136_0
       replace hx136_1 := kp_ HB.out hx136_1
       replace hx136_2 := kp_ HB.out hx136_2
       replace hx136_3 := kp_ HB.out hx136_3
       replace hx136_4 := kp_ HB.out hx136_4
       replace p136 := eq_true p136
       replace q136 := eq_true q136
       refine fM (n := 31) (ds := []) (ls 31 0) (by kernel_rfl) rfl rfl (c5_ BK133.out (ec_ (kp_ HB.out hw134_0) (ec_ (kp_ HB.out hw134_1) (ec_ (kp_ HB.out hw134_2) (ec_ (kp_ HB.out hw134_3) (ec_ (kp_ HB.out hw134_4) (ec_ (kp_ HB.out hw136_0) (ec_ (kp_ HB.out hw136_1) (ec_ (kp_ HB.out hw136_2) (ec_ (kp_ HB.out hw136_3) (ed_ (kp_ HB.out hw136_4)))))))))))) (fun hHeld => ?_); refine dW bK.rY bK.oW (fun HT_ HW_ => ?_)
       generalize w14.drew = w25 at BK133 HB hx134_0 hx134_1 hx134_2 hx134_3 hx134_4 hx136_0 hx136_1 hx136_2 hx136_3 hx136_4 hHeld ⊢
      rotate_left
     focus
      refine fM (n := 31) (ds := []) (ls 31 0) (by kernel_rfl) rfl rfl (c5_ BK133.out (ec_ (kp_ HB.out hw134_0) (ec_ (kp_ HB.out hw134_1) (ec_ (kp_ HB.out hw134_2) (ec_ (kp_ HB.out hw134_3) (ed_ (kp_ HB.out hw134_4))))))) (fun hHeld => ?_); refine dW bK.rY bK.oW (fun HT_ HW_ => ?_)
      generalize w14.drew = w37 at BK133 HB hx134_0 hx134_1 hx134_2 hx134_3 hx134_4 hHeld ⊢
     rotate_left
     rotate_left 4
     iterate 4
      focus
       refine td_ [(0, 15), (1, 16), (2, 17), (3, 18), (4, 19), (5, 20), (6, 21), (7, 22), (9, 24)] ?_
       iterate 9 (refine pm_ HT_ ?_)
       refine dn_ ?_
       refine td_ [(8, 23), (10, 25)] ?_
      rotate_left
     rotate_left 4
     focus
      iterate 2 (refine tm_ HT_ HW_ hHeld ?_)
     rotate_left
     iterate 2
      focus
       iterate 2 (refine tm_ HT_ HW_ hHeld ?_)
      rotate_left
     focus
      iterate 2 (refine tm_ HT_ HW_ hHeld ?_)
     rotate_left
     rotate_left 4
     iterate 4
      focus
       refine dn_ ?_
       refine lI HT_ (i := 11) (N := some 26) (ls 31 4095) (fun K hK => ?_)
       refine gs_ Tryz.func44 #[.string ((aj l0 (ji7)).f0), .string ((aj l0 x7_1).f0)] ?_
       with_reducible refine (bW.calls ((aj l0 (ji7)).f0) ((aj l0 x7_1).f0) _ _ A10.out).mono ?_
       rintro e w16 ⟨rfl, hb⟩
       refine ⟨_, rfl, ?_⟩
       replace BK133 := ah.mk (ay (by ((exact BK133.out))) hb)
       replace HB := ah.mk (au HB.out hb)
       (try clear hb)
      rotate_left
     rotate_left 4
     focus
      refine hK.out _ _ (c5_ BK133.out (ec_ (kp_ HB.out hw134_0) (ec_ (kp_ HB.out hw134_1) (ec_ (kp_ HB.out hw134_2) (ec_ (kp_ HB.out hw134_3) (ed_ (kp_ HB.out hw134_4))))))) (fun hHeld => ?_)
     rotate_left
     iterate 2
      focus
       refine hK.out _ _ (c5_ BK133.out (ec_ (kp_ HB.out hw134_0) (ec_ (kp_ HB.out hw134_1) (ec_ (kp_ HB.out hw134_2) (ec_ (kp_ HB.out hw134_3) (ec_ (kp_ HB.out hw134_4) (ec_ (kp_ HB.out hw136_0) (ec_ (kp_ HB.out hw136_1) (ec_ (kp_ HB.out hw136_2) (ec_ (kp_ HB.out hw136_3) (ed_ (kp_ HB.out hw136_4)))))))))))) (fun hHeld => ?_)
      rotate_left
     focus
      refine hK.out _ _ (c5_ BK133.out (ec_ (kp_ HB.out hw134_0) (ec_ (kp_ HB.out hw134_1) (ec_ (kp_ HB.out hw134_2) (ec_ (kp_ HB.out hw134_3) (ed_ (kp_ HB.out hw134_4))))))) (fun hHeld => ?_)
     rotate_left
     rotate_left 4
     iterate 4
      focus
       clear hK K
       refine nm_ (N := (some 26)) ?_
      rotate_left
     rotate_left 4
     focus
      refine td_ [(12, 27), (13, 28)] ?_
     rotate_left
     iterate 2
      focus
       refine td_ [(12, 27), (13, 28), (14, 29), (15, 30), (16, 31), (17, 32), (18, 33), (19, 34), (20, 35), (21, 36), (22, 37), (23, 38), (24, 39), (26, 41)] ?_
       iterate 14 (refine pm_ HT_ ?_)
       refine dn_ ?_
       refine td_ [(25, 40), (27, 42)] ?_
       iterate 2 (refine tm_ HT_ HW_ hHeld ?_)
       refine dn_ ?_
       refine lI HT_ (i := 28) (N := some 43) (ls 31 536870911) (fun K hK => ?_)
       refine gs_ Tryz.func44 #[.string ((aj l0 (ji18)).f0), .string ((aj l0 x7_1).f0)] ?_
       with_reducible refine (bW.calls ((aj l0 (ji18)).f0) ((aj l0 x7_1).f0) _ _ A20.out).mono ?_
       rintro e w27 ⟨rfl, hb⟩
       refine ⟨_, rfl, ?_⟩
       replace BK133 := ah.mk (ay (by ((exact BK133.out))) hb)
       replace HB := ah.mk (au HB.out hb)
       (try clear hb)
       refine hK.out _ _ (c5_ BK133.out (ec_ (kp_ HB.out hw134_0) (ec_ (kp_ HB.out hw134_1) (ec_ (kp_ HB.out hw134_2) (ec_ (kp_ HB.out hw134_3) (ec_ (kp_ HB.out hw134_4) (ec_ (kp_ HB.out hw136_0) (ec_ (kp_ HB.out hw136_1) (ec_ (kp_ HB.out hw136_2) (ec_ (kp_ HB.out hw136_3) (ed_ (kp_ HB.out hw136_4)))))))))))) (fun hHeld => ?_)
       clear hK K
       refine nm_ (N := (some 43)) ?_
      rotate_left
     focus
      refine td_ [(12, 27), (13, 28), (14, 29), (15, 30), (16, 31), (17, 32), (18, 33), (19, 34)] ?_
      iterate 8 (refine pm_ HT_ ?_)
      refine dn_ ?_
      refine td_ [(20, 35), (21, 36), (22, 37), (23, 38), (24, 39), (25, 40), (26, 41), (27, 42), (28, 43)] ?_
      iterate 9 (refine om_ HT_ ?_)
      refine dn_ ?_
     rotate_left
     rotate_left 5
     iterate 3
      focus
       refine td_ [(29, 44), (30, 45)] ?_
      rotate_left
     iterate 2
      focus
       have p138 : 0 ≤ ((ji40) : Int) := of_decide_eq_true (by assumption)
       have q138 : (ji40) < (l0.length : Int) := of_decide_eq_true (by assumption)
       obtain ⟨ad138, e138, hx138_0, hx138_1, hx138_2, hx138_3, hx138_4⟩ := dU HR0.out (ji40) p138 q138
       have hw138_4 := hx138_4
       have hw138_3 := hx138_3
       have hw138_2 := hx138_2
       have hw138_1 := hx138_1
       have hw138_0 := hx138_0
       obtain rfl : ad132 = ad138 := (by injection e138)
       replace hx138_0 := kp_ HB.out hx138_0
       replace hx138_1 := kp_ HB.out hx138_1
       replace hx138_2 := kp_ HB.out hx138_2
       replace hx138_3 := kp_ HB.out hx138_3
       replace hx138_4 := kp_ HB.out hx138_4
       replace p138 := eq_true p138
       replace q138 := eq_true q138
       refine fM (n := 31) (ds := []) (ls 31 0) (by kernel_rfl) rfl rfl (c5_ BK133.out (ec_ (kp_ HB.out hw138_0) (ec_ (kp_ HB.out hw138_1) (ec_ (kp_ HB.out hw138_2) (ec_ (kp_ HB.out hw138_3) (ed_ (kp_ HB.out hw138_4))))))) (fun hHeld => ?_); refine dW bK.rY bK.oW (fun HT_ HW_ => ?_)
       generalize w14.drew = w47 at BK133 HB hx138_0 hx138_1 hx138_2 hx138_3 hx138_4 hHeld ⊢
      rotate_left
     focus
      refine fM (n := 31) (S := fun w' => True) (ds := []) (ls 31 0) (by kernel_rfl) rfl rfl trivial (fun hHeld => ?_); refine dW bK.rY bK.oW (fun HT_ HW_ => ?_)
      generalize w14.drew = w57 at BK133 HB hHeld ⊢
     rotate_left
     rotate_left 5
     iterate 3
      focus
       refine td_ [(0, 15), (1, 16), (2, 17)] ?_
       iterate 3 (refine pm_ HT_ ?_)
       refine dn_ ?_
       refine td_ [(3, 18), (4, 19), (5, 20), (6, 21), (7, 22), (8, 23), (9, 24), (10, 25), (11, 26)] ?_
       iterate 9 (refine om_ HT_ ?_)
       refine dn_ ?_
      rotate_left
     rotate_left 5
     iterate 2
      focus
       refine td_ [(12, 27), (13, 28), (14, 29), (15, 30), (16, 31), (17, 32), (18, 33), (19, 34), (20, 35), (21, 36), (22, 37), (23, 38), (24, 39), (26, 41)] ?_
       iterate 14 (refine pm_ HT_ ?_)
       refine dn_ ?_
       refine td_ [(25, 40), (27, 42)] ?_
       iterate 2 (refine tm_ HT_ HW_ hHeld ?_)
       refine dn_ ?_
       refine lI HT_ (i := 28) (N := some 43) (ls 31 536870911) (fun K hK => ?_)
       refine gs_ Tryz.func44 #[.string ((aj l0 (ji40)).f0), .string ((aj l0 x7_1).f0)] ?_
       with_reducible refine (bW.calls ((aj l0 (ji40)).f0) ((aj l0 x7_1).f0) _ _ A42.out).mono ?_
       rintro e w48 ⟨rfl, hb⟩
       refine ⟨_, rfl, ?_⟩
       replace BK133 := ah.mk (ay (by ((exact BK133.out))) hb)
       replace HB := ah.mk (au HB.out hb)
       (try clear hb)
       refine hK.out _ _ ⟨(aC BK133.out 0).trans rfl, (aC BK133.out 1).trans rfl, (aC BK133.out 2).trans rfl, (aC BK133.out 3).trans rfl, (aC BK133.out 4).trans rfl, (kp_ HB.out hw138_0), (kp_ HB.out hw138_1), (kp_ HB.out hw138_2), (kp_ HB.out hw138_3), (kp_ HB.out hw138_4)⟩ (fun hHeld => ?_)
       clear hK K
       refine nm_ (N := (some 43)) ?_
      rotate_left
     focus
      refine td_ [(12, 27), (13, 28), (14, 29), (15, 30), (16, 31), (17, 32), (18, 33), (19, 34)] ?_
      iterate 8 (refine pm_ HT_ ?_)
      refine dn_ ?_
      refine td_ [(20, 35), (21, 36), (22, 37), (23, 38), (24, 39), (25, 40), (26, 41), (27, 42), (28, 43)] ?_
      iterate 9 (refine om_ HT_ ?_)
      refine dn_ ?_
     rotate_left
     rotate_left 5
     iterate 3
      focus
       refine td_ [(29, 44), (30, 45)] ?_
      rotate_left
     rotate_left
     iterate 7
      focus
       iterate 2 (refine pm_ HT_ ?_)
       refine dn_ ?_
      rotate_left
     rotate_left
     focus
      refine td_ [(14, 29), (15, 30), (16, 31), (17, 32), (18, 33), (19, 34), (20, 35), (21, 36), (22, 37), (23, 38), (24, 39), (25, 40), (26, 41), (27, 42), (28, 43), (29, 44)] ?_
      iterate 16 (refine om_ HT_ ?_)
      refine dn_ ?_
      refine td_ [(30, 45)] ?_
      refine pm_ HT_ ?_
      refine dn_ ?_
     rotate_left
     rotate_left 3
     rotate_left 3
     rotate_left
     iterate 7
      focus
       refine jy (iK HT_.out (by kernel_rfl)) ?_
       (try go_wp2)
      rotate_left
     rotate_left
     ·go_ret
      exact ⟨by rfl, HB.out⟩
     ·go_ret
      exact ⟨by rfl, HB.out⟩
     ·go_roundg k1
      case measure => have := HK1.out; omega
      case rel => exact ⟨(ji18), (by rfl), H', ⟨by have := HK1.out; omega⟩, ⟨HB.out⟩⟩
     ·go_roundg k1
      case measure => have := HK1.out; omega
      case rel => exact ⟨(wrap64 (x7_1 + 1)), (by rfl), H', ⟨by have := HK1.out; omega⟩, ⟨HB.out⟩⟩
     ·go_ret
      exact ⟨by rfl, HB.out⟩
     ·go_roundg k1
      case measure => have := HK1.out; omega
      case rel => exact ⟨(ji40), (by rfl), H', ⟨by have := HK1.out; omega⟩, ⟨HB.out⟩⟩
     ·go_roundg k1
      case measure => have := HK1.out; omega
      case rel => exact ⟨(wrap64 (x7_1 + 1)), (by rfl), H', ⟨by have := HK1.out; omega⟩, ⟨HB.out⟩⟩
     ·go_wp2_with ((((with_reducible refine bB (N := 4) rfl ?_); (try (refine eD (by rfl) ?_; dsimp only)); refine bG ?hg (N := 4) ?hd (cs := #[.string (⟨#[]⟩ : ByteArray), .int .i64 0, .int .i64 0, .int .i64 0, .string (⟨#[]⟩ : ByteArray)]) (t := 44) ?hr ?_; (case hd => rfl); (case hg => rfl); (case hr => (go_simp; done)); intro gb133 hg w58 hbox hb; have BK133 := ah.mk (hbox); have GW133 := ah.mk (ge_ hg (aA HB.out)); have GE133 := ah.mk (ge_ hg (aA HB.out)); replace HB := ah.mk (au HB.out hb); clear hb hbox hg; obtain ⟨hcz59_0, hcz59_1, hcz59_2, hcz59_3, hcz59_4, hfz59_0, hfz59_1, hfz59_2, hfz59_3, hfz59_4⟩ := z5_ BK133.out)))
      go_roundg k1
      case measure => have := HK1.out; omega
      case rel => exact ⟨(wrap64 (x7_1 + 1)), (by rfl), H', ⟨by have := HK1.out; omega⟩, ⟨by repeat ((with_reducible first | exact HB.out | refine bS ?_ GE133.out))⟩⟩
    ·rw [if_neg c2] at H
     have c2b0 : decide (x7_1 < (l0.length : Int)) = false := decide_eq_false c2
     clear c2
     obtain rfl := Option.some.inj H
     go_wp2
     go_ret
     exact ⟨by rfl, HB.out⟩
end Go.Y.PRr
namespace Go.Y.Rrs
open Go.RowKit Go.V.aD Go.V.aN Go.V.aR Go.Y.Given Go.Y.PRd Go.Y.PRr Go.Y.Oct Go.Y.Name Go.Y.Cmp Go.Y.fC Go.Y.fu Go.Y.gI
theorem GJ (c : Int) (d : ByteArray) : fZ.f c d.toList.isEmpty = some (mJ c d) := by
 unfold fZ.f mJ
 repeat' split
 all_goals rfl
theorem BO (t : Int) (d : ByteArray) (h : d.size ≤ 1000000) : Ev (fun k => fV.f k t d) (jC t d) := ⟨FU + 2000, fun k hk => FL t d h k hk⟩
theorem Bc (n : ByteArray) : Ev (fun k => dR.f k n) (bQ n) := ⟨600, fun k hk => xY n k hk⟩
theorem zQ (b : Bool) (x : RR) (h : b = false → x.f4.size ≤ 1000000) : Ev (fun k => bg.j0 k b x.f0 x.f1 x.f2 x.f3 x.f4) (!b && (!mJ x.f2 x.f4 || jC x.f1 x.f4)) := by
 have hs : ∀ k, bg.j0 (k + 1) b x.f0 x.f1 x.f2 x.f3 x.f4 = if b = true then some false else (fZ.f x.f2 x.f4.toList.isEmpty).bind fun t => if t = true then (fV.f k x.f1 x.f4).bind fun u => some u else some true := fun k => by
  simp only [bg.j0]
 refine Ev.step hs ?_
 cases b
 ·simp only [GJ, Option.bind_some, Bool.false_eq_true, if_false]
  cases ht : mJ x.f2 x.f4
  ·simp only [Bool.false_eq_true, if_false]
   exact Ev.now _
  ·simp only [if_true]
   refine Ev.bind (BO _ _ (h rfl)) ?_
   exact Ev.now _
 ·simp only [if_true]
  exact Ev.now _
theorem wz (x : RR) : Ev (fun k => bg.f k x.f0 x.f1 x.f2 x.f3 x.f4) (gP x) := by
 have hs : ∀ k, bg.f k x.f0 x.f1 x.f2 x.f3 x.f4 = (dR.f k x.f0).bind fun t => bg.j0 k (!(t && (decide (0 ≤ x.f1) && (decide (x.f1 ≤ 65535) && (decide (0 ≤ x.f2) && (decide (x.f2 ≤ 65535) && (decide (0 ≤ x.f3) && (decide (x.f3 ≤ 2147483647) && decide (x.f4.size ≤ 65535))))))))) x.f0 x.f1 x.f2 x.f3 x.f4 := fun k => by
  unfold bg.f
  congr 1
  funext t
  by_cases h1 : x.f1 < 0
  ·simp [h1, show ¬ (0 ≤ x.f1) by omega]
  by_cases h2 : x.f1 > 65535
  ·simp [h1, h2, show ¬ (x.f1 ≤ 65535) by omega]
  by_cases h3 : x.f2 < 0
  ·simp [h1, h2, h3, show ¬ (0 ≤ x.f2) by omega]
  by_cases h4 : x.f2 > 65535
  ·simp [h1, h2, h3, h4, show ¬ (x.f2 ≤ 65535) by omega]
  by_cases h5 : x.f3 < 0
  ·simp [h1, h2, h3, h4, h5, show ¬ (0 ≤ x.f3) by omega]
  by_cases h6 : x.f3 > 2147483647
  ·simp [h1, h2, h3, h4, h5, h6, show ¬ (x.f3 ≤ 2147483647) by omega]
  have e7 : decide ((x.f4.size : Int) > 65535) = !decide (x.f4.size ≤ 65535) := by
   by_cases h7 : x.f4.size ≤ 65535
   ·rw [decide_eq_true h7, decide_eq_false (by omega)]; rfl
   ·rw [decide_eq_false h7, decide_eq_true (by omega)]; rfl
  rw [if_neg h1, if_neg h2, if_neg h3, if_neg h4, if_neg h5, if_neg h6, e7]
  cases t
  ·simp
  ·simp [show 0 ≤ x.f1 by omega, show x.f1 ≤ 65535 by omega, show 0 ≤ x.f2 by omega, show x.f2 ≤ 65535 by omega, show 0 ≤ x.f3 by omega, show x.f3 ≤ 2147483647 by omega]
 refine Ev.congr hs (Ev.bind (Bc x.f0) ?_)
 refine (?_ : (!(!(bQ x.f0 && _)) && _) = gP x) ▸ zQ _ x ?_
 ·unfold gP
  simp only [Bool.not_not, Bool.and_assoc]
 ·intro h
  simp only [Bool.not_eq_false', Bool.and_eq_true, decide_eq_true_eq] at h
  omega
end Go.Y.Rrs
namespace Go.Y.Rrs
open Go.RowKit Go.V.aD Go.V.aN Go.V.aR Go.Y.Given Go.Y.PRd Go.Y.PRr Go.Y.Oct Go.Y.Name Go.Y.Cmp Go.Y.fC Go.Y.fu Go.Y.gI
structure mK (l : List RR) : Prop where
 all : ∀ y ∈ l, fine y
 len : l.length ≤ 1000000
 set : jh aW l
theorem qJ {α : Type} {c d : α → α → Int} {a b : α} : jT c d a b = 0 ↔ c a b = 0 ∧ d a b = 0 := by
 unfold jT
 split
 ·rename_i h; exact ⟨fun e => ⟨h, e⟩, fun e => e.2⟩
 ·rename_i h; exact ⟨fun e => absurd e h, fun e => absurd e.1 h⟩
theorem Bz (x y : RR) : aW x y = 0 ↔ iP x = iP y ∧ x.f1 = y.f1 ∧ x.f2 = y.f2 ∧ (lC x).toList = (lC y).toList := by
 unfold aW
 rw [qJ, qJ, qJ]
 have z : ∀ {β : Type} {c : β → β → Int} (O : Ord c) (a b : β), c a b = 0 ↔ a = b := fun O a b => ⟨O.zero a b, fun e => by rw [e]; exact O.self b⟩
 rw [z mV, z qC, z qC, z lX]
theorem mK.put {l : List RR} {x : RR} (h : mK l) (hx : fine x) (hn : l.length < 1000000) : mK (gI.put aW l x) where
 all y hy := by
  rcases vX hy with rfl | hy
  ·exact hx
  ·exact h.all y hy
 len := by
  have h1 := uG eZ h.set x
  have h2 : (drop aW l x).length ≤ l.length := by unfold drop; exact List.length_filter_le _ _
  omega
 set := rZ eZ h.set x
theorem Gj (l : List RR) (x : RR) (h : jh aW l) : (put aW l x).length ≤ l.length + 1 := by
 have h1 := uG eZ h x
 have h2 : (drop aW l x).length ≤ l.length := by unfold drop; exact List.length_filter_le _ _
 omega
theorem Ac : ∀ (l s : List RR) {y : RR}, y ∈ l.foldl (put aW) s → y ∈ s ∨ y ∈ l := by
 intro l
 induction l with
 | nil => intro s y h; exact .inl h
 | cons a l ih =>
  intro s y h
  rcases ih _ h with h | h
  ·rcases vX h with rfl | h
   ·exact .inr (List.mem_cons_self ..)
   ·exact .inl h
  ·exact .inr (List.mem_cons_of_mem _ h)
theorem sO : ∀ (l s : List RR), jh aW s → (l.foldl (put aW) s).length ≤ s.length + l.length := by
 intro l
 induction l with
 | nil => intro s _; exact Nat.le_refl _
 | cons a l ih =>
  intro s h
  have h1 := ih (put aW s a) (rZ eZ h a)
  have h2 := Gj s a h
  rw [List.foldl_cons, List.length_cons]; omega
theorem qH {l : List RR} (hl : ∀ y ∈ l, fine y) (hn : l.length ≤ 100000) : mK (ofL aW l) where
 all y hy := by
  rcases Ac l [] hy with h | h
  ·cases h
  ·exact hl y h
 len := by have := sO l [] List.Pairwise.nil; unfold ofL; simp only [List.length_nil] at this; omega
 set := zT eZ l
end Go.Y.Rrs
namespace Go.Y.Given
open Go.RowKit Go.V.aD Go.V.aN Go.V.aR Go.Y.PRd Go.Y.PRr Go.Y.Rrs
def slices_Clone.f (l0 : List (S44)) : Option (List (S44)) := if l0.length ≤ 1000000 then some l0 else none
theorem Bf {α : Type} (d : Kd α) {w : World} {g : Nat} {t : TypeId} {base : Nat} {ok : Nat → Prop} (hg : base ≤ g) (ho : ok g) (h : w.heap[g]? = some (.cells #[] t (0, 0))) : Kd.R d t w base ok (.slice (some ⟨g, 0, none⟩) 0 0) [] :=
 ⟨fun k hk => by simp [Value.ownBlock] at hk; subst hk; exact ho, [], ⟨by simp, .inr ⟨g, 0, #[], rfl, hg, h, Nat.le_refl _, Nat.zero_le _, by simp, by simp⟩⟩, bI.none _ _⟩
theorem slices_Clone.calls (A0 : Option Addr) (c0 : Nat) (l0 : List (S44)) (r : List (S44)) (w : World) (hr0 : Kd.C k44 w A0 l0.length l0) (hc0 : l0.length ≤ c0) (h : slices_Clone.f l0 = some r) :
  Calls Tryz.prog 64 #[.slice A0 l0.length c0] w fun e w' => ∃ v0_ : Value, e = .returned (v0_) ∧ Kd.R k44 44 w' w.heap.size (fun _ => True) v0_ r ∧ Below w.heap.size w w' := by
 unfold slices_Clone.f at h
 have hn : l0.length ≤ 1000000 := Classical.byContradiction fun hn => by rw [if_neg hn] at h; cases h
 rw [if_pos hn] at h
 injection h with h
 subst h
 have HR := Lib.hid hr0
 have hu41 := Tryz.underlying44
 have hu22 := Tryz.underlying22
 have q22 : ∀ (w : World) (a : Option Addr) (n c n' c' : Nat), (binOp .eql 22 (.slice a n c) (.slice none n' c')).run Tryz.prog w = .ok (.bool a.isNone) w := fun w a n c n' c' => Lib.run_eql_slice_nil w _ _ a n c n' c' hu22
 cases A0 with
 | none =>
  have hl : l0 = [] := List.eq_nil_of_length_eq_zero (Nat.eq_zero_of_not_pos fun hp => by
   obtain ⟨ad, h, _⟩ := hr0.2.2 hp
   cases h)
  subst hl
  clear hr0
  go_enter Tryz.func64, Tryz.ntmps64
  go_wp2_with fail
  go_ret
  exact ⟨_, rfl, Kd.gL _ _ _ _ _, Below.refl _ _⟩
 | some ad =>
  clear hr0
  have hB0 : Below w.heap.size w (w.alloc (.cells #[] 44)) := dA (Below.refl _ _) _
  have hM : Kd.R k44 44 (w.alloc (.cells #[] 44)) w.heap.size (fun _ => True) (.slice (some ⟨w.heap.size, 0, none⟩) 0 0) [] := Bf _ (Nat.le_refl _) trivial (by show (w.heap.push _)[w.heap.size]? = _; simp)
  have hC1 := Kd.fH HR.out hB0
  have HM := Lib.hid hM
  have HB0 := Lib.hid hB0
  have HC1 := Lib.hid hC1
  clear hB0 hM hC1
  go_enter Tryz.func64, Tryz.ntmps64
  go_wp2_with (at_builtin; go_loud (refine Kd.xu (w0 := w) k44 w.heap.size rfl _ _ 22 44 _ 56 rfl hu22 xK rfl (by decide) (by decide) _ [] l0 (some ad) l0.length c0 (fun _ => True) (fun _ => False) rfl rfl HM.out HC1.out (fun x cs h => by rw [yI h]; exact gQ _ _ _ x) (fun k h => h.elim) (fun _ _ => trivial) HB0.out HB0.out.size (by simp; omega) ?_); intro v1 w1 hR1 hB1 hg1 hat1)
  go_ret
  exact ⟨_, rfl, hR1, hB1⟩
end Go.Y.Given
namespace Go.Y.Rrs
open Go.RowKit Go.V.aD Go.V.aN Go.V.aR Go.Y.Given Go.Y.PRd Go.Y.PRr
abbrev tRR : Nat := 44
def lJ (x : RR) : List Value := [.string x.f0, .int .i64 x.f1, .int .i64 x.f2, .int .i64 x.f3, .string x.f4]
def flat : List RR → List Value
 | [] => []
 | x :: l => lJ x ++ flat l
theorem nR (x : RR) : (lJ x).length = 5 := rfl
theorem iy : ∀ l, (flat l).length = l.length * 5
 | [] => rfl
 | x :: l => by rw [flat, List.length_append, iy l, nR, List.length_cons]; omega
theorem pG : ∀ a b, flat (a ++ b) = flat a ++ flat b
 | [], b => rfl
 | x :: a, b => by rw [List.cons_append, flat, flat, pG a b, List.append_assoc]
theorem CK (l : List RR) (i : Nat) (hi : i ≤ l.length) : (flat l).take (i * 5) = flat (l.take i) := by
 conv => lhs; rw [← List.take_append_drop i l, pG]
 rw [List.take_append_of_le_length (by rw [iy, List.length_take]; omega), List.take_of_length_le (by rw [iy, List.length_take]; omega)]
theorem Dn (l : List RR) (i : Nat) (hi : i ≤ l.length) : (flat l).drop (i * 5) = flat (l.drop i) := by
 conv => lhs; rw [← List.take_append_drop i l, pG]
 rw [List.drop_append_of_le_length (by rw [iy, List.length_take]; omega), List.drop_of_length_le (by rw [iy, List.length_take]; omega), List.nil_append]
theorem yh : ∀ (l : List RR), ∀ v ∈ flat l, v.oneCell' = true
 | [], v, h => by cases h
 | x :: l, v, h => by
  rcases List.mem_append.1 h with h | h
  ·simp only [lJ, List.mem_cons, List.not_mem_nil, or_false] at h
   rcases h with rfl | rfl | rfl | rfl | rfl <;> rfl
  ·exact yh l v h
theorem qY {R : RR → List Value → Prop} (hR : ∀ x cs, R x cs → cs = lJ x) : ∀ (l : List RR) (inner : List Value), bI R 5 l inner → inner = flat l
 | [], inner, h => List.eq_nil_of_length_eq_zero (by simpa using h.1)
 | x :: l, inner, h => by
  have h0 := hR _ _ (h.2 0 x rfl)
  simp only [Nat.zero_mul, List.drop_zero] at h0
  have h1 : bI R 5 l (inner.drop 5) := ⟨by rw [List.length_drop, h.1, List.length_cons]; omega, fun j p hj => by
   rw [List.drop_drop, show 5 + j * 5 = (j + 1) * 5 by omega]; exact h.2 (j + 1) p (by simpa using hj)⟩
  rw [flat, ← h0, ← qY hR l _ h1, List.take_append_drop]
theorem CB {R : RR → List Value → Prop} (hR : ∀ x, R x (lJ x)) (l : List RR) : bI R 5 l (flat l) := by
 refine ⟨iy l, fun j p hj => ?_⟩
 obtain ⟨hl, e⟩ := List.getElem?_eq_some_iff.1 hj
 rw [Dn l j (by omega), List.drop_eq_getElem_cons hl, e, flat, List.take_append_of_le_length (by rw [nR]; exact Nat.le_refl 5), List.take_of_length_le (by rw [nR]; exact Nat.le_refl 5)]
 exact hR p
structure Row (w : World) (base g cap : Nat) (l : List RR) (rest : List Value) : Prop where
 blk : w.heap[g]? = some (.cells (flat l ++ rest).toArray tRR (0, 0))
 lo : base ≤ g
 fits : cap ≤ maxLen
 len : l.length * 5 + rest.length = cap * 5
theorem Row.Jm {w : World} {base : Nat} {ok : Nat → Prop} {v : Value} {l : List RR} (h : Kd.R kRR tRR w base ok v l) : (v = .slice none 0 0 ∧ l = []) ∨ ∃ g cap rest, v = .slice (some ⟨g, 0, none⟩) l.length cap ∧ ok g ∧ Row w base g cap l rest := by
 obtain ⟨h0, inner, ⟨h1, h2⟩, hr⟩ := h
 obtain rfl := qY (fun x cs h => fE h) l inner hr
 rcases h2 with ⟨rfl, h2⟩ | ⟨g, cap, cur, rfl, hg, hb, hn, hc, hs, ht⟩
 ·exact .inl ⟨rfl, List.eq_nil_of_length_eq_zero h2⟩
 ·have hs' : cur.size = cap * 5 := hs
  have hn' : l.length ≤ cap := hn
  have ht' : cur.toList.take (l.length * 5) = flat l := ht
  refine .inr ⟨g, cap, cur.toList.drop (l.length * 5), rfl, h0 g (by simp [Value.ownBlock]), ⟨?_, hg, hc, ?_⟩⟩
  ·rw [← ht', List.take_append_drop, Array.toArray_toList]; exact hb
  ·have e : cur.toList.length = cap * 5 := by simpa using hs'
   rw [List.length_drop, e]; clear h1 hr h0 hb hs ht hn ht'; omega
theorem Row.R {w : World} {base g cap : Nat} {l : List RR} {rest : List Value} {ok : Nat → Prop} (h : Row w base g cap l rest) (hg : ok g) : Kd.R kRR tRR w base ok (.slice (some ⟨g, 0, none⟩) l.length cap) l := by
 have hl := h.len
 refine ⟨fun k hk => by simp [Value.ownBlock] at hk; subst hk; exact hg, flat l, ⟨iy l, .inr ⟨g, cap, _, rfl, h.lo, h.blk, by omega, h.fits, ?_, ?_⟩⟩, CB (fun x => gQ _ _ _ x) l⟩
 ·show (flat l ++ rest).toArray.size = cap * 5
  simp [iy]; omega
 ·show (flat l ++ rest).toArray.toList.take (l.length * 5) = flat l
  rw [List.toList_toArray, List.take_append_of_le_length (by rw [iy]; exact Nat.le_refl _), List.take_of_length_le (by rw [iy]; exact Nat.le_refl _)]
theorem Row.cell {w : World} {base g cap : Nat} {l : List RR} {rest : List Value} (h : Row w base g cap l rest) (j : Nat) (u : Value) (hj : (flat l)[j]? = some u) : w.cell? ⟨g, j, none⟩ = some u := by
 rw [aC h.blk j]
 have hl := (List.getElem?_eq_some_iff.1 hj).1
 show (flat l ++ rest).toArray[j]? = some u
 rw [List.getElem?_toArray, List.getElem?_append_left hl]; exact hj
theorem Gz : (Tryz.prog.info? 44).map (fun i => (i.zero, i.size, i.bytes)) = some (some (.agg #[.string ⟨#[]⟩, .int .i64 0, .int .i64 0, .int .i64 0, .string ⟨#[]⟩]), 5, 56) := by kernel_rfl
theorem xq : ∃ i0, Tryz.prog.info? 44 = some i0 ∧ i0.zero = some (.agg #[.string ⟨#[]⟩, .int .i64 0, .int .i64 0, .int .i64 0, .string ⟨#[]⟩]) ∧ i0.size = 5 ∧ i0.bytes = 56 := by
 obtain ⟨i0, hi, h⟩ := Option.map_eq_some_iff.1 Gz
 simp only [Prod.mk.injEq] at h
 exact ⟨i0, hi, h.1, h.2.1, h.2.2⟩
abbrev zRR : Value := .agg #[.string ⟨#[]⟩, .int .i64 0, .int .i64 0, .int .i64 0, .string ⟨#[]⟩]
theorem nG {w : World} {g : Nat} {cur : List Value} (h : w.heap[g]? = some (.cells cur.toArray tRR (0, 0))) (k : Nat) (v : Value) : (w.setCell ⟨g, k, none⟩ v).heap[g]? = some (.cells (cur.set k v).toArray tRR (0, 0)) := by
 rw [setCell_eq_setRow w g k cur.toArray tRR (0, 0) v h, setRow_heap w g _ _ _ _ h]
 simp
theorem xP (a0 a1 a2 a3 a4 : Value) (x : RR) (hx : lJ x = [a0, a1, a2, a3, a4]) : ∀ (l : List RR) (rest : List Value) (p : Nat), p < l.length →
  (((((flat l ++ rest).set (p * 5) a0).set (p * 5 + 1) a1).set (p * 5 + 2) a2).set (p * 5 + 3) a3).set (p * 5 + 4) a4 = flat (l.set p x) ++ rest
 | [], _, p, h => by simp at h
 | y :: l, rest, 0, _ => by
  show _ = lJ x ++ flat l ++ rest
  rw [hx]
  rfl
 | y :: l, rest, p + 1, h => by
  have ih := xP a0 a1 a2 a3 a4 x hx l rest p (by simpa using h)
  show _ = lJ y ++ flat (l.set p x) ++ rest
  rw [List.append_assoc, ← ih]
  have e : (p + 1) * 5 = p * 5 + 5 := by omega
  rw [e]
  rfl
theorem Row.put {w : World} {base g cap : Nat} {l : List RR} {rest : List Value} (h : Row w base g cap l rest) (x : RR) (p : Nat) (hp : p < l.length) (a0 a1 a2 a3 a4 : Value) (hx : lJ x = [a0, a1, a2, a3, a4]) :
  Row (((((w.setCell ⟨g, p * 5, none⟩ a0).setCell ⟨g, p * 5 + 1, none⟩ a1).setCell ⟨g, p * 5 + 2, none⟩ a2).setCell ⟨g, p * 5 + 3, none⟩ a3).setCell ⟨g, p * 5 + 4, none⟩ a4) base g cap (l.set p x) rest := by
 have hb := nG (nG (nG (nG (nG h.blk (p * 5) a0) (p * 5 + 1) a1) (p * 5 + 2) a2) (p * 5 + 3) a3) (p * 5 + 4) a4
 rw [xP a0 a1 a2 a3 a4 x hx l rest p hp] at hb
 exact ⟨hb, h.lo, h.fits, by rw [List.length_set]; exact h.len⟩
end Go.Y.Rrs
namespace Go.Y.Rrs
open Go.RowKit Go.V.aD Go.V.aN Go.V.aR Go.Y.Given Go.Y.PRd Go.Y.PRr
theorem wR (l : List RR) (pr : RR → Bool) (hn : l.length ≤ 1000000) (F : FuncId) (fn : Func) (cb : Array Value) (hf : Tryz.prog.funcs[F]? = some fn) (hname : (fn.name == "runtime.NumGoroutine") = false) (hb : fn.body.isSome = true) (A0 : Option Addr) (c0 : Nat) (w : World) (hC : Kd.C kRR w A0 l.length l)
  (hstep : ∀ x ∈ l, ∀ W, Below w.heap.size w W → Calls Tryz.prog F (#[x.v] ++ cb) W fun e w' => e = .returned (.bool (pr x)) ∧ Below W.heap.size W w') :
  Calls Tryz.prog 81 #[.slice A0 l.length c0, .func (.func F) #[] cb] w fun e w' => ∃ v0_ : Value, e = .returned v0_ ∧ Kd.R kRR 44 w' w.heap.size (fun _ => True) v0_ (l.filter pr) ∧ Below w.heap.size w w' := by
 have hu41 := Tryz.underlying44
 have HF := Lib.hid hf
 have HNM := Lib.hid hname
 have HBD := Lib.hid hb
 have HR := Lib.hid hC
 have HST := Lib.hid hstep
 obtain ⟨n, hnn⟩ : ∃ n, l.length = n := ⟨_, rfl⟩
 have HN := Lib.hid hnn
 rw [hnn] at hn ⊢
 have HB := Lib.hid (Below.refl w.heap.size w)
 clear hf hname hb hC hstep hnn
 go_enter Tryz.func81, Tryz.ntmps81
 go_wp2_with fail
 go_loopg [5, 10] n (fun kx s5 s10 wr => ∃ i : Nat, s10 = .int .i64 (i : Int) ∧ i ≤ n ∧ n - i ≤ kx ∧ Hid (Kd.R kRR 44 wr w.heap.size (fun _ => True) s5 ((l.take i).filter pr)) ∧ Hid (Below w.heap.size w wr))
 case atStart => exact ⟨0, rfl, by omega, by omega, Lib.hid (Kd.gL _ _ _ _ _), Lib.hid HB.out⟩
 case round =>
  clear HB
  obtain ⟨i, rfl, hin, hik, HO, HB⟩ := hrel
  by_cases hlt : i < n
  ·have p1 : (0 : Int) ≤ (i : Int) := by omega
   have q1 : (i : Int) < (l.length : Int) := by rw [HN.out]; omega
   obtain ⟨ad, e1, hx0, hx1, hx2, hx3, hx4⟩ := dU HR.out (i : Int) p1 q1
   cases e1
   rw [Int.toNat_natCast] at hx0 hx1 hx2 hx3 hx4
   replace hx0 := (HB.out.cell (World.block_lt_of_cell? w _ hx0)).trans hx0
   replace hx1 := (HB.out.cell (World.block_lt_of_cell? w _ hx1)).trans hx1
   replace hx2 := (HB.out.cell (World.block_lt_of_cell? w _ hx2)).trans hx2
   replace hx3 := (HB.out.cell (World.block_lt_of_cell? w _ hx3)).trans hx3
   replace hx4 := (HB.out.cell (World.block_lt_of_cell? w _ hx4)).trans hx4
   have q2 : (i : Int) < (n : Int) := by omega
   obtain ⟨x, hx⟩ : ∃ x, rdR l (i : Nat) = x := ⟨_, rfl⟩
   rw [show aj l (i : Int) = x from hx] at hx0 hx1 hx2 hx3 hx4
   have hxl : x = l[i]'(by rw [HN.out]; exact hlt) := by rw [← hx, eT l i (by rw [HN.out]; exact hlt)]
   have hxm : x ∈ l := by rw [hxl]; exact List.getElem_mem _
   have HX := Lib.hid hxl
   have HXM := Lib.hid hxm
   have hw1 : IntKind.i64.wrap ((i : Int) + 1) = (i : Int) + 1 := by rw [IntKind.wrap_i64]; omega
   clear hxm hxl hx q1
   go_wp2_with fail
   rw [nY HF.out HNM.out HBD.out, Oper.upon_enter]
   have hB1 : Below w.heap.size w (wr.alloc (.cells #[.string x.f0, .int .i64 x.f1, .int .i64 x.f2, .int .i64 x.f3, .string x.f4] 44)) := dA HB.out _
   have hO1 := Kd.aG HO.out (.cells #[.string x.f0, .int .i64 x.f1, .int .i64 x.f2, .int .i64 x.f3, .string x.f4] 44)
   have hk : (wr.alloc (.cells #[.string x.f0, .int .i64 x.f1, .int .i64 x.f2, .int .i64 x.f3, .string x.f4] 44)).heap[wr.heap.size]? = some (.cells #[.string x.f0, .int .i64 x.f1, .int .i64 x.f2, .int .i64 x.f3, .string x.f4] 44 (0, 0)) := by show (wr.heap.push _)[wr.heap.size]? = _; simp
   have hgz : wr.heap.size < (wr.alloc (.cells #[.string x.f0, .int .i64 x.f1, .int .i64 x.f2, .int .i64 x.f3, .string x.f4] 44)).heap.size := by show _ < (wr.heap.push _).size; simp
   generalize wr.alloc (.cells #[.string x.f0, .int .i64 x.f1, .int .i64 x.f2, .int .i64 x.f3, .string x.f4] 44) = w1 at hB1 hO1 hk hgz ⊢
   generalize wr.heap.size = gb at hk hgz ⊢
   have hcall := HST.out x HXM.out w1 hB1
   refine hcall.mono ?_
   rintro e w4 ⟨rfl, hb4⟩
   have hk4 : w4.heap[gb]? = _ := (hb4.block gb hgz).trans hk
   have HB4 := Lib.hid (iE hB1 hB1.size hb4)
   have HO4 := Lib.hid (Kd.aY hO1 hb4)
   clear hb4 HB HO hB1 hO1 hk hgz hcall hx0 hx1 hx2 hx3 hx4
   have hx0 : w4.cell? ⟨gb, 0, none⟩ = some (.string x.f0) := by simp [World.cell?, hk4]
   have hx1 : w4.cell? ⟨gb, 1, none⟩ = some (.int .i64 x.f1) := by simp [World.cell?, hk4]
   have hx2 : w4.cell? ⟨gb, 2, none⟩ = some (.int .i64 x.f2) := by simp [World.cell?, hk4]
   have hx3 : w4.cell? ⟨gb, 3, none⟩ = some (.int .i64 x.f3) := by simp [World.cell?, hk4]
   have hx4 : w4.cell? ⟨gb, 4, none⟩ = some (.string x.f4) := by simp [World.cell?, hk4]
   have HSTEP := Lib.hid (show (l.take (i + 1)).filter pr = (l.take i).filter pr ++ (if pr x = true then [x] else []) by
    rw [List.take_add_one, List.getElem?_eq_getElem (by rw [HN.out]; exact hlt), List.filter_append]
    congr 1
    rw [HX.out]
    simp only [Option.toList_some, List.filter_cons, List.filter_nil])
   clear hk4
   generalize hd : pr x = d at HSTEP
   clear hd
   cases d with
   | true =>
    go_wp2_with (first | ((with_reducible refine ig (b := .append) (xs := #[.tmp 17, .tmp 19]) rfl ?_); at_builtin; refine Kd.jG k44 (w0 := w) w.heap.size rfl (.tmp 17) (.tmp 19) 22 44 (.agg #[(.string ⟨#[]⟩), (.int .i64 0), (.int .i64 0), (.int .i64 0), (.string ⟨#[]⟩)]) 56 rfl Tryz.underlying22 xK rfl (by decide) (by omega) u5 ((l.take i).filter pr) x [.string x.f0, .int .i64 x.f1, .int .i64 x.f2, .int .i64 x.f3, .string x.f4] (fun _ => True) (fun _ => False) rfl rfl ?aP (fun _ hk => hk.elim) ?aF ?aO ?aB ?aS ?aL ?_; (case aP => exact gQ _ _ _ x); (case aB => exact (by repeat (first | (with_reducible first | exact HB4.out | apply dA | apply cK | apply dO) | exact HB4.out))); (case aF => exact (fun _ _ => trivial)); (case aO => exact (by (with_reducible repeat (first | apply Kd.aG | apply Kd.vT | apply Kd.iq)); exact HO4.out)); (case aS => exact (aA (by repeat (first | (with_reducible first | exact HB4.out | apply dA | apply cK | apply dO) | exact HB4.out)))); (case aL => have h1 := List.length_filter_le pr (l.take i); have h2 := HN.out; rw [List.length_take] at h1; omega); intro v7 w7 ho hb hg hat; have n0_ := Lib.hid hb; have n1_ := Lib.hid ho; clear HB4 HO4; have HB4 := n0_; have HO4 := n1_; clear n0_ n1_ ho hb hg hat))
    go_roundg (n - (i + 1))
    case measure => omega
    case rel => exact ⟨i + 1, by rw [show ((i + 1 : Nat) : Int) = (i : Int) + 1 by omega], by omega, Nat.le_refl _, Lib.hid (by rw [HSTEP.out]; simpa using HO4.out), HB4⟩
   | false =>
    go_wp2_with fail
    go_roundg (n - (i + 1))
    case measure => omega
    case rel => exact ⟨i + 1, by rw [show ((i + 1 : Nat) : Int) = (i : Int) + 1 by omega], by omega, Nat.le_refl _, Lib.hid (by rw [HSTEP.out]; simpa using HO4.out), HB4⟩
  ·obtain rfl : i = n := by omega
   have b1 : ¬ ((i : Int) < (i : Int)) := by omega
   go_wp2_with fail
   go_ret
   refine ⟨_, rfl, ?_, HB.out⟩
   have := HO.out
   rw [List.take_of_length_le (by rw [HN.out]; exact Nat.le_refl _)] at this
   exact this
end Go.Y.Rrs
namespace Go.Y.Rrs
open Go.RowKit Go.V.aD Go.V.aN Go.V.aR Go.Y.Given Go.Y.PRd Go.Y.PRr
theorem Br (x : RR) (t : Int) (g : Nat) (w : World) (hc : w.cell? ⟨g, 0, none⟩ = some (.int .i64 t)) :
  Calls Tryz.prog 82 (#[x.v] ++ #[.pointer (some ⟨g, 0, none⟩)]) w fun e w' => e = .returned (.bool (x.f1 == t)) ∧ Below w.heap.size w w' := by
 have hu41 := Tryz.underlying44
 have HB := ah.mk (Below.refl w.heap.size w)
 have HC := Lib.hid hc
 clear hc
 show Calls Tryz.prog 82 #[.agg #[.string x.f0, .int .i64 x.f1, .int .i64 x.f2, .int .i64 x.f3, .string x.f4], .pointer (some ⟨g, 0, none⟩)] w _
 go_enter Tryz.func82, Tryz.ntmps82
 go_wp2_with (first | ((with_reducible refine bB (N := 2) rfl ?_); refine bG ?hg (N := 2) ?hd (cs := #[.string x.f0, .int .i64 x.f1, .int .i64 x.f2, .int .i64 x.f3, .string x.f4]) (t := 44) ?hr ?_; (case hd => rfl); (case hg => rfl); (case hr => first | (go_simp; done) | (go_simp; rfl)); intro gb hg w3 hbox hb; have n0_ := ah.mk (au (HB.out) hb); have n1_ := ah.mk (hbox); clear HB; have HB := n0_; have BK := n1_; have hc3 : w3.cell? ⟨g, 0, none⟩ = some (.int .i64 t) := (HB.out.cell (World.block_lt_of_cell? w _ HC.out)).trans HC.out; clear n0_ n1_; clear hb hbox hg; have hcz1 : w3.cell? ⟨gb, 1, none⟩ = some (.int .i64 x.f1) := (aC BK.out 1).trans rfl))
 go_ret
 exact ⟨rfl, HB.out⟩
theorem Gv (x : RR) (n : ByteArray) (b : Bool) (g : Nat) (w : World) (hc : w.cell? ⟨g, 0, none⟩ = some (.string n)) (h : bW.f x.f0 n = some b) :
  Calls Tryz.prog 89 (#[x.v] ++ #[.pointer (some ⟨g, 0, none⟩)]) w fun e w' => e = .returned (.bool b) ∧ Below w.heap.size w w' := by
 have hu41 := Tryz.underlying44
 have HB := ah.mk (Below.refl w.heap.size w)
 have HC := Lib.hid hc
 have HA := Lib.hid h
 clear hc h
 show Calls Tryz.prog 89 #[.agg #[.string x.f0, .int .i64 x.f1, .int .i64 x.f2, .int .i64 x.f3, .string x.f4], .pointer (some ⟨g, 0, none⟩)] w _
 go_enter Tryz.func89, Tryz.ntmps89
 go_wp2_with (first | ((with_reducible refine bB (N := 2) rfl ?_); refine bG ?hg (N := 2) ?hd (cs := #[.string x.f0, .int .i64 x.f1, .int .i64 x.f2, .int .i64 x.f3, .string x.f4]) (t := 44) ?hr ?_; (case hd => rfl); (case hg => rfl); (case hr => first | (go_simp; done) | (go_simp; rfl)); intro gb hg w3 hbox hb; have n0_ := ah.mk (au (HB.out) hb); have n1_ := ah.mk (hbox); clear HB; have HB := n0_; have BK := n1_; have hc3 : w3.cell? ⟨g, 0, none⟩ = some (.string n) := (HB.out.cell (World.block_lt_of_cell? w _ HC.out)).trans HC.out; clear n0_ n1_; clear hb hbox hg; have hcz0 : w3.cell? ⟨gb, 0, none⟩ = some (.string x.f0) := (aC BK.out 0).trans rfl))
 refine (bW.calls x.f0 n b w3 HA.out).mono ?_
 rintro e w4 ⟨rfl, hb4⟩
 have HB4 := Lib.hid (iE HB.out HB.out.size hb4)
 clear hb4 HB
 go_wp2_with fail
 go_ret
 exact ⟨rfl, HB4.out⟩
end Go.Y.Rrs
namespace Go.Y.Given
open Go.RowKit Go.V.aD Go.V.aN Go.V.aR Go.Y.PRd Go.Y.PRr Go.Y.Rrs
def iA.f (l0 : List (S44)) (a1 : Int) : Option (List (S44)) := if l0.length ≤ 1000000 then some (l0.filter fun x => x.f1 == a1) else none
theorem iA.calls (A0 : Option Addr) (c0 : Nat) (l0 : List (S44)) (a1 : Int) (r : List (S44)) (w : World) (hr0 : Kd.C k44 w A0 l0.length l0) (hc0 : l0.length ≤ c0) (h : iA.f l0 a1 = some r) :
  Calls Tryz.prog 41 #[.slice A0 l0.length c0, .int .i64 a1] w fun e w' => ∃ v0_ : Value, e = .returned (v0_) ∧ Kd.R k44 44 w' w.heap.size (fun _ => True) v0_ r ∧ Below w.heap.size w w' := by
 unfold iA.f at h
 have hn : l0.length ≤ 1000000 := Classical.byContradiction fun hn => by rw [if_neg hn] at h; cases h
 rw [if_pos hn] at h
 injection h with h
 subst h
 have HR := Lib.hid hr0
 have HB := ah.mk (Below.refl w.heap.size w)
 clear hr0 hc0
 go_enter Tryz.func41, Tryz.ntmps41
 go_wp2_with (first | ((with_reducible refine bB (N := 3) rfl ?_); refine bG ?hg (N := 3) ?hd (cs := #[.int .i64 a1]) (t := 3) ?hr ?_; (case hd => rfl); (case hg => rfl); (case hr => first | (go_simp; done) | (go_simp; rfl)); intro gb hg w3 hbox hb; have n0_ := ah.mk (au (HB.out) hb); have n1_ := ah.mk (hbox); clear HB; have HB := n0_; have BK := n1_; clear n0_ n1_; clear hb hbox hg; have hcz1 : w3.cell? ⟨gb, 0, none⟩ = some (.int .i64 a1) := (aC BK.out 0).trans rfl))
 have HC3 := Lib.hid hcz1
 refine (wR l0 (fun x => x.f1 == a1) hn 82 Tryz.f82 _ Tryz.func82 (by kernel_rfl) rfl A0 c0 w3 (Kd.fH HR.out HB.out) (fun x _ W hW => Br x a1 gb W ((hW.cell (World.block_lt_of_cell? w3 _ HC3.out)).trans HC3.out))).mono ?_
 rintro e w4 ⟨v, rfl, hv, hb4⟩
 have HV := Lib.hid hv
 have HB4 := Lib.hid (iE HB.out HB.out.size hb4)
 have HS := Lib.hid HB.out.size
 clear hb4 HB hv
 go_wp2_with fail
 go_ret
 exact ⟨_, rfl, Kd.bX HV.out HS.out, HB4.out⟩
open Classical in
noncomputable def jU.f (l0 : List (S44)) (a1 : ByteArray) : Option (List (S44)) := if l0.length ≤ 1000000 ∧ ∀ x ∈ l0, (bW.f x.f0 a1).isSome = true then some (l0.filter fun x => (bW.f x.f0 a1).getD false) else none
theorem jU.calls (A0 : Option Addr) (c0 : Nat) (l0 : List (S44)) (a1 : ByteArray) (r : List (S44)) (w : World) (hr0 : Kd.C k44 w A0 l0.length l0) (hc0 : l0.length ≤ c0) (h : jU.f l0 a1 = some r) :
  Calls Tryz.prog 52 #[.slice A0 l0.length c0, .string a1] w fun e w' => ∃ v0_ : Value, e = .returned (v0_) ∧ Kd.R k44 44 w' w.heap.size (fun _ => True) v0_ r ∧ Below w.heap.size w w' := by
 unfold jU.f at h
 have hn : l0.length ≤ 1000000 ∧ ∀ x ∈ l0, (bW.f x.f0 a1).isSome = true := Classical.byContradiction fun hn => by rw [if_neg hn] at h; cases h
 rw [if_pos hn] at h
 injection h with h
 subst h
 have HR := Lib.hid hr0
 have HA := Lib.hid hn.2
 replace hn := hn.1
 have HB := ah.mk (Below.refl w.heap.size w)
 clear hr0 hc0
 go_enter Tryz.func52, Tryz.ntmps52
 go_wp2_with (first | ((with_reducible refine bB (N := 3) rfl ?_); refine bG ?hg (N := 3) ?hd (cs := #[.string a1]) (t := 9) ?hr ?_; (case hd => rfl); (case hg => rfl); (case hr => first | (go_simp; done) | (go_simp; rfl)); intro gb hg w3 hbox hb; have n0_ := ah.mk (au (HB.out) hb); have n1_ := ah.mk (hbox); clear HB; have HB := n0_; have BK := n1_; clear n0_ n1_; clear hb hbox hg; have hcz1 : w3.cell? ⟨gb, 0, none⟩ = some (.string a1) := (aC BK.out 0).trans rfl))
 have HC3 := Lib.hid hcz1
 refine (wR l0 (fun x => (bW.f x.f0 a1).getD false) hn 89 Tryz.f89 _ Tryz.func89 (by kernel_rfl) rfl A0 c0 w3 (Kd.fH HR.out HB.out) (fun x hx W hW => Gv x a1 _ gb W ((hW.cell (World.block_lt_of_cell? w3 _ HC3.out)).trans HC3.out) (by
  obtain ⟨b, hb⟩ := Option.isSome_iff_exists.mp (HA.out x hx)
  rw [hb]; rfl))).mono ?_
 rintro e w4 ⟨v, rfl, hv, hb4⟩
 have HV := Lib.hid hv
 have HB4 := Lib.hid (iE HB.out HB.out.size hb4)
 have HS := Lib.hid HB.out.size
 clear hb4 HB hv
 go_wp2_with fail
 go_ret
 exact ⟨_, rfl, Kd.bX HV.out HS.out, HB4.out⟩
end Go.Y.Given
namespace Go.Y.Rrs
open Go.RowKit Go.V.aD Go.V.aN Go.V.aR Go.Y.Given Go.Y.PRd Go.Y.PRr Go.Y.Oct Go.Y.Name Go.Y.Cmp Go.Y.fC Go.Y.fu Go.Y.gI
def fT (a b : ByteArray) : Bool := (bW.f a b).getD false
def lQ (a b : ByteArray) : Bool := (bq.f 300 a b).getD false
theorem vk (a b : ByteArray) : (∃ l m, good l ∧ good m ∧ (bZ l).size ≤ 255 ∧ (bZ m).size ≤ 255 ∧ a = bZ l ∧ b = bZ m) ∨ (bQ a = false ∨ bQ b = false) := by
 cases ha : bQ a
 ·exact .inr (.inl rfl)
 cases hb : bQ b
 ·exact .inr (.inr rfl)
 obtain ⟨l, h1, h2, h3⟩ := (mg a).mp ha
 obtain ⟨m, k1, k2, k3⟩ := (mg b).mp hb
 exact .inl ⟨l, m, h1, k1, h3, k3, h2, k2⟩
theorem kR (a b : ByteArray) : bW.f a b = some (fT a b) := by
 unfold fT
 rcases vk a b with ⟨l, m, gl, gm, sl, sm, rfl, rfl⟩ | h
 ·rw [sQ l m gl gm sl sm]; rfl
 ·rw [FD a b h]; rfl
theorem zu {l m : List ByteArray} (gl : good l) (gm : good m) (sl : (bZ l).size ≤ 255) (sm : (bZ m).size ≤ 255) : fT (bZ l) (bZ m) = decide (l.map iD = m.map iD) := by
 unfold fT; rw [sQ l m gl gm sl sm]; rfl
theorem uz (a b : ByteArray) (k : Nat) (hk : 300 ≤ k) : bq.f k a b = some (lQ a b) := by
 unfold lQ
 rcases vk a b with ⟨l, m, gl, gm, sl, sm, rfl, rfl⟩ | h
 ·rw [Ak l m gl gm sl sm k hk, Ak l m gl gm sl sm 300 (Nat.le_refl _)]; rfl
 ·rw [yL a b h k (by omega), yL a b h 300 (by omega)]; rfl
theorem EO (a b : ByteArray) : Ev (fun k => bq.f k a b) (lQ a b) := ⟨300, fun k hk => uz a b k hk⟩
theorem rD {x y : RR} (hx : bQ x.f0 = true) (hy : bQ y.f0 = true) : fT x.f0 y.f0 = true ↔ iP x = iP y := by
 obtain ⟨l, gl, sl, el, kl⟩ := qp x hx
 obtain ⟨m, gm, sm, em, km⟩ := qp y hy
 rw [kl, km, el, em, zu gl gm sl sm, decide_eq_true_eq, List.reverse_inj]
theorem uM {a : ByteArray} (ha : bQ a = true) : fT a a = true := (rD (x := ⟨a, 0, 0, 0, a⟩) (y := ⟨a, 0, 0, 0, a⟩) ha ha).mpr rfl
theorem Er (x : RR) : jw.f x.f0 x.f1 x.f2 x.f3 x.f4 = some (mJ x.f2 x.f4) := by
 unfold jw.f mJ
 repeat' split
 all_goals rfl
theorem BN (b : Bool) (x : RR) (h : b = false → x.f4.size ≤ 1000000) : Ev (fun k => bC.j0 k b x.f0 x.f1 x.f2 x.f3 x.f4) (!b && (!mJ x.f2 x.f4 || jC x.f1 x.f4)) := by
 have hs : ∀ k, bC.j0 (k + 1) b x.f0 x.f1 x.f2 x.f3 x.f4 = if b = true then some false else (jw.f x.f0 x.f1 x.f2 x.f3 x.f4).bind fun t => if t = true then (iB.f x.f1 x.f4).bind fun u => some u else some true := fun k => by
  simp only [bC.j0]
 refine Ev.step hs ?_
 cases b
 ·simp only [Er, Option.bind_some, Bool.false_eq_true, if_false]
  cases ht : mJ x.f2 x.f4
  ·simp only [Bool.false_eq_true, if_false]
   exact Ev.now _
  ·simp only [if_true]
   refine Ev.const ?_
   have := h rfl
   unfold iB.f
   rw [if_pos (by omega)]
   rfl
 ·simp only [if_true]
  exact Ev.now _
theorem uy (x : RR) : Ev (fun k => bC.f k x.f0 x.f1 x.f2 x.f3 x.f4) (gP x) := by
 have hs : ∀ k, bC.f k x.f0 x.f1 x.f2 x.f3 x.f4 = bC.j0 k (!(bQ x.f0 && (decide (0 ≤ x.f1) && (decide (x.f1 ≤ 65535) && (decide (0 ≤ x.f2) && (decide (x.f2 ≤ 65535) && (decide (0 ≤ x.f3) && (decide (x.f3 ≤ 2147483647) && decide (x.f4.size ≤ 65535))))))))) x.f0 x.f1 x.f2 x.f3 x.f4 := fun k => by
  unfold bC.f
  rw [jN, Option.bind_some]
  by_cases h1 : x.f1 < 0
  ·simp [h1, show ¬ (0 ≤ x.f1) by omega]
  by_cases h2 : x.f1 > 65535
  ·simp [h1, h2, show ¬ (x.f1 ≤ 65535) by omega]
  by_cases h3 : x.f2 < 0
  ·simp [h1, h2, h3, show ¬ (0 ≤ x.f2) by omega]
  by_cases h4 : x.f2 > 65535
  ·simp [h1, h2, h3, h4, show ¬ (x.f2 ≤ 65535) by omega]
  by_cases h5 : x.f3 < 0
  ·simp [h1, h2, h3, h4, h5, show ¬ (0 ≤ x.f3) by omega]
  by_cases h6 : x.f3 > 2147483647
  ·simp [h1, h2, h3, h4, h5, h6, show ¬ (x.f3 ≤ 2147483647) by omega]
  have e7 : decide ((x.f4.size : Int) > 65535) = !decide (x.f4.size ≤ 65535) := by
   by_cases h7 : x.f4.size ≤ 65535
   ·rw [decide_eq_true h7, decide_eq_false (by omega)]; rfl
   ·rw [decide_eq_false h7, decide_eq_true (by omega)]; rfl
  rw [if_neg h1, if_neg h2, if_neg h3, if_neg h4, if_neg h5, if_neg h6, e7]
  cases bQ x.f0
  ·simp
  ·simp [show 0 ≤ x.f1 by omega, show x.f1 ≤ 65535 by omega, show 0 ≤ x.f2 by omega, show x.f2 ≤ 65535 by omega, show 0 ≤ x.f3 by omega, show x.f3 ≤ 2147483647 by omega]
 refine Ev.congr hs ?_
 refine (?_ : (!(!(bQ x.f0 && _)) && _) = gP x) ▸ BN _ x ?_
 ·unfold gP
  simp only [Bool.not_not, Bool.and_assoc]
 ·intro h
  simp only [Bool.not_eq_false', Bool.and_eq_true, decide_eq_true_eq] at h
  omega
def su (t : Int) : Bool := (fI.f t).getD false
theorem Ap (t : Int) : fI.f t = some (su t) := by
 unfold su fI.f
 repeat' split
 all_goals rfl
def lZ (a : ByteArray) (x : RR) : Bool := decide (x.f2 = 1) && (su x.f1 && lQ x.f0 a)
theorem uj (a : ByteArray) (x : RR) (k : Nat) (hk : 300 ≤ k) : fP.f k a x.f0 x.f1 x.f2 x.f3 x.f4 = some (lZ a x) := by
 unfold fP.f lZ
 rw [Ap, uz _ _ k hk]
 by_cases h : x.f2 = 1
 ·rw [if_pos h, decide_eq_true h, Option.bind_some]
  cases su x.f1 <;> rfl
 ·rw [if_neg h, decide_eq_false h]; rfl
def atL (l : List RR) (n : ByteArray) : List RR := l.filter fun x => fT x.f0 n
def fU (l : List RR) (t : Int) : List RR := l.filter fun x => x.f1 == t
def gN (l : List RR) (n : ByteArray) (t : Int) : List RR := fU (atL l n) t
theorem AY (l : List RR) (n : ByteArray) (h : l.length ≤ 1000000) : jU.f l n = some (atL l n) := by
 unfold jU.f
 rw [if_pos ⟨h, fun x _ => by rw [kR]; rfl⟩]
 rfl
theorem tQ (l : List RR) (t : Int) (h : l.length ≤ 1000000) : iA.f l t = some (fU l t) := by
 unfold iA.f
 rw [if_pos h]; rfl
theorem vS (l : List RR) (n : ByteArray) : (atL l n).length ≤ l.length := List.length_filter_le _ _
theorem AU (l : List RR) (t : Int) : (fU l t).length ≤ l.length := List.length_filter_le _ _
def lW (l : List RR) (i : Nat) : Bool := !((rdR l (i : Int)).f1 == 5 && ((decide (0 < i) && fT (rdR l ((i - 1 : Nat) : Int)).f0 (rdR l (i : Int)).f0) || (decide (i + 1 < l.length) && fT (rdR l ((i + 1 : Nat) : Int)).f0 (rdR l (i : Int)).f0)))
def ku (l : List RR) : Nat → Nat → Bool
 | 0, _ => true
 | d + 1, i => if i < l.length then lW l i && ku l d (i + 1) else true
def oq (l : List RR) : Bool := ku l l.length 0
theorem Bt (l : List RR) (hn : l.length ≤ 1000000) : ∀ (d i : Nat), l.length ≤ i + d → i ≤ l.length → Ev (fun k => bK.l0 k l l (l.length : Int) (i : Int)) (ku l d i) := by
 intro d
 induction d with
 | zero =>
  intro i hd hi0
  exact Ev.step (f := fun _ => some true) (fun k => by rw [bK.l0]; rw [if_neg (by omega)]) (Ev.now _)
 | succ d ih =>
  intro i hd hi0
  by_cases hi : i < l.length
  ·rw [ku, if_pos hi]
   have e1 : wrap64 ((i : Int) + 1) = ((i + 1 : Nat) : Int) := by unfold wrap64; omega
   have ihn := ih (i + 1) (by omega) (by omega)
   have hnext : Ev (fun k => if ((i + 1 : Nat) : Int) < (l.length : Int) then (if 0 ≤ ((i + 1 : Nat) : Int) then ((bW.f (rdR l ((i + 1 : Nat) : Int)).f0 (rdR l (i : Int)).f0).bind fun t => if t = true then some false else bK.l0 k l l (l.length : Int) ((i + 1 : Nat) : Int)) else none) else bK.l0 k l l (l.length : Int) ((i + 1 : Nat) : Int))
     (!(decide (i + 1 < l.length) && fT (rdR l ((i + 1 : Nat) : Int)).f0 (rdR l (i : Int)).f0) && ku l d (i + 1)) := by
    by_cases h : i + 1 < l.length
    ·simp only [show (((i + 1 : Nat) : Int) < (l.length : Int)) = True from eq_true (by omega), show (0 ≤ ((i + 1 : Nat) : Int)) = True from eq_true (by omega), if_true, kR, Option.bind_some, decide_eq_true h, Bool.true_and]
     cases fT (rdR l ((i + 1 : Nat) : Int)).f0 (rdR l (i : Int)).f0
     ·simp only [Bool.false_eq_true, if_false, Bool.not_false, Bool.true_and]; exact ihn
     ·simp only [if_true, Bool.not_true, Bool.false_and]; exact Ev.now _
    ·simp only [show (((i + 1 : Nat) : Int) < (l.length : Int)) = False from eq_false (by omega), if_false, decide_eq_false h, Bool.false_and, Bool.not_false, Bool.true_and]
     exact ihn
   have hs : ∀ k, bK.l0 (k + 1) l l (l.length : Int) (i : Int) = if (rdR l (i : Int)).f1 = 5 then (if (i : Int) > 0 then (if 0 ≤ wrap64 ((i : Int) - 1) then (if wrap64 ((i : Int) - 1) < (l.length : Int) then ((bW.f (rdR l (wrap64 ((i : Int) - 1))).f0 (rdR l (i : Int)).f0).bind fun t => if t = true then some false else if ((i + 1 : Nat) : Int) < (l.length : Int) then (if 0 ≤ ((i + 1 : Nat) : Int) then ((bW.f (rdR l ((i + 1 : Nat) : Int)).f0 (rdR l (i : Int)).f0).bind fun t => if t = true then some false else bK.l0 k l l (l.length : Int) ((i + 1 : Nat) : Int)) else none) else bK.l0 k l l (l.length : Int) ((i + 1 : Nat) : Int)) else none) else none)
     else if ((i + 1 : Nat) : Int) < (l.length : Int) then (if 0 ≤ ((i + 1 : Nat) : Int) then ((bW.f (rdR l ((i + 1 : Nat) : Int)).f0 (rdR l (i : Int)).f0).bind fun t => if t = true then some false else bK.l0 k l l (l.length : Int) ((i + 1 : Nat) : Int)) else none) else bK.l0 k l l (l.length : Int) ((i + 1 : Nat) : Int)) else bK.l0 k l l (l.length : Int) ((i + 1 : Nat) : Int) := fun k => by
    rw [bK.l0, e1]; rw [if_pos (by omega), if_pos (by omega), if_pos (by omega)]
   refine Ev.step hs ?_
   unfold lW
   by_cases h5 : (rdR l (i : Int)).f1 = 5
   ·simp only [h5, if_true, beq_self_eq_true, Bool.true_and]
    by_cases h0 : 0 < i
    ·have e2 : wrap64 ((i : Int) - 1) = ((i - 1 : Nat) : Int) := by unfold wrap64; omega
     simp only [e2, show ((i : Int) > 0) = True from eq_true (by omega), show (0 ≤ ((i - 1 : Nat) : Int)) = True from eq_true (by omega), show (((i - 1 : Nat) : Int) < (l.length : Int)) = True from eq_true (by omega), if_true, kR, Option.bind_some, decide_eq_true h0, Bool.true_and]
     simp only [kR, Option.bind_some] at hnext
     cases fT (rdR l ((i - 1 : Nat) : Int)).f0 (rdR l (i : Int)).f0
     ·simp only [Bool.false_eq_true, if_false, Bool.false_or]; exact hnext
     ·simp only [if_true, Bool.true_or, Bool.not_true, Bool.false_and]; exact Ev.now _
    ·simp only [show ((i : Int) > 0) = False from eq_false (by omega), if_false, decide_eq_false h0, Bool.false_and, Bool.false_or]
     exact hnext
   ·have h5' : ((rdR l (i : Int)).f1 == 5) = false := beq_eq_false_iff_ne.mpr h5
    simp only [h5, if_false, h5', Bool.false_and, Bool.not_false, Bool.true_and]
    exact ihn
  ·rw [ku, if_neg hi]
   exact Ev.step (f := fun _ => some true) (fun k => by rw [bK.l0]; rw [if_neg (by omega)]) (Ev.now _)
theorem Fp (l : List RR) (hn : l.length ≤ 1000000) : Ev (fun k => bK.f k l) (oq l) := Bt l hn l.length 0 (by omega) (Nat.zero_le _)
theorem xA (l : List RR) : ∀ (d i : Nat), l.length ≤ i + d → (ku l d i = true ↔ ∀ j, i ≤ j → j < l.length → lW l j = true) := by
 intro d
 induction d with
 | zero => intro i hd; exact ⟨fun _ j h1 h2 => by omega, fun _ => rfl⟩
 | succ d ih =>
  intro i hd
  rw [ku]
  split
  ·rename_i hi
   rw [Bool.and_eq_true, ih (i + 1) (by omega)]
   constructor
   ·rintro ⟨h1, h2⟩ j hj hl
    by_cases e : j = i
    ·rw [e]; exact h1
    ·exact h2 j (by omega) hl
   ·exact fun h => ⟨h i (Nat.le_refl _) hi, fun j hj hl => h j (by omega) hl⟩
  ·rename_i hi
   exact ⟨fun _ j h1 h2 => by omega, fun _ => rfl⟩
theorem vG (l : List RR) : oq l = true ↔ ∀ j, j < l.length → lW l j = true := by
 unfold oq
 rw [xA l _ 0 (by omega)]
 exact ⟨fun h j hj => h j (Nat.zero_le _) hj, fun h j _ hj => h j hj⟩
end Go.Y.Rrs
namespace Go.Y.gI
variable {α : Type} {c : α → α → Int}
theorem uq (O : gH c) (a b : List α) (h : ∀ x ∈ a, ∀ y ∈ b, ¬ c x y = 0) (z : α) : cls c (a ++ b) z = cls c (b ++ a) z := by
 rw [dX, dX]
 by_cases ha : ∃ x ∈ a, c z x = 0
 ·obtain ⟨x, hx, h0⟩ := ha
  have : cls c b z = [] := lV fun y hy h1 => h x hx y hy (by rw [← O.cong z x y h0]; exact h1)
  rw [this]; simp
 ·have : cls c a z = [] := lV fun y hy h1 => ha ⟨y, hy, h1⟩
  rw [this]; simp
theorem eG.sj {l : List α} (h : Sorted c l) : eG c l l := ⟨h, fun _ => rfl⟩
theorem eG.mem (O : gH c) {l m : List α} (h : eG c l m) {y : α} (hy : y ∈ m) : y ∈ l := lD O h.2 hy
theorem nS {l m : List α} (hl : Sorted c l) (hm : Sorted c m) (h : ∀ x ∈ l, ∀ y ∈ m, c x y ≤ 0) : Sorted c (l ++ m) := List.pairwise_append.mpr ⟨hl, hm, h⟩
theorem lM {l m : List α} (h : Sorted c (l ++ m)) : Sorted c l := (List.pairwise_append.mp h).1
theorem mE {l m : List α} (h : Sorted c (l ++ m)) : Sorted c m := (List.pairwise_append.mp h).2.1
theorem kg {l m : List α} (h : Sorted c (l ++ m)) : ∀ x ∈ l, ∀ y ∈ m, c x y ≤ 0 := (List.pairwise_append.mp h).2.2
theorem nQ (O : gH c) {l1 l2 : List α} {x : α} (hs : Sorted c (l1 ++ l2)) (h1 : ∀ y ∈ l1, c y x ≤ 0) (h2 : ∀ y ∈ l2, c x y < 0) : eG c (l1 ++ l2 ++ [x]) (l1 ++ x :: l2) := by
 refine ⟨?_, fun z => ?_⟩
 ·refine nS (lM hs) (List.pairwise_cons.mpr ⟨fun y hy => by have := h2 y hy; omega, mE hs⟩) fun a ha b hb => ?_
  rcases List.mem_cons.mp hb with rfl | hb
  ·exact h1 a ha
  ·exact kg hs a ha b hb
 ·have e := uq O [x] l2 (fun a ha b hb => by
   rw [List.mem_singleton] at ha
   subst ha
   have := h2 b hb
   omega) z
  rw [dX, show x :: l2 = [x] ++ l2 from rfl, e, List.append_assoc, dX c l1]
theorem yO (O : gH c) {r1 r2 : List α} {x : α} (hs : Sorted c (r1 ++ r2)) (h1 : ∀ y ∈ r1, c y x < 0) (h2 : ∀ y ∈ r2, 0 ≤ c y x) : eG c ([x] ++ (r1 ++ r2)) (r1 ++ x :: r2) := by
 refine ⟨?_, fun z => ?_⟩
 ·refine nS (lM hs) (List.pairwise_cons.mpr ⟨fun y hy => by have := h2 y hy; have := O.flip y x; omega, mE hs⟩) fun a ha b hb => ?_
  rcases List.mem_cons.mp hb with rfl | hb
  ·have := h1 a ha; omega
  ·exact kg hs a ha b hb
 ·have e := uq O r1 [x] (fun a ha b hb => by
   rw [List.mem_singleton] at hb
   subst hb
   have := h1 a ha
   omega) z
  rw [show r1 ++ x :: r2 = r1 ++ [x] ++ r2 by simp, dX, e, ← dX, List.append_assoc]
theorem xC (O : gH c) {l1 l2 r1 r2 m1 m2 : List α} (hl : Sorted c (l1 ++ l2)) (hr : Sorted c (r1 ++ r2)) (h1 : ∀ x ∈ l1, ∀ y ∈ r2, c x y ≤ 0) (h2 : ∀ y ∈ r1, ∀ x ∈ l2, c y x < 0)
  (s1 : eG c (l1 ++ r1) m1) (s2 : eG c (l2 ++ r2) m2) : eG c ((l1 ++ l2) ++ (r1 ++ r2)) (m1 ++ m2) := by
 refine ⟨nS s1.1 s2.1 fun x hx y hy => ?_, fun z => ?_⟩
 ·have hx' := s1.mem O hx
  have hy' := s2.mem O hy
  rcases List.mem_append.mp hx' with hx' | hx' <;> rcases List.mem_append.mp hy' with hy' | hy'
  ·exact kg hl x hx' y hy'
  ·exact h1 x hx' y hy'
  ·have := h2 x hx' y hy'; omega
  ·exact kg hr x hx' y hy'
 ·have e := uq O r1 l2 (fun a ha b hb => by have := h2 a ha b hb; omega) z
  rw [dX, s1.2, s2.2, ← dX, show l1 ++ r1 ++ (l2 ++ r2) = l1 ++ (r1 ++ l2) ++ r2 by simp, dX, dX c l1, e, ← dX, ← dX]
  simp
def Blocks (c : α → α → Int) (s : Nat) (l : List α) : Prop := ∀ k, Sorted c ((l.drop (k * s)).take s)
theorem vv (s : Nat) : Blocks c s [] := fun k => by simp [Sorted]
theorem lK {s t : Nat} {p q : List α} (hp : Blocks c s p) (ht : p.length = t * s) (hq : Sorted c q) (hs : q.length ≤ s) : Blocks c s (p ++ q) := by
 intro k
 rw [List.drop_append]
 by_cases h : k < t
 ·have h1 : (k + 1) * s ≤ t * s := Nat.mul_le_mul_right s h
  rw [Nat.add_mul, Nat.one_mul] at h1
  rw [Nat.sub_eq_zero_of_le (show k * s ≤ p.length by omega), List.drop_zero, List.take_append_of_le_length (by rw [List.length_drop]; omega)]
  exact hp k
 ·have h1 : t * s ≤ k * s := Nat.mul_le_mul_right s (by omega)
  rw [List.drop_of_length_le (by omega), List.nil_append]
  exact (hq.sublist (List.drop_sublist _ _)).sublist (List.take_sublist _ _)
theorem uU {s : Nat} {l : List α} (h : Blocks c s l) (hs : l.length ≤ s) : Sorted c l := by
 have := h 0
 rw [Nat.zero_mul, List.drop_zero, List.take_of_length_le hs] at this
 exact this
theorem vF (p s : List α) (x y : α) : (p ++ x :: s).set p.length y = p ++ y :: s := by
 rw [List.set_append_right _ _ (Nat.le_refl _), Nat.sub_self, List.set_cons_zero]
theorem CS (p s : List α) (x y : α) (i : Nat) (hi : i = p.length) : ((p ++ x :: y :: s).set (i + 1) x).set i y = p ++ y :: x :: s := by
 subst hi
 rw [show p ++ x :: y :: s = (p ++ [x]) ++ y :: s by simp, show p.length + 1 = (p ++ [x]).length by simp, vF, show p ++ [x] ++ x :: s = p ++ x :: (x :: s) by simp, vF]
theorem Gn (p s : List α) (x y : α) (i : Nat) (hi : i = p.length) : ((p ++ x :: y :: s).set i y).set (i + 1) x = p ++ y :: x :: s := by
 subst hi
 rw [vF, show p ++ y :: y :: s = (p ++ [y]) ++ y :: s by simp, show p.length + 1 = (p ++ [y]).length by simp, vF]
 simp
def sw (l : List α) (i j : Nat) : List α := match l[i]?, l[j]? with
 | some x, some y => (l.set i y).set j x
 | _, _ => l
theorem wT (l : List α) (i j : Nat) : (sw l i j).length = l.length := by unfold sw; split <;> simp
theorem BR (l : List α) (i j : Nat) (hi : i < l.length) (hj : j < l.length) (t : Nat) : (sw l i j)[t]? = if t = j then l[i]? else if t = i then l[j]? else l[t]? := by
 unfold sw
 rw [List.getElem?_eq_getElem hi, List.getElem?_eq_getElem hj]
 simp only [List.getElem?_set, List.length_set]
 by_cases h1 : t = j
 ·subst h1
  simp [hj]
 ·rw [if_neg (fun e => h1 e.symm), if_neg h1]
  by_cases h2 : t = i
  ·subst h2
   simp [hi]
  ·rw [if_neg (fun e => h2 e.symm), if_neg h2]
def swR (l : List α) (a b : Nat) : Nat → List α
 | 0 => l
 | n + 1 => sw (swR l a b n) (a + n) (b + n)
theorem jo (l : List α) (a b n : Nat) : (swR l a b n).length = l.length := by
 induction n with
 | zero => rfl
 | succ n ih => rw [swR, wT, ih]
theorem vV (l : List α) (a b : Nat) : ∀ n, a + n ≤ b → b + n ≤ l.length → ∀ t, (swR l a b n)[t]? = if a ≤ t ∧ t < a + n then l[t + (b - a)]? else if b ≤ t ∧ t < b + n then l[t - (b - a)]? else l[t]? := by
 intro n
 induction n with
 | zero =>
  intro h1 h2 t
  rw [swR, if_neg (by omega), if_neg (by omega)]
 | succ n ih =>
  intro h1 h2 t
  have ih' := ih (by omega) (by omega)
  rw [swR, BR _ _ _ (by rw [jo]; omega) (by rw [jo]; omega), ih', ih', ih']
  by_cases e1 : t = b + n
  ·subst e1
   rw [if_pos rfl, if_neg (by omega), if_neg (by omega), if_neg (by omega), if_pos (by omega)]
   congr 1; omega
  ·rw [if_neg e1]
   by_cases e2 : t = a + n
   ·subst e2
    rw [if_pos rfl, if_neg (by omega), if_neg (by omega), if_pos (by omega)]
    congr 1; omega
   ·rw [if_neg e2]
    by_cases e3 : a ≤ t ∧ t < a + n
    ·rw [if_pos e3, if_pos (by omega)]
    ·rw [if_neg e3, if_neg (show ¬ (a ≤ t ∧ t < a + (n + 1)) by omega)]
     by_cases e4 : b ≤ t ∧ t < b + n
     ·rw [if_pos e4, if_pos (by omega)]
     ·rw [if_neg e4, if_neg (by omega)]
def Rot (l l' : List α) (m i j : Nat) : Prop := l'.length = l.length ∧ ∀ t, l'[t]? = if m - i ≤ t ∧ t < m - i + j then l[t + i]? else if m - i + j ≤ t ∧ t < m + j then l[t - j]? else l[t]?
theorem Fv (l : List α) (m i : Nat) (hi : i ≤ m) (hm : m + i ≤ l.length) : Rot l (swR l (m - i) m i) m i i := by
 refine ⟨jo _ _ _ _, fun t => ?_⟩
 rw [vV l (m - i) m i (by omega) (by omega)]
 have e : m - (m - i) = i := by omega
 rw [e]
 by_cases h1 : m - i ≤ t ∧ t < m - i + i
 ·rw [if_pos h1, if_pos h1]
 ·rw [if_neg h1, if_neg h1]
  by_cases h2 : m ≤ t ∧ t < m + i
  ·rw [if_pos h2, if_pos (by omega)]
  ·rw [if_neg h2, if_neg (by omega)]
theorem FM {l l' : List α} {m i j : Nat} (hj : j < i) (hi : i ≤ m) (hm : m + j ≤ l.length) (h : Rot (swR l (m - i) m j) l' m (i - j) j) : Rot l l' m i j := by
 refine ⟨h.1.trans (jo _ _ _ _), fun t => ?_⟩
 have g := vV l (m - i) m j (by omega) (by omega)
 rw [h.2 t]
 simp only [g]
 repeat' split
 all_goals first | rfl | (exfalso; omega) | (refine congrArg (fun k => l[k]?) ?_; omega)
theorem BZ {l l' : List α} {m i j : Nat} (hj : i < j) (hi : i ≤ m) (hm : m + j ≤ l.length) (h : Rot (swR l (m - i) (m + j - i) i) l' m i (j - i)) : Rot l l' m i j := by
 refine ⟨h.1.trans (jo _ _ _ _), fun t => ?_⟩
 have g := vV l (m - i) (m + j - i) i (by omega) (by omega)
 rw [h.2 t]
 simp only [g]
 repeat' split
 all_goals first | rfl | (exfalso; omega) | (refine congrArg (fun k => l[k]?) ?_; omega)
theorem DF {p u v s l' : List α} (h : Rot (p ++ (u ++ (v ++ s))) l' (p.length + u.length) u.length v.length) : l' = p ++ (v ++ (u ++ s)) := by
 refine List.ext_getElem? fun t => ?_
 rw [h.2 t]
 have e : p.length + u.length - u.length = p.length := by omega
 rw [e]
 by_cases h1 : p.length ≤ t ∧ t < p.length + v.length
 ·rw [if_pos h1]
  rw [List.getElem?_append_right (by omega), List.getElem?_append_right (by omega), List.getElem?_append_left (by omega), List.getElem?_append_right (by omega), List.getElem?_append_left (by omega)]
  congr 1; omega
 ·rw [if_neg h1]
  by_cases h2 : p.length + v.length ≤ t ∧ t < p.length + u.length + v.length
  ·rw [if_pos h2]
   rw [List.getElem?_append_right (by omega), List.getElem?_append_left (by omega), List.getElem?_append_right (by omega), List.getElem?_append_right (by omega), List.getElem?_append_left (by omega)]
   congr 1; omega
  ·rw [if_neg h2]
   by_cases h3 : t < p.length
   ·rw [List.getElem?_append_left h3, List.getElem?_append_left h3]
   ·rw [List.getElem?_append_right (by omega), List.getElem?_append_right (by omega), List.getElem?_append_right (by omega), List.getElem?_append_right (by omega), List.getElem?_append_right (by omega), List.getElem?_append_right (by omega)]
    congr 1; omega
end Go.Y.gI
namespace Go.Y.PSo
open Go.RowKit Go.V.aD Go.V.aN Go.V.aR Go.Y.Given Go.Y.PRd Go.Y.PRr
attribute [local go_sem] dn dh dJ dK bU bT cZ dw   -- for this text's walks alone
def ko : Option Int → Value
 | none => .nilIface
 | some c => .iface 0 (.int .i64 c)
theorem kY : ko none = .nilIface := rfl
theorem kT (c : Int) : ko (some c) = .iface 0 (.int .i64 c) := rfl
end Go.Y.PSo
namespace Go.Y.PSo
open Go.RowKit Go.V.aD Go.V.aN Go.V.aR Go.Y.Given Go.Y.PRd Go.Y.PRr
attribute [local go_sem] dn dh dJ dK bU bT cZ dw   -- for this text's walks alone
def eu.l0 : Nat → List (S44) → Int → Int → Option ((List (S44)))
 | 0, _, _, _ => none
 | k + 1, x0, x2, x3 => if x2 < x3 then (if 0 ≤ x3 then (if x3 < (x0.length : Int) then (if 0 ≤ x2 then (if x2 < (x0.length : Int) then (eu.l0 k ((x0.set (x2 : Int).toNat (⟨(aj x0 x3).f0, (aj x0 x3).f1, (aj x0 x3).f2, (aj x0 x3).f3, (aj x0 x3).f4⟩ : S44)).set (x3 : Int).toNat (⟨(aj x0 x2).f0, (aj x0 x2).f1, (aj x0 x2).f2, (aj x0 x2).f3, (aj x0 x2).f4⟩ : S44)) (wrap64 (x2 + 1)) (wrap64 (x3 - 1))) else (none)) else (none)) else (none)) else (none)) else (some x0)
def eu.f (k : Nat) (l0 : List (S44)) : Option ((List (S44))) := eu.l0 k l0 0 (wrap64 ((l0.length : Int) - 1))
def eu.T3 : Bool × List (List Nat × List Nat) := (true, [([], []), ([], []), ([], []), ([], []), ([], []), ([], []), ([4, 5], [4, 5]), ([6], [6]), ([], []), ([], []), ([8, 9], [8, 9]), ([10], [10]), ([0, 1, 0, 1, 4, 5, 6, 7, 11], [0, 1]), ([12, 7, 0, 1, 4, 5, 6, 7, 11], [7, 12]), ([2, 3, 0, 1, 2, 3, 4, 5, 6, 7, 8, 9, 10, 11, 12, 13], [2, 3]), ([14, 11, 13, 0, 1, 2, 3, 4, 5, 6, 7, 8, 9, 10, 11, 12, 13], [11, 14])])
def eu.B3 : List Nat := [0, 0, 0, 0, 0, 0, 48, 112, 0, 0, 768, 1792, 4083, 8179, 16383, 32767]
theorem eu.yF : dP .any (opsOf Tryz.f76 3) = eu.T3 := by kernel_rfl
theorem eu.uQ : dS eu.T3.2 eu.B3 = true := by kernel_rfl
theorem eu.calls (k : Nat) (P0_ : Nat → Prop) (u9000_ : Value) (l0 : List (S44)) (r : List (S44)) (w0 w : World) (hB : Below w0.heap.size w0 w) (ho0 : Kd.R k44 44 w w0.heap.size P0_ u9000_ l0) (h : eu.f k l0 = some r) :
    Calls Tryz.prog 76 #[u9000_] w fun e w' => e = .returned (.tuple #[]) ∧ Kd.R k44 44 w' w0.heap.size (fun k_ => (P0_ k_ ∨ w.heap.size ≤ k_)) u9000_ r ∧ Below w0.heap.size w0 w' ∧ Kept w w' (fun k_ => P0_ k_) := by
  have hu44 := Tryz.underlying44
  have HO0 := ah.mk (show Kd.R k44 44 w w0.heap.size (fun k_ => (P0_ k_ ∨ w.heap.size ≤ k_)) u9000_ l0 from Kd.bN ho0 (fun k_ hk => (.inl hk)))
  have HK := ah.mk (Kept.refl w (fun k_ => P0_ k_))
  have HW0 := ah.mk hB.size
  have HB := ah.mk hB
  clear hB
  have H : (eu.l0 k l0 0 (wrap64 ((l0.length : Int) - 1))) = some r := h
  clear h
  have H' := ah.mk H
  clear H
  obtain ⟨Ao2, co2, eo2⟩ := Kd.bY HO0.out
  subst eo2
  go_enter Tryz.func76, Tryz.ntmps76
  go_wp2
  go_loopg [2, 3] k (fun kq v2 v3 w' => ∃ (x0_1 : List (S44)) (x2_1 : Int) (x3_1 : Int), v2 = .int .i64 x2_1 ∧ v3 = .int .i64 x3_1 ∧ ah (eu.l0 kq x0_1 x2_1 x3_1 = some r) ∧ ah (kq ≤ k) ∧ ah (Kd.R k44 44 w' w0.heap.size (fun k_ => (P0_ k_ ∨ w.heap.size ≤ k_)) (.slice Ao2 l0.length co2) x0_1) ∧ ah (Kept w w' (fun k_ => P0_ k_)) ∧ ah (Below w0.heap.size w0 w'))
  case atStart => exact ⟨(l0), (0), (wrap64 ((l0.length : Int) - 1)), (by rfl), (by rfl), H', ⟨Nat.le_refl _⟩, ⟨by (with_reducible repeat ((apply Kd.aG))); exact HO0.out⟩, ⟨HK.out⟩, ⟨HB.out⟩⟩
  case round =>
   clear H'
   obtain ⟨x0_1, x2_1, x3_1, rfl, rfl, HA, HK1, HO_0, HK, HB⟩ := hrel
   have hl0_1 := (Kd.aK HO_0.out).1
   rw [hl0_1] at HO_0
   (try simp only [hl0_1])
   cases gk with
   | zero => exact absurd HA.out (by simp [eu.l0])
   | succ k1 =>
    have H := HA.out
    clear HA
    simp only [eu.l0] at H
    by_cases c3 : x2_1 < x3_1
    ·rw [if_pos c3] at H
     have c3b0 : decide (x2_1 < x3_1) = true := decide_eq_true c3
     clear c3
     obtain ⟨c4b0, H⟩ := dL H
     obtain ⟨c5b0, H⟩ := dL H
     obtain ⟨c6b0, H⟩ := dL H
     obtain ⟨c7b0, H⟩ := dL H
     obtain ⟨y103, hy103⟩ : ∃ y_ : List (S44), y_ = (x0_1.set (x2_1 : Int).toNat (⟨(aj x0_1 x3_1).f0, (aj x0_1 x3_1).f1, (aj x0_1 x3_1).f2, (aj x0_1 x3_1).f3, (aj x0_1 x3_1).f4⟩ : S44)) := ⟨_, rfl⟩
     replace H : (eu.l0 k1 (y103.set (x3_1 : Int).toNat (⟨(aj x0_1 x2_1).f0, (aj x0_1 x2_1).f1, (aj x0_1 x2_1).f2, (aj x0_1 x2_1).f3, (aj x0_1 x2_1).f4⟩ : S44)) (wrap64 (x2_1 + 1)) (wrap64 (x3_1 - 1))) = some r := by (rw [hy103]; with_reducible exact H)
     have Ny103 := ah.mk hy103
     clear hy103
     obtain ⟨y104, hy104⟩ : ∃ y_ : List (S44), y_ = (y103.set (x3_1 : Int).toNat (⟨(aj x0_1 x2_1).f0, (aj x0_1 x2_1).f1, (aj x0_1 x2_1).f2, (aj x0_1 x2_1).f3, (aj x0_1 x2_1).f4⟩ : S44)) := ⟨_, rfl⟩
     replace H : (eu.l0 k1 y104 (wrap64 (x2_1 + 1)) (wrap64 (x3_1 - 1))) = some r := by (rw [hy104]; with_reducible exact H)
     have Ny104 := ah.mk hy104
     clear hy104
     have H' := ah.mk H
     clear H
     (try go_wp2)
     replace HO_0 := ah.mk (Kd.iq HO_0.out)
     replace HK := ah.mk (Kept.drew HK.out)
     replace HB := ah.mk (dO HB.out)
     have p101 : 0 ≤ (x3_1 : Int) := of_decide_eq_true (by (with_reducible assumption))
     have q101 : x3_1 < (x0_1.length : Int) := of_decide_eq_true (by (with_reducible assumption))
     obtain ⟨ad101, e101, hx101_0, hx101_1, hx101_2, hx101_3, hx101_4⟩ := dU (Kd.aK HO_0.out).2.2 x3_1 p101 q101
     cases e101
     replace p101 := eq_true p101
     replace q101 := eq_true q101
     have p102 : 0 ≤ (x2_1 : Int) := of_decide_eq_true (by (with_reducible assumption))
     have q102 : x2_1 < (x0_1.length : Int) := of_decide_eq_true (by (with_reducible assumption))
     obtain ⟨ad102, e102, hx102_0, hx102_1, hx102_2, hx102_3, hx102_4⟩ := dU (Kd.aK HO_0.out).2.2 x2_1 p102 q102
     obtain rfl : ad101 = ad102 := (by injection e102)
     replace p102 := eq_true p102
     replace q102 := eq_true q102
     have p8 : 0 ≤ (x2_1 : Int) := of_decide_eq_true (by (with_reducible assumption))
     have q8 : (x2_1 : Int) < ((x0_1.length : Int) : Int) := of_decide_eq_true (by (with_reducible assumption))
     obtain ⟨go8, co8, eo8, gb8, gl8, cl8, HG8⟩ := Kd.pK HO_0.out (by omega)
     ((cases eo8))
     have GB8 := ah.mk gb8
     have GG8 := ah.mk HG8
     clear gb8 gl8 HG8
     have HMgo8 := ah.mk (show (P0_ go8 ∨ w.heap.size ≤ go8) from (HO_0.out.1 _ rfl))
     ((simp only [add_plain] at hx101_0))
     ((simp only [add_plain] at hx101_1))
     ((simp only [add_plain] at hx101_2))
     ((simp only [add_plain] at hx101_3))
     ((simp only [add_plain] at hx101_4))
     ((simp only [add_plain] at hx102_0))
     ((simp only [add_plain] at hx102_1))
     ((simp only [add_plain] at hx102_2))
     ((simp only [add_plain] at hx102_3))
     ((simp only [add_plain] at hx102_4))
     obtain ⟨ce8, hcl8, hM8, hcc8, hfr8⟩ := Kd.iR HO_0.out z44 (x2_1 : Int) p8 q8
     obtain rfl := fE hM8
     have hx8_0 : World.cell? _ ⟨go8, (x2_1 : Int).toNat * 5, none⟩ = some (.string ((aj x0_1 x2_1).f0)) := hcc8 0 _ rfl
     have hx8_1 : World.cell? _ ⟨go8, (x2_1 : Int).toNat * 5 + 1, none⟩ = some (.int .i64 ((aj x0_1 x2_1).f1)) := hcc8 1 _ rfl
     have hx8_2 : World.cell? _ ⟨go8, (x2_1 : Int).toNat * 5 + 2, none⟩ = some (.int .i64 ((aj x0_1 x2_1).f2)) := hcc8 2 _ rfl
     have hx8_3 : World.cell? _ ⟨go8, (x2_1 : Int).toNat * 5 + 3, none⟩ = some (.int .i64 ((aj x0_1 x2_1).f3)) := hcc8 3 _ rfl
     have hx8_4 : World.cell? _ ⟨go8, (x2_1 : Int).toNat * 5 + 4, none⟩ = some (.string ((aj x0_1 x2_1).f4)) := hcc8 4 _ rfl
     have hf8_0 : World.frozen? _ ⟨go8, (x2_1 : Int).toNat * 5, none⟩ = false := hfr8 0
     have hf8_1 : World.frozen? _ ⟨go8, (x2_1 : Int).toNat * 5 + 1, none⟩ = false := hfr8 1
     have hf8_2 : World.frozen? _ ⟨go8, (x2_1 : Int).toNat * 5 + 2, none⟩ = false := hfr8 2
     have hf8_3 : World.frozen? _ ⟨go8, (x2_1 : Int).toNat * 5 + 3, none⟩ = false := hfr8 3
     have hf8_4 : World.frozen? _ ⟨go8, (x2_1 : Int).toNat * 5 + 4, none⟩ = false := hfr8 4
     clear hcl8 hcc8 hfr8 hM8
     replace p8 := eq_true p8
     replace q8 := eq_true q8
     obtain ⟨ce11, hcl11, hM11, hcc11, hfr11⟩ := Kd.iR HO_0.out z44 (x2_1 : Int) (of_decide_eq_true (by (with_reducible assumption))) (by have h_ : (x2_1 : Int) < ((x0_1.length : Int) : Int) := of_decide_eq_true (by (with_reducible assumption)); (exact h_))
     obtain rfl := fE hM11
     have HP11 := (Kd.nA HO_0.out (x2_1 : Int) (of_decide_eq_true (by (with_reducible assumption))) (by have h_ : (x2_1 : Int) < ((x0_1.length : Int) : Int) := of_decide_eq_true (by (with_reducible assumption)); (exact h_)) (seg := [.string ((aj x0_1 x3_1).f0), .int .i64 ((aj x0_1 x3_1).f1), .int .i64 ((aj x0_1 x3_1).f2), .int .i64 ((aj x0_1 x3_1).f3), .string ((aj x0_1 x3_1).f4)]) (j := 0) hcl11 hcc11 (show 5 ≤ 5 from by decide) (x' := (⟨(aj x0_1 x3_1).f0, (aj x0_1 x3_1).f1, (aj x0_1 x3_1).f2, (aj x0_1 x3_1).f3, (aj x0_1 x3_1).f4⟩ : S44)) (gQ _ _ _ (⟨(aj x0_1 x3_1).f0, (aj x0_1 x3_1).f1, (aj x0_1 x3_1).f2, (aj x0_1 x3_1).f3, (aj x0_1 x3_1).f4⟩ : S44) ) (fun _ hk => hk)).1
     rw [← Ny103.out] at HP11
     have HQ11 := ah.mk HP11
     clear hcl11 hcc11 hfr11 hM11 HP11
     have p9 : 0 ≤ (x3_1 : Int) := of_decide_eq_true (by (with_reducible assumption))
     have q9 : (x3_1 : Int) < ((x0_1.length : Int) : Int) := of_decide_eq_true (by (with_reducible assumption))
     obtain ⟨ce9, hcl9, hM9, hcc9, hfr9⟩ := Kd.iR HQ11.out z44 (x3_1 : Int) p9 q9
     obtain rfl := fE hM9
     have hx9_0 : World.cell? _ ⟨go8, (x3_1 : Int).toNat * 5, none⟩ = some (.string ((aj y103 x3_1).f0)) := hcc9 0 _ rfl
     have hx9_1 : World.cell? _ ⟨go8, (x3_1 : Int).toNat * 5 + 1, none⟩ = some (.int .i64 ((aj y103 x3_1).f1)) := hcc9 1 _ rfl
     have hx9_2 : World.cell? _ ⟨go8, (x3_1 : Int).toNat * 5 + 2, none⟩ = some (.int .i64 ((aj y103 x3_1).f2)) := hcc9 2 _ rfl
     have hx9_3 : World.cell? _ ⟨go8, (x3_1 : Int).toNat * 5 + 3, none⟩ = some (.int .i64 ((aj y103 x3_1).f3)) := hcc9 3 _ rfl
     have hx9_4 : World.cell? _ ⟨go8, (x3_1 : Int).toNat * 5 + 4, none⟩ = some (.string ((aj y103 x3_1).f4)) := hcc9 4 _ rfl
     have hf9_0 : World.frozen? _ ⟨go8, (x3_1 : Int).toNat * 5, none⟩ = false := hfr9 0
     have hf9_1 : World.frozen? _ ⟨go8, (x3_1 : Int).toNat * 5 + 1, none⟩ = false := hfr9 1
     have hf9_2 : World.frozen? _ ⟨go8, (x3_1 : Int).toNat * 5 + 2, none⟩ = false := hfr9 2
     have hf9_3 : World.frozen? _ ⟨go8, (x3_1 : Int).toNat * 5 + 3, none⟩ = false := hfr9 3
     have hf9_4 : World.frozen? _ ⟨go8, (x3_1 : Int).toNat * 5 + 4, none⟩ = false := hfr9 4
     clear hcl9 hcc9 hfr9 hM9
     replace p9 := eq_true p9
     replace q9 := eq_true q9
     obtain ⟨ce12, hcl12, hM12, hcc12, hfr12⟩ := Kd.iR HQ11.out z44 (x3_1 : Int) (of_decide_eq_true (by (with_reducible assumption))) (by have h_ : (x3_1 : Int) < ((x0_1.length : Int) : Int) := of_decide_eq_true (by (with_reducible assumption)); (exact h_))
     obtain rfl := fE hM12
     have HP12 := (Kd.nA HQ11.out (x3_1 : Int) (of_decide_eq_true (by (with_reducible assumption))) (by have h_ : (x3_1 : Int) < ((x0_1.length : Int) : Int) := of_decide_eq_true (by (with_reducible assumption)); (exact h_)) (seg := [.string ((aj x0_1 x2_1).f0), .int .i64 ((aj x0_1 x2_1).f1), .int .i64 ((aj x0_1 x2_1).f2), .int .i64 ((aj x0_1 x2_1).f3), .string ((aj x0_1 x2_1).f4)]) (j := 0) hcl12 hcc12 (show 5 ≤ 5 from by decide) (x' := (⟨(aj x0_1 x2_1).f0, (aj x0_1 x2_1).f1, (aj x0_1 x2_1).f2, (aj x0_1 x2_1).f3, (aj x0_1 x2_1).f4⟩ : S44)) (gQ _ _ _ (⟨(aj x0_1 x2_1).f0, (aj x0_1 x2_1).f1, (aj x0_1 x2_1).f2, (aj x0_1 x2_1).f3, (aj x0_1 x2_1).f4⟩ : S44) ) (fun _ hk => hk)).1
     rw [← Ny104.out] at HP12
     have HQ12 := ah.mk HP12
     clear hcl12 hcc12 hfr12 hM12 HP12
     refine fM (n := 16) (S := fun w' => w'.cell? ⟨go8, ((x3_1).toNat * 5), none⟩ = some (.string ((aj x0_1 x3_1).f0)) ∧ w'.cell? ⟨go8, ((x3_1).toNat * 5) + 1, none⟩ = some (.int .i64 ((aj x0_1 x3_1).f1)) ∧ w'.cell? ⟨go8, ((x3_1).toNat * 5) + 2, none⟩ = some (.int .i64 ((aj x0_1 x3_1).f2)) ∧ w'.cell? ⟨go8, ((x3_1).toNat * 5) + 3, none⟩ = some (.int .i64 ((aj x0_1 x3_1).f3)) ∧ w'.cell? ⟨go8, ((x3_1).toNat * 5) + 4, none⟩ = some (.string ((aj x0_1 x3_1).f4)) ∧ w'.cell? ⟨go8, ((x2_1).toNat * 5), none⟩ = some (.string ((aj x0_1 x2_1).f0)) ∧ w'.cell? ⟨go8, ((x2_1).toNat * 5) + 1, none⟩ = some (.int .i64 ((aj x0_1 x2_1).f1)) ∧ w'.cell? ⟨go8, ((x2_1).toNat * 5) + 2, none⟩ = some (.int .i64 ((aj x0_1 x2_1).f2)) ∧ w'.cell? ⟨go8, ((x2_1).toNat * 5) + 3, none⟩ = some (.int .i64 ((aj x0_1 x2_1).f3)) ∧ w'.cell? ⟨go8, ((x2_1).toNat * 5) + 4, none⟩ = some (.string ((aj x0_1 x2_1).f4))) (ds := [13, 15]) (ls 16 0) (by kernel_rfl) rfl rfl ⟨hx101_0, hx101_1, hx101_2, hx101_3, hx101_4, hx102_0, hx102_1, hx102_2, hx102_3, hx102_4⟩ (fun hHeld => ?_); refine dW eu.yF eu.uQ (fun HT_ HW_ => ?_)
     generalize wr.drew = w10 at HO_0 HK HB GG8 HQ11 HQ12 hf8_0 hf8_1 hf8_2 hf8_3 hf8_4 hf9_0 hf9_1 hf9_2 hf9_3 hf9_4 hx101_0 hx101_1 hx101_2 hx101_3 hx101_4 hx102_0 hx102_1 hx102_2 hx102_3 hx102_4 hx8_0 hx8_1 hx8_2 hx8_3 hx8_4 hx9_0 hx9_1 hx9_2 hx9_3 hx9_4 hHeld ⊢
     (try simp [go_sem, World.setCells, (show k44.sz = 5 from rfl)] at hf9_0 hf9_1 hf9_2 hf9_3 hf9_4 hx9_0 hx9_1 hx9_2 hx9_3 hx9_4)
     refine td_ [(0, 14), (1, 15), (2, 16), (3, 17), (4, 18), (5, 19), (6, 20), (8, 22), (9, 23), (10, 24)] ?_
     iterate 10 (refine pn_ (v := ?_) (a' := ?_) HT_ rfl rfl (by kernel_rfl) rfl (fun _ _ _ h => h) (fun w' => ?_) ?_ ?_; rotate_left 2; (focus go_simp; with_reducible rfl); (focus simp only [Act.put, sA_, sZ_, sS_, bE, bJ]; rfl))
     refine dn_ ?_
     refine td_ [(7, 21), (11, 25)] ?_
     iterate 2 (refine tn_ (v := ?_) (a' := ?_) HT_ HW_ rfl rfl (by kernel_rfl) rfl (fun _ _ _ h => h) hHeld ?_ ?_ ?_; rotate_left 2; (focus rintro w' ⟨s0, s1, s2, s3, s4, s5, s6, s7, s8, s9⟩; go_simp; with_reducible rfl); (focus simp only [Act.put, sA_, sZ_, sS_, bE, bJ]; rfl))
     refine dn_ ?_
     refine td_ [(12, 26)] ?_
     iterate 1 (refine pn_ (v := ?_) (a' := ?_) HT_ rfl rfl (by kernel_rfl) rfl (fun _ _ _ h => h) (fun w' => ?_) ?_ ?_; rotate_left 2; (focus go_simp; with_reducible rfl); (focus simp only [Act.put, sA_, sZ_, sS_, bE, bJ]; rfl))
     refine dn_ ?_
     refine lF (i := 13) (N := none) (ls 16 16383) rfl rfl (gD HT_.out (by kernel_rfl)) (by decide) (fun K hK => ?_)
     refine kN (w1 := ?_) (by rfl) rfl ?_ ?_
     rotate_left
     ·go_simp
      rfl
     refine hK.out _ _ ?_
     clear hK K
     refine td_ [(14, 27)] ?_
     iterate 1 (refine pn_ (v := ?_) (a' := ?_) HT_ rfl rfl (by kernel_rfl) rfl (fun _ _ _ h => h) (fun w' => ?_) ?_ ?_; rotate_left 2; (focus go_simp; with_reducible rfl); (focus simp only [Act.put, sA_, sZ_, sS_, bE, bJ]; rfl))
     refine dn_ ?_
     refine lF (i := 15) (N := none) (ls 16 65535) rfl rfl (gD HT_.out (by kernel_rfl)) (by decide) (fun K hK => ?_)
     refine kN (w1 := ?_) (by rfl) rfl ?_ ?_
     rotate_left
     ·go_simp
      rfl
     refine hK.out _ _ ?_
     clear hK K
     refine jy (iK HT_.out (by kernel_rfl)) ?_
     (try go_wp2)
     (try simp only [← hl0_1])
     go_roundg k1
     case measure => have := HK1.out; omega
     case rel => exact ⟨(y104), (wrap64 (x2_1 + 1)), (wrap64 (x3_1 - 1)), (by rfl), (by rfl), H', ⟨by have := HK1.out; omega⟩, ⟨by (try simp only [hl0_1]); (with_reducible repeat ((apply Kd.aG))); exact HQ12.out⟩, ⟨by repeat ((with_reducible first | exact HK.out | refine Kept.setCell ?_ HMgo8.out _))⟩, ⟨by repeat ((with_reducible first | exact HB.out | refine bS ?_ GB8.out))⟩⟩
    ·rw [if_neg c3] at H
     have c3b0 : decide (x2_1 < x3_1) = false := decide_eq_false c3
     clear c3
     obtain rfl := Option.some.inj H
     go_wp2
     go_end0
     exact ⟨by rfl, (by (exact (by ((exact HO_0.out))))), HB.out, HK.out⟩
end Go.Y.PSo
namespace Go.Y.PSo
open Go.RowKit Go.V.aD Go.V.aN Go.V.aR Go.Y.Given Go.Y.PRd Go.Y.PRr
attribute [local go_sem] dn dh dJ dK bU bT cZ dw   -- for this text's walks alone
mutual
def aZ.l0 : Nat → List (S44) → Int → Int → Int → Option ((List (S44)))
 | 0, _, _, _, _ => none
 | k + 1, x0, x1, x2, x8 => if x8 < x2 then (aZ.l1 k x0 x1 x2 x8 x8) else (some x0)
def aZ.l1 : Nat → List (S44) → Int → Int → Int → Int → Option ((List (S44)))
 | 0, _, _, _, _, _ => none
 | k + 1, x0, x1, x2, x8, x9 => if x9 > x1 then (if 0 ≤ x9 then (if x9 < (x0.length : Int) then (if 0 ≤ (wrap64 (x9 - 1)) then (if (wrap64 (x9 - 1)) < (x0.length : Int) then ((cB.f k ((aj x0 x9).f0) ((aj x0 x9).f1) ((aj x0 x9).f2) ((aj x0 x9).f3) ((aj x0 x9).f4) ((aj x0 (wrap64 (x9 - 1))).f0) ((aj x0 (wrap64 (x9 - 1))).f1) ((aj x0 (wrap64 (x9 - 1))).f2) ((aj x0 (wrap64 (x9 - 1))).f3) ((aj x0 (wrap64 (x9 - 1))).f4)).bind fun t107 => (if t107 < 0 then (aZ.l1 k ((x0.set (x9 : Int).toNat (⟨(aj x0 (wrap64 (x9 - 1))).f0, (aj x0 (wrap64 (x9 - 1))).f1, (aj x0 (wrap64 (x9 - 1))).f2, (aj x0 (wrap64 (x9 - 1))).f3, (aj x0 (wrap64 (x9 - 1))).f4⟩ : S44)).set ((wrap64 (x9 - 1)) : Int).toNat (⟨(aj x0 x9).f0, (aj x0 x9).f1, (aj x0 x9).f2, (aj x0 x9).f3, (aj x0 x9).f4⟩ : S44)) x1 x2 x8 (wrap64 (x9 - 1))) else (aZ.l0 k x0 x1 x2 (wrap64 (x8 + 1))))) else (none)) else (none)) else (none)) else (none)) else (aZ.l0 k x0 x1 x2 (wrap64 (x8 + 1)))
end
def aZ.f (k : Nat) (l0 : List (S44)) (a1 : Int) (a2 : Int) (a3 : Int) : Option ((List (S44))) := aZ.l0 k l0 a1 a2 (wrap64 (a1 + 1))
def aZ.T4 : Bool × List (List Nat × List Nat) := (true, [([], []), ([], []), ([0, 1], [0, 1]), ([2], [2]), ([3], [3]), ([3], [3]), ([3], [3]), ([5, 6, 3], [3, 5, 6]), ([7, 3], [3, 7]), ([3], [3]), ([3], [3]), ([10, 3], [3, 10]), ([9, 11, 3], [3, 9, 11]), ([12, 3], [3, 12]), ([4, 8, 13, 3, 3], [3, 4, 8, 13]), ([14, 3], [3, 14]), ([3, 15], [3, 15])])
def aZ.B4 : List Nat := [0, 0, 3, 7, 15, 15, 15, 111, 239, 15, 15, 1039, 3599, 7695, 16383, 32767, 65535]
theorem aZ.IU : dP .any (opsOf Tryz.f138 4) = aZ.T4 := by kernel_rfl
theorem aZ.FV : dS aZ.T4.2 aZ.B4 = true := by kernel_rfl
def aZ.T6 : Bool × List (List Nat × List Nat) := (true, [([], []), ([], []), ([], []), ([], []), ([3], [3]), ([], []), ([], []), ([6], [6]), ([5, 7], [5, 7]), ([8], [8]), ([], []), ([], []), ([10, 11], [10, 11]), ([12], [12]), ([0, 1, 0, 1, 5, 6, 7, 8, 9, 13], [0, 1]), ([14, 9, 0, 1, 5, 6, 7, 8, 9, 13], [9, 14]), ([2, 4, 0, 1, 2, 3, 4, 5, 6, 7, 8, 9, 10, 11, 12, 13, 14, 15], [2, 4]), ([16, 13, 15, 0, 1, 2, 3, 4, 5, 6, 7, 8, 9, 10, 11, 12, 13, 14, 15], [13, 16])])
def aZ.B6 : List Nat := [0, 0, 0, 0, 8, 0, 0, 64, 224, 480, 0, 0, 3072, 7168, 16355, 32739, 65535, 131071]
theorem aZ.Ec : dP .any (opsOf Tryz.f138 6) = aZ.T6 := by kernel_rfl
theorem aZ.AA : dS aZ.T6.2 aZ.B6 = true := by kernel_rfl
theorem aZ.calls (k : Nat) (P0_ : Nat → Prop) (u9000_ : Value) (l0 : List (S44)) (a1 : Int) (a2 : Int) (a3 : Int) (r : List (S44)) (w0 w : World) (hB : Below w0.heap.size w0 w) (ho0 : Kd.R k44 44 w w0.heap.size P0_ u9000_ l0) (h : aZ.f k l0 a1 a2 a3 = some r) :
    Calls Tryz.prog 138 #[u9000_, .int .i64 a1, .int .i64 a2, .func (.func 78) #[] #[]] w fun e w' => e = .returned (.tuple #[]) ∧ Kd.R k44 44 w' w0.heap.size (fun k_ => (P0_ k_ ∨ w.heap.size ≤ k_)) u9000_ r ∧ Below w0.heap.size w0 w' ∧ Kept w w' (fun k_ => P0_ k_) := by
  have hu44 := Tryz.underlying44
  have HO0 := ah.mk (show Kd.R k44 44 w w0.heap.size (fun k_ => (P0_ k_ ∨ w.heap.size ≤ k_)) u9000_ l0 from Kd.bN ho0 (fun k_ hk => (.inl hk)))
  have HK := ah.mk (Kept.refl w (fun k_ => P0_ k_))
  have HW0 := ah.mk hB.size
  have HB := ah.mk hB
  clear hB
  have H : (aZ.l0 k l0 a1 a2 (wrap64 (a1 + 1))) = some r := h
  clear h
  have H' := ah.mk H
  clear H
  go_enter Tryz.func138, Tryz.ntmps138
  go_wp2
  go_loopg [8] k (fun kq v8 w' => ∃ (x0_1 : List (S44)) (x8_1 : Int), v8 = .int .i64 x8_1 ∧ ah (aZ.l0 kq x0_1 a1 a2 x8_1 = some r) ∧ ah (kq ≤ k) ∧ ah (Kd.R k44 44 w' w0.heap.size (fun k_ => (P0_ k_ ∨ w.heap.size ≤ k_)) u9000_ x0_1) ∧ ah (Kept w w' (fun k_ => P0_ k_)) ∧ ah (Below w0.heap.size w0 w'))
  case atStart => exact ⟨(l0), (wrap64 (a1 + 1)), (by rfl), H', ⟨Nat.le_refl _⟩, ⟨by (with_reducible repeat ((apply Kd.aG))); exact HO0.out⟩, ⟨HK.out⟩, ⟨HB.out⟩⟩
  case round =>
   clear H'
   obtain ⟨x0_1, x8_1, rfl, HA, HK1, HO_0, HK, HB⟩ := hrel
   cases gk with
   | zero => exact absurd HA.out (by simp [aZ.l0])
   | succ k1 =>
    have H := HA.out
    clear HA
    simp only [aZ.l0] at H
    by_cases c5 : x8_1 < a2
    ·rw [if_pos c5] at H
     have c5b0 : decide (x8_1 < a2) = true := decide_eq_true c5
     clear c5
     have H' := ah.mk H
     clear H
     go_wp2
     go_loopg [9] k1 (fun kq v9 w' => ∃ (x0_2 : List (S44)) (x9_2 : Int), v9 = .int .i64 x9_2 ∧ ah (aZ.l1 kq x0_2 a1 a2 x8_1 x9_2 = some r) ∧ ah (kq ≤ k1) ∧ ah (Kd.R k44 44 w' w0.heap.size (fun k_ => (P0_ k_ ∨ w.heap.size ≤ k_)) u9000_ x0_2) ∧ ah (Kept w w' (fun k_ => P0_ k_)) ∧ ah (Below w0.heap.size w0 w'))
     case atStart => exact ⟨(x0_1), (x8_1), (by rfl), H', ⟨Nat.le_refl _⟩, ⟨by (with_reducible repeat ((apply Kd.aG))); exact HO_0.out⟩, ⟨HK.out⟩, ⟨HB.out⟩⟩
     case round =>
      clear H'
      (try clear c5b0)
      obtain ⟨x0_2, x9_2, rfl, HA, HK2, HO_0, HK, HB⟩ := hrel
      cases gk with
      | zero => exact absurd HA.out (by simp [aZ.l1])
      | succ k2 =>
       have H := HA.out
       clear HA
       simp only [aZ.l1] at H
       by_cases c6 : x9_2 > a1
       focus
        rw [if_pos c6] at H
        have c6b0 : decide (a1 < x9_2) = true := decide_eq_true c6
        clear c6
        obtain ⟨c7b0, H⟩ := dL H
        obtain ⟨c8b0, H⟩ := dL H
        obtain ⟨ji9, hji9⟩ : ∃ j_ : Int, (wrap64 (x9_2 - 1)) = j_ := ⟨_, rfl⟩
        rw [hji9] at H
        have hji9w : (IntKind.i64.wrap (x9_2 - 1)) = ji9 := (bE _).trans hji9
        obtain ⟨c10b0, H⟩ := dL H
        obtain ⟨c11b0, H⟩ := dL H
        obtain ⟨t107, A12, H⟩ := bR H
        by_cases c13 : t107 < 0
        focus
         rw [if_pos c13] at H
         have c13b0 : decide (t107 < 0) = true := decide_eq_true c13
         clear c13
         obtain ⟨y110, hy110⟩ : ∃ y_ : List (S44), y_ = (x0_2.set (x9_2 : Int).toNat (⟨(aj x0_2 (ji9)).f0, (aj x0_2 (ji9)).f1, (aj x0_2 (ji9)).f2, (aj x0_2 (ji9)).f3, (aj x0_2 (ji9)).f4⟩ : S44)) := ⟨_, rfl⟩
         replace H : (aZ.l1 k2 (y110.set ((ji9) : Int).toNat (⟨(aj x0_2 x9_2).f0, (aj x0_2 x9_2).f1, (aj x0_2 x9_2).f2, (aj x0_2 x9_2).f3, (aj x0_2 x9_2).f4⟩ : S44)) a1 a2 x8_1 ji9) = some r := by (rw [hy110]; with_reducible exact H)
         have Ny110 := ah.mk hy110
         clear hy110
         obtain ⟨y111, hy111⟩ : ∃ y_ : List (S44), y_ = (y110.set ((ji9) : Int).toNat (⟨(aj x0_2 x9_2).f0, (aj x0_2 x9_2).f1, (aj x0_2 x9_2).f2, (aj x0_2 x9_2).f3, (aj x0_2 x9_2).f4⟩ : S44)) := ⟨_, rfl⟩
         replace H : (aZ.l1 k2 y111 a1 a2 x8_1 ji9) = some r := by (rw [hy111]; with_reducible exact H)
         have Ny111 := ah.mk hy111
         clear hy111
        rotate_left
        focus
         rw [if_neg c13] at H
         have c13b0 : decide (t107 < 0) = false := decide_eq_false c13
         clear c13
        rotate_left
       rotate_left 2
       focus
        rw [if_neg c6] at H
        have c6b0 : decide (a1 < x9_2) = false := decide_eq_false c6
        clear c6
       rotate_left
       all_goals
        have H' := ah.mk H
        clear H
        (try go_wp2)
        replace HO_0 := ah.mk (Kd.iq HO_0.out)
        replace HK := ah.mk (Kept.drew HK.out)
        replace HB := ah.mk (dO HB.out)
       iterate 2
        focus
         obtain ⟨Ao17, co17, eo17⟩ := Kd.bY HO_0.out
         ((subst eo17))
         have p105 : 0 ≤ (x9_2 : Int) := of_decide_eq_true (by (with_reducible assumption))
         have q105 : x9_2 < (x0_2.length : Int) := of_decide_eq_true (by (with_reducible assumption))
         obtain ⟨ad105, e105, hx105_0, hx105_1, hx105_2, hx105_3, hx105_4⟩ := dU (Kd.aK HO_0.out).2.2 x9_2 p105 q105
         cases e105
         replace p105 := eq_true p105
         replace q105 := eq_true q105
         have p106 : 0 ≤ ((ji9) : Int) := of_decide_eq_true (by (with_reducible assumption))
         have q106 : (ji9) < (x0_2.length : Int) := of_decide_eq_true (by (with_reducible assumption))
         obtain ⟨ad106, e106, hx106_0, hx106_1, hx106_2, hx106_3, hx106_4⟩ := dU (Kd.aK HO_0.out).2.2 (ji9) p106 q106
         obtain rfl : ad105 = ad106 := (by injection e106)
         replace p106 := eq_true p106
         replace q106 := eq_true q106
         refine fM (n := 17) (S := fun w' => w'.cell? (ad105.add ((x9_2).toNat * 5)) = some (.string ((aj x0_2 x9_2).f0)) ∧ w'.cell? ⟨(ad105.add ((x9_2).toNat * 5)).block, (ad105.add ((x9_2).toNat * 5)).off + 1, none⟩ = some (.int .i64 ((aj x0_2 x9_2).f1)) ∧ w'.cell? ⟨(ad105.add ((x9_2).toNat * 5)).block, (ad105.add ((x9_2).toNat * 5)).off + 2, none⟩ = some (.int .i64 ((aj x0_2 x9_2).f2)) ∧ w'.cell? ⟨(ad105.add ((x9_2).toNat * 5)).block, (ad105.add ((x9_2).toNat * 5)).off + 3, none⟩ = some (.int .i64 ((aj x0_2 x9_2).f3)) ∧ w'.cell? ⟨(ad105.add ((x9_2).toNat * 5)).block, (ad105.add ((x9_2).toNat * 5)).off + 4, none⟩ = some (.string ((aj x0_2 x9_2).f4)) ∧ w'.cell? (ad105.add (((ji9)).toNat * 5)) = some (.string ((aj x0_2 (ji9)).f0)) ∧ w'.cell? ⟨(ad105.add (((ji9)).toNat * 5)).block, (ad105.add (((ji9)).toNat * 5)).off + 1, none⟩ = some (.int .i64 ((aj x0_2 (ji9)).f1)) ∧ w'.cell? ⟨(ad105.add (((ji9)).toNat * 5)).block, (ad105.add (((ji9)).toNat * 5)).off + 2, none⟩ = some (.int .i64 ((aj x0_2 (ji9)).f2)) ∧ w'.cell? ⟨(ad105.add (((ji9)).toNat * 5)).block, (ad105.add (((ji9)).toNat * 5)).off + 3, none⟩ = some (.int .i64 ((aj x0_2 (ji9)).f3)) ∧ w'.cell? ⟨(ad105.add (((ji9)).toNat * 5)).block, (ad105.add (((ji9)).toNat * 5)).off + 4, none⟩ = some (.string ((aj x0_2 (ji9)).f4))) (ds := []) (ls 17 0) (by kernel_rfl) rfl rfl ⟨hx105_0, hx105_1, hx105_2, hx105_3, hx105_4, hx106_0, hx106_1, hx106_2, hx106_3, hx106_4⟩ (fun hHeld => ?_); refine dW aZ.IU aZ.FV (fun HT_ HW_ => ?_)
         generalize wr.drew = w16 at HO_0 HK HB hx105_0 hx105_1 hx105_2 hx105_3 hx105_4 hx106_0 hx106_1 hx106_2 hx106_3 hx106_4 hHeld ⊢
         refine td_ [(0, 18), (1, 19), (2, 20), (3, 21), (4, 22), (5, 23), (6, 24), (7, 25), (9, 27), (10, 28), (11, 29), (12, 30)] ?_
         iterate 12 (refine pn_ (v := ?_) (a' := ?_) HT_ rfl rfl (by kernel_rfl) rfl (fun _ _ _ h => h) (fun w' => ?_) ?_ ?_; rotate_left 2; (focus go_simp; with_reducible rfl); (focus simp only [Act.put, sA_, sZ_, sS_, bE, bJ]; rfl))
         refine dn_ ?_
         refine td_ [(8, 26), (13, 31)] ?_
         iterate 2 (refine tn_ (v := ?_) (a' := ?_) HT_ HW_ rfl rfl (by kernel_rfl) rfl (fun _ _ _ h => h) hHeld ?_ ?_ ?_; rotate_left 2; (focus rintro w' ⟨s0, s1, s2, s3, s4, s5, s6, s7, s8, s9⟩; go_simp; with_reducible rfl); (focus simp only [Act.put, sA_, sZ_, sS_, bE, bJ]; rfl))
         refine dn_ ?_
         refine kE (i := 14) (N := some 32) (ls 17 32767) rfl rfl (gD HT_.out (by kernel_rfl)) (by decide) (fun K hK => ?_)
         refine uH Tryz.func78 (by kernel_rfl) rfl #[.agg #[.string ((aj x0_2 x9_2).f0), .int .i64 ((aj x0_2 x9_2).f1), .int .i64 ((aj x0_2 x9_2).f2), .int .i64 ((aj x0_2 x9_2).f3), .string ((aj x0_2 x9_2).f4)], .agg #[.string ((aj x0_2 (ji9)).f0), .int .i64 ((aj x0_2 (ji9)).f1), .int .i64 ((aj x0_2 (ji9)).f2), .int .i64 ((aj x0_2 (ji9)).f3), .string ((aj x0_2 (ji9)).f4)]] (by rfl) rfl rfl rfl (by (try simp only [mA_, mC_, mN_]); rfl) ?_
         with_reducible refine (cB.calls k2 ((aj x0_2 x9_2).f0) ((aj x0_2 x9_2).f1) ((aj x0_2 x9_2).f2) ((aj x0_2 x9_2).f3) ((aj x0_2 x9_2).f4) ((aj x0_2 (ji9)).f0) ((aj x0_2 (ji9)).f1) ((aj x0_2 (ji9)).f2) ((aj x0_2 (ji9)).f3) ((aj x0_2 (ji9)).f4) t107 _ A12.out).mono ?_
         rintro e w18 ⟨rfl, hb⟩
         have HS0_ := kp_ hb hHeld.1
         have HS1_ := kp_ hb hHeld.2.1
         have HS2_ := kp_ hb hHeld.2.2.1
         have HS3_ := kp_ hb hHeld.2.2.2.1
         have HS4_ := kp_ hb hHeld.2.2.2.2.1
         have HS5_ := kp_ hb hHeld.2.2.2.2.2.1
         have HS6_ := kp_ hb hHeld.2.2.2.2.2.2.1
         have HS7_ := kp_ hb hHeld.2.2.2.2.2.2.2.1
         have HS8_ := kp_ hb hHeld.2.2.2.2.2.2.2.2.1
         have HS9_ := kp_ hb hHeld.2.2.2.2.2.2.2.2.2
         refine ⟨_, rfl, ?_⟩
         replace HO_0 := ah.mk (Kd.aY (by ((exact HO_0.out))) hb)
         replace HK := ah.mk (Kept.below (S := (fun k_ => P0_ k_)) HK.out hb)
         replace HB := ah.mk (au HB.out hb)
         (try clear hb)
         refine hK.out _ _ ⟨HS0_, HS1_, HS2_, HS3_, HS4_, HS5_, HS6_, HS7_, HS8_, HS9_⟩ (fun hHeld => ?_)
         clear hK K
         refine jD (a' := ?_) ?_ ?_
         rotate_left
         ·show Act.put _ (some 32) _ = _
          simp only [Act.put, sA_, sZ_, sS_, bE, bJ]
          rfl
         refine td_ [(15, 33), (16, 34)] ?_
         iterate 2 (refine pn_ (v := ?_) (a' := ?_) HT_ rfl rfl (by kernel_rfl) rfl (fun _ _ _ h => h) (fun w' => ?_) ?_ ?_; rotate_left 2; (focus go_simp; with_reducible rfl); (focus simp only [Act.put, sA_, sZ_, sS_, bE, bJ]; rfl))
        rotate_left
       focus
        refine fM (n := 17) (S := fun w' => True) (ds := []) (ls 17 0) (by kernel_rfl) rfl rfl trivial (fun hHeld => ?_); refine dW aZ.IU aZ.FV (fun HT_ HW_ => ?_)
        generalize wr.drew = w25 at HO_0 HK HB hHeld ⊢
        refine td_ [(0, 18), (1, 19), (2, 20), (3, 21)] ?_
        iterate 4 (refine pn_ (v := ?_) (a' := ?_) HT_ rfl rfl (by kernel_rfl) rfl (fun _ _ _ h => h) (fun w' => ?_) ?_ ?_; rotate_left 2; (focus go_simp; with_reducible rfl); (focus simp only [Act.put, sA_, sZ_, sS_, bE, bJ]; rfl))
        refine dn_ ?_
        refine td_ [(4, 22), (5, 23), (6, 24), (7, 25), (8, 26), (9, 27), (10, 28), (11, 29), (12, 30), (13, 31), (14, 32), (15, 33)] ?_
        iterate 12 (refine on_ (a' := ?_) HT_ rfl rfl (by kernel_rfl) rfl (fun _ _ _ h => h) ?_ ?_; rotate_left; (focus simp only [Act.put, sA_, sZ_, sS_, bE, bJ]; rfl))
        refine dn_ ?_
        refine td_ [(16, 34)] ?_
        iterate 1 (refine pn_ (v := ?_) (a' := ?_) HT_ rfl rfl (by kernel_rfl) rfl (fun _ _ _ h => h) (fun w' => ?_) ?_ ?_; rotate_left 2; (focus go_simp; with_reducible rfl); (focus simp only [Act.put, sA_, sZ_, sS_, bE, bJ]; rfl))
       rotate_left
       all_goals
        refine dn_ ?_
        refine jy (iK HT_.out (by kernel_rfl)) ?_
        (try go_wp2)
       focus
        replace HO_0 := ah.mk (Kd.iq HO_0.out)
        replace HK := ah.mk (Kept.drew HK.out)
        replace HB := ah.mk (dO HB.out)
        have p108 : 0 ≤ ((ji9) : Int) := of_decide_eq_true (by (with_reducible assumption))
        have q108 : (ji9) < (x0_2.length : Int) := of_decide_eq_true (by (with_reducible assumption))
        obtain ⟨ad108, e108, hx108_0, hx108_1, hx108_2, hx108_3, hx108_4⟩ := dU (Kd.aK HO_0.out).2.2 (ji9) p108 q108
        obtain rfl : ad105 = ad108 := (by injection e108)
        replace p108 := eq_true p108
        replace q108 := eq_true q108
        have p109 : 0 ≤ (x9_2 : Int) := of_decide_eq_true (by (with_reducible assumption))
        have q109 : x9_2 < (x0_2.length : Int) := of_decide_eq_true (by (with_reducible assumption))
        obtain ⟨ad109, e109, hx109_0, hx109_1, hx109_2, hx109_3, hx109_4⟩ := dU (Kd.aK HO_0.out).2.2 x9_2 p109 q109
        obtain rfl : ad105 = ad109 := (by injection e109)
        replace p109 := eq_true p109
        replace q109 := eq_true q109
        have p14 : 0 ≤ (x9_2 : Int) := of_decide_eq_true (by (with_reducible assumption))
        have q14 : (x9_2 : Int) < ((x0_2.length : Int) : Int) := of_decide_eq_true (by (with_reducible assumption))
        obtain ⟨go14, co14, eo14, gb14, gl14, cl14, HG14⟩ := Kd.pK HO_0.out (by omega)
        ((cases eo14))
        have GB14 := ah.mk gb14
        have GG14 := ah.mk HG14
        clear gb14 gl14 HG14
        have HMgo14 := ah.mk (show (P0_ go14 ∨ w.heap.size ≤ go14) from (HO_0.out.1 _ rfl))
        ((simp only [add_plain] at hx105_0))
        ((simp only [add_plain] at hx105_1))
        ((simp only [add_plain] at hx105_2))
        ((simp only [add_plain] at hx105_3))
        ((simp only [add_plain] at hx105_4))
        ((simp only [add_plain] at hx106_0))
        ((simp only [add_plain] at hx106_1))
        ((simp only [add_plain] at hx106_2))
        ((simp only [add_plain] at hx106_3))
        ((simp only [add_plain] at hx106_4))
        ((simp only [add_plain] at hx108_0))
        ((simp only [add_plain] at hx108_1))
        ((simp only [add_plain] at hx108_2))
        ((simp only [add_plain] at hx108_3))
        ((simp only [add_plain] at hx108_4))
        ((simp only [add_plain] at hx109_0))
        ((simp only [add_plain] at hx109_1))
        ((simp only [add_plain] at hx109_2))
        ((simp only [add_plain] at hx109_3))
        ((simp only [add_plain] at hx109_4))
        obtain ⟨ce14, hcl14, hM14, hcc14, hfr14⟩ := Kd.iR HO_0.out z44 (x9_2 : Int) p14 q14
        obtain rfl := fE hM14
        have hx14_0 : World.cell? _ ⟨go14, (x9_2 : Int).toNat * 5, none⟩ = some (.string ((aj x0_2 x9_2).f0)) := hcc14 0 _ rfl
        have hx14_1 : World.cell? _ ⟨go14, (x9_2 : Int).toNat * 5 + 1, none⟩ = some (.int .i64 ((aj x0_2 x9_2).f1)) := hcc14 1 _ rfl
        have hx14_2 : World.cell? _ ⟨go14, (x9_2 : Int).toNat * 5 + 2, none⟩ = some (.int .i64 ((aj x0_2 x9_2).f2)) := hcc14 2 _ rfl
        have hx14_3 : World.cell? _ ⟨go14, (x9_2 : Int).toNat * 5 + 3, none⟩ = some (.int .i64 ((aj x0_2 x9_2).f3)) := hcc14 3 _ rfl
        have hx14_4 : World.cell? _ ⟨go14, (x9_2 : Int).toNat * 5 + 4, none⟩ = some (.string ((aj x0_2 x9_2).f4)) := hcc14 4 _ rfl
        have hf14_0 : World.frozen? _ ⟨go14, (x9_2 : Int).toNat * 5, none⟩ = false := hfr14 0
        have hf14_1 : World.frozen? _ ⟨go14, (x9_2 : Int).toNat * 5 + 1, none⟩ = false := hfr14 1
        have hf14_2 : World.frozen? _ ⟨go14, (x9_2 : Int).toNat * 5 + 2, none⟩ = false := hfr14 2
        have hf14_3 : World.frozen? _ ⟨go14, (x9_2 : Int).toNat * 5 + 3, none⟩ = false := hfr14 3
        have hf14_4 : World.frozen? _ ⟨go14, (x9_2 : Int).toNat * 5 + 4, none⟩ = false := hfr14 4
        clear hcl14 hcc14 hfr14 hM14
        replace p14 := eq_true p14
        replace q14 := eq_true q14
        obtain ⟨ce20, hcl20, hM20, hcc20, hfr20⟩ := Kd.iR HO_0.out z44 (x9_2 : Int) (of_decide_eq_true (by (with_reducible assumption))) (by have h_ : (x9_2 : Int) < ((x0_2.length : Int) : Int) := of_decide_eq_true (by (with_reducible assumption)); (exact h_))
        obtain rfl := fE hM20
        have HP20 := (Kd.nA HO_0.out (x9_2 : Int) (of_decide_eq_true (by (with_reducible assumption))) (by have h_ : (x9_2 : Int) < ((x0_2.length : Int) : Int) := of_decide_eq_true (by (with_reducible assumption)); (exact h_)) (seg := [.string ((aj x0_2 (ji9)).f0), .int .i64 ((aj x0_2 (ji9)).f1), .int .i64 ((aj x0_2 (ji9)).f2), .int .i64 ((aj x0_2 (ji9)).f3), .string ((aj x0_2 (ji9)).f4)]) (j := 0) hcl20 hcc20 (show 5 ≤ 5 from by decide) (x' := (⟨(aj x0_2 (ji9)).f0, (aj x0_2 (ji9)).f1, (aj x0_2 (ji9)).f2, (aj x0_2 (ji9)).f3, (aj x0_2 (ji9)).f4⟩ : S44)) (gQ _ _ _ (⟨(aj x0_2 (ji9)).f0, (aj x0_2 (ji9)).f1, (aj x0_2 (ji9)).f2, (aj x0_2 (ji9)).f3, (aj x0_2 (ji9)).f4⟩ : S44) ) (fun _ hk => hk)).1
        rw [← Ny110.out] at HP20
        have HQ20 := ah.mk HP20
        clear hcl20 hcc20 hfr20 hM20 HP20
        have p15 : 0 ≤ ((ji9) : Int) := of_decide_eq_true (by (with_reducible assumption))
        have q15 : ((ji9) : Int) < ((x0_2.length : Int) : Int) := of_decide_eq_true (by (with_reducible assumption))
        obtain ⟨ce15, hcl15, hM15, hcc15, hfr15⟩ := Kd.iR HQ20.out z44 ((ji9) : Int) p15 q15
        obtain rfl := fE hM15
        have hx15_0 : World.cell? _ ⟨go14, ((ji9) : Int).toNat * 5, none⟩ = some (.string ((aj y110 (ji9)).f0)) := hcc15 0 _ rfl
        have hx15_1 : World.cell? _ ⟨go14, ((ji9) : Int).toNat * 5 + 1, none⟩ = some (.int .i64 ((aj y110 (ji9)).f1)) := hcc15 1 _ rfl
        have hx15_2 : World.cell? _ ⟨go14, ((ji9) : Int).toNat * 5 + 2, none⟩ = some (.int .i64 ((aj y110 (ji9)).f2)) := hcc15 2 _ rfl
        have hx15_3 : World.cell? _ ⟨go14, ((ji9) : Int).toNat * 5 + 3, none⟩ = some (.int .i64 ((aj y110 (ji9)).f3)) := hcc15 3 _ rfl
        have hx15_4 : World.cell? _ ⟨go14, ((ji9) : Int).toNat * 5 + 4, none⟩ = some (.string ((aj y110 (ji9)).f4)) := hcc15 4 _ rfl
        have hf15_0 : World.frozen? _ ⟨go14, ((ji9) : Int).toNat * 5, none⟩ = false := hfr15 0
        have hf15_1 : World.frozen? _ ⟨go14, ((ji9) : Int).toNat * 5 + 1, none⟩ = false := hfr15 1
        have hf15_2 : World.frozen? _ ⟨go14, ((ji9) : Int).toNat * 5 + 2, none⟩ = false := hfr15 2
        have hf15_3 : World.frozen? _ ⟨go14, ((ji9) : Int).toNat * 5 + 3, none⟩ = false := hfr15 3
        have hf15_4 : World.frozen? _ ⟨go14, ((ji9) : Int).toNat * 5 + 4, none⟩ = false := hfr15 4
        clear hcl15 hcc15 hfr15 hM15
        replace p15 := eq_true p15
        replace q15 := eq_true q15
        obtain ⟨ce21, hcl21, hM21, hcc21, hfr21⟩ := Kd.iR HQ20.out z44 ((ji9) : Int) (of_decide_eq_true (by (with_reducible assumption))) (by have h_ : ((ji9) : Int) < ((x0_2.length : Int) : Int) := of_decide_eq_true (by (with_reducible assumption)); (exact h_))
        obtain rfl := fE hM21
        have HP21 := (Kd.nA HQ20.out ((ji9) : Int) (of_decide_eq_true (by (with_reducible assumption))) (by have h_ : ((ji9) : Int) < ((x0_2.length : Int) : Int) := of_decide_eq_true (by (with_reducible assumption)); (exact h_)) (seg := [.string ((aj x0_2 x9_2).f0), .int .i64 ((aj x0_2 x9_2).f1), .int .i64 ((aj x0_2 x9_2).f2), .int .i64 ((aj x0_2 x9_2).f3), .string ((aj x0_2 x9_2).f4)]) (j := 0) hcl21 hcc21 (show 5 ≤ 5 from by decide) (x' := (⟨(aj x0_2 x9_2).f0, (aj x0_2 x9_2).f1, (aj x0_2 x9_2).f2, (aj x0_2 x9_2).f3, (aj x0_2 x9_2).f4⟩ : S44)) (gQ _ _ _ (⟨(aj x0_2 x9_2).f0, (aj x0_2 x9_2).f1, (aj x0_2 x9_2).f2, (aj x0_2 x9_2).f3, (aj x0_2 x9_2).f4⟩ : S44) ) (fun _ hk => hk)).1
        rw [← Ny111.out] at HP21
        have HQ21 := ah.mk HP21
        clear hcl21 hcc21 hfr21 hM21 HP21
        refine fM (n := 18) (S := fun w' => w'.cell? ⟨go14, (((ji9)).toNat * 5), none⟩ = some (.string ((aj x0_2 (ji9)).f0)) ∧ w'.cell? ⟨go14, (((ji9)).toNat * 5) + 1, none⟩ = some (.int .i64 ((aj x0_2 (ji9)).f1)) ∧ w'.cell? ⟨go14, (((ji9)).toNat * 5) + 2, none⟩ = some (.int .i64 ((aj x0_2 (ji9)).f2)) ∧ w'.cell? ⟨go14, (((ji9)).toNat * 5) + 3, none⟩ = some (.int .i64 ((aj x0_2 (ji9)).f3)) ∧ w'.cell? ⟨go14, (((ji9)).toNat * 5) + 4, none⟩ = some (.string ((aj x0_2 (ji9)).f4)) ∧ w'.cell? ⟨go14, ((x9_2).toNat * 5), none⟩ = some (.string ((aj x0_2 x9_2).f0)) ∧ w'.cell? ⟨go14, ((x9_2).toNat * 5) + 1, none⟩ = some (.int .i64 ((aj x0_2 x9_2).f1)) ∧ w'.cell? ⟨go14, ((x9_2).toNat * 5) + 2, none⟩ = some (.int .i64 ((aj x0_2 x9_2).f2)) ∧ w'.cell? ⟨go14, ((x9_2).toNat * 5) + 3, none⟩ = some (.int .i64 ((aj x0_2 x9_2).f3)) ∧ w'.cell? ⟨go14, ((x9_2).toNat * 5) + 4, none⟩ = some (.string ((aj x0_2 x9_2).f4))) (ds := [15, 17]) (ls 18 0) (by kernel_rfl) rfl rfl ⟨hx108_0, hx108_1, hx108_2, hx108_3, hx108_4, hx109_0, hx109_1, hx109_2, hx109_3, hx109_4⟩ (fun hHeld => ?_); refine dW aZ.Ec aZ.AA (fun HT_ HW_ => ?_)
        generalize w18.drew = w19 at HO_0 HK HB GG14 HQ20 HQ21 hf14_0 hf14_1 hf14_2 hf14_3 hf14_4 hf15_0 hf15_1 hf15_2 hf15_3 hf15_4 hx105_0 hx105_1 hx105_2 hx105_3 hx105_4 hx106_0 hx106_1 hx106_2 hx106_3 hx106_4 hx108_0 hx108_1 hx108_2 hx108_3 hx108_4 hx109_0 hx109_1 hx109_2 hx109_3 hx109_4 hx14_0 hx14_1 hx14_2 hx14_3 hx14_4 hx15_0 hx15_1 hx15_2 hx15_3 hx15_4 hHeld ⊢
        (try simp [go_sem, World.setCells, (show k44.sz = 5 from rfl)] at hf15_0 hf15_1 hf15_2 hf15_3 hf15_4 hx15_0 hx15_1 hx15_2 hx15_3 hx15_4)
        refine td_ [(0, 37), (1, 38), (2, 39), (3, 40), (4, 41), (5, 42), (6, 43), (7, 44), (8, 45), (10, 47), (11, 48), (12, 49)] ?_
        iterate 12 (refine pn_ (v := ?_) (a' := ?_) HT_ rfl rfl (by kernel_rfl) rfl (fun _ _ _ h => h) (fun w' => ?_) ?_ ?_; rotate_left 2; (focus go_simp; with_reducible rfl); (focus simp only [Act.put, sA_, sZ_, sS_, bE, bJ]; rfl))
        refine dn_ ?_
        refine td_ [(9, 46), (13, 50)] ?_
        iterate 2 (refine tn_ (v := ?_) (a' := ?_) HT_ HW_ rfl rfl (by kernel_rfl) rfl (fun _ _ _ h => h) hHeld ?_ ?_ ?_; rotate_left 2; (focus rintro w' ⟨s0, s1, s2, s3, s4, s5, s6, s7, s8, s9⟩; go_simp; with_reducible rfl); (focus simp only [Act.put, sA_, sZ_, sS_, bE, bJ]; rfl))
        refine dn_ ?_
        refine td_ [(14, 51)] ?_
        iterate 1 (refine pn_ (v := ?_) (a' := ?_) HT_ rfl rfl (by kernel_rfl) rfl (fun _ _ _ h => h) (fun w' => ?_) ?_ ?_; rotate_left 2; (focus go_simp; with_reducible rfl); (focus simp only [Act.put, sA_, sZ_, sS_, bE, bJ]; rfl))
        refine dn_ ?_
        refine lF (i := 15) (N := none) (ls 18 65535) rfl rfl (gD HT_.out (by kernel_rfl)) (by decide) (fun K hK => ?_)
        refine kN (w1 := ?_) (by rfl) rfl ?_ ?_
        rotate_left
        ·go_simp
         rfl
        refine hK.out _ _ ?_
        clear hK K
        refine td_ [(16, 52)] ?_
        iterate 1 (refine pn_ (v := ?_) (a' := ?_) HT_ rfl rfl (by kernel_rfl) rfl (fun _ _ _ h => h) (fun w' => ?_) ?_ ?_; rotate_left 2; (focus go_simp; with_reducible rfl); (focus simp only [Act.put, sA_, sZ_, sS_, bE, bJ]; rfl))
        refine dn_ ?_
        refine lF (i := 17) (N := none) (ls 18 262143) rfl rfl (gD HT_.out (by kernel_rfl)) (by decide) (fun K hK => ?_)
        refine kN (w1 := ?_) (by rfl) rfl ?_ ?_
        rotate_left
        ·go_simp
         rfl
        refine hK.out _ _ ?_
        clear hK K
        refine jy (iK HT_.out (by kernel_rfl)) ?_
        (try go_wp2)
       rotate_left
       rotate_left
       rotate_left
       all_goals
        go_roundg k2
        case measure => have := HK1.out; have := HK2.out; omega
       ·case rel => exact ⟨(y111), (ji9), (by rfl), H', ⟨by have := HK1.out; have := HK2.out; omega⟩, ⟨by (with_reducible repeat ((apply Kd.aG))); exact HQ21.out⟩, ⟨by repeat ((with_reducible first | exact HK.out | refine Kept.setCell ?_ HMgo14.out _))⟩, ⟨by repeat ((with_reducible first | exact HB.out | refine bS ?_ GB14.out))⟩⟩
       ·case rel => exact ⟨(x0_2), (wrap64 (x8_1 + 1)), (by rfl), H', ⟨by have := HK1.out; have := HK2.out; omega⟩, ⟨by (with_reducible repeat ((apply Kd.aG))); exact HO_0.out⟩, ⟨HK.out⟩, ⟨HB.out⟩⟩
       ·case rel => exact ⟨(x0_2), (wrap64 (x8_1 + 1)), (by rfl), H', ⟨by have := HK1.out; have := HK2.out; omega⟩, ⟨by (with_reducible repeat ((apply Kd.aG))); exact HO_0.out⟩, ⟨HK.out⟩, ⟨HB.out⟩⟩
    ·rw [if_neg c5] at H
     have c5b0 : decide (x8_1 < a2) = false := decide_eq_false c5
     clear c5
     obtain rfl := Option.some.inj H
     go_wp2
     go_end0
     exact ⟨by rfl, by (with_reducible repeat ((apply Kd.aG))); exact HO_0.out, HB.out, HK.out⟩
end Go.Y.PSo
namespace Go.Y.PSo
open Go.RowKit Go.V.aD Go.V.aN Go.V.aR Go.Y.Given Go.Y.PRd Go.Y.PRr
attribute [local go_sem] dn dh dJ dK bU bT cZ dw   -- for this text's walks alone
def dB.l0 : Nat → List (S44) → Int → Int → Int → Int → Option ((List (S44)))
 | 0, _, _, _, _, _ => none
 | k + 1, x0, x1, x2, x3, x10 => if x10 < x3 then (if 0 ≤ (wrap64 (x2 + x10)) then (if (wrap64 (x2 + x10)) < (x0.length : Int) then (if 0 ≤ (wrap64 (x1 + x10)) then (if (wrap64 (x1 + x10)) < (x0.length : Int) then (dB.l0 k ((x0.set ((wrap64 (x1 + x10)) : Int).toNat (⟨(aj x0 (wrap64 (x2 + x10))).f0, (aj x0 (wrap64 (x2 + x10))).f1, (aj x0 (wrap64 (x2 + x10))).f2, (aj x0 (wrap64 (x2 + x10))).f3, (aj x0 (wrap64 (x2 + x10))).f4⟩ : S44)).set ((wrap64 (x2 + x10)) : Int).toNat (⟨(aj x0 (wrap64 (x1 + x10))).f0, (aj x0 (wrap64 (x1 + x10))).f1, (aj x0 (wrap64 (x1 + x10))).f2, (aj x0 (wrap64 (x1 + x10))).f3, (aj x0 (wrap64 (x1 + x10))).f4⟩ : S44)) x1 x2 x3 (wrap64 (x10 + 1))) else (none)) else (none)) else (none)) else (none)) else (some x0)
def dB.f (k : Nat) (l0 : List (S44)) (a1 : Int) (a2 : Int) (a3 : Int) (a4 : Int) : Option ((List (S44))) := dB.l0 k l0 a1 a2 a3 0
def dB.T3 : Bool × List (List Nat × List Nat) := (true, [([], []), ([], []), ([], []), ([1, 2], [1, 2]), ([], []), ([], []), ([], []), ([5, 6], [5, 6]), ([], []), ([], []), ([], []), ([9, 10], [9, 10]), ([8, 11], [8, 11]), ([12], [12]), ([], []), ([], []), ([], []), ([15, 16], [15, 16]), ([14, 17], [14, 17]), ([18], [18]), ([0, 3, 0, 1, 2, 3, 8, 9, 10, 11, 12, 13, 19], [0, 3]), ([20, 13, 0, 1, 2, 3, 8, 9, 10, 11, 12, 13, 19], [13, 20]), ([4, 7, 0, 1, 2, 3, 4, 5, 6, 7, 8, 9, 10, 11, 12, 13, 14, 15, 16, 17, 18, 19, 20, 21], [4, 7]), ([22, 19, 21, 0, 1, 2, 3, 4, 5, 6, 7, 8, 9, 10, 11, 12, 13, 14, 15, 16, 17, 18, 19, 20, 21], [19, 22])])
def dB.B3 : List Nat := [0, 0, 0, 6, 0, 0, 0, 96, 0, 0, 0, 1536, 3840, 7936, 0, 0, 0, 98304, 245760, 507904, 1048335, 2096911, 4194303, 8388607]
theorem dB.yF : dP .any (opsOf Tryz.f163 3) = dB.T3 := by kernel_rfl
theorem dB.uQ : dS dB.T3.2 dB.B3 = true := by kernel_rfl
theorem dB.calls (k : Nat) (P0_ : Nat → Prop) (u9000_ : Value) (l0 : List (S44)) (a1 : Int) (a2 : Int) (a3 : Int) (a4 : Int) (r : List (S44)) (w0 w : World) (hB : Below w0.heap.size w0 w) (ho0 : Kd.R k44 44 w w0.heap.size P0_ u9000_ l0) (h : dB.f k l0 a1 a2 a3 a4 = some r) :
    Calls Tryz.prog 163 #[u9000_, .int .i64 a1, .int .i64 a2, .int .i64 a3, .func (.func 78) #[] #[]] w fun e w' => e = .returned (.tuple #[]) ∧ Kd.R k44 44 w' w0.heap.size (fun k_ => (P0_ k_ ∨ w.heap.size ≤ k_)) u9000_ r ∧ Below w0.heap.size w0 w' ∧ Kept w w' (fun k_ => P0_ k_) := by
  have hu44 := Tryz.underlying44
  have HO0 := ah.mk (show Kd.R k44 44 w w0.heap.size (fun k_ => (P0_ k_ ∨ w.heap.size ≤ k_)) u9000_ l0 from Kd.bN ho0 (fun k_ hk => (.inl hk)))
  have HK := ah.mk (Kept.refl w (fun k_ => P0_ k_))
  have HW0 := ah.mk hB.size
  have HB := ah.mk hB
  clear hB
  have H : (dB.l0 k l0 a1 a2 a3 0) = some r := h
  clear h
  have H' := ah.mk H
  clear H
  go_enter Tryz.func163, Tryz.ntmps163
  go_wp2
  go_loopg [10] k (fun kq v10 w' => ∃ (x0_1 : List (S44)) (x10_1 : Int), v10 = .int .i64 x10_1 ∧ ah (dB.l0 kq x0_1 a1 a2 a3 x10_1 = some r) ∧ ah (kq ≤ k) ∧ ah (Kd.R k44 44 w' w0.heap.size (fun k_ => (P0_ k_ ∨ w.heap.size ≤ k_)) u9000_ x0_1) ∧ ah (Kept w w' (fun k_ => P0_ k_)) ∧ ah (Below w0.heap.size w0 w'))
  case atStart => exact ⟨(l0), (0), (by rfl), H', ⟨Nat.le_refl _⟩, ⟨by (with_reducible repeat ((apply Kd.aG))); exact HO0.out⟩, ⟨HK.out⟩, ⟨HB.out⟩⟩
  case round =>
   clear H'
   obtain ⟨x0_1, x10_1, rfl, HA, HK1, HO_0, HK, HB⟩ := hrel
   cases gk with
   | zero => exact absurd HA.out (by simp [dB.l0])
   | succ k1 =>
    have H := HA.out
    clear HA
    simp only [dB.l0] at H
    by_cases c6 : x10_1 < a3
    ·rw [if_pos c6] at H
     have c6b0 : decide (x10_1 < a3) = true := decide_eq_true c6
     clear c6
     obtain ⟨ji7, hji7⟩ : ∃ j_ : Int, (wrap64 (a2 + x10_1)) = j_ := ⟨_, rfl⟩
     rw [hji7] at H
     have hji7w : (IntKind.i64.wrap (a2 + x10_1)) = ji7 := (bE _).trans hji7
     obtain ⟨c8b0, H⟩ := dL H
     obtain ⟨c9b0, H⟩ := dL H
     obtain ⟨ji10, hji10⟩ : ∃ j_ : Int, (wrap64 (a1 + x10_1)) = j_ := ⟨_, rfl⟩
     rw [hji10] at H
     have hji10w : (IntKind.i64.wrap (a1 + x10_1)) = ji10 := (bE _).trans hji10
     obtain ⟨c11b0, H⟩ := dL H
     obtain ⟨c12b0, H⟩ := dL H
     obtain ⟨y114, hy114⟩ : ∃ y_ : List (S44), y_ = (x0_1.set ((ji10) : Int).toNat (⟨(aj x0_1 (ji7)).f0, (aj x0_1 (ji7)).f1, (aj x0_1 (ji7)).f2, (aj x0_1 (ji7)).f3, (aj x0_1 (ji7)).f4⟩ : S44)) := ⟨_, rfl⟩
     replace H : (dB.l0 k1 (y114.set ((ji7) : Int).toNat (⟨(aj x0_1 (ji10)).f0, (aj x0_1 (ji10)).f1, (aj x0_1 (ji10)).f2, (aj x0_1 (ji10)).f3, (aj x0_1 (ji10)).f4⟩ : S44)) a1 a2 a3 (wrap64 (x10_1 + 1))) = some r := by (rw [hy114]; with_reducible exact H)
     have Ny114 := ah.mk hy114
     clear hy114
     obtain ⟨y115, hy115⟩ : ∃ y_ : List (S44), y_ = (y114.set ((ji7) : Int).toNat (⟨(aj x0_1 (ji10)).f0, (aj x0_1 (ji10)).f1, (aj x0_1 (ji10)).f2, (aj x0_1 (ji10)).f3, (aj x0_1 (ji10)).f4⟩ : S44)) := ⟨_, rfl⟩
     replace H : (dB.l0 k1 y115 a1 a2 a3 (wrap64 (x10_1 + 1))) = some r := by (rw [hy115]; with_reducible exact H)
     have Ny115 := ah.mk hy115
     clear hy115
     have H' := ah.mk H
     clear H
     (try go_wp2)
     replace HO_0 := ah.mk (Kd.iq HO_0.out)
     replace HK := ah.mk (Kept.drew HK.out)
     replace HB := ah.mk (dO HB.out)
     obtain ⟨Ao16, co16, eo16⟩ := Kd.bY HO_0.out
     ((subst eo16))
     have p112 : 0 ≤ ((ji7) : Int) := of_decide_eq_true (by (with_reducible assumption))
     have q112 : (ji7) < (x0_1.length : Int) := of_decide_eq_true (by (with_reducible assumption))
     obtain ⟨ad112, e112, hx112_0, hx112_1, hx112_2, hx112_3, hx112_4⟩ := dU (Kd.aK HO_0.out).2.2 (ji7) p112 q112
     cases e112
     replace p112 := eq_true p112
     replace q112 := eq_true q112
     have p113 : 0 ≤ ((ji10) : Int) := of_decide_eq_true (by (with_reducible assumption))
     have q113 : (ji10) < (x0_1.length : Int) := of_decide_eq_true (by (with_reducible assumption))
     obtain ⟨ad113, e113, hx113_0, hx113_1, hx113_2, hx113_3, hx113_4⟩ := dU (Kd.aK HO_0.out).2.2 (ji10) p113 q113
     obtain rfl : ad112 = ad113 := (by injection e113)
     replace p113 := eq_true p113
     replace q113 := eq_true q113
     have p13 : 0 ≤ ((ji10) : Int) := of_decide_eq_true (by (with_reducible assumption))
     have q13 : ((ji10) : Int) < ((x0_1.length : Int) : Int) := of_decide_eq_true (by (with_reducible assumption))
     obtain ⟨go13, co13, eo13, gb13, gl13, cl13, HG13⟩ := Kd.pK HO_0.out (by omega)
     ((cases eo13))
     have GB13 := ah.mk gb13
     have GG13 := ah.mk HG13
     clear gb13 gl13 HG13
     have HMgo13 := ah.mk (show (P0_ go13 ∨ w.heap.size ≤ go13) from (HO_0.out.1 _ rfl))
     ((simp only [add_plain] at hx112_0))
     ((simp only [add_plain] at hx112_1))
     ((simp only [add_plain] at hx112_2))
     ((simp only [add_plain] at hx112_3))
     ((simp only [add_plain] at hx112_4))
     ((simp only [add_plain] at hx113_0))
     ((simp only [add_plain] at hx113_1))
     ((simp only [add_plain] at hx113_2))
     ((simp only [add_plain] at hx113_3))
     ((simp only [add_plain] at hx113_4))
     obtain ⟨ce13, hcl13, hM13, hcc13, hfr13⟩ := Kd.iR HO_0.out z44 ((ji10) : Int) p13 q13
     obtain rfl := fE hM13
     have hx13_0 : World.cell? _ ⟨go13, ((ji10) : Int).toNat * 5, none⟩ = some (.string ((aj x0_1 (ji10)).f0)) := hcc13 0 _ rfl
     have hx13_1 : World.cell? _ ⟨go13, ((ji10) : Int).toNat * 5 + 1, none⟩ = some (.int .i64 ((aj x0_1 (ji10)).f1)) := hcc13 1 _ rfl
     have hx13_2 : World.cell? _ ⟨go13, ((ji10) : Int).toNat * 5 + 2, none⟩ = some (.int .i64 ((aj x0_1 (ji10)).f2)) := hcc13 2 _ rfl
     have hx13_3 : World.cell? _ ⟨go13, ((ji10) : Int).toNat * 5 + 3, none⟩ = some (.int .i64 ((aj x0_1 (ji10)).f3)) := hcc13 3 _ rfl
     have hx13_4 : World.cell? _ ⟨go13, ((ji10) : Int).toNat * 5 + 4, none⟩ = some (.string ((aj x0_1 (ji10)).f4)) := hcc13 4 _ rfl
     have hf13_0 : World.frozen? _ ⟨go13, ((ji10) : Int).toNat * 5, none⟩ = false := hfr13 0
     have hf13_1 : World.frozen? _ ⟨go13, ((ji10) : Int).toNat * 5 + 1, none⟩ = false := hfr13 1
     have hf13_2 : World.frozen? _ ⟨go13, ((ji10) : Int).toNat * 5 + 2, none⟩ = false := hfr13 2
     have hf13_3 : World.frozen? _ ⟨go13, ((ji10) : Int).toNat * 5 + 3, none⟩ = false := hfr13 3
     have hf13_4 : World.frozen? _ ⟨go13, ((ji10) : Int).toNat * 5 + 4, none⟩ = false := hfr13 4
     clear hcl13 hcc13 hfr13 hM13
     replace p13 := eq_true p13
     replace q13 := eq_true q13
     obtain ⟨ce17, hcl17, hM17, hcc17, hfr17⟩ := Kd.iR HO_0.out z44 ((ji10) : Int) (of_decide_eq_true (by (with_reducible assumption))) (by have h_ : ((ji10) : Int) < ((x0_1.length : Int) : Int) := of_decide_eq_true (by (with_reducible assumption)); (exact h_))
     obtain rfl := fE hM17
     have HP17 := (Kd.nA HO_0.out ((ji10) : Int) (of_decide_eq_true (by (with_reducible assumption))) (by have h_ : ((ji10) : Int) < ((x0_1.length : Int) : Int) := of_decide_eq_true (by (with_reducible assumption)); (exact h_)) (seg := [.string ((aj x0_1 (ji7)).f0), .int .i64 ((aj x0_1 (ji7)).f1), .int .i64 ((aj x0_1 (ji7)).f2), .int .i64 ((aj x0_1 (ji7)).f3), .string ((aj x0_1 (ji7)).f4)]) (j := 0) hcl17 hcc17 (show 5 ≤ 5 from by decide) (x' := (⟨(aj x0_1 (ji7)).f0, (aj x0_1 (ji7)).f1, (aj x0_1 (ji7)).f2, (aj x0_1 (ji7)).f3, (aj x0_1 (ji7)).f4⟩ : S44)) (gQ _ _ _ (⟨(aj x0_1 (ji7)).f0, (aj x0_1 (ji7)).f1, (aj x0_1 (ji7)).f2, (aj x0_1 (ji7)).f3, (aj x0_1 (ji7)).f4⟩ : S44) ) (fun _ hk => hk)).1
     rw [← Ny114.out] at HP17
     have HQ17 := ah.mk HP17
     clear hcl17 hcc17 hfr17 hM17 HP17
     have p14 : 0 ≤ ((ji7) : Int) := of_decide_eq_true (by (with_reducible assumption))
     have q14 : ((ji7) : Int) < ((x0_1.length : Int) : Int) := of_decide_eq_true (by (with_reducible assumption))
     obtain ⟨ce14, hcl14, hM14, hcc14, hfr14⟩ := Kd.iR HQ17.out z44 ((ji7) : Int) p14 q14
     obtain rfl := fE hM14
     have hx14_0 : World.cell? _ ⟨go13, ((ji7) : Int).toNat * 5, none⟩ = some (.string ((aj y114 (ji7)).f0)) := hcc14 0 _ rfl
     have hx14_1 : World.cell? _ ⟨go13, ((ji7) : Int).toNat * 5 + 1, none⟩ = some (.int .i64 ((aj y114 (ji7)).f1)) := hcc14 1 _ rfl
     have hx14_2 : World.cell? _ ⟨go13, ((ji7) : Int).toNat * 5 + 2, none⟩ = some (.int .i64 ((aj y114 (ji7)).f2)) := hcc14 2 _ rfl
     have hx14_3 : World.cell? _ ⟨go13, ((ji7) : Int).toNat * 5 + 3, none⟩ = some (.int .i64 ((aj y114 (ji7)).f3)) := hcc14 3 _ rfl
     have hx14_4 : World.cell? _ ⟨go13, ((ji7) : Int).toNat * 5 + 4, none⟩ = some (.string ((aj y114 (ji7)).f4)) := hcc14 4 _ rfl
     have hf14_0 : World.frozen? _ ⟨go13, ((ji7) : Int).toNat * 5, none⟩ = false := hfr14 0
     have hf14_1 : World.frozen? _ ⟨go13, ((ji7) : Int).toNat * 5 + 1, none⟩ = false := hfr14 1
     have hf14_2 : World.frozen? _ ⟨go13, ((ji7) : Int).toNat * 5 + 2, none⟩ = false := hfr14 2
     have hf14_3 : World.frozen? _ ⟨go13, ((ji7) : Int).toNat * 5 + 3, none⟩ = false := hfr14 3
     have hf14_4 : World.frozen? _ ⟨go13, ((ji7) : Int).toNat * 5 + 4, none⟩ = false := hfr14 4
     clear hcl14 hcc14 hfr14 hM14
     replace p14 := eq_true p14
     replace q14 := eq_true q14
     obtain ⟨ce18, hcl18, hM18, hcc18, hfr18⟩ := Kd.iR HQ17.out z44 ((ji7) : Int) (of_decide_eq_true (by (with_reducible assumption))) (by have h_ : ((ji7) : Int) < ((x0_1.length : Int) : Int) := of_decide_eq_true (by (with_reducible assumption)); (exact h_))
     obtain rfl := fE hM18
     have HP18 := (Kd.nA HQ17.out ((ji7) : Int) (of_decide_eq_true (by (with_reducible assumption))) (by have h_ : ((ji7) : Int) < ((x0_1.length : Int) : Int) := of_decide_eq_true (by (with_reducible assumption)); (exact h_)) (seg := [.string ((aj x0_1 (ji10)).f0), .int .i64 ((aj x0_1 (ji10)).f1), .int .i64 ((aj x0_1 (ji10)).f2), .int .i64 ((aj x0_1 (ji10)).f3), .string ((aj x0_1 (ji10)).f4)]) (j := 0) hcl18 hcc18 (show 5 ≤ 5 from by decide) (x' := (⟨(aj x0_1 (ji10)).f0, (aj x0_1 (ji10)).f1, (aj x0_1 (ji10)).f2, (aj x0_1 (ji10)).f3, (aj x0_1 (ji10)).f4⟩ : S44)) (gQ _ _ _ (⟨(aj x0_1 (ji10)).f0, (aj x0_1 (ji10)).f1, (aj x0_1 (ji10)).f2, (aj x0_1 (ji10)).f3, (aj x0_1 (ji10)).f4⟩ : S44) ) (fun _ hk => hk)).1
     rw [← Ny115.out] at HP18
     have HQ18 := ah.mk HP18
     clear hcl18 hcc18 hfr18 hM18 HP18
     refine fM (n := 24) (S := fun w' => w'.cell? ⟨go13, (((ji7)).toNat * 5), none⟩ = some (.string ((aj x0_1 (ji7)).f0)) ∧ w'.cell? ⟨go13, (((ji7)).toNat * 5) + 1, none⟩ = some (.int .i64 ((aj x0_1 (ji7)).f1)) ∧ w'.cell? ⟨go13, (((ji7)).toNat * 5) + 2, none⟩ = some (.int .i64 ((aj x0_1 (ji7)).f2)) ∧ w'.cell? ⟨go13, (((ji7)).toNat * 5) + 3, none⟩ = some (.int .i64 ((aj x0_1 (ji7)).f3)) ∧ w'.cell? ⟨go13, (((ji7)).toNat * 5) + 4, none⟩ = some (.string ((aj x0_1 (ji7)).f4)) ∧ w'.cell? ⟨go13, (((ji10)).toNat * 5), none⟩ = some (.string ((aj x0_1 (ji10)).f0)) ∧ w'.cell? ⟨go13, (((ji10)).toNat * 5) + 1, none⟩ = some (.int .i64 ((aj x0_1 (ji10)).f1)) ∧ w'.cell? ⟨go13, (((ji10)).toNat * 5) + 2, none⟩ = some (.int .i64 ((aj x0_1 (ji10)).f2)) ∧ w'.cell? ⟨go13, (((ji10)).toNat * 5) + 3, none⟩ = some (.int .i64 ((aj x0_1 (ji10)).f3)) ∧ w'.cell? ⟨go13, (((ji10)).toNat * 5) + 4, none⟩ = some (.string ((aj x0_1 (ji10)).f4))) (ds := [21, 23]) (ls 24 0) (by kernel_rfl) rfl rfl ⟨hx112_0, hx112_1, hx112_2, hx112_3, hx112_4, hx113_0, hx113_1, hx113_2, hx113_3, hx113_4⟩ (fun hHeld => ?_); refine dW dB.yF dB.uQ (fun HT_ HW_ => ?_)
     generalize wr.drew = w15 at HO_0 HK HB GG13 HQ17 HQ18 hf13_0 hf13_1 hf13_2 hf13_3 hf13_4 hf14_0 hf14_1 hf14_2 hf14_3 hf14_4 hx112_0 hx112_1 hx112_2 hx112_3 hx112_4 hx113_0 hx113_1 hx113_2 hx113_3 hx113_4 hx13_0 hx13_1 hx13_2 hx13_3 hx13_4 hx14_0 hx14_1 hx14_2 hx14_3 hx14_4 hHeld ⊢
     (try simp [go_sem, World.setCells, (show k44.sz = 5 from rfl)] at hf14_0 hf14_1 hf14_2 hf14_3 hf14_4 hx14_0 hx14_1 hx14_2 hx14_3 hx14_4)
     refine td_ [(0, 16), (1, 17), (2, 18), (3, 19), (4, 20), (5, 21), (6, 22), (7, 23), (8, 24), (9, 25), (10, 26), (11, 27), (12, 28), (14, 30), (15, 31), (16, 32), (17, 33), (18, 34)] ?_
     iterate 18 (refine pn_ (v := ?_) (a' := ?_) HT_ rfl rfl (by kernel_rfl) rfl (fun _ _ _ h => h) (fun w' => ?_) ?_ ?_; rotate_left 2; (focus go_simp; with_reducible rfl); (focus simp only [Act.put, sA_, sZ_, sS_, bE, bJ]; rfl))
     refine dn_ ?_
     refine td_ [(13, 29), (19, 35)] ?_
     iterate 2 (refine tn_ (v := ?_) (a' := ?_) HT_ HW_ rfl rfl (by kernel_rfl) rfl (fun _ _ _ h => h) hHeld ?_ ?_ ?_; rotate_left 2; (focus rintro w' ⟨s0, s1, s2, s3, s4, s5, s6, s7, s8, s9⟩; go_simp; with_reducible rfl); (focus simp only [Act.put, sA_, sZ_, sS_, bE, bJ]; rfl))
     refine dn_ ?_
     refine td_ [(20, 36)] ?_
     iterate 1 (refine pn_ (v := ?_) (a' := ?_) HT_ rfl rfl (by kernel_rfl) rfl (fun _ _ _ h => h) (fun w' => ?_) ?_ ?_; rotate_left 2; (focus go_simp; with_reducible rfl); (focus simp only [Act.put, sA_, sZ_, sS_, bE, bJ]; rfl))
     refine dn_ ?_
     refine lF (i := 21) (N := none) (ls 24 4194303) rfl rfl (gD HT_.out (by kernel_rfl)) (by decide) (fun K hK => ?_)
     refine kN (w1 := ?_) (by rfl) rfl ?_ ?_
     rotate_left
     ·go_simp
      rfl
     refine hK.out _ _ ?_
     clear hK K
     refine td_ [(22, 37)] ?_
     iterate 1 (refine pn_ (v := ?_) (a' := ?_) HT_ rfl rfl (by kernel_rfl) rfl (fun _ _ _ h => h) (fun w' => ?_) ?_ ?_; rotate_left 2; (focus go_simp; with_reducible rfl); (focus simp only [Act.put, sA_, sZ_, sS_, bE, bJ]; rfl))
     refine dn_ ?_
     refine lF (i := 23) (N := none) (ls 24 16777215) rfl rfl (gD HT_.out (by kernel_rfl)) (by decide) (fun K hK => ?_)
     refine kN (w1 := ?_) (by rfl) rfl ?_ ?_
     rotate_left
     ·go_simp
      rfl
     refine hK.out _ _ ?_
     clear hK K
     refine jy (iK HT_.out (by kernel_rfl)) ?_
     (try go_wp2)
     go_roundg k1
     case measure => have := HK1.out; omega
     case rel => exact ⟨(y115), (wrap64 (x10_1 + 1)), (by rfl), H', ⟨by have := HK1.out; omega⟩, ⟨by (with_reducible repeat ((apply Kd.aG))); exact HQ18.out⟩, ⟨by repeat ((with_reducible first | exact HK.out | refine Kept.setCell ?_ HMgo13.out _))⟩, ⟨by repeat ((with_reducible first | exact HB.out | refine bS ?_ GB13.out))⟩⟩
    ·rw [if_neg c6] at H
     have c6b0 : decide (x10_1 < a3) = false := decide_eq_false c6
     clear c6
     obtain rfl := Option.some.inj H
     go_wp2
     go_end0
     exact ⟨by rfl, by (with_reducible repeat ((apply Kd.aG))); exact HO_0.out, HB.out, HK.out⟩
def fq.l0 : Nat → List (S44) → Int → Int → Int → Int → Option ((List (S44)))
 | 0, _, _, _, _, _ => none
 | k + 1, x0, x2, x4, x10, x11 => if x10 = x11 then ((dB.f k x0 (wrap64 (x2 - x10)) x2 x10 x4).bind fun t116 => (some t116)) else (if x10 > x11 then ((dB.f k x0 (wrap64 (x2 - x10)) x2 x11 x4).bind fun t117 => (fq.l0 k t117 x2 x4 (wrap64 (x10 - x11)) x11)) else ((dB.f k x0 (wrap64 (x2 - x10)) (wrap64 ((wrap64 (x2 + x11)) - x10)) x10 x4).bind fun t118 => (fq.l0 k t118 x2 x4 x10 (wrap64 (x11 - x10)))))
def fq.f (k : Nat) (l0 : List (S44)) (a1 : Int) (a2 : Int) (a3 : Int) (a4 : Int) : Option ((List (S44))) := fq.l0 k l0 a2 a4 (wrap64 (a2 - a1)) (wrap64 (a3 - a2))
theorem fq.calls (k : Nat) (P0_ : Nat → Prop) (u9000_ : Value) (l0 : List (S44)) (a1 : Int) (a2 : Int) (a3 : Int) (a4 : Int) (r : List (S44)) (w0 w : World) (hB : Below w0.heap.size w0 w) (ho0 : Kd.R k44 44 w w0.heap.size P0_ u9000_ l0) (h : fq.f k l0 a1 a2 a3 a4 = some r) :
    Calls Tryz.prog 157 #[u9000_, .int .i64 a1, .int .i64 a2, .int .i64 a3, .func (.func 78) #[] #[]] w fun e w' => e = .returned (.tuple #[]) ∧ Kd.R k44 44 w' w0.heap.size (fun k_ => (P0_ k_ ∨ w.heap.size ≤ k_)) u9000_ r ∧ Below w0.heap.size w0 w' ∧ Kept w w' (fun k_ => P0_ k_) := by
  have HO0 := ah.mk (show Kd.R k44 44 w w0.heap.size (fun k_ => (P0_ k_ ∨ w.heap.size ≤ k_)) u9000_ l0 from Kd.bN ho0 (fun k_ hk => (.inl hk)))
  have HK := ah.mk (Kept.refl w (fun k_ => P0_ k_))
  have HW0 := ah.mk hB.size
  have HB := ah.mk hB
  clear hB
  have H : (fq.l0 k l0 a2 a4 (wrap64 (a2 - a1)) (wrap64 (a3 - a2))) = some r := h
  clear h
  have H' := ah.mk H
  clear H
  go_enter Tryz.func157, Tryz.ntmps157
  go_wp2
  go_loopg [10, 11] k (fun kq v10 v11 w' => ∃ (x0_1 : List (S44)) (x10_1 : Int) (x11_1 : Int), v10 = .int .i64 x10_1 ∧ v11 = .int .i64 x11_1 ∧ ah (fq.l0 kq x0_1 a2 a4 x10_1 x11_1 = some r) ∧ ah (kq ≤ k) ∧ ah (Kd.R k44 44 w' w0.heap.size (fun k_ => (P0_ k_ ∨ w.heap.size ≤ k_)) u9000_ x0_1) ∧ ah (Kept w w' (fun k_ => P0_ k_)) ∧ ah (Below w0.heap.size w0 w'))
  case atStart => exact ⟨(l0), (wrap64 (a2 - a1)), (wrap64 (a3 - a2)), (by rfl), (by rfl), H', ⟨Nat.le_refl _⟩, ⟨by (with_reducible repeat ((apply Kd.aG))); exact HO0.out⟩, ⟨HK.out⟩, ⟨HB.out⟩⟩
  case round =>
   clear H'
   obtain ⟨x0_1, x10_1, x11_1, rfl, rfl, HA, HK1, HO_0, HK, HB⟩ := hrel
   cases gk with
   | zero => exact absurd HA.out (by simp [fq.l0])
   | succ k1 =>
    have H := HA.out
    clear HA
    simp only [fq.l0] at H
    by_cases c6 : x10_1 = x11_1
    focus
     rw [if_pos c6] at H
     have c6b0 : (x10_1 == x11_1) = true := beq_iff_eq.mpr c6
     have c6b1 : (x10_1 != x11_1) = false := bne_eq_false_iff_eq.mpr c6
     clear c6
     obtain ⟨t116, A7, H⟩ := bR H
     obtain rfl := Option.some.inj H
    rotate_left
    focus
     rw [if_neg c6] at H
     have c6b0 : (x10_1 == x11_1) = false := beq_eq_false_iff_ne.mpr c6
     have c6b1 : (x10_1 != x11_1) = true := bne_iff_ne.mpr c6
     by_cases c10 : x10_1 > x11_1
     focus
      rw [if_pos c10] at H
      have c10b0 : decide (x11_1 < x10_1) = true := decide_eq_true c10
     rotate_left
     focus
      rw [if_neg c10] at H
      have c10b0 : decide (x11_1 < x10_1) = false := decide_eq_false c10
     rotate_left
     all_goals
      clear c10
      obtain ⟨t117, A11, H⟩ := bR H
      have H' := ah.mk H
      clear H
    rotate_left 2
    all_goals
     obtain ⟨Ao8, co8, eo8⟩ := Kd.bY HO_0.out
     subst eo8
    ·go_wp2_with ((((with_reducible refine bF (f := 163) rfl ?_); refine dM (some 57) rfl rfl Tryz.func163 (by kernel_rfl) rfl #[.slice Ao8 x0_1.length co8, .int .i64 (wrap64 (a2 - x10_1)), .int .i64 a2, .int .i64 x10_1, .func (.func 78) #[] #[]] rfl (by (try simp only [mA_, mC_, mN_]); rfl) ?_; (with_reducible refine (dB.calls k1 (fun k_ => some k_ = (.slice Ao8 x0_1.length co8 : Value).ownBlock) (.slice Ao8 x0_1.length co8) x0_1 (wrap64 (a2 - x10_1)) a2 x10_1 a4 t116 w0 _ ?side1 ?side2 A7.out).mono ?_); (case side1 => repeat ((with_reducible (exact HB.out)))); (case side2 => exact Kd.iW rfl HO_0.out); rintro e w9 ⟨rfl, hy0, hb, hkp⟩; refine ⟨_, rfl, ?_⟩; have n0_ := ah.mk (Kd.jB rfl hy0 (fun k_ e_ => HO_0.out.1 k_ e_)); have n1_ := ah.mk (Kept.then_ (S := (fun k_ => P0_ k_)) HK.out hkp (fun k_ hs_ => (fun e_ => (HO_0.out.1 k_ e_.symm)) hs_)); have n2_ := ah.mk (hb); clear HO_0; clear HK; clear HB; have HO_0 := n0_; have HK := n1_; have HB := n2_; clear n0_ n1_ n2_; (try clear hb); (try clear hkp); (try clear hy0))))
     go_end0
     exact ⟨by rfl, by (with_reducible repeat ((apply Kd.aG))); exact HO_0.out, HB.out, HK.out⟩
    ·go_wp2_with ((((with_reducible refine bF (f := 163) rfl ?_); refine dM (some 31) rfl rfl Tryz.func163 (by kernel_rfl) rfl #[.slice Ao8 x0_1.length co8, .int .i64 (wrap64 (a2 - x10_1)), .int .i64 a2, .int .i64 x11_1, .func (.func 78) #[] #[]] rfl (by (try simp only [mA_, mC_, mN_]); rfl) ?_; (with_reducible refine (dB.calls k1 (fun k_ => some k_ = (.slice Ao8 x0_1.length co8 : Value).ownBlock) (.slice Ao8 x0_1.length co8) x0_1 (wrap64 (a2 - x10_1)) a2 x11_1 a4 t117 w0 _ ?side1 ?side2 A11.out).mono ?_); (case side1 => repeat ((with_reducible (exact HB.out)))); (case side2 => exact Kd.iW rfl HO_0.out); rintro e w13 ⟨rfl, hy0, hb, hkp⟩; refine ⟨_, rfl, ?_⟩; have n0_ := ah.mk (Kd.jB rfl hy0 (fun k_ e_ => HO_0.out.1 k_ e_)); have n1_ := ah.mk (Kept.then_ (S := (fun k_ => P0_ k_)) HK.out hkp (fun k_ hs_ => (fun e_ => (HO_0.out.1 k_ e_.symm)) hs_)); have n2_ := ah.mk (hb); clear HO_0; clear HK; clear HB; have HO_0 := n0_; have HK := n1_; have HB := n2_; clear n0_ n1_ n2_; (try clear hb); (try clear hkp); (try clear hy0))))
     go_roundg k1
     case measure => have := HK1.out; omega
     case rel => exact ⟨(t117), (wrap64 (x10_1 - x11_1)), (x11_1), (by rfl), (by rfl), H', ⟨by have := HK1.out; omega⟩, ⟨by (with_reducible repeat ((apply Kd.aG))); exact HO_0.out⟩, ⟨HK.out⟩, ⟨HB.out⟩⟩
    ·go_wp2_with ((((with_reducible refine bF (f := 163) rfl ?_); refine dM (some 46) rfl rfl Tryz.func163 (by kernel_rfl) rfl #[.slice Ao8 x0_1.length co8, .int .i64 (wrap64 (a2 - x10_1)), .int .i64 (wrap64 ((wrap64 (a2 + x11_1)) - x10_1)), .int .i64 x10_1, .func (.func 78) #[] #[]] rfl (by (try simp only [mA_, mC_, mN_]); rfl) ?_; (with_reducible refine (dB.calls k1 (fun k_ => some k_ = (.slice Ao8 x0_1.length co8 : Value).ownBlock) (.slice Ao8 x0_1.length co8) x0_1 (wrap64 (a2 - x10_1)) (wrap64 ((wrap64 (a2 + x11_1)) - x10_1)) x10_1 a4 t117 w0 _ ?side1 ?side2 A11.out).mono ?_); (case side1 => repeat ((with_reducible (exact HB.out)))); (case side2 => exact Kd.iW rfl HO_0.out); rintro e w16 ⟨rfl, hy0, hb, hkp⟩; refine ⟨_, rfl, ?_⟩; have n0_ := ah.mk (Kd.jB rfl hy0 (fun k_ e_ => HO_0.out.1 k_ e_)); have n1_ := ah.mk (Kept.then_ (S := (fun k_ => P0_ k_)) HK.out hkp (fun k_ hs_ => (fun e_ => (HO_0.out.1 k_ e_.symm)) hs_)); have n2_ := ah.mk (hb); clear HO_0; clear HK; clear HB; have HO_0 := n0_; have HK := n1_; have HB := n2_; clear n0_ n1_ n2_; (try clear hb); (try clear hkp); (try clear hy0))))
     go_roundg k1
     case measure => have := HK1.out; omega
     case rel => exact ⟨(t117), (x10_1), (wrap64 (x11_1 - x10_1)), (by rfl), (by rfl), H', ⟨by have := HK1.out; omega⟩, ⟨by (with_reducible repeat ((apply Kd.aG))); exact HO_0.out⟩, ⟨HK.out⟩, ⟨HB.out⟩⟩
end Go.Y.PSo
namespace Go.Y.PSo
open Go.RowKit Go.V.aD Go.V.aN Go.V.aR Go.Y.Given Go.Y.PRd Go.Y.PRr
attribute [local go_sem] dn dh dJ dK bU bT cZ dw   -- for this text's walks alone
mutual
def av.l0 : Nat → List (S44) → Int → Int → Int → Option ((List (S44)))
 | 0, _, _, _, _ => none
 | k + 1, x0, x1, x10, x11 => if x10 < x11 then (if 0 ≤ (wrap64 ((IntKind.u64.wrap (wrap64 (x10 + x11))) / 2)) then (if (wrap64 ((IntKind.u64.wrap (wrap64 (x10 + x11))) / 2)) < (x0.length : Int) then (if 0 ≤ x1 then (if x1 < (x0.length : Int) then ((cB.f k ((aj x0 (wrap64 ((IntKind.u64.wrap (wrap64 (x10 + x11))) / 2))).f0) ((aj x0 (wrap64 ((IntKind.u64.wrap (wrap64 (x10 + x11))) / 2))).f1) ((aj x0 (wrap64 ((IntKind.u64.wrap (wrap64 (x10 + x11))) / 2))).f2) ((aj x0 (wrap64 ((IntKind.u64.wrap (wrap64 (x10 + x11))) / 2))).f3) ((aj x0 (wrap64 ((IntKind.u64.wrap (wrap64 (x10 + x11))) / 2))).f4) ((aj x0 x1).f0) ((aj x0 x1).f1) ((aj x0 x1).f2) ((aj x0 x1).f3) ((aj x0 x1).f4)).bind fun t121 => (if t121 < 0 then (av.l0 k x0 x1 (wrap64 ((wrap64 ((IntKind.u64.wrap (wrap64 (x10 + x11))) / 2)) + 1)) x11) else (av.l0 k x0 x1 x10 (wrap64 ((IntKind.u64.wrap (wrap64 (x10 + x11))) / 2))))) else (none)) else (none)) else (none)) else (none)) else (av.l1 k x0 x10 x1)
def av.l1 : Nat → List (S44) → Int → Int → Option ((List (S44)))
 | 0, _, _, _ => none
 | k + 1, x0, x10, x13 => if x13 < (wrap64 (x10 - 1)) then (if 0 ≤ (wrap64 (x13 + 1)) then (if (wrap64 (x13 + 1)) < (x0.length : Int) then (if 0 ≤ x13 then (if x13 < (x0.length : Int) then (av.l1 k ((x0.set (x13 : Int).toNat (⟨(aj x0 (wrap64 (x13 + 1))).f0, (aj x0 (wrap64 (x13 + 1))).f1, (aj x0 (wrap64 (x13 + 1))).f2, (aj x0 (wrap64 (x13 + 1))).f3, (aj x0 (wrap64 (x13 + 1))).f4⟩ : S44)).set ((wrap64 (x13 + 1)) : Int).toNat (⟨(aj x0 x13).f0, (aj x0 x13).f1, (aj x0 x13).f2, (aj x0 x13).f3, (aj x0 x13).f4⟩ : S44)) x10 (wrap64 (x13 + 1))) else (none)) else (none)) else (none)) else (none)) else (some x0)
def av.l2 : Nat → List (S44) → Int → Int → Int → Option ((List (S44)))
 | 0, _, _, _, _ => none
 | k + 1, x0, x2, x14, x15 => if x14 < x15 then (if 0 ≤ x2 then (if x2 < (x0.length : Int) then (if 0 ≤ (wrap64 ((IntKind.u64.wrap (wrap64 (x14 + x15))) / 2)) then (if (wrap64 ((IntKind.u64.wrap (wrap64 (x14 + x15))) / 2)) < (x0.length : Int) then ((cB.f k ((aj x0 x2).f0) ((aj x0 x2).f1) ((aj x0 x2).f2) ((aj x0 x2).f3) ((aj x0 x2).f4) ((aj x0 (wrap64 ((IntKind.u64.wrap (wrap64 (x14 + x15))) / 2))).f0) ((aj x0 (wrap64 ((IntKind.u64.wrap (wrap64 (x14 + x15))) / 2))).f1) ((aj x0 (wrap64 ((IntKind.u64.wrap (wrap64 (x14 + x15))) / 2))).f2) ((aj x0 (wrap64 ((IntKind.u64.wrap (wrap64 (x14 + x15))) / 2))).f3) ((aj x0 (wrap64 ((IntKind.u64.wrap (wrap64 (x14 + x15))) / 2))).f4)).bind fun t128 => (if t128 < 0 then (av.l2 k x0 x2 x14 (wrap64 ((IntKind.u64.wrap (wrap64 (x14 + x15))) / 2))) else (av.l2 k x0 x2 (wrap64 ((wrap64 ((IntKind.u64.wrap (wrap64 (x14 + x15))) / 2)) + 1)) x15))) else (none)) else (none)) else (none)) else (none)) else (av.l3 k x0 x14 x2)
def av.l3 : Nat → List (S44) → Int → Int → Option ((List (S44)))
 | 0, _, _, _ => none
 | k + 1, x0, x14, x17 => if x17 > x14 then (if 0 ≤ (wrap64 (x17 - 1)) then (if (wrap64 (x17 - 1)) < (x0.length : Int) then (if 0 ≤ x17 then (if x17 < (x0.length : Int) then (av.l3 k ((x0.set (x17 : Int).toNat (⟨(aj x0 (wrap64 (x17 - 1))).f0, (aj x0 (wrap64 (x17 - 1))).f1, (aj x0 (wrap64 (x17 - 1))).f2, (aj x0 (wrap64 (x17 - 1))).f3, (aj x0 (wrap64 (x17 - 1))).f4⟩ : S44)).set ((wrap64 (x17 - 1)) : Int).toNat (⟨(aj x0 x17).f0, (aj x0 x17).f1, (aj x0 x17).f2, (aj x0 x17).f3, (aj x0 x17).f4⟩ : S44)) x14 (wrap64 (x17 - 1))) else (none)) else (none)) else (none)) else (none)) else (some x0)
def av.j4 : Nat → List (S44) → Int → Int → Int → Int → Int → Int → Int → Int → Option ((List (S44)))
 | 0, _, _, _, _, _, _, _, _, _ => none
 | k + 1, x0, x1, x2, x3, x4, x18, x19, x20, x21 => av.l4 k x0 x1 x2 x3 x4 x18 x19 x20 x21 (wrap64 (x19 - 1))
def av.l4 : Nat → List (S44) → Int → Int → Int → Int → Int → Int → Int → Int → Int → Option ((List (S44)))
 | 0, _, _, _, _, _, _, _, _, _, _ => none
 | k + 1, x0, x1, x2, x3, x4, x18, x19, x20, x21, x22 => if x20 < x21 then (if 0 ≤ (wrap64 (x22 - (wrap64 ((IntKind.u64.wrap (wrap64 (x20 + x21))) / 2)))) then (if (wrap64 (x22 - (wrap64 ((IntKind.u64.wrap (wrap64 (x20 + x21))) / 2)))) < (x0.length : Int) then (if 0 ≤ (wrap64 ((IntKind.u64.wrap (wrap64 (x20 + x21))) / 2)) then (if (wrap64 ((IntKind.u64.wrap (wrap64 (x20 + x21))) / 2)) < (x0.length : Int) then ((cB.f k ((aj x0 (wrap64 (x22 - (wrap64 ((IntKind.u64.wrap (wrap64 (x20 + x21))) / 2))))).f0) ((aj x0 (wrap64 (x22 - (wrap64 ((IntKind.u64.wrap (wrap64 (x20 + x21))) / 2))))).f1) ((aj x0 (wrap64 (x22 - (wrap64 ((IntKind.u64.wrap (wrap64 (x20 + x21))) / 2))))).f2) ((aj x0 (wrap64 (x22 - (wrap64 ((IntKind.u64.wrap (wrap64 (x20 + x21))) / 2))))).f3) ((aj x0 (wrap64 (x22 - (wrap64 ((IntKind.u64.wrap (wrap64 (x20 + x21))) / 2))))).f4) ((aj x0 (wrap64 ((IntKind.u64.wrap (wrap64 (x20 + x21))) / 2))).f0) ((aj x0 (wrap64 ((IntKind.u64.wrap (wrap64 (x20 + x21))) / 2))).f1) ((aj x0 (wrap64 ((IntKind.u64.wrap (wrap64 (x20 + x21))) / 2))).f2) ((aj x0 (wrap64 ((IntKind.u64.wrap (wrap64 (x20 + x21))) / 2))).f3) ((aj x0 (wrap64 ((IntKind.u64.wrap (wrap64 (x20 + x21))) / 2))).f4)).bind fun t135 => (if t135 < 0 then (av.l4 k x0 x1 x2 x3 x4 x18 x19 x20 (wrap64 ((IntKind.u64.wrap (wrap64 (x20 + x21))) / 2)) x22) else (av.l4 k x0 x1 x2 x3 x4 x18 x19 (wrap64 ((wrap64 ((IntKind.u64.wrap (wrap64 (x20 + x21))) / 2)) + 1)) x21 x22))) else (none)) else (none)) else (none)) else (none)) else (if x20 < x2 then (av.j6 k x0 x1 x2 x3 x4 x18 x20 (wrap64 (x19 - x20)) (decide (x2 < (wrap64 (x19 - x20))))) else (av.j6 k x0 x1 x2 x3 x4 x18 x20 (wrap64 (x19 - x20)) false))
def av.j6 : Nat → List (S44) → Int → Int → Int → Int → Int → Int → Int → Bool → Option ((List (S44)))
 | 0, _, _, _, _, _, _, _, _, _ => none
 | k + 1, x0, x1, x2, x3, x4, x18, x20, x24, x185 => if x185 = true then ((fq.f k x0 x20 x2 x24 x4).bind fun t136 => (av.j7 k t136 x1 x3 x4 x18 x20 x24)) else (av.j7 k x0 x1 x3 x4 x18 x20 x24)
def av.j7 : Nat → List (S44) → Int → Int → Int → Int → Int → Int → Option ((List (S44)))
 | 0, _, _, _, _, _, _, _ => none
 | k + 1, x0, x1, x3, x4, x18, x20, x24 => if x1 < x20 then (av.j8 k x0 x1 x3 x4 x18 x20 x24 (decide (x20 < x18))) else (av.j8 k x0 x1 x3 x4 x18 x20 x24 false)
def av.j8 : Nat → List (S44) → Int → Int → Int → Int → Int → Int → Bool → Option ((List (S44)))
 | 0, _, _, _, _, _, _, _, _ => none
 | k + 1, x0, x1, x3, x4, x18, x20, x24, x199 => if x199 = true then ((av.f k x0 x1 x20 x18 x4).bind fun t137 => (if x18 < x24 then (if x24 < x3 then ((av.f k t137 x18 x24 x3 x4).bind fun t138 => (some t138)) else (some t137)) else (some t137))) else (if x18 < x24 then (if x24 < x3 then ((av.f k x0 x18 x24 x3 x4).bind fun t139 => (some t139)) else (some x0)) else (some x0))
def av.f : Nat → List (S44) → Int → Int → Int → Int → Option ((List (S44)))
 | 0, _, _, _, _, _ => none
 | k + 1, l0, a1, a2, a3, a4 => if (wrap64 (a2 - a1)) = 1 then (av.l0 k l0 a1 a2 a3) else (if (wrap64 (a3 - a2)) = 1 then (av.l2 k l0 a2 a1 a2) else (if a2 > (wrap64 ((IntKind.u64.wrap (wrap64 (a1 + a3))) / 2)) then (av.j4 k l0 a1 a2 a3 a4 (wrap64 ((IntKind.u64.wrap (wrap64 (a1 + a3))) / 2)) (wrap64 ((wrap64 ((IntKind.u64.wrap (wrap64 (a1 + a3))) / 2)) + a2)) (wrap64 ((wrap64 ((wrap64 ((IntKind.u64.wrap (wrap64 (a1 + a3))) / 2)) + a2)) - a3)) (wrap64 ((IntKind.u64.wrap (wrap64 (a1 + a3))) / 2))) else (av.j4 k l0 a1 a2 a3 a4 (wrap64 ((IntKind.u64.wrap (wrap64 (a1 + a3))) / 2)) (wrap64 ((wrap64 ((IntKind.u64.wrap (wrap64 (a1 + a3))) / 2)) + a2)) a1 a2)))
end
def av.T5 : Bool × List (List Nat × List Nat) := (true, [([], []), ([], []), ([], []), ([1, 2], [1, 2]), ([3], [3]), ([], []), ([], []), ([5, 6], [5, 6]), ([7], [7]), ([0, 4, 8], [0, 4, 8]), ([9], [9])])
def av.B5 : List Nat := [0, 0, 0, 6, 14, 0, 0, 96, 224, 511, 1023]
theorem av.rY : dP .any (opsOf Tryz.f139 5) = av.T5 := by kernel_rfl
theorem av.oW : dS av.T5.2 av.B5 = true := by kernel_rfl
def av.T11 : Bool × List (List Nat × List Nat) := (true, [([], []), ([], []), ([], []), ([], []), ([3], [3]), ([], []), ([], []), ([6], [6]), ([5, 7], [5, 7]), ([8], [8]), ([], []), ([], []), ([10, 11], [10, 11]), ([12], [12]), ([0, 1, 0, 1, 5, 6, 7, 8, 9, 13], [0, 1]), ([14, 9, 0, 1, 5, 6, 7, 8, 9, 13], [9, 14]), ([2, 4, 0, 1, 2, 3, 4, 5, 6, 7, 8, 9, 10, 11, 12, 13, 14, 15], [2, 4]), ([16, 13, 15, 0, 1, 2, 3, 4, 5, 6, 7, 8, 9, 10, 11, 12, 13, 14, 15], [13, 16])])
def av.B11 : List Nat := [0, 0, 0, 0, 8, 0, 0, 64, 224, 480, 0, 0, 3072, 7168, 16355, 32739, 65535, 131071]
theorem av.Bv : dP .any (opsOf Tryz.f139 11) = av.T11 := by kernel_rfl
theorem av.zf : dS av.T11.2 av.B11 = true := by kernel_rfl
def av.T17 : Bool × List (List Nat × List Nat) := (true, [([], []), ([], []), ([], []), ([1, 2], [1, 2]), ([3], [3]), ([], []), ([], []), ([5, 6], [5, 6]), ([7], [7]), ([0, 4, 8], [0, 4, 8]), ([9], [9]), ([10], [10])])
def av.B17 : List Nat := [0, 0, 0, 6, 14, 0, 0, 96, 224, 511, 1023, 2047]
theorem av.IW : dP .any (opsOf Tryz.f139 17) = av.T17 := by kernel_rfl
theorem av.Ib : dS av.T17.2 av.B17 = true := by kernel_rfl
def av.T23 : Bool × List (List Nat × List Nat) := (true, [([], []), ([], []), ([], []), ([], []), ([3], [3]), ([], []), ([], []), ([6], [6]), ([5, 7], [5, 7]), ([8], [8]), ([], []), ([], []), ([10, 11], [10, 11]), ([12], [12]), ([0, 1, 0, 1, 5, 6, 7, 8, 9, 13], [0, 1]), ([14, 9, 0, 1, 5, 6, 7, 8, 9, 13], [9, 14]), ([2, 4, 0, 1, 2, 3, 4, 5, 6, 7, 8, 9, 10, 11, 12, 13, 14, 15], [2, 4]), ([16, 13, 15, 0, 1, 2, 3, 4, 5, 6, 7, 8, 9, 10, 11, 12, 13, 14, 15], [13, 16])])
def av.B23 : List Nat := [0, 0, 0, 0, 8, 0, 0, 64, 224, 480, 0, 0, 3072, 7168, 16355, 32739, 65535, 131071]
theorem av.Jg : dP .any (opsOf Tryz.f139 23) = av.T23 := by kernel_rfl
theorem av.IG : dS av.T23.2 av.B23 = true := by kernel_rfl
def av.T35 : Bool × List (List Nat × List Nat) := (true, [([], []), ([], []), ([], []), ([], []), ([2, 3], [2, 3]), ([1, 4], [1, 4]), ([5], [5]), ([], []), ([], []), ([7, 8], [7, 8]), ([9], [9]), ([0, 6, 10], [0, 6, 10]), ([11], [11]), ([12], [12])])
def av.B35 : List Nat := [0, 0, 0, 0, 12, 30, 62, 0, 0, 384, 896, 2047, 4095, 8191]
theorem av.IX : dP .any (opsOf Tryz.f139 35) = av.T35 := by kernel_rfl
theorem av.Ig : dS av.T35.2 av.B35 = true := by kernel_rfl
theorem av.calls (k : Nat) : ∀ (P0_ : Nat → Prop) (u9000_ : Value) (l0 : List (S44)) (a1 : Int) (a2 : Int) (a3 : Int) (a4 : Int) (r : List (S44)) (w0 w : World) (hB : Below w0.heap.size w0 w) (ho0 : Kd.R k44 44 w w0.heap.size P0_ u9000_ l0) (h : av.f k l0 a1 a2 a3 a4 = some r),
    Calls Tryz.prog 139 #[u9000_, .int .i64 a1, .int .i64 a2, .int .i64 a3, .func (.func 78) #[] #[]] w fun e w' => e = .returned (.tuple #[]) ∧ Kd.R k44 44 w' w0.heap.size (fun k_ => (P0_ k_ ∨ w.heap.size ≤ k_)) u9000_ r ∧ Below w0.heap.size w0 w' ∧ Kept w w' (fun k_ => P0_ k_) := by
  induction k using Nat.strongRecOn with
  | _ k ih =>
  intro P0_ u9000_ l0 a1 a2 a3 a4 r w0 w hB ho0 h
  cases k with
  | zero => exact absurd h (by simp [av.f])
  | succ k =>
  simp only [av.f] at h
  have hu44 := Tryz.underlying44
  have HO0 := ah.mk (show Kd.R k44 44 w w0.heap.size (fun k_ => (P0_ k_ ∨ w.heap.size ≤ k_)) u9000_ l0 from Kd.bN ho0 (fun k_ hk => (.inl hk)))
  have HK := ah.mk (Kept.refl w (fun k_ => P0_ k_))
  have HW0 := ah.mk hB.size
  have HB := ah.mk hB
  clear hB
  have H : (if (wrap64 (a2 - a1)) = 1 then (av.l0 k l0 a1 a2 a3) else (if (wrap64 (a3 - a2)) = 1 then (av.l2 k l0 a2 a1 a2) else (if a2 > (wrap64 ((IntKind.u64.wrap (wrap64 (a1 + a3))) / 2)) then (av.j4 k l0 a1 a2 a3 a4 (wrap64 ((IntKind.u64.wrap (wrap64 (a1 + a3))) / 2)) (wrap64 ((wrap64 ((IntKind.u64.wrap (wrap64 (a1 + a3))) / 2)) + a2)) (wrap64 ((wrap64 ((wrap64 ((IntKind.u64.wrap (wrap64 (a1 + a3))) / 2)) + a2)) - a3)) (wrap64 ((IntKind.u64.wrap (wrap64 (a1 + a3))) / 2))) else (av.j4 k l0 a1 a2 a3 a4 (wrap64 ((IntKind.u64.wrap (wrap64 (a1 + a3))) / 2)) (wrap64 ((wrap64 ((IntKind.u64.wrap (wrap64 (a1 + a3))) / 2)) + a2)) a1 a2)))) = some r := h
  clear h
  by_cases c6 : (wrap64 (a2 - a1)) = 1
  ·rw [if_pos c6] at H
   have c6b0 : ((wrap64 (a2 - a1)) == 1) = true := beq_iff_eq.mpr c6
   have c6b1 : ((wrap64 (a2 - a1)) != 1) = false := bne_eq_false_iff_eq.mpr c6
   clear c6
   have H' := ah.mk H
   clear H
   go_enter Tryz.func139, Tryz.ntmps139
   go_wp2
   go_loopg [10, 11] k (fun kq v10 v11 w' => ∃ (x10_1 : Int) (x11_1 : Int), v10 = .int .i64 x10_1 ∧ v11 = .int .i64 x11_1 ∧ ah (av.l0 kq l0 a1 x10_1 x11_1 = some r) ∧ ah (kq ≤ k) ∧ ah (Kd.R k44 44 w' w0.heap.size (fun k_ => (P0_ k_ ∨ w.heap.size ≤ k_)) u9000_ l0) ∧ ah (Kept w w' (fun k_ => P0_ k_)) ∧ ah (Below w0.heap.size w0 w'))
   case atStart => exact ⟨(a2), (a3), (by rfl), (by rfl), H', ⟨Nat.le_refl _⟩, ⟨by (with_reducible repeat ((apply Kd.aG))); exact HO0.out⟩, ⟨HK.out⟩, ⟨HB.out⟩⟩
   case round =>
    clear H'
    (try clear c6b0)
    (try clear c6b1)
    obtain ⟨x10_1, x11_1, rfl, rfl, HA, HK1, HO_0, HK, HB⟩ := hrel
    cases gk with
    | zero => exact absurd HA.out (by simp [av.l0])
    | succ k1 =>
     have H := HA.out
     clear HA
     simp only [av.l0] at H
     by_cases c7 : x10_1 < x11_1
     ·rw [if_pos c7] at H
      have c7b0 : decide (x10_1 < x11_1) = true := decide_eq_true c7
      clear c7
      obtain ⟨ji8, hji8⟩ : ∃ j_ : Int, (wrap64 ((IntKind.u64.wrap (wrap64 (x10_1 + x11_1))) / 2)) = j_ := ⟨_, rfl⟩
      rw [hji8] at H
      have hji8w : (IntKind.i64.wrap ((IntKind.u64.wrap (wrap64 (x10_1 + x11_1))) / 2)) = ji8 := (bE _).trans hji8
      obtain ⟨c9b0, H⟩ := dL H
      obtain ⟨c10b0, H⟩ := dL H
      obtain ⟨c11b0, H⟩ := dL H
      obtain ⟨c12b0, H⟩ := dL H
      obtain ⟨t121, A13, H⟩ := bR H
      by_cases c14 : t121 < 0
      focus
       rw [if_pos c14] at H
       have c14b0 : decide (t121 < 0) = true := decide_eq_true c14
      rotate_left
      focus
       rw [if_neg c14] at H
       have c14b0 : decide (t121 < 0) = false := decide_eq_false c14
      rotate_left
      all_goals
       clear c14
       have H' := ah.mk H
       clear H
       (try go_wp2)
       replace HO_0 := ah.mk (Kd.iq HO_0.out)
       replace HK := ah.mk (Kept.drew HK.out)
       replace HB := ah.mk (dO HB.out)
       obtain ⟨Ao16, co16, eo16⟩ := Kd.bY HO_0.out
       ((subst eo16))
       have p119 : 0 ≤ ((ji8) : Int) := of_decide_eq_true (by (with_reducible assumption))
       have q119 : (ji8) < (l0.length : Int) := of_decide_eq_true (by (with_reducible assumption))
       obtain ⟨ad119, e119, hx119_0, hx119_1, hx119_2, hx119_3, hx119_4⟩ := dU (Kd.aK HO_0.out).2.2 (ji8) p119 q119
       cases e119
       replace p119 := eq_true p119
       replace q119 := eq_true q119
       have p120 : 0 ≤ (a1 : Int) := of_decide_eq_true (by (with_reducible assumption))
       have q120 : a1 < (l0.length : Int) := of_decide_eq_true (by (with_reducible assumption))
       obtain ⟨ad120, e120, hx120_0, hx120_1, hx120_2, hx120_3, hx120_4⟩ := dU (Kd.aK HO_0.out).2.2 a1 p120 q120
       obtain rfl : ad119 = ad120 := (by injection e120)
       replace p120 := eq_true p120
       replace q120 := eq_true q120
       refine fM (n := 11) (S := fun w' => w'.cell? (ad119.add (((ji8)).toNat * 5)) = some (.string ((aj l0 (ji8)).f0)) ∧ w'.cell? ⟨(ad119.add (((ji8)).toNat * 5)).block, (ad119.add (((ji8)).toNat * 5)).off + 1, none⟩ = some (.int .i64 ((aj l0 (ji8)).f1)) ∧ w'.cell? ⟨(ad119.add (((ji8)).toNat * 5)).block, (ad119.add (((ji8)).toNat * 5)).off + 2, none⟩ = some (.int .i64 ((aj l0 (ji8)).f2)) ∧ w'.cell? ⟨(ad119.add (((ji8)).toNat * 5)).block, (ad119.add (((ji8)).toNat * 5)).off + 3, none⟩ = some (.int .i64 ((aj l0 (ji8)).f3)) ∧ w'.cell? ⟨(ad119.add (((ji8)).toNat * 5)).block, (ad119.add (((ji8)).toNat * 5)).off + 4, none⟩ = some (.string ((aj l0 (ji8)).f4)) ∧ w'.cell? (ad119.add ((a1).toNat * 5)) = some (.string ((aj l0 a1).f0)) ∧ w'.cell? ⟨(ad119.add ((a1).toNat * 5)).block, (ad119.add ((a1).toNat * 5)).off + 1, none⟩ = some (.int .i64 ((aj l0 a1).f1)) ∧ w'.cell? ⟨(ad119.add ((a1).toNat * 5)).block, (ad119.add ((a1).toNat * 5)).off + 2, none⟩ = some (.int .i64 ((aj l0 a1).f2)) ∧ w'.cell? ⟨(ad119.add ((a1).toNat * 5)).block, (ad119.add ((a1).toNat * 5)).off + 3, none⟩ = some (.int .i64 ((aj l0 a1).f3)) ∧ w'.cell? ⟨(ad119.add ((a1).toNat * 5)).block, (ad119.add ((a1).toNat * 5)).off + 4, none⟩ = some (.string ((aj l0 a1).f4))) (ds := []) (ls 11 0) (by kernel_rfl) rfl rfl ⟨hx119_0, hx119_1, hx119_2, hx119_3, hx119_4, hx120_0, hx120_1, hx120_2, hx120_3, hx120_4⟩ (fun hHeld => ?_); refine dW av.rY av.oW (fun HT_ HW_ => ?_)
       generalize wr.drew = w15 at HO_0 HK HB hx119_0 hx119_1 hx119_2 hx119_3 hx119_4 hx120_0 hx120_1 hx120_2 hx120_3 hx120_4 hHeld ⊢
       refine td_ [(0, 40), (1, 41), (2, 42), (3, 43), (5, 45), (6, 46), (7, 47)] ?_
       iterate 7 (refine pn_ (v := ?_) (a' := ?_) HT_ rfl rfl (by kernel_rfl) rfl (fun _ _ _ h => h) (fun w' => ?_) ?_ ?_; rotate_left 2; (focus go_simp; with_reducible rfl); (focus simp only [Act.put, sA_, sZ_, sS_, bE, bJ]; rfl))
       refine dn_ ?_
       refine td_ [(4, 44), (8, 48)] ?_
       iterate 2 (refine tn_ (v := ?_) (a' := ?_) HT_ HW_ rfl rfl (by kernel_rfl) rfl (fun _ _ _ h => h) hHeld ?_ ?_ ?_; rotate_left 2; (focus rintro w' ⟨s0, s1, s2, s3, s4, s5, s6, s7, s8, s9⟩; go_simp; with_reducible rfl); (focus simp only [Act.put, sA_, sZ_, sS_, bE, bJ]; rfl))
       refine dn_ ?_
       refine kE (i := 9) (N := some 49) (ls 11 1023) rfl rfl (gD HT_.out (by kernel_rfl)) (by decide) (fun K hK => ?_)
       refine uH Tryz.func78 (by kernel_rfl) rfl #[.agg #[.string ((aj l0 (ji8)).f0), .int .i64 ((aj l0 (ji8)).f1), .int .i64 ((aj l0 (ji8)).f2), .int .i64 ((aj l0 (ji8)).f3), .string ((aj l0 (ji8)).f4)], .agg #[.string ((aj l0 a1).f0), .int .i64 ((aj l0 a1).f1), .int .i64 ((aj l0 a1).f2), .int .i64 ((aj l0 a1).f3), .string ((aj l0 a1).f4)]] (by rfl) rfl rfl rfl (by (try simp only [mA_, mC_, mN_]); rfl) ?_
       with_reducible refine (cB.calls k1 ((aj l0 (ji8)).f0) ((aj l0 (ji8)).f1) ((aj l0 (ji8)).f2) ((aj l0 (ji8)).f3) ((aj l0 (ji8)).f4) ((aj l0 a1).f0) ((aj l0 a1).f1) ((aj l0 a1).f2) ((aj l0 a1).f3) ((aj l0 a1).f4) t121 _ A13.out).mono ?_
       rintro e w17 ⟨rfl, hb⟩
       have HS0_ := kp_ hb hHeld.1
       have HS1_ := kp_ hb hHeld.2.1
       have HS2_ := kp_ hb hHeld.2.2.1
       have HS3_ := kp_ hb hHeld.2.2.2.1
       have HS4_ := kp_ hb hHeld.2.2.2.2.1
       have HS5_ := kp_ hb hHeld.2.2.2.2.2.1
       have HS6_ := kp_ hb hHeld.2.2.2.2.2.2.1
       have HS7_ := kp_ hb hHeld.2.2.2.2.2.2.2.1
       have HS8_ := kp_ hb hHeld.2.2.2.2.2.2.2.2.1
       have HS9_ := kp_ hb hHeld.2.2.2.2.2.2.2.2.2
       refine ⟨_, rfl, ?_⟩
       replace HO_0 := ah.mk (Kd.aY (by ((exact HO_0.out))) hb)
       replace HK := ah.mk (Kept.below (S := (fun k_ => P0_ k_)) HK.out hb)
       replace HB := ah.mk (au HB.out hb)
       (try clear hb)
       refine hK.out _ _ ⟨HS0_, HS1_, HS2_, HS3_, HS4_, HS5_, HS6_, HS7_, HS8_, HS9_⟩ (fun hHeld => ?_)
       clear hK K
       refine jD (a' := ?_) ?_ ?_
       rotate_left
       ·show Act.put _ (some 49) _ = _
        simp only [Act.put, sA_, sZ_, sS_, bE, bJ]
        rfl
       refine td_ [(10, 50)] ?_
       iterate 1 (refine pn_ (v := ?_) (a' := ?_) HT_ rfl rfl (by kernel_rfl) rfl (fun _ _ _ h => h) (fun w' => ?_) ?_ ?_; rotate_left 2; (focus go_simp; with_reducible rfl); (focus simp only [Act.put, sA_, sZ_, sS_, bE, bJ]; rfl))
       refine dn_ ?_
       refine jy (iK HT_.out (by kernel_rfl)) ?_
       (try go_wp2)
       go_roundg k1
       case measure => have := HK1.out; omega
      ·case rel => exact ⟨(wrap64 ((ji8) + 1)), (x11_1), (by rfl), (by rfl), H', ⟨by have := HK1.out; omega⟩, ⟨by (with_reducible repeat ((apply Kd.aG))); exact HO_0.out⟩, ⟨HK.out⟩, ⟨HB.out⟩⟩
      ·case rel => exact ⟨(x10_1), (ji8), (by rfl), (by rfl), H', ⟨by have := HK1.out; omega⟩, ⟨by (with_reducible repeat ((apply Kd.aG))); exact HO_0.out⟩, ⟨HK.out⟩, ⟨HB.out⟩⟩
     ·rw [if_neg c7] at H
      have c7b0 : decide (x10_1 < x11_1) = false := decide_eq_false c7
      clear c7
      have H' := ah.mk H
      clear H
      go_wp2
      go_loopg [13] k1 (fun kq v13 w' => ∃ (x0_2 : List (S44)) (x13_2 : Int), v13 = .int .i64 x13_2 ∧ ah (av.l1 kq x0_2 x10_1 x13_2 = some r) ∧ ah (kq ≤ k1) ∧ ah (Kd.R k44 44 w' w0.heap.size (fun k_ => (P0_ k_ ∨ w.heap.size ≤ k_)) u9000_ x0_2) ∧ ah (Kept w w' (fun k_ => P0_ k_)) ∧ ah (Below w0.heap.size w0 w'))
      case atStart => exact ⟨(l0), (a1), (by rfl), H', ⟨Nat.le_refl _⟩, ⟨by (with_reducible repeat ((apply Kd.aG))); exact HO_0.out⟩, ⟨HK.out⟩, ⟨HB.out⟩⟩
      case round =>
       clear H'
       (try clear c7b0)
       obtain ⟨x0_2, x13_2, rfl, HA, HK2, HO_0, HK, HB⟩ := hrel
       cases gk with
       | zero => exact absurd HA.out (by simp [av.l1])
       | succ k2 =>
        have H := HA.out
        clear HA
        simp only [av.l1] at H
        by_cases c21 : x13_2 < (wrap64 (x10_1 - 1))
        ·rw [if_pos c21] at H
         have c21b0 : decide (x13_2 < (wrap64 (x10_1 - 1))) = true := decide_eq_true c21
         clear c21
         obtain ⟨ji22, hji22⟩ : ∃ j_ : Int, (wrap64 (x13_2 + 1)) = j_ := ⟨_, rfl⟩
         rw [hji22] at H
         have hji22w : (IntKind.i64.wrap (x13_2 + 1)) = ji22 := (bE _).trans hji22
         obtain ⟨c23b0, H⟩ := dL H
         obtain ⟨c24b0, H⟩ := dL H
         obtain ⟨c25b0, H⟩ := dL H
         obtain ⟨c26b0, H⟩ := dL H
         obtain ⟨y124, hy124⟩ : ∃ y_ : List (S44), y_ = (x0_2.set (x13_2 : Int).toNat (⟨(aj x0_2 (ji22)).f0, (aj x0_2 (ji22)).f1, (aj x0_2 (ji22)).f2, (aj x0_2 (ji22)).f3, (aj x0_2 (ji22)).f4⟩ : S44)) := ⟨_, rfl⟩
         replace H : (av.l1 k2 (y124.set ((ji22) : Int).toNat (⟨(aj x0_2 x13_2).f0, (aj x0_2 x13_2).f1, (aj x0_2 x13_2).f2, (aj x0_2 x13_2).f3, (aj x0_2 x13_2).f4⟩ : S44)) x10_1 ji22) = some r := by (rw [hy124]; with_reducible exact H)
         have Ny124 := ah.mk hy124
         clear hy124
         obtain ⟨y125, hy125⟩ : ∃ y_ : List (S44), y_ = (y124.set ((ji22) : Int).toNat (⟨(aj x0_2 x13_2).f0, (aj x0_2 x13_2).f1, (aj x0_2 x13_2).f2, (aj x0_2 x13_2).f3, (aj x0_2 x13_2).f4⟩ : S44)) := ⟨_, rfl⟩
         replace H : (av.l1 k2 y125 x10_1 ji22) = some r := by (rw [hy125]; with_reducible exact H)
         have Ny125 := ah.mk hy125
         clear hy125
         have H' := ah.mk H
         clear H
         (try go_wp2)
         replace HO_0 := ah.mk (Kd.iq HO_0.out)
         replace HK := ah.mk (Kept.drew HK.out)
         replace HB := ah.mk (dO HB.out)
         obtain ⟨Ao30, co30, eo30⟩ := Kd.bY HO_0.out
         ((subst eo30))
         have p122 : 0 ≤ ((ji22) : Int) := of_decide_eq_true (by (with_reducible assumption))
         have q122 : (ji22) < (x0_2.length : Int) := of_decide_eq_true (by (with_reducible assumption))
         obtain ⟨ad122, e122, hx122_0, hx122_1, hx122_2, hx122_3, hx122_4⟩ := dU (Kd.aK HO_0.out).2.2 (ji22) p122 q122
         cases e122
         replace p122 := eq_true p122
         replace q122 := eq_true q122
         have p123 : 0 ≤ (x13_2 : Int) := of_decide_eq_true (by (with_reducible assumption))
         have q123 : x13_2 < (x0_2.length : Int) := of_decide_eq_true (by (with_reducible assumption))
         obtain ⟨ad123, e123, hx123_0, hx123_1, hx123_2, hx123_3, hx123_4⟩ := dU (Kd.aK HO_0.out).2.2 x13_2 p123 q123
         obtain rfl : ad122 = ad123 := (by injection e123)
         replace p123 := eq_true p123
         replace q123 := eq_true q123
         have p27 : 0 ≤ (x13_2 : Int) := of_decide_eq_true (by (with_reducible assumption))
         have q27 : (x13_2 : Int) < ((x0_2.length : Int) : Int) := of_decide_eq_true (by (with_reducible assumption))
         obtain ⟨go27, co27, eo27, gb27, gl27, cl27, HG27⟩ := Kd.pK HO_0.out (by omega)
         ((cases eo27))
         have GB27 := ah.mk gb27
         have GG27 := ah.mk HG27
         clear gb27 gl27 HG27
         have HMgo27 := ah.mk (show (P0_ go27 ∨ w.heap.size ≤ go27) from (HO_0.out.1 _ rfl))
         ((simp only [add_plain] at hx122_0))
         ((simp only [add_plain] at hx122_1))
         ((simp only [add_plain] at hx122_2))
         ((simp only [add_plain] at hx122_3))
         ((simp only [add_plain] at hx122_4))
         ((simp only [add_plain] at hx123_0))
         ((simp only [add_plain] at hx123_1))
         ((simp only [add_plain] at hx123_2))
         ((simp only [add_plain] at hx123_3))
         ((simp only [add_plain] at hx123_4))
         obtain ⟨ce27, hcl27, hM27, hcc27, hfr27⟩ := Kd.iR HO_0.out z44 (x13_2 : Int) p27 q27
         obtain rfl := fE hM27
         have hx27_0 : World.cell? _ ⟨go27, (x13_2 : Int).toNat * 5, none⟩ = some (.string ((aj x0_2 x13_2).f0)) := hcc27 0 _ rfl
         have hx27_1 : World.cell? _ ⟨go27, (x13_2 : Int).toNat * 5 + 1, none⟩ = some (.int .i64 ((aj x0_2 x13_2).f1)) := hcc27 1 _ rfl
         have hx27_2 : World.cell? _ ⟨go27, (x13_2 : Int).toNat * 5 + 2, none⟩ = some (.int .i64 ((aj x0_2 x13_2).f2)) := hcc27 2 _ rfl
         have hx27_3 : World.cell? _ ⟨go27, (x13_2 : Int).toNat * 5 + 3, none⟩ = some (.int .i64 ((aj x0_2 x13_2).f3)) := hcc27 3 _ rfl
         have hx27_4 : World.cell? _ ⟨go27, (x13_2 : Int).toNat * 5 + 4, none⟩ = some (.string ((aj x0_2 x13_2).f4)) := hcc27 4 _ rfl
         have hf27_0 : World.frozen? _ ⟨go27, (x13_2 : Int).toNat * 5, none⟩ = false := hfr27 0
         have hf27_1 : World.frozen? _ ⟨go27, (x13_2 : Int).toNat * 5 + 1, none⟩ = false := hfr27 1
         have hf27_2 : World.frozen? _ ⟨go27, (x13_2 : Int).toNat * 5 + 2, none⟩ = false := hfr27 2
         have hf27_3 : World.frozen? _ ⟨go27, (x13_2 : Int).toNat * 5 + 3, none⟩ = false := hfr27 3
         have hf27_4 : World.frozen? _ ⟨go27, (x13_2 : Int).toNat * 5 + 4, none⟩ = false := hfr27 4
         clear hcl27 hcc27 hfr27 hM27
         replace p27 := eq_true p27
         replace q27 := eq_true q27
         obtain ⟨ce31, hcl31, hM31, hcc31, hfr31⟩ := Kd.iR HO_0.out z44 (x13_2 : Int) (of_decide_eq_true (by (with_reducible assumption))) (by have h_ : (x13_2 : Int) < ((x0_2.length : Int) : Int) := of_decide_eq_true (by (with_reducible assumption)); (exact h_))
         obtain rfl := fE hM31
         have HP31 := (Kd.nA HO_0.out (x13_2 : Int) (of_decide_eq_true (by (with_reducible assumption))) (by have h_ : (x13_2 : Int) < ((x0_2.length : Int) : Int) := of_decide_eq_true (by (with_reducible assumption)); (exact h_)) (seg := [.string ((aj x0_2 (ji22)).f0), .int .i64 ((aj x0_2 (ji22)).f1), .int .i64 ((aj x0_2 (ji22)).f2), .int .i64 ((aj x0_2 (ji22)).f3), .string ((aj x0_2 (ji22)).f4)]) (j := 0) hcl31 hcc31 (show 5 ≤ 5 from by decide) (x' := (⟨(aj x0_2 (ji22)).f0, (aj x0_2 (ji22)).f1, (aj x0_2 (ji22)).f2, (aj x0_2 (ji22)).f3, (aj x0_2 (ji22)).f4⟩ : S44)) (gQ _ _ _ (⟨(aj x0_2 (ji22)).f0, (aj x0_2 (ji22)).f1, (aj x0_2 (ji22)).f2, (aj x0_2 (ji22)).f3, (aj x0_2 (ji22)).f4⟩ : S44) ) (fun _ hk => hk)).1
         rw [← Ny124.out] at HP31
         have HQ31 := ah.mk HP31
         clear hcl31 hcc31 hfr31 hM31 HP31
         have p28 : 0 ≤ ((ji22) : Int) := of_decide_eq_true (by (with_reducible assumption))
         have q28 : ((ji22) : Int) < ((x0_2.length : Int) : Int) := of_decide_eq_true (by (with_reducible assumption))
         obtain ⟨ce28, hcl28, hM28, hcc28, hfr28⟩ := Kd.iR HQ31.out z44 ((ji22) : Int) p28 q28
         obtain rfl := fE hM28
         have hx28_0 : World.cell? _ ⟨go27, ((ji22) : Int).toNat * 5, none⟩ = some (.string ((aj y124 (ji22)).f0)) := hcc28 0 _ rfl
         have hx28_1 : World.cell? _ ⟨go27, ((ji22) : Int).toNat * 5 + 1, none⟩ = some (.int .i64 ((aj y124 (ji22)).f1)) := hcc28 1 _ rfl
         have hx28_2 : World.cell? _ ⟨go27, ((ji22) : Int).toNat * 5 + 2, none⟩ = some (.int .i64 ((aj y124 (ji22)).f2)) := hcc28 2 _ rfl
         have hx28_3 : World.cell? _ ⟨go27, ((ji22) : Int).toNat * 5 + 3, none⟩ = some (.int .i64 ((aj y124 (ji22)).f3)) := hcc28 3 _ rfl
         have hx28_4 : World.cell? _ ⟨go27, ((ji22) : Int).toNat * 5 + 4, none⟩ = some (.string ((aj y124 (ji22)).f4)) := hcc28 4 _ rfl
         have hf28_0 : World.frozen? _ ⟨go27, ((ji22) : Int).toNat * 5, none⟩ = false := hfr28 0
         have hf28_1 : World.frozen? _ ⟨go27, ((ji22) : Int).toNat * 5 + 1, none⟩ = false := hfr28 1
         have hf28_2 : World.frozen? _ ⟨go27, ((ji22) : Int).toNat * 5 + 2, none⟩ = false := hfr28 2
         have hf28_3 : World.frozen? _ ⟨go27, ((ji22) : Int).toNat * 5 + 3, none⟩ = false := hfr28 3
         have hf28_4 : World.frozen? _ ⟨go27, ((ji22) : Int).toNat * 5 + 4, none⟩ = false := hfr28 4
         clear hcl28 hcc28 hfr28 hM28
         replace p28 := eq_true p28
         replace q28 := eq_true q28
         obtain ⟨ce32, hcl32, hM32, hcc32, hfr32⟩ := Kd.iR HQ31.out z44 ((ji22) : Int) (of_decide_eq_true (by (with_reducible assumption))) (by have h_ : ((ji22) : Int) < ((x0_2.length : Int) : Int) := of_decide_eq_true (by (with_reducible assumption)); (exact h_))
         obtain rfl := fE hM32
         have HP32 := (Kd.nA HQ31.out ((ji22) : Int) (of_decide_eq_true (by (with_reducible assumption))) (by have h_ : ((ji22) : Int) < ((x0_2.length : Int) : Int) := of_decide_eq_true (by (with_reducible assumption)); (exact h_)) (seg := [.string ((aj x0_2 x13_2).f0), .int .i64 ((aj x0_2 x13_2).f1), .int .i64 ((aj x0_2 x13_2).f2), .int .i64 ((aj x0_2 x13_2).f3), .string ((aj x0_2 x13_2).f4)]) (j := 0) hcl32 hcc32 (show 5 ≤ 5 from by decide) (x' := (⟨(aj x0_2 x13_2).f0, (aj x0_2 x13_2).f1, (aj x0_2 x13_2).f2, (aj x0_2 x13_2).f3, (aj x0_2 x13_2).f4⟩ : S44)) (gQ _ _ _ (⟨(aj x0_2 x13_2).f0, (aj x0_2 x13_2).f1, (aj x0_2 x13_2).f2, (aj x0_2 x13_2).f3, (aj x0_2 x13_2).f4⟩ : S44) ) (fun _ hk => hk)).1
         rw [← Ny125.out] at HP32
         have HQ32 := ah.mk HP32
         clear hcl32 hcc32 hfr32 hM32 HP32
         refine fM (n := 18) (S := fun w' => w'.cell? ⟨go27, (((ji22)).toNat * 5), none⟩ = some (.string ((aj x0_2 (ji22)).f0)) ∧ w'.cell? ⟨go27, (((ji22)).toNat * 5) + 1, none⟩ = some (.int .i64 ((aj x0_2 (ji22)).f1)) ∧ w'.cell? ⟨go27, (((ji22)).toNat * 5) + 2, none⟩ = some (.int .i64 ((aj x0_2 (ji22)).f2)) ∧ w'.cell? ⟨go27, (((ji22)).toNat * 5) + 3, none⟩ = some (.int .i64 ((aj x0_2 (ji22)).f3)) ∧ w'.cell? ⟨go27, (((ji22)).toNat * 5) + 4, none⟩ = some (.string ((aj x0_2 (ji22)).f4)) ∧ w'.cell? ⟨go27, ((x13_2).toNat * 5), none⟩ = some (.string ((aj x0_2 x13_2).f0)) ∧ w'.cell? ⟨go27, ((x13_2).toNat * 5) + 1, none⟩ = some (.int .i64 ((aj x0_2 x13_2).f1)) ∧ w'.cell? ⟨go27, ((x13_2).toNat * 5) + 2, none⟩ = some (.int .i64 ((aj x0_2 x13_2).f2)) ∧ w'.cell? ⟨go27, ((x13_2).toNat * 5) + 3, none⟩ = some (.int .i64 ((aj x0_2 x13_2).f3)) ∧ w'.cell? ⟨go27, ((x13_2).toNat * 5) + 4, none⟩ = some (.string ((aj x0_2 x13_2).f4))) (ds := [15, 17]) (ls 18 0) (by kernel_rfl) rfl rfl ⟨hx122_0, hx122_1, hx122_2, hx122_3, hx122_4, hx123_0, hx123_1, hx123_2, hx123_3, hx123_4⟩ (fun hHeld => ?_); refine dW av.Bv av.zf (fun HT_ HW_ => ?_)
         generalize wr.drew = w29 at HO_0 HK HB GG27 HQ31 HQ32 hf27_0 hf27_1 hf27_2 hf27_3 hf27_4 hf28_0 hf28_1 hf28_2 hf28_3 hf28_4 hx122_0 hx122_1 hx122_2 hx122_3 hx122_4 hx123_0 hx123_1 hx123_2 hx123_3 hx123_4 hx27_0 hx27_1 hx27_2 hx27_3 hx27_4 hx28_0 hx28_1 hx28_2 hx28_3 hx28_4 hHeld ⊢
         (try simp [go_sem, World.setCells, (show k44.sz = 5 from rfl)] at hf28_0 hf28_1 hf28_2 hf28_3 hf28_4 hx28_0 hx28_1 hx28_2 hx28_3 hx28_4)
         refine td_ [(0, 61), (1, 62), (2, 63), (3, 64), (4, 65), (5, 66), (6, 67), (7, 68), (8, 69), (10, 71), (11, 72), (12, 73)] ?_
         iterate 12 (refine pn_ (v := ?_) (a' := ?_) HT_ rfl rfl (by kernel_rfl) rfl (fun _ _ _ h => h) (fun w' => ?_) ?_ ?_; rotate_left 2; (focus go_simp; with_reducible rfl); (focus simp only [Act.put, sA_, sZ_, sS_, bE, bJ]; rfl))
         refine dn_ ?_
         refine td_ [(9, 70), (13, 74)] ?_
         iterate 2 (refine tn_ (v := ?_) (a' := ?_) HT_ HW_ rfl rfl (by kernel_rfl) rfl (fun _ _ _ h => h) hHeld ?_ ?_ ?_; rotate_left 2; (focus rintro w' ⟨s0, s1, s2, s3, s4, s5, s6, s7, s8, s9⟩; go_simp; with_reducible rfl); (focus simp only [Act.put, sA_, sZ_, sS_, bE, bJ]; rfl))
         refine dn_ ?_
         refine td_ [(14, 75)] ?_
         iterate 1 (refine pn_ (v := ?_) (a' := ?_) HT_ rfl rfl (by kernel_rfl) rfl (fun _ _ _ h => h) (fun w' => ?_) ?_ ?_; rotate_left 2; (focus go_simp; with_reducible rfl); (focus simp only [Act.put, sA_, sZ_, sS_, bE, bJ]; rfl))
         refine dn_ ?_
         refine lF (i := 15) (N := none) (ls 18 65535) rfl rfl (gD HT_.out (by kernel_rfl)) (by decide) (fun K hK => ?_)
         refine kN (w1 := ?_) (by rfl) rfl ?_ ?_
         rotate_left
         ·go_simp
          rfl
         refine hK.out _ _ ?_
         clear hK K
         refine td_ [(16, 76)] ?_
         iterate 1 (refine pn_ (v := ?_) (a' := ?_) HT_ rfl rfl (by kernel_rfl) rfl (fun _ _ _ h => h) (fun w' => ?_) ?_ ?_; rotate_left 2; (focus go_simp; with_reducible rfl); (focus simp only [Act.put, sA_, sZ_, sS_, bE, bJ]; rfl))
         refine dn_ ?_
         refine lF (i := 17) (N := none) (ls 18 262143) rfl rfl (gD HT_.out (by kernel_rfl)) (by decide) (fun K hK => ?_)
         refine kN (w1 := ?_) (by rfl) rfl ?_ ?_
         rotate_left
         ·go_simp
          rfl
         refine hK.out _ _ ?_
         clear hK K
         refine jy (iK HT_.out (by kernel_rfl)) ?_
         (try go_wp2)
         go_roundg k2
         case measure => have := HK1.out; have := HK2.out; omega
         case rel => exact ⟨(y125), (ji22), (by rfl), H', ⟨by have := HK1.out; have := HK2.out; omega⟩, ⟨by (with_reducible repeat ((apply Kd.aG))); exact HQ32.out⟩, ⟨by repeat ((with_reducible first | exact HK.out | refine Kept.setCell ?_ HMgo27.out _))⟩, ⟨by repeat ((with_reducible first | exact HB.out | refine bS ?_ GB27.out))⟩⟩
        ·rw [if_neg c21] at H
         have c21b0 : decide (x13_2 < (wrap64 (x10_1 - 1))) = false := decide_eq_false c21
         clear c21
         obtain rfl := Option.some.inj H
         go_wp2
         (refine bodyPost_ret (results_none rfl _ _ _) rfl ?_)
         exact ⟨by rfl, by (with_reducible repeat ((apply Kd.aG))); exact HO_0.out, HB.out, HK.out⟩
  ·rw [if_neg c6] at H
   have c6b0 : ((wrap64 (a2 - a1)) == 1) = false := beq_eq_false_iff_ne.mpr c6
   have c6b1 : ((wrap64 (a2 - a1)) != 1) = true := bne_iff_ne.mpr c6
   by_cases c33 : (wrap64 (a3 - a2)) = 1
   ·rw [if_pos c33] at H
    have c33b0 : ((wrap64 (a3 - a2)) == 1) = true := beq_iff_eq.mpr c33
    have c33b1 : ((wrap64 (a3 - a2)) != 1) = false := bne_eq_false_iff_eq.mpr c33
    clear c33
    have H' := ah.mk H
    clear H
    go_enter Tryz.func139, Tryz.ntmps139
    go_wp2
    go_loopg [14, 15] k (fun kq v14 v15 w' => ∃ (x14_1 : Int) (x15_1 : Int), v14 = .int .i64 x14_1 ∧ v15 = .int .i64 x15_1 ∧ ah (av.l2 kq l0 a2 x14_1 x15_1 = some r) ∧ ah (kq ≤ k) ∧ ah (Kd.R k44 44 w' w0.heap.size (fun k_ => (P0_ k_ ∨ w.heap.size ≤ k_)) u9000_ l0) ∧ ah (Kept w w' (fun k_ => P0_ k_)) ∧ ah (Below w0.heap.size w0 w'))
    case atStart => exact ⟨(a1), (a2), (by rfl), (by rfl), H', ⟨Nat.le_refl _⟩, ⟨by (with_reducible repeat ((apply Kd.aG))); exact HO0.out⟩, ⟨HK.out⟩, ⟨HB.out⟩⟩
    case round =>
     clear H'
     (try clear c6)
     (try clear c6b0)
     (try clear c6b1)
     (try clear c33b0)
     (try clear c33b1)
     obtain ⟨x14_1, x15_1, rfl, rfl, HA, HK1, HO_0, HK, HB⟩ := hrel
     cases gk with
     | zero => exact absurd HA.out (by simp [av.l2])
     | succ k1 =>
      have H := HA.out
      clear HA
      simp only [av.l2] at H
      by_cases c34 : x14_1 < x15_1
      ·rw [if_pos c34] at H
       have c34b0 : decide (x14_1 < x15_1) = true := decide_eq_true c34
       clear c34
       obtain ⟨c35b0, H⟩ := dL H
       obtain ⟨c36b0, H⟩ := dL H
       obtain ⟨ji37, hji37⟩ : ∃ j_ : Int, (wrap64 ((IntKind.u64.wrap (wrap64 (x14_1 + x15_1))) / 2)) = j_ := ⟨_, rfl⟩
       rw [hji37] at H
       have hji37w : (IntKind.i64.wrap ((IntKind.u64.wrap (wrap64 (x14_1 + x15_1))) / 2)) = ji37 := (bE _).trans hji37
       obtain ⟨c38b0, H⟩ := dL H
       obtain ⟨c39b0, H⟩ := dL H
       obtain ⟨t128, A40, H⟩ := bR H
       by_cases c41 : t128 < 0
       focus
        rw [if_pos c41] at H
        have c41b0 : decide (t128 < 0) = true := decide_eq_true c41
       rotate_left
       focus
        rw [if_neg c41] at H
        have c41b0 : decide (t128 < 0) = false := decide_eq_false c41
       rotate_left
       all_goals
        clear c41
        have H' := ah.mk H
        clear H
        (try go_wp2)
        replace HO_0 := ah.mk (Kd.iq HO_0.out)
        replace HK := ah.mk (Kept.drew HK.out)
        replace HB := ah.mk (dO HB.out)
        obtain ⟨Ao43, co43, eo43⟩ := Kd.bY HO_0.out
        ((subst eo43))
        have p126 : 0 ≤ (a2 : Int) := of_decide_eq_true (by (with_reducible assumption))
        have q126 : a2 < (l0.length : Int) := of_decide_eq_true (by (with_reducible assumption))
        obtain ⟨ad126, e126, hx126_0, hx126_1, hx126_2, hx126_3, hx126_4⟩ := dU (Kd.aK HO_0.out).2.2 a2 p126 q126
        cases e126
        replace p126 := eq_true p126
        replace q126 := eq_true q126
        have p127 : 0 ≤ ((ji37) : Int) := of_decide_eq_true (by (with_reducible assumption))
        have q127 : (ji37) < (l0.length : Int) := of_decide_eq_true (by (with_reducible assumption))
        obtain ⟨ad127, e127, hx127_0, hx127_1, hx127_2, hx127_3, hx127_4⟩ := dU (Kd.aK HO_0.out).2.2 (ji37) p127 q127
        obtain rfl : ad126 = ad127 := (by injection e127)
        replace p127 := eq_true p127
        replace q127 := eq_true q127
        refine fM (n := 12) (S := fun w' => w'.cell? (ad126.add ((a2).toNat * 5)) = some (.string ((aj l0 a2).f0)) ∧ w'.cell? ⟨(ad126.add ((a2).toNat * 5)).block, (ad126.add ((a2).toNat * 5)).off + 1, none⟩ = some (.int .i64 ((aj l0 a2).f1)) ∧ w'.cell? ⟨(ad126.add ((a2).toNat * 5)).block, (ad126.add ((a2).toNat * 5)).off + 2, none⟩ = some (.int .i64 ((aj l0 a2).f2)) ∧ w'.cell? ⟨(ad126.add ((a2).toNat * 5)).block, (ad126.add ((a2).toNat * 5)).off + 3, none⟩ = some (.int .i64 ((aj l0 a2).f3)) ∧ w'.cell? ⟨(ad126.add ((a2).toNat * 5)).block, (ad126.add ((a2).toNat * 5)).off + 4, none⟩ = some (.string ((aj l0 a2).f4)) ∧ w'.cell? (ad126.add (((ji37)).toNat * 5)) = some (.string ((aj l0 (ji37)).f0)) ∧ w'.cell? ⟨(ad126.add (((ji37)).toNat * 5)).block, (ad126.add (((ji37)).toNat * 5)).off + 1, none⟩ = some (.int .i64 ((aj l0 (ji37)).f1)) ∧ w'.cell? ⟨(ad126.add (((ji37)).toNat * 5)).block, (ad126.add (((ji37)).toNat * 5)).off + 2, none⟩ = some (.int .i64 ((aj l0 (ji37)).f2)) ∧ w'.cell? ⟨(ad126.add (((ji37)).toNat * 5)).block, (ad126.add (((ji37)).toNat * 5)).off + 3, none⟩ = some (.int .i64 ((aj l0 (ji37)).f3)) ∧ w'.cell? ⟨(ad126.add (((ji37)).toNat * 5)).block, (ad126.add (((ji37)).toNat * 5)).off + 4, none⟩ = some (.string ((aj l0 (ji37)).f4))) (ds := []) (ls 12 0) (by kernel_rfl) rfl rfl ⟨hx126_0, hx126_1, hx126_2, hx126_3, hx126_4, hx127_0, hx127_1, hx127_2, hx127_3, hx127_4⟩ (fun hHeld => ?_); refine dW av.IW av.Ib (fun HT_ HW_ => ?_)
        generalize wr.drew = w42 at HO_0 HK HB hx126_0 hx126_1 hx126_2 hx126_3 hx126_4 hx127_0 hx127_1 hx127_2 hx127_3 hx127_4 hHeld ⊢
        refine td_ [(0, 92), (1, 93), (2, 94), (3, 95), (5, 97), (6, 98), (7, 99)] ?_
        iterate 7 (refine pn_ (v := ?_) (a' := ?_) HT_ rfl rfl (by kernel_rfl) rfl (fun _ _ _ h => h) (fun w' => ?_) ?_ ?_; rotate_left 2; (focus go_simp; with_reducible rfl); (focus simp only [Act.put, sA_, sZ_, sS_, bE, bJ]; rfl))
        refine dn_ ?_
        refine td_ [(4, 96), (8, 100)] ?_
        iterate 2 (refine tn_ (v := ?_) (a' := ?_) HT_ HW_ rfl rfl (by kernel_rfl) rfl (fun _ _ _ h => h) hHeld ?_ ?_ ?_; rotate_left 2; (focus rintro w' ⟨s0, s1, s2, s3, s4, s5, s6, s7, s8, s9⟩; go_simp; with_reducible rfl); (focus simp only [Act.put, sA_, sZ_, sS_, bE, bJ]; rfl))
        refine dn_ ?_
        refine kE (i := 9) (N := some 101) (ls 12 1023) rfl rfl (gD HT_.out (by kernel_rfl)) (by decide) (fun K hK => ?_)
        refine uH Tryz.func78 (by kernel_rfl) rfl #[.agg #[.string ((aj l0 a2).f0), .int .i64 ((aj l0 a2).f1), .int .i64 ((aj l0 a2).f2), .int .i64 ((aj l0 a2).f3), .string ((aj l0 a2).f4)], .agg #[.string ((aj l0 (ji37)).f0), .int .i64 ((aj l0 (ji37)).f1), .int .i64 ((aj l0 (ji37)).f2), .int .i64 ((aj l0 (ji37)).f3), .string ((aj l0 (ji37)).f4)]] (by rfl) rfl rfl rfl (by (try simp only [mA_, mC_, mN_]); rfl) ?_
        with_reducible refine (cB.calls k1 ((aj l0 a2).f0) ((aj l0 a2).f1) ((aj l0 a2).f2) ((aj l0 a2).f3) ((aj l0 a2).f4) ((aj l0 (ji37)).f0) ((aj l0 (ji37)).f1) ((aj l0 (ji37)).f2) ((aj l0 (ji37)).f3) ((aj l0 (ji37)).f4) t128 _ A40.out).mono ?_
        rintro e w44 ⟨rfl, hb⟩
        have HS0_ := kp_ hb hHeld.1
        have HS1_ := kp_ hb hHeld.2.1
        have HS2_ := kp_ hb hHeld.2.2.1
        have HS3_ := kp_ hb hHeld.2.2.2.1
        have HS4_ := kp_ hb hHeld.2.2.2.2.1
        have HS5_ := kp_ hb hHeld.2.2.2.2.2.1
        have HS6_ := kp_ hb hHeld.2.2.2.2.2.2.1
        have HS7_ := kp_ hb hHeld.2.2.2.2.2.2.2.1
        have HS8_ := kp_ hb hHeld.2.2.2.2.2.2.2.2.1
        have HS9_ := kp_ hb hHeld.2.2.2.2.2.2.2.2.2
        refine ⟨_, rfl, ?_⟩
        replace HO_0 := ah.mk (Kd.aY (by ((exact HO_0.out))) hb)
        replace HK := ah.mk (Kept.below (S := (fun k_ => P0_ k_)) HK.out hb)
        replace HB := ah.mk (au HB.out hb)
        (try clear hb)
        refine hK.out _ _ ⟨HS0_, HS1_, HS2_, HS3_, HS4_, HS5_, HS6_, HS7_, HS8_, HS9_⟩ (fun hHeld => ?_)
        clear hK K
        refine jD (a' := ?_) ?_ ?_
        rotate_left
        ·show Act.put _ (some 101) _ = _
         simp only [Act.put, sA_, sZ_, sS_, bE, bJ]
         rfl
        refine td_ [(10, 102), (11, 103)] ?_
        iterate 2 (refine pn_ (v := ?_) (a' := ?_) HT_ rfl rfl (by kernel_rfl) rfl (fun _ _ _ h => h) (fun w' => ?_) ?_ ?_; rotate_left 2; (focus go_simp; with_reducible rfl); (focus simp only [Act.put, sA_, sZ_, sS_, bE, bJ]; rfl))
        refine dn_ ?_
        refine jy (iK HT_.out (by kernel_rfl)) ?_
        (try go_wp2)
        go_roundg k1
        case measure => have := HK1.out; omega
       ·case rel => exact ⟨(x14_1), (ji37), (by rfl), (by rfl), H', ⟨by have := HK1.out; omega⟩, ⟨by (with_reducible repeat ((apply Kd.aG))); exact HO_0.out⟩, ⟨HK.out⟩, ⟨HB.out⟩⟩
       ·case rel => exact ⟨(wrap64 ((ji37) + 1)), (x15_1), (by rfl), (by rfl), H', ⟨by have := HK1.out; omega⟩, ⟨by (with_reducible repeat ((apply Kd.aG))); exact HO_0.out⟩, ⟨HK.out⟩, ⟨HB.out⟩⟩
      ·rw [if_neg c34] at H
       have c34b0 : decide (x14_1 < x15_1) = false := decide_eq_false c34
       clear c34
       have H' := ah.mk H
       clear H
       go_wp2
       go_loopg [17] k1 (fun kq v17 w' => ∃ (x0_2 : List (S44)) (x17_2 : Int), v17 = .int .i64 x17_2 ∧ ah (av.l3 kq x0_2 x14_1 x17_2 = some r) ∧ ah (kq ≤ k1) ∧ ah (Kd.R k44 44 w' w0.heap.size (fun k_ => (P0_ k_ ∨ w.heap.size ≤ k_)) u9000_ x0_2) ∧ ah (Kept w w' (fun k_ => P0_ k_)) ∧ ah (Below w0.heap.size w0 w'))
       case atStart => exact ⟨(l0), (a2), (by rfl), H', ⟨Nat.le_refl _⟩, ⟨by (with_reducible repeat ((apply Kd.aG))); exact HO_0.out⟩, ⟨HK.out⟩, ⟨HB.out⟩⟩
       case round =>
        clear H'
        (try clear c34b0)
        obtain ⟨x0_2, x17_2, rfl, HA, HK2, HO_0, HK, HB⟩ := hrel
        cases gk with
        | zero => exact absurd HA.out (by simp [av.l3])
        | succ k2 =>
         have H := HA.out
         clear HA
         simp only [av.l3] at H
         by_cases c48 : x17_2 > x14_1
         ·rw [if_pos c48] at H
          have c48b0 : decide (x14_1 < x17_2) = true := decide_eq_true c48
          clear c48
          obtain ⟨ji49, hji49⟩ : ∃ j_ : Int, (wrap64 (x17_2 - 1)) = j_ := ⟨_, rfl⟩
          rw [hji49] at H
          have hji49w : (IntKind.i64.wrap (x17_2 - 1)) = ji49 := (bE _).trans hji49
          obtain ⟨c50b0, H⟩ := dL H
          obtain ⟨c51b0, H⟩ := dL H
          obtain ⟨c52b0, H⟩ := dL H
          obtain ⟨c53b0, H⟩ := dL H
          obtain ⟨y131, hy131⟩ : ∃ y_ : List (S44), y_ = (x0_2.set (x17_2 : Int).toNat (⟨(aj x0_2 (ji49)).f0, (aj x0_2 (ji49)).f1, (aj x0_2 (ji49)).f2, (aj x0_2 (ji49)).f3, (aj x0_2 (ji49)).f4⟩ : S44)) := ⟨_, rfl⟩
          replace H : (av.l3 k2 (y131.set ((ji49) : Int).toNat (⟨(aj x0_2 x17_2).f0, (aj x0_2 x17_2).f1, (aj x0_2 x17_2).f2, (aj x0_2 x17_2).f3, (aj x0_2 x17_2).f4⟩ : S44)) x14_1 ji49) = some r := by (rw [hy131]; with_reducible exact H)
          have Ny131 := ah.mk hy131
          clear hy131
          obtain ⟨y132, hy132⟩ : ∃ y_ : List (S44), y_ = (y131.set ((ji49) : Int).toNat (⟨(aj x0_2 x17_2).f0, (aj x0_2 x17_2).f1, (aj x0_2 x17_2).f2, (aj x0_2 x17_2).f3, (aj x0_2 x17_2).f4⟩ : S44)) := ⟨_, rfl⟩
          replace H : (av.l3 k2 y132 x14_1 ji49) = some r := by (rw [hy132]; with_reducible exact H)
          have Ny132 := ah.mk hy132
          clear hy132
          have H' := ah.mk H
          clear H
          (try go_wp2)
          replace HO_0 := ah.mk (Kd.iq HO_0.out)
          replace HK := ah.mk (Kept.drew HK.out)
          replace HB := ah.mk (dO HB.out)
          obtain ⟨Ao57, co57, eo57⟩ := Kd.bY HO_0.out
          ((subst eo57))
          have p129 : 0 ≤ ((ji49) : Int) := of_decide_eq_true (by (with_reducible assumption))
          have q129 : (ji49) < (x0_2.length : Int) := of_decide_eq_true (by (with_reducible assumption))
          obtain ⟨ad129, e129, hx129_0, hx129_1, hx129_2, hx129_3, hx129_4⟩ := dU (Kd.aK HO_0.out).2.2 (ji49) p129 q129
          cases e129
          replace p129 := eq_true p129
          replace q129 := eq_true q129
          have p130 : 0 ≤ (x17_2 : Int) := of_decide_eq_true (by (with_reducible assumption))
          have q130 : x17_2 < (x0_2.length : Int) := of_decide_eq_true (by (with_reducible assumption))
          obtain ⟨ad130, e130, hx130_0, hx130_1, hx130_2, hx130_3, hx130_4⟩ := dU (Kd.aK HO_0.out).2.2 x17_2 p130 q130
          obtain rfl : ad129 = ad130 := (by injection e130)
          replace p130 := eq_true p130
          replace q130 := eq_true q130
          have p54 : 0 ≤ (x17_2 : Int) := of_decide_eq_true (by (with_reducible assumption))
          have q54 : (x17_2 : Int) < ((x0_2.length : Int) : Int) := of_decide_eq_true (by (with_reducible assumption))
          obtain ⟨go54, co54, eo54, gb54, gl54, cl54, HG54⟩ := Kd.pK HO_0.out (by omega)
          ((cases eo54))
          have GB54 := ah.mk gb54
          have GG54 := ah.mk HG54
          clear gb54 gl54 HG54
          have HMgo54 := ah.mk (show (P0_ go54 ∨ w.heap.size ≤ go54) from (HO_0.out.1 _ rfl))
          ((simp only [add_plain] at hx129_0))
          ((simp only [add_plain] at hx129_1))
          ((simp only [add_plain] at hx129_2))
          ((simp only [add_plain] at hx129_3))
          ((simp only [add_plain] at hx129_4))
          ((simp only [add_plain] at hx130_0))
          ((simp only [add_plain] at hx130_1))
          ((simp only [add_plain] at hx130_2))
          ((simp only [add_plain] at hx130_3))
          ((simp only [add_plain] at hx130_4))
          obtain ⟨ce54, hcl54, hM54, hcc54, hfr54⟩ := Kd.iR HO_0.out z44 (x17_2 : Int) p54 q54
          obtain rfl := fE hM54
          have hx54_0 : World.cell? _ ⟨go54, (x17_2 : Int).toNat * 5, none⟩ = some (.string ((aj x0_2 x17_2).f0)) := hcc54 0 _ rfl
          have hx54_1 : World.cell? _ ⟨go54, (x17_2 : Int).toNat * 5 + 1, none⟩ = some (.int .i64 ((aj x0_2 x17_2).f1)) := hcc54 1 _ rfl
          have hx54_2 : World.cell? _ ⟨go54, (x17_2 : Int).toNat * 5 + 2, none⟩ = some (.int .i64 ((aj x0_2 x17_2).f2)) := hcc54 2 _ rfl
          have hx54_3 : World.cell? _ ⟨go54, (x17_2 : Int).toNat * 5 + 3, none⟩ = some (.int .i64 ((aj x0_2 x17_2).f3)) := hcc54 3 _ rfl
          have hx54_4 : World.cell? _ ⟨go54, (x17_2 : Int).toNat * 5 + 4, none⟩ = some (.string ((aj x0_2 x17_2).f4)) := hcc54 4 _ rfl
          have hf54_0 : World.frozen? _ ⟨go54, (x17_2 : Int).toNat * 5, none⟩ = false := hfr54 0
          have hf54_1 : World.frozen? _ ⟨go54, (x17_2 : Int).toNat * 5 + 1, none⟩ = false := hfr54 1
          have hf54_2 : World.frozen? _ ⟨go54, (x17_2 : Int).toNat * 5 + 2, none⟩ = false := hfr54 2
          have hf54_3 : World.frozen? _ ⟨go54, (x17_2 : Int).toNat * 5 + 3, none⟩ = false := hfr54 3
          have hf54_4 : World.frozen? _ ⟨go54, (x17_2 : Int).toNat * 5 + 4, none⟩ = false := hfr54 4
          clear hcl54 hcc54 hfr54 hM54
          replace p54 := eq_true p54
          replace q54 := eq_true q54
          obtain ⟨ce58, hcl58, hM58, hcc58, hfr58⟩ := Kd.iR HO_0.out z44 (x17_2 : Int) (of_decide_eq_true (by (with_reducible assumption))) (by have h_ : (x17_2 : Int) < ((x0_2.length : Int) : Int) := of_decide_eq_true (by (with_reducible assumption)); (exact h_))
          obtain rfl := fE hM58
          have HP58 := (Kd.nA HO_0.out (x17_2 : Int) (of_decide_eq_true (by (with_reducible assumption))) (by have h_ : (x17_2 : Int) < ((x0_2.length : Int) : Int) := of_decide_eq_true (by (with_reducible assumption)); (exact h_)) (seg := [.string ((aj x0_2 (ji49)).f0), .int .i64 ((aj x0_2 (ji49)).f1), .int .i64 ((aj x0_2 (ji49)).f2), .int .i64 ((aj x0_2 (ji49)).f3), .string ((aj x0_2 (ji49)).f4)]) (j := 0) hcl58 hcc58 (show 5 ≤ 5 from by decide) (x' := (⟨(aj x0_2 (ji49)).f0, (aj x0_2 (ji49)).f1, (aj x0_2 (ji49)).f2, (aj x0_2 (ji49)).f3, (aj x0_2 (ji49)).f4⟩ : S44)) (gQ _ _ _ (⟨(aj x0_2 (ji49)).f0, (aj x0_2 (ji49)).f1, (aj x0_2 (ji49)).f2, (aj x0_2 (ji49)).f3, (aj x0_2 (ji49)).f4⟩ : S44) ) (fun _ hk => hk)).1
          rw [← Ny131.out] at HP58
          have HQ58 := ah.mk HP58
          clear hcl58 hcc58 hfr58 hM58 HP58
          have p55 : 0 ≤ ((ji49) : Int) := of_decide_eq_true (by (with_reducible assumption))
          have q55 : ((ji49) : Int) < ((x0_2.length : Int) : Int) := of_decide_eq_true (by (with_reducible assumption))
          obtain ⟨ce55, hcl55, hM55, hcc55, hfr55⟩ := Kd.iR HQ58.out z44 ((ji49) : Int) p55 q55
          obtain rfl := fE hM55
          have hx55_0 : World.cell? _ ⟨go54, ((ji49) : Int).toNat * 5, none⟩ = some (.string ((aj y131 (ji49)).f0)) := hcc55 0 _ rfl
          have hx55_1 : World.cell? _ ⟨go54, ((ji49) : Int).toNat * 5 + 1, none⟩ = some (.int .i64 ((aj y131 (ji49)).f1)) := hcc55 1 _ rfl
          have hx55_2 : World.cell? _ ⟨go54, ((ji49) : Int).toNat * 5 + 2, none⟩ = some (.int .i64 ((aj y131 (ji49)).f2)) := hcc55 2 _ rfl
          have hx55_3 : World.cell? _ ⟨go54, ((ji49) : Int).toNat * 5 + 3, none⟩ = some (.int .i64 ((aj y131 (ji49)).f3)) := hcc55 3 _ rfl
          have hx55_4 : World.cell? _ ⟨go54, ((ji49) : Int).toNat * 5 + 4, none⟩ = some (.string ((aj y131 (ji49)).f4)) := hcc55 4 _ rfl
          have hf55_0 : World.frozen? _ ⟨go54, ((ji49) : Int).toNat * 5, none⟩ = false := hfr55 0
          have hf55_1 : World.frozen? _ ⟨go54, ((ji49) : Int).toNat * 5 + 1, none⟩ = false := hfr55 1
          have hf55_2 : World.frozen? _ ⟨go54, ((ji49) : Int).toNat * 5 + 2, none⟩ = false := hfr55 2
          have hf55_3 : World.frozen? _ ⟨go54, ((ji49) : Int).toNat * 5 + 3, none⟩ = false := hfr55 3
          have hf55_4 : World.frozen? _ ⟨go54, ((ji49) : Int).toNat * 5 + 4, none⟩ = false := hfr55 4
          clear hcl55 hcc55 hfr55 hM55
          replace p55 := eq_true p55
          replace q55 := eq_true q55
          obtain ⟨ce59, hcl59, hM59, hcc59, hfr59⟩ := Kd.iR HQ58.out z44 ((ji49) : Int) (of_decide_eq_true (by (with_reducible assumption))) (by have h_ : ((ji49) : Int) < ((x0_2.length : Int) : Int) := of_decide_eq_true (by (with_reducible assumption)); (exact h_))
          obtain rfl := fE hM59
          have HP59 := (Kd.nA HQ58.out ((ji49) : Int) (of_decide_eq_true (by (with_reducible assumption))) (by have h_ : ((ji49) : Int) < ((x0_2.length : Int) : Int) := of_decide_eq_true (by (with_reducible assumption)); (exact h_)) (seg := [.string ((aj x0_2 x17_2).f0), .int .i64 ((aj x0_2 x17_2).f1), .int .i64 ((aj x0_2 x17_2).f2), .int .i64 ((aj x0_2 x17_2).f3), .string ((aj x0_2 x17_2).f4)]) (j := 0) hcl59 hcc59 (show 5 ≤ 5 from by decide) (x' := (⟨(aj x0_2 x17_2).f0, (aj x0_2 x17_2).f1, (aj x0_2 x17_2).f2, (aj x0_2 x17_2).f3, (aj x0_2 x17_2).f4⟩ : S44)) (gQ _ _ _ (⟨(aj x0_2 x17_2).f0, (aj x0_2 x17_2).f1, (aj x0_2 x17_2).f2, (aj x0_2 x17_2).f3, (aj x0_2 x17_2).f4⟩ : S44) ) (fun _ hk => hk)).1
          rw [← Ny132.out] at HP59
          have HQ59 := ah.mk HP59
          clear hcl59 hcc59 hfr59 hM59 HP59
          refine fM (n := 18) (S := fun w' => w'.cell? ⟨go54, (((ji49)).toNat * 5), none⟩ = some (.string ((aj x0_2 (ji49)).f0)) ∧ w'.cell? ⟨go54, (((ji49)).toNat * 5) + 1, none⟩ = some (.int .i64 ((aj x0_2 (ji49)).f1)) ∧ w'.cell? ⟨go54, (((ji49)).toNat * 5) + 2, none⟩ = some (.int .i64 ((aj x0_2 (ji49)).f2)) ∧ w'.cell? ⟨go54, (((ji49)).toNat * 5) + 3, none⟩ = some (.int .i64 ((aj x0_2 (ji49)).f3)) ∧ w'.cell? ⟨go54, (((ji49)).toNat * 5) + 4, none⟩ = some (.string ((aj x0_2 (ji49)).f4)) ∧ w'.cell? ⟨go54, ((x17_2).toNat * 5), none⟩ = some (.string ((aj x0_2 x17_2).f0)) ∧ w'.cell? ⟨go54, ((x17_2).toNat * 5) + 1, none⟩ = some (.int .i64 ((aj x0_2 x17_2).f1)) ∧ w'.cell? ⟨go54, ((x17_2).toNat * 5) + 2, none⟩ = some (.int .i64 ((aj x0_2 x17_2).f2)) ∧ w'.cell? ⟨go54, ((x17_2).toNat * 5) + 3, none⟩ = some (.int .i64 ((aj x0_2 x17_2).f3)) ∧ w'.cell? ⟨go54, ((x17_2).toNat * 5) + 4, none⟩ = some (.string ((aj x0_2 x17_2).f4))) (ds := [15, 17]) (ls 18 0) (by kernel_rfl) rfl rfl ⟨hx129_0, hx129_1, hx129_2, hx129_3, hx129_4, hx130_0, hx130_1, hx130_2, hx130_3, hx130_4⟩ (fun hHeld => ?_); refine dW av.Jg av.IG (fun HT_ HW_ => ?_)
          generalize wr.drew = w56 at HO_0 HK HB GG54 HQ58 HQ59 hf54_0 hf54_1 hf54_2 hf54_3 hf54_4 hf55_0 hf55_1 hf55_2 hf55_3 hf55_4 hx129_0 hx129_1 hx129_2 hx129_3 hx129_4 hx130_0 hx130_1 hx130_2 hx130_3 hx130_4 hx54_0 hx54_1 hx54_2 hx54_3 hx54_4 hx55_0 hx55_1 hx55_2 hx55_3 hx55_4 hHeld ⊢
          (try simp [go_sem, World.setCells, (show k44.sz = 5 from rfl)] at hf55_0 hf55_1 hf55_2 hf55_3 hf55_4 hx55_0 hx55_1 hx55_2 hx55_3 hx55_4)
          refine td_ [(0, 113), (1, 114), (2, 115), (3, 116), (4, 117), (5, 118), (6, 119), (7, 120), (8, 121), (10, 123), (11, 124), (12, 125)] ?_
          iterate 12 (refine pn_ (v := ?_) (a' := ?_) HT_ rfl rfl (by kernel_rfl) rfl (fun _ _ _ h => h) (fun w' => ?_) ?_ ?_; rotate_left 2; (focus go_simp; with_reducible rfl); (focus simp only [Act.put, sA_, sZ_, sS_, bE, bJ]; rfl))
          refine dn_ ?_
          refine td_ [(9, 122), (13, 126)] ?_
          iterate 2 (refine tn_ (v := ?_) (a' := ?_) HT_ HW_ rfl rfl (by kernel_rfl) rfl (fun _ _ _ h => h) hHeld ?_ ?_ ?_; rotate_left 2; (focus rintro w' ⟨s0, s1, s2, s3, s4, s5, s6, s7, s8, s9⟩; go_simp; with_reducible rfl); (focus simp only [Act.put, sA_, sZ_, sS_, bE, bJ]; rfl))
          refine dn_ ?_
          refine td_ [(14, 127)] ?_
          iterate 1 (refine pn_ (v := ?_) (a' := ?_) HT_ rfl rfl (by kernel_rfl) rfl (fun _ _ _ h => h) (fun w' => ?_) ?_ ?_; rotate_left 2; (focus go_simp; with_reducible rfl); (focus simp only [Act.put, sA_, sZ_, sS_, bE, bJ]; rfl))
          refine dn_ ?_
          refine lF (i := 15) (N := none) (ls 18 65535) rfl rfl (gD HT_.out (by kernel_rfl)) (by decide) (fun K hK => ?_)
          refine kN (w1 := ?_) (by rfl) rfl ?_ ?_
          rotate_left
          ·go_simp
           rfl
          refine hK.out _ _ ?_
          clear hK K
          refine td_ [(16, 128)] ?_
          iterate 1 (refine pn_ (v := ?_) (a' := ?_) HT_ rfl rfl (by kernel_rfl) rfl (fun _ _ _ h => h) (fun w' => ?_) ?_ ?_; rotate_left 2; (focus go_simp; with_reducible rfl); (focus simp only [Act.put, sA_, sZ_, sS_, bE, bJ]; rfl))
          refine dn_ ?_
          refine lF (i := 17) (N := none) (ls 18 262143) rfl rfl (gD HT_.out (by kernel_rfl)) (by decide) (fun K hK => ?_)
          refine kN (w1 := ?_) (by rfl) rfl ?_ ?_
          rotate_left
          ·go_simp
           rfl
          refine hK.out _ _ ?_
          clear hK K
          refine jy (iK HT_.out (by kernel_rfl)) ?_
          (try go_wp2)
          go_roundg k2
          case measure => have := HK1.out; have := HK2.out; omega
          case rel => exact ⟨(y132), (ji49), (by rfl), H', ⟨by have := HK1.out; have := HK2.out; omega⟩, ⟨by (with_reducible repeat ((apply Kd.aG))); exact HQ59.out⟩, ⟨by repeat ((with_reducible first | exact HK.out | refine Kept.setCell ?_ HMgo54.out _))⟩, ⟨by repeat ((with_reducible first | exact HB.out | refine bS ?_ GB54.out))⟩⟩
         ·rw [if_neg c48] at H
          have c48b0 : decide (x14_1 < x17_2) = false := decide_eq_false c48
          clear c48
          obtain rfl := Option.some.inj H
          go_wp2
          (refine bodyPost_ret (results_none rfl _ _ _) rfl ?_)
          exact ⟨by rfl, by (with_reducible repeat ((apply Kd.aG))); exact HO_0.out, HB.out, HK.out⟩
   ·rw [if_neg c33] at H
    have c33b0 : ((wrap64 (a3 - a2)) == 1) = false := beq_eq_false_iff_ne.mpr c33
    have c33b1 : ((wrap64 (a3 - a2)) != 1) = true := bne_iff_ne.mpr c33
    have HC60 := ah.mk H
    clear H
    go_enter Tryz.func139, Tryz.ntmps139
    go_upto_if 140 with (fail)
    go_cut [20, 21] (fun v20 v21 wc => ∃ (kq : Nat) (x20_59 : Int) (x21_59 : Int), v20 = .int .i64 x20_59 ∧ v21 = .int .i64 x21_59 ∧ ah (av.j4 kq l0 a1 a2 a3 a4 (wrap64 ((IntKind.u64.wrap (wrap64 (a1 + a3))) / 2)) (wrap64 ((wrap64 ((IntKind.u64.wrap (wrap64 (a1 + a3))) / 2)) + a2)) x20_59 x21_59 = some r) ∧ ah (kq ≤ k) ∧ ah (Kd.R k44 44 wc w0.heap.size (fun k_ => (P0_ k_ ∨ w.heap.size ≤ k_)) u9000_ l0) ∧ ah (Kept w wc (fun k_ => P0_ k_)) ∧ ah (Below w0.heap.size w0 wc))
    case first =>
     have H := HC60.out
     clear HC60
     by_cases c61 : a2 > (wrap64 ((IntKind.u64.wrap (wrap64 (a1 + a3))) / 2))
     focus
      rw [if_pos c61] at H
      have c61b0 : decide ((wrap64 ((IntKind.u64.wrap (wrap64 (a1 + a3))) / 2)) < a2) = true := decide_eq_true c61
     rotate_left
     focus
      rw [if_neg c61] at H
      have c61b0 : decide ((wrap64 ((IntKind.u64.wrap (wrap64 (a1 + a3))) / 2)) < a2) = false := decide_eq_false c61
     rotate_left
     all_goals
      clear c61
      ((rw [c61b0]))
      have H' := ah.mk H
      clear H
      go_wp2
      go_meet
     ·case rel => exact ⟨_, (wrap64 ((wrap64 ((wrap64 ((IntKind.u64.wrap (wrap64 (a1 + a3))) / 2)) + a2)) - a3)), (wrap64 ((IntKind.u64.wrap (wrap64 (a1 + a3))) / 2)), (by rfl), (by rfl), H', ⟨by omega⟩, ⟨by (with_reducible repeat ((apply Kd.aG))); exact HO0.out⟩, ⟨HK.out⟩, ⟨HB.out⟩⟩
     ·case rel => exact ⟨_, (a1), (a2), (by rfl), (by rfl), H', ⟨by omega⟩, ⟨by (with_reducible repeat ((apply Kd.aG))); exact HO0.out⟩, ⟨HK.out⟩, ⟨HB.out⟩⟩
    case rest =>
     clear HC60
     (try clear c6)
     (try clear c6b0)
     (try clear c6b1)
     (try clear c33)
     (try clear c33b0)
     (try clear c33b1)
     obtain ⟨kq, x20_59, x21_59, rfl, rfl, HA, HJ59, HO_0, HK, HB⟩ := hcut
     cases kq with
     | zero => exact absurd HA.out (by simp [av.j4])
     | succ kj59 =>
      have H := HA.out
      clear HA
      simp only [av.j4] at H
      have H' := ah.mk H
      clear H
      go_wp2
      go_loopg [20, 21] kj59 (fun kq v20 v21 w' => ∃ (x20_2 : Int) (x21_2 : Int), v20 = .int .i64 x20_2 ∧ v21 = .int .i64 x21_2 ∧ ah (av.l4 kq l0 a1 a2 a3 a4 (wrap64 ((IntKind.u64.wrap (wrap64 (a1 + a3))) / 2)) (wrap64 ((wrap64 ((IntKind.u64.wrap (wrap64 (a1 + a3))) / 2)) + a2)) x20_2 x21_2 (wrap64 ((wrap64 ((wrap64 ((IntKind.u64.wrap (wrap64 (a1 + a3))) / 2)) + a2)) - 1)) = some r) ∧ ah (kq ≤ kj59) ∧ ah (Kd.R k44 44 w' w0.heap.size (fun k_ => (P0_ k_ ∨ w.heap.size ≤ k_)) u9000_ l0) ∧ ah (Kept w w' (fun k_ => P0_ k_)) ∧ ah (Below w0.heap.size w0 w'))
      case atStart => exact ⟨(x20_59), (x21_59), (by rfl), (by rfl), H', ⟨Nat.le_refl _⟩, ⟨by (with_reducible repeat ((apply Kd.aG))); exact HO_0.out⟩, ⟨HK.out⟩, ⟨HB.out⟩⟩
      case round =>
       clear H'
       obtain ⟨x20_2, x21_2, rfl, rfl, HA, HK2, HO_0, HK, HB⟩ := hrel
       cases gk with
       | zero => exact absurd HA.out (by simp [av.l4])
       | succ k2 =>
        have H := HA.out
        clear HA
        simp only [av.l4] at H
        by_cases c62 : x20_2 < x21_2
        ·rw [if_pos c62] at H
         have c62b0 : decide (x20_2 < x21_2) = true := decide_eq_true c62
         clear c62
         obtain ⟨ji63, hji63⟩ : ∃ j_ : Int, (wrap64 ((wrap64 ((wrap64 ((wrap64 ((IntKind.u64.wrap (wrap64 (a1 + a3))) / 2)) + a2)) - 1)) - (wrap64 ((IntKind.u64.wrap (wrap64 (x20_2 + x21_2))) / 2)))) = j_ := ⟨_, rfl⟩
         rw [hji63] at H
         have hji63w : (IntKind.i64.wrap ((wrap64 ((wrap64 ((wrap64 ((IntKind.u64.wrap (wrap64 (a1 + a3))) / 2)) + a2)) - 1)) - (wrap64 ((IntKind.u64.wrap (wrap64 (x20_2 + x21_2))) / 2)))) = ji63 := (bE _).trans hji63
         obtain ⟨c64b0, H⟩ := dL H
         obtain ⟨c65b0, H⟩ := dL H
         obtain ⟨ji66, hji66⟩ : ∃ j_ : Int, (wrap64 ((IntKind.u64.wrap (wrap64 (x20_2 + x21_2))) / 2)) = j_ := ⟨_, rfl⟩
         rw [hji66] at H
         have hji66w : (IntKind.i64.wrap ((IntKind.u64.wrap (wrap64 (x20_2 + x21_2))) / 2)) = ji66 := (bE _).trans hji66
         have hji63xji66 : (wrap64 ((wrap64 ((wrap64 ((wrap64 ((IntKind.u64.wrap (wrap64 (a1 + a3))) / 2)) + a2)) - 1)) - ji66)) = ji63 := by rw [← hji66]; exact hji63
         have hji63yji66 : (IntKind.i64.wrap ((wrap64 ((wrap64 ((wrap64 ((IntKind.u64.wrap (wrap64 (a1 + a3))) / 2)) + a2)) - 1)) - ji66)) = ji63 := (bE _).trans hji63xji66
         obtain ⟨c67b0, H⟩ := dL H
         obtain ⟨c68b0, H⟩ := dL H
         obtain ⟨t135, A69, H⟩ := bR H
         as_aux_lemma =>
         by_cases c70 : t135 < 0
         focus
          rw [if_pos c70] at H
          have c70b0 : decide (t135 < 0) = true := decide_eq_true c70
         rotate_left
         focus
          rw [if_neg c70] at H
          have c70b0 : decide (t135 < 0) = false := decide_eq_false c70
         rotate_left
         all_goals
          clear c70
          have H' := ah.mk H
          clear H
          (try go_wp2)
          replace HO_0 := ah.mk (Kd.iq HO_0.out)
          replace HK := ah.mk (Kept.drew HK.out)
          replace HB := ah.mk (dO HB.out)
          obtain ⟨Ao72, co72, eo72⟩ := Kd.bY HO_0.out
          ((subst eo72))
          have p133 : 0 ≤ ((ji63) : Int) := of_decide_eq_true (by (with_reducible assumption))
          have q133 : (ji63) < (l0.length : Int) := of_decide_eq_true (by (with_reducible assumption))
          obtain ⟨ad133, e133, hx133_0, hx133_1, hx133_2, hx133_3, hx133_4⟩ := dU (Kd.aK HO_0.out).2.2 (ji63) p133 q133
          cases e133
          replace p133 := eq_true p133
          replace q133 := eq_true q133
          have p134 : 0 ≤ ((ji66) : Int) := of_decide_eq_true (by (with_reducible assumption))
          have q134 : (ji66) < (l0.length : Int) := of_decide_eq_true (by (with_reducible assumption))
          obtain ⟨ad134, e134, hx134_0, hx134_1, hx134_2, hx134_3, hx134_4⟩ := dU (Kd.aK HO_0.out).2.2 (ji66) p134 q134
          obtain rfl : ad133 = ad134 := (by injection e134)
          replace p134 := eq_true p134
          replace q134 := eq_true q134
          refine fM (n := 14) (S := fun w' => w'.cell? (ad133.add (((ji63)).toNat * 5)) = some (.string ((aj l0 (ji63)).f0)) ∧ w'.cell? ⟨(ad133.add (((ji63)).toNat * 5)).block, (ad133.add (((ji63)).toNat * 5)).off + 1, none⟩ = some (.int .i64 ((aj l0 (ji63)).f1)) ∧ w'.cell? ⟨(ad133.add (((ji63)).toNat * 5)).block, (ad133.add (((ji63)).toNat * 5)).off + 2, none⟩ = some (.int .i64 ((aj l0 (ji63)).f2)) ∧ w'.cell? ⟨(ad133.add (((ji63)).toNat * 5)).block, (ad133.add (((ji63)).toNat * 5)).off + 3, none⟩ = some (.int .i64 ((aj l0 (ji63)).f3)) ∧ w'.cell? ⟨(ad133.add (((ji63)).toNat * 5)).block, (ad133.add (((ji63)).toNat * 5)).off + 4, none⟩ = some (.string ((aj l0 (ji63)).f4)) ∧ w'.cell? (ad133.add (((ji66)).toNat * 5)) = some (.string ((aj l0 (ji66)).f0)) ∧ w'.cell? ⟨(ad133.add (((ji66)).toNat * 5)).block, (ad133.add (((ji66)).toNat * 5)).off + 1, none⟩ = some (.int .i64 ((aj l0 (ji66)).f1)) ∧ w'.cell? ⟨(ad133.add (((ji66)).toNat * 5)).block, (ad133.add (((ji66)).toNat * 5)).off + 2, none⟩ = some (.int .i64 ((aj l0 (ji66)).f2)) ∧ w'.cell? ⟨(ad133.add (((ji66)).toNat * 5)).block, (ad133.add (((ji66)).toNat * 5)).off + 3, none⟩ = some (.int .i64 ((aj l0 (ji66)).f3)) ∧ w'.cell? ⟨(ad133.add (((ji66)).toNat * 5)).block, (ad133.add (((ji66)).toNat * 5)).off + 4, none⟩ = some (.string ((aj l0 (ji66)).f4))) (ds := []) (ls 14 0) (by kernel_rfl) rfl rfl ⟨hx133_0, hx133_1, hx133_2, hx133_3, hx133_4, hx134_0, hx134_1, hx134_2, hx134_3, hx134_4⟩ (fun hHeld => ?_); refine dW av.IX av.Ig (fun HT_ HW_ => ?_)
          generalize wr.drew = w71 at HO_0 HK HB hx133_0 hx133_1 hx133_2 hx133_3 hx133_4 hx134_0 hx134_1 hx134_2 hx134_3 hx134_4 hHeld ⊢
          refine td_ [(0, 158), (1, 159), (2, 160), (3, 161), (4, 162), (5, 163), (7, 165), (8, 166), (9, 167)] ?_
          iterate 9 (refine pn_ (v := ?_) (a' := ?_) HT_ rfl rfl (by kernel_rfl) rfl (fun _ _ _ h => h) (fun w' => ?_) ?_ ?_; rotate_left 2; (focus go_simp; with_reducible rfl); (focus simp only [Act.put, sA_, sZ_, sS_, bE, bJ]; rfl))
          refine dn_ ?_
          refine td_ [(6, 164), (10, 168)] ?_
          iterate 2 (refine tn_ (v := ?_) (a' := ?_) HT_ HW_ rfl rfl (by kernel_rfl) rfl (fun _ _ _ h => h) hHeld ?_ ?_ ?_; rotate_left 2; (focus rintro w' ⟨s0, s1, s2, s3, s4, s5, s6, s7, s8, s9⟩; go_simp; with_reducible rfl); (focus simp only [Act.put, sA_, sZ_, sS_, bE, bJ]; rfl))
          refine dn_ ?_
          refine kE (i := 11) (N := some 169) (ls 14 4095) rfl rfl (gD HT_.out (by kernel_rfl)) (by decide) (fun K hK => ?_)
          refine uH Tryz.func78 (by kernel_rfl) rfl #[.agg #[.string ((aj l0 (ji63)).f0), .int .i64 ((aj l0 (ji63)).f1), .int .i64 ((aj l0 (ji63)).f2), .int .i64 ((aj l0 (ji63)).f3), .string ((aj l0 (ji63)).f4)], .agg #[.string ((aj l0 (ji66)).f0), .int .i64 ((aj l0 (ji66)).f1), .int .i64 ((aj l0 (ji66)).f2), .int .i64 ((aj l0 (ji66)).f3), .string ((aj l0 (ji66)).f4)]] (by rfl) rfl rfl rfl (by (try simp only [mA_, mC_, mN_]); rfl) ?_
          with_reducible refine (cB.calls k2 ((aj l0 (ji63)).f0) ((aj l0 (ji63)).f1) ((aj l0 (ji63)).f2) ((aj l0 (ji63)).f3) ((aj l0 (ji63)).f4) ((aj l0 (ji66)).f0) ((aj l0 (ji66)).f1) ((aj l0 (ji66)).f2) ((aj l0 (ji66)).f3) ((aj l0 (ji66)).f4) t135 _ A69.out).mono ?_
          rintro e w73 ⟨rfl, hb⟩
          have HS0_ := kp_ hb hHeld.1
          have HS1_ := kp_ hb hHeld.2.1
          have HS2_ := kp_ hb hHeld.2.2.1
          have HS3_ := kp_ hb hHeld.2.2.2.1
          have HS4_ := kp_ hb hHeld.2.2.2.2.1
          have HS5_ := kp_ hb hHeld.2.2.2.2.2.1
          have HS6_ := kp_ hb hHeld.2.2.2.2.2.2.1
          have HS7_ := kp_ hb hHeld.2.2.2.2.2.2.2.1
          have HS8_ := kp_ hb hHeld.2.2.2.2.2.2.2.2.1
          have HS9_ := kp_ hb hHeld.2.2.2.2.2.2.2.2.2
          refine ⟨_, rfl, ?_⟩
          replace HO_0 := ah.mk (Kd.aY (by ((exact HO_0.out))) hb)
          replace HK := ah.mk (Kept.below (S := (fun k_ => P0_ k_)) HK.out hb)
          replace HB := ah.mk (au HB.out hb)
          (try clear hb)
          refine hK.out _ _ ⟨HS0_, HS1_, HS2_, HS3_, HS4_, HS5_, HS6_, HS7_, HS8_, HS9_⟩ (fun hHeld => ?_)
          clear hK K
          refine jD (a' := ?_) ?_ ?_
          rotate_left
          ·show Act.put _ (some 169) _ = _
           simp only [Act.put, sA_, sZ_, sS_, bE, bJ]
           rfl
          refine td_ [(12, 170), (13, 171)] ?_
          iterate 2 (refine pn_ (v := ?_) (a' := ?_) HT_ rfl rfl (by kernel_rfl) rfl (fun _ _ _ h => h) (fun w' => ?_) ?_ ?_; rotate_left 2; (focus go_simp; with_reducible rfl); (focus simp only [Act.put, sA_, sZ_, sS_, bE, bJ]; rfl))
          refine dn_ ?_
          refine jy (iK HT_.out (by kernel_rfl)) ?_
          (try go_wp2)
          go_roundg k2
          case measure => have := HJ59.out; have := HK2.out; omega
         ·case rel => exact ⟨(x20_2), (ji66), (by rfl), (by rfl), H', ⟨by have := HJ59.out; have := HK2.out; omega⟩, ⟨by (with_reducible repeat ((apply Kd.aG))); exact HO_0.out⟩, ⟨HK.out⟩, ⟨HB.out⟩⟩
         ·case rel => exact ⟨(wrap64 ((ji66) + 1)), (x21_2), (by rfl), (by rfl), H', ⟨by have := HJ59.out; have := HK2.out; omega⟩, ⟨by (with_reducible repeat ((apply Kd.aG))); exact HO_0.out⟩, ⟨HK.out⟩, ⟨HB.out⟩⟩
        ·rw [if_neg c62] at H
         have c62b0 : decide (x20_2 < x21_2) = false := decide_eq_false c62
         clear c62
         have HC77 := ah.mk H
         clear H
         go_upto_region 39 with (fail)
         go_cut [185] (fun v185 wc => ∃ (kq : Nat) (x185_76 : Bool), v185 = .bool x185_76 ∧ ah (av.j6 kq l0 a1 a2 a3 a4 (wrap64 ((IntKind.u64.wrap (wrap64 (a1 + a3))) / 2)) x20_2 (wrap64 ((wrap64 ((wrap64 ((IntKind.u64.wrap (wrap64 (a1 + a3))) / 2)) + a2)) - x20_2)) x185_76 = some r) ∧ ah (kq ≤ k2) ∧ ah (Kd.R k44 44 wc w0.heap.size (fun k_ => (P0_ k_ ∨ w.heap.size ≤ k_)) u9000_ l0) ∧ ah (Kept w wc (fun k_ => P0_ k_)) ∧ ah (Below w0.heap.size w0 wc))
         case first =>
          have H := HC77.out
          clear HC77
          by_cases c78 : x20_2 < a2
          focus
           rw [if_pos c78] at H
           have c78b0 : decide (x20_2 < a2) = true := decide_eq_true c78
          rotate_left
          focus
           rw [if_neg c78] at H
           have c78b0 : decide (x20_2 < a2) = false := decide_eq_false c78
          rotate_left
          all_goals
           clear c78
           (skip)
           have H' := ah.mk H
           clear H
           go_wp2
           go_meet
          ·case rel => exact ⟨_, (decide (a2 < (wrap64 ((wrap64 ((wrap64 ((IntKind.u64.wrap (wrap64 (a1 + a3))) / 2)) + a2)) - x20_2)))), (by rfl), H', ⟨by have := HJ59.out; have := HK2.out; omega⟩, ⟨by (with_reducible repeat ((apply Kd.aG))); exact HO_0.out⟩, ⟨HK.out⟩, ⟨HB.out⟩⟩
          ·case rel => exact ⟨_, (false), (by rfl), H', ⟨by have := HJ59.out; have := HK2.out; omega⟩, ⟨by (with_reducible repeat ((apply Kd.aG))); exact HO_0.out⟩, ⟨HK.out⟩, ⟨HB.out⟩⟩
         case rest =>
          as_aux_lemma =>
          clear HC77
          (try clear c62b0)
          obtain ⟨kq, x185_76, rfl, HA, HJ76, HO_0, HK, HB⟩ := hcut
          cases kq with
          | zero => exact absurd HA.out (by simp [av.j6])
          | succ kj76 =>
           have H := HA.out
           clear HA
           simp only [av.j6] at H
           have HC79 := ah.mk H
           clear H
           go_upto_if 185 with (fail)
           go_cut [] (fun wc => ∃ (kq : Nat) (x0_78 : List (S44)), ah (av.j7 kq x0_78 a1 a3 a4 (wrap64 ((IntKind.u64.wrap (wrap64 (a1 + a3))) / 2)) x20_2 (wrap64 ((wrap64 ((wrap64 ((IntKind.u64.wrap (wrap64 (a1 + a3))) / 2)) + a2)) - x20_2)) = some r) ∧ ah (kq ≤ kj76) ∧ ah (Kd.R k44 44 wc w0.heap.size (fun k_ => (P0_ k_ ∨ w.heap.size ≤ k_)) u9000_ x0_78) ∧ ah (Kept w wc (fun k_ => P0_ k_)) ∧ ah (Below w0.heap.size w0 wc))
           case first =>
            have H := HC79.out
            clear HC79
            by_cases c80 : x185_76 = true
            ·subst c80
             rw [if_pos rfl] at H
             obtain ⟨t136, A81, H⟩ := bR H
             have H' := ah.mk H
             clear H
             obtain ⟨Ao82, co82, eo82⟩ := Kd.bY HO_0.out
             subst eo82
             go_wp2_with ((((with_reducible refine bF (f := 157) rfl ?_); refine dM (some 191) rfl rfl Tryz.func157 (by kernel_rfl) rfl #[.slice Ao82 l0.length co82, .int .i64 x20_2, .int .i64 a2, .int .i64 (wrap64 ((wrap64 ((wrap64 ((IntKind.u64.wrap (wrap64 (a1 + a3))) / 2)) + a2)) - x20_2)), .func (.func 78) #[] #[]] rfl (by (try simp only [mA_, mC_, mN_]); rfl) ?_; (with_reducible refine (fq.calls kj76 (fun k_ => some k_ = (.slice Ao82 l0.length co82 : Value).ownBlock) (.slice Ao82 l0.length co82) l0 x20_2 a2 (wrap64 ((wrap64 ((wrap64 ((IntKind.u64.wrap (wrap64 (a1 + a3))) / 2)) + a2)) - x20_2)) a4 t136 w0 _ ?side1 ?side2 A81.out).mono ?_); (case side1 => repeat ((with_reducible (exact HB.out)))); (case side2 => exact Kd.iW rfl HO_0.out); rintro e w83 ⟨rfl, hy0, hb, hkp⟩; refine ⟨_, rfl, ?_⟩; have n0_ := ah.mk (Kd.jB rfl hy0 (fun k_ e_ => HO_0.out.1 k_ e_)); have n1_ := ah.mk (Kept.then_ (S := (fun k_ => P0_ k_)) HK.out hkp (fun k_ hs_ => (fun e_ => (HO_0.out.1 k_ e_.symm)) hs_)); have n2_ := ah.mk (hb); clear HO_0; clear HK; clear HB; have HO_0 := n0_; have HK := n1_; have HB := n2_; clear n0_ n1_ n2_; (try clear hb); (try clear hkp); (try clear hy0))))
             go_meet
             case rel => exact ⟨_, (t136), H', ⟨by have := HJ59.out; have := HK2.out; have := HJ76.out; omega⟩, ⟨by (with_reducible repeat ((apply Kd.aG))); exact HO_0.out⟩, ⟨HK.out⟩, ⟨HB.out⟩⟩
            ·replace c80 := Bool.eq_false_iff.mpr c80
             subst c80
             rw [if_neg ff_] at H
             have H' := ah.mk H
             clear H
             go_wp2
             go_meet
             case rel => exact ⟨_, (l0), H', ⟨by have := HJ59.out; have := HK2.out; have := HJ76.out; omega⟩, ⟨by (with_reducible repeat ((apply Kd.aG))); exact HO_0.out⟩, ⟨HK.out⟩, ⟨HB.out⟩⟩
           case rest =>
            clear HC79
            obtain ⟨kq, x0_78, HA, HJ78, HO_0, HK, HB⟩ := hcut
            cases kq with
            | zero => exact absurd HA.out (by simp [av.j7])
            | succ kj78 =>
             have H := HA.out
             clear HA
             simp only [av.j7] at H
             have HC84 := ah.mk H
             clear H
             go_upto_region 41 with (fail)
             go_cut [199] (fun v199 wc => ∃ (kq : Nat) (x199_83 : Bool), v199 = .bool x199_83 ∧ ah (av.j8 kq x0_78 a1 a3 a4 (wrap64 ((IntKind.u64.wrap (wrap64 (a1 + a3))) / 2)) x20_2 (wrap64 ((wrap64 ((wrap64 ((IntKind.u64.wrap (wrap64 (a1 + a3))) / 2)) + a2)) - x20_2)) x199_83 = some r) ∧ ah (kq ≤ kj78) ∧ ah (Kd.R k44 44 wc w0.heap.size (fun k_ => (P0_ k_ ∨ w.heap.size ≤ k_)) u9000_ x0_78) ∧ ah (Kept w wc (fun k_ => P0_ k_)) ∧ ah (Below w0.heap.size w0 wc))
             case first =>
              have H := HC84.out
              clear HC84
              by_cases c85 : a1 < x20_2
              focus
               rw [if_pos c85] at H
               have c85b0 : decide (a1 < x20_2) = true := decide_eq_true c85
              rotate_left
              focus
               rw [if_neg c85] at H
               have c85b0 : decide (a1 < x20_2) = false := decide_eq_false c85
              rotate_left
              all_goals
               clear c85
               (skip)
               have H' := ah.mk H
               clear H
               go_wp2
               go_meet
              ·case rel => exact ⟨_, (decide (x20_2 < (wrap64 ((IntKind.u64.wrap (wrap64 (a1 + a3))) / 2)))), (by rfl), H', ⟨by have := HJ59.out; have := HK2.out; have := HJ76.out; have := HJ78.out; omega⟩, ⟨by (with_reducible repeat ((apply Kd.aG))); exact HO_0.out⟩, ⟨HK.out⟩, ⟨HB.out⟩⟩
              ·case rel => exact ⟨_, (false), (by rfl), H', ⟨by have := HJ59.out; have := HK2.out; have := HJ76.out; have := HJ78.out; omega⟩, ⟨by (with_reducible repeat ((apply Kd.aG))); exact HO_0.out⟩, ⟨HK.out⟩, ⟨HB.out⟩⟩
             case rest =>
              clear HC84
              obtain ⟨kq, x199_83, rfl, HA, HJ83, HO_0, HK, HB⟩ := hcut
              cases kq with
              | zero => exact absurd HA.out (by simp [av.j8])
              | succ kj83 =>
               have H := HA.out
               clear HA
               simp only [av.j8] at H
               by_cases c86 : x199_83 = true
               focus
                subst c86
                rw [if_pos rfl] at H
                obtain ⟨t137, A87, H⟩ := bR H
                by_cases c88 : (wrap64 ((IntKind.u64.wrap (wrap64 (a1 + a3))) / 2)) < (wrap64 ((wrap64 ((wrap64 ((IntKind.u64.wrap (wrap64 (a1 + a3))) / 2)) + a2)) - x20_2))
                focus
                 rw [if_pos c88] at H
                 have c88b0 : decide ((wrap64 ((IntKind.u64.wrap (wrap64 (a1 + a3))) / 2)) < (wrap64 ((wrap64 ((wrap64 ((IntKind.u64.wrap (wrap64 (a1 + a3))) / 2)) + a2)) - x20_2))) = true := decide_eq_true c88
                 clear c88
                 by_cases c89 : (wrap64 ((wrap64 ((wrap64 ((IntKind.u64.wrap (wrap64 (a1 + a3))) / 2)) + a2)) - x20_2)) < a3
                 focus
                  rw [if_pos c89] at H
                  have c89b0 : decide ((wrap64 ((wrap64 ((wrap64 ((IntKind.u64.wrap (wrap64 (a1 + a3))) / 2)) + a2)) - x20_2)) < a3) = true := decide_eq_true c89
                  clear c89
                  obtain ⟨t138, A90, H⟩ := bR H
                 rotate_left
                 focus
                  rw [if_neg c89] at H
                  have c89b0 : decide ((wrap64 ((wrap64 ((wrap64 ((IntKind.u64.wrap (wrap64 (a1 + a3))) / 2)) + a2)) - x20_2)) < a3) = false := decide_eq_false c89
                  clear c89
                 rotate_left
                rotate_left 2
                focus
                 rw [if_neg c88] at H
                 have c88b0 : decide ((wrap64 ((IntKind.u64.wrap (wrap64 (a1 + a3))) / 2)) < (wrap64 ((wrap64 ((wrap64 ((IntKind.u64.wrap (wrap64 (a1 + a3))) / 2)) + a2)) - x20_2))) = false := decide_eq_false c88
                 clear c88
                rotate_left
                all_goals
                 obtain rfl := Option.some.inj H
                 obtain ⟨Ao91, co91, eo91⟩ := Kd.bY HO_0.out
                 subst eo91
                focus
                 go_wp2_with (first | ((with_reducible refine bF (f := 139) rfl ?_); refine dM (some 205) rfl rfl Tryz.func139 (by kernel_rfl) rfl #[.slice Ao91 x0_78.length co91, .int .i64 a1, .int .i64 x20_2, .int .i64 (wrap64 ((IntKind.u64.wrap (wrap64 (a1 + a3))) / 2)), .func (.func 78) #[] #[]] rfl (by (try simp only [mA_, mC_, mN_]); rfl) ?_; (with_reducible refine (ih kj83 (by have := HJ59.out; have := HK2.out; have := HJ76.out; have := HJ78.out; have := HJ83.out; omega) (fun k_ => some k_ = (.slice Ao91 x0_78.length co91 : Value).ownBlock) (.slice Ao91 x0_78.length co91) x0_78 a1 x20_2 (wrap64 ((IntKind.u64.wrap (wrap64 (a1 + a3))) / 2)) a4 t137 w0 _ ?side1 ?side2 A87.out).mono ?_); (case side1 => repeat ((with_reducible (exact HB.out)))); (case side2 => exact Kd.iW rfl HO_0.out); rintro e w92 ⟨rfl, hy0, hb, hkp⟩; refine ⟨_, rfl, ?_⟩; have n0_ := ah.mk (Kd.jB rfl hy0 (fun k_ e_ => HO_0.out.1 k_ e_)); have n1_ := ah.mk (Kept.then_ (S := (fun k_ => P0_ k_)) HK.out hkp (fun k_ hs_ => (fun e_ => (HO_0.out.1 k_ e_.symm)) hs_)); have n2_ := ah.mk (hb); clear HO_0; clear HK; clear HB; have HO_0 := n0_; have HK := n1_; have HB := n2_; clear n0_ n1_ n2_; (try clear hb); (try clear hkp); (try clear hy0)) | ((with_reducible refine bF (f := 139) rfl ?_); refine dM (some 219) rfl rfl Tryz.func139 (by kernel_rfl) rfl #[.slice Ao91 x0_78.length co91, .int .i64 (wrap64 ((IntKind.u64.wrap (wrap64 (a1 + a3))) / 2)), .int .i64 (wrap64 ((wrap64 ((wrap64 ((IntKind.u64.wrap (wrap64 (a1 + a3))) / 2)) + a2)) - x20_2)), .int .i64 a3, .func (.func 78) #[] #[]] rfl (by (try simp only [mA_, mC_, mN_]); rfl) ?_; (with_reducible refine (ih kj83 (by have := HJ59.out; have := HK2.out; have := HJ76.out; have := HJ78.out; have := HJ83.out; omega) (fun k_ => some k_ = (.slice Ao91 x0_78.length co91 : Value).ownBlock) (.slice Ao91 x0_78.length co91) t137 (wrap64 ((IntKind.u64.wrap (wrap64 (a1 + a3))) / 2)) (wrap64 ((wrap64 ((wrap64 ((IntKind.u64.wrap (wrap64 (a1 + a3))) / 2)) + a2)) - x20_2)) a3 a4 t138 w0 _ ?side1 ?side2 A90.out).mono ?_); (case side1 => repeat ((with_reducible (exact HB.out)))); (case side2 => exact Kd.iW rfl HO_0.out); rintro e w93 ⟨rfl, hy0, hb, hkp⟩; refine ⟨_, rfl, ?_⟩; have n0_ := ah.mk (Kd.jB rfl hy0 (fun k_ e_ => HO_0.out.1 k_ e_)); have n1_ := ah.mk (Kept.then_ (S := (fun k_ => P0_ k_)) HK.out hkp (fun k_ hs_ => (fun e_ => (HO_0.out.1 k_ e_.symm)) hs_)); have n2_ := ah.mk (hb); clear HO_0; clear HK; clear HB; have HO_0 := n0_; have HK := n1_; have HB := n2_; clear n0_ n1_ n2_; (try clear hb); (try clear hkp); (try clear hy0)))
                rotate_left
                focus
                 go_wp2_with ((((with_reducible refine bF (f := 139) rfl ?_); refine dM (some 205) rfl rfl Tryz.func139 (by kernel_rfl) rfl #[.slice Ao91 x0_78.length co91, .int .i64 a1, .int .i64 x20_2, .int .i64 (wrap64 ((IntKind.u64.wrap (wrap64 (a1 + a3))) / 2)), .func (.func 78) #[] #[]] rfl (by (try simp only [mA_, mC_, mN_]); rfl) ?_; (with_reducible refine (ih kj83 (by have := HJ59.out; have := HK2.out; have := HJ76.out; have := HJ78.out; have := HJ83.out; omega) (fun k_ => some k_ = (.slice Ao91 x0_78.length co91 : Value).ownBlock) (.slice Ao91 x0_78.length co91) x0_78 a1 x20_2 (wrap64 ((IntKind.u64.wrap (wrap64 (a1 + a3))) / 2)) a4 t137 w0 _ ?side1 ?side2 A87.out).mono ?_); (case side1 => repeat ((with_reducible (exact HB.out)))); (case side2 => exact Kd.iW rfl HO_0.out); rintro e w95 ⟨rfl, hy0, hb, hkp⟩; refine ⟨_, rfl, ?_⟩; have n0_ := ah.mk (Kd.jB rfl hy0 (fun k_ e_ => HO_0.out.1 k_ e_)); have n1_ := ah.mk (Kept.then_ (S := (fun k_ => P0_ k_)) HK.out hkp (fun k_ hs_ => (fun e_ => (HO_0.out.1 k_ e_.symm)) hs_)); have n2_ := ah.mk (hb); clear HO_0; clear HK; clear HB; have HO_0 := n0_; have HK := n1_; have HB := n2_; clear n0_ n1_ n2_; (try clear hb); (try clear hkp); (try clear hy0))))
                rotate_left
                focus
                 go_wp2_with ((((with_reducible refine bF (f := 139) rfl ?_); refine dM (some 205) rfl rfl Tryz.func139 (by kernel_rfl) rfl #[.slice Ao91 x0_78.length co91, .int .i64 a1, .int .i64 x20_2, .int .i64 (wrap64 ((IntKind.u64.wrap (wrap64 (a1 + a3))) / 2)), .func (.func 78) #[] #[]] rfl (by (try simp only [mA_, mC_, mN_]); rfl) ?_; (with_reducible refine (ih kj83 (by have := HJ59.out; have := HK2.out; have := HJ76.out; have := HJ78.out; have := HJ83.out; omega) (fun k_ => some k_ = (.slice Ao91 x0_78.length co91 : Value).ownBlock) (.slice Ao91 x0_78.length co91) x0_78 a1 x20_2 (wrap64 ((IntKind.u64.wrap (wrap64 (a1 + a3))) / 2)) a4 t137 w0 _ ?side1 ?side2 A87.out).mono ?_); (case side1 => repeat ((with_reducible (exact HB.out)))); (case side2 => exact Kd.iW rfl HO_0.out); rintro e w97 ⟨rfl, hy0, hb, hkp⟩; refine ⟨_, rfl, ?_⟩; have n0_ := ah.mk (Kd.jB rfl hy0 (fun k_ e_ => HO_0.out.1 k_ e_)); have n1_ := ah.mk (Kept.then_ (S := (fun k_ => P0_ k_)) HK.out hkp (fun k_ hs_ => (fun e_ => (HO_0.out.1 k_ e_.symm)) hs_)); have n2_ := ah.mk (hb); clear HO_0; clear HK; clear HB; have HO_0 := n0_; have HK := n1_; have HB := n2_; clear n0_ n1_ n2_; (try clear hb); (try clear hkp); (try clear hy0))))
                rotate_left
               rotate_left 3
               focus
                replace c86 := Bool.eq_false_iff.mpr c86
                subst c86
                rw [if_neg ff_] at H
                by_cases c98 : (wrap64 ((IntKind.u64.wrap (wrap64 (a1 + a3))) / 2)) < (wrap64 ((wrap64 ((wrap64 ((IntKind.u64.wrap (wrap64 (a1 + a3))) / 2)) + a2)) - x20_2))
                focus
                 rw [if_pos c98] at H
                 have c98b0 : decide ((wrap64 ((IntKind.u64.wrap (wrap64 (a1 + a3))) / 2)) < (wrap64 ((wrap64 ((wrap64 ((IntKind.u64.wrap (wrap64 (a1 + a3))) / 2)) + a2)) - x20_2))) = true := decide_eq_true c98
                 clear c98
                 by_cases c99 : (wrap64 ((wrap64 ((wrap64 ((IntKind.u64.wrap (wrap64 (a1 + a3))) / 2)) + a2)) - x20_2)) < a3
                 focus
                  rw [if_pos c99] at H
                  have c99b0 : decide ((wrap64 ((wrap64 ((wrap64 ((IntKind.u64.wrap (wrap64 (a1 + a3))) / 2)) + a2)) - x20_2)) < a3) = true := decide_eq_true c99
                  clear c99
                  obtain ⟨t139, A100, H⟩ := bR H
                  obtain rfl := Option.some.inj H
                  obtain ⟨Ao101, co101, eo101⟩ := Kd.bY HO_0.out
                  subst eo101
                  go_wp2_with ((((with_reducible refine bF (f := 139) rfl ?_); refine dM (some 219) rfl rfl Tryz.func139 (by kernel_rfl) rfl #[.slice Ao101 x0_78.length co101, .int .i64 (wrap64 ((IntKind.u64.wrap (wrap64 (a1 + a3))) / 2)), .int .i64 (wrap64 ((wrap64 ((wrap64 ((IntKind.u64.wrap (wrap64 (a1 + a3))) / 2)) + a2)) - x20_2)), .int .i64 a3, .func (.func 78) #[] #[]] rfl (by (try simp only [mA_, mC_, mN_]); rfl) ?_; (with_reducible refine (ih kj83 (by have := HJ59.out; have := HK2.out; have := HJ76.out; have := HJ78.out; have := HJ83.out; omega) (fun k_ => some k_ = (.slice Ao101 x0_78.length co101 : Value).ownBlock) (.slice Ao101 x0_78.length co101) x0_78 (wrap64 ((IntKind.u64.wrap (wrap64 (a1 + a3))) / 2)) (wrap64 ((wrap64 ((wrap64 ((IntKind.u64.wrap (wrap64 (a1 + a3))) / 2)) + a2)) - x20_2)) a3 a4 t139 w0 _ ?side1 ?side2 A100.out).mono ?_); (case side1 => repeat ((with_reducible (exact HB.out)))); (case side2 => exact Kd.iW rfl HO_0.out); rintro e w102 ⟨rfl, hy0, hb, hkp⟩; refine ⟨_, rfl, ?_⟩; have n0_ := ah.mk (Kd.jB rfl hy0 (fun k_ e_ => HO_0.out.1 k_ e_)); have n1_ := ah.mk (Kept.then_ (S := (fun k_ => P0_ k_)) HK.out hkp (fun k_ hs_ => (fun e_ => (HO_0.out.1 k_ e_.symm)) hs_)); have n2_ := ah.mk (hb); clear HO_0; clear HK; clear HB; have HO_0 := n0_; have HK := n1_; have HB := n2_; clear n0_ n1_ n2_; (try clear hb); (try clear hkp); (try clear hy0))))
                 rotate_left
                 focus
                  rw [if_neg c99] at H
                  have c99b0 : decide ((wrap64 ((wrap64 ((wrap64 ((IntKind.u64.wrap (wrap64 (a1 + a3))) / 2)) + a2)) - x20_2)) < a3) = false := decide_eq_false c99
                  clear c99
                  obtain rfl := Option.some.inj H
                  go_wp2
                 rotate_left
                rotate_left 2
                focus
                 rw [if_neg c98] at H
                 have c98b0 : decide ((wrap64 ((IntKind.u64.wrap (wrap64 (a1 + a3))) / 2)) < (wrap64 ((wrap64 ((wrap64 ((IntKind.u64.wrap (wrap64 (a1 + a3))) / 2)) + a2)) - x20_2))) = false := decide_eq_false c98
                 clear c98
                 obtain rfl := Option.some.inj H
                 go_wp2
                rotate_left
               rotate_left 3
               all_goals
                go_end0
                exact ⟨by rfl, by (with_reducible repeat ((apply Kd.aG))); exact HO_0.out, HB.out, HK.out⟩
end Go.Y.PSo
namespace Go.Y.PSo
open Go.RowKit Go.V.aD Go.V.aN Go.V.aR Go.Y.Given Go.Y.PRd Go.Y.PRr
attribute [local go_sem] dn dh dJ dK bU bT cZ dw   -- for this text's walks alone
mutual
def bL.l0 : Nat → List (S44) → Int → Int → Int → Int → Int → Option ((List (S44)))
 | 0, _, _, _, _, _, _ => none
 | k + 1, x0, x1, x2, x6, x7, x8 => if x8 ≤ x1 then ((aZ.f k x0 x7 x8 x2).bind fun t140 => (bL.l0 k t140 x1 x2 x6 x8 (wrap64 (x8 + x6)))) else ((aZ.f k x0 x7 x1 x2).bind fun t141 => (bL.l1 k t141 x1 x2 x6))
def bL.l1 : Nat → List (S44) → Int → Int → Int → Option ((List (S44)))
 | 0, _, _, _, _ => none
 | k + 1, x0, x1, x2, x6 => if x6 < x1 then (bL.l2 k x0 x1 x2 x6 0 (wrap64 (2 * x6))) else (some x0)
def bL.l2 : Nat → List (S44) → Int → Int → Int → Int → Int → Option ((List (S44)))
 | 0, _, _, _, _, _, _ => none
 | k + 1, x0, x1, x2, x6, x7, x8 => if x8 ≤ x1 then ((av.f k x0 x7 (wrap64 (x7 + x6)) x8 x2).bind fun t142 => (bL.l2 k t142 x1 x2 x6 x8 (wrap64 (x8 + (wrap64 (2 * x6)))))) else (if (wrap64 (x7 + x6)) < x1 then ((av.f k x0 x7 (wrap64 (x7 + x6)) x1 x2).bind fun t143 => (bL.l1 k t143 x1 x2 (wrap64 (x6 * 2)))) else (bL.l1 k x0 x1 x2 (wrap64 (x6 * 2))))
end
def bL.f (k : Nat) (l0 : List (S44)) (a1 : Int) (a2 : Int) : Option ((List (S44))) := bL.l0 k l0 a1 a2 20 0 20
theorem bL.calls (k : Nat) (P0_ : Nat → Prop) (u9000_ : Value) (l0 : List (S44)) (a1 : Int) (a2 : Int) (r : List (S44)) (w0 w : World) (hB : Below w0.heap.size w0 w) (ho0 : Kd.R k44 44 w w0.heap.size P0_ u9000_ l0) (h : bL.f k l0 a1 a2 = some r) :
    Calls Tryz.prog 110 #[u9000_, .int .i64 a1, .func (.func 78) #[] #[]] w fun e w' => e = .returned (.tuple #[]) ∧ Kd.R k44 44 w' w0.heap.size (fun k_ => (P0_ k_ ∨ w.heap.size ≤ k_)) u9000_ r ∧ Below w0.heap.size w0 w' ∧ Kept w w' (fun k_ => P0_ k_) := by
  have HO0 := ah.mk (show Kd.R k44 44 w w0.heap.size (fun k_ => (P0_ k_ ∨ w.heap.size ≤ k_)) u9000_ l0 from Kd.bN ho0 (fun k_ hk => (.inl hk)))
  have HK := ah.mk (Kept.refl w (fun k_ => P0_ k_))
  have HW0 := ah.mk hB.size
  have HB := ah.mk hB
  clear hB
  have H : (bL.l0 k l0 a1 a2 20 0 20) = some r := h
  clear h
  have H' := ah.mk H
  clear H
  go_enter Tryz.func110, Tryz.ntmps110
  go_wp2
  (try go_simp)
  go_loopg [7, 8] k (fun kq v7 v8 w' => ∃ (x0_1 : List (S44)) (x7_1 : Int) (x8_1 : Int), v7 = .int .i64 x7_1 ∧ v8 = .int .i64 x8_1 ∧ ah (bL.l0 kq x0_1 a1 a2 20 x7_1 x8_1 = some r) ∧ ah (kq ≤ k) ∧ ah (Kd.R k44 44 w' w0.heap.size (fun k_ => (P0_ k_ ∨ w.heap.size ≤ k_)) u9000_ x0_1) ∧ ah (Kept w w' (fun k_ => P0_ k_)) ∧ ah (Below w0.heap.size w0 w'))
  case atStart => exact ⟨(l0), (0), (20), (by rfl), (by rfl), H', ⟨Nat.le_refl _⟩, ⟨by (with_reducible repeat ((apply Kd.aG))); exact HO0.out⟩, ⟨HK.out⟩, ⟨HB.out⟩⟩
  case round =>
   clear H'
   obtain ⟨x0_1, x7_1, x8_1, rfl, rfl, HA, HK1, HO_0, HK, HB⟩ := hrel
   cases gk with
   | zero => exact absurd HA.out (by simp [bL.l0])
   | succ k1 =>
    have H := HA.out
    clear HA
    simp only [bL.l0] at H
    by_cases c4 : x8_1 ≤ a1
    focus
     rw [if_pos c4] at H
     have c4b0 : decide (x8_1 ≤ a1) = true := decide_eq_true c4
    rotate_left
    focus
     rw [if_neg c4] at H
     have c4b0 : decide (x8_1 ≤ a1) = false := decide_eq_false c4
    rotate_left
    all_goals
     clear c4
     obtain ⟨t140, A5, H⟩ := bR H
     have H' := ah.mk H
     clear H
     obtain ⟨Ao6, co6, eo6⟩ := Kd.bY HO_0.out
     subst eo6
    ·go_wp2_with (((refine gl_ (some 18) Tryz.func138 #[.slice Ao6 x0_1.length co6, .int .i64 x7_1, .int .i64 x8_1, .func (.func 78) #[] #[]] ?_; (with_reducible refine (aZ.calls k1 (fun k_ => some k_ = (.slice Ao6 x0_1.length co6 : Value).ownBlock) (.slice Ao6 x0_1.length co6) x0_1 x7_1 x8_1 a2 t140 w0 _ ?side1 ?side2 A5.out).mono ?_); (case side1 => repeat ((with_reducible (exact HB.out)))); (case side2 => exact Kd.iW rfl HO_0.out); rintro e w7 ⟨rfl, hy0, hb, hkp⟩; refine ⟨_, rfl, ?_⟩; have n0_ := ah.mk (Kd.jB rfl hy0 (fun k_ e_ => HO_0.out.1 k_ e_)); have n1_ := ah.mk (Kept.then_ (S := (fun k_ => P0_ k_)) HK.out hkp (fun k_ hs_ => (fun e_ => (HO_0.out.1 k_ e_.symm)) hs_)); have n2_ := ah.mk (hb); clear HO_0; clear HK; clear HB; have HO_0 := n0_; have HK := n1_; have HB := n2_; clear n0_ n1_ n2_; (try clear hb); (try clear hkp); (try clear hy0))))
     go_roundg k1
     case measure => have := HK1.out; omega
     case rel => exact ⟨(t140), (x8_1), (wrap64 (x8_1 + 20)), (by rfl), (by rfl), H', ⟨by have := HK1.out; omega⟩, ⟨by (with_reducible repeat ((apply Kd.aG))); exact HO_0.out⟩, ⟨HK.out⟩, ⟨HB.out⟩⟩
    ·go_wp2_with (((refine gl_ (some 27) Tryz.func138 #[.slice Ao6 x0_1.length co6, .int .i64 x7_1, .int .i64 a1, .func (.func 78) #[] #[]] ?_; (with_reducible refine (aZ.calls k1 (fun k_ => some k_ = (.slice Ao6 x0_1.length co6 : Value).ownBlock) (.slice Ao6 x0_1.length co6) x0_1 x7_1 a1 a2 t140 w0 _ ?side1 ?side2 A5.out).mono ?_); (case side1 => repeat ((with_reducible (exact HB.out)))); (case side2 => exact Kd.iW rfl HO_0.out); rintro e w10 ⟨rfl, hy0, hb, hkp⟩; refine ⟨_, rfl, ?_⟩; have n0_ := ah.mk (Kd.jB rfl hy0 (fun k_ e_ => HO_0.out.1 k_ e_)); have n1_ := ah.mk (Kept.then_ (S := (fun k_ => P0_ k_)) HK.out hkp (fun k_ hs_ => (fun e_ => (HO_0.out.1 k_ e_.symm)) hs_)); have n2_ := ah.mk (hb); clear HO_0; clear HK; clear HB; have HO_0 := n0_; have HK := n1_; have HB := n2_; clear n0_ n1_ n2_; (try clear hb); (try clear hkp); (try clear hy0))))
     (try go_simp)
     go_loopg [6] k1 (fun kq v6 w' => ∃ (x0_2 : List (S44)) (x6_2 : Int), v6 = .int .i64 x6_2 ∧ ah (bL.l1 kq x0_2 a1 a2 x6_2 = some r) ∧ ah (kq ≤ k1) ∧ ah (Kd.R k44 44 w' w0.heap.size (fun k_ => (P0_ k_ ∨ w.heap.size ≤ k_)) (.slice Ao6 x0_1.length co6) x0_2) ∧ ah (Kept w w' (fun k_ => P0_ k_)) ∧ ah (Below w0.heap.size w0 w'))
     case atStart => exact ⟨(t140), (20), (by rfl), H', ⟨Nat.le_refl _⟩, ⟨by (with_reducible repeat ((apply Kd.aG))); exact HO_0.out⟩, ⟨HK.out⟩, ⟨HB.out⟩⟩
     case round =>
      clear H'
      (try clear c4b0)
      obtain ⟨x0_2, x6_2, rfl, HA, HK2, HO_0, HK, HB⟩ := hrel
      have hl0_2 := (Kd.aK HO_0.out).1
      rw [hl0_2] at HO_0
      (try simp only [hl0_2])
      cases gk with
      | zero => exact absurd HA.out (by simp [bL.l1])
      | succ k2 =>
       have H := HA.out
       clear HA
       simp only [bL.l1] at H
       by_cases c11 : x6_2 < a1
       ·rw [if_pos c11] at H
        have c11b0 : decide (x6_2 < a1) = true := decide_eq_true c11
        clear c11
        have H' := ah.mk H
        clear H
        go_wp2
        (try go_simp)
        go_loopg [7, 8] k2 (fun kq v7 v8 w' => ∃ (x0_3 : List (S44)) (x7_3 : Int) (x8_3 : Int), v7 = .int .i64 x7_3 ∧ v8 = .int .i64 x8_3 ∧ ah (bL.l2 kq x0_3 a1 a2 x6_2 x7_3 x8_3 = some r) ∧ ah (kq ≤ k2) ∧ ah (Kd.R k44 44 w' w0.heap.size (fun k_ => (P0_ k_ ∨ w.heap.size ≤ k_)) (.slice Ao6 x0_2.length co6) x0_3) ∧ ah (Kept w w' (fun k_ => P0_ k_)) ∧ ah (Below w0.heap.size w0 w'))
        case atStart => exact ⟨(x0_2), (0), (wrap64 (2 * x6_2)), (by rfl), (by rfl), H', ⟨Nat.le_refl _⟩, ⟨by (with_reducible repeat ((apply Kd.aG))); exact HO_0.out⟩, ⟨HK.out⟩, ⟨HB.out⟩⟩
        case round =>
         clear H'
         (try clear c11b0)
         obtain ⟨x0_3, x7_3, x8_3, rfl, rfl, HA, HK3, HO_0, HK, HB⟩ := hrel
         have hl0_3 := (Kd.aK HO_0.out).1
         rw [hl0_3] at HO_0
         (try simp only [hl0_3])
         cases gk with
         | zero => exact absurd HA.out (by simp [bL.l2])
         | succ k3 =>
          have H := HA.out
          clear HA
          simp only [bL.l2] at H
          by_cases c12 : x8_3 ≤ a1
          focus
           rw [if_pos c12] at H
           have c12b0 : decide (x8_3 ≤ a1) = true := decide_eq_true c12
           clear c12
           obtain ⟨t142, A13, H⟩ := bR H
           have H' := ah.mk H
           clear H
           go_wp2_with (((refine gl_ (some 43) Tryz.func139 #[.slice Ao6 x0_3.length co6, .int .i64 x7_3, .int .i64 (wrap64 (x7_3 + x6_2)), .int .i64 x8_3, .func (.func 78) #[] #[]] ?_; (with_reducible refine (av.calls k3 (fun k_ => some k_ = (.slice Ao6 x0_3.length co6 : Value).ownBlock) (.slice Ao6 x0_3.length co6) x0_3 x7_3 (wrap64 (x7_3 + x6_2)) x8_3 a2 t142 w0 _ ?side1 ?side2 A13.out).mono ?_); (case side1 => repeat ((with_reducible (exact HB.out)))); (case side2 => exact Kd.iW rfl HO_0.out); rintro e w14 ⟨rfl, hy0, hb, hkp⟩; refine ⟨_, rfl, ?_⟩; have n0_ := ah.mk (Kd.jB rfl hy0 (fun k_ e_ => HO_0.out.1 k_ e_)); have n1_ := ah.mk (Kept.then_ (S := (fun k_ => P0_ k_)) HK.out hkp (fun k_ hs_ => (fun e_ => (HO_0.out.1 k_ e_.symm)) hs_)); have n2_ := ah.mk (hb); clear HO_0; clear HK; clear HB; have HO_0 := n0_; have HK := n1_; have HB := n2_; clear n0_ n1_ n2_; (try clear hb); (try clear hkp); (try clear hy0))))
           (try simp only [← hl0_3])
          rotate_left
          focus
           rw [if_neg c12] at H
           have c12b0 : decide (x8_3 ≤ a1) = false := decide_eq_false c12
           clear c12
           by_cases c15 : (wrap64 (x7_3 + x6_2)) < a1
           focus
            rw [if_pos c15] at H
            have c15b0 : decide ((wrap64 (x7_3 + x6_2)) < a1) = true := decide_eq_true c15
            clear c15
            obtain ⟨t143, A16, H⟩ := bR H
            have H' := ah.mk H
            clear H
            go_wp2_with (((refine gl_ (some 60) Tryz.func139 #[.slice Ao6 x0_3.length co6, .int .i64 x7_3, .int .i64 (wrap64 (x7_3 + x6_2)), .int .i64 a1, .func (.func 78) #[] #[]] ?_; (with_reducible refine (av.calls k3 (fun k_ => some k_ = (.slice Ao6 x0_3.length co6 : Value).ownBlock) (.slice Ao6 x0_3.length co6) x0_3 x7_3 (wrap64 (x7_3 + x6_2)) a1 a2 t143 w0 _ ?side1 ?side2 A16.out).mono ?_); (case side1 => repeat ((with_reducible (exact HB.out)))); (case side2 => exact Kd.iW rfl HO_0.out); rintro e w17 ⟨rfl, hy0, hb, hkp⟩; refine ⟨_, rfl, ?_⟩; have n0_ := ah.mk (Kd.jB rfl hy0 (fun k_ e_ => HO_0.out.1 k_ e_)); have n1_ := ah.mk (Kept.then_ (S := (fun k_ => P0_ k_)) HK.out hkp (fun k_ hs_ => (fun e_ => (HO_0.out.1 k_ e_.symm)) hs_)); have n2_ := ah.mk (hb); clear HO_0; clear HK; clear HB; have HO_0 := n0_; have HK := n1_; have HB := n2_; clear n0_ n1_ n2_; (try clear hb); (try clear hkp); (try clear hy0))))
           rotate_left
           focus
            rw [if_neg c15] at H
            have c15b0 : decide ((wrap64 (x7_3 + x6_2)) < a1) = false := decide_eq_false c15
            clear c15
            have H' := ah.mk H
            clear H
            go_wp2
           rotate_left
           all_goals
            (try simp only [← hl0_2, ← hl0_3])
          rotate_left 2
          all_goals
           go_roundg k3
           case measure => have := HK1.out; have := HK2.out; have := HK3.out; omega
          ·case rel => exact ⟨(t142), (x8_3), (wrap64 (x8_3 + (wrap64 (2 * x6_2)))), (by rfl), (by rfl), H', ⟨by have := HK1.out; have := HK2.out; have := HK3.out; omega⟩, ⟨by (try simp only [hl0_3]); (with_reducible repeat ((apply Kd.aG))); exact HO_0.out⟩, ⟨HK.out⟩, ⟨HB.out⟩⟩
          ·case rel => exact ⟨(t143), (wrap64 (x6_2 * 2)), (by rfl), H', ⟨by have := HK1.out; have := HK2.out; have := HK3.out; omega⟩, ⟨by (try simp only [hl0_2]); (try simp only [hl0_3]); (with_reducible repeat ((apply Kd.aG))); exact HO_0.out⟩, ⟨HK.out⟩, ⟨HB.out⟩⟩
          ·case rel => exact ⟨(x0_3), (wrap64 (x6_2 * 2)), (by rfl), H', ⟨by have := HK1.out; have := HK2.out; have := HK3.out; omega⟩, ⟨by (try simp only [hl0_2]); (try simp only [hl0_3]); (with_reducible repeat ((apply Kd.aG))); exact HO_0.out⟩, ⟨HK.out⟩, ⟨HB.out⟩⟩
       ·rw [if_neg c11] at H
        have c11b0 : decide (x6_2 < a1) = false := decide_eq_false c11
        clear c11
        obtain rfl := Option.some.inj H
        go_wp2
        go_end0
        exact ⟨by rfl, (by (exact (by ((exact HO_0.out))))), HB.out, HK.out⟩
def nD.f (k : Nat) (l0 : List (S44)) (a1 : Int) : Option ((List (S44))) := (bL.f k l0 (l0.length : Int) a1).bind fun t144 => (some t144)
theorem nD.calls (k : Nat) (P0_ : Nat → Prop) (u9000_ : Value) (l0 : List (S44)) (a1 : Int) (r : List (S44)) (w0 w : World) (hB : Below w0.heap.size w0 w) (ho0 : Kd.R k44 44 w w0.heap.size P0_ u9000_ l0) (h : nD.f k l0 a1 = some r) :
  Calls Tryz.prog 77 #[u9000_, .func (.func 78) #[] #[]] w fun e w' => e = .returned (.tuple #[]) ∧ Kd.R k44 44 w' w0.heap.size (fun k_ => (P0_ k_ ∨ w.heap.size ≤ k_)) u9000_ r ∧ Below w0.heap.size w0 w' ∧ Kept w w' (fun k_ => P0_ k_) := by
 have HO0 := ah.mk (show Kd.R k44 44 w w0.heap.size (fun k_ => (P0_ k_ ∨ w.heap.size ≤ k_)) u9000_ l0 from Kd.bN ho0 (fun k_ hk => (.inl hk)))
 have HK := ah.mk (Kept.refl w (fun k_ => P0_ k_))
 have HW0 := ah.mk hB.size
 have HB := ah.mk hB
 clear hB
 have H : ((bL.f k l0 (l0.length : Int) a1).bind fun t144 => (some t144)) = some r := h
 clear h
 obtain ⟨t144, A3, H⟩ := bR H
 obtain rfl := Option.some.inj H
 obtain ⟨Ao4, co4, eo4⟩ := Kd.bY HO0.out
 subst eo4
 go_enter Tryz.func77, Tryz.ntmps77
 go_wp2_with (((refine gl_ (some 8) Tryz.func110 #[.slice Ao4 l0.length co4, .int .i64 (l0.length : Int), .func (.func 78) #[] #[]] ?_; (with_reducible refine (bL.calls k (fun k_ => some k_ = (.slice Ao4 l0.length co4 : Value).ownBlock) (.slice Ao4 l0.length co4) l0 (l0.length : Int) a1 t144 w0 _ ?side1 ?side2 A3.out).mono ?_); (case side1 => repeat ((with_reducible (exact HB.out)))); (case side2 => exact Kd.iW rfl HO0.out); rintro e w5 ⟨rfl, hy0, hb, hkp⟩; refine ⟨_, rfl, ?_⟩; have n0_ := ah.mk (Kd.jB rfl hy0 (fun k_ e_ => HO0.out.1 k_ e_)); have n1_ := ah.mk (Kept.then_ (S := (fun k_ => P0_ k_)) HK.out hkp (fun k_ hs_ => (fun e_ => (HO0.out.1 k_ e_.symm)) hs_)); have n2_ := ah.mk (hb); clear HO0; clear HK; clear HB; have HO0 := n0_; have HK := n1_; have HB := n2_; clear n0_ n1_ n2_; (try clear hb); (try clear hkp); (try clear hy0))))
 go_end0
 exact ⟨by rfl, by (with_reducible repeat ((apply Kd.aG))); exact HO0.out, HB.out, HK.out⟩
def kD.f (k : Nat) (a0_0 : ByteArray) (a0_1 : Int) (a0_2 : Int) (a0_3 : Int) (a0_4 : ByteArray) (a1_0 : ByteArray) (a1_1 : Int) (a1_2 : Int) (a1_3 : Int) (a1_4 : ByteArray) : Option (Bool) := (cB.f k a0_0 a0_1 a0_2 a0_3 a0_4 a1_0 a1_1 a1_2 a1_3 a1_4).bind fun t147 => (some (t147 == 0))
theorem kD.calls (k : Nat) (a0_0 : ByteArray) (a0_1 : Int) (a0_2 : Int) (a0_3 : Int) (a0_4 : ByteArray) (a1_0 : ByteArray) (a1_1 : Int) (a1_2 : Int) (a1_3 : Int) (a1_4 : ByteArray) (r : Bool) (w : World) (h : kD.f k a0_0 a0_1 a0_2 a0_3 a0_4 a1_0 a1_1 a1_2 a1_3 a1_4 = some r) :
  Calls Tryz.prog 80 #[.agg #[.string a0_0, .int .i64 a0_1, .int .i64 a0_2, .int .i64 a0_3, .string a0_4], .agg #[.string a1_0, .int .i64 a1_1, .int .i64 a1_2, .int .i64 a1_3, .string a1_4]] w fun e w' => e = .returned (.bool r) ∧ Below w.heap.size w w' := by
 have hu44 := Tryz.underlying44
 have HB := ah.mk (Below.refl w.heap.size w)
 have H : ((cB.f k a0_0 a0_1 a0_2 a0_3 a0_4 a1_0 a1_1 a1_2 a1_3 a1_4).bind fun t147 => (some (t147 == 0))) = some r := h
 clear h
 obtain ⟨t147, A3, H⟩ := bR H
 obtain rfl := Option.some.inj H
 go_enter Tryz.func80, Tryz.ntmps80
 go_wp2_with (first | ((with_reducible refine bB (N := 2) rfl ?_); refine bG ?hg (N := 2) ?hd (cs := #[.string a0_0, .int .i64 a0_1, .int .i64 a0_2, .int .i64 a0_3, .string a0_4]) (t := 44) ?hr ?_; (case hd => rfl); (case hg => rfl); (case hr => (go_simp; done)); intro gb145 hg w4 hbox hb; have BK145 := ah.mk (hbox); have GW145 := ah.mk (ge_ hg (aA HB.out)); have GE145 := ah.mk (ge_ hg (aA HB.out)); replace HB := ah.mk (au HB.out hb); clear hb hbox hg) | ((with_reducible refine bB (N := 3) rfl ?_); refine bG ?hg (N := 3) ?hd (cs := #[.string a1_0, .int .i64 a1_1, .int .i64 a1_2, .int .i64 a1_3, .string a1_4]) (t := 44) ?hr ?_; (case hd => rfl); (case hg => rfl); (case hr => (go_simp; done)); intro gb146 hg w5 hbox hb; have BK146 := ah.mk (hbox); have GW146 := ah.mk (ge_ hg (aA HB.out)); have GE146 := ah.mk (ge_ hg (aA HB.out)); have NB145_146 := ah.mk (nl_ hg (by ((exact BK145.out)))); have NB146_145 := ah.mk (nr_ hg (by ((exact BK145.out)))); replace BK145 := ah.mk (ay (by ((exact BK145.out))) hb); replace HB := ah.mk (au HB.out hb); clear hb hbox hg; have hnb6 := NB145_146.out; have hnc6 := NB146_145.out; obtain ⟨hcz7_0, hcz7_1, hcz7_2, hcz7_3, hcz7_4, hfz7_0, hfz7_1, hfz7_2, hfz7_3, hfz7_4⟩ := z5_ BK145.out; obtain ⟨hcz8_0, hcz8_1, hcz8_2, hcz8_3, hcz8_4, hfz8_0, hfz8_1, hfz8_2, hfz8_3, hfz8_4⟩ := z5_ BK146.out) | (refine gl_ (some 7) Tryz.func78 #[.agg #[.string a0_0, .int .i64 a0_1, .int .i64 a0_2, .int .i64 a0_3, .string a0_4], .agg #[.string a1_0, .int .i64 a1_1, .int .i64 a1_2, .int .i64 a1_3, .string a1_4]] ?_; (with_reducible refine (cB.calls k a0_0 a0_1 a0_2 a0_3 a0_4 a1_0 a1_1 a1_2 a1_3 a1_4 t147 _ A3.out).mono ?_); rintro e w9 ⟨rfl, hb⟩; refine ⟨_, rfl, ?_⟩; replace BK145 := ah.mk (ay (by ((exact BK145.out))) hb); replace BK146 := ah.mk (ay (by ((exact BK146.out))) hb); replace HB := ah.mk (au HB.out hb); (try clear hb)))
 go_ret
 exact ⟨by rfl, HB.out⟩
end Go.Y.PSo
