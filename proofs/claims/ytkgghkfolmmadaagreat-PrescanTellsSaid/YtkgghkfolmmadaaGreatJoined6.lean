/- Contracts and facts that the claim's row is drawn from, each with its own conditions. -/
import Derived.Test.YtkgghkfolmmadaaGreatJoined5
import Derived.Shelf.SlSortCmp.NoneTotal
import Derived.Deep.QuietTactic
import Derived.BigQuiet
import Derived.Deep.LoopGhost
import Derived.Test.YtkgghkfolmmadaaGreatProg
import Derived.Below
import Derived.Deep.Draws
import Derived.Deep.AppendLies
import Derived.Maps.AppendAt
import Derived.OwnWalk
import Derived.Laws.BytesArg
import Derived.Laws.MakeOwn
import Derived.Laws.OwnMore
import Derived.Deep.OwnRows
import Derived.Tactics
import Derived.Lib.ConvBytes
import Derived.Laws.Slices
import Derived.WalkKit
import Derived.KernelRfl
import Derived.RowKit3
import Derived.WideLaws
import Derived.Deep.DeepCutAuto
import Derived.Deep.CutBlock
import Derived.Deep.RegionHeld3
import Derived.Laws.Rows
import Derived.Lib.AppendStr
import Derived.ArgAppend
import Derived.Laws.IdiomCopy
import Derived.OrdersHeld
import Derived.Laws.BitsLemmas
import Derived.RowKit
import Derived.Deep.Slices
import Derived.Deep.Fields
import Derived.ProofKit
set_option linter.unusedSimpArgs false
set_option linter.unusedVariables false
set_option maxHeartbeats 8000000
set_option maxRecDepth 100000
open Go.Proofs Go.RowKit
namespace Go.Y.PPo
open Go.Proofs.aj.aC Go.Proofs.aj.aT Go.Proofs.aj.aV Go.Y.Given Go.Y.PRd Go.Y.PRr Go.Y.PZo Go.Y.PZf Go.Y.PZe Go.Y.PZh
attribute [local go_sem] dK dN dY dX dB dA dL dM
noncomputable def iT.f (a0_0 : ByteArray) (l0_1 : List (S28)) (a0_2 : Int) : Option (ByteArray) := some a0_0
theorem iT.calls (a0_0 : ByteArray) (A0_1 : Option Addr) (c0_1 : Nat) (l0_1 : List (S28)) (a0_2 : Int) (r : ByteArray) (w : World) (hr0_1 : Kd.C k28 w A0_1 l0_1.length l0_1) (hc0_1 : l0_1.length ≤ c0_1) (h : iT.f a0_0 l0_1 a0_2 = some r) :
  Calls Tryz.prog 98 #[.agg #[.string a0_0, .slice A0_1 l0_1.length c0_1, .int .i64 a0_2]] w fun e w' => e = .returned (.string r) ∧ Below w.heap.size w w' := by
 have hu31 := Tryz.underlying31
 have HR0_1 := ah.mk hr0_1
 have HC0_1 := ah.mk hc0_1
 clear hr0_1 hc0_1
 have HB := ah.mk (Below.refl w.heap.size w)
 have H : (some a0_0) = some r := h
 clear h
 obtain rfl := Option.some.inj H
 go_enter Tryz.func98, Tryz.ntmps98
 go_wp2_with (((((refine be_ (N := 1) (cs := #[.string a0_0, .slice A0_1 l0_1.length c0_1, .int .i64 a0_2]) (t := 31) ?_)); intro gb101 hg w2 hbox hb; have BK101 := ah.mk (hbox); have GW101 := ah.mk (ge_ hg (av HB.out)); have GE101 := ah.mk (ge_ hg (av HB.out)); replace HB := ah.mk (au HB.out hb); clear hb hbox hg; obtain ⟨hcz3_0, hcz3_1, hcz3_2, hfz3_0, hfz3_1, hfz3_2⟩ := z3_ BK101.out)))
 go_ret
 exact ⟨by rfl, HB.out⟩
noncomputable def eT.j0 : Nat → Bool → ByteArray → Int → Int → Int → ByteArray → Option (Int)
 | 0, _, _, _, _, _, _ => none
 | k + 1, x5, x104000, x104001, x104002, x104003, x104004 => if x104003 = 0 then (if x5 = true then (some 0) else (some 1)) else (some 1)
noncomputable def eT.f (k : Nat) (a0_0 : ByteArray) (l0_1 : List (S28)) (a0_2 : Int) (a1_0 : ByteArray) (a1_1 : Int) (a1_2 : Int) (a1_3 : Int) (a1_4 : ByteArray) : Option (Int) := (iT.f a0_0 l0_1 a0_2).bind fun t104 => ((bB.f k a1_0 t104).bind fun t105 => (if t105 = true then ((fU.f a1_1).bind fun t106 => (if a1_2 = 255 then (if a1_4.toList = ([] : List UInt8) then (if t106 = true then (eT.j0 k true a1_0 a1_1 a1_2 a1_3 a1_4) else (eT.j0 k (a1_1 == 255) a1_0 a1_1 a1_2 a1_3 a1_4)) else (some 1)) else (if a1_2 = 254 then (eT.j0 k t106 a1_0 a1_1 a1_2 a1_3 a1_4) else (if a1_2 = 1 then (if t106 = true then (some 0) else (some 1)) else (some 1))))) else (some 10)))
theorem eT.calls (k : Nat) (a0_0 : ByteArray) (A0_1 : Option Addr) (c0_1 : Nat) (l0_1 : List (S28)) (a0_2 : Int) (a1_0 : ByteArray) (a1_1 : Int) (a1_2 : Int) (a1_3 : Int) (a1_4 : ByteArray) (r : Int) (w : World) (hr0_1 : Kd.C k28 w A0_1 l0_1.length l0_1) (hc0_1 : l0_1.length ≤ c0_1) (h : eT.f k a0_0 l0_1 a0_2 a1_0 a1_1 a1_2 a1_3 a1_4 = some r) :
    Calls Tryz.prog 60 #[.agg #[.string a0_0, .slice A0_1 l0_1.length c0_1, .int .i64 a0_2], .agg #[.string a1_0, .int .i64 a1_1, .int .i64 a1_2, .int .i64 a1_3, .string a1_4]] w fun e w' => e = .returned (.int .i64 r) ∧ Below w.heap.size w w' := by
  have hu31 := Tryz.underlying31
  have hu28 := Tryz.underlying28
  have HR0_1 := ah.mk hr0_1
  have HC0_1 := ah.mk hc0_1
  clear hr0_1 hc0_1
  have HB := ah.mk (Below.refl w.heap.size w)
  have H : ((iT.f a0_0 l0_1 a0_2).bind fun t104 => ((bB.f k a1_0 t104).bind fun t105 => (if t105 = true then ((fU.f a1_1).bind fun t106 => (if a1_2 = 255 then (if a1_4.toList = ([] : List UInt8) then (if t106 = true then (eT.j0 k true a1_0 a1_1 a1_2 a1_3 a1_4) else (eT.j0 k (a1_1 == 255) a1_0 a1_1 a1_2 a1_3 a1_4)) else (some 1)) else (if a1_2 = 254 then (eT.j0 k t106 a1_0 a1_1 a1_2 a1_3 a1_4) else (if a1_2 = 1 then (if t106 = true then (some 0) else (some 1)) else (some 1))))) else (some 10)))) = some r := h
  clear h
  obtain ⟨t104, A3, H⟩ := bZ H
  obtain ⟨t105, A4, H⟩ := bZ H
  by_cases c5 : t105 = true
  focus
   subst c5
   rw [if_pos rfl] at H
   obtain ⟨t106, A6, H⟩ := bZ H
   have HC7 := ah.mk H
   clear H
  rotate_left
  focus
   replace c5 := Bool.eq_false_iff.mpr c5
   subst c5
   rw [if_neg ff_] at H
   obtain rfl := Option.some.inj H
  rotate_left
  all_goals
   go_enter Tryz.func60, Tryz.ntmps60
   (try go_wp2_with (first | (((refine be_ (N := 2) (cs := #[.string a0_0, .slice A0_1 l0_1.length c0_1, .int .i64 a0_2]) (t := 31) ?_)); intro gb102 hg w8 hbox hb; have BK102 := ah.mk (hbox); have GW102 := ah.mk (ge_ hg (av HB.out)); have GE102 := ah.mk (ge_ hg (av HB.out)); replace HB := ah.mk (au HB.out hb); clear hb hbox hg) | (((refine be_ (N := 3) (cs := #[.string a1_0, .int .i64 a1_1, .int .i64 a1_2, .int .i64 a1_3, .string a1_4]) (t := 28) ?_)); intro gb103 hg w9 hbox hb; have BK103 := ah.mk (hbox); have GW103 := ah.mk (ge_ hg (av HB.out)); have GE103 := ah.mk (ge_ hg (av HB.out)); have NB102_103 := ah.mk (nl_ hg (by ((exact BK102.out)))); have NB103_102 := ah.mk (nr_ hg (by ((exact BK102.out)))); replace BK102 := ah.mk (aD (by ((exact BK102.out))) hb); replace HB := ah.mk (au HB.out hb); clear hb hbox hg)))
   replace BK102 := ah.mk (fu BK102.out)
   replace BK103 := ah.mk (fu BK103.out)
   replace HB := ah.mk (bW HB.out)
   refine jd (n := 6) (ds := []) (ls 6 0) (by kernel_rfl) rfl rfl (c5_ BK103.out (d3_ BK102.out)) (fun hHeld => ?_)
   generalize w9.drew = w10 at BK102 BK103 HB hHeld ⊢
   refine jG (i := 0) (N := some 6) (v := ?_) (a' := ?_) (ls 6 1) rfl rfl (by kernel_rfl) (fun _ _ _ h => h) (Or.inl ⟨by rfl, ?_⟩) ?_ ?_
   rotate_left
   ·intro w'
    go_simp
    with_reducible rfl
   rotate_left
   ·simp only [Act.put, sA_, sZ_, sS_, fA, gq]
    rfl
   refine lu (i := 1) (N := some 7) (v := ?_) (a' := ?_) (ls 6 3) rfl rfl (by kernel_rfl) (fun _ _ _ h => h) (Or.inl ⟨by rfl, ?_⟩) hHeld ?_ ?_
   rotate_left
   ·rintro w' ⟨s0, s1, s2, s3, s4, s5, s6, s7⟩
    go_simp
    with_reducible rfl
   rotate_left
   ·simp only [Act.put, sA_, sZ_, sS_, fA, gq]
    rfl
   refine lu (i := 2) (N := some 8) (v := ?_) (a' := ?_) (ls 6 7) rfl rfl (by kernel_rfl) (fun _ _ _ h => h) (Or.inl ⟨by rfl, ?_⟩) hHeld ?_ ?_
   rotate_left
   ·rintro w' ⟨s0, s1, s2, s3, s4, s5, s6, s7⟩
    go_simp
    with_reducible rfl
   rotate_left
   ·simp only [Act.put, sA_, sZ_, sS_, fA, gq]
    rfl
   refine oV (i := 3) (N := some 9) (ls 6 15) rfl rfl (by kernel_rfl) (by decide) (fun K hK => ?_)
   refine gs_ Tryz.func98 #[.agg #[.string a0_0, .slice A0_1 l0_1.length c0_1, .int .i64 a0_2]] ?_
   with_reducible refine (iT.calls a0_0 _ _ l0_1 a0_2 t104 _ ?side1 ?side2 A3.out).mono ?_
   (case side1 => repeat ((exact (Kd.fC HR0_1.out HB.out))))
   (case side2 => exact HC0_1.out)
   rintro e w11 ⟨rfl, hb⟩
   refine ⟨_, rfl, ?_⟩
   replace BK102 := ah.mk (aD (by ((exact BK102.out))) hb)
   replace BK103 := ah.mk (aD (by ((exact BK103.out))) hb)
   replace HB := ah.mk (au HB.out hb)
   (try clear hb)
   refine hK.out _ _ (c5_ BK103.out (d3_ BK102.out)) (fun hHeld => ?_)
   clear hK K
   refine nm_ (N := (some 9)) ?_
   refine oV (i := 4) (N := some 10) (ls 6 31) rfl rfl (by kernel_rfl) (by decide) (fun K hK => ?_)
   refine gs_ Tryz.func91 #[.string a1_0, .string t104] ?_
   with_reducible refine (bB.calls k a1_0 t104 _ _ A4.out).mono ?_
   rintro e w12 ⟨rfl, hb⟩
   refine ⟨_, rfl, ?_⟩
   replace BK102 := ah.mk (aD (by ((exact BK102.out))) hb)
   replace BK103 := ah.mk (aD (by ((exact BK103.out))) hb)
   replace HB := ah.mk (au HB.out hb)
   (try clear hb)
   refine hK.out _ _ (c5_ BK103.out (d3_ BK102.out)) (fun hHeld => ?_)
   clear hK K
   refine nm_ (N := (some 10)) ?_
   refine jG (i := 5) (N := some 11) (v := ?_) (a' := ?_) (ls 6 63) rfl rfl (by kernel_rfl) (fun _ _ _ h => h) (Or.inl ⟨by rfl, ?_⟩) ?_ ?_
   rotate_left
   ·intro w'
    go_simp
    with_reducible rfl
   rotate_left
   ·simp only [Act.put, sA_, sZ_, sS_, fA, gq]
    rfl
   refine lC (by kernel_rfl) ?_
  ·have hnb13 := NB103_102.out
   have hnc13 := NB102_103.out
   obtain ⟨hcz14_0, hcz14_1, hcz14_2, hcz14_3, hcz14_4, hfz14_0, hfz14_1, hfz14_2, hfz14_3, hfz14_4⟩ := z5_ BK103.out
   go_upto_block 2 with (((refine gl_ (some 14) Tryz.func90 #[.int .i64 a1_1] ?_; (with_reducible refine (fU.calls a1_1 t106 _ A6.out).mono ?_); rintro e w' ⟨rfl, ⟨nd, rfl⟩⟩; refine ⟨_, rfl, ?_⟩)))
   go_cut [5] (fun v5 wc => ∃ (kq : Nat) (x5_6 : Bool), v5 = .bool x5_6 ∧ ah (eT.j0 kq x5_6 a1_0 a1_1 a1_2 a1_3 a1_4 = some r) ∧ ah (kq ≤ k) ∧ ah (wc.heap[gb102]? = some (.cells #[.string a0_0, (.slice A0_1 l0_1.length c0_1), .int .i64 a0_2] 31 (0, 0))) ∧ ah (wc.heap[gb103]? = some (.cells #[.string a1_0, .int .i64 a1_1, .int .i64 a1_2, .int .i64 a1_3, .string a1_4] 28 (0, 0))) ∧ ah (Below w.heap.size w wc))
   case first =>
    have H := HC7.out
    clear HC7
    by_cases c15 : a1_2 = 255
    focus
     rw [if_pos c15] at H
     have c15b0 : (a1_2 == 255) = true := beq_iff_eq.mpr c15
     have c15b1 : (a1_2 != 255) = false := bne_eq_false_iff_eq.mpr c15
     clear c15
    rotate_left
    focus
     rw [if_neg c15] at H
     have c15b0 : (a1_2 == 255) = false := beq_eq_false_iff_ne.mpr c15
     have c15b1 : (a1_2 != 255) = true := bne_iff_ne.mpr c15
    rotate_left
    all_goals
     (skip)
    ·by_cases c16 : a1_4.toList = ([] : List UInt8)
     focus
      rw [if_pos c16] at H
      have c16b0 : a1_4.toList.isEmpty = true := List.isEmpty_iff.mpr c16
      have c16b1 : (!a1_4.toList.isEmpty) = false := by rw [List.isEmpty_iff.mpr c16]; rfl
      clear c16
      by_cases c17 : t106 = true
      focus
       subst c17
       rw [if_pos rfl] at H
      rotate_left
      focus
       replace c17 := Bool.eq_false_iff.mpr c17
       subst c17
       rw [if_neg ff_] at H
      rotate_left
      all_goals
       have H' := ah.mk H
       clear H
     rotate_left 2
     focus
      rw [if_neg c16] at H
      have c16b0 : a1_4.toList.isEmpty = false := Bool.eq_false_iff.mpr (fun h_ => c16 (List.isEmpty_iff.mp h_))
      have c16b1 : (!a1_4.toList.isEmpty) = true := by rw [Bool.eq_false_iff.mpr (fun h_ => c16 (List.isEmpty_iff.mp h_))]; rfl
      obtain rfl := Option.some.inj H
     rotate_left
     all_goals
      have hnb18 := NB103_102.out
      have hnc18 := NB102_103.out
      obtain ⟨hcz19_0, hcz19_1, hcz19_2, hcz19_3, hcz19_4, hfz19_0, hfz19_1, hfz19_2, hfz19_3, hfz19_4⟩ := z5_ BK103.out
      go_wp2
     iterate 2
      focus
       go_meet
      rotate_left
     rotate_left
     ·case rel => exact ⟨_, (true), (by rfl), H', ⟨by omega⟩, ⟨by (with_reducible repeat ((refine ay ?_ _))); exact BK102.out⟩, ⟨by (with_reducible repeat ((refine ay ?_ _))); exact BK103.out⟩, ⟨by repeat ((with_reducible first | exact HB.out | apply aR))⟩⟩
     ·case rel => exact ⟨_, ((a1_1 == 255)), (by rfl), H', ⟨by omega⟩, ⟨by (with_reducible repeat ((refine ay ?_ _))); exact BK102.out⟩, ⟨by (with_reducible repeat ((refine ay ?_ _))); exact BK103.out⟩, ⟨by repeat ((with_reducible first | exact HB.out | apply aR))⟩⟩
     ·go_ret
      exact ⟨by rfl, by repeat ((with_reducible first | exact HB.out | apply aR))⟩
    ·by_cases c24 : a1_2 = 254
     ·rw [if_pos c24] at H
      have c24b0 : (a1_2 == 254) = true := beq_iff_eq.mpr c24
      have c24b1 : (a1_2 != 254) = false := bne_eq_false_iff_eq.mpr c24
      clear c24
      have H' := ah.mk H
      clear H
      go_wp2
      go_meet
      case rel => exact ⟨_, (t106), (by rfl), H', ⟨by omega⟩, ⟨by (with_reducible repeat ((refine ay ?_ _))); exact BK102.out⟩, ⟨by (with_reducible repeat ((refine ay ?_ _))); exact BK103.out⟩, ⟨by repeat ((with_reducible first | exact HB.out | apply aR))⟩⟩
     ·rw [if_neg c24] at H
      have c24b0 : (a1_2 == 254) = false := beq_eq_false_iff_ne.mpr c24
      have c24b1 : (a1_2 != 254) = true := bne_iff_ne.mpr c24
      by_cases c25 : a1_2 = 1
      focus
       rw [if_pos c25] at H
       have c25b0 : (a1_2 == 1) = true := beq_iff_eq.mpr c25
       have c25b1 : (a1_2 != 1) = false := bne_eq_false_iff_eq.mpr c25
       clear c25
       by_cases c26 : t106 = true
       focus
        subst c26
        rw [if_pos rfl] at H
       rotate_left
       focus
        replace c26 := Bool.eq_false_iff.mpr c26
        subst c26
        rw [if_neg ff_] at H
       rotate_left
      rotate_left 2
      focus
       rw [if_neg c25] at H
       have c25b0 : (a1_2 == 1) = false := beq_eq_false_iff_ne.mpr c25
       have c25b1 : (a1_2 != 1) = true := bne_iff_ne.mpr c25
      rotate_left
      all_goals
       obtain rfl := Option.some.inj H
       go_wp2
       go_ret
       exact ⟨by rfl, by repeat ((with_reducible first | exact HB.out | apply aR))⟩
   case rest =>
    clear HC7
    (try clear hcz14_0)
    (try clear hcz14_1)
    (try clear hcz14_2)
    (try clear hcz14_3)
    (try clear hcz14_4)
    (try clear hfz14_0)
    (try clear hfz14_1)
    (try clear hfz14_2)
    (try clear hfz14_3)
    (try clear hfz14_4)
    obtain ⟨kq, x5_6, rfl, HA, HJ6, BK102, BK103, HB⟩ := hcut
    cases kq with
    | zero => exact absurd HA.out (by simp [eT.j0])
    | succ kj6 =>
     have H := HA.out
     clear HA
     simp only [eT.j0] at H
     by_cases c27 : a1_3 = 0
     focus
      rw [if_pos c27] at H
      have c27b0 : (a1_3 == 0) = true := beq_iff_eq.mpr c27
      have c27b1 : (a1_3 != 0) = false := bne_eq_false_iff_eq.mpr c27
      clear c27
      by_cases c28 : x5_6 = true
      focus
       subst c28
       rw [if_pos rfl] at H
      rotate_left
      focus
       replace c28 := Bool.eq_false_iff.mpr c28
       subst c28
       rw [if_neg ff_] at H
      rotate_left
     rotate_left 2
     focus
      rw [if_neg c27] at H
      have c27b0 : (a1_3 == 0) = false := beq_eq_false_iff_ne.mpr c27
      have c27b1 : (a1_3 != 0) = true := bne_iff_ne.mpr c27
     rotate_left
     all_goals
      obtain rfl := Option.some.inj H
      have hnb29 := NB103_102.out
      have hnc29 := NB102_103.out
      obtain ⟨hcz30_0, hcz30_1, hcz30_2, hcz30_3, hcz30_4, hfz30_0, hfz30_1, hfz30_2, hfz30_3, hfz30_4⟩ := z5_ BK103.out
      go_wp2
      go_ret
      exact ⟨by rfl, HB.out⟩
  ·try go_wp2
   go_ret
   exact ⟨by rfl, HB.out⟩
noncomputable def dZ.l0 : Nat → List (S28) → Int → Int → ByteArray → List (S28) → Int → Option (Int)
 | 0, _, _, _, _, _, _ => none
 | k + 1, x8, x9, x10, x108000, x108001, x108002 => if x10 < x9 then (if 0 ≤ x10 then (if x10 < (x8.length : Int) then ((eT.f k x108000 x108001 x108002 ((ak x8 x10).f0) ((ak x8 x10).f1) ((ak x8 x10).f2) ((ak x8 x10).f3) ((ak x8 x10).f4)).bind fun t110 => (if t110 = 0 then (dZ.l0 k x8 x9 (wrap64 (x10 + 1)) x108000 x108001 x108002) else (some t110))) else (none)) else (none)) else (some 0)
noncomputable def dZ.f (k : Nat) (a0_0 : ByteArray) (l0_1 : List (S28)) (a0_2 : Int) (l1 : List (S28)) : Option (Int) := dZ.l0 k l1 (l1.length : Int) 0 a0_0 l0_1 a0_2
theorem dZ.calls (k : Nat) (a0_0 : ByteArray) (A0_1 : Option Addr) (c0_1 : Nat) (l0_1 : List (S28)) (a0_2 : Int) (A1 : Option Addr) (c1 : Nat) (l1 : List (S28)) (r : Int) (w : World) (hr0_1 : Kd.C k28 w A0_1 l0_1.length l0_1) (hc0_1 : l0_1.length ≤ c0_1) (hr1 : Kd.C k28 w A1 l1.length l1) (hc1 : l1.length ≤ c1) (h : dZ.f k a0_0 l0_1 a0_2 l1 = some r) :
    Calls Tryz.prog 23 #[.agg #[.string a0_0, .slice A0_1 l0_1.length c0_1, .int .i64 a0_2], .slice A1 l1.length c1] w fun e w' => e = .returned (.int .i64 r) ∧ Below w.heap.size w w' := by
  have hu31 := Tryz.underlying31
  have hu28 := Tryz.underlying28
  have HR0_1 := ah.mk hr0_1
  have HC0_1 := ah.mk hc0_1
  clear hr0_1 hc0_1
  have HR1 := ah.mk hr1
  have HC1 := ah.mk hc1
  clear hr1 hc1
  have HB := ah.mk (Below.refl w.heap.size w)
  have H : (dZ.l0 k l1 (l1.length : Int) 0 a0_0 l0_1 a0_2) = some r := h
  clear h
  have H' := ah.mk H
  clear H
  go_enter Tryz.func23, Tryz.ntmps23
  go_wp2_with (((((refine be_ (N := 2) (cs := #[.string a0_0, .slice A0_1 l0_1.length c0_1, .int .i64 a0_2]) (t := 31) ?_)); intro gb107 hg w3 hbox hb; have BK107 := ah.mk (hbox); have GW107 := ah.mk (ge_ hg (av HB.out)); have GE107 := ah.mk (ge_ hg (av HB.out)); replace HB := ah.mk (au HB.out hb); clear hb hbox hg)))
  go_loopg [10] k (fun kq v10 w' => ∃ (x10_1 : Int), v10 = .int .i64 x10_1 ∧ ah (dZ.l0 kq l1 (l1.length : Int) x10_1 a0_0 l0_1 a0_2 = some r) ∧ ah (kq ≤ k) ∧ ah (w'.heap[gb107]? = some (.cells #[.string a0_0, (.slice A0_1 l0_1.length c0_1), .int .i64 a0_2] 31 (0, 0))) ∧ ah (Below w.heap.size w w'))
  case atStart => exact ⟨(0), (by rfl), H', ⟨Nat.le_refl _⟩, ⟨by (with_reducible repeat ((refine ay ?_ _))); exact BK107.out⟩, ⟨HB.out⟩⟩
  case round =>
   clear H'
   obtain ⟨x10_1, rfl, HA, HK1, BK107, HB⟩ := hrel
   cases gk with
   | zero => exact absurd HA.out (by simp [dZ.l0])
   | succ k1 =>
    have H := HA.out
    clear HA
    simp only [dZ.l0] at H
    by_cases c4 : x10_1 < (l1.length : Int)
    ·rw [if_pos c4] at H
     have c4b0 : decide (x10_1 < (l1.length : Int)) = true := decide_eq_true c4
     clear c4
     obtain ⟨c5b0, H⟩ := eU H
     obtain ⟨c6b0, H⟩ := eU H
     obtain ⟨t110, A7, H⟩ := bZ H
     by_cases c8 : t110 = 0
     focus
      rw [if_pos c8] at H
      have c8b0 : (t110 == 0) = true := beq_iff_eq.mpr c8
      have c8b1 : (t110 != 0) = false := bne_eq_false_iff_eq.mpr c8
      clear c8
      have H' := ah.mk H
      clear H
     rotate_left
     focus
      rw [if_neg c8] at H
      have c8b0 : (t110 == 0) = false := beq_eq_false_iff_ne.mpr c8
      have c8b1 : (t110 != 0) = true := bne_iff_ne.mpr c8
      obtain rfl := Option.some.inj H
     rotate_left
     all_goals
      have p108 : 0 ≤ (x10_1 : Int) := of_decide_eq_true (by assumption)
      have q108 : x10_1 < (l1.length : Int) := of_decide_eq_true (by assumption)
      obtain ⟨ad108, e108, hx108_0, hx108_1, hx108_2, hx108_3, hx108_4⟩ := eX HR1.out x10_1 p108 q108
      cases e108
      replace hx108_0 := kp_ HB.out hx108_0
      replace hx108_1 := kp_ HB.out hx108_1
      replace hx108_2 := kp_ HB.out hx108_2
      replace hx108_3 := kp_ HB.out hx108_3
      replace hx108_4 := kp_ HB.out hx108_4
      replace p108 := eq_true p108
      replace q108 := eq_true q108
      go_wp2_with (first | ((((refine be_ (N := 6) (cs := #[.string (⟨#[]⟩ : ByteArray), .int .i64 0, .int .i64 0, .int .i64 0, .string (⟨#[]⟩ : ByteArray)]) (t := 28) ?_))); intro gb109 hg w9 hbox hb; have BK109 := ah.mk (hbox); have GW109 := ah.mk (ge_ hg (av HB.out)); have GE109 := ah.mk (ge_ hg (av HB.out)); have NB107_109 := ah.mk (nl_ hg (by ((exact BK107.out)))); have NB109_107 := ah.mk (nr_ hg (by ((exact BK107.out)))); replace BK107 := ah.mk (aD (by ((exact BK107.out))) hb); replace HB := ah.mk (au HB.out hb); clear hb hbox hg; have hnb10 := NB109_107.out; have hnc10 := NB107_109.out; obtain ⟨hcz11_0, hcz11_1, hcz11_2, hcz11_3, hcz11_4, hfz11_0, hfz11_1, hfz11_2, hfz11_3, hfz11_4⟩ := z5_ BK109.out; obtain ⟨hcz12_0, hcz12_1, hcz12_2, hfz12_0, hfz12_1, hfz12_2⟩ := z3_ BK107.out) | (refine gl_ (some 16) Tryz.func60 #[.agg #[.string a0_0, .slice A0_1 l0_1.length c0_1, .int .i64 a0_2], .agg #[.string ((ak l1 x10_1).f0), .int .i64 ((ak l1 x10_1).f1), .int .i64 ((ak l1 x10_1).f2), .int .i64 ((ak l1 x10_1).f3), .string ((ak l1 x10_1).f4)]] ?_; (with_reducible refine (eT.calls k1 a0_0 _ _ l0_1 a0_2 ((ak l1 x10_1).f0) ((ak l1 x10_1).f1) ((ak l1 x10_1).f2) ((ak l1 x10_1).f3) ((ak l1 x10_1).f4) t110 _ ?side1 ?side2 A7.out).mono ?_); (case side1 => exact Kd.fC HR0_1.out (by repeat ((with_reducible first | exact HB.out | refine dw ?_ GE109.out)))); (case side2 => exact HC0_1.out); rintro e w13 ⟨rfl, hb⟩; refine ⟨_, rfl, ?_⟩; replace BK107 := ah.mk (aD (g := gb107) (o := .cells #[.string a0_0, .slice A0_1 l0_1.length c0_1, .int .i64 a0_2] 31 (0, 0)) (by (with_reducible repeat ((refine ay ?_ _))); refine fD ?_ NB107_109.out _; (with_reducible repeat ((refine ay ?_ _))); refine fD ?_ NB107_109.out _; (with_reducible repeat ((refine ay ?_ _))); refine fD ?_ NB107_109.out _; (with_reducible repeat ((refine ay ?_ _))); refine fD ?_ NB107_109.out _; (with_reducible repeat ((refine ay ?_ _))); refine fD ?_ NB107_109.out _; (with_reducible repeat ((refine ay ?_ _))); exact BK107.out) hb); replace BK109 := ah.mk (aD (g := gb109) (o := .cells #[.string ((ak l1 x10_1).f0), .int .i64 ((ak l1 x10_1).f1), .int .i64 ((ak l1 x10_1).f2), .int .i64 ((ak l1 x10_1).f3), .string ((ak l1 x10_1).f4)] 28 (0, 0)) (by (with_reducible repeat ((refine ay ?_ _))); refine bH (cs := #[.string ((ak l1 x10_1).f0), .int .i64 ((ak l1 x10_1).f1), .int .i64 ((ak l1 x10_1).f2), .int .i64 ((ak l1 x10_1).f3), .string (⟨#[]⟩ : ByteArray)]) ?_ 4 _ rfl; (with_reducible repeat ((refine ay ?_ _))); refine bH (cs := #[.string ((ak l1 x10_1).f0), .int .i64 ((ak l1 x10_1).f1), .int .i64 ((ak l1 x10_1).f2), .int .i64 0, .string (⟨#[]⟩ : ByteArray)]) ?_ 3 _ rfl; (with_reducible repeat ((refine ay ?_ _))); refine bH (cs := #[.string ((ak l1 x10_1).f0), .int .i64 ((ak l1 x10_1).f1), .int .i64 0, .int .i64 0, .string (⟨#[]⟩ : ByteArray)]) ?_ 2 _ rfl; (with_reducible repeat ((refine ay ?_ _))); refine bH (cs := #[.string ((ak l1 x10_1).f0), .int .i64 0, .int .i64 0, .int .i64 0, .string (⟨#[]⟩ : ByteArray)]) ?_ 1 _ rfl; (with_reducible repeat ((refine ay ?_ _))); refine bH (cs := #[.string (⟨#[]⟩ : ByteArray), .int .i64 0, .int .i64 0, .int .i64 0, .string (⟨#[]⟩ : ByteArray)]) ?_ 0 _ rfl; (with_reducible repeat ((refine ay ?_ _))); exact BK109.out) hb); replace HB := ah.mk (au (by repeat ((with_reducible first | exact HB.out | refine dw ?_ GE109.out))) hb); (try clear hb)))
     ·go_roundg k1
      case measure => have := HK1.out; omega
      case rel => exact ⟨(wrap64 (x10_1 + 1)), (by rfl), H', ⟨by have := HK1.out; omega⟩, ⟨by (with_reducible repeat ((refine ay ?_ _))); exact BK107.out⟩, ⟨HB.out⟩⟩
     ·go_ret
      exact ⟨by rfl, HB.out⟩
    ·rw [if_neg c4] at H
     have c4b0 : decide (x10_1 < (l1.length : Int)) = false := decide_eq_false c4
     clear c4
     obtain rfl := Option.some.inj H
     go_wp2
     go_ret
     exact ⟨by rfl, HB.out⟩
end Go.Y.PPo
namespace Go.Y.Rrs
open Go.Proofs.aj.aC Go.Proofs.aj.aT Go.Proofs.aj.aV Go.Y.Given Go.Y.PRd Go.Y.PRr Go.Y.dJ
theorem IE (xs : List ByteArray) (hx : ∀ y ∈ xs, folded y) (hn : xs.length ≤ 1000000) (base : Nat) (ok : Nat → Prop) (w0 w : World) (hB : Below base w0 w) (v : Value) (hR : Kd.string.R 9 w base ok v xs) :
  Calls Tryz.prog 63 #[v, .func (.func 64) #[] #[]] w fun e w' => e = .returned (.tuple #[]) ∧ ∃ ys, ys.Perm xs ∧ (ys.Pairwise fun a b => fM a b ≤ 0) ∧ Kd.string.R 9 w' base ok v ys ∧ Below base w0 w' := by
 by_cases hp : 0 < xs.length
 ·exact Jc xs hx hn hp base ok w0 w hB v hR
 ·have h0 : xs = [] := List.length_eq_zero_iff.mp (by omega)
  subst h0
  obtain ⟨A, c, rfl, _, _⟩ := Kd.nJ hR
  refine (AnyF.slices_SortFunc_none (P := Tryz.prog) (ρ := Shelf.Ck) { Shelf.zS with } A c (.func (.func 64) #[] #[]) w).mono ?_
  rintro e w' ⟨rfl, rfl⟩
  exact ⟨rfl, [], List.Perm.nil, List.Pairwise.nil, hR, hB⟩
end Go.Y.Rrs
namespace Go.Y.Given
open Go.Proofs.aj.aC Go.Proofs.aj.aT Go.Proofs.aj.aV Go.Y.PRd Go.Y.PRr Go.Y.PPo Go.Y.Rrs Go.Y.Oct Go.Y.Name Go.Y.eD
noncomputable def ni (k : Nat) (a : ByteArray) (s : List RR) (z : Int) (l : List RR) : List RR := l.filter fun x => (eT.f k a s z x.f0 x.f1 x.f2 x.f3 x.f4).getD 1 == 0
def Di (k : Nat) (a : ByteArray) (s : List RR) (z : Int) (l : List RR) : Prop := l.length ≤ 1000000 ∧ ∀ x ∈ l, ∃ c, eT.f k a s z x.f0 x.f1 x.f2 x.f3 x.f4 = some c ∧ (c = 0 → bE x.f0 = true)
open Classical in
noncomputable def iJ.f (k : Nat) (a0_0 : ByteArray) (l0_1 : List (S28)) (a0_2 : Int) (l1 : List (S28)) : Option (List ByteArray) :=
 if Di k a0_0 l0_1 a0_2 l1 then some (qo ((ni k a0_0 l0_1 a0_2 l1).map fun x => gX x.f0)) else none
theorem iJ.calls (k : Nat) (a0_0 : ByteArray) (A0_1 : Option Addr) (c0_1 : Nat) (l0_1 : List (S28)) (a0_2 : Int) (A1 : Option Addr) (c1 : Nat) (l1 : List (S28)) (r : List ByteArray) (w : World) (hr0_1 : Kd.C k28 w A0_1 l0_1.length l0_1) (hc0_1 : l0_1.length ≤ c0_1) (hr1 : Kd.C k28 w A1 l1.length l1) (hc1 : l1.length ≤ c1) (h : iJ.f k a0_0 l0_1 a0_2 l1 = some r) :
  Calls Tryz.prog 26 #[.agg #[.string a0_0, .slice A0_1 l0_1.length c0_1, .int .i64 a0_2], .slice A1 l1.length c1] w fun e w' => ∃ v0_ : Value, e = .returned (v0_) ∧ Kd.R Kd.string 9 w' w.heap.size (fun _ => True) v0_ r ∧ Below w.heap.size w w' := by
 unfold iJ.f at h
 have hk : Di k a0_0 l0_1 a0_2 l1 := Classical.byContradiction fun hn => by rw [if_neg hn] at h; cases h
 rw [if_pos hk] at h
 injection h with h
 have HS0 := Lib.hid hr0_1
 have HSC := Lib.hid hc0_1
 have HR := Lib.hid hr1
 have HH := Lib.hid h
 have HM := Lib.hid hk.2
 have hn := hk.1
 obtain ⟨n0, hn0⟩ : ∃ n, l0_1.length = n := ⟨_, rfl⟩
 have HN0 := Lib.hid hn0
 rw [hn0]
 obtain ⟨n, hnn⟩ : ∃ n, l1.length = n := ⟨_, rfl⟩
 have HN := Lib.hid hnn
 rw [hnn] at hn ⊢
 have HB := ah.mk (Below.refl w.heap.size w)
 have hu31 := Tryz.underlying31
 have hu28 := Tryz.underlying28
 clear hr0_1 hc0_1 hr1 hc1 h hk hnn hn0
 go_enter Tryz.func26, Tryz.ntmps26
 go_wp2_with (first | ((with_reducible refine bY (N := 2) rfl ?_); refine dx ?hg (N := 2) ?hd (cs := #[.string a0_0, .slice A0_1 n0 c0_1, .int .i64 a0_2]) (t := 31) ?hr ?_; (case hd => rfl); (case hg => rfl); (case hr => first | (go_simp; done) | (go_simp; rfl)); intro gb hg w3 hbox hb; have n0_ := ah.mk (au (HB.out) hb); have n1_ := ah.mk (hbox); have n2_ := ah.mk (show w.heap.size ≤ gb by rw [hg]; exact av HB.out); clear HB; have HB := n0_; have BK := n1_; have GE := n2_; clear n0_ n1_ n2_; clear hb hbox hg))
 go_loopg [5, 10] n (fun kx s5 s10 wr => ∃ i : Nat, s10 = .int .i64 (i : Int) ∧ i ≤ n ∧ n - i ≤ kx ∧ Hid (Kd.R Kd.string 9 wr w3.heap.size (fun _ => True) s5 ((ni k a0_0 l0_1 a0_2 (l1.take i)).map fun x => gX x.f0)) ∧ Hid (Below w3.heap.size w3 wr))
 case atStart => exact ⟨0, rfl, by omega, by omega, Lib.hid (Kd.fI _ _ _ _ _), Lib.hid (Below.refl _ _)⟩
 case round =>
  obtain ⟨i, rfl, hin, hik, HO, HB3⟩ := hrel
  by_cases hlt : i < n
  ·have p1 : (0 : Int) ≤ (i : Int) := by omega
   have q1 : (i : Int) < (l1.length : Int) := by rw [HN.out]; omega
   have BKr := Lib.hid (aD BK.out HB3.out)
   have hcz0 : wr.cell? ⟨gb, 0, none⟩ = some (.string a0_0) := (aJ BKr.out 0).trans rfl
   have hcz1 : wr.cell? ⟨gb, 1, none⟩ = some (.slice A0_1 n0 c0_1) := (aJ BKr.out 1).trans rfl
   have hcz2 : wr.cell? ⟨gb, 2, none⟩ = some (.int .i64 a0_2) := (aJ BKr.out 2).trans rfl
   have HBW := Lib.hid (gu HB.out HB.out.size HB3.out)
   obtain ⟨ad, e1, hx0, hx1, hx2, hx3, hx4⟩ := eX HR.out (i : Int) p1 q1
   cases e1
   rw [Int.toNat_natCast] at hx0 hx1 hx2 hx3 hx4
   replace hx0 := (HBW.out.cell (World.block_lt_of_cell? w _ hx0)).trans hx0
   replace hx1 := (HBW.out.cell (World.block_lt_of_cell? w _ hx1)).trans hx1
   replace hx2 := (HBW.out.cell (World.block_lt_of_cell? w _ hx2)).trans hx2
   replace hx3 := (HBW.out.cell (World.block_lt_of_cell? w _ hx3)).trans hx3
   replace hx4 := (HBW.out.cell (World.block_lt_of_cell? w _ hx4)).trans hx4
   have q2 : (i : Int) < (n : Int) := by omega
   obtain ⟨x, hx⟩ : ∃ x, rdR l1 (i : Nat) = x := ⟨_, rfl⟩
   rw [show ak l1 (i : Int) = x from hx] at hx0 hx1 hx2 hx3 hx4
   have hxl : x = l1[i]'(by rw [HN.out]; exact hlt) := by rw [← hx, fB l1 i (by rw [HN.out]; exact hlt)]
   have hxm : x ∈ l1 := by rw [hxl]; exact List.getElem_mem _
   obtain ⟨c, hc, _⟩ := HM.out x hxm
   have HC := Lib.hid hc
   have HX := Lib.hid hxl
   have hw1 : IntKind.i64.wrap ((i : Int) + 1) = (i : Int) + 1 := by rw [IntKind.wrap_i64]; omega
   have HSTEP := Lib.hid (show ((ni k a0_0 l0_1 a0_2 (l1.take (i + 1))).map fun x => gX x.f0) = ((ni k a0_0 l0_1 a0_2 (l1.take i)).map fun x => gX x.f0) ++ (if c = 0 then [gX x.f0] else []) by
    unfold ni
    rw [List.take_add_one, List.getElem?_eq_getElem (by rw [HN.out]; exact hlt), List.filter_append, List.map_append]
    congr 1
    rw [← hxl]
    simp only [Option.toList_some, List.filter_cons, List.filter_nil, hc, Option.getD_some, beq_iff_eq]
    split <;> rfl)
   have hcy0 : (wr.alloc (.cells #[.string x.f0, .int .i64 x.f1, .int .i64 x.f2, .int .i64 x.f3, .string x.f4] 28)).cell? ⟨gb, 0, none⟩ = some (.string a0_0) := (aJ (iM BKr.out _) 0).trans rfl
   have hcy1 : (wr.alloc (.cells #[.string x.f0, .int .i64 x.f1, .int .i64 x.f2, .int .i64 x.f3, .string x.f4] 28)).cell? ⟨gb, 1, none⟩ = some (.slice A0_1 n0 c0_1) := (aJ (iM BKr.out _) 1).trans rfl
   have hcy2 : (wr.alloc (.cells #[.string x.f0, .int .i64 x.f1, .int .i64 x.f2, .int .i64 x.f3, .string x.f4] 28)).cell? ⟨gb, 2, none⟩ = some (.int .i64 a0_2) := (aJ (iM BKr.out _) 2).trans rfl
   clear hxl hx q1 hxm hc
   go_wp2_with fail
   clear hcy0 hcy1 hcy2
   have hB1 : Below w3.heap.size w3 (wr.alloc (.cells #[.string x.f0, .int .i64 x.f1, .int .i64 x.f2, .int .i64 x.f3, .string x.f4] 28)) := bq HB3.out _
   have hO1 := Kd.aW HO.out (.cells #[.string x.f0, .int .i64 x.f1, .int .i64 x.f2, .int .i64 x.f3, .string x.f4] 28)
   have hk : (wr.alloc (.cells #[.string x.f0, .int .i64 x.f1, .int .i64 x.f2, .int .i64 x.f3, .string x.f4] 28)).heap[wr.heap.size]? = some (.cells #[.string x.f0, .int .i64 x.f1, .int .i64 x.f2, .int .i64 x.f3, .string x.f4] 28 (0, 0)) := by show (wr.heap.push _)[wr.heap.size]? = _; simp
   have hgz : wr.heap.size < (wr.alloc (.cells #[.string x.f0, .int .i64 x.f1, .int .i64 x.f2, .int .i64 x.f3, .string x.f4] 28)).heap.size := by show _ < (wr.heap.push _).size; simp
   generalize wr.alloc (.cells #[.string x.f0, .int .i64 x.f1, .int .i64 x.f2, .int .i64 x.f3, .string x.f4] 28) = w1 at hB1 hO1 hk hgz ⊢
   generalize wr.heap.size = gx at hk hgz ⊢
   have hcall := eT.calls k a0_0 A0_1 c0_1 l0_1 a0_2 x.f0 x.f1 x.f2 x.f3 x.f4 c w1 (Kd.fC HS0.out (gu HB.out HB.out.size hB1)) HSC.out HC.out
   rw [HN0.out] at hcall
   refine hcall.mono ?_
   rintro e w4 ⟨rfl, hb4⟩
   have hk4 : w4.heap[gx]? = _ := (hb4.block gx hgz).trans hk
   have HB4 := Lib.hid (gu hB1 hB1.size hb4)
   have HO4 := Lib.hid (Kd.bS hO1 hb4)
   clear hb4 HB3 HO hB1 hO1 hk hgz hcall hx0 hx1 hx2 hx3 hx4 hcz0 hcz1 hcz2 BKr HBW HC
   have hx0 : w4.cell? ⟨gx, 0, none⟩ = some (.string x.f0) := by simp [World.cell?, hk4]
   clear hk4
   cases hd : decide (c = 0) with
   | true =>
    have hc0 : (c == 0) = true := beq_iff_eq.mpr (of_decide_eq_true hd)
    have hst2 := HSTEP.out
    rw [if_pos (of_decide_eq_true hd)] at hst2
    have HST2 := Lib.hid hst2
    clear hst2
    clear HSTEP hd
    go_wp2_with fail
    refine (iq.calls x.f0 (gX x.f0) w4 (Fe x.f0)).mono ?_
    rintro e w5 ⟨rfl, hb5⟩
    have HB5 := Lib.hid (gu HB4.out HB4.out.size hb5)
    have HO5 := Lib.hid (Kd.bS HO4.out hb5)
    clear hb5 HB4 HO4 hx0
    obtain ⟨y, hy⟩ : ∃ y, gX x.f0 = y := ⟨_, rfl⟩
    rw [hy] at HST2 ⊢
    clear hy
    go_wp2_with (first | ((with_reducible refine dR (b := .append) (xs := #[.tmp 18, .tmp 22]) rfl ?_); at_builtin; refine Kd.fF Kd.string (w0 := w3) w3.heap.size rfl (.tmp 18) (.tmp 22) 43 9 (.string ⟨#[]⟩) 16 rfl Tryz.underlying43 kX rfl (by decide) (by omega) u5 ((ni k a0_0 l0_1 a0_2 (l1.take i)).map fun x => gX x.f0) y [.string y] (fun _ => True) (fun _ => False) rfl rfl ?aP (fun _ hk => hk.elim) ?aF ?aO ?aB ?aS ?aL ?_; (case aP => exact rfl); (case aB => exact (by repeat (first | (with_reducible first | exact HB5.out | apply bq | apply aR | apply bW) | exact HB5.out))); (case aF => exact (fun _ _ => trivial)); (case aO => exact (by (with_reducible repeat (first | apply Kd.aW | apply Kd.jq | apply Kd.iN)); exact HO5.out)); (case aS => exact (av (by repeat (first | (with_reducible first | exact HB5.out | apply bq | apply aR | apply bW) | exact HB5.out)))); (case aL => have h3 : (ni k a0_0 l0_1 a0_2 (l1.take i)).length ≤ i := Nat.le_trans (List.length_filter_le _ _) (by rw [List.length_take]; omega); rw [List.length_map]; omega); intro v7 w7 ho hb hg hat; have n0_ := Lib.hid hb; have n1_ := Lib.hid ho; clear HB5 HO5; have HB5 := n0_; have HO5 := n1_; clear n0_ n1_ ho hb hg hat))
    go_roundg (n - (i + 1))
    case measure => omega
    case rel => exact ⟨i + 1, by rw [show ((i + 1 : Nat) : Int) = (i : Int) + 1 by omega], by omega, Nat.le_refl _, Lib.hid (by rw [HST2.out]; exact HO5.out), HB5⟩
   | false =>
    have hc0 : (c == 0) = false := beq_eq_false_iff_ne.mpr (of_decide_eq_false hd)
    have hst2 := HSTEP.out
    rw [if_neg (of_decide_eq_false hd)] at hst2
    have HST2 := Lib.hid hst2
    clear hst2
    clear HSTEP hd
    go_wp2_with fail
    go_roundg (n - (i + 1))
    case measure => omega
    case rel => exact ⟨i + 1, by rw [show ((i + 1 : Nat) : Int) = (i : Int) + 1 by omega], by omega, Nat.le_refl _, Lib.hid (by rw [HST2.out, List.append_nil]; exact HO4.out), HB4⟩
  ·obtain rfl : i = n := by omega
   have b1 : ¬ ((i : Int) < (i : Int)) := by omega
   have hO := HO.out
   rw [List.take_of_length_le (by rw [HN.out]; exact Nat.le_refl _)] at hO
   have hfd : ∀ y ∈ (ni k a0_0 l0_1 a0_2 l1).map (fun x => gX x.f0), folded y := fun y hy => by
    obtain ⟨x, hx, rfl⟩ := List.mem_map.mp hy
    unfold ni at hx
    obtain ⟨hx1, hx2⟩ := List.mem_filter.mp hx
    obtain ⟨c, hc, hc2⟩ := HM.out x hx1
    rw [hc] at hx2
    exact uq (hc2 (by simpa using hx2))
   have hln : ((ni k a0_0 l0_1 a0_2 l1).map fun x => gX x.f0).length ≤ 1000000 := by
    rw [List.length_map]
    unfold ni
    exact Nat.le_trans (List.length_filter_le _ _) (by rw [HN.out]; exact hn)
   have HFD := Lib.hid hfd
   have HLN := Lib.hid hln
   have HS := Lib.hid (IE _ hfd hln w3.heap.size (fun _ => True) w3 wr HB3.out _ hO)
   clear hO HO HB3 hfd hln
   go_wp2_with fail
   refine HS.out.mono ?_
   rintro e w5 ⟨rfl, ys, hperm, hsorted, hR5, hB5⟩
   have hcs := xM ys (fun y hy => HFD.out y (hperm.mem_iff.mp hy)) hsorted
   have hst : qo ys = qo ((ni k a0_0 l0_1 a0_2 l1).map fun x => gX x.f0) := dJ.zW kU (dJ.qL kU _) (dJ.qL kU _) fun y => by
    show y ∈ qo _ ↔ y ∈ qo _
    rw [uM (fun y hy => HFD.out y (hperm.mem_iff.mp hy)), uM HFD.out, hperm.mem_iff]
   have hcp := qz.Bj ys (by rw [hperm.length_eq]; exact HLN.out) w3.heap.size (fun _ => True) w3 w5 hB5 _ hR5
   rw [hcs, hst, HH.out] at hcp
   have HCP := Lib.hid hcp
   clear hcs hst hcp hperm hsorted hR5 hB5 HS HFD HLN
   go_wp2_with fail
   refine HCP.out.mono ?_
   rintro e w6 ⟨v6, rfl, hv6, hb6⟩
   have HV6 := Lib.hid (Kd.bV hv6 HB.out.size)
   have HB6 := Lib.hid (gu HB.out HB.out.size hb6)
   clear hv6 hb6 HCP
   go_wp2_with fail
   go_ret
   exact ⟨_, rfl, HV6.out, HB6.out⟩
end Go.Y.Given
namespace Go.Y.Rrs
open Go.Proofs.aj.aC Go.Proofs.aj.aT Go.Proofs.aj.aV Go.Y.Given Go.Y.PRd Go.Y.PRr Go.Y.Oct Go.Y.Name Go.Y.fq Go.Y.eD Go.Y.dJ
theorem CZ (l m : List ByteArray) (hlm : l.length = m.length) (hn : l.length ≤ 9223372036854775807) : ∀ (d i : Nat), l.length ≤ i + d → i ≤ l.length → ∃ b, Ev (fun k => dh.l0 k l m (i : Int)) b ∧ (b = true ↔ l.drop i = m.drop i) := by
 intro d
 induction d with
 | zero =>
  intro i hd hi0
  refine ⟨true, Ev.step (f := fun _ => some true) (fun k => by rw [dh.l0]; rw [if_neg (by omega)]) (Ev.now _), ?_⟩
  rw [List.drop_of_length_le (by omega), List.drop_of_length_le (by omega)]
  simp
 | succ d ih =>
  intro i hd hi0
  by_cases hi : i < l.length
  ·have e1 : wrap64 ((i : Int) + 1) = ((i + 1 : Nat) : Int) := by unfold wrap64; omega
   have r1 : bJ ByteArray.empty l (i : Int) = l[i] := jm l i hi
   have r2 : bJ ByteArray.empty m (i : Int) = m[i]'(by omega) := jm m i (by omega)
   obtain ⟨b, hb, hb2⟩ := ih (i + 1) (by omega) (by omega)
   by_cases he : l[i] = m[i]'(by omega)
   ·refine ⟨b, Ev.step (f := fun k => dh.l0 k l m ((i + 1 : Nat) : Int)) (fun k => ?_) hb, ?_⟩
    ·rw [dh.l0, e1, r1, r2, he]
     simp only [show ((i : Int) < (l.length : Int)) = True from eq_true (by omega), show ((i : Int) < (m.length : Int)) = True from eq_true (by omega), show (0 ≤ (i : Int)) = True from eq_true (by omega), if_true]
     try simp
    ·rw [hb2, List.drop_eq_getElem_cons hi, List.drop_eq_getElem_cons (show i < m.length by omega), he, List.cons.injEq]
     exact ⟨fun h => ⟨rfl, h⟩, fun h => h.2⟩
   ·refine ⟨false, Ev.step (f := fun _ => some false) (fun k => ?_) (Ev.now _), ?_⟩
    ·have hne : ¬ l[i].toList = (m[i]'(by omega)).toList := fun h => he (toList_inj.mp h)
     rw [dh.l0, r1, r2]
     simp only [show ((i : Int) < (l.length : Int)) = True from eq_true (by omega), show ((i : Int) < (m.length : Int)) = True from eq_true (by omega), show (0 ≤ (i : Int)) = True from eq_true (by omega), if_true, hne, if_false]
     try simp
    ·rw [List.drop_eq_getElem_cons hi, List.drop_eq_getElem_cons (show i < m.length by omega), List.cons.injEq]
     exact ⟨(fun h => by cases h), fun h => absurd h.1 he⟩
  ·refine ⟨true, Ev.step (f := fun _ => some true) (fun k => by rw [dh.l0]; rw [if_neg (by omega)]) (Ev.now _), ?_⟩
   rw [List.drop_of_length_le (by omega), List.drop_of_length_le (by omega)]
   simp
theorem Iq (l m : List ByteArray) (hn : l.length ≤ 9223372036854775807) : Ev (fun k => dh.f k l m) (decide (l = m)) := by
 unfold dh.f
 by_cases h : l.length = m.length
 ·obtain ⟨b, hb, hb2⟩ := CZ l m h hn l.length 0 (by omega) (Nat.zero_le _)
  rw [List.drop_zero, List.drop_zero] at hb2
  have : decide (l = m) = b := by
   rw [Bool.eq_iff_iff, decide_eq_true_eq, hb2]
  rw [this]
  simp only [show ((l.length : Int) = (m.length : Int)) = True from eq_true (by omega), if_true]
  exact hb
 ·have : decide (l = m) = false := decide_eq_false fun e => h (congrArg List.length e)
  rw [this]
  simp only [show ((l.length : Int) = (m.length : Int)) = False from eq_false (by omega), if_false]
  exact Ev.now _
end Go.Y.Rrs
namespace Go.Y.PPs
open Go.Proofs.aj.aC Go.Proofs.aj.aT Go.Proofs.aj.aV Go.Y.Given Go.Y.PRd Go.Y.PRr Go.Y.PZo Go.Y.PZf Go.Y.PZe Go.Y.PZh Go.Y.PPo
attribute [local go_sem] dK dN dY dX dB dA dL dM
def jI : Option Int → Value
 | none => .nilIface
 | some c => .iface 0 (.int .i64 c)
theorem iE : jI none = .nilIface := rfl
theorem iF (c : Int) : jI (some c) = .iface 0 (.int .i64 c) := rfl
end Go.Y.PPs
namespace Go.Y.PPs
open Go.Proofs.aj.aC Go.Proofs.aj.aT Go.Proofs.aj.aV Go.Y.Given Go.Y.PRd Go.Y.PRr Go.Y.PZo Go.Y.PZf Go.Y.PZe Go.Y.PZh Go.Y.PPo
attribute [local go_sem] dK dN dY dX dB dA dL dM
noncomputable def fZ.f  : Option ((List (S28))) := some (([(⟨(⟨#[1, 97, 0]⟩ : ByteArray), 2, 1, 0, (⟨#[1, 110, 1, 97, 0]⟩ : ByteArray)⟩ : S28), (⟨(⟨#[1, 97, 0]⟩ : ByteArray), 6, 1, 0, (⟨#[1, 110, 1, 97, 0, 0, 0, 0, 0, 1, 0, 0, 0, 2, 0, 0, 0, 3, 0, 0, 0, 4, 0, 0, 0, 5]⟩ : ByteArray)⟩ : S28)] : List (S28)))
theorem fZ.calls  (r : List (S28)) (w : World) (h : fZ.f  = some r) :
  Calls Tryz.prog 46 #[] w fun e w' => ∃ v0_ : Value, e = .returned (v0_) ∧ Kd.R k28 28 w' w.heap.size (fun _ => True) v0_ r ∧ Below w.heap.size w w' := by
 have hu28 := Tryz.underlying28
 have HB := ah.mk (Below.refl w.heap.size w)
 have H : (some (([(⟨(⟨#[1, 97, 0]⟩ : ByteArray), 2, 1, 0, (⟨#[1, 110, 1, 97, 0]⟩ : ByteArray)⟩ : S28), (⟨(⟨#[1, 97, 0]⟩ : ByteArray), 6, 1, 0, (⟨#[1, 110, 1, 97, 0, 0, 0, 0, 0, 1, 0, 0, 0, 2, 0, 0, 0, 3, 0, 0, 0, 4, 0, 0, 0, 5]⟩ : ByteArray)⟩ : S28)] : List (S28)))) = some r := h
 clear h
 obtain ⟨y101, hy101⟩ : ∃ y_ : List (S28), y_ = (([(⟨(⟨#[1, 97, 0]⟩ : ByteArray), 2, 1, 0, (⟨#[1, 110, 1, 97, 0]⟩ : ByteArray)⟩ : S28), (⟨(⟨#[1, 97, 0]⟩ : ByteArray), 6, 1, 0, (⟨#[1, 110, 1, 97, 0, 0, 0, 0, 0, 1, 0, 0, 0, 2, 0, 0, 0, 3, 0, 0, 0, 4, 0, 0, 0, 5]⟩ : ByteArray)⟩ : S28)] : List (S28))) := ⟨_, rfl⟩
 replace H : (some y101) = some r := by (rw [hy101]; with_reducible exact H)
 have Ny101 := ah.mk hy101
 clear hy101
 obtain rfl := Option.some.inj H
 go_enter Tryz.func46, Tryz.ntmps46
 go_wp2_with ((((with_reducible refine bY (N := 3) rfl ?_); refine Kd.lF k28 _ 28 ?hg (N := 3) ?hd (xs := ([(⟨(⟨#[1, 97, 0]⟩ : ByteArray), 2, 1, 0, (⟨#[1, 110, 1, 97, 0]⟩ : ByteArray)⟩ : S28), (⟨(⟨#[1, 97, 0]⟩ : ByteArray), 6, 1, 0, (⟨#[1, 110, 1, 97, 0, 0, 0, 0, 0, 1, 0, 0, 0, 2, 0, 0, 0, 3, 0, 0, 0, 4, 0, 0, 0, 5]⟩ : ByteArray)⟩ : S28)] : List (S28))) (inner := [.string (⟨#[1, 97, 0]⟩ : ByteArray), .int .i64 2, .int .i64 1, .int .i64 0, .string (⟨#[1, 110, 1, 97, 0]⟩ : ByteArray), .string (⟨#[1, 97, 0]⟩ : ByteArray), .int .i64 6, .int .i64 1, .int .i64 0, .string (⟨#[1, 110, 1, 97, 0, 0, 0, 0, 0, 1, 0, 0, 0, 2, 0, 0, 0, 3, 0, 0, 0, 4, 0, 0, 0, 5]⟩ : ByteArray)]) (ok := fun _ => True) (okp := fun _ => True) ?hr ?hp (fun _ hk => hk) trivial (Below.refl _ _) (Nat.le_refl _) (by simp) ?_; (case hd => rfl); (case hg => rfl); (case hr => (go_simp; done)); (case hp => exact (bO.c5 (show Kd.M k28 _ _ _ (⟨(⟨#[1, 97, 0]⟩ : ByteArray), 2, 1, 0, (⟨#[1, 110, 1, 97, 0]⟩ : ByteArray)⟩ : S28) [.string (⟨#[1, 97, 0]⟩ : ByteArray), .int .i64 2, .int .i64 1, .int .i64 0, .string (⟨#[1, 110, 1, 97, 0]⟩ : ByteArray)] from (jF _ _ _ (⟨(⟨#[1, 97, 0]⟩ : ByteArray), 2, 1, 0, (⟨#[1, 110, 1, 97, 0]⟩ : ByteArray)⟩ : S28) )) (bO.c5 (show Kd.M k28 _ _ _ (⟨(⟨#[1, 97, 0]⟩ : ByteArray), 6, 1, 0, (⟨#[1, 110, 1, 97, 0, 0, 0, 0, 0, 1, 0, 0, 0, 2, 0, 0, 0, 3, 0, 0, 0, 4, 0, 0, 0, 5]⟩ : ByteArray)⟩ : S28) [.string (⟨#[1, 97, 0]⟩ : ByteArray), .int .i64 6, .int .i64 1, .int .i64 0, .string (⟨#[1, 110, 1, 97, 0, 0, 0, 0, 0, 1, 0, 0, 0, 2, 0, 0, 0, 3, 0, 0, 0, 4, 0, 0, 0, 5]⟩ : ByteArray)] from (jF _ _ _ (⟨(⟨#[1, 97, 0]⟩ : ByteArray), 6, 1, 0, (⟨#[1, 110, 1, 97, 0, 0, 0, 0, 0, 1, 0, 0, 0, 2, 0, 0, 0, 3, 0, 0, 0, 4, 0, 0, 0, 5]⟩ : ByteArray)⟩ : S28) )) (bO.none _ _)))); intro v102 w1 ho2 hb hg_ hnew_; clear hg_ hnew_; ((rw [← Ny101.out] at ho2)); have HO103 := ah.mk (Kd.bV ho2 (av HB.out)); replace HB := ah.mk (au HB.out hb); clear hb ho2)))
 go_ret
 exact ⟨_, by rfl, by (with_reducible repeat ((apply Kd.aW))); exact HO103.out, HB.out⟩
noncomputable def eZ.f (k : Nat)  : Option (Bool) := (fZ.f).bind fun t104 => ((bX.f k (⟨#[1, 97, 0]⟩ : ByteArray) t104).bind fun bt107 => (if bt107.2.2.2 = 0 then ((jv.f bt107.1 bt107.2.1 bt107.2.2.1).bind fun t114 => (if (t114.length : Int) = 2 then ((dZ.f k bt107.1 bt107.2.1 bt107.2.2.1 (([(⟨(⟨#[1, 98, 1, 97, 0]⟩ : ByteArray), 255, 1, 0, (⟨#[]⟩ : ByteArray)⟩ : S28)] : List (S28)))).bind fun t120 => (some (t120 == 1))) else (none))) else (none)))
theorem eZ.calls (k : Nat)  (r : Bool) (w : World) (h : eZ.f k  = some r) :
  Calls Tryz.prog 18 #[] w fun e w' => e = .returned (.bool r) ∧ Below w.heap.size w w' := by
 have hu31 := Tryz.underlying31
 have hu28 := Tryz.underlying28
 have HB := ah.mk (Below.refl w.heap.size w)
 have H : ((fZ.f).bind fun t104 => ((bX.f k (⟨#[1, 97, 0]⟩ : ByteArray) t104).bind fun bt107 => (if bt107.2.2.2 = 0 then ((jv.f bt107.1 bt107.2.1 bt107.2.2.1).bind fun t114 => (if (t114.length : Int) = 2 then ((dZ.f k bt107.1 bt107.2.1 bt107.2.2.1 (([(⟨(⟨#[1, 98, 1, 97, 0]⟩ : ByteArray), 255, 1, 0, (⟨#[]⟩ : ByteArray)⟩ : S28)] : List (S28)))).bind fun t120 => (some (t120 == 1))) else (none))) else (none)))) = some r := h
 clear h
 obtain ⟨t104, A1, H⟩ := bZ H
 replace H := Option.bind_eq_some_iff.mp H
 obtain ⟨⟨t107, t108, t111, t112⟩, A20, H⟩ := H
 replace H : (if t112 = 0 then ((jv.f t107 t108 t111).bind fun t114 => (if (t114.length : Int) = 2 then ((dZ.f k t107 t108 t111 (([(⟨(⟨#[1, 98, 1, 97, 0]⟩ : ByteArray), 255, 1, 0, (⟨#[]⟩ : ByteArray)⟩ : S28)] : List (S28)))).bind fun t120 => (some (t120 == 1))) else (none))) else (none)) = some r := H
 have A2 := ah.mk A20
 clear A20
 obtain ⟨c3, H⟩ := gd_ H
 have c3b0 : (t112 == 0) = true := beq_iff_eq.mpr c3
 have c3b1 : (t112 != 0) = false := bne_eq_false_iff_eq.mpr c3
 clear c3
 obtain ⟨t114, A4, H⟩ := bZ H
 obtain ⟨c5, H⟩ := gd_ H
 have c5b0 : ((t114.length : Int) == 2) = true := beq_iff_eq.mpr c5
 have c5b1 : ((t114.length : Int) != 2) = false := bne_eq_false_iff_eq.mpr c5
 clear c5
 obtain ⟨y117, hy117⟩ : ∃ y_ : List (S28), y_ = (([(⟨(⟨#[1, 98, 1, 97, 0]⟩ : ByteArray), 255, 1, 0, (⟨#[]⟩ : ByteArray)⟩ : S28)] : List (S28))) := ⟨_, rfl⟩
 replace H : ((dZ.f k t107 t108 t111 y117).bind fun t120 => (some (t120 == 1))) = some r := by (rw [hy117]; with_reducible exact H)
 have Ny117 := ah.mk hy117
 clear hy117
 obtain ⟨t120, A6, H⟩ := bZ H
 obtain rfl := Option.some.inj H
 go_enter Tryz.func18, Tryz.ntmps18
 go_wp2_with (first | ((with_reducible refine eP (f := 46) rfl ?_); refine iI (some 4) rfl rfl Tryz.func46 (by kernel_rfl) rfl #[] rfl (by (try simp only [List.map_toArray, List.map_cons, List.map_nil]); done) ?_; (with_reducible refine (fZ.calls  t104 _ A1.out).mono ?_); rintro e w7 ⟨v105, rfl, ho0, hb⟩; refine ⟨_, rfl, ?_⟩; have HO106 := ah.mk (Kd.bV ho0 (av HB.out)); replace HB := ah.mk (au HB.out hb); (try clear hb); (try clear ho0); obtain ⟨Ao8, co8, eo8⟩ := Kd.dn HO106.out; subst eo8) | (refine gl_ (some 5) Tryz.func21 #[.string (⟨#[1, 97, 0]⟩ : ByteArray), .slice Ao8 t104.length co8] ?_; (with_reducible refine (bX.calls k (⟨#[1, 97, 0]⟩ : ByteArray) _ _ t104 t107 t108 t111 t112 _ ?side1 ?side2 A2.out).mono ?_); (case side1 => exact (Kd.aZ HO106.out).2.2); (case side2 => exact (Kd.aZ HO106.out).2.1); rintro e w9 ⟨v109, rfl, ho0, hb⟩; refine ⟨_, rfl, ?_⟩; have HO110 := ah.mk (Kd.bV (Kd.jo ho0 (Kd.jS (by ((exact HO106.out))))) (av HB.out)); replace HO106 := ah.mk (Kd.iy (by ((exact HO106.out))) (Kd.jk ho0) hb); replace HB := ah.mk (au HB.out hb); (try clear hb); (try clear ho0)) | ((((refine be_ (N := 1) (cs := #[.string (⟨#[]⟩ : ByteArray), .slice none 0 0, .int .i64 0]) (t := 31) ?_))); intro gb113 hg w10 hbox hb; have BK113 := ah.mk (hbox); have GW113 := ah.mk (ge_ hg (av HB.out)); have GE113 := ah.mk (ge_ hg (av HB.out)); replace HO106 := ah.mk (Kd.bS (by ((exact HO106.out))) hb); replace HO110 := ah.mk (Kd.bS (by ((exact HO110.out))) hb); replace HB := ah.mk (au HB.out hb); clear hb hbox hg; obtain ⟨hcz11_0, hcz11_1, hcz11_2, hfz11_0, hfz11_1, hfz11_2⟩ := z3_ BK113.out; obtain ⟨Ao12, co12, eo12⟩ := Kd.dn HO110.out; subst eo12) | (go_at_call 30; (with_reducible refine (jv.calls t107 _ _ t108 t111 t114 _ ?side1 ?side2 A4.out).mono ?_); (case side1 => refine (Kd.aZ (e := 28) (base := w.heap.size) (ok := fun k_ => (True ∧ some k_ ≠ (.slice Ao8 t104.length co8 : Value).ownBlock)) (n := t108.length) (c := co12) ?_).2.2; exact (by (with_reducible repeat ((apply Kd.aW))); exact (Kd.dD (Kd.fV (p := ⟨gb113, 2, none⟩) (Kd.fV (p := ⟨gb113, 1, none⟩) (Kd.fV (p := ⟨gb113, 0, none⟩) (Kd.jE HO110.out BK113.out (by decide)) (fun _ hk => hk.2) (.string t107)) (fun _ hk => hk.2) (.slice Ao12 t108.length co12)) (fun _ hk => hk.2) (.int .i64 t111)) (fun _ h_ => h_.1)))); (case side2 => exact (Kd.aZ HO110.out).2.1); rintro e w13 ⟨v115, rfl, ho0, hb⟩; have HO116 := ah.mk (Kd.bV (Kd.jo (Kd.jo ho0 (Kd.jS (by (with_reducible repeat ((apply Kd.aW))); exact (Kd.dD (Kd.fV (p := ⟨gb113, 2, none⟩) (Kd.fV (p := ⟨gb113, 1, none⟩) (Kd.fV (p := ⟨gb113, 0, none⟩) (Kd.jE HO106.out BK113.out (by decide)) (fun _ hk => hk.2) (.string t107)) (fun _ hk => hk.2) (.slice Ao12 t108.length co12)) (fun _ hk => hk.2) (.int .i64 t111)) (fun _ h_ => h_.1))))) (Kd.jS (by (with_reducible repeat ((apply Kd.aW))); exact (Kd.dD (Kd.fV (p := ⟨gb113, 2, none⟩) (Kd.fV (p := ⟨gb113, 1, none⟩) (Kd.fV (p := ⟨gb113, 0, none⟩) (Kd.jE HO110.out BK113.out (by decide)) (fun _ hk => hk.2) (.string t107)) (fun _ hk => hk.2) (.slice Ao12 t108.length co12)) (fun _ hk => hk.2) (.int .i64 t111)) (fun _ h_ => h_.1))))) (av (by repeat ((with_reducible first | exact HB.out | refine dw ?_ GE113.out))))); replace HO106 := ah.mk (Kd.iy (by (with_reducible repeat ((apply Kd.aW))); exact (Kd.dD (Kd.fV (p := ⟨gb113, 2, none⟩) (Kd.fV (p := ⟨gb113, 1, none⟩) (Kd.fV (p := ⟨gb113, 0, none⟩) (Kd.jE HO106.out BK113.out (by decide)) (fun _ hk => hk.2) (.string t107)) (fun _ hk => hk.2) (.slice Ao12 t108.length co12)) (fun _ hk => hk.2) (.int .i64 t111)) (fun _ h_ => h_.1))) (Kd.jk ho0) hb); replace HO110 := ah.mk (Kd.iy (by (with_reducible repeat ((apply Kd.aW))); exact (Kd.dD (Kd.fV (p := ⟨gb113, 2, none⟩) (Kd.fV (p := ⟨gb113, 1, none⟩) (Kd.fV (p := ⟨gb113, 0, none⟩) (Kd.jE HO110.out BK113.out (by decide)) (fun _ hk => hk.2) (.string t107)) (fun _ hk => hk.2) (.slice Ao12 t108.length co12)) (fun _ hk => hk.2) (.int .i64 t111)) (fun _ h_ => h_.1))) (Kd.jk ho0) hb); replace BK113 := ah.mk (aD (g := gb113) (o := .cells #[.string t107, .slice Ao12 t108.length co12, .int .i64 t111] 31 (0, 0)) (by (with_reducible repeat ((refine ay ?_ _))); refine bH (cs := #[.string t107, .slice Ao12 t108.length co12, .int .i64 0]) ?_ 2 _ rfl; (with_reducible repeat ((refine ay ?_ _))); refine bH (cs := #[.string t107, .slice none 0 0, .int .i64 0]) ?_ 1 _ rfl; (with_reducible repeat ((refine ay ?_ _))); refine bH (cs := #[.string (⟨#[]⟩ : ByteArray), .slice none 0 0, .int .i64 0]) ?_ 0 _ rfl; (with_reducible repeat ((refine ay ?_ _))); exact BK113.out) hb); replace HB := ah.mk (au (by repeat ((with_reducible first | exact HB.out | refine dw ?_ GE113.out))) hb); (try clear hb); (try clear ho0); obtain ⟨Ao14, co14, eo14⟩ := Kd.dn HO116.out; subst eo14; obtain ⟨hcz15_0, hcz15_1, hcz15_2, hfz15_0, hfz15_1, hfz15_2⟩ := z3_ BK113.out) | ((with_reducible refine bY (N := 19) rfl ?_); (try (refine fJ (by rfl) ?_; dsimp only)); refine Kd.lF k28 _ 28 ?hg (N := 19) ?hd (xs := ([(⟨(⟨#[1, 98, 1, 97, 0]⟩ : ByteArray), 255, 1, 0, (⟨#[]⟩ : ByteArray)⟩ : S28)] : List (S28))) (inner := [.string (⟨#[1, 98, 1, 97, 0]⟩ : ByteArray), .int .i64 255, .int .i64 1, .int .i64 0, .string (⟨#[]⟩ : ByteArray)]) (ok := fun _ => True) (okp := fun _ => True) ?hr ?hp (fun _ hk => hk) trivial (Below.refl _ _) (Nat.le_refl _) (by simp) ?_; (case hd => rfl); (case hg => rfl); (case hr => (go_simp; done)); (case hp => exact (bO.c5 (show Kd.M k28 _ _ _ (⟨(⟨#[1, 98, 1, 97, 0]⟩ : ByteArray), 255, 1, 0, (⟨#[]⟩ : ByteArray)⟩ : S28) [.string (⟨#[1, 98, 1, 97, 0]⟩ : ByteArray), .int .i64 255, .int .i64 1, .int .i64 0, .string (⟨#[]⟩ : ByteArray)] from (jF _ _ _ (⟨(⟨#[1, 98, 1, 97, 0]⟩ : ByteArray), 255, 1, 0, (⟨#[]⟩ : ByteArray)⟩ : S28) )) (bO.none _ _))); intro v118 w16 ho17 hb hg_ hnew_; clear hg_ hnew_; ((rw [← Ny117.out] at ho17)); have HO119 := ah.mk (Kd.bV (Kd.jo (Kd.jo (Kd.jo ho17 (Kd.jS (by ((exact HO106.out))))) (Kd.jS (by ((exact HO110.out))))) (Kd.jS (by ((exact HO116.out))))) (av HB.out)); replace HO106 := ah.mk (Kd.iy (by ((exact HO106.out))) (Kd.jk ho17) hb); replace HO110 := ah.mk (Kd.iy (by ((exact HO110.out))) (Kd.jk ho17) hb); replace HO116 := ah.mk (Kd.iy (by ((exact HO116.out))) (Kd.jk ho17) hb); replace BK113 := ah.mk (aD (by ((exact BK113.out))) hb); replace HB := ah.mk (au HB.out hb); clear hb ho17; obtain ⟨Ao18, co18, eo18⟩ := Kd.dn HO119.out; subst eo18) | (go_at_call 23; (with_reducible refine (dZ.calls k t107 _ _ t108 t111 _ _ y117 t120 _ ?side1 ?side2 ?side3 ?side4 A6.out).mono ?_); (case side1 => exact (Kd.aZ HO110.out).2.2); (case side2 => exact (Kd.aZ HO110.out).2.1); (case side3 => exact (Kd.aZ HO119.out).2.2); (case side4 => exact (Kd.aZ HO119.out).2.1); rintro e w19 ⟨rfl, hb⟩; replace HO106 := ah.mk (Kd.bS (by ((exact HO106.out))) hb); replace HO110 := ah.mk (Kd.bS (by ((exact HO110.out))) hb); replace HO116 := ah.mk (Kd.bS (by ((exact HO116.out))) hb); replace HO119 := ah.mk (Kd.bS (by ((exact HO119.out))) hb); replace BK113 := ah.mk (aD (by ((exact BK113.out))) hb); replace HB := ah.mk (au HB.out hb); (try clear hb)))
 go_ret
 exact ⟨by rfl, HB.out⟩
mutual
noncomputable def bI.j0 : Nat → Bool → Bool → ByteArray → Int → Int → Int → ByteArray → Option (Int)
 | 0, _, _, _, _, _, _, _ => none
 | k + 1, x5, x20, x123000, x123001, x123002, x123003, x123004 => if x20 = true then (some 0) else (if x123002 = 255 then (if x123003 = 0 then (if x123004.toList = ([] : List UInt8) then (if x5 = true then (bI.j1 k x5 true x123000 x123001 x123002 x123003 x123004) else (bI.j1 k x5 (x123001 == 255) x123000 x123001 x123002 x123003 x123004)) else (bI.j1 k x5 false x123000 x123001 x123002 x123003 x123004)) else (bI.j1 k x5 false x123000 x123001 x123002 x123003 x123004)) else (bI.j1 k x5 false x123000 x123001 x123002 x123003 x123004))
noncomputable def bI.j1 : Nat → Bool → Bool → ByteArray → Int → Int → Int → ByteArray → Option (Int)
 | 0, _, _, _, _, _, _, _ => none
 | k + 1, x5, x41, x123000, x123001, x123002, x123003, x123004 => if x41 = true then (some 0) else (if x123002 = 254 then (if x123003 = 0 then (if x5 = true then (some 0) else (some 1)) else (some 1)) else (some 1))
end
noncomputable def bI.f (k : Nat) (a0_0 : ByteArray) (l0_1 : List (S28)) (a1_0 : ByteArray) (a1_1 : Int) (a1_2 : Int) (a1_3 : Int) (a1_4 : ByteArray) : Option (Int) := (dP.f a1_1).bind fun t123 => ((aN.f k a1_0 a0_0).bind fun t124 => (if t124 = true then (if a1_2 = 1 then (bI.j0 k t123 t123 a1_0 a1_1 a1_2 a1_3 a1_4) else (bI.j0 k t123 false a1_0 a1_1 a1_2 a1_3 a1_4)) else (some 10)))
theorem bI.calls (k : Nat) (a0_0 : ByteArray) (A0_1 : Option Addr) (c0_1 : Nat) (l0_1 : List (S28)) (a1_0 : ByteArray) (a1_1 : Int) (a1_2 : Int) (a1_3 : Int) (a1_4 : ByteArray) (r : Int) (w : World) (hr0_1 : Kd.C k28 w A0_1 l0_1.length l0_1) (hc0_1 : l0_1.length ≤ c0_1) (h : bI.f k a0_0 l0_1 a1_0 a1_1 a1_2 a1_3 a1_4 = some r) :
    Calls Tryz.prog 61 #[.agg #[.string a0_0, .slice A0_1 l0_1.length c0_1], .agg #[.string a1_0, .int .i64 a1_1, .int .i64 a1_2, .int .i64 a1_3, .string a1_4]] w fun e w' => e = .returned (.int .i64 r) ∧ Below w.heap.size w w' := by
  have hu36 := Tryz.underlying36
  have hu28 := Tryz.underlying28
  have HR0_1 := ah.mk hr0_1
  have HC0_1 := ah.mk hc0_1
  clear hr0_1 hc0_1
  have HB := ah.mk (Below.refl w.heap.size w)
  have H : ((dP.f a1_1).bind fun t123 => ((aN.f k a1_0 a0_0).bind fun t124 => (if t124 = true then (if a1_2 = 1 then (bI.j0 k t123 t123 a1_0 a1_1 a1_2 a1_3 a1_4) else (bI.j0 k t123 false a1_0 a1_1 a1_2 a1_3 a1_4)) else (some 10)))) = some r := h
  clear h
  obtain ⟨t123, A3, H⟩ := bZ H
  obtain ⟨t124, A4, H⟩ := bZ H
  by_cases c5 : t124 = true
  ·subst c5
   rw [if_pos rfl] at H
   have HC6 := ah.mk H
   clear H
   go_enter Tryz.func61, Tryz.ntmps61
   go_upto_region 4 with (first | (((refine be_ (N := 2) (cs := #[.string a0_0, .slice A0_1 l0_1.length c0_1]) (t := 36) ?_)); intro gb121 hg w7 hbox hb; have BK121 := ah.mk (hbox); have GW121 := ah.mk (ge_ hg (av HB.out)); have GE121 := ah.mk (ge_ hg (av HB.out)); replace HB := ah.mk (au HB.out hb); clear hb hbox hg) | (((refine be_ (N := 3) (cs := #[.string a1_0, .int .i64 a1_1, .int .i64 a1_2, .int .i64 a1_3, .string a1_4]) (t := 28) ?_)); intro gb122 hg w8 hbox hb; have BK122 := ah.mk (hbox); have GW122 := ah.mk (ge_ hg (av HB.out)); have GE122 := ah.mk (ge_ hg (av HB.out)); have NB121_122 := ah.mk (nl_ hg (by ((exact BK121.out)))); have NB122_121 := ah.mk (nr_ hg (by ((exact BK121.out)))); replace BK121 := ah.mk (aD (by ((exact BK121.out))) hb); replace HB := ah.mk (au HB.out hb); clear hb hbox hg; have hnb9 := NB122_121.out; have hnc9 := NB121_122.out; obtain ⟨hcz10_0, hcz10_1, hcz10_2, hcz10_3, hcz10_4, hfz10_0, hfz10_1, hfz10_2, hfz10_3, hfz10_4⟩ := z5_ BK122.out) | (refine gl_ (some 8) Tryz.func93 #[.int .i64 a1_1] ?_; (with_reducible refine (dP.calls a1_1 t123 _ A3.out).mono ?_); rintro e w' ⟨rfl, ⟨nd, rfl⟩⟩; refine ⟨_, rfl, ?_⟩; obtain ⟨hcz11_0, hcz11_1, hfz11_0, hfz11_1⟩ := z2_ BK121.out) | (refine gl_ (some 13) Tryz.func28 #[.string a1_0, .string a0_0] ?_; (with_reducible refine (aN.calls k a1_0 a0_0 _ _ A4.out).mono ?_); rintro e w12 ⟨rfl, hb⟩; refine ⟨_, rfl, ?_⟩; replace BK121 := ah.mk (aD (by ((exact BK121.out))) hb); replace BK122 := ah.mk (aD (by ((exact BK122.out))) hb); replace HB := ah.mk (au (by repeat ((with_reducible first | exact HB.out | apply aR))) hb); (try clear hb)))
   go_cut [20] (fun v20 wc => ∃ (kq : Nat) (x20_5 : Bool), v20 = .bool x20_5 ∧ ah (bI.j0 kq t123 x20_5 a1_0 a1_1 a1_2 a1_3 a1_4 = some r) ∧ ah (kq ≤ k) ∧ ah (wc.heap[gb121]? = some (.cells #[.string a0_0, (.slice A0_1 l0_1.length c0_1)] 36 (0, 0))) ∧ ah (wc.heap[gb122]? = some (.cells #[.string a1_0, .int .i64 a1_1, .int .i64 a1_2, .int .i64 a1_3, .string a1_4] 28 (0, 0))) ∧ ah (Below w.heap.size w wc))
   case first =>
    have H := HC6.out
    clear HC6
    by_cases c13 : a1_2 = 1
    focus
     rw [if_pos c13] at H
     have c13b0 : (a1_2 == 1) = true := beq_iff_eq.mpr c13
     have c13b1 : (a1_2 != 1) = false := bne_eq_false_iff_eq.mpr c13
     clear c13
    rotate_left
    focus
     rw [if_neg c13] at H
     have c13b0 : (a1_2 == 1) = false := beq_eq_false_iff_ne.mpr c13
     have c13b1 : (a1_2 != 1) = true := bne_iff_ne.mpr c13
    rotate_left
    all_goals
     (skip)
     have H' := ah.mk H
     clear H
     have hnb14 := NB122_121.out
     have hnc14 := NB121_122.out
     obtain ⟨hcz15_0, hcz15_1, hcz15_2, hcz15_3, hcz15_4, hfz15_0, hfz15_1, hfz15_2, hfz15_3, hfz15_4⟩ := z5_ BK122.out
     go_wp2
     go_meet
    ·case rel => exact ⟨_, (t123), (by rfl), H', ⟨by omega⟩, ⟨by (with_reducible repeat ((refine ay ?_ _))); exact BK121.out⟩, ⟨by (with_reducible repeat ((refine ay ?_ _))); exact BK122.out⟩, ⟨HB.out⟩⟩
    ·case rel => exact ⟨_, (false), (by rfl), H', ⟨by omega⟩, ⟨by (with_reducible repeat ((refine ay ?_ _))); exact BK121.out⟩, ⟨by (with_reducible repeat ((refine ay ?_ _))); exact BK122.out⟩, ⟨HB.out⟩⟩
   case rest =>
    clear HC6
    (try clear hcz10_0)
    (try clear hcz10_1)
    (try clear hcz10_2)
    (try clear hcz10_3)
    (try clear hcz10_4)
    (try clear hcz11_0)
    (try clear hcz11_1)
    (try clear hfz10_0)
    (try clear hfz10_1)
    (try clear hfz10_2)
    (try clear hfz10_3)
    (try clear hfz10_4)
    (try clear hfz11_0)
    (try clear hfz11_1)
    obtain ⟨kq, x20_5, rfl, HA, HJ5, BK121, BK122, HB⟩ := hcut
    cases kq with
    | zero => exact absurd HA.out (by simp [bI.j0])
    | succ kj5 =>
     have H := HA.out
     clear HA
     simp only [bI.j0] at H
     by_cases c18 : x20_5 = true
     ·subst c18
      rw [if_pos rfl] at H
      obtain rfl := Option.some.inj H
      go_wp2
      go_ret
      exact ⟨by rfl, HB.out⟩
     ·replace c18 := Bool.eq_false_iff.mpr c18
      subst c18
      rw [if_neg ff_] at H
      have HC19 := ah.mk H
      clear H
      go_upto_region 6 with (fail)
      go_cut [41] (fun v41 wc => ∃ (kq : Nat) (x41_18 : Bool), v41 = .bool x41_18 ∧ ah (bI.j1 kq t123 x41_18 a1_0 a1_1 a1_2 a1_3 a1_4 = some r) ∧ ah (kq ≤ kj5) ∧ ah (wc.heap[gb121]? = some (.cells #[.string a0_0, (.slice A0_1 l0_1.length c0_1)] 36 (0, 0))) ∧ ah (wc.heap[gb122]? = some (.cells #[.string a1_0, .int .i64 a1_1, .int .i64 a1_2, .int .i64 a1_3, .string a1_4] 28 (0, 0))) ∧ ah (Below w.heap.size w wc))
      case first =>
       have H := HC19.out
       clear HC19
       by_cases c20 : a1_2 = 255
       focus
        rw [if_pos c20] at H
        have c20b0 : (a1_2 == 255) = true := beq_iff_eq.mpr c20
        have c20b1 : (a1_2 != 255) = false := bne_eq_false_iff_eq.mpr c20
        clear c20
       rotate_left
       focus
        rw [if_neg c20] at H
        have c20b0 : (a1_2 == 255) = false := beq_eq_false_iff_ne.mpr c20
        have c20b1 : (a1_2 != 255) = true := bne_iff_ne.mpr c20
       rotate_left
       all_goals
        (skip)
       focus
        by_cases c21 : a1_3 = 0
        focus
         rw [if_pos c21] at H
         have c21b0 : (a1_3 == 0) = true := beq_iff_eq.mpr c21
         have c21b1 : (a1_3 != 0) = false := bne_eq_false_iff_eq.mpr c21
         clear c21
         by_cases c22 : a1_4.toList = ([] : List UInt8)
         focus
          rw [if_pos c22] at H
          have c22b0 : a1_4.toList.isEmpty = true := List.isEmpty_iff.mpr c22
          have c22b1 : (!a1_4.toList.isEmpty) = false := by rw [List.isEmpty_iff.mpr c22]; rfl
          clear c22
          by_cases c23 : t123 = true
          focus
           subst c23
           rw [if_pos rfl] at H
          rotate_left
          focus
           replace c23 := Bool.eq_false_iff.mpr c23
           subst c23
           rw [if_neg ff_] at H
          rotate_left
         rotate_left 2
         focus
          rw [if_neg c22] at H
          have c22b0 : a1_4.toList.isEmpty = false := Bool.eq_false_iff.mpr (fun h_ => c22 (List.isEmpty_iff.mp h_))
          have c22b1 : (!a1_4.toList.isEmpty) = true := by rw [Bool.eq_false_iff.mpr (fun h_ => c22 (List.isEmpty_iff.mp h_))]; rfl
         rotate_left
        rotate_left 3
        focus
         rw [if_neg c21] at H
         have c21b0 : (a1_3 == 0) = false := beq_eq_false_iff_ne.mpr c21
         have c21b1 : (a1_3 != 0) = true := bne_iff_ne.mpr c21
        rotate_left
       rotate_left 4
       rotate_left
       all_goals
        have H' := ah.mk H
        clear H
        have hnb24 := NB122_121.out
        have hnc24 := NB121_122.out
        obtain ⟨hcz25_0, hcz25_1, hcz25_2, hcz25_3, hcz25_4, hfz25_0, hfz25_1, hfz25_2, hfz25_3, hfz25_4⟩ := z5_ BK122.out
        go_wp2
        go_meet
       ·case rel => exact ⟨_, (true), (by rfl), H', ⟨by have := HJ5.out; omega⟩, ⟨by (with_reducible repeat ((refine ay ?_ _))); exact BK121.out⟩, ⟨by (with_reducible repeat ((refine ay ?_ _))); exact BK122.out⟩, ⟨HB.out⟩⟩
       ·case rel => exact ⟨_, ((a1_1 == 255)), (by rfl), H', ⟨by have := HJ5.out; omega⟩, ⟨by (with_reducible repeat ((refine ay ?_ _))); exact BK121.out⟩, ⟨by (with_reducible repeat ((refine ay ?_ _))); exact BK122.out⟩, ⟨HB.out⟩⟩
       ·case rel => exact ⟨_, (false), (by rfl), H', ⟨by have := HJ5.out; omega⟩, ⟨by (with_reducible repeat ((refine ay ?_ _))); exact BK121.out⟩, ⟨by (with_reducible repeat ((refine ay ?_ _))); exact BK122.out⟩, ⟨HB.out⟩⟩
       ·case rel => exact ⟨_, (false), (by rfl), H', ⟨by have := HJ5.out; omega⟩, ⟨by (with_reducible repeat ((refine ay ?_ _))); exact BK121.out⟩, ⟨by (with_reducible repeat ((refine ay ?_ _))); exact BK122.out⟩, ⟨HB.out⟩⟩
       ·case rel => exact ⟨_, (false), (by rfl), H', ⟨by have := HJ5.out; omega⟩, ⟨by (with_reducible repeat ((refine ay ?_ _))); exact BK121.out⟩, ⟨by (with_reducible repeat ((refine ay ?_ _))); exact BK122.out⟩, ⟨HB.out⟩⟩
      case rest =>
       clear HC19
       obtain ⟨kq, x41_18, rfl, HA, HJ18, BK121, BK122, HB⟩ := hcut
       cases kq with
       | zero => exact absurd HA.out (by simp [bI.j1])
       | succ kj18 =>
        have H := HA.out
        clear HA
        simp only [bI.j1] at H
        by_cases c34 : x41_18 = true
        focus
         subst c34
         rw [if_pos rfl] at H
         obtain rfl := Option.some.inj H
        rotate_left
        focus
         replace c34 := Bool.eq_false_iff.mpr c34
         subst c34
         rw [if_neg ff_] at H
         by_cases c35 : a1_2 = 254
         focus
          rw [if_pos c35] at H
          have c35b0 : (a1_2 == 254) = true := beq_iff_eq.mpr c35
          have c35b1 : (a1_2 != 254) = false := bne_eq_false_iff_eq.mpr c35
          clear c35
          by_cases c36 : a1_3 = 0
          focus
           rw [if_pos c36] at H
           have c36b0 : (a1_3 == 0) = true := beq_iff_eq.mpr c36
           have c36b1 : (a1_3 != 0) = false := bne_eq_false_iff_eq.mpr c36
           clear c36
           by_cases c37 : t123 = true
           focus
            subst c37
            rw [if_pos rfl] at H
           rotate_left
           focus
            replace c37 := Bool.eq_false_iff.mpr c37
            subst c37
            rw [if_neg ff_] at H
           rotate_left
          rotate_left 2
          focus
           rw [if_neg c36] at H
           have c36b0 : (a1_3 == 0) = false := beq_eq_false_iff_ne.mpr c36
           have c36b1 : (a1_3 != 0) = true := bne_iff_ne.mpr c36
          rotate_left
         rotate_left 3
         focus
          rw [if_neg c35] at H
          have c35b0 : (a1_2 == 254) = false := beq_eq_false_iff_ne.mpr c35
          have c35b1 : (a1_2 != 254) = true := bne_iff_ne.mpr c35
         rotate_left
         all_goals
          obtain rfl := Option.some.inj H
          have hnb38 := NB122_121.out
          have hnc38 := NB121_122.out
          obtain ⟨hcz39_0, hcz39_1, hcz39_2, hcz39_3, hcz39_4, hfz39_0, hfz39_1, hfz39_2, hfz39_3, hfz39_4⟩ := z5_ BK122.out
        rotate_left 4
        all_goals
         go_wp2
         go_ret
         exact ⟨by rfl, HB.out⟩
  ·replace c5 := Bool.eq_false_iff.mpr c5
   subst c5
   rw [if_neg ff_] at H
   obtain rfl := Option.some.inj H
   go_enter Tryz.func61, Tryz.ntmps61
   go_wp2_with (first | (((refine be_ (N := 2) (cs := #[.string a0_0, .slice A0_1 l0_1.length c0_1]) (t := 36) ?_)); intro gb121 hg w46 hbox hb; have BK121 := ah.mk (hbox); have GW121 := ah.mk (ge_ hg (av HB.out)); have GE121 := ah.mk (ge_ hg (av HB.out)); replace HB := ah.mk (au HB.out hb); clear hb hbox hg) | (((refine be_ (N := 3) (cs := #[.string a1_0, .int .i64 a1_1, .int .i64 a1_2, .int .i64 a1_3, .string a1_4]) (t := 28) ?_)); intro gb122 hg w47 hbox hb; have BK122 := ah.mk (hbox); have GW122 := ah.mk (ge_ hg (av HB.out)); have GE122 := ah.mk (ge_ hg (av HB.out)); have NB121_122 := ah.mk (nl_ hg (by ((exact BK121.out)))); have NB122_121 := ah.mk (nr_ hg (by ((exact BK121.out)))); replace BK121 := ah.mk (aD (by ((exact BK121.out))) hb); replace HB := ah.mk (au HB.out hb); clear hb hbox hg; have hnb48 := NB122_121.out; have hnc48 := NB121_122.out; obtain ⟨hcz49_0, hcz49_1, hcz49_2, hcz49_3, hcz49_4, hfz49_0, hfz49_1, hfz49_2, hfz49_3, hfz49_4⟩ := z5_ BK122.out) | (refine gl_ (some 8) Tryz.func93 #[.int .i64 a1_1] ?_; (with_reducible refine (dP.calls a1_1 t123 _ A3.out).mono ?_); rintro e w' ⟨rfl, ⟨nd, rfl⟩⟩; refine ⟨_, rfl, ?_⟩; obtain ⟨hcz50_0, hcz50_1, hfz50_0, hfz50_1⟩ := z2_ BK121.out) | (refine gl_ (some 13) Tryz.func28 #[.string a1_0, .string a0_0] ?_; (with_reducible refine (aN.calls k a1_0 a0_0 _ _ A4.out).mono ?_); rintro e w51 ⟨rfl, hb⟩; refine ⟨_, rfl, ?_⟩; replace BK121 := ah.mk (aD (by ((exact BK121.out))) hb); replace BK122 := ah.mk (aD (by ((exact BK122.out))) hb); replace HB := ah.mk (au (by repeat ((with_reducible first | exact HB.out | apply aR))) hb); (try clear hb)))
   go_ret
   exact ⟨by rfl, HB.out⟩
end Go.Y.PPs
namespace Go.Y.PPs
open Go.Proofs.aj.aC Go.Proofs.aj.aT Go.Proofs.aj.aV Go.Y.Given Go.Y.PRd Go.Y.PRr Go.Y.PZo Go.Y.PZf Go.Y.PZe Go.Y.PZh Go.Y.PPo
attribute [local go_sem] dK dN dY dX dB dA dL dM
noncomputable def dH.l0 : Nat → List (S28) → Int → ByteArray → List (S28) → Option (Int)
 | 0, _, _, _, _ => none
 | k + 1, x1, x5, x126000, x126001 => if x5 < (x1.length : Int) then (if 0 ≤ x5 then ((bI.f k x126000 x126001 ((ak x1 x5).f0) ((ak x1 x5).f1) ((ak x1 x5).f2) ((ak x1 x5).f3) ((ak x1 x5).f4)).bind fun t127 => (if t127 = 0 then (dH.l0 k x1 (wrap64 (x5 + 1)) x126000 x126001) else (some t127))) else (none)) else (some 0)
noncomputable def dH.f (k : Nat) (a0_0 : ByteArray) (l0_1 : List (S28)) (l1 : List (S28)) : Option (Int) := dH.l0 k l1 0 a0_0 l0_1
theorem dH.calls (k : Nat) (a0_0 : ByteArray) (A0_1 : Option Addr) (c0_1 : Nat) (l0_1 : List (S28)) (A1 : Option Addr) (c1 : Nat) (l1 : List (S28)) (r : Int) (w : World) (hr0_1 : Kd.C k28 w A0_1 l0_1.length l0_1) (hc0_1 : l0_1.length ≤ c0_1) (hr1 : Kd.C k28 w A1 l1.length l1) (hc1 : l1.length ≤ c1) (h : dH.f k a0_0 l0_1 l1 = some r) :
    Calls Tryz.prog 24 #[.agg #[.string a0_0, .slice A0_1 l0_1.length c0_1], .slice A1 l1.length c1] w fun e w' => e = .returned (.int .i64 r) ∧ Below w.heap.size w w' := by
  have hu36 := Tryz.underlying36
  have hu28 := Tryz.underlying28
  have HR0_1 := ah.mk hr0_1
  have HC0_1 := ah.mk hc0_1
  clear hr0_1 hc0_1
  have HR1 := ah.mk hr1
  have HC1 := ah.mk hc1
  clear hr1 hc1
  have HB := ah.mk (Below.refl w.heap.size w)
  have H : (dH.l0 k l1 0 a0_0 l0_1) = some r := h
  clear h
  have H' := ah.mk H
  clear H
  go_enter Tryz.func24, Tryz.ntmps24
  go_wp2_with (((((refine be_ (N := 2) (cs := #[.string a0_0, .slice A0_1 l0_1.length c0_1]) (t := 36) ?_)); intro gb125 hg w3 hbox hb; have BK125 := ah.mk (hbox); have GW125 := ah.mk (ge_ hg (av HB.out)); have GE125 := ah.mk (ge_ hg (av HB.out)); replace HB := ah.mk (au HB.out hb); clear hb hbox hg)))
  go_loopg [5] k (fun kq v5 w' => ∃ (x5_1 : Int), v5 = .int .i64 x5_1 ∧ ah (dH.l0 kq l1 x5_1 a0_0 l0_1 = some r) ∧ ah (kq ≤ k) ∧ ah (w'.heap[gb125]? = some (.cells #[.string a0_0, (.slice A0_1 l0_1.length c0_1)] 36 (0, 0))) ∧ ah (Below w.heap.size w w'))
  case atStart => exact ⟨(0), (by rfl), H', ⟨Nat.le_refl _⟩, ⟨by (with_reducible repeat ((refine ay ?_ _))); exact BK125.out⟩, ⟨HB.out⟩⟩
  case round =>
   clear H'
   obtain ⟨x5_1, rfl, HA, HK1, BK125, HB⟩ := hrel
   cases gk with
   | zero => exact absurd HA.out (by simp [dH.l0])
   | succ k1 =>
    have H := HA.out
    clear HA
    simp only [dH.l0] at H
    by_cases c4 : x5_1 < (l1.length : Int)
    ·rw [if_pos c4] at H
     have c4b0 : decide (x5_1 < (l1.length : Int)) = true := decide_eq_true c4
     clear c4
     obtain ⟨c5b0, H⟩ := eU H
     obtain ⟨t127, A6, H⟩ := bZ H
     by_cases c7 : t127 = 0
     focus
      rw [if_pos c7] at H
      have c7b0 : (t127 == 0) = true := beq_iff_eq.mpr c7
      have c7b1 : (t127 != 0) = false := bne_eq_false_iff_eq.mpr c7
      clear c7
      have H' := ah.mk H
      clear H
     rotate_left
     focus
      rw [if_neg c7] at H
      have c7b0 : (t127 == 0) = false := beq_eq_false_iff_ne.mpr c7
      have c7b1 : (t127 != 0) = true := bne_iff_ne.mpr c7
      obtain rfl := Option.some.inj H
     rotate_left
     all_goals
      (try go_wp2)
      replace BK125 := ah.mk (fu BK125.out)
      replace HB := ah.mk (bW HB.out)
      have p126 : 0 ≤ (x5_1 : Int) := of_decide_eq_true (by assumption)
      have q126 : x5_1 < (l1.length : Int) := of_decide_eq_true (by assumption)
      obtain ⟨ad126, e126, hx126_0, hx126_1, hx126_2, hx126_3, hx126_4⟩ := eX HR1.out x5_1 p126 q126
      have hw126_4 := hx126_4
      have hw126_3 := hx126_3
      have hw126_2 := hx126_2
      have hw126_1 := hx126_1
      have hw126_0 := hx126_0
      cases e126
      replace hx126_0 := kp_ HB.out hx126_0
      replace hx126_1 := kp_ HB.out hx126_1
      replace hx126_2 := kp_ HB.out hx126_2
      replace hx126_3 := kp_ HB.out hx126_3
      replace hx126_4 := kp_ HB.out hx126_4
      replace p126 := eq_true p126
      replace q126 := eq_true q126
      refine jd (n := 7) (ds := []) (ls 7 0) (by kernel_rfl) rfl rfl (c2_ BK125.out (ec_ (kp_ HB.out hw126_0) (ec_ (kp_ HB.out hw126_1) (ec_ (kp_ HB.out hw126_2) (ec_ (kp_ HB.out hw126_3) (ed_ (kp_ HB.out hw126_4))))))) (fun hHeld => ?_)
      generalize wr.drew = w8 at BK125 HB hx126_0 hx126_1 hx126_2 hx126_3 hx126_4 hHeld ⊢
      refine jG (i := 1) (N := some 14) (v := ?_) (a' := ?_) (ls 7 2) rfl rfl (by kernel_rfl) (fun _ _ _ h => h) (Or.inl ⟨by rfl, ?_⟩) ?_ ?_
      rotate_left
      ·intro w'
       go_simp
       with_reducible rfl
      rotate_left
      ·simp only [Act.put, sA_, sZ_, sS_, fA, gq]
       rfl
      refine jG (i := 2) (N := some 15) (v := ?_) (a' := ?_) (ls 7 6) rfl rfl (by kernel_rfl) (fun _ _ _ h => h) (Or.inl ⟨by rfl, ?_⟩) ?_ ?_
      rotate_left
      ·intro w'
       go_simp
       with_reducible rfl
      rotate_left
      ·simp only [Act.put, sA_, sZ_, sS_, fA, gq]
       rfl
      refine jG (i := 3) (N := some 16) (v := ?_) (a' := ?_) (ls 7 14) rfl rfl (by kernel_rfl) (fun _ _ _ h => h) (Or.inl ⟨by rfl, ?_⟩) ?_ ?_
      rotate_left
      ·intro w'
       go_simp
       with_reducible rfl
      rotate_left
      ·simp only [Act.put, sA_, sZ_, sS_, fA, gq]
       rfl
      refine lu (i := 0) (N := some 13) (v := ?_) (a' := ?_) (ls 7 15) rfl rfl (by kernel_rfl) (fun _ _ _ h => h) (Or.inl ⟨by rfl, ?_⟩) hHeld ?_ ?_
      rotate_left
      ·rintro w' ⟨s0, s1, s2, s3, s4, s5, s6⟩
       go_simp
       with_reducible rfl
      rotate_left
      ·simp only [Act.put, sA_, sZ_, sS_, fA, gq]
       rfl
      refine lu (i := 4) (N := some 17) (v := ?_) (a' := ?_) (ls 7 31) rfl rfl (by kernel_rfl) (fun _ _ _ h => h) (Or.inl ⟨by rfl, ?_⟩) hHeld ?_ ?_
      rotate_left
      ·rintro w' ⟨s0, s1, s2, s3, s4, s5, s6⟩
       go_simp
       with_reducible rfl
      rotate_left
      ·simp only [Act.put, sA_, sZ_, sS_, fA, gq]
       rfl
      refine oV (i := 5) (N := some 18) (ls 7 63) rfl rfl (by kernel_rfl) (by decide) (fun K hK => ?_)
      refine gs_ Tryz.func61 #[.agg #[.string a0_0, .slice A0_1 l0_1.length c0_1], .agg #[.string ((ak l1 x5_1).f0), .int .i64 ((ak l1 x5_1).f1), .int .i64 ((ak l1 x5_1).f2), .int .i64 ((ak l1 x5_1).f3), .string ((ak l1 x5_1).f4)]] ?_
      with_reducible refine (bI.calls k1 a0_0 _ _ l0_1 ((ak l1 x5_1).f0) ((ak l1 x5_1).f1) ((ak l1 x5_1).f2) ((ak l1 x5_1).f3) ((ak l1 x5_1).f4) t127 _ ?side1 ?side2 A6.out).mono ?_
      (case side1 => repeat ((exact (Kd.fC HR0_1.out HB.out))))
      (case side2 => exact HC0_1.out)
      rintro e w9 ⟨rfl, hb⟩
      refine ⟨_, rfl, ?_⟩
      replace BK125 := ah.mk (aD (by ((exact BK125.out))) hb)
      replace HB := ah.mk (au HB.out hb)
      (try clear hb)
      refine hK.out _ _ (c2_ BK125.out (ec_ (kp_ HB.out hw126_0) (ec_ (kp_ HB.out hw126_1) (ec_ (kp_ HB.out hw126_2) (ec_ (kp_ HB.out hw126_3) (ed_ (kp_ HB.out hw126_4))))))) (fun hHeld => ?_)
      clear hK K
      refine nm_ (N := (some 18)) ?_
      refine jG (i := 6) (N := some 6) (v := ?_) (a' := ?_) (ls 7 127) rfl rfl (by kernel_rfl) (fun _ _ _ h => h) (Or.inl ⟨by rfl, ?_⟩) ?_ ?_
      rotate_left
      ·intro w'
       go_simp
       with_reducible rfl
      rotate_left
      ·simp only [Act.put, sA_, sZ_, sS_, fA, gq]
       rfl
      refine lC (by kernel_rfl) ?_
      (try go_wp2)
     ·go_roundg k1
      case measure => have := HK1.out; omega
      case rel => exact ⟨(wrap64 (x5_1 + 1)), (by rfl), H', ⟨by have := HK1.out; omega⟩, ⟨by (with_reducible repeat ((refine ay ?_ _))); exact BK125.out⟩, ⟨HB.out⟩⟩
     ·go_ret
      exact ⟨by rfl, HB.out⟩
    ·rw [if_neg c4] at H
     have c4b0 : decide (x5_1 < (l1.length : Int)) = false := decide_eq_false c4
     clear c4
     obtain rfl := Option.some.inj H
     go_wp2
     go_ret
     exact ⟨by rfl, HB.out⟩
end Go.Y.PPs
namespace Go.Y.Rrs
open Go.Proofs.aj.aC Go.Proofs.aj.aT Go.Proofs.aj.aV Go.Y.Given Go.Y.PRd Go.Y.PRr Go.Y.PZo Go.Y.PZf Go.Y.PZh Go.Y.PPo Go.Y.PPs Go.Y.Oct Go.Y.Name Go.Y.fq Go.Y.eD Go.Y.dJ
def lG (a : ByteArray) (r : RR) : Int :=
 if jW r.f0 a = true then (if r.f2 = 255 then (if r.f4.toList = [] then (if r.f3 = 0 then (if (jg r.f1 || r.f1 == 255) = true then 0 else 1) else 1) else 1)
  else if r.f2 = 254 then (if r.f3 = 0 then (if jg r.f1 = true then 0 else 1) else 1) else if r.f2 = 1 then (if jg r.f1 = true then 0 else 1) else 1) else 10
theorem zT (b : Bool) (r : RR) : Ev (fun k => eT.j0 k b r.f0 r.f1 r.f2 r.f3 r.f4) (if r.f3 = 0 then (if b = true then 0 else 1) else 1) := by
 refine Ev.step (f := fun _ => if r.f3 = 0 then (if b = true then some 0 else some 1) else some 1) (fun k => by rw [eT.j0]) ?_
 by_cases h : r.f3 = 0
 ·simp only [if_pos h]
  cases b
  ·exact Ev.now _
  ·exact Ev.now _
 ·simp only [if_neg h]; exact Ev.now _
theorem Cu (a : ByteArray) (s : List RR) (z : Int) (r : RR) : Ev (fun k => eT.f k a s z r.f0 r.f1 r.f2 r.f3 r.f4) (lG a r) := by
 unfold eT.f lG PPo.iT.f
 simp only [Option.bind_some]
 refine Ev.bind (IJ _ _) ?_
 cases jW r.f0 a
 ·simp only [Bool.false_eq_true, if_false]; exact Ev.now _
 ·simp only [if_true, xP, Option.bind_some]
  by_cases h1 : r.f2 = 255
  ·simp only [if_pos h1]
   by_cases h2 : r.f4.toList = []
   ·simp only [if_pos h2]
    cases jg r.f1
    ·simp only [Bool.false_eq_true, if_false, Bool.false_or]; exact zT _ r
    ·simp only [if_true, Bool.true_or]; exact zT true r
   ·simp only [if_neg h2]; exact Ev.now _
  ·simp only [if_neg h1]
   by_cases h2 : r.f2 = 254
   ·simp only [if_pos h2]; exact zT _ r
   ·simp only [if_neg h2]
    by_cases h3 : r.f2 = 1
    ·simp only [if_pos h3]
     cases jg r.f1
     ·exact Ev.now _
     ·exact Ev.now _
    ·simp only [if_neg h3]; exact Ev.now _
theorem LV (t : Int) : dP.f t = some (jg t) := by
 have h := xP t
 unfold fU.f at h
 unfold dP.f
 exact h
theorem BL (a : ByteArray) (s : List RR) (r : RR) : Ev (fun k => bI.f k a s r.f0 r.f1 r.f2 r.f3 r.f4) (lG a r) := by
 have j1 : ∀ b : Bool, Ev (fun k => bI.j1 k (jg r.f1) b r.f0 r.f1 r.f2 r.f3 r.f4) (if b = true then 0 else if r.f2 = 254 then (if r.f3 = 0 then (if jg r.f1 = true then 0 else 1) else 1) else 1) := fun b => by
  refine Ev.step (f := fun _ => if b = true then some 0 else if r.f2 = 254 then (if r.f3 = 0 then (if jg r.f1 = true then some 0 else some 1) else some 1) else some 1) (fun k => by rw [bI.j1]) (Ev.const ?_)
  repeat' split
  all_goals rfl
 have j0 : ∀ b : Bool, Ev (fun k => bI.j0 k (jg r.f1) b r.f0 r.f1 r.f2 r.f3 r.f4) (if b = true then 0 else if r.f2 = 255 then (if r.f4.toList = [] then (if r.f3 = 0 then (if (jg r.f1 || r.f1 == 255) = true then 0 else 1) else 1) else 1) else if r.f2 = 254 then (if r.f3 = 0 then (if jg r.f1 = true then 0 else 1) else 1) else 1) := fun b => by
  refine Ev.step (fun k => by rw [bI.j0]) ?_
  cases b
  ·simp only [Bool.false_eq_true, if_false]
   by_cases h1 : r.f2 = 255
   ·have h2 : ¬ r.f2 = 254 := by omega
    have f1 := j1 false
    simp only [Bool.false_eq_true, if_false, if_neg h2] at f1
    simp only [if_pos h1]
    by_cases h3 : r.f3 = 0
    ·simp only [if_pos h3]
     by_cases h4 : r.f4.toList = []
     ·simp only [if_pos h4]
      cases hd : jg r.f1
      ·have f2 := j1 (r.f1 == 255)
       simp only [if_neg h2, hd] at f2
       simp only [Bool.false_eq_true, if_false, Bool.false_or]
       exact f2
      ·have f2 := j1 true
       simp only [if_true, hd] at f2
       simp only [if_true, Bool.true_or]
       exact f2
     ·simp only [if_neg h4]; exact f1
    ·simp only [if_neg h3]
     have : (if r.f4.toList = [] then (1 : Int) else 1) = 1 := by split <;> rfl
     rw [this]; exact f1
   ·simp only [if_neg h1]
    have f1 := j1 false
    simp only [Bool.false_eq_true, if_false] at f1
    exact f1
  ·simp only [if_true]; exact Ev.now _
 unfold bI.f lG
 simp only [LV, Option.bind_some]
 refine Ev.bind (yQ _ _) ?_
 cases jW r.f0 a
 ·simp only [Bool.false_eq_true, if_false]; exact Ev.now _
 ·simp only [if_true]
  by_cases h1 : r.f2 = 1
  ·have h2 : ¬ r.f2 = 255 := by omega
   have h3 : ¬ r.f2 = 254 := by omega
   simp only [if_pos h1]
   have f := j0 (jg r.f1)
   simp only [if_neg h2, if_neg h3] at f ⊢
   exact f
  ·simp only [if_neg h1]
   have f := j0 false
   simp only [Bool.false_eq_true, if_false] at f
   have e : (if r.f2 = 254 then (if r.f3 = 0 then (if jg r.f1 = true then (0 : Int) else 1) else 1) else if r.f2 = 1 then (if jg r.f1 = true then 0 else 1) else 1) = (if r.f2 = 254 then (if r.f3 = 0 then (if jg r.f1 = true then 0 else 1) else 1) else 1) := by rw [if_neg h1]
   simp only [if_neg h1] at e ⊢
   exact f
theorem yP {a : ByteArray} {r : RR} (h : lG a r = 0) : bE r.f0 = true ∧ jW r.f0 a = true := by
 unfold lG at h
 split at h
 ·rename_i hu
  refine ⟨?_, hu⟩
  cases hr : bE r.f0
  ·rw [yj (.inl hr)] at hu; cases hu
  ·rfl
 ·omega
def mX (a : ByteArray) : List RR → Int
 | [] => 0
 | r :: l => if lG a r = 0 then mX a l else lG a r
theorem Bt (a : ByteArray) (s : List RR) (z : Int) (l : List RR) (hn : l.length ≤ 1000000) : ∀ (d i : Nat), l.length ≤ i + d → i ≤ l.length → Ev (fun k => dZ.l0 k l (l.length : Int) (i : Int) a s z) (mX a (l.drop i)) := by
 have hend : ∀ i : Nat, l.length ≤ i → Ev (fun k => dZ.l0 k l (l.length : Int) (i : Int) a s z) (mX a (l.drop i)) := by
  intro i hd
  rw [List.drop_of_length_le hd]
  exact Ev.step (f := fun _ => some 0) (fun k => by rw [dZ.l0]; rw [if_neg (by omega)]) (Ev.now _)
 intro d
 induction d with
 | zero => exact fun i hd hi => hend i (by omega)
 | succ d ih =>
  intro i hd hi0
  by_cases hi : i < l.length
  ·have e1 : wrap64 ((i : Int) + 1) = ((i + 1 : Nat) : Int) := by unfold wrap64; omega
   have hs : ∀ k, dZ.l0 (k + 1) l (l.length : Int) (i : Int) a s z = (eT.f k a s z (rdR l (i : Int)).f0 (rdR l (i : Int)).f1 (rdR l (i : Int)).f2 (rdR l (i : Int)).f3 (rdR l (i : Int)).f4).bind fun t => if t = 0 then dZ.l0 k l (l.length : Int) ((i + 1 : Nat) : Int) a s z else some t := fun k => by
    rw [dZ.l0, e1]; rw [if_pos (by omega), if_pos (by omega), if_pos (by omega)]
   rw [fB l i hi] at hs
   refine Ev.step hs (Ev.bind (Cu _ _ _ _) ?_)
   rw [List.drop_eq_getElem_cons hi, mX]
   by_cases h0 : lG a l[i] = 0
   ·simp only [if_pos h0]; exact ih (i + 1) (by omega) (by omega)
   ·simp only [if_neg h0]; exact Ev.now _
  ·exact hend i (by omega)
theorem yN (a : ByteArray) (s : List RR) (z : Int) (l : List RR) (hn : l.length ≤ 1000000) : Ev (fun k => dZ.f k a s z l) (mX a l) := by
 have := Bt a s z l hn l.length 0 (by omega) (Nat.zero_le _)
 rw [List.drop_zero] at this
 exact this
theorem Br (a : ByteArray) (s : List RR) (l : List RR) (hn : l.length ≤ 1000000) : ∀ (d i : Nat), l.length ≤ i + d → i ≤ l.length → Ev (fun k => dH.l0 k l (i : Int) a s) (mX a (l.drop i)) := by
 have hend : ∀ i : Nat, l.length ≤ i → Ev (fun k => dH.l0 k l (i : Int) a s) (mX a (l.drop i)) := by
  intro i hd
  rw [List.drop_of_length_le hd]
  exact Ev.step (f := fun _ => some 0) (fun k => by rw [dH.l0]; rw [if_neg (by omega)]) (Ev.now _)
 intro d
 induction d with
 | zero => exact fun i hd hi => hend i (by omega)
 | succ d ih =>
  intro i hd hi0
  by_cases hi : i < l.length
  ·have e1 : wrap64 ((i : Int) + 1) = ((i + 1 : Nat) : Int) := by unfold wrap64; omega
   have hs : ∀ k, dH.l0 (k + 1) l (i : Int) a s = (bI.f k a s (rdR l (i : Int)).f0 (rdR l (i : Int)).f1 (rdR l (i : Int)).f2 (rdR l (i : Int)).f3 (rdR l (i : Int)).f4).bind fun t => if t = 0 then dH.l0 k l ((i + 1 : Nat) : Int) a s else some t := fun k => by
    rw [dH.l0, e1]; rw [if_pos (by omega), if_pos (by omega)]
   rw [fB l i hi] at hs
   refine Ev.step hs (Ev.bind (BL _ _ _) ?_)
   rw [List.drop_eq_getElem_cons hi, mX]
   by_cases h0 : lG a l[i] = 0
   ·simp only [if_pos h0]; exact ih (i + 1) (by omega) (by omega)
   ·simp only [if_neg h0]; exact Ev.now _
  ·exact hend i (by omega)
theorem Fa (a : ByteArray) (s : List RR) (l : List RR) (hn : l.length ≤ 1000000) : Ev (fun k => dH.f k a s l) (mX a l) := by
 have := Br a s l hn l.length 0 (by omega) (Nat.zero_le _)
 rw [List.drop_zero] at this
 exact this
def oh (a : ByteArray) (l : List RR) : List ByteArray := (l.filter fun x => lG a x == 0).map fun x => gX x.f0
noncomputable def vZ (a : ByteArray) (l : List RR) : List ByteArray := qo (oh a l)
theorem Cg {p : Nat → RR → Option Int} {b : RR → Int} : ∀ (l : List RR), (∀ x ∈ l, Ev (fun k => p k x) (b x)) → ∃ K, ∀ k, K ≤ k → ∀ x ∈ l, p k x = some (b x)
 | [], _ => ⟨0, fun k _ x hx => by cases hx⟩
 | y :: l, h => by
  obtain ⟨K, hK⟩ := Cg l fun x hx => h x (List.mem_cons_of_mem _ hx)
  obtain ⟨K', hK'⟩ := h y (List.mem_cons_self ..)
  refine ⟨max K K', fun k hk x hx => ?_⟩
  rcases List.mem_cons.mp hx with rfl | hx
  ·exact hK' k (by omega)
  ·exact hK k (by omega) x hx
theorem Eh (a : ByteArray) (s : List RR) (z : Int) (l : List RR) (hn : l.length ≤ 1000000) : Ev (fun k => iJ.f k a s z l) (vZ a l) := by
 obtain ⟨K, hK⟩ := Cg (p := fun k x => eT.f k a s z x.f0 x.f1 x.f2 x.f3 x.f4) (b := lG a) l fun x _ => Cu a s z x
 refine ⟨K, fun k hk => ?_⟩
 have hm : Di k a s z l := ⟨hn, fun x hx => ⟨lG a x, hK k hk x hx, fun h0 => (yP h0).1⟩⟩
 have hl : ni k a s z l = l.filter fun x => lG a x == 0 := by
  unfold ni
  exact List.filter_congr fun x hx => by rw [hK k hk x hx]; rfl
 show iJ.f k a s z l = _
 unfold iJ.f
 rw [if_pos hm, hl]
 rfl
abbrev lrp : RR := ⟨(⟨#[1, 98, 1, 97, 0]⟩ : ByteArray), 255, 1, 0, (⟨#[]⟩ : ByteArray)⟩
theorem Ef : mX lra [lrp] = 1 := by
 have hu : jW lrp.f0 lra = true := by
  have h := vv lrp.f0 lra 300 (Nat.le_refl _)
  have h2 := pQ (fun k => bB.mono lrp.f0 lra k) (show 20 ≤ 300 by omega) (r := true) (by kernel_rfl)
  rw [h2] at h; exact (Option.some.inj h).symm
 have h1 : lG lra lrp = 1 := by
  unfold lG
  rw [if_pos hu, if_neg (by decide), if_neg (by decide), if_pos rfl]
  decide
 rw [mX, h1]; rfl
theorem wM : Ev (fun k => eZ.f k) true := by
 unfold eZ.f PPs.fZ.f
 simp only [Option.bind_some]
 refine Ev.bind Ho ?_
 simp only [if_true]
 rw [Lv _ _ _ (by simp)]
 simp only [Option.bind_some]
 have hc := yN lra [lr0, lr1] (uK [lr0, lr1]) [lrp] (by simp)
 rw [Ef] at hc
 have hl : ((([lr0, lr1] : List RR).length : Int) = 2) = True := eq_true rfl
 simp only [hl, if_true]
 exact Ev.bind hc (Ev.now _)
end Go.Y.Rrs
namespace Go.Y.PPs
open Go.Proofs.aj.aC Go.Proofs.aj.aT Go.Proofs.aj.aV Go.Y.Given Go.Y.PRd Go.Y.PRr Go.Y.PZo Go.Y.PZf Go.Y.PZe Go.Y.PZh Go.Y.PPo
attribute [local go_sem] dK dN dY dX dB dA dL dM
mutual
noncomputable def aA.l0 : Nat → List (S28) → List ByteArray → Int → ByteArray → List (S28) → Option (List ByteArray)
 | 0, _, _, _, _, _ => none
 | k + 1, x1, x5, x6, x129000, x129001 => if x6 < (x1.length : Int) then (if 0 ≤ x6 then ((bI.f k x129000 x129001 ((ak x1 x6).f0) ((ak x1 x6).f1) ((ak x1 x6).f2) ((ak x1 x6).f3) ((ak x1 x6).f4)).bind fun t130 => (if t130 = 0 then ((aI.f k ((ak x1 x6).f0)).bind fun t132 => (aA.l1 k x1 x5 x6 t132 ([] : List ByteArray) false 0 x129000 x129001)) else (aA.l0 k x1 x5 (wrap64 (x6 + 1)) x129000 x129001))) else (none)) else (some x5)
noncomputable def aA.l1 : Nat → List (S28) → List ByteArray → Int → ByteArray → List ByteArray → Bool → Int → ByteArray → List (S28) → Option (List ByteArray)
 | 0, _, _, _, _, _, _, _, _, _ => none
 | k + 1, x1, x5, x6, x7, x8, x9, x10, x129000, x129001 => if x10 < (x5.length : Int) then (if 0 ≤ x10 then ((aQ.f k x7 (bJ ByteArray.empty x5 x10)).bind fun t137 => (if t137 ≤ 0 then (aA.j2 k x1 x5 x6 x7 x8 x9 x10 t137 (!x9) x129000 x129001) else (aA.j2 k x1 x5 x6 x7 x8 x9 x10 t137 false x129000 x129001))) else (none)) else (if x9 = true then (aA.l0 k x1 x8 (wrap64 (x6 + 1)) x129000 x129001) else (if x8.length < 8796093022208 then (aA.l0 k x1 (x8 ++ [x7]) (wrap64 (x6 + 1)) x129000 x129001) else (none)))
noncomputable def aA.j2 : Nat → List (S28) → List ByteArray → Int → ByteArray → List ByteArray → Bool → Int → Int → Bool → ByteArray → List (S28) → Option (List ByteArray)
 | 0, _, _, _, _, _, _, _, _, _, _, _ => none
 | k + 1, x1, x5, x6, x7, x8, x9, x10, x11, x48, x129000, x129001 => if x48 = true then (if x8.length < 8796093022208 then ((some (x8 ++ [x7] : List ByteArray)).bind fun y138 => (if x11 = 0 then (aA.l1 k x1 x5 x6 x7 y138 true (wrap64 (x10 + 1)) x129000 x129001) else (if 0 ≤ x10 then (if x10 < (x5.length : Int) then (if y138.length < 8796093022208 then (aA.l1 k x1 x5 x6 x7 (y138 ++ [bJ ByteArray.empty x5 x10]) true (wrap64 (x10 + 1)) x129000 x129001) else (none)) else (none)) else (none)))) else (none)) else (if x11 = 0 then (aA.l1 k x1 x5 x6 x7 x8 x9 (wrap64 (x10 + 1)) x129000 x129001) else (if 0 ≤ x10 then (if x10 < (x5.length : Int) then (if x8.length < 8796093022208 then (aA.l1 k x1 x5 x6 x7 (x8 ++ [bJ ByteArray.empty x5 x10]) x9 (wrap64 (x10 + 1)) x129000 x129001) else (none)) else (none)) else (none)))
end
noncomputable def aA.f (k : Nat) (a0_0 : ByteArray) (l0_1 : List (S28)) (l1 : List (S28)) : Option (List ByteArray) := aA.l0 k l1 ([] : List ByteArray) 0 a0_0 l0_1
theorem aA.calls (k : Nat) (a0_0 : ByteArray) (A0_1 : Option Addr) (c0_1 : Nat) (l0_1 : List (S28)) (A1 : Option Addr) (c1 : Nat) (l1 : List (S28)) (r : List ByteArray) (w : World) (hr0_1 : Kd.C k28 w A0_1 l0_1.length l0_1) (hc0_1 : l0_1.length ≤ c0_1) (hr1 : Kd.C k28 w A1 l1.length l1) (hc1 : l1.length ≤ c1) (h : aA.f k a0_0 l0_1 l1 = some r) :
    Calls Tryz.prog 27 #[.agg #[.string a0_0, .slice A0_1 l0_1.length c0_1], .slice A1 l1.length c1] w fun e w' => ∃ v0_ : Value, e = .returned (v0_) ∧ Kd.R Kd.string 9 w' w.heap.size (fun _ => True) v0_ r ∧ Below w.heap.size w w' := by
  have hu36 := Tryz.underlying36
  have hu28 := Tryz.underlying28
  have HR0_1 := ah.mk hr0_1
  have HC0_1 := ah.mk hc0_1
  clear hr0_1 hc0_1
  have HR1 := ah.mk hr1
  have HC1 := ah.mk hc1
  clear hr1 hc1
  have HB := ah.mk (Below.refl w.heap.size w)
  have H : (aA.l0 k l1 ([] : List ByteArray) 0 a0_0 l0_1) = some r := h
  clear h
  have H' := ah.mk H
  clear H
  go_enter Tryz.func27, Tryz.ntmps27
  go_wp2_with (((((refine be_ (N := 2) (cs := #[.string a0_0, .slice A0_1 l0_1.length c0_1]) (t := 36) ?_)); intro gb128 hg w3 hbox hb; have BK128 := ah.mk (hbox); have GW128 := ah.mk (ge_ hg (av HB.out)); have GE128 := ah.mk (ge_ hg (av HB.out)); replace HB := ah.mk (au HB.out hb); clear hb hbox hg)))
  go_loopg [5, 6] k (fun kq v5 v6 w' => ∃ (x5_1 : List ByteArray) (x6_1 : Int), v6 = .int .i64 x6_1 ∧ ah (aA.l0 kq l1 x5_1 x6_1 a0_0 l0_1 = some r) ∧ ah (kq ≤ k) ∧ ah (Kd.R Kd.string 9 w' w.heap.size (fun _ => True) v5 x5_1) ∧ ah (w'.heap[gb128]? = some (.cells #[.string a0_0, (.slice A0_1 l0_1.length c0_1)] 36 (0, 0))) ∧ ah (Below w.heap.size w w'))
  case atStart => exact ⟨(([] : List ByteArray)), (0), (by rfl), H', ⟨Nat.le_refl _⟩, ⟨by (exact Kd.fI _ _ _ _ _)⟩, ⟨by (with_reducible repeat ((refine ay ?_ _))); exact BK128.out⟩, ⟨HB.out⟩⟩
  case round =>
   clear H'
   obtain ⟨x5_1, x6_1, rfl, HA, HK1, HO_5, BK128, HB⟩ := hrel
   cases gk with
   | zero => exact absurd HA.out (by simp [aA.l0])
   | succ k1 =>
    have H := HA.out
    clear HA
    simp only [aA.l0] at H
    by_cases c4 : x6_1 < (l1.length : Int)
    ·rw [if_pos c4] at H
     have c4b0 : decide (x6_1 < (l1.length : Int)) = true := decide_eq_true c4
     clear c4
     obtain ⟨c5b0, H⟩ := eU H
     obtain ⟨t130, A6, H⟩ := bZ H
     by_cases c7 : t130 = 0
     focus
      rw [if_pos c7] at H
      have c7b0 : (t130 == 0) = true := beq_iff_eq.mpr c7
      have c7b1 : (t130 != 0) = false := bne_eq_false_iff_eq.mpr c7
      clear c7
      obtain ⟨t132, A8, H⟩ := bZ H
     rotate_left
     focus
      rw [if_neg c7] at H
      have c7b0 : (t130 == 0) = false := beq_eq_false_iff_ne.mpr c7
      have c7b1 : (t130 != 0) = true := bne_iff_ne.mpr c7
     rotate_left
     all_goals
      have H' := ah.mk H
      clear H
      (try go_wp2)
      replace HO_5 := ah.mk (Kd.iN HO_5.out)
      replace BK128 := ah.mk (fu BK128.out)
      replace HB := ah.mk (bW HB.out)
      have p129 : 0 ≤ (x6_1 : Int) := of_decide_eq_true (by assumption)
      have q129 : x6_1 < (l1.length : Int) := of_decide_eq_true (by assumption)
      obtain ⟨ad129, e129, hx129_0, hx129_1, hx129_2, hx129_3, hx129_4⟩ := eX HR1.out x6_1 p129 q129
      have hw129_4 := hx129_4
      have hw129_3 := hx129_3
      have hw129_2 := hx129_2
      have hw129_1 := hx129_1
      have hw129_0 := hx129_0
      cases e129
      replace hx129_0 := kp_ HB.out hx129_0
      replace hx129_1 := kp_ HB.out hx129_1
      replace hx129_2 := kp_ HB.out hx129_2
      replace hx129_3 := kp_ HB.out hx129_3
      replace hx129_4 := kp_ HB.out hx129_4
      replace p129 := eq_true p129
      replace q129 := eq_true q129
      refine jd (n := 7) (ds := []) (ls 7 0) (by kernel_rfl) rfl rfl (c2_ BK128.out (ec_ (kp_ HB.out hw129_0) (ec_ (kp_ HB.out hw129_1) (ec_ (kp_ HB.out hw129_2) (ec_ (kp_ HB.out hw129_3) (ed_ (kp_ HB.out hw129_4))))))) (fun hHeld => ?_)
      generalize wr.drew = w9 at HO_5 BK128 HB hx129_0 hx129_1 hx129_2 hx129_3 hx129_4 hHeld ⊢
      refine jG (i := 1) (N := some 19) (v := ?_) (a' := ?_) (ls 7 2) rfl rfl (by kernel_rfl) (fun _ _ _ h => h) (Or.inl ⟨by rfl, ?_⟩) ?_ ?_
      rotate_left
      ·intro w'
       go_simp
       with_reducible rfl
      rotate_left
      ·simp only [Act.put, sA_, sZ_, sS_, fA, gq]
       rfl
      refine jG (i := 2) (N := some 20) (v := ?_) (a' := ?_) (ls 7 6) rfl rfl (by kernel_rfl) (fun _ _ _ h => h) (Or.inl ⟨by rfl, ?_⟩) ?_ ?_
      rotate_left
      ·intro w'
       go_simp
       with_reducible rfl
      rotate_left
      ·simp only [Act.put, sA_, sZ_, sS_, fA, gq]
       rfl
      refine jG (i := 3) (N := some 21) (v := ?_) (a' := ?_) (ls 7 14) rfl rfl (by kernel_rfl) (fun _ _ _ h => h) (Or.inl ⟨by rfl, ?_⟩) ?_ ?_
      rotate_left
      ·intro w'
       go_simp
       with_reducible rfl
      rotate_left
      ·simp only [Act.put, sA_, sZ_, sS_, fA, gq]
       rfl
      refine lu (i := 0) (N := some 18) (v := ?_) (a' := ?_) (ls 7 15) rfl rfl (by kernel_rfl) (fun _ _ _ h => h) (Or.inl ⟨by rfl, ?_⟩) hHeld ?_ ?_
      rotate_left
      ·rintro w' ⟨s0, s1, s2, s3, s4, s5, s6⟩
       go_simp
       with_reducible rfl
      rotate_left
      ·simp only [Act.put, sA_, sZ_, sS_, fA, gq]
       rfl
      refine lu (i := 4) (N := some 22) (v := ?_) (a' := ?_) (ls 7 31) rfl rfl (by kernel_rfl) (fun _ _ _ h => h) (Or.inl ⟨by rfl, ?_⟩) hHeld ?_ ?_
      rotate_left
      ·rintro w' ⟨s0, s1, s2, s3, s4, s5, s6⟩
       go_simp
       with_reducible rfl
      rotate_left
      ·simp only [Act.put, sA_, sZ_, sS_, fA, gq]
       rfl
      refine oV (i := 5) (N := some 23) (ls 7 63) rfl rfl (by kernel_rfl) (by decide) (fun K hK => ?_)
      refine gs_ Tryz.func61 #[.agg #[.string a0_0, .slice A0_1 l0_1.length c0_1], .agg #[.string ((ak l1 x6_1).f0), .int .i64 ((ak l1 x6_1).f1), .int .i64 ((ak l1 x6_1).f2), .int .i64 ((ak l1 x6_1).f3), .string ((ak l1 x6_1).f4)]] ?_
      with_reducible refine (bI.calls k1 a0_0 _ _ l0_1 ((ak l1 x6_1).f0) ((ak l1 x6_1).f1) ((ak l1 x6_1).f2) ((ak l1 x6_1).f3) ((ak l1 x6_1).f4) t130 _ ?side1 ?side2 A6.out).mono ?_
      (case side1 => repeat ((exact (Kd.fC HR0_1.out HB.out))))
      (case side2 => exact HC0_1.out)
      rintro e w10 ⟨rfl, hb⟩
      refine ⟨_, rfl, ?_⟩
      replace HO_5 := ah.mk (Kd.bS (by ((exact HO_5.out))) hb)
      replace BK128 := ah.mk (aD (by ((exact BK128.out))) hb)
      replace HB := ah.mk (au HB.out hb)
      (try clear hb)
      refine hK.out _ _ (c2_ BK128.out (ec_ (kp_ HB.out hw129_0) (ec_ (kp_ HB.out hw129_1) (ec_ (kp_ HB.out hw129_2) (ec_ (kp_ HB.out hw129_3) (ed_ (kp_ HB.out hw129_4))))))) (fun hHeld => ?_)
      clear hK K
      refine nm_ (N := (some 23)) ?_
      refine jG (i := 6) (N := some 24) (v := ?_) (a' := ?_) (ls 7 127) rfl rfl (by kernel_rfl) (fun _ _ _ h => h) (Or.inl ⟨by rfl, ?_⟩) ?_ ?_
      rotate_left
      ·intro w'
       go_simp
       with_reducible rfl
      rotate_left
      ·simp only [Act.put, sA_, sZ_, sS_, fA, gq]
       rfl
      refine lC (by kernel_rfl) ?_
     ·have p131 : 0 ≤ (x6_1 : Int) := of_decide_eq_true (by assumption)
      have q131 : x6_1 < (l1.length : Int) := of_decide_eq_true (by assumption)
      obtain ⟨ad131, e131, hx131_0, hx131_1, hx131_2, hx131_3, hx131_4⟩ := eX HR1.out x6_1 p131 q131
      obtain rfl : ad129 = ad131 := (by injection e131)
      replace hx131_0 := kp_ HB.out hx131_0
      replace hx131_1 := kp_ HB.out hx131_1
      replace hx131_2 := kp_ HB.out hx131_2
      replace hx131_3 := kp_ HB.out hx131_3
      replace hx131_4 := kp_ HB.out hx131_4
      replace p131 := eq_true p131
      replace q131 := eq_true q131
      (try go_wp2_with (((refine gl_ (some 30) Tryz.func66 #[.string ((ak l1 x6_1).f0)] ?_; (with_reducible refine (aI.calls k1 ((ak l1 x6_1).f0) t132 _ A8.out).mono ?_); rintro e w11 ⟨rfl, hb⟩; refine ⟨_, rfl, ?_⟩; replace HO_5 := ah.mk (Kd.bS (by ((exact HO_5.out))) hb); replace BK128 := ah.mk (aD (by ((exact BK128.out))) hb); replace HB := ah.mk (au HB.out hb); (try clear hb)))))
      go_loopg [8, 9, 10] k1 (fun kq v8 v9 v10 w' => ∃ (x8_2 : List ByteArray) (x9_2 : Bool) (x10_2 : Int), v9 = .bool x9_2 ∧ v10 = .int .i64 x10_2 ∧ ah (aA.l1 kq l1 x5_1 x6_1 t132 x8_2 x9_2 x10_2 a0_0 l0_1 = some r) ∧ ah (kq ≤ k1) ∧ ah (Kd.R Kd.string 9 w' w.heap.size (fun k_ => some k_ ≠ (v8 : Value).ownBlock) u5 x5_1) ∧ ah (Kd.R Kd.string 9 w' w.heap.size (fun k_ => some k_ ≠ (u5 : Value).ownBlock) v8 x8_2) ∧ ah (w'.heap[gb128]? = some (.cells #[.string a0_0, (.slice A0_1 l0_1.length c0_1)] 36 (0, 0))) ∧ ah (Below w.heap.size w w'))
      case atStart => exact ⟨(([] : List ByteArray)), (false), (0), (by rfl), (by rfl), H', ⟨Nat.le_refl _⟩, ⟨by (with_reducible repeat ((apply Kd.aW))); exact Kd.dD HO_5.out (fun _ hk => (by simp [Value.ownBlock]))⟩, ⟨by (exact Kd.fI _ _ _ _ _)⟩, ⟨by (with_reducible repeat ((refine ay ?_ _))); exact BK128.out⟩, ⟨HB.out⟩⟩
      case round =>
       clear H'
       (try clear c4b0)
       (try clear c5b0)
       (try clear c7b0)
       (try clear c7b1)
       (try clear hx129_0)
       (try clear hx129_1)
       (try clear hx129_2)
       (try clear hx129_3)
       (try clear hx129_4)
       (try clear hx131_0)
       (try clear hx131_1)
       (try clear hx131_2)
       (try clear hx131_3)
       (try clear hx131_4)
       (try clear p129)
       (try clear p131)
       (try clear q129)
       (try clear q131)
       obtain ⟨x8_2, x9_2, x10_2, rfl, rfl, HA, HK2, HO_5, HO_8, BK128, HB⟩ := hrel
       cases gk with
       | zero => exact absurd HA.out (by simp [aA.l1])
       | succ k2 =>
        have H := HA.out
        clear HA
        simp only [aA.l1] at H
        by_cases c12 : x10_2 < (x5_1.length : Int)
        focus
         rw [if_pos c12] at H
         have c12b0 : decide (x10_2 < (x5_1.length : Int)) = true := decide_eq_true c12
         clear c12
         obtain ⟨c13b0, H⟩ := eU H
         obtain ⟨t137, A14, H⟩ := bZ H
         have HC15 := ah.mk H
        rotate_left
        focus
         rw [if_neg c12] at H
         have c12b0 : decide (x10_2 < (x5_1.length : Int)) = false := decide_eq_false c12
         clear c12
         by_cases c33 : x9_2 = true
         focus
          subst c33
          rw [if_pos rfl] at H
         rotate_left
         focus
          replace c33 := Bool.eq_false_iff.mpr c33
          subst c33
          rw [if_neg ff_] at H
          obtain ⟨c35, H⟩ := gd_ H
          have LMc35 := ah.mk c35
          clear c35
          obtain ⟨y133, hy133⟩ : ∃ y_ : List ByteArray, y_ = (x8_2 ++ [t132]) := ⟨_, rfl⟩
          replace H : (aA.l0 k2 l1 y133 (wrap64 (x6_1 + 1)) a0_0 l0_1) = some r := by (rw [hy133]; with_reducible exact H)
          have Ny133 := ah.mk hy133
          clear hy133
         rotate_left
         all_goals
          have H' := ah.mk H
        rotate_left 2
        all_goals
         clear H
         obtain ⟨Ao16, co16, eo16⟩ := Kd.dn HO_5.out
         subst eo16
        ·have p136 : 0 ≤ (x10_2 : Int) := of_decide_eq_true (by assumption)
         have q136 : x10_2 < (x5_1.length : Int) := of_decide_eq_true (by assumption)
         obtain ⟨ad136, e136, hx136_0⟩ := Kd.gJ (Kd.aZ HO_5.out).2.2 x10_2 p136 q136
         cases e136
         replace p136 := eq_true p136
         replace q136 := eq_true q136
         go_upto_region 13 with (((refine gl_ (some 42) Tryz.func29 #[.string t132, .string (bJ ByteArray.empty x5_1 x10_2)] ?_; (with_reducible refine (aQ.calls k2 t132 (bJ ByteArray.empty x5_1 x10_2) t137 _ A14.out).mono ?_); rintro e w17 ⟨rfl, hb⟩; refine ⟨_, rfl, ?_⟩; replace HO_5 := ah.mk (Kd.bS (by ((exact HO_5.out))) hb); replace HO_8 := ah.mk (Kd.bS (by ((exact HO_8.out))) hb); replace BK128 := ah.mk (aD (by ((exact BK128.out))) hb); replace HB := ah.mk (au HB.out hb); (try clear hb))))
         go_cut [48] (fun v48 wc => ∃ (kq : Nat) (x48_14 : Bool), v48 = .bool x48_14 ∧ ah (aA.j2 kq l1 x5_1 x6_1 t132 x8_2 x9_2 x10_2 t137 x48_14 a0_0 l0_1 = some r) ∧ ah (kq ≤ k2) ∧ ah (Kd.R Kd.string 9 wc w.heap.size (fun k_ => some k_ ≠ (u8 : Value).ownBlock) (.slice (some ad136) x5_1.length co16) x5_1) ∧ ah (Kd.R Kd.string 9 wc w.heap.size (fun k_ => some k_ ≠ ((.slice (some ad136) x5_1.length co16) : Value).ownBlock) u8 x8_2) ∧ ah (wc.heap[gb128]? = some (.cells #[.string a0_0, (.slice A0_1 l0_1.length c0_1)] 36 (0, 0))) ∧ ah (Below w.heap.size w wc))
         case first =>
          have H := HC15.out
          clear HC15
          by_cases c18 : t137 ≤ 0
          focus
           rw [if_pos c18] at H
           have c18b0 : decide (t137 ≤ 0) = true := decide_eq_true c18
          rotate_left
          focus
           rw [if_neg c18] at H
           have c18b0 : decide (t137 ≤ 0) = false := decide_eq_false c18
          rotate_left
          all_goals
           clear c18
           (skip)
           have H' := ah.mk H
           clear H
           go_wp2
           go_meet
          ·case rel => exact ⟨_, (!x9_2), (by rfl), H', ⟨by have := HK1.out; have := HK2.out; omega⟩, ⟨by (with_reducible repeat ((apply Kd.aW))); exact HO_5.out⟩, ⟨by (with_reducible repeat ((apply Kd.aW))); exact HO_8.out⟩, ⟨by (with_reducible repeat ((refine ay ?_ _))); exact BK128.out⟩, ⟨HB.out⟩⟩
          ·case rel => exact ⟨_, (false), (by rfl), H', ⟨by have := HK1.out; have := HK2.out; omega⟩, ⟨by (with_reducible repeat ((apply Kd.aW))); exact HO_5.out⟩, ⟨by (with_reducible repeat ((apply Kd.aW))); exact HO_8.out⟩, ⟨by (with_reducible repeat ((refine ay ?_ _))); exact BK128.out⟩, ⟨HB.out⟩⟩
         case rest =>
          clear HC15
          (try clear c12b0)
          (try clear c13b0)
          (try clear hx136_0)
          (try clear p136)
          (try clear q136)
          obtain ⟨kq, x48_14, rfl, HA, HJ14, HO_5, HO_8, BK128, HB⟩ := hcut
          cases kq with
          | zero => exact absurd HA.out (by simp [aA.j2])
          | succ kj14 =>
           have H := HA.out
           clear HA
           simp only [aA.j2] at H
           by_cases c19 : x48_14 = true
           focus
            subst c19
            rw [if_pos rfl] at H
            obtain ⟨c20, H⟩ := gd_ H
            have LMc20 := ah.mk c20
            clear c20
            obtain ⟨y138, hy138⟩ : ∃ y_ : List ByteArray, y_ = (x8_2 ++ [t132]) := ⟨_, rfl⟩
            replace H : (if t137 = 0 then (aA.l1 kj14 l1 x5_1 x6_1 t132 y138 true (wrap64 (x10_2 + 1)) a0_0 l0_1) else (if 0 ≤ x10_2 then (if x10_2 < (x5_1.length : Int) then (if y138.length < 8796093022208 then (aA.l1 kj14 l1 x5_1 x6_1 t132 (y138 ++ [bJ ByteArray.empty x5_1 x10_2]) true (wrap64 (x10_2 + 1)) a0_0 l0_1) else (none)) else (none)) else (none))) = some r := by (have H2_ := (Option.bind_some _ _).symm.trans H; rw [hy138]; with_reducible exact H2_)
            have Ny138 := ah.mk hy138
            clear hy138
            by_cases c21 : t137 = 0
            focus
             rw [if_pos c21] at H
             have c21b0 : (t137 == 0) = true := beq_iff_eq.mpr c21
             have c21b1 : (t137 != 0) = false := bne_eq_false_iff_eq.mpr c21
             clear c21
             have H' := ah.mk H
             clear H
             go_wp2_with ((((with_reducible refine dR (b := .append) (xs := #[.tmp 49, .tmp 51]) rfl ?_); at_builtin; refine Kd.fF Kd.string (w0 := w) w.heap.size rfl (.tmp 49) (.tmp 51) 43 9 (.string ⟨#[]⟩) 16 rfl Tryz.underlying43 kX rfl (by decide) (by omega) u8 x8_2 t132 [.string t132] (fun k_ => some k_ ≠ (.slice (some ad136) x5_1.length co16 : Value).ownBlock) (fun _ => False) rfl rfl ?aP (fun _ hk => hk.elim) ?aF ?aO ?aB ?aS ?aL ?_; (case aP => exact rfl); (case aB => exact HB.out); (case aF => exact (fun k_ hk => Kd.fresh' (Kd.jS (by ((exact HO_5.out)))) k_ hk)); (case aO => exact (by ((exact HO_8.out)))); (case aS => exact (av HB.out)); (case aL => have := LMc20.out; omega); intro v139 w22 ho hb hg hat; rw [← Ny138.out] at ho; have n0_ := ah.mk (Kd.qJ (ok := (fun _ => True)) (by (with_reducible repeat ((apply Kd.aW))); exact Kd.dD HO_5.out (fun _ hk => ⟨trivial, hk⟩)) hg hat); have n1_ := ah.mk (gI (g := gb128) (o := .cells #[.string a0_0, .slice A0_1 l0_1.length c0_1] 36 (0, 0)) (by ((exact BK128.out))) hg (Kd.AL HO_8.out BK128.out (by decide))); have n2_ := ah.mk (hb); have n3_ := ah.mk (ho); clear HO_5; clear BK128; clear HB; clear HO_8; have HO_5 := n0_; have BK128 := n1_; have HB := n2_; have HO140 := n3_; clear n0_ n1_ n2_ n3_; clear ho hb hg hat)))
            rotate_left
            focus
             rw [if_neg c21] at H
             have c21b0 : (t137 == 0) = false := beq_eq_false_iff_ne.mpr c21
             have c21b1 : (t137 != 0) = true := bne_iff_ne.mpr c21
             obtain ⟨c23b0, H⟩ := eU H
             obtain ⟨c24b0, H⟩ := eU H
             obtain ⟨c25, H⟩ := gd_ H
             have LMc25 := ah.mk c25
             clear c25
             obtain ⟨y142, hy142⟩ : ∃ y_ : List ByteArray, y_ = (y138 ++ [bJ ByteArray.empty x5_1 x10_2]) := ⟨_, rfl⟩
             replace H : (aA.l1 kj14 l1 x5_1 x6_1 t132 y142 true (wrap64 (x10_2 + 1)) a0_0 l0_1) = some r := by (rw [hy142]; with_reducible exact H)
             have Ny142 := ah.mk hy142
             clear hy142
             have H' := ah.mk H
             clear H
             go_wp2_with (first | ((with_reducible refine dR (b := .append) (xs := #[.tmp 49, .tmp 51]) rfl ?_); at_builtin; refine Kd.fF Kd.string (w0 := w) w.heap.size rfl (.tmp 49) (.tmp 51) 43 9 (.string ⟨#[]⟩) 16 rfl Tryz.underlying43 kX rfl (by decide) (by omega) u8 x8_2 t132 [.string t132] (fun k_ => some k_ ≠ (.slice (some ad136) x5_1.length co16 : Value).ownBlock) (fun _ => False) rfl rfl ?aP (fun _ hk => hk.elim) ?aF ?aO ?aB ?aS ?aL ?_; (case aP => exact rfl); (case aB => exact HB.out); (case aF => exact (fun k_ hk => Kd.fresh' (Kd.jS (by ((exact HO_5.out)))) k_ hk)); (case aO => exact (by ((exact HO_8.out)))); (case aS => exact (av HB.out)); (case aL => have := LMc20.out; omega); intro v139 w26 ho hb hg hat; rw [← Ny138.out] at ho; have n0_ := ah.mk (Kd.qJ (ok := (fun _ => True)) (by (with_reducible repeat ((apply Kd.aW))); exact Kd.dD HO_5.out (fun _ hk => ⟨trivial, hk⟩)) hg hat); have n1_ := ah.mk (gI (g := gb128) (o := .cells #[.string a0_0, .slice A0_1 l0_1.length c0_1] 36 (0, 0)) (by ((exact BK128.out))) hg (Kd.AL HO_8.out BK128.out (by decide))); have n2_ := ah.mk (hb); have n3_ := ah.mk (ho); clear HO_5; clear BK128; clear HB; clear HO_8; have HO_5 := n0_; have BK128 := n1_; have HB := n2_; have HO140 := n3_; clear n0_ n1_ n2_ n3_; clear ho hb hg hat; have p141 : 0 ≤ (x10_2 : Int) := of_decide_eq_true (by assumption); have q141 : x10_2 < (x5_1.length : Int) := of_decide_eq_true (by assumption); obtain ⟨ad141, e141, hx141_0⟩ := Kd.gJ (Kd.aZ HO_5.out).2.2 x10_2 p141 q141; obtain rfl : ad136 = ad141 := (by injection e141); replace p141 := eq_true p141; replace q141 := eq_true q141) | ((with_reducible refine dR (b := .append) (xs := #[.tmp 55, .tmp 60]) rfl ?_); at_builtin; refine Kd.fF Kd.string (w0 := w) w.heap.size rfl (.tmp 55) (.tmp 60) 43 9 (.string ⟨#[]⟩) 16 rfl Tryz.underlying43 kX rfl (by decide) (by omega) v139 y138 (bJ ByteArray.empty x5_1 x10_2) [.string (bJ ByteArray.empty x5_1 x10_2)] (fun k_ => some k_ ≠ (.slice (some ad136) x5_1.length co16 : Value).ownBlock) (fun _ => False) rfl rfl ?aP (fun _ hk => hk.elim) ?aF ?aO ?aB ?aS ?aL ?_; (case aP => exact rfl); (case aB => exact HB.out); (case aF => exact (fun k_ hk => Kd.fresh' (Kd.jS (by ((exact HO_5.out)))) k_ hk)); (case aO => exact (by ((exact HO140.out)))); (case aS => exact (av HB.out)); (case aL => have := LMc25.out; omega); intro v143 w27 ho hb hg hat; rw [← Ny142.out] at ho; have n0_ := ah.mk (Kd.qJ (ok := (fun _ => True)) (by ((exact HO_5.out))) hg hat); have n1_ := ah.mk (gI (g := gb128) (o := .cells #[.string a0_0, .slice A0_1 l0_1.length c0_1] 36 (0, 0)) (by ((exact BK128.out))) hg (Kd.AL HO140.out BK128.out (by decide))); have n2_ := ah.mk (hb); have n3_ := ah.mk (ho); clear HO_5; clear BK128; clear HB; clear HO140; have HO_5 := n0_; have BK128 := n1_; have HB := n2_; have HO144 := n3_; clear n0_ n1_ n2_ n3_; clear ho hb hg hat))
            rotate_left
           rotate_left 2
           focus
            replace c19 := Bool.eq_false_iff.mpr c19
            subst c19
            rw [if_neg ff_] at H
            by_cases c28 : t137 = 0
            focus
             rw [if_pos c28] at H
             have c28b0 : (t137 == 0) = true := beq_iff_eq.mpr c28
             have c28b1 : (t137 != 0) = false := bne_eq_false_iff_eq.mpr c28
             clear c28
             have H' := ah.mk H
             clear H
             go_wp2
            rotate_left
            focus
             rw [if_neg c28] at H
             have c28b0 : (t137 == 0) = false := beq_eq_false_iff_ne.mpr c28
             have c28b1 : (t137 != 0) = true := bne_iff_ne.mpr c28
             obtain ⟨c29b0, H⟩ := eU H
             obtain ⟨c30b0, H⟩ := eU H
             obtain ⟨c31, H⟩ := gd_ H
             have LMc31 := ah.mk c31
             clear c31
             obtain ⟨y146, hy146⟩ : ∃ y_ : List ByteArray, y_ = (x8_2 ++ [bJ ByteArray.empty x5_1 x10_2]) := ⟨_, rfl⟩
             replace H : (aA.l1 kj14 l1 x5_1 x6_1 t132 y146 x9_2 (wrap64 (x10_2 + 1)) a0_0 l0_1) = some r := by (rw [hy146]; with_reducible exact H)
             have Ny146 := ah.mk hy146
             clear hy146
             have H' := ah.mk H
             clear H
             have p145 : 0 ≤ (x10_2 : Int) := of_decide_eq_true (by assumption)
             have q145 : x10_2 < (x5_1.length : Int) := of_decide_eq_true (by assumption)
             obtain ⟨ad145, e145, hx145_0⟩ := Kd.gJ (Kd.aZ HO_5.out).2.2 x10_2 p145 q145
             obtain rfl : ad136 = ad145 := (by injection e145)
             replace p145 := eq_true p145
             replace q145 := eq_true q145
             go_wp2_with ((((with_reducible refine dR (b := .append) (xs := #[.tmp 55, .tmp 60]) rfl ?_); at_builtin; refine Kd.fF Kd.string (w0 := w) w.heap.size rfl (.tmp 55) (.tmp 60) 43 9 (.string ⟨#[]⟩) 16 rfl Tryz.underlying43 kX rfl (by decide) (by omega) u8 x8_2 (bJ ByteArray.empty x5_1 x10_2) [.string (bJ ByteArray.empty x5_1 x10_2)] (fun k_ => some k_ ≠ (.slice (some ad136) x5_1.length co16 : Value).ownBlock) (fun _ => False) rfl rfl ?aP (fun _ hk => hk.elim) ?aF ?aO ?aB ?aS ?aL ?_; (case aP => exact rfl); (case aB => exact HB.out); (case aF => exact (fun k_ hk => Kd.fresh' (Kd.jS (by ((exact HO_5.out)))) k_ hk)); (case aO => exact (by ((exact HO_8.out)))); (case aS => exact (av HB.out)); (case aL => have := LMc31.out; omega); intro v147 w32 ho hb hg hat; rw [← Ny146.out] at ho; have n0_ := ah.mk (Kd.qJ (ok := (fun _ => True)) (by (with_reducible repeat ((apply Kd.aW))); exact Kd.dD HO_5.out (fun _ hk => ⟨trivial, hk⟩)) hg hat); have n1_ := ah.mk (gI (g := gb128) (o := .cells #[.string a0_0, .slice A0_1 l0_1.length c0_1] 36 (0, 0)) (by ((exact BK128.out))) hg (Kd.AL HO_8.out BK128.out (by decide))); have n2_ := ah.mk (hb); have n3_ := ah.mk (ho); clear HO_5; clear BK128; clear HB; clear HO_8; have HO_5 := n0_; have BK128 := n1_; have HB := n2_; have HO148 := n3_; clear n0_ n1_ n2_ n3_; clear ho hb hg hat)))
            rotate_left
           rotate_left 2
           all_goals
            go_roundg kj14
            case measure => have := HK1.out; have := HK2.out; have := HJ14.out; omega
           ·case rel => exact ⟨(y138), (true), (wrap64 (x10_2 + 1)), (by rfl), (by rfl), H', ⟨by have := HK1.out; have := HK2.out; have := HJ14.out; omega⟩, ⟨by (with_reducible repeat ((apply Kd.aW))); exact Kd.dD HO_5.out (fun _ hk => hk.2)⟩, ⟨by (with_reducible repeat ((apply Kd.aW))); exact HO140.out⟩, ⟨by (with_reducible repeat ((refine ay ?_ _))); exact BK128.out⟩, ⟨HB.out⟩⟩
           ·case rel => exact ⟨(y142), (true), (wrap64 (x10_2 + 1)), (by rfl), (by rfl), H', ⟨by have := HK1.out; have := HK2.out; have := HJ14.out; omega⟩, ⟨by (with_reducible repeat ((apply Kd.aW))); exact Kd.dD HO_5.out (fun _ hk => hk.2)⟩, ⟨by (with_reducible repeat ((apply Kd.aW))); exact HO144.out⟩, ⟨by (with_reducible repeat ((refine ay ?_ _))); exact BK128.out⟩, ⟨HB.out⟩⟩
           ·case rel => exact ⟨(x8_2), (x9_2), (wrap64 (x10_2 + 1)), (by rfl), (by rfl), H', ⟨by have := HK1.out; have := HK2.out; have := HJ14.out; omega⟩, ⟨by (with_reducible repeat ((apply Kd.aW))); exact HO_5.out⟩, ⟨by (with_reducible repeat ((apply Kd.aW))); exact HO_8.out⟩, ⟨by (with_reducible repeat ((refine ay ?_ _))); exact BK128.out⟩, ⟨HB.out⟩⟩
           ·case rel => exact ⟨(y146), (x9_2), (wrap64 (x10_2 + 1)), (by rfl), (by rfl), H', ⟨by have := HK1.out; have := HK2.out; have := HJ14.out; omega⟩, ⟨by (with_reducible repeat ((apply Kd.aW))); exact Kd.dD HO_5.out (fun _ hk => hk.2)⟩, ⟨by (with_reducible repeat ((apply Kd.aW))); exact HO148.out⟩, ⟨by (with_reducible repeat ((refine ay ?_ _))); exact BK128.out⟩, ⟨HB.out⟩⟩
        focus
         go_wp2
        rotate_left
        focus
         go_wp2_with ((((with_reducible refine dR (b := .append) (xs := #[.tmp 64, .tmp 66]) rfl ?_); at_builtin; refine Kd.fF Kd.string (w0 := w) w.heap.size rfl (.tmp 64) (.tmp 66) 43 9 (.string ⟨#[]⟩) 16 rfl Tryz.underlying43 kX rfl (by decide) (by omega) u8 x8_2 t132 [.string t132] (fun k_ => some k_ ≠ (.slice Ao16 x5_1.length co16 : Value).ownBlock) (fun _ => False) rfl rfl ?aP (fun _ hk => hk.elim) ?aF ?aO ?aB ?aS ?aL ?_; (case aP => exact rfl); (case aB => exact HB.out); (case aF => exact (fun k_ hk => Kd.fresh' (Kd.jS (by ((exact HO_5.out)))) k_ hk)); (case aO => exact (by ((exact HO_8.out)))); (case aS => exact (av HB.out)); (case aL => have := LMc35.out; omega); intro v134 w37 ho hb hg hat; rw [← Ny133.out] at ho; have n0_ := ah.mk (Kd.qJ (ok := (fun _ => True)) (by (with_reducible repeat ((apply Kd.aW))); exact Kd.dD HO_5.out (fun _ hk => ⟨trivial, hk⟩)) hg hat); have n1_ := ah.mk (gI (g := gb128) (o := .cells #[.string a0_0, .slice A0_1 l0_1.length c0_1] 36 (0, 0)) (by ((exact BK128.out))) hg (Kd.AL HO_8.out BK128.out (by decide))); have n2_ := ah.mk (hb); have n3_ := ah.mk (ho); clear HO_5; clear BK128; clear HB; clear HO_8; have HO_5 := n0_; have BK128 := n1_; have HB := n2_; have HO135 := n3_; clear n0_ n1_ n2_ n3_; clear ho hb hg hat)))
        rotate_left
        all_goals
         go_roundg k2
         case measure => have := HK1.out; have := HK2.out; omega
        ·case rel => exact ⟨(x8_2), (wrap64 (x6_1 + 1)), (by rfl), H', ⟨by have := HK1.out; have := HK2.out; omega⟩, ⟨by (with_reducible repeat ((apply Kd.aW))); exact Kd.dD HO_8.out (fun _ hk => trivial)⟩, ⟨by (with_reducible repeat ((refine ay ?_ _))); exact BK128.out⟩, ⟨HB.out⟩⟩
        ·case rel => exact ⟨(y133), (wrap64 (x6_1 + 1)), (by rfl), H', ⟨by have := HK1.out; have := HK2.out; omega⟩, ⟨by (with_reducible repeat ((apply Kd.aW))); exact Kd.dD HO135.out (fun _ hk => trivial)⟩, ⟨by (with_reducible repeat ((refine ay ?_ _))); exact BK128.out⟩, ⟨HB.out⟩⟩
     ·try go_wp2
      go_roundg k1
      case measure => have := HK1.out; omega
      case rel => exact ⟨(x5_1), (wrap64 (x6_1 + 1)), (by rfl), H', ⟨by have := HK1.out; omega⟩, ⟨by (with_reducible repeat ((apply Kd.aW))); exact HO_5.out⟩, ⟨by (with_reducible repeat ((refine ay ?_ _))); exact BK128.out⟩, ⟨HB.out⟩⟩
    ·rw [if_neg c4] at H
     have c4b0 : decide (x6_1 < (l1.length : Int)) = false := decide_eq_false c4
     clear c4
     obtain rfl := Option.some.inj H
     go_wp2
     go_ret
     exact ⟨_, by rfl, by (with_reducible repeat ((apply Kd.aW))); exact HO_5.out, HB.out⟩
end Go.Y.PPs
namespace Go.Y.Rrs
open Go.Proofs.aj.aC Go.Proofs.aj.aT Go.Proofs.aj.aV Go.Y.Given Go.Y.PRd Go.Y.PRr Go.Y.PZo Go.Y.PZf Go.Y.PZh Go.Y.PPo Go.Y.PPs Go.Y.Oct Go.Y.Name Go.Y.fq Go.Y.eD Go.Y.dJ
theorem zG {x y : ByteArray} (hx : bE x = true) (hy : bE y = true) : Ev (fun k => aQ.f k x y) (fM x y) := by
 obtain ⟨l, gl, sl, el, kl⟩ := oP hx
 obtain ⟨m, gm, sm, em, km⟩ := oP hy
 have : fM x y = CK l m := by unfold fM; rw [kl, km]; rfl
 rw [this]
 exact ⟨1000, fun k hk => by show aQ.f k x y = _; rw [el, em]; exact rO l m gl gm sl sm k hk⟩
theorem Jh (n : ByteArray) : Ev (fun k => aI.f k n) (gX n) := ⟨700, fun k hk => Cy n k hk⟩
section
variable (a : ByteArray) (s l : List RR) (i : Nat) (n : ByteArray) (out : List ByteArray) (hn : folded n) (ho : ∀ y ∈ out, folded y) (hl : out.length ≤ 1000000)
include hn ho hl
theorem Jj : ∀ (d j : Nat) (next : List ByteArray) (R : List ByteArray), out.length ≤ j + d → j ≤ out.length → next.length ≤ j + 1 → (∀ y ∈ out.drop j, fM n y < 0) → Ev (fun k => aA.l0 k l (next ++ out.drop j) (wrap64 ((i : Int) + 1)) a s) R → Ev (fun k => aA.l1 k l out (i : Int) n next true (j : Int) a s) R := by
 have hend : ∀ (j : Nat) (next R : List ByteArray), out.length ≤ j → Ev (fun k => aA.l0 k l (next ++ out.drop j) (wrap64 ((i : Int) + 1)) a s) R → Ev (fun k => aA.l1 k l out (i : Int) n next true (j : Int) a s) R := by
  intro j next R hj h
  rw [List.drop_of_length_le hj, List.append_nil] at h
  exact Ev.step (f := fun k => aA.l0 k l next (wrap64 ((i : Int) + 1)) a s) (fun k => by rw [aA.l1]; rw [if_neg (by omega), if_pos rfl]) h
 intro d
 induction d with
 | zero => exact fun j next R h1 h2 h3 h4 h => hend j next R (by omega) h
 | succ d ih =>
  intro j next R h1 h2 h3 h4 h
  by_cases hj : j < out.length
  ·have e1 : wrap64 ((j : Int) + 1) = ((j + 1 : Nat) : Int) := by unfold wrap64; omega
   have hr : bJ ByteArray.empty out (j : Int) = out[j] := jm out j hj
   have h0 := h4 out[j] (by rw [List.drop_eq_getElem_cons hj]; exact List.mem_cons_self ..)
   have hs : ∀ k, aA.l1 (k + 1) l out (i : Int) n next true (j : Int) a s = (aQ.f k n out[j]).bind fun t => if t ≤ 0 then aA.j2 k l out (i : Int) n next true (j : Int) t false a s else aA.j2 k l out (i : Int) n next true (j : Int) t false a s := fun k => by
    rw [aA.l1, hr]; rw [if_pos (by omega), if_pos (by omega)]; rfl
   refine Ev.step hs (Ev.bind (zG hn.1 (ho _ (List.getElem_mem hj)).1) ?_)
   simp only [show fM n out[j] ≤ 0 from by omega, if_true]
   have hs2 : ∀ k, aA.j2 (k + 1) l out (i : Int) n next true (j : Int) (fM n out[j]) false a s = aA.l1 k l out (i : Int) n (next ++ [out[j]]) true ((j + 1 : Nat) : Int) a s := fun k => by
    rw [aA.j2, e1, hr]; rw [if_neg (by decide), if_neg (by omega), if_pos (by omega), if_pos (by omega), if_pos (by omega)]
   refine Ev.step hs2 (ih (j + 1) _ R (by omega) (by omega) (by simp; omega) (fun y hy => h4 y (by rw [List.drop_eq_getElem_cons hj]; exact List.mem_cons_of_mem _ hy)) ?_)
   rw [List.drop_eq_getElem_cons hj] at h
   rw [List.append_assoc]
   exact h
  ·exact hend j next R (by omega) h
theorem LH (hset : iB fM out) : ∀ (d j : Nat) (next : List ByteArray) (R : List ByteArray), out.length ≤ j + d → j ≤ out.length → next.length ≤ j → Ev (fun k => aA.l0 k l (next ++ put fM (out.drop j) n) (wrap64 ((i : Int) + 1)) a s) R → Ev (fun k => aA.l1 k l out (i : Int) n next false (j : Int) a s) R := by
 have hend : ∀ (j : Nat) (next R : List ByteArray), out.length ≤ j → next.length ≤ 2000000 → Ev (fun k => aA.l0 k l (next ++ put fM (out.drop j) n) (wrap64 ((i : Int) + 1)) a s) R → Ev (fun k => aA.l1 k l out (i : Int) n next false (j : Int) a s) R := by
  intro j next R hj hz h
  rw [List.drop_of_length_le hj] at h
  exact Ev.step (f := fun k => aA.l0 k l (next ++ [n]) (wrap64 ((i : Int) + 1)) a s) (fun k => by rw [aA.l1]; rw [if_neg (by omega), if_neg (by decide), if_pos (by omega)]) h
 intro d
 induction d with
 | zero => exact fun j next R h1 h2 h3 h => hend j next R (by omega) (by omega) h
 | succ d ih =>
  intro j next R h1 h2 h3 h
  by_cases hj : j < out.length
  ·have e1 : wrap64 ((j : Int) + 1) = ((j + 1 : Nat) : Int) := by unfold wrap64; omega
   have hr : bJ ByteArray.empty out (j : Int) = out[j] := jm out j hj
   have hdr : out.drop j = out[j] :: out.drop (j + 1) := List.drop_eq_getElem_cons hj
   have hsd : iB fM (out[j] :: out.drop (j + 1)) := hdr ▸ hset.sublist (List.drop_sublist _ _)
   have hlt := (List.pairwise_cons.mp hsd).1
   have hs : ∀ k, aA.l1 (k + 1) l out (i : Int) n next false (j : Int) a s = (aQ.f k n out[j]).bind fun t => if t ≤ 0 then aA.j2 k l out (i : Int) n next false (j : Int) t true a s else aA.j2 k l out (i : Int) n next false (j : Int) t false a s := fun k => by
    rw [aA.l1, hr]; rw [if_pos (by omega), if_pos (by omega)]; rfl
   rw [hdr, put] at h
   refine Ev.step hs (Ev.bind (zG hn.1 (ho _ (List.getElem_mem hj)).1) ?_)
   by_cases c1 : fM n out[j] < 0
   ·simp only [show fM n out[j] ≤ 0 from by omega, if_true]
    rw [if_pos c1] at h
    have hs2 : ∀ k, aA.j2 (k + 1) l out (i : Int) n next false (j : Int) (fM n out[j]) true a s = aA.l1 k l out (i : Int) n (next ++ [n] ++ [out[j]]) true ((j + 1 : Nat) : Int) a s := fun k => by
     rw [aA.j2, e1, hr]
     rw [if_pos rfl, if_pos (by omega), Option.bind_some, if_neg (by omega), if_pos (by omega), if_pos (by omega), if_pos (by simp; omega)]
    refine Ev.step hs2 (Jj a s l i n out hn ho hl d (j + 1) _ R (by omega) (by omega) (by simp; omega) (fun y hy => by
     have := hlt y hy
     have h5 := kU.trans n out[j] y c1 this
     exact h5) ?_)
    rw [List.append_assoc, List.append_assoc]
    exact h
   ·by_cases c0 : fM n out[j] = 0
    ·simp only [show fM n out[j] ≤ 0 from by omega, if_true]
     rw [if_neg c1, if_pos c0] at h
     have hs2 : ∀ k, aA.j2 (k + 1) l out (i : Int) n next false (j : Int) (fM n out[j]) true a s = aA.l1 k l out (i : Int) n (next ++ [n]) true ((j + 1 : Nat) : Int) a s := fun k => by
      rw [aA.j2, e1, hr]
      rw [if_pos rfl, if_pos (by omega), Option.bind_some, if_pos c0]
     refine Ev.step hs2 (Jj a s l i n out hn ho hl d (j + 1) _ R (by omega) (by omega) (by simp; omega) (fun y hy => kU.lt_of_eq_of_lt c0 (hlt y hy)) ?_)
     rw [List.append_assoc]
     exact h
    ·simp only [show ¬ fM n out[j] ≤ 0 from by omega, if_false]
     rw [if_neg c1, if_neg c0] at h
     have hs2 : ∀ k, aA.j2 (k + 1) l out (i : Int) n next false (j : Int) (fM n out[j]) false a s = aA.l1 k l out (i : Int) n (next ++ [out[j]]) false ((j + 1 : Nat) : Int) a s := fun k => by
      rw [aA.j2, e1, hr]
      rw [if_neg (by decide), if_neg c0, if_pos (by omega), if_pos (by omega), if_pos (by omega)]
     refine Ev.step hs2 (ih (j + 1) _ R (by omega) (by omega) (by simp; omega) ?_)
     rw [List.append_assoc]
     exact h
  ·exact hend j next R (by omega) (by omega) h
end
theorem Aa (l : List ByteArray) (x : ByteArray) : (put fM l x).length ≤ l.length + 1 := by
 induction l with
 | nil => simp [put]
 | cons y l ih =>
  rw [put]
  split
  ·simp
  ·split
   ·simp
   ·simp; omega
theorem Lf (a : ByteArray) (s l : List RR) (hn : l.length ≤ 100000) : ∀ (d i : Nat) (out : List ByteArray), l.length ≤ i + d → i ≤ l.length → iB fM out → (∀ y ∈ out, folded y) → out.length ≤ i → Ev (fun k => aA.l0 k l out (i : Int) a s) ((oh a (l.drop i)).foldl (put fM) out) := by
 have hend : ∀ (i : Nat) (out : List ByteArray), l.length ≤ i → Ev (fun k => aA.l0 k l out (i : Int) a s) ((oh a (l.drop i)).foldl (put fM) out) := by
  intro i out hi
  rw [List.drop_of_length_le hi]
  exact Ev.step (f := fun _ => some out) (fun k => by rw [aA.l0]; rw [if_neg (by omega)]) (Ev.now _)
 intro d
 induction d with
 | zero => exact fun i out h1 _ _ _ _ => hend i out (by omega)
 | succ d ih =>
  intro i out h1 h2 hset hf hz
  by_cases hi : i < l.length
  ·have e1 : wrap64 ((i : Int) + 1) = ((i + 1 : Nat) : Int) := by unfold wrap64; omega
   have hs : ∀ k, aA.l0 (k + 1) l out (i : Int) a s = (bI.f k a s (rdR l (i : Int)).f0 (rdR l (i : Int)).f1 (rdR l (i : Int)).f2 (rdR l (i : Int)).f3 (rdR l (i : Int)).f4).bind fun t => if t = 0 then (aI.f k (rdR l (i : Int)).f0).bind fun u => aA.l1 k l out (i : Int) u [] false 0 a s else aA.l0 k l out ((i + 1 : Nat) : Int) a s := fun k => by
    rw [aA.l0, e1]; rw [if_pos (by omega), if_pos (by omega)]
   rw [fB l i hi] at hs
   refine Ev.step hs (Ev.bind (BL _ _ _) ?_)
   rw [List.drop_eq_getElem_cons hi]
   unfold oh
   rw [List.filter_cons]
   by_cases h0 : lG a l[i] = 0
   ·have hfd := uq (yP h0).1
    simp only [if_pos h0, h0, beq_self_eq_true, if_true, List.map_cons, List.foldl_cons]
    refine Ev.bind (Jh _) ?_
    have := LH a s l i (gX l[i].f0) out hfd hf (by omega) hset out.length 0 [] (by omega) (Nat.zero_le _) (Nat.zero_le _) (R := (oh a (l.drop (i + 1))).foldl (put fM) (put fM out (gX l[i].f0))) (by
     rw [List.drop_zero, List.nil_append, e1]
     exact ih (i + 1) _ (by omega) (by omega) (oN kU hset _) (fun y hy => by
      rcases oM hy with rfl | hy
      ·exact hfd
      ·exact hf y hy) (by have := Aa out (gX l[i].f0); omega))
    exact this
   ·simp only [if_neg h0, beq_eq_false_iff_ne.mpr h0, Bool.false_eq_true, if_false]
    exact ih (i + 1) out (by omega) (by omega) hset hf (by omega)
  ·exact hend i out (by omega)
theorem BA (a : ByteArray) (s l : List RR) (hn : l.length ≤ 100000) : Ev (fun k => aA.f k a s l) (vZ a l) := by
 have := Lf a s l hn l.length 0 [] (by omega) (Nat.zero_le _) List.Pairwise.nil (fun y hy => by cases hy) (Nat.le_refl _)
 rw [List.drop_zero] at this
 exact this
end Go.Y.Rrs
namespace Go.Y.kS
open Go.ChangeShapes Go.WideShapes Go.Deep Go.Proofs.aj.aC
section
variable {H : Type} {enc : TypeId × Value → H} {P : Program} {W : World} {base : Nat} {spare : Nat → Bool} {held : Bool}
theorem fields_of {e : TypeId} {fs : Array Field} {fuel : Nat} {cs : List Value} {x : DataW H × List MemPlace} (he : P.underlying e = some (.struct fs)) (hone : oneCellFields P fs = true) (hC : P.cellsOf e = fs.size)
  (h : DataW.trod enc P W base spare held fuel e cs = some x) : cs.length = fs.size ∧ ∃ n, ∀ (j : Nat) (f : Field), fs[j]? = some f → ∃ v y, cs[j]? = some v ∧ DataW.trod enc P W base spare held n f.type [v] = some y := by
 obtain ⟨ys, n, _, _, hl, hyl, hf⟩ := DataW.trod_struct he h
 refine ⟨hl.trans hC, n, fun j f hj => ?_⟩
 obtain ⟨ho, hk⟩ := hone_of hone j f hj
 have hjl : j < fs.size := (Array.getElem?_eq_some_iff.1 hj).1
 have hcl : j < cs.length := by omega
 have hyj : j < ys.length := by omega
 have h1 := hf j f hj
 rw [ho, hk, List.drop_eq_getElem_cons hcl, List.take_succ_cons, List.take_zero] at h1
 exact ⟨cs[j], ys[j], List.getElem?_eq_getElem hcl, h1.trans (List.getElem?_eq_getElem hyj)⟩
theorem Kn {S : Type} (n : Nat) (R : Nat → S → Prop) (h : ∀ i, i < n → ∃ s, R i s) : ∃ l : List S, l.length = n ∧ ∀ i s, l[i]? = some s → R i s := by
 induction n with
 | zero => exact ⟨[], rfl, fun i s hs => by simp at hs⟩
 | succ n ih =>
  obtain ⟨l, hl, hr⟩ := ih fun i hi => h i (by omega)
  obtain ⟨s, hs⟩ := h n (by omega)
  refine ⟨l ++ [s], by simp [hl], fun i t ht => ?_⟩
  by_cases hi : i < n
  ·rw [List.getElem?_append_left (by omega)] at ht; exact hr i t ht
  ·rw [List.getElem?_append_right (by omega)] at ht
   by_cases e : i = n
   ·subst e; rw [hl, Nat.sub_self] at ht; simp at ht; subst ht; exact hs
   ·rw [List.getElem?_eq_none (by simp; omega)] at ht; cases ht
theorem Du {S : Type} (k : Kd S) (good : S → Prop) {t e : TypeId} {a : Option Addr} {len cap : Nat} {d : DataW H} {ps : List MemPlace} (hu : P.underlying t = some (.slice e)) (hC : P.cellsOf e = k.sz) (hpos : 0 < k.sz)
  (open1 : ∀ fuel cs x, DataW.trod enc P W base spare held fuel e cs = some x → ∃ s, k.K W s cs ∧ good s) (h : DataW.Trod enc P W base spare held t (.slice a len cap) d ps) :
  ∃ l : List S, len = l.length ∧ Kd.C k W a l.length l ∧ l.length ≤ cap ∧ l.length ≤ maxLen ∧ ∀ s ∈ l, good s := by
 obtain ⟨fuel, hf⟩ := h
 rcases open_slice hu hf with ⟨hcs, _⟩ | ⟨x, l, c, m, n, D, Pl, hcs, _, hl, hm, hmm, _, hi⟩
 ·simp [Value.cells] at hcs
  obtain ⟨rfl, rfl, rfl⟩ := hcs
  exact ⟨[], rfl, Kd.Lu _ _, Nat.le_refl _, Nat.zero_le _, by simp⟩
 ·simp [Value.cells] at hcs
  obtain ⟨rfl, rfl, rfl⟩ := hcs
  have hlm : len ≤ m := by rw [hmm]; split <;> omega
  obtain ⟨L, hL, hR⟩ := Kn len (fun i s => good s ∧ ∃ cs', k.K W s cs' ∧ cs'.length = k.sz ∧ ∀ j u, cs'[j]? = some u → W.cell? (x.add (i * k.sz + j)) = some u) (fun i hi' => by
   obtain ⟨cs', hc, ht⟩ := hi i (by omega)
   obtain ⟨s, hs, hg⟩ := open1 _ _ _ ht
   rw [hC] at hc
   obtain ⟨_, hcl, hat⟩ := World.cells?_some hc
   refine ⟨s, hg, cs', hs, hcl, fun j u hj => ?_⟩
   have hjl : j < k.sz := by rw [← hcl]; exact (List.getElem?_eq_some_iff.1 hj).1
   have := hat j hjl
   rw [← Go.Deep.add_add]; rw [this]; exact hj)
  refine ⟨L, hL.symm, ⟨rfl, by unfold maxLen at hm; omega, fun _ => ⟨x, rfl, fun j p hp => ?_⟩⟩, by omega, by omega, fun s hs => ?_⟩
  ·obtain ⟨_, c, h1, h2, h3⟩ := hR j p hp
   exact ⟨c, h2, h1, h3⟩
  ·obtain ⟨i, hi', he⟩ := List.getElem_of_mem hs
   exact (hR i s (by rw [List.getElem?_eq_getElem hi', he])).1
end
end Go.Y.kS
namespace Go.Y.kS
open Go.ChangeShapes Go.WideShapes Go.Deep Go.Proofs.aj.aC Go.Y.PRd Go.Y.PRr
structure sN (s : S28) : Prop where
 n0 : s.f0.size ≤ maxLen
 n4 : s.f4.size ≤ maxLen
 i1 : (Lit.int .i64 s.f1).wf = true
 i2 : (Lit.int .i64 s.f2).wf = true
 i3 : (Lit.int .i64 s.f3).wf = true
section
variable {H : Type} {enc : TypeId × Value → H} {W : World} {base : Nat} {spare : Nat → Bool} {held : Bool}
theorem LB {fuel : Nat} {cs : List Value} {x : DataW H × List MemPlace} (h : DataW.trod enc Tryz.prog W base spare held fuel 28 cs = some x) : ∃ s : S28, cs = [.string s.f0, .int .i64 s.f1, .int .i64 s.f2, .int .i64 s.f3, .string s.f4] ∧ sN s := by
 obtain ⟨hl, n, hf⟩ := fields_of Tryz.underlying28 (by kernel_rfl) (by kernel_rfl) h
 obtain ⟨v0, y0, c0, h0⟩ := hf 0 _ rfl
 obtain ⟨v1, y1, c1, h1⟩ := hf 1 _ rfl
 obtain ⟨v2, y2, c2, h2⟩ := hf 2 _ rfl
 obtain ⟨v3, y3, c3, h3⟩ := hf 3 _ rfl
 obtain ⟨v4, y4, c4, h4⟩ := hf 4 _ rfl
 obtain ⟨s, e0, _, g0⟩ := DataW.trod_string Tryz.underlying9 h0
 obtain ⟨a, e1, _, g1⟩ := DataW.trod_int Tryz.underlying3 h1
 obtain ⟨b, e2, _, g2⟩ := DataW.trod_int Tryz.underlying3 h2
 obtain ⟨c, e3, _, g3⟩ := DataW.trod_int Tryz.underlying3 h3
 obtain ⟨d, e4, _, g4⟩ := DataW.trod_string Tryz.underlying9 h4
 obtain rfl : v0 = .string s := by simpa using e0
 obtain rfl : v1 = .int .i64 a := by simpa using e1
 obtain rfl : v2 = .int .i64 b := by simpa using e2
 obtain rfl : v3 = .int .i64 c := by simpa using e3
 obtain rfl : v4 = .string d := by simpa using e4
 have : cs = [.string s, .int .i64 a, .int .i64 b, .int .i64 c, .string d] := by
  match cs, hl with
  | [p, q, r, t, u], _ => simp at c0 c1 c2 c3 c4; rw [c0, c1, c2, c3, c4]
 exact ⟨⟨s, a, b, c, d⟩, this, ⟨g0, g4, g1, g2, g3⟩⟩
theorem El {t : TypeId} {a : Option Addr} {len cap : Nat} {d : DataW H} {ps : List MemPlace} (hu : Tryz.prog.underlying t = some (.slice 28)) (h : DataW.Trod enc Tryz.prog W base spare held t (.slice a len cap) d ps) :
  ∃ l : List S28, len = l.length ∧ Kd.C k28 W a l.length l ∧ l.length ≤ cap ∧ l.length ≤ maxLen ∧ ∀ s ∈ l, sN s :=
 Du k28 sN hu (by kernel_rfl) (by decide) (fun _ _ _ h => by
  obtain ⟨s, rfl, hg⟩ := LB h
  exact ⟨s, KW W s, hg⟩) h
end
end Go.Y.kS
namespace Go.Y.Pure
open Go.Proofs.aj.aC Go.Y.Given Go.Y.PRd Go.Y.PRr Go.Y.PZo Go.Y.PZf Go.Y.PZh Go.Y.PPo Go.Y.PPs Go.Y.Rrs Go.Y.kS Go.Y.eD Go.Y.Oct Go.Y.Name Go.Y.fq Go.Y.dJ
abbrev exA : ByteArray := ⟨#[2, 101, 120, 0]⟩
theorem Gs (a : ByteArray) (l : List RR) : (vZ a l).length ≤ l.length := by
 have h : ∀ (l m : List ByteArray), (l.foldl (dJ.put fM) m).length ≤ m.length + l.length := by
  intro l
  induction l with
  | nil => intro m; simp
  | cons x l ih =>
   intro m
   rw [List.foldl_cons]
   have h1 := ih (dJ.put fM m x)
   have h2 := Aa m x
   rw [List.length_cons]
   omega
 have h1 := h (oh a l) []
 have h2 : (oh a l).length ≤ l.length := by unfold oh; rw [List.length_map]; exact List.length_filter_le _ _
 unfold vZ qo dJ.ofL
 simp only [List.length_nil, Nat.zero_add] at h1
 omega
end Go.Y.Pure
namespace Go.Y.PPs
open Go.Proofs.aj.aC Go.Proofs.aj.aT Go.Proofs.aj.aV Go.Y.Given Go.Y.PRd Go.Y.PRr Go.Y.PZo Go.Y.PZf Go.Y.PZe Go.Y.PZh Go.Y.PPo
attribute [local go_sem] dK dN dY dX dB dA dL dM
mutual
noncomputable def aH.j0 : Nat → List (S28) → List (S28) → Bool → Option (Bool)
 | 0, _, _, _ => none
 | k + 1, x0, x1, x20 => if x20 = true then ((eZ.f k).bind fun t152 => (some t152)) else ((bX.f k (⟨#[2, 101, 120, 0]⟩ : ByteArray) x0).bind fun bt153 => ((dz.f k (⟨#[2, 101, 120, 0]⟩ : ByteArray) x0).bind fun bt160 => (if bt153.2.2.2 = 0 then (aH.j1 k x1 bt153.2.2.2 bt160.2.2 (bt160.2.2 != 0) bt153.1 bt153.2.1 bt153.2.2.1 bt160.1 bt160.2.1) else (aH.j1 k x1 bt153.2.2.2 bt160.2.2 true bt153.1 bt153.2.1 bt153.2.2.1 bt160.1 bt160.2.1))))
noncomputable def aH.j1 : Nat → List (S28) → Int → Int → Bool → ByteArray → List (S28) → Int → ByteArray → List (S28) → Option (Bool)
 | 0, _, _, _, _, _, _, _, _, _ => none
 | k + 1, x1, x6, x8, x37, x160000, x160001, x160002, x166000, x166001 => if x37 = true then (some (x6 == x8)) else ((dZ.f k x160000 x160001 x160002 x1).bind fun t166 => ((dH.f k x166000 x166001 x1).bind fun t167 => (if t166 = t167 then ((iJ.f k x160000 x160001 x160002 x1).bind fun t168 => ((aA.f k x166000 x166001 x1).bind fun t171 => ((dh.f k t168 t171).bind fun t174 => (some t174)))) else (some false))))
end
noncomputable def aH.f (k : Nat) (l0 : List (S28)) (l1 : List (S28)) : Option (Bool) := (eZ.f k).bind fun t149 => (if t149 = true then ((bD.f k l0).bind fun t150 => (if t150 = true then ((bn.f k l1).bind fun t151 => (aH.j0 k l0 l1 (!t151))) else (aH.j0 k l0 l1 true))) else (aH.j0 k l0 l1 true))
def aH.T7 : Bool × List (List Nat × List Nat) := (true, [([], []), ([], []), ([0, 1], [0, 1]), ([], []), ([], []), ([3, 4, 2], [3, 4]), ([2, 5], [2, 5]), ([6, 5], [6]), ([7], [7]), ([7], [7]), ([8, 9, 7, 7], [7, 8, 9]), ([7], [7]), ([7], [7]), ([11, 12, 10, 7], [7, 11, 12]), ([10, 13, 13, 7], [7, 10, 13]), ([7, 14], [7, 14]), ([15, 14, 0, 1, 2, 3, 4, 5, 6, 7, 8, 9, 10, 11, 12, 13, 14, 15], [15])])
def aH.B7 : List Nat := [0, 0, 3, 0, 0, 31, 63, 127, 255, 255, 1023, 255, 255, 8191, 16383, 32767, 65535]
theorem aH.Mc : iH .any (opsOf Tryz.f5 7) = aH.T7 := by kernel_rfl
theorem aH.LP : jD aH.T7.2 aH.B7 = true := by kernel_rfl
theorem aH.calls (k : Nat) (A0 : Option Addr) (c0 : Nat) (l0 : List (S28)) (A1 : Option Addr) (c1 : Nat) (l1 : List (S28)) (r : Bool) (w : World) (hr0 : Kd.C k28 w A0 l0.length l0) (hc0 : l0.length ≤ c0) (hr1 : Kd.C k28 w A1 l1.length l1) (hc1 : l1.length ≤ c1) (h : aH.f k l0 l1 = some r) :
    Calls Tryz.prog 5 #[.slice A0 l0.length c0, .slice A1 l1.length c1] w fun e w' => e = .returned (.bool r) ∧ Below w.heap.size w w' := by
  have hu31 := Tryz.underlying31
  have hu36 := Tryz.underlying36
  have HR0 := ah.mk hr0
  have HC0 := ah.mk hc0
  clear hr0 hc0
  have HR1 := ah.mk hr1
  have HC1 := ah.mk hc1
  clear hr1 hc1
  have HB := ah.mk (Below.refl w.heap.size w)
  have H : ((eZ.f k).bind fun t149 => (if t149 = true then ((bD.f k l0).bind fun t150 => (if t150 = true then ((bn.f k l1).bind fun t151 => (aH.j0 k l0 l1 (!t151))) else (aH.j0 k l0 l1 true))) else (aH.j0 k l0 l1 true))) = some r := h
  clear h
  have HC3 := ah.mk H
  clear H
  go_enter Tryz.func5, Tryz.ntmps5
  go_upto_region 1 with (fail)
  go_cut [20] (fun v20 wc => ∃ (kq : Nat) (x20_2 : Bool), v20 = .bool x20_2 ∧ ah (aH.j0 kq l0 l1 x20_2 = some r) ∧ ah (kq ≤ k) ∧ ah (Below w.heap.size w wc))
  case first =>
   have H := HC3.out
   clear HC3
   obtain ⟨t149, A4, H⟩ := bZ H
   by_cases c5 : t149 = true
   ·subst c5
    rw [if_pos rfl] at H
    obtain ⟨t150, A6, H⟩ := bZ H
    by_cases c7 : t150 = true
    ·subst c7
     rw [if_pos rfl] at H
     obtain ⟨t151, A8, H⟩ := bZ H
     have H' := ah.mk H
     clear H
     go_wp2_with (first | ((with_reducible refine eP (f := 18) rfl ?_); refine iI (some 9) rfl rfl Tryz.func18 (by kernel_rfl) rfl #[] rfl (by (try simp only [List.map_toArray, List.map_cons, List.map_nil]); done) ?_; (with_reducible refine (eZ.calls k  _ _ A4.out).mono ?_); rintro e w9 ⟨rfl, hb⟩; refine ⟨_, rfl, ?_⟩; replace HB := ah.mk (au HB.out hb); (try clear hb)) | (go_at_call 19; (with_reducible refine (bD.calls k _ _ l0 _ _ ?side1 ?side2 A6.out).mono ?_); (case side1 => repeat ((exact (Kd.fC HR0.out HB.out)))); (case side2 => exact HC0.out); rintro e w' ⟨rfl, ⟨nd, rfl⟩⟩) | (go_at_call 20; (with_reducible refine (bn.calls k _ _ l1 t151 _ ?side1 ?side2 A8.out).mono ?_); (case side1 => repeat ((exact (Kd.fC HR1.out (by repeat ((with_reducible first | exact HB.out | apply aR))))))); (case side2 => exact HC1.out); rintro e w10 ⟨rfl, hb⟩; replace HB := ah.mk (au (by repeat ((with_reducible first | exact HB.out | apply aR))) hb); (try clear hb)))
     go_meet
     case rel => exact ⟨_, (!t151), (by rfl), H', ⟨by omega⟩, ⟨HB.out⟩⟩
    ·replace c7 := Bool.eq_false_iff.mpr c7
     subst c7
     rw [if_neg ff_] at H
     have H' := ah.mk H
     clear H
     go_wp2_with (first | ((with_reducible refine eP (f := 18) rfl ?_); refine iI (some 9) rfl rfl Tryz.func18 (by kernel_rfl) rfl #[] rfl (by (try simp only [List.map_toArray, List.map_cons, List.map_nil]); done) ?_; (with_reducible refine (eZ.calls k  _ _ A4.out).mono ?_); rintro e w11 ⟨rfl, hb⟩; refine ⟨_, rfl, ?_⟩; replace HB := ah.mk (au HB.out hb); (try clear hb)) | (go_at_call 19; (with_reducible refine (bD.calls k _ _ l0 _ _ ?side1 ?side2 A6.out).mono ?_); (case side1 => repeat ((exact (Kd.fC HR0.out HB.out)))); (case side2 => exact HC0.out); rintro e w' ⟨rfl, ⟨nd, rfl⟩⟩))
     go_meet
     case rel => exact ⟨_, (true), (by rfl), H', ⟨by omega⟩, ⟨by repeat ((with_reducible first | exact HB.out | apply aR))⟩⟩
   ·replace c5 := Bool.eq_false_iff.mpr c5
    subst c5
    rw [if_neg ff_] at H
    have H' := ah.mk H
    clear H
    go_wp2_with ((((with_reducible refine eP (f := 18) rfl ?_); refine iI (some 9) rfl rfl Tryz.func18 (by kernel_rfl) rfl #[] rfl (by (try simp only [List.map_toArray, List.map_cons, List.map_nil]); done) ?_; (with_reducible refine (eZ.calls k  _ _ A4.out).mono ?_); rintro e w12 ⟨rfl, hb⟩; refine ⟨_, rfl, ?_⟩; replace HB := ah.mk (au HB.out hb); (try clear hb))))
    go_meet
    case rel => exact ⟨_, (true), (by rfl), H', ⟨by omega⟩, ⟨HB.out⟩⟩
  case rest =>
   clear HC3
   obtain ⟨kq, x20_2, rfl, HA, HJ2, HB⟩ := hcut
   cases kq with
   | zero => exact absurd HA.out (by simp [aH.j0])
   | succ kj2 =>
    have H := HA.out
    clear HA
    simp only [aH.j0] at H
    by_cases c13 : x20_2 = true
    ·subst c13
     rw [if_pos rfl] at H
     obtain ⟨t152, A14, H⟩ := bZ H
     obtain rfl := Option.some.inj H
     go_wp2_with ((((with_reducible refine eP (f := 18) rfl ?_); refine iI (some 21) rfl rfl Tryz.func18 (by kernel_rfl) rfl #[] rfl (by (try simp only [List.map_toArray, List.map_cons, List.map_nil]); done) ?_; (with_reducible refine (eZ.calls kj2  t152 _ A14.out).mono ?_); rintro e w15 ⟨rfl, hb⟩; refine ⟨_, rfl, ?_⟩; replace HB := ah.mk (au HB.out hb); (try clear hb))))
     go_ret
     exact ⟨by rfl, HB.out⟩
    ·replace c13 := Bool.eq_false_iff.mpr c13
     subst c13
     rw [if_neg ff_] at H
     replace H := Option.bind_eq_some_iff.mp H
     obtain ⟨⟨t153, t154, t157, t158⟩, A160, H⟩ := H
     replace H : ((dz.f kj2 (⟨#[2, 101, 120, 0]⟩ : ByteArray) l0).bind fun bt160 => (if t158 = 0 then (aH.j1 kj2 l1 t158 bt160.2.2 (bt160.2.2 != 0) t153 t154 t157 bt160.1 bt160.2.1) else (aH.j1 kj2 l1 t158 bt160.2.2 true t153 t154 t157 bt160.1 bt160.2.1))) = some r := H
     have A16 := ah.mk A160
     clear A160
     replace H := Option.bind_eq_some_iff.mp H
     obtain ⟨⟨t160, t161, t164⟩, A170, H⟩ := H
     replace H : (if t158 = 0 then (aH.j1 kj2 l1 t158 t164 (t164 != 0) t153 t154 t157 t160 t161) else (aH.j1 kj2 l1 t158 t164 true t153 t154 t157 t160 t161)) = some r := H
     have A17 := ah.mk A170
     clear A170
     have HC18 := ah.mk H
     clear H
     go_upto_region 5 with (first | (refine gl_ (some 24) Tryz.func21 #[.string (⟨#[2, 101, 120, 0]⟩ : ByteArray), .slice A0 l0.length c0] ?_; (with_reducible refine (bX.calls kj2 (⟨#[2, 101, 120, 0]⟩ : ByteArray) _ _ l0 t153 t154 t157 t158 _ ?side1 ?side2 A16.out).mono ?_); (case side1 => repeat ((exact (Kd.fC HR0.out HB.out)))); (case side2 => exact HC0.out); rintro e w19 ⟨v155, rfl, ho0, hb⟩; refine ⟨_, rfl, ?_⟩; have HO156 := ah.mk (Kd.bV ho0 (av HB.out)); replace HB := ah.mk (au HB.out hb); (try clear hb); (try clear ho0)) | ((((refine be_ (N := 5) (cs := #[.string (⟨#[]⟩ : ByteArray), .slice none 0 0, .int .i64 0]) (t := 31) ?_))); intro gb159 hg w20 hbox hb; have BK159 := ah.mk (hbox); have GW159 := ah.mk (ge_ hg (av HB.out)); have GE159 := ah.mk (ge_ hg (av HB.out)); replace HO156 := ah.mk (Kd.bS (by ((exact HO156.out))) hb); replace HB := ah.mk (au HB.out hb); clear hb hbox hg; obtain ⟨hcz21_0, hcz21_1, hcz21_2, hfz21_0, hfz21_1, hfz21_2⟩ := z3_ BK159.out; obtain ⟨Ao22, co22, eo22⟩ := Kd.dn HO156.out; subst eo22) | (refine gl_ (some 29) Tryz.func22 #[.string (⟨#[2, 101, 120, 0]⟩ : ByteArray), .slice A0 l0.length c0] ?_; (with_reducible refine (dz.calls kj2 (⟨#[2, 101, 120, 0]⟩ : ByteArray) _ _ l0 t160 t161 t164 _ ?side1 ?side2 A17.out).mono ?_); (case side1 => exact Kd.fC HR0.out (by repeat ((with_reducible first | exact HB.out | refine dw ?_ GE159.out)))); (case side2 => exact HC0.out); rintro e w23 ⟨v162, rfl, ho0, hb⟩; refine ⟨_, rfl, ?_⟩; have HO163 := ah.mk (Kd.bV (Kd.jo ho0 (Kd.jS (by (with_reducible repeat ((apply Kd.aW))); exact (Kd.dD (Kd.fV (p := ⟨gb159, 2, none⟩) (Kd.fV (p := ⟨gb159, 1, none⟩) (Kd.fV (p := ⟨gb159, 0, none⟩) (Kd.jE HO156.out BK159.out (by decide)) (fun _ hk => hk.2) (.string t153)) (fun _ hk => hk.2) (.slice Ao22 t154.length co22)) (fun _ hk => hk.2) (.int .i64 t157)) (fun _ h_ => h_.1))))) (av (by repeat ((with_reducible first | exact HB.out | refine dw ?_ GE159.out))))); replace HO156 := ah.mk (Kd.iy (by (with_reducible repeat ((apply Kd.aW))); exact (Kd.dD (Kd.fV (p := ⟨gb159, 2, none⟩) (Kd.fV (p := ⟨gb159, 1, none⟩) (Kd.fV (p := ⟨gb159, 0, none⟩) (Kd.jE HO156.out BK159.out (by decide)) (fun _ hk => hk.2) (.string t153)) (fun _ hk => hk.2) (.slice Ao22 t154.length co22)) (fun _ hk => hk.2) (.int .i64 t157)) (fun _ h_ => h_.1))) (Kd.jk ho0) hb); replace BK159 := ah.mk (aD (g := gb159) (o := .cells #[.string t153, .slice Ao22 t154.length co22, .int .i64 t157] 31 (0, 0)) (by (with_reducible repeat ((refine ay ?_ _))); refine bH (cs := #[.string t153, .slice Ao22 t154.length co22, .int .i64 0]) ?_ 2 _ rfl; (with_reducible repeat ((refine ay ?_ _))); refine bH (cs := #[.string t153, .slice none 0 0, .int .i64 0]) ?_ 1 _ rfl; (with_reducible repeat ((refine ay ?_ _))); refine bH (cs := #[.string (⟨#[]⟩ : ByteArray), .slice none 0 0, .int .i64 0]) ?_ 0 _ rfl; (with_reducible repeat ((refine ay ?_ _))); exact BK159.out) hb); replace HB := ah.mk (au (by repeat ((with_reducible first | exact HB.out | refine dw ?_ GE159.out))) hb); (try clear hb); (try clear ho0)) | ((((refine be_ (N := 7) (cs := #[.string (⟨#[]⟩ : ByteArray), .slice none 0 0]) (t := 36) ?_))); intro gb165 hg w24 hbox hb; have BK165 := ah.mk (hbox); have GW165 := ah.mk (ge_ hg (av HB.out)); have GE165 := ah.mk (ge_ hg (av HB.out)); have NB159_165 := ah.mk (nl_ hg (by ((exact BK159.out)))); have NB165_159 := ah.mk (nr_ hg (by ((exact BK159.out)))); replace HO156 := ah.mk (Kd.bS (by ((exact HO156.out))) hb); replace HO163 := ah.mk (Kd.bS (by ((exact HO163.out))) hb); replace BK159 := ah.mk (aD (by ((exact BK159.out))) hb); replace HB := ah.mk (au HB.out hb); clear hb hbox hg; have hnb25 := NB165_159.out; have hnc25 := NB159_165.out; obtain ⟨hcz26_0, hcz26_1, hfz26_0, hfz26_1⟩ := z2_ BK165.out; obtain ⟨Ao27, co27, eo27⟩ := Kd.dn HO163.out; subst eo27))
     go_cut [37] (fun v37 wc => ∃ (kq : Nat) (x37_17 : Bool), v37 = .bool x37_17 ∧ ah (aH.j1 kq l1 t158 t164 x37_17 t153 t154 t157 t160 t161 = some r) ∧ ah (kq ≤ kj2) ∧ ah (Kd.R k28 28 wc w.heap.size (fun k_ => some k_ ≠ ((.slice Ao27 t161.length co27) : Value).ownBlock) (.slice Ao22 t154.length co22) t154) ∧ ah (Kd.R k28 28 wc w.heap.size (fun k_ => some k_ ≠ ((.slice Ao22 t154.length co22) : Value).ownBlock) (.slice Ao27 t161.length co27) t161) ∧ ah (wc.heap[gb159]? = some (.cells #[.string t153, (.slice Ao22 t154.length co22), .int .i64 t157] 31 (0, 0))) ∧ ah (wc.heap[gb165]? = some (.cells #[.string t160, (.slice Ao27 t161.length co27)] 36 (0, 0))) ∧ ah (Below w.heap.size w wc))
     case first =>
      have H := HC18.out
      clear HC18
      by_cases c28 : t158 = 0
      focus
       rw [if_pos c28] at H
       have c28b0 : (t158 == 0) = true := beq_iff_eq.mpr c28
       have c28b1 : (t158 != 0) = false := bne_eq_false_iff_eq.mpr c28
       clear c28
      rotate_left
      focus
       rw [if_neg c28] at H
       have c28b0 : (t158 == 0) = false := beq_eq_false_iff_ne.mpr c28
       have c28b1 : (t158 != 0) = true := bne_iff_ne.mpr c28
      rotate_left
      all_goals
       (skip)
       have H' := ah.mk H
       clear H
       go_wp2
       go_meet
      ·case rel => exact ⟨_, ((t164 != 0)), (by rfl), H', ⟨by have := HJ2.out; omega⟩, ⟨by (with_reducible repeat ((apply Kd.aW))); exact Kd.dD (Kd.fV (p := ⟨gb165, 1, none⟩) (Kd.fV (p := ⟨gb165, 0, none⟩) (Kd.jE HO156.out BK165.out (by decide)) (fun _ hk => hk.2) (.string t160)) (fun _ hk => hk.2) (.slice Ao27 t161.length co27)) (fun _ hk => hk.1.2)⟩, ⟨by (with_reducible repeat ((apply Kd.aW))); exact Kd.dD (Kd.fV (p := ⟨gb165, 1, none⟩) (Kd.fV (p := ⟨gb165, 0, none⟩) (Kd.jE HO163.out BK165.out (by decide)) (fun _ hk => hk.2) (.string t160)) (fun _ hk => hk.2) (.slice Ao27 t161.length co27)) (fun _ hk => hk.1.2)⟩, ⟨by (with_reducible repeat ((refine ay ?_ _))); refine fD ?_ NB159_165.out _; (with_reducible repeat ((refine ay ?_ _))); refine fD ?_ NB159_165.out _; (with_reducible repeat ((refine ay ?_ _))); exact BK159.out⟩, ⟨by (with_reducible repeat ((refine ay ?_ _))); refine bH (cs := #[.string t160, .slice none 0 0]) ?_ 1 _ rfl; (with_reducible repeat ((refine ay ?_ _))); refine bH (cs := #[.string (⟨#[]⟩ : ByteArray), .slice none 0 0]) ?_ 0 _ rfl; (with_reducible repeat ((refine ay ?_ _))); exact BK165.out⟩, ⟨by repeat ((with_reducible first | exact HB.out | refine dw ?_ GE165.out))⟩⟩
      ·case rel => exact ⟨_, (true), (by rfl), H', ⟨by have := HJ2.out; omega⟩, ⟨by (with_reducible repeat ((apply Kd.aW))); exact Kd.dD (Kd.fV (p := ⟨gb165, 1, none⟩) (Kd.fV (p := ⟨gb165, 0, none⟩) (Kd.jE HO156.out BK165.out (by decide)) (fun _ hk => hk.2) (.string t160)) (fun _ hk => hk.2) (.slice Ao27 t161.length co27)) (fun _ hk => hk.1.2)⟩, ⟨by (with_reducible repeat ((apply Kd.aW))); exact Kd.dD (Kd.fV (p := ⟨gb165, 1, none⟩) (Kd.fV (p := ⟨gb165, 0, none⟩) (Kd.jE HO163.out BK165.out (by decide)) (fun _ hk => hk.2) (.string t160)) (fun _ hk => hk.2) (.slice Ao27 t161.length co27)) (fun _ hk => hk.1.2)⟩, ⟨by (with_reducible repeat ((refine ay ?_ _))); refine fD ?_ NB159_165.out _; (with_reducible repeat ((refine ay ?_ _))); refine fD ?_ NB159_165.out _; (with_reducible repeat ((refine ay ?_ _))); exact BK159.out⟩, ⟨by (with_reducible repeat ((refine ay ?_ _))); refine bH (cs := #[.string t160, .slice none 0 0]) ?_ 1 _ rfl; (with_reducible repeat ((refine ay ?_ _))); refine bH (cs := #[.string (⟨#[]⟩ : ByteArray), .slice none 0 0]) ?_ 0 _ rfl; (with_reducible repeat ((refine ay ?_ _))); exact BK165.out⟩, ⟨by repeat ((with_reducible first | exact HB.out | refine dw ?_ GE165.out))⟩⟩
     case rest =>
      clear HC18
      (try clear hcz21_0)
      (try clear hcz21_1)
      (try clear hcz21_2)
      (try clear hcz26_0)
      (try clear hcz26_1)
      (try clear hfz21_0)
      (try clear hfz21_1)
      (try clear hfz21_2)
      (try clear hfz26_0)
      (try clear hfz26_1)
      obtain ⟨kq, x37_17, rfl, HA, HJ17, HO_160001, HO_166001, BK159, BK165, HB⟩ := hcut
      cases kq with
      | zero => exact absurd HA.out (by simp [aH.j1])
      | succ kj17 =>
       have H := HA.out
       clear HA
       simp only [aH.j1] at H
       by_cases c29 : x37_17 = true
       focus
        subst c29
        rw [if_pos rfl] at H
        obtain rfl := Option.some.inj H
        go_wp2
       rotate_left
       focus
        replace c29 := Bool.eq_false_iff.mpr c29
        subst c29
        rw [if_neg ff_] at H
        obtain ⟨t166, A30, H⟩ := bZ H
        obtain ⟨t167, A31, H⟩ := bZ H
        by_cases c32 : t166 = t167
        focus
         rw [if_pos c32] at H
         have c32b0 : (t166 == t167) = true := beq_iff_eq.mpr c32
         have c32b1 : (t166 != t167) = false := bne_eq_false_iff_eq.mpr c32
         clear c32
         obtain ⟨t168, A33, H⟩ := bZ H
         obtain ⟨t171, A34, H⟩ := bZ H
         obtain ⟨t174, A35, H⟩ := bZ H
        rotate_left
        focus
         rw [if_neg c32] at H
         have c32b0 : (t166 == t167) = false := beq_eq_false_iff_ne.mpr c32
         have c32b1 : (t166 != t167) = true := bne_iff_ne.mpr c32
        rotate_left
        all_goals
         obtain rfl := Option.some.inj H
         (try go_wp2)
         replace HO_160001 := ah.mk (Kd.iN HO_160001.out)
         replace HO_166001 := ah.mk (Kd.iN HO_166001.out)
         replace BK159 := ah.mk (fu BK159.out)
         replace BK165 := ah.mk (fu BK165.out)
         replace HB := ah.mk (bW HB.out)
         refine jd (n := 17) (ds := []) (ls 17 0) (by kernel_rfl) rfl rfl (c3_ BK159.out (d2_ BK165.out)) (fun hHeld => ?_); refine iL aH.Mc aH.LP (fun HT_ HW_ => ?_)
         generalize wc.drew = w36 at HO_160001 HO_166001 BK159 BK165 HB hHeld ⊢
         refine td_ [(1, 42), (4, 45)] ?_
         iterate 2 (refine pm_ HT_ ?_)
         refine dn_ ?_
         refine td_ [(0, 41), (3, 44)] ?_
         iterate 2 (refine tm_ HT_ HW_ hHeld ?_)
         refine dn_ ?_
         refine jN HT_ (i := 2) (N := some 43) (ls 17 31) (fun K hK => ?_)
         refine gs_ Tryz.func23 #[.agg #[.string t153, .slice Ao22 t154.length co22, .int .i64 t157], .slice A1 l1.length c1] ?_
         with_reducible refine (dZ.calls kj17 t153 _ _ t154 t157 _ _ l1 t166 _ ?side1 ?side2 ?side3 ?side4 A30.out).mono ?_
         (case side1 => exact (Kd.aZ HO_160001.out).2.2)
         (case side2 => exact (Kd.aZ HO_160001.out).2.1)
         (case side3 => repeat ((exact (Kd.fC HR1.out HB.out))))
         (case side4 => exact HC1.out)
         rintro e w37 ⟨rfl, hb⟩
         refine ⟨_, rfl, ?_⟩
         replace HO_160001 := ah.mk (Kd.bS (by ((exact HO_160001.out))) hb)
         replace HO_166001 := ah.mk (Kd.bS (by ((exact HO_166001.out))) hb)
         replace BK159 := ah.mk (aD (by ((exact BK159.out))) hb)
         replace BK165 := ah.mk (aD (by ((exact BK165.out))) hb)
         replace HB := ah.mk (au HB.out hb)
         (try clear hb)
         refine hK.out _ _ (c3_ BK159.out (d2_ BK165.out)) (fun hHeld => ?_)
         clear hK K
         refine nm_ (N := (some 43)) ?_
         refine jN HT_ (i := 5) (N := some 46) (ls 17 63) (fun K hK => ?_)
         refine gs_ Tryz.func24 #[.agg #[.string t160, .slice Ao27 t161.length co27], .slice A1 l1.length c1] ?_
         with_reducible refine (dH.calls kj17 t160 _ _ t161 _ _ l1 t167 _ ?side1 ?side2 ?side3 ?side4 A31.out).mono ?_
         (case side1 => exact (Kd.aZ HO_166001.out).2.2)
         (case side2 => exact (Kd.aZ HO_166001.out).2.1)
         (case side3 => repeat ((exact (Kd.fC HR1.out HB.out))))
         (case side4 => exact HC1.out)
         rintro e w38 ⟨rfl, hb⟩
         refine ⟨_, rfl, ?_⟩
         replace HO_160001 := ah.mk (Kd.bS (by ((exact HO_160001.out))) hb)
         replace HO_166001 := ah.mk (Kd.bS (by ((exact HO_166001.out))) hb)
         replace BK159 := ah.mk (aD (by ((exact BK159.out))) hb)
         replace BK165 := ah.mk (aD (by ((exact BK165.out))) hb)
         replace HB := ah.mk (au HB.out hb)
         (try clear hb)
         refine hK.out _ _ (c3_ BK159.out (d2_ BK165.out)) (fun hHeld => ?_)
         clear hK K
         refine nm_ (N := (some 46)) ?_
        focus
         refine td_ [(6, 47), (7, 48), (9, 50), (12, 53)] ?_
         iterate 4 (refine pm_ HT_ ?_)
         refine dn_ ?_
         refine td_ [(8, 49), (11, 52)] ?_
         iterate 2 (refine tm_ HT_ HW_ hHeld ?_)
         refine dn_ ?_
         refine jN HT_ (i := 10) (N := some 51) (ls 17 8191) (fun K hK => ?_)
         refine gs_ Tryz.func26 #[.agg #[.string t153, .slice Ao22 t154.length co22, .int .i64 t157], .slice A1 l1.length c1] ?_
         with_reducible refine (iJ.calls kj17 t153 _ _ t154 t157 _ _ l1 t168 _ ?side1 ?side2 ?side3 ?side4 A33.out).mono ?_
         (case side1 => exact (Kd.aZ HO_160001.out).2.2)
         (case side2 => exact (Kd.aZ HO_160001.out).2.1)
         (case side3 => repeat ((exact (Kd.fC HR1.out HB.out))))
         (case side4 => exact HC1.out)
         rintro e w39 ⟨v169, rfl, ho0, hb⟩
         refine ⟨_, rfl, ?_⟩
         have HO170 := ah.mk (Kd.bV ho0 (av HB.out))
         replace HO_160001 := ah.mk (Kd.bS (by ((exact HO_160001.out))) hb)
         replace HO_166001 := ah.mk (Kd.bS (by ((exact HO_166001.out))) hb)
         replace BK159 := ah.mk (aD (by ((exact BK159.out))) hb)
         replace BK165 := ah.mk (aD (by ((exact BK165.out))) hb)
         replace HB := ah.mk (au HB.out hb)
         (try clear hb)
         (try clear ho0)
         refine hK.out _ _ (c3_ BK159.out (d2_ BK165.out)) (fun hHeld => ?_)
         clear hK K
         refine nm_ (N := (some 51)) ?_
         refine jN HT_ (i := 13) (N := some 54) (ls 17 16383) (fun K hK => ?_)
         refine gs_ Tryz.func27 #[.agg #[.string t160, .slice Ao27 t161.length co27], .slice A1 l1.length c1] ?_
         with_reducible refine (aA.calls kj17 t160 _ _ t161 _ _ l1 t171 _ ?side1 ?side2 ?side3 ?side4 A34.out).mono ?_
         (case side1 => exact (Kd.aZ HO_166001.out).2.2)
         (case side2 => exact (Kd.aZ HO_166001.out).2.1)
         (case side3 => repeat ((exact (Kd.fC HR1.out HB.out))))
         (case side4 => exact HC1.out)
         rintro e w40 ⟨v172, rfl, ho0, hb⟩
         refine ⟨_, rfl, ?_⟩
         have HO173 := ah.mk (Kd.bV (Kd.jo ho0 (Kd.jS (by ((exact HO170.out))))) (av HB.out))
         replace HO_160001 := ah.mk (Kd.bS (by ((exact HO_160001.out))) hb)
         replace HO_166001 := ah.mk (Kd.bS (by ((exact HO_166001.out))) hb)
         replace HO170 := ah.mk (Kd.iy (by ((exact HO170.out))) (Kd.jk ho0) hb)
         replace BK159 := ah.mk (aD (by ((exact BK159.out))) hb)
         replace BK165 := ah.mk (aD (by ((exact BK165.out))) hb)
         replace HB := ah.mk (au HB.out hb)
         (try clear hb)
         (try clear ho0)
         obtain ⟨Ao41, co41, eo41⟩ := Kd.dn HO170.out
         ((subst eo41))
         obtain ⟨Ao42, co42, eo42⟩ := Kd.dn HO173.out
         ((subst eo42))
         refine hK.out _ _ (c3_ BK159.out (d2_ BK165.out)) (fun hHeld => ?_)
         clear hK K
         refine nm_ (N := (some 54)) ?_
         refine jN HT_ (i := 14) (N := some 55) (ls 17 32767) (fun K hK => ?_)
         refine gs_ Tryz.func25 #[.slice Ao41 t168.length co41, .slice Ao42 t171.length co42] ?_
         with_reducible refine (dh.calls kj17 _ _ t168 _ _ t171 t174 _ ?side1 ?side2 ?side3 ?side4 A35.out).mono ?_
         (case side1 => exact (Kd.aZ HO170.out).2.2)
         (case side2 => exact (Kd.aZ HO170.out).2.1)
         (case side3 => exact (Kd.aZ HO173.out).2.2)
         (case side4 => exact (Kd.aZ HO173.out).2.1)
         rintro e w' ⟨rfl, ⟨nd, rfl⟩⟩
         refine ⟨_, rfl, ?_⟩
         refine hK.out _ _ (c3_ BK159.out (d2_ BK165.out)) (fun hHeld => ?_)
         clear hK K
         refine nm_ (N := (some 55)) ?_
        rotate_left
        focus
         refine td_ [(6, 47), (7, 48)] ?_
         iterate 2 (refine pm_ HT_ ?_)
         refine dn_ ?_
         refine td_ [(8, 49), (9, 50), (10, 51), (11, 52), (12, 53), (13, 54), (14, 55)] ?_
         iterate 7 (refine om_ HT_ ?_)
         refine dn_ ?_
        rotate_left
        all_goals
         refine td_ [(15, 56), (16, 4)] ?_
         iterate 2 (refine pm_ HT_ ?_)
         refine dn_ ?_
         refine lC (mU HT_.out (by kernel_rfl)) ?_
         (try go_wp2)
       rotate_left 2
       all_goals
        go_ret
        exact ⟨by rfl, by repeat ((with_reducible first | exact HB.out | apply aR))⟩
end Go.Y.PPs
namespace Go.Y.Pure
open Go.Proofs.aj.aC Go.Y.Given Go.Y.PRd Go.Y.PRr Go.Y.PZo Go.Y.PZf Go.Y.PZh Go.Y.PPo Go.Y.PPs Go.Y.Rrs Go.Y.kS Go.Y.eD Go.Y.Oct Go.Y.Name Go.Y.fq Go.Y.dJ
theorem PrescanTells (l k0 : List RR) (hm : l.length ≤ maxLen) (hs : ∀ s ∈ l, sN s) (hm2 : k0.length ≤ maxLen) (hs2 : ∀ s ∈ k0, sN s) : ∃ k, aH.f k l k0 = some true := by
 refine Ev.rounds ?_
 unfold maxLen at hm hm2
 have hoff : Ev (fun k => aH.j0 k l k0 true) true := Ev.step (f := fun k => (eZ.f k).bind fun t => some t) (fun k => by rw [aH.j0, if_pos rfl]) (Ev.bind wM (Ev.now _))
 unfold aH.f
 refine Ev.bind wM ?_
 simp only [if_true]
 obtain ⟨b, hb, hl⟩ := KQ l (by omega)
 refine Ev.bind hb ?_
 cases b
 ·simp only [Bool.false_eq_true, if_false]; exact hoff
 ·simp only [if_true]
  have hl := hl rfl
  obtain ⟨b, hb, hr⟩ := Af k0 (by omega)
  refine Ev.bind hb ?_
  cases b
  ·exact hoff
  ·obtain ⟨hk, hr⟩ := hr rfl
   have hst : ∀ k, aH.j0 (k + 1) l k0 (!true) = (bX.f k exA l).bind fun p => (dz.f k exA l).bind fun q => if p.2.2.2 = 0 then aH.j1 k k0 p.2.2.2 q.2.2 (q.2.2 != 0) p.1 p.2.1 p.2.2.1 q.1 q.2.1 else aH.j1 k k0 p.2.2.2 q.2.2 true p.1 p.2.1 p.2.2.1 q.1 q.2.1 := fun k => by
    rw [aH.j0, if_neg (by decide)]
   refine Ev.step hst (Ev.bind (Gx exA l (by omega)) (Ev.bind (KG exA l (by omega)) ?_))
   rcases GK exA l (by omega) with ⟨s, hS, hsl, e1, e2, _⟩ | ⟨e, he, e1, e2⟩
   ·rw [e1, e2]
    simp only [if_true, bne_self_eq_false]
    refine Ev.step (f := fun k => (dZ.f k exA s (uK s) k0).bind fun t => (dH.f k exA s k0).bind fun u => if t = u then ((iJ.f k exA s (uK s) k0).bind fun t1 => (aA.f k exA s k0).bind fun t2 => (dh.f k t1 t2).bind fun t3 => some t3) else some false) (fun k => by rw [aH.j1, if_neg (by decide)]) ?_
    refine Ev.bind (yN _ _ _ _ (by omega)) (Ev.bind (Fa _ _ _ (by omega)) ?_)
    simp only [if_true]
    refine Ev.bind (Eh _ _ _ _ (by omega)) (Ev.bind (BA _ _ _ (by omega)) ?_)
    refine Ev.bind (Iq _ _ (by have := Gs exA k0; omega)) ?_
    simp only [decide_true]
    exact Ev.now _
   ·rw [e1, e2]
    simp only [he, if_false]
    refine Ev.step (f := fun _ => some (e == e)) (fun k => by rw [aH.j1, if_pos rfl]) ?_
    rw [beq_self_eq_true]
    exact Ev.now _
end Go.Y.Pure
