/- Contracts and facts that the claim's row is drawn from, each with its own conditions. -/
import Derived.Test.YtehdkopjgcoclaaJoined5
import Derived.Test.YtehdkopjgcoclaaProg
import Derived.Below
import Derived.Deep.Draws
import Derived.Deep.AppendLies
import Derived.Maps.AppendAt
import Derived.OwnWalk
import Derived.Laws.BytesArg
import Derived.Laws.MakeOwn
import Derived.Laws.OwnMore
import Derived.Deep.OwnRows
import Derived.Tactics
import Derived.Lib.ConvBytes
import Derived.Laws.Slices
import Derived.WalkKit
import Derived.KernelRfl
import Derived.RowKit3
import Derived.Deep.LoopGhost
import Derived.Deep.QuietTactic
import Derived.BigQuiet
import Derived.WideLaws
import Derived.Deep.DeepCutAuto
import Derived.Deep.CutBlock
import Derived.Deep.RegionHeld3
import Derived.Laws.Rows
import Derived.Lib.AppendStr
import Derived.ArgAppend
import Derived.Laws.IdiomCopy
import Derived.OrdersHeld
import Derived.Laws.BitsLemmas
import Derived.RowKit
import Derived.Deep.Slices
import Derived.Deep.Fields
import Derived.ProofKit
namespace Go.Proofs.Ytehdkopjgcoclaa.PZh
open Go.RowKit Go.Proofs.YtehdkopjgcoclaaW.PrintWords Go.Proofs.YtehdkopjgcoclaaW.PrintLast Go.Proofs.YtehdkopjgcoclaaW.PrintMore Go.Proofs.Ytehdkopjgcoclaa.Given Go.Proofs.Ytehdkopjgcoclaa.PRd Go.Proofs.Ytehdkopjgcoclaa.PRr Go.Proofs.Ytehdkopjgcoclaa.PZo Go.Proofs.Ytehdkopjgcoclaa.PZf
attribute [local go_sem] max2_int min2_int max_two min_two max_three min_three max_four min_four   -- for this text's walks alone
set_option linter.unusedVariables false
set_option linter.unusedSimpArgs false
mutual
noncomputable def prereq_Check.l0 : Nat → List (S33) → List (S33) → Int → Int → ByteArray → List (S33) → Int → Option (Int)
 | 0, _, _, _, _, _, _, _ => none
 | k + 1, x5, x11, x12, x13, x235000, x235001, x235002 => if x13 < x12 then (if 0 ≤ x13 then (if x13 < (x11.length : Int) then ((prereq_one.f k x235000 x235001 x235002 ((rd_T33 x11 x13).f0) ((rd_T33 x11 x13).f1) ((rd_T33 x11 x13).f2) ((rd_T33 x11 x13).f3) ((rd_T33 x11 x13).f4)).bind fun t237 => (if t237 = 0 then (if ((rd_T33 x11 x13).f2) = 1 then (if x5.length < 2513169434916 then (prereq_Check.l0 k (x5 ++ [(⟨(rd_T33 x11 x13).f0, (rd_T33 x11 x13).f1, (rd_T33 x11 x13).f2, (rd_T33 x11 x13).f3, (rd_T33 x11 x13).f4⟩ : S33)]) x11 x12 (wrap64 (x13 + 1)) x235000 x235001 x235002) else (none)) else (prereq_Check.l0 k x5 x11 x12 (wrap64 (x13 + 1)) x235000 x235001 x235002)) else (some t237))) else (none)) else (none)) else (prereq_Check.l1 k x5 x5 (x5.length : Int) 0 x235000 x235001 x235002)
noncomputable def prereq_Check.l1 : Nat → List (S33) → List (S33) → Int → Int → ByteArray → List (S33) → Int → Option (Int)
 | 0, _, _, _, _, _, _, _ => none
 | k + 1, x5, x31, x32, x33, x235000, x235001, x235002 => if x33 < x32 then (if 0 ≤ x33 then (if x33 < (x31.length : Int) then ((zone_Zone_Set.f x235000 x235001 x235002 ((rd_T33 x31 x33).f0) ((rd_T33 x31 x33).f1)).bind fun t243 => ((rrset_At.f x5 ((rd_T33 x31 x33).f0)).bind fun t246 => ((rrset_Typed.f t246 ((rd_T33 x31 x33).f1)).bind fun t249 => ((prereq_equal.f k t243 t249).bind fun t252 => (if t252 = true then (prereq_Check.l1 k x5 x31 x32 (wrap64 (x33 + 1)) x235000 x235001 x235002) else (some 8)))))) else (none)) else (none)) else (some 0)
end
noncomputable def prereq_Check.f (k : Nat) (a0_0 : ByteArray) (l0_1 : List (S33)) (a0_2 : Int) (l1 : List (S33)) : Option (Int) := prereq_Check.l0 k ([] : List (S33)) l1 (l1.length : Int) 0 a0_0 l0_1 a0_2
def prereq_Check.T14 : Bool × List (List Nat × List Nat) := (true, [([], []), ([], []), ([1], [1]), ([], []), ([3], [3]), ([0, 2, 4], [0, 2, 4]), ([], []), ([], []), ([7], [7]), ([6, 8, 5], [6, 8]), ([], []), ([10], [10]), ([9, 11, 9], [9, 11]), ([5, 12, 12], [5, 12]), ([13], [13])])
def prereq_Check.B14 : List Nat := [0, 0, 2, 0, 8, 31, 0, 0, 128, 511, 0, 1024, 4095, 8191, 16383]
theorem prereq_Check.tab14 : rtab .any (opsOf Try.f16 14) = prereq_Check.T14 := by kernel_rfl
theorem prereq_Check.bits14 : waitsOk prereq_Check.T14.2 prereq_Check.B14 = true := by kernel_rfl
set_option maxHeartbeats 8000000 in
set_option maxRecDepth 100000 in
theorem prereq_Check.calls (k : Nat) (a0_0 : ByteArray) (A0_1 : Option Addr) (c0_1 : Nat) (l0_1 : List (S33)) (a0_2 : Int) (A1 : Option Addr) (c1 : Nat) (l1 : List (S33)) (r : Int) (w : World) (hr0_1 : Kd.C k33 w A0_1 l0_1.length l0_1) (hc0_1 : l0_1.length ≤ c0_1) (hr1 : Kd.C k33 w A1 l1.length l1) (hc1 : l1.length ≤ c1) (h : prereq_Check.f k a0_0 l0_1 a0_2 l1 = some r) :
    Calls Try.prog 16 #[.agg #[.string a0_0, .slice A0_1 l0_1.length c0_1, .int .i64 a0_2], .slice A1 l1.length c1] w fun e w' => e = .returned (.int .i64 r) ∧ Below w.heap.size w w' := by
  have hu27 := Try.underlying27
  have hu33 := Try.underlying33
  have HR0_1 := Aside0.mk hr0_1
  have HC0_1 := Aside0.mk hc0_1
  clear hr0_1 hc0_1
  have HR1 := Aside0.mk hr1
  have HC1 := Aside0.mk hc1
  clear hr1 hc1
  have HB := Aside0.mk (Below.refl w.heap.size w)
  have H : (prereq_Check.l0 k ([] : List (S33)) l1 (l1.length : Int) 0 a0_0 l0_1 a0_2) = some r := h
  clear h
  have H' := Aside0.mk H
  clear H
  go_enter Try.func16, Try.ntmps16
  go_wp2_with (((((refine be_ (N := 2) (cs := #[.string a0_0, .slice A0_1 l0_1.length c0_1, .int .i64 a0_2]) (t := 27) ?_)); intro gb234 hg w3 hbox hb; have BK234 := Aside0.mk (hbox); have GW234 := Aside0.mk (ge_ hg (below_size HB.out)); have GE234 := Aside0.mk (ge_ hg (below_size HB.out)); replace HB := Aside0.mk (below_step HB.out hb); clear hb hbox hg)))
  go_loopg [5, 13] k (fun kq v5 v13 w' => ∃ (x5_1 : List (S33)) (x13_1 : Int), v13 = .int .i64 x13_1 ∧ Aside0 (prereq_Check.l0 kq x5_1 l1 (l1.length : Int) x13_1 a0_0 l0_1 a0_2 = some r) ∧ Aside0 (kq ≤ k) ∧ Aside0 (Kd.R k33 33 w' w.heap.size (fun _ => True) v5 x5_1) ∧ Aside0 (w'.heap[gb234]? = some (.cells #[.string a0_0, (.slice A0_1 l0_1.length c0_1), .int .i64 a0_2] 27 (0, 0))) ∧ Aside0 (Below w.heap.size w w'))
  case atStart => exact ⟨(([] : List (S33))), (0), (by rfl), H', ⟨Nat.le_refl _⟩, ⟨by (exact Kd.R_nil _ _ _ _ _)⟩, ⟨by (with_reducible repeat ((refine blk_drewN ?_ _))); exact BK234.out⟩, ⟨HB.out⟩⟩
  case round =>
   clear H'
   obtain ⟨x5_1, x13_1, rfl, HA, HK1, HO_5, BK234, HB⟩ := hrel
   cases gk with
   | zero => exact absurd HA.out (by simp [prereq_Check.l0])
   | succ k1 =>
    have H := HA.out
    clear HA
    simp only [prereq_Check.l0] at H
    by_cases c4 : x13_1 < (l1.length : Int)
    ·rw [if_pos c4] at H
     have c4b0 : decide (x13_1 < (l1.length : Int)) = true := decide_eq_true c4
     clear c4
     obtain ⟨c5b0, H⟩ := gdd_ H
     obtain ⟨c6b0, H⟩ := gdd_ H
     obtain ⟨t237, A7, H⟩ := bnd_ H
     by_cases c8 : t237 = 0
     focus
      rw [if_pos c8] at H
      have c8b0 : (t237 == 0) = true := beq_iff_eq.mpr c8
      have c8b1 : (t237 != 0) = false := bne_eq_false_iff_eq.mpr c8
      clear c8
      by_cases c9 : ((rd_T33 l1 x13_1).f2) = 1
      focus
       rw [if_pos c9] at H
       have c9b0 : (((rd_T33 l1 x13_1).f2) == 1) = true := beq_iff_eq.mpr c9
       have c9b1 : (((rd_T33 l1 x13_1).f2) != 1) = false := bne_eq_false_iff_eq.mpr c9
       clear c9
       obtain ⟨c10, H⟩ := gd_ H
       have LMc10 := Aside0.mk c10
       clear c10
       obtain ⟨y238, hy238⟩ : ∃ y_ : List (S33), y_ = (x5_1 ++ [(⟨(rd_T33 l1 x13_1).f0, (rd_T33 l1 x13_1).f1, (rd_T33 l1 x13_1).f2, (rd_T33 l1 x13_1).f3, (rd_T33 l1 x13_1).f4⟩ : S33)]) := ⟨_, rfl⟩
       replace H : (prereq_Check.l0 k1 y238 l1 (l1.length : Int) (wrap64 (x13_1 + 1)) a0_0 l0_1 a0_2) = some r := by (rw [hy238]; with_reducible exact H)
       have Ny238 := Aside0.mk hy238
       clear hy238
      rotate_left
      focus
       rw [if_neg c9] at H
       have c9b0 : (((rd_T33 l1 x13_1).f2) == 1) = false := beq_eq_false_iff_ne.mpr c9
       have c9b1 : (((rd_T33 l1 x13_1).f2) != 1) = true := bne_iff_ne.mpr c9
      rotate_left
      all_goals
       have H' := Aside0.mk H
       clear H
     rotate_left 2
     focus
      rw [if_neg c8] at H
      have c8b0 : (t237 == 0) = false := beq_eq_false_iff_ne.mpr c8
      have c8b1 : (t237 != 0) = true := bne_iff_ne.mpr c8
      obtain rfl := Option.some.inj H
     rotate_left
     all_goals
      have p235 : 0 ≤ (x13_1 : Int) := of_decide_eq_true (by assumption)
      have q235 : x13_1 < (l1.length : Int) := of_decide_eq_true (by assumption)
      obtain ⟨ad235, e235, hx235_0, hx235_1, hx235_2, hx235_3, hx235_4⟩ := at_T33 HR1.out x13_1 p235 q235
      cases e235
      replace hx235_0 := kp_ HB.out hx235_0
      replace hx235_1 := kp_ HB.out hx235_1
      replace hx235_2 := kp_ HB.out hx235_2
      replace hx235_3 := kp_ HB.out hx235_3
      replace hx235_4 := kp_ HB.out hx235_4
      replace p235 := eq_true p235
      replace q235 := eq_true q235
     ·go_wp2_with (first | ((((refine be_ (N := 7) (cs := #[.string (⟨#[]⟩ : ByteArray), .int .i64 0, .int .i64 0, .int .i64 0, .string (⟨#[]⟩ : ByteArray)]) (t := 33) ?_))); intro gb236 hg w11 hbox hb; have BK236 := Aside0.mk (hbox); have GW236 := Aside0.mk (ge_ hg (below_size HB.out)); have GE236 := Aside0.mk (ge_ hg (below_size HB.out)); have NB234_236 := Aside0.mk (nl_ hg (by ((exact BK234.out)))); have NB236_234 := Aside0.mk (nr_ hg (by ((exact BK234.out)))); replace HO_5 := Aside0.mk (Kd.R_below (Kd.R_elderB (by ((exact HO_5.out))) gb236 (Nat.le_of_eq hg.symm)) hb); replace BK234 := Aside0.mk (blk_below (by ((exact BK234.out))) hb); replace HB := Aside0.mk (below_step HB.out hb); clear hb hbox hg; have hnb12 := NB236_234.out; have hnc12 := NB234_236.out; obtain ⟨hcz13_0, hcz13_1, hcz13_2, hcz13_3, hcz13_4, hfz13_0, hfz13_1, hfz13_2, hfz13_3, hfz13_4⟩ := z5_ BK236.out; obtain ⟨hcz14_0, hcz14_1, hcz14_2, hfz14_0, hfz14_1, hfz14_2⟩ := z3_ BK234.out) | ((with_reducible refine gate_callee (f := 34) rfl ?_); refine goesL_ (some 19) rfl rfl Try.func34 (by kernel_rfl) rfl #[.agg #[.string a0_0, .slice A0_1 l0_1.length c0_1, .int .i64 a0_2], .agg #[.string ((rd_T33 l1 x13_1).f0), .int .i64 ((rd_T33 l1 x13_1).f1), .int .i64 ((rd_T33 l1 x13_1).f2), .int .i64 ((rd_T33 l1 x13_1).f3), .string ((rd_T33 l1 x13_1).f4)]] rfl (by (try simp only [mA_, mC_, mN_]); rfl) ?_; (with_reducible refine (prereq_one.calls k1 a0_0 _ _ l0_1 a0_2 ((rd_T33 l1 x13_1).f0) ((rd_T33 l1 x13_1).f1) ((rd_T33 l1 x13_1).f2) ((rd_T33 l1 x13_1).f3) ((rd_T33 l1 x13_1).f4) t237 _ ?side1 ?side2 A7.out).mono ?_); (case side1 => exact Kd.C_below HR0_1.out (by repeat ((with_reducible first | exact HB.out | refine below_set ?_ GE236.out)))); (case side2 => exact HC0_1.out); rintro e w15 ⟨rfl, hb⟩; refine ⟨_, rfl, ?_⟩; replace HO_5 := Aside0.mk (Kd.R_below (by (with_reducible repeat ((apply Kd.R_alloc))); exact (Kd.R_mono (Kd.R_far (p := ⟨gb236, 4, none⟩) (Kd.R_far (p := ⟨gb236, 3, none⟩) (Kd.R_far (p := ⟨gb236, 2, none⟩) (Kd.R_far (p := ⟨gb236, 1, none⟩) (Kd.R_far (p := ⟨gb236, 0, none⟩) (Kd.R_mono HO_5.out (fun k_ hk => (⟨hk, hk.2⟩ : _ ∧ k_ ≠ gb236))) (fun _ hk => hk.2) (.string ((rd_T33 l1 x13_1).f0))) (fun _ hk => hk.2) (.int .i64 ((rd_T33 l1 x13_1).f1))) (fun _ hk => hk.2) (.int .i64 ((rd_T33 l1 x13_1).f2))) (fun _ hk => hk.2) (.int .i64 ((rd_T33 l1 x13_1).f3))) (fun _ hk => hk.2) (.string ((rd_T33 l1 x13_1).f4))) (fun _ h_ => h_.1))) hb); replace BK234 := Aside0.mk (blk_below (g := gb234) (o := .cells #[.string a0_0, .slice A0_1 l0_1.length c0_1, .int .i64 a0_2] 27 (0, 0)) (by (with_reducible repeat ((refine blk_drewN ?_ _))); refine blk_far ?_ NB234_236.out _; (with_reducible repeat ((refine blk_drewN ?_ _))); refine blk_far ?_ NB234_236.out _; (with_reducible repeat ((refine blk_drewN ?_ _))); refine blk_far ?_ NB234_236.out _; (with_reducible repeat ((refine blk_drewN ?_ _))); refine blk_far ?_ NB234_236.out _; (with_reducible repeat ((refine blk_drewN ?_ _))); refine blk_far ?_ NB234_236.out _; (with_reducible repeat ((refine blk_drewN ?_ _))); exact BK234.out) hb); replace BK236 := Aside0.mk (blk_below (g := gb236) (o := .cells #[.string ((rd_T33 l1 x13_1).f0), .int .i64 ((rd_T33 l1 x13_1).f1), .int .i64 ((rd_T33 l1 x13_1).f2), .int .i64 ((rd_T33 l1 x13_1).f3), .string ((rd_T33 l1 x13_1).f4)] 33 (0, 0)) (by (with_reducible repeat ((refine blk_drewN ?_ _))); refine blk_put (cs := #[.string ((rd_T33 l1 x13_1).f0), .int .i64 ((rd_T33 l1 x13_1).f1), .int .i64 ((rd_T33 l1 x13_1).f2), .int .i64 ((rd_T33 l1 x13_1).f3), .string (⟨#[]⟩ : ByteArray)]) ?_ 4 _ rfl; (with_reducible repeat ((refine blk_drewN ?_ _))); refine blk_put (cs := #[.string ((rd_T33 l1 x13_1).f0), .int .i64 ((rd_T33 l1 x13_1).f1), .int .i64 ((rd_T33 l1 x13_1).f2), .int .i64 0, .string (⟨#[]⟩ : ByteArray)]) ?_ 3 _ rfl; (with_reducible repeat ((refine blk_drewN ?_ _))); refine blk_put (cs := #[.string ((rd_T33 l1 x13_1).f0), .int .i64 ((rd_T33 l1 x13_1).f1), .int .i64 0, .int .i64 0, .string (⟨#[]⟩ : ByteArray)]) ?_ 2 _ rfl; (with_reducible repeat ((refine blk_drewN ?_ _))); refine blk_put (cs := #[.string ((rd_T33 l1 x13_1).f0), .int .i64 0, .int .i64 0, .int .i64 0, .string (⟨#[]⟩ : ByteArray)]) ?_ 1 _ rfl; (with_reducible repeat ((refine blk_drewN ?_ _))); refine blk_put (cs := #[.string (⟨#[]⟩ : ByteArray), .int .i64 0, .int .i64 0, .int .i64 0, .string (⟨#[]⟩ : ByteArray)]) ?_ 0 _ rfl; (with_reducible repeat ((refine blk_drewN ?_ _))); exact BK236.out) hb); replace HB := Aside0.mk (below_step (by repeat ((with_reducible first | exact HB.out | refine below_set ?_ GE236.out))) hb); (try clear hb); obtain ⟨hcz16_0, hcz16_1, hcz16_2, hcz16_3, hcz16_4, hfz16_0, hfz16_1, hfz16_2, hfz16_3, hfz16_4⟩ := z5_ BK236.out) | ((with_reducible refine gate_builtin (b := .append) (xs := #[.tmp 26, .tmp 28]) rfl ?_); at_builtin; refine Kd.R_append k33 (w0 := w) w.heap.size rfl (.tmp 26) (.tmp 28) 24 33 (.agg #[(.string ⟨#[]⟩), (.int .i64 0), (.int .i64 0), (.int .i64 0), (.string ⟨#[]⟩)]) 56 rfl Try.underlying24 info33 rfl (by decide) (by omega) u5 x5_1 (⟨(rd_T33 l1 x13_1).f0, (rd_T33 l1 x13_1).f1, (rd_T33 l1 x13_1).f2, (rd_T33 l1 x13_1).f3, (rd_T33 l1 x13_1).f4⟩ : S33) [.string ((rd_T33 l1 x13_1).f0), .int .i64 ((rd_T33 l1 x13_1).f1), .int .i64 ((rd_T33 l1 x13_1).f2), .int .i64 ((rd_T33 l1 x13_1).f3), .string ((rd_T33 l1 x13_1).f4)] (fun k_ => k_ ≠ gb236) (fun _ => False) rfl rfl ?aP (fun _ hk => hk.elim) ?aF ?aO ?aB ?aS ?aL ?_; (case aP => exact k33_mkM _ _ _ (⟨(rd_T33 l1 x13_1).f0, (rd_T33 l1 x13_1).f1, (rd_T33 l1 x13_1).f2, (rd_T33 l1 x13_1).f3, (rd_T33 l1 x13_1).f4⟩ : S33)); (case aB => exact HB.out); (case aF => exact (fun k_ hk => Kd.freshB (g := gb236) (o := .cells #[.string ((rd_T33 l1 x13_1).f0), .int .i64 ((rd_T33 l1 x13_1).f1), .int .i64 ((rd_T33 l1 x13_1).f2), .int .i64 ((rd_T33 l1 x13_1).f3), .string ((rd_T33 l1 x13_1).f4)] 33 (0, 0)) (by ((exact BK236.out))) k_ hk)); (case aO => exact (by (with_reducible repeat ((apply Kd.R_alloc))); exact Kd.R_mono HO_5.out (fun _ hk => hk.2))); (case aS => exact (below_size HB.out)); (case aL => have := LMc10.out; omega); intro v239 w17 ho hb hg hat; rw [← Ny238.out] at ho; have n0_ := Aside0.mk (blk_grown (g := gb234) (o := .cells #[.string a0_0, .slice A0_1 l0_1.length c0_1, .int .i64 a0_2] 27 (0, 0)) (by ((exact BK234.out))) hg (Kd.R_ne HO_5.out BK234.out (by decide))); have n1_ := Aside0.mk (blk_grown (g := gb236) (o := .cells #[.string ((rd_T33 l1 x13_1).f0), .int .i64 ((rd_T33 l1 x13_1).f1), .int .i64 ((rd_T33 l1 x13_1).f2), .int .i64 ((rd_T33 l1 x13_1).f3), .string ((rd_T33 l1 x13_1).f4)] 33 (0, 0)) (by ((exact BK236.out))) hg (Kd.R_away HO_5.out (fun _ hk => hk.2))); have n2_ := Aside0.mk (hb); have n3_ := Aside0.mk (ho); clear BK234; clear BK236; clear HB; clear HO_5; have BK234 := n0_; have BK236 := n1_; have HB := n2_; have HO240 := n3_; clear n0_ n1_ n2_ n3_; clear ho hb hg hat))
      go_roundg k1
      case measure => have := HK1.out; omega
      case rel => exact ⟨(y238), (wrap64 (x13_1 + 1)), (by rfl), H', ⟨by have := HK1.out; omega⟩, ⟨by (with_reducible repeat ((apply Kd.R_alloc))); exact Kd.R_mono HO240.out (fun _ hk => trivial)⟩, ⟨by (with_reducible repeat ((refine blk_drewN ?_ _))); exact BK234.out⟩, ⟨HB.out⟩⟩
     ·go_wp2_with (first | ((((refine be_ (N := 7) (cs := #[.string (⟨#[]⟩ : ByteArray), .int .i64 0, .int .i64 0, .int .i64 0, .string (⟨#[]⟩ : ByteArray)]) (t := 33) ?_))); intro gb236 hg w18 hbox hb; have BK236 := Aside0.mk (hbox); have GW236 := Aside0.mk (ge_ hg (below_size HB.out)); have GE236 := Aside0.mk (ge_ hg (below_size HB.out)); have NB234_236 := Aside0.mk (nl_ hg (by ((exact BK234.out)))); have NB236_234 := Aside0.mk (nr_ hg (by ((exact BK234.out)))); replace HO_5 := Aside0.mk (Kd.R_below (Kd.R_elderB (by ((exact HO_5.out))) gb236 (Nat.le_of_eq hg.symm)) hb); replace BK234 := Aside0.mk (blk_below (by ((exact BK234.out))) hb); replace HB := Aside0.mk (below_step HB.out hb); clear hb hbox hg; have hnb19 := NB236_234.out; have hnc19 := NB234_236.out; obtain ⟨hcz20_0, hcz20_1, hcz20_2, hcz20_3, hcz20_4, hfz20_0, hfz20_1, hfz20_2, hfz20_3, hfz20_4⟩ := z5_ BK236.out; obtain ⟨hcz21_0, hcz21_1, hcz21_2, hfz21_0, hfz21_1, hfz21_2⟩ := z3_ BK234.out) | ((with_reducible refine gate_callee (f := 34) rfl ?_); refine goesL_ (some 19) rfl rfl Try.func34 (by kernel_rfl) rfl #[.agg #[.string a0_0, .slice A0_1 l0_1.length c0_1, .int .i64 a0_2], .agg #[.string ((rd_T33 l1 x13_1).f0), .int .i64 ((rd_T33 l1 x13_1).f1), .int .i64 ((rd_T33 l1 x13_1).f2), .int .i64 ((rd_T33 l1 x13_1).f3), .string ((rd_T33 l1 x13_1).f4)]] rfl (by (try simp only [mA_, mC_, mN_]); rfl) ?_; (with_reducible refine (prereq_one.calls k1 a0_0 _ _ l0_1 a0_2 ((rd_T33 l1 x13_1).f0) ((rd_T33 l1 x13_1).f1) ((rd_T33 l1 x13_1).f2) ((rd_T33 l1 x13_1).f3) ((rd_T33 l1 x13_1).f4) t237 _ ?side1 ?side2 A7.out).mono ?_); (case side1 => exact Kd.C_below HR0_1.out (by repeat ((with_reducible first | exact HB.out | refine below_set ?_ GE236.out)))); (case side2 => exact HC0_1.out); rintro e w22 ⟨rfl, hb⟩; refine ⟨_, rfl, ?_⟩; replace HO_5 := Aside0.mk (Kd.R_below (by (with_reducible repeat ((apply Kd.R_alloc))); exact (Kd.R_mono (Kd.R_far (p := ⟨gb236, 4, none⟩) (Kd.R_far (p := ⟨gb236, 3, none⟩) (Kd.R_far (p := ⟨gb236, 2, none⟩) (Kd.R_far (p := ⟨gb236, 1, none⟩) (Kd.R_far (p := ⟨gb236, 0, none⟩) (Kd.R_mono HO_5.out (fun k_ hk => (⟨hk, hk.2⟩ : _ ∧ k_ ≠ gb236))) (fun _ hk => hk.2) (.string ((rd_T33 l1 x13_1).f0))) (fun _ hk => hk.2) (.int .i64 ((rd_T33 l1 x13_1).f1))) (fun _ hk => hk.2) (.int .i64 ((rd_T33 l1 x13_1).f2))) (fun _ hk => hk.2) (.int .i64 ((rd_T33 l1 x13_1).f3))) (fun _ hk => hk.2) (.string ((rd_T33 l1 x13_1).f4))) (fun _ h_ => h_.1))) hb); replace BK234 := Aside0.mk (blk_below (g := gb234) (o := .cells #[.string a0_0, .slice A0_1 l0_1.length c0_1, .int .i64 a0_2] 27 (0, 0)) (by (with_reducible repeat ((refine blk_drewN ?_ _))); refine blk_far ?_ NB234_236.out _; (with_reducible repeat ((refine blk_drewN ?_ _))); refine blk_far ?_ NB234_236.out _; (with_reducible repeat ((refine blk_drewN ?_ _))); refine blk_far ?_ NB234_236.out _; (with_reducible repeat ((refine blk_drewN ?_ _))); refine blk_far ?_ NB234_236.out _; (with_reducible repeat ((refine blk_drewN ?_ _))); refine blk_far ?_ NB234_236.out _; (with_reducible repeat ((refine blk_drewN ?_ _))); exact BK234.out) hb); replace BK236 := Aside0.mk (blk_below (g := gb236) (o := .cells #[.string ((rd_T33 l1 x13_1).f0), .int .i64 ((rd_T33 l1 x13_1).f1), .int .i64 ((rd_T33 l1 x13_1).f2), .int .i64 ((rd_T33 l1 x13_1).f3), .string ((rd_T33 l1 x13_1).f4)] 33 (0, 0)) (by (with_reducible repeat ((refine blk_drewN ?_ _))); refine blk_put (cs := #[.string ((rd_T33 l1 x13_1).f0), .int .i64 ((rd_T33 l1 x13_1).f1), .int .i64 ((rd_T33 l1 x13_1).f2), .int .i64 ((rd_T33 l1 x13_1).f3), .string (⟨#[]⟩ : ByteArray)]) ?_ 4 _ rfl; (with_reducible repeat ((refine blk_drewN ?_ _))); refine blk_put (cs := #[.string ((rd_T33 l1 x13_1).f0), .int .i64 ((rd_T33 l1 x13_1).f1), .int .i64 ((rd_T33 l1 x13_1).f2), .int .i64 0, .string (⟨#[]⟩ : ByteArray)]) ?_ 3 _ rfl; (with_reducible repeat ((refine blk_drewN ?_ _))); refine blk_put (cs := #[.string ((rd_T33 l1 x13_1).f0), .int .i64 ((rd_T33 l1 x13_1).f1), .int .i64 0, .int .i64 0, .string (⟨#[]⟩ : ByteArray)]) ?_ 2 _ rfl; (with_reducible repeat ((refine blk_drewN ?_ _))); refine blk_put (cs := #[.string ((rd_T33 l1 x13_1).f0), .int .i64 0, .int .i64 0, .int .i64 0, .string (⟨#[]⟩ : ByteArray)]) ?_ 1 _ rfl; (with_reducible repeat ((refine blk_drewN ?_ _))); refine blk_put (cs := #[.string (⟨#[]⟩ : ByteArray), .int .i64 0, .int .i64 0, .int .i64 0, .string (⟨#[]⟩ : ByteArray)]) ?_ 0 _ rfl; (with_reducible repeat ((refine blk_drewN ?_ _))); exact BK236.out) hb); replace HB := Aside0.mk (below_step (by repeat ((with_reducible first | exact HB.out | refine below_set ?_ GE236.out))) hb); (try clear hb); obtain ⟨hcz23_0, hcz23_1, hcz23_2, hcz23_3, hcz23_4, hfz23_0, hfz23_1, hfz23_2, hfz23_3, hfz23_4⟩ := z5_ BK236.out))
      go_roundg k1
      case measure => have := HK1.out; omega
      case rel => exact ⟨(x5_1), (wrap64 (x13_1 + 1)), (by rfl), H', ⟨by have := HK1.out; omega⟩, ⟨by (with_reducible repeat ((apply Kd.R_alloc))); exact Kd.R_mono HO_5.out (fun _ hk => trivial)⟩, ⟨by (with_reducible repeat ((refine blk_drewN ?_ _))); exact BK234.out⟩, ⟨HB.out⟩⟩
     ·go_wp2_with (first | ((((refine be_ (N := 7) (cs := #[.string (⟨#[]⟩ : ByteArray), .int .i64 0, .int .i64 0, .int .i64 0, .string (⟨#[]⟩ : ByteArray)]) (t := 33) ?_))); intro gb236 hg w24 hbox hb; have BK236 := Aside0.mk (hbox); have GW236 := Aside0.mk (ge_ hg (below_size HB.out)); have GE236 := Aside0.mk (ge_ hg (below_size HB.out)); have NB234_236 := Aside0.mk (nl_ hg (by ((exact BK234.out)))); have NB236_234 := Aside0.mk (nr_ hg (by ((exact BK234.out)))); replace HO_5 := Aside0.mk (Kd.R_below (Kd.R_elderB (by ((exact HO_5.out))) gb236 (Nat.le_of_eq hg.symm)) hb); replace BK234 := Aside0.mk (blk_below (by ((exact BK234.out))) hb); replace HB := Aside0.mk (below_step HB.out hb); clear hb hbox hg; have hnb25 := NB236_234.out; have hnc25 := NB234_236.out; obtain ⟨hcz26_0, hcz26_1, hcz26_2, hcz26_3, hcz26_4, hfz26_0, hfz26_1, hfz26_2, hfz26_3, hfz26_4⟩ := z5_ BK236.out; obtain ⟨hcz27_0, hcz27_1, hcz27_2, hfz27_0, hfz27_1, hfz27_2⟩ := z3_ BK234.out) | ((with_reducible refine gate_callee (f := 34) rfl ?_); refine goesL_ (some 19) rfl rfl Try.func34 (by kernel_rfl) rfl #[.agg #[.string a0_0, .slice A0_1 l0_1.length c0_1, .int .i64 a0_2], .agg #[.string ((rd_T33 l1 x13_1).f0), .int .i64 ((rd_T33 l1 x13_1).f1), .int .i64 ((rd_T33 l1 x13_1).f2), .int .i64 ((rd_T33 l1 x13_1).f3), .string ((rd_T33 l1 x13_1).f4)]] rfl (by (try simp only [mA_, mC_, mN_]); rfl) ?_; (with_reducible refine (prereq_one.calls k1 a0_0 _ _ l0_1 a0_2 ((rd_T33 l1 x13_1).f0) ((rd_T33 l1 x13_1).f1) ((rd_T33 l1 x13_1).f2) ((rd_T33 l1 x13_1).f3) ((rd_T33 l1 x13_1).f4) t237 _ ?side1 ?side2 A7.out).mono ?_); (case side1 => exact Kd.C_below HR0_1.out (by repeat ((with_reducible first | exact HB.out | refine below_set ?_ GE236.out)))); (case side2 => exact HC0_1.out); rintro e w28 ⟨rfl, hb⟩; refine ⟨_, rfl, ?_⟩; replace HO_5 := Aside0.mk (Kd.R_below (by (with_reducible repeat ((apply Kd.R_alloc))); exact (Kd.R_mono (Kd.R_far (p := ⟨gb236, 4, none⟩) (Kd.R_far (p := ⟨gb236, 3, none⟩) (Kd.R_far (p := ⟨gb236, 2, none⟩) (Kd.R_far (p := ⟨gb236, 1, none⟩) (Kd.R_far (p := ⟨gb236, 0, none⟩) (Kd.R_mono HO_5.out (fun k_ hk => (⟨hk, hk.2⟩ : _ ∧ k_ ≠ gb236))) (fun _ hk => hk.2) (.string ((rd_T33 l1 x13_1).f0))) (fun _ hk => hk.2) (.int .i64 ((rd_T33 l1 x13_1).f1))) (fun _ hk => hk.2) (.int .i64 ((rd_T33 l1 x13_1).f2))) (fun _ hk => hk.2) (.int .i64 ((rd_T33 l1 x13_1).f3))) (fun _ hk => hk.2) (.string ((rd_T33 l1 x13_1).f4))) (fun _ h_ => h_.1))) hb); replace BK234 := Aside0.mk (blk_below (g := gb234) (o := .cells #[.string a0_0, .slice A0_1 l0_1.length c0_1, .int .i64 a0_2] 27 (0, 0)) (by (with_reducible repeat ((refine blk_drewN ?_ _))); refine blk_far ?_ NB234_236.out _; (with_reducible repeat ((refine blk_drewN ?_ _))); refine blk_far ?_ NB234_236.out _; (with_reducible repeat ((refine blk_drewN ?_ _))); refine blk_far ?_ NB234_236.out _; (with_reducible repeat ((refine blk_drewN ?_ _))); refine blk_far ?_ NB234_236.out _; (with_reducible repeat ((refine blk_drewN ?_ _))); refine blk_far ?_ NB234_236.out _; (with_reducible repeat ((refine blk_drewN ?_ _))); exact BK234.out) hb); replace BK236 := Aside0.mk (blk_below (g := gb236) (o := .cells #[.string ((rd_T33 l1 x13_1).f0), .int .i64 ((rd_T33 l1 x13_1).f1), .int .i64 ((rd_T33 l1 x13_1).f2), .int .i64 ((rd_T33 l1 x13_1).f3), .string ((rd_T33 l1 x13_1).f4)] 33 (0, 0)) (by (with_reducible repeat ((refine blk_drewN ?_ _))); refine blk_put (cs := #[.string ((rd_T33 l1 x13_1).f0), .int .i64 ((rd_T33 l1 x13_1).f1), .int .i64 ((rd_T33 l1 x13_1).f2), .int .i64 ((rd_T33 l1 x13_1).f3), .string (⟨#[]⟩ : ByteArray)]) ?_ 4 _ rfl; (with_reducible repeat ((refine blk_drewN ?_ _))); refine blk_put (cs := #[.string ((rd_T33 l1 x13_1).f0), .int .i64 ((rd_T33 l1 x13_1).f1), .int .i64 ((rd_T33 l1 x13_1).f2), .int .i64 0, .string (⟨#[]⟩ : ByteArray)]) ?_ 3 _ rfl; (with_reducible repeat ((refine blk_drewN ?_ _))); refine blk_put (cs := #[.string ((rd_T33 l1 x13_1).f0), .int .i64 ((rd_T33 l1 x13_1).f1), .int .i64 0, .int .i64 0, .string (⟨#[]⟩ : ByteArray)]) ?_ 2 _ rfl; (with_reducible repeat ((refine blk_drewN ?_ _))); refine blk_put (cs := #[.string ((rd_T33 l1 x13_1).f0), .int .i64 0, .int .i64 0, .int .i64 0, .string (⟨#[]⟩ : ByteArray)]) ?_ 1 _ rfl; (with_reducible repeat ((refine blk_drewN ?_ _))); refine blk_put (cs := #[.string (⟨#[]⟩ : ByteArray), .int .i64 0, .int .i64 0, .int .i64 0, .string (⟨#[]⟩ : ByteArray)]) ?_ 0 _ rfl; (with_reducible repeat ((refine blk_drewN ?_ _))); exact BK236.out) hb); replace HB := Aside0.mk (below_step (by repeat ((with_reducible first | exact HB.out | refine below_set ?_ GE236.out))) hb); (try clear hb)))
      go_ret
      exact ⟨by rfl, HB.out⟩
    ·rw [if_neg c4] at H
     have c4b0 : decide (x13_1 < (l1.length : Int)) = false := decide_eq_false c4
     clear c4
     have H' := Aside0.mk H
     clear H
     obtain ⟨Ao29, co29, eo29⟩ := Kd.R_slice HO_5.out
     subst eo29
     go_wp2
     go_loopg [33] k1 (fun kq v33 w' => ∃ (x33_2 : Int), v33 = .int .i64 x33_2 ∧ Aside0 (prereq_Check.l1 kq x5_1 x5_1 (x5_1.length : Int) x33_2 a0_0 l0_1 a0_2 = some r) ∧ Aside0 (kq ≤ k1) ∧ Aside0 (Kd.R k33 33 w' w.heap.size (fun _ => True) (.slice Ao29 x5_1.length co29) x5_1) ∧ Aside0 (Kd.R k33 33 w' w.heap.size (fun _ => True) (.slice Ao29 x5_1.length co29) x5_1) ∧ Aside0 (w'.heap[gb234]? = some (.cells #[.string a0_0, (.slice A0_1 l0_1.length c0_1), .int .i64 a0_2] 27 (0, 0))) ∧ Aside0 (Below w.heap.size w w'))
     case atStart => exact ⟨(0), (by rfl), H', ⟨Nat.le_refl _⟩, ⟨by (with_reducible repeat ((apply Kd.R_alloc))); exact HO_5.out⟩, ⟨by (with_reducible repeat ((apply Kd.R_alloc))); exact HO_5.out⟩, ⟨by (with_reducible repeat ((refine blk_drewN ?_ _))); exact BK234.out⟩, ⟨HB.out⟩⟩
     case round =>
      clear H'
      (try clear c4b0)
      obtain ⟨x33_2, rfl, HA, HK2, HO_5, HO_31, BK234, HB⟩ := hrel
      cases gk with
      | zero => exact absurd HA.out (by simp [prereq_Check.l1])
      | succ k2 =>
       have H := HA.out
       clear HA
       simp only [prereq_Check.l1] at H
       by_cases c30 : x33_2 < (x5_1.length : Int)
       ·rw [if_pos c30] at H
        have c30b0 : decide (x33_2 < (x5_1.length : Int)) = true := decide_eq_true c30
        clear c30
        obtain ⟨c31b0, H⟩ := gdd_ H
        obtain ⟨c32b0, H⟩ := gdd_ H
        obtain ⟨t243, A33, H⟩ := bnd_ H
        obtain ⟨t246, A34, H⟩ := bnd_ H
        obtain ⟨t249, A35, H⟩ := bnd_ H
        obtain ⟨t252, A36, H⟩ := bnd_ H
        by_cases c37 : t252 = true
        focus
         subst c37
         rw [if_pos rfl] at H
         have H' := Aside0.mk H
         clear H
        rotate_left
        focus
         replace c37 := Bool.eq_false_iff.mpr c37
         subst c37
         rw [if_neg ff_] at H
         obtain rfl := Option.some.inj H
        rotate_left
        all_goals
         have p241 : 0 ≤ (x33_2 : Int) := of_decide_eq_true (by assumption)
         have q241 : x33_2 < (x5_1.length : Int) := of_decide_eq_true (by assumption)
         obtain ⟨ad241, e241, hx241_0, hx241_1, hx241_2, hx241_3, hx241_4⟩ := at_T33 (Kd.R_reads' HO_31.out).2.2 x33_2 p241 q241
         cases e241
         replace p241 := eq_true p241
         replace q241 := eq_true q241
         (try go_wp2_with ((((((refine be_ (N := 10) (cs := #[.string (⟨#[]⟩ : ByteArray), .int .i64 0, .int .i64 0, .int .i64 0, .string (⟨#[]⟩ : ByteArray)]) (t := 33) ?_))); intro gb242 hg w38 hbox hb; have BK242 := Aside0.mk (hbox); have GW242 := Aside0.mk (ge_ hg (below_size HB.out)); have GE242 := Aside0.mk (ge_ hg (below_size HB.out)); have NB234_242 := Aside0.mk (nl_ hg (by ((exact BK234.out)))); have NB242_234 := Aside0.mk (nr_ hg (by ((exact BK234.out)))); replace HO_5 := Aside0.mk (Kd.R_below (Kd.R_elderB (by ((exact HO_5.out))) gb242 (Nat.le_of_eq hg.symm)) hb); replace HO_31 := Aside0.mk (Kd.R_below (Kd.R_elderB (by ((exact HO_31.out))) gb242 (Nat.le_of_eq hg.symm)) hb); replace BK234 := Aside0.mk (blk_below (by ((exact BK234.out))) hb); replace HB := Aside0.mk (below_step HB.out hb); clear hb hbox hg; have hnb39 := NB242_234.out; have hnc39 := NB234_242.out; obtain ⟨hcz40_0, hcz40_1, hcz40_2, hcz40_3, hcz40_4, hfz40_0, hfz40_1, hfz40_2, hfz40_3, hfz40_4⟩ := z5_ BK242.out))))
         have n0_ : Aside0 (Kd.R k33 33 (((((w38.setCell ⟨gb242, 0, none⟩ (.string ((rd_T33 x5_1 x33_2).f0))).setCell ⟨gb242, 1, none⟩ (.int .i64 ((rd_T33 x5_1 x33_2).f1))).setCell ⟨gb242, 2, none⟩ (.int .i64 ((rd_T33 x5_1 x33_2).f2))).setCell ⟨gb242, 3, none⟩ (.int .i64 ((rd_T33 x5_1 x33_2).f3))).setCell ⟨gb242, 4, none⟩ (.string ((rd_T33 x5_1 x33_2).f4))) w.heap.size (fun k_ => k_ ≠ gb242) (.slice (some ad241) x5_1.length co29) x5_1) := ⟨by (with_reducible repeat ((apply Kd.R_alloc))); exact Kd.R_mono (Kd.R_far (p := ⟨gb242, 4, none⟩) (Kd.R_far (p := ⟨gb242, 3, none⟩) (Kd.R_far (p := ⟨gb242, 2, none⟩) (Kd.R_far (p := ⟨gb242, 1, none⟩) (Kd.R_far (p := ⟨gb242, 0, none⟩) (Kd.R_mono HO_5.out (fun k_ hk => (⟨hk, hk.2⟩ : _ ∧ k_ ≠ gb242))) (fun _ hk => hk.2) (.string ((rd_T33 x5_1 x33_2).f0))) (fun _ hk => hk.2) (.int .i64 ((rd_T33 x5_1 x33_2).f1))) (fun _ hk => hk.2) (.int .i64 ((rd_T33 x5_1 x33_2).f2))) (fun _ hk => hk.2) (.int .i64 ((rd_T33 x5_1 x33_2).f3))) (fun _ hk => hk.2) (.string ((rd_T33 x5_1 x33_2).f4))) (fun _ hk => hk.1.2)⟩
         have n1_ : Aside0 (Kd.R k33 33 (((((w38.setCell ⟨gb242, 0, none⟩ (.string ((rd_T33 x5_1 x33_2).f0))).setCell ⟨gb242, 1, none⟩ (.int .i64 ((rd_T33 x5_1 x33_2).f1))).setCell ⟨gb242, 2, none⟩ (.int .i64 ((rd_T33 x5_1 x33_2).f2))).setCell ⟨gb242, 3, none⟩ (.int .i64 ((rd_T33 x5_1 x33_2).f3))).setCell ⟨gb242, 4, none⟩ (.string ((rd_T33 x5_1 x33_2).f4))) w.heap.size (fun k_ => k_ ≠ gb242) (.slice (some ad241) x5_1.length co29) x5_1) := ⟨by (with_reducible repeat ((apply Kd.R_alloc))); exact Kd.R_mono (Kd.R_far (p := ⟨gb242, 4, none⟩) (Kd.R_far (p := ⟨gb242, 3, none⟩) (Kd.R_far (p := ⟨gb242, 2, none⟩) (Kd.R_far (p := ⟨gb242, 1, none⟩) (Kd.R_far (p := ⟨gb242, 0, none⟩) (Kd.R_mono HO_31.out (fun k_ hk => (⟨hk, hk.2⟩ : _ ∧ k_ ≠ gb242))) (fun _ hk => hk.2) (.string ((rd_T33 x5_1 x33_2).f0))) (fun _ hk => hk.2) (.int .i64 ((rd_T33 x5_1 x33_2).f1))) (fun _ hk => hk.2) (.int .i64 ((rd_T33 x5_1 x33_2).f2))) (fun _ hk => hk.2) (.int .i64 ((rd_T33 x5_1 x33_2).f3))) (fun _ hk => hk.2) (.string ((rd_T33 x5_1 x33_2).f4))) (fun _ hk => hk.1.2)⟩
         have n2_ : Aside0 ((((((w38.setCell ⟨gb242, 0, none⟩ (.string ((rd_T33 x5_1 x33_2).f0))).setCell ⟨gb242, 1, none⟩ (.int .i64 ((rd_T33 x5_1 x33_2).f1))).setCell ⟨gb242, 2, none⟩ (.int .i64 ((rd_T33 x5_1 x33_2).f2))).setCell ⟨gb242, 3, none⟩ (.int .i64 ((rd_T33 x5_1 x33_2).f3))).setCell ⟨gb242, 4, none⟩ (.string ((rd_T33 x5_1 x33_2).f4))).heap[gb234]? = some (.cells #[.string a0_0, .slice A0_1 l0_1.length c0_1, .int .i64 a0_2] 27 (0, 0))) := ⟨by (with_reducible repeat ((refine blk_drewN ?_ _))); refine blk_far ?_ NB234_242.out _; (with_reducible repeat ((refine blk_drewN ?_ _))); refine blk_far ?_ NB234_242.out _; (with_reducible repeat ((refine blk_drewN ?_ _))); refine blk_far ?_ NB234_242.out _; (with_reducible repeat ((refine blk_drewN ?_ _))); refine blk_far ?_ NB234_242.out _; (with_reducible repeat ((refine blk_drewN ?_ _))); refine blk_far ?_ NB234_242.out _; (with_reducible repeat ((refine blk_drewN ?_ _))); exact BK234.out⟩
         have n3_ : Aside0 ((((((w38.setCell ⟨gb242, 0, none⟩ (.string ((rd_T33 x5_1 x33_2).f0))).setCell ⟨gb242, 1, none⟩ (.int .i64 ((rd_T33 x5_1 x33_2).f1))).setCell ⟨gb242, 2, none⟩ (.int .i64 ((rd_T33 x5_1 x33_2).f2))).setCell ⟨gb242, 3, none⟩ (.int .i64 ((rd_T33 x5_1 x33_2).f3))).setCell ⟨gb242, 4, none⟩ (.string ((rd_T33 x5_1 x33_2).f4))).heap[gb242]? = some (.cells #[.string ((rd_T33 x5_1 x33_2).f0), .int .i64 ((rd_T33 x5_1 x33_2).f1), .int .i64 ((rd_T33 x5_1 x33_2).f2), .int .i64 ((rd_T33 x5_1 x33_2).f3), .string ((rd_T33 x5_1 x33_2).f4)] 33 (0, 0))) := ⟨by (with_reducible repeat ((refine blk_drewN ?_ _))); refine blk_put (cs := #[.string ((rd_T33 x5_1 x33_2).f0), .int .i64 ((rd_T33 x5_1 x33_2).f1), .int .i64 ((rd_T33 x5_1 x33_2).f2), .int .i64 ((rd_T33 x5_1 x33_2).f3), .string (⟨#[]⟩ : ByteArray)]) ?_ 4 _ rfl; (with_reducible repeat ((refine blk_drewN ?_ _))); refine blk_put (cs := #[.string ((rd_T33 x5_1 x33_2).f0), .int .i64 ((rd_T33 x5_1 x33_2).f1), .int .i64 ((rd_T33 x5_1 x33_2).f2), .int .i64 0, .string (⟨#[]⟩ : ByteArray)]) ?_ 3 _ rfl; (with_reducible repeat ((refine blk_drewN ?_ _))); refine blk_put (cs := #[.string ((rd_T33 x5_1 x33_2).f0), .int .i64 ((rd_T33 x5_1 x33_2).f1), .int .i64 0, .int .i64 0, .string (⟨#[]⟩ : ByteArray)]) ?_ 2 _ rfl; (with_reducible repeat ((refine blk_drewN ?_ _))); refine blk_put (cs := #[.string ((rd_T33 x5_1 x33_2).f0), .int .i64 0, .int .i64 0, .int .i64 0, .string (⟨#[]⟩ : ByteArray)]) ?_ 1 _ rfl; (with_reducible repeat ((refine blk_drewN ?_ _))); refine blk_put (cs := #[.string (⟨#[]⟩ : ByteArray), .int .i64 0, .int .i64 0, .int .i64 0, .string (⟨#[]⟩ : ByteArray)]) ?_ 0 _ rfl; (with_reducible repeat ((refine blk_drewN ?_ _))); exact BK242.out⟩
         have n4_ : Aside0 (Below w.heap.size w (((((w38.setCell ⟨gb242, 0, none⟩ (.string ((rd_T33 x5_1 x33_2).f0))).setCell ⟨gb242, 1, none⟩ (.int .i64 ((rd_T33 x5_1 x33_2).f1))).setCell ⟨gb242, 2, none⟩ (.int .i64 ((rd_T33 x5_1 x33_2).f2))).setCell ⟨gb242, 3, none⟩ (.int .i64 ((rd_T33 x5_1 x33_2).f3))).setCell ⟨gb242, 4, none⟩ (.string ((rd_T33 x5_1 x33_2).f4)))) := ⟨by repeat ((with_reducible first | exact HB.out | refine below_set ?_ GE242.out))⟩
         (try clear HO_5)
         (try clear HO_31)
         (try clear BK234)
         (try clear BK242)
         (try clear HB)
         generalize (((((w38.setCell ⟨gb242, 0, none⟩ (.string ((rd_T33 x5_1 x33_2).f0))).setCell ⟨gb242, 1, none⟩ (.int .i64 ((rd_T33 x5_1 x33_2).f1))).setCell ⟨gb242, 2, none⟩ (.int .i64 ((rd_T33 x5_1 x33_2).f2))).setCell ⟨gb242, 3, none⟩ (.int .i64 ((rd_T33 x5_1 x33_2).f3))).setCell ⟨gb242, 4, none⟩ (.string ((rd_T33 x5_1 x33_2).f4))) = w41 at n0_ n1_ n2_ n3_ n4_ ⊢
         have HO_5 := n0_
         have HO_31 := n1_
         have BK234 := n2_
         have BK242 := n3_
         have HB := n4_
         clear n0_ n1_ n2_ n3_ n4_
         replace HO_5 := Aside0.mk (Kd.R_drew HO_5.out)
         replace HO_31 := Aside0.mk (Kd.R_drew HO_31.out)
         replace BK234 := Aside0.mk (blk_drew BK234.out)
         replace BK242 := Aside0.mk (blk_drew BK242.out)
         replace HB := Aside0.mk (below_drew1 HB.out)
         refine start_ (n := 15) (ds := []) (ls 15 0) (by kernel_rfl) rfl rfl (c3_ BK234.out (d5_ BK242.out)) (fun hHeld => ?_); refine with_tabW prereq_Check.tab14 prereq_Check.bits14 (fun HT_ HW_ => ?_)
         generalize w41.drew = w42 at HO_5 HO_31 BK234 BK242 HB hHeld ⊢
         refine td_ [(1, 38), (3, 40), (6, 43), (7, 44), (10, 47)] ?_
         iterate 5 (refine pn_ (v := ?_) (a' := ?_) HT_ rfl rfl (by kernel_rfl) rfl (fun _ _ _ h => h) (fun w' => ?_) ?_ ?_; rotate_left 2; (focus go_simp; with_reducible rfl); (focus simp only [Act.put, sA_, sZ_, sS_, i64_w, i32_w]; rfl))
         refine dn_ ?_
         refine td_ [(0, 37), (2, 39), (4, 41), (8, 45), (11, 48)] ?_
         iterate 5 (refine tn_ (v := ?_) (a' := ?_) HT_ HW_ rfl rfl (by kernel_rfl) rfl (fun _ _ _ h => h) hHeld ?_ ?_ ?_; rotate_left 2; (focus rintro w' ⟨s0, s1, s2, s3, s4, s5, s6, s7⟩; go_simp; with_reducible rfl); (focus simp only [Act.put, sA_, sZ_, sS_, i64_w, i32_w]; rfl))
         refine dn_ ?_
         refine one_ (i := 5) (N := some 42) (ls 15 3583) rfl rfl (one_of HT_.out (by kernel_rfl)) (by decide) (fun K hK => ?_)
         refine goes_ Try.func26 (by kernel_rfl) rfl #[.agg #[.string a0_0, .slice A0_1 l0_1.length c0_1, .int .i64 a0_2], .string ((rd_T33 x5_1 x33_2).f0), .int .i64 ((rd_T33 x5_1 x33_2).f1)] (by rfl) rfl rfl (by (try simp only [mA_, mC_, mN_]); rfl) ?_
         with_reducible refine (zone_Zone_Set.calls a0_0 _ _ l0_1 a0_2 ((rd_T33 x5_1 x33_2).f0) ((rd_T33 x5_1 x33_2).f1) t243 _ ?side1 ?side2 A33.out).mono ?_
         (case side1 => repeat ((exact (Kd.C_below HR0_1.out HB.out))))
         (case side2 => exact HC0_1.out)
         rintro e w43 ⟨v244, rfl, ho0, hb⟩
         refine ⟨_, rfl, ?_⟩
         have HO245 := Aside0.mk (Kd.R_lower (Kd.R_newB (Kd.R_new' (Kd.R_new' ho0 (Kd.R_lt (by ((exact HO_5.out))))) (Kd.R_lt (by ((exact HO_31.out))))) (g := gb242) (o := .cells #[.string ((rd_T33 x5_1 x33_2).f0), .int .i64 ((rd_T33 x5_1 x33_2).f1), .int .i64 ((rd_T33 x5_1 x33_2).f2), .int .i64 ((rd_T33 x5_1 x33_2).f3), .string ((rd_T33 x5_1 x33_2).f4)] 33 (0, 0)) (by ((exact BK242.out)))) (below_size HB.out))
         replace HO_5 := Aside0.mk (Kd.R_elder' (by ((exact HO_5.out))) (Kd.R_base ho0) hb)
         replace HO_31 := Aside0.mk (Kd.R_elder' (by ((exact HO_31.out))) (Kd.R_base ho0) hb)
         replace BK234 := Aside0.mk (blk_below (by ((exact BK234.out))) hb)
         replace BK242 := Aside0.mk (blk_below (by ((exact BK242.out))) hb)
         replace HB := Aside0.mk (below_step HB.out hb)
         (try clear hb)
         (try clear ho0)
         refine hK.out _ _ (c3_ BK234.out (d5_ BK242.out)) (fun hHeld => ?_)
         clear hK K
         refine norm_ (a' := ?_) ?_ ?_
         rotate_left
         ·show Act.put _ (some 42) _ = _
          simp only [Act.put, sA_, sZ_, sS_, i64_w, i32_w]
          rfl
         refine one_ (i := 9) (N := some 46) (ls 15 4095) rfl rfl (one_of HT_.out (by kernel_rfl)) (by decide) (fun K hK => ?_)
         refine goes_ Try.func36 (by kernel_rfl) rfl #[.slice (some ad241) x5_1.length co29, .string ((rd_T33 x5_1 x33_2).f0)] (by rfl) rfl rfl (by (try simp only [mA_, mC_, mN_]); rfl) ?_
         with_reducible refine (rrset_At.calls _ _ x5_1 ((rd_T33 x5_1 x33_2).f0) t246 _ ?side1 ?side2 A34.out).mono ?_
         (case side1 => repeat ((exact (Kd.R_reads' HO_5.out).2.2)))
         (case side2 => exact (Kd.R_reads' HO_5.out).2.1)
         rintro e w44 ⟨v247, rfl, ho0, hb⟩
         refine ⟨_, rfl, ?_⟩
         have HO248 := Aside0.mk (Kd.R_lower (Kd.R_newB (Kd.R_new' (Kd.R_new' (Kd.R_new' ho0 (Kd.R_lt (by ((exact HO_5.out))))) (Kd.R_lt (by ((exact HO_31.out))))) (Kd.R_lt (by ((exact HO245.out))))) (g := gb242) (o := .cells #[.string ((rd_T33 x5_1 x33_2).f0), .int .i64 ((rd_T33 x5_1 x33_2).f1), .int .i64 ((rd_T33 x5_1 x33_2).f2), .int .i64 ((rd_T33 x5_1 x33_2).f3), .string ((rd_T33 x5_1 x33_2).f4)] 33 (0, 0)) (by ((exact BK242.out)))) (below_size HB.out))
         replace HO_5 := Aside0.mk (Kd.R_elder' (by ((exact HO_5.out))) (Kd.R_base ho0) hb)
         replace HO_31 := Aside0.mk (Kd.R_elder' (by ((exact HO_31.out))) (Kd.R_base ho0) hb)
         replace HO245 := Aside0.mk (Kd.R_elder' (by ((exact HO245.out))) (Kd.R_base ho0) hb)
         replace BK234 := Aside0.mk (blk_below (by ((exact BK234.out))) hb)
         replace BK242 := Aside0.mk (blk_below (by ((exact BK242.out))) hb)
         replace HB := Aside0.mk (below_step HB.out hb)
         (try clear hb)
         (try clear ho0)
         obtain ⟨Ao45, co45, eo45⟩ := Kd.R_slice HO248.out
         ((subst eo45))
         refine hK.out _ _ (c3_ BK234.out (d5_ BK242.out)) (fun hHeld => ?_)
         clear hK K
         refine norm_ (a' := ?_) ?_ ?_
         rotate_left
         ·show Act.put _ (some 46) _ = _
          simp only [Act.put, sA_, sZ_, sS_, i64_w, i32_w]
          rfl
         refine one_ (i := 12) (N := some 49) (ls 15 8191) rfl rfl (one_of HT_.out (by kernel_rfl)) (by decide) (fun K hK => ?_)
         refine goes_ Try.func25 (by kernel_rfl) rfl #[.slice Ao45 t246.length co45, .int .i64 ((rd_T33 x5_1 x33_2).f1)] (by rfl) rfl rfl (by (try simp only [mA_, mC_, mN_]); rfl) ?_
         with_reducible refine (rrset_Typed.calls _ _ t246 ((rd_T33 x5_1 x33_2).f1) t249 _ ?side1 ?side2 A35.out).mono ?_
         (case side1 => repeat ((exact (Kd.R_reads' HO248.out).2.2)))
         (case side2 => exact (Kd.R_reads' HO248.out).2.1)
         rintro e w46 ⟨v250, rfl, ho0, hb⟩
         refine ⟨_, rfl, ?_⟩
         have HO251 := Aside0.mk (Kd.R_lower (Kd.R_newB (Kd.R_new' (Kd.R_new' (Kd.R_new' (Kd.R_new' ho0 (Kd.R_lt (by ((exact HO_5.out))))) (Kd.R_lt (by ((exact HO_31.out))))) (Kd.R_lt (by ((exact HO245.out))))) (Kd.R_lt (by ((exact HO248.out))))) (g := gb242) (o := .cells #[.string ((rd_T33 x5_1 x33_2).f0), .int .i64 ((rd_T33 x5_1 x33_2).f1), .int .i64 ((rd_T33 x5_1 x33_2).f2), .int .i64 ((rd_T33 x5_1 x33_2).f3), .string ((rd_T33 x5_1 x33_2).f4)] 33 (0, 0)) (by ((exact BK242.out)))) (below_size HB.out))
         replace HO_5 := Aside0.mk (Kd.R_elder' (by ((exact HO_5.out))) (Kd.R_base ho0) hb)
         replace HO_31 := Aside0.mk (Kd.R_elder' (by ((exact HO_31.out))) (Kd.R_base ho0) hb)
         replace HO245 := Aside0.mk (Kd.R_elder' (by ((exact HO245.out))) (Kd.R_base ho0) hb)
         replace HO248 := Aside0.mk (Kd.R_elder' (by ((exact HO248.out))) (Kd.R_base ho0) hb)
         replace BK234 := Aside0.mk (blk_below (by ((exact BK234.out))) hb)
         replace BK242 := Aside0.mk (blk_below (by ((exact BK242.out))) hb)
         replace HB := Aside0.mk (below_step HB.out hb)
         (try clear hb)
         (try clear ho0)
         obtain ⟨Ao47, co47, eo47⟩ := Kd.R_slice HO245.out
         ((subst eo47))
         obtain ⟨Ao48, co48, eo48⟩ := Kd.R_slice HO251.out
         ((subst eo48))
         refine hK.out _ _ (c3_ BK234.out (d5_ BK242.out)) (fun hHeld => ?_)
         clear hK K
         refine norm_ (a' := ?_) ?_ ?_
         rotate_left
         ·show Act.put _ (some 49) _ = _
          simp only [Act.put, sA_, sZ_, sS_, i64_w, i32_w]
          rfl
         refine one_ (i := 13) (N := some 50) (ls 15 16383) rfl rfl (one_of HT_.out (by kernel_rfl)) (by decide) (fun K hK => ?_)
         refine goes_ Try.func35 (by kernel_rfl) rfl #[.slice Ao47 t243.length co47, .slice Ao48 t249.length co48] (by rfl) rfl rfl (by (try simp only [mA_, mC_, mN_]); rfl) ?_
         with_reducible refine (prereq_equal.calls k2 _ _ t243 _ _ t249 _ _ ?side1 ?side2 ?side3 ?side4 A36.out).mono ?_
         (case side1 => repeat ((exact (Kd.R_reads' HO245.out).2.2)))
         (case side2 => exact (Kd.R_reads' HO245.out).2.1)
         (case side3 => repeat ((exact (Kd.R_reads' HO251.out).2.2)))
         (case side4 => exact (Kd.R_reads' HO251.out).2.1)
         rintro e w49 ⟨rfl, hb⟩
         refine ⟨_, rfl, ?_⟩
         replace HO_5 := Aside0.mk (Kd.R_below (by ((exact HO_5.out))) hb)
         replace HO_31 := Aside0.mk (Kd.R_below (by ((exact HO_31.out))) hb)
         replace HO245 := Aside0.mk (Kd.R_below (by ((exact HO245.out))) hb)
         replace HO248 := Aside0.mk (Kd.R_below (by ((exact HO248.out))) hb)
         replace HO251 := Aside0.mk (Kd.R_below (by ((exact HO251.out))) hb)
         replace BK234 := Aside0.mk (blk_below (by ((exact BK234.out))) hb)
         replace BK242 := Aside0.mk (blk_below (by ((exact BK242.out))) hb)
         replace HB := Aside0.mk (below_step HB.out hb)
         (try clear hb)
         refine hK.out _ _ (c3_ BK234.out (d5_ BK242.out)) (fun hHeld => ?_)
         clear hK K
         refine norm_ (a' := ?_) ?_ ?_
         rotate_left
         ·show Act.put _ (some 50) _ = _
          simp only [Act.put, sA_, sZ_, sS_, i64_w, i32_w]
          rfl
         refine td_ [(14, 51)] ?_
         iterate 1 (refine pn_ (v := ?_) (a' := ?_) HT_ rfl rfl (by kernel_rfl) rfl (fun _ _ _ h => h) (fun w' => ?_) ?_ ?_; rotate_left 2; (focus go_simp; with_reducible rfl); (focus simp only [Act.put, sA_, sZ_, sS_, i64_w, i32_w]; rfl))
         refine dn_ ?_
         refine done_ (done_of HT_.out (by kernel_rfl)) ?_
         (try go_wp2)
        ·go_roundg k2
         case measure => have := HK1.out; have := HK2.out; omega
         case rel => exact ⟨(wrap64 (x33_2 + 1)), (by rfl), H', ⟨by have := HK1.out; have := HK2.out; omega⟩, ⟨by (with_reducible repeat ((apply Kd.R_alloc))); exact Kd.R_mono HO_5.out (fun _ hk => trivial)⟩, ⟨by (with_reducible repeat ((apply Kd.R_alloc))); exact Kd.R_mono HO_31.out (fun _ hk => trivial)⟩, ⟨by (with_reducible repeat ((refine blk_drewN ?_ _))); exact BK234.out⟩, ⟨HB.out⟩⟩
        ·go_ret
         exact ⟨by rfl, HB.out⟩
       ·rw [if_neg c30] at H
        have c30b0 : decide (x33_2 < (x5_1.length : Int)) = false := decide_eq_false c30
        clear c30
        obtain rfl := Option.some.inj H
        go_wp2
        go_ret
        exact ⟨by rfl, HB.out⟩
end Go.Proofs.Ytehdkopjgcoclaa.PZh
namespace Go.Proofs.Ytehdkopjgcoclaa.PZh
open Go.RowKit Go.Proofs.YtehdkopjgcoclaaW.PrintWords Go.Proofs.YtehdkopjgcoclaaW.PrintLast Go.Proofs.YtehdkopjgcoclaaW.PrintMore Go.Proofs.Ytehdkopjgcoclaa.Given Go.Proofs.Ytehdkopjgcoclaa.PRd Go.Proofs.Ytehdkopjgcoclaa.PRr Go.Proofs.Ytehdkopjgcoclaa.PZo Go.Proofs.Ytehdkopjgcoclaa.PZf
attribute [local go_sem] max2_int min2_int max_two min_two max_three min_three max_four min_four   -- for this text's walks alone
set_option linter.unusedVariables false
set_option linter.unusedSimpArgs false
noncomputable def beadrolllaw22_awake.f (k : Nat)  : Option (Bool) := (beadrolllaw14_Least.f).bind fun t253 => ((zone_New.f k (⟨#[1, 97, 0]⟩ : ByteArray) t253).bind fun bt256 => (if bt256.2.2.2 = 0 then ((zone_Zone_All.f bt256.1 bt256.2.1 bt256.2.2.1).bind fun t263 => (if (t263.length : Int) = 2 then ((prereq_Check.f k bt256.1 bt256.2.1 bt256.2.2.1 (([(⟨(⟨#[1, 98, 1, 97, 0]⟩ : ByteArray), 255, 255, 0, (⟨#[]⟩ : ByteArray)⟩ : S33)] : List (S33)))).bind fun t269 => (some (t269 == 3))) else (none))) else (none)))
set_option maxHeartbeats 8000000 in
set_option maxRecDepth 100000 in
theorem beadrolllaw22_awake.calls (k : Nat)  (r : Bool) (w : World) (h : beadrolllaw22_awake.f k  = some r) :
  Calls Try.prog 13 #[] w fun e w' => e = .returned (.bool r) ∧ Below w.heap.size w w' := by
 have hu27 := Try.underlying27
 have hu33 := Try.underlying33
 have HB := Aside0.mk (Below.refl w.heap.size w)
 have H : ((beadrolllaw14_Least.f).bind fun t253 => ((zone_New.f k (⟨#[1, 97, 0]⟩ : ByteArray) t253).bind fun bt256 => (if bt256.2.2.2 = 0 then ((zone_Zone_All.f bt256.1 bt256.2.1 bt256.2.2.1).bind fun t263 => (if (t263.length : Int) = 2 then ((prereq_Check.f k bt256.1 bt256.2.1 bt256.2.2.1 (([(⟨(⟨#[1, 98, 1, 97, 0]⟩ : ByteArray), 255, 255, 0, (⟨#[]⟩ : ByteArray)⟩ : S33)] : List (S33)))).bind fun t269 => (some (t269 == 3))) else (none))) else (none)))) = some r := h
 clear h
 obtain ⟨t253, A1, H⟩ := bnd_ H
 replace H := Option.bind_eq_some_iff.mp H
 obtain ⟨⟨t256, t257, t260, t261⟩, A20, H⟩ := H
 replace H : (if t261 = 0 then ((zone_Zone_All.f t256 t257 t260).bind fun t263 => (if (t263.length : Int) = 2 then ((prereq_Check.f k t256 t257 t260 (([(⟨(⟨#[1, 98, 1, 97, 0]⟩ : ByteArray), 255, 255, 0, (⟨#[]⟩ : ByteArray)⟩ : S33)] : List (S33)))).bind fun t269 => (some (t269 == 3))) else (none))) else (none)) = some r := H
 have A2 := Aside0.mk A20
 clear A20
 obtain ⟨c3, H⟩ := gd_ H
 have c3b0 : (t261 == 0) = true := beq_iff_eq.mpr c3
 have c3b1 : (t261 != 0) = false := bne_eq_false_iff_eq.mpr c3
 clear c3
 obtain ⟨t263, A4, H⟩ := bnd_ H
 obtain ⟨c5, H⟩ := gd_ H
 have c5b0 : ((t263.length : Int) == 2) = true := beq_iff_eq.mpr c5
 have c5b1 : ((t263.length : Int) != 2) = false := bne_eq_false_iff_eq.mpr c5
 clear c5
 obtain ⟨y266, hy266⟩ : ∃ y_ : List (S33), y_ = (([(⟨(⟨#[1, 98, 1, 97, 0]⟩ : ByteArray), 255, 255, 0, (⟨#[]⟩ : ByteArray)⟩ : S33)] : List (S33))) := ⟨_, rfl⟩
 replace H : ((prereq_Check.f k t256 t257 t260 y266).bind fun t269 => (some (t269 == 3))) = some r := by (rw [hy266]; with_reducible exact H)
 have Ny266 := Aside0.mk hy266
 clear hy266
 obtain ⟨t269, A6, H⟩ := bnd_ H
 obtain rfl := Option.some.inj H
 go_enter Try.func13, Try.ntmps13
 go_wp2_with (first | ((with_reducible refine gate_callee (f := 17) rfl ?_); refine goesL_ (some 4) rfl rfl Try.func17 (by kernel_rfl) rfl #[] rfl (by (try simp only [List.map_toArray, List.map_cons, List.map_nil]); done) ?_; (with_reducible refine (beadrolllaw14_Least.calls  t253 _ A1.out).mono ?_); rintro e w7 ⟨v254, rfl, ho0, hb⟩; refine ⟨_, rfl, ?_⟩; have HO255 := Aside0.mk (Kd.R_lower ho0 (below_size HB.out)); replace HB := Aside0.mk (below_step HB.out hb); (try clear hb); (try clear ho0); obtain ⟨Ao8, co8, eo8⟩ := Kd.R_slice HO255.out; subst eo8) | ((with_reducible refine gate_callee (f := 10) rfl ?_); refine goesL_ (some 5) rfl rfl Try.func10 (by kernel_rfl) rfl #[.string (⟨#[1, 97, 0]⟩ : ByteArray), .slice Ao8 t253.length co8] rfl (by (try simp only [mA_, mC_, mN_]); rfl) ?_; (with_reducible refine (zone_New.calls k (⟨#[1, 97, 0]⟩ : ByteArray) _ _ t253 t256 t257 t260 t261 _ ?side1 ?side2 A2.out).mono ?_); (case side1 => repeat ((exact (Kd.R_reads' HO255.out).2.2))); (case side2 => exact (Kd.R_reads' HO255.out).2.1); rintro e w9 ⟨v258, rfl, ho0, hb⟩; refine ⟨_, rfl, ?_⟩; have HO259 := Aside0.mk (Kd.R_lower (Kd.R_new' ho0 (Kd.R_lt (by ((exact HO255.out))))) (below_size HB.out)); replace HO255 := Aside0.mk (Kd.R_elder' (by ((exact HO255.out))) (Kd.R_base ho0) hb); replace HB := Aside0.mk (below_step HB.out hb); (try clear hb); (try clear ho0)) | ((with_reducible refine gate_dst (N := 1) rfl ?_); (try (refine gate_guard (by rfl) ?_; dsimp only)); refine box_event ?hg (N := 1) ?hd (cs := #[.string (⟨#[]⟩ : ByteArray), .slice none 0 0, .int .i64 0]) (t := 27) ?hr ?_; (case hd => rfl); (case hg => rfl); (case hr => (go_simp; done)); intro gb262 hg w10 hbox hb; have BK262 := Aside0.mk (hbox); have GW262 := Aside0.mk (ge_ hg (below_size HB.out)); have GE262 := Aside0.mk (ge_ hg (below_size HB.out)); replace HO255 := Aside0.mk (Kd.R_below (by ((exact HO255.out))) hb); replace HO259 := Aside0.mk (Kd.R_below (by ((exact HO259.out))) hb); replace HB := Aside0.mk (below_step HB.out hb); clear hb hbox hg; obtain ⟨hcz11_0, hcz11_1, hcz11_2, hfz11_0, hfz11_1, hfz11_2⟩ := z3_ BK262.out; obtain ⟨Ao12, co12, eo12⟩ := Kd.R_slice HO259.out; subst eo12) | (go_at_call 11; (with_reducible refine (zone_Zone_All.calls t256 _ _ t257 t260 t263 _ ?side1 ?side2 A4.out).mono ?_); (case side1 => refine (Kd.R_reads' (e := 33) (base := w.heap.size) (ok := fun k_ => (True ∧ some k_ ≠ (.slice Ao8 t253.length co8 : Value).ownBlock)) (n := t257.length) (c := co12) ?_).2.2; exact (by (with_reducible repeat ((apply Kd.R_alloc))); exact (Kd.R_mono (Kd.R_far (p := ⟨gb262, 2, none⟩) (Kd.R_far (p := ⟨gb262, 1, none⟩) (Kd.R_far (p := ⟨gb262, 0, none⟩) (Kd.R_types HO259.out BK262.out (by decide)) (fun _ hk => hk.2) (.string t256)) (fun _ hk => hk.2) (.slice Ao12 t257.length co12)) (fun _ hk => hk.2) (.int .i64 t260)) (fun _ h_ => h_.1)))); (case side2 => exact (Kd.R_reads' HO259.out).2.1); rintro e w13 ⟨v264, rfl, ho0, hb⟩; have HO265 := Aside0.mk (Kd.R_lower (Kd.R_new' (Kd.R_new' ho0 (Kd.R_lt (by (with_reducible repeat ((apply Kd.R_alloc))); exact (Kd.R_mono (Kd.R_far (p := ⟨gb262, 2, none⟩) (Kd.R_far (p := ⟨gb262, 1, none⟩) (Kd.R_far (p := ⟨gb262, 0, none⟩) (Kd.R_types HO255.out BK262.out (by decide)) (fun _ hk => hk.2) (.string t256)) (fun _ hk => hk.2) (.slice Ao12 t257.length co12)) (fun _ hk => hk.2) (.int .i64 t260)) (fun _ h_ => h_.1))))) (Kd.R_lt (by (with_reducible repeat ((apply Kd.R_alloc))); exact (Kd.R_mono (Kd.R_far (p := ⟨gb262, 2, none⟩) (Kd.R_far (p := ⟨gb262, 1, none⟩) (Kd.R_far (p := ⟨gb262, 0, none⟩) (Kd.R_types HO259.out BK262.out (by decide)) (fun _ hk => hk.2) (.string t256)) (fun _ hk => hk.2) (.slice Ao12 t257.length co12)) (fun _ hk => hk.2) (.int .i64 t260)) (fun _ h_ => h_.1))))) (below_size (by repeat ((with_reducible first | exact HB.out | refine below_set ?_ GE262.out))))); replace HO255 := Aside0.mk (Kd.R_elder' (by (with_reducible repeat ((apply Kd.R_alloc))); exact (Kd.R_mono (Kd.R_far (p := ⟨gb262, 2, none⟩) (Kd.R_far (p := ⟨gb262, 1, none⟩) (Kd.R_far (p := ⟨gb262, 0, none⟩) (Kd.R_types HO255.out BK262.out (by decide)) (fun _ hk => hk.2) (.string t256)) (fun _ hk => hk.2) (.slice Ao12 t257.length co12)) (fun _ hk => hk.2) (.int .i64 t260)) (fun _ h_ => h_.1))) (Kd.R_base ho0) hb); replace HO259 := Aside0.mk (Kd.R_elder' (by (with_reducible repeat ((apply Kd.R_alloc))); exact (Kd.R_mono (Kd.R_far (p := ⟨gb262, 2, none⟩) (Kd.R_far (p := ⟨gb262, 1, none⟩) (Kd.R_far (p := ⟨gb262, 0, none⟩) (Kd.R_types HO259.out BK262.out (by decide)) (fun _ hk => hk.2) (.string t256)) (fun _ hk => hk.2) (.slice Ao12 t257.length co12)) (fun _ hk => hk.2) (.int .i64 t260)) (fun _ h_ => h_.1))) (Kd.R_base ho0) hb); replace BK262 := Aside0.mk (blk_below (g := gb262) (o := .cells #[.string t256, .slice Ao12 t257.length co12, .int .i64 t260] 27 (0, 0)) (by (with_reducible repeat ((refine blk_drewN ?_ _))); refine blk_put (cs := #[.string t256, .slice Ao12 t257.length co12, .int .i64 0]) ?_ 2 _ rfl; (with_reducible repeat ((refine blk_drewN ?_ _))); refine blk_put (cs := #[.string t256, .slice none 0 0, .int .i64 0]) ?_ 1 _ rfl; (with_reducible repeat ((refine blk_drewN ?_ _))); refine blk_put (cs := #[.string (⟨#[]⟩ : ByteArray), .slice none 0 0, .int .i64 0]) ?_ 0 _ rfl; (with_reducible repeat ((refine blk_drewN ?_ _))); exact BK262.out) hb); replace HB := Aside0.mk (below_step (by repeat ((with_reducible first | exact HB.out | refine below_set ?_ GE262.out))) hb); (try clear hb); (try clear ho0); obtain ⟨Ao14, co14, eo14⟩ := Kd.R_slice HO265.out; subst eo14; obtain ⟨hcz15_0, hcz15_1, hcz15_2, hfz15_0, hfz15_1, hfz15_2⟩ := z3_ BK262.out) | ((with_reducible refine gate_dst (N := 19) rfl ?_); (try (refine gate_guard (by rfl) ?_; dsimp only)); refine Kd.R_lit k33 _ 33 ?hg (N := 19) ?hd (xs := ([(⟨(⟨#[1, 98, 1, 97, 0]⟩ : ByteArray), 255, 255, 0, (⟨#[]⟩ : ByteArray)⟩ : S33)] : List (S33))) (inner := [.string (⟨#[1, 98, 1, 97, 0]⟩ : ByteArray), .int .i64 255, .int .i64 255, .int .i64 0, .string (⟨#[]⟩ : ByteArray)]) (ok := fun _ => True) (okp := fun _ => True) ?hr ?hp (fun _ hk => hk) trivial (Below.refl _ _) (Nat.le_refl _) (by simp) ?_; (case hd => rfl); (case hg => rfl); (case hr => (go_simp; done)); (case hp => exact (Reps.c5 (show Kd.M k33 _ _ _ (⟨(⟨#[1, 98, 1, 97, 0]⟩ : ByteArray), 255, 255, 0, (⟨#[]⟩ : ByteArray)⟩ : S33) [.string (⟨#[1, 98, 1, 97, 0]⟩ : ByteArray), .int .i64 255, .int .i64 255, .int .i64 0, .string (⟨#[]⟩ : ByteArray)] from (k33_mkM _ _ _ (⟨(⟨#[1, 98, 1, 97, 0]⟩ : ByteArray), 255, 255, 0, (⟨#[]⟩ : ByteArray)⟩ : S33) )) (Reps.none _ _))); intro v267 w16 ho17 hb hg_ hnew_; clear hg_ hnew_; ((rw [← Ny266.out] at ho17)); have HO268 := Aside0.mk (Kd.R_lower (Kd.R_new' (Kd.R_new' (Kd.R_new' ho17 (Kd.R_lt (by ((exact HO255.out))))) (Kd.R_lt (by ((exact HO259.out))))) (Kd.R_lt (by ((exact HO265.out))))) (below_size HB.out)); replace HO255 := Aside0.mk (Kd.R_elder' (by ((exact HO255.out))) (Kd.R_base ho17) hb); replace HO259 := Aside0.mk (Kd.R_elder' (by ((exact HO259.out))) (Kd.R_base ho17) hb); replace HO265 := Aside0.mk (Kd.R_elder' (by ((exact HO265.out))) (Kd.R_base ho17) hb); replace BK262 := Aside0.mk (blk_below (by ((exact BK262.out))) hb); replace HB := Aside0.mk (below_step HB.out hb); clear hb ho17; obtain ⟨Ao18, co18, eo18⟩ := Kd.R_slice HO268.out; subst eo18) | (go_at_call 16; (with_reducible refine (prereq_Check.calls k t256 _ _ t257 t260 _ _ y266 t269 _ ?side1 ?side2 ?side3 ?side4 A6.out).mono ?_); (case side1 => repeat ((exact (Kd.R_reads' HO259.out).2.2))); (case side2 => exact (Kd.R_reads' HO259.out).2.1); (case side3 => repeat ((exact (Kd.R_reads' HO268.out).2.2))); (case side4 => exact (Kd.R_reads' HO268.out).2.1); rintro e w19 ⟨rfl, hb⟩; replace HO255 := Aside0.mk (Kd.R_below (by ((exact HO255.out))) hb); replace HO259 := Aside0.mk (Kd.R_below (by ((exact HO259.out))) hb); replace HO265 := Aside0.mk (Kd.R_below (by ((exact HO265.out))) hb); replace HO268 := Aside0.mk (Kd.R_below (by ((exact HO268.out))) hb); replace BK262 := Aside0.mk (blk_below (by ((exact BK262.out))) hb); replace HB := Aside0.mk (below_step HB.out hb); (try clear hb)))
 go_ret
 exact ⟨by rfl, HB.out⟩
end Go.Proofs.Ytehdkopjgcoclaa.PZh
namespace Go.Proofs.Ytehdkopjgcoclaa.Rrs
open Go.RowKit Go.Proofs.YtehdkopjgcoclaaW.PrintWords Go.Proofs.YtehdkopjgcoclaaW.PrintLast Go.Proofs.YtehdkopjgcoclaaW.PrintMore Go.Proofs.Ytehdkopjgcoclaa.Given Go.Proofs.Ytehdkopjgcoclaa.PRd Go.Proofs.Ytehdkopjgcoclaa.PRr Go.Proofs.Ytehdkopjgcoclaa.PZo Go.Proofs.Ytehdkopjgcoclaa.PZf Go.Proofs.Ytehdkopjgcoclaa.PZh Go.Proofs.Ytehdkopjgcoclaa.Oct Go.Proofs.Ytehdkopjgcoclaa.Name Go.Proofs.Ytehdkopjgcoclaa.Cmp Go.Proofs.Ytehdkopjgcoclaa.NameFacts Go.Proofs.Ytehdkopjgcoclaa.RdataFacts Go.Proofs.Ytehdkopjgcoclaa.SetLaw
set_option linter.unusedVariables false
set_option linter.unusedSimpArgs false
open Classical in
theorem one_f (x y : RR) (hx : fine x) (hy : fine y) : record_One.f x.f0 x.f1 x.f2 x.f3 x.f4 y.f0 y.f1 y.f2 y.f3 y.f4 = some (decide (cmpRR x y = 0)) := by
  have hz := cmpRR_zero x y
  have ha := alike_iff hx.1 hy.1
  unfold record_One.f
  rw [alikeN_f, Option.bind_some, said_f x hx.2, said_f y hy.2]
  simp only [Option.bind_some]
  by_cases h0 : nameK x = nameK y
  · rw [ha.mpr h0]
    by_cases h1 : x.f1 = y.f1
    · by_cases h2 : x.f2 = y.f2
      · rw [if_pos rfl, if_pos h1, if_pos h2]
        congr 1
        by_cases h3 : (saidR x).toList = (saidR y).toList
        · rw [decide_eq_true (hz.mpr ⟨h0, h1, h2, h3⟩), h3, beq_self_eq_true]
        · rw [decide_eq_false (fun e => h3 (hz.mp e).2.2.2)]
          exact beq_eq_false_iff_ne.mpr h3
      · rw [if_pos rfl, if_pos h1, if_neg h2, decide_eq_false (fun e => h2 (hz.mp e).2.2.1)]
    · rw [if_pos rfl, if_neg h1, decide_eq_false (fun e => h1 (hz.mp e).2.1)]
  · rw [Bool.eq_false_iff.mpr (fun e => h0 (ha.mp e)), if_neg (by decide), decide_eq_false (fun e => h0 (hz.mp e).1)]
open Classical in
noncomputable def eqSB : List RR → List RR → Bool
  | [], [] => true
  | x :: u, y :: v => decide (cmpRR x y = 0) && eqSB u v
  | _, _ => false
theorem eqs_loop (u v : List RR) (hu : ∀ y ∈ u, fine y) (hv : ∀ y ∈ v, fine y) (hl : u.length = v.length) (hn : u.length ≤ 1000000) : ∀ (d i : Nat), u.length ≤ i + d → i ≤ u.length → Ev (fun k => api_RR.l0 k v u (u.length : Int) (i : Int)) (eqSB (u.drop i) (v.drop i)) := by
  have hend : ∀ i : Nat, u.length ≤ i → Ev (fun k => api_RR.l0 k v u (u.length : Int) (i : Int)) (eqSB (u.drop i) (v.drop i)) := by
    intro i hd
    refine Ev.step (f := fun _ => some true) (fun k => by rw [api_RR.l0]; rw [if_neg (by omega)]) ?_
    rw [List.drop_of_length_le hd, List.drop_of_length_le (by omega), eqSB]
    exact Ev.now _
  intro d
  induction d with
  | zero => exact fun i hd _ => hend i (by omega)
  | succ d ih =>
    intro i hd hi0
    by_cases hi : i < u.length
    · have e1 : wrap64 ((i : Int) + 1) = ((i + 1 : Nat) : Int) := by unfold wrap64; omega
      have hs : ∀ k, api_RR.l0 (k + 1) v u (u.length : Int) (i : Int) = (record_One.f (rdR u (i : Int)).f0 (rdR u (i : Int)).f1 (rdR u (i : Int)).f2 (rdR u (i : Int)).f3 (rdR u (i : Int)).f4 (rdR v (i : Int)).f0 (rdR v (i : Int)).f1 (rdR v (i : Int)).f2 (rdR v (i : Int)).f3 (rdR v (i : Int)).f4).bind fun t => if t = true then api_RR.l0 k v u (u.length : Int) ((i + 1 : Nat) : Int) else some false := fun k => by
        rw [api_RR.l0, e1]; rw [if_pos (by omega), if_pos (by omega), if_pos (by omega), if_pos (by omega)]
      rw [rdR_get u i hi, rdR_get v i (by omega)] at hs
      refine Ev.step hs (Ev.bind (Ev.const (one_f _ _ (hu _ (List.getElem_mem _)) (hv _ (List.getElem_mem _)))) ?_)
      rw [List.drop_eq_getElem_cons hi, List.drop_eq_getElem_cons (show i < v.length by omega), eqSB]
      by_cases h : cmpRR u[i] v[i] = 0
      · simp only [h, decide_true, if_true, Bool.true_and]; exact ih (i + 1) (by omega) (by omega)
      · simp only [h, decide_false, Bool.false_eq_true, if_false, Bool.false_and]; exact Ev.now _
    · exact hend i (by omega)
theorem eqSB_len : ∀ (u v : List RR), ¬ u.length = v.length → eqSB u v = false
  | [], [], h => absurd rfl h
  | [], _ :: _, _ => rfl
  | _ :: _, [], _ => rfl
  | x :: u, y :: v, h => by rw [eqSB, eqSB_len u v (fun e => h (by simp [e])), Bool.and_false]
theorem ev_eqs (u v : List RR) (z : Int) (hu : ∀ y ∈ u, fine y) (hv : ∀ y ∈ v, fine y) (hn : u.length ≤ 1000000) : Ev (fun k => api_RR.f k u v z) (eqSB u v) := by
  unfold api_RR.f
  by_cases h : u.length = v.length
  · simp only [show ((u.length : Int) = (v.length : Int)) = True from eq_true (by omega), if_true]
    have := eqs_loop u v hu hv h hn u.length 0 (by omega) (Nat.zero_le _)
    rw [List.drop_zero, List.drop_zero] at this
    exact this
  · simp only [show ((u.length : Int) = (v.length : Int)) = False from eq_false (by omega), if_false]
    rw [eqSB_len u v h]
    exact Ev.now _
noncomputable def equalB (u v : List RR) : Bool := eqSB (ofL cmpRR u) (ofL cmpRR v)
theorem ofL_le (l : List RR) : (ofL cmpRR l).length ≤ l.length := by have := ofL_len l [] List.Pairwise.nil; unfold ofL; simpa using this
theorem ev_equal (u v : List RR) (hu : ∀ y ∈ u, fine y) (hv : ∀ y ∈ v, fine y) (nu : u.length ≤ 100000) (nv : v.length ≤ 100000) : Ev (fun k => prereq_equal.f k u v) (equalB u v) := by
  unfold prereq_equal.f
  simp only [of_f hu (show u.length ≤ 1000000 by omega), of_f hv (show v.length ≤ 1000000 by omega), Option.bind_some]
  refine Ev.bind (ev_eqs _ _ _ (setOf_of hu nu).all (setOf_of hv nv).all ?_) (Ev.now _)
  have := ofL_le u; omega
open Classical in
noncomputable def inB (u v : List RR) : Bool := u.all fun x => v.any fun y => decide (cmpRR x y = 0)
theorem eqSB_iff : ∀ (u v : List RR), IsSet cmpRR u → IsSet cmpRR v → (eqSB u v = true ↔ (∀ x ∈ u, ∃ y ∈ v, cmpRR x y = 0) ∧ ∀ y ∈ v, ∃ x ∈ u, cmpRR x y = 0)
  | [], [], _, _ => by simp [eqSB]
  | [], y :: v, _, _ => ⟨fun h => (by cases (show eqSB [] (y :: v) = false from rfl).symm.trans h), fun h => by obtain ⟨x, hx, _⟩ := h.2 y (List.mem_cons_self ..); cases hx⟩
  | x :: u, [], _, _ => ⟨fun h => (by cases (show eqSB (x :: u) [] = false from rfl).symm.trans h), fun h => by obtain ⟨y, hy, _⟩ := h.1 x (List.mem_cons_self ..); cases hy⟩
  | x :: u, y :: v, hu, hv => by
    have hu' := List.pairwise_cons.mp hu
    have hv' := List.pairwise_cons.mp hv
    have O := ordRR
    rw [eqSB, Bool.and_eq_true, decide_eq_true_eq, eqSB_iff u v hu'.2 hv'.2]
    constructor
    · rintro ⟨h0, h1, h2⟩
      refine ⟨fun z hz => ?_, fun z hz => ?_⟩
      · rcases List.mem_cons.mp hz with rfl | hz
        · exact ⟨y, List.mem_cons_self .., h0⟩
        · obtain ⟨t, ht, e⟩ := h1 z hz
          exact ⟨t, List.mem_cons_of_mem _ ht, e⟩
      · rcases List.mem_cons.mp hz with rfl | hz
        · exact ⟨x, List.mem_cons_self .., h0⟩
        · obtain ⟨t, ht, e⟩ := h2 z hz
          exact ⟨t, List.mem_cons_of_mem _ ht, e⟩
    · rintro ⟨h1, h2⟩
      have h0 : cmpRR x y = 0 := by
        obtain ⟨t, ht, e⟩ := h1 x (List.mem_cons_self ..)
        obtain ⟨r, hr, f⟩ := h2 y (List.mem_cons_self ..)
        rcases List.mem_cons.mp ht with rfl | ht
        · exact e
        rcases List.mem_cons.mp hr with rfl | hr
        · exact f
        have a1 := hv'.1 t ht
        have a2 := hu'.1 r hr
        have b1 := O.lt_of_lt_of_eq a2 f
        have b2 := O.lt_of_lt_of_eq a1 (O.symm e)
        have := O.flip x y
        omega
      refine ⟨h0, fun z hz => ?_, fun z hz => ?_⟩
      · obtain ⟨t, ht, e⟩ := h1 z (List.mem_cons_of_mem _ hz)
        rcases List.mem_cons.mp ht with rfl | ht
        · have a1 := hu'.1 z hz
          have a2 := O.lt_of_lt_of_eq a1 e
          omega
        · exact ⟨t, ht, e⟩
      · obtain ⟨t, ht, e⟩ := h2 z (List.mem_cons_of_mem _ hz)
        rcases List.mem_cons.mp ht with rfl | ht
        · have a1 := hv'.1 z hz
          have a2 := O.lt_of_lt_of_eq a1 (O.symm e)
          have := O.symm h0
          omega
        · exact ⟨t, ht, e⟩
theorem of_has (l : List RR) (x : RR) : (∃ y ∈ ofL cmpRR l, cmpRR x y = 0) ↔ ∃ y ∈ l, cmpRR x y = 0 := by
  have h1 : find cmpRR (ofL cmpRR l) x = none ↔ (cls cmpRR l x).getLast? = none := by rw [ofL_find ordRR]
  rw [find_none, List.getLast?_eq_none_iff] at h1
  constructor
  · intro ⟨y, hy, e⟩
    refine Classical.byContradiction fun hn => ?_
    exact h1.mpr (cls_none fun z hz e => hn ⟨z, hz, e⟩) y hy e
  · intro ⟨y, hy, e⟩
    refine Classical.byContradiction fun hn => ?_
    have := h1.mp fun z hz e => hn ⟨z, hz, e⟩
    have h2 : y ∈ cls cmpRR l x := mem_cls.mpr ⟨hy, e⟩
    rw [this] at h2; cases h2
theorem of_has' (l : List RR) (x : RR) : (∃ y ∈ ofL cmpRR l, cmpRR y x = 0) ↔ ∃ y ∈ l, cmpRR y x = 0 := by
  have h := of_has l x
  exact ⟨fun ⟨y, hy, e⟩ => by obtain ⟨z, hz, f⟩ := h.mp ⟨y, hy, ordRR.symm e⟩; exact ⟨z, hz, ordRR.symm f⟩, fun ⟨y, hy, e⟩ => by obtain ⟨z, hz, f⟩ := h.mpr ⟨y, hy, ordRR.symm e⟩; exact ⟨z, hz, ordRR.symm f⟩⟩
theorem in_iff (u v : List RR) : inB u v = true ↔ ∀ x ∈ u, ∃ y ∈ v, cmpRR x y = 0 := by
  unfold inB
  simp only [List.all_eq_true, List.any_eq_true, decide_eq_true_eq]
theorem equal_is (u v : List RR) : equalB u v = (inB u v && inB v u) := by
  rw [Bool.eq_iff_iff, Bool.and_eq_true, in_iff, in_iff]
  unfold equalB
  rw [eqSB_iff _ _ (ofL_set ordRR u) (ofL_set ordRR v)]
  constructor
  · rintro ⟨h1, h2⟩
    refine ⟨fun x hx => ?_, fun y hy => ?_⟩
    · obtain ⟨x', hx', e⟩ := (of_has u x).mpr ⟨x, hx, ordRR.refl x⟩
      obtain ⟨y, hy, f⟩ := h1 x' hx'
      obtain ⟨y', hy', g⟩ := (of_has v x).mp ⟨y, hy, by rw [ordRR.cong x x' y e]; exact f⟩
      exact ⟨y', hy', g⟩
    · obtain ⟨y', hy', e⟩ := (of_has v y).mpr ⟨y, hy, ordRR.refl y⟩
      obtain ⟨x, hx, f⟩ := h2 y' hy'
      obtain ⟨x', hx', g⟩ := (of_has u y).mp ⟨x, hx, by rw [ordRR.cong y y' x e]; exact ordRR.symm f⟩
      exact ⟨x', hx', g⟩
  · rintro ⟨h1, h2⟩
    refine ⟨fun x hx => ?_, fun y hy => ?_⟩
    · rcases ofL_mem u [] hx with h | h
      · cases h
      · obtain ⟨y, hy, e⟩ := h1 x h
        exact (of_has v x).mpr ⟨y, hy, e⟩
    · rcases ofL_mem v [] hy with h | h
      · cases h
      · obtain ⟨x, hx, e⟩ := h2 y h
        exact (of_has' u y).mpr ⟨x, hx, ordRR.symm e⟩
def oneC (a : ByteArray) (s : List RR) (r : RR) : Int :=
  if r.f3 = 0 then (if underN r.f0 a = true then (if r.f2 = 1 then (if dataB r.f1 = true then 0 else 1)
    else if r.f2 = 255 then (if r.f4.toList = [] then (if r.f1 = 255 then (if thereB s r.f0 = true then 0 else 3) else if (setL s r.f0 r.f1).length = 0 then 8 else 0) else 1)
    else if r.f2 = 254 then (if r.f4.toList = [] then (if r.f1 = 255 then (if thereB s r.f0 = true then 6 else 0) else if (setL s r.f0 r.f1).length = 0 then 0 else 7) else 1)
    else 1) else 10) else 1
theorem first_f (b : Bool) (c : Int) : prereq_first.f b c = some (if b = true then c else 0) := by unfold prereq_first.f; split <;> rfl
theorem nil_eq (n : Nat) : (((n : Int)) == 0) = decide (n = 0) := by
  by_cases h : n = 0
  · rw [h]; rfl
  · rw [decide_eq_false h, beq_eq_false_iff_ne]; omega
theorem ev_one_p (a : ByteArray) (s : List RR) (z : Int) (r : RR) (hn : s.length ≤ 1000000) : Ev (fun k => prereq_one.f k a s z r.f0 r.f1 r.f2 r.f3 r.f4) (oneC a s r) := by
  unfold prereq_one.f oneC zone_Zone_Apex.f
  simp only [Option.bind_some]
  by_cases h3 : r.f3 = 0
  · simp only [if_pos h3]
    refine Ev.bind (ev_under _ _) ?_
    cases underN r.f0 a
    · simp only [Bool.false_eq_true, if_false]; exact Ev.now _
    · simp only [if_true]
      unfold prereq_absent.f
      simp only [there_f a s z r.f0 hn, set_f a s z r.f0 r.f1 hn, Option.bind_some, nil_eq]
      by_cases h1 : r.f2 = 1
      · simp only [h1, if_true, dataB_f, Option.bind_some, first_f]
        cases dataB r.f1
        · exact Ev.now _
        · exact Ev.now _
      · simp only [h1, if_false]
        have hj0 : ∀ b, Ev (fun k => prereq_one.j0 k (!thereB s r.f0) (decide ((setL s r.f0 r.f1).length = 0)) b r.f0 r.f1 r.f2 r.f3 r.f4) (if b = true then (if r.f4.toList = [] then (if r.f2 = 255 then (if r.f1 = 255 then (if thereB s r.f0 = true then 0 else 3) else if (setL s r.f0 r.f1).length = 0 then 8 else 0) else if r.f1 = 255 then (if thereB s r.f0 = true then 6 else 0) else if (setL s r.f0 r.f1).length = 0 then 0 else 7) else 1) else 1) := by
          have hj1 : ∀ c, Ev (fun k => prereq_one.j1 k (!thereB s r.f0) (decide ((setL s r.f0 r.f1).length = 0)) c r.f0 r.f1 r.f2 r.f3 r.f4) (if c = true then (if thereB s r.f0 = true then 0 else 3) else if r.f2 = 255 then (if (setL s r.f0 r.f1).length = 0 then 8 else 0) else if r.f1 = 255 then (if thereB s r.f0 = true then 6 else 0) else if (setL s r.f0 r.f1).length = 0 then 0 else 7) := by
            intro c
            have hs : ∀ k, prereq_one.j1 (k + 1) (!thereB s r.f0) (decide ((setL s r.f0 r.f1).length = 0)) c r.f0 r.f1 r.f2 r.f3 r.f4 = some (if c = true then (if thereB s r.f0 = true then 0 else 3) else if r.f2 = 255 then (if (setL s r.f0 r.f1).length = 0 then 8 else 0) else if r.f1 = 255 then (if thereB s r.f0 = true then 6 else 0) else if (setL s r.f0 r.f1).length = 0 then 0 else 7) := fun k => by
              rw [prereq_one.j1]
              simp only [first_f, Option.bind_some]
              cases thereB s r.f0 <;> by_cases hz : (setL s r.f0 r.f1).length = 0 <;> simp only [hz, Bool.not_true, Bool.not_false, decide_true, decide_false, Bool.false_eq_true, if_true, if_false] <;> (repeat' split) <;> first | rfl | contradiction
            exact Ev.step hs (Ev.now _)
          intro b
          cases b
          · simp only [Bool.false_eq_true, if_false]
            exact Ev.step (f := fun _ => some 1) (fun k => by rw [prereq_one.j0, if_neg (by decide)]) (Ev.now _)
          · simp only [if_true]
            by_cases h4 : r.f4.toList = []
            · simp only [h4, if_true]
              by_cases h2 : r.f2 = 255
              · have := hj1 (r.f1 == 255)
                simp only [h2, if_true] at this ⊢
                refine Ev.step (fun k => by rw [prereq_one.j0, if_pos rfl, if_pos h4, if_pos rfl]) ?_
                by_cases h5 : r.f1 = 255
                · simp only [h5, beq_self_eq_true, if_true] at this ⊢; exact this
                · simp only [h5, beq_eq_false_iff_ne.mpr h5, Bool.false_eq_true, if_false] at this ⊢; exact this
              · have := hj1 false
                simp only [h2, Bool.false_eq_true, if_false] at this ⊢
                refine Ev.step (fun k => by rw [prereq_one.j0, if_pos rfl, if_pos h4, if_neg h2]) ?_
                exact this
            · simp only [h4, if_false]
              exact Ev.step (f := fun _ => some 1) (fun k => by rw [prereq_one.j0, if_pos rfl, if_neg h4]) (Ev.now _)
        by_cases h2 : r.f2 = 255
        · have := hj0 true
          simp only [h2, if_true, beq_self_eq_true] at this ⊢
          exact this
        · have := hj0 (r.f2 == 254)
          simp only [h2, if_false] at this ⊢
          by_cases h6 : r.f2 = 254
          · simp only [h6, beq_self_eq_true, if_true] at this ⊢; exact this
          · simp only [h6, beq_eq_false_iff_ne.mpr h6, Bool.false_eq_true, if_false] at this ⊢; exact this
  · simp only [h3, if_false]; exact Ev.now _
end Go.Proofs.Ytehdkopjgcoclaa.Rrs
namespace Go.Proofs.Ytehdkopjgcoclaa.Rrs
open Go.RowKit Go.Proofs.YtehdkopjgcoclaaW.PrintWords Go.Proofs.YtehdkopjgcoclaaW.PrintLast Go.Proofs.YtehdkopjgcoclaaW.PrintMore Go.Proofs.Ytehdkopjgcoclaa.Given Go.Proofs.Ytehdkopjgcoclaa.PRd Go.Proofs.Ytehdkopjgcoclaa.PRr Go.Proofs.Ytehdkopjgcoclaa.PZo Go.Proofs.Ytehdkopjgcoclaa.PZf Go.Proofs.Ytehdkopjgcoclaa.PZh Go.Proofs.Ytehdkopjgcoclaa.Oct Go.Proofs.Ytehdkopjgcoclaa.Name Go.Proofs.Ytehdkopjgcoclaa.Cmp Go.Proofs.Ytehdkopjgcoclaa.NameFacts Go.Proofs.Ytehdkopjgcoclaa.RdataFacts Go.Proofs.Ytehdkopjgcoclaa.SetLaw
set_option linter.unusedVariables false
set_option linter.unusedSimpArgs false
def onesC (a : ByteArray) (s : List RR) : List RR → Int
  | [] => 0
  | r :: l => if oneC a s r = 0 then onesC a s l else oneC a s r
def keptL (l : List RR) : List RR := l.filter fun r => r.f2 == 1
noncomputable def sameC (s kept : List RR) : List RR → Int
  | [] => 0
  | r :: l => if equalB (setL s r.f0 r.f1) (setL kept r.f0 r.f1) = true then sameC s kept l else 8
noncomputable def checkC (a : ByteArray) (s l : List RR) : Int := if onesC a s l = 0 then sameC s (keptL l) (keptL l) else onesC a s l
theorem setL_sub {s : List RR} {n : ByteArray} {t : Int} {y : RR} (h : y ∈ setL s n t) : y ∈ s := (List.mem_filter.mp (List.mem_filter.mp h).1).1
theorem setL_len (s : List RR) (n : ByteArray) (t : Int) : (setL s n t).length ≤ s.length := Nat.le_trans (typedL_len _ _) (atL_len s n)
section
variable (a : ByteArray) (s : List RR) (z : Int) (fs : ∀ y ∈ s, fine y) (ns : s.length ≤ 100000)
include fs ns
theorem same_loop_p (K : List RR) (fk : ∀ y ∈ K, fine y) (nk : K.length ≤ 100000) : ∀ (d i : Nat), K.length ≤ i + d → i ≤ K.length → Ev (fun k => prereq_Check.l1 k K K (K.length : Int) (i : Int) a s z) (sameC s K (K.drop i)) := by
  have hend : ∀ i : Nat, K.length ≤ i → Ev (fun k => prereq_Check.l1 k K K (K.length : Int) (i : Int) a s z) (sameC s K (K.drop i)) := by
    intro i hd
    refine Ev.step (f := fun _ => some 0) (fun k => by rw [prereq_Check.l1]; rw [if_neg (by omega)]) ?_
    rw [List.drop_of_length_le hd, sameC]
    exact Ev.now _
  intro d
  induction d with
  | zero => exact fun i hd _ => hend i (by omega)
  | succ d ih =>
    intro i hd hi0
    by_cases hi : i < K.length
    · have e1 : wrap64 ((i : Int) + 1) = ((i + 1 : Nat) : Int) := by unfold wrap64; omega
      have hs : ∀ k, prereq_Check.l1 (k + 1) K K (K.length : Int) (i : Int) a s z = (prereq_equal.f k (setL s (rdR K (i : Int)).f0 (rdR K (i : Int)).f1) (setL K (rdR K (i : Int)).f0 (rdR K (i : Int)).f1)).bind fun t => if t = true then prereq_Check.l1 k K K (K.length : Int) ((i + 1 : Nat) : Int) a s z else some 8 := fun k => by
        rw [prereq_Check.l1, e1]
        rw [if_pos (by omega), if_pos (by omega), if_pos (by omega), set_f a s z _ _ (by omega), Option.bind_some, at_fl K _ (by omega), Option.bind_some, typed_fl _ _ (Nat.le_trans (atL_len K _) (by omega)), Option.bind_some]
        rfl
      rw [rdR_get K i hi] at hs
      have l1 := setL_len s K[i].f0 K[i].f1
      have l2 := setL_len K K[i].f0 K[i].f1
      refine Ev.step hs (Ev.bind (ev_equal _ _ (fun y hy => fs y (setL_sub hy)) (fun y hy => fk y (setL_sub hy)) (by omega) (by omega)) ?_)
      rw [List.drop_eq_getElem_cons hi, sameC]
      cases equalB (setL s K[i].f0 K[i].f1) (setL K K[i].f0 K[i].f1)
      · simp only [Bool.false_eq_true, if_false]; exact Ev.now _
      · simp only [if_true]; exact ih (i + 1) (by omega) (by omega)
    · exact hend i (by omega)
theorem check_loop_p (l : List RR) (fl : ∀ y ∈ l, fine y) (nl : l.length ≤ 50000) : ∀ (d i : Nat) (K : List RR), l.length ≤ i + d → i ≤ l.length → K.length ≤ i → (∀ y ∈ K, fine y) → Ev (fun k => prereq_Check.l0 k K l (l.length : Int) (i : Int) a s z) (if onesC a s (l.drop i) = 0 then sameC s (K ++ keptL (l.drop i)) (K ++ keptL (l.drop i)) else onesC a s (l.drop i)) := by
  have hend : ∀ (i : Nat) (K : List RR), l.length ≤ i → K.length ≤ 100000 → (∀ y ∈ K, fine y) → Ev (fun k => prereq_Check.l0 k K l (l.length : Int) (i : Int) a s z) (if onesC a s (l.drop i) = 0 then sameC s (K ++ keptL (l.drop i)) (K ++ keptL (l.drop i)) else onesC a s (l.drop i)) := by
    intro i K hd nk fk
    refine Ev.step (f := fun k => prereq_Check.l1 k K K (K.length : Int) 0 a s z) (fun k => by rw [prereq_Check.l0]; rw [if_neg (by omega)]) ?_
    rw [List.drop_of_length_le hd]
    show Ev _ (if (0 : Int) = 0 then sameC s (K ++ []) (K ++ []) else _)
    rw [if_pos rfl, List.append_nil]
    have := same_loop_p a s z fs ns K fk nk K.length 0 (by omega) (Nat.zero_le _)
    rw [List.drop_zero] at this
    exact this
  intro d
  induction d with
  | zero => exact fun i K hd hi0 hk fk => hend i K (by omega) (by omega) fk
  | succ d ih =>
    intro i K hd hi0 hk fk
    by_cases hi : i < l.length
    · have e1 : wrap64 ((i : Int) + 1) = ((i + 1 : Nat) : Int) := by unfold wrap64; omega
      have hs : ∀ k, prereq_Check.l0 (k + 1) K l (l.length : Int) (i : Int) a s z = (prereq_one.f k a s z (rdR l (i : Int)).f0 (rdR l (i : Int)).f1 (rdR l (i : Int)).f2 (rdR l (i : Int)).f3 (rdR l (i : Int)).f4).bind fun t => if t = 0 then (if (rdR l (i : Int)).f2 = 1 then prereq_Check.l0 k (K ++ [rdR l (i : Int)]) l (l.length : Int) ((i + 1 : Nat) : Int) a s z else prereq_Check.l0 k K l (l.length : Int) ((i + 1 : Nat) : Int) a s z) else some t := fun k => by
        rw [prereq_Check.l0, e1]
        rw [if_pos (by omega), if_pos (by omega), if_pos (by omega)]
        congr 1
        funext t
        rw [if_pos (show K.length < _ by omega)]
      rw [rdR_get l i hi] at hs
      refine Ev.step hs (Ev.bind (ev_one_p a s z l[i] (by omega)) ?_)
      rw [List.drop_eq_getElem_cons hi, onesC]
      unfold keptL
      rw [List.filter_cons]
      by_cases h0 : oneC a s l[i] = 0
      · simp only [h0, if_true]
        by_cases h1 : l[i].f2 = 1
        · simp only [h1, beq_self_eq_true, if_true]
          have := ih (i + 1) (K ++ [l[i]]) (by omega) (by omega) (by rw [List.length_append, List.length_singleton]; omega) (fun y hy => by
            rcases List.mem_append.mp hy with h | h
            · exact fk y h
            · rw [List.mem_singleton.mp h]; exact fl _ (List.getElem_mem _))
          rw [List.append_assoc, List.singleton_append] at this
          exact this
        · simp only [h1, beq_eq_false_iff_ne.mpr h1, Bool.false_eq_true, if_false]
          exact ih (i + 1) K (by omega) (by omega) (by omega) fk
      · simp only [h0, if_false]
        exact Ev.now _
    · exact hend i K (by omega) (by omega) fk
theorem ev_check_p (l : List RR) (fl : ∀ y ∈ l, fine y) (nl : l.length ≤ 50000) : Ev (fun k => prereq_Check.f k a s z l) (checkC a s l) := by
  have := check_loop_p a s z fs ns l fl nl l.length 0 [] (by omega) (Nat.zero_le _) (Nat.le_refl _) (fun y hy => by cases hy)
  rw [List.drop_zero, List.nil_append] at this
  exact this
end
abbrev lrb : RR := ⟨(⟨#[1, 98, 1, 97, 0]⟩ : ByteArray), 255, 255, 0, (⟨#[]⟩ : ByteArray)⟩
theorem right_least : ∀ y ∈ [lr0, lr1], rightRR y = true := fun y hy => by
  rcases List.mem_cons.mp hy with rfl | hy
  · exact right0
  · rw [List.mem_singleton.mp hy]; exact right1
theorem check_least : checkC lra [lr0, lr1] [lrb] = 3 := by
  have hu : underN lrb.f0 lra = true := by
    have h := underN_f lrb.f0 lra 300 (Nat.le_refl _)
    have h2 := at_rounds (fun k => name_Under.mono lrb.f0 lra k) (show 20 ≤ 300 by omega) (r := true) (by kernel_rfl)
    rw [h2] at h; exact (Option.some.inj h).symm
  have ht : thereB [lr0, lr1] lrb.f0 = false := by
    have h1 : alikeN lra lrb.f0 = false := by
      have h := alikeN_f lra lrb.f0
      rw [show name_Alike.f lra lrb.f0 = some false from by kernel_rfl] at h
      exact (Option.some.inj h).symm
    unfold thereB
    rw [List.any_cons, List.any_cons, h1]; rfl
  have h1 : oneC lra [lr0, lr1] lrb = 3 := by
    unfold oneC
    rw [if_pos rfl, if_pos hu, if_neg (by decide), if_pos rfl, if_pos (by kernel_rfl), if_pos rfl, ht]; rfl
  unfold checkC
  rw [onesC, h1]; rfl
theorem ev_awake22 : Ev (fun k => beadrolllaw22_awake.f k) true := by
  unfold beadrolllaw22_awake.f beadrolllaw14_Least.f
  simp only [Option.bind_some]
  refine Ev.bind ev_least ?_
  simp only [if_true]
  rw [all_f _ _ _ (by simp)]
  simp only [Option.bind_some]
  have hc := ev_check_p lra [lr0, lr1] (soaI [lr0, lr1]) (fun y hy => rightRR_fine (right_least y hy)) (by simp) [lrb] (fun y hy => by rw [List.mem_singleton.mp hy]; exact ⟨by kernel_rfl, by decide⟩) (by simp)
  rw [check_least] at hc
  have hl : ((([lr0, lr1] : List RR).length : Int) = 2) = True := eq_true rfl
  simp only [hl, if_true]
  exact Ev.bind hc (Ev.now _)
end Go.Proofs.Ytehdkopjgcoclaa.Rrs
namespace Go.Proofs.Ytehdkopjgcoclaa.PZn
open Go.RowKit Go.Proofs.YtehdkopjgcoclaaW.PrintWords Go.Proofs.YtehdkopjgcoclaaW.PrintLast Go.Proofs.YtehdkopjgcoclaaW.PrintMore Go.Proofs.Ytehdkopjgcoclaa.Given Go.Proofs.Ytehdkopjgcoclaa.PRd Go.Proofs.Ytehdkopjgcoclaa.PRr Go.Proofs.Ytehdkopjgcoclaa.PZo Go.Proofs.Ytehdkopjgcoclaa.PZf Go.Proofs.Ytehdkopjgcoclaa.PZh
attribute [local go_sem] max2_int min2_int max_two min_two max_three min_three max_four min_four   -- for this text's walks alone
set_option linter.unusedVariables false
set_option linter.unusedSimpArgs false
def errW : Option Int → Value
 | none => .nilIface
 | some c => .iface 0 (.int .i64 c)
theorem errW_none : errW none = .nilIface := rfl
theorem errW_some (c : Int) : errW (some c) = .iface 0 (.int .i64 c) := rfl
end Go.Proofs.Ytehdkopjgcoclaa.PZn
namespace Go.Proofs.Ytehdkopjgcoclaa.RowStructs
open Go.RowKit Go.ChangeShapes Go.WideShapes Go.Deep Go.Proofs.YtehdkopjgcoclaaW.PrintWords
set_option linter.unusedVariables false
section
variable {H : Type} {enc : TypeId × Value → H} {P : Program} {W : World} {base : Nat} {spare : Nat → Bool} {held : Bool}
theorem fields_of {e : TypeId} {fs : Array Field} {fuel : Nat} {cs : List Value} {x : DataW H × List MemPlace} (he : P.underlying e = some (.struct fs)) (hone : oneCellFields P fs = true) (hC : P.cellsOf e = fs.size)
    (h : DataW.trod enc P W base spare held fuel e cs = some x) : cs.length = fs.size ∧ ∃ n, ∀ (j : Nat) (f : Field), fs[j]? = some f → ∃ v y, cs[j]? = some v ∧ DataW.trod enc P W base spare held n f.type [v] = some y := by
  obtain ⟨ys, n, _, _, hl, hyl, hf⟩ := DataW.trod_struct he h
  refine ⟨hl.trans hC, n, fun j f hj => ?_⟩
  obtain ⟨ho, hk⟩ := hone_of hone j f hj
  have hjl : j < fs.size := (Array.getElem?_eq_some_iff.1 hj).1
  have hcl : j < cs.length := by omega
  have hyj : j < ys.length := by omega
  have h1 := hf j f hj
  rw [ho, hk, List.drop_eq_getElem_cons hcl, List.take_succ_cons, List.take_zero] at h1
  exact ⟨cs[j], ys[j], List.getElem?_eq_getElem hcl, h1.trans (List.getElem?_eq_getElem hyj)⟩
theorem list_of {S : Type} (n : Nat) (R : Nat → S → Prop) (h : ∀ i, i < n → ∃ s, R i s) : ∃ l : List S, l.length = n ∧ ∀ i s, l[i]? = some s → R i s := by
  induction n with
  | zero => exact ⟨[], rfl, fun i s hs => by simp at hs⟩
  | succ n ih =>
    obtain ⟨l, hl, hr⟩ := ih fun i hi => h i (by omega)
    obtain ⟨s, hs⟩ := h n (by omega)
    refine ⟨l ++ [s], by simp [hl], fun i t ht => ?_⟩
    by_cases hi : i < n
    · rw [List.getElem?_append_left (by omega)] at ht; exact hr i t ht
    · rw [List.getElem?_append_right (by omega)] at ht
      by_cases e : i = n
      · subst e; rw [hl, Nat.sub_self] at ht; simp at ht; subst ht; exact hs
      · rw [List.getElem?_eq_none (by simp; omega)] at ht; cases ht
theorem structs_of {S : Type} (k : Kd S) (good : S → Prop) {t e : TypeId} {a : Option Addr} {len cap : Nat} {d : DataW H} {ps : List MemPlace} (hu : P.underlying t = some (.slice e)) (hC : P.cellsOf e = k.sz) (hpos : 0 < k.sz)
    (open1 : ∀ fuel cs x, DataW.trod enc P W base spare held fuel e cs = some x → ∃ s, k.K W s cs ∧ good s) (h : DataW.Trod enc P W base spare held t (.slice a len cap) d ps) :
    ∃ l : List S, len = l.length ∧ Kd.C k W a l.length l ∧ l.length ≤ cap ∧ l.length ≤ maxLen ∧ ∀ s ∈ l, good s := by
  obtain ⟨fuel, hf⟩ := h
  rcases open_slice hu hf with ⟨hcs, _⟩ | ⟨x, l, c, m, n, D, Pl, hcs, _, hl, hm, hmm, _, hi⟩
  · simp [Value.cells] at hcs
    obtain ⟨rfl, rfl, rfl⟩ := hcs
    exact ⟨[], rfl, Kd.C_nil _ _, Nat.le_refl _, Nat.zero_le _, by simp⟩
  · simp [Value.cells] at hcs
    obtain ⟨rfl, rfl, rfl⟩ := hcs
    have hlm : len ≤ m := by rw [hmm]; split <;> omega
    obtain ⟨L, hL, hR⟩ := list_of len (fun i s => good s ∧ ∃ cs', k.K W s cs' ∧ cs'.length = k.sz ∧ ∀ j u, cs'[j]? = some u → W.cell? (x.add (i * k.sz + j)) = some u) (fun i hi' => by
      obtain ⟨cs', hc, ht⟩ := hi i (by omega)
      obtain ⟨s, hs, hg⟩ := open1 _ _ _ ht
      rw [hC] at hc
      obtain ⟨_, hcl, hat⟩ := World.cells?_some hc
      refine ⟨s, hg, cs', hs, hcl, fun j u hj => ?_⟩
      have hjl : j < k.sz := by rw [← hcl]; exact (List.getElem?_eq_some_iff.1 hj).1
      have := hat j hjl
      rw [← Go.Deep.add_add]; rw [this]; exact hj)
    refine ⟨L, hL.symm, ⟨rfl, by unfold maxLen at hm; omega, fun _ => ⟨x, rfl, fun j p hp => ?_⟩⟩, by omega, by omega, fun s hs => ?_⟩
    · obtain ⟨_, c, h1, h2, h3⟩ := hR j p hp
      exact ⟨c, h2, h1, h3⟩
    · obtain ⟨i, hi', he⟩ := List.getElem_of_mem hs
      exact (hR i s (by rw [List.getElem?_eq_getElem hi', he])).1
end
end Go.Proofs.Ytehdkopjgcoclaa.RowStructs
namespace Go.Proofs.Ytehdkopjgcoclaa.RowStructs
open Go.RowKit Go.ChangeShapes Go.WideShapes Go.Deep Go.Proofs.YtehdkopjgcoclaaW.PrintWords Go.Proofs.Ytehdkopjgcoclaa.PRd Go.Proofs.Ytehdkopjgcoclaa.PRr
set_option linter.unusedVariables false
structure GoodRR (s : S33) : Prop where
  n0 : s.f0.size ≤ maxLen
  n4 : s.f4.size ≤ maxLen
  i1 : (Lit.int .i64 s.f1).wf = true
  i2 : (Lit.int .i64 s.f2).wf = true
  i3 : (Lit.int .i64 s.f3).wf = true
section
variable {H : Type} {enc : TypeId × Value → H} {W : World} {base : Nat} {spare : Nat → Bool} {held : Bool}
theorem rr_of {fuel : Nat} {cs : List Value} {x : DataW H × List MemPlace} (h : DataW.trod enc Try.prog W base spare held fuel 33 cs = some x) : ∃ s : S33, cs = [.string s.f0, .int .i64 s.f1, .int .i64 s.f2, .int .i64 s.f3, .string s.f4] ∧ GoodRR s := by
  obtain ⟨hl, n, hf⟩ := fields_of Try.underlying33 (by kernel_rfl) (by kernel_rfl) h
  obtain ⟨v0, y0, c0, h0⟩ := hf 0 _ rfl
  obtain ⟨v1, y1, c1, h1⟩ := hf 1 _ rfl
  obtain ⟨v2, y2, c2, h2⟩ := hf 2 _ rfl
  obtain ⟨v3, y3, c3, h3⟩ := hf 3 _ rfl
  obtain ⟨v4, y4, c4, h4⟩ := hf 4 _ rfl
  obtain ⟨s, e0, _, g0⟩ := DataW.trod_string Try.underlying9 h0
  obtain ⟨a, e1, _, g1⟩ := DataW.trod_int Try.underlying3 h1
  obtain ⟨b, e2, _, g2⟩ := DataW.trod_int Try.underlying3 h2
  obtain ⟨c, e3, _, g3⟩ := DataW.trod_int Try.underlying3 h3
  obtain ⟨d, e4, _, g4⟩ := DataW.trod_string Try.underlying9 h4
  obtain rfl : v0 = .string s := by simpa using e0
  obtain rfl : v1 = .int .i64 a := by simpa using e1
  obtain rfl : v2 = .int .i64 b := by simpa using e2
  obtain rfl : v3 = .int .i64 c := by simpa using e3
  obtain rfl : v4 = .string d := by simpa using e4
  have : cs = [.string s, .int .i64 a, .int .i64 b, .int .i64 c, .string d] := by
    match cs, hl with
    | [p, q, r, t, u], _ => simp at c0 c1 c2 c3 c4; rw [c0, c1, c2, c3, c4]
  exact ⟨⟨s, a, b, c, d⟩, this, ⟨g0, g4, g1, g2, g3⟩⟩
theorem of_T33 {t : TypeId} {a : Option Addr} {len cap : Nat} {d : DataW H} {ps : List MemPlace} (hu : Try.prog.underlying t = some (.slice 33)) (h : DataW.Trod enc Try.prog W base spare held t (.slice a len cap) d ps) :
    ∃ l : List S33, len = l.length ∧ Kd.C k33 W a l.length l ∧ l.length ≤ cap ∧ l.length ≤ maxLen ∧ ∀ s ∈ l, GoodRR s :=
  structs_of k33 GoodRR hu (by kernel_rfl) (by decide) (fun _ _ _ h => by
    obtain ⟨s, rfl, hg⟩ := rr_of h
    exact ⟨s, k33_mk W s, hg⟩) h
end
end Go.Proofs.Ytehdkopjgcoclaa.RowStructs
namespace Go.Proofs.Ytehdkopjgcoclaa.Rrs
open Go.RowKit Go.Proofs.YtehdkopjgcoclaaW.PrintWords Go.Proofs.YtehdkopjgcoclaaW.PrintLast Go.Proofs.YtehdkopjgcoclaaW.PrintMore Go.Proofs.Ytehdkopjgcoclaa.Given Go.Proofs.Ytehdkopjgcoclaa.PRd Go.Proofs.Ytehdkopjgcoclaa.PRr Go.Proofs.Ytehdkopjgcoclaa.PZo Go.Proofs.Ytehdkopjgcoclaa.PZf Go.Proofs.Ytehdkopjgcoclaa.PZh Go.Proofs.Ytehdkopjgcoclaa.PZn Go.Proofs.Ytehdkopjgcoclaa.Name Go.Proofs.Ytehdkopjgcoclaa.NameFacts Go.Proofs.Ytehdkopjgcoclaa.SetLaw
set_option linter.unusedVariables false
theorem zone_two {a : ByteArray} {s : List RR} (h : ZoneOf a s) : 2 ≤ s.length := by
  have hz := h.zone
  rw [← zone_is h.set] at hz
  unfold zoneB at hz
  simp only [Bool.and_eq_true, beq_iff_eq, Bool.not_eq_true', List.isEmpty_eq_false_iff] at hz
  obtain ⟨_, h1, _, h2, _⟩ := hz
  obtain ⟨y, _, hy, hy6⟩ := one_six h1
  obtain ⟨z, hz⟩ := List.exists_mem_of_ne_nil _ h2
  have hz2 : z ∈ s ∧ z.f1 = 2 := by
    unfold setL typedL atL at hz
    simp only [List.mem_filter, beq_iff_eq] at hz
    exact ⟨hz.1.1, hz.2⟩
  match s, hy, hz2.1 with
  | [x], hy, hz => rw [List.mem_singleton] at hy hz; rw [hy] at hy6; rw [hz] at hz2; omega
  | _ :: _ :: _, _, _ => simp
end Go.Proofs.Ytehdkopjgcoclaa.Rrs
namespace Go.Proofs.Ytehdkopjgcoclaa.PZn
open Go.RowKit Go.Proofs.YtehdkopjgcoclaaW.PrintWords Go.Proofs.YtehdkopjgcoclaaW.PrintLast Go.Proofs.YtehdkopjgcoclaaW.PrintMore Go.Proofs.Ytehdkopjgcoclaa.Given Go.Proofs.Ytehdkopjgcoclaa.PRd Go.Proofs.Ytehdkopjgcoclaa.PRr Go.Proofs.Ytehdkopjgcoclaa.PZo Go.Proofs.Ytehdkopjgcoclaa.PZf Go.Proofs.Ytehdkopjgcoclaa.PZh
attribute [local go_sem] max2_int min2_int max_two min_two max_three min_three max_four min_four   -- for this text's walks alone
set_option linter.unusedVariables false
set_option linter.unusedSimpArgs false
mutual
noncomputable def beadrolllaw22_PrereqHolds.j0 : Nat → List (S33) → Int → Int → Bool → Option (Bool)
 | 0, _, _, _, _ => none
 | k + 1, x0, x1, x2, x21 => if x21 = true then ((beadrolllaw22_awake.f k).bind fun t137 => (some t137)) else ((zone_New.f k (⟨#[2, 101, 120, 0]⟩ : ByteArray) x0).bind fun bt138 => (if bt138.2.2.2 = 0 then ((zone_Zone_All.f bt138.1 bt138.2.1 bt138.2.2.1).bind fun t145 => (if (t145.length : Int) = 0 then (some false) else (if 0 ≤ (Int.tmod (wrap64 (x1)) (t145.length : Int)) then (if (Int.tmod (wrap64 (x1)) (t145.length : Int)) < (t145.length : Int) then ((beadrollref13_At.f k t145 ((rd_T33 t145 (Int.tmod (wrap64 (x1)) (t145.length : Int))).f0)).bind fun t150 => ((beadrollref13_Typed.f k t150 ((rd_T33 t145 (Int.tmod (wrap64 (x1)) (t145.length : Int))).f1)).bind fun t153 => (beadrolllaw22_PrereqHolds.l0 k x2 t153 ([] : List (S33)) 0 bt138.1 bt138.2.1 bt138.2.2.1))) else (none)) else (none)))) else (some true)))
noncomputable def beadrolllaw22_PrereqHolds.l0 : Nat → Int → List (S33) → List (S33) → Int → ByteArray → List (S33) → Int → Option (Bool)
 | 0, _, _, _, _, _, _, _ => none
 | k + 1, x2, x11, x12, x13, x145000, x145001, x145002 => if x13 < (x11.length : Int) then (if (x11.length : Int) = 0 then (none) else (if 0 ≤ (Int.tmod (wrap64 (x13 + (wrap64 (x2)))) (x11.length : Int)) then (if (Int.tmod (wrap64 (x13 + (wrap64 (x2)))) (x11.length : Int)) < (x11.length : Int) then (if x12.length < 2513169434916 then (beadrolllaw22_PrereqHolds.l0 k x2 x11 (x12 ++ [(⟨(rd_T33 x11 (Int.tmod (wrap64 (x13 + (wrap64 (x2)))) (x11.length : Int))).f0, (rd_T33 x11 (Int.tmod (wrap64 (x13 + (wrap64 (x2)))) (x11.length : Int))).f1, (rd_T33 x11 (Int.tmod (wrap64 (x13 + (wrap64 (x2)))) (x11.length : Int))).f2, 0, (rd_T33 x11 (Int.tmod (wrap64 (x13 + (wrap64 (x2)))) (x11.length : Int))).f4⟩ : S33)]) (wrap64 (x13 + 1)) x145000 x145001 x145002) else (none)) else (none)) else (none))) else ((prereq_Check.f k x145000 x145001 x145002 x12).bind fun t161 => (if t161 = 0 then ((some (([] : List (S33)) : List (S33))).bind fun y162 => (if y162.length + x12.length < 2513169434916 then ((some (y162 ++ x12 : List (S33))).bind fun y165 => (if y165.length + x12.length < 2513169434916 then ((prereq_Check.f k x145000 x145001 x145002 (y165 ++ x12)).bind fun t171 => (if t171 = 0 then (if (x12.length : Int) = 1 then (some true) else (if 1 ≤ (x12.length : Int) then ((prereq_Check.f k x145000 x145001 x145002 (x12.drop 1)).bind fun t176 => (some (t176 == 8))) else (none))) else (some false))) else (none))) else (none))) else (some false)))
end
noncomputable def beadrolllaw22_PrereqHolds.f (k : Nat) (l0 : List (S33)) (a1 : Int) (a2 : Int) : Option (Bool) := (beadrolllaw22_awake.f k).bind fun t135 => (if t135 = true then ((beadrollref14_Few.f k l0).bind fun t136 => (beadrolllaw22_PrereqHolds.j0 k l0 a1 a2 (!t136))) else (beadrolllaw22_PrereqHolds.j0 k l0 a1 a2 true))
def beadrolllaw22_PrereqHolds.T10 : Bool × List (List Nat × List Nat) := (true, [([], []), ([], []), ([1], [1]), ([0, 2], [0, 2]), ([], []), ([4], [4]), ([3, 5, 3], [3, 5]), ([6, 6, 0, 1, 2, 3, 4, 5, 6], [6])])
def beadrolllaw22_PrereqHolds.B10 : List Nat := [0, 0, 2, 7, 0, 16, 63, 127]
theorem beadrolllaw22_PrereqHolds.tab10 : rtab .any (opsOf Try.f5 10) = beadrolllaw22_PrereqHolds.T10 := by kernel_rfl
theorem beadrolllaw22_PrereqHolds.bits10 : waitsOk beadrolllaw22_PrereqHolds.T10.2 beadrolllaw22_PrereqHolds.B10 = true := by kernel_rfl
def beadrolllaw22_PrereqHolds.T18 : Bool × List (List Nat × List Nat) := (true, [([], []), ([], []), ([0, 1], [0, 1]), ([2], [2]), ([3, 2], [3]), ([4], [4]), ([4], [4]), ([4], [4]), ([6, 7, 4, 4], [4, 6, 7]), ([4], [4]), ([8, 9, 8, 4], [4, 8, 9]), ([5, 10, 10, 4], [4, 5, 10]), ([11, 4], [4, 11]), ([4, 12], [4, 12])])
def beadrolllaw22_PrereqHolds.B18 : List Nat := [0, 0, 3, 7, 15, 31, 31, 31, 223, 31, 991, 2047, 4095, 8191]
theorem beadrolllaw22_PrereqHolds.tab18 : rtab .any (opsOf Try.f5 18) = beadrolllaw22_PrereqHolds.T18 := by kernel_rfl
theorem beadrolllaw22_PrereqHolds.bits18 : waitsOk beadrolllaw22_PrereqHolds.T18.2 beadrolllaw22_PrereqHolds.B18 = true := by kernel_rfl
def beadrolllaw22_PrereqHolds.T20 : Bool × List (List Nat × List Nat) := (true, [([], []), ([0], [0]), ([1], [1]), ([2], [2]), ([3], [3]), ([3], [3]), ([5, 3], [3, 5]), ([4, 6, 3, 3], [3, 4, 6]), ([7, 3], [3, 7]), ([3, 8], [3, 8]), ([9, 7, 0, 1, 2, 3, 4, 5, 6, 7, 8, 9], [9])])
def beadrolllaw22_PrereqHolds.B20 : List Nat := [0, 1, 3, 7, 15, 15, 47, 127, 255, 511, 1023]
theorem beadrolllaw22_PrereqHolds.tab20 : rtab .any (opsOf Try.f5 20) = beadrolllaw22_PrereqHolds.T20 := by kernel_rfl
theorem beadrolllaw22_PrereqHolds.bits20 : waitsOk beadrolllaw22_PrereqHolds.T20.2 beadrolllaw22_PrereqHolds.B20 = true := by kernel_rfl
set_option maxHeartbeats 8000000 in
set_option maxRecDepth 100000 in
theorem beadrolllaw22_PrereqHolds.calls (k : Nat) (A0 : Option Addr) (c0 : Nat) (l0 : List (S33)) (a1 : Int) (a2 : Int) (r : Bool) (w : World) (hr0 : Kd.C k33 w A0 l0.length l0) (hc0 : l0.length ≤ c0) (h : beadrolllaw22_PrereqHolds.f k l0 a1 a2 = some r) :
    Calls Try.prog 5 #[.slice A0 l0.length c0, .int .u8 a1, .int .u8 a2] w fun e w' => e = .returned (.bool r) ∧ Below w.heap.size w w' := by
  have hu27 := Try.underlying27
  have hu33 := Try.underlying33
  have HR0 := Aside0.mk hr0
  have HC0 := Aside0.mk hc0
  clear hr0 hc0
  have HB := Aside0.mk (Below.refl w.heap.size w)
  have H : ((beadrolllaw22_awake.f k).bind fun t135 => (if t135 = true then ((beadrollref14_Few.f k l0).bind fun t136 => (beadrolllaw22_PrereqHolds.j0 k l0 a1 a2 (!t136))) else (beadrolllaw22_PrereqHolds.j0 k l0 a1 a2 true))) = some r := h
  clear h
  have HC4 := Aside0.mk H
  clear H
  go_enter Try.func5, Try.ntmps5
  go_upto_region 1 with (fail)
  go_cut [21] (fun v21 wc => ∃ (kq : Nat) (x21_3 : Bool), v21 = .bool x21_3 ∧ Aside0 (beadrolllaw22_PrereqHolds.j0 kq l0 a1 a2 x21_3 = some r) ∧ Aside0 (kq ≤ k) ∧ Aside0 (Below w.heap.size w wc))
  case first =>
   have H := HC4.out
   clear HC4
   obtain ⟨t135, A5, H⟩ := bnd_ H
   by_cases c6 : t135 = true
   ·subst c6
    rw [if_pos rfl] at H
    obtain ⟨t136, A7, H⟩ := bnd_ H
    have H' := Aside0.mk H
    clear H
    go_wp2_with (first | ((with_reducible refine gate_callee (f := 13) rfl ?_); refine goesL_ (some 15) rfl rfl Try.func13 (by kernel_rfl) rfl #[] rfl (by (try simp only [List.map_toArray, List.map_cons, List.map_nil]); first | done | rfl | (simp only [List.length_drop, List.length_take]; rfl)) ?_; (with_reducible refine (beadrolllaw22_awake.calls k  _ _ A5.out).mono ?_); rintro e w8 ⟨rfl, hb⟩; refine ⟨_, rfl, ?_⟩; replace HB := Aside0.mk (below_step (by repeat (first | (with_reducible first | exact HB.out | apply below_alloc | apply pw_below_drewN | apply below_drew1) | exact HB.out)) hb); (try clear hb); (try clear hb2); (try clear hk); (try clear hi)) | (go_at_call 9; (with_reducible refine (beadrollref14_Few.calls k _ _ l0 t136 _ ?side1 ?side2 A7.out).mono ?_); (case side1 => repeat (first | exact (Kd.C_below HR0.out HB.out) | (with_reducible refine Kd.C_alloc ?_ _) | (with_reducible refine Kd.C_drewN ?_ _) | (with_reducible refine Kd.C_drew ?_))); (case side2 => exact HC0.out); rintro e w' ⟨rfl, ⟨nd, rfl⟩⟩))
    go_meet
    case rel => exact ⟨_, (!t136), (by first | rfl | (simp; done) | (simp [*]; done)), H', ⟨by first | omega | exact Nat.le_refl _⟩, ⟨by repeat (first | (with_reducible first | exact HB.out | apply below_alloc | apply pw_below_drewN | apply below_drew1) | exact HB.out)⟩⟩
   ·replace c6 := Bool.eq_false_iff.mpr c6
    subst c6
    rw [if_neg ff_] at H
    have H' := Aside0.mk H
    clear H
    go_wp2_with (first | ((with_reducible refine gate_callee (f := 13) rfl ?_); refine goesL_ (some 15) rfl rfl Try.func13 (by kernel_rfl) rfl #[] rfl (by (try simp only [List.map_toArray, List.map_cons, List.map_nil]); first | done | rfl | (simp only [List.length_drop, List.length_take]; rfl)) ?_; (with_reducible refine (beadrolllaw22_awake.calls k  _ _ A5.out).mono ?_); rintro e w9 ⟨rfl, hb⟩; refine ⟨_, rfl, ?_⟩; replace HB := Aside0.mk (below_step (by repeat (first | (with_reducible first | exact HB.out | apply below_alloc | apply pw_below_drewN | apply below_drew1) | exact HB.out)) hb); (try clear hb); (try clear hb2); (try clear hk); (try clear hi)))
    go_meet
    case rel => exact ⟨_, (true), (by first | rfl | (simp; done) | (simp [*]; done)), H', ⟨by first | omega | exact Nat.le_refl _⟩, ⟨by repeat (first | (with_reducible first | exact HB.out | apply below_alloc | apply pw_below_drewN | apply below_drew1) | exact HB.out)⟩⟩
  case rest =>
   clear HC4
   try clear c1
   try clear p2
   try clear c5
   try clear c6
   obtain ⟨kq, x21_3, rfl, HA, HJ3, HB⟩ := hcut
   cases kq with
   | zero => exact absurd HA.out (by simp [beadrolllaw22_PrereqHolds.j0])
   | succ kj3 =>
    have H := HA.out
    clear HA
    simp only [beadrolllaw22_PrereqHolds.j0] at H
    by_cases c10 : x21_3 = true
    ·subst c10
     rw [if_pos rfl] at H
     obtain ⟨t137, A11, H⟩ := bnd_ H
     obtain rfl := Option.some.inj H
     go_wp2_with (first | ((with_reducible refine gate_callee (f := 13) rfl ?_); refine goesL_ (some 22) rfl rfl Try.func13 (by kernel_rfl) rfl #[] rfl (by (try simp only [List.map_toArray, List.map_cons, List.map_nil]); first | done | rfl | (simp only [List.length_drop, List.length_take]; rfl)) ?_; (with_reducible refine (beadrolllaw22_awake.calls kj3  t137 _ A11.out).mono ?_); rintro e w12 ⟨rfl, hb⟩; refine ⟨_, rfl, ?_⟩; replace HB := Aside0.mk (below_step (by repeat (first | (with_reducible first | exact HB.out | apply below_alloc | apply pw_below_drewN | apply below_drew1) | exact HB.out)) hb); (try clear hb); (try clear hb2); (try clear hk); (try clear hi)))
     go_ret
     exact ⟨by first | rfl | (simp [errW_none, errW_some] <;> rfl) | (simp [*, errW_none, errW_some] <;> rfl), by repeat (first | (with_reducible first | exact HB.out | apply below_alloc | apply pw_below_drewN | apply below_drew1) | exact HB.out)⟩
    ·replace c10 := Bool.eq_false_iff.mpr c10
     subst c10
     rw [if_neg ff_] at H
     replace H := Option.bind_eq_some_iff.mp H
     obtain ⟨⟨t138, t139, t142, t143⟩, A130, H⟩ := H
     replace H : (if t143 = 0 then ((zone_Zone_All.f t138 t139 t142).bind fun t145 => (if (t145.length : Int) = 0 then (some false) else (if 0 ≤ (Int.tmod (wrap64 (a1)) (t145.length : Int)) then (if (Int.tmod (wrap64 (a1)) (t145.length : Int)) < (t145.length : Int) then ((beadrollref13_At.f kj3 t145 ((rd_T33 t145 (Int.tmod (wrap64 (a1)) (t145.length : Int))).f0)).bind fun t150 => ((beadrollref13_Typed.f kj3 t150 ((rd_T33 t145 (Int.tmod (wrap64 (a1)) (t145.length : Int))).f1)).bind fun t153 => (beadrolllaw22_PrereqHolds.l0 kj3 a2 t153 ([] : List (S33)) 0 t138 t139 t142))) else (none)) else (none)))) else (some true)) = some r := H
     have A13 := Aside0.mk A130
     clear A130
     by_cases c14 : t143 = 0
     ·rw [if_pos c14] at H
      have c14b0 : (t143 == 0) = true := beq_iff_eq.mpr c14
      have c14b1 : (t143 != 0) = false := bne_eq_false_iff_eq.mpr c14
      clear c14
      obtain ⟨t145, A15, H⟩ := bnd_ H
      by_cases c16 : (t145.length : Int) = 0
      ·rw [if_pos c16] at H
       have c16b0 : ((t145.length : Int) == 0) = true := beq_iff_eq.mpr c16
       have c16b1 : ((t145.length : Int) != 0) = false := bne_eq_false_iff_eq.mpr c16
       clear c16
       obtain rfl := Option.some.inj H
       go_wp2_with (first | ((with_reducible refine gate_callee (f := 10) rfl ?_); refine goesL_ (some 25) rfl rfl Try.func10 (by kernel_rfl) rfl #[.string (⟨#[2, 101, 120, 0]⟩ : ByteArray), .slice A0 l0.length c0] rfl (by (try simp only [List.map_toArray, List.map_cons, List.map_nil]); first | done | rfl | (simp only [List.length_drop, List.length_take]; rfl)) ?_; (with_reducible refine (zone_New.calls kj3 (⟨#[2, 101, 120, 0]⟩ : ByteArray) _ _ l0 t138 t139 t142 t143 _ ?side1 ?side2 A13.out).mono ?_); (case side1 => repeat (first | exact (Kd.C_below HR0.out HB.out) | (with_reducible refine Kd.C_alloc ?_ _) | (with_reducible refine Kd.C_drewN ?_ _) | (with_reducible refine Kd.C_drew ?_))); (case side2 => exact HC0.out); rintro e w17 ⟨v140, rfl, ho0, hb⟩; refine ⟨_, rfl, ?_⟩; have HO141 := Aside0.mk (Kd.R_lower ho0 (below_size (by repeat (first | (with_reducible first | exact HB.out | apply below_alloc | apply pw_below_drewN | apply below_drew1) | exact HB.out)))); replace HB := Aside0.mk (below_step (by repeat (first | (with_reducible first | exact HB.out | apply below_alloc | apply pw_below_drewN | apply below_drew1) | exact HB.out)) hb); (try clear hb); (try clear hb2); (try clear hk); (try clear hi); (try clear ho0)) | ((with_reducible refine gate_dst (N := 7) rfl ?_); (try (refine gate_guard (by rfl) ?_; dsimp only)); refine box_event ?hg (N := 7) ?hd (cs := #[.string (⟨#[]⟩ : ByteArray), .slice none 0 0, .int .i64 0]) (t := 27) ?hr ?_; (case hd => rfl); (case hg => rfl); (case hr => first | (go_simp; done) | (go_simp; rfl)); intro gb144 hg w18 hbox hb; have BK144 := Aside0.mk (hbox); have GW144 := Aside0.mk ((by rw [hg]; exact (below_size (by repeat (first | (with_reducible first | exact HB.out | apply below_alloc | apply pw_below_drewN | apply below_drew1) | exact HB.out))) : w.heap.size ≤ gb144)); have GE144 := Aside0.mk ((by rw [hg]; exact (below_size (by repeat (first | (with_reducible first | exact HB.out | apply below_alloc | apply pw_below_drewN | apply below_drew1) | exact HB.out))) : w.heap.size ≤ gb144)); replace HO141 := Aside0.mk (Kd.R_below (by (with_reducible repeat (first | apply Kd.R_alloc | apply Kd.R_drewN | apply Kd.R_drew)); exact HO141.out) hb); replace HB := Aside0.mk (below_step (by repeat (first | (with_reducible first | exact HB.out | apply below_alloc | apply pw_below_drewN | apply below_drew1) | exact HB.out)) hb); clear hb hbox hg; have hcz19_0 : w18.cell? ⟨gb144, 0, none⟩ = some (.string (⟨#[]⟩ : ByteArray)) := (blk_cell BK144.out 0).trans rfl; have hcz19_1 : w18.cell? ⟨gb144, 1, none⟩ = some (.slice none 0 0) := (blk_cell BK144.out 1).trans rfl; have hcz19_2 : w18.cell? ⟨gb144, 2, none⟩ = some (.int .i64 0) := (blk_cell BK144.out 2).trans rfl; have hfz19_0 := blk_frozen BK144.out 0; have hfz19_1 := blk_frozen BK144.out 1; have hfz19_2 := blk_frozen BK144.out 2; obtain ⟨Ao20, co20, eo20⟩ := Kd.R_slice HO141.out; subst eo20) | ((with_reducible refine gate_callee (f := 11) rfl ?_); refine goesL_ (some 31) rfl rfl Try.func11 (by kernel_rfl) rfl #[.agg #[.string t138, .slice Ao20 t139.length co20, .int .i64 t142]] rfl (by (try simp only [List.map_toArray, List.map_cons, List.map_nil]); first | done | rfl | (simp only [List.length_drop, List.length_take]; rfl)) ?_; (with_reducible refine (zone_Zone_All.calls t138 _ _ t139 t142 t145 _ ?side1 ?side2 A15.out).mono ?_); (case side1 => refine (Kd.R_reads' (e := 33) (base := w.heap.size) (ok := fun k_ => True) (n := t139.length) (c := co20) ?_).2.2; exact (by (with_reducible repeat (first | apply Kd.R_alloc | apply Kd.R_drewN | apply Kd.R_drew)); exact (Kd.R_mono (Kd.R_far (p := ⟨gb144, 2, none⟩) (Kd.R_far (p := ⟨gb144, 1, none⟩) (Kd.R_far (p := ⟨gb144, 0, none⟩) (Kd.R_types HO141.out BK144.out (by decide)) (fun _ hk => hk.2) (.string t138)) (fun _ hk => hk.2) (.slice Ao20 t139.length co20)) (fun _ hk => hk.2) (.int .i64 t142)) (fun _ h_ => h_.1)))); (case side2 => exact (Kd.R_reads' HO141.out).2.1); rintro e w21 ⟨v146, rfl, ho0, hb⟩; refine ⟨_, rfl, ?_⟩; have HO147 := Aside0.mk (Kd.R_lower (Kd.R_new' ho0 (Kd.R_lt (by (with_reducible repeat (first | apply Kd.R_alloc | apply Kd.R_drewN | apply Kd.R_drew)); exact (Kd.R_mono (Kd.R_far (p := ⟨gb144, 2, none⟩) (Kd.R_far (p := ⟨gb144, 1, none⟩) (Kd.R_far (p := ⟨gb144, 0, none⟩) (Kd.R_types HO141.out BK144.out (by decide)) (fun _ hk => hk.2) (.string t138)) (fun _ hk => hk.2) (.slice Ao20 t139.length co20)) (fun _ hk => hk.2) (.int .i64 t142)) (fun _ h_ => h_.1))))) (below_size (by repeat (first | (with_reducible first | exact HB.out | apply below_alloc | apply pw_below_drewN | apply below_drew1 | refine below_set ?_ GE144.out) | exact HB.out)))); replace HO141 := Aside0.mk (Kd.R_elder' (by (with_reducible repeat (first | apply Kd.R_alloc | apply Kd.R_drewN | apply Kd.R_drew)); exact (Kd.R_mono (Kd.R_far (p := ⟨gb144, 2, none⟩) (Kd.R_far (p := ⟨gb144, 1, none⟩) (Kd.R_far (p := ⟨gb144, 0, none⟩) (Kd.R_types HO141.out BK144.out (by decide)) (fun _ hk => hk.2) (.string t138)) (fun _ hk => hk.2) (.slice Ao20 t139.length co20)) (fun _ hk => hk.2) (.int .i64 t142)) (fun _ h_ => h_.1))) (Kd.R_base ho0) hb); replace BK144 := Aside0.mk (blk_below (g := gb144) (o := .cells #[.string t138, .slice Ao20 t139.length co20, .int .i64 t142] 27 (0, 0)) (by (with_reducible repeat (first | refine blk_drewN ?_ _ | refine blk_drew ?_ | refine blk_alloc ?_ _)); refine blk_put (cs := #[.string t138, .slice Ao20 t139.length co20, .int .i64 0]) ?_ 2 _ rfl; (with_reducible repeat (first | refine blk_drewN ?_ _ | refine blk_drew ?_ | refine blk_alloc ?_ _)); refine blk_put (cs := #[.string t138, .slice none 0 0, .int .i64 0]) ?_ 1 _ rfl; (with_reducible repeat (first | refine blk_drewN ?_ _ | refine blk_drew ?_ | refine blk_alloc ?_ _)); refine blk_put (cs := #[.string (⟨#[]⟩ : ByteArray), .slice none 0 0, .int .i64 0]) ?_ 0 _ rfl; (with_reducible repeat (first | refine blk_drewN ?_ _ | refine blk_drew ?_ | refine blk_alloc ?_ _)); exact BK144.out) hb); replace HB := Aside0.mk (below_step (by repeat (first | (with_reducible first | exact HB.out | apply below_alloc | apply pw_below_drewN | apply below_drew1 | refine below_set ?_ GE144.out) | exact HB.out)) hb); (try clear hb); (try clear hb2); (try clear hk); (try clear hi); (try clear ho0); obtain ⟨Ao22, co22, eo22⟩ := Kd.R_slice HO147.out; subst eo22))
       go_ret
       exact ⟨by first | rfl | (simp [errW_none, errW_some] <;> rfl) | (simp [*, errW_none, errW_some] <;> rfl), by repeat (first | (with_reducible first | exact HB.out | apply below_alloc | apply pw_below_drewN | apply below_drew1 | refine below_set ?_ GE144.out) | exact HB.out)⟩
      ·rw [if_neg c16] at H
       have c16b0 : ((t145.length : Int) == 0) = false := beq_eq_false_iff_ne.mpr c16
       have c16b1 : ((t145.length : Int) != 0) = true := bne_iff_ne.mpr c16
       have c16b2 : ¬ (t145 = []) := fun h_ => c16 (by rw [h_]; rfl)
       obtain ⟨ji23, hji23⟩ : ∃ j_ : Int, (Int.tmod (wrap64 (a1)) (t145.length : Int)) = j_ := ⟨_, rfl⟩
       replace H : (if 0 ≤ (ji23) then (if (ji23) < (t145.length : Int) then ((beadrollref13_At.f kj3 t145 ((rd_T33 t145 (ji23)).f0)).bind fun t150 => ((beadrollref13_Typed.f kj3 t150 ((rd_T33 t145 (ji23)).f1)).bind fun t153 => (beadrolllaw22_PrereqHolds.l0 kj3 a2 t153 ([] : List (S33)) 0 t138 t139 t142))) else (none)) else (none)) = some r := by first | (rw [hji23] at H; exact H) | (simp only [hji23] at H ⊢; exact H)
       (try rw [hji23] at A13)
       (try rw [hji23] at A15)
       obtain ⟨c24b0, H⟩ := gdd_ H
       obtain ⟨c25b0, H⟩ := gdd_ H
       obtain ⟨t150, A26, H⟩ := bnd_ H
       obtain ⟨t153, A27, H⟩ := bnd_ H
       have H' := Aside0.mk H
       clear H
       try go_wp2_with (first | ((with_reducible refine gate_callee (f := 10) rfl ?_); refine goesL_ (some 25) rfl rfl Try.func10 (by kernel_rfl) rfl #[.string (⟨#[2, 101, 120, 0]⟩ : ByteArray), .slice A0 l0.length c0] rfl (by (try simp only [List.map_toArray, List.map_cons, List.map_nil]); first | done | rfl | (simp only [List.length_drop, List.length_take]; rfl)) ?_; (with_reducible refine (zone_New.calls kj3 (⟨#[2, 101, 120, 0]⟩ : ByteArray) _ _ l0 t138 t139 t142 t143 _ ?side1 ?side2 A13.out).mono ?_); (case side1 => repeat (first | exact (Kd.C_below HR0.out HB.out) | (with_reducible refine Kd.C_alloc ?_ _) | (with_reducible refine Kd.C_drewN ?_ _) | (with_reducible refine Kd.C_drew ?_))); (case side2 => exact HC0.out); rintro e w28 ⟨v140, rfl, ho0, hb⟩; refine ⟨_, rfl, ?_⟩; have HO141 := Aside0.mk (Kd.R_lower ho0 (below_size (by repeat (first | (with_reducible first | exact HB.out | apply below_alloc | apply pw_below_drewN | apply below_drew1) | exact HB.out)))); replace HB := Aside0.mk (below_step (by repeat (first | (with_reducible first | exact HB.out | apply below_alloc | apply pw_below_drewN | apply below_drew1) | exact HB.out)) hb); (try clear hb); (try clear hb2); (try clear hk); (try clear hi); (try clear ho0)) | ((with_reducible refine gate_dst (N := 7) rfl ?_); (try (refine gate_guard (by rfl) ?_; dsimp only)); refine box_event ?hg (N := 7) ?hd (cs := #[.string (⟨#[]⟩ : ByteArray), .slice none 0 0, .int .i64 0]) (t := 27) ?hr ?_; (case hd => rfl); (case hg => rfl); (case hr => first | (go_simp; done) | (go_simp; rfl)); intro gb144 hg w29 hbox hb; have BK144 := Aside0.mk (hbox); have GW144 := Aside0.mk ((by rw [hg]; exact (below_size (by repeat (first | (with_reducible first | exact HB.out | apply below_alloc | apply pw_below_drewN | apply below_drew1) | exact HB.out))) : w.heap.size ≤ gb144)); have GE144 := Aside0.mk ((by rw [hg]; exact (below_size (by repeat (first | (with_reducible first | exact HB.out | apply below_alloc | apply pw_below_drewN | apply below_drew1) | exact HB.out))) : w.heap.size ≤ gb144)); replace HO141 := Aside0.mk (Kd.R_below (by (with_reducible repeat (first | apply Kd.R_alloc | apply Kd.R_drewN | apply Kd.R_drew)); exact HO141.out) hb); replace HB := Aside0.mk (below_step (by repeat (first | (with_reducible first | exact HB.out | apply below_alloc | apply pw_below_drewN | apply below_drew1) | exact HB.out)) hb); clear hb hbox hg; have hcz30_0 : w29.cell? ⟨gb144, 0, none⟩ = some (.string (⟨#[]⟩ : ByteArray)) := (blk_cell BK144.out 0).trans rfl; have hcz30_1 : w29.cell? ⟨gb144, 1, none⟩ = some (.slice none 0 0) := (blk_cell BK144.out 1).trans rfl; have hcz30_2 : w29.cell? ⟨gb144, 2, none⟩ = some (.int .i64 0) := (blk_cell BK144.out 2).trans rfl; have hfz30_0 := blk_frozen BK144.out 0; have hfz30_1 := blk_frozen BK144.out 1; have hfz30_2 := blk_frozen BK144.out 2; obtain ⟨Ao31, co31, eo31⟩ := Kd.R_slice HO141.out; subst eo31) | ((with_reducible refine gate_callee (f := 11) rfl ?_); refine goesL_ (some 31) rfl rfl Try.func11 (by kernel_rfl) rfl #[.agg #[.string t138, .slice Ao31 t139.length co31, .int .i64 t142]] rfl (by (try simp only [List.map_toArray, List.map_cons, List.map_nil]); first | done | rfl | (simp only [List.length_drop, List.length_take]; rfl)) ?_; (with_reducible refine (zone_Zone_All.calls t138 _ _ t139 t142 t145 _ ?side1 ?side2 A15.out).mono ?_); (case side1 => refine (Kd.R_reads' (e := 33) (base := w.heap.size) (ok := fun k_ => True) (n := t139.length) (c := co31) ?_).2.2; exact (by (with_reducible repeat (first | apply Kd.R_alloc | apply Kd.R_drewN | apply Kd.R_drew)); exact (Kd.R_mono (Kd.R_far (p := ⟨gb144, 2, none⟩) (Kd.R_far (p := ⟨gb144, 1, none⟩) (Kd.R_far (p := ⟨gb144, 0, none⟩) (Kd.R_types HO141.out BK144.out (by decide)) (fun _ hk => hk.2) (.string t138)) (fun _ hk => hk.2) (.slice Ao31 t139.length co31)) (fun _ hk => hk.2) (.int .i64 t142)) (fun _ h_ => h_.1)))); (case side2 => exact (Kd.R_reads' HO141.out).2.1); rintro e w32 ⟨v146, rfl, ho0, hb⟩; refine ⟨_, rfl, ?_⟩; have HO147 := Aside0.mk (Kd.R_lower (Kd.R_new' ho0 (Kd.R_lt (by (with_reducible repeat (first | apply Kd.R_alloc | apply Kd.R_drewN | apply Kd.R_drew)); exact (Kd.R_mono (Kd.R_far (p := ⟨gb144, 2, none⟩) (Kd.R_far (p := ⟨gb144, 1, none⟩) (Kd.R_far (p := ⟨gb144, 0, none⟩) (Kd.R_types HO141.out BK144.out (by decide)) (fun _ hk => hk.2) (.string t138)) (fun _ hk => hk.2) (.slice Ao31 t139.length co31)) (fun _ hk => hk.2) (.int .i64 t142)) (fun _ h_ => h_.1))))) (below_size (by repeat (first | (with_reducible first | exact HB.out | apply below_alloc | apply pw_below_drewN | apply below_drew1 | refine below_set ?_ GE144.out) | exact HB.out)))); replace HO141 := Aside0.mk (Kd.R_elder' (by (with_reducible repeat (first | apply Kd.R_alloc | apply Kd.R_drewN | apply Kd.R_drew)); exact (Kd.R_mono (Kd.R_far (p := ⟨gb144, 2, none⟩) (Kd.R_far (p := ⟨gb144, 1, none⟩) (Kd.R_far (p := ⟨gb144, 0, none⟩) (Kd.R_types HO141.out BK144.out (by decide)) (fun _ hk => hk.2) (.string t138)) (fun _ hk => hk.2) (.slice Ao31 t139.length co31)) (fun _ hk => hk.2) (.int .i64 t142)) (fun _ h_ => h_.1))) (Kd.R_base ho0) hb); replace BK144 := Aside0.mk (blk_below (g := gb144) (o := .cells #[.string t138, .slice Ao31 t139.length co31, .int .i64 t142] 27 (0, 0)) (by (with_reducible repeat (first | refine blk_drewN ?_ _ | refine blk_drew ?_ | refine blk_alloc ?_ _)); refine blk_put (cs := #[.string t138, .slice Ao31 t139.length co31, .int .i64 0]) ?_ 2 _ rfl; (with_reducible repeat (first | refine blk_drewN ?_ _ | refine blk_drew ?_ | refine blk_alloc ?_ _)); refine blk_put (cs := #[.string t138, .slice none 0 0, .int .i64 0]) ?_ 1 _ rfl; (with_reducible repeat (first | refine blk_drewN ?_ _ | refine blk_drew ?_ | refine blk_alloc ?_ _)); refine blk_put (cs := #[.string (⟨#[]⟩ : ByteArray), .slice none 0 0, .int .i64 0]) ?_ 0 _ rfl; (with_reducible repeat (first | refine blk_drewN ?_ _ | refine blk_drew ?_ | refine blk_alloc ?_ _)); exact BK144.out) hb); replace HB := Aside0.mk (below_step (by repeat (first | (with_reducible first | exact HB.out | apply below_alloc | apply pw_below_drewN | apply below_drew1 | refine below_set ?_ GE144.out) | exact HB.out)) hb); (try clear hb); (try clear hb2); (try clear hk); (try clear hi); (try clear ho0); obtain ⟨Ao33, co33, eo33⟩ := Kd.R_slice HO147.out; subst eo33; have p148 : 0 ≤ ((ji23) : Int) := of_decide_eq_true (by first | (with_reducible assumption) | assumption); have q148 : (ji23) < (t145.length : Int) := of_decide_eq_true (by first | (with_reducible assumption) | assumption); obtain ⟨ad148, e148, hx148_0, hx148_1, hx148_2, hx148_3, hx148_4⟩ := at_T33 (Kd.R_reads' HO147.out).2.2 (ji23) p148 q148; cases e148; replace p148 := eq_true p148; replace q148 := eq_true q148) | ((with_reducible refine gate_dst (N := 10) rfl ?_); (try (refine gate_guard (by rfl) ?_; dsimp only)); refine box_event ?hg (N := 10) ?hd (cs := #[.string (⟨#[]⟩ : ByteArray), .int .i64 0, .int .i64 0, .int .i64 0, .string (⟨#[]⟩ : ByteArray)]) (t := 33) ?hr ?_; (case hd => rfl); (case hg => rfl); (case hr => first | (go_simp; done) | (go_simp; rfl)); intro gb149 hg w34 hbox hb; have BK149 := Aside0.mk (hbox); have GW149 := Aside0.mk ((by rw [hg]; exact (below_size (by repeat (first | (with_reducible first | exact HB.out | apply below_alloc | apply pw_below_drewN | apply below_drew1 | refine below_set ?_ GE144.out) | exact HB.out))) : w.heap.size ≤ gb149)); have GE149 := Aside0.mk ((by rw [hg]; exact (below_size (by repeat (first | (with_reducible first | exact HB.out | apply below_alloc | apply pw_below_drewN | apply below_drew1 | refine below_set ?_ GE144.out) | exact HB.out))) : w.heap.size ≤ gb149)); have NB144_149 := Aside0.mk ((by rw [hg]; exact Nat.ne_of_lt (blk_lt (g := gb144) (o := .cells #[.string t138, .slice Ao31 t139.length co31, .int .i64 t142] 27 (0, 0)) (by (with_reducible repeat (first | refine blk_drewN ?_ _ | refine blk_drew ?_ | refine blk_alloc ?_ _)); exact BK144.out)) : gb144 ≠ gb149)); have NB149_144 := Aside0.mk ((by rw [hg]; exact Nat.ne_of_gt (blk_lt (g := gb144) (o := .cells #[.string t138, .slice Ao31 t139.length co31, .int .i64 t142] 27 (0, 0)) (by (with_reducible repeat (first | refine blk_drewN ?_ _ | refine blk_drew ?_ | refine blk_alloc ?_ _)); exact BK144.out)) : gb149 ≠ gb144)); replace HO141 := Aside0.mk (Kd.R_below (Kd.R_elderB (by (with_reducible repeat (first | apply Kd.R_alloc | apply Kd.R_drewN | apply Kd.R_drew)); exact HO141.out) gb149 (Nat.le_of_eq hg.symm)) hb); replace HO147 := Aside0.mk (Kd.R_below (Kd.R_elderB (by (with_reducible repeat (first | apply Kd.R_alloc | apply Kd.R_drewN | apply Kd.R_drew)); exact HO147.out) gb149 (Nat.le_of_eq hg.symm)) hb); replace BK144 := Aside0.mk (blk_below (g := gb144) (o := .cells #[.string t138, .slice Ao31 t139.length co31, .int .i64 t142] 27 (0, 0)) (by (with_reducible repeat (first | refine blk_drewN ?_ _ | refine blk_drew ?_ | refine blk_alloc ?_ _)); exact BK144.out) hb); replace HB := Aside0.mk (below_step (by repeat (first | (with_reducible first | exact HB.out | apply below_alloc | apply pw_below_drewN | apply below_drew1 | refine below_set ?_ GE144.out) | exact HB.out)) hb); clear hb hbox hg; have hnb35 := NB149_144.out; have hnc35 := NB144_149.out; have hcz36_0 : w34.cell? ⟨gb149, 0, none⟩ = some (.string (⟨#[]⟩ : ByteArray)) := (blk_cell BK149.out 0).trans rfl; have hcz36_1 : w34.cell? ⟨gb149, 1, none⟩ = some (.int .i64 0) := (blk_cell BK149.out 1).trans rfl; have hcz36_2 : w34.cell? ⟨gb149, 2, none⟩ = some (.int .i64 0) := (blk_cell BK149.out 2).trans rfl; have hcz36_3 : w34.cell? ⟨gb149, 3, none⟩ = some (.int .i64 0) := (blk_cell BK149.out 3).trans rfl; have hcz36_4 : w34.cell? ⟨gb149, 4, none⟩ = some (.string (⟨#[]⟩ : ByteArray)) := (blk_cell BK149.out 4).trans rfl; have hfz36_0 := blk_frozen BK149.out 0; have hfz36_1 := blk_frozen BK149.out 1; have hfz36_2 := blk_frozen BK149.out 2; have hfz36_3 := blk_frozen BK149.out 3; have hfz36_4 := blk_frozen BK149.out 4))
       have n0_ : Aside0 (Kd.R k33 33 (((((w34.setCell ⟨gb149, 0, none⟩ (.string ((rd_T33 t145 (ji23)).f0))).setCell ⟨gb149, 1, none⟩ (.int .i64 ((rd_T33 t145 (ji23)).f1))).setCell ⟨gb149, 2, none⟩ (.int .i64 ((rd_T33 t145 (ji23)).f2))).setCell ⟨gb149, 3, none⟩ (.int .i64 ((rd_T33 t145 (ji23)).f3))).setCell ⟨gb149, 4, none⟩ (.string ((rd_T33 t145 (ji23)).f4))) w.heap.size (fun k_ => some k_ ≠ (.slice (some ad148) t145.length co33 : Value).ownBlock ∧ k_ ≠ gb149) (.slice Ao31 t139.length co31) t139) := ⟨by (with_reducible repeat (first | apply Kd.R_alloc | apply Kd.R_drewN | apply Kd.R_drew)); exact Kd.R_mono (Kd.R_far (p := ⟨gb149, 4, none⟩) (Kd.R_far (p := ⟨gb149, 3, none⟩) (Kd.R_far (p := ⟨gb149, 2, none⟩) (Kd.R_far (p := ⟨gb149, 1, none⟩) (Kd.R_far (p := ⟨gb149, 0, none⟩) (Kd.R_mono HO141.out (fun k_ hk => (⟨hk, hk.2⟩ : _ ∧ k_ ≠ gb149))) (fun _ hk => hk.2) (.string ((rd_T33 t145 (ji23)).f0))) (fun _ hk => hk.2) (.int .i64 ((rd_T33 t145 (ji23)).f1))) (fun _ hk => hk.2) (.int .i64 ((rd_T33 t145 (ji23)).f2))) (fun _ hk => hk.2) (.int .i64 ((rd_T33 t145 (ji23)).f3))) (fun _ hk => hk.2) (.string ((rd_T33 t145 (ji23)).f4))) (fun _ hk => ⟨hk.1.1.2, hk.1.2⟩)⟩
       have n1_ : Aside0 (Kd.R k33 33 (((((w34.setCell ⟨gb149, 0, none⟩ (.string ((rd_T33 t145 (ji23)).f0))).setCell ⟨gb149, 1, none⟩ (.int .i64 ((rd_T33 t145 (ji23)).f1))).setCell ⟨gb149, 2, none⟩ (.int .i64 ((rd_T33 t145 (ji23)).f2))).setCell ⟨gb149, 3, none⟩ (.int .i64 ((rd_T33 t145 (ji23)).f3))).setCell ⟨gb149, 4, none⟩ (.string ((rd_T33 t145 (ji23)).f4))) w.heap.size (fun k_ => some k_ ≠ (.slice Ao31 t139.length co31 : Value).ownBlock ∧ k_ ≠ gb149) (.slice (some ad148) t145.length co33) t145) := ⟨by (with_reducible repeat (first | apply Kd.R_alloc | apply Kd.R_drewN | apply Kd.R_drew)); exact Kd.R_mono (Kd.R_far (p := ⟨gb149, 4, none⟩) (Kd.R_far (p := ⟨gb149, 3, none⟩) (Kd.R_far (p := ⟨gb149, 2, none⟩) (Kd.R_far (p := ⟨gb149, 1, none⟩) (Kd.R_far (p := ⟨gb149, 0, none⟩) (Kd.R_mono HO147.out (fun k_ hk => (⟨hk, hk.2⟩ : _ ∧ k_ ≠ gb149))) (fun _ hk => hk.2) (.string ((rd_T33 t145 (ji23)).f0))) (fun _ hk => hk.2) (.int .i64 ((rd_T33 t145 (ji23)).f1))) (fun _ hk => hk.2) (.int .i64 ((rd_T33 t145 (ji23)).f2))) (fun _ hk => hk.2) (.int .i64 ((rd_T33 t145 (ji23)).f3))) (fun _ hk => hk.2) (.string ((rd_T33 t145 (ji23)).f4))) (fun _ hk => ⟨hk.1.1.2, hk.1.2⟩)⟩
       have n2_ : Aside0 ((((((w34.setCell ⟨gb149, 0, none⟩ (.string ((rd_T33 t145 (ji23)).f0))).setCell ⟨gb149, 1, none⟩ (.int .i64 ((rd_T33 t145 (ji23)).f1))).setCell ⟨gb149, 2, none⟩ (.int .i64 ((rd_T33 t145 (ji23)).f2))).setCell ⟨gb149, 3, none⟩ (.int .i64 ((rd_T33 t145 (ji23)).f3))).setCell ⟨gb149, 4, none⟩ (.string ((rd_T33 t145 (ji23)).f4))).heap[gb144]? = some (.cells #[.string t138, .slice Ao31 t139.length co31, .int .i64 t142] 27 (0, 0))) := ⟨by (with_reducible repeat (first | refine blk_drewN ?_ _ | refine blk_drew ?_ | refine blk_alloc ?_ _)); refine blk_far ?_ NB144_149.out _; (with_reducible repeat (first | refine blk_drewN ?_ _ | refine blk_drew ?_ | refine blk_alloc ?_ _)); refine blk_far ?_ NB144_149.out _; (with_reducible repeat (first | refine blk_drewN ?_ _ | refine blk_drew ?_ | refine blk_alloc ?_ _)); refine blk_far ?_ NB144_149.out _; (with_reducible repeat (first | refine blk_drewN ?_ _ | refine blk_drew ?_ | refine blk_alloc ?_ _)); refine blk_far ?_ NB144_149.out _; (with_reducible repeat (first | refine blk_drewN ?_ _ | refine blk_drew ?_ | refine blk_alloc ?_ _)); refine blk_far ?_ NB144_149.out _; (with_reducible repeat (first | refine blk_drewN ?_ _ | refine blk_drew ?_ | refine blk_alloc ?_ _)); exact BK144.out⟩
       have n3_ : Aside0 ((((((w34.setCell ⟨gb149, 0, none⟩ (.string ((rd_T33 t145 (ji23)).f0))).setCell ⟨gb149, 1, none⟩ (.int .i64 ((rd_T33 t145 (ji23)).f1))).setCell ⟨gb149, 2, none⟩ (.int .i64 ((rd_T33 t145 (ji23)).f2))).setCell ⟨gb149, 3, none⟩ (.int .i64 ((rd_T33 t145 (ji23)).f3))).setCell ⟨gb149, 4, none⟩ (.string ((rd_T33 t145 (ji23)).f4))).heap[gb149]? = some (.cells #[.string ((rd_T33 t145 (ji23)).f0), .int .i64 ((rd_T33 t145 (ji23)).f1), .int .i64 ((rd_T33 t145 (ji23)).f2), .int .i64 ((rd_T33 t145 (ji23)).f3), .string ((rd_T33 t145 (ji23)).f4)] 33 (0, 0))) := ⟨by (with_reducible repeat (first | refine blk_drewN ?_ _ | refine blk_drew ?_ | refine blk_alloc ?_ _)); refine blk_put (cs := #[.string ((rd_T33 t145 (ji23)).f0), .int .i64 ((rd_T33 t145 (ji23)).f1), .int .i64 ((rd_T33 t145 (ji23)).f2), .int .i64 ((rd_T33 t145 (ji23)).f3), .string (⟨#[]⟩ : ByteArray)]) ?_ 4 _ rfl; (with_reducible repeat (first | refine blk_drewN ?_ _ | refine blk_drew ?_ | refine blk_alloc ?_ _)); refine blk_put (cs := #[.string ((rd_T33 t145 (ji23)).f0), .int .i64 ((rd_T33 t145 (ji23)).f1), .int .i64 ((rd_T33 t145 (ji23)).f2), .int .i64 0, .string (⟨#[]⟩ : ByteArray)]) ?_ 3 _ rfl; (with_reducible repeat (first | refine blk_drewN ?_ _ | refine blk_drew ?_ | refine blk_alloc ?_ _)); refine blk_put (cs := #[.string ((rd_T33 t145 (ji23)).f0), .int .i64 ((rd_T33 t145 (ji23)).f1), .int .i64 0, .int .i64 0, .string (⟨#[]⟩ : ByteArray)]) ?_ 2 _ rfl; (with_reducible repeat (first | refine blk_drewN ?_ _ | refine blk_drew ?_ | refine blk_alloc ?_ _)); refine blk_put (cs := #[.string ((rd_T33 t145 (ji23)).f0), .int .i64 0, .int .i64 0, .int .i64 0, .string (⟨#[]⟩ : ByteArray)]) ?_ 1 _ rfl; (with_reducible repeat (first | refine blk_drewN ?_ _ | refine blk_drew ?_ | refine blk_alloc ?_ _)); refine blk_put (cs := #[.string (⟨#[]⟩ : ByteArray), .int .i64 0, .int .i64 0, .int .i64 0, .string (⟨#[]⟩ : ByteArray)]) ?_ 0 _ rfl; (with_reducible repeat (first | refine blk_drewN ?_ _ | refine blk_drew ?_ | refine blk_alloc ?_ _)); exact BK149.out⟩
       have n4_ : Aside0 (Below w.heap.size w (((((w34.setCell ⟨gb149, 0, none⟩ (.string ((rd_T33 t145 (ji23)).f0))).setCell ⟨gb149, 1, none⟩ (.int .i64 ((rd_T33 t145 (ji23)).f1))).setCell ⟨gb149, 2, none⟩ (.int .i64 ((rd_T33 t145 (ji23)).f2))).setCell ⟨gb149, 3, none⟩ (.int .i64 ((rd_T33 t145 (ji23)).f3))).setCell ⟨gb149, 4, none⟩ (.string ((rd_T33 t145 (ji23)).f4)))) := ⟨by repeat (first | (with_reducible first | exact HB.out | apply below_alloc | apply pw_below_drewN | apply below_drew1 | refine below_set ?_ GE144.out | refine below_set ?_ GE149.out) | exact HB.out)⟩
       (try clear HO141)
       (try clear HO147)
       (try clear BK144)
       (try clear BK149)
       (try clear HB)
       generalize (((((w34.setCell ⟨gb149, 0, none⟩ (.string ((rd_T33 t145 (ji23)).f0))).setCell ⟨gb149, 1, none⟩ (.int .i64 ((rd_T33 t145 (ji23)).f1))).setCell ⟨gb149, 2, none⟩ (.int .i64 ((rd_T33 t145 (ji23)).f2))).setCell ⟨gb149, 3, none⟩ (.int .i64 ((rd_T33 t145 (ji23)).f3))).setCell ⟨gb149, 4, none⟩ (.string ((rd_T33 t145 (ji23)).f4))) = w37 at n0_ n1_ n2_ n3_ n4_ ⊢
       have HO141 := n0_
       have HO147 := n1_
       have BK144 := n2_
       have BK149 := n3_
       have HB := n4_
       clear n0_ n1_ n2_ n3_ n4_
       replace HO141 := Aside0.mk (Kd.R_drew HO141.out)
       replace HO147 := Aside0.mk (Kd.R_drew HO147.out)
       replace BK144 := Aside0.mk (blk_drew BK144.out)
       replace BK149 := Aside0.mk (blk_drew BK149.out)
       replace HB := Aside0.mk (below_drew1 HB.out)
       refine start_ (n := 8) (S := fun w' => w'.cell? ⟨gb149, 0, none⟩ = some (.string ((rd_T33 t145 (ji23)).f0)) ∧ w'.cell? ⟨gb149, 1, none⟩ = some (.int .i64 ((rd_T33 t145 (ji23)).f1)) ∧ w'.cell? ⟨gb149, 2, none⟩ = some (.int .i64 ((rd_T33 t145 (ji23)).f2)) ∧ w'.cell? ⟨gb149, 3, none⟩ = some (.int .i64 ((rd_T33 t145 (ji23)).f3)) ∧ w'.cell? ⟨gb149, 4, none⟩ = some (.string ((rd_T33 t145 (ji23)).f4))) (ds := []) (ls 8 0) (by kernel_rfl) rfl rfl ⟨(blk_cell BK149.out 0).trans rfl, (blk_cell BK149.out 1).trans rfl, (blk_cell BK149.out 2).trans rfl, (blk_cell BK149.out 3).trans rfl, (blk_cell BK149.out 4).trans rfl⟩ (fun hHeld => ?_); refine with_tabW beadrolllaw22_PrereqHolds.tab10 beadrolllaw22_PrereqHolds.bits10 (fun HT_ HW_ => ?_)
       generalize w37.drew = w38 at HO141 HO147 BK144 BK149 HB hHeld ⊢
       refine td_ [(0, 43), (1, 44), (4, 47)] ?_
       iterate 3 (refine pn_ (v := ?_) (a' := ?_) HT_ rfl rfl (by kernel_rfl) rfl (fun _ _ _ h => h) (fun w' => ?_) ?_ ?_; rotate_left 2; (focus go_simp; with_reducible rfl); (focus simp only [Act.put, sA_, sZ_, sS_, i64_w, i32_w]; rfl))
       refine dn_ ?_
       refine td_ [(2, 45), (5, 48)] ?_
       iterate 2 (refine tn_ (v := ?_) (a' := ?_) HT_ HW_ rfl rfl (by kernel_rfl) rfl (fun _ _ _ h => h) hHeld ?_ ?_ ?_; rotate_left 2; (focus rintro w' ⟨s0, s1, s2, s3, s4⟩; go_simp; with_reducible rfl); (focus simp only [Act.put, sA_, sZ_, sS_, i64_w, i32_w]; rfl))
       refine dn_ ?_
       refine one_ (i := 3) (N := some 46) (ls 8 63) rfl rfl (one_of HT_.out (by kernel_rfl)) (by decide) (fun K hK => ?_)
       refine goes_ Try.func15 (by kernel_rfl) rfl #[.slice (some ad148) t145.length co33, .string ((rd_T33 t145 (ji23)).f0)] (by rfl) rfl rfl (by (try simp only [List.map_toArray, List.map_cons, List.map_nil]); first | done | (simp only [hji23]; rfl) | rfl | (simp only [List.length_drop, List.length_take]; rfl)) ?_
       with_reducible refine (beadrollref13_At.calls kj3 _ _ t145 ((rd_T33 t145 (ji23)).f0) t150 _ ?side1 ?side2 A26.out).mono ?_
       (case side1 => repeat (first | exact (Kd.R_reads' HO147.out).2.2 | (with_reducible refine Kd.C_alloc ?_ _) | (with_reducible refine Kd.C_drewN ?_ _) | (with_reducible refine Kd.C_drew ?_)))
       (case side2 => exact (Kd.R_reads' HO147.out).2.1)
       rintro e w39 ⟨v151, rfl, ho0, hb⟩
       refine ⟨_, rfl, ?_⟩
       have HO152 := Aside0.mk (Kd.R_lower (Kd.R_newB (Kd.R_new' (Kd.R_new' ho0 (Kd.R_lt (by (with_reducible repeat (first | apply Kd.R_alloc | apply Kd.R_drewN | apply Kd.R_drew)); exact HO141.out))) (Kd.R_lt (by (with_reducible repeat (first | apply Kd.R_alloc | apply Kd.R_drewN | apply Kd.R_drew)); exact HO147.out))) (g := gb149) (o := .cells #[.string ((rd_T33 t145 (ji23)).f0), .int .i64 ((rd_T33 t145 (ji23)).f1), .int .i64 ((rd_T33 t145 (ji23)).f2), .int .i64 ((rd_T33 t145 (ji23)).f3), .string ((rd_T33 t145 (ji23)).f4)] 33 (0, 0)) (by (with_reducible repeat (first | refine blk_drewN ?_ _ | refine blk_drew ?_ | refine blk_alloc ?_ _)); exact BK149.out)) (below_size (by repeat (first | (with_reducible first | exact HB.out | apply below_alloc | apply pw_below_drewN | apply below_drew1 | refine below_set ?_ GE144.out | refine below_set ?_ GE149.out) | exact HB.out))))
       replace HO141 := Aside0.mk (Kd.R_elder' (by (with_reducible repeat (first | apply Kd.R_alloc | apply Kd.R_drewN | apply Kd.R_drew)); exact HO141.out) (Kd.R_base ho0) hb)
       replace HO147 := Aside0.mk (Kd.R_elder' (by (with_reducible repeat (first | apply Kd.R_alloc | apply Kd.R_drewN | apply Kd.R_drew)); exact HO147.out) (Kd.R_base ho0) hb)
       replace BK144 := Aside0.mk (blk_below (g := gb144) (o := .cells #[.string t138, .slice Ao31 t139.length co31, .int .i64 t142] 27 (0, 0)) (by (with_reducible repeat (first | refine blk_drewN ?_ _ | refine blk_drew ?_ | refine blk_alloc ?_ _)); exact BK144.out) hb)
       replace BK149 := Aside0.mk (blk_below (g := gb149) (o := .cells #[.string ((rd_T33 t145 (ji23)).f0), .int .i64 ((rd_T33 t145 (ji23)).f1), .int .i64 ((rd_T33 t145 (ji23)).f2), .int .i64 ((rd_T33 t145 (ji23)).f3), .string ((rd_T33 t145 (ji23)).f4)] 33 (0, 0)) (by (with_reducible repeat (first | refine blk_drewN ?_ _ | refine blk_drew ?_ | refine blk_alloc ?_ _)); exact BK149.out) hb)
       replace HB := Aside0.mk (below_step (by repeat (first | (with_reducible first | exact HB.out | apply below_alloc | apply pw_below_drewN | apply below_drew1 | refine below_set ?_ GE144.out | refine below_set ?_ GE149.out) | exact HB.out)) hb)
       (try clear hb)
       (try clear hb2)
       (try clear hk)
       (try clear hi)
       (try clear ho0)
       obtain ⟨Ao40, co40, eo40⟩ := Kd.R_slice HO152.out
       (first | subst eo40 | (injection eo40 with f1_ f2_ f3_; have f4_ := f1_.symm; have f5_ := f3_.symm; clear f1_ f2_ f3_; subst f4_; subst f5_))
       refine hK.out _ _ ⟨(blk_cell BK149.out 0).trans rfl, (blk_cell BK149.out 1).trans rfl, (blk_cell BK149.out 2).trans rfl, (blk_cell BK149.out 3).trans rfl, (blk_cell BK149.out 4).trans rfl⟩ (fun hHeld => ?_)
       clear hK K
       refine norm_ (a' := ?_) ?_ ?_
       rotate_left
       ·show Act.put _ (some 46) _ = _
        simp only [Act.put, sA_, sZ_, sS_, i64_w, i32_w]
        rfl
       refine one_ (i := 6) (N := some 49) (ls 8 127) rfl rfl (one_of HT_.out (by kernel_rfl)) (by decide) (fun K hK => ?_)
       refine goes_ Try.func14 (by kernel_rfl) rfl #[.slice Ao40 t150.length co40, .int .i64 ((rd_T33 t145 (ji23)).f1)] (by rfl) rfl rfl (by (try simp only [List.map_toArray, List.map_cons, List.map_nil]); first | done | (simp only [hji23]; rfl) | rfl | (simp only [List.length_drop, List.length_take]; rfl)) ?_
       with_reducible refine (beadrollref13_Typed.calls kj3 _ _ t150 ((rd_T33 t145 (ji23)).f1) t153 _ ?side1 ?side2 A27.out).mono ?_
       (case side1 => repeat (first | exact (Kd.R_reads' HO152.out).2.2 | (with_reducible refine Kd.C_alloc ?_ _) | (with_reducible refine Kd.C_drewN ?_ _) | (with_reducible refine Kd.C_drew ?_)))
       (case side2 => exact (Kd.R_reads' HO152.out).2.1)
       rintro e w41 ⟨v154, rfl, ho0, hb⟩
       refine ⟨_, rfl, ?_⟩
       have HO155 := Aside0.mk (Kd.R_lower (Kd.R_newB (Kd.R_new' (Kd.R_new' (Kd.R_new' ho0 (Kd.R_lt (by (with_reducible repeat (first | apply Kd.R_alloc | apply Kd.R_drewN | apply Kd.R_drew)); exact HO141.out))) (Kd.R_lt (by (with_reducible repeat (first | apply Kd.R_alloc | apply Kd.R_drewN | apply Kd.R_drew)); exact HO147.out))) (Kd.R_lt (by (with_reducible repeat (first | apply Kd.R_alloc | apply Kd.R_drewN | apply Kd.R_drew)); exact HO152.out))) (g := gb149) (o := .cells #[.string ((rd_T33 t145 (ji23)).f0), .int .i64 ((rd_T33 t145 (ji23)).f1), .int .i64 ((rd_T33 t145 (ji23)).f2), .int .i64 ((rd_T33 t145 (ji23)).f3), .string ((rd_T33 t145 (ji23)).f4)] 33 (0, 0)) (by (with_reducible repeat (first | refine blk_drewN ?_ _ | refine blk_drew ?_ | refine blk_alloc ?_ _)); exact BK149.out)) (below_size (by repeat (first | (with_reducible first | exact HB.out | apply below_alloc | apply pw_below_drewN | apply below_drew1 | refine below_set ?_ GE144.out | refine below_set ?_ GE149.out) | exact HB.out))))
       replace HO141 := Aside0.mk (Kd.R_elder' (by (with_reducible repeat (first | apply Kd.R_alloc | apply Kd.R_drewN | apply Kd.R_drew)); exact HO141.out) (Kd.R_base ho0) hb)
       replace HO147 := Aside0.mk (Kd.R_elder' (by (with_reducible repeat (first | apply Kd.R_alloc | apply Kd.R_drewN | apply Kd.R_drew)); exact HO147.out) (Kd.R_base ho0) hb)
       replace HO152 := Aside0.mk (Kd.R_elder' (by (with_reducible repeat (first | apply Kd.R_alloc | apply Kd.R_drewN | apply Kd.R_drew)); exact HO152.out) (Kd.R_base ho0) hb)
       replace BK144 := Aside0.mk (blk_below (g := gb144) (o := .cells #[.string t138, .slice Ao31 t139.length co31, .int .i64 t142] 27 (0, 0)) (by (with_reducible repeat (first | refine blk_drewN ?_ _ | refine blk_drew ?_ | refine blk_alloc ?_ _)); exact BK144.out) hb)
       replace BK149 := Aside0.mk (blk_below (g := gb149) (o := .cells #[.string ((rd_T33 t145 (ji23)).f0), .int .i64 ((rd_T33 t145 (ji23)).f1), .int .i64 ((rd_T33 t145 (ji23)).f2), .int .i64 ((rd_T33 t145 (ji23)).f3), .string ((rd_T33 t145 (ji23)).f4)] 33 (0, 0)) (by (with_reducible repeat (first | refine blk_drewN ?_ _ | refine blk_drew ?_ | refine blk_alloc ?_ _)); exact BK149.out) hb)
       replace HB := Aside0.mk (below_step (by repeat (first | (with_reducible first | exact HB.out | apply below_alloc | apply pw_below_drewN | apply below_drew1 | refine below_set ?_ GE144.out | refine below_set ?_ GE149.out) | exact HB.out)) hb)
       (try clear hb)
       (try clear hb2)
       (try clear hk)
       (try clear hi)
       (try clear ho0)
       refine hK.out _ _ ⟨(blk_cell BK149.out 0).trans rfl, (blk_cell BK149.out 1).trans rfl, (blk_cell BK149.out 2).trans rfl, (blk_cell BK149.out 3).trans rfl, (blk_cell BK149.out 4).trans rfl⟩ (fun hHeld => ?_)
       clear hK K
       refine norm_ (a' := ?_) ?_ ?_
       rotate_left
       ·show Act.put _ (some 49) _ = _
        simp only [Act.put, sA_, sZ_, sS_, i64_w, i32_w]
        rfl
       refine td_ [(7, 11)] ?_
       iterate 1 (refine pn_ (v := ?_) (a' := ?_) HT_ rfl rfl (by kernel_rfl) rfl (fun _ _ _ h => h) (fun w' => ?_) ?_ ?_; rotate_left 2; (focus go_simp; with_reducible rfl); (focus simp only [Act.put, sA_, sZ_, sS_, i64_w, i32_w]; rfl))
       refine dn_ ?_
       refine done_ (done_of HT_.out (by kernel_rfl)) ?_
       try go_wp2
       go_loopg [12, 13] kj3 (fun kq v12 v13 w' => ∃ (x12_2 : List (S33)) (x13_2 : Int), v13 = .int .i64 x13_2 ∧ Aside0 (beadrolllaw22_PrereqHolds.l0 kq a2 t153 x12_2 x13_2 t138 t139 t142 = some r) ∧ Aside0 (kq ≤ kj3) ∧ Aside0 (Kd.R k33 33 w' w.heap.size (fun k_ => some k_ ≠ (v12 : Value).ownBlock ∧ some k_ ≠ ((.slice Ao31 t139.length co31) : Value).ownBlock ∧ k_ ≠ gb149) v154 t153) ∧ Aside0 (Kd.R k33 33 w' w.heap.size (fun k_ => some k_ ≠ (v154 : Value).ownBlock ∧ some k_ ≠ ((.slice Ao31 t139.length co31) : Value).ownBlock ∧ k_ ≠ gb149) v12 x12_2) ∧ Aside0 (Kd.R k33 33 w' w.heap.size (fun k_ => some k_ ≠ (v154 : Value).ownBlock ∧ some k_ ≠ (v12 : Value).ownBlock ∧ k_ ≠ gb149) (.slice Ao31 t139.length co31) t139) ∧ Aside0 (w'.heap[gb144]? = some (.cells #[.string t138, (.slice Ao31 t139.length co31), .int .i64 t142] 27 (0, 0))) ∧ Aside0 (w'.heap[gb149]? = some (.cells #[.string ((rd_T33 t145 (ji23)).f0), .int .i64 ((rd_T33 t145 (ji23)).f1), .int .i64 ((rd_T33 t145 (ji23)).f2), .int .i64 ((rd_T33 t145 (ji23)).f3), .string ((rd_T33 t145 (ji23)).f4)] 33 (0, 0))) ∧ Aside0 (Below w.heap.size w w'))
       case atStart => exact ⟨(([] : List (S33))), (0), (by first | rfl | (simp; done) | (simp [*]; done)), H', ⟨Nat.le_refl _⟩, ⟨by (with_reducible repeat (first | apply Kd.R_alloc | apply Kd.R_drewN | apply Kd.R_drew)); exact Kd.R_mono HO155.out (fun _ hk => ⟨(by simp [Value.ownBlock]), ⟨hk.1.1.1.2, hk.2⟩⟩)⟩, ⟨by first | exact Kd.R_nil _ _ _ _ _ | exact Kd.N_nil _ _ _ _ _ | exact Kd.V_nil _ _ _ _ _ | exact Kd.Q_nil _ _ _ _ _ | exact Kd.S_nil _ _ _ _ _⟩, ⟨by (with_reducible repeat (first | apply Kd.R_alloc | apply Kd.R_drewN | apply Kd.R_drew)); exact Kd.R_mono HO141.out (fun _ hk => ⟨hk.2, ⟨(by simp [Value.ownBlock]), hk.1.1.2⟩⟩)⟩, ⟨by (with_reducible repeat (first | refine blk_drewN ?_ _ | refine blk_drew ?_ | refine blk_alloc ?_ _)); exact BK144.out⟩, ⟨by (with_reducible repeat (first | refine blk_drewN ?_ _ | refine blk_drew ?_ | refine blk_alloc ?_ _)); exact BK149.out⟩, ⟨by repeat (first | (with_reducible first | exact HB.out | apply below_alloc | apply pw_below_drewN | apply below_drew1 | refine below_set ?_ GE144.out | refine below_set ?_ GE149.out) | exact HB.out)⟩⟩
       case round =>
        clear H'
        try clear c1
        try clear p1
        try clear q1
        try clear hx1
        try clear c2
        try clear p2
        try clear c3
        try clear c5
        try clear c6
        try clear p6
        try clear c10
        try clear c11
        try clear c13
        try clear c14
        try clear c14b0
        try clear c14b1
        try clear p14
        try clear q14
        try clear hx14
        try clear c15
        try clear c16
        try clear c16b0
        try clear c16b1
        try clear c16b2
        try clear c24
        try clear c24b0
        try clear c25
        try clear c25b0
        try clear c35
        try clear hcz19_0
        try clear hcz19_1
        try clear hcz19_2
        try clear hcz30_0
        try clear hcz30_1
        try clear hcz30_2
        try clear hcz36_0
        try clear hcz36_1
        try clear hcz36_2
        try clear hcz36_3
        try clear hcz36_4
        try clear hfz19_0
        try clear hfz19_1
        try clear hfz19_2
        try clear hfz30_0
        try clear hfz30_1
        try clear hfz30_2
        try clear hfz36_0
        try clear hfz36_1
        try clear hfz36_2
        try clear hfz36_3
        try clear hfz36_4
        try clear hx148_0
        try clear hx148_1
        try clear hx148_2
        try clear hx148_3
        try clear hx148_4
        try clear p148
        try clear p2
        try clear q148
        obtain ⟨x12_2, x13_2, rfl, HA, HK2, HO_11, HO_12, HO_145001, BK144, BK149, HB⟩ := hrel
        cases gk with
        | zero => exact absurd HA.out (by simp [beadrolllaw22_PrereqHolds.l0])
        | succ k2 =>
         have H := HA.out
         clear HA
         simp only [beadrolllaw22_PrereqHolds.l0] at H
         by_cases c42 : x13_2 < (t153.length : Int)
         ·rw [if_pos c42] at H
          have c42b0 : decide (x13_2 < (t153.length : Int)) = true := decide_eq_true c42
          clear c42
          by_cases c43 : (t153.length : Int) = 0
          ·rw [if_pos c43] at H
           exact absurd H (by simp)
          ·rw [if_neg c43] at H
           have c43b0 : ((t153.length : Int) == 0) = false := beq_eq_false_iff_ne.mpr c43
           have c43b1 : ((t153.length : Int) != 0) = true := bne_iff_ne.mpr c43
           have c43b2 : ¬ (t153 = []) := fun h_ => c43 (by rw [h_]; rfl)
           obtain ⟨ji44, hji44⟩ : ∃ j_ : Int, (Int.tmod (wrap64 (x13_2 + (wrap64 (a2)))) (t153.length : Int)) = j_ := ⟨_, rfl⟩
           replace H : (if 0 ≤ (ji44) then (if (ji44) < (t153.length : Int) then (if x12_2.length < 2513169434916 then (beadrolllaw22_PrereqHolds.l0 k2 a2 t153 (x12_2 ++ [(⟨(rd_T33 t153 (ji44)).f0, (rd_T33 t153 (ji44)).f1, (rd_T33 t153 (ji44)).f2, 0, (rd_T33 t153 (ji44)).f4⟩ : S33)]) (wrap64 (x13_2 + 1)) t138 t139 t142) else (none)) else (none)) else (none)) = some r := by first | (rw [hji44] at H; exact H) | (simp only [hji44] at H ⊢; exact H)
           obtain ⟨c45b0, H⟩ := gdd_ H
           obtain ⟨c46b0, H⟩ := gdd_ H
           obtain ⟨c47, H⟩ := gd_ H
           have LMc47 := Aside0.mk c47
           clear c47
           obtain ⟨y158, hy158⟩ : ∃ y_ : List (S33), y_ = (x12_2 ++ [(⟨(rd_T33 t153 (ji44)).f0, (rd_T33 t153 (ji44)).f1, (rd_T33 t153 (ji44)).f2, 0, (rd_T33 t153 (ji44)).f4⟩ : S33)]) := ⟨_, rfl⟩
           replace H : (beadrolllaw22_PrereqHolds.l0 k2 a2 t153 y158 (wrap64 (x13_2 + 1)) t138 t139 t142) = some r := by first | (rw [hy158]; with_reducible exact H) | (have H2_ := (Option.bind_some _ _).symm.trans H; rw [hy158]; with_reducible exact H2_) | (have H2_ := (Option.bind_some _ _).symm.trans H; with_reducible exact H2_) | with_reducible exact H | (rw [hy158]; exact H) | exact H
           have Ny158 := Aside0.mk hy158
           clear hy158
           have H' := Aside0.mk H
           clear H
           obtain ⟨Ao48, co48, eo48⟩ := Kd.R_slice HO_11.out
           subst eo48
           have p156 : 0 ≤ ((ji44) : Int) := of_decide_eq_true (by first | (with_reducible assumption) | assumption)
           have q156 : (ji44) < (t153.length : Int) := of_decide_eq_true (by first | (with_reducible assumption) | assumption)
           obtain ⟨ad156, e156, hx156_0, hx156_1, hx156_2, hx156_3, hx156_4⟩ := at_T33 (Kd.R_reads' HO_11.out).2.2 (ji44) p156 q156
           cases e156
           replace p156 := eq_true p156
           replace q156 := eq_true q156
           go_wp2_with ((with_reducible refine gate_builtin (b := .append) (xs := #[.tmp 67, .tmp 69]) rfl ?_); (try (refine gate_guard (by rfl) ?_; dsimp only)); at_builtin; refine Kd.R_append k33 (w0 := w) w.heap.size rfl (.tmp 67) (.tmp 69) 24 33 (.agg #[(.string ⟨#[]⟩), (.int .i64 0), (.int .i64 0), (.int .i64 0), (.string ⟨#[]⟩)]) 56 rfl Try.underlying24 info33 rfl (by decide) (by omega) u12 x12_2 (⟨(rd_T33 t153 (ji44)).f0, (rd_T33 t153 (ji44)).f1, (rd_T33 t153 (ji44)).f2, 0, (rd_T33 t153 (ji44)).f4⟩ : S33) [.string ((rd_T33 t153 (ji44)).f0), .int .i64 ((rd_T33 t153 (ji44)).f1), .int .i64 ((rd_T33 t153 (ji44)).f2), .int .i64 0, .string ((rd_T33 t153 (ji44)).f4)] (fun k_ => some k_ ≠ (.slice (some ad156) t153.length co48 : Value).ownBlock ∧ some k_ ≠ (.slice Ao31 t139.length co31 : Value).ownBlock ∧ k_ ≠ gb149) (fun _ => False) rfl (by first | (go_simp; done) | (go_simp; rfl)) ?aP (fun _ hk => hk.elim) ?aF ?aO ?aB ?aS ?aL ?_; (case aP => exact k33_mkM _ _ _ (⟨(rd_T33 t153 (ji44)).f0, (rd_T33 t153 (ji44)).f1, (rd_T33 t153 (ji44)).f2, 0, (rd_T33 t153 (ji44)).f4⟩ : S33)); (case aB => exact (by repeat (with_reducible first | exact HB.out | apply below_alloc | apply pw_below_drewN | apply below_drew1))); (case aF => exact (fun k_ hk => ⟨Kd.fresh' (Kd.R_lt (by (with_reducible repeat (first | apply Kd.R_alloc | apply Kd.R_drewN | apply Kd.R_drew)); exact HO_11.out)) k_ hk, Kd.fresh' (Kd.R_lt (by (with_reducible repeat (first | apply Kd.R_alloc | apply Kd.R_drewN | apply Kd.R_drew)); exact HO_145001.out)) k_ hk, Kd.freshB (g := gb149) (o := .cells #[.string ((rd_T33 t145 (ji23)).f0), .int .i64 ((rd_T33 t145 (ji23)).f1), .int .i64 ((rd_T33 t145 (ji23)).f2), .int .i64 ((rd_T33 t145 (ji23)).f3), .string ((rd_T33 t145 (ji23)).f4)] 33 (0, 0)) (by (with_reducible repeat (first | refine blk_drewN ?_ _ | refine blk_drew ?_ | refine blk_alloc ?_ _)); exact BK149.out) k_ hk⟩)); (case aO => exact (by (with_reducible repeat (first | apply Kd.R_alloc | apply Kd.R_drewN | apply Kd.R_drew)); exact HO_12.out)); (case aS => exact (below_size (by repeat (with_reducible first | exact HB.out | apply below_alloc | apply pw_below_drewN | apply below_drew1)))); (case aL => have := LMc47.out; omega); intro v159 w53 ho hb hg hat; rw [← Ny158.out] at ho; have n0_ := Aside0.mk (Kd.R_after (ok := (fun k_ => some k_ ≠ (.slice Ao31 t139.length co31 : Value).ownBlock ∧ k_ ≠ gb149)) (by (with_reducible repeat (first | apply Kd.R_alloc | apply Kd.R_drewN | apply Kd.R_drew)); exact Kd.R_mono HO_11.out (fun _ hk => ⟨⟨hk.2.1, hk.2.2⟩, hk.1⟩)) hg hat); have n1_ := Aside0.mk (Kd.R_after (ok := (fun k_ => some k_ ≠ (.slice (some ad156) t153.length co48 : Value).ownBlock ∧ k_ ≠ gb149)) (by (with_reducible repeat (first | apply Kd.R_alloc | apply Kd.R_drewN | apply Kd.R_drew)); exact Kd.R_mono HO_145001.out (fun _ hk => ⟨⟨hk.1, hk.2.2⟩, hk.2.1⟩)) hg hat); have n2_ := Aside0.mk (blk_grown (g := gb144) (o := .cells #[.string t138, .slice Ao31 t139.length co31, .int .i64 t142] 27 (0, 0)) (by (with_reducible repeat (first | refine blk_drewN ?_ _ | refine blk_drew ?_ | refine blk_alloc ?_ _)); exact BK144.out) hg (Kd.R_ne HO_12.out BK144.out (by decide))); have n3_ := Aside0.mk (blk_grown (g := gb149) (o := .cells #[.string ((rd_T33 t145 (ji23)).f0), .int .i64 ((rd_T33 t145 (ji23)).f1), .int .i64 ((rd_T33 t145 (ji23)).f2), .int .i64 ((rd_T33 t145 (ji23)).f3), .string ((rd_T33 t145 (ji23)).f4)] 33 (0, 0)) (by (with_reducible repeat (first | refine blk_drewN ?_ _ | refine blk_drew ?_ | refine blk_alloc ?_ _)); exact BK149.out) hg (Kd.R_away HO_12.out (fun _ hk => hk.2.2))); have n5_ := Aside0.mk (hb); have n6_ := Aside0.mk (ho); clear HO_11; clear HO_145001; clear BK144; clear BK149; clear HB; clear HO_12; have HO_11 := n0_; have HO_145001 := n1_; have BK144 := n2_; have BK149 := n3_; have HB := n5_; have HO160 := n6_; clear n0_ n1_ n2_ n3_ n5_ n6_; clear ho hb hg hat)
           go_roundg k2
           case measure => have := HJ3.out; have := HK2.out; omega
           case rel => exact ⟨(y158), (wrap64 (x13_2 + 1)), (by first | rfl | (simp; done) | (simp [*]; done)), H', ⟨by have := HJ3.out; have := HK2.out; omega⟩, ⟨by (with_reducible repeat (first | apply Kd.R_alloc | apply Kd.R_drewN | apply Kd.R_drew)); exact Kd.R_mono HO_11.out (fun _ hk => ⟨hk.2, ⟨hk.1.1, hk.1.2⟩⟩)⟩, ⟨by (with_reducible repeat (first | apply Kd.R_alloc | apply Kd.R_drewN | apply Kd.R_drew)); exact HO160.out⟩, ⟨by (with_reducible repeat (first | apply Kd.R_alloc | apply Kd.R_drewN | apply Kd.R_drew)); exact Kd.R_mono HO_145001.out (fun _ hk => ⟨hk.1.1, ⟨hk.2, hk.1.2⟩⟩)⟩, ⟨by (with_reducible repeat (first | refine blk_drewN ?_ _ | refine blk_drew ?_ | refine blk_alloc ?_ _)); exact BK144.out⟩, ⟨by (with_reducible repeat (first | refine blk_drewN ?_ _ | refine blk_drew ?_ | refine blk_alloc ?_ _)); exact BK149.out⟩, ⟨by repeat (first | (with_reducible first | exact HB.out | apply below_alloc | apply pw_below_drewN | apply below_drew1 | refine below_set ?_ GE144.out | refine below_set ?_ GE149.out) | exact HB.out)⟩⟩
         ·rw [if_neg c42] at H
          have c42b0 : decide (x13_2 < (t153.length : Int)) = false := decide_eq_false c42
          clear c42
          obtain ⟨t161, A54, H⟩ := bnd_ H
          by_cases c55 : t161 = 0
          focus
           rw [if_pos c55] at H
           have c55b0 : (t161 == 0) = true := beq_iff_eq.mpr c55
           have c55b1 : (t161 != 0) = false := bne_eq_false_iff_eq.mpr c55
           clear c55
           obtain ⟨y162, hy162⟩ : ∃ y_ : List (S33), y_ = (([] : List (S33))) := ⟨_, rfl⟩
           replace H : (if y162.length + x12_2.length < 2513169434916 then ((some (y162 ++ x12_2 : List (S33))).bind fun y165 => (if y165.length + x12_2.length < 2513169434916 then ((prereq_Check.f k2 t138 t139 t142 (y165 ++ x12_2)).bind fun t171 => (if t171 = 0 then (if (x12_2.length : Int) = 1 then (some true) else (if 1 ≤ (x12_2.length : Int) then ((prereq_Check.f k2 t138 t139 t142 (x12_2.drop 1)).bind fun t176 => (some (t176 == 8))) else (none))) else (some false))) else (none))) else (none)) = some r := by first | (rw [hy162]; with_reducible exact H) | (have H2_ := (Option.bind_some _ _).symm.trans H; rw [hy162]; with_reducible exact H2_) | (have H2_ := (Option.bind_some _ _).symm.trans H; with_reducible exact H2_) | with_reducible exact H | (rw [hy162]; exact H) | exact H
           have Ny162 := Aside0.mk hy162
           clear hy162
           obtain ⟨c56, H⟩ := gd_ H
           have LMc56 := Aside0.mk c56
           clear c56
           obtain ⟨y165, hy165⟩ : ∃ y_ : List (S33), y_ = (y162 ++ x12_2) := ⟨_, rfl⟩
           replace H : (if y165.length + x12_2.length < 2513169434916 then ((prereq_Check.f k2 t138 t139 t142 (y165 ++ x12_2)).bind fun t171 => (if t171 = 0 then (if (x12_2.length : Int) = 1 then (some true) else (if 1 ≤ (x12_2.length : Int) then ((prereq_Check.f k2 t138 t139 t142 (x12_2.drop 1)).bind fun t176 => (some (t176 == 8))) else (none))) else (some false))) else (none)) = some r := by first | (rw [hy165]; with_reducible exact H) | (have H2_ := (Option.bind_some _ _).symm.trans H; rw [hy165]; with_reducible exact H2_) | (have H2_ := (Option.bind_some _ _).symm.trans H; with_reducible exact H2_) | with_reducible exact H | (rw [hy165]; exact H) | exact H
           have Ny165 := Aside0.mk hy165
           clear hy165
           obtain ⟨c57, H⟩ := gd_ H
           have LMc57 := Aside0.mk c57
           clear c57
           obtain ⟨y168, hy168⟩ : ∃ y_ : List (S33), y_ = (y165 ++ x12_2) := ⟨_, rfl⟩
           replace H : ((prereq_Check.f k2 t138 t139 t142 y168).bind fun t171 => (if t171 = 0 then (if (x12_2.length : Int) = 1 then (some true) else (if 1 ≤ (x12_2.length : Int) then ((prereq_Check.f k2 t138 t139 t142 (x12_2.drop 1)).bind fun t176 => (some (t176 == 8))) else (none))) else (some false))) = some r := by first | (rw [hy168]; with_reducible exact H) | (have H2_ := (Option.bind_some _ _).symm.trans H; rw [hy168]; with_reducible exact H2_) | (have H2_ := (Option.bind_some _ _).symm.trans H; with_reducible exact H2_) | with_reducible exact H | (rw [hy168]; exact H) | exact H
           have Ny168 := Aside0.mk hy168
           clear hy168
           obtain ⟨t171, A58, H⟩ := bnd_ H
           by_cases c59 : t171 = 0
           focus
            rw [if_pos c59] at H
            have c59b0 : (t171 == 0) = true := beq_iff_eq.mpr c59
            have c59b1 : (t171 != 0) = false := bne_eq_false_iff_eq.mpr c59
            clear c59
            by_cases c60 : (x12_2.length : Int) = 1
            focus
             rw [if_pos c60] at H
             have c60b0 : ((x12_2.length : Int) == 1) = true := beq_iff_eq.mpr c60
             have c60b1 : ((x12_2.length : Int) != 1) = false := bne_eq_false_iff_eq.mpr c60
             clear c60
            rotate_left
            focus
             rw [if_neg c60] at H
             have c60b0 : ((x12_2.length : Int) == 1) = false := beq_eq_false_iff_ne.mpr c60
             have c60b1 : ((x12_2.length : Int) != 1) = true := bne_iff_ne.mpr c60
             obtain ⟨c72, H⟩ := gd_ H
             have c72b0 := eq_true c72
             have c72b1 : decide (1 ≤ (x12_2.length : Int)) = true := decide_eq_true c72
             clear c72
             obtain ⟨y172, hy172⟩ : ∃ y_ : List (S33), y_ = (x12_2.drop 1) := ⟨_, rfl⟩
             replace H : ((prereq_Check.f k2 t138 t139 t142 y172).bind fun t176 => (some (t176 == 8))) = some r := by first | (rw [hy172]; with_reducible exact H) | (have H2_ := (Option.bind_some _ _).symm.trans H; rw [hy172]; with_reducible exact H2_) | (have H2_ := (Option.bind_some _ _).symm.trans H; with_reducible exact H2_) | with_reducible exact H | (rw [hy172]; exact H) | exact H
             have Ny172 := Aside0.mk hy172
             clear hy172
             obtain ⟨t176, A73, H⟩ := bnd_ H
            rotate_left
           rotate_left 2
           focus
            rw [if_neg c59] at H
            have c59b0 : (t171 == 0) = false := beq_eq_false_iff_ne.mpr c59
            have c59b1 : (t171 != 0) = true := bne_iff_ne.mpr c59
           rotate_left
          rotate_left 3
          focus
           rw [if_neg c55] at H
           have c55b0 : (t161 == 0) = false := beq_eq_false_iff_ne.mpr c55
           have c55b1 : (t161 != 0) = true := bne_iff_ne.mpr c55
          rotate_left
          all_goals
           obtain rfl := Option.some.inj H
           obtain ⟨Ao61, co61, eo61⟩ := Kd.R_slice HO_11.out
           subst eo61
           try go_wp2
           replace HO_11 := Aside0.mk (Kd.R_drew HO_11.out)
           replace HO_12 := Aside0.mk (Kd.R_drew HO_12.out)
           replace HO_145001 := Aside0.mk (Kd.R_drew HO_145001.out)
           replace BK144 := Aside0.mk (blk_drew BK144.out)
           replace BK149 := Aside0.mk (blk_drew BK149.out)
           replace HB := Aside0.mk (below_drew1 HB.out)
           obtain ⟨Ao63, co63, eo63⟩ := Kd.R_slice HO_12.out
           (first | subst eo63 | (injection eo63 with f1_ f2_ f3_; have f4_ := f1_.symm; have f5_ := f3_.symm; clear f1_ f2_ f3_; subst f4_; subst f5_))
           refine start_ (n := 14) (S := fun w' => w'.cell? ⟨gb144, 0, none⟩ = some (.string t138) ∧ w'.cell? ⟨gb144, 1, none⟩ = some (.slice Ao31 t139.length co31) ∧ w'.cell? ⟨gb144, 2, none⟩ = some (.int .i64 t142)) (ds := []) (ls 14 0) (by kernel_rfl) rfl rfl ⟨(blk_cell BK144.out 0).trans rfl, (blk_cell BK144.out 1).trans rfl, (blk_cell BK144.out 2).trans rfl⟩ (fun hHeld => ?_); refine with_tabW beadrolllaw22_PrereqHolds.tab18 beadrolllaw22_PrereqHolds.bits18 (fun HT_ HW_ => ?_)
           generalize wr.drew = w62 at HO_11 HO_12 HO_145001 BK144 BK149 HB hHeld ⊢
           refine td_ [(1, 72)] ?_
           iterate 1 (refine pn_ (v := ?_) (a' := ?_) HT_ rfl rfl (by kernel_rfl) rfl (fun _ _ _ h => h) (fun w' => ?_) ?_ ?_; rotate_left 2; (focus go_simp; with_reducible rfl); (focus simp only [Act.put, sA_, sZ_, sS_, i64_w, i32_w]; rfl))
           refine dn_ ?_
           refine td_ [(0, 71)] ?_
           iterate 1 (refine tn_ (v := ?_) (a' := ?_) HT_ HW_ rfl rfl (by kernel_rfl) rfl (fun _ _ _ h => h) hHeld ?_ ?_ ?_; rotate_left 2; (focus rintro w' ⟨s0, s1, s2⟩; go_simp; with_reducible rfl); (focus simp only [Act.put, sA_, sZ_, sS_, i64_w, i32_w]; rfl))
           refine dn_ ?_
           refine one_ (i := 2) (N := some 73) (ls 14 7) rfl rfl (one_of HT_.out (by kernel_rfl)) (by decide) (fun K hK => ?_)
           refine goes_ Try.func16 (by kernel_rfl) rfl #[.agg #[.string t138, .slice Ao31 t139.length co31, .int .i64 t142], .slice Ao63 x12_2.length co63] (by rfl) rfl rfl (by (try simp only [List.map_toArray, List.map_cons, List.map_nil]); first | done | rfl | (simp only [List.length_drop, List.length_take]; rfl)) ?_
           with_reducible refine (prereq_Check.calls k2 t138 _ _ t139 t142 _ _ x12_2 t161 _ ?side1 ?side2 ?side3 ?side4 A54.out).mono ?_
           (case side1 => repeat (first | exact (Kd.R_reads' HO_145001.out).2.2 | (with_reducible refine Kd.C_alloc ?_ _) | (with_reducible refine Kd.C_drewN ?_ _) | (with_reducible refine Kd.C_drew ?_)))
           (case side2 => exact (Kd.R_reads' HO_145001.out).2.1)
           (case side3 => repeat (first | exact (Kd.R_reads' HO_12.out).2.2 | (with_reducible refine Kd.C_alloc ?_ _) | (with_reducible refine Kd.C_drewN ?_ _) | (with_reducible refine Kd.C_drew ?_)))
           (case side4 => exact (Kd.R_reads' HO_12.out).2.1)
           rintro e w64 ⟨rfl, hb⟩
           refine ⟨_, rfl, ?_⟩
           replace HO_11 := Aside0.mk (Kd.R_below (by (with_reducible repeat (first | apply Kd.R_alloc | apply Kd.R_drewN | apply Kd.R_drew)); exact HO_11.out) hb)
           replace HO_12 := Aside0.mk (Kd.R_below (by (with_reducible repeat (first | apply Kd.R_alloc | apply Kd.R_drewN | apply Kd.R_drew)); exact HO_12.out) hb)
           replace HO_145001 := Aside0.mk (Kd.R_below (by (with_reducible repeat (first | apply Kd.R_alloc | apply Kd.R_drewN | apply Kd.R_drew)); exact HO_145001.out) hb)
           replace BK144 := Aside0.mk (blk_below (g := gb144) (o := .cells #[.string t138, .slice Ao31 t139.length co31, .int .i64 t142] 27 (0, 0)) (by (with_reducible repeat (first | refine blk_drewN ?_ _ | refine blk_drew ?_ | refine blk_alloc ?_ _)); exact BK144.out) hb)
           replace BK149 := Aside0.mk (blk_below (g := gb149) (o := .cells #[.string ((rd_T33 t145 (ji23)).f0), .int .i64 ((rd_T33 t145 (ji23)).f1), .int .i64 ((rd_T33 t145 (ji23)).f2), .int .i64 ((rd_T33 t145 (ji23)).f3), .string ((rd_T33 t145 (ji23)).f4)] 33 (0, 0)) (by (with_reducible repeat (first | refine blk_drewN ?_ _ | refine blk_drew ?_ | refine blk_alloc ?_ _)); exact BK149.out) hb)
           replace HB := Aside0.mk (below_step (by repeat (first | (with_reducible first | exact HB.out | apply below_alloc | apply pw_below_drewN | apply below_drew1 | refine below_set ?_ GE144.out | refine below_set ?_ GE149.out) | exact HB.out)) hb)
           (try clear hb)
           (try clear hb2)
           (try clear hk)
           (try clear hi)
           refine hK.out _ _ ⟨(blk_cell BK144.out 0).trans rfl, (blk_cell BK144.out 1).trans rfl, (blk_cell BK144.out 2).trans rfl⟩ (fun hHeld => ?_)
           clear hK K
           refine norm_ (a' := ?_) ?_ ?_
           rotate_left
           ·show Act.put _ (some 73) _ = _
            simp only [Act.put, sA_, sZ_, sS_, i64_w, i32_w]
            rfl
          iterate 3
           focus
            refine td_ [(3, 74), (4, 75), (7, 78), (9, 80)] ?_
            iterate 4 (refine pn_ (v := ?_) (a' := ?_) HT_ rfl rfl (by kernel_rfl) rfl (fun _ _ _ h => h) (fun w' => ?_) ?_ ?_; rotate_left 2; (focus go_simp; with_reducible rfl); (focus simp only [Act.put, sA_, sZ_, sS_, i64_w, i32_w]; rfl))
            refine dn_ ?_
            refine td_ [(5, 76)] ?_
            iterate 1 (refine tn_ (v := ?_) (a' := ?_) HT_ HW_ rfl rfl (by kernel_rfl) rfl (fun _ _ _ h => h) hHeld ?_ ?_ ?_; rotate_left 2; (focus rintro w' ⟨s0, s1, s2⟩; go_simp; with_reducible rfl); (focus simp only [Act.put, sA_, sZ_, sS_, i64_w, i32_w]; rfl))
            refine dn_ ?_
            refine one_ (i := 6) (N := some 77) (ls 14 767) rfl rfl (one_of HT_.out (by kernel_rfl)) (by decide) (fun K hK => ?_)
            refine Kd.R_lit_step k33 _ 33 ?hg (N := 77) ?hd (xs := ([] : List (S33))) (inner := []) (ok := fun _ => True) (okp := fun _ => True) ?hr ?hp (fun _ hk => hk) trivial (Below.refl _ _) (Nat.le_refl _) (by simp) ?_; (case hd => rfl); (case hg => rfl); (case hr => first | (go_simp; done) | (go_simp; rfl)); (case hp => exact (Reps.none _ _))
            intro v163 w65 ho66 hb hg_ hnew_
            clear hg_ hnew_
            (first | rw [← Ny162.out] at ho66 | (simp only [Int.reduceToNat] at ho66; rw [← Ny162.out] at ho66))
            have HO164 := Aside0.mk (Kd.R_lower (Kd.R_newB (Kd.R_new' (Kd.R_new' (Kd.R_new' ho66 (Kd.R_lt (by (with_reducible repeat (first | apply Kd.R_alloc | apply Kd.R_drewN | apply Kd.R_drew)); exact HO_11.out))) (Kd.R_lt (by (with_reducible repeat (first | apply Kd.R_alloc | apply Kd.R_drewN | apply Kd.R_drew)); exact HO_12.out))) (Kd.R_lt (by (with_reducible repeat (first | apply Kd.R_alloc | apply Kd.R_drewN | apply Kd.R_drew)); exact HO_145001.out))) (g := gb149) (o := .cells #[.string ((rd_T33 t145 (ji23)).f0), .int .i64 ((rd_T33 t145 (ji23)).f1), .int .i64 ((rd_T33 t145 (ji23)).f2), .int .i64 ((rd_T33 t145 (ji23)).f3), .string ((rd_T33 t145 (ji23)).f4)] 33 (0, 0)) (by (with_reducible repeat (first | refine blk_drewN ?_ _ | refine blk_drew ?_ | refine blk_alloc ?_ _)); exact BK149.out)) (below_size (by repeat (first | (with_reducible first | exact HB.out | apply below_alloc | apply pw_below_drewN | apply below_drew1 | refine below_set ?_ GE144.out | refine below_set ?_ GE149.out) | exact HB.out))))
            replace HO_11 := Aside0.mk (Kd.R_elder' (by (with_reducible repeat (first | apply Kd.R_alloc | apply Kd.R_drewN | apply Kd.R_drew)); exact HO_11.out) (Kd.R_base ho66) hb)
            replace HO_12 := Aside0.mk (Kd.R_elder' (by (with_reducible repeat (first | apply Kd.R_alloc | apply Kd.R_drewN | apply Kd.R_drew)); exact HO_12.out) (Kd.R_base ho66) hb)
            replace HO_145001 := Aside0.mk (Kd.R_elder' (by (with_reducible repeat (first | apply Kd.R_alloc | apply Kd.R_drewN | apply Kd.R_drew)); exact HO_145001.out) (Kd.R_base ho66) hb)
            replace BK144 := Aside0.mk (blk_below (g := gb144) (o := .cells #[.string t138, .slice Ao31 t139.length co31, .int .i64 t142] 27 (0, 0)) (by (with_reducible repeat (first | refine blk_drewN ?_ _ | refine blk_drew ?_ | refine blk_alloc ?_ _)); exact BK144.out) hb)
            replace BK149 := Aside0.mk (blk_below (g := gb149) (o := .cells #[.string ((rd_T33 t145 (ji23)).f0), .int .i64 ((rd_T33 t145 (ji23)).f1), .int .i64 ((rd_T33 t145 (ji23)).f2), .int .i64 ((rd_T33 t145 (ji23)).f3), .string ((rd_T33 t145 (ji23)).f4)] 33 (0, 0)) (by (with_reducible repeat (first | refine blk_drewN ?_ _ | refine blk_drew ?_ | refine blk_alloc ?_ _)); exact BK149.out) hb)
            replace HB := Aside0.mk (below_step (by repeat (first | (with_reducible first | exact HB.out | apply below_alloc | apply pw_below_drewN | apply below_drew1 | refine below_set ?_ GE144.out | refine below_set ?_ GE149.out) | exact HB.out)) hb)
            clear hb ho66
            refine hK.out _ _ ⟨(blk_cell BK144.out 0).trans rfl, (blk_cell BK144.out 1).trans rfl, (blk_cell BK144.out 2).trans rfl⟩ (fun hHeld => ?_)
            clear hK K
            refine norm_ (a' := ?_) ?_ ?_
            rotate_left
            ·show Act.put _ (some 77) _ = _
             simp only [Act.put, sA_, sZ_, sS_, i64_w, i32_w]
             rfl
            refine one_ (i := 8) (N := some 79) (ls 14 1023) rfl rfl (one_of HT_.out (by kernel_rfl)) (by decide) (fun K hK => ?_)
            refine Kd.R_append_rows_step k33 (w0 := w) w.heap.size (by rfl) (.tmp 77) (.tmp 78) 24 33 (.agg #[(.string ⟨#[]⟩), (.int .i64 0), (.int .i64 0), (.int .i64 0), (.string ⟨#[]⟩)]) 56 rfl Try.underlying24 info33 rfl (by decide) (by omega) v163 y162 x12_2 _ _ _ (fun k_ => some k_ ≠ (.slice Ao61 t153.length co61 : Value).ownBlock ∧ some k_ ≠ (.slice Ao63 x12_2.length co63 : Value).ownBlock ∧ some k_ ≠ (.slice Ao31 t139.length co31 : Value).ownBlock ∧ k_ ≠ gb149) (fun _ => False) rfl rfl ?aO ?aR (fun _ _ h => h) (fun _ h => h.elim) ?aF ?aB ?aS ?aL ?_
            (case aR => repeat (first | exact (Kd.R_reads' HO_12.out).2.2 | (with_reducible refine Kd.C_alloc ?_ _) | (with_reducible refine Kd.C_drewN ?_ _) | (with_reducible refine Kd.C_drew ?_)))
            (case aB => exact (by repeat (first | (with_reducible first | exact HB.out | apply below_alloc | apply pw_below_drewN | apply below_drew1 | refine below_set ?_ GE144.out | refine below_set ?_ GE149.out) | exact HB.out)))
            (case aF => exact (fun k_ hk => ⟨Kd.fresh' (Kd.R_lt (by (with_reducible repeat (first | apply Kd.R_alloc | apply Kd.R_drewN | apply Kd.R_drew)); exact HO_11.out)) k_ hk, Kd.fresh' (Kd.R_lt (by (with_reducible repeat (first | apply Kd.R_alloc | apply Kd.R_drewN | apply Kd.R_drew)); exact HO_12.out)) k_ hk, Kd.fresh' (Kd.R_lt (by (with_reducible repeat (first | apply Kd.R_alloc | apply Kd.R_drewN | apply Kd.R_drew)); exact HO_145001.out)) k_ hk, Kd.freshB (g := gb149) (o := .cells #[.string ((rd_T33 t145 (ji23)).f0), .int .i64 ((rd_T33 t145 (ji23)).f1), .int .i64 ((rd_T33 t145 (ji23)).f2), .int .i64 ((rd_T33 t145 (ji23)).f3), .string ((rd_T33 t145 (ji23)).f4)] 33 (0, 0)) (by (with_reducible repeat (first | refine blk_drewN ?_ _ | refine blk_drew ?_ | refine blk_alloc ?_ _)); exact BK149.out) k_ hk⟩))
            (case aO => exact (by (with_reducible repeat (first | apply Kd.R_alloc | apply Kd.R_drewN | apply Kd.R_drew)); exact Kd.R_mono HO164.out (fun _ hk => ⟨hk.1.1.1.2, ⟨hk.1.1.2, ⟨hk.1.2, hk.2⟩⟩⟩)))
            (case aS => exact (below_size (by repeat (first | (with_reducible first | exact HB.out | apply below_alloc | apply pw_below_drewN | apply below_drew1 | refine below_set ?_ GE144.out | refine below_set ?_ GE149.out) | exact HB.out))))
            (case aL => have := LMc56.out; omega)
            intro v166 w67 ho hb hg hat
            rw [← Ny165.out] at ho
            have n0_ := Aside0.mk (Kd.R_after (ok := (fun k_ => some k_ ≠ (.slice Ao63 x12_2.length co63 : Value).ownBlock ∧ some k_ ≠ (.slice Ao31 t139.length co31 : Value).ownBlock ∧ k_ ≠ gb149)) (by (with_reducible repeat (first | apply Kd.R_alloc | apply Kd.R_drewN | apply Kd.R_drew)); exact HO_11.out) hg hat)
            have n1_ := Aside0.mk (Kd.R_after (ok := (fun k_ => some k_ ≠ (.slice Ao61 t153.length co61 : Value).ownBlock ∧ some k_ ≠ (.slice Ao31 t139.length co31 : Value).ownBlock ∧ k_ ≠ gb149)) (by (with_reducible repeat (first | apply Kd.R_alloc | apply Kd.R_drewN | apply Kd.R_drew)); exact HO_12.out) hg hat)
            have n2_ := Aside0.mk (Kd.R_after (ok := (fun k_ => some k_ ≠ (.slice Ao61 t153.length co61 : Value).ownBlock ∧ some k_ ≠ (.slice Ao63 x12_2.length co63 : Value).ownBlock ∧ k_ ≠ gb149)) (by (with_reducible repeat (first | apply Kd.R_alloc | apply Kd.R_drewN | apply Kd.R_drew)); exact HO_145001.out) hg hat)
            have n3_ := Aside0.mk (blk_grown (g := gb144) (o := .cells #[.string t138, .slice Ao31 t139.length co31, .int .i64 t142] 27 (0, 0)) (by (with_reducible repeat (first | refine blk_drewN ?_ _ | refine blk_drew ?_ | refine blk_alloc ?_ _)); exact BK144.out) hg (Kd.R_ne HO164.out BK144.out (by decide)))
            have n4_ := Aside0.mk (blk_grown (g := gb149) (o := .cells #[.string ((rd_T33 t145 (ji23)).f0), .int .i64 ((rd_T33 t145 (ji23)).f1), .int .i64 ((rd_T33 t145 (ji23)).f2), .int .i64 ((rd_T33 t145 (ji23)).f3), .string ((rd_T33 t145 (ji23)).f4)] 33 (0, 0)) (by (with_reducible repeat (first | refine blk_drewN ?_ _ | refine blk_drew ?_ | refine blk_alloc ?_ _)); exact BK149.out) hg (Kd.R_away HO164.out (fun _ hk => hk.2)))
            have n5_ := Aside0.mk (hb)
            have n6_ := Aside0.mk (ho)
            clear HO_11
            clear HO_12
            clear HO_145001
            clear BK144
            clear BK149
            clear HB
            clear HO164
            have HO_11 := n0_
            have HO_12 := n1_
            have HO_145001 := n2_
            have BK144 := n3_
            have BK149 := n4_
            have HB := n5_
            have HO167 := n6_
            clear n0_ n1_ n2_ n3_ n4_ n5_ n6_
            clear ho hb hg hat
            refine hK.out _ _ ⟨(blk_cell BK144.out 0).trans rfl, (blk_cell BK144.out 1).trans rfl, (blk_cell BK144.out 2).trans rfl⟩ (fun hHeld => ?_)
            clear hK K
            refine norm_ (a' := ?_) ?_ ?_
            rotate_left
            ·show Act.put _ (some 79) _ = _
             simp only [Act.put, sA_, sZ_, sS_, i64_w, i32_w]
             rfl
            refine one_ (i := 10) (N := some 81) (ls 14 2047) rfl rfl (one_of HT_.out (by kernel_rfl)) (by decide) (fun K hK => ?_)
            refine Kd.R_append_rows_step k33 (w0 := w) w.heap.size (by rfl) (.tmp 79) (.tmp 80) 24 33 (.agg #[(.string ⟨#[]⟩), (.int .i64 0), (.int .i64 0), (.int .i64 0), (.string ⟨#[]⟩)]) 56 rfl Try.underlying24 info33 rfl (by decide) (by omega) v166 y165 x12_2 _ _ _ (fun k_ => some k_ ≠ (.slice Ao61 t153.length co61 : Value).ownBlock ∧ some k_ ≠ (.slice Ao63 x12_2.length co63 : Value).ownBlock ∧ some k_ ≠ (.slice Ao31 t139.length co31 : Value).ownBlock ∧ k_ ≠ gb149) (fun _ => False) rfl rfl ?aO ?aR (fun _ _ h => h) (fun _ h => h.elim) ?aF ?aB ?aS ?aL ?_
            (case aR => repeat (first | exact (Kd.R_reads' HO_12.out).2.2 | (with_reducible refine Kd.C_alloc ?_ _) | (with_reducible refine Kd.C_drewN ?_ _) | (with_reducible refine Kd.C_drew ?_)))
            (case aB => exact (by repeat (first | (with_reducible first | exact HB.out | apply below_alloc | apply pw_below_drewN | apply below_drew1 | refine below_set ?_ GE144.out | refine below_set ?_ GE149.out) | exact HB.out)))
            (case aF => exact (fun k_ hk => ⟨Kd.fresh' (Kd.R_lt (by (with_reducible repeat (first | apply Kd.R_alloc | apply Kd.R_drewN | apply Kd.R_drew)); exact HO_11.out)) k_ hk, Kd.fresh' (Kd.R_lt (by (with_reducible repeat (first | apply Kd.R_alloc | apply Kd.R_drewN | apply Kd.R_drew)); exact HO_12.out)) k_ hk, Kd.fresh' (Kd.R_lt (by (with_reducible repeat (first | apply Kd.R_alloc | apply Kd.R_drewN | apply Kd.R_drew)); exact HO_145001.out)) k_ hk, Kd.freshB (g := gb149) (o := .cells #[.string ((rd_T33 t145 (ji23)).f0), .int .i64 ((rd_T33 t145 (ji23)).f1), .int .i64 ((rd_T33 t145 (ji23)).f2), .int .i64 ((rd_T33 t145 (ji23)).f3), .string ((rd_T33 t145 (ji23)).f4)] 33 (0, 0)) (by (with_reducible repeat (first | refine blk_drewN ?_ _ | refine blk_drew ?_ | refine blk_alloc ?_ _)); exact BK149.out) k_ hk⟩))
            (case aO => exact (by (with_reducible repeat (first | apply Kd.R_alloc | apply Kd.R_drewN | apply Kd.R_drew)); exact HO167.out))
            (case aS => exact (below_size (by repeat (first | (with_reducible first | exact HB.out | apply below_alloc | apply pw_below_drewN | apply below_drew1 | refine below_set ?_ GE144.out | refine below_set ?_ GE149.out) | exact HB.out))))
            (case aL => have := LMc57.out; omega)
            intro v169 w68 ho hb hg hat
            rw [← Ny168.out] at ho
            have n0_ := Aside0.mk (Kd.R_after (ok := (fun k_ => some k_ ≠ (.slice Ao63 x12_2.length co63 : Value).ownBlock ∧ some k_ ≠ (.slice Ao31 t139.length co31 : Value).ownBlock ∧ k_ ≠ gb149)) (by (with_reducible repeat (first | apply Kd.R_alloc | apply Kd.R_drewN | apply Kd.R_drew)); exact HO_11.out) hg hat)
            have n1_ := Aside0.mk (Kd.R_after (ok := (fun k_ => some k_ ≠ (.slice Ao61 t153.length co61 : Value).ownBlock ∧ some k_ ≠ (.slice Ao31 t139.length co31 : Value).ownBlock ∧ k_ ≠ gb149)) (by (with_reducible repeat (first | apply Kd.R_alloc | apply Kd.R_drewN | apply Kd.R_drew)); exact HO_12.out) hg hat)
            have n2_ := Aside0.mk (Kd.R_after (ok := (fun k_ => some k_ ≠ (.slice Ao61 t153.length co61 : Value).ownBlock ∧ some k_ ≠ (.slice Ao63 x12_2.length co63 : Value).ownBlock ∧ k_ ≠ gb149)) (by (with_reducible repeat (first | apply Kd.R_alloc | apply Kd.R_drewN | apply Kd.R_drew)); exact HO_145001.out) hg hat)
            have n3_ := Aside0.mk (blk_grown (g := gb144) (o := .cells #[.string t138, .slice Ao31 t139.length co31, .int .i64 t142] 27 (0, 0)) (by (with_reducible repeat (first | refine blk_drewN ?_ _ | refine blk_drew ?_ | refine blk_alloc ?_ _)); exact BK144.out) hg (Kd.R_ne HO167.out BK144.out (by decide)))
            have n4_ := Aside0.mk (blk_grown (g := gb149) (o := .cells #[.string ((rd_T33 t145 (ji23)).f0), .int .i64 ((rd_T33 t145 (ji23)).f1), .int .i64 ((rd_T33 t145 (ji23)).f2), .int .i64 ((rd_T33 t145 (ji23)).f3), .string ((rd_T33 t145 (ji23)).f4)] 33 (0, 0)) (by (with_reducible repeat (first | refine blk_drewN ?_ _ | refine blk_drew ?_ | refine blk_alloc ?_ _)); exact BK149.out) hg (Kd.R_away HO167.out (fun _ hk => hk.2.2.2)))
            have n5_ := Aside0.mk (hb)
            have n6_ := Aside0.mk (ho)
            clear HO_11
            clear HO_12
            clear HO_145001
            clear BK144
            clear BK149
            clear HB
            clear HO167
            have HO_11 := n0_
            have HO_12 := n1_
            have HO_145001 := n2_
            have BK144 := n3_
            have BK149 := n4_
            have HB := n5_
            have HO170 := n6_
            clear n0_ n1_ n2_ n3_ n4_ n5_ n6_
            clear ho hb hg hat
            obtain ⟨Ao69, co69, eo69⟩ := Kd.R_slice HO170.out
            (first | subst eo69 | (injection eo69 with f1_ f2_ f3_; have f4_ := f1_.symm; have f5_ := f3_.symm; clear f1_ f2_ f3_; subst f4_; subst f5_))
            refine hK.out _ _ ⟨(blk_cell BK144.out 0).trans rfl, (blk_cell BK144.out 1).trans rfl, (blk_cell BK144.out 2).trans rfl⟩ (fun hHeld => ?_)
            clear hK K
            refine norm_ (a' := ?_) ?_ ?_
            rotate_left
            ·show Act.put _ (some 81) _ = _
             simp only [Act.put, sA_, sZ_, sS_, i64_w, i32_w]
             rfl
            refine one_ (i := 11) (N := some 82) (ls 14 4095) rfl rfl (one_of HT_.out (by kernel_rfl)) (by decide) (fun K hK => ?_)
            refine goes_ Try.func16 (by kernel_rfl) rfl #[.agg #[.string t138, .slice Ao31 t139.length co31, .int .i64 t142], .slice Ao69 y168.length co69] (by rfl) rfl rfl (by (try simp only [List.map_toArray, List.map_cons, List.map_nil]); first | done | rfl | (simp only [List.length_drop, List.length_take]; rfl)) ?_
            with_reducible refine (prereq_Check.calls k2 t138 _ _ t139 t142 _ _ y168 t171 _ ?side1 ?side2 ?side3 ?side4 A58.out).mono ?_
            (case side1 => repeat (first | exact (Kd.R_reads' HO_145001.out).2.2 | (with_reducible refine Kd.C_alloc ?_ _) | (with_reducible refine Kd.C_drewN ?_ _) | (with_reducible refine Kd.C_drew ?_)))
            (case side2 => exact (Kd.R_reads' HO_145001.out).2.1)
            (case side3 => repeat (first | exact (Kd.R_reads' HO170.out).2.2 | (with_reducible refine Kd.C_alloc ?_ _) | (with_reducible refine Kd.C_drewN ?_ _) | (with_reducible refine Kd.C_drew ?_)))
            (case side4 => exact (Kd.R_reads' HO170.out).2.1)
            rintro e w70 ⟨rfl, hb⟩
            refine ⟨_, rfl, ?_⟩
            replace HO_11 := Aside0.mk (Kd.R_below (by (with_reducible repeat (first | apply Kd.R_alloc | apply Kd.R_drewN | apply Kd.R_drew)); exact HO_11.out) hb)
            replace HO_12 := Aside0.mk (Kd.R_below (by (with_reducible repeat (first | apply Kd.R_alloc | apply Kd.R_drewN | apply Kd.R_drew)); exact HO_12.out) hb)
            replace HO_145001 := Aside0.mk (Kd.R_below (by (with_reducible repeat (first | apply Kd.R_alloc | apply Kd.R_drewN | apply Kd.R_drew)); exact HO_145001.out) hb)
            replace HO170 := Aside0.mk (Kd.R_below (by (with_reducible repeat (first | apply Kd.R_alloc | apply Kd.R_drewN | apply Kd.R_drew)); exact HO170.out) hb)
            replace BK144 := Aside0.mk (blk_below (g := gb144) (o := .cells #[.string t138, .slice Ao31 t139.length co31, .int .i64 t142] 27 (0, 0)) (by (with_reducible repeat (first | refine blk_drewN ?_ _ | refine blk_drew ?_ | refine blk_alloc ?_ _)); exact BK144.out) hb)
            replace BK149 := Aside0.mk (blk_below (g := gb149) (o := .cells #[.string ((rd_T33 t145 (ji23)).f0), .int .i64 ((rd_T33 t145 (ji23)).f1), .int .i64 ((rd_T33 t145 (ji23)).f2), .int .i64 ((rd_T33 t145 (ji23)).f3), .string ((rd_T33 t145 (ji23)).f4)] 33 (0, 0)) (by (with_reducible repeat (first | refine blk_drewN ?_ _ | refine blk_drew ?_ | refine blk_alloc ?_ _)); exact BK149.out) hb)
            replace HB := Aside0.mk (below_step (by repeat (first | (with_reducible first | exact HB.out | apply below_alloc | apply pw_below_drewN | apply below_drew1 | refine below_set ?_ GE144.out | refine below_set ?_ GE149.out) | exact HB.out)) hb)
            (try clear hb)
            (try clear hb2)
            (try clear hk)
            (try clear hi)
            refine hK.out _ _ ⟨(blk_cell BK144.out 0).trans rfl, (blk_cell BK144.out 1).trans rfl, (blk_cell BK144.out 2).trans rfl⟩ (fun hHeld => ?_)
            clear hK K
            refine norm_ (a' := ?_) ?_ ?_
            rotate_left
            ·show Act.put _ (some 82) _ = _
             simp only [Act.put, sA_, sZ_, sS_, i64_w, i32_w]
             rfl
            refine td_ [(12, 83), (13, 84)] ?_
           rotate_left
          focus
           refine td_ [(3, 74), (4, 75)] ?_
          rotate_left
          all_goals
           iterate 2 (refine pn_ (v := ?_) (a' := ?_) HT_ rfl rfl (by kernel_rfl) rfl (fun _ _ _ h => h) (fun w' => ?_) ?_ ?_; rotate_left 2; (focus go_simp; with_reducible rfl); (focus simp only [Act.put, sA_, sZ_, sS_, i64_w, i32_w]; rfl))
           refine dn_ ?_
          rotate_left 3
          focus
           refine td_ [(5, 76), (6, 77), (7, 78), (8, 79), (9, 80), (10, 81), (11, 82), (12, 83)] ?_
           iterate 8 (refine on_ (a' := ?_) HT_ rfl rfl (by kernel_rfl) rfl (fun _ _ _ h => h) ?_ ?_; rotate_left; (focus simp only [Act.put, sA_, sZ_, sS_, i64_w, i32_w]; rfl))
           refine dn_ ?_
           refine td_ [(13, 84)] ?_
           iterate 1 (refine pn_ (v := ?_) (a' := ?_) HT_ rfl rfl (by kernel_rfl) rfl (fun _ _ _ h => h) (fun w' => ?_) ?_ ?_; rotate_left 2; (focus go_simp; with_reducible rfl); (focus simp only [Act.put, sA_, sZ_, sS_, i64_w, i32_w]; rfl))
           refine dn_ ?_
          rotate_left
          all_goals
           refine done_ (done_of HT_.out (by kernel_rfl)) ?_
           try go_wp2
          iterate 2
           focus
            replace HO_11 := Aside0.mk (Kd.R_drew HO_11.out)
            replace HO_12 := Aside0.mk (Kd.R_drew HO_12.out)
            replace HO_145001 := Aside0.mk (Kd.R_drew HO_145001.out)
            replace HO170 := Aside0.mk (Kd.R_drew HO170.out)
            replace BK144 := Aside0.mk (blk_drew BK144.out)
            replace BK149 := Aside0.mk (blk_drew BK149.out)
            replace HB := Aside0.mk (below_drew1 HB.out)
           rotate_left
          rotate_left 2
          focus
           refine start_ (n := 11) (S := fun w' => True) (ds := []) (ls 11 0) (by kernel_rfl) rfl rfl trivial (fun hHeld => ?_); refine with_tabW beadrolllaw22_PrereqHolds.tab20 beadrolllaw22_PrereqHolds.bits20 (fun HT_ HW_ => ?_)
           generalize w70.drew = w71 at HO_11 HO_12 HO_145001 HO170 BK144 BK149 HB hHeld ⊢
           refine td_ [(0, 85), (1, 86), (2, 87), (3, 88)] ?_
           iterate 4 (refine pn_ (v := ?_) (a' := ?_) HT_ rfl rfl (by kernel_rfl) rfl (fun _ _ _ h => h) (fun w' => ?_) ?_ ?_; rotate_left 2; (focus go_simp; with_reducible rfl); (focus simp only [Act.put, sA_, sZ_, sS_, i64_w, i32_w]; rfl))
           refine dn_ ?_
           refine td_ [(4, 89), (5, 90), (6, 91), (7, 92), (8, 93)] ?_
           iterate 5 (refine on_ (a' := ?_) HT_ rfl rfl (by kernel_rfl) rfl (fun _ _ _ h => h) ?_ ?_; rotate_left; (focus simp only [Act.put, sA_, sZ_, sS_, i64_w, i32_w]; rfl))
           refine dn_ ?_
           refine td_ [(9, 94), (10, 6)] ?_
           iterate 2 (refine pn_ (v := ?_) (a' := ?_) HT_ rfl rfl (by kernel_rfl) rfl (fun _ _ _ h => h) (fun w' => ?_) ?_ ?_; rotate_left 2; (focus go_simp; with_reducible rfl); (focus simp only [Act.put, sA_, sZ_, sS_, i64_w, i32_w]; rfl))
          rotate_left
          focus
           have q85 : (1 : Int) ≤ ((x12_2.length : Int) : Int) := of_decide_eq_true (by first | (with_reducible assumption) | assumption)
           obtain ⟨i085, hi085, _, hsz85, _⟩ := info_parts info33
           have hroom85 : x12_2.length ≤ co63 := (Kd.R_reads' HO_12.out).2.1
           have hC85 : Kd.C k33 _ Ao63 x12_2.length x12_2 := (Kd.R_reads' HO_12.out).2.2
           have hcut85 := cut_from (P := Try.prog) 24 33 .i64 Try.underlying24 hi085 5 hsz85 Ao63 x12_2.length co63 1 (by omega) q85
           have hr85 := Kd.C_drop (m := (1 : Int).toNat) (c := co63) hC85 (by omega) hroom85
           obtain ⟨A85, hA85⟩ : ∃ A1, A1 = (if co63 = (1 : Int).toNat then Ao63 else (Ao63 : Option Addr).map (·.add ((1 : Int).toNat * 5))) := ⟨_, rfl⟩
           obtain ⟨c85, hc85⟩ : ∃ c1, c1 = co63 - (1 : Int).toNat := ⟨_, rfl⟩
           have hy85 : y172.length = x12_2.length - (1 : Int).toNat := (by rw [Ny172.out, List.length_drop] <;> omega)
           rw [show (x12_2).drop (1 : Int).toNat = y172 from Ny172.out.symm] at hr85
           replace hr85 : Kd.C k33 _ A85 y172.length y172 := (by rw [hA85]; exact hr85)
           rw [← hy85, ← hA85, ← hc85] at hcut85
           have HR175 := Aside0.mk hr85
           have HC175 := Aside0.mk (show y172.length ≤ c85 from by rw [hy85, hc85]; exact Nat.sub_le_sub_right hroom85 _)
           clear hr85 hC85 hroom85 hi085 hsz85 hc85
           have KY85 := Aside0.mk hy85
           have KA85 := Aside0.mk hA85
           clear hy85 hA85
           have KL85 := Aside0.mk (show 1 ≤ x12_2.length from by omega)
           replace q85 := eq_true q85
           refine start_ (n := 11) (S := fun w' => w'.cell? ⟨gb144, 0, none⟩ = some (.string t138) ∧ w'.cell? ⟨gb144, 1, none⟩ = some (.slice Ao31 t139.length co31) ∧ w'.cell? ⟨gb144, 2, none⟩ = some (.int .i64 t142)) (ds := []) (ls 11 0) (by kernel_rfl) rfl rfl ⟨(blk_cell BK144.out 0).trans rfl, (blk_cell BK144.out 1).trans rfl, (blk_cell BK144.out 2).trans rfl⟩ (fun hHeld => ?_); refine with_tabW beadrolllaw22_PrereqHolds.tab20 beadrolllaw22_PrereqHolds.bits20 (fun HT_ HW_ => ?_)
           generalize w70.drew = w84 at HO_11 HO_12 HO_145001 HO170 BK144 BK149 HB HR175 hHeld ⊢
           refine td_ [(0, 85), (1, 86), (2, 87), (3, 88), (5, 90), (6, 91)] ?_
           iterate 6 (refine pn_ (v := ?_) (a' := ?_) HT_ rfl rfl (by kernel_rfl) rfl (fun _ _ _ h => h) (fun w' => ?_) ?_ ?_; rotate_left 2; (focus go_simp; with_reducible rfl); (focus simp only [Act.put, sA_, sZ_, sS_, i64_w, i32_w]; rfl))
           refine dn_ ?_
           refine td_ [(4, 89)] ?_
           iterate 1 (refine tn_ (v := ?_) (a' := ?_) HT_ HW_ rfl rfl (by kernel_rfl) rfl (fun _ _ _ h => h) hHeld ?_ ?_ ?_; rotate_left 2; (focus rintro w' ⟨s0, s1, s2⟩; go_simp; with_reducible rfl); (focus simp only [Act.put, sA_, sZ_, sS_, i64_w, i32_w]; rfl))
           refine dn_ ?_
           refine one_ (i := 7) (N := some 92) (ls 11 255) rfl rfl (one_of HT_.out (by kernel_rfl)) (by decide) (fun K hK => ?_)
           refine goes_ Try.func16 (by kernel_rfl) rfl #[.agg #[.string t138, .slice Ao31 t139.length co31, .int .i64 t142], .slice A85 y172.length c85] (by rfl) rfl rfl (by (try simp only [List.map_toArray, List.map_cons, List.map_nil]); first | done | rfl | (simp only [List.length_drop, List.length_take]; rfl)) ?_
           with_reducible refine (prereq_Check.calls k2 t138 _ _ t139 t142 _ _ y172 t176 _ ?side1 ?side2 ?side3 ?side4 A73.out).mono ?_
           (case side1 => repeat (first | exact (Kd.R_reads' HO_145001.out).2.2 | (with_reducible refine Kd.C_alloc ?_ _) | (with_reducible refine Kd.C_drewN ?_ _) | (with_reducible refine Kd.C_drew ?_)))
           (case side2 => exact (Kd.R_reads' HO_145001.out).2.1)
           (case side3 => repeat (first | exact (by repeat (first | (with_reducible exact HR175.out) | (with_reducible refine Kd.C_alloc ?_ _) | (with_reducible refine Kd.C_drewN ?_ _) | (with_reducible refine Kd.C_drew ?_) | exact HR175.out)) | (with_reducible refine Kd.C_alloc ?_ _) | (with_reducible refine Kd.C_drewN ?_ _) | (with_reducible refine Kd.C_drew ?_)))
           (case side4 => exact HC175.out)
           rintro e w86 ⟨rfl, hb⟩
           refine ⟨_, rfl, ?_⟩
           replace HO_11 := Aside0.mk (Kd.R_below (by (with_reducible repeat (first | apply Kd.R_alloc | apply Kd.R_drewN | apply Kd.R_drew)); exact HO_11.out) hb)
           replace HO_12 := Aside0.mk (Kd.R_below (by (with_reducible repeat (first | apply Kd.R_alloc | apply Kd.R_drewN | apply Kd.R_drew)); exact HO_12.out) hb)
           replace HO_145001 := Aside0.mk (Kd.R_below (by (with_reducible repeat (first | apply Kd.R_alloc | apply Kd.R_drewN | apply Kd.R_drew)); exact HO_145001.out) hb)
           replace HO170 := Aside0.mk (Kd.R_below (by (with_reducible repeat (first | apply Kd.R_alloc | apply Kd.R_drewN | apply Kd.R_drew)); exact HO170.out) hb)
           replace BK144 := Aside0.mk (blk_below (g := gb144) (o := .cells #[.string t138, .slice Ao31 t139.length co31, .int .i64 t142] 27 (0, 0)) (by (with_reducible repeat (first | refine blk_drewN ?_ _ | refine blk_drew ?_ | refine blk_alloc ?_ _)); exact BK144.out) hb)
           replace BK149 := Aside0.mk (blk_below (g := gb149) (o := .cells #[.string ((rd_T33 t145 (ji23)).f0), .int .i64 ((rd_T33 t145 (ji23)).f1), .int .i64 ((rd_T33 t145 (ji23)).f2), .int .i64 ((rd_T33 t145 (ji23)).f3), .string ((rd_T33 t145 (ji23)).f4)] 33 (0, 0)) (by (with_reducible repeat (first | refine blk_drewN ?_ _ | refine blk_drew ?_ | refine blk_alloc ?_ _)); exact BK149.out) hb)
           replace HR175 := Aside0.mk (Kd.C_below (by repeat (first | (with_reducible exact HR175.out) | (with_reducible refine Kd.C_alloc ?_ _) | (with_reducible refine Kd.C_drewN ?_ _) | (with_reducible refine Kd.C_drew ?_) | exact HR175.out)) hb)
           replace HB := Aside0.mk (below_step (by repeat (first | (with_reducible first | exact HB.out | apply below_alloc | apply pw_below_drewN | apply below_drew1 | refine below_set ?_ GE144.out | refine below_set ?_ GE149.out) | exact HB.out)) hb)
           (try clear hb)
           (try clear hb2)
           (try clear hk)
           (try clear hi)
           refine hK.out _ _ ⟨(blk_cell BK144.out 0).trans rfl, (blk_cell BK144.out 1).trans rfl, (blk_cell BK144.out 2).trans rfl⟩ (fun hHeld => ?_)
           clear hK K
           refine norm_ (a' := ?_) ?_ ?_
           rotate_left
           ·show Act.put _ (some 92) _ = _
            simp only [Act.put, sA_, sZ_, sS_, i64_w, i32_w]
            rfl
           refine td_ [(8, 93), (9, 94), (10, 6)] ?_
           iterate 3 (refine pn_ (v := ?_) (a' := ?_) HT_ rfl rfl (by kernel_rfl) rfl (fun _ _ _ h => h) (fun w' => ?_) ?_ ?_; rotate_left 2; (focus go_simp; with_reducible rfl); (focus simp only [Act.put, sA_, sZ_, sS_, i64_w, i32_w]; rfl))
          rotate_left
          rotate_left 2
          iterate 2
           focus
            refine dn_ ?_
            refine done_ (done_of HT_.out (by kernel_rfl)) ?_
            try go_wp2
           rotate_left
          rotate_left
          rotate_left
          all_goals
           go_ret
           exact ⟨by first | rfl | (simp [errW_none, errW_some] <;> rfl) | (simp only [← hji23]; first | rfl | (simp [errW_none, errW_some] <;> rfl)) | (simp [*, errW_none, errW_some] <;> rfl), by repeat (first | (with_reducible first | exact HB.out | apply below_alloc | apply pw_below_drewN | apply below_drew1 | refine below_set ?_ GE144.out | refine below_set ?_ GE149.out) | exact HB.out)⟩
     ·rw [if_neg c14] at H
      have c14b0 : (t143 == 0) = false := beq_eq_false_iff_ne.mpr c14
      have c14b1 : (t143 != 0) = true := bne_iff_ne.mpr c14
      obtain rfl := Option.some.inj H
      go_wp2_with (first | ((with_reducible refine gate_callee (f := 10) rfl ?_); refine goesL_ (some 25) rfl rfl Try.func10 (by kernel_rfl) rfl #[.string (⟨#[2, 101, 120, 0]⟩ : ByteArray), .slice A0 l0.length c0] rfl (by (try simp only [List.map_toArray, List.map_cons, List.map_nil]); first | done | rfl | (simp only [List.length_drop, List.length_take]; rfl)) ?_; (with_reducible refine (zone_New.calls kj3 (⟨#[2, 101, 120, 0]⟩ : ByteArray) _ _ l0 t138 t139 t142 t143 _ ?side1 ?side2 A13.out).mono ?_); (case side1 => repeat (first | exact (Kd.C_below HR0.out HB.out) | (with_reducible refine Kd.C_alloc ?_ _) | (with_reducible refine Kd.C_drewN ?_ _) | (with_reducible refine Kd.C_drew ?_))); (case side2 => exact HC0.out); rintro e w101 ⟨v140, rfl, ho0, hb⟩; refine ⟨_, rfl, ?_⟩; have HO141 := Aside0.mk (Kd.R_lower ho0 (below_size (by repeat (first | (with_reducible first | exact HB.out | apply below_alloc | apply pw_below_drewN | apply below_drew1) | exact HB.out)))); replace HB := Aside0.mk (below_step (by repeat (first | (with_reducible first | exact HB.out | apply below_alloc | apply pw_below_drewN | apply below_drew1) | exact HB.out)) hb); (try clear hb); (try clear hb2); (try clear hk); (try clear hi); (try clear ho0)) | ((with_reducible refine gate_dst (N := 7) rfl ?_); (try (refine gate_guard (by rfl) ?_; dsimp only)); refine box_event ?hg (N := 7) ?hd (cs := #[.string (⟨#[]⟩ : ByteArray), .slice none 0 0, .int .i64 0]) (t := 27) ?hr ?_; (case hd => rfl); (case hg => rfl); (case hr => first | (go_simp; done) | (go_simp; rfl)); intro gb144 hg w102 hbox hb; have BK144 := Aside0.mk (hbox); have GW144 := Aside0.mk ((by rw [hg]; exact (below_size (by repeat (first | (with_reducible first | exact HB.out | apply below_alloc | apply pw_below_drewN | apply below_drew1) | exact HB.out))) : w.heap.size ≤ gb144)); have GE144 := Aside0.mk ((by rw [hg]; exact (below_size (by repeat (first | (with_reducible first | exact HB.out | apply below_alloc | apply pw_below_drewN | apply below_drew1) | exact HB.out))) : w.heap.size ≤ gb144)); replace HO141 := Aside0.mk (Kd.R_below (by (with_reducible repeat (first | apply Kd.R_alloc | apply Kd.R_drewN | apply Kd.R_drew)); exact HO141.out) hb); replace HB := Aside0.mk (below_step (by repeat (first | (with_reducible first | exact HB.out | apply below_alloc | apply pw_below_drewN | apply below_drew1) | exact HB.out)) hb); clear hb hbox hg; have hcz103_0 : w102.cell? ⟨gb144, 0, none⟩ = some (.string (⟨#[]⟩ : ByteArray)) := (blk_cell BK144.out 0).trans rfl; have hcz103_1 : w102.cell? ⟨gb144, 1, none⟩ = some (.slice none 0 0) := (blk_cell BK144.out 1).trans rfl; have hcz103_2 : w102.cell? ⟨gb144, 2, none⟩ = some (.int .i64 0) := (blk_cell BK144.out 2).trans rfl; have hfz103_0 := blk_frozen BK144.out 0; have hfz103_1 := blk_frozen BK144.out 1; have hfz103_2 := blk_frozen BK144.out 2; obtain ⟨Ao104, co104, eo104⟩ := Kd.R_slice HO141.out; subst eo104))
      go_ret
      exact ⟨by first | rfl | (simp [errW_none, errW_some] <;> rfl) | (simp [*, errW_none, errW_some] <;> rfl), by repeat (first | (with_reducible first | exact HB.out | apply below_alloc | apply pw_below_drewN | apply below_drew1 | refine below_set ?_ GE144.out) | exact HB.out)⟩
end Go.Proofs.Ytehdkopjgcoclaa.PZn
namespace Go.Proofs.Ytehdkopjgcoclaa.Rrs
open Go.RowKit Go.Proofs.YtehdkopjgcoclaaW.PrintWords Go.Proofs.YtehdkopjgcoclaaW.PrintLast Go.Proofs.YtehdkopjgcoclaaW.PrintMore Go.Proofs.Ytehdkopjgcoclaa.Given Go.Proofs.Ytehdkopjgcoclaa.PRd Go.Proofs.Ytehdkopjgcoclaa.PRr Go.Proofs.Ytehdkopjgcoclaa.PZo Go.Proofs.Ytehdkopjgcoclaa.PZf Go.Proofs.Ytehdkopjgcoclaa.PZh Go.Proofs.Ytehdkopjgcoclaa.PZn Go.Proofs.Ytehdkopjgcoclaa.Name Go.Proofs.Ytehdkopjgcoclaa.NameFacts Go.Proofs.Ytehdkopjgcoclaa.SetLaw
set_option linter.unusedVariables false
abbrev exA2 : ByteArray := ⟨#[2, 101, 120, 0]⟩
def zt (x : RR) : RR := ⟨x.f0, x.f1, x.f2, 0, x.f4⟩
theorem cmp_tz (x y : RR) : cmpRR x (zt y) = cmpRR x y := rfl
theorem mem_setL {s : List RR} {n : ByteArray} {t : Int} {y : RR} : y ∈ setL s n t ↔ y ∈ s ∧ alikeN y.f0 n = true ∧ y.f1 = t := by
  unfold setL typedL atL
  simp only [List.mem_filter, beq_iff_eq]
  exact ⟨fun h => ⟨h.1.1, h.1.2, h.2⟩, fun h => ⟨⟨h.1, h.2.1⟩, h.2.2⟩⟩
theorem sameC_const {s K : List RR} {b : Bool} : ∀ L : List RR, (∀ x ∈ L, equalB (setL s x.f0 x.f1) (setL K x.f0 x.f1) = b) → L ≠ [] → sameC s K L = if b = true then 0 else 8
  | [], _, h => absurd rfl h
  | [x], h, _ => by
    rw [sameC, h x (List.mem_singleton.mpr rfl)]
    cases b
    · rfl
    · rfl
  | x :: y :: L, h, _ => by
    have ih := sameC_const (y :: L) (fun z hz => h z (List.mem_cons_of_mem _ hz)) (by simp)
    rw [sameC, h x (List.mem_cons_self ..), ih]
    cases b
    · rfl
    · rfl
section
variable {a : ByteArray} {s : List RR} (hS : ZoneOf a s) {r : RR} (hr : r ∈ s)
include hS
theorem zone_in {y : RR} (hy : y ∈ s) : withinB a y = true := by
  have hz := hS.zone
  rw [← zone_is hS.set] at hz
  unfold zoneB at hz
  rw [Bool.and_eq_true] at hz
  exact List.all_eq_true.mp hz.1 y hy
theorem one_zt {y : RR} (hy : y ∈ s) : oneC a s (zt y) = 0 := by
  have h := zone_in hS hy
  unfold withinB at h
  simp only [Bool.and_eq_true, decide_eq_true_eq] at h
  unfold oneC
  rw [if_pos (show (zt y).f3 = 0 from rfl), if_pos (show underN (zt y).f0 a = true from h.2.2), if_pos (show (zt y).f2 = 1 from h.1), if_pos (show dataB (zt y).f1 = true from h.2.1)]
theorem check_zt {K : List RR} (hK : ∀ x ∈ K, ∃ y ∈ setL s r.f0 r.f1, x = zt y) (hne : K ≠ []) : checkC a s K = if inB (setL s r.f0 r.f1) K = true then 0 else 8 := by
  have h1 : onesC a s K = 0 := by
    clear hne
    induction K with
    | nil => rfl
    | cons x K ih =>
      obtain ⟨y, hy, rfl⟩ := hK x (List.mem_cons_self ..)
      rw [onesC, if_pos (one_zt hS (mem_setL.mp hy).1)]
      exact ih fun z hz => hK z (List.mem_cons_of_mem _ hz)
  have h2 : keptL K = K := List.filter_eq_self.mpr fun x hx => by
    obtain ⟨y, hy, rfl⟩ := hK x hx
    have h := zone_in hS (mem_setL.mp hy).1
    unfold withinB at h
    simp only [Bool.and_eq_true, decide_eq_true_eq] at h
    exact beq_iff_eq.mpr h.1
  have h3 : ∀ x ∈ K, equalB (setL s x.f0 x.f1) (setL K x.f0 x.f1) = inB (setL s r.f0 r.f1) K := fun x hx => by
    obtain ⟨y, hy, rfl⟩ := hK x hx
    obtain ⟨_, hy1, hy2⟩ := mem_setL.mp hy
    have e1 : setL s (zt y).f0 (zt y).f1 = setL s r.f0 r.f1 := by
      show setL s y.f0 y.f1 = _
      unfold setL atL
      rw [hy2]
      congr 1
      exact List.filter_congr fun z _ => alike_congr' hy1 z.f0
    have e2 : setL K (zt y).f0 (zt y).f1 = K := by
      have h4 : K.filter (fun z => alikeN z.f0 (zt y).f0) = K := List.filter_eq_self.mpr fun z hz => by
        obtain ⟨w, hw, rfl⟩ := hK z hz
        have := (mem_setL.mp hw).2.1
        show alikeN w.f0 y.f0 = true
        rw [alike_congr' hy1]; exact this
      have h5 : K.filter (fun z => z.f1 == (zt y).f1) = K := List.filter_eq_self.mpr fun z hz => by
        obtain ⟨w, hw, rfl⟩ := hK z hz
        show (w.f1 == y.f1) = true
        rw [(mem_setL.mp hw).2.2, hy2]; exact beq_self_eq_true _
      unfold setL typedL atL
      rw [h4, h5]
    rw [e1, e2, equal_is, (in_iff K _).mpr fun z hz => ?_, Bool.and_true]
    obtain ⟨w, hw, rfl⟩ := hK z hz
    exact ⟨w, hw, ordRR.refl w⟩
  unfold checkC
  rw [h1, if_pos rfl, h2]
  exact sameC_const K h3 hne
end
def Round (S : List RR) (v i : Nat) (m : List RR) : Prop := m.length = i ∧ ∀ t, t < i → m[t]? = (S[(t + v) % S.length]?).map zt
theorem Round.from {S m : List RR} {v i : Nat} (h : Round S v i m) (hS : 0 < S.length) : ∀ x ∈ m, ∃ y ∈ S, x = zt y := fun x hx => by
  obtain ⟨t, ht, rfl⟩ := List.getElem_of_mem hx
  have h1 := h.2 t (by rw [← h.1]; exact ht)
  have h2 : (t + v) % S.length < S.length := Nat.mod_lt _ hS
  rw [List.getElem?_eq_getElem ht, List.getElem?_eq_getElem h2] at h1
  exact ⟨_, List.getElem_mem h2, Option.some.inj h1⟩
theorem mod_back (n v j : Nat) (hj : j < n) : ((j + (n - v % n)) % n + v) % n = j := by
  have h0 : v % n < n := Nat.mod_lt _ (by omega)
  have h1 := Nat.div_add_mod v n
  rw [Nat.mod_add_mod]
  have e : j + (n - v % n) + v = j + n * (v / n + 1) := by rw [Nat.mul_add, Nat.mul_one]; omega
  rw [e, Nat.add_mul_mod_self_left, Nat.mod_eq_of_lt hj]
theorem Round.all {S m : List RR} {v : Nat} (h : Round S v S.length m) : inB S m = true := (in_iff S m).mpr fun x hx => by
  obtain ⟨j, hj, rfl⟩ := List.getElem_of_mem hx
  have ht : (j + (S.length - v % S.length)) % S.length < S.length := Nat.mod_lt _ (by omega)
  have h1 := h.2 _ ht
  rw [mod_back S.length v j hj, List.getElem?_eq_getElem hj] at h1
  exact ⟨zt S[j], List.mem_of_getElem? h1, ordRR.refl _⟩
theorem mod_off (n v t : Nat) (h0 : 0 < t) (ht : t < n) : (t + v) % n ≠ v % n := by
  have hq : v % n < n := Nat.mod_lt _ (by omega)
  rw [← Nat.add_mod_mod]
  by_cases h : t + v % n < n
  · rw [Nat.mod_eq_of_lt h]; omega
  · rw [Nat.mod_eq_sub_mod (by omega), Nat.mod_eq_of_lt (by omega)]; omega
theorem Round.less {S m : List RR} {v : Nat} (hset : IsSet cmpRR S) (h : Round S v S.length m) (h2 : 2 ≤ S.length) : inB S (m.drop 1) = false := by
  rw [Bool.eq_false_iff]
  intro hin
  have hv : v % S.length < S.length := Nat.mod_lt _ (by omega)
  obtain ⟨x, hx, h0⟩ := (in_iff S _).mp hin S[v % S.length] (List.getElem_mem hv)
  obtain ⟨t, ht, rfl⟩ := List.getElem_of_mem hx
  rw [List.length_drop, h.1] at ht
  have h1 := h.2 (1 + t) (by omega)
  have h3 : (1 + t + v) % S.length < S.length := Nat.mod_lt _ (by omega)
  rw [List.getElem?_eq_getElem (by rw [h.1]; omega), List.getElem?_eq_getElem h3] at h1
  have h1 := Option.some.inj h1
  rw [List.getElem_drop, h1, cmp_tz] at h0
  have hne := mod_off S.length v (1 + t) (by omega) (by omega)
  have hp := List.pairwise_iff_getElem.mp hset
  rcases Nat.lt_or_gt_of_ne hne with h4 | h4
  · have := hp _ _ h3 hv h4
    have := ordRR.flip S[(1 + t + v) % S.length] S[v % S.length]
    omega
  · have := hp _ _ hv h3 h4
    omega
theorem holds_loop {a : ByteArray} {s : List RR} (hS : ZoneOf a s) (hs : s.length ≤ 30) {r : RR} (hr : r ∈ s) (v : Nat) (hv : v ≤ 255) : ∀ (d i : Nat) (m : List RR), i + d = (setL s r.f0 r.f1).length → Round (setL s r.f0 r.f1) v i m → Ev (fun k => beadrolllaw22_PrereqHolds.l0 k (v : Int) (setL s r.f0 r.f1) m (i : Int) a s (soaI s)) true := by
  have hra : alikeN r.f0 r.f0 = true := alike_self (hS.set.all r hr).1
  have hpos : 0 < (setL s r.f0 r.f1).length := List.length_pos_iff.mpr (List.ne_nil_of_mem (mem_setL.mpr ⟨hr, hra, rfl⟩))
  have hlen := setL_len s r.f0 r.f1
  have hset : IsSet cmpRR (setL s r.f0 r.f1) := by unfold setL typedL atL; exact (hS.set.set.filter _).filter _
  have hfin : ∀ K : List RR, (∀ x ∈ K, ∃ y ∈ setL s r.f0 r.f1, x = zt y) → ∀ y ∈ K, fine y := fun K hK x hx => by
    obtain ⟨y, hy, rfl⟩ := hK x hx
    exact hS.set.all y (mem_setL.mp hy).1
  have hchk : ∀ K : List RR, (∀ x ∈ K, ∃ y ∈ setL s r.f0 r.f1, x = zt y) → K ≠ [] → K.length ≤ 50000 → Ev (fun k => prereq_Check.f k a s (soaI s) K) (if inB (setL s r.f0 r.f1) K = true then 0 else 8) := fun K hK hne hl => by
    rw [← check_zt hS hK hne]
    exact ev_check_p a s (soaI s) hS.set.all (by omega) K (hfin K hK) hl
  intro d
  obtain ⟨S, hSS⟩ : ∃ S, setL s r.f0 r.f1 = S := ⟨_, rfl⟩
  rw [hSS] at hpos hlen hset hchk ⊢
  induction d with
  | zero =>
    intro i m hd hm
    obtain rfl : i = S.length := by omega
    have hst : ∀ k, beadrolllaw22_PrereqHolds.l0 (k + 1) (v : Int) S m (S.length : Int) a s (soaI s) = (prereq_Check.f k a s (soaI s) m).bind fun t => if t = 0 then (if m.length < 2513169434916 then (if m.length + m.length < 2513169434916 then (prereq_Check.f k a s (soaI s) (m ++ m)).bind fun t => if t = 0 then (if (m.length : Int) = 1 then some true else if 1 ≤ (m.length : Int) then (prereq_Check.f k a s (soaI s) (m.drop 1)).bind fun t => some (t == 8) else none) else some false else none) else none) else some false := fun k => by
      rw [beadrolllaw22_PrereqHolds.l0, if_neg (by omega)]
      simp only [Option.bind_some, List.nil_append, List.length_nil, Nat.zero_add]
    have hml := hm.1
    have hfr := hm.from hpos
    have h1 := hchk m hfr (List.ne_nil_of_length_pos (by omega)) (by omega)
    rw [hm.all, if_pos rfl] at h1
    refine Ev.step hst (Ev.bind h1 ?_)
    simp only [if_true, if_pos (show m.length < 2513169434916 by omega), if_pos (show m.length + m.length < 2513169434916 by omega)]
    have h2 := hchk (m ++ m) (fun x hx => hfr x (by simpa using hx)) (by simp; exact List.ne_nil_of_length_pos (by omega)) (by rw [List.length_append]; omega)
    rw [(in_iff S (m ++ m)).mpr fun x hx => ?_, if_pos rfl] at h2
    · refine Ev.bind h2 ?_
      simp only [if_true]
      by_cases hone : m.length = 1
      · simp only [show ((m.length : Int) = 1) = True from eq_true (by omega), if_true]
        exact Ev.now _
      · simp only [show ((m.length : Int) = 1) = False from eq_false (by omega), if_false, show (1 ≤ (m.length : Int)) = True from eq_true (by omega), if_true]
        have h3 := hchk (m.drop 1) (fun x hx => hfr x (List.mem_of_mem_drop hx)) (List.ne_nil_of_length_pos (by rw [List.length_drop]; omega)) (by rw [List.length_drop]; omega)
        rw [hm.less hset (by omega), if_neg (by decide)] at h3
        exact Ev.bind h3 (Ev.now _)
    · obtain ⟨y, hy, h0⟩ := (in_iff S m).mp hm.all x hx
      exact ⟨y, List.mem_append_left _ hy, h0⟩
  | succ d ih =>
    intro i m hd hm
    have hu1 : wrap64 (v : Int) = (v : Int) := by unfold wrap64; omega
    have hu2 : wrap64 ((i : Int) + (v : Int)) = ((i + v : Nat) : Int) := by unfold wrap64; omega
    have e1 : wrap64 ((i : Int) + 1) = ((i + 1 : Nat) : Int) := by unfold wrap64; omega
    have hj2 : (i + v) % S.length < S.length := Nat.mod_lt _ hpos
    have hj : Int.tmod ((i + v : Nat) : Int) (S.length : Int) = (((i + v) % S.length : Nat) : Int) := (Int.ofNat_tmod _ _).symm
    have hml := hm.1
    have hst : ∀ k, beadrolllaw22_PrereqHolds.l0 (k + 1) (v : Int) S m (i : Int) a s (soaI s) = beadrolllaw22_PrereqHolds.l0 k (v : Int) S (m ++ [zt (S[(i + v) % S.length])]) ((i + 1 : Nat) : Int) a s (soaI s) := fun k => by
      rw [beadrolllaw22_PrereqHolds.l0, hu1, hu2, hj, e1, if_pos (by omega), if_neg (by omega), if_pos (by omega), if_pos (by omega), if_pos (by omega)]
      show beadrolllaw22_PrereqHolds.l0 k (v : Int) S (m ++ [zt (rdR S (((i + v) % S.length : Nat) : Int))]) _ a s (soaI s) = _
      rw [rdR_get S _ hj2]
    refine Ev.step hst (ih (i + 1) _ (by omega) ⟨by simp [hml], fun t ht => ?_⟩)
    by_cases h : t < i
    · rw [List.getElem?_append_left (by omega)]; exact hm.2 t h
    · obtain rfl : t = i := by omega
      rw [List.getElem?_append_right (by omega), hml, Nat.sub_self, List.getElem?_eq_getElem hj2]; rfl
end Go.Proofs.Ytehdkopjgcoclaa.Rrs
namespace Go.Proofs.Ytehdkopjgcoclaa.Pure
open Go.RowKit Go.Proofs.YtehdkopjgcoclaaW.PrintWords Go.Proofs.Ytehdkopjgcoclaa.Given Go.Proofs.Ytehdkopjgcoclaa.PRd Go.Proofs.Ytehdkopjgcoclaa.PRr Go.Proofs.Ytehdkopjgcoclaa.PZf Go.Proofs.Ytehdkopjgcoclaa.PZh Go.Proofs.Ytehdkopjgcoclaa.PZn Go.Proofs.Ytehdkopjgcoclaa.Rrs Go.Proofs.Ytehdkopjgcoclaa.RowStructs
set_option linter.unusedVariables false
theorem PrereqHolds (l : List RR) (p u : Int) (hm : l.length ≤ maxLen) (hs : ∀ s ∈ l, GoodRR s) (hp : (Lit.int .u8 p).wf = true) (hu : (Lit.int .u8 u).wf = true) : ∃ k, beadrolllaw22_PrereqHolds.f k l p u = some true := by
  refine Ev.rounds ?_
  unfold maxLen at hm
  have hp2 : 0 ≤ p ∧ p ≤ 255 := by simp [Lit.wf, IntKind.min, IntKind.max, IntKind.signed, IntKind.bits] at hp; omega
  have hu2 : 0 ≤ u ∧ u ≤ 255 := by simp [Lit.wf, IntKind.min, IntKind.max, IntKind.signed, IntKind.bits] at hu; omega
  clear hp hu
  have hoff : Ev (fun k => beadrolllaw22_PrereqHolds.j0 k l p u true) true := Ev.step (f := fun k => (beadrolllaw22_awake.f k).bind fun t => some t) (fun k => by rw [beadrolllaw22_PrereqHolds.j0, if_pos rfl]) (Ev.bind ev_awake22 (Ev.now _))
  unfold beadrolllaw22_PrereqHolds.f
  refine Ev.bind ev_awake22 ?_
  simp only [if_true]
  obtain ⟨b, hb, hl⟩ := ev_few l (by omega)
  refine Ev.bind hb ?_
  cases b
  · exact hoff
  · have hl := hl rfl
    obtain ⟨P, rfl⟩ : ∃ P : Nat, p = (P : Int) := ⟨p.toNat, by omega⟩
    obtain ⟨V, rfl⟩ : ∃ V : Nat, u = (V : Int) := ⟨u.toNat, by omega⟩
    rcases new_both exA2 l (by omega) with ⟨s, hS, hsl, e1, e2, _⟩ | ⟨e, he, e1, e2⟩
    · have hlen := zone_two hS
      have hj2 : P % s.length < s.length := Nat.mod_lt _ (by omega)
      have hj : Int.tmod (wrap64 (P : Int)) (s.length : Int) = ((P % s.length : Nat) : Int) := by
        rw [show wrap64 (P : Int) = (P : Int) by unfold wrap64; omega]; exact (Int.ofNat_tmod _ _).symm
      obtain ⟨r, hr⟩ : ∃ r, s[P % s.length] = r := ⟨_, rfl⟩
      have hrm : r ∈ s := hr ▸ List.getElem_mem hj2
      have hst : ∀ k, beadrolllaw22_PrereqHolds.j0 (k + 1) l (P : Int) (V : Int) false = (zone_New.f k exA2 l).bind fun p => if p.2.2.2 = 0 then ((PZo.zone_Zone_All.f p.1 p.2.1 p.2.2.1).bind fun t => if (t.length : Int) = 0 then some false else if 0 ≤ (Int.tmod (wrap64 (P : Int)) (t.length : Int)) then (if (Int.tmod (wrap64 (P : Int)) (t.length : Int)) < (t.length : Int) then ((beadrollref13_At.f k t (rdR t (Int.tmod (wrap64 (P : Int)) (t.length : Int))).f0).bind fun q => (beadrollref13_Typed.f k q (rdR t (Int.tmod (wrap64 (P : Int)) (t.length : Int))).f1).bind fun w => beadrolllaw22_PrereqHolds.l0 k (V : Int) w [] 0 p.1 p.2.1 p.2.2.1) else none) else none) else some true := fun k => by
        rw [beadrolllaw22_PrereqHolds.j0, if_neg (by decide)]
      have hnew := ev_new exA2 l (by omega)
      rw [e1] at hnew
      refine Ev.step hst (Ev.bind hnew ?_)
      simp only [if_true]
      rw [all_f exA2 s _ hS.set.len]
      simp only [Option.bind_some, hj, show ((s.length : Int) = 0) = False from eq_false (by omega), if_false, show (0 ≤ ((P % s.length : Nat) : Int)) = True from eq_true (by omega), show (((P % s.length : Nat) : Int) < (s.length : Int)) = True from eq_true (by omega), if_true]
      rw [rdR_get s _ hj2, hr]
      refine Ev.bind (ev_rat s r.f0 hS.set.len) (Ev.bind (ev_rtyped _ r.f1 (Nat.le_trans (atL_len s r.f0) hS.set.len)) ?_)
      exact holds_loop hS (by omega) hrm V (by omega) (setL s r.f0 r.f1).length 0 [] (by omega) ⟨rfl, fun t ht => by omega⟩
    · have hst : ∀ k, beadrolllaw22_PrereqHolds.j0 (k + 1) l (P : Int) (V : Int) false = (zone_New.f k exA2 l).bind fun p => if p.2.2.2 = 0 then ((PZo.zone_Zone_All.f p.1 p.2.1 p.2.2.1).bind fun t => if (t.length : Int) = 0 then some false else if 0 ≤ (Int.tmod (wrap64 (P : Int)) (t.length : Int)) then (if (Int.tmod (wrap64 (P : Int)) (t.length : Int)) < (t.length : Int) then ((beadrollref13_At.f k t (rdR t (Int.tmod (wrap64 (P : Int)) (t.length : Int))).f0).bind fun q => (beadrollref13_Typed.f k q (rdR t (Int.tmod (wrap64 (P : Int)) (t.length : Int))).f1).bind fun w => beadrolllaw22_PrereqHolds.l0 k (V : Int) w [] 0 p.1 p.2.1 p.2.2.1) else none) else none) else some true := fun k => by
        rw [beadrolllaw22_PrereqHolds.j0, if_neg (by decide)]
      have hnew := ev_new exA2 l (by omega)
      rw [e1] at hnew
      refine Ev.step hst (Ev.bind hnew ?_)
      simp only [he, if_false]
      exact Ev.now _
end Go.Proofs.Ytehdkopjgcoclaa.Pure
