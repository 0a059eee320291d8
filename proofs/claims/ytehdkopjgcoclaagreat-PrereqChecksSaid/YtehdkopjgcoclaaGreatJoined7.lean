/- Contracts and facts that the claim's row is drawn from, each with its own conditions. -/
import Derived.Test.YtehdkopjgcoclaaGreatJoined6
import Derived.Deep.Slices
import Derived.Deep.Fields
import Derived.ProofKit
set_option linter.unusedSimpArgs false
set_option linter.unusedVariables false
set_option maxHeartbeats 8000000
set_option maxRecDepth 100000
open Go.Proofs Go.RowKit Go.V.aA Go.V.aN Go.V.aT
namespace Go.Y.PZh
open Go.Y.Given Go.Y.PRd Go.Y.PRr Go.Y.PZo Go.Y.PZf Go.Y.PZe
attribute [local go_sem] dK dL dS dU dB dz dM dJ
mutual
noncomputable def bC.l0 : Nat → List (S44) → List (S44) → Int → Int → ByteArray → List (S44) → Int → Option (Int)
 | 0, _, _, _, _, _, _, _ => none
 | k + 1, x5, x11, x12, x13, x235000, x235001, x235002 => if x13 < x12 then (if 0 ≤ x13 then (if x13 < (x11.length : Int) then ((dR.f k x235000 x235001 x235002 ((aj x11 x13).f0) ((aj x11 x13).f1) ((aj x11 x13).f2) ((aj x11 x13).f3) ((aj x11 x13).f4)).bind fun t237 => (if t237 = 0 then (if ((aj x11 x13).f2) = 1 then (if x5.length < 2513169434916 then (bC.l0 k (x5 ++ [(⟨(aj x11 x13).f0, (aj x11 x13).f1, (aj x11 x13).f2, (aj x11 x13).f3, (aj x11 x13).f4⟩ : S44)]) x11 x12 (wrap64 (x13 + 1)) x235000 x235001 x235002) else (none)) else (bC.l0 k x5 x11 x12 (wrap64 (x13 + 1)) x235000 x235001 x235002)) else (some t237))) else (none)) else (none)) else (bC.l1 k x5 x5 (x5.length : Int) 0 x235000 x235001 x235002)
noncomputable def bC.l1 : Nat → List (S44) → List (S44) → Int → Int → ByteArray → List (S44) → Int → Option (Int)
 | 0, _, _, _, _, _, _, _ => none
 | k + 1, x5, x31, x32, x33, x235000, x235001, x235002 => if x33 < x32 then (if 0 ≤ x33 then (if x33 < (x31.length : Int) then ((iN.f x235000 x235001 x235002 ((aj x31 x33).f0) ((aj x31 x33).f1)).bind fun t243 => ((kS.f x5 ((aj x31 x33).f0)).bind fun t246 => ((iY.f t246 ((aj x31 x33).f1)).bind fun t249 => ((ku.f k t243 t249).bind fun t252 => (if t252 = true then (bC.l1 k x5 x31 x32 (wrap64 (x33 + 1)) x235000 x235001 x235002) else (some 8)))))) else (none)) else (none)) else (some 0)
end
noncomputable def bC.f (k : Nat) (a0_0 : ByteArray) (l0_1 : List (S44)) (a0_2 : Int) (l1 : List (S44)) : Option (Int) := bC.l0 k ([] : List (S44)) l1 (l1.length : Int) 0 a0_0 l0_1 a0_2
def bC.T14 : Bool × List (List Nat × List Nat) := (true, [([], []), ([], []), ([1], [1]), ([], []), ([3], [3]), ([0, 2, 4], [0, 2, 4]), ([], []), ([], []), ([7], [7]), ([6, 8, 5], [6, 8]), ([], []), ([10], [10]), ([9, 11, 9], [9, 11]), ([5, 12, 12], [5, 12]), ([13], [13])])
def bC.B14 : List Nat := [0, 0, 2, 0, 8, 31, 0, 0, 128, 511, 0, 1024, 4095, 8191, 16383]
theorem bC.yR : gH .any (opsOf Tryz.f24 14) = bC.T14 := by kernel_rfl
theorem bC.vH : gL bC.T14.2 bC.B14 = true := by kernel_rfl
theorem bC.calls (k : Nat) (a0_0 : ByteArray) (A0_1 : Option Addr) (c0_1 : Nat) (l0_1 : List (S44)) (a0_2 : Int) (A1 : Option Addr) (c1 : Nat) (l1 : List (S44)) (r : Int) (w : World) (hr0_1 : Kd.C k44 w A0_1 l0_1.length l0_1) (hc0_1 : l0_1.length ≤ c0_1) (hr1 : Kd.C k44 w A1 l1.length l1) (hc1 : l1.length ≤ c1) (h : bC.f k a0_0 l0_1 a0_2 l1 = some r) :
    Calls Tryz.prog 24 #[.agg #[.string a0_0, .slice A0_1 l0_1.length c0_1, .int .i64 a0_2], .slice A1 l1.length c1] w fun e w' => e = .returned (.int .i64 r) ∧ Below w.heap.size w w' := by
  have hu26 := Tryz.underlying26
  have hu44 := Tryz.underlying44
  have HR0_1 := ah.mk hr0_1
  have HC0_1 := ah.mk hc0_1
  clear hr0_1 hc0_1
  have HR1 := ah.mk hr1
  have HC1 := ah.mk hc1
  clear hr1 hc1
  have HB := ah.mk (Below.refl w.heap.size w)
  have H : (bC.l0 k ([] : List (S44)) l1 (l1.length : Int) 0 a0_0 l0_1 a0_2) = some r := h
  clear h
  have H' := ah.mk H
  clear H
  go_enter Tryz.func24, Tryz.ntmps24
  go_wp2_with (((((refine be_ (N := 2) (cs := #[.string a0_0, .slice A0_1 l0_1.length c0_1, .int .i64 a0_2]) (t := 26) ?_)); intro gb234 hg w3 hbox hb; have BK234 := ah.mk (hbox); have GW234 := ah.mk (ge_ hg (av HB.out)); have GE234 := ah.mk (ge_ hg (av HB.out)); replace HB := ah.mk (ak HB.out hb); clear hb hbox hg)))
  go_loopg [5, 13] k (fun kq v5 v13 w' => ∃ (x5_1 : List (S44)) (x13_1 : Int), v13 = .int .i64 x13_1 ∧ ah (bC.l0 kq x5_1 l1 (l1.length : Int) x13_1 a0_0 l0_1 a0_2 = some r) ∧ ah (kq ≤ k) ∧ ah (Kd.R k44 44 w' w.heap.size (fun _ => True) v5 x5_1) ∧ ah (w'.heap[gb234]? = some (.cells #[.string a0_0, (.slice A0_1 l0_1.length c0_1), .int .i64 a0_2] 26 (0, 0))) ∧ ah (Below w.heap.size w w'))
  case atStart => exact ⟨(([] : List (S44))), (0), (by rfl), H', ⟨Nat.le_refl _⟩, ⟨by (exact Kd.gB _ _ _ _ _)⟩, ⟨by (with_reducible repeat ((refine au ?_ _))); exact BK234.out⟩, ⟨HB.out⟩⟩
  case round =>
   clear H'
   obtain ⟨x5_1, x13_1, rfl, HA, HK1, HO_5, BK234, HB⟩ := hrel
   cases gk with
   | zero => exact absurd HA.out (by simp [bC.l0])
   | succ k1 =>
    have H := HA.out
    clear HA
    simp only [bC.l0] at H
    by_cases c4 : x13_1 < (l1.length : Int)
    ·rw [if_pos c4] at H
     have c4b0 : decide (x13_1 < (l1.length : Int)) = true := decide_eq_true c4
     clear c4
     obtain ⟨c5b0, H⟩ := fA H
     obtain ⟨c6b0, H⟩ := fA H
     obtain ⟨t237, A7, H⟩ := bN H
     by_cases c8 : t237 = 0
     focus
      rw [if_pos c8] at H
      have c8b0 : (t237 == 0) = true := beq_iff_eq.mpr c8
      have c8b1 : (t237 != 0) = false := bne_eq_false_iff_eq.mpr c8
      clear c8
      by_cases c9 : ((aj l1 x13_1).f2) = 1
      focus
       rw [if_pos c9] at H
       have c9b0 : (((aj l1 x13_1).f2) == 1) = true := beq_iff_eq.mpr c9
       have c9b1 : (((aj l1 x13_1).f2) != 1) = false := bne_eq_false_iff_eq.mpr c9
       clear c9
       obtain ⟨c10, H⟩ := gd_ H
       have LMc10 := ah.mk c10
       clear c10
       obtain ⟨y238, hy238⟩ : ∃ y_ : List (S44), y_ = (x5_1 ++ [(⟨(aj l1 x13_1).f0, (aj l1 x13_1).f1, (aj l1 x13_1).f2, (aj l1 x13_1).f3, (aj l1 x13_1).f4⟩ : S44)]) := ⟨_, rfl⟩
       replace H : (bC.l0 k1 y238 l1 (l1.length : Int) (wrap64 (x13_1 + 1)) a0_0 l0_1 a0_2) = some r := by (rw [hy238]; with_reducible exact H)
       have Ny238 := ah.mk hy238
       clear hy238
      rotate_left
      focus
       rw [if_neg c9] at H
       have c9b0 : (((aj l1 x13_1).f2) == 1) = false := beq_eq_false_iff_ne.mpr c9
       have c9b1 : (((aj l1 x13_1).f2) != 1) = true := bne_iff_ne.mpr c9
      rotate_left
      all_goals
       have H' := ah.mk H
       clear H
     rotate_left 2
     focus
      rw [if_neg c8] at H
      have c8b0 : (t237 == 0) = false := beq_eq_false_iff_ne.mpr c8
      have c8b1 : (t237 != 0) = true := bne_iff_ne.mpr c8
      obtain rfl := Option.some.inj H
     rotate_left
     all_goals
      have p235 : 0 ≤ (x13_1 : Int) := of_decide_eq_true (by assumption)
      have q235 : x13_1 < (l1.length : Int) := of_decide_eq_true (by assumption)
      obtain ⟨ad235, e235, hx235_0, hx235_1, hx235_2, hx235_3, hx235_4⟩ := eH HR1.out x13_1 p235 q235
      cases e235
      replace hx235_0 := kp_ HB.out hx235_0
      replace hx235_1 := kp_ HB.out hx235_1
      replace hx235_2 := kp_ HB.out hx235_2
      replace hx235_3 := kp_ HB.out hx235_3
      replace hx235_4 := kp_ HB.out hx235_4
      replace p235 := eq_true p235
      replace q235 := eq_true q235
     ·go_wp2_with (first | ((((refine be_ (N := 7) (cs := #[.string (⟨#[]⟩ : ByteArray), .int .i64 0, .int .i64 0, .int .i64 0, .string (⟨#[]⟩ : ByteArray)]) (t := 44) ?_))); intro gb236 hg w11 hbox hb; have BK236 := ah.mk (hbox); have GW236 := ah.mk (ge_ hg (av HB.out)); have GE236 := ah.mk (ge_ hg (av HB.out)); have NB234_236 := ah.mk (nl_ hg (by ((exact BK234.out)))); have NB236_234 := ah.mk (nr_ hg (by ((exact BK234.out)))); replace HO_5 := ah.mk (Kd.bD (Kd.pI (by ((exact HO_5.out))) gb236 (Nat.le_of_eq hg.symm)) hb); replace BK234 := ah.mk (ay (by ((exact BK234.out))) hb); replace HB := ah.mk (ak HB.out hb); clear hb hbox hg; have hnb12 := NB236_234.out; have hnc12 := NB234_236.out; obtain ⟨hcz13_0, hcz13_1, hcz13_2, hcz13_3, hcz13_4, hfz13_0, hfz13_1, hfz13_2, hfz13_3, hfz13_4⟩ := z5_ BK236.out; obtain ⟨hcz14_0, hcz14_1, hcz14_2, hfz14_0, hfz14_1, hfz14_2⟩ := z3_ BK234.out) | ((with_reducible refine bX (f := 58) rfl ?_); refine fq (some 19) rfl rfl Tryz.func58 (by kernel_rfl) rfl #[.agg #[.string a0_0, .slice A0_1 l0_1.length c0_1, .int .i64 a0_2], .agg #[.string ((aj l1 x13_1).f0), .int .i64 ((aj l1 x13_1).f1), .int .i64 ((aj l1 x13_1).f2), .int .i64 ((aj l1 x13_1).f3), .string ((aj l1 x13_1).f4)]] rfl (by (try simp only [mA_, mC_, mN_]); rfl) ?_; (with_reducible refine (dR.calls k1 a0_0 _ _ l0_1 a0_2 ((aj l1 x13_1).f0) ((aj l1 x13_1).f1) ((aj l1 x13_1).f2) ((aj l1 x13_1).f3) ((aj l1 x13_1).f4) t237 _ ?side1 ?side2 A7.out).mono ?_); (case side1 => exact Kd.eO HR0_1.out (by repeat ((with_reducible first | exact HB.out | refine bZ ?_ GE236.out)))); (case side2 => exact HC0_1.out); rintro e w15 ⟨rfl, hb⟩; refine ⟨_, rfl, ?_⟩; replace HO_5 := ah.mk (Kd.bD (by (with_reducible repeat ((apply Kd.bf))); exact (Kd.dx (Kd.eu (p := ⟨gb236, 4, none⟩) (Kd.eu (p := ⟨gb236, 3, none⟩) (Kd.eu (p := ⟨gb236, 2, none⟩) (Kd.eu (p := ⟨gb236, 1, none⟩) (Kd.eu (p := ⟨gb236, 0, none⟩) (Kd.dx HO_5.out (fun k_ hk => (⟨hk, hk.2⟩ : _ ∧ k_ ≠ gb236))) (fun _ hk => hk.2) (.string ((aj l1 x13_1).f0))) (fun _ hk => hk.2) (.int .i64 ((aj l1 x13_1).f1))) (fun _ hk => hk.2) (.int .i64 ((aj l1 x13_1).f2))) (fun _ hk => hk.2) (.int .i64 ((aj l1 x13_1).f3))) (fun _ hk => hk.2) (.string ((aj l1 x13_1).f4))) (fun _ h_ => h_.1))) hb); replace BK234 := ah.mk (ay (g := gb234) (o := .cells #[.string a0_0, .slice A0_1 l0_1.length c0_1, .int .i64 a0_2] 26 (0, 0)) (by (with_reducible repeat ((refine au ?_ _))); refine dI ?_ NB234_236.out _; (with_reducible repeat ((refine au ?_ _))); refine dI ?_ NB234_236.out _; (with_reducible repeat ((refine au ?_ _))); refine dI ?_ NB234_236.out _; (with_reducible repeat ((refine au ?_ _))); refine dI ?_ NB234_236.out _; (with_reducible repeat ((refine au ?_ _))); refine dI ?_ NB234_236.out _; (with_reducible repeat ((refine au ?_ _))); exact BK234.out) hb); replace BK236 := ah.mk (ay (g := gb236) (o := .cells #[.string ((aj l1 x13_1).f0), .int .i64 ((aj l1 x13_1).f1), .int .i64 ((aj l1 x13_1).f2), .int .i64 ((aj l1 x13_1).f3), .string ((aj l1 x13_1).f4)] 44 (0, 0)) (by (with_reducible repeat ((refine au ?_ _))); refine aZ (cs := #[.string ((aj l1 x13_1).f0), .int .i64 ((aj l1 x13_1).f1), .int .i64 ((aj l1 x13_1).f2), .int .i64 ((aj l1 x13_1).f3), .string (⟨#[]⟩ : ByteArray)]) ?_ 4 _ rfl; (with_reducible repeat ((refine au ?_ _))); refine aZ (cs := #[.string ((aj l1 x13_1).f0), .int .i64 ((aj l1 x13_1).f1), .int .i64 ((aj l1 x13_1).f2), .int .i64 0, .string (⟨#[]⟩ : ByteArray)]) ?_ 3 _ rfl; (with_reducible repeat ((refine au ?_ _))); refine aZ (cs := #[.string ((aj l1 x13_1).f0), .int .i64 ((aj l1 x13_1).f1), .int .i64 0, .int .i64 0, .string (⟨#[]⟩ : ByteArray)]) ?_ 2 _ rfl; (with_reducible repeat ((refine au ?_ _))); refine aZ (cs := #[.string ((aj l1 x13_1).f0), .int .i64 0, .int .i64 0, .int .i64 0, .string (⟨#[]⟩ : ByteArray)]) ?_ 1 _ rfl; (with_reducible repeat ((refine au ?_ _))); refine aZ (cs := #[.string (⟨#[]⟩ : ByteArray), .int .i64 0, .int .i64 0, .int .i64 0, .string (⟨#[]⟩ : ByteArray)]) ?_ 0 _ rfl; (with_reducible repeat ((refine au ?_ _))); exact BK236.out) hb); replace HB := ah.mk (ak (by repeat ((with_reducible first | exact HB.out | refine bZ ?_ GE236.out))) hb); (try clear hb); obtain ⟨hcz16_0, hcz16_1, hcz16_2, hcz16_3, hcz16_4, hfz16_0, hfz16_1, hfz16_2, hfz16_3, hfz16_4⟩ := z5_ BK236.out) | ((with_reducible refine eY (b := .append) (xs := #[.tmp 26, .tmp 28]) rfl ?_); at_builtin; refine Kd.gP k44 (w0 := w) w.heap.size rfl (.tmp 26) (.tmp 28) 22 44 (.agg #[(.string ⟨#[]⟩), (.int .i64 0), (.int .i64 0), (.int .i64 0), (.string ⟨#[]⟩)]) 56 rfl Tryz.underlying22 lX rfl (by decide) (by omega) u5 x5_1 (⟨(aj l1 x13_1).f0, (aj l1 x13_1).f1, (aj l1 x13_1).f2, (aj l1 x13_1).f3, (aj l1 x13_1).f4⟩ : S44) [.string ((aj l1 x13_1).f0), .int .i64 ((aj l1 x13_1).f1), .int .i64 ((aj l1 x13_1).f2), .int .i64 ((aj l1 x13_1).f3), .string ((aj l1 x13_1).f4)] (fun k_ => k_ ≠ gb236) (fun _ => False) rfl rfl ?aP (fun _ hk => hk.elim) ?aF ?aO ?aB ?aS ?aL ?_; (case aP => exact jO _ _ _ (⟨(aj l1 x13_1).f0, (aj l1 x13_1).f1, (aj l1 x13_1).f2, (aj l1 x13_1).f3, (aj l1 x13_1).f4⟩ : S44)); (case aB => exact HB.out); (case aF => exact (fun k_ hk => Kd.qL (g := gb236) (o := .cells #[.string ((aj l1 x13_1).f0), .int .i64 ((aj l1 x13_1).f1), .int .i64 ((aj l1 x13_1).f2), .int .i64 ((aj l1 x13_1).f3), .string ((aj l1 x13_1).f4)] 44 (0, 0)) (by ((exact BK236.out))) k_ hk)); (case aO => exact (by (with_reducible repeat ((apply Kd.bf))); exact Kd.dx HO_5.out (fun _ hk => hk.2))); (case aS => exact (av HB.out)); (case aL => have := LMc10.out; omega); intro v239 w17 ho hb hg hat; rw [← Ny238.out] at ho; have n0_ := ah.mk (iK (g := gb234) (o := .cells #[.string a0_0, .slice A0_1 l0_1.length c0_1, .int .i64 a0_2] 26 (0, 0)) (by ((exact BK234.out))) hg (Kd.JQ HO_5.out BK234.out (by decide))); have n1_ := ah.mk (iK (g := gb236) (o := .cells #[.string ((aj l1 x13_1).f0), .int .i64 ((aj l1 x13_1).f1), .int .i64 ((aj l1 x13_1).f2), .int .i64 ((aj l1 x13_1).f3), .string ((aj l1 x13_1).f4)] 44 (0, 0)) (by ((exact BK236.out))) hg (Kd.qI HO_5.out (fun _ hk => hk.2))); have n2_ := ah.mk (hb); have n3_ := ah.mk (ho); clear BK234; clear BK236; clear HB; clear HO_5; have BK234 := n0_; have BK236 := n1_; have HB := n2_; have HO240 := n3_; clear n0_ n1_ n2_ n3_; clear ho hb hg hat))
      go_roundg k1
      case measure => have := HK1.out; omega
      case rel => exact ⟨(y238), (wrap64 (x13_1 + 1)), (by rfl), H', ⟨by have := HK1.out; omega⟩, ⟨by (with_reducible repeat ((apply Kd.bf))); exact Kd.dx HO240.out (fun _ hk => trivial)⟩, ⟨by (with_reducible repeat ((refine au ?_ _))); exact BK234.out⟩, ⟨HB.out⟩⟩
     ·go_wp2_with (first | ((((refine be_ (N := 7) (cs := #[.string (⟨#[]⟩ : ByteArray), .int .i64 0, .int .i64 0, .int .i64 0, .string (⟨#[]⟩ : ByteArray)]) (t := 44) ?_))); intro gb236 hg w18 hbox hb; have BK236 := ah.mk (hbox); have GW236 := ah.mk (ge_ hg (av HB.out)); have GE236 := ah.mk (ge_ hg (av HB.out)); have NB234_236 := ah.mk (nl_ hg (by ((exact BK234.out)))); have NB236_234 := ah.mk (nr_ hg (by ((exact BK234.out)))); replace HO_5 := ah.mk (Kd.bD (Kd.pI (by ((exact HO_5.out))) gb236 (Nat.le_of_eq hg.symm)) hb); replace BK234 := ah.mk (ay (by ((exact BK234.out))) hb); replace HB := ah.mk (ak HB.out hb); clear hb hbox hg; have hnb19 := NB236_234.out; have hnc19 := NB234_236.out; obtain ⟨hcz20_0, hcz20_1, hcz20_2, hcz20_3, hcz20_4, hfz20_0, hfz20_1, hfz20_2, hfz20_3, hfz20_4⟩ := z5_ BK236.out; obtain ⟨hcz21_0, hcz21_1, hcz21_2, hfz21_0, hfz21_1, hfz21_2⟩ := z3_ BK234.out) | ((with_reducible refine bX (f := 58) rfl ?_); refine fq (some 19) rfl rfl Tryz.func58 (by kernel_rfl) rfl #[.agg #[.string a0_0, .slice A0_1 l0_1.length c0_1, .int .i64 a0_2], .agg #[.string ((aj l1 x13_1).f0), .int .i64 ((aj l1 x13_1).f1), .int .i64 ((aj l1 x13_1).f2), .int .i64 ((aj l1 x13_1).f3), .string ((aj l1 x13_1).f4)]] rfl (by (try simp only [mA_, mC_, mN_]); rfl) ?_; (with_reducible refine (dR.calls k1 a0_0 _ _ l0_1 a0_2 ((aj l1 x13_1).f0) ((aj l1 x13_1).f1) ((aj l1 x13_1).f2) ((aj l1 x13_1).f3) ((aj l1 x13_1).f4) t237 _ ?side1 ?side2 A7.out).mono ?_); (case side1 => exact Kd.eO HR0_1.out (by repeat ((with_reducible first | exact HB.out | refine bZ ?_ GE236.out)))); (case side2 => exact HC0_1.out); rintro e w22 ⟨rfl, hb⟩; refine ⟨_, rfl, ?_⟩; replace HO_5 := ah.mk (Kd.bD (by (with_reducible repeat ((apply Kd.bf))); exact (Kd.dx (Kd.eu (p := ⟨gb236, 4, none⟩) (Kd.eu (p := ⟨gb236, 3, none⟩) (Kd.eu (p := ⟨gb236, 2, none⟩) (Kd.eu (p := ⟨gb236, 1, none⟩) (Kd.eu (p := ⟨gb236, 0, none⟩) (Kd.dx HO_5.out (fun k_ hk => (⟨hk, hk.2⟩ : _ ∧ k_ ≠ gb236))) (fun _ hk => hk.2) (.string ((aj l1 x13_1).f0))) (fun _ hk => hk.2) (.int .i64 ((aj l1 x13_1).f1))) (fun _ hk => hk.2) (.int .i64 ((aj l1 x13_1).f2))) (fun _ hk => hk.2) (.int .i64 ((aj l1 x13_1).f3))) (fun _ hk => hk.2) (.string ((aj l1 x13_1).f4))) (fun _ h_ => h_.1))) hb); replace BK234 := ah.mk (ay (g := gb234) (o := .cells #[.string a0_0, .slice A0_1 l0_1.length c0_1, .int .i64 a0_2] 26 (0, 0)) (by (with_reducible repeat ((refine au ?_ _))); refine dI ?_ NB234_236.out _; (with_reducible repeat ((refine au ?_ _))); refine dI ?_ NB234_236.out _; (with_reducible repeat ((refine au ?_ _))); refine dI ?_ NB234_236.out _; (with_reducible repeat ((refine au ?_ _))); refine dI ?_ NB234_236.out _; (with_reducible repeat ((refine au ?_ _))); refine dI ?_ NB234_236.out _; (with_reducible repeat ((refine au ?_ _))); exact BK234.out) hb); replace BK236 := ah.mk (ay (g := gb236) (o := .cells #[.string ((aj l1 x13_1).f0), .int .i64 ((aj l1 x13_1).f1), .int .i64 ((aj l1 x13_1).f2), .int .i64 ((aj l1 x13_1).f3), .string ((aj l1 x13_1).f4)] 44 (0, 0)) (by (with_reducible repeat ((refine au ?_ _))); refine aZ (cs := #[.string ((aj l1 x13_1).f0), .int .i64 ((aj l1 x13_1).f1), .int .i64 ((aj l1 x13_1).f2), .int .i64 ((aj l1 x13_1).f3), .string (⟨#[]⟩ : ByteArray)]) ?_ 4 _ rfl; (with_reducible repeat ((refine au ?_ _))); refine aZ (cs := #[.string ((aj l1 x13_1).f0), .int .i64 ((aj l1 x13_1).f1), .int .i64 ((aj l1 x13_1).f2), .int .i64 0, .string (⟨#[]⟩ : ByteArray)]) ?_ 3 _ rfl; (with_reducible repeat ((refine au ?_ _))); refine aZ (cs := #[.string ((aj l1 x13_1).f0), .int .i64 ((aj l1 x13_1).f1), .int .i64 0, .int .i64 0, .string (⟨#[]⟩ : ByteArray)]) ?_ 2 _ rfl; (with_reducible repeat ((refine au ?_ _))); refine aZ (cs := #[.string ((aj l1 x13_1).f0), .int .i64 0, .int .i64 0, .int .i64 0, .string (⟨#[]⟩ : ByteArray)]) ?_ 1 _ rfl; (with_reducible repeat ((refine au ?_ _))); refine aZ (cs := #[.string (⟨#[]⟩ : ByteArray), .int .i64 0, .int .i64 0, .int .i64 0, .string (⟨#[]⟩ : ByteArray)]) ?_ 0 _ rfl; (with_reducible repeat ((refine au ?_ _))); exact BK236.out) hb); replace HB := ah.mk (ak (by repeat ((with_reducible first | exact HB.out | refine bZ ?_ GE236.out))) hb); (try clear hb); obtain ⟨hcz23_0, hcz23_1, hcz23_2, hcz23_3, hcz23_4, hfz23_0, hfz23_1, hfz23_2, hfz23_3, hfz23_4⟩ := z5_ BK236.out))
      go_roundg k1
      case measure => have := HK1.out; omega
      case rel => exact ⟨(x5_1), (wrap64 (x13_1 + 1)), (by rfl), H', ⟨by have := HK1.out; omega⟩, ⟨by (with_reducible repeat ((apply Kd.bf))); exact Kd.dx HO_5.out (fun _ hk => trivial)⟩, ⟨by (with_reducible repeat ((refine au ?_ _))); exact BK234.out⟩, ⟨HB.out⟩⟩
     ·go_wp2_with (first | ((((refine be_ (N := 7) (cs := #[.string (⟨#[]⟩ : ByteArray), .int .i64 0, .int .i64 0, .int .i64 0, .string (⟨#[]⟩ : ByteArray)]) (t := 44) ?_))); intro gb236 hg w24 hbox hb; have BK236 := ah.mk (hbox); have GW236 := ah.mk (ge_ hg (av HB.out)); have GE236 := ah.mk (ge_ hg (av HB.out)); have NB234_236 := ah.mk (nl_ hg (by ((exact BK234.out)))); have NB236_234 := ah.mk (nr_ hg (by ((exact BK234.out)))); replace HO_5 := ah.mk (Kd.bD (Kd.pI (by ((exact HO_5.out))) gb236 (Nat.le_of_eq hg.symm)) hb); replace BK234 := ah.mk (ay (by ((exact BK234.out))) hb); replace HB := ah.mk (ak HB.out hb); clear hb hbox hg; have hnb25 := NB236_234.out; have hnc25 := NB234_236.out; obtain ⟨hcz26_0, hcz26_1, hcz26_2, hcz26_3, hcz26_4, hfz26_0, hfz26_1, hfz26_2, hfz26_3, hfz26_4⟩ := z5_ BK236.out; obtain ⟨hcz27_0, hcz27_1, hcz27_2, hfz27_0, hfz27_1, hfz27_2⟩ := z3_ BK234.out) | ((with_reducible refine bX (f := 58) rfl ?_); refine fq (some 19) rfl rfl Tryz.func58 (by kernel_rfl) rfl #[.agg #[.string a0_0, .slice A0_1 l0_1.length c0_1, .int .i64 a0_2], .agg #[.string ((aj l1 x13_1).f0), .int .i64 ((aj l1 x13_1).f1), .int .i64 ((aj l1 x13_1).f2), .int .i64 ((aj l1 x13_1).f3), .string ((aj l1 x13_1).f4)]] rfl (by (try simp only [mA_, mC_, mN_]); rfl) ?_; (with_reducible refine (dR.calls k1 a0_0 _ _ l0_1 a0_2 ((aj l1 x13_1).f0) ((aj l1 x13_1).f1) ((aj l1 x13_1).f2) ((aj l1 x13_1).f3) ((aj l1 x13_1).f4) t237 _ ?side1 ?side2 A7.out).mono ?_); (case side1 => exact Kd.eO HR0_1.out (by repeat ((with_reducible first | exact HB.out | refine bZ ?_ GE236.out)))); (case side2 => exact HC0_1.out); rintro e w28 ⟨rfl, hb⟩; refine ⟨_, rfl, ?_⟩; replace HO_5 := ah.mk (Kd.bD (by (with_reducible repeat ((apply Kd.bf))); exact (Kd.dx (Kd.eu (p := ⟨gb236, 4, none⟩) (Kd.eu (p := ⟨gb236, 3, none⟩) (Kd.eu (p := ⟨gb236, 2, none⟩) (Kd.eu (p := ⟨gb236, 1, none⟩) (Kd.eu (p := ⟨gb236, 0, none⟩) (Kd.dx HO_5.out (fun k_ hk => (⟨hk, hk.2⟩ : _ ∧ k_ ≠ gb236))) (fun _ hk => hk.2) (.string ((aj l1 x13_1).f0))) (fun _ hk => hk.2) (.int .i64 ((aj l1 x13_1).f1))) (fun _ hk => hk.2) (.int .i64 ((aj l1 x13_1).f2))) (fun _ hk => hk.2) (.int .i64 ((aj l1 x13_1).f3))) (fun _ hk => hk.2) (.string ((aj l1 x13_1).f4))) (fun _ h_ => h_.1))) hb); replace BK234 := ah.mk (ay (g := gb234) (o := .cells #[.string a0_0, .slice A0_1 l0_1.length c0_1, .int .i64 a0_2] 26 (0, 0)) (by (with_reducible repeat ((refine au ?_ _))); refine dI ?_ NB234_236.out _; (with_reducible repeat ((refine au ?_ _))); refine dI ?_ NB234_236.out _; (with_reducible repeat ((refine au ?_ _))); refine dI ?_ NB234_236.out _; (with_reducible repeat ((refine au ?_ _))); refine dI ?_ NB234_236.out _; (with_reducible repeat ((refine au ?_ _))); refine dI ?_ NB234_236.out _; (with_reducible repeat ((refine au ?_ _))); exact BK234.out) hb); replace BK236 := ah.mk (ay (g := gb236) (o := .cells #[.string ((aj l1 x13_1).f0), .int .i64 ((aj l1 x13_1).f1), .int .i64 ((aj l1 x13_1).f2), .int .i64 ((aj l1 x13_1).f3), .string ((aj l1 x13_1).f4)] 44 (0, 0)) (by (with_reducible repeat ((refine au ?_ _))); refine aZ (cs := #[.string ((aj l1 x13_1).f0), .int .i64 ((aj l1 x13_1).f1), .int .i64 ((aj l1 x13_1).f2), .int .i64 ((aj l1 x13_1).f3), .string (⟨#[]⟩ : ByteArray)]) ?_ 4 _ rfl; (with_reducible repeat ((refine au ?_ _))); refine aZ (cs := #[.string ((aj l1 x13_1).f0), .int .i64 ((aj l1 x13_1).f1), .int .i64 ((aj l1 x13_1).f2), .int .i64 0, .string (⟨#[]⟩ : ByteArray)]) ?_ 3 _ rfl; (with_reducible repeat ((refine au ?_ _))); refine aZ (cs := #[.string ((aj l1 x13_1).f0), .int .i64 ((aj l1 x13_1).f1), .int .i64 0, .int .i64 0, .string (⟨#[]⟩ : ByteArray)]) ?_ 2 _ rfl; (with_reducible repeat ((refine au ?_ _))); refine aZ (cs := #[.string ((aj l1 x13_1).f0), .int .i64 0, .int .i64 0, .int .i64 0, .string (⟨#[]⟩ : ByteArray)]) ?_ 1 _ rfl; (with_reducible repeat ((refine au ?_ _))); refine aZ (cs := #[.string (⟨#[]⟩ : ByteArray), .int .i64 0, .int .i64 0, .int .i64 0, .string (⟨#[]⟩ : ByteArray)]) ?_ 0 _ rfl; (with_reducible repeat ((refine au ?_ _))); exact BK236.out) hb); replace HB := ah.mk (ak (by repeat ((with_reducible first | exact HB.out | refine bZ ?_ GE236.out))) hb); (try clear hb)))
      go_ret
      exact ⟨by rfl, HB.out⟩
    ·rw [if_neg c4] at H
     have c4b0 : decide (x13_1 < (l1.length : Int)) = false := decide_eq_false c4
     clear c4
     have H' := ah.mk H
     clear H
     obtain ⟨Ao29, co29, eo29⟩ := Kd.cK HO_5.out
     subst eo29
     go_wp2
     go_loopg [33] k1 (fun kq v33 w' => ∃ (x33_2 : Int), v33 = .int .i64 x33_2 ∧ ah (bC.l1 kq x5_1 x5_1 (x5_1.length : Int) x33_2 a0_0 l0_1 a0_2 = some r) ∧ ah (kq ≤ k1) ∧ ah (Kd.R k44 44 w' w.heap.size (fun _ => True) (.slice Ao29 x5_1.length co29) x5_1) ∧ ah (Kd.R k44 44 w' w.heap.size (fun _ => True) (.slice Ao29 x5_1.length co29) x5_1) ∧ ah (w'.heap[gb234]? = some (.cells #[.string a0_0, (.slice A0_1 l0_1.length c0_1), .int .i64 a0_2] 26 (0, 0))) ∧ ah (Below w.heap.size w w'))
     case atStart => exact ⟨(0), (by rfl), H', ⟨Nat.le_refl _⟩, ⟨by (with_reducible repeat ((apply Kd.bf))); exact HO_5.out⟩, ⟨by (with_reducible repeat ((apply Kd.bf))); exact HO_5.out⟩, ⟨by (with_reducible repeat ((refine au ?_ _))); exact BK234.out⟩, ⟨HB.out⟩⟩
     case round =>
      clear H'
      (try clear c4b0)
      obtain ⟨x33_2, rfl, HA, HK2, HO_5, HO_31, BK234, HB⟩ := hrel
      cases gk with
      | zero => exact absurd HA.out (by simp [bC.l1])
      | succ k2 =>
       have H := HA.out
       clear HA
       simp only [bC.l1] at H
       by_cases c30 : x33_2 < (x5_1.length : Int)
       ·rw [if_pos c30] at H
        have c30b0 : decide (x33_2 < (x5_1.length : Int)) = true := decide_eq_true c30
        clear c30
        obtain ⟨c31b0, H⟩ := fA H
        obtain ⟨c32b0, H⟩ := fA H
        obtain ⟨t243, A33, H⟩ := bN H
        obtain ⟨t246, A34, H⟩ := bN H
        obtain ⟨t249, A35, H⟩ := bN H
        obtain ⟨t252, A36, H⟩ := bN H
        by_cases c37 : t252 = true
        focus
         subst c37
         rw [if_pos rfl] at H
         have H' := ah.mk H
         clear H
        rotate_left
        focus
         replace c37 := Bool.eq_false_iff.mpr c37
         subst c37
         rw [if_neg ff_] at H
         obtain rfl := Option.some.inj H
        rotate_left
        all_goals
         have p241 : 0 ≤ (x33_2 : Int) := of_decide_eq_true (by assumption)
         have q241 : x33_2 < (x5_1.length : Int) := of_decide_eq_true (by assumption)
         obtain ⟨ad241, e241, hx241_0, hx241_1, hx241_2, hx241_3, hx241_4⟩ := eH (Kd.aR HO_31.out).2.2 x33_2 p241 q241
         cases e241
         replace p241 := eq_true p241
         replace q241 := eq_true q241
         (try go_wp2_with ((((((refine be_ (N := 10) (cs := #[.string (⟨#[]⟩ : ByteArray), .int .i64 0, .int .i64 0, .int .i64 0, .string (⟨#[]⟩ : ByteArray)]) (t := 44) ?_))); intro gb242 hg w38 hbox hb; have BK242 := ah.mk (hbox); have GW242 := ah.mk (ge_ hg (av HB.out)); have GE242 := ah.mk (ge_ hg (av HB.out)); have NB234_242 := ah.mk (nl_ hg (by ((exact BK234.out)))); have NB242_234 := ah.mk (nr_ hg (by ((exact BK234.out)))); replace HO_5 := ah.mk (Kd.bD (Kd.pI (by ((exact HO_5.out))) gb242 (Nat.le_of_eq hg.symm)) hb); replace HO_31 := ah.mk (Kd.bD (Kd.pI (by ((exact HO_31.out))) gb242 (Nat.le_of_eq hg.symm)) hb); replace BK234 := ah.mk (ay (by ((exact BK234.out))) hb); replace HB := ah.mk (ak HB.out hb); clear hb hbox hg; have hnb39 := NB242_234.out; have hnc39 := NB234_242.out; obtain ⟨hcz40_0, hcz40_1, hcz40_2, hcz40_3, hcz40_4, hfz40_0, hfz40_1, hfz40_2, hfz40_3, hfz40_4⟩ := z5_ BK242.out))))
         have n0_ : ah (Kd.R k44 44 (((((w38.setCell ⟨gb242, 0, none⟩ (.string ((aj x5_1 x33_2).f0))).setCell ⟨gb242, 1, none⟩ (.int .i64 ((aj x5_1 x33_2).f1))).setCell ⟨gb242, 2, none⟩ (.int .i64 ((aj x5_1 x33_2).f2))).setCell ⟨gb242, 3, none⟩ (.int .i64 ((aj x5_1 x33_2).f3))).setCell ⟨gb242, 4, none⟩ (.string ((aj x5_1 x33_2).f4))) w.heap.size (fun k_ => k_ ≠ gb242) (.slice (some ad241) x5_1.length co29) x5_1) := ⟨by (with_reducible repeat ((apply Kd.bf))); exact Kd.dx (Kd.eu (p := ⟨gb242, 4, none⟩) (Kd.eu (p := ⟨gb242, 3, none⟩) (Kd.eu (p := ⟨gb242, 2, none⟩) (Kd.eu (p := ⟨gb242, 1, none⟩) (Kd.eu (p := ⟨gb242, 0, none⟩) (Kd.dx HO_5.out (fun k_ hk => (⟨hk, hk.2⟩ : _ ∧ k_ ≠ gb242))) (fun _ hk => hk.2) (.string ((aj x5_1 x33_2).f0))) (fun _ hk => hk.2) (.int .i64 ((aj x5_1 x33_2).f1))) (fun _ hk => hk.2) (.int .i64 ((aj x5_1 x33_2).f2))) (fun _ hk => hk.2) (.int .i64 ((aj x5_1 x33_2).f3))) (fun _ hk => hk.2) (.string ((aj x5_1 x33_2).f4))) (fun _ hk => hk.1.2)⟩
         have n1_ : ah (Kd.R k44 44 (((((w38.setCell ⟨gb242, 0, none⟩ (.string ((aj x5_1 x33_2).f0))).setCell ⟨gb242, 1, none⟩ (.int .i64 ((aj x5_1 x33_2).f1))).setCell ⟨gb242, 2, none⟩ (.int .i64 ((aj x5_1 x33_2).f2))).setCell ⟨gb242, 3, none⟩ (.int .i64 ((aj x5_1 x33_2).f3))).setCell ⟨gb242, 4, none⟩ (.string ((aj x5_1 x33_2).f4))) w.heap.size (fun k_ => k_ ≠ gb242) (.slice (some ad241) x5_1.length co29) x5_1) := ⟨by (with_reducible repeat ((apply Kd.bf))); exact Kd.dx (Kd.eu (p := ⟨gb242, 4, none⟩) (Kd.eu (p := ⟨gb242, 3, none⟩) (Kd.eu (p := ⟨gb242, 2, none⟩) (Kd.eu (p := ⟨gb242, 1, none⟩) (Kd.eu (p := ⟨gb242, 0, none⟩) (Kd.dx HO_31.out (fun k_ hk => (⟨hk, hk.2⟩ : _ ∧ k_ ≠ gb242))) (fun _ hk => hk.2) (.string ((aj x5_1 x33_2).f0))) (fun _ hk => hk.2) (.int .i64 ((aj x5_1 x33_2).f1))) (fun _ hk => hk.2) (.int .i64 ((aj x5_1 x33_2).f2))) (fun _ hk => hk.2) (.int .i64 ((aj x5_1 x33_2).f3))) (fun _ hk => hk.2) (.string ((aj x5_1 x33_2).f4))) (fun _ hk => hk.1.2)⟩
         have n2_ : ah ((((((w38.setCell ⟨gb242, 0, none⟩ (.string ((aj x5_1 x33_2).f0))).setCell ⟨gb242, 1, none⟩ (.int .i64 ((aj x5_1 x33_2).f1))).setCell ⟨gb242, 2, none⟩ (.int .i64 ((aj x5_1 x33_2).f2))).setCell ⟨gb242, 3, none⟩ (.int .i64 ((aj x5_1 x33_2).f3))).setCell ⟨gb242, 4, none⟩ (.string ((aj x5_1 x33_2).f4))).heap[gb234]? = some (.cells #[.string a0_0, .slice A0_1 l0_1.length c0_1, .int .i64 a0_2] 26 (0, 0))) := ⟨by (with_reducible repeat ((refine au ?_ _))); refine dI ?_ NB234_242.out _; (with_reducible repeat ((refine au ?_ _))); refine dI ?_ NB234_242.out _; (with_reducible repeat ((refine au ?_ _))); refine dI ?_ NB234_242.out _; (with_reducible repeat ((refine au ?_ _))); refine dI ?_ NB234_242.out _; (with_reducible repeat ((refine au ?_ _))); refine dI ?_ NB234_242.out _; (with_reducible repeat ((refine au ?_ _))); exact BK234.out⟩
         have n3_ : ah ((((((w38.setCell ⟨gb242, 0, none⟩ (.string ((aj x5_1 x33_2).f0))).setCell ⟨gb242, 1, none⟩ (.int .i64 ((aj x5_1 x33_2).f1))).setCell ⟨gb242, 2, none⟩ (.int .i64 ((aj x5_1 x33_2).f2))).setCell ⟨gb242, 3, none⟩ (.int .i64 ((aj x5_1 x33_2).f3))).setCell ⟨gb242, 4, none⟩ (.string ((aj x5_1 x33_2).f4))).heap[gb242]? = some (.cells #[.string ((aj x5_1 x33_2).f0), .int .i64 ((aj x5_1 x33_2).f1), .int .i64 ((aj x5_1 x33_2).f2), .int .i64 ((aj x5_1 x33_2).f3), .string ((aj x5_1 x33_2).f4)] 44 (0, 0))) := ⟨by (with_reducible repeat ((refine au ?_ _))); refine aZ (cs := #[.string ((aj x5_1 x33_2).f0), .int .i64 ((aj x5_1 x33_2).f1), .int .i64 ((aj x5_1 x33_2).f2), .int .i64 ((aj x5_1 x33_2).f3), .string (⟨#[]⟩ : ByteArray)]) ?_ 4 _ rfl; (with_reducible repeat ((refine au ?_ _))); refine aZ (cs := #[.string ((aj x5_1 x33_2).f0), .int .i64 ((aj x5_1 x33_2).f1), .int .i64 ((aj x5_1 x33_2).f2), .int .i64 0, .string (⟨#[]⟩ : ByteArray)]) ?_ 3 _ rfl; (with_reducible repeat ((refine au ?_ _))); refine aZ (cs := #[.string ((aj x5_1 x33_2).f0), .int .i64 ((aj x5_1 x33_2).f1), .int .i64 0, .int .i64 0, .string (⟨#[]⟩ : ByteArray)]) ?_ 2 _ rfl; (with_reducible repeat ((refine au ?_ _))); refine aZ (cs := #[.string ((aj x5_1 x33_2).f0), .int .i64 0, .int .i64 0, .int .i64 0, .string (⟨#[]⟩ : ByteArray)]) ?_ 1 _ rfl; (with_reducible repeat ((refine au ?_ _))); refine aZ (cs := #[.string (⟨#[]⟩ : ByteArray), .int .i64 0, .int .i64 0, .int .i64 0, .string (⟨#[]⟩ : ByteArray)]) ?_ 0 _ rfl; (with_reducible repeat ((refine au ?_ _))); exact BK242.out⟩
         have n4_ : ah (Below w.heap.size w (((((w38.setCell ⟨gb242, 0, none⟩ (.string ((aj x5_1 x33_2).f0))).setCell ⟨gb242, 1, none⟩ (.int .i64 ((aj x5_1 x33_2).f1))).setCell ⟨gb242, 2, none⟩ (.int .i64 ((aj x5_1 x33_2).f2))).setCell ⟨gb242, 3, none⟩ (.int .i64 ((aj x5_1 x33_2).f3))).setCell ⟨gb242, 4, none⟩ (.string ((aj x5_1 x33_2).f4)))) := ⟨by repeat ((with_reducible first | exact HB.out | refine bZ ?_ GE242.out))⟩
         (try clear HO_5)
         (try clear HO_31)
         (try clear BK234)
         (try clear BK242)
         (try clear HB)
         generalize (((((w38.setCell ⟨gb242, 0, none⟩ (.string ((aj x5_1 x33_2).f0))).setCell ⟨gb242, 1, none⟩ (.int .i64 ((aj x5_1 x33_2).f1))).setCell ⟨gb242, 2, none⟩ (.int .i64 ((aj x5_1 x33_2).f2))).setCell ⟨gb242, 3, none⟩ (.int .i64 ((aj x5_1 x33_2).f3))).setCell ⟨gb242, 4, none⟩ (.string ((aj x5_1 x33_2).f4))) = w41 at n0_ n1_ n2_ n3_ n4_ ⊢
         have HO_5 := n0_
         have HO_31 := n1_
         have BK234 := n2_
         have BK242 := n3_
         have HB := n4_
         clear n0_ n1_ n2_ n3_ n4_
         replace HO_5 := ah.mk (Kd.iG HO_5.out)
         replace HO_31 := ah.mk (Kd.iG HO_31.out)
         replace BK234 := ah.mk (dW BK234.out)
         replace BK242 := ah.mk (dW BK242.out)
         replace HB := ah.mk (bP HB.out)
         refine gX (n := 15) (ds := []) (ls 15 0) (by kernel_rfl) rfl rfl (c3_ BK234.out (d5_ BK242.out)) (fun hHeld => ?_); refine fJ bC.yR bC.vH (fun HT_ HW_ => ?_)
         generalize w41.drew = w42 at HO_5 HO_31 BK234 BK242 HB hHeld ⊢
         refine td_ [(1, 38), (3, 40), (6, 43), (7, 44), (10, 47)] ?_
         iterate 5 (refine pn_ (v := ?_) (a' := ?_) HT_ rfl rfl (by kernel_rfl) rfl (fun _ _ _ h => h) (fun w' => ?_) ?_ ?_; rotate_left 2; (focus go_simp; with_reducible rfl); (focus simp only [Act.put, sA_, sZ_, sS_, dN, eD]; rfl))
         refine dn_ ?_
         refine td_ [(0, 37), (2, 39), (4, 41), (8, 45), (11, 48)] ?_
         iterate 5 (refine tn_ (v := ?_) (a' := ?_) HT_ HW_ rfl rfl (by kernel_rfl) rfl (fun _ _ _ h => h) hHeld ?_ ?_ ?_; rotate_left 2; (focus rintro w' ⟨s0, s1, s2, s3, s4, s5, s6, s7⟩; go_simp; with_reducible rfl); (focus simp only [Act.put, sA_, sZ_, sS_, dN, eD]; rfl))
         refine dn_ ?_
         refine kT (i := 5) (N := some 42) (ls 15 3583) rfl rfl (kC HT_.out (by kernel_rfl)) (by decide) (fun K hK => ?_)
         refine kY Tryz.func14 (by kernel_rfl) rfl #[.agg #[.string a0_0, .slice A0_1 l0_1.length c0_1, .int .i64 a0_2], .string ((aj x5_1 x33_2).f0), .int .i64 ((aj x5_1 x33_2).f1)] (by rfl) rfl rfl (by (try simp only [mA_, mC_, mN_]); rfl) ?_
         with_reducible refine (iN.calls a0_0 _ _ l0_1 a0_2 ((aj x5_1 x33_2).f0) ((aj x5_1 x33_2).f1) t243 _ ?side1 ?side2 A33.out).mono ?_
         (case side1 => repeat ((exact (Kd.eO HR0_1.out HB.out))))
         (case side2 => exact HC0_1.out)
         rintro e w43 ⟨v244, rfl, ho0, hb⟩
         refine ⟨_, rfl, ?_⟩
         have HO245 := ah.mk (Kd.bS (Kd.rR (Kd.gq (Kd.gq ho0 (Kd.iZ (by ((exact HO_5.out))))) (Kd.iZ (by ((exact HO_31.out))))) (g := gb242) (o := .cells #[.string ((aj x5_1 x33_2).f0), .int .i64 ((aj x5_1 x33_2).f1), .int .i64 ((aj x5_1 x33_2).f2), .int .i64 ((aj x5_1 x33_2).f3), .string ((aj x5_1 x33_2).f4)] 44 (0, 0)) (by ((exact BK242.out)))) (av HB.out))
         replace HO_5 := ah.mk (Kd.eU (by ((exact HO_5.out))) (Kd.fV ho0) hb)
         replace HO_31 := ah.mk (Kd.eU (by ((exact HO_31.out))) (Kd.fV ho0) hb)
         replace BK234 := ah.mk (ay (by ((exact BK234.out))) hb)
         replace BK242 := ah.mk (ay (by ((exact BK242.out))) hb)
         replace HB := ah.mk (ak HB.out hb)
         (try clear hb)
         (try clear ho0)
         refine hK.out _ _ (c3_ BK234.out (d5_ BK242.out)) (fun hHeld => ?_)
         clear hK K
         refine jK (a' := ?_) ?_ ?_
         rotate_left
         ·show Act.put _ (some 42) _ = _
          simp only [Act.put, sA_, sZ_, sS_, dN, eD]
          rfl
         refine kT (i := 9) (N := some 46) (ls 15 4095) rfl rfl (kC HT_.out (by kernel_rfl)) (by decide) (fun K hK => ?_)
         refine kY Tryz.func52 (by kernel_rfl) rfl #[.slice (some ad241) x5_1.length co29, .string ((aj x5_1 x33_2).f0)] (by rfl) rfl rfl (by (try simp only [mA_, mC_, mN_]); rfl) ?_
         with_reducible refine (kS.calls _ _ x5_1 ((aj x5_1 x33_2).f0) t246 _ ?side1 ?side2 A34.out).mono ?_
         (case side1 => repeat ((exact (Kd.aR HO_5.out).2.2)))
         (case side2 => exact (Kd.aR HO_5.out).2.1)
         rintro e w44 ⟨v247, rfl, ho0, hb⟩
         refine ⟨_, rfl, ?_⟩
         have HO248 := ah.mk (Kd.bS (Kd.rR (Kd.gq (Kd.gq (Kd.gq ho0 (Kd.iZ (by ((exact HO_5.out))))) (Kd.iZ (by ((exact HO_31.out))))) (Kd.iZ (by ((exact HO245.out))))) (g := gb242) (o := .cells #[.string ((aj x5_1 x33_2).f0), .int .i64 ((aj x5_1 x33_2).f1), .int .i64 ((aj x5_1 x33_2).f2), .int .i64 ((aj x5_1 x33_2).f3), .string ((aj x5_1 x33_2).f4)] 44 (0, 0)) (by ((exact BK242.out)))) (av HB.out))
         replace HO_5 := ah.mk (Kd.eU (by ((exact HO_5.out))) (Kd.fV ho0) hb)
         replace HO_31 := ah.mk (Kd.eU (by ((exact HO_31.out))) (Kd.fV ho0) hb)
         replace HO245 := ah.mk (Kd.eU (by ((exact HO245.out))) (Kd.fV ho0) hb)
         replace BK234 := ah.mk (ay (by ((exact BK234.out))) hb)
         replace BK242 := ah.mk (ay (by ((exact BK242.out))) hb)
         replace HB := ah.mk (ak HB.out hb)
         (try clear hb)
         (try clear ho0)
         obtain ⟨Ao45, co45, eo45⟩ := Kd.cK HO248.out
         ((subst eo45))
         refine hK.out _ _ (c3_ BK234.out (d5_ BK242.out)) (fun hHeld => ?_)
         clear hK K
         refine jK (a' := ?_) ?_ ?_
         rotate_left
         ·show Act.put _ (some 46) _ = _
          simp only [Act.put, sA_, sZ_, sS_, dN, eD]
          rfl
         refine kT (i := 12) (N := some 49) (ls 15 8191) rfl rfl (kC HT_.out (by kernel_rfl)) (by decide) (fun K hK => ?_)
         refine kY Tryz.func41 (by kernel_rfl) rfl #[.slice Ao45 t246.length co45, .int .i64 ((aj x5_1 x33_2).f1)] (by rfl) rfl rfl (by (try simp only [mA_, mC_, mN_]); rfl) ?_
         with_reducible refine (iY.calls _ _ t246 ((aj x5_1 x33_2).f1) t249 _ ?side1 ?side2 A35.out).mono ?_
         (case side1 => repeat ((exact (Kd.aR HO248.out).2.2)))
         (case side2 => exact (Kd.aR HO248.out).2.1)
         rintro e w46 ⟨v250, rfl, ho0, hb⟩
         refine ⟨_, rfl, ?_⟩
         have HO251 := ah.mk (Kd.bS (Kd.rR (Kd.gq (Kd.gq (Kd.gq (Kd.gq ho0 (Kd.iZ (by ((exact HO_5.out))))) (Kd.iZ (by ((exact HO_31.out))))) (Kd.iZ (by ((exact HO245.out))))) (Kd.iZ (by ((exact HO248.out))))) (g := gb242) (o := .cells #[.string ((aj x5_1 x33_2).f0), .int .i64 ((aj x5_1 x33_2).f1), .int .i64 ((aj x5_1 x33_2).f2), .int .i64 ((aj x5_1 x33_2).f3), .string ((aj x5_1 x33_2).f4)] 44 (0, 0)) (by ((exact BK242.out)))) (av HB.out))
         replace HO_5 := ah.mk (Kd.eU (by ((exact HO_5.out))) (Kd.fV ho0) hb)
         replace HO_31 := ah.mk (Kd.eU (by ((exact HO_31.out))) (Kd.fV ho0) hb)
         replace HO245 := ah.mk (Kd.eU (by ((exact HO245.out))) (Kd.fV ho0) hb)
         replace HO248 := ah.mk (Kd.eU (by ((exact HO248.out))) (Kd.fV ho0) hb)
         replace BK234 := ah.mk (ay (by ((exact BK234.out))) hb)
         replace BK242 := ah.mk (ay (by ((exact BK242.out))) hb)
         replace HB := ah.mk (ak HB.out hb)
         (try clear hb)
         (try clear ho0)
         obtain ⟨Ao47, co47, eo47⟩ := Kd.cK HO245.out
         ((subst eo47))
         obtain ⟨Ao48, co48, eo48⟩ := Kd.cK HO251.out
         ((subst eo48))
         refine hK.out _ _ (c3_ BK234.out (d5_ BK242.out)) (fun hHeld => ?_)
         clear hK K
         refine jK (a' := ?_) ?_ ?_
         rotate_left
         ·show Act.put _ (some 49) _ = _
          simp only [Act.put, sA_, sZ_, sS_, dN, eD]
          rfl
         refine kT (i := 13) (N := some 50) (ls 15 16383) rfl rfl (kC HT_.out (by kernel_rfl)) (by decide) (fun K hK => ?_)
         refine kY Tryz.func59 (by kernel_rfl) rfl #[.slice Ao47 t243.length co47, .slice Ao48 t249.length co48] (by rfl) rfl rfl (by (try simp only [mA_, mC_, mN_]); rfl) ?_
         with_reducible refine (ku.calls k2 _ _ t243 _ _ t249 _ _ ?side1 ?side2 ?side3 ?side4 A36.out).mono ?_
         (case side1 => repeat ((exact (Kd.aR HO245.out).2.2)))
         (case side2 => exact (Kd.aR HO245.out).2.1)
         (case side3 => repeat ((exact (Kd.aR HO251.out).2.2)))
         (case side4 => exact (Kd.aR HO251.out).2.1)
         rintro e w49 ⟨rfl, hb⟩
         refine ⟨_, rfl, ?_⟩
         replace HO_5 := ah.mk (Kd.bD (by ((exact HO_5.out))) hb)
         replace HO_31 := ah.mk (Kd.bD (by ((exact HO_31.out))) hb)
         replace HO245 := ah.mk (Kd.bD (by ((exact HO245.out))) hb)
         replace HO248 := ah.mk (Kd.bD (by ((exact HO248.out))) hb)
         replace HO251 := ah.mk (Kd.bD (by ((exact HO251.out))) hb)
         replace BK234 := ah.mk (ay (by ((exact BK234.out))) hb)
         replace BK242 := ah.mk (ay (by ((exact BK242.out))) hb)
         replace HB := ah.mk (ak HB.out hb)
         (try clear hb)
         refine hK.out _ _ (c3_ BK234.out (d5_ BK242.out)) (fun hHeld => ?_)
         clear hK K
         refine jK (a' := ?_) ?_ ?_
         rotate_left
         ·show Act.put _ (some 50) _ = _
          simp only [Act.put, sA_, sZ_, sS_, dN, eD]
          rfl
         refine td_ [(14, 51)] ?_
         iterate 1 (refine pn_ (v := ?_) (a' := ?_) HT_ rfl rfl (by kernel_rfl) rfl (fun _ _ _ h => h) (fun w' => ?_) ?_ ?_; rotate_left 2; (focus go_simp; with_reducible rfl); (focus simp only [Act.put, sA_, sZ_, sS_, dN, eD]; rfl))
         refine dn_ ?_
         refine jQ (jG HT_.out (by kernel_rfl)) ?_
         (try go_wp2)
        ·go_roundg k2
         case measure => have := HK1.out; have := HK2.out; omega
         case rel => exact ⟨(wrap64 (x33_2 + 1)), (by rfl), H', ⟨by have := HK1.out; have := HK2.out; omega⟩, ⟨by (with_reducible repeat ((apply Kd.bf))); exact Kd.dx HO_5.out (fun _ hk => trivial)⟩, ⟨by (with_reducible repeat ((apply Kd.bf))); exact Kd.dx HO_31.out (fun _ hk => trivial)⟩, ⟨by (with_reducible repeat ((refine au ?_ _))); exact BK234.out⟩, ⟨HB.out⟩⟩
        ·go_ret
         exact ⟨by rfl, HB.out⟩
       ·rw [if_neg c30] at H
        have c30b0 : decide (x33_2 < (x5_1.length : Int)) = false := decide_eq_false c30
        clear c30
        obtain rfl := Option.some.inj H
        go_wp2
        go_ret
        exact ⟨by rfl, HB.out⟩
end Go.Y.PZh
namespace Go.Y.PZh
open Go.Y.Given Go.Y.PRd Go.Y.PRr Go.Y.PZo Go.Y.PZf Go.Y.PZe
attribute [local go_sem] dK dL dS dU dB dz dM dJ
mutual
noncomputable def aU.j0 : Nat → Bool → Bool → Bool → ByteArray → Int → Int → Int → ByteArray → Option (Int)
 | 0, _, _, _, _, _, _, _, _ => none
 | k + 1, x5, x6, x47, x275000, x275001, x275002, x275003, x275004 => if x47 = true then (some 1) else (if x275002 = 255 then (if x275001 = 255 then (aU.j1 k x6 (!x5) x275000 x275001 x275002 x275003 x275004) else (aU.j1 k x6 false x275000 x275001 x275002 x275003 x275004)) else (if x275001 = 255 then (aU.j2 k x6 x5 x275000 x275001 x275002 x275003 x275004) else (aU.j2 k x6 false x275000 x275001 x275002 x275003 x275004)))
noncomputable def aU.j1 : Nat → Bool → Bool → ByteArray → Int → Int → Int → ByteArray → Option (Int)
 | 0, _, _, _, _, _, _, _ => none
 | k + 1, x6, x57, x275000, x275001, x275002, x275003, x275004 => if x57 = true then (some 3) else (if x275001 = 255 then (some 0) else (if x6 = true then (some 0) else (some 8)))
noncomputable def aU.j2 : Nat → Bool → Bool → ByteArray → Int → Int → Int → ByteArray → Option (Int)
 | 0, _, _, _, _, _, _, _ => none
 | k + 1, x6, x70, x275000, x275001, x275002, x275003, x275004 => if x70 = true then (some 6) else (if x275001 = 255 then (some 0) else (if x6 = true then (some 7) else (some 0)))
end
noncomputable def aU.f (k : Nat) (a0_0 : ByteArray) (l0_1 : List (S44)) (a1_0 : ByteArray) (a1_1 : Int) (a1_2 : Int) (a1_3 : Int) (a1_4 : ByteArray) : Option (Int) := if a1_3 = 0 then ((aM.f k a1_0 a0_0).bind fun t275 => (if t275 = true then ((gJ.f k a0_0 l0_1 a1_0).bind fun t276 => ((eG.f k a0_0 l0_1 a1_0 a1_1).bind fun t277 => (if a1_2 = 1 then ((fE.f a1_1).bind fun t280 => (if t280 = true then (some 0) else (some 1))) else (if a1_2 = 255 then (aU.j0 k t276 (decide ((t277.length : Int) > 0)) (!a1_4.toList.isEmpty) a1_0 a1_1 a1_2 a1_3 a1_4) else (if a1_2 = 254 then (aU.j0 k t276 (decide ((t277.length : Int) > 0)) (!a1_4.toList.isEmpty) a1_0 a1_1 a1_2 a1_3 a1_4) else (aU.j0 k t276 (decide ((t277.length : Int) > 0)) true a1_0 a1_1 a1_2 a1_3 a1_4)))))) else (some 10))) else (some 1)
def aU.T5 : Bool × List (List Nat × List Nat) := (true, [([], []), ([], []), ([1], [1]), ([0, 2], [0, 2]), ([], []), ([], []), ([5], [5]), ([], []), ([7], [7]), ([4, 6, 8, 3], [4, 6, 8]), ([9], [9]), ([10], [10]), ([3, 9, 0, 1, 2, 3], [3]), ([11, 12, 0, 1, 2, 3, 4, 5, 6, 7, 8, 9, 10, 11, 12], [11])])
def aU.B5 : List Nat := [0, 0, 2, 7, 0, 0, 32, 0, 128, 511, 1023, 2047, 1023, 8191]
theorem aU.uR : gH .any (opsOf Tryz.f60 5) = aU.T5 := by kernel_rfl
theorem aU.rD : gL aU.T5.2 aU.B5 = true := by kernel_rfl
theorem aU.calls (k : Nat) (a0_0 : ByteArray) (A0_1 : Option Addr) (c0_1 : Nat) (l0_1 : List (S44)) (a1_0 : ByteArray) (a1_1 : Int) (a1_2 : Int) (a1_3 : Int) (a1_4 : ByteArray) (r : Int) (w : World) (hr0_1 : Kd.C k44 w A0_1 l0_1.length l0_1) (hc0_1 : l0_1.length ≤ c0_1) (h : aU.f k a0_0 l0_1 a1_0 a1_1 a1_2 a1_3 a1_4 = some r) :
    Calls Tryz.prog 60 #[.agg #[.string a0_0, .slice A0_1 l0_1.length c0_1], .agg #[.string a1_0, .int .i64 a1_1, .int .i64 a1_2, .int .i64 a1_3, .string a1_4]] w fun e w' => e = .returned (.int .i64 r) ∧ Below w.heap.size w w' := by
  have hu31 := Tryz.underlying31
  have hu44 := Tryz.underlying44
  have HR0_1 := ah.mk hr0_1
  have HC0_1 := ah.mk hc0_1
  clear hr0_1 hc0_1
  have HB := ah.mk (Below.refl w.heap.size w)
  have H : (if a1_3 = 0 then ((aM.f k a1_0 a0_0).bind fun t275 => (if t275 = true then ((gJ.f k a0_0 l0_1 a1_0).bind fun t276 => ((eG.f k a0_0 l0_1 a1_0 a1_1).bind fun t277 => (if a1_2 = 1 then ((fE.f a1_1).bind fun t280 => (if t280 = true then (some 0) else (some 1))) else (if a1_2 = 255 then (aU.j0 k t276 (decide ((t277.length : Int) > 0)) (!a1_4.toList.isEmpty) a1_0 a1_1 a1_2 a1_3 a1_4) else (if a1_2 = 254 then (aU.j0 k t276 (decide ((t277.length : Int) > 0)) (!a1_4.toList.isEmpty) a1_0 a1_1 a1_2 a1_3 a1_4) else (aU.j0 k t276 (decide ((t277.length : Int) > 0)) true a1_0 a1_1 a1_2 a1_3 a1_4)))))) else (some 10))) else (some 1)) = some r := h
  clear h
  by_cases c3 : a1_3 = 0
  ·rw [if_pos c3] at H
   have c3b0 : (a1_3 == 0) = true := beq_iff_eq.mpr c3
   have c3b1 : (a1_3 != 0) = false := bne_eq_false_iff_eq.mpr c3
   clear c3
   obtain ⟨t275, A4, H⟩ := bN H
   by_cases c5 : t275 = true
   ·subst c5
    rw [if_pos rfl] at H
    obtain ⟨t276, A6, H⟩ := bN H
    obtain ⟨t277, A7, H⟩ := bN H
    by_cases c8 : a1_2 = 1
    focus
     rw [if_pos c8] at H
     have c8b0 : (a1_2 == 1) = true := beq_iff_eq.mpr c8
     have c8b1 : (a1_2 != 1) = false := bne_eq_false_iff_eq.mpr c8
     clear c8
     obtain ⟨t280, A9, H⟩ := bN H
     by_cases c10 : t280 = true
     focus
      subst c10
      rw [if_pos rfl] at H
     rotate_left
     focus
      replace c10 := Bool.eq_false_iff.mpr c10
      subst c10
      rw [if_neg ff_] at H
     rotate_left
     all_goals
      obtain rfl := Option.some.inj H
    rotate_left 2
    focus
     rw [if_neg c8] at H
     have c8b0 : (a1_2 == 1) = false := beq_eq_false_iff_ne.mpr c8
     have c8b1 : (a1_2 != 1) = true := bne_iff_ne.mpr c8
     have HC33 := ah.mk H
     clear H
    rotate_left
    all_goals
     go_enter Tryz.func60, Tryz.ntmps60
     (try go_wp2_with (first | (((refine be_ (N := 2) (cs := #[.string a0_0, .slice A0_1 l0_1.length c0_1]) (t := 31) ?_)); intro gb273 hg w11 hbox hb; have BK273 := ah.mk (hbox); have GW273 := ah.mk (ge_ hg (av HB.out)); have GE273 := ah.mk (ge_ hg (av HB.out)); replace HB := ah.mk (ak HB.out hb); clear hb hbox hg) | (((refine be_ (N := 3) (cs := #[.string a1_0, .int .i64 a1_1, .int .i64 a1_2, .int .i64 a1_3, .string a1_4]) (t := 44) ?_)); intro gb274 hg w12 hbox hb; have BK274 := ah.mk (hbox); have GW274 := ah.mk (ge_ hg (av HB.out)); have GE274 := ah.mk (ge_ hg (av HB.out)); have NB273_274 := ah.mk (nl_ hg (by ((exact BK273.out)))); have NB274_273 := ah.mk (nr_ hg (by ((exact BK273.out)))); replace BK273 := ah.mk (ay (by ((exact BK273.out))) hb); replace HB := ah.mk (ak HB.out hb); clear hb hbox hg; have hnb13 := NB274_273.out; have hnc13 := NB273_274.out; obtain ⟨hcz14_0, hcz14_1, hcz14_2, hcz14_3, hcz14_4, hfz14_0, hfz14_1, hfz14_2, hfz14_3, hfz14_4⟩ := z5_ BK274.out; obtain ⟨hcz15_0, hcz15_1, hfz15_0, hfz15_1⟩ := z2_ BK273.out) | ((with_reducible refine bX (f := 57) rfl ?_); refine fq (some 14) rfl rfl Tryz.func57 (by kernel_rfl) rfl #[.string a1_0, .string a0_0] rfl (by (try simp only [mA_, mC_, mN_]); rfl) ?_; (with_reducible refine (aM.calls k a1_0 a0_0 _ _ A4.out).mono ?_); rintro e w16 ⟨rfl, hb⟩; refine ⟨_, rfl, ?_⟩; replace BK273 := ah.mk (ay (by ((exact BK273.out))) hb); replace BK274 := ah.mk (ay (by ((exact BK274.out))) hb); replace HB := ah.mk (ak HB.out hb); (try clear hb))))
     replace BK273 := ah.mk (dW BK273.out)
     replace BK274 := ah.mk (dW BK274.out)
     replace HB := ah.mk (bP HB.out)
     refine gX (n := 14) (ds := []) (ls 14 0) (by kernel_rfl) rfl rfl (c2_ BK273.out (d5_ BK274.out)) (fun hHeld => ?_); refine fJ aU.uR aU.rD (fun HT_ HW_ => ?_)
     generalize w16.drew = w17 at BK273 BK274 HB hHeld ⊢
     refine td_ [(1, 17), (5, 21), (7, 23)] ?_
     iterate 3 (refine pn_ (v := ?_) (a' := ?_) HT_ rfl rfl (by kernel_rfl) rfl (fun _ _ _ h => h) (fun w' => ?_) ?_ ?_; rotate_left 2; (focus go_simp; with_reducible rfl); (focus simp only [Act.put, sA_, sZ_, sS_, dN, eD]; rfl))
     refine dn_ ?_
     refine td_ [(0, 16), (2, 18), (4, 20), (6, 22), (8, 24)] ?_
     iterate 5 (refine tn_ (v := ?_) (a' := ?_) HT_ HW_ rfl rfl (by kernel_rfl) rfl (fun _ _ _ h => h) hHeld ?_ ?_ ?_; rotate_left 2; (focus rintro w' ⟨s0, s1, s2, s3, s4, s5, s6⟩; go_simp; with_reducible rfl); (focus simp only [Act.put, sA_, sZ_, sS_, dN, eD]; rfl))
     refine dn_ ?_
     refine kT (i := 3) (N := some 19) (ls 14 511) rfl rfl (kC HT_.out (by kernel_rfl)) (by decide) (fun K hK => ?_)
     refine kY Tryz.func19 (by kernel_rfl) rfl #[.agg #[.string a0_0, .slice A0_1 l0_1.length c0_1], .string a1_0] (by rfl) rfl rfl (by (try simp only [mA_, mC_, mN_]); rfl) ?_
     with_reducible refine (gJ.calls k a0_0 _ _ l0_1 a1_0 t276 _ ?side1 ?side2 A6.out).mono ?_
     (case side1 => repeat ((exact (Kd.eO HR0_1.out HB.out))))
     (case side2 => exact HC0_1.out)
     rintro e w18 ⟨rfl, hb⟩
     refine ⟨_, rfl, ?_⟩
     replace BK273 := ah.mk (ay (by ((exact BK273.out))) hb)
     replace BK274 := ah.mk (ay (by ((exact BK274.out))) hb)
     replace HB := ah.mk (ak HB.out hb)
     (try clear hb)
     refine hK.out _ _ (c2_ BK273.out (d5_ BK274.out)) (fun hHeld => ?_)
     clear hK K
     refine jK (a' := ?_) ?_ ?_
     rotate_left
     ·show Act.put _ (some 19) _ = _
      simp only [Act.put, sA_, sZ_, sS_, dN, eD]
      rfl
     refine kT (i := 9) (N := some 25) (ls 14 1023) rfl rfl (kC HT_.out (by kernel_rfl)) (by decide) (fun K hK => ?_)
     refine kY Tryz.func15 (by kernel_rfl) rfl #[.agg #[.string a0_0, .slice A0_1 l0_1.length c0_1], .string a1_0, .int .i64 a1_1] (by rfl) rfl rfl (by (try simp only [mA_, mC_, mN_]); rfl) ?_
     with_reducible refine (eG.calls k a0_0 _ _ l0_1 a1_0 a1_1 t277 _ ?side1 ?side2 A7.out).mono ?_
     (case side1 => repeat ((exact (Kd.eO HR0_1.out HB.out))))
     (case side2 => exact HC0_1.out)
     rintro e w19 ⟨v278, rfl, ho0, hb⟩
     refine ⟨_, rfl, ?_⟩
     have HO279 := ah.mk (Kd.bS (Kd.rR ho0 (g := gb274) (o := .cells #[.string a1_0, .int .i64 a1_1, .int .i64 a1_2, .int .i64 a1_3, .string a1_4] 44 (0, 0)) (by ((exact BK274.out)))) (av HB.out))
     replace BK273 := ah.mk (ay (by ((exact BK273.out))) hb)
     replace BK274 := ah.mk (ay (by ((exact BK274.out))) hb)
     replace HB := ah.mk (ak HB.out hb)
     (try clear hb)
     (try clear ho0)
     obtain ⟨Ao20, co20, eo20⟩ := Kd.cK HO279.out
     ((subst eo20))
     refine hK.out _ _ (c2_ BK273.out (d5_ BK274.out)) (fun hHeld => ?_)
     clear hK K
     refine jK (a' := ?_) ?_ ?_
     rotate_left
     ·show Act.put _ (some 25) _ = _
      simp only [Act.put, sA_, sZ_, sS_, dN, eD]
      rfl
     refine td_ [(10, 26), (11, 27), (12, 5), (13, 6)] ?_
     iterate 4 (refine pn_ (v := ?_) (a' := ?_) HT_ rfl rfl (by kernel_rfl) rfl (fun _ _ _ h => h) (fun w' => ?_) ?_ ?_; rotate_left 2; (focus go_simp; with_reducible rfl); (focus simp only [Act.put, sA_, sZ_, sS_, dN, eD]; rfl))
     refine dn_ ?_
     refine jQ (jG HT_.out (by kernel_rfl)) ?_
    iterate 2
     focus
      obtain ⟨hcz21_0, hcz21_1, hcz21_2, hcz21_3, hcz21_4, hfz21_0, hfz21_1, hfz21_2, hfz21_3, hfz21_4⟩ := z5_ BK274.out
      (try go_wp2_with ((((with_reducible refine bX (f := 88) rfl ?_); refine fq (some 33) rfl rfl Tryz.func88 (by kernel_rfl) rfl #[.int .i64 a1_1] rfl (by (try simp only [mA_, mC_, mN_]); rfl) ?_; (with_reducible refine (fE.calls a1_1 _ _ A9.out).mono ?_); rintro e w' ⟨rfl, ⟨nd, rfl⟩⟩; refine ⟨_, rfl, ?_⟩))))
      go_ret
      exact ⟨by rfl, by repeat ((with_reducible first | exact HB.out | apply aY))⟩
    ·obtain ⟨hcz44_0, hcz44_1, hcz44_2, hcz44_3, hcz44_4, hfz44_0, hfz44_1, hfz44_2, hfz44_3, hfz44_4⟩ := z5_ BK274.out
     go_upto_region 10 with (fail)
     go_cut [47] (fun v47 wc => ∃ (kq : Nat) (x47_32 : Bool), v47 = .bool x47_32 ∧ ah (aU.j0 kq t276 (decide ((t277.length : Int) > 0)) x47_32 a1_0 a1_1 a1_2 a1_3 a1_4 = some r) ∧ ah (kq ≤ k) ∧ ah (wc.heap[gb273]? = some (.cells #[.string a0_0, (.slice A0_1 l0_1.length c0_1)] 31 (0, 0))) ∧ ah (wc.heap[gb274]? = some (.cells #[.string a1_0, .int .i64 a1_1, .int .i64 a1_2, .int .i64 a1_3, .string a1_4] 44 (0, 0))) ∧ ah (Below w.heap.size w wc))
     case first =>
      have H := HC33.out
      clear HC33
      by_cases c45 : a1_2 = 255
      focus
       rw [if_pos c45] at H
       have c45b0 : (a1_2 == 255) = true := beq_iff_eq.mpr c45
       have c45b1 : (a1_2 != 255) = false := bne_eq_false_iff_eq.mpr c45
       clear c45
      rotate_left
      focus
       rw [if_neg c45] at H
       have c45b0 : (a1_2 == 255) = false := beq_eq_false_iff_ne.mpr c45
       have c45b1 : (a1_2 != 255) = true := bne_iff_ne.mpr c45
      rotate_left
      all_goals
       (skip)
      rotate_left
      focus
       by_cases c48 : a1_2 = 254
       focus
        rw [if_pos c48] at H
        have c48b0 : (a1_2 == 254) = true := beq_iff_eq.mpr c48
        have c48b1 : (a1_2 != 254) = false := bne_eq_false_iff_eq.mpr c48
        clear c48
       rotate_left
       focus
        rw [if_neg c48] at H
        have c48b0 : (a1_2 == 254) = false := beq_eq_false_iff_ne.mpr c48
        have c48b1 : (a1_2 != 254) = true := bne_iff_ne.mpr c48
       rotate_left
      rotate_left 2
      all_goals
       have H' := ah.mk H
       clear H
       have hnb46 := NB274_273.out
       have hnc46 := NB273_274.out
       obtain ⟨hcz47_0, hcz47_1, hcz47_2, hcz47_3, hcz47_4, hfz47_0, hfz47_1, hfz47_2, hfz47_3, hfz47_4⟩ := z5_ BK274.out
       go_wp2
       go_meet
      ·case rel => exact ⟨_, ((!a1_4.toList.isEmpty)), (by rfl), H', ⟨by omega⟩, ⟨by (with_reducible repeat ((refine au ?_ _))); exact BK273.out⟩, ⟨by (with_reducible repeat ((refine au ?_ _))); exact BK274.out⟩, ⟨HB.out⟩⟩
      ·case rel => exact ⟨_, ((!a1_4.toList.isEmpty)), (by rfl), H', ⟨by omega⟩, ⟨by (with_reducible repeat ((refine au ?_ _))); exact BK273.out⟩, ⟨by (with_reducible repeat ((refine au ?_ _))); exact BK274.out⟩, ⟨HB.out⟩⟩
      ·case rel => exact ⟨_, (true), (by rfl), H', ⟨by omega⟩, ⟨by (with_reducible repeat ((refine au ?_ _))); exact BK273.out⟩, ⟨by (with_reducible repeat ((refine au ?_ _))); exact BK274.out⟩, ⟨HB.out⟩⟩
     case rest =>
      clear HC33
      (try clear c8)
      (try clear c8b0)
      (try clear c8b1)
      (try clear hcz14_0)
      (try clear hcz14_1)
      (try clear hcz14_2)
      (try clear hcz14_3)
      (try clear hcz14_4)
      (try clear hcz15_0)
      (try clear hcz15_1)
      (try clear hcz44_0)
      (try clear hcz44_1)
      (try clear hcz44_2)
      (try clear hcz44_3)
      (try clear hcz44_4)
      (try clear hfz14_0)
      (try clear hfz14_1)
      (try clear hfz14_2)
      (try clear hfz14_3)
      (try clear hfz14_4)
      (try clear hfz15_0)
      (try clear hfz15_1)
      (try clear hfz44_0)
      (try clear hfz44_1)
      (try clear hfz44_2)
      (try clear hfz44_3)
      (try clear hfz44_4)
      obtain ⟨kq, x47_32, rfl, HA, HJ32, BK273, BK274, HB⟩ := hcut
      cases kq with
      | zero => exact absurd HA.out (by simp [aU.j0])
      | succ kj32 =>
       have H := HA.out
       clear HA
       simp only [aU.j0] at H
       by_cases c53 : x47_32 = true
       ·subst c53
        rw [if_pos rfl] at H
        obtain rfl := Option.some.inj H
        go_wp2
        go_ret
        exact ⟨by rfl, HB.out⟩
       ·replace c53 := Bool.eq_false_iff.mpr c53
        subst c53
        rw [if_neg ff_] at H
        by_cases c54 : a1_2 = 255
        focus
         rw [if_pos c54] at H
         have c54b0 : (a1_2 == 255) = true := beq_iff_eq.mpr c54
         have c54b1 : (a1_2 != 255) = false := bne_eq_false_iff_eq.mpr c54
         clear c54
        rotate_left
        focus
         rw [if_neg c54] at H
         have c54b0 : (a1_2 == 255) = false := beq_eq_false_iff_ne.mpr c54
         have c54b1 : (a1_2 != 255) = true := bne_iff_ne.mpr c54
        rotate_left
        all_goals
         have HC55 := ah.mk H
         clear H
         have hnb56 := NB274_273.out
         have hnc56 := NB273_274.out
        ·obtain ⟨hcz57_0, hcz57_1, hcz57_2, hcz57_3, hcz57_4, hfz57_0, hfz57_1, hfz57_2, hfz57_3, hfz57_4⟩ := z5_ BK274.out
         go_upto_region 13 with (fail)
         go_cut [57] (fun v57 wc => ∃ (kq : Nat) (x57_54 : Bool), v57 = .bool x57_54 ∧ ah (aU.j1 kq (decide ((t277.length : Int) > 0)) x57_54 a1_0 a1_1 a1_2 a1_3 a1_4 = some r) ∧ ah (kq ≤ kj32) ∧ ah (wc.heap[gb273]? = some (.cells #[.string a0_0, (.slice A0_1 l0_1.length c0_1)] 31 (0, 0))) ∧ ah (wc.heap[gb274]? = some (.cells #[.string a1_0, .int .i64 a1_1, .int .i64 a1_2, .int .i64 a1_3, .string a1_4] 44 (0, 0))) ∧ ah (Below w.heap.size w wc))
         case first =>
          have H := HC55.out
          clear HC55
          by_cases c58 : a1_1 = 255
          focus
           rw [if_pos c58] at H
           have c58b0 : (a1_1 == 255) = true := beq_iff_eq.mpr c58
           have c58b1 : (a1_1 != 255) = false := bne_eq_false_iff_eq.mpr c58
           clear c58
          rotate_left
          focus
           rw [if_neg c58] at H
           have c58b0 : (a1_1 == 255) = false := beq_eq_false_iff_ne.mpr c58
           have c58b1 : (a1_1 != 255) = true := bne_iff_ne.mpr c58
          rotate_left
          all_goals
           (skip)
           have H' := ah.mk H
           clear H
           have hnb59 := NB274_273.out
           have hnc59 := NB273_274.out
           obtain ⟨hcz60_0, hcz60_1, hcz60_2, hcz60_3, hcz60_4, hfz60_0, hfz60_1, hfz60_2, hfz60_3, hfz60_4⟩ := z5_ BK274.out
           go_wp2
           go_meet
          ·case rel => exact ⟨_, (!t276), (by rfl), H', ⟨by have := HJ32.out; omega⟩, ⟨by (with_reducible repeat ((refine au ?_ _))); exact BK273.out⟩, ⟨by (with_reducible repeat ((refine au ?_ _))); exact BK274.out⟩, ⟨HB.out⟩⟩
          ·case rel => exact ⟨_, (false), (by rfl), H', ⟨by have := HJ32.out; omega⟩, ⟨by (with_reducible repeat ((refine au ?_ _))); exact BK273.out⟩, ⟨by (with_reducible repeat ((refine au ?_ _))); exact BK274.out⟩, ⟨HB.out⟩⟩
         case rest =>
          clear HC55
          (try clear c54b0)
          (try clear c54b1)
          (try clear hcz57_0)
          (try clear hcz57_1)
          (try clear hcz57_2)
          (try clear hcz57_3)
          (try clear hcz57_4)
          (try clear hfz57_0)
          (try clear hfz57_1)
          (try clear hfz57_2)
          (try clear hfz57_3)
          (try clear hfz57_4)
          obtain ⟨kq, x57_54, rfl, HA, HJ54, BK273, BK274, HB⟩ := hcut
          cases kq with
          | zero => exact absurd HA.out (by simp [aU.j1])
          | succ kj54 =>
           have H := HA.out
           clear HA
           simp only [aU.j1] at H
           by_cases c63 : x57_54 = true
           focus
            subst c63
            rw [if_pos rfl] at H
            obtain rfl := Option.some.inj H
           rotate_left
           focus
            replace c63 := Bool.eq_false_iff.mpr c63
            subst c63
            rw [if_neg ff_] at H
            by_cases c64 : a1_1 = 255
            focus
             rw [if_pos c64] at H
             have c64b0 : (a1_1 == 255) = true := beq_iff_eq.mpr c64
             have c64b1 : (a1_1 != 255) = false := bne_eq_false_iff_eq.mpr c64
             clear c64
            rotate_left
            focus
             rw [if_neg c64] at H
             have c64b0 : (a1_1 == 255) = false := beq_eq_false_iff_ne.mpr c64
             have c64b1 : (a1_1 != 255) = true := bne_iff_ne.mpr c64
             by_cases c67 : (decide ((t277.length : Int) > 0)) = true
             focus
              rw [if_pos c67] at H
              have c67b0 : (decide ((t277.length : Int) > 0)) = true := c67
              have c67b5 : decide (0 < (t277.length : Int)) = true := c67b0
              have c67b6 : decide (0 < t277.length) = true := decide_eq_true (by have h_ := of_decide_eq_true c67b0; omega)
             rotate_left
             focus
              rw [if_neg c67] at H
              have c67b0 : (decide ((t277.length : Int) > 0)) = false := by simpa using c67
              have c67b5 : decide (0 < (t277.length : Int)) = false := c67b0
              have c67b6 : decide (0 < t277.length) = false := decide_eq_false (by have h_ := of_decide_eq_false c67b0; omega)
             rotate_left
             all_goals
              clear c67
            rotate_left 2
            all_goals
             obtain rfl := Option.some.inj H
             have hnb65 := NB274_273.out
             have hnc65 := NB273_274.out
             obtain ⟨hcz66_0, hcz66_1, hcz66_2, hcz66_3, hcz66_4, hfz66_0, hfz66_1, hfz66_2, hfz66_3, hfz66_4⟩ := z5_ BK274.out
           rotate_left 3
           all_goals
            go_wp2
            go_ret
            exact ⟨by rfl, HB.out⟩
        ·obtain ⟨hcz74_0, hcz74_1, hcz74_2, hcz74_3, hcz74_4, hfz74_0, hfz74_1, hfz74_2, hfz74_3, hfz74_4⟩ := z5_ BK274.out
         go_upto_region 18 with (fail)
         go_cut [70] (fun v70 wc => ∃ (kq : Nat) (x70_71 : Bool), v70 = .bool x70_71 ∧ ah (aU.j2 kq (decide ((t277.length : Int) > 0)) x70_71 a1_0 a1_1 a1_2 a1_3 a1_4 = some r) ∧ ah (kq ≤ kj32) ∧ ah (wc.heap[gb273]? = some (.cells #[.string a0_0, (.slice A0_1 l0_1.length c0_1)] 31 (0, 0))) ∧ ah (wc.heap[gb274]? = some (.cells #[.string a1_0, .int .i64 a1_1, .int .i64 a1_2, .int .i64 a1_3, .string a1_4] 44 (0, 0))) ∧ ah (Below w.heap.size w wc))
         case first =>
          have H := HC55.out
          clear HC55
          by_cases c75 : a1_1 = 255
          focus
           rw [if_pos c75] at H
           have c75b0 : (a1_1 == 255) = true := beq_iff_eq.mpr c75
           have c75b1 : (a1_1 != 255) = false := bne_eq_false_iff_eq.mpr c75
           clear c75
          rotate_left
          focus
           rw [if_neg c75] at H
           have c75b0 : (a1_1 == 255) = false := beq_eq_false_iff_ne.mpr c75
           have c75b1 : (a1_1 != 255) = true := bne_iff_ne.mpr c75
          rotate_left
          all_goals
           (skip)
           have H' := ah.mk H
           clear H
           have hnb76 := NB274_273.out
           have hnc76 := NB273_274.out
           obtain ⟨hcz77_0, hcz77_1, hcz77_2, hcz77_3, hcz77_4, hfz77_0, hfz77_1, hfz77_2, hfz77_3, hfz77_4⟩ := z5_ BK274.out
           go_wp2
           go_meet
          ·case rel => exact ⟨_, (t276), (by rfl), H', ⟨by have := HJ32.out; omega⟩, ⟨by (with_reducible repeat ((refine au ?_ _))); exact BK273.out⟩, ⟨by (with_reducible repeat ((refine au ?_ _))); exact BK274.out⟩, ⟨HB.out⟩⟩
          ·case rel => exact ⟨_, (false), (by rfl), H', ⟨by have := HJ32.out; omega⟩, ⟨by (with_reducible repeat ((refine au ?_ _))); exact BK273.out⟩, ⟨by (with_reducible repeat ((refine au ?_ _))); exact BK274.out⟩, ⟨HB.out⟩⟩
         case rest =>
          clear HC55
          (try clear c54)
          (try clear c54b0)
          (try clear c54b1)
          (try clear hcz74_0)
          (try clear hcz74_1)
          (try clear hcz74_2)
          (try clear hcz74_3)
          (try clear hcz74_4)
          (try clear hfz74_0)
          (try clear hfz74_1)
          (try clear hfz74_2)
          (try clear hfz74_3)
          (try clear hfz74_4)
          obtain ⟨kq, x70_71, rfl, HA, HJ71, BK273, BK274, HB⟩ := hcut
          cases kq with
          | zero => exact absurd HA.out (by simp [aU.j2])
          | succ kj71 =>
           have H := HA.out
           clear HA
           simp only [aU.j2] at H
           by_cases c80 : x70_71 = true
           focus
            subst c80
            rw [if_pos rfl] at H
            obtain rfl := Option.some.inj H
           rotate_left
           focus
            replace c80 := Bool.eq_false_iff.mpr c80
            subst c80
            rw [if_neg ff_] at H
            by_cases c81 : a1_1 = 255
            focus
             rw [if_pos c81] at H
             have c81b0 : (a1_1 == 255) = true := beq_iff_eq.mpr c81
             have c81b1 : (a1_1 != 255) = false := bne_eq_false_iff_eq.mpr c81
             clear c81
            rotate_left
            focus
             rw [if_neg c81] at H
             have c81b0 : (a1_1 == 255) = false := beq_eq_false_iff_ne.mpr c81
             have c81b1 : (a1_1 != 255) = true := bne_iff_ne.mpr c81
             by_cases c84 : (decide ((t277.length : Int) > 0)) = true
             focus
              rw [if_pos c84] at H
              have c84b0 : (decide ((t277.length : Int) > 0)) = true := c84
              have c84b5 : decide (0 < (t277.length : Int)) = true := c84b0
              have c84b6 : decide (0 < t277.length) = true := decide_eq_true (by have h_ := of_decide_eq_true c84b0; omega)
             rotate_left
             focus
              rw [if_neg c84] at H
              have c84b0 : (decide ((t277.length : Int) > 0)) = false := by simpa using c84
              have c84b5 : decide (0 < (t277.length : Int)) = false := c84b0
              have c84b6 : decide (0 < t277.length) = false := decide_eq_false (by have h_ := of_decide_eq_false c84b0; omega)
             rotate_left
             all_goals
              clear c84
            rotate_left 2
            all_goals
             obtain rfl := Option.some.inj H
             have hnb82 := NB274_273.out
             have hnc82 := NB273_274.out
             obtain ⟨hcz83_0, hcz83_1, hcz83_2, hcz83_3, hcz83_4, hfz83_0, hfz83_1, hfz83_2, hfz83_3, hfz83_4⟩ := z5_ BK274.out
           rotate_left 3
           all_goals
            go_wp2
            go_ret
            exact ⟨by rfl, HB.out⟩
   ·replace c5 := Bool.eq_false_iff.mpr c5
    subst c5
    rw [if_neg ff_] at H
    obtain rfl := Option.some.inj H
    go_enter Tryz.func60, Tryz.ntmps60
    go_wp2_with (first | (((refine be_ (N := 2) (cs := #[.string a0_0, .slice A0_1 l0_1.length c0_1]) (t := 31) ?_)); intro gb273 hg w89 hbox hb; have BK273 := ah.mk (hbox); have GW273 := ah.mk (ge_ hg (av HB.out)); have GE273 := ah.mk (ge_ hg (av HB.out)); replace HB := ah.mk (ak HB.out hb); clear hb hbox hg) | (((refine be_ (N := 3) (cs := #[.string a1_0, .int .i64 a1_1, .int .i64 a1_2, .int .i64 a1_3, .string a1_4]) (t := 44) ?_)); intro gb274 hg w90 hbox hb; have BK274 := ah.mk (hbox); have GW274 := ah.mk (ge_ hg (av HB.out)); have GE274 := ah.mk (ge_ hg (av HB.out)); have NB273_274 := ah.mk (nl_ hg (by ((exact BK273.out)))); have NB274_273 := ah.mk (nr_ hg (by ((exact BK273.out)))); replace BK273 := ah.mk (ay (by ((exact BK273.out))) hb); replace HB := ah.mk (ak HB.out hb); clear hb hbox hg; have hnb91 := NB274_273.out; have hnc91 := NB273_274.out; obtain ⟨hcz92_0, hcz92_1, hcz92_2, hcz92_3, hcz92_4, hfz92_0, hfz92_1, hfz92_2, hfz92_3, hfz92_4⟩ := z5_ BK274.out; obtain ⟨hcz93_0, hcz93_1, hfz93_0, hfz93_1⟩ := z2_ BK273.out) | ((with_reducible refine bX (f := 57) rfl ?_); refine fq (some 14) rfl rfl Tryz.func57 (by kernel_rfl) rfl #[.string a1_0, .string a0_0] rfl (by (try simp only [mA_, mC_, mN_]); rfl) ?_; (with_reducible refine (aM.calls k a1_0 a0_0 _ _ A4.out).mono ?_); rintro e w94 ⟨rfl, hb⟩; refine ⟨_, rfl, ?_⟩; replace BK273 := ah.mk (ay (by ((exact BK273.out))) hb); replace BK274 := ah.mk (ay (by ((exact BK274.out))) hb); replace HB := ah.mk (ak HB.out hb); (try clear hb)))
    go_ret
    exact ⟨by rfl, HB.out⟩
  ·rw [if_neg c3] at H
   have c3b0 : (a1_3 == 0) = false := beq_eq_false_iff_ne.mpr c3
   have c3b1 : (a1_3 != 0) = true := bne_iff_ne.mpr c3
   obtain rfl := Option.some.inj H
   go_enter Tryz.func60, Tryz.ntmps60
   go_wp2_with (first | (((refine be_ (N := 2) (cs := #[.string a0_0, .slice A0_1 l0_1.length c0_1]) (t := 31) ?_)); intro gb273 hg w95 hbox hb; have BK273 := ah.mk (hbox); have GW273 := ah.mk (ge_ hg (av HB.out)); have GE273 := ah.mk (ge_ hg (av HB.out)); replace HB := ah.mk (ak HB.out hb); clear hb hbox hg) | (((refine be_ (N := 3) (cs := #[.string a1_0, .int .i64 a1_1, .int .i64 a1_2, .int .i64 a1_3, .string a1_4]) (t := 44) ?_)); intro gb274 hg w96 hbox hb; have BK274 := ah.mk (hbox); have GW274 := ah.mk (ge_ hg (av HB.out)); have GE274 := ah.mk (ge_ hg (av HB.out)); have NB273_274 := ah.mk (nl_ hg (by ((exact BK273.out)))); have NB274_273 := ah.mk (nr_ hg (by ((exact BK273.out)))); replace BK273 := ah.mk (ay (by ((exact BK273.out))) hb); replace HB := ah.mk (ak HB.out hb); clear hb hbox hg; have hnb97 := NB274_273.out; have hnc97 := NB273_274.out; obtain ⟨hcz98_0, hcz98_1, hcz98_2, hcz98_3, hcz98_4, hfz98_0, hfz98_1, hfz98_2, hfz98_3, hfz98_4⟩ := z5_ BK274.out))
   go_ret
   exact ⟨by rfl, HB.out⟩
end Go.Y.PZh
namespace Go.Y.PZh
open Go.Y.Given Go.Y.PRd Go.Y.PRr Go.Y.PZo Go.Y.PZf Go.Y.PZe
attribute [local go_sem] dK dL dS dU dB dz dM dJ
mutual
noncomputable def aW.l0 : Nat → List (S44) → List (S44) → Int → Option (Bool)
 | 0, _, _, _ => none
 | k + 1, x0, x1, x5 => if x5 < (x0.length : Int) then (aW.l1 k x0 x1 x5 false 0) else (some true)
noncomputable def aW.l1 : Nat → List (S44) → List (S44) → Int → Bool → Int → Option (Bool)
 | 0, _, _, _, _, _ => none
 | k + 1, x0, x1, x5, x6, x7 => if x7 < (x1.length : Int) then (if x6 = true then (aW.l1 k x0 x1 x5 true (wrap64 (x7 + 1))) else (if 0 ≤ x5 then (if x5 < (x0.length : Int) then (if 0 ≤ x7 then ((eP.f k ((aj x0 x5).f0) ((aj x0 x5).f1) ((aj x0 x5).f2) ((aj x0 x5).f3) ((aj x0 x5).f4) ((aj x1 x7).f0) ((aj x1 x7).f1) ((aj x1 x7).f2) ((aj x1 x7).f3) ((aj x1 x7).f4)).bind fun t283 => (aW.l1 k x0 x1 x5 t283 (wrap64 (x7 + 1)))) else (none)) else (none)) else (none))) else (if x6 = true then (aW.l0 k x0 x1 (wrap64 (x5 + 1))) else (some false))
end
noncomputable def aW.f (k : Nat) (l0 : List (S44)) (l1 : List (S44)) : Option (Bool) := aW.l0 k l0 l1 0
def aW.T8 : Bool × List (List Nat × List Nat) := (true, [([], []), ([0], [0]), ([1], [1]), ([1], [1]), ([2, 3, 1], [1, 2, 3]), ([4, 1], [1, 4]), ([1], [1]), ([1], [1]), ([6, 7, 1], [1, 6, 7]), ([8, 1], [1, 8]), ([5, 9, 1, 1], [1, 5, 9]), ([1, 10], [1, 10]), ([11, 10, 0, 1, 2, 3, 4, 5, 6, 7, 8, 9, 10, 11], [0, 11])])
def aW.B8 : List Nat := [0, 1, 3, 3, 15, 31, 3, 3, 195, 451, 1023, 2047, 4095]
theorem aW.CK : gH .any (opsOf Tryz.f61 8) = aW.T8 := by kernel_rfl
theorem aW.yT : gL aW.T8.2 aW.B8 = true := by kernel_rfl
theorem aW.calls (k : Nat) (A0 : Option Addr) (c0 : Nat) (l0 : List (S44)) (A1 : Option Addr) (c1 : Nat) (l1 : List (S44)) (r : Bool) (w : World) (hr0 : Kd.C k44 w A0 l0.length l0) (hc0 : l0.length ≤ c0) (hr1 : Kd.C k44 w A1 l1.length l1) (hc1 : l1.length ≤ c1) (h : aW.f k l0 l1 = some r) :
    Calls Tryz.prog 61 #[.slice A0 l0.length c0, .slice A1 l1.length c1] w fun e w' => e = .returned (.bool r) ∧ Below w.heap.size w w' := by
  have hu44 := Tryz.underlying44
  have HR0 := ah.mk hr0
  have HC0 := ah.mk hc0
  clear hr0 hc0
  have HR1 := ah.mk hr1
  have HC1 := ah.mk hc1
  clear hr1 hc1
  have HB := ah.mk (Below.refl w.heap.size w)
  have H : (aW.l0 k l0 l1 0) = some r := h
  clear h
  have H' := ah.mk H
  clear H
  go_enter Tryz.func61, Tryz.ntmps61
  go_wp2
  go_loopg [5] k (fun kq v5 w' => ∃ (x5_1 : Int), v5 = .int .i64 x5_1 ∧ ah (aW.l0 kq l0 l1 x5_1 = some r) ∧ ah (kq ≤ k) ∧ ah (Below w.heap.size w w'))
  case atStart => exact ⟨(0), (by rfl), H', ⟨Nat.le_refl _⟩, ⟨HB.out⟩⟩
  case round =>
   clear H'
   obtain ⟨x5_1, rfl, HA, HK1, HB⟩ := hrel
   cases gk with
   | zero => exact absurd HA.out (by simp [aW.l0])
   | succ k1 =>
    have H := HA.out
    clear HA
    simp only [aW.l0] at H
    by_cases c3 : x5_1 < (l0.length : Int)
    ·rw [if_pos c3] at H
     have c3b0 : decide (x5_1 < (l0.length : Int)) = true := decide_eq_true c3
     clear c3
     have H' := ah.mk H
     clear H
     go_wp2
     go_loopg [6, 7] k1 (fun kq v6 v7 w' => ∃ (x6_2 : Bool) (x7_2 : Int), v6 = .bool x6_2 ∧ v7 = .int .i64 x7_2 ∧ ah (aW.l1 kq l0 l1 x5_1 x6_2 x7_2 = some r) ∧ ah (kq ≤ k1) ∧ ah (Below w.heap.size w w'))
     case atStart => exact ⟨(false), (0), (by rfl), (by rfl), H', ⟨Nat.le_refl _⟩, ⟨HB.out⟩⟩
     case round =>
      clear H'
      (try clear c3b0)
      obtain ⟨x6_2, x7_2, rfl, rfl, HA, HK2, HB⟩ := hrel
      cases gk with
      | zero => exact absurd HA.out (by simp [aW.l1])
      | succ k2 =>
       have H := HA.out
       clear HA
       simp only [aW.l1] at H
       by_cases c4 : x7_2 < (l1.length : Int)
       ·rw [if_pos c4] at H
        have c4b0 : decide (x7_2 < (l1.length : Int)) = true := decide_eq_true c4
        clear c4
        by_cases c5 : x6_2 = true
        focus
         subst c5
         rw [if_pos rfl] at H
        rotate_left
        focus
         replace c5 := Bool.eq_false_iff.mpr c5
         subst c5
         rw [if_neg ff_] at H
         obtain ⟨c7b0, H⟩ := fA H
         obtain ⟨c8b0, H⟩ := fA H
         obtain ⟨c9b0, H⟩ := fA H
         obtain ⟨t283, A10, H⟩ := bN H
        rotate_left
        all_goals
         have H' := ah.mk H
         clear H
         (try go_wp2)
         replace HB := ah.mk (bP HB.out)
        focus
         refine gX (n := 13) (S := fun w' => True) (ds := []) (ls 13 0) (by kernel_rfl) rfl rfl trivial (fun hHeld => ?_); refine fJ aW.CK aW.yT (fun HT_ HW_ => ?_)
         generalize wr.drew = w6 at HB hHeld ⊢
         refine td_ [(0, 20), (1, 21)] ?_
         iterate 2 (refine pn_ (v := ?_) (a' := ?_) HT_ rfl rfl (by kernel_rfl) rfl (fun _ _ _ h => h) (fun w' => ?_) ?_ ?_; rotate_left 2; (focus go_simp; with_reducible rfl); (focus simp only [Act.put, sA_, sZ_, sS_, dN, eD]; rfl))
         refine dn_ ?_
         refine td_ [(2, 22), (3, 23), (4, 24), (5, 25), (6, 26), (7, 27), (8, 28), (9, 29), (10, 30)] ?_
         iterate 9 (refine on_ (a' := ?_) HT_ rfl rfl (by kernel_rfl) rfl (fun _ _ _ h => h) ?_ ?_; rotate_left; (focus simp only [Act.put, sA_, sZ_, sS_, dN, eD]; rfl))
         refine dn_ ?_
        rotate_left
        focus
         have p281 : 0 ≤ (x5_1 : Int) := of_decide_eq_true (by assumption)
         have q281 : x5_1 < (l0.length : Int) := of_decide_eq_true (by assumption)
         obtain ⟨ad281, e281, hx281_0, hx281_1, hx281_2, hx281_3, hx281_4⟩ := eH HR0.out x5_1 p281 q281
         have hw281_4 := hx281_4
         have hw281_3 := hx281_3
         have hw281_2 := hx281_2
         have hw281_1 := hx281_1
         have hw281_0 := hx281_0
         cases e281
         replace hx281_0 := kp_ HB.out hx281_0
         replace hx281_1 := kp_ HB.out hx281_1
         replace hx281_2 := kp_ HB.out hx281_2
         replace hx281_3 := kp_ HB.out hx281_3
         replace hx281_4 := kp_ HB.out hx281_4
         replace p281 := eq_true p281
         replace q281 := eq_true q281
         have p282 : 0 ≤ (x7_2 : Int) := of_decide_eq_true (by assumption)
         have q282 : x7_2 < (l1.length : Int) := of_decide_eq_true (by assumption)
         obtain ⟨ad282, e282, hx282_0, hx282_1, hx282_2, hx282_3, hx282_4⟩ := eH HR1.out x7_2 p282 q282
         have hw282_4 := hx282_4
         have hw282_3 := hx282_3
         have hw282_2 := hx282_2
         have hw282_1 := hx282_1
         have hw282_0 := hx282_0
         cases e282
         replace hx282_0 := kp_ HB.out hx282_0
         replace hx282_1 := kp_ HB.out hx282_1
         replace hx282_2 := kp_ HB.out hx282_2
         replace hx282_3 := kp_ HB.out hx282_3
         replace hx282_4 := kp_ HB.out hx282_4
         replace p282 := eq_true p282
         replace q282 := eq_true q282
         refine gX (n := 13) (S := fun w' => w'.cell? (ad281.add ((x5_1).toNat * 5)) = some (.string ((aj l0 x5_1).f0)) ∧ w'.cell? ⟨(ad281.add ((x5_1).toNat * 5)).block, (ad281.add ((x5_1).toNat * 5)).off + 1, none⟩ = some (.int .i64 ((aj l0 x5_1).f1)) ∧ w'.cell? ⟨(ad281.add ((x5_1).toNat * 5)).block, (ad281.add ((x5_1).toNat * 5)).off + 2, none⟩ = some (.int .i64 ((aj l0 x5_1).f2)) ∧ w'.cell? ⟨(ad281.add ((x5_1).toNat * 5)).block, (ad281.add ((x5_1).toNat * 5)).off + 3, none⟩ = some (.int .i64 ((aj l0 x5_1).f3)) ∧ w'.cell? ⟨(ad281.add ((x5_1).toNat * 5)).block, (ad281.add ((x5_1).toNat * 5)).off + 4, none⟩ = some (.string ((aj l0 x5_1).f4)) ∧ w'.cell? (ad282.add ((x7_2).toNat * 5)) = some (.string ((aj l1 x7_2).f0)) ∧ w'.cell? ⟨(ad282.add ((x7_2).toNat * 5)).block, (ad282.add ((x7_2).toNat * 5)).off + 1, none⟩ = some (.int .i64 ((aj l1 x7_2).f1)) ∧ w'.cell? ⟨(ad282.add ((x7_2).toNat * 5)).block, (ad282.add ((x7_2).toNat * 5)).off + 2, none⟩ = some (.int .i64 ((aj l1 x7_2).f2)) ∧ w'.cell? ⟨(ad282.add ((x7_2).toNat * 5)).block, (ad282.add ((x7_2).toNat * 5)).off + 3, none⟩ = some (.int .i64 ((aj l1 x7_2).f3)) ∧ w'.cell? ⟨(ad282.add ((x7_2).toNat * 5)).block, (ad282.add ((x7_2).toNat * 5)).off + 4, none⟩ = some (.string ((aj l1 x7_2).f4))) (ds := []) (ls 13 0) (by kernel_rfl) rfl rfl ⟨(kp_ HB.out hw281_0), (kp_ HB.out hw281_1), (kp_ HB.out hw281_2), (kp_ HB.out hw281_3), (kp_ HB.out hw281_4), (kp_ HB.out hw282_0), (kp_ HB.out hw282_1), (kp_ HB.out hw282_2), (kp_ HB.out hw282_3), (kp_ HB.out hw282_4)⟩ (fun hHeld => ?_); refine fJ aW.CK aW.yT (fun HT_ HW_ => ?_)
         generalize wr.drew = w11 at HB hx281_0 hx281_1 hx281_2 hx281_3 hx281_4 hx282_0 hx282_1 hx282_2 hx282_3 hx282_4 hHeld ⊢
         refine td_ [(0, 20), (1, 21), (2, 22), (3, 23), (4, 24), (6, 26), (7, 27), (8, 28)] ?_
         iterate 8 (refine pn_ (v := ?_) (a' := ?_) HT_ rfl rfl (by kernel_rfl) rfl (fun _ _ _ h => h) (fun w' => ?_) ?_ ?_; rotate_left 2; (focus go_simp; with_reducible rfl); (focus simp only [Act.put, sA_, sZ_, sS_, dN, eD]; rfl))
         refine dn_ ?_
         refine td_ [(5, 25), (9, 29)] ?_
         iterate 2 (refine tn_ (v := ?_) (a' := ?_) HT_ HW_ rfl rfl (by kernel_rfl) rfl (fun _ _ _ h => h) hHeld ?_ ?_ ?_; rotate_left 2; (focus rintro w' ⟨s0, s1, s2, s3, s4, s5, s6, s7, s8, s9⟩; go_simp; with_reducible rfl); (focus simp only [Act.put, sA_, sZ_, sS_, dN, eD]; rfl))
         refine dn_ ?_
         refine kT (i := 10) (N := some 30) (ls 13 2047) rfl rfl (kC HT_.out (by kernel_rfl)) (by decide) (fun K hK => ?_)
         refine kY Tryz.func95 (by kernel_rfl) rfl #[.agg #[.string ((aj l0 x5_1).f0), .int .i64 ((aj l0 x5_1).f1), .int .i64 ((aj l0 x5_1).f2), .int .i64 ((aj l0 x5_1).f3), .string ((aj l0 x5_1).f4)], .agg #[.string ((aj l1 x7_2).f0), .int .i64 ((aj l1 x7_2).f1), .int .i64 ((aj l1 x7_2).f2), .int .i64 ((aj l1 x7_2).f3), .string ((aj l1 x7_2).f4)]] (by rfl) rfl rfl (by (try simp only [mA_, mC_, mN_]); rfl) ?_
         with_reducible refine (eP.calls k2 ((aj l0 x5_1).f0) ((aj l0 x5_1).f1) ((aj l0 x5_1).f2) ((aj l0 x5_1).f3) ((aj l0 x5_1).f4) ((aj l1 x7_2).f0) ((aj l1 x7_2).f1) ((aj l1 x7_2).f2) ((aj l1 x7_2).f3) ((aj l1 x7_2).f4) t283 _ A10.out).mono ?_
         rintro e w12 ⟨rfl, hb⟩
         refine ⟨_, rfl, ?_⟩
         replace HB := ah.mk (ak HB.out hb)
         (try clear hb)
         refine hK.out _ _ ⟨(kp_ HB.out hw281_0), (kp_ HB.out hw281_1), (kp_ HB.out hw281_2), (kp_ HB.out hw281_3), (kp_ HB.out hw281_4), (kp_ HB.out hw282_0), (kp_ HB.out hw282_1), (kp_ HB.out hw282_2), (kp_ HB.out hw282_3), (kp_ HB.out hw282_4)⟩ (fun hHeld => ?_)
         clear hK K
         refine jK (a' := ?_) ?_ ?_
         rotate_left
         ·show Act.put _ (some 30) _ = _
          simp only [Act.put, sA_, sZ_, sS_, dN, eD]
          rfl
        rotate_left
        all_goals
         refine td_ [(11, 31), (12, 6)] ?_
         iterate 2 (refine pn_ (v := ?_) (a' := ?_) HT_ rfl rfl (by kernel_rfl) rfl (fun _ _ _ h => h) (fun w' => ?_) ?_ ?_; rotate_left 2; (focus go_simp; with_reducible rfl); (focus simp only [Act.put, sA_, sZ_, sS_, dN, eD]; rfl))
         refine dn_ ?_
         refine jQ (jG HT_.out (by kernel_rfl)) ?_
         (try go_wp2)
         go_roundg k2
         case measure => have := HK1.out; have := HK2.out; omega
        ·case rel => exact ⟨(true), (wrap64 (x7_2 + 1)), (by rfl), (by rfl), H', ⟨by have := HK1.out; have := HK2.out; omega⟩, ⟨HB.out⟩⟩
        ·case rel => exact ⟨(t283), (wrap64 (x7_2 + 1)), (by rfl), (by rfl), H', ⟨by have := HK1.out; have := HK2.out; omega⟩, ⟨HB.out⟩⟩
       ·rw [if_neg c4] at H
        have c4b0 : decide (x7_2 < (l1.length : Int)) = false := decide_eq_false c4
        clear c4
        by_cases c13 : x6_2 = true
        ·subst c13
         rw [if_pos rfl] at H
         have H' := ah.mk H
         clear H
         go_wp2
         go_roundg k2
         case measure => have := HK1.out; have := HK2.out; omega
         case rel => exact ⟨(wrap64 (x5_1 + 1)), (by rfl), H', ⟨by have := HK1.out; have := HK2.out; omega⟩, ⟨HB.out⟩⟩
        ·replace c13 := Bool.eq_false_iff.mpr c13
         subst c13
         rw [if_neg ff_] at H
         obtain rfl := Option.some.inj H
         go_wp2
         go_ret
         exact ⟨by rfl, HB.out⟩
    ·rw [if_neg c3] at H
     have c3b0 : decide (x5_1 < (l0.length : Int)) = false := decide_eq_false c3
     clear c3
     obtain rfl := Option.some.inj H
     go_wp2
     go_ret
     exact ⟨by rfl, HB.out⟩
end Go.Y.PZh
namespace Go.Y.PZh
open Go.Y.Given Go.Y.PRd Go.Y.PRr Go.Y.PZo Go.Y.PZf Go.Y.PZe
attribute [local go_sem] dK dL dS dU dB dz dM dJ
mutual
noncomputable def aI.l0 : Nat → List (S44) → List (S44) → Int → ByteArray → List (S44) → Option (Int)
 | 0, _, _, _, _, _ => none
 | k + 1, x1, x5, x6, x285000, x285001 => if x6 < (x1.length : Int) then (if 0 ≤ x6 then ((aU.f k x285000 x285001 ((aj x1 x6).f0) ((aj x1 x6).f1) ((aj x1 x6).f2) ((aj x1 x6).f3) ((aj x1 x6).f4)).bind fun t286 => (if t286 = 0 then (if ((aj x1 x6).f2) = 1 then (if x5.length < 2513169434916 then (aI.l0 k x1 (x5 ++ [(⟨(aj x1 x6).f0, (aj x1 x6).f1, (aj x1 x6).f2, (aj x1 x6).f3, (aj x1 x6).f4⟩ : S44)]) (wrap64 (x6 + 1)) x285000 x285001) else (none)) else (aI.l0 k x1 x5 (wrap64 (x6 + 1)) x285000 x285001)) else (some t286))) else (none)) else (aI.l1 k x5 0 x285000 x285001)
noncomputable def aI.l1 : Nat → List (S44) → Int → ByteArray → List (S44) → Option (Int)
 | 0, _, _, _, _ => none
 | k + 1, x5, x8, x285000, x285001 => if x8 < (x5.length : Int) then (if 0 ≤ x8 then ((eG.f k x285000 x285001 ((aj x5 x8).f0) ((aj x5 x8).f1)).bind fun t294 => ((bJ.f k x5 ((aj x5 x8).f0)).bind fun t298 => ((bF.f k t298 ((aj x5 x8).f1)).bind fun t302 => ((aW.f k t294 t302).bind fun t305 => (if t305 = true then ((aW.f k t302 t294).bind fun t306 => (if t306 = true then (aI.l1 k x5 (wrap64 (x8 + 1)) x285000 x285001) else (some 8))) else (some 8)))))) else (none)) else (some 0)
end
noncomputable def aI.f (k : Nat) (a0_0 : ByteArray) (l0_1 : List (S44)) (l1 : List (S44)) : Option (Int) := aI.l0 k l1 ([] : List (S44)) 0 a0_0 l0_1
def aI.T13 : Bool × List (List Nat × List Nat) := (true, [([], []), ([], []), ([], []), ([1, 2], [1, 2]), ([3], [3]), ([4], [4]), ([], []), ([], []), ([6, 7], [6, 7]), ([8], [8]), ([9], [9]), ([0, 5, 10], [0, 5, 10]), ([11, 11, 0, 1, 2, 3, 4, 5, 6, 7, 8, 9, 10, 11], [11])])
def aI.B13 : List Nat := [0, 0, 0, 6, 14, 30, 0, 0, 192, 448, 960, 2047, 4095]
theorem aI.KE : gH .any (opsOf Tryz.f25 13) = aI.T13 := by kernel_rfl
theorem aI.JL : gL aI.T13.2 aI.B13 = true := by kernel_rfl
def aI.T14 : Bool × List (List Nat × List Nat) := (true, [([], []), ([], []), ([], []), ([1, 2], [1, 2]), ([3], [3]), ([4], [4]), ([0, 5], [0, 5]), ([], []), ([], []), ([7, 8], [7, 8]), ([9], [9]), ([10], [10]), ([6, 11, 6], [6, 11]), ([12, 12, 0, 1, 2, 3, 4, 5, 6, 7, 8, 9, 10, 11, 12], [12])])
def aI.B14 : List Nat := [0, 0, 0, 6, 14, 30, 63, 0, 0, 384, 896, 1920, 4095, 8191]
theorem aI.yR : gH .any (opsOf Tryz.f25 14) = aI.T14 := by kernel_rfl
theorem aI.vH : gL aI.T14.2 aI.B14 = true := by kernel_rfl
theorem aI.calls (k : Nat) (a0_0 : ByteArray) (A0_1 : Option Addr) (c0_1 : Nat) (l0_1 : List (S44)) (A1 : Option Addr) (c1 : Nat) (l1 : List (S44)) (r : Int) (w : World) (hr0_1 : Kd.C k44 w A0_1 l0_1.length l0_1) (hc0_1 : l0_1.length ≤ c0_1) (hr1 : Kd.C k44 w A1 l1.length l1) (hc1 : l1.length ≤ c1) (h : aI.f k a0_0 l0_1 l1 = some r) :
    Calls Tryz.prog 25 #[.agg #[.string a0_0, .slice A0_1 l0_1.length c0_1], .slice A1 l1.length c1] w fun e w' => e = .returned (.int .i64 r) ∧ Below w.heap.size w w' := by
  have hu31 := Tryz.underlying31
  have hu44 := Tryz.underlying44
  have HR0_1 := ah.mk hr0_1
  have HC0_1 := ah.mk hc0_1
  clear hr0_1 hc0_1
  have HR1 := ah.mk hr1
  have HC1 := ah.mk hc1
  clear hr1 hc1
  have HB := ah.mk (Below.refl w.heap.size w)
  have H : (aI.l0 k l1 ([] : List (S44)) 0 a0_0 l0_1) = some r := h
  clear h
  have H' := ah.mk H
  clear H
  go_enter Tryz.func25, Tryz.ntmps25
  go_wp2_with ((((with_reducible refine bM (N := 2) rfl ?_); refine bR ?hg (N := 2) ?hd (cs := #[.string a0_0, .slice A0_1 l0_1.length c0_1]) (t := 31) ?hr ?_; (case hd => rfl); (case hg => rfl); (case hr => (go_simp; done)); intro gb284 hg w3 hbox hb; have BK284 := ah.mk (hbox); have GW284 := ah.mk (ge_ hg (av HB.out)); have GE284 := ah.mk (ge_ hg (av HB.out)); replace HB := ah.mk (ak HB.out hb); clear hb hbox hg)))
  go_loopg [5, 6] k (fun kq v5 v6 w' => ∃ (x5_1 : List (S44)) (x6_1 : Int), v6 = .int .i64 x6_1 ∧ ah (aI.l0 kq l1 x5_1 x6_1 a0_0 l0_1 = some r) ∧ ah (kq ≤ k) ∧ ah (Kd.R k44 44 w' w.heap.size (fun _ => True) v5 x5_1) ∧ ah (w'.heap[gb284]? = some (.cells #[.string a0_0, (.slice A0_1 l0_1.length c0_1)] 31 (0, 0))) ∧ ah (Below w.heap.size w w'))
  case atStart => exact ⟨(([] : List (S44))), (0), (by rfl), H', ⟨Nat.le_refl _⟩, ⟨by (exact Kd.gB _ _ _ _ _)⟩, ⟨by (with_reducible repeat ((refine au ?_ _))); exact BK284.out⟩, ⟨HB.out⟩⟩
  case round =>
   clear H'
   obtain ⟨x5_1, x6_1, rfl, HA, HK1, HO_5, BK284, HB⟩ := hrel
   cases gk with
   | zero => exact absurd HA.out (by simp [aI.l0])
   | succ k1 =>
    have H := HA.out
    clear HA
    simp only [aI.l0] at H
    by_cases c4 : x6_1 < (l1.length : Int)
    ·rw [if_pos c4] at H
     have c4b0 : decide (x6_1 < (l1.length : Int)) = true := decide_eq_true c4
     clear c4
     obtain ⟨c5b0, H⟩ := fA H
     obtain ⟨t286, A6, H⟩ := bN H
     by_cases c7 : t286 = 0
     focus
      rw [if_pos c7] at H
      have c7b0 : (t286 == 0) = true := beq_iff_eq.mpr c7
      have c7b1 : (t286 != 0) = false := bne_eq_false_iff_eq.mpr c7
      clear c7
      by_cases c8 : ((aj l1 x6_1).f2) = 1
      focus
       rw [if_pos c8] at H
       have c8b0 : (((aj l1 x6_1).f2) == 1) = true := beq_iff_eq.mpr c8
       have c8b1 : (((aj l1 x6_1).f2) != 1) = false := bne_eq_false_iff_eq.mpr c8
       clear c8
       obtain ⟨c9, H⟩ := gd_ H
       have LMc9 := ah.mk c9
       clear c9
       obtain ⟨y289, hy289⟩ : ∃ y_ : List (S44), y_ = (x5_1 ++ [(⟨(aj l1 x6_1).f0, (aj l1 x6_1).f1, (aj l1 x6_1).f2, (aj l1 x6_1).f3, (aj l1 x6_1).f4⟩ : S44)]) := ⟨_, rfl⟩
       replace H : (aI.l0 k1 l1 y289 (wrap64 (x6_1 + 1)) a0_0 l0_1) = some r := by (rw [hy289]; with_reducible exact H)
       have Ny289 := ah.mk hy289
       clear hy289
      rotate_left
      focus
       rw [if_neg c8] at H
       have c8b0 : (((aj l1 x6_1).f2) == 1) = false := beq_eq_false_iff_ne.mpr c8
       have c8b1 : (((aj l1 x6_1).f2) != 1) = true := bne_iff_ne.mpr c8
      rotate_left
      all_goals
       have H' := ah.mk H
       clear H
     rotate_left 2
     focus
      rw [if_neg c7] at H
      have c7b0 : (t286 == 0) = false := beq_eq_false_iff_ne.mpr c7
      have c7b1 : (t286 != 0) = true := bne_iff_ne.mpr c7
      obtain rfl := Option.some.inj H
     rotate_left
     all_goals
      (try go_wp2)
      replace HO_5 := ah.mk (Kd.iG HO_5.out)
      replace BK284 := ah.mk (dW BK284.out)
      replace HB := ah.mk (bP HB.out)
      have p285 : 0 ≤ (x6_1 : Int) := of_decide_eq_true (by assumption)
      have q285 : x6_1 < (l1.length : Int) := of_decide_eq_true (by assumption)
      obtain ⟨ad285, e285, hx285_0, hx285_1, hx285_2, hx285_3, hx285_4⟩ := eH HR1.out x6_1 p285 q285
      have hw285_4 := hx285_4
      have hw285_3 := hx285_3
      have hw285_2 := hx285_2
      have hw285_1 := hx285_1
      have hw285_0 := hx285_0
      cases e285
      replace hx285_0 := kp_ HB.out hx285_0
      replace hx285_1 := kp_ HB.out hx285_1
      replace hx285_2 := kp_ HB.out hx285_2
      replace hx285_3 := kp_ HB.out hx285_3
      replace hx285_4 := kp_ HB.out hx285_4
      replace p285 := eq_true p285
      replace q285 := eq_true q285
      refine gX (n := 7) (ds := []) (ls 7 0) (by kernel_rfl) rfl rfl (c2_ BK284.out (ec_ (kp_ HB.out hw285_0) (ec_ (kp_ HB.out hw285_1) (ec_ (kp_ HB.out hw285_2) (ec_ (kp_ HB.out hw285_3) (ed_ (kp_ HB.out hw285_4))))))) (fun hHeld => ?_)
      generalize wr.drew = w10 at HO_5 BK284 HB hx285_0 hx285_1 hx285_2 hx285_3 hx285_4 hHeld ⊢
      refine kH (i := 1) (N := some 18) (v := ?_) (a' := ?_) (ls 7 2) rfl rfl (by kernel_rfl) (fun _ _ _ h => h) (Or.inl ⟨by rfl, ?_⟩) ?_ ?_
      rotate_left
      ·intro w'
       go_simp
       with_reducible rfl
      rotate_left
      ·simp only [Act.put, sA_, sZ_, sS_, dN, eD]
       rfl
      refine kH (i := 2) (N := some 19) (v := ?_) (a' := ?_) (ls 7 6) rfl rfl (by kernel_rfl) (fun _ _ _ h => h) (Or.inl ⟨by rfl, ?_⟩) ?_ ?_
      rotate_left
      ·intro w'
       go_simp
       with_reducible rfl
      rotate_left
      ·simp only [Act.put, sA_, sZ_, sS_, dN, eD]
       rfl
      refine kH (i := 3) (N := some 20) (v := ?_) (a' := ?_) (ls 7 14) rfl rfl (by kernel_rfl) (fun _ _ _ h => h) (Or.inl ⟨by rfl, ?_⟩) ?_ ?_
      rotate_left
      ·intro w'
       go_simp
       with_reducible rfl
      rotate_left
      ·simp only [Act.put, sA_, sZ_, sS_, dN, eD]
       rfl
      refine mV (i := 0) (N := some 17) (v := ?_) (a' := ?_) (ls 7 15) rfl rfl (by kernel_rfl) (fun _ _ _ h => h) (Or.inl ⟨by rfl, ?_⟩) hHeld ?_ ?_
      rotate_left
      ·rintro w' ⟨s0, s1, s2, s3, s4, s5, s6⟩
       go_simp
       with_reducible rfl
      rotate_left
      ·simp only [Act.put, sA_, sZ_, sS_, dN, eD]
       rfl
      refine mV (i := 4) (N := some 21) (v := ?_) (a' := ?_) (ls 7 31) rfl rfl (by kernel_rfl) (fun _ _ _ h => h) (Or.inl ⟨by rfl, ?_⟩) hHeld ?_ ?_
      rotate_left
      ·rintro w' ⟨s0, s1, s2, s3, s4, s5, s6⟩
       go_simp
       with_reducible rfl
      rotate_left
      ·simp only [Act.put, sA_, sZ_, sS_, dN, eD]
       rfl
      refine kT (i := 5) (N := some 22) (ls 7 63) rfl rfl (by kernel_rfl) (by decide) (fun K hK => ?_)
      refine gs_ Tryz.func60 #[.agg #[.string a0_0, .slice A0_1 l0_1.length c0_1], .agg #[.string ((aj l1 x6_1).f0), .int .i64 ((aj l1 x6_1).f1), .int .i64 ((aj l1 x6_1).f2), .int .i64 ((aj l1 x6_1).f3), .string ((aj l1 x6_1).f4)]] ?_
      with_reducible refine (aU.calls k1 a0_0 _ _ l0_1 ((aj l1 x6_1).f0) ((aj l1 x6_1).f1) ((aj l1 x6_1).f2) ((aj l1 x6_1).f3) ((aj l1 x6_1).f4) t286 _ ?side1 ?side2 A6.out).mono ?_
      (case side1 => repeat ((exact (Kd.eO HR0_1.out HB.out))))
      (case side2 => exact HC0_1.out)
      rintro e w11 ⟨rfl, hb⟩
      refine ⟨_, rfl, ?_⟩
      replace HO_5 := ah.mk (Kd.bD (by ((exact HO_5.out))) hb)
      replace BK284 := ah.mk (ay (by ((exact BK284.out))) hb)
      replace HB := ah.mk (ak HB.out hb)
      (try clear hb)
      refine hK.out _ _ (c2_ BK284.out (ec_ (kp_ HB.out hw285_0) (ec_ (kp_ HB.out hw285_1) (ec_ (kp_ HB.out hw285_2) (ec_ (kp_ HB.out hw285_3) (ed_ (kp_ HB.out hw285_4))))))) (fun hHeld => ?_)
      clear hK K
      refine nm_ (N := (some 22)) ?_
      refine kH (i := 6) (N := some 7) (v := ?_) (a' := ?_) (ls 7 127) rfl rfl (by kernel_rfl) (fun _ _ _ h => h) (Or.inl ⟨by rfl, ?_⟩) ?_ ?_
      rotate_left
      ·intro w'
       go_simp
       with_reducible rfl
      rotate_left
      ·simp only [Act.put, sA_, sZ_, sS_, dN, eD]
       rfl
      refine jQ (by kernel_rfl) ?_
     iterate 2
      focus
       have p287 : 0 ≤ (x6_1 : Int) := of_decide_eq_true (by assumption)
       have q287 : x6_1 < (l1.length : Int) := of_decide_eq_true (by assumption)
       obtain ⟨ad287, e287, hx287_0, hx287_1, hx287_2, hx287_3, hx287_4⟩ := eH HR1.out x6_1 p287 q287
       obtain rfl : ad285 = ad287 := (by injection e287)
       replace hx287_0 := kp_ HB.out hx287_0
       replace hx287_1 := kp_ HB.out hx287_1
       replace hx287_2 := kp_ HB.out hx287_2
       replace hx287_3 := kp_ HB.out hx287_3
       replace hx287_4 := kp_ HB.out hx287_4
       replace p287 := eq_true p287
       replace q287 := eq_true q287
      rotate_left
     rotate_left
     ·have p288 : 0 ≤ (x6_1 : Int) := of_decide_eq_true (by assumption)
      have q288 : x6_1 < (l1.length : Int) := of_decide_eq_true (by assumption)
      obtain ⟨ad288, e288, hx288_0, hx288_1, hx288_2, hx288_3, hx288_4⟩ := eH HR1.out x6_1 p288 q288
      obtain rfl : ad285 = ad288 := (by injection e288)
      replace hx288_0 := kp_ HB.out hx288_0
      replace hx288_1 := kp_ HB.out hx288_1
      replace hx288_2 := kp_ HB.out hx288_2
      replace hx288_3 := kp_ HB.out hx288_3
      replace hx288_4 := kp_ HB.out hx288_4
      replace p288 := eq_true p288
      replace q288 := eq_true q288
      (try go_wp2_with ((((with_reducible refine eY (b := .append) (xs := #[.tmp 32, .tmp 37]) rfl ?_); at_builtin; refine Kd.gP k44 (w0 := w) w.heap.size rfl (.tmp 32) (.tmp 37) 22 44 (.agg #[(.string ⟨#[]⟩), (.int .i64 0), (.int .i64 0), (.int .i64 0), (.string ⟨#[]⟩)]) 56 rfl Tryz.underlying22 lX rfl (by decide) (by omega) u5 x5_1 (⟨(aj l1 x6_1).f0, (aj l1 x6_1).f1, (aj l1 x6_1).f2, (aj l1 x6_1).f3, (aj l1 x6_1).f4⟩ : S44) [.string ((aj l1 x6_1).f0), .int .i64 ((aj l1 x6_1).f1), .int .i64 ((aj l1 x6_1).f2), .int .i64 ((aj l1 x6_1).f3), .string ((aj l1 x6_1).f4)] (fun _ => True) (fun _ => False) rfl rfl ?aP (fun _ hk => hk.elim) ?aF ?aO ?aB ?aS ?aL ?_; (case aP => exact jO _ _ _ (⟨(aj l1 x6_1).f0, (aj l1 x6_1).f1, (aj l1 x6_1).f2, (aj l1 x6_1).f3, (aj l1 x6_1).f4⟩ : S44)); (case aB => exact HB.out); (case aF => exact (fun _ _ => trivial)); (case aO => exact (by ((exact HO_5.out)))); (case aS => exact (av HB.out)); (case aL => have := LMc9.out; omega); intro v290 w12 ho hb hg hat; rw [← Ny289.out] at ho; have n0_ := ah.mk (iK (g := gb284) (o := .cells #[.string a0_0, .slice A0_1 l0_1.length c0_1] 31 (0, 0)) (by ((exact BK284.out))) hg (Kd.JQ HO_5.out BK284.out (by decide))); have n1_ := ah.mk (hb); have n2_ := ah.mk (ho); clear BK284; clear HB; clear HO_5; have BK284 := n0_; have HB := n1_; have HO291 := n2_; clear n0_ n1_ n2_; clear ho hb hg hat))))
      go_roundg k1
      case measure => have := HK1.out; omega
      case rel => exact ⟨(y289), (wrap64 (x6_1 + 1)), (by rfl), H', ⟨by have := HK1.out; omega⟩, ⟨by (with_reducible repeat ((apply Kd.bf))); exact HO291.out⟩, ⟨by (with_reducible repeat ((refine au ?_ _))); exact BK284.out⟩, ⟨HB.out⟩⟩
     ·try go_wp2
      go_roundg k1
      case measure => have := HK1.out; omega
      case rel => exact ⟨(x5_1), (wrap64 (x6_1 + 1)), (by rfl), H', ⟨by have := HK1.out; omega⟩, ⟨by (with_reducible repeat ((apply Kd.bf))); exact HO_5.out⟩, ⟨by (with_reducible repeat ((refine au ?_ _))); exact BK284.out⟩, ⟨HB.out⟩⟩
     ·try go_wp2
      go_ret
      exact ⟨by rfl, HB.out⟩
    ·rw [if_neg c4] at H
     have c4b0 : decide (x6_1 < (l1.length : Int)) = false := decide_eq_false c4
     clear c4
     have H' := ah.mk H
     clear H
     go_wp2
     go_loopg [8] k1 (fun kq v8 w' => ∃ (x8_2 : Int), v8 = .int .i64 x8_2 ∧ ah (aI.l1 kq x5_1 x8_2 a0_0 l0_1 = some r) ∧ ah (kq ≤ k1) ∧ ah (Kd.R k44 44 w' w.heap.size (fun _ => True) u5 x5_1) ∧ ah (w'.heap[gb284]? = some (.cells #[.string a0_0, (.slice A0_1 l0_1.length c0_1)] 31 (0, 0))) ∧ ah (Below w.heap.size w w'))
     case atStart => exact ⟨(0), (by rfl), H', ⟨Nat.le_refl _⟩, ⟨by (with_reducible repeat ((apply Kd.bf))); exact HO_5.out⟩, ⟨by (with_reducible repeat ((refine au ?_ _))); exact BK284.out⟩, ⟨HB.out⟩⟩
     case round =>
      clear H'
      (try clear c4b0)
      obtain ⟨x8_2, rfl, HA, HK2, HO_5, BK284, HB⟩ := hrel
      cases gk with
      | zero => exact absurd HA.out (by simp [aI.l1])
      | succ k2 =>
       have H := HA.out
       clear HA
       simp only [aI.l1] at H
       by_cases c17 : x8_2 < (x5_1.length : Int)
       focus
        rw [if_pos c17] at H
        have c17b0 : decide (x8_2 < (x5_1.length : Int)) = true := decide_eq_true c17
        clear c17
        obtain ⟨c18b0, H⟩ := fA H
        obtain ⟨t294, A19, H⟩ := bN H
        obtain ⟨t298, A20, H⟩ := bN H
        obtain ⟨t302, A21, H⟩ := bN H
        obtain ⟨t305, A22, H⟩ := bN H
        by_cases c23 : t305 = true
        focus
         subst c23
         rw [if_pos rfl] at H
         obtain ⟨t306, A24, H⟩ := bN H
         by_cases c25 : t306 = true
         focus
          subst c25
          rw [if_pos rfl] at H
          have H' := ah.mk H
          clear H
         rotate_left
         focus
          replace c25 := Bool.eq_false_iff.mpr c25
          subst c25
          rw [if_neg ff_] at H
          obtain rfl := Option.some.inj H
         rotate_left
        rotate_left 2
        focus
         replace c23 := Bool.eq_false_iff.mpr c23
         subst c23
         rw [if_neg ff_] at H
         obtain rfl := Option.some.inj H
        rotate_left
       rotate_left 3
       focus
        rw [if_neg c17] at H
        have c17b0 : decide (x8_2 < (x5_1.length : Int)) = false := decide_eq_false c17
        clear c17
        obtain rfl := Option.some.inj H
       rotate_left
       all_goals
        obtain ⟨Ao26, co26, eo26⟩ := Kd.cK HO_5.out
        subst eo26
       iterate 3
        focus
         (try go_wp2)
         replace HO_5 := ah.mk (Kd.iG HO_5.out)
         replace BK284 := ah.mk (dW BK284.out)
         replace HB := ah.mk (bP HB.out)
         have p292 : 0 ≤ (x8_2 : Int) := of_decide_eq_true (by assumption)
         have q292 : x8_2 < (x5_1.length : Int) := of_decide_eq_true (by assumption)
         obtain ⟨ad292, e292, hx292_0, hx292_1, hx292_2, hx292_3, hx292_4⟩ := eH (Kd.aR HO_5.out).2.2 x8_2 p292 q292
         cases e292
         replace p292 := eq_true p292
         replace q292 := eq_true q292
         have p293 : 0 ≤ (x8_2 : Int) := of_decide_eq_true (by assumption)
         have q293 : x8_2 < (x5_1.length : Int) := of_decide_eq_true (by assumption)
         obtain ⟨ad293, e293, hx293_0, hx293_1, hx293_2, hx293_3, hx293_4⟩ := eH (Kd.aR HO_5.out).2.2 x8_2 p293 q293
         obtain rfl : ad292 = ad293 := (by injection e293)
         replace p293 := eq_true p293
         replace q293 := eq_true q293
         refine gX (n := 13) (ds := []) (ls 13 0) (by kernel_rfl) rfl rfl (c2_ BK284.out (ec_ hx292_0 (ec_ hx292_1 (ec_ hx292_2 (ec_ hx292_3 (ec_ hx292_4 (ec_ hx293_0 (ec_ hx293_1 (ec_ hx293_2 (ec_ hx293_3 (ed_ hx293_4))))))))))) (fun hHeld => ?_); refine fJ aI.KE aI.JL (fun HT_ HW_ => ?_)
         generalize wr.drew = w27 at HO_5 BK284 HB hx292_0 hx292_1 hx292_2 hx292_3 hx292_4 hx293_0 hx293_1 hx293_2 hx293_3 hx293_4 hHeld ⊢
         refine td_ [(1, 46), (2, 47), (3, 48), (4, 49), (6, 51), (7, 52), (8, 53), (9, 54)] ?_
         iterate 8 (refine pm_ HT_ ?_)
         refine dn_ ?_
         refine td_ [(0, 45), (5, 50), (10, 55)] ?_
         iterate 3 (refine tm_ HT_ HW_ hHeld ?_)
         refine dn_ ?_
         refine jD HT_ (i := 11) (N := some 56) (ls 13 4095) (fun K hK => ?_)
         refine gs_ Tryz.func15 #[.agg #[.string a0_0, .slice A0_1 l0_1.length c0_1], .string ((aj x5_1 x8_2).f0), .int .i64 ((aj x5_1 x8_2).f1)] ?_
         with_reducible refine (eG.calls k2 a0_0 _ _ l0_1 ((aj x5_1 x8_2).f0) ((aj x5_1 x8_2).f1) t294 _ ?side1 ?side2 A19.out).mono ?_
         (case side1 => repeat ((exact (Kd.eO HR0_1.out HB.out))))
         (case side2 => exact HC0_1.out)
         rintro e w28 ⟨v295, rfl, ho0, hb⟩
         have HS2_ := kp_ hb hHeld.2.2.1
         have HS3_ := kp_ hb hHeld.2.2.2.1
         have HS4_ := kp_ hb hHeld.2.2.2.2.1
         have HS5_ := kp_ hb hHeld.2.2.2.2.2.1
         have HS6_ := kp_ hb hHeld.2.2.2.2.2.2.1
         have HS7_ := kp_ hb hHeld.2.2.2.2.2.2.2.1
         have HS8_ := kp_ hb hHeld.2.2.2.2.2.2.2.2.1
         have HS9_ := kp_ hb hHeld.2.2.2.2.2.2.2.2.2.1
         have HS10_ := kp_ hb hHeld.2.2.2.2.2.2.2.2.2.2.1
         have HS11_ := kp_ hb hHeld.2.2.2.2.2.2.2.2.2.2.2
         refine ⟨_, rfl, ?_⟩
         have HO296 := ah.mk (Kd.bS (Kd.gq ho0 (Kd.iZ (by ((exact HO_5.out))))) (av HB.out))
         replace HO_5 := ah.mk (Kd.eU (by ((exact HO_5.out))) (Kd.fV ho0) hb)
         replace BK284 := ah.mk (ay (by ((exact BK284.out))) hb)
         replace HB := ah.mk (ak HB.out hb)
         (try clear hb)
         (try clear ho0)
         refine hK.out _ _ (c2_ BK284.out (ec_ HS2_ (ec_ HS3_ (ec_ HS4_ (ec_ HS5_ (ec_ HS6_ (ec_ HS7_ (ec_ HS8_ (ec_ HS9_ (ec_ HS10_ (ed_ HS11_))))))))))) (fun hHeld => ?_)
         clear hK K
         refine nm_ (N := (some 56)) ?_
         refine td_ [(12, 9)] ?_
         refine pm_ HT_ ?_
         refine dn_ ?_
         refine jQ (jG HT_.out (by kernel_rfl)) ?_
         (try go_wp2)
         replace HO_5 := ah.mk (Kd.iG HO_5.out)
         replace HO296 := ah.mk (Kd.iG HO296.out)
         replace BK284 := ah.mk (dW BK284.out)
         replace HB := ah.mk (bP HB.out)
         have p297 : 0 ≤ (x8_2 : Int) := of_decide_eq_true (by assumption)
         have q297 : x8_2 < (x5_1.length : Int) := of_decide_eq_true (by assumption)
         obtain ⟨ad297, e297, hx297_0, hx297_1, hx297_2, hx297_3, hx297_4⟩ := eH (Kd.aR HO_5.out).2.2 x8_2 p297 q297
         obtain rfl : ad292 = ad297 := (by injection e297)
         replace p297 := eq_true p297
         replace q297 := eq_true q297
         have p301 : 0 ≤ (x8_2 : Int) := of_decide_eq_true (by assumption)
         have q301 : x8_2 < (x5_1.length : Int) := of_decide_eq_true (by assumption)
         obtain ⟨ad301, e301, hx301_0, hx301_1, hx301_2, hx301_3, hx301_4⟩ := eH (Kd.aR HO_5.out).2.2 x8_2 p301 q301
         obtain rfl : ad292 = ad301 := (by injection e301)
         replace p301 := eq_true p301
         replace q301 := eq_true q301
         refine gX (n := 14) (ds := []) (ls 14 0) (by kernel_rfl) rfl rfl (ec_ hx297_0 (ec_ hx297_1 (ec_ hx297_2 (ec_ hx297_3 (ec_ hx297_4 (ec_ hx301_0 (ec_ hx301_1 (ec_ hx301_2 (ec_ hx301_3 (ed_ hx301_4)))))))))) (fun hHeld => ?_); refine fJ aI.yR aI.vH (fun HT_ HW_ => ?_)
         generalize w28.drew = w29 at HO_5 HO296 BK284 HB hx297_0 hx297_1 hx297_2 hx297_3 hx297_4 hx301_0 hx301_1 hx301_2 hx301_3 hx301_4 hHeld ⊢
         refine td_ [(0, 57), (1, 58), (2, 59), (3, 60), (4, 61), (7, 64), (8, 65), (9, 66), (10, 67)] ?_
         iterate 9 (refine pm_ HT_ ?_)
         refine dn_ ?_
         refine td_ [(5, 62), (11, 68)] ?_
         iterate 2 (refine tm_ HT_ HW_ hHeld ?_)
         refine dn_ ?_
         refine jD HT_ (i := 6) (N := some 63) (ls 14 4095) (fun K hK => ?_)
         refine gs_ Tryz.func17 #[.slice (some ad292) x5_1.length co26, .string ((aj x5_1 x8_2).f0)] ?_
         with_reducible refine (bJ.calls k2 _ _ x5_1 ((aj x5_1 x8_2).f0) t298 _ ?side1 ?side2 A20.out).mono ?_
         (case side1 => exact (Kd.aR HO_5.out).2.2)
         (case side2 => exact (Kd.aR HO_5.out).2.1)
         rintro e w30 ⟨v299, rfl, ho0, hb⟩
         have HS0_ := kp_ hb hHeld.1
         have HS1_ := kp_ hb hHeld.2.1
         have HS2_ := kp_ hb hHeld.2.2.1
         have HS3_ := kp_ hb hHeld.2.2.2.1
         have HS4_ := kp_ hb hHeld.2.2.2.2.1
         have HS5_ := kp_ hb hHeld.2.2.2.2.2.1
         have HS6_ := kp_ hb hHeld.2.2.2.2.2.2.1
         have HS7_ := kp_ hb hHeld.2.2.2.2.2.2.2.1
         have HS8_ := kp_ hb hHeld.2.2.2.2.2.2.2.2.1
         have HS9_ := kp_ hb hHeld.2.2.2.2.2.2.2.2.2
         refine ⟨_, rfl, ?_⟩
         have HO300 := ah.mk (Kd.bS (Kd.gq (Kd.gq ho0 (Kd.iZ (by ((exact HO_5.out))))) (Kd.iZ (by ((exact HO296.out))))) (av HB.out))
         replace HO_5 := ah.mk (Kd.eU (by ((exact HO_5.out))) (Kd.fV ho0) hb)
         replace HO296 := ah.mk (Kd.eU (by ((exact HO296.out))) (Kd.fV ho0) hb)
         replace BK284 := ah.mk (ay (by ((exact BK284.out))) hb)
         replace HB := ah.mk (ak HB.out hb)
         (try clear hb)
         (try clear ho0)
         obtain ⟨Ao31, co31, eo31⟩ := Kd.cK HO300.out
         ((subst eo31))
         refine hK.out _ _ ⟨HS0_, HS1_, HS2_, HS3_, HS4_, HS5_, HS6_, HS7_, HS8_, HS9_⟩ (fun hHeld => ?_)
         clear hK K
         refine nm_ (N := (some 63)) ?_
         refine jD HT_ (i := 12) (N := some 69) (ls 14 8191) (fun K hK => ?_)
         refine gs_ Tryz.func51 #[.slice Ao31 t298.length co31, .int .i64 ((aj x5_1 x8_2).f1)] ?_
         with_reducible refine (bF.calls k2 _ _ t298 ((aj x5_1 x8_2).f1) t302 _ ?side1 ?side2 A21.out).mono ?_
         (case side1 => exact (Kd.aR HO300.out).2.2)
         (case side2 => exact (Kd.aR HO300.out).2.1)
         rintro e w32 ⟨v303, rfl, ho0, hb⟩
         have HS0_ := kp_ hb hHeld.1
         have HS1_ := kp_ hb hHeld.2.1
         have HS2_ := kp_ hb hHeld.2.2.1
         have HS3_ := kp_ hb hHeld.2.2.2.1
         have HS4_ := kp_ hb hHeld.2.2.2.2.1
         have HS5_ := kp_ hb hHeld.2.2.2.2.2.1
         have HS6_ := kp_ hb hHeld.2.2.2.2.2.2.1
         have HS7_ := kp_ hb hHeld.2.2.2.2.2.2.2.1
         have HS8_ := kp_ hb hHeld.2.2.2.2.2.2.2.2.1
         have HS9_ := kp_ hb hHeld.2.2.2.2.2.2.2.2.2
         refine ⟨_, rfl, ?_⟩
         have HO304 := ah.mk (Kd.bS (Kd.gq (Kd.gq (Kd.gq ho0 (Kd.iZ (by ((exact HO_5.out))))) (Kd.iZ (by ((exact HO296.out))))) (Kd.iZ (by ((exact HO300.out))))) (av HB.out))
         replace HO_5 := ah.mk (Kd.eU (by ((exact HO_5.out))) (Kd.fV ho0) hb)
         replace HO296 := ah.mk (Kd.eU (by ((exact HO296.out))) (Kd.fV ho0) hb)
         replace HO300 := ah.mk (Kd.eU (by ((exact HO300.out))) (Kd.fV ho0) hb)
         replace BK284 := ah.mk (ay (by ((exact BK284.out))) hb)
         replace HB := ah.mk (ak HB.out hb)
         (try clear hb)
         (try clear ho0)
         refine hK.out _ _ ⟨HS0_, HS1_, HS2_, HS3_, HS4_, HS5_, HS6_, HS7_, HS8_, HS9_⟩ (fun hHeld => ?_)
         clear hK K
         refine nm_ (N := (some 69)) ?_
         refine td_ [(13, 10)] ?_
         refine pm_ HT_ ?_
         refine dn_ ?_
         refine jQ (jG HT_.out (by kernel_rfl)) ?_
         obtain ⟨Ao33, co33, eo33⟩ := Kd.cK HO296.out
         subst eo33
         obtain ⟨Ao34, co34, eo34⟩ := Kd.cK HO304.out
         subst eo34
        rotate_left
       rotate_left
       iterate 2
        focus
         (try go_wp2_with (first | (refine gl_ (some 72) Tryz.func61 #[.slice Ao33 t294.length co33, .slice Ao34 t302.length co34] ?_; (with_reducible refine (aW.calls k2 _ _ t294 _ _ t302 _ _ ?side1 ?side2 ?side3 ?side4 A22.out).mono ?_); (case side1 => exact (Kd.aR HO296.out).2.2); (case side2 => exact (Kd.aR HO296.out).2.1); (case side3 => exact (Kd.aR HO304.out).2.2); (case side4 => exact (Kd.aR HO304.out).2.1); rintro e w35 ⟨rfl, hb⟩; refine ⟨_, rfl, ?_⟩; replace HO_5 := ah.mk (Kd.bD (by ((exact HO_5.out))) hb); replace HO296 := ah.mk (Kd.bD (by ((exact HO296.out))) hb); replace HO300 := ah.mk (Kd.bD (by ((exact HO300.out))) hb); replace HO304 := ah.mk (Kd.bD (by ((exact HO304.out))) hb); replace BK284 := ah.mk (ay (by ((exact BK284.out))) hb); replace HB := ah.mk (ak HB.out hb); (try clear hb)) | (go_at_call 61; (with_reducible refine (aW.calls k2 _ _ t302 _ _ t294 _ _ ?side1 ?side2 ?side3 ?side4 A24.out).mono ?_); (case side1 => exact (Kd.aR HO304.out).2.2); (case side2 => exact (Kd.aR HO304.out).2.1); (case side3 => exact (Kd.aR HO296.out).2.2); (case side4 => exact (Kd.aR HO296.out).2.1); rintro e w36 ⟨rfl, hb⟩; replace HO_5 := ah.mk (Kd.bD (by ((exact HO_5.out))) hb); replace HO296 := ah.mk (Kd.bD (by ((exact HO296.out))) hb); replace HO300 := ah.mk (Kd.bD (by ((exact HO300.out))) hb); replace HO304 := ah.mk (Kd.bD (by ((exact HO304.out))) hb); replace BK284 := ah.mk (ay (by ((exact BK284.out))) hb); replace HB := ah.mk (ak HB.out hb); (try clear hb))))
        rotate_left
       rotate_left 2
       ·go_roundg k2
        case measure => have := HK1.out; have := HK2.out; omega
        case rel => exact ⟨(wrap64 (x8_2 + 1)), (by rfl), H', ⟨by have := HK1.out; have := HK2.out; omega⟩, ⟨by (with_reducible repeat ((apply Kd.bf))); exact Kd.dx HO_5.out (fun _ hk => trivial)⟩, ⟨by (with_reducible repeat ((refine au ?_ _))); exact BK284.out⟩, ⟨HB.out⟩⟩
       ·go_ret
        exact ⟨by rfl, HB.out⟩
       ·(try go_wp2_with (((refine gl_ (some 72) Tryz.func61 #[.slice Ao33 t294.length co33, .slice Ao34 t302.length co34] ?_; (with_reducible refine (aW.calls k2 _ _ t294 _ _ t302 _ _ ?side1 ?side2 ?side3 ?side4 A22.out).mono ?_); (case side1 => exact (Kd.aR HO296.out).2.2); (case side2 => exact (Kd.aR HO296.out).2.1); (case side3 => exact (Kd.aR HO304.out).2.2); (case side4 => exact (Kd.aR HO304.out).2.1); rintro e w57 ⟨rfl, hb⟩; refine ⟨_, rfl, ?_⟩; replace HO_5 := ah.mk (Kd.bD (by ((exact HO_5.out))) hb); replace HO296 := ah.mk (Kd.bD (by ((exact HO296.out))) hb); replace HO300 := ah.mk (Kd.bD (by ((exact HO300.out))) hb); replace HO304 := ah.mk (Kd.bD (by ((exact HO304.out))) hb); replace BK284 := ah.mk (ay (by ((exact BK284.out))) hb); replace HB := ah.mk (ak HB.out hb); (try clear hb)))))
        go_ret
        exact ⟨by rfl, HB.out⟩
       ·go_wp2
        go_ret
        exact ⟨by rfl, HB.out⟩
end Go.Y.PZh
namespace Go.Y.PZh
open Go.Y.Given Go.Y.PRd Go.Y.PRr Go.Y.PZo Go.Y.PZf Go.Y.PZe
attribute [local go_sem] dK dL dS dU dB dz dM dJ
noncomputable def fH.f (k : Nat)  : Option (Bool) := (jq.f).bind fun t253 => ((cO.f k (⟨#[1, 97, 0]⟩ : ByteArray) t253).bind fun bt256 => (if bt256.2.2.2 = 0 then ((jI.f bt256.1 bt256.2.1 bt256.2.2.1).bind fun t263 => (if (t263.length : Int) = 2 then ((bC.f k bt256.1 bt256.2.1 bt256.2.2.1 (([(⟨(⟨#[1, 98, 1, 97, 0]⟩ : ByteArray), 255, 255, 0, (⟨#[]⟩ : ByteArray)⟩ : S44)] : List (S44)))).bind fun t269 => (some (t269 == 3))) else (none))) else (none)))
theorem fH.calls (k : Nat)  (r : Bool) (w : World) (h : fH.f k  = some r) :
  Calls Tryz.prog 22 #[] w fun e w' => e = .returned (.bool r) ∧ Below w.heap.size w w' := by
 have hu26 := Tryz.underlying26
 have hu44 := Tryz.underlying44
 have HB := ah.mk (Below.refl w.heap.size w)
 have H : ((jq.f).bind fun t253 => ((cO.f k (⟨#[1, 97, 0]⟩ : ByteArray) t253).bind fun bt256 => (if bt256.2.2.2 = 0 then ((jI.f bt256.1 bt256.2.1 bt256.2.2.1).bind fun t263 => (if (t263.length : Int) = 2 then ((bC.f k bt256.1 bt256.2.1 bt256.2.2.1 (([(⟨(⟨#[1, 98, 1, 97, 0]⟩ : ByteArray), 255, 255, 0, (⟨#[]⟩ : ByteArray)⟩ : S44)] : List (S44)))).bind fun t269 => (some (t269 == 3))) else (none))) else (none)))) = some r := h
 clear h
 obtain ⟨t253, A1, H⟩ := bN H
 replace H := Option.bind_eq_some_iff.mp H
 obtain ⟨⟨t256, t257, t260, t261⟩, A20, H⟩ := H
 replace H : (if t261 = 0 then ((jI.f t256 t257 t260).bind fun t263 => (if (t263.length : Int) = 2 then ((bC.f k t256 t257 t260 (([(⟨(⟨#[1, 98, 1, 97, 0]⟩ : ByteArray), 255, 255, 0, (⟨#[]⟩ : ByteArray)⟩ : S44)] : List (S44)))).bind fun t269 => (some (t269 == 3))) else (none))) else (none)) = some r := H
 have A2 := ah.mk A20
 clear A20
 obtain ⟨c3, H⟩ := gd_ H
 have c3b0 : (t261 == 0) = true := beq_iff_eq.mpr c3
 have c3b1 : (t261 != 0) = false := bne_eq_false_iff_eq.mpr c3
 clear c3
 obtain ⟨t263, A4, H⟩ := bN H
 obtain ⟨c5, H⟩ := gd_ H
 have c5b0 : ((t263.length : Int) == 2) = true := beq_iff_eq.mpr c5
 have c5b1 : ((t263.length : Int) != 2) = false := bne_eq_false_iff_eq.mpr c5
 clear c5
 obtain ⟨y266, hy266⟩ : ∃ y_ : List (S44), y_ = (([(⟨(⟨#[1, 98, 1, 97, 0]⟩ : ByteArray), 255, 255, 0, (⟨#[]⟩ : ByteArray)⟩ : S44)] : List (S44))) := ⟨_, rfl⟩
 replace H : ((bC.f k t256 t257 t260 y266).bind fun t269 => (some (t269 == 3))) = some r := by (rw [hy266]; with_reducible exact H)
 have Ny266 := ah.mk hy266
 clear hy266
 obtain ⟨t269, A6, H⟩ := bN H
 obtain rfl := Option.some.inj H
 go_enter Tryz.func22, Tryz.ntmps22
 go_wp2_with (first | ((with_reducible refine bX (f := 35) rfl ?_); refine fq (some 4) rfl rfl Tryz.func35 (by kernel_rfl) rfl #[] rfl (by (try simp only [List.map_toArray, List.map_cons, List.map_nil]); done) ?_; (with_reducible refine (jq.calls  t253 _ A1.out).mono ?_); rintro e w7 ⟨v254, rfl, ho0, hb⟩; refine ⟨_, rfl, ?_⟩; have HO255 := ah.mk (Kd.bS ho0 (av HB.out)); replace HB := ah.mk (ak HB.out hb); (try clear hb); (try clear ho0); obtain ⟨Ao8, co8, eo8⟩ := Kd.cK HO255.out; subst eo8) | ((with_reducible refine bX (f := 11) rfl ?_); refine fq (some 5) rfl rfl Tryz.func11 (by kernel_rfl) rfl #[.string (⟨#[1, 97, 0]⟩ : ByteArray), .slice Ao8 t253.length co8] rfl (by (try simp only [mA_, mC_, mN_]); rfl) ?_; (with_reducible refine (cO.calls k (⟨#[1, 97, 0]⟩ : ByteArray) _ _ t253 t256 t257 t260 t261 _ ?side1 ?side2 A2.out).mono ?_); (case side1 => repeat ((exact (Kd.aR HO255.out).2.2))); (case side2 => exact (Kd.aR HO255.out).2.1); rintro e w9 ⟨v258, rfl, ho0, hb⟩; refine ⟨_, rfl, ?_⟩; have HO259 := ah.mk (Kd.bS (Kd.gq ho0 (Kd.iZ (by ((exact HO255.out))))) (av HB.out)); replace HO255 := ah.mk (Kd.eU (by ((exact HO255.out))) (Kd.fV ho0) hb); replace HB := ah.mk (ak HB.out hb); (try clear hb); (try clear ho0)) | ((with_reducible refine bM (N := 1) rfl ?_); (try (refine fO (by rfl) ?_; dsimp only)); refine bR ?hg (N := 1) ?hd (cs := #[.string (⟨#[]⟩ : ByteArray), .slice none 0 0, .int .i64 0]) (t := 26) ?hr ?_; (case hd => rfl); (case hg => rfl); (case hr => (go_simp; done)); intro gb262 hg w10 hbox hb; have BK262 := ah.mk (hbox); have GW262 := ah.mk (ge_ hg (av HB.out)); have GE262 := ah.mk (ge_ hg (av HB.out)); replace HO255 := ah.mk (Kd.bD (by ((exact HO255.out))) hb); replace HO259 := ah.mk (Kd.bD (by ((exact HO259.out))) hb); replace HB := ah.mk (ak HB.out hb); clear hb hbox hg; obtain ⟨hcz11_0, hcz11_1, hcz11_2, hfz11_0, hfz11_1, hfz11_2⟩ := z3_ BK262.out; obtain ⟨Ao12, co12, eo12⟩ := Kd.cK HO259.out; subst eo12) | (go_at_call 29; (with_reducible refine (jI.calls t256 _ _ t257 t260 t263 _ ?side1 ?side2 A4.out).mono ?_); (case side1 => refine (Kd.aR (e := 44) (base := w.heap.size) (ok := fun k_ => (True ∧ some k_ ≠ (.slice Ao8 t253.length co8 : Value).ownBlock)) (n := t257.length) (c := co12) ?_).2.2; exact (by (with_reducible repeat ((apply Kd.bf))); exact (Kd.dx (Kd.eu (p := ⟨gb262, 2, none⟩) (Kd.eu (p := ⟨gb262, 1, none⟩) (Kd.eu (p := ⟨gb262, 0, none⟩) (Kd.jP HO259.out BK262.out (by decide)) (fun _ hk => hk.2) (.string t256)) (fun _ hk => hk.2) (.slice Ao12 t257.length co12)) (fun _ hk => hk.2) (.int .i64 t260)) (fun _ h_ => h_.1)))); (case side2 => exact (Kd.aR HO259.out).2.1); rintro e w13 ⟨v264, rfl, ho0, hb⟩; have HO265 := ah.mk (Kd.bS (Kd.gq (Kd.gq ho0 (Kd.iZ (by (with_reducible repeat ((apply Kd.bf))); exact (Kd.dx (Kd.eu (p := ⟨gb262, 2, none⟩) (Kd.eu (p := ⟨gb262, 1, none⟩) (Kd.eu (p := ⟨gb262, 0, none⟩) (Kd.jP HO255.out BK262.out (by decide)) (fun _ hk => hk.2) (.string t256)) (fun _ hk => hk.2) (.slice Ao12 t257.length co12)) (fun _ hk => hk.2) (.int .i64 t260)) (fun _ h_ => h_.1))))) (Kd.iZ (by (with_reducible repeat ((apply Kd.bf))); exact (Kd.dx (Kd.eu (p := ⟨gb262, 2, none⟩) (Kd.eu (p := ⟨gb262, 1, none⟩) (Kd.eu (p := ⟨gb262, 0, none⟩) (Kd.jP HO259.out BK262.out (by decide)) (fun _ hk => hk.2) (.string t256)) (fun _ hk => hk.2) (.slice Ao12 t257.length co12)) (fun _ hk => hk.2) (.int .i64 t260)) (fun _ h_ => h_.1))))) (av (by repeat ((with_reducible first | exact HB.out | refine bZ ?_ GE262.out))))); replace HO255 := ah.mk (Kd.eU (by (with_reducible repeat ((apply Kd.bf))); exact (Kd.dx (Kd.eu (p := ⟨gb262, 2, none⟩) (Kd.eu (p := ⟨gb262, 1, none⟩) (Kd.eu (p := ⟨gb262, 0, none⟩) (Kd.jP HO255.out BK262.out (by decide)) (fun _ hk => hk.2) (.string t256)) (fun _ hk => hk.2) (.slice Ao12 t257.length co12)) (fun _ hk => hk.2) (.int .i64 t260)) (fun _ h_ => h_.1))) (Kd.fV ho0) hb); replace HO259 := ah.mk (Kd.eU (by (with_reducible repeat ((apply Kd.bf))); exact (Kd.dx (Kd.eu (p := ⟨gb262, 2, none⟩) (Kd.eu (p := ⟨gb262, 1, none⟩) (Kd.eu (p := ⟨gb262, 0, none⟩) (Kd.jP HO259.out BK262.out (by decide)) (fun _ hk => hk.2) (.string t256)) (fun _ hk => hk.2) (.slice Ao12 t257.length co12)) (fun _ hk => hk.2) (.int .i64 t260)) (fun _ h_ => h_.1))) (Kd.fV ho0) hb); replace BK262 := ah.mk (ay (g := gb262) (o := .cells #[.string t256, .slice Ao12 t257.length co12, .int .i64 t260] 26 (0, 0)) (by (with_reducible repeat ((refine au ?_ _))); refine aZ (cs := #[.string t256, .slice Ao12 t257.length co12, .int .i64 0]) ?_ 2 _ rfl; (with_reducible repeat ((refine au ?_ _))); refine aZ (cs := #[.string t256, .slice none 0 0, .int .i64 0]) ?_ 1 _ rfl; (with_reducible repeat ((refine au ?_ _))); refine aZ (cs := #[.string (⟨#[]⟩ : ByteArray), .slice none 0 0, .int .i64 0]) ?_ 0 _ rfl; (with_reducible repeat ((refine au ?_ _))); exact BK262.out) hb); replace HB := ah.mk (ak (by repeat ((with_reducible first | exact HB.out | refine bZ ?_ GE262.out))) hb); (try clear hb); (try clear ho0); obtain ⟨Ao14, co14, eo14⟩ := Kd.cK HO265.out; subst eo14; obtain ⟨hcz15_0, hcz15_1, hcz15_2, hfz15_0, hfz15_1, hfz15_2⟩ := z3_ BK262.out) | ((with_reducible refine bM (N := 19) rfl ?_); (try (refine fO (by rfl) ?_; dsimp only)); refine Kd.mJ k44 _ 44 ?hg (N := 19) ?hd (xs := ([(⟨(⟨#[1, 98, 1, 97, 0]⟩ : ByteArray), 255, 255, 0, (⟨#[]⟩ : ByteArray)⟩ : S44)] : List (S44))) (inner := [.string (⟨#[1, 98, 1, 97, 0]⟩ : ByteArray), .int .i64 255, .int .i64 255, .int .i64 0, .string (⟨#[]⟩ : ByteArray)]) (ok := fun _ => True) (okp := fun _ => True) ?hr ?hp (fun _ hk => hk) trivial (Below.refl _ _) (Nat.le_refl _) (by simp) ?_; (case hd => rfl); (case hg => rfl); (case hr => (go_simp; done)); (case hp => exact (bY.c5 (show Kd.M k44 _ _ _ (⟨(⟨#[1, 98, 1, 97, 0]⟩ : ByteArray), 255, 255, 0, (⟨#[]⟩ : ByteArray)⟩ : S44) [.string (⟨#[1, 98, 1, 97, 0]⟩ : ByteArray), .int .i64 255, .int .i64 255, .int .i64 0, .string (⟨#[]⟩ : ByteArray)] from (jO _ _ _ (⟨(⟨#[1, 98, 1, 97, 0]⟩ : ByteArray), 255, 255, 0, (⟨#[]⟩ : ByteArray)⟩ : S44) )) (bY.none _ _))); intro v267 w16 ho17 hb hg_ hnew_; clear hg_ hnew_; ((rw [← Ny266.out] at ho17)); have HO268 := ah.mk (Kd.bS (Kd.gq (Kd.gq (Kd.gq ho17 (Kd.iZ (by ((exact HO255.out))))) (Kd.iZ (by ((exact HO259.out))))) (Kd.iZ (by ((exact HO265.out))))) (av HB.out)); replace HO255 := ah.mk (Kd.eU (by ((exact HO255.out))) (Kd.fV ho17) hb); replace HO259 := ah.mk (Kd.eU (by ((exact HO259.out))) (Kd.fV ho17) hb); replace HO265 := ah.mk (Kd.eU (by ((exact HO265.out))) (Kd.fV ho17) hb); replace BK262 := ah.mk (ay (by ((exact BK262.out))) hb); replace HB := ah.mk (ak HB.out hb); clear hb ho17; obtain ⟨Ao18, co18, eo18⟩ := Kd.cK HO268.out; subst eo18) | (go_at_call 24; (with_reducible refine (bC.calls k t256 _ _ t257 t260 _ _ y266 t269 _ ?side1 ?side2 ?side3 ?side4 A6.out).mono ?_); (case side1 => repeat ((exact (Kd.aR HO259.out).2.2))); (case side2 => exact (Kd.aR HO259.out).2.1); (case side3 => repeat ((exact (Kd.aR HO268.out).2.2))); (case side4 => exact (Kd.aR HO268.out).2.1); rintro e w19 ⟨rfl, hb⟩; replace HO255 := ah.mk (Kd.bD (by ((exact HO255.out))) hb); replace HO259 := ah.mk (Kd.bD (by ((exact HO259.out))) hb); replace HO265 := ah.mk (Kd.bD (by ((exact HO265.out))) hb); replace HO268 := ah.mk (Kd.bD (by ((exact HO268.out))) hb); replace BK262 := ah.mk (ay (by ((exact BK262.out))) hb); replace HB := ah.mk (ak HB.out hb); (try clear hb)))
 go_ret
 exact ⟨by rfl, HB.out⟩
mutual
noncomputable def bB.l0 : Nat → List (S44) → Int → Option (Bool)
 | 0, _, _ => none
 | k + 1, x0, x3 => if x3 < (x0.length : Int) then (bB.j1 k x0 x3 (decide (x3 < 40))) else (bB.j1 k x0 x3 false)
noncomputable def bB.j1 : Nat → List (S44) → Int → Bool → Option (Bool)
 | 0, _, _, _ => none
 | k + 1, x0, x3, x11 => if x11 = true then (if 0 ≤ x3 then (if x3 < (x0.length : Int) then (if (((aj x0 x3).f4).size : Int) > 2000 then (some false) else ((bn.f k ((aj x0 x3).f0) ((aj x0 x3).f1) ((aj x0 x3).f2) ((aj x0 x3).f3) ((aj x0 x3).f4)).bind fun t272 => (if t272 = true then (bB.l0 k x0 (wrap64 (x3 + 1))) else (some false)))) else (none)) else (none)) else (some (decide ((x0.length : Int) ≤ 30)))
end
noncomputable def bB.f (k : Nat) (l0 : List (S44)) : Option (Bool) := bB.l0 k l0 0
theorem bB.calls (k : Nat) (A0 : Option Addr) (c0 : Nat) (l0 : List (S44)) (r : Bool) (w : World) (hr0 : Kd.C k44 w A0 l0.length l0) (hc0 : l0.length ≤ c0) (h : bB.f k l0 = some r) :
    Calls Tryz.prog 23 #[.slice A0 l0.length c0] w fun e w' => e = .returned (.bool r) ∧ Below w.heap.size w w' := by
  have hu44 := Tryz.underlying44
  have HR0 := ah.mk hr0
  have HC0 := ah.mk hc0
  clear hr0 hc0
  have HB := ah.mk (Below.refl w.heap.size w)
  have H : (bB.l0 k l0 0) = some r := h
  clear h
  have H' := ah.mk H
  clear H
  go_enter Tryz.func23, Tryz.ntmps23
  go_wp2
  go_loopg [3] k (fun kq v3 w' => ∃ (x3_1 : Int), v3 = .int .i64 x3_1 ∧ ah (bB.l0 kq l0 x3_1 = some r) ∧ ah (kq ≤ k) ∧ ah (Below w.heap.size w w'))
  case atStart => exact ⟨(0), (by rfl), H', ⟨Nat.le_refl _⟩, ⟨HB.out⟩⟩
  case round =>
   clear H'
   obtain ⟨x3_1, rfl, HA, HK1, HB⟩ := hrel
   cases gk with
   | zero => exact absurd HA.out (by simp [bB.l0])
   | succ k1 =>
    have H := HA.out
    clear HA
    simp only [bB.l0] at H
    have HC2 := ah.mk H
    clear H
    go_upto_region 2 with (fail)
    go_cut [11] (fun v11 wc => ∃ (kq : Nat) (x11_1 : Bool), v11 = .bool x11_1 ∧ ah (bB.j1 kq l0 x3_1 x11_1 = some r) ∧ ah (kq ≤ k1) ∧ ah (Below w.heap.size w wc))
    case first =>
     have H := HC2.out
     clear HC2
     by_cases c3 : x3_1 < (l0.length : Int)
     focus
      rw [if_pos c3] at H
      have c3b0 : decide (x3_1 < (l0.length : Int)) = true := decide_eq_true c3
     rotate_left
     focus
      rw [if_neg c3] at H
      have c3b0 : decide (x3_1 < (l0.length : Int)) = false := decide_eq_false c3
     rotate_left
     all_goals
      clear c3
      (skip)
      have H' := ah.mk H
      clear H
      go_wp2
      go_meet
     ·case rel => exact ⟨_, (decide (x3_1 < 40)), (by rfl), H', ⟨by have := HK1.out; omega⟩, ⟨HB.out⟩⟩
     ·case rel => exact ⟨_, (false), (by rfl), H', ⟨by have := HK1.out; omega⟩, ⟨HB.out⟩⟩
    case rest =>
     clear HC2
     obtain ⟨kq, x11_1, rfl, HA, HJ1, HB⟩ := hcut
     cases kq with
     | zero => exact absurd HA.out (by simp [bB.j1])
     | succ kj1 =>
      have H := HA.out
      clear HA
      simp only [bB.j1] at H
      by_cases c4 : x11_1 = true
      ·subst c4
       rw [if_pos rfl] at H
       obtain ⟨c5b0, H⟩ := fA H
       obtain ⟨c6b0, H⟩ := fA H
       by_cases c7 : (((aj l0 x3_1).f4).size : Int) > 2000
       focus
        rw [if_pos c7] at H
        have c7b0 : decide (2000 < (((aj l0 x3_1).f4).size : Int)) = true := decide_eq_true c7
        have c7b1 : decide (2000 < ((aj l0 x3_1).f4).size) = true := decide_eq_true (by omega)
        clear c7
        obtain rfl := Option.some.inj H
       rotate_left
       focus
        rw [if_neg c7] at H
        have c7b0 : decide (2000 < (((aj l0 x3_1).f4).size : Int)) = false := decide_eq_false c7
        have c7b1 : decide (2000 < ((aj l0 x3_1).f4).size) = false := decide_eq_false (by omega)
        clear c7
        obtain ⟨t272, A8, H⟩ := bN H
        by_cases c9 : t272 = true
        focus
         subst c9
         rw [if_pos rfl] at H
         have H' := ah.mk H
         clear H
        rotate_left
        focus
         replace c9 := Bool.eq_false_iff.mpr c9
         subst c9
         rw [if_neg ff_] at H
         obtain rfl := Option.some.inj H
        rotate_left
       rotate_left 2
       all_goals
        have p270 : 0 ≤ (x3_1 : Int) := of_decide_eq_true (by assumption)
        have q270 : x3_1 < (l0.length : Int) := of_decide_eq_true (by assumption)
        obtain ⟨ad270, e270, hx270_0, hx270_1, hx270_2, hx270_3, hx270_4⟩ := eH HR0.out x3_1 p270 q270
        cases e270
        replace hx270_0 := kp_ HB.out hx270_0
        replace hx270_1 := kp_ HB.out hx270_1
        replace hx270_2 := kp_ HB.out hx270_2
        replace hx270_3 := kp_ HB.out hx270_3
        replace hx270_4 := kp_ HB.out hx270_4
        replace p270 := eq_true p270
        replace q270 := eq_true q270
       ·go_wp2
        go_ret
        exact ⟨by rfl, HB.out⟩
       all_goals
        have p271 : 0 ≤ (x3_1 : Int) := of_decide_eq_true (by assumption)
        have q271 : x3_1 < (l0.length : Int) := of_decide_eq_true (by assumption)
        obtain ⟨ad271, e271, hx271_0, hx271_1, hx271_2, hx271_3, hx271_4⟩ := eH HR0.out x3_1 p271 q271
        obtain rfl : ad270 = ad271 := (by injection e271)
        replace hx271_0 := kp_ HB.out hx271_0
        replace hx271_1 := kp_ HB.out hx271_1
        replace hx271_2 := kp_ HB.out hx271_2
        replace hx271_3 := kp_ HB.out hx271_3
        replace hx271_4 := kp_ HB.out hx271_4
        replace p271 := eq_true p271
        replace q271 := eq_true q271
        go_wp2_with (((go_at_call 48; (with_reducible refine (bn.calls kj1 ((aj l0 x3_1).f0) ((aj l0 x3_1).f1) ((aj l0 x3_1).f2) ((aj l0 x3_1).f3) ((aj l0 x3_1).f4) _ _ A8.out).mono ?_); rintro e w10 ⟨rfl, hb⟩; replace HB := ah.mk (ak HB.out hb); (try clear hb))))
       ·go_roundg kj1
        case measure => have := HK1.out; have := HJ1.out; omega
        case rel => exact ⟨(wrap64 (x3_1 + 1)), (by rfl), H', ⟨by have := HK1.out; have := HJ1.out; omega⟩, ⟨HB.out⟩⟩
       ·go_ret
        exact ⟨by rfl, HB.out⟩
      ·replace c4 := Bool.eq_false_iff.mpr c4
       subst c4
       rw [if_neg ff_] at H
       obtain rfl := Option.some.inj H
       go_wp2
       go_ret
       exact ⟨by rfl, HB.out⟩
end Go.Y.PZh
namespace Go.Y.Rrs
open Go.Y.Given Go.Y.PRd Go.Y.PRr Go.Y.PZo Go.Y.PZf Go.Y.PZh Go.Y.Oct Go.Y.Name Go.Y.Cmp Go.Y.gG Go.Y.fM Go.Y.fD
open Classical in
theorem KD (x y : RR) (hx : fine x) (hy : fine y) : iB.f x.f0 x.f1 x.f2 x.f3 x.f4 y.f0 y.f1 y.f2 y.f3 y.f4 = some (decide (bg x y = 0)) := by
 have hz := vR x y
 have ha := rV hx.1 hy.1
 unfold iB.f
 rw [lU, Option.bind_some, vT x hx.2, vT y hy.2]
 simp only [Option.bind_some]
 by_cases h0 : iw x = iw y
 ·rw [ha.mpr h0]
  by_cases h1 : x.f1 = y.f1
  ·by_cases h2 : x.f2 = y.f2
   ·rw [if_pos rfl, if_pos h1, if_pos h2]
    congr 1
    by_cases h3 : (jB x).toList = (jB y).toList
    ·rw [decide_eq_true (hz.mpr ⟨h0, h1, h2, h3⟩), h3, beq_self_eq_true]
    ·rw [decide_eq_false (fun e => h3 (hz.mp e).2.2.2)]
     exact beq_eq_false_iff_ne.mpr h3
   ·rw [if_pos rfl, if_pos h1, if_neg h2, decide_eq_false (fun e => h2 (hz.mp e).2.2.1)]
  ·rw [if_pos rfl, if_neg h1, decide_eq_false (fun e => h1 (hz.mp e).2.1)]
 ·rw [Bool.eq_false_iff.mpr (fun e => h0 (ha.mp e)), if_neg (by decide), decide_eq_false (fun e => h0 (hz.mp e).1)]
open Classical in
noncomputable def nH : List RR → List RR → Bool
 | [], [] => true
 | x :: u, y :: v => decide (bg x y = 0) && nH u v
 | _, _ => false
theorem FI (u v : List RR) (hu : ∀ y ∈ u, fine y) (hv : ∀ y ∈ v, fine y) (hl : u.length = v.length) (hn : u.length ≤ 1000000) : ∀ (d i : Nat), u.length ≤ i + d → i ≤ u.length → Ev (fun k => jA.l0 k v u (u.length : Int) (i : Int)) (nH (u.drop i) (v.drop i)) := by
 have hend : ∀ i : Nat, u.length ≤ i → Ev (fun k => jA.l0 k v u (u.length : Int) (i : Int)) (nH (u.drop i) (v.drop i)) := by
  intro i hd
  refine Ev.step (f := fun _ => some true) (fun k => by rw [jA.l0]; rw [if_neg (by omega)]) ?_
  rw [List.drop_of_length_le hd, List.drop_of_length_le (by omega), nH]
  exact Ev.now _
 intro d
 induction d with
 | zero => exact fun i hd _ => hend i (by omega)
 | succ d ih =>
  intro i hd hi0
  by_cases hi : i < u.length
  ·have e1 : wrap64 ((i : Int) + 1) = ((i + 1 : Nat) : Int) := by unfold wrap64; omega
   have hs : ∀ k, jA.l0 (k + 1) v u (u.length : Int) (i : Int) = (iB.f (rdR u (i : Int)).f0 (rdR u (i : Int)).f1 (rdR u (i : Int)).f2 (rdR u (i : Int)).f3 (rdR u (i : Int)).f4 (rdR v (i : Int)).f0 (rdR v (i : Int)).f1 (rdR v (i : Int)).f2 (rdR v (i : Int)).f3 (rdR v (i : Int)).f4).bind fun t => if t = true then jA.l0 k v u (u.length : Int) ((i + 1 : Nat) : Int) else some false := fun k => by
    rw [jA.l0, e1]; rw [if_pos (by omega), if_pos (by omega), if_pos (by omega), if_pos (by omega)]
   rw [fC u i hi, fC v i (by omega)] at hs
   refine Ev.step hs (Ev.bind (Ev.const (KD _ _ (hu _ (List.getElem_mem _)) (hv _ (List.getElem_mem _)))) ?_)
   rw [List.drop_eq_getElem_cons hi, List.drop_eq_getElem_cons (show i < v.length by omega), nH]
   by_cases h : bg u[i] v[i] = 0
   ·simp only [h, decide_true, if_true, Bool.true_and]; exact ih (i + 1) (by omega) (by omega)
   ·simp only [h, decide_false, Bool.false_eq_true, if_false, Bool.false_and]; exact Ev.now _
  ·exact hend i (by omega)
theorem Ag : ∀ (u v : List RR), ¬ u.length = v.length → nH u v = false
 | [], [], h => absurd rfl h
 | [], _ :: _, _ => rfl
 | _ :: _, [], _ => rfl
 | x :: u, y :: v, h => by rw [nH, Ag u v (fun e => h (by simp [e])), Bool.and_false]
theorem JY (u v : List RR) (z : Int) (hu : ∀ y ∈ u, fine y) (hv : ∀ y ∈ v, fine y) (hn : u.length ≤ 1000000) : Ev (fun k => jA.f k u v z) (nH u v) := by
 unfold jA.f
 by_cases h : u.length = v.length
 ·simp only [show ((u.length : Int) = (v.length : Int)) = True from eq_true (by omega), if_true]
  have := FI u v hu hv h hn u.length 0 (by omega) (Nat.zero_le _)
  rw [List.drop_zero, List.drop_zero] at this
  exact this
 ·simp only [show ((u.length : Int) = (v.length : Int)) = False from eq_false (by omega), if_false]
  rw [Ag u v h]
  exact Ev.now _
noncomputable def sU (u v : List RR) : Bool := nH (ofL bg u) (ofL bg v)
theorem JH (l : List RR) : (ofL bg l).length ≤ l.length := by have := tZ l [] List.Pairwise.nil; unfold ofL; simpa using this
theorem Hl (u v : List RR) (hu : ∀ y ∈ u, fine y) (hv : ∀ y ∈ v, fine y) (nu : u.length ≤ 100000) (nv : v.length ≤ 100000) : Ev (fun k => ku.f k u v) (sU u v) := by
 unfold ku.f
 simp only [Gy hu (show u.length ≤ 1000000 by omega), Gy hv (show v.length ≤ 1000000 by omega), Option.bind_some]
 refine Ev.bind (JY _ _ _ (oV hu nu).all (oV hv nv).all ?_) (Ev.now _)
 have := JH u; omega
open Classical in
noncomputable def inB (u v : List RR) : Bool := u.all fun x => v.any fun y => decide (bg x y = 0)
theorem zo : ∀ (u v : List RR), jv bg u → jv bg v → (nH u v = true ↔ (∀ x ∈ u, ∃ y ∈ v, bg x y = 0) ∧ ∀ y ∈ v, ∃ x ∈ u, bg x y = 0)
 | [], [], _, _ => by simp [nH]
 | [], y :: v, _, _ => ⟨fun h => (by cases (show nH [] (y :: v) = false from rfl).symm.trans h), fun h => by obtain ⟨x, hx, _⟩ := h.2 y (List.mem_cons_self ..); cases hx⟩
 | x :: u, [], _, _ => ⟨fun h => (by cases (show nH (x :: u) [] = false from rfl).symm.trans h), fun h => by obtain ⟨y, hy, _⟩ := h.1 x (List.mem_cons_self ..); cases hy⟩
 | x :: u, y :: v, hu, hv => by
  have hu' := List.pairwise_cons.mp hu
  have hv' := List.pairwise_cons.mp hv
  have O := gN
  rw [nH, Bool.and_eq_true, decide_eq_true_eq, zo u v hu'.2 hv'.2]
  constructor
  ·rintro ⟨h0, h1, h2⟩
   refine ⟨fun z hz => ?_, fun z hz => ?_⟩
   ·rcases List.mem_cons.mp hz with rfl | hz
    ·exact ⟨y, List.mem_cons_self .., h0⟩
    ·obtain ⟨t, ht, e⟩ := h1 z hz
     exact ⟨t, List.mem_cons_of_mem _ ht, e⟩
   ·rcases List.mem_cons.mp hz with rfl | hz
    ·exact ⟨x, List.mem_cons_self .., h0⟩
    ·obtain ⟨t, ht, e⟩ := h2 z hz
     exact ⟨t, List.mem_cons_of_mem _ ht, e⟩
  ·rintro ⟨h1, h2⟩
   have h0 : bg x y = 0 := by
    obtain ⟨t, ht, e⟩ := h1 x (List.mem_cons_self ..)
    obtain ⟨r, hr, f⟩ := h2 y (List.mem_cons_self ..)
    rcases List.mem_cons.mp ht with rfl | ht
    ·exact e
    rcases List.mem_cons.mp hr with rfl | hr
    ·exact f
    have a1 := hv'.1 t ht
    have a2 := hu'.1 r hr
    have b1 := O.lt_of_lt_of_eq a2 f
    have b2 := O.lt_of_lt_of_eq a1 (O.symm e)
    have := O.flip x y
    omega
   refine ⟨h0, fun z hz => ?_, fun z hz => ?_⟩
   ·obtain ⟨t, ht, e⟩ := h1 z (List.mem_cons_of_mem _ hz)
    rcases List.mem_cons.mp ht with rfl | ht
    ·have a1 := hu'.1 z hz
     have a2 := O.lt_of_lt_of_eq a1 e
     omega
    ·exact ⟨t, ht, e⟩
   ·obtain ⟨t, ht, e⟩ := h2 z (List.mem_cons_of_mem _ hz)
    rcases List.mem_cons.mp ht with rfl | ht
    ·have a1 := hv'.1 z hz
     have a2 := O.lt_of_lt_of_eq a1 (O.symm e)
     have := O.symm h0
     omega
    ·exact ⟨t, ht, e⟩
theorem qB (l : List RR) (x : RR) : (∃ y ∈ ofL bg l, bg x y = 0) ↔ ∃ y ∈ l, bg x y = 0 := by
 have h1 : find bg (ofL bg l) x = none ↔ (cls bg l x).getLast? = none := by rw [zL gN]
 rw [sK, List.getLast?_eq_none_iff] at h1
 constructor
 ·intro ⟨y, hy, e⟩
  refine Classical.byContradiction fun hn => ?_
  exact h1.mpr (lW fun z hz e => hn ⟨z, hz, e⟩) y hy e
 ·intro ⟨y, hy, e⟩
  refine Classical.byContradiction fun hn => ?_
  have := h1.mp fun z hz e => hn ⟨z, hz, e⟩
  have h2 : y ∈ cls bg l x := nG.mpr ⟨hy, e⟩
  rw [this] at h2; cases h2
theorem Jz (l : List RR) (x : RR) : (∃ y ∈ ofL bg l, bg y x = 0) ↔ ∃ y ∈ l, bg y x = 0 := by
 have h := qB l x
 exact ⟨fun ⟨y, hy, e⟩ => by obtain ⟨z, hz, f⟩ := h.mp ⟨y, hy, gN.symm e⟩; exact ⟨z, hz, gN.symm f⟩, fun ⟨y, hy, e⟩ => by obtain ⟨z, hz, f⟩ := h.mpr ⟨y, hy, gN.symm e⟩; exact ⟨z, hz, gN.symm f⟩⟩
theorem Ez (u v : List RR) : inB u v = true ↔ ∀ x ∈ u, ∃ y ∈ v, bg x y = 0 := by
 unfold inB
 simp only [List.all_eq_true, List.any_eq_true, decide_eq_true_eq]
theorem Gv (u v : List RR) : sU u v = (inB u v && inB v u) := by
 rw [Bool.eq_iff_iff, Bool.and_eq_true, Ez, Ez]
 unfold sU
 rw [zo _ _ (tN gN u) (tN gN v)]
 constructor
 ·rintro ⟨h1, h2⟩
  refine ⟨fun x hx => ?_, fun y hy => ?_⟩
  ·obtain ⟨x', hx', e⟩ := (qB u x).mpr ⟨x, hx, gN.refl x⟩
   obtain ⟨y, hy, f⟩ := h1 x' hx'
   obtain ⟨y', hy', g⟩ := (qB v x).mp ⟨y, hy, by rw [gN.cong x x' y e]; exact f⟩
   exact ⟨y', hy', g⟩
  ·obtain ⟨y', hy', e⟩ := (qB v y).mpr ⟨y, hy, gN.refl y⟩
   obtain ⟨x, hx, f⟩ := h2 y' hy'
   obtain ⟨x', hx', g⟩ := (qB u y).mp ⟨x, hx, by rw [gN.cong y y' x e]; exact gN.symm f⟩
   exact ⟨x', hx', g⟩
 ·rintro ⟨h1, h2⟩
  refine ⟨fun x hx => ?_, fun y hy => ?_⟩
  ·rcases tX u [] hx with h | h
   ·cases h
   ·obtain ⟨y, hy, e⟩ := h1 x h
    exact (qB v x).mpr ⟨y, hy, e⟩
  ·rcases tX v [] hy with h | h
   ·cases h
   ·obtain ⟨x, hx, e⟩ := h2 y h
    exact (Jz u y).mpr ⟨x, hx, gN.symm e⟩
open Classical in
theorem Et (u v : List RR) (x : RR) (i : Nat) (hi : i < u.length) (hx : u[i] = x) (fx : fine x) (hv : ∀ y ∈ v, fine y) (nu : u.length ≤ 1000000) (nv : v.length ≤ 1000000) {R : Bool} (hR : Ev (fun k => aW.l0 k u v ((i + 1 : Nat) : Int)) R) : ∀ (d j : Nat) (b : Bool), v.length ≤ j + d → j ≤ v.length → Ev (fun k => aW.l1 k u v (i : Int) b (j : Int)) ((b || (v.drop j).any fun y => decide (bg x y = 0)) && R) := by
 have e0 : wrap64 ((i : Int) + 1) = ((i + 1 : Nat) : Int) := by unfold wrap64; omega
 have hend : ∀ (j : Nat) (b : Bool), v.length ≤ j → Ev (fun k => aW.l1 k u v (i : Int) b (j : Int)) ((b || (v.drop j).any fun y => decide (bg x y = 0)) && R) := by
  intro j b hd
  have hs : ∀ k, aW.l1 (k + 1) u v (i : Int) b (j : Int) = if b = true then aW.l0 k u v ((i + 1 : Nat) : Int) else some false := fun k => by
   rw [aW.l1, e0]; rw [if_neg (by omega)]
  refine Ev.step hs ?_
  rw [List.drop_of_length_le hd, List.any_nil, Bool.or_false]
  cases b
  ·simp only [Bool.false_eq_true, if_false, Bool.false_and]; exact Ev.now _
  ·simp only [if_true, Bool.true_and]; exact hR
 intro d
 induction d with
 | zero => exact fun j b hd _ => hend j b (by omega)
 | succ d ih =>
  intro j b hd hj0
  by_cases hj : j < v.length
  ·have e1 : wrap64 ((j : Int) + 1) = ((j + 1 : Nat) : Int) := by unfold wrap64; omega
   have hs : ∀ k, aW.l1 (k + 1) u v (i : Int) b (j : Int) = if b = true then aW.l1 k u v (i : Int) true ((j + 1 : Nat) : Int) else (eP.f k (rdR u (i : Int)).f0 (rdR u (i : Int)).f1 (rdR u (i : Int)).f2 (rdR u (i : Int)).f3 (rdR u (i : Int)).f4 (rdR v (j : Int)).f0 (rdR v (j : Int)).f1 (rdR v (j : Int)).f2 (rdR v (j : Int)).f3 (rdR v (j : Int)).f4).bind fun t => aW.l1 k u v (i : Int) t ((j + 1 : Nat) : Int) := fun k => by
    rw [aW.l1, e1]; rw [if_pos (by omega)]
    split
    ·rfl
    ·rw [if_pos (by omega), if_pos (by omega), if_pos (by omega)]
   rw [fC u i hi, fC v j hj, hx] at hs
   refine Ev.step hs ?_
   rw [List.drop_eq_getElem_cons hj, List.any_cons]
   cases b
   ·simp only [Bool.false_eq_true, if_false, Bool.false_or]
    exact Ev.bind (JA x v[j] fx (hv _ (List.getElem_mem _))) (ih (j + 1) _ (by omega) (by omega))
   ·simp only [if_true, Bool.true_or]
    have := ih (j + 1) true (by omega) (by omega)
    rw [Bool.true_or] at this
    exact this
  ·exact hend j b (by omega)
theorem FD (u v : List RR) (hu : ∀ y ∈ u, fine y) (hv : ∀ y ∈ v, fine y) (nu : u.length ≤ 1000000) (nv : v.length ≤ 1000000) : ∀ (d i : Nat), u.length ≤ i + d → i ≤ u.length → Ev (fun k => aW.l0 k u v (i : Int)) (inB (u.drop i) v) := by
 have hend : ∀ i : Nat, u.length ≤ i → Ev (fun k => aW.l0 k u v (i : Int)) (inB (u.drop i) v) := by
  intro i hd
  refine Ev.step (f := fun _ => some true) (fun k => by rw [aW.l0]; rw [if_neg (by omega)]) ?_
  rw [List.drop_of_length_le hd]
  exact Ev.now _
 intro d
 induction d with
 | zero => exact fun i hd _ => hend i (by omega)
 | succ d ih =>
  intro i hd hi0
  by_cases hi : i < u.length
  ·refine Ev.step (f := fun k => aW.l1 k u v (i : Int) false 0) (fun k => by rw [aW.l0]; rw [if_pos (by omega)]) ?_
   have h := Et u v u[i] i hi rfl (hu _ (List.getElem_mem _)) hv nu nv (ih (i + 1) (by omega) (by omega)) v.length 0 false (by omega) (Nat.zero_le _)
   rw [List.drop_zero, Bool.false_or] at h
   rw [List.drop_eq_getElem_cons hi]
   exact h
  ·exact hend i (by omega)
theorem Dm (u v : List RR) (hu : ∀ y ∈ u, fine y) (hv : ∀ y ∈ v, fine y) (nu : u.length ≤ 1000000) (nv : v.length ≤ 1000000) : Ev (fun k => aW.f k u v) (inB u v) := by
 have := FD u v hu hv nu nv u.length 0 (by omega) (Nat.zero_le _)
 rw [List.drop_zero] at this
 exact this
def qm (a : ByteArray) (s : List RR) (r : RR) : Int :=
 if r.f3 = 0 then (if kR r.f0 a = true then (if r.f2 = 1 then (if og r.f1 = true then 0 else 1)
  else if r.f2 = 255 then (if r.f4.toList = [] then (if r.f1 = 255 then (if iD s r.f0 = true then 0 else 3) else if (fI s r.f0 r.f1).length = 0 then 8 else 0) else 1)
  else if r.f2 = 254 then (if r.f4.toList = [] then (if r.f1 = 255 then (if iD s r.f0 = true then 6 else 0) else if (fI s r.f0 r.f1).length = 0 then 0 else 7) else 1)
  else 1) else 10) else 1
theorem Bh (b : Bool) (c : Int) : gD.f b c = some (if b = true then c else 0) := by unfold gD.f; split <;> rfl
theorem nil_eq (n : Nat) : (((n : Int)) == 0) = decide (n = 0) := by
 by_cases h : n = 0
 ·rw [h]; rfl
 ·rw [decide_eq_false h, beq_eq_false_iff_ne]; omega
theorem FE (a : ByteArray) (s : List RR) (z : Int) (r : RR) (hn : s.length ≤ 1000000) : Ev (fun k => dR.f k a s z r.f0 r.f1 r.f2 r.f3 r.f4) (qm a s r) := by
 unfold dR.f qm kg.f
 simp only [Option.bind_some]
 by_cases h3 : r.f3 = 0
 ·simp only [if_pos h3]
  refine Ev.bind (Hq _ _) ?_
  cases kR r.f0 a
  ·simp only [Bool.false_eq_true, if_false]; exact Ev.now _
  ·simp only [if_true]
   unfold fK.f
   simp only [IQ a s z r.f0 hn, CS a s z r.f0 r.f1 hn, Option.bind_some, nil_eq]
   by_cases h1 : r.f2 = 1
   ·simp only [h1, if_true, Bj, Option.bind_some, Bh]
    cases og r.f1
    ·exact Ev.now _
    ·exact Ev.now _
   ·simp only [h1, if_false]
    have hj0 : ∀ b, Ev (fun k => dR.j0 k (!iD s r.f0) (decide ((fI s r.f0 r.f1).length = 0)) b r.f0 r.f1 r.f2 r.f3 r.f4) (if b = true then (if r.f4.toList = [] then (if r.f2 = 255 then (if r.f1 = 255 then (if iD s r.f0 = true then 0 else 3) else if (fI s r.f0 r.f1).length = 0 then 8 else 0) else if r.f1 = 255 then (if iD s r.f0 = true then 6 else 0) else if (fI s r.f0 r.f1).length = 0 then 0 else 7) else 1) else 1) := by
     have hj1 : ∀ c, Ev (fun k => dR.j1 k (!iD s r.f0) (decide ((fI s r.f0 r.f1).length = 0)) c r.f0 r.f1 r.f2 r.f3 r.f4) (if c = true then (if iD s r.f0 = true then 0 else 3) else if r.f2 = 255 then (if (fI s r.f0 r.f1).length = 0 then 8 else 0) else if r.f1 = 255 then (if iD s r.f0 = true then 6 else 0) else if (fI s r.f0 r.f1).length = 0 then 0 else 7) := by
      intro c
      have hs : ∀ k, dR.j1 (k + 1) (!iD s r.f0) (decide ((fI s r.f0 r.f1).length = 0)) c r.f0 r.f1 r.f2 r.f3 r.f4 = some (if c = true then (if iD s r.f0 = true then 0 else 3) else if r.f2 = 255 then (if (fI s r.f0 r.f1).length = 0 then 8 else 0) else if r.f1 = 255 then (if iD s r.f0 = true then 6 else 0) else if (fI s r.f0 r.f1).length = 0 then 0 else 7) := fun k => by
       rw [dR.j1]
       simp only [Bh, Option.bind_some]
       cases iD s r.f0 <;> by_cases hz : (fI s r.f0 r.f1).length = 0 <;> simp only [hz, Bool.not_true, Bool.not_false, decide_true, decide_false, Bool.false_eq_true, if_true, if_false] <;> (repeat' split) <;> first | rfl | contradiction
      exact Ev.step hs (Ev.now _)
     intro b
     cases b
     ·simp only [Bool.false_eq_true, if_false]
      exact Ev.step (f := fun _ => some 1) (fun k => by rw [dR.j0, if_neg (by decide)]) (Ev.now _)
     ·simp only [if_true]
      by_cases h4 : r.f4.toList = []
      ·simp only [h4, if_true]
       by_cases h2 : r.f2 = 255
       ·have := hj1 (r.f1 == 255)
        simp only [h2, if_true] at this ⊢
        refine Ev.step (fun k => by rw [dR.j0, if_pos rfl, if_pos h4, if_pos rfl]) ?_
        by_cases h5 : r.f1 = 255
        ·simp only [h5, beq_self_eq_true, if_true] at this ⊢; exact this
        ·simp only [h5, beq_eq_false_iff_ne.mpr h5, Bool.false_eq_true, if_false] at this ⊢; exact this
       ·have := hj1 false
        simp only [h2, Bool.false_eq_true, if_false] at this ⊢
        refine Ev.step (fun k => by rw [dR.j0, if_pos rfl, if_pos h4, if_neg h2]) ?_
        exact this
      ·simp only [h4, if_false]
       exact Ev.step (f := fun _ => some 1) (fun k => by rw [dR.j0, if_pos rfl, if_neg h4]) (Ev.now _)
    by_cases h2 : r.f2 = 255
    ·have := hj0 true
     simp only [h2, if_true, beq_self_eq_true] at this ⊢
     exact this
    ·have := hj0 (r.f2 == 254)
     simp only [h2, if_false] at this ⊢
     by_cases h6 : r.f2 = 254
     ·simp only [h6, beq_self_eq_true, if_true] at this ⊢; exact this
     ·simp only [h6, beq_eq_false_iff_ne.mpr h6, Bool.false_eq_true, if_false] at this ⊢; exact this
 ·simp only [h3, if_false]; exact Ev.now _
theorem Jv (b : ByteArray) : b.toList.isEmpty = decide (b.toList = []) := by
 cases h : b.toList <;> rfl
theorem FM (a : ByteArray) (s : List RR) (r : RR) (hn : s.length ≤ 1000000) : Ev (fun k => aU.f k a s r.f0 r.f1 r.f2 r.f3 r.f4) (qm a s r) := by
 unfold aU.f qm
 by_cases h3 : r.f3 = 0
 ·simp only [if_pos h3]
  refine Ev.bind (yw _ _) ?_
  cases kR r.f0 a
  ·simp only [Bool.false_eq_true, if_false]; exact Ev.now _
  ·simp only [if_true]
   refine Ev.bind (Dp a s r.f0 hn) (Ev.bind (wW a s r.f0 r.f1 hn) ?_)
   rw [wS]
   by_cases h1 : r.f2 = 1
   ·simp only [h1, if_true, Bl, Option.bind_some]
    cases og r.f1
    ·exact Ev.now _
    ·exact Ev.now _
   ·simp only [h1, if_false]
    have hj1 : ∀ c, Ev (fun k => aU.j1 k (decide (0 < (fI s r.f0 r.f1).length)) c r.f0 r.f1 r.f2 r.f3 r.f4) (if c = true then 3 else if r.f1 = 255 then 0 else if (fI s r.f0 r.f1).length = 0 then 8 else 0) := by
     intro c
     have hs : ∀ k, aU.j1 (k + 1) (decide (0 < (fI s r.f0 r.f1).length)) c r.f0 r.f1 r.f2 r.f3 r.f4 = some (if c = true then 3 else if r.f1 = 255 then 0 else if (fI s r.f0 r.f1).length = 0 then 8 else 0) := fun k => by
      rw [aU.j1]
      by_cases hz : (fI s r.f0 r.f1).length = 0
      ·rw [decide_eq_false (by omega)]; simp only [hz, if_true, Bool.false_eq_true, if_false]; (repeat' split) <;> rfl
      ·rw [decide_eq_true (by omega)]; simp only [hz, if_true, if_false]; (repeat' split) <;> rfl
     exact Ev.step hs (Ev.now _)
    have hj2 : ∀ c, Ev (fun k => aU.j2 k (decide (0 < (fI s r.f0 r.f1).length)) c r.f0 r.f1 r.f2 r.f3 r.f4) (if c = true then 6 else if r.f1 = 255 then 0 else if (fI s r.f0 r.f1).length = 0 then 0 else 7) := by
     intro c
     have hs : ∀ k, aU.j2 (k + 1) (decide (0 < (fI s r.f0 r.f1).length)) c r.f0 r.f1 r.f2 r.f3 r.f4 = some (if c = true then 6 else if r.f1 = 255 then 0 else if (fI s r.f0 r.f1).length = 0 then 0 else 7) := fun k => by
      rw [aU.j2]
      by_cases hz : (fI s r.f0 r.f1).length = 0
      ·rw [decide_eq_false (by omega)]; simp only [hz, if_true, Bool.false_eq_true, if_false]; (repeat' split) <;> rfl
      ·rw [decide_eq_true (by omega)]; simp only [hz, if_true, if_false]; (repeat' split) <;> rfl
     exact Ev.step hs (Ev.now _)
    have hj0 : ∀ b, Ev (fun k => aU.j0 k (iD s r.f0) (decide (0 < (fI s r.f0 r.f1).length)) b r.f0 r.f1 r.f2 r.f3 r.f4) (if b = true then 1 else if r.f2 = 255 then (if r.f1 = 255 then (if iD s r.f0 = true then 0 else 3) else if (fI s r.f0 r.f1).length = 0 then 8 else 0) else if r.f1 = 255 then (if iD s r.f0 = true then 6 else 0) else if (fI s r.f0 r.f1).length = 0 then 0 else 7) := by
     intro b
     have hs : ∀ k, aU.j0 (k + 1) (iD s r.f0) (decide (0 < (fI s r.f0 r.f1).length)) b r.f0 r.f1 r.f2 r.f3 r.f4 = if b = true then some 1 else if r.f2 = 255 then aU.j1 k (decide (0 < (fI s r.f0 r.f1).length)) (r.f1 == 255 && !iD s r.f0) r.f0 r.f1 r.f2 r.f3 r.f4 else aU.j2 k (decide (0 < (fI s r.f0 r.f1).length)) (r.f1 == 255 && iD s r.f0) r.f0 r.f1 r.f2 r.f3 r.f4 := fun k => by
      rw [aU.j0]
      by_cases h5 : r.f1 = 255
      ·simp only [h5, beq_self_eq_true, Bool.true_and, if_true]
      ·simp only [h5, beq_eq_false_iff_ne.mpr h5, Bool.false_and, if_false]
     refine Ev.step hs ?_
     cases b
     ·simp only [Bool.false_eq_true, if_false]
      by_cases h2 : r.f2 = 255
      ·have := hj1 (r.f1 == 255 && !iD s r.f0)
       simp only [h2, if_true] at this ⊢
       by_cases h5 : r.f1 = 255
       ·simp only [h5, beq_self_eq_true, Bool.true_and, if_true] at this ⊢
        cases hth : iD s r.f0
        ·simp only [hth, Bool.not_false, if_true, Bool.false_eq_true, if_false] at this ⊢; exact this
        ·simp only [hth, Bool.not_true, if_true, Bool.false_eq_true, if_false] at this ⊢; exact this
       ·simp only [h5, beq_eq_false_iff_ne.mpr h5, Bool.false_and, Bool.false_eq_true, if_false] at this ⊢; exact this
      ·have := hj2 (r.f1 == 255 && iD s r.f0)
       simp only [h2, if_false] at this ⊢
       by_cases h5 : r.f1 = 255
       ·simp only [h5, beq_self_eq_true, Bool.true_and, if_true] at this ⊢; exact this
       ·simp only [h5, beq_eq_false_iff_ne.mpr h5, Bool.false_and, Bool.false_eq_true, if_false] at this ⊢; exact this
     ·simp only [if_true]; exact Ev.now _
    have h := hj0 (!r.f4.toList.isEmpty)
    rw [Jv] at h ⊢
    by_cases h2 : r.f2 = 255
    ·simp only [h2, if_true] at h ⊢
     by_cases h4 : r.f4.toList = []
     ·simp only [h4, decide_true, Bool.not_true, Bool.false_eq_true, if_false, if_true] at h ⊢; exact h
     ·simp only [h4, decide_false, Bool.not_false, if_true, if_false] at h ⊢; exact h
    ·simp only [h2, if_false] at h ⊢
     by_cases h6 : r.f2 = 254
     ·simp only [h6, if_true] at h ⊢
      by_cases h4 : r.f4.toList = []
      ·simp only [h4, decide_true, Bool.not_true, Bool.false_eq_true, if_false, if_true] at h ⊢; exact h
      ·simp only [h4, decide_false, Bool.not_false, if_true, if_false] at h ⊢; exact h
     ·simp only [h6, if_false]
      exact hj0 true
 ·simp only [h3, if_false]; exact Ev.now _
end Go.Y.Rrs
namespace Go.Y.Rrs
open Go.Y.Given Go.Y.PRd Go.Y.PRr Go.Y.PZo Go.Y.PZf Go.Y.PZh Go.Y.Oct Go.Y.Name Go.Y.Cmp Go.Y.gG Go.Y.fM Go.Y.fD
def lS (a : ByteArray) (s : List RR) : List RR → Int
 | [] => 0
 | r :: l => if qm a s r = 0 then lS a s l else qm a s r
def mZ (l : List RR) : List RR := l.filter fun r => r.f2 == 1
noncomputable def kX (s kept : List RR) : List RR → Int
 | [] => 0
 | r :: l => if sU (fI s r.f0 r.f1) (fI kept r.f0 r.f1) = true then kX s kept l else 8
noncomputable def vE (a : ByteArray) (s l : List RR) : Int := if lS a s l = 0 then kX s (mZ l) (mZ l) else lS a s l
theorem rz {s : List RR} {n : ByteArray} {t : Int} {y : RR} (h : y ∈ fI s n t) : y ∈ s := (List.mem_filter.mp (List.mem_filter.mp h).1).1
theorem qN (s : List RR) (n : ByteArray) (t : Int) : (fI s n t).length ≤ s.length := Nat.le_trans (Cv _ _) (qE s n)
section
variable (a : ByteArray) (s : List RR) (z : Int) (fs : ∀ y ∈ s, fine y) (ns : s.length ≤ 100000)
include fs ns
theorem Au (K : List RR) (fk : ∀ y ∈ K, fine y) (nk : K.length ≤ 100000) : ∀ (d i : Nat), K.length ≤ i + d → i ≤ K.length → Ev (fun k => bC.l1 k K K (K.length : Int) (i : Int) a s z) (kX s K (K.drop i)) := by
 have hend : ∀ i : Nat, K.length ≤ i → Ev (fun k => bC.l1 k K K (K.length : Int) (i : Int) a s z) (kX s K (K.drop i)) := by
  intro i hd
  refine Ev.step (f := fun _ => some 0) (fun k => by rw [bC.l1]; rw [if_neg (by omega)]) ?_
  rw [List.drop_of_length_le hd, kX]
  exact Ev.now _
 intro d
 induction d with
 | zero => exact fun i hd _ => hend i (by omega)
 | succ d ih =>
  intro i hd hi0
  by_cases hi : i < K.length
  ·have e1 : wrap64 ((i : Int) + 1) = ((i + 1 : Nat) : Int) := by unfold wrap64; omega
   have hs : ∀ k, bC.l1 (k + 1) K K (K.length : Int) (i : Int) a s z = (ku.f k (fI s (rdR K (i : Int)).f0 (rdR K (i : Int)).f1) (fI K (rdR K (i : Int)).f0 (rdR K (i : Int)).f1)).bind fun t => if t = true then bC.l1 k K K (K.length : Int) ((i + 1 : Nat) : Int) a s z else some 8 := fun k => by
    rw [bC.l1, e1]
    rw [if_pos (by omega), if_pos (by omega), if_pos (by omega), CS a s z _ _ (by omega), Option.bind_some, CO K _ (by omega), Option.bind_some, uT _ _ (Nat.le_trans (qE K _) (by omega)), Option.bind_some]
    rfl
   rw [fC K i hi] at hs
   have l1 := qN s K[i].f0 K[i].f1
   have l2 := qN K K[i].f0 K[i].f1
   refine Ev.step hs (Ev.bind (Hl _ _ (fun y hy => fs y (rz hy)) (fun y hy => fk y (rz hy)) (by omega) (by omega)) ?_)
   rw [List.drop_eq_getElem_cons hi, kX]
   cases sU (fI s K[i].f0 K[i].f1) (fI K K[i].f0 K[i].f1)
   ·simp only [Bool.false_eq_true, if_false]; exact Ev.now _
   ·simp only [if_true]; exact ih (i + 1) (by omega) (by omega)
  ·exact hend i (by omega)
theorem zn (l : List RR) (fl : ∀ y ∈ l, fine y) (nl : l.length ≤ 50000) : ∀ (d i : Nat) (K : List RR), l.length ≤ i + d → i ≤ l.length → K.length ≤ i → (∀ y ∈ K, fine y) → Ev (fun k => bC.l0 k K l (l.length : Int) (i : Int) a s z) (if lS a s (l.drop i) = 0 then kX s (K ++ mZ (l.drop i)) (K ++ mZ (l.drop i)) else lS a s (l.drop i)) := by
 have hend : ∀ (i : Nat) (K : List RR), l.length ≤ i → K.length ≤ 100000 → (∀ y ∈ K, fine y) → Ev (fun k => bC.l0 k K l (l.length : Int) (i : Int) a s z) (if lS a s (l.drop i) = 0 then kX s (K ++ mZ (l.drop i)) (K ++ mZ (l.drop i)) else lS a s (l.drop i)) := by
  intro i K hd nk fk
  refine Ev.step (f := fun k => bC.l1 k K K (K.length : Int) 0 a s z) (fun k => by rw [bC.l0]; rw [if_neg (by omega)]) ?_
  rw [List.drop_of_length_le hd]
  show Ev _ (if (0 : Int) = 0 then kX s (K ++ []) (K ++ []) else _)
  rw [if_pos rfl, List.append_nil]
  have := Au a s z fs ns K fk nk K.length 0 (by omega) (Nat.zero_le _)
  rw [List.drop_zero] at this
  exact this
 intro d
 induction d with
 | zero => exact fun i K hd hi0 hk fk => hend i K (by omega) (by omega) fk
 | succ d ih =>
  intro i K hd hi0 hk fk
  by_cases hi : i < l.length
  ·have e1 : wrap64 ((i : Int) + 1) = ((i + 1 : Nat) : Int) := by unfold wrap64; omega
   have hs : ∀ k, bC.l0 (k + 1) K l (l.length : Int) (i : Int) a s z = (dR.f k a s z (rdR l (i : Int)).f0 (rdR l (i : Int)).f1 (rdR l (i : Int)).f2 (rdR l (i : Int)).f3 (rdR l (i : Int)).f4).bind fun t => if t = 0 then (if (rdR l (i : Int)).f2 = 1 then bC.l0 k (K ++ [rdR l (i : Int)]) l (l.length : Int) ((i + 1 : Nat) : Int) a s z else bC.l0 k K l (l.length : Int) ((i + 1 : Nat) : Int) a s z) else some t := fun k => by
    rw [bC.l0, e1]
    rw [if_pos (by omega), if_pos (by omega), if_pos (by omega)]
    congr 1
    funext t
    rw [if_pos (show K.length < _ by omega)]
   rw [fC l i hi] at hs
   refine Ev.step hs (Ev.bind (FE a s z l[i] (by omega)) ?_)
   rw [List.drop_eq_getElem_cons hi, lS]
   unfold mZ
   rw [List.filter_cons]
   by_cases h0 : qm a s l[i] = 0
   ·simp only [h0, if_true]
    by_cases h1 : l[i].f2 = 1
    ·simp only [h1, beq_self_eq_true, if_true]
     have := ih (i + 1) (K ++ [l[i]]) (by omega) (by omega) (by rw [List.length_append, List.length_singleton]; omega) (fun y hy => by
      rcases List.mem_append.mp hy with h | h
      ·exact fk y h
      ·rw [List.mem_singleton.mp h]; exact fl _ (List.getElem_mem _))
     rw [List.append_assoc, List.singleton_append] at this
     exact this
    ·simp only [h1, beq_eq_false_iff_ne.mpr h1, Bool.false_eq_true, if_false]
     exact ih (i + 1) K (by omega) (by omega) (by omega) fk
   ·simp only [h0, if_false]
    exact Ev.now _
  ·exact hend i K (by omega) (by omega) fk
theorem wC (l : List RR) (fl : ∀ y ∈ l, fine y) (nl : l.length ≤ 50000) : Ev (fun k => bC.f k a s z l) (vE a s l) := by
 have := zn a s z fs ns l fl nl l.length 0 [] (by omega) (Nat.zero_le _) (Nat.le_refl _) (fun y hy => by cases hy)
 rw [List.drop_zero, List.nil_append] at this
 exact this
theorem Ah (K : List RR) (fk : ∀ y ∈ K, fine y) (nk : K.length ≤ 100000) : ∀ (d i : Nat), K.length ≤ i + d → i ≤ K.length → Ev (fun k => aI.l1 k K (i : Int) a s) (kX s K (K.drop i)) := by
 have hend : ∀ i : Nat, K.length ≤ i → Ev (fun k => aI.l1 k K (i : Int) a s) (kX s K (K.drop i)) := by
  intro i hd
  refine Ev.step (f := fun _ => some 0) (fun k => by rw [aI.l1]; rw [if_neg (by omega)]) ?_
  rw [List.drop_of_length_le hd, kX]
  exact Ev.now _
 intro d
 induction d with
 | zero => exact fun i hd _ => hend i (by omega)
 | succ d ih =>
  intro i hd hi0
  by_cases hi : i < K.length
  ·have e1 : wrap64 ((i : Int) + 1) = ((i + 1 : Nat) : Int) := by unfold wrap64; omega
   have hs : ∀ k, aI.l1 (k + 1) K (i : Int) a s = (eG.f k a s (rdR K (i : Int)).f0 (rdR K (i : Int)).f1).bind fun u => (bJ.f k K (rdR K (i : Int)).f0).bind fun q => (bF.f k q (rdR K (i : Int)).f1).bind fun v => (aW.f k u v).bind fun t => if t = true then ((aW.f k v u).bind fun t => if t = true then aI.l1 k K ((i + 1 : Nat) : Int) a s else some 8) else some 8 := fun k => by
    rw [aI.l1, e1]
    rw [if_pos (by omega), if_pos (by omega)]
   rw [fC K i hi] at hs
   have l1 := qN s K[i].f0 K[i].f1
   have l2 := qN K K[i].f0 K[i].f1
   have fu : ∀ y ∈ fI s K[i].f0 K[i].f1, fine y := fun y hy => fs y (rz hy)
   have fv : ∀ y ∈ fI K K[i].f0 K[i].f1, fine y := fun y hy => fk y (rz hy)
   have htyped : Ev (fun k => bF.f k (atL K K[i].f0) K[i].f1) (fI K K[i].f0 K[i].f1) := sZ _ _ (Nat.le_trans (qE K _) (by omega))
   refine Ev.step hs (Ev.bind (wW a s _ _ (by omega)) (Ev.bind (vW K _ (by omega)) (Ev.bind htyped (Ev.bind (Dm _ _ fu fv (by omega) (by omega)) ?_))))
   rw [List.drop_eq_getElem_cons hi, kX, Gv]
   cases inB (fI s K[i].f0 K[i].f1) (fI K K[i].f0 K[i].f1)
   ·simp only [Bool.false_eq_true, if_false, Bool.false_and]; exact Ev.now _
   ·simp only [if_true, Bool.true_and]
    refine Ev.bind (Dm _ _ fv fu (by omega) (by omega)) ?_
    cases inB (fI K K[i].f0 K[i].f1) (fI s K[i].f0 K[i].f1)
    ·simp only [Bool.false_eq_true, if_false]; exact Ev.now _
    ·simp only [if_true]; exact ih (i + 1) (by omega) (by omega)
  ·exact hend i (by omega)
theorem zy (l : List RR) (fl : ∀ y ∈ l, fine y) (nl : l.length ≤ 50000) : ∀ (d i : Nat) (K : List RR), l.length ≤ i + d → i ≤ l.length → K.length ≤ i → (∀ y ∈ K, fine y) → Ev (fun k => aI.l0 k l K (i : Int) a s) (if lS a s (l.drop i) = 0 then kX s (K ++ mZ (l.drop i)) (K ++ mZ (l.drop i)) else lS a s (l.drop i)) := by
 have hend : ∀ (i : Nat) (K : List RR), l.length ≤ i → K.length ≤ 100000 → (∀ y ∈ K, fine y) → Ev (fun k => aI.l0 k l K (i : Int) a s) (if lS a s (l.drop i) = 0 then kX s (K ++ mZ (l.drop i)) (K ++ mZ (l.drop i)) else lS a s (l.drop i)) := by
  intro i K hd nk fk
  refine Ev.step (f := fun k => aI.l1 k K 0 a s) (fun k => by rw [aI.l0]; rw [if_neg (by omega)]) ?_
  rw [List.drop_of_length_le hd]
  show Ev _ (if (0 : Int) = 0 then kX s (K ++ []) (K ++ []) else _)
  rw [if_pos rfl, List.append_nil]
  have := Ah a s fs ns K fk nk K.length 0 (by omega) (Nat.zero_le _)
  rw [List.drop_zero] at this
  exact this
 intro d
 induction d with
 | zero => exact fun i K hd hi0 hk fk => hend i K (by omega) (by omega) fk
 | succ d ih =>
  intro i K hd hi0 hk fk
  by_cases hi : i < l.length
  ·have e1 : wrap64 ((i : Int) + 1) = ((i + 1 : Nat) : Int) := by unfold wrap64; omega
   have hs : ∀ k, aI.l0 (k + 1) l K (i : Int) a s = (aU.f k a s (rdR l (i : Int)).f0 (rdR l (i : Int)).f1 (rdR l (i : Int)).f2 (rdR l (i : Int)).f3 (rdR l (i : Int)).f4).bind fun t => if t = 0 then (if (rdR l (i : Int)).f2 = 1 then aI.l0 k l (K ++ [rdR l (i : Int)]) ((i + 1 : Nat) : Int) a s else aI.l0 k l K ((i + 1 : Nat) : Int) a s) else some t := fun k => by
    rw [aI.l0, e1]
    rw [if_pos (by omega), if_pos (by omega)]
    congr 1
    funext t
    rw [if_pos (show K.length < _ by omega)]
   rw [fC l i hi] at hs
   refine Ev.step hs (Ev.bind (FM a s l[i] (by omega)) ?_)
   rw [List.drop_eq_getElem_cons hi, lS]
   unfold mZ
   rw [List.filter_cons]
   by_cases h0 : qm a s l[i] = 0
   ·simp only [h0, if_true]
    by_cases h1 : l[i].f2 = 1
    ·simp only [h1, beq_self_eq_true, if_true]
     have := ih (i + 1) (K ++ [l[i]]) (by omega) (by omega) (by rw [List.length_append, List.length_singleton]; omega) (fun y hy => by
      rcases List.mem_append.mp hy with h | h
      ·exact fk y h
      ·rw [List.mem_singleton.mp h]; exact fl _ (List.getElem_mem _))
     rw [List.append_assoc, List.singleton_append] at this
     exact this
    ·simp only [h1, beq_eq_false_iff_ne.mpr h1, Bool.false_eq_true, if_false]
     exact ih (i + 1) K (by omega) (by omega) (by omega) fk
   ·simp only [h0, if_false]
    exact Ev.now _
  ·exact hend i K (by omega) (by omega) fk
theorem Cz (l : List RR) (fl : ∀ y ∈ l, fine y) (nl : l.length ≤ 50000) : Ev (fun k => aI.f k a s l) (vE a s l) := by
 have := zy a s fs ns l fl nl l.length 0 [] (by omega) (Nat.zero_le _) (Nat.le_refl _) (fun y hy => by cases hy)
 rw [List.drop_zero, List.nil_append] at this
 exact this
end
theorem yI (l : List RR) (hn : l.length ≤ 9223372036854775807) : ∀ (d i : Nat), d + i = 40 → i ≤ l.length → (∀ y ∈ l.take i, fP y = true) → ∃ b, Ev (fun k => bB.l0 k l (i : Int)) b ∧ (b = true → l.length ≤ 30 ∧ ∀ y ∈ l, fP y = true) := by
 have hdone : ∀ i : Nat, Ev (fun k => bB.j1 k l (i : Int) false) (decide ((l.length : Int) ≤ 30)) := fun i => Ev.step (f := fun _ => some (decide ((l.length : Int) ≤ 30))) (fun k => by rw [bB.j1, if_neg (by decide)]) (Ev.now _)
 intro d
 induction d with
 | zero =>
  intro i hd hi0 hr
  refine ⟨_, Ev.step (f := fun k => bB.j1 k l (i : Int) false) (fun k => ?_) (hdone i), fun e => ?_⟩
  ·rw [bB.l0, decide_eq_false (show ¬ (i : Int) < 40 by omega)]
   split <;> rfl
  ·have := of_decide_eq_true e
   exact absurd hi0 (by omega)
 | succ d ih =>
  intro i hd hi0 hr
  by_cases hi : i < l.length
  ·have e1 : wrap64 ((i : Int) + 1) = ((i + 1 : Nat) : Int) := by unfold wrap64; omega
   have hs : ∀ k, bB.l0 (k + 1) l (i : Int) = bB.j1 k l (i : Int) true := fun k => by
    rw [bB.l0, decide_eq_true (show (i : Int) < 40 by omega), if_pos (by omega)]
   have hj : ∀ k, bB.j1 (k + 1) l (i : Int) true = if ((rdR l (i : Int)).f4.size : Int) > 2000 then some false else (bn.f k (rdR l (i : Int)).f0 (rdR l (i : Int)).f1 (rdR l (i : Int)).f2 (rdR l (i : Int)).f3 (rdR l (i : Int)).f4).bind fun t => if t = true then bB.l0 k l ((i + 1 : Nat) : Int) else some false := fun k => by
    rw [bB.j1, e1, if_pos rfl, if_pos (by omega), if_pos (by omega)]
   rw [fC l i hi] at hj
   by_cases h4 : (l[i].f4.size : Int) > 2000
   ·refine ⟨false, Ev.step hs (Ev.step hj ?_), fun e => by cases e⟩
    simp only [h4, if_true]; exact Ev.now _
   ·cases hri : fP l[i]
    ·refine ⟨false, Ev.step hs (Ev.step hj ?_), fun e => by cases e⟩
     simp only [h4, if_false]
     refine Ev.bind (rZ l[i]) ?_
     simp only [hri, Bool.false_eq_true, if_false]; exact Ev.now _
    ·obtain ⟨b, hb, hb1⟩ := ih (i + 1) (by omega) (by omega) (fun y hy => by
      rw [List.take_succ_eq_append_getElem hi] at hy
      rcases List.mem_append.mp hy with hy | hy
      ·exact hr y hy
      ·rw [List.mem_singleton.mp hy]; exact hri)
     refine ⟨b, Ev.step hs (Ev.step hj ?_), hb1⟩
     simp only [h4, if_false]
     refine Ev.bind (rZ l[i]) ?_
     simp only [hri, if_true]; exact hb
  ·refine ⟨_, Ev.step (f := fun k => bB.j1 k l (i : Int) false) (fun k => ?_) (hdone i), fun e => ⟨by have := of_decide_eq_true e; omega, ?_⟩⟩
   ·rw [bB.l0, if_neg (by omega)]
   ·rw [List.take_of_length_le (by omega)] at hr
    exact hr
theorem AP (l : List RR) (hn : l.length ≤ 9223372036854775807) : ∃ b, Ev (fun k => bB.f k l) b ∧ (b = true → l.length ≤ 30 ∧ ∀ y ∈ l, fP y = true) := yI l hn 40 0 (by omega) (Nat.zero_le _) (fun y hy => by rw [List.take_zero] at hy; cases hy)
abbrev lrb : RR := ⟨(⟨#[1, 98, 1, 97, 0]⟩ : ByteArray), 255, 255, 0, (⟨#[]⟩ : ByteArray)⟩
theorem Ak : ∀ y ∈ [lr0, lr1], fP y = true := fun y hy => by
 rcases List.mem_cons.mp hy with rfl | hy
 ·exact Em
 ·rw [List.mem_singleton.mp hy]; exact EX
theorem Av : vE lra [lr0, lr1] [lrb] = 3 := by
 have hu : kR lrb.f0 lra = true := by
  have h := uM lrb.f0 lra 300 (Nat.le_refl _)
  have h2 := qc (fun k => bH.mono lrb.f0 lra k) (show 20 ≤ 300 by omega) (r := true) (by kernel_rfl)
  rw [h2] at h; exact (Option.some.inj h).symm
 have ht : iD [lr0, lr1] lrb.f0 = false := by
  have h1 : fZ lra lrb.f0 = false := by
   have h := lU lra lrb.f0
   rw [show dG.f lra lrb.f0 = some false from by kernel_rfl] at h
   exact (Option.some.inj h).symm
  unfold iD
  rw [List.any_cons, List.any_cons, h1]; rfl
 have h1 : qm lra [lr0, lr1] lrb = 3 := by
  unfold qm
  rw [if_pos rfl, if_pos hu, if_neg (by decide), if_pos rfl, if_pos (by kernel_rfl), if_pos rfl, ht]; rfl
 unfold vE
 rw [lS, h1]; rfl
theorem wJ : Ev (fun k => fH.f k) true := by
 unfold fH.f jq.f
 simp only [Option.bind_some]
 refine Ev.bind GZ ?_
 simp only [if_true]
 rw [Ko _ _ _ (by simp)]
 simp only [Option.bind_some]
 have hc := wC lra [lr0, lr1] (uX [lr0, lr1]) (fun y hy => mo (Ak y hy)) (by simp) [lrb] (fun y hy => by rw [List.mem_singleton.mp hy]; exact ⟨by kernel_rfl, by decide⟩) (by simp)
 rw [Av] at hc
 have hl : ((([lr0, lr1] : List RR).length : Int) = 2) = True := eq_true rfl
 simp only [hl, if_true]
 exact Ev.bind hc (Ev.now _)
end Go.Y.Rrs
namespace Go.Y.PZh
open Go.Y.Given Go.Y.PRd Go.Y.PRr Go.Y.PZo Go.Y.PZf Go.Y.PZe
attribute [local go_sem] dK dL dS dU dB dz dM dJ
mutual
noncomputable def aD.j0 : Nat → List (S44) → List (S44) → Bool → Option (Bool)
 | 0, _, _, _ => none
 | k + 1, x0, x1, x20 => if x20 = true then ((fH.f k).bind fun t310 => (some t310)) else ((cO.f k (⟨#[2, 101, 120, 0]⟩ : ByteArray) x0).bind fun bt311 => ((dH.f k (⟨#[2, 101, 120, 0]⟩ : ByteArray) x0).bind fun bt318 => (if bt311.2.2.2 = 0 then (aD.j1 k x1 bt311.2.2.2 bt318.2.2 (bt318.2.2 != 0) bt311.1 bt311.2.1 bt311.2.2.1 bt318.1 bt318.2.1) else (aD.j1 k x1 bt311.2.2.2 bt318.2.2 true bt311.1 bt311.2.1 bt311.2.2.1 bt318.1 bt318.2.1))))
noncomputable def aD.j1 : Nat → List (S44) → Int → Int → Bool → ByteArray → List (S44) → Int → ByteArray → List (S44) → Option (Bool)
 | 0, _, _, _, _, _, _, _, _, _ => none
 | k + 1, x1, x6, x8, x37, x318000, x318001, x318002, x324000, x324001 => if x37 = true then (some (x6 == x8)) else ((bC.f k x318000 x318001 x318002 x1).bind fun t324 => ((aI.f k x324000 x324001 x1).bind fun t325 => (some (t324 == t325))))
end
noncomputable def aD.f (k : Nat) (l0 : List (S44)) (l1 : List (S44)) : Option (Bool) := (fH.f k).bind fun t307 => (if t307 = true then ((bI.f k l0).bind fun t308 => (if t308 = true then ((bB.f k l1).bind fun t309 => (aD.j0 k l0 l1 (!t309))) else (aD.j0 k l0 l1 true))) else (aD.j0 k l0 l1 true))
def aD.T7 : Bool × List (List Nat × List Nat) := (true, [([], []), ([], []), ([0, 1], [0, 1]), ([], []), ([], []), ([3, 4, 2], [3, 4]), ([2, 5], [2, 5]), ([6, 5, 0, 1, 2, 3, 4, 5, 6], [6])])
def aD.B7 : List Nat := [0, 0, 3, 0, 0, 31, 63, 127]
theorem aD.JD : gH .any (opsOf Tryz.f4 7) = aD.T7 := by kernel_rfl
theorem aD.Ig : gL aD.T7.2 aD.B7 = true := by kernel_rfl
theorem aD.calls (k : Nat) (A0 : Option Addr) (c0 : Nat) (l0 : List (S44)) (A1 : Option Addr) (c1 : Nat) (l1 : List (S44)) (r : Bool) (w : World) (hr0 : Kd.C k44 w A0 l0.length l0) (hc0 : l0.length ≤ c0) (hr1 : Kd.C k44 w A1 l1.length l1) (hc1 : l1.length ≤ c1) (h : aD.f k l0 l1 = some r) :
    Calls Tryz.prog 4 #[.slice A0 l0.length c0, .slice A1 l1.length c1] w fun e w' => e = .returned (.bool r) ∧ Below w.heap.size w w' := by
  have hu26 := Tryz.underlying26
  have hu31 := Tryz.underlying31
  have HR0 := ah.mk hr0
  have HC0 := ah.mk hc0
  clear hr0 hc0
  have HR1 := ah.mk hr1
  have HC1 := ah.mk hc1
  clear hr1 hc1
  have HB := ah.mk (Below.refl w.heap.size w)
  have H : ((fH.f k).bind fun t307 => (if t307 = true then ((bI.f k l0).bind fun t308 => (if t308 = true then ((bB.f k l1).bind fun t309 => (aD.j0 k l0 l1 (!t309))) else (aD.j0 k l0 l1 true))) else (aD.j0 k l0 l1 true))) = some r := h
  clear h
  have HC3 := ah.mk H
  clear H
  go_enter Tryz.func4, Tryz.ntmps4
  go_upto_region 1 with (fail)
  go_cut [20] (fun v20 wc => ∃ (kq : Nat) (x20_2 : Bool), v20 = .bool x20_2 ∧ ah (aD.j0 kq l0 l1 x20_2 = some r) ∧ ah (kq ≤ k) ∧ ah (Below w.heap.size w wc))
  case first =>
   have H := HC3.out
   clear HC3
   obtain ⟨t307, A4, H⟩ := bN H
   by_cases c5 : t307 = true
   ·subst c5
    rw [if_pos rfl] at H
    obtain ⟨t308, A6, H⟩ := bN H
    by_cases c7 : t308 = true
    ·subst c7
     rw [if_pos rfl] at H
     obtain ⟨t309, A8, H⟩ := bN H
     have H' := ah.mk H
     clear H
     go_wp2_with (first | ((with_reducible refine bX (f := 22) rfl ?_); refine fq (some 9) rfl rfl Tryz.func22 (by kernel_rfl) rfl #[] rfl (by (try simp only [List.map_toArray, List.map_cons, List.map_nil]); done) ?_; (with_reducible refine (fH.calls k  _ _ A4.out).mono ?_); rintro e w9 ⟨rfl, hb⟩; refine ⟨_, rfl, ?_⟩; replace HB := ah.mk (ak HB.out hb); (try clear hb)) | (go_at_call 10; (with_reducible refine (bI.calls k _ _ l0 _ _ ?side1 ?side2 A6.out).mono ?_); (case side1 => repeat ((exact (Kd.eO HR0.out HB.out)))); (case side2 => exact HC0.out); rintro e w' ⟨rfl, ⟨nd, rfl⟩⟩) | (go_at_call 23; (with_reducible refine (bB.calls k _ _ l1 t309 _ ?side1 ?side2 A8.out).mono ?_); (case side1 => repeat ((exact (Kd.eO HR1.out (by repeat ((with_reducible first | exact HB.out | apply aY))))))); (case side2 => exact HC1.out); rintro e w10 ⟨rfl, hb⟩; replace HB := ah.mk (ak (by repeat ((with_reducible first | exact HB.out | apply aY))) hb); (try clear hb)))
     go_meet
     case rel => exact ⟨_, (!t309), (by rfl), H', ⟨by omega⟩, ⟨HB.out⟩⟩
    ·replace c7 := Bool.eq_false_iff.mpr c7
     subst c7
     rw [if_neg ff_] at H
     have H' := ah.mk H
     clear H
     go_wp2_with (first | ((with_reducible refine bX (f := 22) rfl ?_); refine fq (some 9) rfl rfl Tryz.func22 (by kernel_rfl) rfl #[] rfl (by (try simp only [List.map_toArray, List.map_cons, List.map_nil]); done) ?_; (with_reducible refine (fH.calls k  _ _ A4.out).mono ?_); rintro e w11 ⟨rfl, hb⟩; refine ⟨_, rfl, ?_⟩; replace HB := ah.mk (ak HB.out hb); (try clear hb)) | (go_at_call 10; (with_reducible refine (bI.calls k _ _ l0 _ _ ?side1 ?side2 A6.out).mono ?_); (case side1 => repeat ((exact (Kd.eO HR0.out HB.out)))); (case side2 => exact HC0.out); rintro e w' ⟨rfl, ⟨nd, rfl⟩⟩))
     go_meet
     case rel => exact ⟨_, (true), (by rfl), H', ⟨by omega⟩, ⟨by repeat ((with_reducible first | exact HB.out | apply aY))⟩⟩
   ·replace c5 := Bool.eq_false_iff.mpr c5
    subst c5
    rw [if_neg ff_] at H
    have H' := ah.mk H
    clear H
    go_wp2_with ((((with_reducible refine bX (f := 22) rfl ?_); refine fq (some 9) rfl rfl Tryz.func22 (by kernel_rfl) rfl #[] rfl (by (try simp only [List.map_toArray, List.map_cons, List.map_nil]); done) ?_; (with_reducible refine (fH.calls k  _ _ A4.out).mono ?_); rintro e w12 ⟨rfl, hb⟩; refine ⟨_, rfl, ?_⟩; replace HB := ah.mk (ak HB.out hb); (try clear hb))))
    go_meet
    case rel => exact ⟨_, (true), (by rfl), H', ⟨by omega⟩, ⟨HB.out⟩⟩
  case rest =>
   clear HC3
   obtain ⟨kq, x20_2, rfl, HA, HJ2, HB⟩ := hcut
   cases kq with
   | zero => exact absurd HA.out (by simp [aD.j0])
   | succ kj2 =>
    have H := HA.out
    clear HA
    simp only [aD.j0] at H
    by_cases c13 : x20_2 = true
    ·subst c13
     rw [if_pos rfl] at H
     obtain ⟨t310, A14, H⟩ := bN H
     obtain rfl := Option.some.inj H
     go_wp2_with ((((with_reducible refine bX (f := 22) rfl ?_); refine fq (some 21) rfl rfl Tryz.func22 (by kernel_rfl) rfl #[] rfl (by (try simp only [List.map_toArray, List.map_cons, List.map_nil]); done) ?_; (with_reducible refine (fH.calls kj2  t310 _ A14.out).mono ?_); rintro e w15 ⟨rfl, hb⟩; refine ⟨_, rfl, ?_⟩; replace HB := ah.mk (ak HB.out hb); (try clear hb))))
     go_ret
     exact ⟨by rfl, HB.out⟩
    ·replace c13 := Bool.eq_false_iff.mpr c13
     subst c13
     rw [if_neg ff_] at H
     replace H := Option.bind_eq_some_iff.mp H
     obtain ⟨⟨t311, t312, t315, t316⟩, A160, H⟩ := H
     replace H : ((dH.f kj2 (⟨#[2, 101, 120, 0]⟩ : ByteArray) l0).bind fun bt318 => (if t316 = 0 then (aD.j1 kj2 l1 t316 bt318.2.2 (bt318.2.2 != 0) t311 t312 t315 bt318.1 bt318.2.1) else (aD.j1 kj2 l1 t316 bt318.2.2 true t311 t312 t315 bt318.1 bt318.2.1))) = some r := H
     have A16 := ah.mk A160
     clear A160
     replace H := Option.bind_eq_some_iff.mp H
     obtain ⟨⟨t318, t319, t322⟩, A170, H⟩ := H
     replace H : (if t316 = 0 then (aD.j1 kj2 l1 t316 t322 (t322 != 0) t311 t312 t315 t318 t319) else (aD.j1 kj2 l1 t316 t322 true t311 t312 t315 t318 t319)) = some r := H
     have A17 := ah.mk A170
     clear A170
     have HC18 := ah.mk H
     clear H
     go_upto_region 5 with (first | ((with_reducible refine bX (f := 11) rfl ?_); refine fq (some 24) rfl rfl Tryz.func11 (by kernel_rfl) rfl #[.string (⟨#[2, 101, 120, 0]⟩ : ByteArray), .slice A0 l0.length c0] rfl (by (try simp only [mA_, mC_, mN_]); rfl) ?_; (with_reducible refine (cO.calls kj2 (⟨#[2, 101, 120, 0]⟩ : ByteArray) _ _ l0 t311 t312 t315 t316 _ ?side1 ?side2 A16.out).mono ?_); (case side1 => repeat ((exact (Kd.eO HR0.out HB.out)))); (case side2 => exact HC0.out); rintro e w19 ⟨v313, rfl, ho0, hb⟩; refine ⟨_, rfl, ?_⟩; have HO314 := ah.mk (Kd.bS ho0 (av HB.out)); replace HB := ah.mk (ak HB.out hb); (try clear hb); (try clear ho0)) | ((((refine be_ (N := 5) (cs := #[.string (⟨#[]⟩ : ByteArray), .slice none 0 0, .int .i64 0]) (t := 26) ?_))); intro gb317 hg w20 hbox hb; have BK317 := ah.mk (hbox); have GW317 := ah.mk (ge_ hg (av HB.out)); have GE317 := ah.mk (ge_ hg (av HB.out)); replace HO314 := ah.mk (Kd.bD (by ((exact HO314.out))) hb); replace HB := ah.mk (ak HB.out hb); clear hb hbox hg; obtain ⟨hcz21_0, hcz21_1, hcz21_2, hfz21_0, hfz21_1, hfz21_2⟩ := z3_ BK317.out; obtain ⟨Ao22, co22, eo22⟩ := Kd.cK HO314.out; subst eo22) | ((with_reducible refine bX (f := 12) rfl ?_); refine fq (some 29) rfl rfl Tryz.func12 (by kernel_rfl) rfl #[.string (⟨#[2, 101, 120, 0]⟩ : ByteArray), .slice A0 l0.length c0] rfl (by (try simp only [mA_, mC_, mN_]); rfl) ?_; (with_reducible refine (dH.calls kj2 (⟨#[2, 101, 120, 0]⟩ : ByteArray) _ _ l0 t318 t319 t322 _ ?side1 ?side2 A17.out).mono ?_); (case side1 => exact Kd.eO HR0.out (by repeat ((with_reducible first | exact HB.out | refine bZ ?_ GE317.out)))); (case side2 => exact HC0.out); rintro e w23 ⟨v320, rfl, ho0, hb⟩; refine ⟨_, rfl, ?_⟩; have HO321 := ah.mk (Kd.bS (Kd.gq ho0 (Kd.iZ (by (with_reducible repeat ((apply Kd.bf))); exact (Kd.dx (Kd.eu (p := ⟨gb317, 2, none⟩) (Kd.eu (p := ⟨gb317, 1, none⟩) (Kd.eu (p := ⟨gb317, 0, none⟩) (Kd.jP HO314.out BK317.out (by decide)) (fun _ hk => hk.2) (.string t311)) (fun _ hk => hk.2) (.slice Ao22 t312.length co22)) (fun _ hk => hk.2) (.int .i64 t315)) (fun _ h_ => h_.1))))) (av (by repeat ((with_reducible first | exact HB.out | refine bZ ?_ GE317.out))))); replace HO314 := ah.mk (Kd.eU (by (with_reducible repeat ((apply Kd.bf))); exact (Kd.dx (Kd.eu (p := ⟨gb317, 2, none⟩) (Kd.eu (p := ⟨gb317, 1, none⟩) (Kd.eu (p := ⟨gb317, 0, none⟩) (Kd.jP HO314.out BK317.out (by decide)) (fun _ hk => hk.2) (.string t311)) (fun _ hk => hk.2) (.slice Ao22 t312.length co22)) (fun _ hk => hk.2) (.int .i64 t315)) (fun _ h_ => h_.1))) (Kd.fV ho0) hb); replace BK317 := ah.mk (ay (g := gb317) (o := .cells #[.string t311, .slice Ao22 t312.length co22, .int .i64 t315] 26 (0, 0)) (by (with_reducible repeat ((refine au ?_ _))); refine aZ (cs := #[.string t311, .slice Ao22 t312.length co22, .int .i64 0]) ?_ 2 _ rfl; (with_reducible repeat ((refine au ?_ _))); refine aZ (cs := #[.string t311, .slice none 0 0, .int .i64 0]) ?_ 1 _ rfl; (with_reducible repeat ((refine au ?_ _))); refine aZ (cs := #[.string (⟨#[]⟩ : ByteArray), .slice none 0 0, .int .i64 0]) ?_ 0 _ rfl; (with_reducible repeat ((refine au ?_ _))); exact BK317.out) hb); replace HB := ah.mk (ak (by repeat ((with_reducible first | exact HB.out | refine bZ ?_ GE317.out))) hb); (try clear hb); (try clear ho0)) | ((((refine be_ (N := 7) (cs := #[.string (⟨#[]⟩ : ByteArray), .slice none 0 0]) (t := 31) ?_))); intro gb323 hg w24 hbox hb; have BK323 := ah.mk (hbox); have GW323 := ah.mk (ge_ hg (av HB.out)); have GE323 := ah.mk (ge_ hg (av HB.out)); have NB317_323 := ah.mk (nl_ hg (by ((exact BK317.out)))); have NB323_317 := ah.mk (nr_ hg (by ((exact BK317.out)))); replace HO314 := ah.mk (Kd.bD (by ((exact HO314.out))) hb); replace HO321 := ah.mk (Kd.bD (by ((exact HO321.out))) hb); replace BK317 := ah.mk (ay (by ((exact BK317.out))) hb); replace HB := ah.mk (ak HB.out hb); clear hb hbox hg; have hnb25 := NB323_317.out; have hnc25 := NB317_323.out; obtain ⟨hcz26_0, hcz26_1, hfz26_0, hfz26_1⟩ := z2_ BK323.out; obtain ⟨Ao27, co27, eo27⟩ := Kd.cK HO321.out; subst eo27))
     go_cut [37] (fun v37 wc => ∃ (kq : Nat) (x37_17 : Bool), v37 = .bool x37_17 ∧ ah (aD.j1 kq l1 t316 t322 x37_17 t311 t312 t315 t318 t319 = some r) ∧ ah (kq ≤ kj2) ∧ ah (Kd.R k44 44 wc w.heap.size (fun k_ => some k_ ≠ ((.slice Ao27 t319.length co27) : Value).ownBlock) (.slice Ao22 t312.length co22) t312) ∧ ah (Kd.R k44 44 wc w.heap.size (fun k_ => some k_ ≠ ((.slice Ao22 t312.length co22) : Value).ownBlock) (.slice Ao27 t319.length co27) t319) ∧ ah (wc.heap[gb317]? = some (.cells #[.string t311, (.slice Ao22 t312.length co22), .int .i64 t315] 26 (0, 0))) ∧ ah (wc.heap[gb323]? = some (.cells #[.string t318, (.slice Ao27 t319.length co27)] 31 (0, 0))) ∧ ah (Below w.heap.size w wc))
     case first =>
      have H := HC18.out
      clear HC18
      by_cases c28 : t316 = 0
      focus
       rw [if_pos c28] at H
       have c28b0 : (t316 == 0) = true := beq_iff_eq.mpr c28
       have c28b1 : (t316 != 0) = false := bne_eq_false_iff_eq.mpr c28
       clear c28
      rotate_left
      focus
       rw [if_neg c28] at H
       have c28b0 : (t316 == 0) = false := beq_eq_false_iff_ne.mpr c28
       have c28b1 : (t316 != 0) = true := bne_iff_ne.mpr c28
      rotate_left
      all_goals
       (skip)
       have H' := ah.mk H
       clear H
       go_wp2
       go_meet
      ·case rel => exact ⟨_, ((t322 != 0)), (by rfl), H', ⟨by have := HJ2.out; omega⟩, ⟨by (with_reducible repeat ((apply Kd.bf))); exact Kd.dx (Kd.eu (p := ⟨gb323, 1, none⟩) (Kd.eu (p := ⟨gb323, 0, none⟩) (Kd.jP HO314.out BK323.out (by decide)) (fun _ hk => hk.2) (.string t318)) (fun _ hk => hk.2) (.slice Ao27 t319.length co27)) (fun _ hk => hk.1.2)⟩, ⟨by (with_reducible repeat ((apply Kd.bf))); exact Kd.dx (Kd.eu (p := ⟨gb323, 1, none⟩) (Kd.eu (p := ⟨gb323, 0, none⟩) (Kd.jP HO321.out BK323.out (by decide)) (fun _ hk => hk.2) (.string t318)) (fun _ hk => hk.2) (.slice Ao27 t319.length co27)) (fun _ hk => hk.1.2)⟩, ⟨by (with_reducible repeat ((refine au ?_ _))); refine dI ?_ NB317_323.out _; (with_reducible repeat ((refine au ?_ _))); refine dI ?_ NB317_323.out _; (with_reducible repeat ((refine au ?_ _))); exact BK317.out⟩, ⟨by (with_reducible repeat ((refine au ?_ _))); refine aZ (cs := #[.string t318, .slice none 0 0]) ?_ 1 _ rfl; (with_reducible repeat ((refine au ?_ _))); refine aZ (cs := #[.string (⟨#[]⟩ : ByteArray), .slice none 0 0]) ?_ 0 _ rfl; (with_reducible repeat ((refine au ?_ _))); exact BK323.out⟩, ⟨by repeat ((with_reducible first | exact HB.out | refine bZ ?_ GE323.out))⟩⟩
      ·case rel => exact ⟨_, (true), (by rfl), H', ⟨by have := HJ2.out; omega⟩, ⟨by (with_reducible repeat ((apply Kd.bf))); exact Kd.dx (Kd.eu (p := ⟨gb323, 1, none⟩) (Kd.eu (p := ⟨gb323, 0, none⟩) (Kd.jP HO314.out BK323.out (by decide)) (fun _ hk => hk.2) (.string t318)) (fun _ hk => hk.2) (.slice Ao27 t319.length co27)) (fun _ hk => hk.1.2)⟩, ⟨by (with_reducible repeat ((apply Kd.bf))); exact Kd.dx (Kd.eu (p := ⟨gb323, 1, none⟩) (Kd.eu (p := ⟨gb323, 0, none⟩) (Kd.jP HO321.out BK323.out (by decide)) (fun _ hk => hk.2) (.string t318)) (fun _ hk => hk.2) (.slice Ao27 t319.length co27)) (fun _ hk => hk.1.2)⟩, ⟨by (with_reducible repeat ((refine au ?_ _))); refine dI ?_ NB317_323.out _; (with_reducible repeat ((refine au ?_ _))); refine dI ?_ NB317_323.out _; (with_reducible repeat ((refine au ?_ _))); exact BK317.out⟩, ⟨by (with_reducible repeat ((refine au ?_ _))); refine aZ (cs := #[.string t318, .slice none 0 0]) ?_ 1 _ rfl; (with_reducible repeat ((refine au ?_ _))); refine aZ (cs := #[.string (⟨#[]⟩ : ByteArray), .slice none 0 0]) ?_ 0 _ rfl; (with_reducible repeat ((refine au ?_ _))); exact BK323.out⟩, ⟨by repeat ((with_reducible first | exact HB.out | refine bZ ?_ GE323.out))⟩⟩
     case rest =>
      clear HC18
      (try clear hcz21_0)
      (try clear hcz21_1)
      (try clear hcz21_2)
      (try clear hcz26_0)
      (try clear hcz26_1)
      (try clear hfz21_0)
      (try clear hfz21_1)
      (try clear hfz21_2)
      (try clear hfz26_0)
      (try clear hfz26_1)
      obtain ⟨kq, x37_17, rfl, HA, HJ17, HO_318001, HO_324001, BK317, BK323, HB⟩ := hcut
      cases kq with
      | zero => exact absurd HA.out (by simp [aD.j1])
      | succ kj17 =>
       have H := HA.out
       clear HA
       simp only [aD.j1] at H
       by_cases c29 : x37_17 = true
       focus
        subst c29
        rw [if_pos rfl] at H
        obtain rfl := Option.some.inj H
        go_wp2
       rotate_left
       focus
        replace c29 := Bool.eq_false_iff.mpr c29
        subst c29
        rw [if_neg ff_] at H
        obtain ⟨t324, A30, H⟩ := bN H
        obtain ⟨t325, A31, H⟩ := bN H
        obtain rfl := Option.some.inj H
        (try go_wp2)
        replace HO_318001 := ah.mk (Kd.iG HO_318001.out)
        replace HO_324001 := ah.mk (Kd.iG HO_324001.out)
        replace BK317 := ah.mk (dW BK317.out)
        replace BK323 := ah.mk (dW BK323.out)
        replace HB := ah.mk (bP HB.out)
        refine gX (n := 8) (ds := []) (ls 8 0) (by kernel_rfl) rfl rfl (c3_ BK317.out (d2_ BK323.out)) (fun hHeld => ?_); refine fJ aD.JD aD.Ig (fun HT_ HW_ => ?_)
        generalize wc.drew = w32 at HO_318001 HO_324001 BK317 BK323 HB hHeld ⊢
        refine td_ [(1, 42), (4, 45)] ?_
        iterate 2 (refine pn_ (v := ?_) (a' := ?_) HT_ rfl rfl (by kernel_rfl) rfl (fun _ _ _ h => h) (fun w' => ?_) ?_ ?_; rotate_left 2; (focus go_simp; with_reducible rfl); (focus simp only [Act.put, sA_, sZ_, sS_, dN, eD]; rfl))
        refine dn_ ?_
        refine td_ [(0, 41), (3, 44)] ?_
        iterate 2 (refine tn_ (v := ?_) (a' := ?_) HT_ HW_ rfl rfl (by kernel_rfl) rfl (fun _ _ _ h => h) hHeld ?_ ?_ ?_; rotate_left 2; (focus rintro w' ⟨s0, s1, s2, s3, s4⟩; go_simp; with_reducible rfl); (focus simp only [Act.put, sA_, sZ_, sS_, dN, eD]; rfl))
        refine dn_ ?_
        refine kT (i := 2) (N := some 43) (ls 8 31) rfl rfl (kC HT_.out (by kernel_rfl)) (by decide) (fun K hK => ?_)
        refine kY Tryz.func24 (by kernel_rfl) rfl #[.agg #[.string t311, .slice Ao22 t312.length co22, .int .i64 t315], .slice A1 l1.length c1] (by rfl) rfl rfl (by (try simp only [mA_, mC_, mN_]); rfl) ?_
        with_reducible refine (bC.calls kj17 t311 _ _ t312 t315 _ _ l1 t324 _ ?side1 ?side2 ?side3 ?side4 A30.out).mono ?_
        (case side1 => repeat ((exact (Kd.aR HO_318001.out).2.2)))
        (case side2 => exact (Kd.aR HO_318001.out).2.1)
        (case side3 => repeat ((exact (Kd.eO HR1.out HB.out))))
        (case side4 => exact HC1.out)
        rintro e w33 ⟨rfl, hb⟩
        refine ⟨_, rfl, ?_⟩
        replace HO_318001 := ah.mk (Kd.bD (by ((exact HO_318001.out))) hb)
        replace HO_324001 := ah.mk (Kd.bD (by ((exact HO_324001.out))) hb)
        replace BK317 := ah.mk (ay (by ((exact BK317.out))) hb)
        replace BK323 := ah.mk (ay (by ((exact BK323.out))) hb)
        replace HB := ah.mk (ak HB.out hb)
        (try clear hb)
        refine hK.out _ _ (c3_ BK317.out (d2_ BK323.out)) (fun hHeld => ?_)
        clear hK K
        refine jK (a' := ?_) ?_ ?_
        rotate_left
        ·show Act.put _ (some 43) _ = _
         simp only [Act.put, sA_, sZ_, sS_, dN, eD]
         rfl
        refine kT (i := 5) (N := some 46) (ls 8 63) rfl rfl (kC HT_.out (by kernel_rfl)) (by decide) (fun K hK => ?_)
        refine kY Tryz.func25 (by kernel_rfl) rfl #[.agg #[.string t318, .slice Ao27 t319.length co27], .slice A1 l1.length c1] (by rfl) rfl rfl (by (try simp only [mA_, mC_, mN_]); rfl) ?_
        with_reducible refine (aI.calls kj17 t318 _ _ t319 _ _ l1 t325 _ ?side1 ?side2 ?side3 ?side4 A31.out).mono ?_
        (case side1 => repeat ((exact (Kd.aR HO_324001.out).2.2)))
        (case side2 => exact (Kd.aR HO_324001.out).2.1)
        (case side3 => repeat ((exact (Kd.eO HR1.out HB.out))))
        (case side4 => exact HC1.out)
        rintro e w34 ⟨rfl, hb⟩
        refine ⟨_, rfl, ?_⟩
        replace HO_318001 := ah.mk (Kd.bD (by ((exact HO_318001.out))) hb)
        replace HO_324001 := ah.mk (Kd.bD (by ((exact HO_324001.out))) hb)
        replace BK317 := ah.mk (ay (by ((exact BK317.out))) hb)
        replace BK323 := ah.mk (ay (by ((exact BK323.out))) hb)
        replace HB := ah.mk (ak HB.out hb)
        (try clear hb)
        refine hK.out _ _ (c3_ BK317.out (d2_ BK323.out)) (fun hHeld => ?_)
        clear hK K
        refine jK (a' := ?_) ?_ ?_
        rotate_left
        ·show Act.put _ (some 46) _ = _
         simp only [Act.put, sA_, sZ_, sS_, dN, eD]
         rfl
        refine td_ [(6, 47), (7, 4)] ?_
        iterate 2 (refine pn_ (v := ?_) (a' := ?_) HT_ rfl rfl (by kernel_rfl) rfl (fun _ _ _ h => h) (fun w' => ?_) ?_ ?_; rotate_left 2; (focus go_simp; with_reducible rfl); (focus simp only [Act.put, sA_, sZ_, sS_, dN, eD]; rfl))
        refine dn_ ?_
        refine jQ (jG HT_.out (by kernel_rfl)) ?_
        (try go_wp2)
       rotate_left
       all_goals
        go_ret
        exact ⟨by rfl, HB.out⟩
end Go.Y.PZh
namespace Go.Y.PZh
open Go.Y.Given Go.Y.PRd Go.Y.PRr Go.Y.PZo Go.Y.PZf Go.Y.PZe
attribute [local go_sem] dK dL dS dU dB dz dM dJ
def gZ.T7 : Bool × List (List Nat × List Nat) := (true, [([], []), ([], []), ([1], [1]), ([0, 2], [0, 2]), ([], []), ([], []), ([5], [5]), ([4, 6, 3], [4, 6]), ([3, 7, 0, 1, 2, 3], [3]), ([7, 8, 0, 1, 2, 3, 4, 5, 6, 7, 8], [7])])
def gZ.B7 : List Nat := [0, 0, 2, 7, 0, 0, 32, 127, 255, 511]
theorem gZ.JD : gH .any (opsOf Tryz.f5 7) = gZ.T7 := by kernel_rfl
theorem gZ.Ig : gL gZ.T7.2 gZ.B7 = true := by kernel_rfl
end Go.Y.PZh
namespace Go.Y.PZh
open Go.Y.Given Go.Y.PRd Go.Y.PRr Go.Y.PZo Go.Y.PZf Go.Y.PZe
attribute [local go_sem] dK dL dS dU dB dz dM dJ
def ig.T14 : Bool × List (List Nat × List Nat) := (true, [([], []), ([], []), ([], []), ([1, 2], [1, 2]), ([0, 3, 3], [0, 3]), ([], []), ([4, 5], [4, 5]), ([6, 4, 0, 1, 2, 3, 4, 5, 6], [6])])
def ig.B14 : List Nat := [0, 0, 0, 6, 15, 0, 63, 127]
theorem ig.yR : gH .any (opsOf Tryz.f6 14) = ig.T14 := by kernel_rfl
theorem ig.vH : gL ig.T14.2 ig.B14 = true := by kernel_rfl
end Go.Y.PZh
namespace Go.Y.mF
open Go.ChangeShapes Go.WideShapes Go.Deep
section
variable {H : Type} {enc : TypeId × Value → H} {P : Program} {W : World} {base : Nat} {spare : Nat → Bool} {held : Bool}
theorem fields_of {e : TypeId} {fs : Array Field} {fuel : Nat} {cs : List Value} {x : DataW H × List MemPlace} (he : P.underlying e = some (.struct fs)) (hone : oneCellFields P fs = true) (hC : P.cellsOf e = fs.size)
  (h : DataW.trod enc P W base spare held fuel e cs = some x) : cs.length = fs.size ∧ ∃ n, ∀ (j : Nat) (f : Field), fs[j]? = some f → ∃ v y, cs[j]? = some v ∧ DataW.trod enc P W base spare held n f.type [v] = some y := by
 obtain ⟨ys, n, _, _, hl, hyl, hf⟩ := DataW.trod_struct he h
 refine ⟨hl.trans hC, n, fun j f hj => ?_⟩
 obtain ⟨ho, hk⟩ := hone_of hone j f hj
 have hjl : j < fs.size := (Array.getElem?_eq_some_iff.1 hj).1
 have hcl : j < cs.length := by omega
 have hyj : j < ys.length := by omega
 have h1 := hf j f hj
 rw [ho, hk, List.drop_eq_getElem_cons hcl, List.take_succ_cons, List.take_zero] at h1
 exact ⟨cs[j], ys[j], List.getElem?_eq_getElem hcl, h1.trans (List.getElem?_eq_getElem hyj)⟩
theorem Jj {S : Type} (n : Nat) (R : Nat → S → Prop) (h : ∀ i, i < n → ∃ s, R i s) : ∃ l : List S, l.length = n ∧ ∀ i s, l[i]? = some s → R i s := by
 induction n with
 | zero => exact ⟨[], rfl, fun i s hs => by simp at hs⟩
 | succ n ih =>
  obtain ⟨l, hl, hr⟩ := ih fun i hi => h i (by omega)
  obtain ⟨s, hs⟩ := h n (by omega)
  refine ⟨l ++ [s], by simp [hl], fun i t ht => ?_⟩
  by_cases hi : i < n
  ·rw [List.getElem?_append_left (by omega)] at ht; exact hr i t ht
  ·rw [List.getElem?_append_right (by omega)] at ht
   by_cases e : i = n
   ·subst e; rw [hl, Nat.sub_self] at ht; simp at ht; subst ht; exact hs
   ·rw [List.getElem?_eq_none (by simp; omega)] at ht; cases ht
theorem BI {S : Type} (k : Kd S) (good : S → Prop) {t e : TypeId} {a : Option Addr} {len cap : Nat} {d : DataW H} {ps : List MemPlace} (hu : P.underlying t = some (.slice e)) (hC : P.cellsOf e = k.sz) (hpos : 0 < k.sz)
  (open1 : ∀ fuel cs x, DataW.trod enc P W base spare held fuel e cs = some x → ∃ s, k.K W s cs ∧ good s) (h : DataW.Trod enc P W base spare held t (.slice a len cap) d ps) :
  ∃ l : List S, len = l.length ∧ Kd.C k W a l.length l ∧ l.length ≤ cap ∧ l.length ≤ maxLen ∧ ∀ s ∈ l, good s := by
 obtain ⟨fuel, hf⟩ := h
 rcases open_slice hu hf with ⟨hcs, _⟩ | ⟨x, l, c, m, n, D, Pl, hcs, _, hl, hm, hmm, _, hi⟩
 ·simp [Value.cells] at hcs
  obtain ⟨rfl, rfl, rfl⟩ := hcs
  exact ⟨[], rfl, Kd.KA _ _, Nat.le_refl _, Nat.zero_le _, by simp⟩
 ·simp [Value.cells] at hcs
  obtain ⟨rfl, rfl, rfl⟩ := hcs
  have hlm : len ≤ m := by rw [hmm]; split <;> omega
  obtain ⟨L, hL, hR⟩ := Jj len (fun i s => good s ∧ ∃ cs', k.K W s cs' ∧ cs'.length = k.sz ∧ ∀ j u, cs'[j]? = some u → W.cell? (x.add (i * k.sz + j)) = some u) (fun i hi' => by
   obtain ⟨cs', hc, ht⟩ := hi i (by omega)
   obtain ⟨s, hs, hg⟩ := open1 _ _ _ ht
   rw [hC] at hc
   obtain ⟨_, hcl, hat⟩ := World.cells?_some hc
   refine ⟨s, hg, cs', hs, hcl, fun j u hj => ?_⟩
   have hjl : j < k.sz := by rw [← hcl]; exact (List.getElem?_eq_some_iff.1 hj).1
   have := hat j hjl
   rw [← Go.Deep.add_add]; rw [this]; exact hj)
  refine ⟨L, hL.symm, ⟨rfl, by unfold maxLen at hm; omega, fun _ => ⟨x, rfl, fun j p hp => ?_⟩⟩, by omega, by omega, fun s hs => ?_⟩
  ·obtain ⟨_, c, h1, h2, h3⟩ := hR j p hp
   exact ⟨c, h2, h1, h3⟩
  ·obtain ⟨i, hi', he⟩ := List.getElem_of_mem hs
   exact (hR i s (by rw [List.getElem?_eq_getElem hi', he])).1
end
end Go.Y.mF
namespace Go.Y.mF
open Go.ChangeShapes Go.WideShapes Go.Deep Go.Y.PRd Go.Y.PRr
structure sG (s : S44) : Prop where
 n0 : s.f0.size ≤ maxLen
 n4 : s.f4.size ≤ maxLen
 i1 : (Lit.int .i64 s.f1).wf = true
 i2 : (Lit.int .i64 s.f2).wf = true
 i3 : (Lit.int .i64 s.f3).wf = true
section
variable {H : Type} {enc : TypeId × Value → H} {W : World} {base : Nat} {spare : Nat → Bool} {held : Bool}
theorem Kt {fuel : Nat} {cs : List Value} {x : DataW H × List MemPlace} (h : DataW.trod enc Tryz.prog W base spare held fuel 44 cs = some x) : ∃ s : S44, cs = [.string s.f0, .int .i64 s.f1, .int .i64 s.f2, .int .i64 s.f3, .string s.f4] ∧ sG s := by
 obtain ⟨hl, n, hf⟩ := fields_of Tryz.underlying44 (by kernel_rfl) (by kernel_rfl) h
 obtain ⟨v0, y0, c0, h0⟩ := hf 0 _ rfl
 obtain ⟨v1, y1, c1, h1⟩ := hf 1 _ rfl
 obtain ⟨v2, y2, c2, h2⟩ := hf 2 _ rfl
 obtain ⟨v3, y3, c3, h3⟩ := hf 3 _ rfl
 obtain ⟨v4, y4, c4, h4⟩ := hf 4 _ rfl
 obtain ⟨s, e0, _, g0⟩ := DataW.trod_string Tryz.underlying9 h0
 obtain ⟨a, e1, _, g1⟩ := DataW.trod_int Tryz.underlying3 h1
 obtain ⟨b, e2, _, g2⟩ := DataW.trod_int Tryz.underlying3 h2
 obtain ⟨c, e3, _, g3⟩ := DataW.trod_int Tryz.underlying3 h3
 obtain ⟨d, e4, _, g4⟩ := DataW.trod_string Tryz.underlying9 h4
 obtain rfl : v0 = .string s := by simpa using e0
 obtain rfl : v1 = .int .i64 a := by simpa using e1
 obtain rfl : v2 = .int .i64 b := by simpa using e2
 obtain rfl : v3 = .int .i64 c := by simpa using e3
 obtain rfl : v4 = .string d := by simpa using e4
 have : cs = [.string s, .int .i64 a, .int .i64 b, .int .i64 c, .string d] := by
  match cs, hl with
  | [p, q, r, t, u], _ => simp at c0 c1 c2 c3 c4; rw [c0, c1, c2, c3, c4]
 exact ⟨⟨s, a, b, c, d⟩, this, ⟨g0, g4, g1, g2, g3⟩⟩
theorem ER {t : TypeId} {a : Option Addr} {len cap : Nat} {d : DataW H} {ps : List MemPlace} (hu : Tryz.prog.underlying t = some (.slice 44)) (h : DataW.Trod enc Tryz.prog W base spare held t (.slice a len cap) d ps) :
  ∃ l : List S44, len = l.length ∧ Kd.C k44 W a l.length l ∧ l.length ≤ cap ∧ l.length ≤ maxLen ∧ ∀ s ∈ l, sG s :=
 BI k44 sG hu (by kernel_rfl) (by decide) (fun _ _ _ h => by
  obtain ⟨s, rfl, hg⟩ := Kt h
  exact ⟨s, JU W s, hg⟩) h
end
end Go.Y.mF
namespace Go.Y.Rrs
open Go.Y.Given Go.Y.PRd Go.Y.PRr Go.Y.PZo Go.Y.PZf Go.Y.PZh Go.Y.Name Go.Y.gG Go.Y.fD
abbrev exA : ByteArray := ⟨#[2, 101, 120, 0]⟩
theorem xV {a : ByteArray} {s : List RR} (h : Dq a s) : ∀ y ∈ s, fine y := h.set.all
theorem uJ {l : List RR} (h : ∀ y ∈ l, fP y = true) : ∀ y ∈ l, fine y := fun y hy => mo (h y hy)
theorem vV (l m : List RR) : Ev (fun k => aD.j0 k l m true) true :=
 Ev.step (f := fun k => (fH.f k).bind fun t => some t) (fun k => by rw [aD.j0, if_pos rfl]) (Ev.bind wJ (Ev.now _))
theorem Dx (l m : List RR) (nl : l.length ≤ 30) (nm : m.length ≤ 30) (hm : ∀ y ∈ m, fP y = true) : Ev (fun k => aD.j0 k l m false) true := by
 have hst : ∀ k, aD.j0 (k + 1) l m false = (cO.f k exA l).bind fun p => (dH.f k exA l).bind fun q => if p.2.2.2 = 0 then aD.j1 k m p.2.2.2 q.2.2 (q.2.2 != 0) p.1 p.2.1 p.2.2.1 q.1 q.2.1 else aD.j1 k m p.2.2.2 q.2.2 true p.1 p.2.1 p.2.2.1 q.1 q.2.1 := fun k => by
  rw [aD.j0, if_neg (by decide)]
 refine Ev.step hst (Ev.bind (DC exA l (by omega)) (Ev.bind (Jk exA l (by omega)) ?_))
 rcases GV exA l (by omega) with ⟨s, hS, hsl, e1, e2, _⟩ | ⟨e, he, e1, e2⟩
 ·rw [e1, e2]
  simp only [if_true, bne_self_eq_false]
  have hs : ∀ k, aD.j1 (k + 1) m 0 0 false exA s (uX s) exA s = (bC.f k exA s (uX s) m).bind fun t => (aI.f k exA s m).bind fun u => some (t == u) := fun k => by rw [aD.j1, if_neg (by decide)]
  refine Ev.step hs (Ev.bind (wC exA s _ (xV hS) (by omega) m (uJ hm) (by omega)) (Ev.bind (Cz exA s (xV hS) (by omega) m (uJ hm) (by omega)) ?_))
  rw [beq_self_eq_true]
  exact Ev.now _
 ·rw [e1, e2]
  simp only [he, if_false]
  refine Ev.step (f := fun _ => some (e == e)) (fun k => by rw [aD.j1, if_pos rfl]) ?_
  rw [beq_self_eq_true]
  exact Ev.now _
end Go.Y.Rrs
namespace Go.Y.Pure
open Go.Y.Given Go.Y.PRd Go.Y.PRr Go.Y.PZf Go.Y.PZh Go.Y.Rrs Go.Y.mF
theorem PrereqChecks (l m : List RR) (nl : l.length ≤ maxLen) (hl : ∀ s ∈ l, sG s) (nm : m.length ≤ maxLen) (hm : ∀ s ∈ m, sG s) : ∃ k, aD.f k l m = some true := by
 refine Ev.rounds ?_
 unfold maxLen at nl nm
 unfold aD.f
 refine Ev.bind wJ ?_
 simp only [if_true]
 obtain ⟨b, hb, h1⟩ := JJ l (by omega)
 refine Ev.bind hb ?_
 cases b
 ·simp only [Bool.false_eq_true, if_false]; exact vV l m
 ·simp only [if_true]
  obtain ⟨c, hc, h2⟩ := AP m (by omega)
  refine Ev.bind hc ?_
  cases c
  ·simp only [Bool.not_false]; exact vV l m
  ·simp only [Bool.not_true]; exact Dx l m (h1 rfl) (h2 rfl).1 (h2 rfl).2
end Go.Y.Pure
