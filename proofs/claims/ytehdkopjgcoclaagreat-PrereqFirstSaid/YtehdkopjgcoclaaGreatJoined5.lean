/- Joined out of this session's own texts: contracts and facts that the claim's row is drawn from, each with its own conditions. -/
import Derived.Test.YtehdkopjgcoclaaGreatJoined4
import Derived.Deep.Slices
import Derived.Deep.Fields
import Derived.ProofKit
set_option linter.unusedSimpArgs false
set_option linter.unusedVariables false
set_option maxHeartbeats 40000000
set_option maxRecDepth 100000
open Go.Proofs
namespace Go.Y.PZh
open Go.RowKit Go.V.aC Go.V.aK Go.V.aQ Go.Y.Given Go.Y.PRd Go.Y.PRr Go.Y.PZo Go.Y.PZf Go.Y.PZe
attribute [local go_sem] dA dx dJ dI bV bU dz dw   -- for this text's walks alone
mutual
noncomputable def aT.l0 : Nat → List (S44) → List (S44) → Int → Int → ByteArray → List (S44) → Int → Option (Int)
 | 0, _, _, _, _, _, _, _ => none
 | k + 1, x5, x11, x12, x13, x235000, x235001, x235002 => if x13 < x12 then (if 0 ≤ x13 then (if x13 < (x11.length : Int) then ((dF.f k x235000 x235001 x235002 ((aj x11 x13).f0) ((aj x11 x13).f1) ((aj x11 x13).f2) ((aj x11 x13).f3) ((aj x11 x13).f4)).bind fun t237 => (if t237 = 0 then (if ((aj x11 x13).f2) = 1 then (if x5.length < 2513169434916 then (aT.l0 k (x5 ++ [(⟨(aj x11 x13).f0, (aj x11 x13).f1, (aj x11 x13).f2, (aj x11 x13).f3, (aj x11 x13).f4⟩ : S44)]) x11 x12 (wrap64 (x13 + 1)) x235000 x235001 x235002) else (none)) else (aT.l0 k x5 x11 x12 (wrap64 (x13 + 1)) x235000 x235001 x235002)) else (some t237))) else (none)) else (none)) else (aT.l1 k x5 x5 (x5.length : Int) 0 x235000 x235001 x235002)
noncomputable def aT.l1 : Nat → List (S44) → List (S44) → Int → Int → ByteArray → List (S44) → Int → Option (Int)
 | 0, _, _, _, _, _, _, _ => none
 | k + 1, x5, x31, x32, x33, x235000, x235001, x235002 => if x33 < x32 then (if 0 ≤ x33 then (if x33 < (x31.length : Int) then ((gK.f x235000 x235001 x235002 ((aj x31 x33).f0) ((aj x31 x33).f1)).bind fun t243 => ((jT.f x5 ((aj x31 x33).f0)).bind fun t246 => ((gZ.f t246 ((aj x31 x33).f1)).bind fun t249 => ((jD.f k t243 t249).bind fun t252 => (if t252 = true then (aT.l1 k x5 x31 x32 (wrap64 (x33 + 1)) x235000 x235001 x235002) else (some 8)))))) else (none)) else (none)) else (some 0)
end
noncomputable def aT.f (k : Nat) (a0_0 : ByteArray) (l0_1 : List (S44)) (a0_2 : Int) (l1 : List (S44)) : Option (Int) := aT.l0 k ([] : List (S44)) l1 (l1.length : Int) 0 a0_0 l0_1 a0_2
def aT.T14 : Bool × List (List Nat × List Nat) := (true, [([], []), ([], []), ([1], [1]), ([], []), ([3], [3]), ([0, 2, 4], [0, 2, 4]), ([], []), ([], []), ([7], [7]), ([6, 8, 5], [6, 8]), ([], []), ([10], [10]), ([9, 11, 9], [9, 11]), ([5, 12, 12], [5, 12]), ([13], [13])])
def aT.B14 : List Nat := [0, 0, 2, 0, 8, 31, 0, 0, 128, 511, 0, 1024, 4095, 8191, 16383]
theorem aT.xg : eH .any (opsOf Tryz.f24 14) = aT.T14 := by kernel_rfl
theorem aT.uM : eD aT.T14.2 aT.B14 = true := by kernel_rfl
theorem aT.calls (k : Nat) (a0_0 : ByteArray) (A0_1 : Option Addr) (c0_1 : Nat) (l0_1 : List (S44)) (a0_2 : Int) (A1 : Option Addr) (c1 : Nat) (l1 : List (S44)) (r : Int) (w : World) (hr0_1 : Kd.C k44 w A0_1 l0_1.length l0_1) (hc0_1 : l0_1.length ≤ c0_1) (hr1 : Kd.C k44 w A1 l1.length l1) (hc1 : l1.length ≤ c1) (h : aT.f k a0_0 l0_1 a0_2 l1 = some r) :
    Calls Tryz.prog 24 #[.agg #[.string a0_0, .slice A0_1 l0_1.length c0_1, .int .i64 a0_2], .slice A1 l1.length c1] w fun e w' => e = .returned (.int .i64 r) ∧ Below w.heap.size w w' := by
  have hu26 := Tryz.underlying26
  have hu44 := Tryz.underlying44
  have HR0_1 := ah.mk hr0_1
  have HC0_1 := ah.mk hc0_1
  clear hr0_1 hc0_1
  have HR1 := ah.mk hr1
  have HC1 := ah.mk hc1
  clear hr1 hc1
  have HB := ah.mk (Below.refl w.heap.size w)
  have H : (aT.l0 k ([] : List (S44)) l1 (l1.length : Int) 0 a0_0 l0_1 a0_2) = some r := h
  clear h
  have H' := ah.mk H
  clear H
  go_enter Tryz.func24, Tryz.ntmps24
  go_wp2_with ((((with_reducible refine bC (N := 2) rfl ?_); refine bE ?hg (N := 2) ?hd (cs := #[.string a0_0, .slice A0_1 l0_1.length c0_1, .int .i64 a0_2]) (t := 26) ?hr ?_; (case hd => rfl); (case hg => rfl); (case hr => (go_simp; done)); intro gb234 hg w3 hbox hb; have BK234 := ah.mk (hbox); have GW234 := ah.mk (ge_ hg (ay HB.out)); have GE234 := ah.mk (ge_ hg (ay HB.out)); replace HB := ah.mk (ak HB.out hb); clear hb hbox hg)))
  go_loopg [5, 13] k (fun kq v5 v13 w' => ∃ (x5_1 : List (S44)) (x13_1 : Int), v13 = .int .i64 x13_1 ∧ ah (aT.l0 kq x5_1 l1 (l1.length : Int) x13_1 a0_0 l0_1 a0_2 = some r) ∧ ah (kq ≤ k) ∧ ah (Kd.R k44 44 w' w.heap.size (fun _ => True) v5 x5_1) ∧ ah (w'.heap[gb234]? = some (.cells #[.string a0_0, (.slice A0_1 l0_1.length c0_1), .int .i64 a0_2] 26 (0, 0))) ∧ ah (Below w.heap.size w w'))
  case atStart => exact ⟨(([] : List (S44))), (0), (by rfl), H', ⟨Nat.le_refl _⟩, ⟨by (exact Kd.gB _ _ _ _ _)⟩, ⟨by (with_reducible repeat ((refine av ?_ _))); exact BK234.out⟩, ⟨HB.out⟩⟩
  case round =>
   clear H'
   obtain ⟨x5_1, x13_1, rfl, HA, HK1, HO_5, BK234, HB⟩ := hrel
   cases gk with
   | zero => exact absurd HA.out (by simp [aT.l0])
   | succ k1 =>
    have H := HA.out
    clear HA
    simp only [aT.l0] at H
    by_cases c4 : x13_1 < (l1.length : Int)
    ·rw [if_pos c4] at H
     have c4b0 : decide (x13_1 < (l1.length : Int)) = true := decide_eq_true c4
     clear c4
     obtain ⟨c5b0, H⟩ := dH H
     obtain ⟨c6b0, H⟩ := dH H
     obtain ⟨t237, A7, H⟩ := bQ H
     by_cases c8 : t237 = 0
     focus
      rw [if_pos c8] at H
      have c8b0 : (t237 == 0) = true := beq_iff_eq.mpr c8
      have c8b1 : (t237 != 0) = false := bne_eq_false_iff_eq.mpr c8
      clear c8
      by_cases c9 : ((aj l1 x13_1).f2) = 1
      focus
       rw [if_pos c9] at H
       have c9b0 : (((aj l1 x13_1).f2) == 1) = true := beq_iff_eq.mpr c9
       have c9b1 : (((aj l1 x13_1).f2) != 1) = false := bne_eq_false_iff_eq.mpr c9
       clear c9
       obtain ⟨c10, H⟩ := gd_ H
       have LMc10 := ah.mk c10
       clear c10
       obtain ⟨y238, hy238⟩ : ∃ y_ : List (S44), y_ = (x5_1 ++ [(⟨(aj l1 x13_1).f0, (aj l1 x13_1).f1, (aj l1 x13_1).f2, (aj l1 x13_1).f3, (aj l1 x13_1).f4⟩ : S44)]) := ⟨_, rfl⟩
       replace H : (aT.l0 k1 y238 l1 (l1.length : Int) (wrap64 (x13_1 + 1)) a0_0 l0_1 a0_2) = some r := by (rw [hy238]; with_reducible exact H)
       have Ny238 := ah.mk hy238
       clear hy238
      rotate_left
      focus
       rw [if_neg c9] at H
       have c9b0 : (((aj l1 x13_1).f2) == 1) = false := beq_eq_false_iff_ne.mpr c9
       have c9b1 : (((aj l1 x13_1).f2) != 1) = true := bne_iff_ne.mpr c9
      rotate_left
      all_goals
       have H' := ah.mk H
       clear H
     rotate_left 2
     focus
      rw [if_neg c8] at H
      have c8b0 : (t237 == 0) = false := beq_eq_false_iff_ne.mpr c8
      have c8b1 : (t237 != 0) = true := bne_iff_ne.mpr c8
      obtain rfl := Option.some.inj H
     rotate_left
     all_goals
      have p235 : 0 ≤ (x13_1 : Int) := of_decide_eq_true (by assumption)
      have q235 : x13_1 < (l1.length : Int) := of_decide_eq_true (by assumption)
      obtain ⟨ad235, e235, hx235_0, hx235_1, hx235_2, hx235_3, hx235_4⟩ := dN HR1.out x13_1 p235 q235
      cases e235
      replace hx235_0 := kp_ HB.out hx235_0
      replace hx235_1 := kp_ HB.out hx235_1
      replace hx235_2 := kp_ HB.out hx235_2
      replace hx235_3 := kp_ HB.out hx235_3
      replace hx235_4 := kp_ HB.out hx235_4
      replace p235 := eq_true p235
      replace q235 := eq_true q235
     ·go_wp2_with (first | ((with_reducible refine bC (N := 7) rfl ?_); refine bE ?hg (N := 7) ?hd (cs := #[.string (⟨#[]⟩ : ByteArray), .int .i64 0, .int .i64 0, .int .i64 0, .string (⟨#[]⟩ : ByteArray)]) (t := 44) ?hr ?_; (case hd => rfl); (case hg => rfl); (case hr => (go_simp; done)); intro gb236 hg w11 hbox hb; have BK236 := ah.mk (hbox); have GW236 := ah.mk (ge_ hg (ay HB.out)); have GE236 := ah.mk (ge_ hg (ay HB.out)); have NB234_236 := ah.mk (nl_ hg (by ((exact BK234.out)))); have NB236_234 := ah.mk (nr_ hg (by ((exact BK234.out)))); replace HO_5 := ah.mk (Kd.bM (Kd.nT (by ((exact HO_5.out))) gb236 (Nat.le_of_eq hg.symm)) hb); replace BK234 := ah.mk (aD (by ((exact BK234.out))) hb); replace HB := ah.mk (ak HB.out hb); clear hb hbox hg; have hnb12 := NB236_234.out; have hnc12 := NB234_236.out; obtain ⟨hcz13_0, hcz13_1, hcz13_2, hcz13_3, hcz13_4, hfz13_0, hfz13_1, hfz13_2, hfz13_3, hfz13_4⟩ := z5_ BK236.out; obtain ⟨hcz14_0, hcz14_1, hcz14_2, hfz14_0, hfz14_1, hfz14_2⟩ := z3_ BK234.out) | ((with_reducible refine bO (f := 58) rfl ?_); refine dX (some 19) rfl rfl Tryz.func58 (by kernel_rfl) rfl #[.agg #[.string a0_0, .slice A0_1 l0_1.length c0_1, .int .i64 a0_2], .agg #[.string ((aj l1 x13_1).f0), .int .i64 ((aj l1 x13_1).f1), .int .i64 ((aj l1 x13_1).f2), .int .i64 ((aj l1 x13_1).f3), .string ((aj l1 x13_1).f4)]] rfl (by (try simp only [mA_, mC_, mN_]); rfl) ?_; (with_reducible refine (dF.calls k1 a0_0 _ _ l0_1 a0_2 ((aj l1 x13_1).f0) ((aj l1 x13_1).f1) ((aj l1 x13_1).f2) ((aj l1 x13_1).f3) ((aj l1 x13_1).f4) t237 _ ?side1 ?side2 A7.out).mono ?_); (case side1 => exact Kd.eB HR0_1.out (by repeat ((with_reducible first | exact HB.out | refine dB ?_ GE236.out)))); (case side2 => exact HC0_1.out); rintro e w15 ⟨rfl, hb⟩; refine ⟨_, rfl, ?_⟩; replace HO_5 := ah.mk (Kd.bM (by (with_reducible repeat ((apply Kd.aM))); exact (Kd.bW (Kd.dR (p := ⟨gb236, 4, none⟩) (Kd.dR (p := ⟨gb236, 3, none⟩) (Kd.dR (p := ⟨gb236, 2, none⟩) (Kd.dR (p := ⟨gb236, 1, none⟩) (Kd.dR (p := ⟨gb236, 0, none⟩) (Kd.bW HO_5.out (fun k_ hk => (⟨hk, hk.2⟩ : _ ∧ k_ ≠ gb236))) (fun _ hk => hk.2) (.string ((aj l1 x13_1).f0))) (fun _ hk => hk.2) (.int .i64 ((aj l1 x13_1).f1))) (fun _ hk => hk.2) (.int .i64 ((aj l1 x13_1).f2))) (fun _ hk => hk.2) (.int .i64 ((aj l1 x13_1).f3))) (fun _ hk => hk.2) (.string ((aj l1 x13_1).f4))) (fun _ h_ => h_.1))) hb); replace BK234 := ah.mk (aD (g := gb234) (o := .cells #[.string a0_0, .slice A0_1 l0_1.length c0_1, .int .i64 a0_2] 26 (0, 0)) (by (with_reducible repeat ((refine av ?_ _))); refine dn ?_ NB234_236.out _; (with_reducible repeat ((refine av ?_ _))); refine dn ?_ NB234_236.out _; (with_reducible repeat ((refine av ?_ _))); refine dn ?_ NB234_236.out _; (with_reducible repeat ((refine av ?_ _))); refine dn ?_ NB234_236.out _; (with_reducible repeat ((refine av ?_ _))); refine dn ?_ NB234_236.out _; (with_reducible repeat ((refine av ?_ _))); exact BK234.out) hb); replace BK236 := ah.mk (aD (g := gb236) (o := .cells #[.string ((aj l1 x13_1).f0), .int .i64 ((aj l1 x13_1).f1), .int .i64 ((aj l1 x13_1).f2), .int .i64 ((aj l1 x13_1).f3), .string ((aj l1 x13_1).f4)] 44 (0, 0)) (by (with_reducible repeat ((refine av ?_ _))); refine aU (cs := #[.string ((aj l1 x13_1).f0), .int .i64 ((aj l1 x13_1).f1), .int .i64 ((aj l1 x13_1).f2), .int .i64 ((aj l1 x13_1).f3), .string (⟨#[]⟩ : ByteArray)]) ?_ 4 _ rfl; (with_reducible repeat ((refine av ?_ _))); refine aU (cs := #[.string ((aj l1 x13_1).f0), .int .i64 ((aj l1 x13_1).f1), .int .i64 ((aj l1 x13_1).f2), .int .i64 0, .string (⟨#[]⟩ : ByteArray)]) ?_ 3 _ rfl; (with_reducible repeat ((refine av ?_ _))); refine aU (cs := #[.string ((aj l1 x13_1).f0), .int .i64 ((aj l1 x13_1).f1), .int .i64 0, .int .i64 0, .string (⟨#[]⟩ : ByteArray)]) ?_ 2 _ rfl; (with_reducible repeat ((refine av ?_ _))); refine aU (cs := #[.string ((aj l1 x13_1).f0), .int .i64 0, .int .i64 0, .int .i64 0, .string (⟨#[]⟩ : ByteArray)]) ?_ 1 _ rfl; (with_reducible repeat ((refine av ?_ _))); refine aU (cs := #[.string (⟨#[]⟩ : ByteArray), .int .i64 0, .int .i64 0, .int .i64 0, .string (⟨#[]⟩ : ByteArray)]) ?_ 0 _ rfl; (with_reducible repeat ((refine av ?_ _))); exact BK236.out) hb); replace HB := ah.mk (ak (by repeat ((with_reducible first | exact HB.out | refine dB ?_ GE236.out))) hb); (try clear hb); obtain ⟨hcz16_0, hcz16_1, hcz16_2, hcz16_3, hcz16_4, hfz16_0, hfz16_1, hfz16_2, hfz16_3, hfz16_4⟩ := z5_ BK236.out) | ((with_reducible refine gL (b := .append) (xs := #[.tmp 26, .tmp 28]) rfl ?_); at_builtin; refine Kd.jr k44 (w0 := w) w.heap.size rfl (.tmp 26) (.tmp 28) 22 44 (.agg #[(.string ⟨#[]⟩), (.int .i64 0), (.int .i64 0), (.int .i64 0), (.string ⟨#[]⟩)]) 56 rfl Tryz.underlying22 qO rfl (by decide) (by omega) u5 x5_1 (⟨(aj l1 x13_1).f0, (aj l1 x13_1).f1, (aj l1 x13_1).f2, (aj l1 x13_1).f3, (aj l1 x13_1).f4⟩ : S44) [.string ((aj l1 x13_1).f0), .int .i64 ((aj l1 x13_1).f1), .int .i64 ((aj l1 x13_1).f2), .int .i64 ((aj l1 x13_1).f3), .string ((aj l1 x13_1).f4)] (fun k_ => k_ ≠ gb236) (fun _ => False) rfl rfl ?aP (fun _ hk => hk.elim) ?aF ?aO ?aB ?aS ?aL ?_; (case aP => exact iB _ _ _ (⟨(aj l1 x13_1).f0, (aj l1 x13_1).f1, (aj l1 x13_1).f2, (aj l1 x13_1).f3, (aj l1 x13_1).f4⟩ : S44)); (case aB => exact HB.out); (case aF => exact (fun k_ hk => Kd.GI (g := gb236) (o := .cells #[.string ((aj l1 x13_1).f0), .int .i64 ((aj l1 x13_1).f1), .int .i64 ((aj l1 x13_1).f2), .int .i64 ((aj l1 x13_1).f3), .string ((aj l1 x13_1).f4)] 44 (0, 0)) (by ((exact BK236.out))) k_ hk)); (case aO => exact (by (with_reducible repeat ((apply Kd.aM))); exact Kd.bW HO_5.out (fun _ hk => hk.2))); (case aS => exact (ay HB.out)); (case aL => have := LMc10.out; omega); intro v239 w17 ho hb hg hat; rw [← Ny238.out] at ho; have n0_ := ah.mk (iT (g := gb234) (o := .cells #[.string a0_0, .slice A0_1 l0_1.length c0_1, .int .i64 a0_2] 26 (0, 0)) (by ((exact BK234.out))) hg (Kd.DI HO_5.out BK234.out (by decide))); have n1_ := ah.mk (iT (g := gb236) (o := .cells #[.string ((aj l1 x13_1).f0), .int .i64 ((aj l1 x13_1).f1), .int .i64 ((aj l1 x13_1).f2), .int .i64 ((aj l1 x13_1).f3), .string ((aj l1 x13_1).f4)] 44 (0, 0)) (by ((exact BK236.out))) hg (Kd.Ib HO_5.out (fun _ hk => hk.2))); have n2_ := ah.mk (hb); have n3_ := ah.mk (ho); clear BK234; clear BK236; clear HB; clear HO_5; have BK234 := n0_; have BK236 := n1_; have HB := n2_; have HO240 := n3_; clear n0_ n1_ n2_ n3_; clear ho hb hg hat))
      go_roundg k1
      case measure => have := HK1.out; omega
      case rel => exact ⟨(y238), (wrap64 (x13_1 + 1)), (by rfl), H', ⟨by have := HK1.out; omega⟩, ⟨by (with_reducible repeat ((apply Kd.aM))); exact Kd.bW HO240.out (fun _ hk => trivial)⟩, ⟨by (with_reducible repeat ((refine av ?_ _))); exact BK234.out⟩, ⟨HB.out⟩⟩
     ·go_wp2_with (first | ((with_reducible refine bC (N := 7) rfl ?_); refine bE ?hg (N := 7) ?hd (cs := #[.string (⟨#[]⟩ : ByteArray), .int .i64 0, .int .i64 0, .int .i64 0, .string (⟨#[]⟩ : ByteArray)]) (t := 44) ?hr ?_; (case hd => rfl); (case hg => rfl); (case hr => (go_simp; done)); intro gb236 hg w18 hbox hb; have BK236 := ah.mk (hbox); have GW236 := ah.mk (ge_ hg (ay HB.out)); have GE236 := ah.mk (ge_ hg (ay HB.out)); have NB234_236 := ah.mk (nl_ hg (by ((exact BK234.out)))); have NB236_234 := ah.mk (nr_ hg (by ((exact BK234.out)))); replace HO_5 := ah.mk (Kd.bM (Kd.nT (by ((exact HO_5.out))) gb236 (Nat.le_of_eq hg.symm)) hb); replace BK234 := ah.mk (aD (by ((exact BK234.out))) hb); replace HB := ah.mk (ak HB.out hb); clear hb hbox hg; have hnb19 := NB236_234.out; have hnc19 := NB234_236.out; obtain ⟨hcz20_0, hcz20_1, hcz20_2, hcz20_3, hcz20_4, hfz20_0, hfz20_1, hfz20_2, hfz20_3, hfz20_4⟩ := z5_ BK236.out; obtain ⟨hcz21_0, hcz21_1, hcz21_2, hfz21_0, hfz21_1, hfz21_2⟩ := z3_ BK234.out) | ((with_reducible refine bO (f := 58) rfl ?_); refine dX (some 19) rfl rfl Tryz.func58 (by kernel_rfl) rfl #[.agg #[.string a0_0, .slice A0_1 l0_1.length c0_1, .int .i64 a0_2], .agg #[.string ((aj l1 x13_1).f0), .int .i64 ((aj l1 x13_1).f1), .int .i64 ((aj l1 x13_1).f2), .int .i64 ((aj l1 x13_1).f3), .string ((aj l1 x13_1).f4)]] rfl (by (try simp only [mA_, mC_, mN_]); rfl) ?_; (with_reducible refine (dF.calls k1 a0_0 _ _ l0_1 a0_2 ((aj l1 x13_1).f0) ((aj l1 x13_1).f1) ((aj l1 x13_1).f2) ((aj l1 x13_1).f3) ((aj l1 x13_1).f4) t237 _ ?side1 ?side2 A7.out).mono ?_); (case side1 => exact Kd.eB HR0_1.out (by repeat ((with_reducible first | exact HB.out | refine dB ?_ GE236.out)))); (case side2 => exact HC0_1.out); rintro e w22 ⟨rfl, hb⟩; refine ⟨_, rfl, ?_⟩; replace HO_5 := ah.mk (Kd.bM (by (with_reducible repeat ((apply Kd.aM))); exact (Kd.bW (Kd.dR (p := ⟨gb236, 4, none⟩) (Kd.dR (p := ⟨gb236, 3, none⟩) (Kd.dR (p := ⟨gb236, 2, none⟩) (Kd.dR (p := ⟨gb236, 1, none⟩) (Kd.dR (p := ⟨gb236, 0, none⟩) (Kd.bW HO_5.out (fun k_ hk => (⟨hk, hk.2⟩ : _ ∧ k_ ≠ gb236))) (fun _ hk => hk.2) (.string ((aj l1 x13_1).f0))) (fun _ hk => hk.2) (.int .i64 ((aj l1 x13_1).f1))) (fun _ hk => hk.2) (.int .i64 ((aj l1 x13_1).f2))) (fun _ hk => hk.2) (.int .i64 ((aj l1 x13_1).f3))) (fun _ hk => hk.2) (.string ((aj l1 x13_1).f4))) (fun _ h_ => h_.1))) hb); replace BK234 := ah.mk (aD (g := gb234) (o := .cells #[.string a0_0, .slice A0_1 l0_1.length c0_1, .int .i64 a0_2] 26 (0, 0)) (by (with_reducible repeat ((refine av ?_ _))); refine dn ?_ NB234_236.out _; (with_reducible repeat ((refine av ?_ _))); refine dn ?_ NB234_236.out _; (with_reducible repeat ((refine av ?_ _))); refine dn ?_ NB234_236.out _; (with_reducible repeat ((refine av ?_ _))); refine dn ?_ NB234_236.out _; (with_reducible repeat ((refine av ?_ _))); refine dn ?_ NB234_236.out _; (with_reducible repeat ((refine av ?_ _))); exact BK234.out) hb); replace BK236 := ah.mk (aD (g := gb236) (o := .cells #[.string ((aj l1 x13_1).f0), .int .i64 ((aj l1 x13_1).f1), .int .i64 ((aj l1 x13_1).f2), .int .i64 ((aj l1 x13_1).f3), .string ((aj l1 x13_1).f4)] 44 (0, 0)) (by (with_reducible repeat ((refine av ?_ _))); refine aU (cs := #[.string ((aj l1 x13_1).f0), .int .i64 ((aj l1 x13_1).f1), .int .i64 ((aj l1 x13_1).f2), .int .i64 ((aj l1 x13_1).f3), .string (⟨#[]⟩ : ByteArray)]) ?_ 4 _ rfl; (with_reducible repeat ((refine av ?_ _))); refine aU (cs := #[.string ((aj l1 x13_1).f0), .int .i64 ((aj l1 x13_1).f1), .int .i64 ((aj l1 x13_1).f2), .int .i64 0, .string (⟨#[]⟩ : ByteArray)]) ?_ 3 _ rfl; (with_reducible repeat ((refine av ?_ _))); refine aU (cs := #[.string ((aj l1 x13_1).f0), .int .i64 ((aj l1 x13_1).f1), .int .i64 0, .int .i64 0, .string (⟨#[]⟩ : ByteArray)]) ?_ 2 _ rfl; (with_reducible repeat ((refine av ?_ _))); refine aU (cs := #[.string ((aj l1 x13_1).f0), .int .i64 0, .int .i64 0, .int .i64 0, .string (⟨#[]⟩ : ByteArray)]) ?_ 1 _ rfl; (with_reducible repeat ((refine av ?_ _))); refine aU (cs := #[.string (⟨#[]⟩ : ByteArray), .int .i64 0, .int .i64 0, .int .i64 0, .string (⟨#[]⟩ : ByteArray)]) ?_ 0 _ rfl; (with_reducible repeat ((refine av ?_ _))); exact BK236.out) hb); replace HB := ah.mk (ak (by repeat ((with_reducible first | exact HB.out | refine dB ?_ GE236.out))) hb); (try clear hb); obtain ⟨hcz23_0, hcz23_1, hcz23_2, hcz23_3, hcz23_4, hfz23_0, hfz23_1, hfz23_2, hfz23_3, hfz23_4⟩ := z5_ BK236.out))
      go_roundg k1
      case measure => have := HK1.out; omega
      case rel => exact ⟨(x5_1), (wrap64 (x13_1 + 1)), (by rfl), H', ⟨by have := HK1.out; omega⟩, ⟨by (with_reducible repeat ((apply Kd.aM))); exact Kd.bW HO_5.out (fun _ hk => trivial)⟩, ⟨by (with_reducible repeat ((refine av ?_ _))); exact BK234.out⟩, ⟨HB.out⟩⟩
     ·go_wp2_with (first | ((with_reducible refine bC (N := 7) rfl ?_); refine bE ?hg (N := 7) ?hd (cs := #[.string (⟨#[]⟩ : ByteArray), .int .i64 0, .int .i64 0, .int .i64 0, .string (⟨#[]⟩ : ByteArray)]) (t := 44) ?hr ?_; (case hd => rfl); (case hg => rfl); (case hr => (go_simp; done)); intro gb236 hg w24 hbox hb; have BK236 := ah.mk (hbox); have GW236 := ah.mk (ge_ hg (ay HB.out)); have GE236 := ah.mk (ge_ hg (ay HB.out)); have NB234_236 := ah.mk (nl_ hg (by ((exact BK234.out)))); have NB236_234 := ah.mk (nr_ hg (by ((exact BK234.out)))); replace HO_5 := ah.mk (Kd.bM (Kd.nT (by ((exact HO_5.out))) gb236 (Nat.le_of_eq hg.symm)) hb); replace BK234 := ah.mk (aD (by ((exact BK234.out))) hb); replace HB := ah.mk (ak HB.out hb); clear hb hbox hg; have hnb25 := NB236_234.out; have hnc25 := NB234_236.out; obtain ⟨hcz26_0, hcz26_1, hcz26_2, hcz26_3, hcz26_4, hfz26_0, hfz26_1, hfz26_2, hfz26_3, hfz26_4⟩ := z5_ BK236.out; obtain ⟨hcz27_0, hcz27_1, hcz27_2, hfz27_0, hfz27_1, hfz27_2⟩ := z3_ BK234.out) | ((with_reducible refine bO (f := 58) rfl ?_); refine dX (some 19) rfl rfl Tryz.func58 (by kernel_rfl) rfl #[.agg #[.string a0_0, .slice A0_1 l0_1.length c0_1, .int .i64 a0_2], .agg #[.string ((aj l1 x13_1).f0), .int .i64 ((aj l1 x13_1).f1), .int .i64 ((aj l1 x13_1).f2), .int .i64 ((aj l1 x13_1).f3), .string ((aj l1 x13_1).f4)]] rfl (by (try simp only [mA_, mC_, mN_]); rfl) ?_; (with_reducible refine (dF.calls k1 a0_0 _ _ l0_1 a0_2 ((aj l1 x13_1).f0) ((aj l1 x13_1).f1) ((aj l1 x13_1).f2) ((aj l1 x13_1).f3) ((aj l1 x13_1).f4) t237 _ ?side1 ?side2 A7.out).mono ?_); (case side1 => exact Kd.eB HR0_1.out (by repeat ((with_reducible first | exact HB.out | refine dB ?_ GE236.out)))); (case side2 => exact HC0_1.out); rintro e w28 ⟨rfl, hb⟩; refine ⟨_, rfl, ?_⟩; replace HO_5 := ah.mk (Kd.bM (by (with_reducible repeat ((apply Kd.aM))); exact (Kd.bW (Kd.dR (p := ⟨gb236, 4, none⟩) (Kd.dR (p := ⟨gb236, 3, none⟩) (Kd.dR (p := ⟨gb236, 2, none⟩) (Kd.dR (p := ⟨gb236, 1, none⟩) (Kd.dR (p := ⟨gb236, 0, none⟩) (Kd.bW HO_5.out (fun k_ hk => (⟨hk, hk.2⟩ : _ ∧ k_ ≠ gb236))) (fun _ hk => hk.2) (.string ((aj l1 x13_1).f0))) (fun _ hk => hk.2) (.int .i64 ((aj l1 x13_1).f1))) (fun _ hk => hk.2) (.int .i64 ((aj l1 x13_1).f2))) (fun _ hk => hk.2) (.int .i64 ((aj l1 x13_1).f3))) (fun _ hk => hk.2) (.string ((aj l1 x13_1).f4))) (fun _ h_ => h_.1))) hb); replace BK234 := ah.mk (aD (g := gb234) (o := .cells #[.string a0_0, .slice A0_1 l0_1.length c0_1, .int .i64 a0_2] 26 (0, 0)) (by (with_reducible repeat ((refine av ?_ _))); refine dn ?_ NB234_236.out _; (with_reducible repeat ((refine av ?_ _))); refine dn ?_ NB234_236.out _; (with_reducible repeat ((refine av ?_ _))); refine dn ?_ NB234_236.out _; (with_reducible repeat ((refine av ?_ _))); refine dn ?_ NB234_236.out _; (with_reducible repeat ((refine av ?_ _))); refine dn ?_ NB234_236.out _; (with_reducible repeat ((refine av ?_ _))); exact BK234.out) hb); replace BK236 := ah.mk (aD (g := gb236) (o := .cells #[.string ((aj l1 x13_1).f0), .int .i64 ((aj l1 x13_1).f1), .int .i64 ((aj l1 x13_1).f2), .int .i64 ((aj l1 x13_1).f3), .string ((aj l1 x13_1).f4)] 44 (0, 0)) (by (with_reducible repeat ((refine av ?_ _))); refine aU (cs := #[.string ((aj l1 x13_1).f0), .int .i64 ((aj l1 x13_1).f1), .int .i64 ((aj l1 x13_1).f2), .int .i64 ((aj l1 x13_1).f3), .string (⟨#[]⟩ : ByteArray)]) ?_ 4 _ rfl; (with_reducible repeat ((refine av ?_ _))); refine aU (cs := #[.string ((aj l1 x13_1).f0), .int .i64 ((aj l1 x13_1).f1), .int .i64 ((aj l1 x13_1).f2), .int .i64 0, .string (⟨#[]⟩ : ByteArray)]) ?_ 3 _ rfl; (with_reducible repeat ((refine av ?_ _))); refine aU (cs := #[.string ((aj l1 x13_1).f0), .int .i64 ((aj l1 x13_1).f1), .int .i64 0, .int .i64 0, .string (⟨#[]⟩ : ByteArray)]) ?_ 2 _ rfl; (with_reducible repeat ((refine av ?_ _))); refine aU (cs := #[.string ((aj l1 x13_1).f0), .int .i64 0, .int .i64 0, .int .i64 0, .string (⟨#[]⟩ : ByteArray)]) ?_ 1 _ rfl; (with_reducible repeat ((refine av ?_ _))); refine aU (cs := #[.string (⟨#[]⟩ : ByteArray), .int .i64 0, .int .i64 0, .int .i64 0, .string (⟨#[]⟩ : ByteArray)]) ?_ 0 _ rfl; (with_reducible repeat ((refine av ?_ _))); exact BK236.out) hb); replace HB := ah.mk (ak (by repeat ((with_reducible first | exact HB.out | refine dB ?_ GE236.out))) hb); (try clear hb)))
      go_ret
      exact ⟨by rfl, HB.out⟩
    ·rw [if_neg c4] at H
     have c4b0 : decide (x13_1 < (l1.length : Int)) = false := decide_eq_false c4
     clear c4
     have H' := ah.mk H
     clear H
     obtain ⟨Ao29, co29, eo29⟩ := Kd.bY HO_5.out
     subst eo29
     go_wp2
     go_loopg [33] k1 (fun kq v33 w' => ∃ (x33_2 : Int), v33 = .int .i64 x33_2 ∧ ah (aT.l1 kq x5_1 x5_1 (x5_1.length : Int) x33_2 a0_0 l0_1 a0_2 = some r) ∧ ah (kq ≤ k1) ∧ ah (Kd.R k44 44 w' w.heap.size (fun _ => True) (.slice Ao29 x5_1.length co29) x5_1) ∧ ah (Kd.R k44 44 w' w.heap.size (fun _ => True) (.slice Ao29 x5_1.length co29) x5_1) ∧ ah (w'.heap[gb234]? = some (.cells #[.string a0_0, (.slice A0_1 l0_1.length c0_1), .int .i64 a0_2] 26 (0, 0))) ∧ ah (Below w.heap.size w w'))
     case atStart => exact ⟨(0), (by rfl), H', ⟨Nat.le_refl _⟩, ⟨by (with_reducible repeat ((apply Kd.aM))); exact HO_5.out⟩, ⟨by (with_reducible repeat ((apply Kd.aM))); exact HO_5.out⟩, ⟨by (with_reducible repeat ((refine av ?_ _))); exact BK234.out⟩, ⟨HB.out⟩⟩
     case round =>
      clear H'
      (try clear c4b0)
      obtain ⟨x33_2, rfl, HA, HK2, HO_5, HO_31, BK234, HB⟩ := hrel
      cases gk with
      | zero => exact absurd HA.out (by simp [aT.l1])
      | succ k2 =>
       have H := HA.out
       clear HA
       simp only [aT.l1] at H
       by_cases c30 : x33_2 < (x5_1.length : Int)
       ·rw [if_pos c30] at H
        have c30b0 : decide (x33_2 < (x5_1.length : Int)) = true := decide_eq_true c30
        clear c30
        obtain ⟨c31b0, H⟩ := dH H
        obtain ⟨c32b0, H⟩ := dH H
        obtain ⟨t243, A33, H⟩ := bQ H
        obtain ⟨t246, A34, H⟩ := bQ H
        obtain ⟨t249, A35, H⟩ := bQ H
        obtain ⟨t252, A36, H⟩ := bQ H
        by_cases c37 : t252 = true
        focus
         subst c37
         rw [if_pos rfl] at H
         have H' := ah.mk H
         clear H
        rotate_left
        focus
         replace c37 := Bool.eq_false_iff.mpr c37
         subst c37
         rw [if_neg ff_] at H
         obtain rfl := Option.some.inj H
        rotate_left
        all_goals
         have p241 : 0 ≤ (x33_2 : Int) := of_decide_eq_true (by assumption)
         have q241 : x33_2 < (x5_1.length : Int) := of_decide_eq_true (by assumption)
         obtain ⟨ad241, e241, hx241_0, hx241_1, hx241_2, hx241_3, hx241_4⟩ := dN (Kd.aI HO_31.out).2.2 x33_2 p241 q241
         cases e241
         replace p241 := eq_true p241
         replace q241 := eq_true q241
         (try go_wp2_with ((((with_reducible refine bC (N := 10) rfl ?_); refine bE ?hg (N := 10) ?hd (cs := #[.string (⟨#[]⟩ : ByteArray), .int .i64 0, .int .i64 0, .int .i64 0, .string (⟨#[]⟩ : ByteArray)]) (t := 44) ?hr ?_; (case hd => rfl); (case hg => rfl); (case hr => (go_simp; done)); intro gb242 hg w38 hbox hb; have BK242 := ah.mk (hbox); have GW242 := ah.mk (ge_ hg (ay HB.out)); have GE242 := ah.mk (ge_ hg (ay HB.out)); have NB234_242 := ah.mk (nl_ hg (by ((exact BK234.out)))); have NB242_234 := ah.mk (nr_ hg (by ((exact BK234.out)))); replace HO_5 := ah.mk (Kd.bM (Kd.nT (by ((exact HO_5.out))) gb242 (Nat.le_of_eq hg.symm)) hb); replace HO_31 := ah.mk (Kd.bM (Kd.nT (by ((exact HO_31.out))) gb242 (Nat.le_of_eq hg.symm)) hb); replace BK234 := ah.mk (aD (by ((exact BK234.out))) hb); replace HB := ah.mk (ak HB.out hb); clear hb hbox hg; have hnb39 := NB242_234.out; have hnc39 := NB234_242.out; obtain ⟨hcz40_0, hcz40_1, hcz40_2, hcz40_3, hcz40_4, hfz40_0, hfz40_1, hfz40_2, hfz40_3, hfz40_4⟩ := z5_ BK242.out))))
         have n0_ : ah (Kd.R k44 44 (((((w38.setCell ⟨gb242, 0, none⟩ (.string ((aj x5_1 x33_2).f0))).setCell ⟨gb242, 1, none⟩ (.int .i64 ((aj x5_1 x33_2).f1))).setCell ⟨gb242, 2, none⟩ (.int .i64 ((aj x5_1 x33_2).f2))).setCell ⟨gb242, 3, none⟩ (.int .i64 ((aj x5_1 x33_2).f3))).setCell ⟨gb242, 4, none⟩ (.string ((aj x5_1 x33_2).f4))) w.heap.size (fun k_ => k_ ≠ gb242) (.slice (some ad241) x5_1.length co29) x5_1) := ⟨by (with_reducible repeat ((apply Kd.aM))); exact Kd.bW (Kd.dR (p := ⟨gb242, 4, none⟩) (Kd.dR (p := ⟨gb242, 3, none⟩) (Kd.dR (p := ⟨gb242, 2, none⟩) (Kd.dR (p := ⟨gb242, 1, none⟩) (Kd.dR (p := ⟨gb242, 0, none⟩) (Kd.bW HO_5.out (fun k_ hk => (⟨hk, hk.2⟩ : _ ∧ k_ ≠ gb242))) (fun _ hk => hk.2) (.string ((aj x5_1 x33_2).f0))) (fun _ hk => hk.2) (.int .i64 ((aj x5_1 x33_2).f1))) (fun _ hk => hk.2) (.int .i64 ((aj x5_1 x33_2).f2))) (fun _ hk => hk.2) (.int .i64 ((aj x5_1 x33_2).f3))) (fun _ hk => hk.2) (.string ((aj x5_1 x33_2).f4))) (fun _ hk => hk.1.2)⟩
         have n1_ : ah (Kd.R k44 44 (((((w38.setCell ⟨gb242, 0, none⟩ (.string ((aj x5_1 x33_2).f0))).setCell ⟨gb242, 1, none⟩ (.int .i64 ((aj x5_1 x33_2).f1))).setCell ⟨gb242, 2, none⟩ (.int .i64 ((aj x5_1 x33_2).f2))).setCell ⟨gb242, 3, none⟩ (.int .i64 ((aj x5_1 x33_2).f3))).setCell ⟨gb242, 4, none⟩ (.string ((aj x5_1 x33_2).f4))) w.heap.size (fun k_ => k_ ≠ gb242) (.slice (some ad241) x5_1.length co29) x5_1) := ⟨by (with_reducible repeat ((apply Kd.aM))); exact Kd.bW (Kd.dR (p := ⟨gb242, 4, none⟩) (Kd.dR (p := ⟨gb242, 3, none⟩) (Kd.dR (p := ⟨gb242, 2, none⟩) (Kd.dR (p := ⟨gb242, 1, none⟩) (Kd.dR (p := ⟨gb242, 0, none⟩) (Kd.bW HO_31.out (fun k_ hk => (⟨hk, hk.2⟩ : _ ∧ k_ ≠ gb242))) (fun _ hk => hk.2) (.string ((aj x5_1 x33_2).f0))) (fun _ hk => hk.2) (.int .i64 ((aj x5_1 x33_2).f1))) (fun _ hk => hk.2) (.int .i64 ((aj x5_1 x33_2).f2))) (fun _ hk => hk.2) (.int .i64 ((aj x5_1 x33_2).f3))) (fun _ hk => hk.2) (.string ((aj x5_1 x33_2).f4))) (fun _ hk => hk.1.2)⟩
         have n2_ : ah ((((((w38.setCell ⟨gb242, 0, none⟩ (.string ((aj x5_1 x33_2).f0))).setCell ⟨gb242, 1, none⟩ (.int .i64 ((aj x5_1 x33_2).f1))).setCell ⟨gb242, 2, none⟩ (.int .i64 ((aj x5_1 x33_2).f2))).setCell ⟨gb242, 3, none⟩ (.int .i64 ((aj x5_1 x33_2).f3))).setCell ⟨gb242, 4, none⟩ (.string ((aj x5_1 x33_2).f4))).heap[gb234]? = some (.cells #[.string a0_0, .slice A0_1 l0_1.length c0_1, .int .i64 a0_2] 26 (0, 0))) := ⟨by (with_reducible repeat ((refine av ?_ _))); refine dn ?_ NB234_242.out _; (with_reducible repeat ((refine av ?_ _))); refine dn ?_ NB234_242.out _; (with_reducible repeat ((refine av ?_ _))); refine dn ?_ NB234_242.out _; (with_reducible repeat ((refine av ?_ _))); refine dn ?_ NB234_242.out _; (with_reducible repeat ((refine av ?_ _))); refine dn ?_ NB234_242.out _; (with_reducible repeat ((refine av ?_ _))); exact BK234.out⟩
         have n3_ : ah ((((((w38.setCell ⟨gb242, 0, none⟩ (.string ((aj x5_1 x33_2).f0))).setCell ⟨gb242, 1, none⟩ (.int .i64 ((aj x5_1 x33_2).f1))).setCell ⟨gb242, 2, none⟩ (.int .i64 ((aj x5_1 x33_2).f2))).setCell ⟨gb242, 3, none⟩ (.int .i64 ((aj x5_1 x33_2).f3))).setCell ⟨gb242, 4, none⟩ (.string ((aj x5_1 x33_2).f4))).heap[gb242]? = some (.cells #[.string ((aj x5_1 x33_2).f0), .int .i64 ((aj x5_1 x33_2).f1), .int .i64 ((aj x5_1 x33_2).f2), .int .i64 ((aj x5_1 x33_2).f3), .string ((aj x5_1 x33_2).f4)] 44 (0, 0))) := ⟨by (with_reducible repeat ((refine av ?_ _))); refine aU (cs := #[.string ((aj x5_1 x33_2).f0), .int .i64 ((aj x5_1 x33_2).f1), .int .i64 ((aj x5_1 x33_2).f2), .int .i64 ((aj x5_1 x33_2).f3), .string (⟨#[]⟩ : ByteArray)]) ?_ 4 _ rfl; (with_reducible repeat ((refine av ?_ _))); refine aU (cs := #[.string ((aj x5_1 x33_2).f0), .int .i64 ((aj x5_1 x33_2).f1), .int .i64 ((aj x5_1 x33_2).f2), .int .i64 0, .string (⟨#[]⟩ : ByteArray)]) ?_ 3 _ rfl; (with_reducible repeat ((refine av ?_ _))); refine aU (cs := #[.string ((aj x5_1 x33_2).f0), .int .i64 ((aj x5_1 x33_2).f1), .int .i64 0, .int .i64 0, .string (⟨#[]⟩ : ByteArray)]) ?_ 2 _ rfl; (with_reducible repeat ((refine av ?_ _))); refine aU (cs := #[.string ((aj x5_1 x33_2).f0), .int .i64 0, .int .i64 0, .int .i64 0, .string (⟨#[]⟩ : ByteArray)]) ?_ 1 _ rfl; (with_reducible repeat ((refine av ?_ _))); refine aU (cs := #[.string (⟨#[]⟩ : ByteArray), .int .i64 0, .int .i64 0, .int .i64 0, .string (⟨#[]⟩ : ByteArray)]) ?_ 0 _ rfl; (with_reducible repeat ((refine av ?_ _))); exact BK242.out⟩
         have n4_ : ah (Below w.heap.size w (((((w38.setCell ⟨gb242, 0, none⟩ (.string ((aj x5_1 x33_2).f0))).setCell ⟨gb242, 1, none⟩ (.int .i64 ((aj x5_1 x33_2).f1))).setCell ⟨gb242, 2, none⟩ (.int .i64 ((aj x5_1 x33_2).f2))).setCell ⟨gb242, 3, none⟩ (.int .i64 ((aj x5_1 x33_2).f3))).setCell ⟨gb242, 4, none⟩ (.string ((aj x5_1 x33_2).f4)))) := ⟨by repeat ((with_reducible first | exact HB.out | refine dB ?_ GE242.out))⟩
         (try clear HO_5)
         (try clear HO_31)
         (try clear BK234)
         (try clear BK242)
         (try clear HB)
         generalize (((((w38.setCell ⟨gb242, 0, none⟩ (.string ((aj x5_1 x33_2).f0))).setCell ⟨gb242, 1, none⟩ (.int .i64 ((aj x5_1 x33_2).f1))).setCell ⟨gb242, 2, none⟩ (.int .i64 ((aj x5_1 x33_2).f2))).setCell ⟨gb242, 3, none⟩ (.int .i64 ((aj x5_1 x33_2).f3))).setCell ⟨gb242, 4, none⟩ (.string ((aj x5_1 x33_2).f4))) = w41 at n0_ n1_ n2_ n3_ n4_ ⊢
         have HO_5 := n0_
         have HO_31 := n1_
         have BK234 := n2_
         have BK242 := n3_
         have HB := n4_
         clear n0_ n1_ n2_ n3_ n4_
         replace HO_5 := ah.mk (Kd.gq HO_5.out)
         replace HO_31 := ah.mk (Kd.gq HO_31.out)
         replace BK234 := ah.mk (eX BK234.out)
         replace BK242 := ah.mk (eX BK242.out)
         replace HB := ah.mk (dK HB.out)
         refine fF (n := 15) (ds := []) (ls 15 0) (by kernel_rfl) rfl rfl (c3_ BK234.out (d5_ BK242.out)) (fun hHeld => ?_); refine dQ aT.xg aT.uM (fun HT_ HW_ => ?_)
         generalize w41.drew = w42 at HO_5 HO_31 BK234 BK242 HB hHeld ⊢
         refine td_ [(1, 38), (3, 40), (6, 43), (7, 44), (10, 47)] ?_
         iterate 5 (refine pn_ (v := ?_) (a' := ?_) HT_ rfl rfl (by kernel_rfl) rfl (fun _ _ _ h => h) (fun w' => ?_) ?_ ?_; rotate_left 2; (focus go_simp; with_reducible rfl); (focus simp only [Act.put, sA_, sZ_, sS_, bf, bD]; rfl))
         refine dn_ ?_
         refine td_ [(0, 37), (2, 39), (4, 41), (8, 45), (11, 48)] ?_
         iterate 5 (refine tn_ (v := ?_) (a' := ?_) HT_ HW_ rfl rfl (by kernel_rfl) rfl (fun _ _ _ h => h) hHeld ?_ ?_ ?_; rotate_left 2; (focus rintro w' ⟨s0, s1, s2, s3, s4, s5, s6, s7⟩; go_simp; with_reducible rfl); (focus simp only [Act.put, sA_, sZ_, sS_, bf, bD]; rfl))
         refine dn_ ?_
         refine jE (i := 5) (N := some 42) (ls 15 3583) rfl rfl (fD HT_.out (by kernel_rfl)) (by decide) (fun K hK => ?_)
         refine jU Tryz.func14 (by kernel_rfl) rfl #[.agg #[.string a0_0, .slice A0_1 l0_1.length c0_1, .int .i64 a0_2], .string ((aj x5_1 x33_2).f0), .int .i64 ((aj x5_1 x33_2).f1)] (by rfl) rfl rfl (by (try simp only [mA_, mC_, mN_]); rfl) ?_
         with_reducible refine (gK.calls a0_0 _ _ l0_1 a0_2 ((aj x5_1 x33_2).f0) ((aj x5_1 x33_2).f1) t243 _ ?side1 ?side2 A33.out).mono ?_
         (case side1 => repeat ((exact (Kd.eB HR0_1.out HB.out))))
         (case side2 => exact HC0_1.out)
         rintro e w43 ⟨v244, rfl, ho0, hb⟩
         refine ⟨_, rfl, ?_⟩
         have HO245 := ah.mk (Kd.cO (Kd.uH (Kd.gU (Kd.gU ho0 (Kd.jl (by ((exact HO_5.out))))) (Kd.jl (by ((exact HO_31.out))))) (g := gb242) (o := .cells #[.string ((aj x5_1 x33_2).f0), .int .i64 ((aj x5_1 x33_2).f1), .int .i64 ((aj x5_1 x33_2).f2), .int .i64 ((aj x5_1 x33_2).f3), .string ((aj x5_1 x33_2).f4)] 44 (0, 0)) (by ((exact BK242.out)))) (ay HB.out))
         replace HO_5 := ah.mk (Kd.fq (by ((exact HO_5.out))) (Kd.gT ho0) hb)
         replace HO_31 := ah.mk (Kd.fq (by ((exact HO_31.out))) (Kd.gT ho0) hb)
         replace BK234 := ah.mk (aD (by ((exact BK234.out))) hb)
         replace BK242 := ah.mk (aD (by ((exact BK242.out))) hb)
         replace HB := ah.mk (ak HB.out hb)
         (try clear hb)
         (try clear ho0)
         refine hK.out _ _ (c3_ BK234.out (d5_ BK242.out)) (fun hHeld => ?_)
         clear hK K
         refine iY (a' := ?_) ?_ ?_
         rotate_left
         ·show Act.put _ (some 42) _ = _
          simp only [Act.put, sA_, sZ_, sS_, bf, bD]
          rfl
         refine jE (i := 9) (N := some 46) (ls 15 4095) rfl rfl (fD HT_.out (by kernel_rfl)) (by decide) (fun K hK => ?_)
         refine jU Tryz.func52 (by kernel_rfl) rfl #[.slice (some ad241) x5_1.length co29, .string ((aj x5_1 x33_2).f0)] (by rfl) rfl rfl (by (try simp only [mA_, mC_, mN_]); rfl) ?_
         with_reducible refine (jT.calls _ _ x5_1 ((aj x5_1 x33_2).f0) t246 _ ?side1 ?side2 A34.out).mono ?_
         (case side1 => repeat ((exact (Kd.aI HO_5.out).2.2)))
         (case side2 => exact (Kd.aI HO_5.out).2.1)
         rintro e w44 ⟨v247, rfl, ho0, hb⟩
         refine ⟨_, rfl, ?_⟩
         have HO248 := ah.mk (Kd.cO (Kd.uH (Kd.gU (Kd.gU (Kd.gU ho0 (Kd.jl (by ((exact HO_5.out))))) (Kd.jl (by ((exact HO_31.out))))) (Kd.jl (by ((exact HO245.out))))) (g := gb242) (o := .cells #[.string ((aj x5_1 x33_2).f0), .int .i64 ((aj x5_1 x33_2).f1), .int .i64 ((aj x5_1 x33_2).f2), .int .i64 ((aj x5_1 x33_2).f3), .string ((aj x5_1 x33_2).f4)] 44 (0, 0)) (by ((exact BK242.out)))) (ay HB.out))
         replace HO_5 := ah.mk (Kd.fq (by ((exact HO_5.out))) (Kd.gT ho0) hb)
         replace HO_31 := ah.mk (Kd.fq (by ((exact HO_31.out))) (Kd.gT ho0) hb)
         replace HO245 := ah.mk (Kd.fq (by ((exact HO245.out))) (Kd.gT ho0) hb)
         replace BK234 := ah.mk (aD (by ((exact BK234.out))) hb)
         replace BK242 := ah.mk (aD (by ((exact BK242.out))) hb)
         replace HB := ah.mk (ak HB.out hb)
         (try clear hb)
         (try clear ho0)
         obtain ⟨Ao45, co45, eo45⟩ := Kd.bY HO248.out
         ((subst eo45))
         refine hK.out _ _ (c3_ BK234.out (d5_ BK242.out)) (fun hHeld => ?_)
         clear hK K
         refine iY (a' := ?_) ?_ ?_
         rotate_left
         ·show Act.put _ (some 46) _ = _
          simp only [Act.put, sA_, sZ_, sS_, bf, bD]
          rfl
         refine jE (i := 12) (N := some 49) (ls 15 8191) rfl rfl (fD HT_.out (by kernel_rfl)) (by decide) (fun K hK => ?_)
         refine jU Tryz.func41 (by kernel_rfl) rfl #[.slice Ao45 t246.length co45, .int .i64 ((aj x5_1 x33_2).f1)] (by rfl) rfl rfl (by (try simp only [mA_, mC_, mN_]); rfl) ?_
         with_reducible refine (gZ.calls _ _ t246 ((aj x5_1 x33_2).f1) t249 _ ?side1 ?side2 A35.out).mono ?_
         (case side1 => repeat ((exact (Kd.aI HO248.out).2.2)))
         (case side2 => exact (Kd.aI HO248.out).2.1)
         rintro e w46 ⟨v250, rfl, ho0, hb⟩
         refine ⟨_, rfl, ?_⟩
         have HO251 := ah.mk (Kd.cO (Kd.uH (Kd.gU (Kd.gU (Kd.gU (Kd.gU ho0 (Kd.jl (by ((exact HO_5.out))))) (Kd.jl (by ((exact HO_31.out))))) (Kd.jl (by ((exact HO245.out))))) (Kd.jl (by ((exact HO248.out))))) (g := gb242) (o := .cells #[.string ((aj x5_1 x33_2).f0), .int .i64 ((aj x5_1 x33_2).f1), .int .i64 ((aj x5_1 x33_2).f2), .int .i64 ((aj x5_1 x33_2).f3), .string ((aj x5_1 x33_2).f4)] 44 (0, 0)) (by ((exact BK242.out)))) (ay HB.out))
         replace HO_5 := ah.mk (Kd.fq (by ((exact HO_5.out))) (Kd.gT ho0) hb)
         replace HO_31 := ah.mk (Kd.fq (by ((exact HO_31.out))) (Kd.gT ho0) hb)
         replace HO245 := ah.mk (Kd.fq (by ((exact HO245.out))) (Kd.gT ho0) hb)
         replace HO248 := ah.mk (Kd.fq (by ((exact HO248.out))) (Kd.gT ho0) hb)
         replace BK234 := ah.mk (aD (by ((exact BK234.out))) hb)
         replace BK242 := ah.mk (aD (by ((exact BK242.out))) hb)
         replace HB := ah.mk (ak HB.out hb)
         (try clear hb)
         (try clear ho0)
         obtain ⟨Ao47, co47, eo47⟩ := Kd.bY HO245.out
         ((subst eo47))
         obtain ⟨Ao48, co48, eo48⟩ := Kd.bY HO251.out
         ((subst eo48))
         refine hK.out _ _ (c3_ BK234.out (d5_ BK242.out)) (fun hHeld => ?_)
         clear hK K
         refine iY (a' := ?_) ?_ ?_
         rotate_left
         ·show Act.put _ (some 49) _ = _
          simp only [Act.put, sA_, sZ_, sS_, bf, bD]
          rfl
         refine jE (i := 13) (N := some 50) (ls 15 16383) rfl rfl (fD HT_.out (by kernel_rfl)) (by decide) (fun K hK => ?_)
         refine jU Tryz.func59 (by kernel_rfl) rfl #[.slice Ao47 t243.length co47, .slice Ao48 t249.length co48] (by rfl) rfl rfl (by (try simp only [mA_, mC_, mN_]); rfl) ?_
         with_reducible refine (jD.calls k2 _ _ t243 _ _ t249 _ _ ?side1 ?side2 ?side3 ?side4 A36.out).mono ?_
         (case side1 => repeat ((exact (Kd.aI HO245.out).2.2)))
         (case side2 => exact (Kd.aI HO245.out).2.1)
         (case side3 => repeat ((exact (Kd.aI HO251.out).2.2)))
         (case side4 => exact (Kd.aI HO251.out).2.1)
         rintro e w49 ⟨rfl, hb⟩
         refine ⟨_, rfl, ?_⟩
         replace HO_5 := ah.mk (Kd.bM (by ((exact HO_5.out))) hb)
         replace HO_31 := ah.mk (Kd.bM (by ((exact HO_31.out))) hb)
         replace HO245 := ah.mk (Kd.bM (by ((exact HO245.out))) hb)
         replace HO248 := ah.mk (Kd.bM (by ((exact HO248.out))) hb)
         replace HO251 := ah.mk (Kd.bM (by ((exact HO251.out))) hb)
         replace BK234 := ah.mk (aD (by ((exact BK234.out))) hb)
         replace BK242 := ah.mk (aD (by ((exact BK242.out))) hb)
         replace HB := ah.mk (ak HB.out hb)
         (try clear hb)
         refine hK.out _ _ (c3_ BK234.out (d5_ BK242.out)) (fun hHeld => ?_)
         clear hK K
         refine iY (a' := ?_) ?_ ?_
         rotate_left
         ·show Act.put _ (some 50) _ = _
          simp only [Act.put, sA_, sZ_, sS_, bf, bD]
          rfl
         refine td_ [(14, 51)] ?_
         iterate 1 (refine pn_ (v := ?_) (a' := ?_) HT_ rfl rfl (by kernel_rfl) rfl (fun _ _ _ h => h) (fun w' => ?_) ?_ ?_; rotate_left 2; (focus go_simp; with_reducible rfl); (focus simp only [Act.put, sA_, sZ_, sS_, bf, bD]; rfl))
         refine dn_ ?_
         refine ji (gW HT_.out (by kernel_rfl)) ?_
         (try go_wp2)
        ·go_roundg k2
         case measure => have := HK1.out; have := HK2.out; omega
         case rel => exact ⟨(wrap64 (x33_2 + 1)), (by rfl), H', ⟨by have := HK1.out; have := HK2.out; omega⟩, ⟨by (with_reducible repeat ((apply Kd.aM))); exact Kd.bW HO_5.out (fun _ hk => trivial)⟩, ⟨by (with_reducible repeat ((apply Kd.aM))); exact Kd.bW HO_31.out (fun _ hk => trivial)⟩, ⟨by (with_reducible repeat ((refine av ?_ _))); exact BK234.out⟩, ⟨HB.out⟩⟩
        ·go_ret
         exact ⟨by rfl, HB.out⟩
       ·rw [if_neg c30] at H
        have c30b0 : decide (x33_2 < (x5_1.length : Int)) = false := decide_eq_false c30
        clear c30
        obtain rfl := Option.some.inj H
        go_wp2
        go_ret
        exact ⟨by rfl, HB.out⟩
end Go.Y.PZh
namespace Go.Y.PZh
open Go.RowKit Go.V.aC Go.V.aK Go.V.aQ Go.Y.Given Go.Y.PRd Go.Y.PRr Go.Y.PZo Go.Y.PZf Go.Y.PZe
attribute [local go_sem] dA dx dJ dI bV bU dz dw   -- for this text's walks alone
def je.T5 : Bool × List (List Nat × List Nat) := (true, [([], []), ([], []), ([1], [1]), ([0, 2], [0, 2]), ([], []), ([], []), ([5], [5]), ([], []), ([7], [7]), ([4, 6, 8, 3], [4, 6, 8]), ([9], [9]), ([10], [10]), ([3, 9, 0, 1, 2, 3], [3]), ([11, 12, 0, 1, 2, 3, 4, 5, 6, 7, 8, 9, 10, 11, 12], [11])])
def je.B5 : List Nat := [0, 0, 2, 7, 0, 0, 32, 0, 128, 511, 1023, 2047, 1023, 8191]
theorem je.qJ : eH .any (opsOf Tryz.f60 5) = je.T5 := by kernel_rfl
theorem je.oD : eD je.T5.2 je.B5 = true := by kernel_rfl
end Go.Y.PZh
namespace Go.Y.PZh
open Go.RowKit Go.V.aC Go.V.aK Go.V.aQ Go.Y.Given Go.Y.PRd Go.Y.PRr Go.Y.PZo Go.Y.PZf Go.Y.PZe
attribute [local go_sem] dA dx dJ dI bV bU dz dw   -- for this text's walks alone
def iK.T14 : Bool × List (List Nat × List Nat) := (true, [([], []), ([], []), ([], []), ([1, 2], [1, 2]), ([3], [3]), ([4], [4]), ([0, 5], [0, 5]), ([], []), ([], []), ([7, 8], [7, 8]), ([9], [9]), ([10], [10]), ([6, 11, 6], [6, 11]), ([12, 12, 0, 1, 2, 3, 4, 5, 6, 7, 8, 9, 10, 11, 12], [12])])
def iK.B14 : List Nat := [0, 0, 0, 6, 14, 30, 63, 0, 0, 384, 896, 1920, 4095, 8191]
theorem iK.xg : eH .any (opsOf Tryz.f25 14) = iK.T14 := by kernel_rfl
theorem iK.uM : eD iK.T14.2 iK.B14 = true := by kernel_rfl
end Go.Y.PZh
namespace Go.Y.PZh
open Go.RowKit Go.V.aC Go.V.aK Go.V.aQ Go.Y.Given Go.Y.PRd Go.Y.PRr Go.Y.PZo Go.Y.PZf Go.Y.PZe
attribute [local go_sem] dA dx dJ dI bV bU dz dw   -- for this text's walks alone
noncomputable def dO.f (k : Nat)  : Option (Bool) := (iJ.f).bind fun t253 => ((bK.f k (⟨#[1, 97, 0]⟩ : ByteArray) t253).bind fun bt256 => (if bt256.2.2.2 = 0 then ((jf.f bt256.1 bt256.2.1 bt256.2.2.1).bind fun t263 => (if (t263.length : Int) = 2 then ((aT.f k bt256.1 bt256.2.1 bt256.2.2.1 (([(⟨(⟨#[1, 98, 1, 97, 0]⟩ : ByteArray), 255, 255, 0, (⟨#[]⟩ : ByteArray)⟩ : S44)] : List (S44)))).bind fun t269 => (some (t269 == 3))) else (none))) else (none)))
theorem dO.calls (k : Nat)  (r : Bool) (w : World) (h : dO.f k  = some r) :
  Calls Tryz.prog 22 #[] w fun e w' => e = .returned (.bool r) ∧ Below w.heap.size w w' := by
 have hu26 := Tryz.underlying26
 have hu44 := Tryz.underlying44
 have HB := ah.mk (Below.refl w.heap.size w)
 have H : ((iJ.f).bind fun t253 => ((bK.f k (⟨#[1, 97, 0]⟩ : ByteArray) t253).bind fun bt256 => (if bt256.2.2.2 = 0 then ((jf.f bt256.1 bt256.2.1 bt256.2.2.1).bind fun t263 => (if (t263.length : Int) = 2 then ((aT.f k bt256.1 bt256.2.1 bt256.2.2.1 (([(⟨(⟨#[1, 98, 1, 97, 0]⟩ : ByteArray), 255, 255, 0, (⟨#[]⟩ : ByteArray)⟩ : S44)] : List (S44)))).bind fun t269 => (some (t269 == 3))) else (none))) else (none)))) = some r := h
 clear h
 obtain ⟨t253, A1, H⟩ := bQ H
 replace H := Option.bind_eq_some_iff.mp H
 obtain ⟨⟨t256, t257, t260, t261⟩, A20, H⟩ := H
 replace H : (if t261 = 0 then ((jf.f t256 t257 t260).bind fun t263 => (if (t263.length : Int) = 2 then ((aT.f k t256 t257 t260 (([(⟨(⟨#[1, 98, 1, 97, 0]⟩ : ByteArray), 255, 255, 0, (⟨#[]⟩ : ByteArray)⟩ : S44)] : List (S44)))).bind fun t269 => (some (t269 == 3))) else (none))) else (none)) = some r := H
 have A2 := ah.mk A20
 clear A20
 obtain ⟨c3, H⟩ := gd_ H
 have c3b0 : (t261 == 0) = true := beq_iff_eq.mpr c3
 have c3b1 : (t261 != 0) = false := bne_eq_false_iff_eq.mpr c3
 clear c3
 obtain ⟨t263, A4, H⟩ := bQ H
 obtain ⟨c5, H⟩ := gd_ H
 have c5b0 : ((t263.length : Int) == 2) = true := beq_iff_eq.mpr c5
 have c5b1 : ((t263.length : Int) != 2) = false := bne_eq_false_iff_eq.mpr c5
 clear c5
 obtain ⟨y266, hy266⟩ : ∃ y_ : List (S44), y_ = (([(⟨(⟨#[1, 98, 1, 97, 0]⟩ : ByteArray), 255, 255, 0, (⟨#[]⟩ : ByteArray)⟩ : S44)] : List (S44))) := ⟨_, rfl⟩
 replace H : ((aT.f k t256 t257 t260 y266).bind fun t269 => (some (t269 == 3))) = some r := by (rw [hy266]; with_reducible exact H)
 have Ny266 := ah.mk hy266
 clear hy266
 obtain ⟨t269, A6, H⟩ := bQ H
 obtain rfl := Option.some.inj H
 go_enter Tryz.func22, Tryz.ntmps22
 go_wp2_with (first | ((with_reducible refine bO (f := 35) rfl ?_); refine dX (some 4) rfl rfl Tryz.func35 (by kernel_rfl) rfl #[] rfl (by (try simp only [List.map_toArray, List.map_cons, List.map_nil]); done) ?_; (with_reducible refine (iJ.calls  t253 _ A1.out).mono ?_); rintro e w7 ⟨v254, rfl, ho0, hb⟩; refine ⟨_, rfl, ?_⟩; have HO255 := ah.mk (Kd.cO ho0 (ay HB.out)); replace HB := ah.mk (ak HB.out hb); (try clear hb); (try clear ho0); obtain ⟨Ao8, co8, eo8⟩ := Kd.bY HO255.out; subst eo8) | ((with_reducible refine bO (f := 11) rfl ?_); refine dX (some 5) rfl rfl Tryz.func11 (by kernel_rfl) rfl #[.string (⟨#[1, 97, 0]⟩ : ByteArray), .slice Ao8 t253.length co8] rfl (by (try simp only [mA_, mC_, mN_]); rfl) ?_; (with_reducible refine (bK.calls k (⟨#[1, 97, 0]⟩ : ByteArray) _ _ t253 t256 t257 t260 t261 _ ?side1 ?side2 A2.out).mono ?_); (case side1 => repeat ((exact (Kd.aI HO255.out).2.2))); (case side2 => exact (Kd.aI HO255.out).2.1); rintro e w9 ⟨v258, rfl, ho0, hb⟩; refine ⟨_, rfl, ?_⟩; have HO259 := ah.mk (Kd.cO (Kd.gU ho0 (Kd.jl (by ((exact HO255.out))))) (ay HB.out)); replace HO255 := ah.mk (Kd.fq (by ((exact HO255.out))) (Kd.gT ho0) hb); replace HB := ah.mk (ak HB.out hb); (try clear hb); (try clear ho0)) | ((with_reducible refine bC (N := 1) rfl ?_); (try (refine eZ (by rfl) ?_; dsimp only)); refine bE ?hg (N := 1) ?hd (cs := #[.string (⟨#[]⟩ : ByteArray), .slice none 0 0, .int .i64 0]) (t := 26) ?hr ?_; (case hd => rfl); (case hg => rfl); (case hr => (go_simp; done)); intro gb262 hg w10 hbox hb; have BK262 := ah.mk (hbox); have GW262 := ah.mk (ge_ hg (ay HB.out)); have GE262 := ah.mk (ge_ hg (ay HB.out)); replace HO255 := ah.mk (Kd.bM (by ((exact HO255.out))) hb); replace HO259 := ah.mk (Kd.bM (by ((exact HO259.out))) hb); replace HB := ah.mk (ak HB.out hb); clear hb hbox hg; obtain ⟨hcz11_0, hcz11_1, hcz11_2, hfz11_0, hfz11_1, hfz11_2⟩ := z3_ BK262.out; obtain ⟨Ao12, co12, eo12⟩ := Kd.bY HO259.out; subst eo12) | (go_at_call 29; (with_reducible refine (jf.calls t256 _ _ t257 t260 t263 _ ?side1 ?side2 A4.out).mono ?_); (case side1 => refine (Kd.aI (e := 44) (base := w.heap.size) (ok := fun k_ => (True ∧ some k_ ≠ (.slice Ao8 t253.length co8 : Value).ownBlock)) (n := t257.length) (c := co12) ?_).2.2; exact (by (with_reducible repeat ((apply Kd.aM))); exact (Kd.bW (Kd.dR (p := ⟨gb262, 2, none⟩) (Kd.dR (p := ⟨gb262, 1, none⟩) (Kd.dR (p := ⟨gb262, 0, none⟩) (Kd.kZ HO259.out BK262.out (by decide)) (fun _ hk => hk.2) (.string t256)) (fun _ hk => hk.2) (.slice Ao12 t257.length co12)) (fun _ hk => hk.2) (.int .i64 t260)) (fun _ h_ => h_.1)))); (case side2 => exact (Kd.aI HO259.out).2.1); rintro e w13 ⟨v264, rfl, ho0, hb⟩; have HO265 := ah.mk (Kd.cO (Kd.gU (Kd.gU ho0 (Kd.jl (by (with_reducible repeat ((apply Kd.aM))); exact (Kd.bW (Kd.dR (p := ⟨gb262, 2, none⟩) (Kd.dR (p := ⟨gb262, 1, none⟩) (Kd.dR (p := ⟨gb262, 0, none⟩) (Kd.kZ HO255.out BK262.out (by decide)) (fun _ hk => hk.2) (.string t256)) (fun _ hk => hk.2) (.slice Ao12 t257.length co12)) (fun _ hk => hk.2) (.int .i64 t260)) (fun _ h_ => h_.1))))) (Kd.jl (by (with_reducible repeat ((apply Kd.aM))); exact (Kd.bW (Kd.dR (p := ⟨gb262, 2, none⟩) (Kd.dR (p := ⟨gb262, 1, none⟩) (Kd.dR (p := ⟨gb262, 0, none⟩) (Kd.kZ HO259.out BK262.out (by decide)) (fun _ hk => hk.2) (.string t256)) (fun _ hk => hk.2) (.slice Ao12 t257.length co12)) (fun _ hk => hk.2) (.int .i64 t260)) (fun _ h_ => h_.1))))) (ay (by repeat ((with_reducible first | exact HB.out | refine dB ?_ GE262.out))))); replace HO255 := ah.mk (Kd.fq (by (with_reducible repeat ((apply Kd.aM))); exact (Kd.bW (Kd.dR (p := ⟨gb262, 2, none⟩) (Kd.dR (p := ⟨gb262, 1, none⟩) (Kd.dR (p := ⟨gb262, 0, none⟩) (Kd.kZ HO255.out BK262.out (by decide)) (fun _ hk => hk.2) (.string t256)) (fun _ hk => hk.2) (.slice Ao12 t257.length co12)) (fun _ hk => hk.2) (.int .i64 t260)) (fun _ h_ => h_.1))) (Kd.gT ho0) hb); replace HO259 := ah.mk (Kd.fq (by (with_reducible repeat ((apply Kd.aM))); exact (Kd.bW (Kd.dR (p := ⟨gb262, 2, none⟩) (Kd.dR (p := ⟨gb262, 1, none⟩) (Kd.dR (p := ⟨gb262, 0, none⟩) (Kd.kZ HO259.out BK262.out (by decide)) (fun _ hk => hk.2) (.string t256)) (fun _ hk => hk.2) (.slice Ao12 t257.length co12)) (fun _ hk => hk.2) (.int .i64 t260)) (fun _ h_ => h_.1))) (Kd.gT ho0) hb); replace BK262 := ah.mk (aD (g := gb262) (o := .cells #[.string t256, .slice Ao12 t257.length co12, .int .i64 t260] 26 (0, 0)) (by (with_reducible repeat ((refine av ?_ _))); refine aU (cs := #[.string t256, .slice Ao12 t257.length co12, .int .i64 0]) ?_ 2 _ rfl; (with_reducible repeat ((refine av ?_ _))); refine aU (cs := #[.string t256, .slice none 0 0, .int .i64 0]) ?_ 1 _ rfl; (with_reducible repeat ((refine av ?_ _))); refine aU (cs := #[.string (⟨#[]⟩ : ByteArray), .slice none 0 0, .int .i64 0]) ?_ 0 _ rfl; (with_reducible repeat ((refine av ?_ _))); exact BK262.out) hb); replace HB := ah.mk (ak (by repeat ((with_reducible first | exact HB.out | refine dB ?_ GE262.out))) hb); (try clear hb); (try clear ho0); obtain ⟨Ao14, co14, eo14⟩ := Kd.bY HO265.out; subst eo14; obtain ⟨hcz15_0, hcz15_1, hcz15_2, hfz15_0, hfz15_1, hfz15_2⟩ := z3_ BK262.out) | ((with_reducible refine bC (N := 19) rfl ?_); (try (refine eZ (by rfl) ?_; dsimp only)); refine Kd.kU k44 _ 44 ?hg (N := 19) ?hd (xs := ([(⟨(⟨#[1, 98, 1, 97, 0]⟩ : ByteArray), 255, 255, 0, (⟨#[]⟩ : ByteArray)⟩ : S44)] : List (S44))) (inner := [.string (⟨#[1, 98, 1, 97, 0]⟩ : ByteArray), .int .i64 255, .int .i64 255, .int .i64 0, .string (⟨#[]⟩ : ByteArray)]) (ok := fun _ => True) (okp := fun _ => True) ?hr ?hp (fun _ hk => hk) trivial (Below.refl _ _) (Nat.le_refl _) (by simp) ?_; (case hd => rfl); (case hg => rfl); (case hr => (go_simp; done)); (case hp => exact (bG.c5 (show Kd.M k44 _ _ _ (⟨(⟨#[1, 98, 1, 97, 0]⟩ : ByteArray), 255, 255, 0, (⟨#[]⟩ : ByteArray)⟩ : S44) [.string (⟨#[1, 98, 1, 97, 0]⟩ : ByteArray), .int .i64 255, .int .i64 255, .int .i64 0, .string (⟨#[]⟩ : ByteArray)] from (iB _ _ _ (⟨(⟨#[1, 98, 1, 97, 0]⟩ : ByteArray), 255, 255, 0, (⟨#[]⟩ : ByteArray)⟩ : S44) )) (bG.none _ _))); intro v267 w16 ho17 hb hg_ hnew_; clear hg_ hnew_; ((rw [← Ny266.out] at ho17)); have HO268 := ah.mk (Kd.cO (Kd.gU (Kd.gU (Kd.gU ho17 (Kd.jl (by ((exact HO255.out))))) (Kd.jl (by ((exact HO259.out))))) (Kd.jl (by ((exact HO265.out))))) (ay HB.out)); replace HO255 := ah.mk (Kd.fq (by ((exact HO255.out))) (Kd.gT ho17) hb); replace HO259 := ah.mk (Kd.fq (by ((exact HO259.out))) (Kd.gT ho17) hb); replace HO265 := ah.mk (Kd.fq (by ((exact HO265.out))) (Kd.gT ho17) hb); replace BK262 := ah.mk (aD (by ((exact BK262.out))) hb); replace HB := ah.mk (ak HB.out hb); clear hb ho17; obtain ⟨Ao18, co18, eo18⟩ := Kd.bY HO268.out; subst eo18) | (go_at_call 24; (with_reducible refine (aT.calls k t256 _ _ t257 t260 _ _ y266 t269 _ ?side1 ?side2 ?side3 ?side4 A6.out).mono ?_); (case side1 => repeat ((exact (Kd.aI HO259.out).2.2))); (case side2 => exact (Kd.aI HO259.out).2.1); (case side3 => repeat ((exact (Kd.aI HO268.out).2.2))); (case side4 => exact (Kd.aI HO268.out).2.1); rintro e w19 ⟨rfl, hb⟩; replace HO255 := ah.mk (Kd.bM (by ((exact HO255.out))) hb); replace HO259 := ah.mk (Kd.bM (by ((exact HO259.out))) hb); replace HO265 := ah.mk (Kd.bM (by ((exact HO265.out))) hb); replace HO268 := ah.mk (Kd.bM (by ((exact HO268.out))) hb); replace BK262 := ah.mk (aD (by ((exact BK262.out))) hb); replace HB := ah.mk (ak HB.out hb); (try clear hb)))
 go_ret
 exact ⟨by rfl, HB.out⟩
mutual
noncomputable def aN.l0 : Nat → List (S44) → Int → Option (Bool)
 | 0, _, _ => none
 | k + 1, x0, x3 => if x3 < (x0.length : Int) then (aN.j1 k x0 x3 (decide (x3 < 40))) else (aN.j1 k x0 x3 false)
noncomputable def aN.j1 : Nat → List (S44) → Int → Bool → Option (Bool)
 | 0, _, _, _ => none
 | k + 1, x0, x3, x11 => if x11 = true then (if 0 ≤ x3 then (if x3 < (x0.length : Int) then (if (((aj x0 x3).f4).size : Int) > 2000 then (some false) else ((aZ.f k ((aj x0 x3).f0) ((aj x0 x3).f1) ((aj x0 x3).f2) ((aj x0 x3).f3) ((aj x0 x3).f4)).bind fun t272 => (if t272 = true then (aN.l0 k x0 (wrap64 (x3 + 1))) else (some false)))) else (none)) else (none)) else (some (decide ((x0.length : Int) ≤ 30)))
end
noncomputable def aN.f (k : Nat) (l0 : List (S44)) : Option (Bool) := aN.l0 k l0 0
theorem aN.calls (k : Nat) (A0 : Option Addr) (c0 : Nat) (l0 : List (S44)) (r : Bool) (w : World) (hr0 : Kd.C k44 w A0 l0.length l0) (hc0 : l0.length ≤ c0) (h : aN.f k l0 = some r) :
    Calls Tryz.prog 23 #[.slice A0 l0.length c0] w fun e w' => e = .returned (.bool r) ∧ Below w.heap.size w w' := by
  have hu44 := Tryz.underlying44
  have HR0 := ah.mk hr0
  have HC0 := ah.mk hc0
  clear hr0 hc0
  have HB := ah.mk (Below.refl w.heap.size w)
  have H : (aN.l0 k l0 0) = some r := h
  clear h
  have H' := ah.mk H
  clear H
  go_enter Tryz.func23, Tryz.ntmps23
  go_wp2
  go_loopg [3] k (fun kq v3 w' => ∃ (x3_1 : Int), v3 = .int .i64 x3_1 ∧ ah (aN.l0 kq l0 x3_1 = some r) ∧ ah (kq ≤ k) ∧ ah (Below w.heap.size w w'))
  case atStart => exact ⟨(0), (by rfl), H', ⟨Nat.le_refl _⟩, ⟨HB.out⟩⟩
  case round =>
   clear H'
   obtain ⟨x3_1, rfl, HA, HK1, HB⟩ := hrel
   cases gk with
   | zero => exact absurd HA.out (by simp [aN.l0])
   | succ k1 =>
    have H := HA.out
    clear HA
    simp only [aN.l0] at H
    have HC2 := ah.mk H
    clear H
    go_upto_region 2 with (fail)
    go_cut [11] (fun v11 wc => ∃ (kq : Nat) (x11_1 : Bool), v11 = .bool x11_1 ∧ ah (aN.j1 kq l0 x3_1 x11_1 = some r) ∧ ah (kq ≤ k1) ∧ ah (Below w.heap.size w wc))
    case first =>
     have H := HC2.out
     clear HC2
     by_cases c3 : x3_1 < (l0.length : Int)
     focus
      rw [if_pos c3] at H
      have c3b0 : decide (x3_1 < (l0.length : Int)) = true := decide_eq_true c3
     rotate_left
     focus
      rw [if_neg c3] at H
      have c3b0 : decide (x3_1 < (l0.length : Int)) = false := decide_eq_false c3
     rotate_left
     all_goals
      clear c3
      (skip)
      have H' := ah.mk H
      clear H
      go_wp2
      go_meet
     ·case rel => exact ⟨_, (decide (x3_1 < 40)), (by rfl), H', ⟨by have := HK1.out; omega⟩, ⟨HB.out⟩⟩
     ·case rel => exact ⟨_, (false), (by rfl), H', ⟨by have := HK1.out; omega⟩, ⟨HB.out⟩⟩
    case rest =>
     clear HC2
     obtain ⟨kq, x11_1, rfl, HA, HJ1, HB⟩ := hcut
     cases kq with
     | zero => exact absurd HA.out (by simp [aN.j1])
     | succ kj1 =>
      have H := HA.out
      clear HA
      simp only [aN.j1] at H
      by_cases c4 : x11_1 = true
      ·subst c4
       rw [if_pos rfl] at H
       obtain ⟨c5b0, H⟩ := dH H
       obtain ⟨c6b0, H⟩ := dH H
       by_cases c7 : (((aj l0 x3_1).f4).size : Int) > 2000
       focus
        rw [if_pos c7] at H
        have c7b0 : decide (2000 < (((aj l0 x3_1).f4).size : Int)) = true := decide_eq_true c7
        have c7b1 : decide (2000 < ((aj l0 x3_1).f4).size) = true := decide_eq_true (by omega)
        clear c7
        obtain rfl := Option.some.inj H
       rotate_left
       focus
        rw [if_neg c7] at H
        have c7b0 : decide (2000 < (((aj l0 x3_1).f4).size : Int)) = false := decide_eq_false c7
        have c7b1 : decide (2000 < ((aj l0 x3_1).f4).size) = false := decide_eq_false (by omega)
        clear c7
        obtain ⟨t272, A8, H⟩ := bQ H
        by_cases c9 : t272 = true
        focus
         subst c9
         rw [if_pos rfl] at H
         have H' := ah.mk H
         clear H
        rotate_left
        focus
         replace c9 := Bool.eq_false_iff.mpr c9
         subst c9
         rw [if_neg ff_] at H
         obtain rfl := Option.some.inj H
        rotate_left
       rotate_left 2
       all_goals
        have p270 : 0 ≤ (x3_1 : Int) := of_decide_eq_true (by assumption)
        have q270 : x3_1 < (l0.length : Int) := of_decide_eq_true (by assumption)
        obtain ⟨ad270, e270, hx270_0, hx270_1, hx270_2, hx270_3, hx270_4⟩ := dN HR0.out x3_1 p270 q270
        cases e270
        replace hx270_0 := kp_ HB.out hx270_0
        replace hx270_1 := kp_ HB.out hx270_1
        replace hx270_2 := kp_ HB.out hx270_2
        replace hx270_3 := kp_ HB.out hx270_3
        replace hx270_4 := kp_ HB.out hx270_4
        replace p270 := eq_true p270
        replace q270 := eq_true q270
       ·go_wp2
        go_ret
        exact ⟨by rfl, HB.out⟩
       all_goals
        have p271 : 0 ≤ (x3_1 : Int) := of_decide_eq_true (by assumption)
        have q271 : x3_1 < (l0.length : Int) := of_decide_eq_true (by assumption)
        obtain ⟨ad271, e271, hx271_0, hx271_1, hx271_2, hx271_3, hx271_4⟩ := dN HR0.out x3_1 p271 q271
        obtain rfl : ad270 = ad271 := (by injection e271)
        replace hx271_0 := kp_ HB.out hx271_0
        replace hx271_1 := kp_ HB.out hx271_1
        replace hx271_2 := kp_ HB.out hx271_2
        replace hx271_3 := kp_ HB.out hx271_3
        replace hx271_4 := kp_ HB.out hx271_4
        replace p271 := eq_true p271
        replace q271 := eq_true q271
        go_wp2_with (((go_at_call 48; (with_reducible refine (aZ.calls kj1 ((aj l0 x3_1).f0) ((aj l0 x3_1).f1) ((aj l0 x3_1).f2) ((aj l0 x3_1).f3) ((aj l0 x3_1).f4) _ _ A8.out).mono ?_); rintro e w10 ⟨rfl, hb⟩; replace HB := ah.mk (ak HB.out hb); (try clear hb))))
       ·go_roundg kj1
        case measure => have := HK1.out; have := HJ1.out; omega
        case rel => exact ⟨(wrap64 (x3_1 + 1)), (by rfl), H', ⟨by have := HK1.out; have := HJ1.out; omega⟩, ⟨HB.out⟩⟩
       ·go_ret
        exact ⟨by rfl, HB.out⟩
      ·replace c4 := Bool.eq_false_iff.mpr c4
       subst c4
       rw [if_neg ff_] at H
       obtain rfl := Option.some.inj H
       go_wp2
       go_ret
       exact ⟨by rfl, HB.out⟩
end Go.Y.PZh
namespace Go.Y.Rrs
open Go.RowKit Go.V.aC Go.V.aK Go.V.aQ Go.Y.Given Go.Y.PRd Go.Y.PRr Go.Y.PZo Go.Y.PZf Go.Y.PZh Go.Y.Oct Go.Y.Name Go.Y.Cmp Go.Y.fC Go.Y.eO Go.Y.gH
open Classical in
theorem Io (x y : RR) (hx : fine x) (hy : fine y) : fU.f x.f0 x.f1 x.f2 x.f3 x.f4 y.f0 y.f1 y.f2 y.f3 y.f4 = some (decide (aW x y = 0)) := by
 have hz := Ar x y
 have ha := rH hx.1 hy.1
 unfold fU.f
 rw [kK, Option.bind_some, uI x hx.2, uI y hy.2]
 simp only [Option.bind_some]
 by_cases h0 : iN x = iN y
 ·rw [ha.mpr h0]
  by_cases h1 : x.f1 = y.f1
  ·by_cases h2 : x.f2 = y.f2
   ·rw [if_pos rfl, if_pos h1, if_pos h2]
    congr 1
    by_cases h3 : (kW x).toList = (kW y).toList
    ·rw [decide_eq_true (hz.mpr ⟨h0, h1, h2, h3⟩), h3, beq_self_eq_true]
    ·rw [decide_eq_false (fun e => h3 (hz.mp e).2.2.2)]
     exact beq_eq_false_iff_ne.mpr h3
   ·rw [if_pos rfl, if_pos h1, if_neg h2, decide_eq_false (fun e => h2 (hz.mp e).2.2.1)]
  ·rw [if_pos rfl, if_neg h1, decide_eq_false (fun e => h1 (hz.mp e).2.1)]
 ·rw [Bool.eq_false_iff.mpr (fun e => h0 (ha.mp e)), if_neg (by decide), decide_eq_false (fun e => h0 (hz.mp e).1)]
open Classical in
noncomputable def pQ : List RR → List RR → Bool
 | [], [] => true
 | x :: u, y :: v => decide (aW x y = 0) && pQ u v
 | _, _ => false
theorem DL (u v : List RR) (hu : ∀ y ∈ u, fine y) (hv : ∀ y ∈ v, fine y) (hl : u.length = v.length) (hn : u.length ≤ 1000000) : ∀ (d i : Nat), u.length ≤ i + d → i ≤ u.length → Ev (fun k => iV.l0 k v u (u.length : Int) (i : Int)) (pQ (u.drop i) (v.drop i)) := by
 have hend : ∀ i : Nat, u.length ≤ i → Ev (fun k => iV.l0 k v u (u.length : Int) (i : Int)) (pQ (u.drop i) (v.drop i)) := by
  intro i hd
  refine Ev.step (f := fun _ => some true) (fun k => by rw [iV.l0]; rw [if_neg (by omega)]) ?_
  rw [List.drop_of_length_le hd, List.drop_of_length_le (by omega), pQ]
  exact Ev.now _
 intro d
 induction d with
 | zero => exact fun i hd _ => hend i (by omega)
 | succ d ih =>
  intro i hd hi0
  by_cases hi : i < u.length
  ·have e1 : wrap64 ((i : Int) + 1) = ((i + 1 : Nat) : Int) := by unfold wrap64; omega
   have hs : ∀ k, iV.l0 (k + 1) v u (u.length : Int) (i : Int) = (fU.f (rdR u (i : Int)).f0 (rdR u (i : Int)).f1 (rdR u (i : Int)).f2 (rdR u (i : Int)).f3 (rdR u (i : Int)).f4 (rdR v (i : Int)).f0 (rdR v (i : Int)).f1 (rdR v (i : Int)).f2 (rdR v (i : Int)).f3 (rdR v (i : Int)).f4).bind fun t => if t = true then iV.l0 k v u (u.length : Int) ((i + 1 : Nat) : Int) else some false := fun k => by
    rw [iV.l0, e1]; rw [if_pos (by omega), if_pos (by omega), if_pos (by omega), if_pos (by omega)]
   rw [dZ u i hi, dZ v i (by omega)] at hs
   refine Ev.step hs (Ev.bind (Ev.const (Io _ _ (hu _ (List.getElem_mem _)) (hv _ (List.getElem_mem _)))) ?_)
   rw [List.drop_eq_getElem_cons hi, List.drop_eq_getElem_cons (show i < v.length by omega), pQ]
   by_cases h : aW u[i] v[i] = 0
   ·simp only [h, decide_true, if_true, Bool.true_and]; exact ih (i + 1) (by omega) (by omega)
   ·simp only [h, decide_false, Bool.false_eq_true, if_false, Bool.false_and]; exact Ev.now _
  ·exact hend i (by omega)
theorem yc : ∀ (u v : List RR), ¬ u.length = v.length → pQ u v = false
 | [], [], h => absurd rfl h
 | [], _ :: _, _ => rfl
 | _ :: _, [], _ => rfl
 | x :: u, y :: v, h => by rw [pQ, yc u v (fun e => h (by simp [e])), Bool.and_false]
theorem Hw (u v : List RR) (z : Int) (hu : ∀ y ∈ u, fine y) (hv : ∀ y ∈ v, fine y) (hn : u.length ≤ 1000000) : Ev (fun k => iV.f k u v z) (pQ u v) := by
 unfold iV.f
 by_cases h : u.length = v.length
 ·simp only [show ((u.length : Int) = (v.length : Int)) = True from eq_true (by omega), if_true]
  have := DL u v hu hv h hn u.length 0 (by omega) (Nat.zero_le _)
  rw [List.drop_zero, List.drop_zero] at this
  exact this
 ·simp only [show ((u.length : Int) = (v.length : Int)) = False from eq_false (by omega), if_false]
  rw [yc u v h]
  exact Ev.now _
noncomputable def xG (u v : List RR) : Bool := pQ (ofL aW u) (ofL aW v)
theorem Ij (l : List RR) : (ofL aW l).length ≤ l.length := by have := rR l [] List.Pairwise.nil; unfold ofL; simpa using this
theorem Ec (u v : List RR) (hu : ∀ y ∈ u, fine y) (hv : ∀ y ∈ v, fine y) (nu : u.length ≤ 100000) (nv : v.length ≤ 100000) : Ev (fun k => jD.f k u v) (xG u v) := by
 unfold jD.f
 simp only [EY hu (show u.length ≤ 1000000 by omega), EY hv (show v.length ≤ 1000000 by omega), Option.bind_some]
 refine Ev.bind (Hw _ _ _ (pW hu nu).all (pW hv nv).all ?_) (Ev.now _)
 have := Ij u; omega
def mq (a : ByteArray) (s : List RR) (r : RR) : Int :=
 if r.f3 = 0 then (if nU r.f0 a = true then (if r.f2 = 1 then (if rV r.f1 = true then 0 else 1)
  else if r.f2 = 255 then (if r.f4.toList = [] then (if r.f1 = 255 then (if jF s r.f0 = true then 0 else 3) else if (iF s r.f0 r.f1).length = 0 then 8 else 0) else 1)
  else if r.f2 = 254 then (if r.f4.toList = [] then (if r.f1 = 255 then (if jF s r.f0 = true then 6 else 0) else if (iF s r.f0 r.f1).length = 0 then 0 else 7) else 1)
  else 1) else 10) else 1
theorem zF (b : Bool) (c : Int) : eY.f b c = some (if b = true then c else 0) := by unfold eY.f; split <;> rfl
theorem nil_eq (n : Nat) : (((n : Int)) == 0) = decide (n = 0) := by
 by_cases h : n = 0
 ·rw [h]; rfl
 ·rw [decide_eq_false h, beq_eq_false_iff_ne]; omega
theorem EF (a : ByteArray) (s : List RR) (z : Int) (r : RR) (hn : s.length ≤ 1000000) : Ev (fun k => dF.f k a s z r.f0 r.f1 r.f2 r.f3 r.f4) (mq a s r) := by
 unfold dF.f mq jC.f
 simp only [Option.bind_some]
 by_cases h3 : r.f3 = 0
 ·simp only [if_pos h3]
  refine Ev.bind (DF _ _) ?_
  cases nU r.f0 a
  ·simp only [Bool.false_eq_true, if_false]; exact Ev.now _
  ·simp only [if_true]
   unfold eF.f
   simp only [Gq a s z r.f0 hn, Ai a s z r.f0 r.f1 hn, Option.bind_some, nil_eq]
   by_cases h1 : r.f2 = 1
   ·simp only [h1, if_true, zG, Option.bind_some, zF]
    cases rV r.f1
    ·exact Ev.now _
    ·exact Ev.now _
   ·simp only [h1, if_false]
    have hj0 : ∀ b, Ev (fun k => dF.j0 k (!jF s r.f0) (decide ((iF s r.f0 r.f1).length = 0)) b r.f0 r.f1 r.f2 r.f3 r.f4) (if b = true then (if r.f4.toList = [] then (if r.f2 = 255 then (if r.f1 = 255 then (if jF s r.f0 = true then 0 else 3) else if (iF s r.f0 r.f1).length = 0 then 8 else 0) else if r.f1 = 255 then (if jF s r.f0 = true then 6 else 0) else if (iF s r.f0 r.f1).length = 0 then 0 else 7) else 1) else 1) := by
     have hj1 : ∀ c, Ev (fun k => dF.j1 k (!jF s r.f0) (decide ((iF s r.f0 r.f1).length = 0)) c r.f0 r.f1 r.f2 r.f3 r.f4) (if c = true then (if jF s r.f0 = true then 0 else 3) else if r.f2 = 255 then (if (iF s r.f0 r.f1).length = 0 then 8 else 0) else if r.f1 = 255 then (if jF s r.f0 = true then 6 else 0) else if (iF s r.f0 r.f1).length = 0 then 0 else 7) := by
      intro c
      have hs : ∀ k, dF.j1 (k + 1) (!jF s r.f0) (decide ((iF s r.f0 r.f1).length = 0)) c r.f0 r.f1 r.f2 r.f3 r.f4 = some (if c = true then (if jF s r.f0 = true then 0 else 3) else if r.f2 = 255 then (if (iF s r.f0 r.f1).length = 0 then 8 else 0) else if r.f1 = 255 then (if jF s r.f0 = true then 6 else 0) else if (iF s r.f0 r.f1).length = 0 then 0 else 7) := fun k => by
       rw [dF.j1]
       simp only [zF, Option.bind_some]
       cases jF s r.f0 <;> by_cases hz : (iF s r.f0 r.f1).length = 0 <;> simp only [hz, Bool.not_true, Bool.not_false, decide_true, decide_false, Bool.false_eq_true, if_true, if_false] <;> (repeat' split) <;> first | rfl | contradiction
      exact Ev.step hs (Ev.now _)
     intro b
     cases b
     ·simp only [Bool.false_eq_true, if_false]
      exact Ev.step (f := fun _ => some 1) (fun k => by rw [dF.j0, if_neg (by decide)]) (Ev.now _)
     ·simp only [if_true]
      by_cases h4 : r.f4.toList = []
      ·simp only [h4, if_true]
       by_cases h2 : r.f2 = 255
       ·have := hj1 (r.f1 == 255)
        simp only [h2, if_true] at this ⊢
        refine Ev.step (fun k => by rw [dF.j0, if_pos rfl, if_pos h4, if_pos rfl]) ?_
        by_cases h5 : r.f1 = 255
        ·simp only [h5, beq_self_eq_true, if_true] at this ⊢; exact this
        ·simp only [h5, beq_eq_false_iff_ne.mpr h5, Bool.false_eq_true, if_false] at this ⊢; exact this
       ·have := hj1 false
        simp only [h2, Bool.false_eq_true, if_false] at this ⊢
        refine Ev.step (fun k => by rw [dF.j0, if_pos rfl, if_pos h4, if_neg h2]) ?_
        exact this
      ·simp only [h4, if_false]
       exact Ev.step (f := fun _ => some 1) (fun k => by rw [dF.j0, if_pos rfl, if_neg h4]) (Ev.now _)
    by_cases h2 : r.f2 = 255
    ·have := hj0 true
     simp only [h2, if_true, beq_self_eq_true] at this ⊢
     exact this
    ·have := hj0 (r.f2 == 254)
     simp only [h2, if_false] at this ⊢
     by_cases h6 : r.f2 = 254
     ·simp only [h6, beq_self_eq_true, if_true] at this ⊢; exact this
     ·simp only [h6, beq_eq_false_iff_ne.mpr h6, Bool.false_eq_true, if_false] at this ⊢; exact this
 ·simp only [h3, if_false]; exact Ev.now _
end Go.Y.Rrs
namespace Go.Y.Rrs
open Go.RowKit Go.V.aC Go.V.aK Go.V.aQ Go.Y.Given Go.Y.PRd Go.Y.PRr Go.Y.PZo Go.Y.PZf Go.Y.PZh Go.Y.Oct Go.Y.Name Go.Y.Cmp Go.Y.fC Go.Y.eO Go.Y.gH
def iW (a : ByteArray) (s : List RR) : List RR → Int
 | [] => 0
 | r :: l => if mq a s r = 0 then iW a s l else mq a s r
def mg (l : List RR) : List RR := l.filter fun r => r.f2 == 1
noncomputable def lZ (s kept : List RR) : List RR → Int
 | [] => 0
 | r :: l => if xG (iF s r.f0 r.f1) (iF kept r.f0 r.f1) = true then lZ s kept l else 8
noncomputable def mF (a : ByteArray) (s l : List RR) : Int := if iW a s l = 0 then lZ s (mg l) (mg l) else iW a s l
theorem xw {s : List RR} {n : ByteArray} {t : Int} {y : RR} (h : y ∈ iF s n t) : y ∈ s := (List.mem_filter.mp (List.mem_filter.mp h).1).1
theorem yN (s : List RR) (n : ByteArray) (t : Int) : (iF s n t).length ≤ s.length := Nat.le_trans (Ba _ _) (vw s n)
section
variable (a : ByteArray) (s : List RR) (z : Int) (fs : ∀ y ∈ s, fine y) (ns : s.length ≤ 100000)
include fs ns
theorem zq (K : List RR) (fk : ∀ y ∈ K, fine y) (nk : K.length ≤ 100000) : ∀ (d i : Nat), K.length ≤ i + d → i ≤ K.length → Ev (fun k => aT.l1 k K K (K.length : Int) (i : Int) a s z) (lZ s K (K.drop i)) := by
 have hend : ∀ i : Nat, K.length ≤ i → Ev (fun k => aT.l1 k K K (K.length : Int) (i : Int) a s z) (lZ s K (K.drop i)) := by
  intro i hd
  refine Ev.step (f := fun _ => some 0) (fun k => by rw [aT.l1]; rw [if_neg (by omega)]) ?_
  rw [List.drop_of_length_le hd, lZ]
  exact Ev.now _
 intro d
 induction d with
 | zero => exact fun i hd _ => hend i (by omega)
 | succ d ih =>
  intro i hd hi0
  by_cases hi : i < K.length
  ·have e1 : wrap64 ((i : Int) + 1) = ((i + 1 : Nat) : Int) := by unfold wrap64; omega
   have hs : ∀ k, aT.l1 (k + 1) K K (K.length : Int) (i : Int) a s z = (jD.f k (iF s (rdR K (i : Int)).f0 (rdR K (i : Int)).f1) (iF K (rdR K (i : Int)).f0 (rdR K (i : Int)).f1)).bind fun t => if t = true then aT.l1 k K K (K.length : Int) ((i + 1 : Nat) : Int) a s z else some 8 := fun k => by
    rw [aT.l1, e1]
    rw [if_pos (by omega), if_pos (by omega), if_pos (by omega), Ai a s z _ _ (by omega), Option.bind_some, Aq K _ (by omega), Option.bind_some, sW _ _ (Nat.le_trans (vw K _) (by omega)), Option.bind_some]
    rfl
   rw [dZ K i hi] at hs
   have l1 := yN s K[i].f0 K[i].f1
   have l2 := yN K K[i].f0 K[i].f1
   refine Ev.step hs (Ev.bind (Ec _ _ (fun y hy => fs y (xw hy)) (fun y hy => fk y (xw hy)) (by omega) (by omega)) ?_)
   rw [List.drop_eq_getElem_cons hi, lZ]
   cases xG (iF s K[i].f0 K[i].f1) (iF K K[i].f0 K[i].f1)
   ·simp only [Bool.false_eq_true, if_false]; exact Ev.now _
   ·simp only [if_true]; exact ih (i + 1) (by omega) (by omega)
  ·exact hend i (by omega)
theorem xI (l : List RR) (fl : ∀ y ∈ l, fine y) (nl : l.length ≤ 50000) : ∀ (d i : Nat) (K : List RR), l.length ≤ i + d → i ≤ l.length → K.length ≤ i → (∀ y ∈ K, fine y) → Ev (fun k => aT.l0 k K l (l.length : Int) (i : Int) a s z) (if iW a s (l.drop i) = 0 then lZ s (K ++ mg (l.drop i)) (K ++ mg (l.drop i)) else iW a s (l.drop i)) := by
 have hend : ∀ (i : Nat) (K : List RR), l.length ≤ i → K.length ≤ 100000 → (∀ y ∈ K, fine y) → Ev (fun k => aT.l0 k K l (l.length : Int) (i : Int) a s z) (if iW a s (l.drop i) = 0 then lZ s (K ++ mg (l.drop i)) (K ++ mg (l.drop i)) else iW a s (l.drop i)) := by
  intro i K hd nk fk
  refine Ev.step (f := fun k => aT.l1 k K K (K.length : Int) 0 a s z) (fun k => by rw [aT.l0]; rw [if_neg (by omega)]) ?_
  rw [List.drop_of_length_le hd]
  show Ev _ (if (0 : Int) = 0 then lZ s (K ++ []) (K ++ []) else _)
  rw [if_pos rfl, List.append_nil]
  have := zq a s z fs ns K fk nk K.length 0 (by omega) (Nat.zero_le _)
  rw [List.drop_zero] at this
  exact this
 intro d
 induction d with
 | zero => exact fun i K hd hi0 hk fk => hend i K (by omega) (by omega) fk
 | succ d ih =>
  intro i K hd hi0 hk fk
  by_cases hi : i < l.length
  ·have e1 : wrap64 ((i : Int) + 1) = ((i + 1 : Nat) : Int) := by unfold wrap64; omega
   have hs : ∀ k, aT.l0 (k + 1) K l (l.length : Int) (i : Int) a s z = (dF.f k a s z (rdR l (i : Int)).f0 (rdR l (i : Int)).f1 (rdR l (i : Int)).f2 (rdR l (i : Int)).f3 (rdR l (i : Int)).f4).bind fun t => if t = 0 then (if (rdR l (i : Int)).f2 = 1 then aT.l0 k (K ++ [rdR l (i : Int)]) l (l.length : Int) ((i + 1 : Nat) : Int) a s z else aT.l0 k K l (l.length : Int) ((i + 1 : Nat) : Int) a s z) else some t := fun k => by
    rw [aT.l0, e1]
    rw [if_pos (by omega), if_pos (by omega), if_pos (by omega)]
    congr 1
    funext t
    rw [if_pos (show K.length < _ by omega)]
   rw [dZ l i hi] at hs
   refine Ev.step hs (Ev.bind (EF a s z l[i] (by omega)) ?_)
   rw [List.drop_eq_getElem_cons hi, iW]
   unfold mg
   rw [List.filter_cons]
   by_cases h0 : mq a s l[i] = 0
   ·simp only [h0, if_true]
    by_cases h1 : l[i].f2 = 1
    ·simp only [h1, beq_self_eq_true, if_true]
     have := ih (i + 1) (K ++ [l[i]]) (by omega) (by omega) (by rw [List.length_append, List.length_singleton]; omega) (fun y hy => by
      rcases List.mem_append.mp hy with h | h
      ·exact fk y h
      ·rw [List.mem_singleton.mp h]; exact fl _ (List.getElem_mem _))
     rw [List.append_assoc, List.singleton_append] at this
     exact this
    ·simp only [h1, beq_eq_false_iff_ne.mpr h1, Bool.false_eq_true, if_false]
     exact ih (i + 1) K (by omega) (by omega) (by omega) fk
   ·simp only [h0, if_false]
    exact Ev.now _
  ·exact hend i K (by omega) (by omega) fk
theorem nK (l : List RR) (fl : ∀ y ∈ l, fine y) (nl : l.length ≤ 50000) : Ev (fun k => aT.f k a s z l) (mF a s l) := by
 have := xI a s z fs ns l fl nl l.length 0 [] (by omega) (Nat.zero_le _) (Nat.le_refl _) (fun y hy => by cases hy)
 rw [List.drop_zero, List.nil_append] at this
 exact this
end
theorem wV (l : List RR) (hn : l.length ≤ 9223372036854775807) : ∀ (d i : Nat), d + i = 40 → i ≤ l.length → (∀ y ∈ l.take i, fM y = true) → ∃ b, Ev (fun k => aN.l0 k l (i : Int)) b ∧ (b = true → l.length ≤ 30 ∧ ∀ y ∈ l, fM y = true) := by
 have hdone : ∀ i : Nat, Ev (fun k => aN.j1 k l (i : Int) false) (decide ((l.length : Int) ≤ 30)) := fun i => Ev.step (f := fun _ => some (decide ((l.length : Int) ≤ 30))) (fun k => by rw [aN.j1, if_neg (by decide)]) (Ev.now _)
 intro d
 induction d with
 | zero =>
  intro i hd hi0 hr
  refine ⟨_, Ev.step (f := fun k => aN.j1 k l (i : Int) false) (fun k => ?_) (hdone i), fun e => ?_⟩
  ·rw [aN.l0, decide_eq_false (show ¬ (i : Int) < 40 by omega)]
   split <;> rfl
  ·have := of_decide_eq_true e
   exact absurd hi0 (by omega)
 | succ d ih =>
  intro i hd hi0 hr
  by_cases hi : i < l.length
  ·have e1 : wrap64 ((i : Int) + 1) = ((i + 1 : Nat) : Int) := by unfold wrap64; omega
   have hs : ∀ k, aN.l0 (k + 1) l (i : Int) = aN.j1 k l (i : Int) true := fun k => by
    rw [aN.l0, decide_eq_true (show (i : Int) < 40 by omega), if_pos (by omega)]
   have hj : ∀ k, aN.j1 (k + 1) l (i : Int) true = if ((rdR l (i : Int)).f4.size : Int) > 2000 then some false else (aZ.f k (rdR l (i : Int)).f0 (rdR l (i : Int)).f1 (rdR l (i : Int)).f2 (rdR l (i : Int)).f3 (rdR l (i : Int)).f4).bind fun t => if t = true then aN.l0 k l ((i + 1 : Nat) : Int) else some false := fun k => by
    rw [aN.j1, e1, if_pos rfl, if_pos (by omega), if_pos (by omega)]
   rw [dZ l i hi] at hj
   by_cases h4 : (l[i].f4.size : Int) > 2000
   ·refine ⟨false, Ev.step hs (Ev.step hj ?_), fun e => by cases e⟩
    simp only [h4, if_true]; exact Ev.now _
   ·cases hri : fM l[i]
    ·refine ⟨false, Ev.step hs (Ev.step hj ?_), fun e => by cases e⟩
     simp only [h4, if_false]
     refine Ev.bind (wu l[i]) ?_
     simp only [hri, Bool.false_eq_true, if_false]; exact Ev.now _
    ·obtain ⟨b, hb, hb1⟩ := ih (i + 1) (by omega) (by omega) (fun y hy => by
      rw [List.take_succ_eq_append_getElem hi] at hy
      rcases List.mem_append.mp hy with hy | hy
      ·exact hr y hy
      ·rw [List.mem_singleton.mp hy]; exact hri)
     refine ⟨b, Ev.step hs (Ev.step hj ?_), hb1⟩
     simp only [h4, if_false]
     refine Ev.bind (wu l[i]) ?_
     simp only [hri, if_true]; exact hb
  ·refine ⟨_, Ev.step (f := fun k => aN.j1 k l (i : Int) false) (fun k => ?_) (hdone i), fun e => ⟨by have := of_decide_eq_true e; omega, ?_⟩⟩
   ·rw [aN.l0, if_neg (by omega)]
   ·rw [List.take_of_length_le (by omega)] at hr
    exact hr
theorem sN (l : List RR) (hn : l.length ≤ 9223372036854775807) : ∃ b, Ev (fun k => aN.f k l) b ∧ (b = true → l.length ≤ 30 ∧ ∀ y ∈ l, fM y = true) := wV l hn 40 0 (by omega) (Nat.zero_le _) (fun y hy => by rw [List.take_zero] at hy; cases hy)
abbrev lrb : RR := ⟨(⟨#[1, 98, 1, 97, 0]⟩ : ByteArray), 255, 255, 0, (⟨#[]⟩ : ByteArray)⟩
theorem zi : ∀ y ∈ [lr0, lr1], fM y = true := fun y hy => by
 rcases List.mem_cons.mp hy with rfl | hy
 ·exact Dv
 ·rw [List.mem_singleton.mp hy]; exact Co
theorem za : mF lra [lr0, lr1] [lrb] = 3 := by
 have hu : nU lrb.f0 lra = true := by
  have h := tK lrb.f0 lra 300 (Nat.le_refl _)
  have h2 := oz (fun k => bq.mono lrb.f0 lra k) (show 20 ≤ 300 by omega) (r := true) (by kernel_rfl)
  rw [h2] at h; exact (Option.some.inj h).symm
 have ht : jF [lr0, lr1] lrb.f0 = false := by
  have h1 : fO lra lrb.f0 = false := by
   have h := kK lra lrb.f0
   rw [show bS.f lra lrb.f0 = some false from by kernel_rfl] at h
   exact (Option.some.inj h).symm
  unfold jF
  rw [List.any_cons, List.any_cons, h1]; rfl
 have h1 : mq lra [lr0, lr1] lrb = 3 := by
  unfold mq
  rw [if_pos rfl, if_pos hu, if_neg (by decide), if_pos rfl, if_pos (by kernel_rfl), if_pos rfl, ht]; rfl
 unfold mF
 rw [iW, h1]; rfl
theorem uq : Ev (fun k => dO.f k) true := by
 unfold dO.f iJ.f
 simp only [Option.bind_some]
 refine Ev.bind Fa ?_
 simp only [if_true]
 rw [Il _ _ _ (by simp)]
 simp only [Option.bind_some]
 have hc := nK lra [lr0, lr1] (yP [lr0, lr1]) (fun y hy => mE (zi y hy)) (by simp) [lrb] (fun y hy => by rw [List.mem_singleton.mp hy]; exact ⟨by kernel_rfl, by decide⟩) (by simp)
 rw [za] at hc
 have hl : ((([lr0, lr1] : List RR).length : Int) = 2) = True := eq_true rfl
 simp only [hl, if_true]
 exact Ev.bind hc (Ev.now _)
end Go.Y.Rrs
namespace Go.Y.PZh
open Go.RowKit Go.V.aC Go.V.aK Go.V.aQ Go.Y.Given Go.Y.PRd Go.Y.PRr Go.Y.PZo Go.Y.PZf Go.Y.PZe
attribute [local go_sem] dA dx dJ dI bV bU dz dw   -- for this text's walks alone
mutual
noncomputable def aA.j0 : Nat → List (S44) → List (S44) → List (S44) → Bool → Option (Bool)
 | 0, _, _, _, _ => none
 | k + 1, x0, x1, x2, x28 => if x28 = true then ((dO.f k).bind fun t358 => (some t358)) else ((bK.f k (⟨#[2, 101, 120, 0]⟩ : ByteArray) x0).bind fun bt359 => (if bt359.2.2.2 = 0 then (aA.l0 k x1 x2 ([] : List (S44)) 0 bt359.1 bt359.2.1 bt359.2.2.1) else (some true)))
noncomputable def aA.l0 : Nat → List (S44) → List (S44) → List (S44) → Int → ByteArray → List (S44) → Int → Option (Bool)
 | 0, _, _, _, _, _, _, _ => none
 | k + 1, x1, x2, x9, x10, x366000, x366001, x366002 => if x10 < (x1.length : Int) then (if 0 ≤ x10 then (if ((aj x1 x10).f2) = 1 then (aA.l0 k x1 x2 x9 (wrap64 (x10 + 1)) x366000 x366001 x366002) else (if x9.length < 2513169434916 then ((some (x9 ++ [(⟨(aj x1 x10).f0, (aj x1 x10).f1, (aj x1 x10).f2, (aj x1 x10).f3, (aj x1 x10).f4⟩ : S44)] : List (S44))).bind fun y369 => ((aT.f k x366000 x366001 x366002 (([(⟨(aj x1 x10).f0, (aj x1 x10).f1, (aj x1 x10).f2, (aj x1 x10).f3, (aj x1 x10).f4⟩ : S44)] : List (S44)))).bind fun t376 => (if t376 = 0 then (aA.l0 k x1 x2 y369 (wrap64 (x10 + 1)) x366000 x366001 x366002) else (if y369.length + x2.length < 2513169434916 then ((aT.f k x366000 x366001 x366002 (y369 ++ x2)).bind fun t380 => (some (t380 == t376))) else (none))))) else (none))) else (none)) else ((aT.f k x366000 x366001 x366002 x9).bind fun t366 => (some (t366 == 0)))
end
noncomputable def aA.f (k : Nat) (l0 : List (S44)) (l1 : List (S44)) (l2 : List (S44)) : Option (Bool) := (dO.f k).bind fun t354 => (if t354 = true then ((bn.f k l0).bind fun t355 => (if t355 = true then ((aN.f k l1).bind fun t356 => (if t356 = true then ((aN.f k l2).bind fun t357 => (aA.j0 k l0 l1 l2 (!t357))) else (aA.j0 k l0 l1 l2 true))) else (aA.j0 k l0 l1 l2 true))) else (aA.j0 k l0 l1 l2 true))
def aA.T12 : Bool × List (List Nat × List Nat) := (true, [([], []), ([], []), ([], []), ([1, 2], [1, 2]), ([3], [3]), ([4], [4]), ([0, 5], [0, 5]), ([6, 6, 0, 1, 2, 3, 4, 5, 6], [6])])
def aA.B12 : List Nat := [0, 0, 0, 6, 14, 30, 63, 127]
theorem aA.IE : eH .any (opsOf Tryz.f6 12) = aA.T12 := by kernel_rfl
theorem aA.HZ : eD aA.T12.2 aA.B12 = true := by kernel_rfl
def aA.T14 : Bool × List (List Nat × List Nat) := (true, [([], []), ([], []), ([], []), ([1, 2], [1, 2]), ([0, 3, 3], [0, 3]), ([], []), ([4, 5], [4, 5]), ([6, 4, 0, 1, 2, 3, 4, 5, 6], [6])])
def aA.B14 : List Nat := [0, 0, 0, 6, 15, 0, 63, 127]
theorem aA.xg : eH .any (opsOf Tryz.f6 14) = aA.T14 := by kernel_rfl
theorem aA.uM : eD aA.T14.2 aA.B14 = true := by kernel_rfl
theorem aA.calls (k : Nat) (A0 : Option Addr) (c0 : Nat) (l0 : List (S44)) (A1 : Option Addr) (c1 : Nat) (l1 : List (S44)) (A2 : Option Addr) (c2 : Nat) (l2 : List (S44)) (r : Bool) (w : World) (hr0 : Kd.C k44 w A0 l0.length l0) (hc0 : l0.length ≤ c0) (hr1 : Kd.C k44 w A1 l1.length l1) (hc1 : l1.length ≤ c1) (hr2 : Kd.C k44 w A2 l2.length l2) (hc2 : l2.length ≤ c2) (h : aA.f k l0 l1 l2 = some r) :
    Calls Tryz.prog 6 #[.slice A0 l0.length c0, .slice A1 l1.length c1, .slice A2 l2.length c2] w fun e w' => e = .returned (.bool r) ∧ Below w.heap.size w w' := by
  have hu26 := Tryz.underlying26
  have hu44 := Tryz.underlying44
  have HR0 := ah.mk hr0
  have HC0 := ah.mk hc0
  clear hr0 hc0
  have HR1 := ah.mk hr1
  have HC1 := ah.mk hc1
  clear hr1 hc1
  have HR2 := ah.mk hr2
  have HC2 := ah.mk hc2
  clear hr2 hc2
  have HB := ah.mk (Below.refl w.heap.size w)
  have H : ((dO.f k).bind fun t354 => (if t354 = true then ((bn.f k l0).bind fun t355 => (if t355 = true then ((aN.f k l1).bind fun t356 => (if t356 = true then ((aN.f k l2).bind fun t357 => (aA.j0 k l0 l1 l2 (!t357))) else (aA.j0 k l0 l1 l2 true))) else (aA.j0 k l0 l1 l2 true))) else (aA.j0 k l0 l1 l2 true))) = some r := h
  clear h
  have HC4 := ah.mk H
  clear H
  go_enter Tryz.func6, Tryz.ntmps6
  go_upto_region 1 with (fail)
  go_cut [28] (fun v28 wc => ∃ (kq : Nat) (x28_3 : Bool), v28 = .bool x28_3 ∧ ah (aA.j0 kq l0 l1 l2 x28_3 = some r) ∧ ah (kq ≤ k) ∧ ah (Below w.heap.size w wc))
  case first =>
   have H := HC4.out
   clear HC4
   obtain ⟨t354, A5, H⟩ := bQ H
   by_cases c6 : t354 = true
   ·subst c6
    rw [if_pos rfl] at H
    obtain ⟨t355, A7, H⟩ := bQ H
    by_cases c8 : t355 = true
    ·subst c8
     rw [if_pos rfl] at H
     obtain ⟨t356, A9, H⟩ := bQ H
     by_cases c10 : t356 = true
     ·subst c10
      rw [if_pos rfl] at H
      obtain ⟨t357, A11, H⟩ := bQ H
      have H' := ah.mk H
      clear H
      go_wp2_with (first | ((with_reducible refine bO (f := 22) rfl ?_); refine dX (some 12) rfl rfl Tryz.func22 (by kernel_rfl) rfl #[] rfl (by (try simp only [List.map_toArray, List.map_cons, List.map_nil]); done) ?_; (with_reducible refine (dO.calls k  _ _ A5.out).mono ?_); rintro e w12 ⟨rfl, hb⟩; refine ⟨_, rfl, ?_⟩; replace HB := ah.mk (ak HB.out hb); (try clear hb)) | (go_at_call 10; (with_reducible refine (bn.calls k _ _ l0 _ _ ?side1 ?side2 A7.out).mono ?_); (case side1 => repeat ((exact (Kd.eB HR0.out HB.out)))); (case side2 => exact HC0.out); rintro e w' ⟨rfl, ⟨nd, rfl⟩⟩) | (go_at_call 23; (with_reducible refine (aN.calls k _ _ l1 _ _ ?side1 ?side2 A9.out).mono ?_); (case side1 => repeat ((exact (Kd.eB HR1.out (by repeat ((with_reducible first | exact HB.out | apply bP))))))); (case side2 => exact HC1.out); rintro e w13 ⟨rfl, hb⟩; replace HB := ah.mk (ak (by repeat ((with_reducible first | exact HB.out | apply bP))) hb); (try clear hb)) | (go_at_call 23; (with_reducible refine (aN.calls k _ _ l2 t357 _ ?side1 ?side2 A11.out).mono ?_); (case side1 => repeat ((exact (Kd.eB HR2.out HB.out)))); (case side2 => exact HC2.out); rintro e w14 ⟨rfl, hb⟩; replace HB := ah.mk (ak HB.out hb); (try clear hb)))
      go_meet
      case rel => exact ⟨_, (!t357), (by rfl), H', ⟨by omega⟩, ⟨HB.out⟩⟩
     ·replace c10 := Bool.eq_false_iff.mpr c10
      subst c10
      rw [if_neg ff_] at H
      have H' := ah.mk H
      clear H
      go_wp2_with (first | ((with_reducible refine bO (f := 22) rfl ?_); refine dX (some 12) rfl rfl Tryz.func22 (by kernel_rfl) rfl #[] rfl (by (try simp only [List.map_toArray, List.map_cons, List.map_nil]); done) ?_; (with_reducible refine (dO.calls k  _ _ A5.out).mono ?_); rintro e w15 ⟨rfl, hb⟩; refine ⟨_, rfl, ?_⟩; replace HB := ah.mk (ak HB.out hb); (try clear hb)) | (go_at_call 10; (with_reducible refine (bn.calls k _ _ l0 _ _ ?side1 ?side2 A7.out).mono ?_); (case side1 => repeat ((exact (Kd.eB HR0.out HB.out)))); (case side2 => exact HC0.out); rintro e w' ⟨rfl, ⟨nd, rfl⟩⟩) | (go_at_call 23; (with_reducible refine (aN.calls k _ _ l1 _ _ ?side1 ?side2 A9.out).mono ?_); (case side1 => repeat ((exact (Kd.eB HR1.out (by repeat ((with_reducible first | exact HB.out | apply bP))))))); (case side2 => exact HC1.out); rintro e w16 ⟨rfl, hb⟩; replace HB := ah.mk (ak (by repeat ((with_reducible first | exact HB.out | apply bP))) hb); (try clear hb)))
      go_meet
      case rel => exact ⟨_, (true), (by rfl), H', ⟨by omega⟩, ⟨HB.out⟩⟩
    ·replace c8 := Bool.eq_false_iff.mpr c8
     subst c8
     rw [if_neg ff_] at H
     have H' := ah.mk H
     clear H
     go_wp2_with (first | ((with_reducible refine bO (f := 22) rfl ?_); refine dX (some 12) rfl rfl Tryz.func22 (by kernel_rfl) rfl #[] rfl (by (try simp only [List.map_toArray, List.map_cons, List.map_nil]); done) ?_; (with_reducible refine (dO.calls k  _ _ A5.out).mono ?_); rintro e w17 ⟨rfl, hb⟩; refine ⟨_, rfl, ?_⟩; replace HB := ah.mk (ak HB.out hb); (try clear hb)) | (go_at_call 10; (with_reducible refine (bn.calls k _ _ l0 _ _ ?side1 ?side2 A7.out).mono ?_); (case side1 => repeat ((exact (Kd.eB HR0.out HB.out)))); (case side2 => exact HC0.out); rintro e w' ⟨rfl, ⟨nd, rfl⟩⟩))
     go_meet
     case rel => exact ⟨_, (true), (by rfl), H', ⟨by omega⟩, ⟨by repeat ((with_reducible first | exact HB.out | apply bP))⟩⟩
   ·replace c6 := Bool.eq_false_iff.mpr c6
    subst c6
    rw [if_neg ff_] at H
    have H' := ah.mk H
    clear H
    go_wp2_with ((((with_reducible refine bO (f := 22) rfl ?_); refine dX (some 12) rfl rfl Tryz.func22 (by kernel_rfl) rfl #[] rfl (by (try simp only [List.map_toArray, List.map_cons, List.map_nil]); done) ?_; (with_reducible refine (dO.calls k  _ _ A5.out).mono ?_); rintro e w18 ⟨rfl, hb⟩; refine ⟨_, rfl, ?_⟩; replace HB := ah.mk (ak HB.out hb); (try clear hb))))
    go_meet
    case rel => exact ⟨_, (true), (by rfl), H', ⟨by omega⟩, ⟨HB.out⟩⟩
  case rest =>
   clear HC4
   obtain ⟨kq, x28_3, rfl, HA, HJ3, HB⟩ := hcut
   cases kq with
   | zero => exact absurd HA.out (by simp [aA.j0])
   | succ kj3 =>
    have H := HA.out
    clear HA
    simp only [aA.j0] at H
    by_cases c19 : x28_3 = true
    ·subst c19
     rw [if_pos rfl] at H
     obtain ⟨t358, A20, H⟩ := bQ H
     obtain rfl := Option.some.inj H
     go_wp2_with ((((with_reducible refine bO (f := 22) rfl ?_); refine dX (some 29) rfl rfl Tryz.func22 (by kernel_rfl) rfl #[] rfl (by (try simp only [List.map_toArray, List.map_cons, List.map_nil]); done) ?_; (with_reducible refine (dO.calls kj3  t358 _ A20.out).mono ?_); rintro e w21 ⟨rfl, hb⟩; refine ⟨_, rfl, ?_⟩; replace HB := ah.mk (ak HB.out hb); (try clear hb))))
     go_ret
     exact ⟨by rfl, HB.out⟩
    ·replace c19 := Bool.eq_false_iff.mpr c19
     subst c19
     rw [if_neg ff_] at H
     replace H := Option.bind_eq_some_iff.mp H
     obtain ⟨⟨t359, t360, t363, t364⟩, A220, H⟩ := H
     replace H : (if t364 = 0 then (aA.l0 kj3 l1 l2 ([] : List (S44)) 0 t359 t360 t363) else (some true)) = some r := H
     have A22 := ah.mk A220
     clear A220
     by_cases c23 : t364 = 0
     focus
      rw [if_pos c23] at H
      have c23b0 : (t364 == 0) = true := beq_iff_eq.mpr c23
      have c23b1 : (t364 != 0) = false := bne_eq_false_iff_eq.mpr c23
      clear c23
      have H' := ah.mk H
      clear H
     rotate_left
     focus
      rw [if_neg c23] at H
      have c23b0 : (t364 == 0) = false := beq_eq_false_iff_ne.mpr c23
      have c23b1 : (t364 != 0) = true := bne_iff_ne.mpr c23
      obtain rfl := Option.some.inj H
     rotate_left
     all_goals
      go_wp2_with (first | ((with_reducible refine bO (f := 11) rfl ?_); refine dX (some 32) rfl rfl Tryz.func11 (by kernel_rfl) rfl #[.string (⟨#[2, 101, 120, 0]⟩ : ByteArray), .slice A0 l0.length c0] rfl (by (try simp only [mA_, mC_, mN_]); rfl) ?_; (with_reducible refine (bK.calls kj3 (⟨#[2, 101, 120, 0]⟩ : ByteArray) _ _ l0 t359 t360 t363 t364 _ ?side1 ?side2 A22.out).mono ?_); (case side1 => repeat ((exact (Kd.eB HR0.out HB.out)))); (case side2 => exact HC0.out); rintro e w24 ⟨v361, rfl, ho0, hb⟩; refine ⟨_, rfl, ?_⟩; have HO362 := ah.mk (Kd.cO ho0 (ay HB.out)); replace HB := ah.mk (ak HB.out hb); (try clear hb); (try clear ho0)) | ((with_reducible refine bC (N := 7) rfl ?_); refine bE ?hg (N := 7) ?hd (cs := #[.string (⟨#[]⟩ : ByteArray), .slice none 0 0, .int .i64 0]) (t := 26) ?hr ?_; (case hd => rfl); (case hg => rfl); (case hr => (go_simp; done)); intro gb365 hg w25 hbox hb; have BK365 := ah.mk (hbox); have GW365 := ah.mk (ge_ hg (ay HB.out)); have GE365 := ah.mk (ge_ hg (ay HB.out)); replace HO362 := ah.mk (Kd.bM (by ((exact HO362.out))) hb); replace HB := ah.mk (ak HB.out hb); clear hb hbox hg; obtain ⟨hcz26_0, hcz26_1, hcz26_2, hfz26_0, hfz26_1, hfz26_2⟩ := z3_ BK365.out; obtain ⟨Ao27, co27, eo27⟩ := Kd.bY HO362.out; subst eo27))
     ·go_loopg [9, 10] kj3 (fun kq v9 v10 w' => ∃ (x9_2 : List (S44)) (x10_2 : Int), v10 = .int .i64 x10_2 ∧ ah (aA.l0 kq l1 l2 x9_2 x10_2 t359 t360 t363 = some r) ∧ ah (kq ≤ kj3) ∧ ah (Kd.R k44 44 w' w.heap.size (fun k_ => some k_ ≠ ((.slice Ao27 t360.length co27) : Value).ownBlock) v9 x9_2) ∧ ah (Kd.R k44 44 w' w.heap.size (fun k_ => some k_ ≠ (v9 : Value).ownBlock) (.slice Ao27 t360.length co27) t360) ∧ ah (w'.heap[gb365]? = some (.cells #[.string t359, (.slice Ao27 t360.length co27), .int .i64 t363] 26 (0, 0))) ∧ ah (Below w.heap.size w w'))
      case atStart => exact ⟨(([] : List (S44))), (0), (by rfl), H', ⟨Nat.le_refl _⟩, ⟨by (exact Kd.gB _ _ _ _ _)⟩, ⟨by (with_reducible repeat ((apply Kd.aM))); exact Kd.bW (Kd.dR (p := ⟨gb365, 2, none⟩) (Kd.dR (p := ⟨gb365, 1, none⟩) (Kd.dR (p := ⟨gb365, 0, none⟩) (Kd.kZ HO362.out BK365.out (by decide)) (fun _ hk => hk.2) (.string t359)) (fun _ hk => hk.2) (.slice Ao27 t360.length co27)) (fun _ hk => hk.2) (.int .i64 t363)) (fun _ hk => (by simp [Value.ownBlock]))⟩, ⟨by (with_reducible repeat ((refine av ?_ _))); refine aU (cs := #[.string t359, .slice Ao27 t360.length co27, .int .i64 0]) ?_ 2 _ rfl; (with_reducible repeat ((refine av ?_ _))); refine aU (cs := #[.string t359, .slice none 0 0, .int .i64 0]) ?_ 1 _ rfl; (with_reducible repeat ((refine av ?_ _))); refine aU (cs := #[.string (⟨#[]⟩ : ByteArray), .slice none 0 0, .int .i64 0]) ?_ 0 _ rfl; (with_reducible repeat ((refine av ?_ _))); exact BK365.out⟩, ⟨by repeat ((with_reducible first | exact HB.out | refine dB ?_ GE365.out))⟩⟩
      case round =>
       clear H'
       (try clear c23b0)
       (try clear c23b1)
       (try clear hcz26_0)
       (try clear hcz26_1)
       (try clear hcz26_2)
       (try clear hfz26_0)
       (try clear hfz26_1)
       (try clear hfz26_2)
       obtain ⟨x9_2, x10_2, rfl, HA, HK2, HO_9, HO_366001, BK365, HB⟩ := hrel
       cases gk with
       | zero => exact absurd HA.out (by simp [aA.l0])
       | succ k2 =>
        have H := HA.out
        clear HA
        simp only [aA.l0] at H
        by_cases c28 : x10_2 < (l1.length : Int)
        ·rw [if_pos c28] at H
         have c28b0 : decide (x10_2 < (l1.length : Int)) = true := decide_eq_true c28
         clear c28
         obtain ⟨c29b0, H⟩ := dH H
         by_cases c30 : ((aj l1 x10_2).f2) = 1
         focus
          rw [if_pos c30] at H
          have c30b0 : (((aj l1 x10_2).f2) == 1) = true := beq_iff_eq.mpr c30
          have c30b1 : (((aj l1 x10_2).f2) != 1) = false := bne_eq_false_iff_eq.mpr c30
          clear c30
          have H' := ah.mk H
          clear H
         rotate_left
         focus
          rw [if_neg c30] at H
          have c30b0 : (((aj l1 x10_2).f2) == 1) = false := beq_eq_false_iff_ne.mpr c30
          have c30b1 : (((aj l1 x10_2).f2) != 1) = true := bne_iff_ne.mpr c30
          obtain ⟨c31, H⟩ := gd_ H
          have LMc31 := ah.mk c31
          clear c31
          obtain ⟨y369, hy369⟩ : ∃ y_ : List (S44), y_ = (x9_2 ++ [(⟨(aj l1 x10_2).f0, (aj l1 x10_2).f1, (aj l1 x10_2).f2, (aj l1 x10_2).f3, (aj l1 x10_2).f4⟩ : S44)]) := ⟨_, rfl⟩
          replace H : ((aT.f k2 t359 t360 t363 (([(⟨(aj l1 x10_2).f0, (aj l1 x10_2).f1, (aj l1 x10_2).f2, (aj l1 x10_2).f3, (aj l1 x10_2).f4⟩ : S44)] : List (S44)))).bind fun t376 => (if t376 = 0 then (aA.l0 k2 l1 l2 y369 (wrap64 (x10_2 + 1)) t359 t360 t363) else (if y369.length + l2.length < 2513169434916 then ((aT.f k2 t359 t360 t363 (y369 ++ l2)).bind fun t380 => (some (t380 == t376))) else (none)))) = some r := by (have H2_ := (Option.bind_some _ _).symm.trans H; rw [hy369]; with_reducible exact H2_)
          have Ny369 := ah.mk hy369
          clear hy369
          obtain ⟨y373, hy373⟩ : ∃ y_ : List (S44), y_ = (([(⟨(aj l1 x10_2).f0, (aj l1 x10_2).f1, (aj l1 x10_2).f2, (aj l1 x10_2).f3, (aj l1 x10_2).f4⟩ : S44)] : List (S44))) := ⟨_, rfl⟩
          replace H : ((aT.f k2 t359 t360 t363 y373).bind fun t376 => (if t376 = 0 then (aA.l0 k2 l1 l2 y369 (wrap64 (x10_2 + 1)) t359 t360 t363) else (if y369.length + l2.length < 2513169434916 then ((aT.f k2 t359 t360 t363 (y369 ++ l2)).bind fun t380 => (some (t380 == t376))) else (none)))) = some r := by (rw [hy373]; with_reducible exact H)
          have Ny373 := ah.mk hy373
          clear hy373
          obtain ⟨t376, A32, H⟩ := bQ H
          by_cases c33 : t376 = 0
          focus
           rw [if_pos c33] at H
           have c33b0 : (t376 == 0) = true := beq_iff_eq.mpr c33
           have c33b1 : (t376 != 0) = false := bne_eq_false_iff_eq.mpr c33
           clear c33
           have H' := ah.mk H
           clear H
          rotate_left
          focus
           rw [if_neg c33] at H
           have c33b0 : (t376 == 0) = false := beq_eq_false_iff_ne.mpr c33
           have c33b1 : (t376 != 0) = true := bne_iff_ne.mpr c33
           obtain ⟨c40, H⟩ := gd_ H
           have LMc40 := ah.mk c40
           clear c40
           obtain ⟨y377, hy377⟩ : ∃ y_ : List (S44), y_ = (y369 ++ l2) := ⟨_, rfl⟩
           replace H : ((aT.f k2 t359 t360 t363 y377).bind fun t380 => (some (t380 == t376))) = some r := by (rw [hy377]; with_reducible exact H)
           have Ny377 := ah.mk hy377
           clear hy377
           obtain ⟨t380, A41, H⟩ := bQ H
           obtain rfl := Option.some.inj H
          rotate_left
         rotate_left 2
         all_goals
          have p367 : 0 ≤ (x10_2 : Int) := of_decide_eq_true (by assumption)
          have q367 : x10_2 < (l1.length : Int) := of_decide_eq_true (by assumption)
          obtain ⟨ad367, e367, hx367_0, hx367_1, hx367_2, hx367_3, hx367_4⟩ := dN HR1.out x10_2 p367 q367
          cases e367
          replace hx367_0 := kp_ HB.out hx367_0
          replace hx367_1 := kp_ HB.out hx367_1
          replace hx367_2 := kp_ HB.out hx367_2
          replace hx367_3 := kp_ HB.out hx367_3
          replace hx367_4 := kp_ HB.out hx367_4
          replace p367 := eq_true p367
          replace q367 := eq_true q367
         ·go_wp2
          go_roundg k2
          case measure => have := HJ3.out; have := HK2.out; omega
          case rel => exact ⟨(x9_2), (wrap64 (x10_2 + 1)), (by rfl), H', ⟨by have := HJ3.out; have := HK2.out; omega⟩, ⟨by (with_reducible repeat ((apply Kd.aM))); exact HO_9.out⟩, ⟨by (with_reducible repeat ((apply Kd.aM))); exact HO_366001.out⟩, ⟨by (with_reducible repeat ((refine av ?_ _))); exact BK365.out⟩, ⟨HB.out⟩⟩
         all_goals
          have p368 : 0 ≤ (x10_2 : Int) := of_decide_eq_true (by assumption)
          have q368 : x10_2 < (l1.length : Int) := of_decide_eq_true (by assumption)
          obtain ⟨ad368, e368, hx368_0, hx368_1, hx368_2, hx368_3, hx368_4⟩ := dN HR1.out x10_2 p368 q368
          obtain rfl : ad367 = ad368 := (by injection e368)
          replace hx368_0 := kp_ HB.out hx368_0
          replace hx368_1 := kp_ HB.out hx368_1
          replace hx368_2 := kp_ HB.out hx368_2
          replace hx368_3 := kp_ HB.out hx368_3
          replace hx368_4 := kp_ HB.out hx368_4
          replace p368 := eq_true p368
          replace q368 := eq_true q368
          (try go_wp2_with ((((with_reducible refine gL (b := .append) (xs := #[.tmp 49, .tmp 54]) rfl ?_); at_builtin; refine Kd.jr k44 (w0 := w) w.heap.size rfl (.tmp 49) (.tmp 54) 22 44 (.agg #[(.string ⟨#[]⟩), (.int .i64 0), (.int .i64 0), (.int .i64 0), (.string ⟨#[]⟩)]) 56 rfl Tryz.underlying22 qO rfl (by decide) (by omega) u9 x9_2 (⟨(aj l1 x10_2).f0, (aj l1 x10_2).f1, (aj l1 x10_2).f2, (aj l1 x10_2).f3, (aj l1 x10_2).f4⟩ : S44) [.string ((aj l1 x10_2).f0), .int .i64 ((aj l1 x10_2).f1), .int .i64 ((aj l1 x10_2).f2), .int .i64 ((aj l1 x10_2).f3), .string ((aj l1 x10_2).f4)] (fun k_ => some k_ ≠ (.slice Ao27 t360.length co27 : Value).ownBlock) (fun _ => False) rfl rfl ?aP (fun _ hk => hk.elim) ?aF ?aO ?aB ?aS ?aL ?_; (case aP => exact iB _ _ _ (⟨(aj l1 x10_2).f0, (aj l1 x10_2).f1, (aj l1 x10_2).f2, (aj l1 x10_2).f3, (aj l1 x10_2).f4⟩ : S44)); (case aB => exact HB.out); (case aF => exact (fun k_ hk => Kd.fresh' (Kd.jl (by ((exact HO_366001.out)))) k_ hk)); (case aO => exact (by ((exact HO_9.out)))); (case aS => exact (ay HB.out)); (case aL => have := LMc31.out; omega); intro v370 w34 ho hb hg hat; rw [← Ny369.out] at ho; have n0_ := ah.mk (Kd.vI (ok := (fun _ => True)) (by (with_reducible repeat ((apply Kd.aM))); exact Kd.bW HO_366001.out (fun _ hk => ⟨trivial, hk⟩)) hg hat); have n1_ := ah.mk (iT (g := gb365) (o := .cells #[.string t359, .slice Ao27 t360.length co27, .int .i64 t363] 26 (0, 0)) (by ((exact BK365.out))) hg (Kd.DI HO_9.out BK365.out (by decide))); have n2_ := ah.mk (hb); have n3_ := ah.mk (ho); clear HO_366001; clear BK365; clear HB; clear HO_9; have HO_366001 := n0_; have BK365 := n1_; have HB := n2_; have HO371 := n3_; clear n0_ n1_ n2_ n3_; clear ho hb hg hat))))
          replace HO_366001 := ah.mk (Kd.gq HO_366001.out)
          replace HO371 := ah.mk (Kd.gq HO371.out)
          replace BK365 := ah.mk (eX BK365.out)
          replace HB := ah.mk (dK HB.out)
          have p372 : 0 ≤ (x10_2 : Int) := of_decide_eq_true (by assumption)
          have q372 : x10_2 < (l1.length : Int) := of_decide_eq_true (by assumption)
          obtain ⟨ad372, e372, hx372_0, hx372_1, hx372_2, hx372_3, hx372_4⟩ := dN HR1.out x10_2 p372 q372
          have hw372_4 := hx372_4
          have hw372_3 := hx372_3
          have hw372_2 := hx372_2
          have hw372_1 := hx372_1
          have hw372_0 := hx372_0
          obtain rfl : ad367 = ad372 := (by injection e372)
          replace hx372_0 := kp_ HB.out hx372_0
          replace hx372_1 := kp_ HB.out hx372_1
          replace hx372_2 := kp_ HB.out hx372_2
          replace hx372_3 := kp_ HB.out hx372_3
          replace hx372_4 := kp_ HB.out hx372_4
          replace p372 := eq_true p372
          replace q372 := eq_true q372
          refine fF (n := 8) (ds := []) (ls 8 0) (by kernel_rfl) rfl rfl (c3_ BK365.out (ec_ (kp_ HB.out hw372_0) (ec_ (kp_ HB.out hw372_1) (ec_ (kp_ HB.out hw372_2) (ec_ (kp_ HB.out hw372_3) (ed_ (kp_ HB.out hw372_4))))))) (fun hHeld => ?_); refine dQ aA.IE aA.HZ (fun HT_ HW_ => ?_)
          generalize w34.drew = w35 at HO_366001 HO371 BK365 HB hx372_0 hx372_1 hx372_2 hx372_3 hx372_4 hHeld ⊢
          refine td_ [(1, 57), (2, 58), (3, 59)] ?_
          iterate 3 (refine pn_ (v := ?_) (a' := ?_) HT_ rfl rfl (by kernel_rfl) rfl (fun _ _ _ h => h) (fun w' => ?_) ?_ ?_; rotate_left 2; (focus go_simp; with_reducible rfl); (focus simp only [Act.put, sA_, sZ_, sS_, bf, bD]; rfl))
          refine dn_ ?_
          refine td_ [(0, 56), (4, 60)] ?_
          iterate 2 (refine tn_ (v := ?_) (a' := ?_) HT_ HW_ rfl rfl (by kernel_rfl) rfl (fun _ _ _ h => h) hHeld ?_ ?_ ?_; rotate_left 2; (focus rintro w' ⟨s0, s1, s2, s3, s4, s5, s6, s7⟩; go_simp; with_reducible rfl); (focus simp only [Act.put, sA_, sZ_, sS_, bf, bD]; rfl))
          refine dn_ ?_
          refine jE (i := 5) (N := some 61) (ls 8 63) rfl rfl (fD HT_.out (by kernel_rfl)) (by decide) (fun K hK => ?_)
          refine Kd.uR k44 _ 44 ?hg (N := 61) ?hd (xs := ([(⟨(aj l1 x10_2).f0, (aj l1 x10_2).f1, (aj l1 x10_2).f2, (aj l1 x10_2).f3, (aj l1 x10_2).f4⟩ : S44)] : List (S44))) (inner := [.string ((aj l1 x10_2).f0), .int .i64 ((aj l1 x10_2).f1), .int .i64 ((aj l1 x10_2).f2), .int .i64 ((aj l1 x10_2).f3), .string ((aj l1 x10_2).f4)]) (ok := fun _ => True) (okp := fun _ => True) ?hr ?hp (fun _ hk => hk) trivial (Below.refl _ _) (Nat.le_refl _) (by simp) ?_; (case hd => rfl); (case hg => rfl); (case hr => (go_simp; done)); (case hp => exact (bG.c5 (show Kd.M k44 _ _ _ (⟨(aj l1 x10_2).f0, (aj l1 x10_2).f1, (aj l1 x10_2).f2, (aj l1 x10_2).f3, (aj l1 x10_2).f4⟩ : S44) [.string ((aj l1 x10_2).f0), .int .i64 ((aj l1 x10_2).f1), .int .i64 ((aj l1 x10_2).f2), .int .i64 ((aj l1 x10_2).f3), .string ((aj l1 x10_2).f4)] from (iB _ _ _ (⟨(aj l1 x10_2).f0, (aj l1 x10_2).f1, (aj l1 x10_2).f2, (aj l1 x10_2).f3, (aj l1 x10_2).f4⟩ : S44) )) (bG.none _ _)))
          intro v374 w36 ho37 hb hg_ hnew_
          clear hg_ hnew_
          ((rw [← Ny373.out] at ho37))
          have HO375 := ah.mk (Kd.cO (Kd.gU (Kd.gU ho37 (Kd.jl (by ((exact HO_366001.out))))) (Kd.jl (by ((exact HO371.out))))) (ay HB.out))
          replace HO_366001 := ah.mk (Kd.fq (by ((exact HO_366001.out))) (Kd.gT ho37) hb)
          replace HO371 := ah.mk (Kd.fq (by ((exact HO371.out))) (Kd.gT ho37) hb)
          replace BK365 := ah.mk (aD (by ((exact BK365.out))) hb)
          replace HB := ah.mk (ak HB.out hb)
          clear hb ho37
          obtain ⟨Ao38, co38, eo38⟩ := Kd.bY HO375.out
          ((subst eo38))
          refine hK.out _ _ (c3_ BK365.out (ec_ (kp_ HB.out hw372_0) (ec_ (kp_ HB.out hw372_1) (ec_ (kp_ HB.out hw372_2) (ec_ (kp_ HB.out hw372_3) (ed_ (kp_ HB.out hw372_4))))))) (fun hHeld => ?_)
          clear hK K
          refine iY (a' := ?_) ?_ ?_
          rotate_left
          ·show Act.put _ (some 61) _ = _
           simp only [Act.put, sA_, sZ_, sS_, bf, bD]
           rfl
          refine jE (i := 6) (N := some 62) (ls 8 127) rfl rfl (fD HT_.out (by kernel_rfl)) (by decide) (fun K hK => ?_)
          refine jU Tryz.func24 (by kernel_rfl) rfl #[.agg #[.string t359, .slice Ao27 t360.length co27, .int .i64 t363], .slice Ao38 y373.length co38] (by rfl) rfl rfl (by (try simp only [mA_, mC_, mN_]); rfl) ?_
          with_reducible refine (aT.calls k2 t359 _ _ t360 t363 _ _ y373 t376 _ ?side1 ?side2 ?side3 ?side4 A32.out).mono ?_
          (case side1 => repeat ((exact (Kd.aI HO_366001.out).2.2)))
          (case side2 => exact (Kd.aI HO_366001.out).2.1)
          (case side3 => repeat ((exact (Kd.aI HO375.out).2.2)))
          (case side4 => exact (Kd.aI HO375.out).2.1)
          rintro e w39 ⟨rfl, hb⟩
          refine ⟨_, rfl, ?_⟩
          replace HO_366001 := ah.mk (Kd.bM (by ((exact HO_366001.out))) hb)
          replace HO371 := ah.mk (Kd.bM (by ((exact HO371.out))) hb)
          replace HO375 := ah.mk (Kd.bM (by ((exact HO375.out))) hb)
          replace BK365 := ah.mk (aD (by ((exact BK365.out))) hb)
          replace HB := ah.mk (ak HB.out hb)
          (try clear hb)
          refine hK.out _ _ (c3_ BK365.out (ec_ (kp_ HB.out hw372_0) (ec_ (kp_ HB.out hw372_1) (ec_ (kp_ HB.out hw372_2) (ec_ (kp_ HB.out hw372_3) (ed_ (kp_ HB.out hw372_4))))))) (fun hHeld => ?_)
          clear hK K
          refine iY (a' := ?_) ?_ ?_
          rotate_left
          ·show Act.put _ (some 62) _ = _
           simp only [Act.put, sA_, sZ_, sS_, bf, bD]
           rfl
          refine td_ [(7, 11)] ?_
          iterate 1 (refine pn_ (v := ?_) (a' := ?_) HT_ rfl rfl (by kernel_rfl) rfl (fun _ _ _ h => h) (fun w' => ?_) ?_ ?_; rotate_left 2; (focus go_simp; with_reducible rfl); (focus simp only [Act.put, sA_, sZ_, sS_, bf, bD]; rfl))
          refine dn_ ?_
          refine ji (gW HT_.out (by kernel_rfl)) ?_
          (try go_wp2)
         ·go_roundg k2
          case measure => have := HJ3.out; have := HK2.out; omega
          case rel => exact ⟨(y369), (wrap64 (x10_2 + 1)), (by rfl), H', ⟨by have := HJ3.out; have := HK2.out; omega⟩, ⟨by (with_reducible repeat ((apply Kd.aM))); exact Kd.bW HO371.out (fun _ hk => hk.1)⟩, ⟨by (with_reducible repeat ((apply Kd.aM))); exact Kd.bW HO_366001.out (fun _ hk => hk.1.2)⟩, ⟨by (with_reducible repeat ((refine av ?_ _))); exact BK365.out⟩, ⟨HB.out⟩⟩
         ·replace HO_366001 := ah.mk (Kd.gq HO_366001.out)
          replace HO371 := ah.mk (Kd.gq HO371.out)
          replace HO375 := ah.mk (Kd.gq HO375.out)
          replace BK365 := ah.mk (eX BK365.out)
          replace HB := ah.mk (dK HB.out)
          refine fF (n := 8) (ds := []) (ls 8 0) (by kernel_rfl) rfl rfl (d3_ BK365.out) (fun hHeld => ?_); refine dQ aA.xg aA.uM (fun HT_ HW_ => ?_)
          generalize w39.drew = w48 at HO_366001 HO371 HO375 BK365 HB hHeld ⊢
          refine td_ [(1, 66), (2, 67), (5, 70)] ?_
          iterate 3 (refine pn_ (v := ?_) (a' := ?_) HT_ rfl rfl (by kernel_rfl) rfl (fun _ _ _ h => h) (fun w' => ?_) ?_ ?_; rotate_left 2; (focus go_simp; with_reducible rfl); (focus simp only [Act.put, sA_, sZ_, sS_, bf, bD]; rfl))
          refine dn_ ?_
          refine td_ [(0, 65)] ?_
          iterate 1 (refine tn_ (v := ?_) (a' := ?_) HT_ HW_ rfl rfl (by kernel_rfl) rfl (fun _ _ _ h => h) hHeld ?_ ?_ ?_; rotate_left 2; (focus rintro w' ⟨s0, s1, s2⟩; go_simp; with_reducible rfl); (focus simp only [Act.put, sA_, sZ_, sS_, bf, bD]; rfl))
          refine dn_ ?_
          refine jE (i := 3) (N := some 68) (ls 8 47) rfl rfl (fD HT_.out (by kernel_rfl)) (by decide) (fun K hK => ?_)
          refine Kd.qN k44 (w0 := w) w.heap.size (by rfl) (.tmp 66) (.tmp 67) 22 44 (.agg #[(.string ⟨#[]⟩), (.int .i64 0), (.int .i64 0), (.int .i64 0), (.string ⟨#[]⟩)]) 56 rfl Tryz.underlying22 qO rfl (by decide) (by omega) v370 y369 l2 _ _ _ (fun k_ => some k_ ≠ (.slice Ao27 t360.length co27 : Value).ownBlock ∧ some k_ ≠ (.slice Ao38 y373.length co38 : Value).ownBlock) (fun _ => False) rfl rfl ?aO ?aR (fun _ _ h => h) (fun _ h => h.elim) ?aF ?aB ?aS ?aL ?_
          (case aR => repeat ((exact (Kd.eB HR2.out HB.out))))
          (case aB => exact HB.out)
          (case aF => exact (fun k_ hk => ⟨Kd.fresh' (Kd.jl (by ((exact HO_366001.out)))) k_ hk, Kd.fresh' (Kd.jl (by ((exact HO375.out)))) k_ hk⟩))
          (case aO => exact (by ((exact HO371.out))))
          (case aS => exact (ay HB.out))
          (case aL => have := LMc40.out; omega)
          intro v378 w49 ho hb hg hat
          rw [← Ny377.out] at ho
          have n0_ := ah.mk (Kd.vI (ok := (fun k_ => some k_ ≠ (.slice Ao38 y373.length co38 : Value).ownBlock)) (by (with_reducible repeat ((apply Kd.aM))); exact Kd.bW HO_366001.out (fun _ hk => ⟨hk.2, hk.1.2⟩)) hg hat)
          have n1_ := ah.mk (iT (g := gb365) (o := .cells #[.string t359, .slice Ao27 t360.length co27, .int .i64 t363] 26 (0, 0)) (by ((exact BK365.out))) hg (Kd.DI HO371.out BK365.out (by decide)))
          have n2_ := ah.mk (Kd.vI (ok := (fun k_ => some k_ ≠ (.slice Ao27 t360.length co27 : Value).ownBlock)) (by (with_reducible repeat ((apply Kd.aM))); exact Kd.bW HO375.out (fun _ hk => ⟨hk.1.2, hk.2⟩)) hg hat)
          have n3_ := ah.mk (hb)
          have n4_ := ah.mk (ho)
          clear HO_366001
          clear BK365
          clear HO375
          clear HB
          clear HO371
          have HO_366001 := n0_
          have BK365 := n1_
          have HO375 := n2_
          have HB := n3_
          have HO379 := n4_
          clear n0_ n1_ n2_ n3_ n4_
          clear ho hb hg hat
          obtain ⟨Ao50, co50, eo50⟩ := Kd.bY HO379.out
          ((subst eo50))
          refine hK.out _ _ (d3_ BK365.out) (fun hHeld => ?_)
          clear hK K
          refine iY (a' := ?_) ?_ ?_
          rotate_left
          ·show Act.put _ (some 68) _ = _
           simp only [Act.put, sA_, sZ_, sS_, bf, bD]
           rfl
          refine jE (i := 4) (N := some 69) (ls 8 63) rfl rfl (fD HT_.out (by kernel_rfl)) (by decide) (fun K hK => ?_)
          refine jU Tryz.func24 (by kernel_rfl) rfl #[.agg #[.string t359, .slice Ao27 t360.length co27, .int .i64 t363], .slice Ao50 y377.length co50] (by rfl) rfl rfl (by (try simp only [mA_, mC_, mN_]); rfl) ?_
          with_reducible refine (aT.calls k2 t359 _ _ t360 t363 _ _ y377 t380 _ ?side1 ?side2 ?side3 ?side4 A41.out).mono ?_
          (case side1 => repeat ((exact (Kd.aI HO_366001.out).2.2)))
          (case side2 => exact (Kd.aI HO_366001.out).2.1)
          (case side3 => repeat ((exact (Kd.aI HO379.out).2.2)))
          (case side4 => exact (Kd.aI HO379.out).2.1)
          rintro e w51 ⟨rfl, hb⟩
          refine ⟨_, rfl, ?_⟩
          replace HO_366001 := ah.mk (Kd.bM (by ((exact HO_366001.out))) hb)
          replace HO375 := ah.mk (Kd.bM (by ((exact HO375.out))) hb)
          replace HO379 := ah.mk (Kd.bM (by ((exact HO379.out))) hb)
          replace BK365 := ah.mk (aD (by ((exact BK365.out))) hb)
          replace HB := ah.mk (ak HB.out hb)
          (try clear hb)
          refine hK.out _ _ (d3_ BK365.out) (fun hHeld => ?_)
          clear hK K
          refine iY (a' := ?_) ?_ ?_
          rotate_left
          ·show Act.put _ (some 69) _ = _
           simp only [Act.put, sA_, sZ_, sS_, bf, bD]
           rfl
          refine td_ [(6, 71), (7, 6)] ?_
          iterate 2 (refine pn_ (v := ?_) (a' := ?_) HT_ rfl rfl (by kernel_rfl) rfl (fun _ _ _ h => h) (fun w' => ?_) ?_ ?_; rotate_left 2; (focus go_simp; with_reducible rfl); (focus simp only [Act.put, sA_, sZ_, sS_, bf, bD]; rfl))
          refine dn_ ?_
          refine ji (gW HT_.out (by kernel_rfl)) ?_
          (try go_wp2)
          go_ret
          exact ⟨by rfl, HB.out⟩
        ·rw [if_neg c28] at H
         have c28b0 : decide (x10_2 < (l1.length : Int)) = false := decide_eq_false c28
         clear c28
         obtain ⟨t366, A52, H⟩ := bQ H
         obtain rfl := Option.some.inj H
         obtain ⟨hcz53_0, hcz53_1, hcz53_2, hfz53_0, hfz53_1, hfz53_2⟩ := z3_ BK365.out
         obtain ⟨Ao54, co54, eo54⟩ := Kd.bY HO_9.out
         subst eo54
         go_wp2_with ((((with_reducible refine bO (f := 24) rfl ?_); refine dX (some 74) rfl rfl Tryz.func24 (by kernel_rfl) rfl #[.agg #[.string t359, .slice Ao27 t360.length co27, .int .i64 t363], .slice Ao54 x9_2.length co54] rfl (by (try simp only [mA_, mC_, mN_]); rfl) ?_; (with_reducible refine (aT.calls k2 t359 _ _ t360 t363 _ _ x9_2 t366 _ ?side1 ?side2 ?side3 ?side4 A52.out).mono ?_); (case side1 => repeat ((exact (Kd.aI HO_366001.out).2.2))); (case side2 => exact (Kd.aI HO_366001.out).2.1); (case side3 => repeat ((exact (Kd.aI HO_9.out).2.2))); (case side4 => exact (Kd.aI HO_9.out).2.1); rintro e w55 ⟨rfl, hb⟩; refine ⟨_, rfl, ?_⟩; replace HO_9 := ah.mk (Kd.bM (by ((exact HO_9.out))) hb); replace HO_366001 := ah.mk (Kd.bM (by ((exact HO_366001.out))) hb); replace BK365 := ah.mk (aD (by ((exact BK365.out))) hb); replace HB := ah.mk (ak HB.out hb); (try clear hb))))
         go_ret
         exact ⟨by rfl, HB.out⟩
     ·go_ret
      exact ⟨by rfl, by repeat ((with_reducible first | exact HB.out | refine dB ?_ GE365.out))⟩
end Go.Y.PZh
namespace Go.Y.ko
open Go.RowKit Go.ChangeShapes Go.WideShapes Go.Deep Go.V.aC
section
variable {H : Type} {enc : TypeId × Value → H} {P : Program} {W : World} {base : Nat} {spare : Nat → Bool} {held : Bool}
theorem fields_of {e : TypeId} {fs : Array Field} {fuel : Nat} {cs : List Value} {x : DataW H × List MemPlace} (he : P.underlying e = some (.struct fs)) (hone : oneCellFields P fs = true) (hC : P.cellsOf e = fs.size)
  (h : DataW.trod enc P W base spare held fuel e cs = some x) : cs.length = fs.size ∧ ∃ n, ∀ (j : Nat) (f : Field), fs[j]? = some f → ∃ v y, cs[j]? = some v ∧ DataW.trod enc P W base spare held n f.type [v] = some y := by
 obtain ⟨ys, n, _, _, hl, hyl, hf⟩ := DataW.trod_struct he h
 refine ⟨hl.trans hC, n, fun j f hj => ?_⟩
 obtain ⟨ho, hk⟩ := hone_of hone j f hj
 have hjl : j < fs.size := (Array.getElem?_eq_some_iff.1 hj).1
 have hcl : j < cs.length := by omega
 have hyj : j < ys.length := by omega
 have h1 := hf j f hj
 rw [ho, hk, List.drop_eq_getElem_cons hcl, List.take_succ_cons, List.take_zero] at h1
 exact ⟨cs[j], ys[j], List.getElem?_eq_getElem hcl, h1.trans (List.getElem?_eq_getElem hyj)⟩
theorem FW {S : Type} (n : Nat) (R : Nat → S → Prop) (h : ∀ i, i < n → ∃ s, R i s) : ∃ l : List S, l.length = n ∧ ∀ i s, l[i]? = some s → R i s := by
 induction n with
 | zero => exact ⟨[], rfl, fun i s hs => by simp at hs⟩
 | succ n ih =>
  obtain ⟨l, hl, hr⟩ := ih fun i hi => h i (by omega)
  obtain ⟨s, hs⟩ := h n (by omega)
  refine ⟨l ++ [s], by simp [hl], fun i t ht => ?_⟩
  by_cases hi : i < n
  ·rw [List.getElem?_append_left (by omega)] at ht; exact hr i t ht
  ·rw [List.getElem?_append_right (by omega)] at ht
   by_cases e : i = n
   ·subst e; rw [hl, Nat.sub_self] at ht; simp at ht; subst ht; exact hs
   ·rw [List.getElem?_eq_none (by simp; omega)] at ht; cases ht
theorem Bo {S : Type} (k : Kd S) (good : S → Prop) {t e : TypeId} {a : Option Addr} {len cap : Nat} {d : DataW H} {ps : List MemPlace} (hu : P.underlying t = some (.slice e)) (hC : P.cellsOf e = k.sz) (hpos : 0 < k.sz)
  (open1 : ∀ fuel cs x, DataW.trod enc P W base spare held fuel e cs = some x → ∃ s, k.K W s cs ∧ good s) (h : DataW.Trod enc P W base spare held t (.slice a len cap) d ps) :
  ∃ l : List S, len = l.length ∧ Kd.C k W a l.length l ∧ l.length ≤ cap ∧ l.length ≤ maxLen ∧ ∀ s ∈ l, good s := by
 obtain ⟨fuel, hf⟩ := h
 rcases open_slice hu hf with ⟨hcs, _⟩ | ⟨x, l, c, m, n, D, Pl, hcs, _, hl, hm, hmm, _, hi⟩
 ·simp [Value.cells] at hcs
  obtain ⟨rfl, rfl, rfl⟩ := hcs
  exact ⟨[], rfl, Kd.Iq _ _, Nat.le_refl _, Nat.zero_le _, by simp⟩
 ·simp [Value.cells] at hcs
  obtain ⟨rfl, rfl, rfl⟩ := hcs
  have hlm : len ≤ m := by rw [hmm]; split <;> omega
  obtain ⟨L, hL, hR⟩ := FW len (fun i s => good s ∧ ∃ cs', k.K W s cs' ∧ cs'.length = k.sz ∧ ∀ j u, cs'[j]? = some u → W.cell? (x.add (i * k.sz + j)) = some u) (fun i hi' => by
   obtain ⟨cs', hc, ht⟩ := hi i (by omega)
   obtain ⟨s, hs, hg⟩ := open1 _ _ _ ht
   rw [hC] at hc
   obtain ⟨_, hcl, hat⟩ := World.cells?_some hc
   refine ⟨s, hg, cs', hs, hcl, fun j u hj => ?_⟩
   have hjl : j < k.sz := by rw [← hcl]; exact (List.getElem?_eq_some_iff.1 hj).1
   have := hat j hjl
   rw [← Go.Deep.add_add]; rw [this]; exact hj)
  refine ⟨L, hL.symm, ⟨rfl, by unfold maxLen at hm; omega, fun _ => ⟨x, rfl, fun j p hp => ?_⟩⟩, by omega, by omega, fun s hs => ?_⟩
  ·obtain ⟨_, c, h1, h2, h3⟩ := hR j p hp
   exact ⟨c, h2, h1, h3⟩
  ·obtain ⟨i, hi', he⟩ := List.getElem_of_mem hs
   exact (hR i s (by rw [List.getElem?_eq_getElem hi', he])).1
end
end Go.Y.ko
namespace Go.Y.ko
open Go.RowKit Go.ChangeShapes Go.WideShapes Go.Deep Go.V.aC Go.Y.PRd Go.Y.PRr
structure pE (s : S44) : Prop where
 n0 : s.f0.size ≤ maxLen
 n4 : s.f4.size ≤ maxLen
 i1 : (Lit.int .i64 s.f1).wf = true
 i2 : (Lit.int .i64 s.f2).wf = true
 i3 : (Lit.int .i64 s.f3).wf = true
section
variable {H : Type} {enc : TypeId × Value → H} {W : World} {base : Nat} {spare : Nat → Bool} {held : Bool}
theorem Im {fuel : Nat} {cs : List Value} {x : DataW H × List MemPlace} (h : DataW.trod enc Tryz.prog W base spare held fuel 44 cs = some x) : ∃ s : S44, cs = [.string s.f0, .int .i64 s.f1, .int .i64 s.f2, .int .i64 s.f3, .string s.f4] ∧ pE s := by
 obtain ⟨hl, n, hf⟩ := fields_of Tryz.underlying44 (by kernel_rfl) (by kernel_rfl) h
 obtain ⟨v0, y0, c0, h0⟩ := hf 0 _ rfl
 obtain ⟨v1, y1, c1, h1⟩ := hf 1 _ rfl
 obtain ⟨v2, y2, c2, h2⟩ := hf 2 _ rfl
 obtain ⟨v3, y3, c3, h3⟩ := hf 3 _ rfl
 obtain ⟨v4, y4, c4, h4⟩ := hf 4 _ rfl
 obtain ⟨s, e0, _, g0⟩ := DataW.trod_string Tryz.underlying9 h0
 obtain ⟨a, e1, _, g1⟩ := DataW.trod_int Tryz.underlying3 h1
 obtain ⟨b, e2, _, g2⟩ := DataW.trod_int Tryz.underlying3 h2
 obtain ⟨c, e3, _, g3⟩ := DataW.trod_int Tryz.underlying3 h3
 obtain ⟨d, e4, _, g4⟩ := DataW.trod_string Tryz.underlying9 h4
 obtain rfl : v0 = .string s := by simpa using e0
 obtain rfl : v1 = .int .i64 a := by simpa using e1
 obtain rfl : v2 = .int .i64 b := by simpa using e2
 obtain rfl : v3 = .int .i64 c := by simpa using e3
 obtain rfl : v4 = .string d := by simpa using e4
 have : cs = [.string s, .int .i64 a, .int .i64 b, .int .i64 c, .string d] := by
  match cs, hl with
  | [p, q, r, t, u], _ => simp at c0 c1 c2 c3 c4; rw [c0, c1, c2, c3, c4]
 exact ⟨⟨s, a, b, c, d⟩, this, ⟨g0, g4, g1, g2, g3⟩⟩
theorem xU {t : TypeId} {a : Option Addr} {len cap : Nat} {d : DataW H} {ps : List MemPlace} (hu : Tryz.prog.underlying t = some (.slice 44)) (h : DataW.Trod enc Tryz.prog W base spare held t (.slice a len cap) d ps) :
  ∃ l : List S44, len = l.length ∧ Kd.C k44 W a l.length l ∧ l.length ≤ cap ∧ l.length ≤ maxLen ∧ ∀ s ∈ l, pE s :=
 Bo k44 pE hu (by kernel_rfl) (by decide) (fun _ _ _ h => by
  obtain ⟨s, rfl, hg⟩ := Im h
  exact ⟨s, GU W s, hg⟩) h
end
end Go.Y.ko
namespace Go.Y.Rrs
open Go.RowKit Go.V.aC Go.V.aK Go.V.aQ Go.Y.Given Go.Y.PRd Go.Y.PRr Go.Y.PZo Go.Y.PZf Go.Y.PZh Go.Y.Name Go.Y.fC Go.Y.gH
abbrev exA : ByteArray := ⟨#[2, 101, 120, 0]⟩
theorem Cv {a : ByteArray} {s : List RR} (h : BI a s) : ∀ y ∈ s, fine y := h.set.all
theorem sJ {l : List RR} (h : ∀ y ∈ l, fM y = true) : ∀ y ∈ l, fine y := fun y hy => mE (h y hy)
theorem yB (a : ByteArray) (s : List RR) (r : RR) (h : ¬ r.f2 = 1) : mF a s [r] = mq a s r := by
 unfold mF
 rw [iW, iW]
 by_cases h0 : mq a s r = 0
 ·rw [if_pos h0, if_pos rfl]
  have hk : mg [r] = [] := by
   unfold mg
   rw [List.filter_cons, beq_eq_false_iff_ne.mpr h]; rfl
  rw [hk, lZ, h0]
 ·rw [if_neg h0, if_neg h0]
theorem oO (a : ByteArray) (s : List RR) : ∀ l m, iW a s (l ++ m) = if iW a s l = 0 then iW a s m else iW a s l
 | [], m => by rw [List.nil_append, iW, if_pos rfl]
 | r :: l, m => by
  rw [List.cons_append, iW, iW, oO a s l m]
  by_cases h : mq a s r = 0
  ·rw [if_pos h, if_pos h]
  ·rw [if_neg h, if_neg h, if_neg h]
theorem Ch {l : List RR} (h : ∀ y ∈ l, ¬ y.f2 = 1) : mg l = [] := by
 unfold mg
 rw [List.filter_eq_nil_iff]
 intro y hy
 rw [beq_iff_eq]; exact h y hy
theorem Bq (a : ByteArray) (s m more : List RR) (z : Int) (fs : ∀ y ∈ s, fine y) (ns : s.length ≤ 30) (fm : ∀ y ∈ m, fine y) (nm : m.length ≤ 30) (fo : ∀ y ∈ more, fine y) (no : more.length ≤ 30) : ∀ (d i : Nat) (all : List RR), m.length ≤ i + d → i ≤ m.length → all.length ≤ i → (∀ y ∈ all, fine y) → (∀ y ∈ all, ¬ y.f2 = 1) → iW a s all = 0 → Ev (fun k => aA.l0 k m more all (i : Int) a s z) true := by
 have hend : ∀ (i : Nat) (all : List RR), m.length ≤ i → all.length ≤ 30 → (∀ y ∈ all, fine y) → (∀ y ∈ all, ¬ y.f2 = 1) → iW a s all = 0 → Ev (fun k => aA.l0 k m more all (i : Int) a s z) true := by
  intro i all hd ha fa na h0
  have hs : ∀ k, aA.l0 (k + 1) m more all (i : Int) a s z = (aT.f k a s z all).bind fun t => some (t == 0) := fun k => by
   rw [aA.l0]; rw [if_neg (by omega)]
  have hc := nK a s z fs (by omega) all fa (by omega)
  have e : mF a s all = 0 := by
   unfold mF
   rw [if_pos h0, Ch na, lZ]
  rw [e] at hc
  exact Ev.step hs (Ev.bind hc (Ev.now _))
 intro d
 induction d with
 | zero => exact fun i all hd hi0 ha fa na h0 => hend i all (by omega) (by omega) fa na h0
 | succ d ih =>
  intro i all hd hi0 ha fa na h0
  by_cases hi : i < m.length
  ·have e1 : wrap64 ((i : Int) + 1) = ((i + 1 : Nat) : Int) := by unfold wrap64; omega
   have fr : fine m[i] := fm _ (List.getElem_mem _)
   have hs : ∀ k, aA.l0 (k + 1) m more all (i : Int) a s z = if (rdR m (i : Int)).f2 = 1 then aA.l0 k m more all ((i + 1 : Nat) : Int) a s z else (aT.f k a s z [rdR m (i : Int)]).bind fun t => if t = 0 then aA.l0 k m more (all ++ [rdR m (i : Int)]) ((i + 1 : Nat) : Int) a s z else (aT.f k a s z ((all ++ [rdR m (i : Int)]) ++ more)).bind fun u => some (u == t) := fun k => by
    rw [aA.l0, e1]
    rw [if_pos (by omega), if_pos (by omega)]
    by_cases h : (rdR m (i : Int)).f2 = 1
    ·rw [if_pos h, if_pos h]
    ·rw [if_neg h, if_neg h, if_pos (show all.length < _ by omega), Option.bind_some]
     congr 1
     funext u
     split
     ·rfl
     ·rw [if_pos (by rw [List.length_append, List.length_singleton]; omega)]
   rw [dZ m i hi] at hs
   refine Ev.step hs ?_
   by_cases h1 : m[i].f2 = 1
   ·simp only [h1, if_true]
    exact ih (i + 1) all (by omega) (by omega) (by omega) fa na h0
   ·simp only [h1, if_false]
    have hc := nK a s z fs (by omega) [m[i]] (fun y hy => by rw [List.mem_singleton.mp hy]; exact fr) (by simp)
    rw [yB a s m[i] h1] at hc
    refine Ev.bind hc ?_
    have fa' : ∀ y ∈ all ++ [m[i]], fine y := fun y hy => by
     rcases List.mem_append.mp hy with h | h
     ·exact fa y h
     ·rw [List.mem_singleton.mp h]; exact fr
    have hones : iW a s (all ++ [m[i]]) = mq a s m[i] := by
     rw [oO, if_pos h0, iW, iW]
     by_cases h : mq a s m[i] = 0
     ·rw [if_pos h, h]
     ·rw [if_neg h]
    by_cases hz : mq a s m[i] = 0
    ·simp only [hz, if_true]
     refine ih (i + 1) (all ++ [m[i]]) (by omega) (by omega) (by rw [List.length_append, List.length_singleton]; omega) fa' (fun y hy => ?_) (by rw [hones, hz])
     rcases List.mem_append.mp hy with h | h
     ·exact na y h
     ·rw [List.mem_singleton.mp h]; exact h1
    ·simp only [hz, if_false]
     have hc2 := nK a s z fs (by omega) ((all ++ [m[i]]) ++ more) (fun y hy => by
      rcases List.mem_append.mp hy with h | h
      ·exact fa' y h
      ·exact fo y h) (by simp only [List.length_append, List.length_singleton]; omega)
     have e : mF a s ((all ++ [m[i]]) ++ more) = mq a s m[i] := by
      unfold mF
      rw [oO, hones, if_neg hz, if_neg hz]
     rw [e] at hc2
     refine Ev.bind hc2 ?_
     rw [beq_self_eq_true]
     exact Ev.now _
  ·exact hend i all (by omega) (by omega) fa na h0
theorem qU (l m o : List RR) : Ev (fun k => aA.j0 k l m o true) true :=
 Ev.step (f := fun k => (dO.f k).bind fun t => some t) (fun k => by rw [aA.j0, if_pos rfl]) (Ev.bind uq (Ev.now _))
theorem EO (l m o : List RR) (nl : l.length ≤ 30) (nm : m.length ≤ 30) (hm : ∀ y ∈ m, fM y = true) (no : o.length ≤ 30) (ho : ∀ y ∈ o, fM y = true) : Ev (fun k => aA.j0 k l m o false) true := by
 have hst : ∀ k, aA.j0 (k + 1) l m o false = (bK.f k exA l).bind fun p => if p.2.2.2 = 0 then aA.l0 k m o [] 0 p.1 p.2.1 p.2.2.1 else some true := fun k => by
  rw [aA.j0, if_neg (by decide)]
 refine Ev.step hst (Ev.bind (BR exA l (by omega)) ?_)
 rcases EW exA l (by omega) with ⟨s, hS, hsl, e1, e2, _⟩ | ⟨e, he, e1, e2⟩
 ·rw [e1]
  simp only [if_true]
  exact Bq exA s m o _ (Cv hS) (by omega) (sJ hm) nm (sJ ho) no m.length 0 [] (by omega) (Nat.zero_le _) (Nat.le_refl _) (fun y hy => by cases hy) (fun y hy => by cases hy) rfl
 ·rw [e1]
  simp only [he, if_false]
  exact Ev.now _
end Go.Y.Rrs
namespace Go.Y.Pure
open Go.RowKit Go.V.aC Go.Y.Given Go.Y.PRd Go.Y.PRr Go.Y.PZf Go.Y.PZh Go.Y.Rrs Go.Y.ko
theorem PrereqFirst (l m o : List RR) (nl : l.length ≤ maxLen) (hl : ∀ s ∈ l, pE s) (nm : m.length ≤ maxLen) (hm : ∀ s ∈ m, pE s) (no : o.length ≤ maxLen) (ho : ∀ s ∈ o, pE s) : ∃ k, aA.f k l m o = some true := by
 refine Ev.rounds ?_
 unfold maxLen at nl nm no
 unfold aA.f
 refine Ev.bind uq ?_
 simp only [if_true]
 obtain ⟨b, hb, h1⟩ := GV l (by omega)
 refine Ev.bind hb ?_
 cases b
 ·simp only [Bool.false_eq_true, if_false]; exact qU l m o
 ·simp only [if_true]
  obtain ⟨c, hc, h2⟩ := sN m (by omega)
  refine Ev.bind hc ?_
  cases c
  ·simp only [Bool.false_eq_true, if_false]; exact qU l m o
  ·simp only [if_true]
   obtain ⟨d, hd, h3⟩ := sN o (by omega)
   refine Ev.bind hd ?_
   cases d
   ·simp only [Bool.not_false]; exact qU l m o
   ·simp only [Bool.not_true]; exact EO l m o (h1 rfl) (h2 rfl).1 (h2 rfl).2 (h3 rfl).1 (h3 rfl).2
end Go.Y.Pure
