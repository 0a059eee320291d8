/- Joined out of this session's own texts: contracts and facts that the claim's row is drawn from, each with its own conditions. -/
import Derived.Test.YtehdkopjgcoclaaGreatJoined4
import Derived.Deep.Slices
import Derived.Deep.Fields
import Derived.ProofKit
set_option linter.unusedSimpArgs false
set_option linter.unusedVariables false
set_option maxHeartbeats 40000000
set_option maxRecDepth 100000
open Go.Proofs
namespace Go.Y.PZh
open Go.RowKit Go.V.aD Go.V.aN Go.V.aR Go.Y.Given Go.Y.PRd Go.Y.PRr Go.Y.PZo Go.Y.PZf Go.Y.PZe
attribute [local go_sem] dn dh dJ dK bU bT cZ dw   -- for this text's walks alone
mutual
noncomputable def aX.l0 : Nat → List (S44) → List (S44) → Int → Int → ByteArray → List (S44) → Int → Option (Int)
 | 0, _, _, _, _, _, _, _ => none
 | k + 1, x5, x11, x12, x13, x235000, x235001, x235002 => if x13 < x12 then (if 0 ≤ x13 then (if x13 < (x11.length : Int) then ((dF.f k x235000 x235001 x235002 ((aj x11 x13).f0) ((aj x11 x13).f1) ((aj x11 x13).f2) ((aj x11 x13).f3) ((aj x11 x13).f4)).bind fun t237 => (if t237 = 0 then (if ((aj x11 x13).f2) = 1 then (if x5.length < 2513169434916 then (aX.l0 k (x5 ++ [(⟨(aj x11 x13).f0, (aj x11 x13).f1, (aj x11 x13).f2, (aj x11 x13).f3, (aj x11 x13).f4⟩ : S44)]) x11 x12 (wrap64 (x13 + 1)) x235000 x235001 x235002) else (none)) else (aX.l0 k x5 x11 x12 (wrap64 (x13 + 1)) x235000 x235001 x235002)) else (some t237))) else (none)) else (none)) else (aX.l1 k x5 x5 (x5.length : Int) 0 x235000 x235001 x235002)
noncomputable def aX.l1 : Nat → List (S44) → List (S44) → Int → Int → ByteArray → List (S44) → Int → Option (Int)
 | 0, _, _, _, _, _, _, _ => none
 | k + 1, x5, x31, x32, x33, x235000, x235001, x235002 => if x33 < x32 then (if 0 ≤ x33 then (if x33 < (x31.length : Int) then ((dZ.f x235000 x235001 x235002 ((aj x31 x33).f0) ((aj x31 x33).f1)).bind fun t243 => ((jU.f x5 ((aj x31 x33).f0)).bind fun t246 => ((iA.f t246 ((aj x31 x33).f1)).bind fun t249 => ((jH.f k t243 t249).bind fun t252 => (if t252 = true then (aX.l1 k x5 x31 x32 (wrap64 (x33 + 1)) x235000 x235001 x235002) else (some 8)))))) else (none)) else (none)) else (some 0)
end
noncomputable def aX.f (k : Nat) (a0_0 : ByteArray) (l0_1 : List (S44)) (a0_2 : Int) (l1 : List (S44)) : Option (Int) := aX.l0 k ([] : List (S44)) l1 (l1.length : Int) 0 a0_0 l0_1 a0_2
def aX.T14 : Bool × List (List Nat × List Nat) := (true, [([], []), ([], []), ([1], [1]), ([], []), ([3], [3]), ([0, 2, 4], [0, 2, 4]), ([], []), ([], []), ([7], [7]), ([6, 8, 5], [6, 8]), ([], []), ([10], [10]), ([9, 11, 9], [9, 11]), ([5, 12, 12], [5, 12]), ([13], [13])])
def aX.B14 : List Nat := [0, 0, 2, 0, 8, 31, 0, 0, 128, 511, 0, 1024, 4095, 8191, 16383]
theorem aX.Ay : dP .any (opsOf Tryz.f24 14) = aX.T14 := by kernel_rfl
theorem aX.yJ : dS aX.T14.2 aX.B14 = true := by kernel_rfl
theorem aX.calls (k : Nat) (a0_0 : ByteArray) (A0_1 : Option Addr) (c0_1 : Nat) (l0_1 : List (S44)) (a0_2 : Int) (A1 : Option Addr) (c1 : Nat) (l1 : List (S44)) (r : Int) (w : World) (hr0_1 : Kd.C k44 w A0_1 l0_1.length l0_1) (hc0_1 : l0_1.length ≤ c0_1) (hr1 : Kd.C k44 w A1 l1.length l1) (hc1 : l1.length ≤ c1) (h : aX.f k a0_0 l0_1 a0_2 l1 = some r) :
    Calls Tryz.prog 24 #[.agg #[.string a0_0, .slice A0_1 l0_1.length c0_1, .int .i64 a0_2], .slice A1 l1.length c1] w fun e w' => e = .returned (.int .i64 r) ∧ Below w.heap.size w w' := by
  have hu26 := Tryz.underlying26
  have hu44 := Tryz.underlying44
  have HR0_1 := ah.mk hr0_1
  have HC0_1 := ah.mk hc0_1
  clear hr0_1 hc0_1
  have HR1 := ah.mk hr1
  have HC1 := ah.mk hc1
  clear hr1 hc1
  have HB := ah.mk (Below.refl w.heap.size w)
  have H : (aX.l0 k ([] : List (S44)) l1 (l1.length : Int) 0 a0_0 l0_1 a0_2) = some r := h
  clear h
  have H' := ah.mk H
  clear H
  go_enter Tryz.func24, Tryz.ntmps24
  go_wp2_with ((((with_reducible refine bB (N := 2) rfl ?_); refine bG ?hg (N := 2) ?hd (cs := #[.string a0_0, .slice A0_1 l0_1.length c0_1, .int .i64 a0_2]) (t := 26) ?hr ?_; (case hd => rfl); (case hg => rfl); (case hr => (go_simp; done)); intro gb234 hg w3 hbox hb; have BK234 := ah.mk (hbox); have GW234 := ah.mk (ge_ hg (aA HB.out)); have GE234 := ah.mk (ge_ hg (aA HB.out)); replace HB := ah.mk (au HB.out hb); clear hb hbox hg)))
  go_loopg [5, 13] k (fun kq v5 v13 w' => ∃ (x5_1 : List (S44)) (x13_1 : Int), v13 = .int .i64 x13_1 ∧ ah (aX.l0 kq x5_1 l1 (l1.length : Int) x13_1 a0_0 l0_1 a0_2 = some r) ∧ ah (kq ≤ k) ∧ ah (Kd.R k44 44 w' w.heap.size (fun _ => True) v5 x5_1) ∧ ah (w'.heap[gb234]? = some (.cells #[.string a0_0, (.slice A0_1 l0_1.length c0_1), .int .i64 a0_2] 26 (0, 0))) ∧ ah (Below w.heap.size w w'))
  case atStart => exact ⟨(([] : List (S44))), (0), (by rfl), H', ⟨Nat.le_refl _⟩, ⟨by (exact Kd.gL _ _ _ _ _)⟩, ⟨by (with_reducible repeat ((refine ak ?_ _))); exact BK234.out⟩, ⟨HB.out⟩⟩
  case round =>
   clear H'
   obtain ⟨x5_1, x13_1, rfl, HA, HK1, HO_5, BK234, HB⟩ := hrel
   cases gk with
   | zero => exact absurd HA.out (by simp [aX.l0])
   | succ k1 =>
    have H := HA.out
    clear HA
    simp only [aX.l0] at H
    by_cases c4 : x13_1 < (l1.length : Int)
    ·rw [if_pos c4] at H
     have c4b0 : decide (x13_1 < (l1.length : Int)) = true := decide_eq_true c4
     clear c4
     obtain ⟨c5b0, H⟩ := dL H
     obtain ⟨c6b0, H⟩ := dL H
     obtain ⟨t237, A7, H⟩ := bR H
     by_cases c8 : t237 = 0
     focus
      rw [if_pos c8] at H
      have c8b0 : (t237 == 0) = true := beq_iff_eq.mpr c8
      have c8b1 : (t237 != 0) = false := bne_eq_false_iff_eq.mpr c8
      clear c8
      by_cases c9 : ((aj l1 x13_1).f2) = 1
      focus
       rw [if_pos c9] at H
       have c9b0 : (((aj l1 x13_1).f2) == 1) = true := beq_iff_eq.mpr c9
       have c9b1 : (((aj l1 x13_1).f2) != 1) = false := bne_eq_false_iff_eq.mpr c9
       clear c9
       obtain ⟨c10, H⟩ := gd_ H
       have LMc10 := ah.mk c10
       clear c10
       obtain ⟨y238, hy238⟩ : ∃ y_ : List (S44), y_ = (x5_1 ++ [(⟨(aj l1 x13_1).f0, (aj l1 x13_1).f1, (aj l1 x13_1).f2, (aj l1 x13_1).f3, (aj l1 x13_1).f4⟩ : S44)]) := ⟨_, rfl⟩
       replace H : (aX.l0 k1 y238 l1 (l1.length : Int) (wrap64 (x13_1 + 1)) a0_0 l0_1 a0_2) = some r := by (rw [hy238]; with_reducible exact H)
       have Ny238 := ah.mk hy238
       clear hy238
      rotate_left
      focus
       rw [if_neg c9] at H
       have c9b0 : (((aj l1 x13_1).f2) == 1) = false := beq_eq_false_iff_ne.mpr c9
       have c9b1 : (((aj l1 x13_1).f2) != 1) = true := bne_iff_ne.mpr c9
      rotate_left
      all_goals
       have H' := ah.mk H
       clear H
     rotate_left 2
     focus
      rw [if_neg c8] at H
      have c8b0 : (t237 == 0) = false := beq_eq_false_iff_ne.mpr c8
      have c8b1 : (t237 != 0) = true := bne_iff_ne.mpr c8
      obtain rfl := Option.some.inj H
     rotate_left
     all_goals
      have p235 : 0 ≤ (x13_1 : Int) := of_decide_eq_true (by assumption)
      have q235 : x13_1 < (l1.length : Int) := of_decide_eq_true (by assumption)
      obtain ⟨ad235, e235, hx235_0, hx235_1, hx235_2, hx235_3, hx235_4⟩ := dU HR1.out x13_1 p235 q235
      cases e235
      replace hx235_0 := kp_ HB.out hx235_0
      replace hx235_1 := kp_ HB.out hx235_1
      replace hx235_2 := kp_ HB.out hx235_2
      replace hx235_3 := kp_ HB.out hx235_3
      replace hx235_4 := kp_ HB.out hx235_4
      replace p235 := eq_true p235
      replace q235 := eq_true q235
     ·go_wp2_with (first | ((with_reducible refine bB (N := 7) rfl ?_); refine bG ?hg (N := 7) ?hd (cs := #[.string (⟨#[]⟩ : ByteArray), .int .i64 0, .int .i64 0, .int .i64 0, .string (⟨#[]⟩ : ByteArray)]) (t := 44) ?hr ?_; (case hd => rfl); (case hg => rfl); (case hr => (go_simp; done)); intro gb236 hg w11 hbox hb; have BK236 := ah.mk (hbox); have GW236 := ah.mk (ge_ hg (aA HB.out)); have GE236 := ah.mk (ge_ hg (aA HB.out)); have NB234_236 := ah.mk (nl_ hg (by ((exact BK234.out)))); have NB236_234 := ah.mk (nr_ hg (by ((exact BK234.out)))); replace HO_5 := ah.mk (Kd.aY (Kd.lU (by ((exact HO_5.out))) gb236 (Nat.le_of_eq hg.symm)) hb); replace BK234 := ah.mk (ay (by ((exact BK234.out))) hb); replace HB := ah.mk (au HB.out hb); clear hb hbox hg; have hnb12 := NB236_234.out; have hnc12 := NB234_236.out; obtain ⟨hcz13_0, hcz13_1, hcz13_2, hcz13_3, hcz13_4, hfz13_0, hfz13_1, hfz13_2, hfz13_3, hfz13_4⟩ := z5_ BK236.out; obtain ⟨hcz14_0, hcz14_1, hcz14_2, hfz14_0, hfz14_1, hfz14_2⟩ := z3_ BK234.out) | ((with_reducible refine bF (f := 58) rfl ?_); refine dM (some 19) rfl rfl Tryz.func58 (by kernel_rfl) rfl #[.agg #[.string a0_0, .slice A0_1 l0_1.length c0_1, .int .i64 a0_2], .agg #[.string ((aj l1 x13_1).f0), .int .i64 ((aj l1 x13_1).f1), .int .i64 ((aj l1 x13_1).f2), .int .i64 ((aj l1 x13_1).f3), .string ((aj l1 x13_1).f4)]] rfl (by (try simp only [mA_, mC_, mN_]); rfl) ?_; (with_reducible refine (dF.calls k1 a0_0 _ _ l0_1 a0_2 ((aj l1 x13_1).f0) ((aj l1 x13_1).f1) ((aj l1 x13_1).f2) ((aj l1 x13_1).f3) ((aj l1 x13_1).f4) t237 _ ?side1 ?side2 A7.out).mono ?_); (case side1 => exact Kd.fH HR0_1.out (by repeat ((with_reducible first | exact HB.out | refine bS ?_ GE236.out)))); (case side2 => exact HC0_1.out); rintro e w15 ⟨rfl, hb⟩; refine ⟨_, rfl, ?_⟩; replace HO_5 := ah.mk (Kd.aY (by (with_reducible repeat ((apply Kd.aG))); exact (Kd.bN (Kd.bV (p := ⟨gb236, 4, none⟩) (Kd.bV (p := ⟨gb236, 3, none⟩) (Kd.bV (p := ⟨gb236, 2, none⟩) (Kd.bV (p := ⟨gb236, 1, none⟩) (Kd.bV (p := ⟨gb236, 0, none⟩) (Kd.bN HO_5.out (fun k_ hk => (⟨hk, hk.2⟩ : _ ∧ k_ ≠ gb236))) (fun _ hk => hk.2) (.string ((aj l1 x13_1).f0))) (fun _ hk => hk.2) (.int .i64 ((aj l1 x13_1).f1))) (fun _ hk => hk.2) (.int .i64 ((aj l1 x13_1).f2))) (fun _ hk => hk.2) (.int .i64 ((aj l1 x13_1).f3))) (fun _ hk => hk.2) (.string ((aj l1 x13_1).f4))) (fun _ h_ => h_.1))) hb); replace BK234 := ah.mk (ay (g := gb234) (o := .cells #[.string a0_0, .slice A0_1 l0_1.length c0_1, .int .i64 a0_2] 26 (0, 0)) (by (with_reducible repeat ((refine ak ?_ _))); refine aT ?_ NB234_236.out _; (with_reducible repeat ((refine ak ?_ _))); refine aT ?_ NB234_236.out _; (with_reducible repeat ((refine ak ?_ _))); refine aT ?_ NB234_236.out _; (with_reducible repeat ((refine ak ?_ _))); refine aT ?_ NB234_236.out _; (with_reducible repeat ((refine ak ?_ _))); refine aT ?_ NB234_236.out _; (with_reducible repeat ((refine ak ?_ _))); exact BK234.out) hb); replace BK236 := ah.mk (ay (g := gb236) (o := .cells #[.string ((aj l1 x13_1).f0), .int .i64 ((aj l1 x13_1).f1), .int .i64 ((aj l1 x13_1).f2), .int .i64 ((aj l1 x13_1).f3), .string ((aj l1 x13_1).f4)] 44 (0, 0)) (by (with_reducible repeat ((refine ak ?_ _))); refine aM (cs := #[.string ((aj l1 x13_1).f0), .int .i64 ((aj l1 x13_1).f1), .int .i64 ((aj l1 x13_1).f2), .int .i64 ((aj l1 x13_1).f3), .string (⟨#[]⟩ : ByteArray)]) ?_ 4 _ rfl; (with_reducible repeat ((refine ak ?_ _))); refine aM (cs := #[.string ((aj l1 x13_1).f0), .int .i64 ((aj l1 x13_1).f1), .int .i64 ((aj l1 x13_1).f2), .int .i64 0, .string (⟨#[]⟩ : ByteArray)]) ?_ 3 _ rfl; (with_reducible repeat ((refine ak ?_ _))); refine aM (cs := #[.string ((aj l1 x13_1).f0), .int .i64 ((aj l1 x13_1).f1), .int .i64 0, .int .i64 0, .string (⟨#[]⟩ : ByteArray)]) ?_ 2 _ rfl; (with_reducible repeat ((refine ak ?_ _))); refine aM (cs := #[.string ((aj l1 x13_1).f0), .int .i64 0, .int .i64 0, .int .i64 0, .string (⟨#[]⟩ : ByteArray)]) ?_ 1 _ rfl; (with_reducible repeat ((refine ak ?_ _))); refine aM (cs := #[.string (⟨#[]⟩ : ByteArray), .int .i64 0, .int .i64 0, .int .i64 0, .string (⟨#[]⟩ : ByteArray)]) ?_ 0 _ rfl; (with_reducible repeat ((refine ak ?_ _))); exact BK236.out) hb); replace HB := ah.mk (au (by repeat ((with_reducible first | exact HB.out | refine bS ?_ GE236.out))) hb); (try clear hb); obtain ⟨hcz16_0, hcz16_1, hcz16_2, hcz16_3, hcz16_4, hfz16_0, hfz16_1, hfz16_2, hfz16_3, hfz16_4⟩ := z5_ BK236.out) | ((with_reducible refine ig (b := .append) (xs := #[.tmp 26, .tmp 28]) rfl ?_); at_builtin; refine Kd.jG k44 (w0 := w) w.heap.size rfl (.tmp 26) (.tmp 28) 22 44 (.agg #[(.string ⟨#[]⟩), (.int .i64 0), (.int .i64 0), (.int .i64 0), (.string ⟨#[]⟩)]) 56 rfl Tryz.underlying22 xK rfl (by decide) (by omega) u5 x5_1 (⟨(aj l1 x13_1).f0, (aj l1 x13_1).f1, (aj l1 x13_1).f2, (aj l1 x13_1).f3, (aj l1 x13_1).f4⟩ : S44) [.string ((aj l1 x13_1).f0), .int .i64 ((aj l1 x13_1).f1), .int .i64 ((aj l1 x13_1).f2), .int .i64 ((aj l1 x13_1).f3), .string ((aj l1 x13_1).f4)] (fun k_ => k_ ≠ gb236) (fun _ => False) rfl rfl ?aP (fun _ hk => hk.elim) ?aF ?aO ?aB ?aS ?aL ?_; (case aP => exact gQ _ _ _ (⟨(aj l1 x13_1).f0, (aj l1 x13_1).f1, (aj l1 x13_1).f2, (aj l1 x13_1).f3, (aj l1 x13_1).f4⟩ : S44)); (case aB => exact HB.out); (case aF => exact (fun k_ hk => Kd.Iw (g := gb236) (o := .cells #[.string ((aj l1 x13_1).f0), .int .i64 ((aj l1 x13_1).f1), .int .i64 ((aj l1 x13_1).f2), .int .i64 ((aj l1 x13_1).f3), .string ((aj l1 x13_1).f4)] 44 (0, 0)) (by ((exact BK236.out))) k_ hk)); (case aO => exact (by (with_reducible repeat ((apply Kd.aG))); exact Kd.bN HO_5.out (fun _ hk => hk.2))); (case aS => exact (aA HB.out)); (case aL => have := LMc10.out; omega); intro v239 w17 ho hb hg hat; rw [← Ny238.out] at ho; have n0_ := ah.mk (jv (g := gb234) (o := .cells #[.string a0_0, .slice A0_1 l0_1.length c0_1, .int .i64 a0_2] 26 (0, 0)) (by ((exact BK234.out))) hg (Kd.Jr HO_5.out BK234.out (by decide))); have n1_ := ah.mk (jv (g := gb236) (o := .cells #[.string ((aj l1 x13_1).f0), .int .i64 ((aj l1 x13_1).f1), .int .i64 ((aj l1 x13_1).f2), .int .i64 ((aj l1 x13_1).f3), .string ((aj l1 x13_1).f4)] 44 (0, 0)) (by ((exact BK236.out))) hg (Kd.Il HO_5.out (fun _ hk => hk.2))); have n2_ := ah.mk (hb); have n3_ := ah.mk (ho); clear BK234; clear BK236; clear HB; clear HO_5; have BK234 := n0_; have BK236 := n1_; have HB := n2_; have HO240 := n3_; clear n0_ n1_ n2_ n3_; clear ho hb hg hat))
      go_roundg k1
      case measure => have := HK1.out; omega
      case rel => exact ⟨(y238), (wrap64 (x13_1 + 1)), (by rfl), H', ⟨by have := HK1.out; omega⟩, ⟨by (with_reducible repeat ((apply Kd.aG))); exact Kd.bN HO240.out (fun _ hk => trivial)⟩, ⟨by (with_reducible repeat ((refine ak ?_ _))); exact BK234.out⟩, ⟨HB.out⟩⟩
     ·go_wp2_with (first | ((with_reducible refine bB (N := 7) rfl ?_); refine bG ?hg (N := 7) ?hd (cs := #[.string (⟨#[]⟩ : ByteArray), .int .i64 0, .int .i64 0, .int .i64 0, .string (⟨#[]⟩ : ByteArray)]) (t := 44) ?hr ?_; (case hd => rfl); (case hg => rfl); (case hr => (go_simp; done)); intro gb236 hg w18 hbox hb; have BK236 := ah.mk (hbox); have GW236 := ah.mk (ge_ hg (aA HB.out)); have GE236 := ah.mk (ge_ hg (aA HB.out)); have NB234_236 := ah.mk (nl_ hg (by ((exact BK234.out)))); have NB236_234 := ah.mk (nr_ hg (by ((exact BK234.out)))); replace HO_5 := ah.mk (Kd.aY (Kd.lU (by ((exact HO_5.out))) gb236 (Nat.le_of_eq hg.symm)) hb); replace BK234 := ah.mk (ay (by ((exact BK234.out))) hb); replace HB := ah.mk (au HB.out hb); clear hb hbox hg; have hnb19 := NB236_234.out; have hnc19 := NB234_236.out; obtain ⟨hcz20_0, hcz20_1, hcz20_2, hcz20_3, hcz20_4, hfz20_0, hfz20_1, hfz20_2, hfz20_3, hfz20_4⟩ := z5_ BK236.out; obtain ⟨hcz21_0, hcz21_1, hcz21_2, hfz21_0, hfz21_1, hfz21_2⟩ := z3_ BK234.out) | ((with_reducible refine bF (f := 58) rfl ?_); refine dM (some 19) rfl rfl Tryz.func58 (by kernel_rfl) rfl #[.agg #[.string a0_0, .slice A0_1 l0_1.length c0_1, .int .i64 a0_2], .agg #[.string ((aj l1 x13_1).f0), .int .i64 ((aj l1 x13_1).f1), .int .i64 ((aj l1 x13_1).f2), .int .i64 ((aj l1 x13_1).f3), .string ((aj l1 x13_1).f4)]] rfl (by (try simp only [mA_, mC_, mN_]); rfl) ?_; (with_reducible refine (dF.calls k1 a0_0 _ _ l0_1 a0_2 ((aj l1 x13_1).f0) ((aj l1 x13_1).f1) ((aj l1 x13_1).f2) ((aj l1 x13_1).f3) ((aj l1 x13_1).f4) t237 _ ?side1 ?side2 A7.out).mono ?_); (case side1 => exact Kd.fH HR0_1.out (by repeat ((with_reducible first | exact HB.out | refine bS ?_ GE236.out)))); (case side2 => exact HC0_1.out); rintro e w22 ⟨rfl, hb⟩; refine ⟨_, rfl, ?_⟩; replace HO_5 := ah.mk (Kd.aY (by (with_reducible repeat ((apply Kd.aG))); exact (Kd.bN (Kd.bV (p := ⟨gb236, 4, none⟩) (Kd.bV (p := ⟨gb236, 3, none⟩) (Kd.bV (p := ⟨gb236, 2, none⟩) (Kd.bV (p := ⟨gb236, 1, none⟩) (Kd.bV (p := ⟨gb236, 0, none⟩) (Kd.bN HO_5.out (fun k_ hk => (⟨hk, hk.2⟩ : _ ∧ k_ ≠ gb236))) (fun _ hk => hk.2) (.string ((aj l1 x13_1).f0))) (fun _ hk => hk.2) (.int .i64 ((aj l1 x13_1).f1))) (fun _ hk => hk.2) (.int .i64 ((aj l1 x13_1).f2))) (fun _ hk => hk.2) (.int .i64 ((aj l1 x13_1).f3))) (fun _ hk => hk.2) (.string ((aj l1 x13_1).f4))) (fun _ h_ => h_.1))) hb); replace BK234 := ah.mk (ay (g := gb234) (o := .cells #[.string a0_0, .slice A0_1 l0_1.length c0_1, .int .i64 a0_2] 26 (0, 0)) (by (with_reducible repeat ((refine ak ?_ _))); refine aT ?_ NB234_236.out _; (with_reducible repeat ((refine ak ?_ _))); refine aT ?_ NB234_236.out _; (with_reducible repeat ((refine ak ?_ _))); refine aT ?_ NB234_236.out _; (with_reducible repeat ((refine ak ?_ _))); refine aT ?_ NB234_236.out _; (with_reducible repeat ((refine ak ?_ _))); refine aT ?_ NB234_236.out _; (with_reducible repeat ((refine ak ?_ _))); exact BK234.out) hb); replace BK236 := ah.mk (ay (g := gb236) (o := .cells #[.string ((aj l1 x13_1).f0), .int .i64 ((aj l1 x13_1).f1), .int .i64 ((aj l1 x13_1).f2), .int .i64 ((aj l1 x13_1).f3), .string ((aj l1 x13_1).f4)] 44 (0, 0)) (by (with_reducible repeat ((refine ak ?_ _))); refine aM (cs := #[.string ((aj l1 x13_1).f0), .int .i64 ((aj l1 x13_1).f1), .int .i64 ((aj l1 x13_1).f2), .int .i64 ((aj l1 x13_1).f3), .string (⟨#[]⟩ : ByteArray)]) ?_ 4 _ rfl; (with_reducible repeat ((refine ak ?_ _))); refine aM (cs := #[.string ((aj l1 x13_1).f0), .int .i64 ((aj l1 x13_1).f1), .int .i64 ((aj l1 x13_1).f2), .int .i64 0, .string (⟨#[]⟩ : ByteArray)]) ?_ 3 _ rfl; (with_reducible repeat ((refine ak ?_ _))); refine aM (cs := #[.string ((aj l1 x13_1).f0), .int .i64 ((aj l1 x13_1).f1), .int .i64 0, .int .i64 0, .string (⟨#[]⟩ : ByteArray)]) ?_ 2 _ rfl; (with_reducible repeat ((refine ak ?_ _))); refine aM (cs := #[.string ((aj l1 x13_1).f0), .int .i64 0, .int .i64 0, .int .i64 0, .string (⟨#[]⟩ : ByteArray)]) ?_ 1 _ rfl; (with_reducible repeat ((refine ak ?_ _))); refine aM (cs := #[.string (⟨#[]⟩ : ByteArray), .int .i64 0, .int .i64 0, .int .i64 0, .string (⟨#[]⟩ : ByteArray)]) ?_ 0 _ rfl; (with_reducible repeat ((refine ak ?_ _))); exact BK236.out) hb); replace HB := ah.mk (au (by repeat ((with_reducible first | exact HB.out | refine bS ?_ GE236.out))) hb); (try clear hb); obtain ⟨hcz23_0, hcz23_1, hcz23_2, hcz23_3, hcz23_4, hfz23_0, hfz23_1, hfz23_2, hfz23_3, hfz23_4⟩ := z5_ BK236.out))
      go_roundg k1
      case measure => have := HK1.out; omega
      case rel => exact ⟨(x5_1), (wrap64 (x13_1 + 1)), (by rfl), H', ⟨by have := HK1.out; omega⟩, ⟨by (with_reducible repeat ((apply Kd.aG))); exact Kd.bN HO_5.out (fun _ hk => trivial)⟩, ⟨by (with_reducible repeat ((refine ak ?_ _))); exact BK234.out⟩, ⟨HB.out⟩⟩
     ·go_wp2_with (first | ((with_reducible refine bB (N := 7) rfl ?_); refine bG ?hg (N := 7) ?hd (cs := #[.string (⟨#[]⟩ : ByteArray), .int .i64 0, .int .i64 0, .int .i64 0, .string (⟨#[]⟩ : ByteArray)]) (t := 44) ?hr ?_; (case hd => rfl); (case hg => rfl); (case hr => (go_simp; done)); intro gb236 hg w24 hbox hb; have BK236 := ah.mk (hbox); have GW236 := ah.mk (ge_ hg (aA HB.out)); have GE236 := ah.mk (ge_ hg (aA HB.out)); have NB234_236 := ah.mk (nl_ hg (by ((exact BK234.out)))); have NB236_234 := ah.mk (nr_ hg (by ((exact BK234.out)))); replace HO_5 := ah.mk (Kd.aY (Kd.lU (by ((exact HO_5.out))) gb236 (Nat.le_of_eq hg.symm)) hb); replace BK234 := ah.mk (ay (by ((exact BK234.out))) hb); replace HB := ah.mk (au HB.out hb); clear hb hbox hg; have hnb25 := NB236_234.out; have hnc25 := NB234_236.out; obtain ⟨hcz26_0, hcz26_1, hcz26_2, hcz26_3, hcz26_4, hfz26_0, hfz26_1, hfz26_2, hfz26_3, hfz26_4⟩ := z5_ BK236.out; obtain ⟨hcz27_0, hcz27_1, hcz27_2, hfz27_0, hfz27_1, hfz27_2⟩ := z3_ BK234.out) | ((with_reducible refine bF (f := 58) rfl ?_); refine dM (some 19) rfl rfl Tryz.func58 (by kernel_rfl) rfl #[.agg #[.string a0_0, .slice A0_1 l0_1.length c0_1, .int .i64 a0_2], .agg #[.string ((aj l1 x13_1).f0), .int .i64 ((aj l1 x13_1).f1), .int .i64 ((aj l1 x13_1).f2), .int .i64 ((aj l1 x13_1).f3), .string ((aj l1 x13_1).f4)]] rfl (by (try simp only [mA_, mC_, mN_]); rfl) ?_; (with_reducible refine (dF.calls k1 a0_0 _ _ l0_1 a0_2 ((aj l1 x13_1).f0) ((aj l1 x13_1).f1) ((aj l1 x13_1).f2) ((aj l1 x13_1).f3) ((aj l1 x13_1).f4) t237 _ ?side1 ?side2 A7.out).mono ?_); (case side1 => exact Kd.fH HR0_1.out (by repeat ((with_reducible first | exact HB.out | refine bS ?_ GE236.out)))); (case side2 => exact HC0_1.out); rintro e w28 ⟨rfl, hb⟩; refine ⟨_, rfl, ?_⟩; replace HO_5 := ah.mk (Kd.aY (by (with_reducible repeat ((apply Kd.aG))); exact (Kd.bN (Kd.bV (p := ⟨gb236, 4, none⟩) (Kd.bV (p := ⟨gb236, 3, none⟩) (Kd.bV (p := ⟨gb236, 2, none⟩) (Kd.bV (p := ⟨gb236, 1, none⟩) (Kd.bV (p := ⟨gb236, 0, none⟩) (Kd.bN HO_5.out (fun k_ hk => (⟨hk, hk.2⟩ : _ ∧ k_ ≠ gb236))) (fun _ hk => hk.2) (.string ((aj l1 x13_1).f0))) (fun _ hk => hk.2) (.int .i64 ((aj l1 x13_1).f1))) (fun _ hk => hk.2) (.int .i64 ((aj l1 x13_1).f2))) (fun _ hk => hk.2) (.int .i64 ((aj l1 x13_1).f3))) (fun _ hk => hk.2) (.string ((aj l1 x13_1).f4))) (fun _ h_ => h_.1))) hb); replace BK234 := ah.mk (ay (g := gb234) (o := .cells #[.string a0_0, .slice A0_1 l0_1.length c0_1, .int .i64 a0_2] 26 (0, 0)) (by (with_reducible repeat ((refine ak ?_ _))); refine aT ?_ NB234_236.out _; (with_reducible repeat ((refine ak ?_ _))); refine aT ?_ NB234_236.out _; (with_reducible repeat ((refine ak ?_ _))); refine aT ?_ NB234_236.out _; (with_reducible repeat ((refine ak ?_ _))); refine aT ?_ NB234_236.out _; (with_reducible repeat ((refine ak ?_ _))); refine aT ?_ NB234_236.out _; (with_reducible repeat ((refine ak ?_ _))); exact BK234.out) hb); replace BK236 := ah.mk (ay (g := gb236) (o := .cells #[.string ((aj l1 x13_1).f0), .int .i64 ((aj l1 x13_1).f1), .int .i64 ((aj l1 x13_1).f2), .int .i64 ((aj l1 x13_1).f3), .string ((aj l1 x13_1).f4)] 44 (0, 0)) (by (with_reducible repeat ((refine ak ?_ _))); refine aM (cs := #[.string ((aj l1 x13_1).f0), .int .i64 ((aj l1 x13_1).f1), .int .i64 ((aj l1 x13_1).f2), .int .i64 ((aj l1 x13_1).f3), .string (⟨#[]⟩ : ByteArray)]) ?_ 4 _ rfl; (with_reducible repeat ((refine ak ?_ _))); refine aM (cs := #[.string ((aj l1 x13_1).f0), .int .i64 ((aj l1 x13_1).f1), .int .i64 ((aj l1 x13_1).f2), .int .i64 0, .string (⟨#[]⟩ : ByteArray)]) ?_ 3 _ rfl; (with_reducible repeat ((refine ak ?_ _))); refine aM (cs := #[.string ((aj l1 x13_1).f0), .int .i64 ((aj l1 x13_1).f1), .int .i64 0, .int .i64 0, .string (⟨#[]⟩ : ByteArray)]) ?_ 2 _ rfl; (with_reducible repeat ((refine ak ?_ _))); refine aM (cs := #[.string ((aj l1 x13_1).f0), .int .i64 0, .int .i64 0, .int .i64 0, .string (⟨#[]⟩ : ByteArray)]) ?_ 1 _ rfl; (with_reducible repeat ((refine ak ?_ _))); refine aM (cs := #[.string (⟨#[]⟩ : ByteArray), .int .i64 0, .int .i64 0, .int .i64 0, .string (⟨#[]⟩ : ByteArray)]) ?_ 0 _ rfl; (with_reducible repeat ((refine ak ?_ _))); exact BK236.out) hb); replace HB := ah.mk (au (by repeat ((with_reducible first | exact HB.out | refine bS ?_ GE236.out))) hb); (try clear hb)))
      go_ret
      exact ⟨by rfl, HB.out⟩
    ·rw [if_neg c4] at H
     have c4b0 : decide (x13_1 < (l1.length : Int)) = false := decide_eq_false c4
     clear c4
     have H' := ah.mk H
     clear H
     obtain ⟨Ao29, co29, eo29⟩ := Kd.bY HO_5.out
     subst eo29
     go_wp2
     go_loopg [33] k1 (fun kq v33 w' => ∃ (x33_2 : Int), v33 = .int .i64 x33_2 ∧ ah (aX.l1 kq x5_1 x5_1 (x5_1.length : Int) x33_2 a0_0 l0_1 a0_2 = some r) ∧ ah (kq ≤ k1) ∧ ah (Kd.R k44 44 w' w.heap.size (fun _ => True) (.slice Ao29 x5_1.length co29) x5_1) ∧ ah (Kd.R k44 44 w' w.heap.size (fun _ => True) (.slice Ao29 x5_1.length co29) x5_1) ∧ ah (w'.heap[gb234]? = some (.cells #[.string a0_0, (.slice A0_1 l0_1.length c0_1), .int .i64 a0_2] 26 (0, 0))) ∧ ah (Below w.heap.size w w'))
     case atStart => exact ⟨(0), (by rfl), H', ⟨Nat.le_refl _⟩, ⟨by (with_reducible repeat ((apply Kd.aG))); exact HO_5.out⟩, ⟨by (with_reducible repeat ((apply Kd.aG))); exact HO_5.out⟩, ⟨by (with_reducible repeat ((refine ak ?_ _))); exact BK234.out⟩, ⟨HB.out⟩⟩
     case round =>
      clear H'
      (try clear c4b0)
      obtain ⟨x33_2, rfl, HA, HK2, HO_5, HO_31, BK234, HB⟩ := hrel
      cases gk with
      | zero => exact absurd HA.out (by simp [aX.l1])
      | succ k2 =>
       have H := HA.out
       clear HA
       simp only [aX.l1] at H
       by_cases c30 : x33_2 < (x5_1.length : Int)
       ·rw [if_pos c30] at H
        have c30b0 : decide (x33_2 < (x5_1.length : Int)) = true := decide_eq_true c30
        clear c30
        obtain ⟨c31b0, H⟩ := dL H
        obtain ⟨c32b0, H⟩ := dL H
        obtain ⟨t243, A33, H⟩ := bR H
        obtain ⟨t246, A34, H⟩ := bR H
        obtain ⟨t249, A35, H⟩ := bR H
        obtain ⟨t252, A36, H⟩ := bR H
        by_cases c37 : t252 = true
        focus
         subst c37
         rw [if_pos rfl] at H
         have H' := ah.mk H
         clear H
        rotate_left
        focus
         replace c37 := Bool.eq_false_iff.mpr c37
         subst c37
         rw [if_neg ff_] at H
         obtain rfl := Option.some.inj H
        rotate_left
        all_goals
         have p241 : 0 ≤ (x33_2 : Int) := of_decide_eq_true (by assumption)
         have q241 : x33_2 < (x5_1.length : Int) := of_decide_eq_true (by assumption)
         obtain ⟨ad241, e241, hx241_0, hx241_1, hx241_2, hx241_3, hx241_4⟩ := dU (Kd.aK HO_31.out).2.2 x33_2 p241 q241
         cases e241
         replace p241 := eq_true p241
         replace q241 := eq_true q241
         (try go_wp2_with ((((with_reducible refine bB (N := 10) rfl ?_); refine bG ?hg (N := 10) ?hd (cs := #[.string (⟨#[]⟩ : ByteArray), .int .i64 0, .int .i64 0, .int .i64 0, .string (⟨#[]⟩ : ByteArray)]) (t := 44) ?hr ?_; (case hd => rfl); (case hg => rfl); (case hr => (go_simp; done)); intro gb242 hg w38 hbox hb; have BK242 := ah.mk (hbox); have GW242 := ah.mk (ge_ hg (aA HB.out)); have GE242 := ah.mk (ge_ hg (aA HB.out)); have NB234_242 := ah.mk (nl_ hg (by ((exact BK234.out)))); have NB242_234 := ah.mk (nr_ hg (by ((exact BK234.out)))); replace HO_5 := ah.mk (Kd.aY (Kd.lU (by ((exact HO_5.out))) gb242 (Nat.le_of_eq hg.symm)) hb); replace HO_31 := ah.mk (Kd.aY (Kd.lU (by ((exact HO_31.out))) gb242 (Nat.le_of_eq hg.symm)) hb); replace BK234 := ah.mk (ay (by ((exact BK234.out))) hb); replace HB := ah.mk (au HB.out hb); clear hb hbox hg; have hnb39 := NB242_234.out; have hnc39 := NB234_242.out; obtain ⟨hcz40_0, hcz40_1, hcz40_2, hcz40_3, hcz40_4, hfz40_0, hfz40_1, hfz40_2, hfz40_3, hfz40_4⟩ := z5_ BK242.out))))
         have n0_ : ah (Kd.R k44 44 (((((w38.setCell ⟨gb242, 0, none⟩ (.string ((aj x5_1 x33_2).f0))).setCell ⟨gb242, 1, none⟩ (.int .i64 ((aj x5_1 x33_2).f1))).setCell ⟨gb242, 2, none⟩ (.int .i64 ((aj x5_1 x33_2).f2))).setCell ⟨gb242, 3, none⟩ (.int .i64 ((aj x5_1 x33_2).f3))).setCell ⟨gb242, 4, none⟩ (.string ((aj x5_1 x33_2).f4))) w.heap.size (fun k_ => k_ ≠ gb242) (.slice (some ad241) x5_1.length co29) x5_1) := ⟨by (with_reducible repeat ((apply Kd.aG))); exact Kd.bN (Kd.bV (p := ⟨gb242, 4, none⟩) (Kd.bV (p := ⟨gb242, 3, none⟩) (Kd.bV (p := ⟨gb242, 2, none⟩) (Kd.bV (p := ⟨gb242, 1, none⟩) (Kd.bV (p := ⟨gb242, 0, none⟩) (Kd.bN HO_5.out (fun k_ hk => (⟨hk, hk.2⟩ : _ ∧ k_ ≠ gb242))) (fun _ hk => hk.2) (.string ((aj x5_1 x33_2).f0))) (fun _ hk => hk.2) (.int .i64 ((aj x5_1 x33_2).f1))) (fun _ hk => hk.2) (.int .i64 ((aj x5_1 x33_2).f2))) (fun _ hk => hk.2) (.int .i64 ((aj x5_1 x33_2).f3))) (fun _ hk => hk.2) (.string ((aj x5_1 x33_2).f4))) (fun _ hk => hk.1.2)⟩
         have n1_ : ah (Kd.R k44 44 (((((w38.setCell ⟨gb242, 0, none⟩ (.string ((aj x5_1 x33_2).f0))).setCell ⟨gb242, 1, none⟩ (.int .i64 ((aj x5_1 x33_2).f1))).setCell ⟨gb242, 2, none⟩ (.int .i64 ((aj x5_1 x33_2).f2))).setCell ⟨gb242, 3, none⟩ (.int .i64 ((aj x5_1 x33_2).f3))).setCell ⟨gb242, 4, none⟩ (.string ((aj x5_1 x33_2).f4))) w.heap.size (fun k_ => k_ ≠ gb242) (.slice (some ad241) x5_1.length co29) x5_1) := ⟨by (with_reducible repeat ((apply Kd.aG))); exact Kd.bN (Kd.bV (p := ⟨gb242, 4, none⟩) (Kd.bV (p := ⟨gb242, 3, none⟩) (Kd.bV (p := ⟨gb242, 2, none⟩) (Kd.bV (p := ⟨gb242, 1, none⟩) (Kd.bV (p := ⟨gb242, 0, none⟩) (Kd.bN HO_31.out (fun k_ hk => (⟨hk, hk.2⟩ : _ ∧ k_ ≠ gb242))) (fun _ hk => hk.2) (.string ((aj x5_1 x33_2).f0))) (fun _ hk => hk.2) (.int .i64 ((aj x5_1 x33_2).f1))) (fun _ hk => hk.2) (.int .i64 ((aj x5_1 x33_2).f2))) (fun _ hk => hk.2) (.int .i64 ((aj x5_1 x33_2).f3))) (fun _ hk => hk.2) (.string ((aj x5_1 x33_2).f4))) (fun _ hk => hk.1.2)⟩
         have n2_ : ah ((((((w38.setCell ⟨gb242, 0, none⟩ (.string ((aj x5_1 x33_2).f0))).setCell ⟨gb242, 1, none⟩ (.int .i64 ((aj x5_1 x33_2).f1))).setCell ⟨gb242, 2, none⟩ (.int .i64 ((aj x5_1 x33_2).f2))).setCell ⟨gb242, 3, none⟩ (.int .i64 ((aj x5_1 x33_2).f3))).setCell ⟨gb242, 4, none⟩ (.string ((aj x5_1 x33_2).f4))).heap[gb234]? = some (.cells #[.string a0_0, .slice A0_1 l0_1.length c0_1, .int .i64 a0_2] 26 (0, 0))) := ⟨by (with_reducible repeat ((refine ak ?_ _))); refine aT ?_ NB234_242.out _; (with_reducible repeat ((refine ak ?_ _))); refine aT ?_ NB234_242.out _; (with_reducible repeat ((refine ak ?_ _))); refine aT ?_ NB234_242.out _; (with_reducible repeat ((refine ak ?_ _))); refine aT ?_ NB234_242.out _; (with_reducible repeat ((refine ak ?_ _))); refine aT ?_ NB234_242.out _; (with_reducible repeat ((refine ak ?_ _))); exact BK234.out⟩
         have n3_ : ah ((((((w38.setCell ⟨gb242, 0, none⟩ (.string ((aj x5_1 x33_2).f0))).setCell ⟨gb242, 1, none⟩ (.int .i64 ((aj x5_1 x33_2).f1))).setCell ⟨gb242, 2, none⟩ (.int .i64 ((aj x5_1 x33_2).f2))).setCell ⟨gb242, 3, none⟩ (.int .i64 ((aj x5_1 x33_2).f3))).setCell ⟨gb242, 4, none⟩ (.string ((aj x5_1 x33_2).f4))).heap[gb242]? = some (.cells #[.string ((aj x5_1 x33_2).f0), .int .i64 ((aj x5_1 x33_2).f1), .int .i64 ((aj x5_1 x33_2).f2), .int .i64 ((aj x5_1 x33_2).f3), .string ((aj x5_1 x33_2).f4)] 44 (0, 0))) := ⟨by (with_reducible repeat ((refine ak ?_ _))); refine aM (cs := #[.string ((aj x5_1 x33_2).f0), .int .i64 ((aj x5_1 x33_2).f1), .int .i64 ((aj x5_1 x33_2).f2), .int .i64 ((aj x5_1 x33_2).f3), .string (⟨#[]⟩ : ByteArray)]) ?_ 4 _ rfl; (with_reducible repeat ((refine ak ?_ _))); refine aM (cs := #[.string ((aj x5_1 x33_2).f0), .int .i64 ((aj x5_1 x33_2).f1), .int .i64 ((aj x5_1 x33_2).f2), .int .i64 0, .string (⟨#[]⟩ : ByteArray)]) ?_ 3 _ rfl; (with_reducible repeat ((refine ak ?_ _))); refine aM (cs := #[.string ((aj x5_1 x33_2).f0), .int .i64 ((aj x5_1 x33_2).f1), .int .i64 0, .int .i64 0, .string (⟨#[]⟩ : ByteArray)]) ?_ 2 _ rfl; (with_reducible repeat ((refine ak ?_ _))); refine aM (cs := #[.string ((aj x5_1 x33_2).f0), .int .i64 0, .int .i64 0, .int .i64 0, .string (⟨#[]⟩ : ByteArray)]) ?_ 1 _ rfl; (with_reducible repeat ((refine ak ?_ _))); refine aM (cs := #[.string (⟨#[]⟩ : ByteArray), .int .i64 0, .int .i64 0, .int .i64 0, .string (⟨#[]⟩ : ByteArray)]) ?_ 0 _ rfl; (with_reducible repeat ((refine ak ?_ _))); exact BK242.out⟩
         have n4_ : ah (Below w.heap.size w (((((w38.setCell ⟨gb242, 0, none⟩ (.string ((aj x5_1 x33_2).f0))).setCell ⟨gb242, 1, none⟩ (.int .i64 ((aj x5_1 x33_2).f1))).setCell ⟨gb242, 2, none⟩ (.int .i64 ((aj x5_1 x33_2).f2))).setCell ⟨gb242, 3, none⟩ (.int .i64 ((aj x5_1 x33_2).f3))).setCell ⟨gb242, 4, none⟩ (.string ((aj x5_1 x33_2).f4)))) := ⟨by repeat ((with_reducible first | exact HB.out | refine bS ?_ GE242.out))⟩
         (try clear HO_5)
         (try clear HO_31)
         (try clear BK234)
         (try clear BK242)
         (try clear HB)
         generalize (((((w38.setCell ⟨gb242, 0, none⟩ (.string ((aj x5_1 x33_2).f0))).setCell ⟨gb242, 1, none⟩ (.int .i64 ((aj x5_1 x33_2).f1))).setCell ⟨gb242, 2, none⟩ (.int .i64 ((aj x5_1 x33_2).f2))).setCell ⟨gb242, 3, none⟩ (.int .i64 ((aj x5_1 x33_2).f3))).setCell ⟨gb242, 4, none⟩ (.string ((aj x5_1 x33_2).f4))) = w41 at n0_ n1_ n2_ n3_ n4_ ⊢
         have HO_5 := n0_
         have HO_31 := n1_
         have BK234 := n2_
         have BK242 := n3_
         have HB := n4_
         clear n0_ n1_ n2_ n3_ n4_
         replace HO_5 := ah.mk (Kd.iq HO_5.out)
         replace HO_31 := ah.mk (Kd.iq HO_31.out)
         replace BK234 := ah.mk (eX BK234.out)
         replace BK242 := ah.mk (eX BK242.out)
         replace HB := ah.mk (dO HB.out)
         refine fM (n := 15) (ds := []) (ls 15 0) (by kernel_rfl) rfl rfl (c3_ BK234.out (d5_ BK242.out)) (fun hHeld => ?_); refine dW aX.Ay aX.yJ (fun HT_ HW_ => ?_)
         generalize w41.drew = w42 at HO_5 HO_31 BK234 BK242 HB hHeld ⊢
         refine td_ [(1, 38), (3, 40), (6, 43), (7, 44), (10, 47)] ?_
         iterate 5 (refine pn_ (v := ?_) (a' := ?_) HT_ rfl rfl (by kernel_rfl) rfl (fun _ _ _ h => h) (fun w' => ?_) ?_ ?_; rotate_left 2; (focus go_simp; with_reducible rfl); (focus simp only [Act.put, sA_, sZ_, sS_, bE, bJ]; rfl))
         refine dn_ ?_
         refine td_ [(0, 37), (2, 39), (4, 41), (8, 45), (11, 48)] ?_
         iterate 5 (refine tn_ (v := ?_) (a' := ?_) HT_ HW_ rfl rfl (by kernel_rfl) rfl (fun _ _ _ h => h) hHeld ?_ ?_ ?_; rotate_left 2; (focus rintro w' ⟨s0, s1, s2, s3, s4, s5, s6, s7⟩; go_simp; with_reducible rfl); (focus simp only [Act.put, sA_, sZ_, sS_, bE, bJ]; rfl))
         refine dn_ ?_
         refine kE (i := 5) (N := some 42) (ls 15 3583) rfl rfl (gD HT_.out (by kernel_rfl)) (by decide) (fun K hK => ?_)
         refine jX Tryz.func14 (by kernel_rfl) rfl #[.agg #[.string a0_0, .slice A0_1 l0_1.length c0_1, .int .i64 a0_2], .string ((aj x5_1 x33_2).f0), .int .i64 ((aj x5_1 x33_2).f1)] (by rfl) rfl rfl (by (try simp only [mA_, mC_, mN_]); rfl) ?_
         with_reducible refine (dZ.calls a0_0 _ _ l0_1 a0_2 ((aj x5_1 x33_2).f0) ((aj x5_1 x33_2).f1) t243 _ ?side1 ?side2 A33.out).mono ?_
         (case side1 => repeat ((exact (Kd.fH HR0_1.out HB.out))))
         (case side2 => exact HC0_1.out)
         rintro e w43 ⟨v244, rfl, ho0, hb⟩
         refine ⟨_, rfl, ?_⟩
         have HO245 := ah.mk (Kd.bX (Kd.jl (Kd.eH (Kd.eH ho0 (Kd.gW (by ((exact HO_5.out))))) (Kd.gW (by ((exact HO_31.out))))) (g := gb242) (o := .cells #[.string ((aj x5_1 x33_2).f0), .int .i64 ((aj x5_1 x33_2).f1), .int .i64 ((aj x5_1 x33_2).f2), .int .i64 ((aj x5_1 x33_2).f3), .string ((aj x5_1 x33_2).f4)] 44 (0, 0)) (by ((exact BK242.out)))) (aA HB.out))
         replace HO_5 := ah.mk (Kd.dI (by ((exact HO_5.out))) (Kd.eB ho0) hb)
         replace HO_31 := ah.mk (Kd.dI (by ((exact HO_31.out))) (Kd.eB ho0) hb)
         replace BK234 := ah.mk (ay (by ((exact BK234.out))) hb)
         replace BK242 := ah.mk (ay (by ((exact BK242.out))) hb)
         replace HB := ah.mk (au HB.out hb)
         (try clear hb)
         (try clear ho0)
         refine hK.out _ _ (c3_ BK234.out (d5_ BK242.out)) (fun hHeld => ?_)
         clear hK K
         refine jD (a' := ?_) ?_ ?_
         rotate_left
         ·show Act.put _ (some 42) _ = _
          simp only [Act.put, sA_, sZ_, sS_, bE, bJ]
          rfl
         refine kE (i := 9) (N := some 46) (ls 15 4095) rfl rfl (gD HT_.out (by kernel_rfl)) (by decide) (fun K hK => ?_)
         refine jX Tryz.func52 (by kernel_rfl) rfl #[.slice (some ad241) x5_1.length co29, .string ((aj x5_1 x33_2).f0)] (by rfl) rfl rfl (by (try simp only [mA_, mC_, mN_]); rfl) ?_
         with_reducible refine (jU.calls _ _ x5_1 ((aj x5_1 x33_2).f0) t246 _ ?side1 ?side2 A34.out).mono ?_
         (case side1 => repeat ((exact (Kd.aK HO_5.out).2.2)))
         (case side2 => exact (Kd.aK HO_5.out).2.1)
         rintro e w44 ⟨v247, rfl, ho0, hb⟩
         refine ⟨_, rfl, ?_⟩
         have HO248 := ah.mk (Kd.bX (Kd.jl (Kd.eH (Kd.eH (Kd.eH ho0 (Kd.gW (by ((exact HO_5.out))))) (Kd.gW (by ((exact HO_31.out))))) (Kd.gW (by ((exact HO245.out))))) (g := gb242) (o := .cells #[.string ((aj x5_1 x33_2).f0), .int .i64 ((aj x5_1 x33_2).f1), .int .i64 ((aj x5_1 x33_2).f2), .int .i64 ((aj x5_1 x33_2).f3), .string ((aj x5_1 x33_2).f4)] 44 (0, 0)) (by ((exact BK242.out)))) (aA HB.out))
         replace HO_5 := ah.mk (Kd.dI (by ((exact HO_5.out))) (Kd.eB ho0) hb)
         replace HO_31 := ah.mk (Kd.dI (by ((exact HO_31.out))) (Kd.eB ho0) hb)
         replace HO245 := ah.mk (Kd.dI (by ((exact HO245.out))) (Kd.eB ho0) hb)
         replace BK234 := ah.mk (ay (by ((exact BK234.out))) hb)
         replace BK242 := ah.mk (ay (by ((exact BK242.out))) hb)
         replace HB := ah.mk (au HB.out hb)
         (try clear hb)
         (try clear ho0)
         obtain ⟨Ao45, co45, eo45⟩ := Kd.bY HO248.out
         ((subst eo45))
         refine hK.out _ _ (c3_ BK234.out (d5_ BK242.out)) (fun hHeld => ?_)
         clear hK K
         refine jD (a' := ?_) ?_ ?_
         rotate_left
         ·show Act.put _ (some 46) _ = _
          simp only [Act.put, sA_, sZ_, sS_, bE, bJ]
          rfl
         refine kE (i := 12) (N := some 49) (ls 15 8191) rfl rfl (gD HT_.out (by kernel_rfl)) (by decide) (fun K hK => ?_)
         refine jX Tryz.func41 (by kernel_rfl) rfl #[.slice Ao45 t246.length co45, .int .i64 ((aj x5_1 x33_2).f1)] (by rfl) rfl rfl (by (try simp only [mA_, mC_, mN_]); rfl) ?_
         with_reducible refine (iA.calls _ _ t246 ((aj x5_1 x33_2).f1) t249 _ ?side1 ?side2 A35.out).mono ?_
         (case side1 => repeat ((exact (Kd.aK HO248.out).2.2)))
         (case side2 => exact (Kd.aK HO248.out).2.1)
         rintro e w46 ⟨v250, rfl, ho0, hb⟩
         refine ⟨_, rfl, ?_⟩
         have HO251 := ah.mk (Kd.bX (Kd.jl (Kd.eH (Kd.eH (Kd.eH (Kd.eH ho0 (Kd.gW (by ((exact HO_5.out))))) (Kd.gW (by ((exact HO_31.out))))) (Kd.gW (by ((exact HO245.out))))) (Kd.gW (by ((exact HO248.out))))) (g := gb242) (o := .cells #[.string ((aj x5_1 x33_2).f0), .int .i64 ((aj x5_1 x33_2).f1), .int .i64 ((aj x5_1 x33_2).f2), .int .i64 ((aj x5_1 x33_2).f3), .string ((aj x5_1 x33_2).f4)] 44 (0, 0)) (by ((exact BK242.out)))) (aA HB.out))
         replace HO_5 := ah.mk (Kd.dI (by ((exact HO_5.out))) (Kd.eB ho0) hb)
         replace HO_31 := ah.mk (Kd.dI (by ((exact HO_31.out))) (Kd.eB ho0) hb)
         replace HO245 := ah.mk (Kd.dI (by ((exact HO245.out))) (Kd.eB ho0) hb)
         replace HO248 := ah.mk (Kd.dI (by ((exact HO248.out))) (Kd.eB ho0) hb)
         replace BK234 := ah.mk (ay (by ((exact BK234.out))) hb)
         replace BK242 := ah.mk (ay (by ((exact BK242.out))) hb)
         replace HB := ah.mk (au HB.out hb)
         (try clear hb)
         (try clear ho0)
         obtain ⟨Ao47, co47, eo47⟩ := Kd.bY HO245.out
         ((subst eo47))
         obtain ⟨Ao48, co48, eo48⟩ := Kd.bY HO251.out
         ((subst eo48))
         refine hK.out _ _ (c3_ BK234.out (d5_ BK242.out)) (fun hHeld => ?_)
         clear hK K
         refine jD (a' := ?_) ?_ ?_
         rotate_left
         ·show Act.put _ (some 49) _ = _
          simp only [Act.put, sA_, sZ_, sS_, bE, bJ]
          rfl
         refine kE (i := 13) (N := some 50) (ls 15 16383) rfl rfl (gD HT_.out (by kernel_rfl)) (by decide) (fun K hK => ?_)
         refine jX Tryz.func59 (by kernel_rfl) rfl #[.slice Ao47 t243.length co47, .slice Ao48 t249.length co48] (by rfl) rfl rfl (by (try simp only [mA_, mC_, mN_]); rfl) ?_
         with_reducible refine (jH.calls k2 _ _ t243 _ _ t249 _ _ ?side1 ?side2 ?side3 ?side4 A36.out).mono ?_
         (case side1 => repeat ((exact (Kd.aK HO245.out).2.2)))
         (case side2 => exact (Kd.aK HO245.out).2.1)
         (case side3 => repeat ((exact (Kd.aK HO251.out).2.2)))
         (case side4 => exact (Kd.aK HO251.out).2.1)
         rintro e w49 ⟨rfl, hb⟩
         refine ⟨_, rfl, ?_⟩
         replace HO_5 := ah.mk (Kd.aY (by ((exact HO_5.out))) hb)
         replace HO_31 := ah.mk (Kd.aY (by ((exact HO_31.out))) hb)
         replace HO245 := ah.mk (Kd.aY (by ((exact HO245.out))) hb)
         replace HO248 := ah.mk (Kd.aY (by ((exact HO248.out))) hb)
         replace HO251 := ah.mk (Kd.aY (by ((exact HO251.out))) hb)
         replace BK234 := ah.mk (ay (by ((exact BK234.out))) hb)
         replace BK242 := ah.mk (ay (by ((exact BK242.out))) hb)
         replace HB := ah.mk (au HB.out hb)
         (try clear hb)
         refine hK.out _ _ (c3_ BK234.out (d5_ BK242.out)) (fun hHeld => ?_)
         clear hK K
         refine jD (a' := ?_) ?_ ?_
         rotate_left
         ·show Act.put _ (some 50) _ = _
          simp only [Act.put, sA_, sZ_, sS_, bE, bJ]
          rfl
         refine td_ [(14, 51)] ?_
         iterate 1 (refine pn_ (v := ?_) (a' := ?_) HT_ rfl rfl (by kernel_rfl) rfl (fun _ _ _ h => h) (fun w' => ?_) ?_ ?_; rotate_left 2; (focus go_simp; with_reducible rfl); (focus simp only [Act.put, sA_, sZ_, sS_, bE, bJ]; rfl))
         refine dn_ ?_
         refine jy (iK HT_.out (by kernel_rfl)) ?_
         (try go_wp2)
        ·go_roundg k2
         case measure => have := HK1.out; have := HK2.out; omega
         case rel => exact ⟨(wrap64 (x33_2 + 1)), (by rfl), H', ⟨by have := HK1.out; have := HK2.out; omega⟩, ⟨by (with_reducible repeat ((apply Kd.aG))); exact Kd.bN HO_5.out (fun _ hk => trivial)⟩, ⟨by (with_reducible repeat ((apply Kd.aG))); exact Kd.bN HO_31.out (fun _ hk => trivial)⟩, ⟨by (with_reducible repeat ((refine ak ?_ _))); exact BK234.out⟩, ⟨HB.out⟩⟩
        ·go_ret
         exact ⟨by rfl, HB.out⟩
       ·rw [if_neg c30] at H
        have c30b0 : decide (x33_2 < (x5_1.length : Int)) = false := decide_eq_false c30
        clear c30
        obtain rfl := Option.some.inj H
        go_wp2
        go_ret
        exact ⟨by rfl, HB.out⟩
end Go.Y.PZh
namespace Go.Y.PZh
open Go.RowKit Go.V.aD Go.V.aN Go.V.aR Go.Y.Given Go.Y.PRd Go.Y.PRr Go.Y.PZo Go.Y.PZf Go.Y.PZe
attribute [local go_sem] dn dh dJ dK bU bT cZ dw   -- for this text's walks alone
def je.T5 : Bool × List (List Nat × List Nat) := (true, [([], []), ([], []), ([1], [1]), ([0, 2], [0, 2]), ([], []), ([], []), ([5], [5]), ([], []), ([7], [7]), ([4, 6, 8, 3], [4, 6, 8]), ([9], [9]), ([10], [10]), ([3, 9, 0, 1, 2, 3], [3]), ([11, 12, 0, 1, 2, 3, 4, 5, 6, 7, 8, 9, 10, 11, 12], [11])])
def je.B5 : List Nat := [0, 0, 2, 7, 0, 0, 32, 0, 128, 511, 1023, 2047, 1023, 8191]
theorem je.rY : dP .any (opsOf Tryz.f60 5) = je.T5 := by kernel_rfl
theorem je.oW : dS je.T5.2 je.B5 = true := by kernel_rfl
end Go.Y.PZh
namespace Go.Y.PZh
open Go.RowKit Go.V.aD Go.V.aN Go.V.aR Go.Y.Given Go.Y.PRd Go.Y.PRr Go.Y.PZo Go.Y.PZf Go.Y.PZe
attribute [local go_sem] dn dh dJ dK bU bT cZ dw   -- for this text's walks alone
def iL.T14 : Bool × List (List Nat × List Nat) := (true, [([], []), ([], []), ([], []), ([1, 2], [1, 2]), ([3], [3]), ([4], [4]), ([0, 5], [0, 5]), ([], []), ([], []), ([7, 8], [7, 8]), ([9], [9]), ([10], [10]), ([6, 11, 6], [6, 11]), ([12, 12, 0, 1, 2, 3, 4, 5, 6, 7, 8, 9, 10, 11, 12], [12])])
def iL.B14 : List Nat := [0, 0, 0, 6, 14, 30, 63, 0, 0, 384, 896, 1920, 4095, 8191]
theorem iL.Ay : dP .any (opsOf Tryz.f25 14) = iL.T14 := by kernel_rfl
theorem iL.yJ : dS iL.T14.2 iL.B14 = true := by kernel_rfl
end Go.Y.PZh
namespace Go.Y.PZh
open Go.RowKit Go.V.aD Go.V.aN Go.V.aR Go.Y.Given Go.Y.PRd Go.Y.PRr Go.Y.PZo Go.Y.PZf Go.Y.PZe
attribute [local go_sem] dn dh dJ dK bU bT cZ dw   -- for this text's walks alone
noncomputable def eP.f (k : Nat)  : Option (Bool) := (iJ.f).bind fun t253 => ((bM.f k (⟨#[1, 97, 0]⟩ : ByteArray) t253).bind fun bt256 => (if bt256.2.2.2 = 0 then ((jg.f bt256.1 bt256.2.1 bt256.2.2.1).bind fun t263 => (if (t263.length : Int) = 2 then ((aX.f k bt256.1 bt256.2.1 bt256.2.2.1 (([(⟨(⟨#[1, 98, 1, 97, 0]⟩ : ByteArray), 255, 255, 0, (⟨#[]⟩ : ByteArray)⟩ : S44)] : List (S44)))).bind fun t269 => (some (t269 == 3))) else (none))) else (none)))
theorem eP.calls (k : Nat)  (r : Bool) (w : World) (h : eP.f k  = some r) :
  Calls Tryz.prog 22 #[] w fun e w' => e = .returned (.bool r) ∧ Below w.heap.size w w' := by
 have hu26 := Tryz.underlying26
 have hu44 := Tryz.underlying44
 have HB := ah.mk (Below.refl w.heap.size w)
 have H : ((iJ.f).bind fun t253 => ((bM.f k (⟨#[1, 97, 0]⟩ : ByteArray) t253).bind fun bt256 => (if bt256.2.2.2 = 0 then ((jg.f bt256.1 bt256.2.1 bt256.2.2.1).bind fun t263 => (if (t263.length : Int) = 2 then ((aX.f k bt256.1 bt256.2.1 bt256.2.2.1 (([(⟨(⟨#[1, 98, 1, 97, 0]⟩ : ByteArray), 255, 255, 0, (⟨#[]⟩ : ByteArray)⟩ : S44)] : List (S44)))).bind fun t269 => (some (t269 == 3))) else (none))) else (none)))) = some r := h
 clear h
 obtain ⟨t253, A1, H⟩ := bR H
 replace H := Option.bind_eq_some_iff.mp H
 obtain ⟨⟨t256, t257, t260, t261⟩, A20, H⟩ := H
 replace H : (if t261 = 0 then ((jg.f t256 t257 t260).bind fun t263 => (if (t263.length : Int) = 2 then ((aX.f k t256 t257 t260 (([(⟨(⟨#[1, 98, 1, 97, 0]⟩ : ByteArray), 255, 255, 0, (⟨#[]⟩ : ByteArray)⟩ : S44)] : List (S44)))).bind fun t269 => (some (t269 == 3))) else (none))) else (none)) = some r := H
 have A2 := ah.mk A20
 clear A20
 obtain ⟨c3, H⟩ := gd_ H
 have c3b0 : (t261 == 0) = true := beq_iff_eq.mpr c3
 have c3b1 : (t261 != 0) = false := bne_eq_false_iff_eq.mpr c3
 clear c3
 obtain ⟨t263, A4, H⟩ := bR H
 obtain ⟨c5, H⟩ := gd_ H
 have c5b0 : ((t263.length : Int) == 2) = true := beq_iff_eq.mpr c5
 have c5b1 : ((t263.length : Int) != 2) = false := bne_eq_false_iff_eq.mpr c5
 clear c5
 obtain ⟨y266, hy266⟩ : ∃ y_ : List (S44), y_ = (([(⟨(⟨#[1, 98, 1, 97, 0]⟩ : ByteArray), 255, 255, 0, (⟨#[]⟩ : ByteArray)⟩ : S44)] : List (S44))) := ⟨_, rfl⟩
 replace H : ((aX.f k t256 t257 t260 y266).bind fun t269 => (some (t269 == 3))) = some r := by (rw [hy266]; with_reducible exact H)
 have Ny266 := ah.mk hy266
 clear hy266
 obtain ⟨t269, A6, H⟩ := bR H
 obtain rfl := Option.some.inj H
 go_enter Tryz.func22, Tryz.ntmps22
 go_wp2_with (first | ((with_reducible refine bF (f := 35) rfl ?_); refine dM (some 4) rfl rfl Tryz.func35 (by kernel_rfl) rfl #[] rfl (by (try simp only [List.map_toArray, List.map_cons, List.map_nil]); done) ?_; (with_reducible refine (iJ.calls  t253 _ A1.out).mono ?_); rintro e w7 ⟨v254, rfl, ho0, hb⟩; refine ⟨_, rfl, ?_⟩; have HO255 := ah.mk (Kd.bX ho0 (aA HB.out)); replace HB := ah.mk (au HB.out hb); (try clear hb); (try clear ho0); obtain ⟨Ao8, co8, eo8⟩ := Kd.bY HO255.out; subst eo8) | ((with_reducible refine bF (f := 11) rfl ?_); refine dM (some 5) rfl rfl Tryz.func11 (by kernel_rfl) rfl #[.string (⟨#[1, 97, 0]⟩ : ByteArray), .slice Ao8 t253.length co8] rfl (by (try simp only [mA_, mC_, mN_]); rfl) ?_; (with_reducible refine (bM.calls k (⟨#[1, 97, 0]⟩ : ByteArray) _ _ t253 t256 t257 t260 t261 _ ?side1 ?side2 A2.out).mono ?_); (case side1 => repeat ((exact (Kd.aK HO255.out).2.2))); (case side2 => exact (Kd.aK HO255.out).2.1); rintro e w9 ⟨v258, rfl, ho0, hb⟩; refine ⟨_, rfl, ?_⟩; have HO259 := ah.mk (Kd.bX (Kd.eH ho0 (Kd.gW (by ((exact HO255.out))))) (aA HB.out)); replace HO255 := ah.mk (Kd.dI (by ((exact HO255.out))) (Kd.eB ho0) hb); replace HB := ah.mk (au HB.out hb); (try clear hb); (try clear ho0)) | ((with_reducible refine bB (N := 1) rfl ?_); (try (refine eD (by rfl) ?_; dsimp only)); refine bG ?hg (N := 1) ?hd (cs := #[.string (⟨#[]⟩ : ByteArray), .slice none 0 0, .int .i64 0]) (t := 26) ?hr ?_; (case hd => rfl); (case hg => rfl); (case hr => (go_simp; done)); intro gb262 hg w10 hbox hb; have BK262 := ah.mk (hbox); have GW262 := ah.mk (ge_ hg (aA HB.out)); have GE262 := ah.mk (ge_ hg (aA HB.out)); replace HO255 := ah.mk (Kd.aY (by ((exact HO255.out))) hb); replace HO259 := ah.mk (Kd.aY (by ((exact HO259.out))) hb); replace HB := ah.mk (au HB.out hb); clear hb hbox hg; obtain ⟨hcz11_0, hcz11_1, hcz11_2, hfz11_0, hfz11_1, hfz11_2⟩ := z3_ BK262.out; obtain ⟨Ao12, co12, eo12⟩ := Kd.bY HO259.out; subst eo12) | (go_at_call 29; (with_reducible refine (jg.calls t256 _ _ t257 t260 t263 _ ?side1 ?side2 A4.out).mono ?_); (case side1 => refine (Kd.aK (e := 44) (base := w.heap.size) (ok := fun k_ => (True ∧ some k_ ≠ (.slice Ao8 t253.length co8 : Value).ownBlock)) (n := t257.length) (c := co12) ?_).2.2; exact (by (with_reducible repeat ((apply Kd.aG))); exact (Kd.bN (Kd.bV (p := ⟨gb262, 2, none⟩) (Kd.bV (p := ⟨gb262, 1, none⟩) (Kd.bV (p := ⟨gb262, 0, none⟩) (Kd.lq HO259.out BK262.out (by decide)) (fun _ hk => hk.2) (.string t256)) (fun _ hk => hk.2) (.slice Ao12 t257.length co12)) (fun _ hk => hk.2) (.int .i64 t260)) (fun _ h_ => h_.1)))); (case side2 => exact (Kd.aK HO259.out).2.1); rintro e w13 ⟨v264, rfl, ho0, hb⟩; have HO265 := ah.mk (Kd.bX (Kd.eH (Kd.eH ho0 (Kd.gW (by (with_reducible repeat ((apply Kd.aG))); exact (Kd.bN (Kd.bV (p := ⟨gb262, 2, none⟩) (Kd.bV (p := ⟨gb262, 1, none⟩) (Kd.bV (p := ⟨gb262, 0, none⟩) (Kd.lq HO255.out BK262.out (by decide)) (fun _ hk => hk.2) (.string t256)) (fun _ hk => hk.2) (.slice Ao12 t257.length co12)) (fun _ hk => hk.2) (.int .i64 t260)) (fun _ h_ => h_.1))))) (Kd.gW (by (with_reducible repeat ((apply Kd.aG))); exact (Kd.bN (Kd.bV (p := ⟨gb262, 2, none⟩) (Kd.bV (p := ⟨gb262, 1, none⟩) (Kd.bV (p := ⟨gb262, 0, none⟩) (Kd.lq HO259.out BK262.out (by decide)) (fun _ hk => hk.2) (.string t256)) (fun _ hk => hk.2) (.slice Ao12 t257.length co12)) (fun _ hk => hk.2) (.int .i64 t260)) (fun _ h_ => h_.1))))) (aA (by repeat ((with_reducible first | exact HB.out | refine bS ?_ GE262.out))))); replace HO255 := ah.mk (Kd.dI (by (with_reducible repeat ((apply Kd.aG))); exact (Kd.bN (Kd.bV (p := ⟨gb262, 2, none⟩) (Kd.bV (p := ⟨gb262, 1, none⟩) (Kd.bV (p := ⟨gb262, 0, none⟩) (Kd.lq HO255.out BK262.out (by decide)) (fun _ hk => hk.2) (.string t256)) (fun _ hk => hk.2) (.slice Ao12 t257.length co12)) (fun _ hk => hk.2) (.int .i64 t260)) (fun _ h_ => h_.1))) (Kd.eB ho0) hb); replace HO259 := ah.mk (Kd.dI (by (with_reducible repeat ((apply Kd.aG))); exact (Kd.bN (Kd.bV (p := ⟨gb262, 2, none⟩) (Kd.bV (p := ⟨gb262, 1, none⟩) (Kd.bV (p := ⟨gb262, 0, none⟩) (Kd.lq HO259.out BK262.out (by decide)) (fun _ hk => hk.2) (.string t256)) (fun _ hk => hk.2) (.slice Ao12 t257.length co12)) (fun _ hk => hk.2) (.int .i64 t260)) (fun _ h_ => h_.1))) (Kd.eB ho0) hb); replace BK262 := ah.mk (ay (g := gb262) (o := .cells #[.string t256, .slice Ao12 t257.length co12, .int .i64 t260] 26 (0, 0)) (by (with_reducible repeat ((refine ak ?_ _))); refine aM (cs := #[.string t256, .slice Ao12 t257.length co12, .int .i64 0]) ?_ 2 _ rfl; (with_reducible repeat ((refine ak ?_ _))); refine aM (cs := #[.string t256, .slice none 0 0, .int .i64 0]) ?_ 1 _ rfl; (with_reducible repeat ((refine ak ?_ _))); refine aM (cs := #[.string (⟨#[]⟩ : ByteArray), .slice none 0 0, .int .i64 0]) ?_ 0 _ rfl; (with_reducible repeat ((refine ak ?_ _))); exact BK262.out) hb); replace HB := ah.mk (au (by repeat ((with_reducible first | exact HB.out | refine bS ?_ GE262.out))) hb); (try clear hb); (try clear ho0); obtain ⟨Ao14, co14, eo14⟩ := Kd.bY HO265.out; subst eo14; obtain ⟨hcz15_0, hcz15_1, hcz15_2, hfz15_0, hfz15_1, hfz15_2⟩ := z3_ BK262.out) | ((with_reducible refine bB (N := 19) rfl ?_); (try (refine eD (by rfl) ?_; dsimp only)); refine Kd.kM k44 _ 44 ?hg (N := 19) ?hd (xs := ([(⟨(⟨#[1, 98, 1, 97, 0]⟩ : ByteArray), 255, 255, 0, (⟨#[]⟩ : ByteArray)⟩ : S44)] : List (S44))) (inner := [.string (⟨#[1, 98, 1, 97, 0]⟩ : ByteArray), .int .i64 255, .int .i64 255, .int .i64 0, .string (⟨#[]⟩ : ByteArray)]) (ok := fun _ => True) (okp := fun _ => True) ?hr ?hp (fun _ hk => hk) trivial (Below.refl _ _) (Nat.le_refl _) (by simp) ?_; (case hd => rfl); (case hg => rfl); (case hr => (go_simp; done)); (case hp => exact (bI.c5 (show Kd.M k44 _ _ _ (⟨(⟨#[1, 98, 1, 97, 0]⟩ : ByteArray), 255, 255, 0, (⟨#[]⟩ : ByteArray)⟩ : S44) [.string (⟨#[1, 98, 1, 97, 0]⟩ : ByteArray), .int .i64 255, .int .i64 255, .int .i64 0, .string (⟨#[]⟩ : ByteArray)] from (gQ _ _ _ (⟨(⟨#[1, 98, 1, 97, 0]⟩ : ByteArray), 255, 255, 0, (⟨#[]⟩ : ByteArray)⟩ : S44) )) (bI.none _ _))); intro v267 w16 ho17 hb hg_ hnew_; clear hg_ hnew_; ((rw [← Ny266.out] at ho17)); have HO268 := ah.mk (Kd.bX (Kd.eH (Kd.eH (Kd.eH ho17 (Kd.gW (by ((exact HO255.out))))) (Kd.gW (by ((exact HO259.out))))) (Kd.gW (by ((exact HO265.out))))) (aA HB.out)); replace HO255 := ah.mk (Kd.dI (by ((exact HO255.out))) (Kd.eB ho17) hb); replace HO259 := ah.mk (Kd.dI (by ((exact HO259.out))) (Kd.eB ho17) hb); replace HO265 := ah.mk (Kd.dI (by ((exact HO265.out))) (Kd.eB ho17) hb); replace BK262 := ah.mk (ay (by ((exact BK262.out))) hb); replace HB := ah.mk (au HB.out hb); clear hb ho17; obtain ⟨Ao18, co18, eo18⟩ := Kd.bY HO268.out; subst eo18) | (go_at_call 24; (with_reducible refine (aX.calls k t256 _ _ t257 t260 _ _ y266 t269 _ ?side1 ?side2 ?side3 ?side4 A6.out).mono ?_); (case side1 => repeat ((exact (Kd.aK HO259.out).2.2))); (case side2 => exact (Kd.aK HO259.out).2.1); (case side3 => repeat ((exact (Kd.aK HO268.out).2.2))); (case side4 => exact (Kd.aK HO268.out).2.1); rintro e w19 ⟨rfl, hb⟩; replace HO255 := ah.mk (Kd.aY (by ((exact HO255.out))) hb); replace HO259 := ah.mk (Kd.aY (by ((exact HO259.out))) hb); replace HO265 := ah.mk (Kd.aY (by ((exact HO265.out))) hb); replace HO268 := ah.mk (Kd.aY (by ((exact HO268.out))) hb); replace BK262 := ah.mk (ay (by ((exact BK262.out))) hb); replace HB := ah.mk (au HB.out hb); (try clear hb)))
 go_ret
 exact ⟨by rfl, HB.out⟩
mutual
noncomputable def aU.l0 : Nat → List (S44) → Int → Option (Bool)
 | 0, _, _ => none
 | k + 1, x0, x3 => if x3 < (x0.length : Int) then (aU.j1 k x0 x3 (decide (x3 < 40))) else (aU.j1 k x0 x3 false)
noncomputable def aU.j1 : Nat → List (S44) → Int → Bool → Option (Bool)
 | 0, _, _, _ => none
 | k + 1, x0, x3, x11 => if x11 = true then (if 0 ≤ x3 then (if x3 < (x0.length : Int) then (if (((aj x0 x3).f4).size : Int) > 2000 then (some false) else ((bg.f k ((aj x0 x3).f0) ((aj x0 x3).f1) ((aj x0 x3).f2) ((aj x0 x3).f3) ((aj x0 x3).f4)).bind fun t272 => (if t272 = true then (aU.l0 k x0 (wrap64 (x3 + 1))) else (some false)))) else (none)) else (none)) else (some (decide ((x0.length : Int) ≤ 30)))
end
noncomputable def aU.f (k : Nat) (l0 : List (S44)) : Option (Bool) := aU.l0 k l0 0
theorem aU.calls (k : Nat) (A0 : Option Addr) (c0 : Nat) (l0 : List (S44)) (r : Bool) (w : World) (hr0 : Kd.C k44 w A0 l0.length l0) (hc0 : l0.length ≤ c0) (h : aU.f k l0 = some r) :
    Calls Tryz.prog 23 #[.slice A0 l0.length c0] w fun e w' => e = .returned (.bool r) ∧ Below w.heap.size w w' := by
  have hu44 := Tryz.underlying44
  have HR0 := ah.mk hr0
  have HC0 := ah.mk hc0
  clear hr0 hc0
  have HB := ah.mk (Below.refl w.heap.size w)
  have H : (aU.l0 k l0 0) = some r := h
  clear h
  have H' := ah.mk H
  clear H
  go_enter Tryz.func23, Tryz.ntmps23
  go_wp2
  go_loopg [3] k (fun kq v3 w' => ∃ (x3_1 : Int), v3 = .int .i64 x3_1 ∧ ah (aU.l0 kq l0 x3_1 = some r) ∧ ah (kq ≤ k) ∧ ah (Below w.heap.size w w'))
  case atStart => exact ⟨(0), (by rfl), H', ⟨Nat.le_refl _⟩, ⟨HB.out⟩⟩
  case round =>
   clear H'
   obtain ⟨x3_1, rfl, HA, HK1, HB⟩ := hrel
   cases gk with
   | zero => exact absurd HA.out (by simp [aU.l0])
   | succ k1 =>
    have H := HA.out
    clear HA
    simp only [aU.l0] at H
    have HC2 := ah.mk H
    clear H
    go_upto_region 2 with (fail)
    go_cut [11] (fun v11 wc => ∃ (kq : Nat) (x11_1 : Bool), v11 = .bool x11_1 ∧ ah (aU.j1 kq l0 x3_1 x11_1 = some r) ∧ ah (kq ≤ k1) ∧ ah (Below w.heap.size w wc))
    case first =>
     have H := HC2.out
     clear HC2
     by_cases c3 : x3_1 < (l0.length : Int)
     focus
      rw [if_pos c3] at H
      have c3b0 : decide (x3_1 < (l0.length : Int)) = true := decide_eq_true c3
     rotate_left
     focus
      rw [if_neg c3] at H
      have c3b0 : decide (x3_1 < (l0.length : Int)) = false := decide_eq_false c3
     rotate_left
     all_goals
      clear c3
      (skip)
      have H' := ah.mk H
      clear H
      go_wp2
      go_meet
     ·case rel => exact ⟨_, (decide (x3_1 < 40)), (by rfl), H', ⟨by have := HK1.out; omega⟩, ⟨HB.out⟩⟩
     ·case rel => exact ⟨_, (false), (by rfl), H', ⟨by have := HK1.out; omega⟩, ⟨HB.out⟩⟩
    case rest =>
     clear HC2
     obtain ⟨kq, x11_1, rfl, HA, HJ1, HB⟩ := hcut
     cases kq with
     | zero => exact absurd HA.out (by simp [aU.j1])
     | succ kj1 =>
      have H := HA.out
      clear HA
      simp only [aU.j1] at H
      by_cases c4 : x11_1 = true
      ·subst c4
       rw [if_pos rfl] at H
       obtain ⟨c5b0, H⟩ := dL H
       obtain ⟨c6b0, H⟩ := dL H
       by_cases c7 : (((aj l0 x3_1).f4).size : Int) > 2000
       focus
        rw [if_pos c7] at H
        have c7b0 : decide (2000 < (((aj l0 x3_1).f4).size : Int)) = true := decide_eq_true c7
        have c7b1 : decide (2000 < ((aj l0 x3_1).f4).size) = true := decide_eq_true (by omega)
        clear c7
        obtain rfl := Option.some.inj H
       rotate_left
       focus
        rw [if_neg c7] at H
        have c7b0 : decide (2000 < (((aj l0 x3_1).f4).size : Int)) = false := decide_eq_false c7
        have c7b1 : decide (2000 < ((aj l0 x3_1).f4).size) = false := decide_eq_false (by omega)
        clear c7
        obtain ⟨t272, A8, H⟩ := bR H
        by_cases c9 : t272 = true
        focus
         subst c9
         rw [if_pos rfl] at H
         have H' := ah.mk H
         clear H
        rotate_left
        focus
         replace c9 := Bool.eq_false_iff.mpr c9
         subst c9
         rw [if_neg ff_] at H
         obtain rfl := Option.some.inj H
        rotate_left
       rotate_left 2
       all_goals
        have p270 : 0 ≤ (x3_1 : Int) := of_decide_eq_true (by assumption)
        have q270 : x3_1 < (l0.length : Int) := of_decide_eq_true (by assumption)
        obtain ⟨ad270, e270, hx270_0, hx270_1, hx270_2, hx270_3, hx270_4⟩ := dU HR0.out x3_1 p270 q270
        cases e270
        replace hx270_0 := kp_ HB.out hx270_0
        replace hx270_1 := kp_ HB.out hx270_1
        replace hx270_2 := kp_ HB.out hx270_2
        replace hx270_3 := kp_ HB.out hx270_3
        replace hx270_4 := kp_ HB.out hx270_4
        replace p270 := eq_true p270
        replace q270 := eq_true q270
       ·go_wp2
        go_ret
        exact ⟨by rfl, HB.out⟩
       all_goals
        have p271 : 0 ≤ (x3_1 : Int) := of_decide_eq_true (by assumption)
        have q271 : x3_1 < (l0.length : Int) := of_decide_eq_true (by assumption)
        obtain ⟨ad271, e271, hx271_0, hx271_1, hx271_2, hx271_3, hx271_4⟩ := dU HR0.out x3_1 p271 q271
        obtain rfl : ad270 = ad271 := (by injection e271)
        replace hx271_0 := kp_ HB.out hx271_0
        replace hx271_1 := kp_ HB.out hx271_1
        replace hx271_2 := kp_ HB.out hx271_2
        replace hx271_3 := kp_ HB.out hx271_3
        replace hx271_4 := kp_ HB.out hx271_4
        replace p271 := eq_true p271
        replace q271 := eq_true q271
        go_wp2_with (((go_at_call 48; (with_reducible refine (bg.calls kj1 ((aj l0 x3_1).f0) ((aj l0 x3_1).f1) ((aj l0 x3_1).f2) ((aj l0 x3_1).f3) ((aj l0 x3_1).f4) _ _ A8.out).mono ?_); rintro e w10 ⟨rfl, hb⟩; replace HB := ah.mk (au HB.out hb); (try clear hb))))
       ·go_roundg kj1
        case measure => have := HK1.out; have := HJ1.out; omega
        case rel => exact ⟨(wrap64 (x3_1 + 1)), (by rfl), H', ⟨by have := HK1.out; have := HJ1.out; omega⟩, ⟨HB.out⟩⟩
       ·go_ret
        exact ⟨by rfl, HB.out⟩
      ·replace c4 := Bool.eq_false_iff.mpr c4
       subst c4
       rw [if_neg ff_] at H
       obtain rfl := Option.some.inj H
       go_wp2
       go_ret
       exact ⟨by rfl, HB.out⟩
end Go.Y.PZh
namespace Go.Y.Rrs
open Go.RowKit Go.V.aD Go.V.aN Go.V.aR Go.Y.Given Go.Y.PRd Go.Y.PRr Go.Y.PZo Go.Y.PZf Go.Y.PZh Go.Y.Oct Go.Y.Name Go.Y.Cmp Go.Y.fC Go.Y.fu Go.Y.gI
open Classical in
theorem Jc (x y : RR) (hx : fine x) (hy : fine y) : gq.f x.f0 x.f1 x.f2 x.f3 x.f4 y.f0 y.f1 y.f2 y.f3 y.f4 = some (decide (aW x y = 0)) := by
 have hz := Bz x y
 have ha := rD hx.1 hy.1
 unfold gq.f
 rw [kR, Option.bind_some, uV x hx.2, uV y hy.2]
 simp only [Option.bind_some]
 by_cases h0 : iP x = iP y
 ·rw [ha.mpr h0]
  by_cases h1 : x.f1 = y.f1
  ·by_cases h2 : x.f2 = y.f2
   ·rw [if_pos rfl, if_pos h1, if_pos h2]
    congr 1
    by_cases h3 : (lC x).toList = (lC y).toList
    ·rw [decide_eq_true (hz.mpr ⟨h0, h1, h2, h3⟩), h3, beq_self_eq_true]
    ·rw [decide_eq_false (fun e => h3 (hz.mp e).2.2.2)]
     exact beq_eq_false_iff_ne.mpr h3
   ·rw [if_pos rfl, if_pos h1, if_neg h2, decide_eq_false (fun e => h2 (hz.mp e).2.2.1)]
  ·rw [if_pos rfl, if_neg h1, decide_eq_false (fun e => h1 (hz.mp e).2.1)]
 ·rw [Bool.eq_false_iff.mpr (fun e => h0 (ha.mp e)), if_neg (by decide), decide_eq_false (fun e => h0 (hz.mp e).1)]
open Classical in
noncomputable def qw : List RR → List RR → Bool
 | [], [] => true
 | x :: u, y :: v => decide (aW x y = 0) && qw u v
 | _, _ => false
theorem Ew (u v : List RR) (hu : ∀ y ∈ u, fine y) (hv : ∀ y ∈ v, fine y) (hl : u.length = v.length) (hn : u.length ≤ 1000000) : ∀ (d i : Nat), u.length ≤ i + d → i ≤ u.length → Ev (fun k => iV.l0 k v u (u.length : Int) (i : Int)) (qw (u.drop i) (v.drop i)) := by
 have hend : ∀ i : Nat, u.length ≤ i → Ev (fun k => iV.l0 k v u (u.length : Int) (i : Int)) (qw (u.drop i) (v.drop i)) := by
  intro i hd
  refine Ev.step (f := fun _ => some true) (fun k => by rw [iV.l0]; rw [if_neg (by omega)]) ?_
  rw [List.drop_of_length_le hd, List.drop_of_length_le (by omega), qw]
  exact Ev.now _
 intro d
 induction d with
 | zero => exact fun i hd _ => hend i (by omega)
 | succ d ih =>
  intro i hd hi0
  by_cases hi : i < u.length
  ·have e1 : wrap64 ((i : Int) + 1) = ((i + 1 : Nat) : Int) := by unfold wrap64; omega
   have hs : ∀ k, iV.l0 (k + 1) v u (u.length : Int) (i : Int) = (gq.f (rdR u (i : Int)).f0 (rdR u (i : Int)).f1 (rdR u (i : Int)).f2 (rdR u (i : Int)).f3 (rdR u (i : Int)).f4 (rdR v (i : Int)).f0 (rdR v (i : Int)).f1 (rdR v (i : Int)).f2 (rdR v (i : Int)).f3 (rdR v (i : Int)).f4).bind fun t => if t = true then iV.l0 k v u (u.length : Int) ((i + 1 : Nat) : Int) else some false := fun k => by
    rw [iV.l0, e1]; rw [if_pos (by omega), if_pos (by omega), if_pos (by omega), if_pos (by omega)]
   rw [eT u i hi, eT v i (by omega)] at hs
   refine Ev.step hs (Ev.bind (Ev.const (Jc _ _ (hu _ (List.getElem_mem _)) (hv _ (List.getElem_mem _)))) ?_)
   rw [List.drop_eq_getElem_cons hi, List.drop_eq_getElem_cons (show i < v.length by omega), qw]
   by_cases h : aW u[i] v[i] = 0
   ·simp only [h, decide_true, if_true, Bool.true_and]; exact ih (i + 1) (by omega) (by omega)
   ·simp only [h, decide_false, Bool.false_eq_true, if_false, Bool.false_and]; exact Ev.now _
  ·exact hend i (by omega)
theorem yQ : ∀ (u v : List RR), ¬ u.length = v.length → qw u v = false
 | [], [], h => absurd rfl h
 | [], _ :: _, _ => rfl
 | _ :: _, [], _ => rfl
 | x :: u, y :: v, h => by rw [qw, yQ u v (fun e => h (by simp [e])), Bool.and_false]
theorem Ik (u v : List RR) (z : Int) (hu : ∀ y ∈ u, fine y) (hv : ∀ y ∈ v, fine y) (hn : u.length ≤ 1000000) : Ev (fun k => iV.f k u v z) (qw u v) := by
 unfold iV.f
 by_cases h : u.length = v.length
 ·simp only [show ((u.length : Int) = (v.length : Int)) = True from eq_true (by omega), if_true]
  have := Ew u v hu hv h hn u.length 0 (by omega) (Nat.zero_le _)
  rw [List.drop_zero, List.drop_zero] at this
  exact this
 ·simp only [show ((u.length : Int) = (v.length : Int)) = False from eq_false (by omega), if_false]
  rw [yQ u v h]
  exact Ev.now _
noncomputable def xX (u v : List RR) : Bool := qw (ofL aW u) (ofL aW v)
theorem Ir (l : List RR) : (ofL aW l).length ≤ l.length := by have := sO l [] List.Pairwise.nil; unfold ofL; simpa using this
theorem EZ (u v : List RR) (hu : ∀ y ∈ u, fine y) (hv : ∀ y ∈ v, fine y) (nu : u.length ≤ 100000) (nv : v.length ≤ 100000) : Ev (fun k => jH.f k u v) (xX u v) := by
 unfold jH.f
 simp only [FP hu (show u.length ≤ 1000000 by omega), FP hv (show v.length ≤ 1000000 by omega), Option.bind_some]
 refine Ev.bind (Ik _ _ _ (qH hu nu).all (qH hv nv).all ?_) (Ev.now _)
 have := Ir u; omega
def mX (a : ByteArray) (s : List RR) (r : RR) : Int :=
 if r.f3 = 0 then (if lQ r.f0 a = true then (if r.f2 = 1 then (if su r.f1 = true then 0 else 1)
  else if r.f2 = 255 then (if r.f4.toList = [] then (if r.f1 = 255 then (if jc s r.f0 = true then 0 else 3) else if (gN s r.f0 r.f1).length = 0 then 8 else 0) else 1)
  else if r.f2 = 254 then (if r.f4.toList = [] then (if r.f1 = 255 then (if jc s r.f0 = true then 6 else 0) else if (gN s r.f0 r.f1).length = 0 then 0 else 7) else 1)
  else 1) else 10) else 1
theorem zR (b : Bool) (c : Int) : fB.f b c = some (if b = true then c else 0) := by unfold fB.f; split <;> rfl
theorem nil_eq (n : Nat) : (((n : Int)) == 0) = decide (n = 0) := by
 by_cases h : n = 0
 ·rw [h]; rfl
 ·rw [decide_eq_false h, beq_eq_false_iff_ne]; omega
theorem Fe (a : ByteArray) (s : List RR) (z : Int) (r : RR) (hn : s.length ≤ 1000000) : Ev (fun k => dF.f k a s z r.f0 r.f1 r.f2 r.f3 r.f4) (mX a s r) := by
 unfold dF.f mX jE.f
 simp only [Option.bind_some]
 by_cases h3 : r.f3 = 0
 ·simp only [if_pos h3]
  refine Ev.bind (EO _ _) ?_
  cases lQ r.f0 a
  ·simp only [Bool.false_eq_true, if_false]; exact Ev.now _
  ·simp only [if_true]
   unfold eU.f
   simp only [zY a s z r.f0 hn, xH a s z r.f0 r.f1 hn, Option.bind_some, nil_eq]
   by_cases h1 : r.f2 = 1
   ·simp only [h1, if_true, Ap, Option.bind_some, zR]
    cases su r.f1
    ·exact Ev.now _
    ·exact Ev.now _
   ·simp only [h1, if_false]
    have hj0 : ∀ b, Ev (fun k => dF.j0 k (!jc s r.f0) (decide ((gN s r.f0 r.f1).length = 0)) b r.f0 r.f1 r.f2 r.f3 r.f4) (if b = true then (if r.f4.toList = [] then (if r.f2 = 255 then (if r.f1 = 255 then (if jc s r.f0 = true then 0 else 3) else if (gN s r.f0 r.f1).length = 0 then 8 else 0) else if r.f1 = 255 then (if jc s r.f0 = true then 6 else 0) else if (gN s r.f0 r.f1).length = 0 then 0 else 7) else 1) else 1) := by
     have hj1 : ∀ c, Ev (fun k => dF.j1 k (!jc s r.f0) (decide ((gN s r.f0 r.f1).length = 0)) c r.f0 r.f1 r.f2 r.f3 r.f4) (if c = true then (if jc s r.f0 = true then 0 else 3) else if r.f2 = 255 then (if (gN s r.f0 r.f1).length = 0 then 8 else 0) else if r.f1 = 255 then (if jc s r.f0 = true then 6 else 0) else if (gN s r.f0 r.f1).length = 0 then 0 else 7) := by
      intro c
      have hs : ∀ k, dF.j1 (k + 1) (!jc s r.f0) (decide ((gN s r.f0 r.f1).length = 0)) c r.f0 r.f1 r.f2 r.f3 r.f4 = some (if c = true then (if jc s r.f0 = true then 0 else 3) else if r.f2 = 255 then (if (gN s r.f0 r.f1).length = 0 then 8 else 0) else if r.f1 = 255 then (if jc s r.f0 = true then 6 else 0) else if (gN s r.f0 r.f1).length = 0 then 0 else 7) := fun k => by
       rw [dF.j1]
       simp only [zR, Option.bind_some]
       cases jc s r.f0 <;> by_cases hz : (gN s r.f0 r.f1).length = 0 <;> simp only [hz, Bool.not_true, Bool.not_false, decide_true, decide_false, Bool.false_eq_true, if_true, if_false] <;> (repeat' split) <;> first | rfl | contradiction
      exact Ev.step hs (Ev.now _)
     intro b
     cases b
     ·simp only [Bool.false_eq_true, if_false]
      exact Ev.step (f := fun _ => some 1) (fun k => by rw [dF.j0, if_neg (by decide)]) (Ev.now _)
     ·simp only [if_true]
      by_cases h4 : r.f4.toList = []
      ·simp only [h4, if_true]
       by_cases h2 : r.f2 = 255
       ·have := hj1 (r.f1 == 255)
        simp only [h2, if_true] at this ⊢
        refine Ev.step (fun k => by rw [dF.j0, if_pos rfl, if_pos h4, if_pos rfl]) ?_
        by_cases h5 : r.f1 = 255
        ·simp only [h5, beq_self_eq_true, if_true] at this ⊢; exact this
        ·simp only [h5, beq_eq_false_iff_ne.mpr h5, Bool.false_eq_true, if_false] at this ⊢; exact this
       ·have := hj1 false
        simp only [h2, Bool.false_eq_true, if_false] at this ⊢
        refine Ev.step (fun k => by rw [dF.j0, if_pos rfl, if_pos h4, if_neg h2]) ?_
        exact this
      ·simp only [h4, if_false]
       exact Ev.step (f := fun _ => some 1) (fun k => by rw [dF.j0, if_pos rfl, if_neg h4]) (Ev.now _)
    by_cases h2 : r.f2 = 255
    ·have := hj0 true
     simp only [h2, if_true, beq_self_eq_true] at this ⊢
     exact this
    ·have := hj0 (r.f2 == 254)
     simp only [h2, if_false] at this ⊢
     by_cases h6 : r.f2 = 254
     ·simp only [h6, beq_self_eq_true, if_true] at this ⊢; exact this
     ·simp only [h6, beq_eq_false_iff_ne.mpr h6, Bool.false_eq_true, if_false] at this ⊢; exact this
 ·simp only [h3, if_false]; exact Ev.now _
end Go.Y.Rrs
namespace Go.Y.Rrs
open Go.RowKit Go.V.aD Go.V.aN Go.V.aR Go.Y.Given Go.Y.PRd Go.Y.PRr Go.Y.PZo Go.Y.PZf Go.Y.PZh Go.Y.Oct Go.Y.Name Go.Y.Cmp Go.Y.fC Go.Y.fu Go.Y.gI
def mP (a : ByteArray) (s : List RR) : List RR → Int
 | [] => 0
 | r :: l => if mX a s r = 0 then mP a s l else mX a s r
def nX (l : List RR) : List RR := l.filter fun r => r.f2 == 1
noncomputable def mZ (s kept : List RR) : List RR → Int
 | [] => 0
 | r :: l => if xX (gN s r.f0 r.f1) (gN kept r.f0 r.f1) = true then mZ s kept l else 8
noncomputable def rV (a : ByteArray) (s l : List RR) : Int := if mP a s l = 0 then mZ s (nX l) (nX l) else mP a s l
theorem xU {s : List RR} {n : ByteArray} {t : Int} {y : RR} (h : y ∈ gN s n t) : y ∈ s := (List.mem_filter.mp (List.mem_filter.mp h).1).1
theorem yV (s : List RR) (n : ByteArray) (t : Int) : (gN s n t).length ≤ s.length := Nat.le_trans (AU _ _) (vS s n)
section
variable (a : ByteArray) (s : List RR) (z : Int) (fs : ∀ y ∈ s, fine y) (ns : s.length ≤ 100000)
include fs ns
theorem zO (K : List RR) (fk : ∀ y ∈ K, fine y) (nk : K.length ≤ 100000) : ∀ (d i : Nat), K.length ≤ i + d → i ≤ K.length → Ev (fun k => aX.l1 k K K (K.length : Int) (i : Int) a s z) (mZ s K (K.drop i)) := by
 have hend : ∀ i : Nat, K.length ≤ i → Ev (fun k => aX.l1 k K K (K.length : Int) (i : Int) a s z) (mZ s K (K.drop i)) := by
  intro i hd
  refine Ev.step (f := fun _ => some 0) (fun k => by rw [aX.l1]; rw [if_neg (by omega)]) ?_
  rw [List.drop_of_length_le hd, mZ]
  exact Ev.now _
 intro d
 induction d with
 | zero => exact fun i hd _ => hend i (by omega)
 | succ d ih =>
  intro i hd hi0
  by_cases hi : i < K.length
  ·have e1 : wrap64 ((i : Int) + 1) = ((i + 1 : Nat) : Int) := by unfold wrap64; omega
   have hs : ∀ k, aX.l1 (k + 1) K K (K.length : Int) (i : Int) a s z = (jH.f k (gN s (rdR K (i : Int)).f0 (rdR K (i : Int)).f1) (gN K (rdR K (i : Int)).f0 (rdR K (i : Int)).f1)).bind fun t => if t = true then aX.l1 k K K (K.length : Int) ((i + 1 : Nat) : Int) a s z else some 8 := fun k => by
    rw [aX.l1, e1]
    rw [if_pos (by omega), if_pos (by omega), if_pos (by omega), xH a s z _ _ (by omega), Option.bind_some, AY K _ (by omega), Option.bind_some, tQ _ _ (Nat.le_trans (vS K _) (by omega)), Option.bind_some]
    rfl
   rw [eT K i hi] at hs
   have l1 := yV s K[i].f0 K[i].f1
   have l2 := yV K K[i].f0 K[i].f1
   refine Ev.step hs (Ev.bind (EZ _ _ (fun y hy => fs y (xU hy)) (fun y hy => fk y (xU hy)) (by omega) (by omega)) ?_)
   rw [List.drop_eq_getElem_cons hi, mZ]
   cases xX (gN s K[i].f0 K[i].f1) (gN K K[i].f0 K[i].f1)
   ·simp only [Bool.false_eq_true, if_false]; exact Ev.now _
   ·simp only [if_true]; exact ih (i + 1) (by omega) (by omega)
  ·exact hend i (by omega)
theorem yg (l : List RR) (fl : ∀ y ∈ l, fine y) (nl : l.length ≤ 50000) : ∀ (d i : Nat) (K : List RR), l.length ≤ i + d → i ≤ l.length → K.length ≤ i → (∀ y ∈ K, fine y) → Ev (fun k => aX.l0 k K l (l.length : Int) (i : Int) a s z) (if mP a s (l.drop i) = 0 then mZ s (K ++ nX (l.drop i)) (K ++ nX (l.drop i)) else mP a s (l.drop i)) := by
 have hend : ∀ (i : Nat) (K : List RR), l.length ≤ i → K.length ≤ 100000 → (∀ y ∈ K, fine y) → Ev (fun k => aX.l0 k K l (l.length : Int) (i : Int) a s z) (if mP a s (l.drop i) = 0 then mZ s (K ++ nX (l.drop i)) (K ++ nX (l.drop i)) else mP a s (l.drop i)) := by
  intro i K hd nk fk
  refine Ev.step (f := fun k => aX.l1 k K K (K.length : Int) 0 a s z) (fun k => by rw [aX.l0]; rw [if_neg (by omega)]) ?_
  rw [List.drop_of_length_le hd]
  show Ev _ (if (0 : Int) = 0 then mZ s (K ++ []) (K ++ []) else _)
  rw [if_pos rfl, List.append_nil]
  have := zO a s z fs ns K fk nk K.length 0 (by omega) (Nat.zero_le _)
  rw [List.drop_zero] at this
  exact this
 intro d
 induction d with
 | zero => exact fun i K hd hi0 hk fk => hend i K (by omega) (by omega) fk
 | succ d ih =>
  intro i K hd hi0 hk fk
  by_cases hi : i < l.length
  ·have e1 : wrap64 ((i : Int) + 1) = ((i + 1 : Nat) : Int) := by unfold wrap64; omega
   have hs : ∀ k, aX.l0 (k + 1) K l (l.length : Int) (i : Int) a s z = (dF.f k a s z (rdR l (i : Int)).f0 (rdR l (i : Int)).f1 (rdR l (i : Int)).f2 (rdR l (i : Int)).f3 (rdR l (i : Int)).f4).bind fun t => if t = 0 then (if (rdR l (i : Int)).f2 = 1 then aX.l0 k (K ++ [rdR l (i : Int)]) l (l.length : Int) ((i + 1 : Nat) : Int) a s z else aX.l0 k K l (l.length : Int) ((i + 1 : Nat) : Int) a s z) else some t := fun k => by
    rw [aX.l0, e1]
    rw [if_pos (by omega), if_pos (by omega), if_pos (by omega)]
    congr 1
    funext t
    rw [if_pos (show K.length < _ by omega)]
   rw [eT l i hi] at hs
   refine Ev.step hs (Ev.bind (Fe a s z l[i] (by omega)) ?_)
   rw [List.drop_eq_getElem_cons hi, mP]
   unfold nX
   rw [List.filter_cons]
   by_cases h0 : mX a s l[i] = 0
   ·simp only [h0, if_true]
    by_cases h1 : l[i].f2 = 1
    ·simp only [h1, beq_self_eq_true, if_true]
     have := ih (i + 1) (K ++ [l[i]]) (by omega) (by omega) (by rw [List.length_append, List.length_singleton]; omega) (fun y hy => by
      rcases List.mem_append.mp hy with h | h
      ·exact fk y h
      ·rw [List.mem_singleton.mp h]; exact fl _ (List.getElem_mem _))
     rw [List.append_assoc, List.singleton_append] at this
     exact this
    ·simp only [h1, beq_eq_false_iff_ne.mpr h1, Bool.false_eq_true, if_false]
     exact ih (i + 1) K (by omega) (by omega) (by omega) fk
   ·simp only [h0, if_false]
    exact Ev.now _
  ·exact hend i K (by omega) (by omega) fk
theorem qD (l : List RR) (fl : ∀ y ∈ l, fine y) (nl : l.length ≤ 50000) : Ev (fun k => aX.f k a s z l) (rV a s l) := by
 have := yg a s z fs ns l fl nl l.length 0 [] (by omega) (Nat.zero_le _) (Nat.le_refl _) (fun y hy => by cases hy)
 rw [List.drop_zero, List.nil_append] at this
 exact this
end
theorem wZ (l : List RR) (hn : l.length ≤ 9223372036854775807) : ∀ (d i : Nat), d + i = 40 → i ≤ l.length → (∀ y ∈ l.take i, gP y = true) → ∃ b, Ev (fun k => aU.l0 k l (i : Int)) b ∧ (b = true → l.length ≤ 30 ∧ ∀ y ∈ l, gP y = true) := by
 have hdone : ∀ i : Nat, Ev (fun k => aU.j1 k l (i : Int) false) (decide ((l.length : Int) ≤ 30)) := fun i => Ev.step (f := fun _ => some (decide ((l.length : Int) ≤ 30))) (fun k => by rw [aU.j1, if_neg (by decide)]) (Ev.now _)
 intro d
 induction d with
 | zero =>
  intro i hd hi0 hr
  refine ⟨_, Ev.step (f := fun k => aU.j1 k l (i : Int) false) (fun k => ?_) (hdone i), fun e => ?_⟩
  ·rw [aU.l0, decide_eq_false (show ¬ (i : Int) < 40 by omega)]
   split <;> rfl
  ·have := of_decide_eq_true e
   exact absurd hi0 (by omega)
 | succ d ih =>
  intro i hd hi0 hr
  by_cases hi : i < l.length
  ·have e1 : wrap64 ((i : Int) + 1) = ((i + 1 : Nat) : Int) := by unfold wrap64; omega
   have hs : ∀ k, aU.l0 (k + 1) l (i : Int) = aU.j1 k l (i : Int) true := fun k => by
    rw [aU.l0, decide_eq_true (show (i : Int) < 40 by omega), if_pos (by omega)]
   have hj : ∀ k, aU.j1 (k + 1) l (i : Int) true = if ((rdR l (i : Int)).f4.size : Int) > 2000 then some false else (bg.f k (rdR l (i : Int)).f0 (rdR l (i : Int)).f1 (rdR l (i : Int)).f2 (rdR l (i : Int)).f3 (rdR l (i : Int)).f4).bind fun t => if t = true then aU.l0 k l ((i + 1 : Nat) : Int) else some false := fun k => by
    rw [aU.j1, e1, if_pos rfl, if_pos (by omega), if_pos (by omega)]
   rw [eT l i hi] at hj
   by_cases h4 : (l[i].f4.size : Int) > 2000
   ·refine ⟨false, Ev.step hs (Ev.step hj ?_), fun e => by cases e⟩
    simp only [h4, if_true]; exact Ev.now _
   ·cases hri : gP l[i]
    ·refine ⟨false, Ev.step hs (Ev.step hj ?_), fun e => by cases e⟩
     simp only [h4, if_false]
     refine Ev.bind (wz l[i]) ?_
     simp only [hri, Bool.false_eq_true, if_false]; exact Ev.now _
    ·obtain ⟨b, hb, hb1⟩ := ih (i + 1) (by omega) (by omega) (fun y hy => by
      rw [List.take_succ_eq_append_getElem hi] at hy
      rcases List.mem_append.mp hy with hy | hy
      ·exact hr y hy
      ·rw [List.mem_singleton.mp hy]; exact hri)
     refine ⟨b, Ev.step hs (Ev.step hj ?_), hb1⟩
     simp only [h4, if_false]
     refine Ev.bind (wz l[i]) ?_
     simp only [hri, if_true]; exact hb
  ·refine ⟨_, Ev.step (f := fun k => aU.j1 k l (i : Int) false) (fun k => ?_) (hdone i), fun e => ⟨by have := of_decide_eq_true e; omega, ?_⟩⟩
   ·rw [aU.l0, if_neg (by omega)]
   ·rw [List.take_of_length_le (by omega)] at hr
    exact hr
theorem zB (l : List RR) (hn : l.length ≤ 9223372036854775807) : ∃ b, Ev (fun k => aU.f k l) b ∧ (b = true → l.length ≤ 30 ∧ ∀ y ∈ l, gP y = true) := wZ l hn 40 0 (by omega) (Nat.zero_le _) (fun y hy => by rw [List.take_zero] at hy; cases hy)
abbrev lrb : RR := ⟨(⟨#[1, 98, 1, 97, 0]⟩ : ByteArray), 255, 255, 0, (⟨#[]⟩ : ByteArray)⟩
theorem zD : ∀ y ∈ [lr0, lr1], gP y = true := fun y hy => by
 rcases List.mem_cons.mp hy with rfl | hy
 ·exact Dp
 ·rw [List.mem_singleton.mp hy]; exact DR
theorem zy : rV lra [lr0, lr1] [lrb] = 3 := by
 have hu : lQ lrb.f0 lra = true := by
  have h := uz lrb.f0 lra 300 (Nat.le_refl _)
  have h2 := oI (fun k => bq.mono lrb.f0 lra k) (show 20 ≤ 300 by omega) (r := true) (by kernel_rfl)
  rw [h2] at h; exact (Option.some.inj h).symm
 have ht : jc [lr0, lr1] lrb.f0 = false := by
  have h1 : fT lra lrb.f0 = false := by
   have h := kR lra lrb.f0
   rw [show bW.f lra lrb.f0 = some false from by kernel_rfl] at h
   exact (Option.some.inj h).symm
  unfold jc
  rw [List.any_cons, List.any_cons, h1]; rfl
 have h1 : mX lra [lr0, lr1] lrb = 3 := by
  unfold mX
  rw [if_pos rfl, if_pos hu, if_neg (by decide), if_pos rfl, if_pos (by kernel_rfl), if_pos rfl, ht]; rfl
 unfold rV
 rw [mP, h1]; rfl
theorem vo : Ev (fun k => eP.f k) true := by
 unfold eP.f iJ.f
 simp only [Option.bind_some]
 refine Ev.bind EA ?_
 simp only [if_true]
 rw [Jh _ _ _ (by simp)]
 simp only [Option.bind_some]
 have hc := qD lra [lr0, lr1] (yP [lr0, lr1]) (fun y hy => mM (zD y hy)) (by simp) [lrb] (fun y hy => by rw [List.mem_singleton.mp hy]; exact ⟨by kernel_rfl, by decide⟩) (by simp)
 rw [zy] at hc
 have hl : ((([lr0, lr1] : List RR).length : Int) = 2) = True := eq_true rfl
 simp only [hl, if_true]
 exact Ev.bind hc (Ev.now _)
end Go.Y.Rrs
namespace Go.Y.PZh
open Go.RowKit Go.V.aD Go.V.aN Go.V.aR Go.Y.Given Go.Y.PRd Go.Y.PRr Go.Y.PZo Go.Y.PZf Go.Y.PZe
attribute [local go_sem] dn dh dJ dK bU bT cZ dw   -- for this text's walks alone
def fJ.T7 : Bool × List (List Nat × List Nat) := (true, [([], []), ([], []), ([0, 1], [0, 1]), ([], []), ([], []), ([3, 4, 2], [3, 4]), ([2, 5], [2, 5]), ([6, 5, 0, 1, 2, 3, 4, 5, 6], [6])])
def fJ.B7 : List Nat := [0, 0, 3, 0, 0, 31, 63, 127]
theorem fJ.IE : dP .any (opsOf Tryz.f4 7) = fJ.T7 := by kernel_rfl
theorem fJ.FQ : dS fJ.T7.2 fJ.B7 = true := by kernel_rfl
end Go.Y.PZh
namespace Go.Y.PZh
open Go.RowKit Go.V.aD Go.V.aN Go.V.aR Go.Y.Given Go.Y.PRd Go.Y.PRr Go.Y.PZo Go.Y.PZf Go.Y.PZe
attribute [local go_sem] dn dh dJ dK bU bT cZ dw   -- for this text's walks alone
mutual
noncomputable def aJ.j0 : Nat → List (S44) → ByteArray → Int → Bool → Option (Bool)
 | 0, _, _, _, _ => none
 | k + 1, x0, x1, x2, x20 => if x20 = true then ((eP.f k).bind fun t328 => (some t328)) else ((bM.f k (⟨#[2, 101, 120, 0]⟩ : ByteArray) x0).bind fun bt329 => (if bt329.2.2.2 = 0 then ((aU.f k (([(⟨x1, x2, 255, 0, (⟨#[]⟩ : ByteArray)⟩ : S44), (⟨x1, x2, 254, 0, (⟨#[]⟩ : ByteArray)⟩ : S44)] : List (S44)))).bind fun t341 => (aJ.j1 k x1 x2 (!t341) bt329.1 bt329.2.1 bt329.2.2.1 x1 x2 255 0 (⟨#[]⟩ : ByteArray) x1 x2 254 0 (⟨#[]⟩ : ByteArray))) else (aJ.j1 k x1 x2 true bt329.1 bt329.2.1 bt329.2.2.1 x1 x2 255 0 (⟨#[]⟩ : ByteArray) x1 x2 254 0 (⟨#[]⟩ : ByteArray))))
noncomputable def aJ.j1 : Nat → ByteArray → Int → Bool → ByteArray → List (S44) → Int → ByteArray → Int → Int → Int → ByteArray → ByteArray → Int → Int → Int → ByteArray → Option (Bool)
 | 0, _, _, _, _, _, _, _, _, _, _, _, _, _, _, _, _ => none
 | k + 1, x1, x2, x41, x336000, x336001, x336002, x337000, x337001, x337002, x337003, x337004, x338000, x338001, x338002, x338003, x338004 => if x41 = true then (some true) else ((aX.f k x336000 x336001 x336002 (([(⟨x337000, x337001, x337002, x337003, x337004⟩ : S44)] : List (S44)))).bind fun t345 => ((aX.f k x336000 x336001 x336002 (([(⟨x338000, x338001, x338002, x338003, x338004⟩ : S44)] : List (S44)))).bind fun t349 => (if t345 = 10 then (some (t349 == 10)) else ((dG.f x336000 x336001 x336002 x1).bind fun t350 => (if x2 = 255 then (if t350 = true then (if t345 = 0 then (if t349 = 6 then (some true) else (some false)) else (some false)) else (if t349 = 0 then (if t345 = 3 then (some true) else (some false)) else (some false))) else ((dZ.f x336000 x336001 x336002 x1 x2).bind fun t351 => (if (t351.length : Int) > 0 then (if t345 = 0 then (some (t349 == 7)) else (some false)) else (if t349 = 0 then (some (t345 == 8)) else (some false)))))))))
end
noncomputable def aJ.f (k : Nat) (l0 : List (S44)) (a1 : ByteArray) (a2 : Int) : Option (Bool) := (eP.f k).bind fun t326 => (if t326 = true then ((bD.f k l0).bind fun t327 => (aJ.j0 k l0 a1 a2 (!t327))) else (aJ.j0 k l0 a1 a2 true))
def aJ.T7 : Bool × List (List Nat × List Nat) := (true, [([], []), ([], []), ([1], [1]), ([0, 2], [0, 2]), ([], []), ([], []), ([5], [5]), ([4, 6, 3], [4, 6]), ([3, 7, 0, 1, 2, 3], [3]), ([7, 8, 0, 1, 2, 3, 4, 5, 6, 7, 8], [7])])
def aJ.B7 : List Nat := [0, 0, 2, 7, 0, 0, 32, 127, 255, 511]
theorem aJ.IE : dP .any (opsOf Tryz.f5 7) = aJ.T7 := by kernel_rfl
theorem aJ.FQ : dS aJ.T7.2 aJ.B7 = true := by kernel_rfl
theorem aJ.calls (k : Nat) (A0 : Option Addr) (c0 : Nat) (l0 : List (S44)) (a1 : ByteArray) (a2 : Int) (r : Bool) (w : World) (hr0 : Kd.C k44 w A0 l0.length l0) (hc0 : l0.length ≤ c0) (h : aJ.f k l0 a1 a2 = some r) :
    Calls Tryz.prog 5 #[.slice A0 l0.length c0, .string a1, .int .i64 a2] w fun e w' => e = .returned (.bool r) ∧ Below w.heap.size w w' := by
  have hu26 := Tryz.underlying26
  have hu44 := Tryz.underlying44
  have HR0 := ah.mk hr0
  have HC0 := ah.mk hc0
  clear hr0 hc0
  have HB := ah.mk (Below.refl w.heap.size w)
  have H : ((eP.f k).bind fun t326 => (if t326 = true then ((bD.f k l0).bind fun t327 => (aJ.j0 k l0 a1 a2 (!t327))) else (aJ.j0 k l0 a1 a2 true))) = some r := h
  clear h
  have HC4 := ah.mk H
  clear H
  go_enter Tryz.func5, Tryz.ntmps5
  go_upto_region 1 with (fail)
  go_cut [20] (fun v20 wc => ∃ (kq : Nat) (x20_3 : Bool), v20 = .bool x20_3 ∧ ah (aJ.j0 kq l0 a1 a2 x20_3 = some r) ∧ ah (kq ≤ k) ∧ ah (Below w.heap.size w wc))
  case first =>
   have H := HC4.out
   clear HC4
   obtain ⟨t326, A5, H⟩ := bR H
   by_cases c6 : t326 = true
   ·subst c6
    rw [if_pos rfl] at H
    obtain ⟨t327, A7, H⟩ := bR H
    have H' := ah.mk H
    clear H
    go_wp2_with (first | ((with_reducible refine bF (f := 22) rfl ?_); refine dM (some 14) rfl rfl Tryz.func22 (by kernel_rfl) rfl #[] rfl (by (try simp only [List.map_toArray, List.map_cons, List.map_nil]); done) ?_; (with_reducible refine (eP.calls k  _ _ A5.out).mono ?_); rintro e w8 ⟨rfl, hb⟩; refine ⟨_, rfl, ?_⟩; replace HB := ah.mk (au HB.out hb); (try clear hb)) | (go_at_call 10; (with_reducible refine (bD.calls k _ _ l0 t327 _ ?side1 ?side2 A7.out).mono ?_); (case side1 => repeat ((exact (Kd.fH HR0.out HB.out)))); (case side2 => exact HC0.out); rintro e w' ⟨rfl, ⟨nd, rfl⟩⟩))
    go_meet
    case rel => exact ⟨_, (!t327), (by rfl), H', ⟨by omega⟩, ⟨by repeat ((with_reducible first | exact HB.out | apply cK))⟩⟩
   ·replace c6 := Bool.eq_false_iff.mpr c6
    subst c6
    rw [if_neg ff_] at H
    have H' := ah.mk H
    clear H
    go_wp2_with ((((with_reducible refine bF (f := 22) rfl ?_); refine dM (some 14) rfl rfl Tryz.func22 (by kernel_rfl) rfl #[] rfl (by (try simp only [List.map_toArray, List.map_cons, List.map_nil]); done) ?_; (with_reducible refine (eP.calls k  _ _ A5.out).mono ?_); rintro e w9 ⟨rfl, hb⟩; refine ⟨_, rfl, ?_⟩; replace HB := ah.mk (au HB.out hb); (try clear hb))))
    go_meet
    case rel => exact ⟨_, (true), (by rfl), H', ⟨by omega⟩, ⟨HB.out⟩⟩
  case rest =>
   clear HC4
   obtain ⟨kq, x20_3, rfl, HA, HJ3, HB⟩ := hcut
   cases kq with
   | zero => exact absurd HA.out (by simp [aJ.j0])
   | succ kj3 =>
    have H := HA.out
    clear HA
    simp only [aJ.j0] at H
    by_cases c10 : x20_3 = true
    ·subst c10
     rw [if_pos rfl] at H
     obtain ⟨t328, A11, H⟩ := bR H
     obtain rfl := Option.some.inj H
     go_wp2_with ((((with_reducible refine bF (f := 22) rfl ?_); refine dM (some 21) rfl rfl Tryz.func22 (by kernel_rfl) rfl #[] rfl (by (try simp only [List.map_toArray, List.map_cons, List.map_nil]); done) ?_; (with_reducible refine (eP.calls kj3  t328 _ A11.out).mono ?_); rintro e w12 ⟨rfl, hb⟩; refine ⟨_, rfl, ?_⟩; replace HB := ah.mk (au HB.out hb); (try clear hb))))
     go_ret
     exact ⟨by rfl, HB.out⟩
    ·replace c10 := Bool.eq_false_iff.mpr c10
     subst c10
     rw [if_neg ff_] at H
     replace H := Option.bind_eq_some_iff.mp H
     obtain ⟨⟨t329, t330, t333, t334⟩, A130, H⟩ := H
     replace H : (if t334 = 0 then ((aU.f kj3 (([(⟨a1, a2, 255, 0, (⟨#[]⟩ : ByteArray)⟩ : S44), (⟨a1, a2, 254, 0, (⟨#[]⟩ : ByteArray)⟩ : S44)] : List (S44)))).bind fun t341 => (aJ.j1 kj3 a1 a2 (!t341) t329 t330 t333 a1 a2 255 0 (⟨#[]⟩ : ByteArray) a1 a2 254 0 (⟨#[]⟩ : ByteArray))) else (aJ.j1 kj3 a1 a2 true t329 t330 t333 a1 a2 255 0 (⟨#[]⟩ : ByteArray) a1 a2 254 0 (⟨#[]⟩ : ByteArray))) = some r := H
     have A13 := ah.mk A130
     clear A130
     have HC14 := ah.mk H
     clear H
     go_upto_region 5 with (first | ((with_reducible refine bF (f := 11) rfl ?_); refine dM (some 24) rfl rfl Tryz.func11 (by kernel_rfl) rfl #[.string (⟨#[2, 101, 120, 0]⟩ : ByteArray), .slice A0 l0.length c0] rfl (by (try simp only [mA_, mC_, mN_]); rfl) ?_; (with_reducible refine (bM.calls kj3 (⟨#[2, 101, 120, 0]⟩ : ByteArray) _ _ l0 t329 t330 t333 t334 _ ?side1 ?side2 A13.out).mono ?_); (case side1 => repeat ((exact (Kd.fH HR0.out HB.out)))); (case side2 => exact HC0.out); rintro e w15 ⟨v331, rfl, ho0, hb⟩; refine ⟨_, rfl, ?_⟩; have HO332 := ah.mk (Kd.bX ho0 (aA HB.out)); replace HB := ah.mk (au HB.out hb); (try clear hb); (try clear ho0)) | ((with_reducible refine bB (N := 7) rfl ?_); (try (refine eD (by rfl) ?_; dsimp only)); refine bG ?hg (N := 7) ?hd (cs := #[.string (⟨#[]⟩ : ByteArray), .slice none 0 0, .int .i64 0]) (t := 26) ?hr ?_; (case hd => rfl); (case hg => rfl); (case hr => (go_simp; done)); intro gb335 hg w16 hbox hb; have BK335 := ah.mk (hbox); have GW335 := ah.mk ((by rw [hg]; exact (aA HB.out) : w.heap.size ≤ gb335)); have GE335 := ah.mk ((by rw [hg]; exact (aA HB.out) : w.heap.size ≤ gb335)); replace HO332 := ah.mk (Kd.aY (by (with_reducible repeat ((apply Kd.aG))); exact HO332.out) hb); replace HB := ah.mk (au HB.out hb); clear hb hbox hg; have hcz17_0 : w16.cell? ⟨gb335, 0, none⟩ = some (.string (⟨#[]⟩ : ByteArray)) := (aC BK335.out 0).trans rfl; have hcz17_1 : w16.cell? ⟨gb335, 1, none⟩ = some (.slice none 0 0) := (aC BK335.out 1).trans rfl; have hcz17_2 : w16.cell? ⟨gb335, 2, none⟩ = some (.int .i64 0) := (aC BK335.out 2).trans rfl; have hfz17_0 := aH BK335.out 0; have hfz17_1 := aH BK335.out 1; have hfz17_2 := aH BK335.out 2; obtain ⟨Ao18, co18, eo18⟩ := Kd.bY HO332.out; subst eo18) | ((with_reducible refine bB (N := 9) rfl ?_); (try (refine eD (by rfl) ?_; dsimp only)); refine bG ?hg (N := 9) ?hd (cs := #[.string (⟨#[]⟩ : ByteArray), .int .i64 0, .int .i64 0, .int .i64 0, .string (⟨#[]⟩ : ByteArray)]) (t := 44) ?hr ?_; (case hd => rfl); (case hg => rfl); (case hr => (go_simp; done)); intro gb336 hg w19 hbox hb; have BK336 := ah.mk (hbox); have GW336 := ah.mk ((by rw [hg]; exact (aA (by repeat ((with_reducible first | exact HB.out | refine bS ?_ GE335.out)))) : w.heap.size ≤ gb336)); have GE336 := ah.mk ((by rw [hg]; exact (aA (by repeat ((with_reducible first | exact HB.out | refine bS ?_ GE335.out)))) : w.heap.size ≤ gb336)); have NB335_336 := ah.mk ((by rw [hg]; exact Nat.ne_of_lt (eF (g := gb335) (o := .cells #[.string t329, .slice Ao18 t330.length co18, .int .i64 t333] 26 (0, 0)) (by (with_reducible repeat ((refine ak ?_ _))); refine aM (cs := #[.string t329, .slice Ao18 t330.length co18, .int .i64 0]) ?_ 2 _ rfl; (with_reducible repeat ((refine ak ?_ _))); refine aM (cs := #[.string t329, .slice none 0 0, .int .i64 0]) ?_ 1 _ rfl; (with_reducible repeat ((refine ak ?_ _))); refine aM (cs := #[.string (⟨#[]⟩ : ByteArray), .slice none 0 0, .int .i64 0]) ?_ 0 _ rfl; (with_reducible repeat ((refine ak ?_ _))); exact BK335.out)) : gb335 ≠ gb336)); have NB336_335 := ah.mk ((by rw [hg]; exact Nat.ne_of_gt (eF (g := gb335) (o := .cells #[.string t329, .slice Ao18 t330.length co18, .int .i64 t333] 26 (0, 0)) (by (with_reducible repeat ((refine ak ?_ _))); refine aM (cs := #[.string t329, .slice Ao18 t330.length co18, .int .i64 0]) ?_ 2 _ rfl; (with_reducible repeat ((refine ak ?_ _))); refine aM (cs := #[.string t329, .slice none 0 0, .int .i64 0]) ?_ 1 _ rfl; (with_reducible repeat ((refine ak ?_ _))); refine aM (cs := #[.string (⟨#[]⟩ : ByteArray), .slice none 0 0, .int .i64 0]) ?_ 0 _ rfl; (with_reducible repeat ((refine ak ?_ _))); exact BK335.out)) : gb336 ≠ gb335)); replace HO332 := ah.mk (Kd.aY (Kd.lU (by (with_reducible repeat ((apply Kd.aG))); exact (Kd.bN (Kd.bV (p := ⟨gb335, 2, none⟩) (Kd.bV (p := ⟨gb335, 1, none⟩) (Kd.bV (p := ⟨gb335, 0, none⟩) (Kd.lq HO332.out BK335.out (by decide)) (fun _ hk => hk.2) (.string t329)) (fun _ hk => hk.2) (.slice Ao18 t330.length co18)) (fun _ hk => hk.2) (.int .i64 t333)) (fun _ h_ => h_.1))) gb336 (Nat.le_of_eq hg.symm)) hb); replace BK335 := ah.mk (ay (g := gb335) (o := .cells #[.string t329, .slice Ao18 t330.length co18, .int .i64 t333] 26 (0, 0)) (by (with_reducible repeat ((refine ak ?_ _))); refine aM (cs := #[.string t329, .slice Ao18 t330.length co18, .int .i64 0]) ?_ 2 _ rfl; (with_reducible repeat ((refine ak ?_ _))); refine aM (cs := #[.string t329, .slice none 0 0, .int .i64 0]) ?_ 1 _ rfl; (with_reducible repeat ((refine ak ?_ _))); refine aM (cs := #[.string (⟨#[]⟩ : ByteArray), .slice none 0 0, .int .i64 0]) ?_ 0 _ rfl; (with_reducible repeat ((refine ak ?_ _))); exact BK335.out) hb); replace HB := ah.mk (au (by repeat ((with_reducible first | exact HB.out | refine bS ?_ GE335.out))) hb); clear hb hbox hg) | ((with_reducible refine bB (N := 10) rfl ?_); (try (refine eD (by rfl) ?_; dsimp only)); refine bG ?hg (N := 10) ?hd (cs := #[.string (⟨#[]⟩ : ByteArray), .int .i64 0, .int .i64 0, .int .i64 0, .string (⟨#[]⟩ : ByteArray)]) (t := 44) ?hr ?_; (case hd => rfl); (case hg => rfl); (case hr => (go_simp; done)); intro gb337 hg w20 hbox hb; have BK337 := ah.mk (hbox); have GW337 := ah.mk ((by rw [hg]; exact (aA HB.out) : w.heap.size ≤ gb337)); have GE337 := ah.mk ((by rw [hg]; exact (aA HB.out) : w.heap.size ≤ gb337)); have NB335_337 := ah.mk ((by rw [hg]; exact Nat.ne_of_lt (eF (g := gb335) (o := .cells #[.string t329, .slice Ao18 t330.length co18, .int .i64 t333] 26 (0, 0)) (by (with_reducible repeat ((refine ak ?_ _))); exact BK335.out)) : gb335 ≠ gb337)); have NB337_335 := ah.mk ((by rw [hg]; exact Nat.ne_of_gt (eF (g := gb335) (o := .cells #[.string t329, .slice Ao18 t330.length co18, .int .i64 t333] 26 (0, 0)) (by (with_reducible repeat ((refine ak ?_ _))); exact BK335.out)) : gb337 ≠ gb335)); have NB336_337 := ah.mk ((by rw [hg]; exact Nat.ne_of_lt (eF (g := gb336) (o := .cells #[.string (⟨#[]⟩ : ByteArray), .int .i64 0, .int .i64 0, .int .i64 0, .string (⟨#[]⟩ : ByteArray)] 44 (0, 0)) (by (with_reducible repeat ((refine ak ?_ _))); exact BK336.out)) : gb336 ≠ gb337)); have NB337_336 := ah.mk ((by rw [hg]; exact Nat.ne_of_gt (eF (g := gb336) (o := .cells #[.string (⟨#[]⟩ : ByteArray), .int .i64 0, .int .i64 0, .int .i64 0, .string (⟨#[]⟩ : ByteArray)] 44 (0, 0)) (by (with_reducible repeat ((refine ak ?_ _))); exact BK336.out)) : gb337 ≠ gb336)); replace HO332 := ah.mk (Kd.aY (Kd.lU (by (with_reducible repeat ((apply Kd.aG))); exact HO332.out) gb337 (Nat.le_of_eq hg.symm)) hb); replace BK335 := ah.mk (ay (g := gb335) (o := .cells #[.string t329, .slice Ao18 t330.length co18, .int .i64 t333] 26 (0, 0)) (by (with_reducible repeat ((refine ak ?_ _))); exact BK335.out) hb); replace BK336 := ah.mk (ay (g := gb336) (o := .cells #[.string (⟨#[]⟩ : ByteArray), .int .i64 0, .int .i64 0, .int .i64 0, .string (⟨#[]⟩ : ByteArray)] 44 (0, 0)) (by (with_reducible repeat ((refine ak ?_ _))); exact BK336.out) hb); replace HB := ah.mk (au HB.out hb); clear hb hbox hg; have hnb21 := NB336_335.out; have hnc21 := NB335_336.out; have hnb22 := NB336_337.out; have hnc22 := NB337_336.out; have hcz23_0 : w20.cell? ⟨gb336, 0, none⟩ = some (.string (⟨#[]⟩ : ByteArray)) := (aC BK336.out 0).trans rfl; have hcz23_1 : w20.cell? ⟨gb336, 1, none⟩ = some (.int .i64 0) := (aC BK336.out 1).trans rfl; have hcz23_2 : w20.cell? ⟨gb336, 2, none⟩ = some (.int .i64 0) := (aC BK336.out 2).trans rfl; have hcz23_3 : w20.cell? ⟨gb336, 3, none⟩ = some (.int .i64 0) := (aC BK336.out 3).trans rfl; have hcz23_4 : w20.cell? ⟨gb336, 4, none⟩ = some (.string (⟨#[]⟩ : ByteArray)) := (aC BK336.out 4).trans rfl; have hfz23_0 := aH BK336.out 0; have hfz23_1 := aH BK336.out 1; have hfz23_2 := aH BK336.out 2; have hfz23_3 := aH BK336.out 3; have hfz23_4 := aH BK336.out 4; have hnb24 := NB337_335.out; have hnc24 := NB335_337.out; have hcz25_0 : w20.cell? ⟨gb337, 0, none⟩ = some (.string (⟨#[]⟩ : ByteArray)) := (aC BK337.out 0).trans rfl; have hcz25_1 : w20.cell? ⟨gb337, 1, none⟩ = some (.int .i64 0) := (aC BK337.out 1).trans rfl; have hcz25_2 : w20.cell? ⟨gb337, 2, none⟩ = some (.int .i64 0) := (aC BK337.out 2).trans rfl; have hcz25_3 : w20.cell? ⟨gb337, 3, none⟩ = some (.int .i64 0) := (aC BK337.out 3).trans rfl; have hcz25_4 : w20.cell? ⟨gb337, 4, none⟩ = some (.string (⟨#[]⟩ : ByteArray)) := (aC BK337.out 4).trans rfl; have hfz25_0 := aH BK337.out 0; have hfz25_1 := aH BK337.out 1; have hfz25_2 := aH BK337.out 2; have hfz25_3 := aH BK337.out 3; have hfz25_4 := aH BK337.out 4))
     go_cut [41] (fun v41 wc => ∃ (kq : Nat) (x41_13 : Bool), v41 = .bool x41_13 ∧ ah (aJ.j1 kq a1 a2 x41_13 t329 t330 t333 a1 a2 255 0 (⟨#[]⟩ : ByteArray) a1 a2 254 0 (⟨#[]⟩ : ByteArray) = some r) ∧ ah (kq ≤ kj3) ∧ ah (Kd.R k44 44 wc w.heap.size (fun k_ => k_ ≠ gb336 ∧ k_ ≠ gb337) (.slice Ao18 t330.length co18) t330) ∧ ah (wc.heap[gb335]? = some (.cells #[.string t329, (.slice Ao18 t330.length co18), .int .i64 t333] 26 (0, 0))) ∧ ah (wc.heap[gb336]? = some (.cells #[.string a1, .int .i64 a2, .int .i64 255, .int .i64 0, .string (⟨#[]⟩ : ByteArray)] 44 (0, 0))) ∧ ah (wc.heap[gb337]? = some (.cells #[.string a1, .int .i64 a2, .int .i64 254, .int .i64 0, .string (⟨#[]⟩ : ByteArray)] 44 (0, 0))) ∧ ah (Below w.heap.size w wc))
     case first =>
      have H := HC14.out
      clear HC14
      by_cases c26 : t334 = 0
      focus
       rw [if_pos c26] at H
       have c26b0 : (t334 == 0) = true := beq_iff_eq.mpr c26
       have c26b1 : (t334 != 0) = false := bne_eq_false_iff_eq.mpr c26
       clear c26
      rotate_left
      focus
       rw [if_neg c26] at H
       have c26b0 : (t334 == 0) = false := beq_eq_false_iff_ne.mpr c26
       have c26b1 : (t334 != 0) = true := bne_iff_ne.mpr c26
      rotate_left
      all_goals
       (skip)
      ·obtain ⟨y338, hy338⟩ : ∃ y_ : List (S44), y_ = (([(⟨a1, a2, 255, 0, (⟨#[]⟩ : ByteArray)⟩ : S44), (⟨a1, a2, 254, 0, (⟨#[]⟩ : ByteArray)⟩ : S44)] : List (S44))) := ⟨_, rfl⟩
       replace H : ((aU.f kj3 y338).bind fun t341 => (aJ.j1 kj3 a1 a2 (!t341) t329 t330 t333 a1 a2 255 0 (⟨#[]⟩ : ByteArray) a1 a2 254 0 (⟨#[]⟩ : ByteArray))) = some r := by (rw [hy338]; with_reducible exact H)
       have Ny338 := ah.mk hy338
       clear hy338
       obtain ⟨t341, A27, H⟩ := bR H
       have H' := ah.mk H
       clear H
       have hnb28 := NB336_335.out
       have hnc28 := NB335_336.out
       have hnb29 := NB336_337.out
       have hnc29 := NB337_336.out
       have hcz30_0 : w20.cell? ⟨gb336, 0, none⟩ = some (.string (⟨#[]⟩ : ByteArray)) := (aC BK336.out 0).trans rfl
       have hcz30_1 : w20.cell? ⟨gb336, 1, none⟩ = some (.int .i64 0) := (aC BK336.out 1).trans rfl
       have hcz30_2 : w20.cell? ⟨gb336, 2, none⟩ = some (.int .i64 0) := (aC BK336.out 2).trans rfl
       have hcz30_3 : w20.cell? ⟨gb336, 3, none⟩ = some (.int .i64 0) := (aC BK336.out 3).trans rfl
       have hcz30_4 : w20.cell? ⟨gb336, 4, none⟩ = some (.string (⟨#[]⟩ : ByteArray)) := (aC BK336.out 4).trans rfl
       have hfz30_0 := aH BK336.out 0
       have hfz30_1 := aH BK336.out 1
       have hfz30_2 := aH BK336.out 2
       have hfz30_3 := aH BK336.out 3
       have hfz30_4 := aH BK336.out 4
       have hnb31 := NB337_335.out
       have hnc31 := NB335_337.out
       have hcz32_0 : w20.cell? ⟨gb337, 0, none⟩ = some (.string (⟨#[]⟩ : ByteArray)) := (aC BK337.out 0).trans rfl
       have hcz32_1 : w20.cell? ⟨gb337, 1, none⟩ = some (.int .i64 0) := (aC BK337.out 1).trans rfl
       have hcz32_2 : w20.cell? ⟨gb337, 2, none⟩ = some (.int .i64 0) := (aC BK337.out 2).trans rfl
       have hcz32_3 : w20.cell? ⟨gb337, 3, none⟩ = some (.int .i64 0) := (aC BK337.out 3).trans rfl
       have hcz32_4 : w20.cell? ⟨gb337, 4, none⟩ = some (.string (⟨#[]⟩ : ByteArray)) := (aC BK337.out 4).trans rfl
       have hfz32_0 := aH BK337.out 0
       have hfz32_1 := aH BK337.out 1
       have hfz32_2 := aH BK337.out 2
       have hfz32_3 := aH BK337.out 3
       have hfz32_4 := aH BK337.out 4
       go_wp2_with (first | ((with_reducible refine bB (N := 38) rfl ?_); (try (refine eD (by rfl) ?_; dsimp only)); refine Kd.kM k44 _ 44 ?hg (N := 38) ?hd (xs := ([(⟨a1, a2, 255, 0, (⟨#[]⟩ : ByteArray)⟩ : S44), (⟨a1, a2, 254, 0, (⟨#[]⟩ : ByteArray)⟩ : S44)] : List (S44))) (inner := [.string a1, .int .i64 a2, .int .i64 255, .int .i64 0, .string (⟨#[]⟩ : ByteArray), .string a1, .int .i64 a2, .int .i64 254, .int .i64 0, .string (⟨#[]⟩ : ByteArray)]) (ok := fun _ => True) (okp := fun _ => True) ?hr ?hp (fun _ hk => hk) trivial (Below.refl _ _) (Nat.le_refl _) (by simp) ?_; (case hd => rfl); (case hg => rfl); (case hr => (go_simp; done)); (case hp => exact (bI.c5 (show Kd.M k44 _ _ _ (⟨a1, a2, 255, 0, (⟨#[]⟩ : ByteArray)⟩ : S44) [.string a1, .int .i64 a2, .int .i64 255, .int .i64 0, .string (⟨#[]⟩ : ByteArray)] from (gQ _ _ _ (⟨a1, a2, 255, 0, (⟨#[]⟩ : ByteArray)⟩ : S44) )) (bI.c5 (show Kd.M k44 _ _ _ (⟨a1, a2, 254, 0, (⟨#[]⟩ : ByteArray)⟩ : S44) [.string a1, .int .i64 a2, .int .i64 254, .int .i64 0, .string (⟨#[]⟩ : ByteArray)] from (gQ _ _ _ (⟨a1, a2, 254, 0, (⟨#[]⟩ : ByteArray)⟩ : S44) )) (bI.none _ _)))); intro v339 w33 ho34 hb hg_ hnew_; clear hg_ hnew_; ((rw [← Ny338.out] at ho34)); have HO340 := ah.mk (Kd.bX (Kd.jl (Kd.jl (Kd.eH ho34 (Kd.gW (by (with_reducible repeat ((apply Kd.aG))); exact (Kd.bN (Kd.bN (Kd.bV (p := ⟨gb337, 4, none⟩) (Kd.bV (p := ⟨gb337, 3, none⟩) (Kd.bV (p := ⟨gb337, 2, none⟩) (Kd.bV (p := ⟨gb337, 1, none⟩) (Kd.bV (p := ⟨gb337, 0, none⟩) (Kd.bV (p := ⟨gb336, 4, none⟩) (Kd.bV (p := ⟨gb336, 3, none⟩) (Kd.bV (p := ⟨gb336, 2, none⟩) (Kd.bV (p := ⟨gb336, 1, none⟩) (Kd.bV (p := ⟨gb336, 0, none⟩) (Kd.bN (Kd.bN HO332.out (fun k_ hk => (⟨hk, hk.1.2⟩ : _ ∧ k_ ≠ gb336))) (fun k_ hk => (⟨hk, hk.1.2⟩ : _ ∧ k_ ≠ gb337))) (fun _ hk => hk.1.2) (.string a1)) (fun _ hk => hk.1.2) (.int .i64 a2)) (fun _ hk => hk.1.2) (.int .i64 255)) (fun _ hk => hk.1.2) (.int .i64 0)) (fun _ hk => hk.1.2) (.string (⟨#[]⟩ : ByteArray))) (fun _ hk => hk.2) (.string a1)) (fun _ hk => hk.2) (.int .i64 a2)) (fun _ hk => hk.2) (.int .i64 254)) (fun _ hk => hk.2) (.int .i64 0)) (fun _ hk => hk.2) (.string (⟨#[]⟩ : ByteArray))) (fun _ h_ => h_.1)) (fun _ h_ => h_.1))))) (g := gb336) (o := .cells #[.string a1, .int .i64 a2, .int .i64 255, .int .i64 0, .string (⟨#[]⟩ : ByteArray)] 44 (0, 0)) (by (with_reducible repeat ((refine ak ?_ _))); refine aT ?_ NB336_337.out _; (with_reducible repeat ((refine ak ?_ _))); refine aT ?_ NB336_337.out _; (with_reducible repeat ((refine ak ?_ _))); refine aT ?_ NB336_337.out _; (with_reducible repeat ((refine ak ?_ _))); refine aT ?_ NB336_337.out _; (with_reducible repeat ((refine ak ?_ _))); refine aT ?_ NB336_337.out _; (with_reducible repeat ((refine ak ?_ _))); refine aM (cs := #[.string a1, .int .i64 a2, .int .i64 255, .int .i64 0, .string (⟨#[]⟩ : ByteArray)]) ?_ 4 _ rfl; (with_reducible repeat ((refine ak ?_ _))); refine aM (cs := #[.string a1, .int .i64 a2, .int .i64 255, .int .i64 0, .string (⟨#[]⟩ : ByteArray)]) ?_ 3 _ rfl; (with_reducible repeat ((refine ak ?_ _))); refine aM (cs := #[.string a1, .int .i64 a2, .int .i64 0, .int .i64 0, .string (⟨#[]⟩ : ByteArray)]) ?_ 2 _ rfl; (with_reducible repeat ((refine ak ?_ _))); refine aM (cs := #[.string a1, .int .i64 0, .int .i64 0, .int .i64 0, .string (⟨#[]⟩ : ByteArray)]) ?_ 1 _ rfl; (with_reducible repeat ((refine ak ?_ _))); refine aM (cs := #[.string (⟨#[]⟩ : ByteArray), .int .i64 0, .int .i64 0, .int .i64 0, .string (⟨#[]⟩ : ByteArray)]) ?_ 0 _ rfl; (with_reducible repeat ((refine ak ?_ _))); exact BK336.out)) (g := gb337) (o := .cells #[.string a1, .int .i64 a2, .int .i64 254, .int .i64 0, .string (⟨#[]⟩ : ByteArray)] 44 (0, 0)) (by (with_reducible repeat ((refine ak ?_ _))); refine aM (cs := #[.string a1, .int .i64 a2, .int .i64 254, .int .i64 0, .string (⟨#[]⟩ : ByteArray)]) ?_ 4 _ rfl; (with_reducible repeat ((refine ak ?_ _))); refine aM (cs := #[.string a1, .int .i64 a2, .int .i64 254, .int .i64 0, .string (⟨#[]⟩ : ByteArray)]) ?_ 3 _ rfl; (with_reducible repeat ((refine ak ?_ _))); refine aM (cs := #[.string a1, .int .i64 a2, .int .i64 0, .int .i64 0, .string (⟨#[]⟩ : ByteArray)]) ?_ 2 _ rfl; (with_reducible repeat ((refine ak ?_ _))); refine aM (cs := #[.string a1, .int .i64 0, .int .i64 0, .int .i64 0, .string (⟨#[]⟩ : ByteArray)]) ?_ 1 _ rfl; (with_reducible repeat ((refine ak ?_ _))); refine aM (cs := #[.string (⟨#[]⟩ : ByteArray), .int .i64 0, .int .i64 0, .int .i64 0, .string (⟨#[]⟩ : ByteArray)]) ?_ 0 _ rfl; (with_reducible repeat ((refine ak ?_ _))); refine aT ?_ NB337_336.out _; (with_reducible repeat ((refine ak ?_ _))); refine aT ?_ NB337_336.out _; (with_reducible repeat ((refine ak ?_ _))); refine aT ?_ NB337_336.out _; (with_reducible repeat ((refine ak ?_ _))); refine aT ?_ NB337_336.out _; (with_reducible repeat ((refine ak ?_ _))); refine aT ?_ NB337_336.out _; (with_reducible repeat ((refine ak ?_ _))); exact BK337.out)) (aA (by repeat ((with_reducible first | exact HB.out | refine bS ?_ GE336.out | refine bS ?_ GE337.out))))); replace HO332 := ah.mk (Kd.dI (by (with_reducible repeat ((apply Kd.aG))); exact (Kd.bN (Kd.bN (Kd.bV (p := ⟨gb337, 4, none⟩) (Kd.bV (p := ⟨gb337, 3, none⟩) (Kd.bV (p := ⟨gb337, 2, none⟩) (Kd.bV (p := ⟨gb337, 1, none⟩) (Kd.bV (p := ⟨gb337, 0, none⟩) (Kd.bV (p := ⟨gb336, 4, none⟩) (Kd.bV (p := ⟨gb336, 3, none⟩) (Kd.bV (p := ⟨gb336, 2, none⟩) (Kd.bV (p := ⟨gb336, 1, none⟩) (Kd.bV (p := ⟨gb336, 0, none⟩) (Kd.bN (Kd.bN HO332.out (fun k_ hk => (⟨hk, hk.1.2⟩ : _ ∧ k_ ≠ gb336))) (fun k_ hk => (⟨hk, hk.1.2⟩ : _ ∧ k_ ≠ gb337))) (fun _ hk => hk.1.2) (.string a1)) (fun _ hk => hk.1.2) (.int .i64 a2)) (fun _ hk => hk.1.2) (.int .i64 255)) (fun _ hk => hk.1.2) (.int .i64 0)) (fun _ hk => hk.1.2) (.string (⟨#[]⟩ : ByteArray))) (fun _ hk => hk.2) (.string a1)) (fun _ hk => hk.2) (.int .i64 a2)) (fun _ hk => hk.2) (.int .i64 254)) (fun _ hk => hk.2) (.int .i64 0)) (fun _ hk => hk.2) (.string (⟨#[]⟩ : ByteArray))) (fun _ h_ => h_.1)) (fun _ h_ => h_.1))) (Kd.eB ho34) hb); replace BK335 := ah.mk (ay (g := gb335) (o := .cells #[.string t329, .slice Ao18 t330.length co18, .int .i64 t333] 26 (0, 0)) (by (with_reducible repeat ((refine ak ?_ _))); refine aT ?_ NB335_337.out _; (with_reducible repeat ((refine ak ?_ _))); refine aT ?_ NB335_337.out _; (with_reducible repeat ((refine ak ?_ _))); refine aT ?_ NB335_337.out _; (with_reducible repeat ((refine ak ?_ _))); refine aT ?_ NB335_337.out _; (with_reducible repeat ((refine ak ?_ _))); refine aT ?_ NB335_337.out _; (with_reducible repeat ((refine ak ?_ _))); refine aT ?_ NB335_336.out _; (with_reducible repeat ((refine ak ?_ _))); refine aT ?_ NB335_336.out _; (with_reducible repeat ((refine ak ?_ _))); refine aT ?_ NB335_336.out _; (with_reducible repeat ((refine ak ?_ _))); refine aT ?_ NB335_336.out _; (with_reducible repeat ((refine ak ?_ _))); refine aT ?_ NB335_336.out _; (with_reducible repeat ((refine ak ?_ _))); exact BK335.out) hb); replace BK336 := ah.mk (ay (g := gb336) (o := .cells #[.string a1, .int .i64 a2, .int .i64 255, .int .i64 0, .string (⟨#[]⟩ : ByteArray)] 44 (0, 0)) (by (with_reducible repeat ((refine ak ?_ _))); refine aT ?_ NB336_337.out _; (with_reducible repeat ((refine ak ?_ _))); refine aT ?_ NB336_337.out _; (with_reducible repeat ((refine ak ?_ _))); refine aT ?_ NB336_337.out _; (with_reducible repeat ((refine ak ?_ _))); refine aT ?_ NB336_337.out _; (with_reducible repeat ((refine ak ?_ _))); refine aT ?_ NB336_337.out _; (with_reducible repeat ((refine ak ?_ _))); refine aM (cs := #[.string a1, .int .i64 a2, .int .i64 255, .int .i64 0, .string (⟨#[]⟩ : ByteArray)]) ?_ 4 _ rfl; (with_reducible repeat ((refine ak ?_ _))); refine aM (cs := #[.string a1, .int .i64 a2, .int .i64 255, .int .i64 0, .string (⟨#[]⟩ : ByteArray)]) ?_ 3 _ rfl; (with_reducible repeat ((refine ak ?_ _))); refine aM (cs := #[.string a1, .int .i64 a2, .int .i64 0, .int .i64 0, .string (⟨#[]⟩ : ByteArray)]) ?_ 2 _ rfl; (with_reducible repeat ((refine ak ?_ _))); refine aM (cs := #[.string a1, .int .i64 0, .int .i64 0, .int .i64 0, .string (⟨#[]⟩ : ByteArray)]) ?_ 1 _ rfl; (with_reducible repeat ((refine ak ?_ _))); refine aM (cs := #[.string (⟨#[]⟩ : ByteArray), .int .i64 0, .int .i64 0, .int .i64 0, .string (⟨#[]⟩ : ByteArray)]) ?_ 0 _ rfl; (with_reducible repeat ((refine ak ?_ _))); exact BK336.out) hb); replace BK337 := ah.mk (ay (g := gb337) (o := .cells #[.string a1, .int .i64 a2, .int .i64 254, .int .i64 0, .string (⟨#[]⟩ : ByteArray)] 44 (0, 0)) (by (with_reducible repeat ((refine ak ?_ _))); refine aM (cs := #[.string a1, .int .i64 a2, .int .i64 254, .int .i64 0, .string (⟨#[]⟩ : ByteArray)]) ?_ 4 _ rfl; (with_reducible repeat ((refine ak ?_ _))); refine aM (cs := #[.string a1, .int .i64 a2, .int .i64 254, .int .i64 0, .string (⟨#[]⟩ : ByteArray)]) ?_ 3 _ rfl; (with_reducible repeat ((refine ak ?_ _))); refine aM (cs := #[.string a1, .int .i64 a2, .int .i64 0, .int .i64 0, .string (⟨#[]⟩ : ByteArray)]) ?_ 2 _ rfl; (with_reducible repeat ((refine ak ?_ _))); refine aM (cs := #[.string a1, .int .i64 0, .int .i64 0, .int .i64 0, .string (⟨#[]⟩ : ByteArray)]) ?_ 1 _ rfl; (with_reducible repeat ((refine ak ?_ _))); refine aM (cs := #[.string (⟨#[]⟩ : ByteArray), .int .i64 0, .int .i64 0, .int .i64 0, .string (⟨#[]⟩ : ByteArray)]) ?_ 0 _ rfl; (with_reducible repeat ((refine ak ?_ _))); refine aT ?_ NB337_336.out _; (with_reducible repeat ((refine ak ?_ _))); refine aT ?_ NB337_336.out _; (with_reducible repeat ((refine ak ?_ _))); refine aT ?_ NB337_336.out _; (with_reducible repeat ((refine ak ?_ _))); refine aT ?_ NB337_336.out _; (with_reducible repeat ((refine ak ?_ _))); refine aT ?_ NB337_336.out _; (with_reducible repeat ((refine ak ?_ _))); exact BK337.out) hb); replace HB := ah.mk (au (by repeat ((with_reducible first | exact HB.out | refine bS ?_ GE336.out | refine bS ?_ GE337.out))) hb); clear hb ho34; obtain ⟨Ao35, co35, eo35⟩ := Kd.bY HO340.out; subst eo35) | (go_at_call 23; (with_reducible refine (aU.calls kj3 _ _ y338 t341 _ ?side1 ?side2 A27.out).mono ?_); (case side1 => repeat ((exact (Kd.aK HO340.out).2.2))); (case side2 => exact (Kd.aK HO340.out).2.1); rintro e w36 ⟨rfl, hb⟩; replace HO332 := ah.mk (Kd.aY (by (with_reducible repeat ((apply Kd.aG))); exact HO332.out) hb); replace HO340 := ah.mk (Kd.aY (by (with_reducible repeat ((apply Kd.aG))); exact HO340.out) hb); replace BK335 := ah.mk (ay (g := gb335) (o := .cells #[.string t329, .slice Ao18 t330.length co18, .int .i64 t333] 26 (0, 0)) (by (with_reducible repeat ((refine ak ?_ _))); exact BK335.out) hb); replace BK336 := ah.mk (ay (g := gb336) (o := .cells #[.string a1, .int .i64 a2, .int .i64 255, .int .i64 0, .string (⟨#[]⟩ : ByteArray)] 44 (0, 0)) (by (with_reducible repeat ((refine ak ?_ _))); exact BK336.out) hb); replace BK337 := ah.mk (ay (g := gb337) (o := .cells #[.string a1, .int .i64 a2, .int .i64 254, .int .i64 0, .string (⟨#[]⟩ : ByteArray)] 44 (0, 0)) (by (with_reducible repeat ((refine ak ?_ _))); exact BK337.out) hb); replace HB := ah.mk (au HB.out hb); (try clear hb)))
       go_meet
       case rel => exact ⟨_, (!t341), (by rfl), H', ⟨by have := HJ3.out; omega⟩, ⟨by (with_reducible repeat ((apply Kd.aG))); exact Kd.bN HO332.out (fun _ hk => ⟨hk.1.1.2, hk.1.2⟩)⟩, ⟨by (with_reducible repeat ((refine ak ?_ _))); exact BK335.out⟩, ⟨by (with_reducible repeat ((refine ak ?_ _))); exact BK336.out⟩, ⟨by (with_reducible repeat ((refine ak ?_ _))); exact BK337.out⟩, ⟨HB.out⟩⟩
      ·have H' := ah.mk H
       clear H
       go_wp2
       go_meet
       case rel => exact ⟨_, (true), (by rfl), H', ⟨by have := HJ3.out; omega⟩, ⟨by (with_reducible repeat ((apply Kd.aG))); exact Kd.bN (Kd.bV (p := ⟨gb337, 4, none⟩) (Kd.bV (p := ⟨gb337, 3, none⟩) (Kd.bV (p := ⟨gb337, 2, none⟩) (Kd.bV (p := ⟨gb337, 1, none⟩) (Kd.bV (p := ⟨gb337, 0, none⟩) (Kd.bV (p := ⟨gb336, 4, none⟩) (Kd.bV (p := ⟨gb336, 3, none⟩) (Kd.bV (p := ⟨gb336, 2, none⟩) (Kd.bV (p := ⟨gb336, 1, none⟩) (Kd.bV (p := ⟨gb336, 0, none⟩) (Kd.bN (Kd.bN HO332.out (fun k_ hk => (⟨hk, hk.1.2⟩ : _ ∧ k_ ≠ gb336))) (fun k_ hk => (⟨hk, hk.1.2⟩ : _ ∧ k_ ≠ gb337))) (fun _ hk => hk.1.2) (.string a1)) (fun _ hk => hk.1.2) (.int .i64 a2)) (fun _ hk => hk.1.2) (.int .i64 255)) (fun _ hk => hk.1.2) (.int .i64 0)) (fun _ hk => hk.1.2) (.string (⟨#[]⟩ : ByteArray))) (fun _ hk => hk.2) (.string a1)) (fun _ hk => hk.2) (.int .i64 a2)) (fun _ hk => hk.2) (.int .i64 254)) (fun _ hk => hk.2) (.int .i64 0)) (fun _ hk => hk.2) (.string (⟨#[]⟩ : ByteArray))) (fun _ hk => ⟨hk.1.1.1.2, hk.1.1.2⟩)⟩, ⟨by (with_reducible repeat ((refine ak ?_ _))); refine aT ?_ NB335_337.out _; (with_reducible repeat ((refine ak ?_ _))); refine aT ?_ NB335_337.out _; (with_reducible repeat ((refine ak ?_ _))); refine aT ?_ NB335_337.out _; (with_reducible repeat ((refine ak ?_ _))); refine aT ?_ NB335_337.out _; (with_reducible repeat ((refine ak ?_ _))); refine aT ?_ NB335_337.out _; (with_reducible repeat ((refine ak ?_ _))); refine aT ?_ NB335_336.out _; (with_reducible repeat ((refine ak ?_ _))); refine aT ?_ NB335_336.out _; (with_reducible repeat ((refine ak ?_ _))); refine aT ?_ NB335_336.out _; (with_reducible repeat ((refine ak ?_ _))); refine aT ?_ NB335_336.out _; (with_reducible repeat ((refine ak ?_ _))); refine aT ?_ NB335_336.out _; (with_reducible repeat ((refine ak ?_ _))); exact BK335.out⟩, ⟨by (with_reducible repeat ((refine ak ?_ _))); refine aT ?_ NB336_337.out _; (with_reducible repeat ((refine ak ?_ _))); refine aT ?_ NB336_337.out _; (with_reducible repeat ((refine ak ?_ _))); refine aT ?_ NB336_337.out _; (with_reducible repeat ((refine ak ?_ _))); refine aT ?_ NB336_337.out _; (with_reducible repeat ((refine ak ?_ _))); refine aT ?_ NB336_337.out _; (with_reducible repeat ((refine ak ?_ _))); refine aM (cs := #[.string a1, .int .i64 a2, .int .i64 255, .int .i64 0, .string (⟨#[]⟩ : ByteArray)]) ?_ 4 _ rfl; (with_reducible repeat ((refine ak ?_ _))); refine aM (cs := #[.string a1, .int .i64 a2, .int .i64 255, .int .i64 0, .string (⟨#[]⟩ : ByteArray)]) ?_ 3 _ rfl; (with_reducible repeat ((refine ak ?_ _))); refine aM (cs := #[.string a1, .int .i64 a2, .int .i64 0, .int .i64 0, .string (⟨#[]⟩ : ByteArray)]) ?_ 2 _ rfl; (with_reducible repeat ((refine ak ?_ _))); refine aM (cs := #[.string a1, .int .i64 0, .int .i64 0, .int .i64 0, .string (⟨#[]⟩ : ByteArray)]) ?_ 1 _ rfl; (with_reducible repeat ((refine ak ?_ _))); refine aM (cs := #[.string (⟨#[]⟩ : ByteArray), .int .i64 0, .int .i64 0, .int .i64 0, .string (⟨#[]⟩ : ByteArray)]) ?_ 0 _ rfl; (with_reducible repeat ((refine ak ?_ _))); exact BK336.out⟩, ⟨by (with_reducible repeat ((refine ak ?_ _))); refine aM (cs := #[.string a1, .int .i64 a2, .int .i64 254, .int .i64 0, .string (⟨#[]⟩ : ByteArray)]) ?_ 4 _ rfl; (with_reducible repeat ((refine ak ?_ _))); refine aM (cs := #[.string a1, .int .i64 a2, .int .i64 254, .int .i64 0, .string (⟨#[]⟩ : ByteArray)]) ?_ 3 _ rfl; (with_reducible repeat ((refine ak ?_ _))); refine aM (cs := #[.string a1, .int .i64 a2, .int .i64 0, .int .i64 0, .string (⟨#[]⟩ : ByteArray)]) ?_ 2 _ rfl; (with_reducible repeat ((refine ak ?_ _))); refine aM (cs := #[.string a1, .int .i64 0, .int .i64 0, .int .i64 0, .string (⟨#[]⟩ : ByteArray)]) ?_ 1 _ rfl; (with_reducible repeat ((refine ak ?_ _))); refine aM (cs := #[.string (⟨#[]⟩ : ByteArray), .int .i64 0, .int .i64 0, .int .i64 0, .string (⟨#[]⟩ : ByteArray)]) ?_ 0 _ rfl; (with_reducible repeat ((refine ak ?_ _))); refine aT ?_ NB337_336.out _; (with_reducible repeat ((refine ak ?_ _))); refine aT ?_ NB337_336.out _; (with_reducible repeat ((refine ak ?_ _))); refine aT ?_ NB337_336.out _; (with_reducible repeat ((refine ak ?_ _))); refine aT ?_ NB337_336.out _; (with_reducible repeat ((refine ak ?_ _))); refine aT ?_ NB337_336.out _; (with_reducible repeat ((refine ak ?_ _))); exact BK337.out⟩, ⟨by repeat ((with_reducible first | exact HB.out | refine bS ?_ GE336.out | refine bS ?_ GE337.out))⟩⟩
     case rest =>
      clear HC14
      (try clear hcz17_0)
      (try clear hcz17_1)
      (try clear hcz17_2)
      (try clear hcz23_0)
      (try clear hcz23_1)
      (try clear hcz23_2)
      (try clear hcz23_3)
      (try clear hcz23_4)
      (try clear hcz25_0)
      (try clear hcz25_1)
      (try clear hcz25_2)
      (try clear hcz25_3)
      (try clear hcz25_4)
      (try clear hfz17_0)
      (try clear hfz17_1)
      (try clear hfz17_2)
      (try clear hfz23_0)
      (try clear hfz23_1)
      (try clear hfz23_2)
      (try clear hfz23_3)
      (try clear hfz23_4)
      (try clear hfz25_0)
      (try clear hfz25_1)
      (try clear hfz25_2)
      (try clear hfz25_3)
      (try clear hfz25_4)
      obtain ⟨kq, x41_13, rfl, HA, HJ13, HO_336001, BK335, BK336, BK337, HB⟩ := hcut
      cases kq with
      | zero => exact absurd HA.out (by simp [aJ.j1])
      | succ kj13 =>
       have H := HA.out
       clear HA
       simp only [aJ.j1] at H
       by_cases c37 : x41_13 = true
       focus
        subst c37
        rw [if_pos rfl] at H
        obtain rfl := Option.some.inj H
        go_wp2
       rotate_left
       focus
        replace c37 := Bool.eq_false_iff.mpr c37
        subst c37
        rw [if_neg ff_] at H
        obtain ⟨y342, hy342⟩ : ∃ y_ : List (S44), y_ = (([(⟨a1, a2, 255, 0, (⟨#[]⟩ : ByteArray)⟩ : S44)] : List (S44))) := ⟨_, rfl⟩
        replace H : ((aX.f kj13 t329 t330 t333 y342).bind fun t345 => ((aX.f kj13 t329 t330 t333 (([(⟨a1, a2, 254, 0, (⟨#[]⟩ : ByteArray)⟩ : S44)] : List (S44)))).bind fun t349 => (if t345 = 10 then (some (t349 == 10)) else ((dG.f t329 t330 t333 a1).bind fun t350 => (if a2 = 255 then (if t350 = true then (if t345 = 0 then (if t349 = 6 then (some true) else (some false)) else (some false)) else (if t349 = 0 then (if t345 = 3 then (some true) else (some false)) else (some false))) else ((dZ.f t329 t330 t333 a1 a2).bind fun t351 => (if (t351.length : Int) > 0 then (if t345 = 0 then (some (t349 == 7)) else (some false)) else (if t349 = 0 then (some (t345 == 8)) else (some false))))))))) = some r := by (rw [hy342]; with_reducible exact H)
        have Ny342 := ah.mk hy342
        clear hy342
        obtain ⟨t345, A38, H⟩ := bR H
        obtain ⟨y346, hy346⟩ : ∃ y_ : List (S44), y_ = (([(⟨a1, a2, 254, 0, (⟨#[]⟩ : ByteArray)⟩ : S44)] : List (S44))) := ⟨_, rfl⟩
        replace H : ((aX.f kj13 t329 t330 t333 y346).bind fun t349 => (if t345 = 10 then (some (t349 == 10)) else ((dG.f t329 t330 t333 a1).bind fun t350 => (if a2 = 255 then (if t350 = true then (if t345 = 0 then (if t349 = 6 then (some true) else (some false)) else (some false)) else (if t349 = 0 then (if t345 = 3 then (some true) else (some false)) else (some false))) else ((dZ.f t329 t330 t333 a1 a2).bind fun t351 => (if (t351.length : Int) > 0 then (if t345 = 0 then (some (t349 == 7)) else (some false)) else (if t349 = 0 then (some (t345 == 8)) else (some false)))))))) = some r := by (rw [hy346]; with_reducible exact H)
        have Ny346 := ah.mk hy346
        clear hy346
        obtain ⟨t349, A39, H⟩ := bR H
        by_cases c40 : t345 = 10
        focus
         rw [if_pos c40] at H
         have c40b0 : (t345 == 10) = true := beq_iff_eq.mpr c40
         have c40b1 : (t345 != 10) = false := bne_eq_false_iff_eq.mpr c40
         clear c40
        rotate_left
        focus
         rw [if_neg c40] at H
         have c40b0 : (t345 == 10) = false := beq_eq_false_iff_ne.mpr c40
         have c40b1 : (t345 != 10) = true := bne_iff_ne.mpr c40
         obtain ⟨t350, A51, H⟩ := bR H
         by_cases c52 : a2 = 255
         focus
          rw [if_pos c52] at H
          have c52b0 : (a2 == 255) = true := beq_iff_eq.mpr c52
          have c52b1 : (a2 != 255) = false := bne_eq_false_iff_eq.mpr c52
          clear c52
          by_cases c53 : t350 = true
          focus
           subst c53
           rw [if_pos rfl] at H
           by_cases c54 : t345 = 0
           focus
            rw [if_pos c54] at H
            have c54b0 : (t345 == 0) = true := beq_iff_eq.mpr c54
            have c54b1 : (t345 != 0) = false := bne_eq_false_iff_eq.mpr c54
            clear c54
            by_cases c55 : t349 = 6
            focus
             rw [if_pos c55] at H
             have c55b0 : (t349 == 6) = true := beq_iff_eq.mpr c55
             have c55b1 : (t349 != 6) = false := bne_eq_false_iff_eq.mpr c55
             clear c55
            rotate_left
            focus
             rw [if_neg c55] at H
             have c55b0 : (t349 == 6) = false := beq_eq_false_iff_ne.mpr c55
             have c55b1 : (t349 != 6) = true := bne_iff_ne.mpr c55
            rotate_left
           rotate_left 2
           focus
            rw [if_neg c54] at H
            have c54b0 : (t345 == 0) = false := beq_eq_false_iff_ne.mpr c54
            have c54b1 : (t345 != 0) = true := bne_iff_ne.mpr c54
           rotate_left
          rotate_left 3
          focus
           replace c53 := Bool.eq_false_iff.mpr c53
           subst c53
           rw [if_neg ff_] at H
           by_cases c98 : t349 = 0
           focus
            rw [if_pos c98] at H
            have c98b0 : (t349 == 0) = true := beq_iff_eq.mpr c98
            have c98b1 : (t349 != 0) = false := bne_eq_false_iff_eq.mpr c98
            clear c98
            by_cases c99 : t345 = 3
            focus
             rw [if_pos c99] at H
             have c99b0 : (t345 == 3) = true := beq_iff_eq.mpr c99
             have c99b1 : (t345 != 3) = false := bne_eq_false_iff_eq.mpr c99
             clear c99
            rotate_left
            focus
             rw [if_neg c99] at H
             have c99b0 : (t345 == 3) = false := beq_eq_false_iff_ne.mpr c99
             have c99b1 : (t345 != 3) = true := bne_iff_ne.mpr c99
            rotate_left
           rotate_left 2
           focus
            rw [if_neg c98] at H
            have c98b0 : (t349 == 0) = false := beq_eq_false_iff_ne.mpr c98
            have c98b1 : (t349 != 0) = true := bne_iff_ne.mpr c98
           rotate_left
          rotate_left 3
         rotate_left 6
         focus
          rw [if_neg c52] at H
          have c52b0 : (a2 == 255) = false := beq_eq_false_iff_ne.mpr c52
          have c52b1 : (a2 != 255) = true := bne_iff_ne.mpr c52
          obtain ⟨t351, A142, H⟩ := bR H
          by_cases c143 : (t351.length : Int) > 0
          focus
           rw [if_pos c143] at H
           have c143b0 : decide (0 < (t351.length : Int)) = true := decide_eq_true c143
           have c143b1 : decide (0 < t351.length) = true := decide_eq_true (by omega)
           clear c143
           by_cases c144 : t345 = 0
           focus
            rw [if_pos c144] at H
            have c144b0 : (t345 == 0) = true := beq_iff_eq.mpr c144
            have c144b1 : (t345 != 0) = false := bne_eq_false_iff_eq.mpr c144
            clear c144
           rotate_left
           focus
            rw [if_neg c144] at H
            have c144b0 : (t345 == 0) = false := beq_eq_false_iff_ne.mpr c144
            have c144b1 : (t345 != 0) = true := bne_iff_ne.mpr c144
           rotate_left
          rotate_left 2
          focus
           rw [if_neg c143] at H
           have c143b0 : decide (0 < (t351.length : Int)) = false := decide_eq_false c143
           have c143b1 : decide (0 < t351.length) = false := decide_eq_false (by omega)
           clear c143
           by_cases c179 : t349 = 0
           focus
            rw [if_pos c179] at H
            have c179b0 : (t349 == 0) = true := beq_iff_eq.mpr c179
            have c179b1 : (t349 != 0) = false := bne_eq_false_iff_eq.mpr c179
            clear c179
           rotate_left
           focus
            rw [if_neg c179] at H
            have c179b0 : (t349 == 0) = false := beq_eq_false_iff_ne.mpr c179
            have c179b1 : (t349 != 0) = true := bne_iff_ne.mpr c179
           rotate_left
          rotate_left 2
         rotate_left 4
        rotate_left 10
        all_goals
         obtain rfl := Option.some.inj H
         (try go_wp2)
         replace HO_336001 := ah.mk (Kd.iq HO_336001.out)
         replace BK335 := ah.mk (eX BK335.out)
         replace BK336 := ah.mk (eX BK336.out)
         replace BK337 := ah.mk (eX BK337.out)
         replace HB := ah.mk (dO HB.out)
         refine fM (n := 10) (S := fun w' => True) (ds := []) (ls 10 0) (by kernel_rfl) rfl rfl trivial (fun hHeld => ?_); refine dW aJ.IE aJ.FQ (fun HT_ HW_ => ?_)
         generalize wc.drew = w41 at HO_336001 BK335 BK336 BK337 HB hHeld ⊢
         refine IL [0, 1, 2, 3, 4, 5, 6, 7, 8, 9] (fun a0_ b a w' => ∃ (v343 : Value) (v347 : Value), a = iM a0_ b [(0, 42, .agg #[.string t329, .slice Ao18 t330.length co18, .int .i64 t333]), (1, 43, .agg #[.string a1, .int .i64 a2, .int .i64 255, .int .i64 0, .string (⟨#[]⟩ : ByteArray)]), (2, 44, v343), (3, 45, .int .i64 t345), (4, 46, .agg #[.string t329, .slice Ao18 t330.length co18, .int .i64 t333]), (5, 47, .agg #[.string a1, .int .i64 a2, .int .i64 254, .int .i64 0, .string (⟨#[]⟩ : ByteArray)]), (6, 48, v347), (7, 49, .int .i64 t349), (8, 11, .int .i64 t345), (9, 12, .int .i64 t349)] ∧ (Kd.R k44 44 w' w.heap.size (fun k_ => k_ ≠ gb336 ∧ k_ ≠ gb337) (.slice Ao18 t330.length co18) t330) ∧ (w'.heap[gb335]? = some (.cells #[.string t329, .slice Ao18 t330.length co18, .int .i64 t333] 26 (0, 0))) ∧ (w'.heap[gb336]? = some (.cells #[.string a1, .int .i64 a2, .int .i64 255, .int .i64 0, .string (⟨#[]⟩ : ByteArray)] 44 (0, 0))) ∧ (w'.heap[gb337]? = some (.cells #[.string a1, .int .i64 a2, .int .i64 254, .int .i64 0, .string (⟨#[]⟩ : ByteArray)] 44 (0, 0))) ∧ (Below w.heap.size w w') ∧ (b 2 = true → Kd.R k44 44 w' w.heap.size (fun k_ => some k_ ≠ (.slice Ao18 t330.length co18 : Value).ownBlock ∧ k_ ≠ gb336 ∧ k_ ≠ gb337) v343 y342) ∧ (b 6 = true → Kd.R k44 44 w' w.heap.size (fun k_ => some k_ ≠ (.slice Ao18 t330.length co18 : Value).ownBlock ∧ k_ ≠ gb336 ∧ k_ ≠ gb337) v347 y346)) HT_.out HW_.out (by kernel_rfl) (by kernel_rfl) ?_ ?_ ?_
         ·exact ⟨.bool false, .bool false, by simp only [iM, Bool.false_eq_true, if_false], HO_336001.out, BK335.out, BK336.out, BK337.out, HB.out, fun h_ => absurd h_ (by decide), fun h_ => absurd h_ (by decide)⟩
         ·skip
          clear BK335 BK336 BK337 HB HO_336001
          refine jq ?_ ?_
          ·rintro b a w' ⟨v343, v347, ha, Q_HO_336001, Q_BK335, Q_BK336, Q_BK337, Q_HB, Q_HO344, Q_HO348⟩ hb_ hon hoff
           refine ⟨_, rfl, fun K hK => ?_⟩
           have e7 : a.tmps[7]? = some (.pointer (some ⟨gb335, 0, none⟩)) := by rw [ha]; exact (kH rfl).trans rfl
           replace ha := ah.mk ha
           have HO_336001 := ah.mk Q_HO_336001
           have BK335 := ah.mk Q_BK335
           have BK336 := ah.mk Q_BK336
           have BK337 := ah.mk Q_BK337
           have HB := ah.mk Q_HB
           have hc0_ : w'.cell? ⟨gb335, 0, none⟩ = some (.string t329) := (aC BK335.out 0).trans rfl
           have hc1_ : w'.cell? ⟨gb335, 1, none⟩ = some (.slice Ao18 t330.length co18) := (aC BK335.out 1).trans rfl
           have hc2_ : w'.cell? ⟨gb335, 2, none⟩ = some (.int .i64 t333) := (aC BK335.out 2).trans rfl
           refine pQ (w1 := w') (v := .agg #[.string t329, .slice Ao18 t330.length co18, .int .i64 t333]) (by rfl) rfl ?_ ?_
           ·go_simp
           refine hK.out _ _ ⟨v343, v347, (by rw [ha.out]; exact jm 0 hb_ rfl rfl rfl), Q_HO_336001, Q_BK335, Q_BK336, Q_BK337, Q_HB, Q_HO344, Q_HO348⟩
          refine jq ?_ ?_
          ·rintro b a w' ⟨v343, v347, ha, Q_HO_336001, Q_BK335, Q_BK336, Q_BK337, Q_HB, Q_HO344, Q_HO348⟩ hb_ hon hoff
           refine ⟨_, rfl, fun K hK => ?_⟩
           have e9 : a.tmps[9]? = some (.pointer (some ⟨gb336, 0, none⟩)) := by rw [ha]; exact (kH rfl).trans rfl
           replace ha := ah.mk ha
           have HO_336001 := ah.mk Q_HO_336001
           have BK335 := ah.mk Q_BK335
           have BK336 := ah.mk Q_BK336
           have BK337 := ah.mk Q_BK337
           have HB := ah.mk Q_HB
           have hc0_ : w'.cell? ⟨gb336, 0, none⟩ = some (.string a1) := (aC BK336.out 0).trans rfl
           have hc1_ : w'.cell? ⟨gb336, 1, none⟩ = some (.int .i64 a2) := (aC BK336.out 1).trans rfl
           have hc2_ : w'.cell? ⟨gb336, 2, none⟩ = some (.int .i64 255) := (aC BK336.out 2).trans rfl
           have hc3_ : w'.cell? ⟨gb336, 3, none⟩ = some (.int .i64 0) := (aC BK336.out 3).trans rfl
           have hc4_ : w'.cell? ⟨gb336, 4, none⟩ = some (.string (⟨#[]⟩ : ByteArray)) := (aC BK336.out 4).trans rfl
           refine pQ (w1 := w') (v := .agg #[.string a1, .int .i64 a2, .int .i64 255, .int .i64 0, .string (⟨#[]⟩ : ByteArray)]) (by rfl) rfl ?_ ?_
           ·go_simp
           refine hK.out _ _ ⟨v343, v347, (by rw [ha.out]; exact jm 1 hb_ rfl rfl rfl), Q_HO_336001, Q_BK335, Q_BK336, Q_BK337, Q_HB, fun h0_ => absurd ((hoff 2 (by kernel_rfl)).symm.trans h0_) (by decide), Q_HO348⟩
          refine jq ?_ ?_
          ·rintro b a w' ⟨v343, v347, ha, Q_HO_336001, Q_BK335, Q_BK336, Q_BK337, Q_HB, Q_HO344, Q_HO348⟩ hb_ hon hoff
           refine ⟨_, rfl, fun K hK => ?_⟩
           have e43 : a.tmps[43]? = some (.agg #[.string a1, .int .i64 a2, .int .i64 255, .int .i64 0, .string (⟨#[]⟩ : ByteArray)]) := by rw [ha]; exact jR (e := (1, 43, .agg #[.string a1, .int .i64 a2, .int .i64 255, .int .i64 0, .string (⟨#[]⟩ : ByteArray)])) 1 rfl rfl (hon 1 (by kernel_rfl)) rfl
           replace ha := ah.mk ha
           have HO_336001 := ah.mk Q_HO_336001
           have BK335 := ah.mk Q_BK335
           have BK336 := ah.mk Q_BK336
           have BK337 := ah.mk Q_BK337
           have HB := ah.mk Q_HB
           refine Kd.qG k44 _ 44 ?hg (N := 44) ?hd (xs := ([(⟨a1, a2, 255, 0, (⟨#[]⟩ : ByteArray)⟩ : S44)] : List (S44))) (inner := [.string a1, .int .i64 a2, .int .i64 255, .int .i64 0, .string (⟨#[]⟩ : ByteArray)]) (ok := fun _ => True) (okp := fun _ => True) ?hr ?hp (fun _ hk => hk) trivial (Below.refl _ _) (Nat.le_refl _) (by simp) ?_; (case hd => rfl); (case hg => rfl); (case hr => (go_simp; done)); (case hp => exact (bI.c5 (show Kd.M k44 _ _ _ (⟨a1, a2, 255, 0, (⟨#[]⟩ : ByteArray)⟩ : S44) [.string a1, .int .i64 a2, .int .i64 255, .int .i64 0, .string (⟨#[]⟩ : ByteArray)] from (gQ _ _ _ (⟨a1, a2, 255, 0, (⟨#[]⟩ : ByteArray)⟩ : S44) )) (bI.none _ _)))
           intro v343 w42 ho43 hb hg_ hnew_
           clear hg_ hnew_
           ((rw [← Ny342.out] at ho43))
           have n0_ := ah.mk (Kd.dI (by (with_reducible repeat ((apply Kd.aG))); exact HO_336001.out) (Kd.eB ho43) hb)
           have n1_ := ah.mk (Kd.bX (Kd.jl (Kd.jl (Kd.eH ho43 (Kd.gW (by (with_reducible repeat ((apply Kd.aG))); exact HO_336001.out))) (g := gb336) (o := .cells #[.string a1, .int .i64 a2, .int .i64 255, .int .i64 0, .string (⟨#[]⟩ : ByteArray)] 44 (0, 0)) (by (with_reducible repeat ((refine ak ?_ _))); exact BK336.out)) (g := gb337) (o := .cells #[.string a1, .int .i64 a2, .int .i64 254, .int .i64 0, .string (⟨#[]⟩ : ByteArray)] 44 (0, 0)) (by (with_reducible repeat ((refine ak ?_ _))); exact BK337.out)) (aA HB.out))
           have n2_ := ah.mk (ay (g := gb335) (o := .cells #[.string t329, .slice Ao18 t330.length co18, .int .i64 t333] 26 (0, 0)) (by (with_reducible repeat ((refine ak ?_ _))); exact BK335.out) hb)
           have n3_ := ah.mk (ay (g := gb336) (o := .cells #[.string a1, .int .i64 a2, .int .i64 255, .int .i64 0, .string (⟨#[]⟩ : ByteArray)] 44 (0, 0)) (by (with_reducible repeat ((refine ak ?_ _))); exact BK336.out) hb)
           have n4_ := ah.mk (ay (g := gb337) (o := .cells #[.string a1, .int .i64 a2, .int .i64 254, .int .i64 0, .string (⟨#[]⟩ : ByteArray)] 44 (0, 0)) (by (with_reducible repeat ((refine ak ?_ _))); exact BK337.out) hb)
           have n5_ := ah.mk (au HB.out hb)
           have z_HO348 := fun (h0_ : b 6 = true) => (show Kd.R k44 44 w42 w.heap.size (fun k_ => some k_ ≠ (.slice Ao18 t330.length co18 : Value).ownBlock ∧ k_ ≠ gb336 ∧ k_ ≠ gb337) v347 y346 from by (exact Kd.bN (Kd.dI (by (with_reducible repeat ((apply Kd.aG))); exact (Q_HO348 h0_)) (Kd.eB ho43) hb) (fun _ h_ => by (exact h_.1))))
           clear HO_336001
           clear BK335
           clear BK336
           clear BK337
           clear HB
           have HO_336001 := n0_
           have HO344 := n1_
           have BK335 := n2_
           have BK336 := n3_
           have BK337 := n4_
           have HB := n5_
           clear n0_ n1_ n2_ n3_ n4_ n5_
           clear hb ho43
           refine hK.out _ _ ⟨v343, v347, (by rw [ha.out]; exact jm 2 hb_ rfl rfl rfl), (by (with_reducible repeat ((apply Kd.aG))); exact Kd.bN HO_336001.out (fun _ hk => by rcases hk with ⟨⟨h1_, h2_⟩, h3_⟩; (repeat' (first | assumption | (refine ⟨?_, ?_⟩))))), (by (with_reducible repeat ((refine ak ?_ _))); exact BK335.out), (by (with_reducible repeat ((refine ak ?_ _))); exact BK336.out), (by (with_reducible repeat ((refine ak ?_ _))); exact BK337.out), HB.out, fun _ => (by (with_reducible repeat ((apply Kd.aG))); exact Kd.bN HO344.out (fun _ hk => ⟨hk.1.1.2, ⟨hk.1.2, hk.2⟩⟩)), z_HO348⟩
          refine jq ?_ ?_
          ·rintro b a w' ⟨v343, v347, ha, Q_HO_336001, Q_BK335, Q_BK336, Q_BK337, Q_HB, Q_HO344, Q_HO348⟩ hb_ hon hoff
           refine ⟨_, rfl, fun K hK => ?_⟩
           have e42 : a.tmps[42]? = some (.agg #[.string t329, .slice Ao18 t330.length co18, .int .i64 t333]) := by rw [ha]; exact jR (e := (0, 42, .agg #[.string t329, .slice Ao18 t330.length co18, .int .i64 t333])) 0 rfl rfl (hon 0 (by kernel_rfl)) rfl
           have e44 : a.tmps[44]? = some (v343) := by rw [ha]; exact jR (e := (2, 44, v343)) 2 rfl rfl (hon 2 (by kernel_rfl)) rfl
           replace ha := ah.mk ha
           have HO_336001 := ah.mk Q_HO_336001
           have BK335 := ah.mk Q_BK335
           have BK336 := ah.mk Q_BK336
           have BK337 := ah.mk Q_BK337
           have HB := ah.mk Q_HB
           have HO344 := ah.mk (Q_HO344 (hon 2 (by kernel_rfl)))
           obtain ⟨Ao45, co45, eo45⟩ := Kd.bY HO344.out
           ((subst eo45))
           refine jX Tryz.func24 (by kernel_rfl) rfl #[.agg #[.string t329, .slice Ao18 t330.length co18, .int .i64 t333], .slice Ao45 y342.length co45] (by rfl) rfl rfl (by (simp only [List.map_toArray, List.map_cons, List.map_nil, Act.eval, Array.getD_eq_getD_getElem?, Option.getD_some, e42, e44]; done)) ?_
           with_reducible refine (aX.calls kj13 t329 _ _ t330 t333 _ _ y342 t345 _ ?side1 ?side2 ?side3 ?side4 A38.out).mono ?_
           (case side1 => repeat ((exact (Kd.aK HO_336001.out).2.2)))
           (case side2 => exact (Kd.aK HO_336001.out).2.1)
           (case side3 => repeat ((exact (Kd.aK HO344.out).2.2)))
           (case side4 => exact (Kd.aK HO344.out).2.1)
           rintro e w46 ⟨rfl, hb⟩
           refine ⟨_, rfl, ?_⟩
           have n0_ := ah.mk (Kd.aY (by (with_reducible repeat ((apply Kd.aG))); exact HO_336001.out) hb)
           have n1_ := ah.mk (Kd.aY (by (with_reducible repeat ((apply Kd.aG))); exact HO344.out) hb)
           have n2_ := ah.mk (ay (g := gb335) (o := .cells #[.string t329, .slice Ao18 t330.length co18, .int .i64 t333] 26 (0, 0)) (by (with_reducible repeat ((refine ak ?_ _))); exact BK335.out) hb)
           have n3_ := ah.mk (ay (g := gb336) (o := .cells #[.string a1, .int .i64 a2, .int .i64 255, .int .i64 0, .string (⟨#[]⟩ : ByteArray)] 44 (0, 0)) (by (with_reducible repeat ((refine ak ?_ _))); exact BK336.out) hb)
           have n4_ := ah.mk (ay (g := gb337) (o := .cells #[.string a1, .int .i64 a2, .int .i64 254, .int .i64 0, .string (⟨#[]⟩ : ByteArray)] 44 (0, 0)) (by (with_reducible repeat ((refine ak ?_ _))); exact BK337.out) hb)
           have n5_ := ah.mk (au HB.out hb)
           have z_HO348 := fun (h0_ : b 6 = true) => (show Kd.R k44 44 w46 w.heap.size (fun k_ => some k_ ≠ (.slice Ao18 t330.length co18 : Value).ownBlock ∧ k_ ≠ gb336 ∧ k_ ≠ gb337) v347 y346 from by (exact (Kd.aY (by (with_reducible repeat ((apply Kd.aG))); exact (Q_HO348 h0_)) hb)))
           clear HO_336001
           clear HO344
           clear BK335
           clear BK336
           clear BK337
           clear HB
           have HO_336001 := n0_
           have HO344 := n1_
           have BK335 := n2_
           have BK336 := n3_
           have BK337 := n4_
           have HB := n5_
           clear n0_ n1_ n2_ n3_ n4_ n5_
           (try clear hb)
           refine hK.out _ _ ⟨.slice Ao45 y342.length co45, v347, (by rw [ha.out]; exact jm 3 hb_ rfl rfl rfl), (by (with_reducible repeat ((apply Kd.aG))); exact HO_336001.out), (by (with_reducible repeat ((refine ak ?_ _))); exact BK335.out), (by (with_reducible repeat ((refine ak ?_ _))); exact BK336.out), (by (with_reducible repeat ((refine ak ?_ _))); exact BK337.out), HB.out, fun _ => (by (with_reducible repeat ((apply Kd.aG))); exact HO344.out), z_HO348⟩
          refine jq ?_ ?_
          ·rintro b a w' ⟨v343, v347, ha, Q_HO_336001, Q_BK335, Q_BK336, Q_BK337, Q_HB, Q_HO344, Q_HO348⟩ hb_ hon hoff
           refine ⟨_, rfl, fun K hK => ?_⟩
           have e7 : a.tmps[7]? = some (.pointer (some ⟨gb335, 0, none⟩)) := by rw [ha]; exact (kH rfl).trans rfl
           replace ha := ah.mk ha
           have HO_336001 := ah.mk Q_HO_336001
           have BK335 := ah.mk Q_BK335
           have BK336 := ah.mk Q_BK336
           have BK337 := ah.mk Q_BK337
           have HB := ah.mk Q_HB
           have hc0_ : w'.cell? ⟨gb335, 0, none⟩ = some (.string t329) := (aC BK335.out 0).trans rfl
           have hc1_ : w'.cell? ⟨gb335, 1, none⟩ = some (.slice Ao18 t330.length co18) := (aC BK335.out 1).trans rfl
           have hc2_ : w'.cell? ⟨gb335, 2, none⟩ = some (.int .i64 t333) := (aC BK335.out 2).trans rfl
           refine pQ (w1 := w') (v := .agg #[.string t329, .slice Ao18 t330.length co18, .int .i64 t333]) (by rfl) rfl ?_ ?_
           ·go_simp
           refine hK.out _ _ ⟨v343, v347, (by rw [ha.out]; exact jm 4 hb_ rfl rfl rfl), Q_HO_336001, Q_BK335, Q_BK336, Q_BK337, Q_HB, Q_HO344, Q_HO348⟩
          refine jq ?_ ?_
          ·rintro b a w' ⟨v343, v347, ha, Q_HO_336001, Q_BK335, Q_BK336, Q_BK337, Q_HB, Q_HO344, Q_HO348⟩ hb_ hon hoff
           refine ⟨_, rfl, fun K hK => ?_⟩
           have e10 : a.tmps[10]? = some (.pointer (some ⟨gb337, 0, none⟩)) := by rw [ha]; exact (kH rfl).trans rfl
           replace ha := ah.mk ha
           have HO_336001 := ah.mk Q_HO_336001
           have BK335 := ah.mk Q_BK335
           have BK336 := ah.mk Q_BK336
           have BK337 := ah.mk Q_BK337
           have HB := ah.mk Q_HB
           have hc0_ : w'.cell? ⟨gb337, 0, none⟩ = some (.string a1) := (aC BK337.out 0).trans rfl
           have hc1_ : w'.cell? ⟨gb337, 1, none⟩ = some (.int .i64 a2) := (aC BK337.out 1).trans rfl
           have hc2_ : w'.cell? ⟨gb337, 2, none⟩ = some (.int .i64 254) := (aC BK337.out 2).trans rfl
           have hc3_ : w'.cell? ⟨gb337, 3, none⟩ = some (.int .i64 0) := (aC BK337.out 3).trans rfl
           have hc4_ : w'.cell? ⟨gb337, 4, none⟩ = some (.string (⟨#[]⟩ : ByteArray)) := (aC BK337.out 4).trans rfl
           refine pQ (w1 := w') (v := .agg #[.string a1, .int .i64 a2, .int .i64 254, .int .i64 0, .string (⟨#[]⟩ : ByteArray)]) (by rfl) rfl ?_ ?_
           ·go_simp
           refine hK.out _ _ ⟨v343, v347, (by rw [ha.out]; exact jm 5 hb_ rfl rfl rfl), Q_HO_336001, Q_BK335, Q_BK336, Q_BK337, Q_HB, Q_HO344, fun h0_ => absurd ((hoff 6 (by kernel_rfl)).symm.trans h0_) (by decide)⟩
          refine jq ?_ ?_
          ·rintro b a w' ⟨v343, v347, ha, Q_HO_336001, Q_BK335, Q_BK336, Q_BK337, Q_HB, Q_HO344, Q_HO348⟩ hb_ hon hoff
           refine ⟨_, rfl, fun K hK => ?_⟩
           have e47 : a.tmps[47]? = some (.agg #[.string a1, .int .i64 a2, .int .i64 254, .int .i64 0, .string (⟨#[]⟩ : ByteArray)]) := by rw [ha]; exact jR (e := (5, 47, .agg #[.string a1, .int .i64 a2, .int .i64 254, .int .i64 0, .string (⟨#[]⟩ : ByteArray)])) 5 rfl rfl (hon 5 (by kernel_rfl)) rfl
           replace ha := ah.mk ha
           have HO_336001 := ah.mk Q_HO_336001
           have BK335 := ah.mk Q_BK335
           have BK336 := ah.mk Q_BK336
           have BK337 := ah.mk Q_BK337
           have HB := ah.mk Q_HB
           refine Kd.qG k44 _ 44 ?hg (N := 48) ?hd (xs := ([(⟨a1, a2, 254, 0, (⟨#[]⟩ : ByteArray)⟩ : S44)] : List (S44))) (inner := [.string a1, .int .i64 a2, .int .i64 254, .int .i64 0, .string (⟨#[]⟩ : ByteArray)]) (ok := fun _ => True) (okp := fun _ => True) ?hr ?hp (fun _ hk => hk) trivial (Below.refl _ _) (Nat.le_refl _) (by simp) ?_; (case hd => rfl); (case hg => rfl); (case hr => (go_simp; done)); (case hp => exact (bI.c5 (show Kd.M k44 _ _ _ (⟨a1, a2, 254, 0, (⟨#[]⟩ : ByteArray)⟩ : S44) [.string a1, .int .i64 a2, .int .i64 254, .int .i64 0, .string (⟨#[]⟩ : ByteArray)] from (gQ _ _ _ (⟨a1, a2, 254, 0, (⟨#[]⟩ : ByteArray)⟩ : S44) )) (bI.none _ _)))
           intro v347 w42 ho43 hb hg_ hnew_
           clear hg_ hnew_
           ((rw [← Ny346.out] at ho43))
           have n0_ := ah.mk (Kd.dI (by (with_reducible repeat ((apply Kd.aG))); exact HO_336001.out) (Kd.eB ho43) hb)
           have n1_ := ah.mk (Kd.bX (Kd.jl (Kd.jl (Kd.eH ho43 (Kd.gW (by (with_reducible repeat ((apply Kd.aG))); exact HO_336001.out))) (g := gb336) (o := .cells #[.string a1, .int .i64 a2, .int .i64 255, .int .i64 0, .string (⟨#[]⟩ : ByteArray)] 44 (0, 0)) (by (with_reducible repeat ((refine ak ?_ _))); exact BK336.out)) (g := gb337) (o := .cells #[.string a1, .int .i64 a2, .int .i64 254, .int .i64 0, .string (⟨#[]⟩ : ByteArray)] 44 (0, 0)) (by (with_reducible repeat ((refine ak ?_ _))); exact BK337.out)) (aA HB.out))
           have n2_ := ah.mk (ay (g := gb335) (o := .cells #[.string t329, .slice Ao18 t330.length co18, .int .i64 t333] 26 (0, 0)) (by (with_reducible repeat ((refine ak ?_ _))); exact BK335.out) hb)
           have n3_ := ah.mk (ay (g := gb336) (o := .cells #[.string a1, .int .i64 a2, .int .i64 255, .int .i64 0, .string (⟨#[]⟩ : ByteArray)] 44 (0, 0)) (by (with_reducible repeat ((refine ak ?_ _))); exact BK336.out) hb)
           have n4_ := ah.mk (ay (g := gb337) (o := .cells #[.string a1, .int .i64 a2, .int .i64 254, .int .i64 0, .string (⟨#[]⟩ : ByteArray)] 44 (0, 0)) (by (with_reducible repeat ((refine ak ?_ _))); exact BK337.out) hb)
           have n5_ := ah.mk (au HB.out hb)
           have z_HO344 := fun (h0_ : b 2 = true) => (show Kd.R k44 44 w42 w.heap.size (fun k_ => some k_ ≠ (.slice Ao18 t330.length co18 : Value).ownBlock ∧ k_ ≠ gb336 ∧ k_ ≠ gb337) v343 y342 from by (exact Kd.bN (Kd.dI (by (with_reducible repeat ((apply Kd.aG))); exact (Q_HO344 h0_)) (Kd.eB ho43) hb) (fun _ h_ => by (exact h_.1))))
           clear HO_336001
           clear BK335
           clear BK336
           clear BK337
           clear HB
           have HO_336001 := n0_
           have HO348 := n1_
           have BK335 := n2_
           have BK336 := n3_
           have BK337 := n4_
           have HB := n5_
           clear n0_ n1_ n2_ n3_ n4_ n5_
           clear hb ho43
           refine hK.out _ _ ⟨v343, v347, (by rw [ha.out]; exact jm 6 hb_ rfl rfl rfl), (by (with_reducible repeat ((apply Kd.aG))); exact Kd.bN HO_336001.out (fun _ hk => by rcases hk with ⟨⟨h1_, h2_⟩, h3_⟩; (repeat' (first | assumption | (refine ⟨?_, ?_⟩))))), (by (with_reducible repeat ((refine ak ?_ _))); exact BK335.out), (by (with_reducible repeat ((refine ak ?_ _))); exact BK336.out), (by (with_reducible repeat ((refine ak ?_ _))); exact BK337.out), HB.out, z_HO344, fun _ => (by (with_reducible repeat ((apply Kd.aG))); exact Kd.bN HO348.out (fun _ hk => ⟨hk.1.1.2, ⟨hk.1.2, hk.2⟩⟩))⟩
          refine jq ?_ ?_
          ·rintro b a w' ⟨v343, v347, ha, Q_HO_336001, Q_BK335, Q_BK336, Q_BK337, Q_HB, Q_HO344, Q_HO348⟩ hb_ hon hoff
           refine ⟨_, rfl, fun K hK => ?_⟩
           have e46 : a.tmps[46]? = some (.agg #[.string t329, .slice Ao18 t330.length co18, .int .i64 t333]) := by rw [ha]; exact jR (e := (4, 46, .agg #[.string t329, .slice Ao18 t330.length co18, .int .i64 t333])) 4 rfl rfl (hon 4 (by kernel_rfl)) rfl
           have e48 : a.tmps[48]? = some (v347) := by rw [ha]; exact jR (e := (6, 48, v347)) 6 rfl rfl (hon 6 (by kernel_rfl)) rfl
           replace ha := ah.mk ha
           have HO_336001 := ah.mk Q_HO_336001
           have BK335 := ah.mk Q_BK335
           have BK336 := ah.mk Q_BK336
           have BK337 := ah.mk Q_BK337
           have HB := ah.mk Q_HB
           have HO344 := ah.mk (Q_HO344 (hon 2 (by kernel_rfl)))
           have HO348 := ah.mk (Q_HO348 (hon 6 (by kernel_rfl)))
           obtain ⟨Ao49, co49, eo49⟩ := Kd.bY HO348.out
           ((subst eo49))
           refine jX Tryz.func24 (by kernel_rfl) rfl #[.agg #[.string t329, .slice Ao18 t330.length co18, .int .i64 t333], .slice Ao49 y346.length co49] (by rfl) rfl rfl (by (simp only [List.map_toArray, List.map_cons, List.map_nil, Act.eval, Array.getD_eq_getD_getElem?, Option.getD_some, e46, e48]; done)) ?_
           with_reducible refine (aX.calls kj13 t329 _ _ t330 t333 _ _ y346 t349 _ ?side1 ?side2 ?side3 ?side4 A39.out).mono ?_
           (case side1 => repeat ((exact (Kd.aK HO_336001.out).2.2)))
           (case side2 => exact (Kd.aK HO_336001.out).2.1)
           (case side3 => repeat ((exact (Kd.aK HO348.out).2.2)))
           (case side4 => exact (Kd.aK HO348.out).2.1)
           rintro e w50 ⟨rfl, hb⟩
           refine ⟨_, rfl, ?_⟩
           replace HO_336001 := ah.mk (Kd.aY (by (with_reducible repeat ((apply Kd.aG))); exact HO_336001.out) hb)
           replace HO344 := ah.mk (Kd.aY (by (with_reducible repeat ((apply Kd.aG))); exact HO344.out) hb)
           replace HO348 := ah.mk (Kd.aY (by (with_reducible repeat ((apply Kd.aG))); exact HO348.out) hb)
           replace BK335 := ah.mk (ay (g := gb335) (o := .cells #[.string t329, .slice Ao18 t330.length co18, .int .i64 t333] 26 (0, 0)) (by (with_reducible repeat ((refine ak ?_ _))); exact BK335.out) hb)
           replace BK336 := ah.mk (ay (g := gb336) (o := .cells #[.string a1, .int .i64 a2, .int .i64 255, .int .i64 0, .string (⟨#[]⟩ : ByteArray)] 44 (0, 0)) (by (with_reducible repeat ((refine ak ?_ _))); exact BK336.out) hb)
           replace BK337 := ah.mk (ay (g := gb337) (o := .cells #[.string a1, .int .i64 a2, .int .i64 254, .int .i64 0, .string (⟨#[]⟩ : ByteArray)] 44 (0, 0)) (by (with_reducible repeat ((refine ak ?_ _))); exact BK337.out) hb)
           replace HB := ah.mk (au HB.out hb)
           (try clear hb)
           refine hK.out _ _ ⟨v343, .slice Ao49 y346.length co49, (by rw [ha.out]; exact jm 7 hb_ rfl rfl rfl), (by (with_reducible repeat ((apply Kd.aG))); exact HO_336001.out), (by (with_reducible repeat ((refine ak ?_ _))); exact BK335.out), (by (with_reducible repeat ((refine ak ?_ _))); exact BK336.out), (by (with_reducible repeat ((refine ak ?_ _))); exact BK337.out), HB.out, fun _ => (by (with_reducible repeat ((apply Kd.aG))); exact HO344.out), fun _ => (by (with_reducible repeat ((apply Kd.aG))); exact HO348.out)⟩
          refine jq ?_ ?_
          ·rintro b a w' ⟨v343, v347, ha, Q_HO_336001, Q_BK335, Q_BK336, Q_BK337, Q_HB, Q_HO344, Q_HO348⟩ hb_ hon hoff
           refine ⟨_, rfl, fun K hK => ?_⟩
           have e45 : a.tmps[45]? = some (.int .i64 t345) := by rw [ha]; exact jR (e := (3, 45, .int .i64 t345)) 3 rfl rfl (hon 3 (by kernel_rfl)) rfl
           replace ha := ah.mk ha
           have HO_336001 := ah.mk Q_HO_336001
           have BK335 := ah.mk Q_BK335
           have BK336 := ah.mk Q_BK336
           have BK337 := ah.mk Q_BK337
           have HB := ah.mk Q_HB
           have HO344 := ah.mk (Q_HO344 (hon 2 (by kernel_rfl)))
           have HO348 := ah.mk (Q_HO348 (hon 6 (by kernel_rfl)))
           refine pQ (w1 := w') (v := .int .i64 t345) (by rfl) rfl ?_ ?_
           ·go_simp
           refine hK.out _ _ ⟨v343, v347, (by rw [ha.out]; exact jm 8 hb_ rfl rfl rfl), Q_HO_336001, Q_BK335, Q_BK336, Q_BK337, Q_HB, Q_HO344, Q_HO348⟩
          refine jq ?_ ?_
          ·rintro b a w' ⟨v343, v347, ha, Q_HO_336001, Q_BK335, Q_BK336, Q_BK337, Q_HB, Q_HO344, Q_HO348⟩ hb_ hon hoff
           refine ⟨_, rfl, fun K hK => ?_⟩
           have e49 : a.tmps[49]? = some (.int .i64 t349) := by rw [ha]; exact jR (e := (7, 49, .int .i64 t349)) 7 rfl rfl (hon 7 (by kernel_rfl)) rfl
           replace ha := ah.mk ha
           have HO_336001 := ah.mk Q_HO_336001
           have BK335 := ah.mk Q_BK335
           have BK336 := ah.mk Q_BK336
           have BK337 := ah.mk Q_BK337
           have HB := ah.mk Q_HB
           have HO344 := ah.mk (Q_HO344 (hon 2 (by kernel_rfl)))
           have HO348 := ah.mk (Q_HO348 (hon 6 (by kernel_rfl)))
           refine pQ (w1 := w') (v := .int .i64 t349) (by rfl) rfl ?_ ?_
           ·go_simp
           refine hK.out _ _ ⟨v343, v347, (by rw [ha.out]; exact jm 9 hb_ rfl rfl rfl), Q_HO_336001, Q_BK335, Q_BK336, Q_BK337, Q_HB, Q_HO344, Q_HO348⟩
          exact Cy
         rintro b a w50 hall ⟨v343, v347, ha, Q_HO_336001, Q_BK335, Q_BK336, Q_BK337, Q_HB, Q_HO344, Q_HO348⟩
         clear BK335 BK336 BK337 HB HO_336001
         have hb0_ := hall 0 (by kernel_rfl)
         have hb1_ := hall 1 (by kernel_rfl)
         have hb2_ := hall 2 (by kernel_rfl)
         have hb3_ := hall 3 (by kernel_rfl)
         have hb4_ := hall 4 (by kernel_rfl)
         have hb5_ := hall 5 (by kernel_rfl)
         have hb6_ := hall 6 (by kernel_rfl)
         have hb7_ := hall 7 (by kernel_rfl)
         have hb8_ := hall 8 (by kernel_rfl)
         have hb9_ := hall 9 (by kernel_rfl)
         subst ha
         simp only [iM, hb0_, hb1_, hb2_, hb3_, hb4_, hb5_, hb6_, hb7_, hb8_, hb9_, if_true, Act.put, List.setIfInBounds_toArray, List.set_cons_zero, List.set_cons_succ]
         have HO_336001 := ah.mk Q_HO_336001
         clear Q_HO_336001
         have BK335 := ah.mk Q_BK335
         clear Q_BK335
         have BK336 := ah.mk Q_BK336
         clear Q_BK336
         have BK337 := ah.mk Q_BK337
         clear Q_BK337
         have HB := ah.mk Q_HB
         clear Q_HB
         have HO344 := ah.mk (Q_HO344 hb2_)
         clear Q_HO344
         have HO348 := ah.mk (Q_HO348 hb6_)
         clear Q_HO348
         clear hall hb0_ hb1_ hb2_ hb3_ hb4_ hb5_ hb6_ hb7_ hb8_ hb9_
        focus
         (try go_wp2)
        rotate_left
        focus
         have hnb66 := NB335_336.out
         have hnc66 := NB336_335.out
         have hnb67 := NB335_337.out
         have hnc67 := NB337_335.out
         have hcz68_0 : w50.cell? ⟨gb335, 0, none⟩ = some (.string t329) := (aC BK335.out 0).trans rfl
         have hcz68_1 : w50.cell? ⟨gb335, 1, none⟩ = some (.slice Ao18 t330.length co18) := (aC BK335.out 1).trans rfl
         have hcz68_2 : w50.cell? ⟨gb335, 2, none⟩ = some (.int .i64 t333) := (aC BK335.out 2).trans rfl
         have hfz68_0 := aH BK335.out 0
         have hfz68_1 := aH BK335.out 1
         have hfz68_2 := aH BK335.out 2
         (try go_wp2_with ((((with_reducible refine bF (f := 18) rfl ?_); refine dM (some 56) rfl rfl Tryz.func18 (by kernel_rfl) rfl #[.agg #[.string t329, .slice Ao18 t330.length co18, .int .i64 t333], .string a1] rfl (by (try simp only [mA_, mC_, mN_]); rfl) ?_; (with_reducible refine (dG.calls t329 _ _ t330 t333 a1 _ _ ?side1 ?side2 A51.out).mono ?_); (case side1 => repeat ((exact (Kd.aK HO_336001.out).2.2))); (case side2 => exact (Kd.aK HO_336001.out).2.1); rintro e w69 ⟨rfl, hb⟩; refine ⟨_, rfl, ?_⟩; replace HO_336001 := ah.mk (Kd.aY (by (with_reducible repeat ((apply Kd.aG))); exact HO_336001.out) hb); replace HO344 := ah.mk (Kd.aY (by (with_reducible repeat ((apply Kd.aG))); exact HO344.out) hb); replace HO348 := ah.mk (Kd.aY (by (with_reducible repeat ((apply Kd.aG))); exact HO348.out) hb); replace BK335 := ah.mk (ay (g := gb335) (o := .cells #[.string t329, .slice Ao18 t330.length co18, .int .i64 t333] 26 (0, 0)) (by (with_reducible repeat ((refine ak ?_ _))); exact BK335.out) hb); replace BK336 := ah.mk (ay (g := gb336) (o := .cells #[.string a1, .int .i64 a2, .int .i64 255, .int .i64 0, .string (⟨#[]⟩ : ByteArray)] 44 (0, 0)) (by (with_reducible repeat ((refine ak ?_ _))); exact BK336.out) hb); replace BK337 := ah.mk (ay (g := gb337) (o := .cells #[.string a1, .int .i64 a2, .int .i64 254, .int .i64 0, .string (⟨#[]⟩ : ByteArray)] 44 (0, 0)) (by (with_reducible repeat ((refine ak ?_ _))); exact BK337.out) hb); replace HB := ah.mk (au HB.out hb); (try clear hb)))))
        rotate_left
        focus
         have hnb66 := NB335_336.out
         have hnc66 := NB336_335.out
         have hnb67 := NB335_337.out
         have hnc67 := NB337_335.out
         have hcz68_0 : w50.cell? ⟨gb335, 0, none⟩ = some (.string t329) := (aC BK335.out 0).trans rfl
         have hcz68_1 : w50.cell? ⟨gb335, 1, none⟩ = some (.slice Ao18 t330.length co18) := (aC BK335.out 1).trans rfl
         have hcz68_2 : w50.cell? ⟨gb335, 2, none⟩ = some (.int .i64 t333) := (aC BK335.out 2).trans rfl
         have hfz68_0 := aH BK335.out 0
         have hfz68_1 := aH BK335.out 1
         have hfz68_2 := aH BK335.out 2
         (try go_wp2_with ((((with_reducible refine bF (f := 18) rfl ?_); refine dM (some 56) rfl rfl Tryz.func18 (by kernel_rfl) rfl #[.agg #[.string t329, .slice Ao18 t330.length co18, .int .i64 t333], .string a1] rfl (by (try simp only [mA_, mC_, mN_]); rfl) ?_; (with_reducible refine (dG.calls t329 _ _ t330 t333 a1 _ _ ?side1 ?side2 A51.out).mono ?_); (case side1 => repeat ((exact (Kd.aK HO_336001.out).2.2))); (case side2 => exact (Kd.aK HO_336001.out).2.1); rintro e w69 ⟨rfl, hb⟩; refine ⟨_, rfl, ?_⟩; replace HO_336001 := ah.mk (Kd.aY (by (with_reducible repeat ((apply Kd.aG))); exact HO_336001.out) hb); replace HO344 := ah.mk (Kd.aY (by (with_reducible repeat ((apply Kd.aG))); exact HO344.out) hb); replace HO348 := ah.mk (Kd.aY (by (with_reducible repeat ((apply Kd.aG))); exact HO348.out) hb); replace BK335 := ah.mk (ay (g := gb335) (o := .cells #[.string t329, .slice Ao18 t330.length co18, .int .i64 t333] 26 (0, 0)) (by (with_reducible repeat ((refine ak ?_ _))); exact BK335.out) hb); replace BK336 := ah.mk (ay (g := gb336) (o := .cells #[.string a1, .int .i64 a2, .int .i64 255, .int .i64 0, .string (⟨#[]⟩ : ByteArray)] 44 (0, 0)) (by (with_reducible repeat ((refine ak ?_ _))); exact BK336.out) hb); replace BK337 := ah.mk (ay (g := gb337) (o := .cells #[.string a1, .int .i64 a2, .int .i64 254, .int .i64 0, .string (⟨#[]⟩ : ByteArray)] 44 (0, 0)) (by (with_reducible repeat ((refine ak ?_ _))); exact BK337.out) hb); replace HB := ah.mk (au HB.out hb); (try clear hb)))))
        rotate_left
        focus
         have hnb66 := NB335_336.out
         have hnc66 := NB336_335.out
         have hnb67 := NB335_337.out
         have hnc67 := NB337_335.out
         have hcz68_0 : w50.cell? ⟨gb335, 0, none⟩ = some (.string t329) := (aC BK335.out 0).trans rfl
         have hcz68_1 : w50.cell? ⟨gb335, 1, none⟩ = some (.slice Ao18 t330.length co18) := (aC BK335.out 1).trans rfl
         have hcz68_2 : w50.cell? ⟨gb335, 2, none⟩ = some (.int .i64 t333) := (aC BK335.out 2).trans rfl
         have hfz68_0 := aH BK335.out 0
         have hfz68_1 := aH BK335.out 1
         have hfz68_2 := aH BK335.out 2
         (try go_wp2_with ((((with_reducible refine bF (f := 18) rfl ?_); refine dM (some 56) rfl rfl Tryz.func18 (by kernel_rfl) rfl #[.agg #[.string t329, .slice Ao18 t330.length co18, .int .i64 t333], .string a1] rfl (by (try simp only [mA_, mC_, mN_]); rfl) ?_; (with_reducible refine (dG.calls t329 _ _ t330 t333 a1 _ _ ?side1 ?side2 A51.out).mono ?_); (case side1 => repeat ((exact (Kd.aK HO_336001.out).2.2))); (case side2 => exact (Kd.aK HO_336001.out).2.1); rintro e w69 ⟨rfl, hb⟩; refine ⟨_, rfl, ?_⟩; replace HO_336001 := ah.mk (Kd.aY (by (with_reducible repeat ((apply Kd.aG))); exact HO_336001.out) hb); replace HO344 := ah.mk (Kd.aY (by (with_reducible repeat ((apply Kd.aG))); exact HO344.out) hb); replace HO348 := ah.mk (Kd.aY (by (with_reducible repeat ((apply Kd.aG))); exact HO348.out) hb); replace BK335 := ah.mk (ay (g := gb335) (o := .cells #[.string t329, .slice Ao18 t330.length co18, .int .i64 t333] 26 (0, 0)) (by (with_reducible repeat ((refine ak ?_ _))); exact BK335.out) hb); replace BK336 := ah.mk (ay (g := gb336) (o := .cells #[.string a1, .int .i64 a2, .int .i64 255, .int .i64 0, .string (⟨#[]⟩ : ByteArray)] 44 (0, 0)) (by (with_reducible repeat ((refine ak ?_ _))); exact BK336.out) hb); replace BK337 := ah.mk (ay (g := gb337) (o := .cells #[.string a1, .int .i64 a2, .int .i64 254, .int .i64 0, .string (⟨#[]⟩ : ByteArray)] 44 (0, 0)) (by (with_reducible repeat ((refine ak ?_ _))); exact BK337.out) hb); replace HB := ah.mk (au HB.out hb); (try clear hb)))))
        rotate_left
        focus
         have hnb66 := NB335_336.out
         have hnc66 := NB336_335.out
         have hnb67 := NB335_337.out
         have hnc67 := NB337_335.out
         have hcz68_0 : w50.cell? ⟨gb335, 0, none⟩ = some (.string t329) := (aC BK335.out 0).trans rfl
         have hcz68_1 : w50.cell? ⟨gb335, 1, none⟩ = some (.slice Ao18 t330.length co18) := (aC BK335.out 1).trans rfl
         have hcz68_2 : w50.cell? ⟨gb335, 2, none⟩ = some (.int .i64 t333) := (aC BK335.out 2).trans rfl
         have hfz68_0 := aH BK335.out 0
         have hfz68_1 := aH BK335.out 1
         have hfz68_2 := aH BK335.out 2
         (try go_wp2_with ((((with_reducible refine bF (f := 18) rfl ?_); refine dM (some 56) rfl rfl Tryz.func18 (by kernel_rfl) rfl #[.agg #[.string t329, .slice Ao18 t330.length co18, .int .i64 t333], .string a1] rfl (by (try simp only [mA_, mC_, mN_]); rfl) ?_; (with_reducible refine (dG.calls t329 _ _ t330 t333 a1 _ _ ?side1 ?side2 A51.out).mono ?_); (case side1 => repeat ((exact (Kd.aK HO_336001.out).2.2))); (case side2 => exact (Kd.aK HO_336001.out).2.1); rintro e w113 ⟨rfl, hb⟩; refine ⟨_, rfl, ?_⟩; replace HO_336001 := ah.mk (Kd.aY (by (with_reducible repeat ((apply Kd.aG))); exact HO_336001.out) hb); replace HO344 := ah.mk (Kd.aY (by (with_reducible repeat ((apply Kd.aG))); exact HO344.out) hb); replace HO348 := ah.mk (Kd.aY (by (with_reducible repeat ((apply Kd.aG))); exact HO348.out) hb); replace BK335 := ah.mk (ay (g := gb335) (o := .cells #[.string t329, .slice Ao18 t330.length co18, .int .i64 t333] 26 (0, 0)) (by (with_reducible repeat ((refine ak ?_ _))); exact BK335.out) hb); replace BK336 := ah.mk (ay (g := gb336) (o := .cells #[.string a1, .int .i64 a2, .int .i64 255, .int .i64 0, .string (⟨#[]⟩ : ByteArray)] 44 (0, 0)) (by (with_reducible repeat ((refine ak ?_ _))); exact BK336.out) hb); replace BK337 := ah.mk (ay (g := gb337) (o := .cells #[.string a1, .int .i64 a2, .int .i64 254, .int .i64 0, .string (⟨#[]⟩ : ByteArray)] 44 (0, 0)) (by (with_reducible repeat ((refine ak ?_ _))); exact BK337.out) hb); replace HB := ah.mk (au HB.out hb); (try clear hb)))))
        rotate_left
        focus
         have hnb66 := NB335_336.out
         have hnc66 := NB336_335.out
         have hnb67 := NB335_337.out
         have hnc67 := NB337_335.out
         have hcz68_0 : w50.cell? ⟨gb335, 0, none⟩ = some (.string t329) := (aC BK335.out 0).trans rfl
         have hcz68_1 : w50.cell? ⟨gb335, 1, none⟩ = some (.slice Ao18 t330.length co18) := (aC BK335.out 1).trans rfl
         have hcz68_2 : w50.cell? ⟨gb335, 2, none⟩ = some (.int .i64 t333) := (aC BK335.out 2).trans rfl
         have hfz68_0 := aH BK335.out 0
         have hfz68_1 := aH BK335.out 1
         have hfz68_2 := aH BK335.out 2
         (try go_wp2_with ((((with_reducible refine bF (f := 18) rfl ?_); refine dM (some 56) rfl rfl Tryz.func18 (by kernel_rfl) rfl #[.agg #[.string t329, .slice Ao18 t330.length co18, .int .i64 t333], .string a1] rfl (by (try simp only [mA_, mC_, mN_]); rfl) ?_; (with_reducible refine (dG.calls t329 _ _ t330 t333 a1 _ _ ?side1 ?side2 A51.out).mono ?_); (case side1 => repeat ((exact (Kd.aK HO_336001.out).2.2))); (case side2 => exact (Kd.aK HO_336001.out).2.1); rintro e w113 ⟨rfl, hb⟩; refine ⟨_, rfl, ?_⟩; replace HO_336001 := ah.mk (Kd.aY (by (with_reducible repeat ((apply Kd.aG))); exact HO_336001.out) hb); replace HO344 := ah.mk (Kd.aY (by (with_reducible repeat ((apply Kd.aG))); exact HO344.out) hb); replace HO348 := ah.mk (Kd.aY (by (with_reducible repeat ((apply Kd.aG))); exact HO348.out) hb); replace BK335 := ah.mk (ay (g := gb335) (o := .cells #[.string t329, .slice Ao18 t330.length co18, .int .i64 t333] 26 (0, 0)) (by (with_reducible repeat ((refine ak ?_ _))); exact BK335.out) hb); replace BK336 := ah.mk (ay (g := gb336) (o := .cells #[.string a1, .int .i64 a2, .int .i64 255, .int .i64 0, .string (⟨#[]⟩ : ByteArray)] 44 (0, 0)) (by (with_reducible repeat ((refine ak ?_ _))); exact BK336.out) hb); replace BK337 := ah.mk (ay (g := gb337) (o := .cells #[.string a1, .int .i64 a2, .int .i64 254, .int .i64 0, .string (⟨#[]⟩ : ByteArray)] 44 (0, 0)) (by (with_reducible repeat ((refine ak ?_ _))); exact BK337.out) hb); replace HB := ah.mk (au HB.out hb); (try clear hb)))))
        rotate_left
        focus
         have hnb66 := NB335_336.out
         have hnc66 := NB336_335.out
         have hnb67 := NB335_337.out
         have hnc67 := NB337_335.out
         have hcz68_0 : w50.cell? ⟨gb335, 0, none⟩ = some (.string t329) := (aC BK335.out 0).trans rfl
         have hcz68_1 : w50.cell? ⟨gb335, 1, none⟩ = some (.slice Ao18 t330.length co18) := (aC BK335.out 1).trans rfl
         have hcz68_2 : w50.cell? ⟨gb335, 2, none⟩ = some (.int .i64 t333) := (aC BK335.out 2).trans rfl
         have hfz68_0 := aH BK335.out 0
         have hfz68_1 := aH BK335.out 1
         have hfz68_2 := aH BK335.out 2
         (try go_wp2_with ((((with_reducible refine bF (f := 18) rfl ?_); refine dM (some 56) rfl rfl Tryz.func18 (by kernel_rfl) rfl #[.agg #[.string t329, .slice Ao18 t330.length co18, .int .i64 t333], .string a1] rfl (by (try simp only [mA_, mC_, mN_]); rfl) ?_; (with_reducible refine (dG.calls t329 _ _ t330 t333 a1 _ _ ?side1 ?side2 A51.out).mono ?_); (case side1 => repeat ((exact (Kd.aK HO_336001.out).2.2))); (case side2 => exact (Kd.aK HO_336001.out).2.1); rintro e w113 ⟨rfl, hb⟩; refine ⟨_, rfl, ?_⟩; replace HO_336001 := ah.mk (Kd.aY (by (with_reducible repeat ((apply Kd.aG))); exact HO_336001.out) hb); replace HO344 := ah.mk (Kd.aY (by (with_reducible repeat ((apply Kd.aG))); exact HO344.out) hb); replace HO348 := ah.mk (Kd.aY (by (with_reducible repeat ((apply Kd.aG))); exact HO348.out) hb); replace BK335 := ah.mk (ay (g := gb335) (o := .cells #[.string t329, .slice Ao18 t330.length co18, .int .i64 t333] 26 (0, 0)) (by (with_reducible repeat ((refine ak ?_ _))); exact BK335.out) hb); replace BK336 := ah.mk (ay (g := gb336) (o := .cells #[.string a1, .int .i64 a2, .int .i64 255, .int .i64 0, .string (⟨#[]⟩ : ByteArray)] 44 (0, 0)) (by (with_reducible repeat ((refine ak ?_ _))); exact BK336.out) hb); replace BK337 := ah.mk (ay (g := gb337) (o := .cells #[.string a1, .int .i64 a2, .int .i64 254, .int .i64 0, .string (⟨#[]⟩ : ByteArray)] 44 (0, 0)) (by (with_reducible repeat ((refine ak ?_ _))); exact BK337.out) hb); replace HB := ah.mk (au HB.out hb); (try clear hb)))))
        rotate_left
        focus
         have hnb66 := NB335_336.out
         have hnc66 := NB336_335.out
         have hnb67 := NB335_337.out
         have hnc67 := NB337_335.out
         have hcz68_0 : w50.cell? ⟨gb335, 0, none⟩ = some (.string t329) := (aC BK335.out 0).trans rfl
         have hcz68_1 : w50.cell? ⟨gb335, 1, none⟩ = some (.slice Ao18 t330.length co18) := (aC BK335.out 1).trans rfl
         have hcz68_2 : w50.cell? ⟨gb335, 2, none⟩ = some (.int .i64 t333) := (aC BK335.out 2).trans rfl
         have hfz68_0 := aH BK335.out 0
         have hfz68_1 := aH BK335.out 1
         have hfz68_2 := aH BK335.out 2
         (try go_wp2_with (first | ((with_reducible refine bF (f := 18) rfl ?_); refine dM (some 56) rfl rfl Tryz.func18 (by kernel_rfl) rfl #[.agg #[.string t329, .slice Ao18 t330.length co18, .int .i64 t333], .string a1] rfl (by (try simp only [mA_, mC_, mN_]); rfl) ?_; (with_reducible refine (dG.calls t329 _ _ t330 t333 a1 t350 _ ?side1 ?side2 A51.out).mono ?_); (case side1 => repeat ((exact (Kd.aK HO_336001.out).2.2))); (case side2 => exact (Kd.aK HO_336001.out).2.1); rintro e w158 ⟨rfl, hb⟩; refine ⟨_, rfl, ?_⟩; replace HO_336001 := ah.mk (Kd.aY (by (with_reducible repeat ((apply Kd.aG))); exact HO_336001.out) hb); replace HO344 := ah.mk (Kd.aY (by (with_reducible repeat ((apply Kd.aG))); exact HO344.out) hb); replace HO348 := ah.mk (Kd.aY (by (with_reducible repeat ((apply Kd.aG))); exact HO348.out) hb); replace BK335 := ah.mk (ay (g := gb335) (o := .cells #[.string t329, .slice Ao18 t330.length co18, .int .i64 t333] 26 (0, 0)) (by (with_reducible repeat ((refine ak ?_ _))); exact BK335.out) hb); replace BK336 := ah.mk (ay (g := gb336) (o := .cells #[.string a1, .int .i64 a2, .int .i64 255, .int .i64 0, .string (⟨#[]⟩ : ByteArray)] 44 (0, 0)) (by (with_reducible repeat ((refine ak ?_ _))); exact BK336.out) hb); replace BK337 := ah.mk (ay (g := gb337) (o := .cells #[.string a1, .int .i64 a2, .int .i64 254, .int .i64 0, .string (⟨#[]⟩ : ByteArray)] 44 (0, 0)) (by (with_reducible repeat ((refine ak ?_ _))); exact BK337.out) hb); replace HB := ah.mk (au HB.out hb); (try clear hb); have hcz159_0 : w158.cell? ⟨gb335, 0, none⟩ = some (.string t329) := (aC BK335.out 0).trans rfl; have hcz159_1 : w158.cell? ⟨gb335, 1, none⟩ = some (.slice Ao18 t330.length co18) := (aC BK335.out 1).trans rfl; have hcz159_2 : w158.cell? ⟨gb335, 2, none⟩ = some (.int .i64 t333) := (aC BK335.out 2).trans rfl; have hfz159_0 := aH BK335.out 0; have hfz159_1 := aH BK335.out 1; have hfz159_2 := aH BK335.out 2) | ((with_reducible refine bF (f := 14) rfl ?_); refine dM (some 62) rfl rfl Tryz.func14 (by kernel_rfl) rfl #[.agg #[.string t329, .slice Ao18 t330.length co18, .int .i64 t333], .string a1, .int .i64 a2] rfl (by (try simp only [mA_, mC_, mN_]); rfl) ?_; (with_reducible refine (dZ.calls t329 _ _ t330 t333 a1 a2 t351 _ ?side1 ?side2 A142.out).mono ?_); (case side1 => repeat ((exact (Kd.aK HO_336001.out).2.2))); (case side2 => exact (Kd.aK HO_336001.out).2.1); rintro e w160 ⟨v352, rfl, ho0, hb⟩; refine ⟨_, rfl, ?_⟩; have HO353 := ah.mk (Kd.bX (Kd.jl (Kd.jl (Kd.eH (Kd.eH (Kd.eH ho0 (Kd.gW (by (with_reducible repeat ((apply Kd.aG))); exact HO_336001.out))) (Kd.gW (by (with_reducible repeat ((apply Kd.aG))); exact HO344.out))) (Kd.gW (by (with_reducible repeat ((apply Kd.aG))); exact HO348.out))) (g := gb336) (o := .cells #[.string a1, .int .i64 a2, .int .i64 255, .int .i64 0, .string (⟨#[]⟩ : ByteArray)] 44 (0, 0)) (by (with_reducible repeat ((refine ak ?_ _))); exact BK336.out)) (g := gb337) (o := .cells #[.string a1, .int .i64 a2, .int .i64 254, .int .i64 0, .string (⟨#[]⟩ : ByteArray)] 44 (0, 0)) (by (with_reducible repeat ((refine ak ?_ _))); exact BK337.out)) (aA HB.out)); replace HO_336001 := ah.mk (Kd.dI (by (with_reducible repeat ((apply Kd.aG))); exact HO_336001.out) (Kd.eB ho0) hb); replace HO344 := ah.mk (Kd.dI (by (with_reducible repeat ((apply Kd.aG))); exact HO344.out) (Kd.eB ho0) hb); replace HO348 := ah.mk (Kd.dI (by (with_reducible repeat ((apply Kd.aG))); exact HO348.out) (Kd.eB ho0) hb); replace BK335 := ah.mk (ay (g := gb335) (o := .cells #[.string t329, .slice Ao18 t330.length co18, .int .i64 t333] 26 (0, 0)) (by (with_reducible repeat ((refine ak ?_ _))); exact BK335.out) hb); replace BK336 := ah.mk (ay (g := gb336) (o := .cells #[.string a1, .int .i64 a2, .int .i64 255, .int .i64 0, .string (⟨#[]⟩ : ByteArray)] 44 (0, 0)) (by (with_reducible repeat ((refine ak ?_ _))); exact BK336.out) hb); replace BK337 := ah.mk (ay (g := gb337) (o := .cells #[.string a1, .int .i64 a2, .int .i64 254, .int .i64 0, .string (⟨#[]⟩ : ByteArray)] 44 (0, 0)) (by (with_reducible repeat ((refine ak ?_ _))); exact BK337.out) hb); replace HB := ah.mk (au HB.out hb); (try clear hb); (try clear ho0); obtain ⟨Ao161, co161, eo161⟩ := Kd.bY HO353.out; subst eo161)))
        rotate_left
        focus
         have hnb66 := NB335_336.out
         have hnc66 := NB336_335.out
         have hnb67 := NB335_337.out
         have hnc67 := NB337_335.out
         have hcz68_0 : w50.cell? ⟨gb335, 0, none⟩ = some (.string t329) := (aC BK335.out 0).trans rfl
         have hcz68_1 : w50.cell? ⟨gb335, 1, none⟩ = some (.slice Ao18 t330.length co18) := (aC BK335.out 1).trans rfl
         have hcz68_2 : w50.cell? ⟨gb335, 2, none⟩ = some (.int .i64 t333) := (aC BK335.out 2).trans rfl
         have hfz68_0 := aH BK335.out 0
         have hfz68_1 := aH BK335.out 1
         have hfz68_2 := aH BK335.out 2
         (try go_wp2_with (first | ((with_reducible refine bF (f := 18) rfl ?_); refine dM (some 56) rfl rfl Tryz.func18 (by kernel_rfl) rfl #[.agg #[.string t329, .slice Ao18 t330.length co18, .int .i64 t333], .string a1] rfl (by (try simp only [mA_, mC_, mN_]); rfl) ?_; (with_reducible refine (dG.calls t329 _ _ t330 t333 a1 t350 _ ?side1 ?side2 A51.out).mono ?_); (case side1 => repeat ((exact (Kd.aK HO_336001.out).2.2))); (case side2 => exact (Kd.aK HO_336001.out).2.1); rintro e w158 ⟨rfl, hb⟩; refine ⟨_, rfl, ?_⟩; replace HO_336001 := ah.mk (Kd.aY (by (with_reducible repeat ((apply Kd.aG))); exact HO_336001.out) hb); replace HO344 := ah.mk (Kd.aY (by (with_reducible repeat ((apply Kd.aG))); exact HO344.out) hb); replace HO348 := ah.mk (Kd.aY (by (with_reducible repeat ((apply Kd.aG))); exact HO348.out) hb); replace BK335 := ah.mk (ay (g := gb335) (o := .cells #[.string t329, .slice Ao18 t330.length co18, .int .i64 t333] 26 (0, 0)) (by (with_reducible repeat ((refine ak ?_ _))); exact BK335.out) hb); replace BK336 := ah.mk (ay (g := gb336) (o := .cells #[.string a1, .int .i64 a2, .int .i64 255, .int .i64 0, .string (⟨#[]⟩ : ByteArray)] 44 (0, 0)) (by (with_reducible repeat ((refine ak ?_ _))); exact BK336.out) hb); replace BK337 := ah.mk (ay (g := gb337) (o := .cells #[.string a1, .int .i64 a2, .int .i64 254, .int .i64 0, .string (⟨#[]⟩ : ByteArray)] 44 (0, 0)) (by (with_reducible repeat ((refine ak ?_ _))); exact BK337.out) hb); replace HB := ah.mk (au HB.out hb); (try clear hb); have hcz159_0 : w158.cell? ⟨gb335, 0, none⟩ = some (.string t329) := (aC BK335.out 0).trans rfl; have hcz159_1 : w158.cell? ⟨gb335, 1, none⟩ = some (.slice Ao18 t330.length co18) := (aC BK335.out 1).trans rfl; have hcz159_2 : w158.cell? ⟨gb335, 2, none⟩ = some (.int .i64 t333) := (aC BK335.out 2).trans rfl; have hfz159_0 := aH BK335.out 0; have hfz159_1 := aH BK335.out 1; have hfz159_2 := aH BK335.out 2) | ((with_reducible refine bF (f := 14) rfl ?_); refine dM (some 62) rfl rfl Tryz.func14 (by kernel_rfl) rfl #[.agg #[.string t329, .slice Ao18 t330.length co18, .int .i64 t333], .string a1, .int .i64 a2] rfl (by (try simp only [mA_, mC_, mN_]); rfl) ?_; (with_reducible refine (dZ.calls t329 _ _ t330 t333 a1 a2 t351 _ ?side1 ?side2 A142.out).mono ?_); (case side1 => repeat ((exact (Kd.aK HO_336001.out).2.2))); (case side2 => exact (Kd.aK HO_336001.out).2.1); rintro e w160 ⟨v352, rfl, ho0, hb⟩; refine ⟨_, rfl, ?_⟩; have HO353 := ah.mk (Kd.bX (Kd.jl (Kd.jl (Kd.eH (Kd.eH (Kd.eH ho0 (Kd.gW (by (with_reducible repeat ((apply Kd.aG))); exact HO_336001.out))) (Kd.gW (by (with_reducible repeat ((apply Kd.aG))); exact HO344.out))) (Kd.gW (by (with_reducible repeat ((apply Kd.aG))); exact HO348.out))) (g := gb336) (o := .cells #[.string a1, .int .i64 a2, .int .i64 255, .int .i64 0, .string (⟨#[]⟩ : ByteArray)] 44 (0, 0)) (by (with_reducible repeat ((refine ak ?_ _))); exact BK336.out)) (g := gb337) (o := .cells #[.string a1, .int .i64 a2, .int .i64 254, .int .i64 0, .string (⟨#[]⟩ : ByteArray)] 44 (0, 0)) (by (with_reducible repeat ((refine ak ?_ _))); exact BK337.out)) (aA HB.out)); replace HO_336001 := ah.mk (Kd.dI (by (with_reducible repeat ((apply Kd.aG))); exact HO_336001.out) (Kd.eB ho0) hb); replace HO344 := ah.mk (Kd.dI (by (with_reducible repeat ((apply Kd.aG))); exact HO344.out) (Kd.eB ho0) hb); replace HO348 := ah.mk (Kd.dI (by (with_reducible repeat ((apply Kd.aG))); exact HO348.out) (Kd.eB ho0) hb); replace BK335 := ah.mk (ay (g := gb335) (o := .cells #[.string t329, .slice Ao18 t330.length co18, .int .i64 t333] 26 (0, 0)) (by (with_reducible repeat ((refine ak ?_ _))); exact BK335.out) hb); replace BK336 := ah.mk (ay (g := gb336) (o := .cells #[.string a1, .int .i64 a2, .int .i64 255, .int .i64 0, .string (⟨#[]⟩ : ByteArray)] 44 (0, 0)) (by (with_reducible repeat ((refine ak ?_ _))); exact BK336.out) hb); replace BK337 := ah.mk (ay (g := gb337) (o := .cells #[.string a1, .int .i64 a2, .int .i64 254, .int .i64 0, .string (⟨#[]⟩ : ByteArray)] 44 (0, 0)) (by (with_reducible repeat ((refine ak ?_ _))); exact BK337.out) hb); replace HB := ah.mk (au HB.out hb); (try clear hb); (try clear ho0); obtain ⟨Ao161, co161, eo161⟩ := Kd.bY HO353.out; subst eo161)))
        rotate_left
        focus
         have hnb66 := NB335_336.out
         have hnc66 := NB336_335.out
         have hnb67 := NB335_337.out
         have hnc67 := NB337_335.out
         have hcz68_0 : w50.cell? ⟨gb335, 0, none⟩ = some (.string t329) := (aC BK335.out 0).trans rfl
         have hcz68_1 : w50.cell? ⟨gb335, 1, none⟩ = some (.slice Ao18 t330.length co18) := (aC BK335.out 1).trans rfl
         have hcz68_2 : w50.cell? ⟨gb335, 2, none⟩ = some (.int .i64 t333) := (aC BK335.out 2).trans rfl
         have hfz68_0 := aH BK335.out 0
         have hfz68_1 := aH BK335.out 1
         have hfz68_2 := aH BK335.out 2
         (try go_wp2_with (first | ((with_reducible refine bF (f := 18) rfl ?_); refine dM (some 56) rfl rfl Tryz.func18 (by kernel_rfl) rfl #[.agg #[.string t329, .slice Ao18 t330.length co18, .int .i64 t333], .string a1] rfl (by (try simp only [mA_, mC_, mN_]); rfl) ?_; (with_reducible refine (dG.calls t329 _ _ t330 t333 a1 t350 _ ?side1 ?side2 A51.out).mono ?_); (case side1 => repeat ((exact (Kd.aK HO_336001.out).2.2))); (case side2 => exact (Kd.aK HO_336001.out).2.1); rintro e w158 ⟨rfl, hb⟩; refine ⟨_, rfl, ?_⟩; replace HO_336001 := ah.mk (Kd.aY (by (with_reducible repeat ((apply Kd.aG))); exact HO_336001.out) hb); replace HO344 := ah.mk (Kd.aY (by (with_reducible repeat ((apply Kd.aG))); exact HO344.out) hb); replace HO348 := ah.mk (Kd.aY (by (with_reducible repeat ((apply Kd.aG))); exact HO348.out) hb); replace BK335 := ah.mk (ay (g := gb335) (o := .cells #[.string t329, .slice Ao18 t330.length co18, .int .i64 t333] 26 (0, 0)) (by (with_reducible repeat ((refine ak ?_ _))); exact BK335.out) hb); replace BK336 := ah.mk (ay (g := gb336) (o := .cells #[.string a1, .int .i64 a2, .int .i64 255, .int .i64 0, .string (⟨#[]⟩ : ByteArray)] 44 (0, 0)) (by (with_reducible repeat ((refine ak ?_ _))); exact BK336.out) hb); replace BK337 := ah.mk (ay (g := gb337) (o := .cells #[.string a1, .int .i64 a2, .int .i64 254, .int .i64 0, .string (⟨#[]⟩ : ByteArray)] 44 (0, 0)) (by (with_reducible repeat ((refine ak ?_ _))); exact BK337.out) hb); replace HB := ah.mk (au HB.out hb); (try clear hb); have hcz159_0 : w158.cell? ⟨gb335, 0, none⟩ = some (.string t329) := (aC BK335.out 0).trans rfl; have hcz159_1 : w158.cell? ⟨gb335, 1, none⟩ = some (.slice Ao18 t330.length co18) := (aC BK335.out 1).trans rfl; have hcz159_2 : w158.cell? ⟨gb335, 2, none⟩ = some (.int .i64 t333) := (aC BK335.out 2).trans rfl; have hfz159_0 := aH BK335.out 0; have hfz159_1 := aH BK335.out 1; have hfz159_2 := aH BK335.out 2) | ((with_reducible refine bF (f := 14) rfl ?_); refine dM (some 62) rfl rfl Tryz.func14 (by kernel_rfl) rfl #[.agg #[.string t329, .slice Ao18 t330.length co18, .int .i64 t333], .string a1, .int .i64 a2] rfl (by (try simp only [mA_, mC_, mN_]); rfl) ?_; (with_reducible refine (dZ.calls t329 _ _ t330 t333 a1 a2 t351 _ ?side1 ?side2 A142.out).mono ?_); (case side1 => repeat ((exact (Kd.aK HO_336001.out).2.2))); (case side2 => exact (Kd.aK HO_336001.out).2.1); rintro e w160 ⟨v352, rfl, ho0, hb⟩; refine ⟨_, rfl, ?_⟩; have HO353 := ah.mk (Kd.bX (Kd.jl (Kd.jl (Kd.eH (Kd.eH (Kd.eH ho0 (Kd.gW (by (with_reducible repeat ((apply Kd.aG))); exact HO_336001.out))) (Kd.gW (by (with_reducible repeat ((apply Kd.aG))); exact HO344.out))) (Kd.gW (by (with_reducible repeat ((apply Kd.aG))); exact HO348.out))) (g := gb336) (o := .cells #[.string a1, .int .i64 a2, .int .i64 255, .int .i64 0, .string (⟨#[]⟩ : ByteArray)] 44 (0, 0)) (by (with_reducible repeat ((refine ak ?_ _))); exact BK336.out)) (g := gb337) (o := .cells #[.string a1, .int .i64 a2, .int .i64 254, .int .i64 0, .string (⟨#[]⟩ : ByteArray)] 44 (0, 0)) (by (with_reducible repeat ((refine ak ?_ _))); exact BK337.out)) (aA HB.out)); replace HO_336001 := ah.mk (Kd.dI (by (with_reducible repeat ((apply Kd.aG))); exact HO_336001.out) (Kd.eB ho0) hb); replace HO344 := ah.mk (Kd.dI (by (with_reducible repeat ((apply Kd.aG))); exact HO344.out) (Kd.eB ho0) hb); replace HO348 := ah.mk (Kd.dI (by (with_reducible repeat ((apply Kd.aG))); exact HO348.out) (Kd.eB ho0) hb); replace BK335 := ah.mk (ay (g := gb335) (o := .cells #[.string t329, .slice Ao18 t330.length co18, .int .i64 t333] 26 (0, 0)) (by (with_reducible repeat ((refine ak ?_ _))); exact BK335.out) hb); replace BK336 := ah.mk (ay (g := gb336) (o := .cells #[.string a1, .int .i64 a2, .int .i64 255, .int .i64 0, .string (⟨#[]⟩ : ByteArray)] 44 (0, 0)) (by (with_reducible repeat ((refine ak ?_ _))); exact BK336.out) hb); replace BK337 := ah.mk (ay (g := gb337) (o := .cells #[.string a1, .int .i64 a2, .int .i64 254, .int .i64 0, .string (⟨#[]⟩ : ByteArray)] 44 (0, 0)) (by (with_reducible repeat ((refine ak ?_ _))); exact BK337.out) hb); replace HB := ah.mk (au HB.out hb); (try clear hb); (try clear ho0); obtain ⟨Ao161, co161, eo161⟩ := Kd.bY HO353.out; subst eo161)))
        rotate_left
        focus
         have hnb66 := NB335_336.out
         have hnc66 := NB336_335.out
         have hnb67 := NB335_337.out
         have hnc67 := NB337_335.out
         have hcz68_0 : w50.cell? ⟨gb335, 0, none⟩ = some (.string t329) := (aC BK335.out 0).trans rfl
         have hcz68_1 : w50.cell? ⟨gb335, 1, none⟩ = some (.slice Ao18 t330.length co18) := (aC BK335.out 1).trans rfl
         have hcz68_2 : w50.cell? ⟨gb335, 2, none⟩ = some (.int .i64 t333) := (aC BK335.out 2).trans rfl
         have hfz68_0 := aH BK335.out 0
         have hfz68_1 := aH BK335.out 1
         have hfz68_2 := aH BK335.out 2
         (try go_wp2_with (first | ((with_reducible refine bF (f := 18) rfl ?_); refine dM (some 56) rfl rfl Tryz.func18 (by kernel_rfl) rfl #[.agg #[.string t329, .slice Ao18 t330.length co18, .int .i64 t333], .string a1] rfl (by (try simp only [mA_, mC_, mN_]); rfl) ?_; (with_reducible refine (dG.calls t329 _ _ t330 t333 a1 t350 _ ?side1 ?side2 A51.out).mono ?_); (case side1 => repeat ((exact (Kd.aK HO_336001.out).2.2))); (case side2 => exact (Kd.aK HO_336001.out).2.1); rintro e w158 ⟨rfl, hb⟩; refine ⟨_, rfl, ?_⟩; replace HO_336001 := ah.mk (Kd.aY (by (with_reducible repeat ((apply Kd.aG))); exact HO_336001.out) hb); replace HO344 := ah.mk (Kd.aY (by (with_reducible repeat ((apply Kd.aG))); exact HO344.out) hb); replace HO348 := ah.mk (Kd.aY (by (with_reducible repeat ((apply Kd.aG))); exact HO348.out) hb); replace BK335 := ah.mk (ay (g := gb335) (o := .cells #[.string t329, .slice Ao18 t330.length co18, .int .i64 t333] 26 (0, 0)) (by (with_reducible repeat ((refine ak ?_ _))); exact BK335.out) hb); replace BK336 := ah.mk (ay (g := gb336) (o := .cells #[.string a1, .int .i64 a2, .int .i64 255, .int .i64 0, .string (⟨#[]⟩ : ByteArray)] 44 (0, 0)) (by (with_reducible repeat ((refine ak ?_ _))); exact BK336.out) hb); replace BK337 := ah.mk (ay (g := gb337) (o := .cells #[.string a1, .int .i64 a2, .int .i64 254, .int .i64 0, .string (⟨#[]⟩ : ByteArray)] 44 (0, 0)) (by (with_reducible repeat ((refine ak ?_ _))); exact BK337.out) hb); replace HB := ah.mk (au HB.out hb); (try clear hb); have hcz159_0 : w158.cell? ⟨gb335, 0, none⟩ = some (.string t329) := (aC BK335.out 0).trans rfl; have hcz159_1 : w158.cell? ⟨gb335, 1, none⟩ = some (.slice Ao18 t330.length co18) := (aC BK335.out 1).trans rfl; have hcz159_2 : w158.cell? ⟨gb335, 2, none⟩ = some (.int .i64 t333) := (aC BK335.out 2).trans rfl; have hfz159_0 := aH BK335.out 0; have hfz159_1 := aH BK335.out 1; have hfz159_2 := aH BK335.out 2) | ((with_reducible refine bF (f := 14) rfl ?_); refine dM (some 62) rfl rfl Tryz.func14 (by kernel_rfl) rfl #[.agg #[.string t329, .slice Ao18 t330.length co18, .int .i64 t333], .string a1, .int .i64 a2] rfl (by (try simp only [mA_, mC_, mN_]); rfl) ?_; (with_reducible refine (dZ.calls t329 _ _ t330 t333 a1 a2 t351 _ ?side1 ?side2 A142.out).mono ?_); (case side1 => repeat ((exact (Kd.aK HO_336001.out).2.2))); (case side2 => exact (Kd.aK HO_336001.out).2.1); rintro e w160 ⟨v352, rfl, ho0, hb⟩; refine ⟨_, rfl, ?_⟩; have HO353 := ah.mk (Kd.bX (Kd.jl (Kd.jl (Kd.eH (Kd.eH (Kd.eH ho0 (Kd.gW (by (with_reducible repeat ((apply Kd.aG))); exact HO_336001.out))) (Kd.gW (by (with_reducible repeat ((apply Kd.aG))); exact HO344.out))) (Kd.gW (by (with_reducible repeat ((apply Kd.aG))); exact HO348.out))) (g := gb336) (o := .cells #[.string a1, .int .i64 a2, .int .i64 255, .int .i64 0, .string (⟨#[]⟩ : ByteArray)] 44 (0, 0)) (by (with_reducible repeat ((refine ak ?_ _))); exact BK336.out)) (g := gb337) (o := .cells #[.string a1, .int .i64 a2, .int .i64 254, .int .i64 0, .string (⟨#[]⟩ : ByteArray)] 44 (0, 0)) (by (with_reducible repeat ((refine ak ?_ _))); exact BK337.out)) (aA HB.out)); replace HO_336001 := ah.mk (Kd.dI (by (with_reducible repeat ((apply Kd.aG))); exact HO_336001.out) (Kd.eB ho0) hb); replace HO344 := ah.mk (Kd.dI (by (with_reducible repeat ((apply Kd.aG))); exact HO344.out) (Kd.eB ho0) hb); replace HO348 := ah.mk (Kd.dI (by (with_reducible repeat ((apply Kd.aG))); exact HO348.out) (Kd.eB ho0) hb); replace BK335 := ah.mk (ay (g := gb335) (o := .cells #[.string t329, .slice Ao18 t330.length co18, .int .i64 t333] 26 (0, 0)) (by (with_reducible repeat ((refine ak ?_ _))); exact BK335.out) hb); replace BK336 := ah.mk (ay (g := gb336) (o := .cells #[.string a1, .int .i64 a2, .int .i64 255, .int .i64 0, .string (⟨#[]⟩ : ByteArray)] 44 (0, 0)) (by (with_reducible repeat ((refine ak ?_ _))); exact BK336.out) hb); replace BK337 := ah.mk (ay (g := gb337) (o := .cells #[.string a1, .int .i64 a2, .int .i64 254, .int .i64 0, .string (⟨#[]⟩ : ByteArray)] 44 (0, 0)) (by (with_reducible repeat ((refine ak ?_ _))); exact BK337.out) hb); replace HB := ah.mk (au HB.out hb); (try clear hb); (try clear ho0); obtain ⟨Ao161, co161, eo161⟩ := Kd.bY HO353.out; subst eo161)))
        rotate_left
       rotate_left 11
       all_goals
        go_ret
        exact ⟨by rfl, HB.out⟩
end Go.Y.PZh
namespace Go.Y.PZh
open Go.RowKit Go.V.aD Go.V.aN Go.V.aR Go.Y.Given Go.Y.PRd Go.Y.PRr Go.Y.PZo Go.Y.PZf Go.Y.PZe
attribute [local go_sem] dn dh dJ dK bU bT cZ dw   -- for this text's walks alone
def fQ.T14 : Bool × List (List Nat × List Nat) := (true, [([], []), ([], []), ([], []), ([1, 2], [1, 2]), ([0, 3, 3], [0, 3]), ([], []), ([4, 5], [4, 5]), ([6, 4, 0, 1, 2, 3, 4, 5, 6], [6])])
def fQ.B14 : List Nat := [0, 0, 0, 6, 15, 0, 63, 127]
theorem fQ.Ay : dP .any (opsOf Tryz.f6 14) = fQ.T14 := by kernel_rfl
theorem fQ.yJ : dS fQ.T14.2 fQ.B14 = true := by kernel_rfl
end Go.Y.PZh
namespace Go.Y.mF
open Go.RowKit Go.ChangeShapes Go.WideShapes Go.Deep Go.V.aD
section
variable {H : Type} {enc : TypeId × Value → H} {P : Program} {W : World} {base : Nat} {spare : Nat → Bool} {held : Bool}
theorem fields_of {e : TypeId} {fs : Array Field} {fuel : Nat} {cs : List Value} {x : DataW H × List MemPlace} (he : P.underlying e = some (.struct fs)) (hone : oneCellFields P fs = true) (hC : P.cellsOf e = fs.size)
  (h : DataW.trod enc P W base spare held fuel e cs = some x) : cs.length = fs.size ∧ ∃ n, ∀ (j : Nat) (f : Field), fs[j]? = some f → ∃ v y, cs[j]? = some v ∧ DataW.trod enc P W base spare held n f.type [v] = some y := by
 obtain ⟨ys, n, _, _, hl, hyl, hf⟩ := DataW.trod_struct he h
 refine ⟨hl.trans hC, n, fun j f hj => ?_⟩
 obtain ⟨ho, hk⟩ := hone_of hone j f hj
 have hjl : j < fs.size := (Array.getElem?_eq_some_iff.1 hj).1
 have hcl : j < cs.length := by omega
 have hyj : j < ys.length := by omega
 have h1 := hf j f hj
 rw [ho, hk, List.drop_eq_getElem_cons hcl, List.take_succ_cons, List.take_zero] at h1
 exact ⟨cs[j], ys[j], List.getElem?_eq_getElem hcl, h1.trans (List.getElem?_eq_getElem hyj)⟩
theorem Ga {S : Type} (n : Nat) (R : Nat → S → Prop) (h : ∀ i, i < n → ∃ s, R i s) : ∃ l : List S, l.length = n ∧ ∀ i s, l[i]? = some s → R i s := by
 induction n with
 | zero => exact ⟨[], rfl, fun i s hs => by simp at hs⟩
 | succ n ih =>
  obtain ⟨l, hl, hr⟩ := ih fun i hi => h i (by omega)
  obtain ⟨s, hs⟩ := h n (by omega)
  refine ⟨l ++ [s], by simp [hl], fun i t ht => ?_⟩
  by_cases hi : i < n
  ·rw [List.getElem?_append_left (by omega)] at ht; exact hr i t ht
  ·rw [List.getElem?_append_right (by omega)] at ht
   by_cases e : i = n
   ·subst e; rw [hl, Nat.sub_self] at ht; simp at ht; subst ht; exact hs
   ·rw [List.getElem?_eq_none (by simp; omega)] at ht; cases ht
theorem AV {S : Type} (k : Kd S) (good : S → Prop) {t e : TypeId} {a : Option Addr} {len cap : Nat} {d : DataW H} {ps : List MemPlace} (hu : P.underlying t = some (.slice e)) (hC : P.cellsOf e = k.sz) (hpos : 0 < k.sz)
  (open1 : ∀ fuel cs x, DataW.trod enc P W base spare held fuel e cs = some x → ∃ s, k.K W s cs ∧ good s) (h : DataW.Trod enc P W base spare held t (.slice a len cap) d ps) :
  ∃ l : List S, len = l.length ∧ Kd.C k W a l.length l ∧ l.length ≤ cap ∧ l.length ≤ maxLen ∧ ∀ s ∈ l, good s := by
 obtain ⟨fuel, hf⟩ := h
 rcases open_slice hu hf with ⟨hcs, _⟩ | ⟨x, l, c, m, n, D, Pl, hcs, _, hl, hm, hmm, _, hi⟩
 ·simp [Value.cells] at hcs
  obtain ⟨rfl, rfl, rfl⟩ := hcs
  exact ⟨[], rfl, Kd.Jb _ _, Nat.le_refl _, Nat.zero_le _, by simp⟩
 ·simp [Value.cells] at hcs
  obtain ⟨rfl, rfl, rfl⟩ := hcs
  have hlm : len ≤ m := by rw [hmm]; split <;> omega
  obtain ⟨L, hL, hR⟩ := Ga len (fun i s => good s ∧ ∃ cs', k.K W s cs' ∧ cs'.length = k.sz ∧ ∀ j u, cs'[j]? = some u → W.cell? (x.add (i * k.sz + j)) = some u) (fun i hi' => by
   obtain ⟨cs', hc, ht⟩ := hi i (by omega)
   obtain ⟨s, hs, hg⟩ := open1 _ _ _ ht
   rw [hC] at hc
   obtain ⟨_, hcl, hat⟩ := World.cells?_some hc
   refine ⟨s, hg, cs', hs, hcl, fun j u hj => ?_⟩
   have hjl : j < k.sz := by rw [← hcl]; exact (List.getElem?_eq_some_iff.1 hj).1
   have := hat j hjl
   rw [← Go.Deep.add_add]; rw [this]; exact hj)
  refine ⟨L, hL.symm, ⟨rfl, by unfold maxLen at hm; omega, fun _ => ⟨x, rfl, fun j p hp => ?_⟩⟩, by omega, by omega, fun s hs => ?_⟩
  ·obtain ⟨_, c, h1, h2, h3⟩ := hR j p hp
   exact ⟨c, h2, h1, h3⟩
  ·obtain ⟨i, hi', he⟩ := List.getElem_of_mem hs
   exact (hR i s (by rw [List.getElem?_eq_getElem hi', he])).1
end
end Go.Y.mF
namespace Go.Y.mF
open Go.RowKit Go.ChangeShapes Go.WideShapes Go.Deep Go.V.aD Go.Y.PRd Go.Y.PRr
structure uO (s : S44) : Prop where
 n0 : s.f0.size ≤ maxLen
 n4 : s.f4.size ≤ maxLen
 i1 : (Lit.int .i64 s.f1).wf = true
 i2 : (Lit.int .i64 s.f2).wf = true
 i3 : (Lit.int .i64 s.f3).wf = true
section
variable {H : Type} {enc : TypeId × Value → H} {W : World} {base : Nat} {spare : Nat → Bool} {held : Bool}
theorem Jj {fuel : Nat} {cs : List Value} {x : DataW H × List MemPlace} (h : DataW.trod enc Tryz.prog W base spare held fuel 44 cs = some x) : ∃ s : S44, cs = [.string s.f0, .int .i64 s.f1, .int .i64 s.f2, .int .i64 s.f3, .string s.f4] ∧ uO s := by
 obtain ⟨hl, n, hf⟩ := fields_of Tryz.underlying44 (by kernel_rfl) (by kernel_rfl) h
 obtain ⟨v0, y0, c0, h0⟩ := hf 0 _ rfl
 obtain ⟨v1, y1, c1, h1⟩ := hf 1 _ rfl
 obtain ⟨v2, y2, c2, h2⟩ := hf 2 _ rfl
 obtain ⟨v3, y3, c3, h3⟩ := hf 3 _ rfl
 obtain ⟨v4, y4, c4, h4⟩ := hf 4 _ rfl
 obtain ⟨s, e0, _, g0⟩ := DataW.trod_string Tryz.underlying9 h0
 obtain ⟨a, e1, _, g1⟩ := DataW.trod_int Tryz.underlying3 h1
 obtain ⟨b, e2, _, g2⟩ := DataW.trod_int Tryz.underlying3 h2
 obtain ⟨c, e3, _, g3⟩ := DataW.trod_int Tryz.underlying3 h3
 obtain ⟨d, e4, _, g4⟩ := DataW.trod_string Tryz.underlying9 h4
 obtain rfl : v0 = .string s := by simpa using e0
 obtain rfl : v1 = .int .i64 a := by simpa using e1
 obtain rfl : v2 = .int .i64 b := by simpa using e2
 obtain rfl : v3 = .int .i64 c := by simpa using e3
 obtain rfl : v4 = .string d := by simpa using e4
 have : cs = [.string s, .int .i64 a, .int .i64 b, .int .i64 c, .string d] := by
  match cs, hl with
  | [p, q, r, t, u], _ => simp at c0 c1 c2 c3 c4; rw [c0, c1, c2, c3, c4]
 exact ⟨⟨s, a, b, c, d⟩, this, ⟨g0, g4, g1, g2, g3⟩⟩
theorem IQ {t : TypeId} {a : Option Addr} {len cap : Nat} {d : DataW H} {ps : List MemPlace} (hu : Tryz.prog.underlying t = some (.slice 44)) (h : DataW.Trod enc Tryz.prog W base spare held t (.slice a len cap) d ps) :
  ∃ l : List S44, len = l.length ∧ Kd.C k44 W a l.length l ∧ l.length ≤ cap ∧ l.length ≤ maxLen ∧ ∀ s ∈ l, uO s :=
 AV k44 uO hu (by kernel_rfl) (by decide) (fun _ _ _ h => by
  obtain ⟨s, rfl, hg⟩ := Jj h
  exact ⟨s, Io W s, hg⟩) h
end
end Go.Y.mF
namespace Go.Y.Rrs
open Go.RowKit Go.V.aD Go.V.aN Go.V.aR Go.Y.Given Go.Y.PRd Go.Y.PRr Go.Y.PZo Go.Y.PZf Go.Y.PZh Go.Y.Name Go.Y.fC Go.Y.gI
abbrev exA : ByteArray := ⟨#[2, 101, 120, 0]⟩
theorem Dk {a : ByteArray} {s : List RR} (h : DC a s) : ∀ y ∈ s, fine y := h.set.all
theorem qZ (a : ByteArray) (s : List RR) (r : RR) (h : ¬ r.f2 = 1) : rV a s [r] = mX a s r := by
 unfold rV
 rw [mP, mP]
 by_cases h0 : mX a s r = 0
 ·rw [if_pos h0, if_pos rfl]
  have hk : nX [r] = [] := by
   unfold nX
   rw [List.filter_cons, beq_eq_false_iff_ne.mpr h]; rfl
  rw [hk, mZ, h0]
 ·rw [if_neg h0, if_neg h0]
theorem Db (l : List RR) (n : ByteArray) (t : Int) : Ev (fun k => aJ.j0 k l n t true) true :=
 Ev.step (f := fun k => (eP.f k).bind fun t => some t) (fun k => by rw [aJ.j0, if_pos rfl]) (Ev.bind vo (Ev.now _))
theorem uP (a : ByteArray) (s : List RR) (z : Int) (n : ByteArray) (t : Int) : Ev (fun k => aJ.j1 k n t true a s z n t 255 0 (⟨#[]⟩ : ByteArray) n t 254 0 (⟨#[]⟩ : ByteArray)) true :=
 Ev.step (f := fun _ => some true) (fun k => by rw [aJ.j1, if_pos rfl]) (Ev.now _)
theorem xV : (⟨#[]⟩ : ByteArray).toList = [] := by kernel_rfl
theorem ET (a : ByteArray) (s : List RR) (z : Int) (n : ByteArray) (t : Int) (fs : ∀ y ∈ s, fine y) (ns : s.length ≤ 30) (hr : bQ n = true) : Ev (fun k => aJ.j1 k n t false a s z n t 255 0 (⟨#[]⟩ : ByteArray) n t 254 0 (⟨#[]⟩ : ByteArray)) true := by
 obtain ⟨ra, hra⟩ : ∃ r : RR, r = ⟨n, t, 255, 0, ⟨#[]⟩⟩ := ⟨_, rfl⟩
 obtain ⟨rb, hrb⟩ : ∃ r : RR, r = ⟨n, t, 254, 0, ⟨#[]⟩⟩ := ⟨_, rfl⟩
 have fa : ∀ y ∈ [ra], fine y := fun y hy => by rw [List.mem_singleton.mp hy, hra]; exact ⟨hr, Nat.zero_le _⟩
 have fb : ∀ y ∈ [rb], fine y := fun y hy => by rw [List.mem_singleton.mp hy, hrb]; exact ⟨hr, Nat.zero_le _⟩
 have ca := qD a s z fs (by omega) [ra] fa (by simp)
 have cb := qD a s z fs (by omega) [rb] fb (by simp)
 rw [qZ a s ra (by rw [hra]; show ¬ (255 : Int) = 1; decide), hra] at ca
 rw [qZ a s rb (by rw [hrb]; show ¬ (254 : Int) = 1; decide), hrb] at cb
 have ea : mX a s ⟨n, t, 255, 0, ⟨#[]⟩⟩ = if lQ n a = true then (if t = 255 then (if jc s n = true then 0 else 3) else if (gN s n t).length = 0 then 8 else 0) else 10 := by
  unfold mX
  simp only [xV, if_true, show ((255 : Int) = 1) = False from eq_false (by decide), if_false]
 have eb : mX a s ⟨n, t, 254, 0, ⟨#[]⟩⟩ = if lQ n a = true then (if t = 255 then (if jc s n = true then 6 else 0) else if (gN s n t).length = 0 then 0 else 7) else 10 := by
  unfold mX
  simp only [xV, if_true, show ((254 : Int) = 1) = False from eq_false (by decide), show ((254 : Int) = 255) = False from eq_false (by decide), if_false]
 rw [ea] at ca
 rw [eb] at cb
 have hs : ∀ k, aJ.j1 (k + 1) n t false a s z n t 255 0 (⟨#[]⟩ : ByteArray) n t 254 0 (⟨#[]⟩ : ByteArray) = (aX.f k a s z [⟨n, t, 255, 0, ⟨#[]⟩⟩]).bind fun x => (aX.f k a s z [⟨n, t, 254, 0, ⟨#[]⟩⟩]).bind fun y => if x = 10 then some (y == 10) else (if t = 255 then (if jc s n = true then (if x = 0 then (if y = 6 then some true else some false) else some false) else (if y = 0 then (if x = 3 then some true else some false) else some false)) else (if ((gN s n t).length : Int) > 0 then (if x = 0 then some (y == 7) else some false) else (if y = 0 then some (x == 8) else some false))) := fun k => by
  rw [aJ.j1, if_neg (by decide), zY a s z n (by omega), xH a s z n t (by omega)]
  simp only [Option.bind_some]
 refine Ev.step hs (Ev.bind ca (Ev.bind cb ?_))
 cases lQ n a
 ·simp only [Bool.false_eq_true, if_false, if_true, beq_self_eq_true]; exact Ev.now _
 ·simp only [if_true]
  by_cases h5 : t = 255
  ·simp only [h5, if_true]
   cases jc s n
   ·simp only [Bool.false_eq_true, if_false, if_true, show ((3 : Int) = 10) = False from eq_false (by decide)]; exact Ev.now _
   ·simp only [if_true, if_false, show ((0 : Int) = 10) = False from eq_false (by decide)]; exact Ev.now _
  ·simp only [h5, if_false]
   by_cases h0 : (gN s n t).length = 0
   ·simp only [h0, if_true, show ((8 : Int) = 10) = False from eq_false (by decide), if_false, show (((0 : Nat) : Int) > 0) = False from eq_false (by decide), beq_self_eq_true]; exact Ev.now _
   ·simp only [h0, if_true, if_false, show ((0 : Int) = 10) = False from eq_false (by decide), show (((gN s n t).length : Int) > 0) = True from eq_true (by omega), beq_self_eq_true]; exact Ev.now _
end Go.Y.Rrs
namespace Go.Y.Pure
open Go.RowKit Go.V.aD Go.Y.Given Go.Y.PRd Go.Y.PRr Go.Y.PZf Go.Y.PZh Go.Y.Rrs Go.Y.mF
theorem PrereqTurns (l : List RR) (n : ByteArray) (t : Int) (nl : l.length ≤ maxLen) (hl : ∀ s ∈ l, uO s) (hn : n.size ≤ 140737488351232) (ht : (Lit.int .i64 t).wf = true) : ∃ k, aJ.f k l n t = some true := by
 refine Ev.rounds ?_
 unfold maxLen at nl
 unfold aJ.f
 refine Ev.bind vo ?_
 simp only [if_true]
 obtain ⟨b, hb, h1⟩ := IV l (by omega)
 refine Ev.bind hb ?_
 cases b
 ·simp only [Bool.not_false]; exact Db l n t
 ·simp only [Bool.not_true]
  have hst : ∀ k, aJ.j0 (k + 1) l n t false = (bM.f k exA l).bind fun p => if p.2.2.2 = 0 then (aU.f k [⟨n, t, 255, 0, ⟨#[]⟩⟩, ⟨n, t, 254, 0, ⟨#[]⟩⟩]).bind fun u => aJ.j1 k n t (!u) p.1 p.2.1 p.2.2.1 n t 255 0 (⟨#[]⟩ : ByteArray) n t 254 0 (⟨#[]⟩ : ByteArray) else aJ.j1 k n t true p.1 p.2.1 p.2.2.1 n t 255 0 (⟨#[]⟩ : ByteArray) n t 254 0 (⟨#[]⟩ : ByteArray) := fun k => by
   rw [aJ.j0, if_neg (by decide)]
  have n30 := h1 rfl
  refine Ev.step hst (Ev.bind (BU exA l (by omega)) ?_)
  rcases EI exA l (by omega) with ⟨s, hS, hsl, e1, e2, _⟩ | ⟨e, he, e1, e2⟩
  ·rw [e1]
   simp only [if_true]
   obtain ⟨c, hc, h2⟩ := zB [⟨n, t, 255, 0, ⟨#[]⟩⟩, ⟨n, t, 254, 0, ⟨#[]⟩⟩] (by simp)
   refine Ev.bind hc ?_
   cases c
   ·simp only [Bool.not_false]; exact uP exA s _ n t
   ·simp only [Bool.not_true]
    refine ET exA s _ n t (Dk hS) (by omega) ?_
    exact (mM ((h2 rfl).2 _ (List.mem_cons_self ..))).1
  ·rw [e1]
   simp only [he, if_false]
   exact uP _ _ _ n t
end Go.Y.Pure
