/- Joined out of this session's own texts: contracts and facts that the claim's row is drawn from, each with its own conditions. -/
import Derived.Test.YtehdkopjgcoclaaGreatJoined3
import Derived.Deep.QuietTactic
import Derived.BigQuiet
import Derived.StillTailTactics
import Derived.Deep.LoopGhost
import Derived.Outline
import Derived.Test.YtehdkopjgcoclaaGreatProg
import Derived.Below
import Derived.Deep.Draws
import Derived.Deep.AppendLies
import Derived.Maps.AppendAt
import Derived.OwnWalk
import Derived.Laws.BytesArg
import Derived.Laws.MakeOwn
import Derived.Laws.OwnMore
import Derived.Deep.OwnRows
import Derived.Tactics
import Derived.Lib.ConvBytes
import Derived.Laws.Slices
import Derived.WalkKit
import Derived.KernelRfl
import Derived.RowKit3
import Derived.WideLaws
import Derived.Deep.DeepCutAuto
import Derived.Deep.CutBlock
import Derived.Deep.RegionHeld3
import Derived.Laws.Rows
import Derived.Lib.AppendStr
import Derived.ArgAppend
import Derived.Laws.IdiomCopy
import Derived.OrdersHeld
import Derived.Laws.BitsLemmas
import Derived.RowKit
set_option linter.unusedSimpArgs false
set_option linter.unusedVariables false
set_option maxHeartbeats 40000000
set_option maxRecDepth 100000
open Go.Proofs
namespace Go.Y.PSo
open Go.RowKit Go.V.aC Go.V.aV Go.V.aX Go.Y.Given Go.Y.PRd Go.Y.PRr
attribute [local go_sem] dP dQ eu eB dD dF dR dS   -- for this text's walks alone
mutual
def bg.l0 : Nat → List (S44) → Int → Int → Int → Option ((List (S44)))
 | 0, _, _, _, _ => none
 | k + 1, x0, x1, x2, x8 => if x8 < x2 then (bg.l1 k x0 x1 x2 x8 x8) else (some x0)
def bg.l1 : Nat → List (S44) → Int → Int → Int → Int → Option ((List (S44)))
 | 0, _, _, _, _, _ => none
 | k + 1, x0, x1, x2, x8, x9 => if x9 > x1 then (if 0 ≤ x9 then (if x9 < (x0.length : Int) then (if 0 ≤ (wrap64 (x9 - 1)) then (if (wrap64 (x9 - 1)) < (x0.length : Int) then ((dI.f k ((aj x0 x9).f0) ((aj x0 x9).f1) ((aj x0 x9).f2) ((aj x0 x9).f3) ((aj x0 x9).f4) ((aj x0 (wrap64 (x9 - 1))).f0) ((aj x0 (wrap64 (x9 - 1))).f1) ((aj x0 (wrap64 (x9 - 1))).f2) ((aj x0 (wrap64 (x9 - 1))).f3) ((aj x0 (wrap64 (x9 - 1))).f4)).bind fun t107 => (if t107 < 0 then (bg.l1 k ((x0.set (x9 : Int).toNat (⟨(aj x0 (wrap64 (x9 - 1))).f0, (aj x0 (wrap64 (x9 - 1))).f1, (aj x0 (wrap64 (x9 - 1))).f2, (aj x0 (wrap64 (x9 - 1))).f3, (aj x0 (wrap64 (x9 - 1))).f4⟩ : S44)).set ((wrap64 (x9 - 1)) : Int).toNat (⟨(aj x0 x9).f0, (aj x0 x9).f1, (aj x0 x9).f2, (aj x0 x9).f3, (aj x0 x9).f4⟩ : S44)) x1 x2 x8 (wrap64 (x9 - 1))) else (bg.l0 k x0 x1 x2 (wrap64 (x8 + 1))))) else (none)) else (none)) else (none)) else (none)) else (bg.l0 k x0 x1 x2 (wrap64 (x8 + 1)))
end
def bg.f (k : Nat) (l0 : List (S44)) (a1 : Int) (a2 : Int) (a3 : Int) : Option ((List (S44))) := bg.l0 k l0 a1 a2 (wrap64 (a1 + 1))
def bg.T4 : Bool × List (List Nat × List Nat) := (true, [([], []), ([], []), ([0, 1], [0, 1]), ([2], [2]), ([3], [3]), ([3], [3]), ([3], [3]), ([5, 6, 3], [3, 5, 6]), ([7, 3], [3, 7]), ([3], [3]), ([3], [3]), ([10, 3], [3, 10]), ([9, 11, 3], [3, 9, 11]), ([12, 3], [3, 12]), ([4, 8, 13, 3, 3], [3, 4, 8, 13]), ([14, 3], [3, 14]), ([3, 15], [3, 15])])
def bg.B4 : List Nat := [0, 0, 3, 7, 15, 15, 15, 111, 239, 15, 15, 1039, 3599, 7695, 16383, 32767, 65535]
theorem bg.IV : fK .any (opsOf Tryz.f138 4) = bg.T4 := by kernel_rfl
theorem bg.Gd : fP bg.T4.2 bg.B4 = true := by kernel_rfl
def bg.T6 : Bool × List (List Nat × List Nat) := (true, [([], []), ([], []), ([], []), ([], []), ([3], [3]), ([], []), ([], []), ([6], [6]), ([5, 7], [5, 7]), ([8], [8]), ([], []), ([], []), ([10, 11], [10, 11]), ([12], [12]), ([0, 1, 0, 1, 5, 6, 7, 8, 9, 13], [0, 1]), ([14, 9, 0, 1, 5, 6, 7, 8, 9, 13], [9, 14]), ([2, 4, 0, 1, 2, 3, 4, 5, 6, 7, 8, 9, 10, 11, 12, 13, 14, 15], [2, 4]), ([16, 13, 15, 0, 1, 2, 3, 4, 5, 6, 7, 8, 9, 10, 11, 12, 13, 14, 15], [13, 16])])
def bg.B6 : List Nat := [0, 0, 0, 0, 8, 0, 0, 64, 224, 480, 0, 0, 3072, 7168, 16355, 32739, 65535, 131071]
theorem bg.Eu : fK .any (opsOf Tryz.f138 6) = bg.T6 := by kernel_rfl
theorem bg.Bl : fP bg.T6.2 bg.B6 = true := by kernel_rfl
theorem bg.calls (k : Nat) (P0_ : Nat → Prop) (u9000_ : Value) (l0 : List (S44)) (a1 : Int) (a2 : Int) (a3 : Int) (r : List (S44)) (w0 w : World) (hB : Below w0.heap.size w0 w) (ho0 : Kd.R k44 44 w w0.heap.size P0_ u9000_ l0) (h : bg.f k l0 a1 a2 a3 = some r) :
    Calls Tryz.prog 138 #[u9000_, .int .i64 a1, .int .i64 a2, .func (.func 78) #[] #[]] w fun e w' => e = .returned (.tuple #[]) ∧ Kd.R k44 44 w' w0.heap.size (fun k_ => (P0_ k_ ∨ w.heap.size ≤ k_)) u9000_ r ∧ Below w0.heap.size w0 w' ∧ Kept w w' (fun k_ => P0_ k_) := by
  have hu44 := Tryz.underlying44
  have HO0 := ah.mk (show Kd.R k44 44 w w0.heap.size (fun k_ => (P0_ k_ ∨ w.heap.size ≤ k_)) u9000_ l0 from Kd.dH ho0 (fun k_ hk => (.inl hk)))
  have HK := ah.mk (Kept.refl w (fun k_ => P0_ k_))
  have HW0 := ah.mk hB.size
  have HB := ah.mk hB
  clear hB
  have H : (bg.l0 k l0 a1 a2 (wrap64 (a1 + 1))) = some r := h
  clear h
  have H' := ah.mk H
  clear H
  go_enter Tryz.func138, Tryz.ntmps138
  go_wp2
  go_loopg [8] k (fun kq v8 w' => ∃ (x0_1 : List (S44)) (x8_1 : Int), v8 = .int .i64 x8_1 ∧ ah (bg.l0 kq x0_1 a1 a2 x8_1 = some r) ∧ ah (kq ≤ k) ∧ ah (Kd.R k44 44 w' w0.heap.size (fun k_ => (P0_ k_ ∨ w.heap.size ≤ k_)) u9000_ x0_1) ∧ ah (Kept w w' (fun k_ => P0_ k_)) ∧ ah (Below w0.heap.size w0 w'))
  case atStart => exact ⟨(l0), (wrap64 (a1 + 1)), (by rfl), H', ⟨Nat.le_refl _⟩, ⟨by (with_reducible repeat ((apply Kd.aK))); exact HO0.out⟩, ⟨HK.out⟩, ⟨HB.out⟩⟩
  case round =>
   clear H'
   obtain ⟨x0_1, x8_1, rfl, HA, HK1, HO_0, HK, HB⟩ := hrel
   cases gk with
   | zero => exact absurd HA.out (by simp [bg.l0])
   | succ k1 =>
    have H := HA.out
    clear HA
    simp only [bg.l0] at H
    by_cases c5 : x8_1 < a2
    ·rw [if_pos c5] at H
     have c5b0 : decide (x8_1 < a2) = true := decide_eq_true c5
     clear c5
     have H' := ah.mk H
     clear H
     go_wp2
     go_loopg [9] k1 (fun kq v9 w' => ∃ (x0_2 : List (S44)) (x9_2 : Int), v9 = .int .i64 x9_2 ∧ ah (bg.l1 kq x0_2 a1 a2 x8_1 x9_2 = some r) ∧ ah (kq ≤ k1) ∧ ah (Kd.R k44 44 w' w0.heap.size (fun k_ => (P0_ k_ ∨ w.heap.size ≤ k_)) u9000_ x0_2) ∧ ah (Kept w w' (fun k_ => P0_ k_)) ∧ ah (Below w0.heap.size w0 w'))
     case atStart => exact ⟨(x0_1), (x8_1), (by rfl), H', ⟨Nat.le_refl _⟩, ⟨by (with_reducible repeat ((apply Kd.aK))); exact HO_0.out⟩, ⟨HK.out⟩, ⟨HB.out⟩⟩
     case round =>
      clear H'
      (try clear c5b0)
      obtain ⟨x0_2, x9_2, rfl, HA, HK2, HO_0, HK, HB⟩ := hrel
      cases gk with
      | zero => exact absurd HA.out (by simp [bg.l1])
      | succ k2 =>
       have H := HA.out
       clear HA
       simp only [bg.l1] at H
       by_cases c6 : x9_2 > a1
       focus
        rw [if_pos c6] at H
        have c6b0 : decide (a1 < x9_2) = true := decide_eq_true c6
        clear c6
        obtain ⟨c7b0, H⟩ := dU H
        obtain ⟨c8b0, H⟩ := dU H
        obtain ⟨ji9, hji9⟩ : ∃ j_ : Int, (wrap64 (x9_2 - 1)) = j_ := ⟨_, rfl⟩
        rw [hji9] at H
        have hji9w : (IntKind.i64.wrap (x9_2 - 1)) = ji9 := (bA _).trans hji9
        obtain ⟨c10b0, H⟩ := dU H
        obtain ⟨c11b0, H⟩ := dU H
        obtain ⟨t107, A12, H⟩ := bP H
        by_cases c13 : t107 < 0
        focus
         rw [if_pos c13] at H
         have c13b0 : decide (t107 < 0) = true := decide_eq_true c13
         clear c13
         obtain ⟨y110, hy110⟩ : ∃ y_ : List (S44), y_ = (x0_2.set (x9_2 : Int).toNat (⟨(aj x0_2 (ji9)).f0, (aj x0_2 (ji9)).f1, (aj x0_2 (ji9)).f2, (aj x0_2 (ji9)).f3, (aj x0_2 (ji9)).f4⟩ : S44)) := ⟨_, rfl⟩
         replace H : (bg.l1 k2 (y110.set ((ji9) : Int).toNat (⟨(aj x0_2 x9_2).f0, (aj x0_2 x9_2).f1, (aj x0_2 x9_2).f2, (aj x0_2 x9_2).f3, (aj x0_2 x9_2).f4⟩ : S44)) a1 a2 x8_1 ji9) = some r := by (rw [hy110]; with_reducible exact H)
         have Ny110 := ah.mk hy110
         clear hy110
         obtain ⟨y111, hy111⟩ : ∃ y_ : List (S44), y_ = (y110.set ((ji9) : Int).toNat (⟨(aj x0_2 x9_2).f0, (aj x0_2 x9_2).f1, (aj x0_2 x9_2).f2, (aj x0_2 x9_2).f3, (aj x0_2 x9_2).f4⟩ : S44)) := ⟨_, rfl⟩
         replace H : (bg.l1 k2 y111 a1 a2 x8_1 ji9) = some r := by (rw [hy111]; with_reducible exact H)
         have Ny111 := ah.mk hy111
         clear hy111
        rotate_left
        focus
         rw [if_neg c13] at H
         have c13b0 : decide (t107 < 0) = false := decide_eq_false c13
         clear c13
        rotate_left
       rotate_left 2
       focus
        rw [if_neg c6] at H
        have c6b0 : decide (a1 < x9_2) = false := decide_eq_false c6
        clear c6
       rotate_left
       all_goals
        have H' := ah.mk H
        clear H
        (try go_wp2)
        replace HO_0 := ah.mk (Kd.fU HO_0.out)
        replace HK := ah.mk (Kept.drew HK.out)
        replace HB := ah.mk (dx HB.out)
       iterate 2
        focus
         obtain ⟨Ao17, co17, eo17⟩ := Kd.bO HO_0.out
         ((subst eo17))
         have p105 : 0 ≤ (x9_2 : Int) := of_decide_eq_true (by (with_reducible assumption))
         have q105 : x9_2 < (x0_2.length : Int) := of_decide_eq_true (by (with_reducible assumption))
         obtain ⟨ad105, e105, hx105_0, hx105_1, hx105_2, hx105_3, hx105_4⟩ := dM (Kd.aN HO_0.out).2.2 x9_2 p105 q105
         cases e105
         replace p105 := eq_true p105
         replace q105 := eq_true q105
         have p106 : 0 ≤ ((ji9) : Int) := of_decide_eq_true (by (with_reducible assumption))
         have q106 : (ji9) < (x0_2.length : Int) := of_decide_eq_true (by (with_reducible assumption))
         obtain ⟨ad106, e106, hx106_0, hx106_1, hx106_2, hx106_3, hx106_4⟩ := dM (Kd.aN HO_0.out).2.2 (ji9) p106 q106
         obtain rfl : ad105 = ad106 := (by injection e106)
         replace p106 := eq_true p106
         replace q106 := eq_true q106
         refine gG (n := 17) (S := fun w' => w'.cell? (ad105.add ((x9_2).toNat * 5)) = some (.string ((aj x0_2 x9_2).f0)) ∧ w'.cell? ⟨(ad105.add ((x9_2).toNat * 5)).block, (ad105.add ((x9_2).toNat * 5)).off + 1, none⟩ = some (.int .i64 ((aj x0_2 x9_2).f1)) ∧ w'.cell? ⟨(ad105.add ((x9_2).toNat * 5)).block, (ad105.add ((x9_2).toNat * 5)).off + 2, none⟩ = some (.int .i64 ((aj x0_2 x9_2).f2)) ∧ w'.cell? ⟨(ad105.add ((x9_2).toNat * 5)).block, (ad105.add ((x9_2).toNat * 5)).off + 3, none⟩ = some (.int .i64 ((aj x0_2 x9_2).f3)) ∧ w'.cell? ⟨(ad105.add ((x9_2).toNat * 5)).block, (ad105.add ((x9_2).toNat * 5)).off + 4, none⟩ = some (.string ((aj x0_2 x9_2).f4)) ∧ w'.cell? (ad105.add (((ji9)).toNat * 5)) = some (.string ((aj x0_2 (ji9)).f0)) ∧ w'.cell? ⟨(ad105.add (((ji9)).toNat * 5)).block, (ad105.add (((ji9)).toNat * 5)).off + 1, none⟩ = some (.int .i64 ((aj x0_2 (ji9)).f1)) ∧ w'.cell? ⟨(ad105.add (((ji9)).toNat * 5)).block, (ad105.add (((ji9)).toNat * 5)).off + 2, none⟩ = some (.int .i64 ((aj x0_2 (ji9)).f2)) ∧ w'.cell? ⟨(ad105.add (((ji9)).toNat * 5)).block, (ad105.add (((ji9)).toNat * 5)).off + 3, none⟩ = some (.int .i64 ((aj x0_2 (ji9)).f3)) ∧ w'.cell? ⟨(ad105.add (((ji9)).toNat * 5)).block, (ad105.add (((ji9)).toNat * 5)).off + 4, none⟩ = some (.string ((aj x0_2 (ji9)).f4))) (ds := []) (ls 17 0) (by kernel_rfl) rfl rfl ⟨hx105_0, hx105_1, hx105_2, hx105_3, hx105_4, hx106_0, hx106_1, hx106_2, hx106_3, hx106_4⟩ (fun hHeld => ?_); refine eX bg.IV bg.Gd (fun HT_ HW_ => ?_)
         generalize wr.drew = w16 at HO_0 HK HB hx105_0 hx105_1 hx105_2 hx105_3 hx105_4 hx106_0 hx106_1 hx106_2 hx106_3 hx106_4 hHeld ⊢
         refine td_ [(0, 18), (1, 19), (2, 20), (3, 21), (4, 22), (5, 23), (6, 24), (7, 25), (9, 27), (10, 28), (11, 29), (12, 30)] ?_
         iterate 12 (refine pn_ (v := ?_) (a' := ?_) HT_ rfl rfl (by kernel_rfl) rfl (fun _ _ _ h => h) (fun w' => ?_) ?_ ?_; rotate_left 2; (focus go_simp; with_reducible rfl); (focus simp only [Act.put, sA_, sZ_, sS_, bA, bS]; rfl))
         refine dn_ ?_
         refine td_ [(8, 26), (13, 31)] ?_
         iterate 2 (refine tn_ (v := ?_) (a' := ?_) HT_ HW_ rfl rfl (by kernel_rfl) rfl (fun _ _ _ h => h) hHeld ?_ ?_ ?_; rotate_left 2; (focus rintro w' ⟨s0, s1, s2, s3, s4, s5, s6, s7, s8, s9⟩; go_simp; with_reducible rfl); (focus simp only [Act.put, sA_, sZ_, sS_, bA, bS]; rfl))
         refine dn_ ?_
         refine lY (i := 14) (N := some 32) (ls 17 32767) rfl rfl (iK HT_.out (by kernel_rfl)) (by decide) (fun K hK => ?_)
         refine vB Tryz.func78 (by kernel_rfl) rfl #[.agg #[.string ((aj x0_2 x9_2).f0), .int .i64 ((aj x0_2 x9_2).f1), .int .i64 ((aj x0_2 x9_2).f2), .int .i64 ((aj x0_2 x9_2).f3), .string ((aj x0_2 x9_2).f4)], .agg #[.string ((aj x0_2 (ji9)).f0), .int .i64 ((aj x0_2 (ji9)).f1), .int .i64 ((aj x0_2 (ji9)).f2), .int .i64 ((aj x0_2 (ji9)).f3), .string ((aj x0_2 (ji9)).f4)]] (by rfl) rfl rfl rfl (by (try simp only [mA_, mC_, mN_]); rfl) ?_
         with_reducible refine (dI.calls k2 ((aj x0_2 x9_2).f0) ((aj x0_2 x9_2).f1) ((aj x0_2 x9_2).f2) ((aj x0_2 x9_2).f3) ((aj x0_2 x9_2).f4) ((aj x0_2 (ji9)).f0) ((aj x0_2 (ji9)).f1) ((aj x0_2 (ji9)).f2) ((aj x0_2 (ji9)).f3) ((aj x0_2 (ji9)).f4) t107 _ A12.out).mono ?_
         rintro e w18 ⟨rfl, hb⟩
         have HS0_ := kp_ hb hHeld.1
         have HS1_ := kp_ hb hHeld.2.1
         have HS2_ := kp_ hb hHeld.2.2.1
         have HS3_ := kp_ hb hHeld.2.2.2.1
         have HS4_ := kp_ hb hHeld.2.2.2.2.1
         have HS5_ := kp_ hb hHeld.2.2.2.2.2.1
         have HS6_ := kp_ hb hHeld.2.2.2.2.2.2.1
         have HS7_ := kp_ hb hHeld.2.2.2.2.2.2.2.1
         have HS8_ := kp_ hb hHeld.2.2.2.2.2.2.2.2.1
         have HS9_ := kp_ hb hHeld.2.2.2.2.2.2.2.2.2
         refine ⟨_, rfl, ?_⟩
         replace HO_0 := ah.mk (Kd.bI (by ((exact HO_0.out))) hb)
         replace HK := ah.mk (Kept.below (S := (fun k_ => P0_ k_)) HK.out hb)
         replace HB := ah.mk (ak HB.out hb)
         (try clear hb)
         refine hK.out _ _ ⟨HS0_, HS1_, HS2_, HS3_, HS4_, HS5_, HS6_, HS7_, HS8_, HS9_⟩ (fun hHeld => ?_)
         clear hK K
         refine jE (a' := ?_) ?_ ?_
         rotate_left
         ·show Act.put _ (some 32) _ = _
          simp only [Act.put, sA_, sZ_, sS_, bA, bS]
          rfl
         refine td_ [(15, 33), (16, 34)] ?_
         iterate 2 (refine pn_ (v := ?_) (a' := ?_) HT_ rfl rfl (by kernel_rfl) rfl (fun _ _ _ h => h) (fun w' => ?_) ?_ ?_; rotate_left 2; (focus go_simp; with_reducible rfl); (focus simp only [Act.put, sA_, sZ_, sS_, bA, bS]; rfl))
        rotate_left
       focus
        refine gG (n := 17) (S := fun w' => True) (ds := []) (ls 17 0) (by kernel_rfl) rfl rfl trivial (fun hHeld => ?_); refine eX bg.IV bg.Gd (fun HT_ HW_ => ?_)
        generalize wr.drew = w25 at HO_0 HK HB hHeld ⊢
        refine td_ [(0, 18), (1, 19), (2, 20), (3, 21)] ?_
        iterate 4 (refine pn_ (v := ?_) (a' := ?_) HT_ rfl rfl (by kernel_rfl) rfl (fun _ _ _ h => h) (fun w' => ?_) ?_ ?_; rotate_left 2; (focus go_simp; with_reducible rfl); (focus simp only [Act.put, sA_, sZ_, sS_, bA, bS]; rfl))
        refine dn_ ?_
        refine td_ [(4, 22), (5, 23), (6, 24), (7, 25), (8, 26), (9, 27), (10, 28), (11, 29), (12, 30), (13, 31), (14, 32), (15, 33)] ?_
        iterate 12 (refine on_ (a' := ?_) HT_ rfl rfl (by kernel_rfl) rfl (fun _ _ _ h => h) ?_ ?_; rotate_left; (focus simp only [Act.put, sA_, sZ_, sS_, bA, bS]; rfl))
        refine dn_ ?_
        refine td_ [(16, 34)] ?_
        iterate 1 (refine pn_ (v := ?_) (a' := ?_) HT_ rfl rfl (by kernel_rfl) rfl (fun _ _ _ h => h) (fun w' => ?_) ?_ ?_; rotate_left 2; (focus go_simp; with_reducible rfl); (focus simp only [Act.put, sA_, sZ_, sS_, bA, bS]; rfl))
       rotate_left
       all_goals
        refine dn_ ?_
        refine jJ (iZ HT_.out (by kernel_rfl)) ?_
        (try go_wp2)
       focus
        replace HO_0 := ah.mk (Kd.fU HO_0.out)
        replace HK := ah.mk (Kept.drew HK.out)
        replace HB := ah.mk (dx HB.out)
        have p108 : 0 ≤ ((ji9) : Int) := of_decide_eq_true (by (with_reducible assumption))
        have q108 : (ji9) < (x0_2.length : Int) := of_decide_eq_true (by (with_reducible assumption))
        obtain ⟨ad108, e108, hx108_0, hx108_1, hx108_2, hx108_3, hx108_4⟩ := dM (Kd.aN HO_0.out).2.2 (ji9) p108 q108
        obtain rfl : ad105 = ad108 := (by injection e108)
        replace p108 := eq_true p108
        replace q108 := eq_true q108
        have p109 : 0 ≤ (x9_2 : Int) := of_decide_eq_true (by (with_reducible assumption))
        have q109 : x9_2 < (x0_2.length : Int) := of_decide_eq_true (by (with_reducible assumption))
        obtain ⟨ad109, e109, hx109_0, hx109_1, hx109_2, hx109_3, hx109_4⟩ := dM (Kd.aN HO_0.out).2.2 x9_2 p109 q109
        obtain rfl : ad105 = ad109 := (by injection e109)
        replace p109 := eq_true p109
        replace q109 := eq_true q109
        have p14 : 0 ≤ (x9_2 : Int) := of_decide_eq_true (by (with_reducible assumption))
        have q14 : (x9_2 : Int) < ((x0_2.length : Int) : Int) := of_decide_eq_true (by (with_reducible assumption))
        obtain ⟨go14, co14, eo14, gb14, gl14, cl14, HG14⟩ := Kd.qg HO_0.out (by omega)
        ((cases eo14))
        have GB14 := ah.mk gb14
        have GG14 := ah.mk HG14
        clear gb14 gl14 HG14
        have HMgo14 := ah.mk (show (P0_ go14 ∨ w.heap.size ≤ go14) from (HO_0.out.1 _ rfl))
        ((simp only [add_plain] at hx105_0))
        ((simp only [add_plain] at hx105_1))
        ((simp only [add_plain] at hx105_2))
        ((simp only [add_plain] at hx105_3))
        ((simp only [add_plain] at hx105_4))
        ((simp only [add_plain] at hx106_0))
        ((simp only [add_plain] at hx106_1))
        ((simp only [add_plain] at hx106_2))
        ((simp only [add_plain] at hx106_3))
        ((simp only [add_plain] at hx106_4))
        ((simp only [add_plain] at hx108_0))
        ((simp only [add_plain] at hx108_1))
        ((simp only [add_plain] at hx108_2))
        ((simp only [add_plain] at hx108_3))
        ((simp only [add_plain] at hx108_4))
        ((simp only [add_plain] at hx109_0))
        ((simp only [add_plain] at hx109_1))
        ((simp only [add_plain] at hx109_2))
        ((simp only [add_plain] at hx109_3))
        ((simp only [add_plain] at hx109_4))
        obtain ⟨ce14, hcl14, hM14, hcc14, hfr14⟩ := Kd.jf HO_0.out z44 (x9_2 : Int) p14 q14
        obtain rfl := fV hM14
        have hx14_0 : World.cell? _ ⟨go14, (x9_2 : Int).toNat * 5, none⟩ = some (.string ((aj x0_2 x9_2).f0)) := hcc14 0 _ rfl
        have hx14_1 : World.cell? _ ⟨go14, (x9_2 : Int).toNat * 5 + 1, none⟩ = some (.int .i64 ((aj x0_2 x9_2).f1)) := hcc14 1 _ rfl
        have hx14_2 : World.cell? _ ⟨go14, (x9_2 : Int).toNat * 5 + 2, none⟩ = some (.int .i64 ((aj x0_2 x9_2).f2)) := hcc14 2 _ rfl
        have hx14_3 : World.cell? _ ⟨go14, (x9_2 : Int).toNat * 5 + 3, none⟩ = some (.int .i64 ((aj x0_2 x9_2).f3)) := hcc14 3 _ rfl
        have hx14_4 : World.cell? _ ⟨go14, (x9_2 : Int).toNat * 5 + 4, none⟩ = some (.string ((aj x0_2 x9_2).f4)) := hcc14 4 _ rfl
        have hf14_0 : World.frozen? _ ⟨go14, (x9_2 : Int).toNat * 5, none⟩ = false := hfr14 0
        have hf14_1 : World.frozen? _ ⟨go14, (x9_2 : Int).toNat * 5 + 1, none⟩ = false := hfr14 1
        have hf14_2 : World.frozen? _ ⟨go14, (x9_2 : Int).toNat * 5 + 2, none⟩ = false := hfr14 2
        have hf14_3 : World.frozen? _ ⟨go14, (x9_2 : Int).toNat * 5 + 3, none⟩ = false := hfr14 3
        have hf14_4 : World.frozen? _ ⟨go14, (x9_2 : Int).toNat * 5 + 4, none⟩ = false := hfr14 4
        clear hcl14 hcc14 hfr14 hM14
        replace p14 := eq_true p14
        replace q14 := eq_true q14
        obtain ⟨ce20, hcl20, hM20, hcc20, hfr20⟩ := Kd.jf HO_0.out z44 (x9_2 : Int) (of_decide_eq_true (by (with_reducible assumption))) (by have h_ : (x9_2 : Int) < ((x0_2.length : Int) : Int) := of_decide_eq_true (by (with_reducible assumption)); (exact h_))
        obtain rfl := fV hM20
        have HP20 := (Kd.nQ HO_0.out (x9_2 : Int) (of_decide_eq_true (by (with_reducible assumption))) (by have h_ : (x9_2 : Int) < ((x0_2.length : Int) : Int) := of_decide_eq_true (by (with_reducible assumption)); (exact h_)) (seg := [.string ((aj x0_2 (ji9)).f0), .int .i64 ((aj x0_2 (ji9)).f1), .int .i64 ((aj x0_2 (ji9)).f2), .int .i64 ((aj x0_2 (ji9)).f3), .string ((aj x0_2 (ji9)).f4)]) (j := 0) hcl20 hcc20 (show 5 ≤ 5 from by decide) (x' := (⟨(aj x0_2 (ji9)).f0, (aj x0_2 (ji9)).f1, (aj x0_2 (ji9)).f2, (aj x0_2 (ji9)).f3, (aj x0_2 (ji9)).f4⟩ : S44)) (iy _ _ _ (⟨(aj x0_2 (ji9)).f0, (aj x0_2 (ji9)).f1, (aj x0_2 (ji9)).f2, (aj x0_2 (ji9)).f3, (aj x0_2 (ji9)).f4⟩ : S44) ) (fun _ hk => hk)).1
        rw [← Ny110.out] at HP20
        have HQ20 := ah.mk HP20
        clear hcl20 hcc20 hfr20 hM20 HP20
        have p15 : 0 ≤ ((ji9) : Int) := of_decide_eq_true (by (with_reducible assumption))
        have q15 : ((ji9) : Int) < ((x0_2.length : Int) : Int) := of_decide_eq_true (by (with_reducible assumption))
        obtain ⟨ce15, hcl15, hM15, hcc15, hfr15⟩ := Kd.jf HQ20.out z44 ((ji9) : Int) p15 q15
        obtain rfl := fV hM15
        have hx15_0 : World.cell? _ ⟨go14, ((ji9) : Int).toNat * 5, none⟩ = some (.string ((aj y110 (ji9)).f0)) := hcc15 0 _ rfl
        have hx15_1 : World.cell? _ ⟨go14, ((ji9) : Int).toNat * 5 + 1, none⟩ = some (.int .i64 ((aj y110 (ji9)).f1)) := hcc15 1 _ rfl
        have hx15_2 : World.cell? _ ⟨go14, ((ji9) : Int).toNat * 5 + 2, none⟩ = some (.int .i64 ((aj y110 (ji9)).f2)) := hcc15 2 _ rfl
        have hx15_3 : World.cell? _ ⟨go14, ((ji9) : Int).toNat * 5 + 3, none⟩ = some (.int .i64 ((aj y110 (ji9)).f3)) := hcc15 3 _ rfl
        have hx15_4 : World.cell? _ ⟨go14, ((ji9) : Int).toNat * 5 + 4, none⟩ = some (.string ((aj y110 (ji9)).f4)) := hcc15 4 _ rfl
        have hf15_0 : World.frozen? _ ⟨go14, ((ji9) : Int).toNat * 5, none⟩ = false := hfr15 0
        have hf15_1 : World.frozen? _ ⟨go14, ((ji9) : Int).toNat * 5 + 1, none⟩ = false := hfr15 1
        have hf15_2 : World.frozen? _ ⟨go14, ((ji9) : Int).toNat * 5 + 2, none⟩ = false := hfr15 2
        have hf15_3 : World.frozen? _ ⟨go14, ((ji9) : Int).toNat * 5 + 3, none⟩ = false := hfr15 3
        have hf15_4 : World.frozen? _ ⟨go14, ((ji9) : Int).toNat * 5 + 4, none⟩ = false := hfr15 4
        clear hcl15 hcc15 hfr15 hM15
        replace p15 := eq_true p15
        replace q15 := eq_true q15
        obtain ⟨ce21, hcl21, hM21, hcc21, hfr21⟩ := Kd.jf HQ20.out z44 ((ji9) : Int) (of_decide_eq_true (by (with_reducible assumption))) (by have h_ : ((ji9) : Int) < ((x0_2.length : Int) : Int) := of_decide_eq_true (by (with_reducible assumption)); (exact h_))
        obtain rfl := fV hM21
        have HP21 := (Kd.nQ HQ20.out ((ji9) : Int) (of_decide_eq_true (by (with_reducible assumption))) (by have h_ : ((ji9) : Int) < ((x0_2.length : Int) : Int) := of_decide_eq_true (by (with_reducible assumption)); (exact h_)) (seg := [.string ((aj x0_2 x9_2).f0), .int .i64 ((aj x0_2 x9_2).f1), .int .i64 ((aj x0_2 x9_2).f2), .int .i64 ((aj x0_2 x9_2).f3), .string ((aj x0_2 x9_2).f4)]) (j := 0) hcl21 hcc21 (show 5 ≤ 5 from by decide) (x' := (⟨(aj x0_2 x9_2).f0, (aj x0_2 x9_2).f1, (aj x0_2 x9_2).f2, (aj x0_2 x9_2).f3, (aj x0_2 x9_2).f4⟩ : S44)) (iy _ _ _ (⟨(aj x0_2 x9_2).f0, (aj x0_2 x9_2).f1, (aj x0_2 x9_2).f2, (aj x0_2 x9_2).f3, (aj x0_2 x9_2).f4⟩ : S44) ) (fun _ hk => hk)).1
        rw [← Ny111.out] at HP21
        have HQ21 := ah.mk HP21
        clear hcl21 hcc21 hfr21 hM21 HP21
        refine gG (n := 18) (S := fun w' => w'.cell? ⟨go14, (((ji9)).toNat * 5), none⟩ = some (.string ((aj x0_2 (ji9)).f0)) ∧ w'.cell? ⟨go14, (((ji9)).toNat * 5) + 1, none⟩ = some (.int .i64 ((aj x0_2 (ji9)).f1)) ∧ w'.cell? ⟨go14, (((ji9)).toNat * 5) + 2, none⟩ = some (.int .i64 ((aj x0_2 (ji9)).f2)) ∧ w'.cell? ⟨go14, (((ji9)).toNat * 5) + 3, none⟩ = some (.int .i64 ((aj x0_2 (ji9)).f3)) ∧ w'.cell? ⟨go14, (((ji9)).toNat * 5) + 4, none⟩ = some (.string ((aj x0_2 (ji9)).f4)) ∧ w'.cell? ⟨go14, ((x9_2).toNat * 5), none⟩ = some (.string ((aj x0_2 x9_2).f0)) ∧ w'.cell? ⟨go14, ((x9_2).toNat * 5) + 1, none⟩ = some (.int .i64 ((aj x0_2 x9_2).f1)) ∧ w'.cell? ⟨go14, ((x9_2).toNat * 5) + 2, none⟩ = some (.int .i64 ((aj x0_2 x9_2).f2)) ∧ w'.cell? ⟨go14, ((x9_2).toNat * 5) + 3, none⟩ = some (.int .i64 ((aj x0_2 x9_2).f3)) ∧ w'.cell? ⟨go14, ((x9_2).toNat * 5) + 4, none⟩ = some (.string ((aj x0_2 x9_2).f4))) (ds := [15, 17]) (ls 18 0) (by kernel_rfl) rfl rfl ⟨hx108_0, hx108_1, hx108_2, hx108_3, hx108_4, hx109_0, hx109_1, hx109_2, hx109_3, hx109_4⟩ (fun hHeld => ?_); refine eX bg.Eu bg.Bl (fun HT_ HW_ => ?_)
        generalize w18.drew = w19 at HO_0 HK HB GG14 HQ20 HQ21 hf14_0 hf14_1 hf14_2 hf14_3 hf14_4 hf15_0 hf15_1 hf15_2 hf15_3 hf15_4 hx105_0 hx105_1 hx105_2 hx105_3 hx105_4 hx106_0 hx106_1 hx106_2 hx106_3 hx106_4 hx108_0 hx108_1 hx108_2 hx108_3 hx108_4 hx109_0 hx109_1 hx109_2 hx109_3 hx109_4 hx14_0 hx14_1 hx14_2 hx14_3 hx14_4 hx15_0 hx15_1 hx15_2 hx15_3 hx15_4 hHeld ⊢
        (try simp [go_sem, World.setCells, (show k44.sz = 5 from rfl)] at hf15_0 hf15_1 hf15_2 hf15_3 hf15_4 hx15_0 hx15_1 hx15_2 hx15_3 hx15_4)
        refine td_ [(0, 37), (1, 38), (2, 39), (3, 40), (4, 41), (5, 42), (6, 43), (7, 44), (8, 45), (10, 47), (11, 48), (12, 49)] ?_
        iterate 12 (refine pn_ (v := ?_) (a' := ?_) HT_ rfl rfl (by kernel_rfl) rfl (fun _ _ _ h => h) (fun w' => ?_) ?_ ?_; rotate_left 2; (focus go_simp; with_reducible rfl); (focus simp only [Act.put, sA_, sZ_, sS_, bA, bS]; rfl))
        refine dn_ ?_
        refine td_ [(9, 46), (13, 50)] ?_
        iterate 2 (refine tn_ (v := ?_) (a' := ?_) HT_ HW_ rfl rfl (by kernel_rfl) rfl (fun _ _ _ h => h) hHeld ?_ ?_ ?_; rotate_left 2; (focus rintro w' ⟨s0, s1, s2, s3, s4, s5, s6, s7, s8, s9⟩; go_simp; with_reducible rfl); (focus simp only [Act.put, sA_, sZ_, sS_, bA, bS]; rfl))
        refine dn_ ?_
        refine td_ [(14, 51)] ?_
        iterate 1 (refine pn_ (v := ?_) (a' := ?_) HT_ rfl rfl (by kernel_rfl) rfl (fun _ _ _ h => h) (fun w' => ?_) ?_ ?_; rotate_left 2; (focus go_simp; with_reducible rfl); (focus simp only [Act.put, sA_, sZ_, sS_, bA, bS]; rfl))
        refine dn_ ?_
        refine lN (i := 15) (N := none) (ls 18 65535) rfl rfl (iK HT_.out (by kernel_rfl)) (by decide) (fun K hK => ?_)
        refine kZ (w1 := ?_) (by rfl) rfl ?_ ?_
        rotate_left
        ·go_simp
         rfl
        refine hK.out _ _ ?_
        clear hK K
        refine td_ [(16, 52)] ?_
        iterate 1 (refine pn_ (v := ?_) (a' := ?_) HT_ rfl rfl (by kernel_rfl) rfl (fun _ _ _ h => h) (fun w' => ?_) ?_ ?_; rotate_left 2; (focus go_simp; with_reducible rfl); (focus simp only [Act.put, sA_, sZ_, sS_, bA, bS]; rfl))
        refine dn_ ?_
        refine lN (i := 17) (N := none) (ls 18 262143) rfl rfl (iK HT_.out (by kernel_rfl)) (by decide) (fun K hK => ?_)
        refine kZ (w1 := ?_) (by rfl) rfl ?_ ?_
        rotate_left
        ·go_simp
         rfl
        refine hK.out _ _ ?_
        clear hK K
        refine jJ (iZ HT_.out (by kernel_rfl)) ?_
        (try go_wp2)
       rotate_left
       rotate_left
       rotate_left
       all_goals
        go_roundg k2
        case measure => have := HK1.out; have := HK2.out; omega
       ·case rel => exact ⟨(y111), (ji9), (by rfl), H', ⟨by have := HK1.out; have := HK2.out; omega⟩, ⟨by (with_reducible repeat ((apply Kd.aK))); exact HQ21.out⟩, ⟨by repeat ((with_reducible first | exact HK.out | refine Kept.setCell ?_ HMgo14.out _))⟩, ⟨by repeat ((with_reducible first | exact HB.out | refine dN ?_ GB14.out))⟩⟩
       ·case rel => exact ⟨(x0_2), (wrap64 (x8_1 + 1)), (by rfl), H', ⟨by have := HK1.out; have := HK2.out; omega⟩, ⟨by (with_reducible repeat ((apply Kd.aK))); exact HO_0.out⟩, ⟨HK.out⟩, ⟨HB.out⟩⟩
       ·case rel => exact ⟨(x0_2), (wrap64 (x8_1 + 1)), (by rfl), H', ⟨by have := HK1.out; have := HK2.out; omega⟩, ⟨by (with_reducible repeat ((apply Kd.aK))); exact HO_0.out⟩, ⟨HK.out⟩, ⟨HB.out⟩⟩
    ·rw [if_neg c5] at H
     have c5b0 : decide (x8_1 < a2) = false := decide_eq_false c5
     clear c5
     obtain rfl := Option.some.inj H
     go_wp2
     go_end0
     exact ⟨by rfl, by (with_reducible repeat ((apply Kd.aK))); exact HO_0.out, HB.out, HK.out⟩
end Go.Y.PSo
namespace Go.Y.PSo
open Go.RowKit Go.V.aC Go.V.aV Go.V.aX Go.Y.Given Go.Y.PRd Go.Y.PRr
attribute [local go_sem] dP dQ eu eB dD dF dR dS   -- for this text's walks alone
def dO.l0 : Nat → List (S44) → Int → Int → Int → Int → Option ((List (S44)))
 | 0, _, _, _, _, _ => none
 | k + 1, x0, x1, x2, x3, x10 => if x10 < x3 then (if 0 ≤ (wrap64 (x2 + x10)) then (if (wrap64 (x2 + x10)) < (x0.length : Int) then (if 0 ≤ (wrap64 (x1 + x10)) then (if (wrap64 (x1 + x10)) < (x0.length : Int) then (dO.l0 k ((x0.set ((wrap64 (x1 + x10)) : Int).toNat (⟨(aj x0 (wrap64 (x2 + x10))).f0, (aj x0 (wrap64 (x2 + x10))).f1, (aj x0 (wrap64 (x2 + x10))).f2, (aj x0 (wrap64 (x2 + x10))).f3, (aj x0 (wrap64 (x2 + x10))).f4⟩ : S44)).set ((wrap64 (x2 + x10)) : Int).toNat (⟨(aj x0 (wrap64 (x1 + x10))).f0, (aj x0 (wrap64 (x1 + x10))).f1, (aj x0 (wrap64 (x1 + x10))).f2, (aj x0 (wrap64 (x1 + x10))).f3, (aj x0 (wrap64 (x1 + x10))).f4⟩ : S44)) x1 x2 x3 (wrap64 (x10 + 1))) else (none)) else (none)) else (none)) else (none)) else (some x0)
def dO.f (k : Nat) (l0 : List (S44)) (a1 : Int) (a2 : Int) (a3 : Int) (a4 : Int) : Option ((List (S44))) := dO.l0 k l0 a1 a2 a3 0
def dO.T3 : Bool × List (List Nat × List Nat) := (true, [([], []), ([], []), ([], []), ([1, 2], [1, 2]), ([], []), ([], []), ([], []), ([5, 6], [5, 6]), ([], []), ([], []), ([], []), ([9, 10], [9, 10]), ([8, 11], [8, 11]), ([12], [12]), ([], []), ([], []), ([], []), ([15, 16], [15, 16]), ([14, 17], [14, 17]), ([18], [18]), ([0, 3, 0, 1, 2, 3, 8, 9, 10, 11, 12, 13, 19], [0, 3]), ([20, 13, 0, 1, 2, 3, 8, 9, 10, 11, 12, 13, 19], [13, 20]), ([4, 7, 0, 1, 2, 3, 4, 5, 6, 7, 8, 9, 10, 11, 12, 13, 14, 15, 16, 17, 18, 19, 20, 21], [4, 7]), ([22, 19, 21, 0, 1, 2, 3, 4, 5, 6, 7, 8, 9, 10, 11, 12, 13, 14, 15, 16, 17, 18, 19, 20, 21], [19, 22])])
def dO.B3 : List Nat := [0, 0, 0, 6, 0, 0, 0, 96, 0, 0, 0, 1536, 3840, 7936, 0, 0, 0, 98304, 245760, 507904, 1048335, 2096911, 4194303, 8388607]
theorem dO.yu : fK .any (opsOf Tryz.f163 3) = dO.T3 := by kernel_rfl
theorem dO.vw : fP dO.T3.2 dO.B3 = true := by kernel_rfl
theorem dO.calls (k : Nat) (P0_ : Nat → Prop) (u9000_ : Value) (l0 : List (S44)) (a1 : Int) (a2 : Int) (a3 : Int) (a4 : Int) (r : List (S44)) (w0 w : World) (hB : Below w0.heap.size w0 w) (ho0 : Kd.R k44 44 w w0.heap.size P0_ u9000_ l0) (h : dO.f k l0 a1 a2 a3 a4 = some r) :
    Calls Tryz.prog 163 #[u9000_, .int .i64 a1, .int .i64 a2, .int .i64 a3, .func (.func 78) #[] #[]] w fun e w' => e = .returned (.tuple #[]) ∧ Kd.R k44 44 w' w0.heap.size (fun k_ => (P0_ k_ ∨ w.heap.size ≤ k_)) u9000_ r ∧ Below w0.heap.size w0 w' ∧ Kept w w' (fun k_ => P0_ k_) := by
  have hu44 := Tryz.underlying44
  have HO0 := ah.mk (show Kd.R k44 44 w w0.heap.size (fun k_ => (P0_ k_ ∨ w.heap.size ≤ k_)) u9000_ l0 from Kd.dH ho0 (fun k_ hk => (.inl hk)))
  have HK := ah.mk (Kept.refl w (fun k_ => P0_ k_))
  have HW0 := ah.mk hB.size
  have HB := ah.mk hB
  clear hB
  have H : (dO.l0 k l0 a1 a2 a3 0) = some r := h
  clear h
  have H' := ah.mk H
  clear H
  go_enter Tryz.func163, Tryz.ntmps163
  go_wp2
  go_loopg [10] k (fun kq v10 w' => ∃ (x0_1 : List (S44)) (x10_1 : Int), v10 = .int .i64 x10_1 ∧ ah (dO.l0 kq x0_1 a1 a2 a3 x10_1 = some r) ∧ ah (kq ≤ k) ∧ ah (Kd.R k44 44 w' w0.heap.size (fun k_ => (P0_ k_ ∨ w.heap.size ≤ k_)) u9000_ x0_1) ∧ ah (Kept w w' (fun k_ => P0_ k_)) ∧ ah (Below w0.heap.size w0 w'))
  case atStart => exact ⟨(l0), (0), (by rfl), H', ⟨Nat.le_refl _⟩, ⟨by (with_reducible repeat ((apply Kd.aK))); exact HO0.out⟩, ⟨HK.out⟩, ⟨HB.out⟩⟩
  case round =>
   clear H'
   obtain ⟨x0_1, x10_1, rfl, HA, HK1, HO_0, HK, HB⟩ := hrel
   cases gk with
   | zero => exact absurd HA.out (by simp [dO.l0])
   | succ k1 =>
    have H := HA.out
    clear HA
    simp only [dO.l0] at H
    by_cases c6 : x10_1 < a3
    ·rw [if_pos c6] at H
     have c6b0 : decide (x10_1 < a3) = true := decide_eq_true c6
     clear c6
     obtain ⟨ji7, hji7⟩ : ∃ j_ : Int, (wrap64 (a2 + x10_1)) = j_ := ⟨_, rfl⟩
     rw [hji7] at H
     have hji7w : (IntKind.i64.wrap (a2 + x10_1)) = ji7 := (bA _).trans hji7
     obtain ⟨c8b0, H⟩ := dU H
     obtain ⟨c9b0, H⟩ := dU H
     obtain ⟨ji10, hji10⟩ : ∃ j_ : Int, (wrap64 (a1 + x10_1)) = j_ := ⟨_, rfl⟩
     rw [hji10] at H
     have hji10w : (IntKind.i64.wrap (a1 + x10_1)) = ji10 := (bA _).trans hji10
     obtain ⟨c11b0, H⟩ := dU H
     obtain ⟨c12b0, H⟩ := dU H
     obtain ⟨y114, hy114⟩ : ∃ y_ : List (S44), y_ = (x0_1.set ((ji10) : Int).toNat (⟨(aj x0_1 (ji7)).f0, (aj x0_1 (ji7)).f1, (aj x0_1 (ji7)).f2, (aj x0_1 (ji7)).f3, (aj x0_1 (ji7)).f4⟩ : S44)) := ⟨_, rfl⟩
     replace H : (dO.l0 k1 (y114.set ((ji7) : Int).toNat (⟨(aj x0_1 (ji10)).f0, (aj x0_1 (ji10)).f1, (aj x0_1 (ji10)).f2, (aj x0_1 (ji10)).f3, (aj x0_1 (ji10)).f4⟩ : S44)) a1 a2 a3 (wrap64 (x10_1 + 1))) = some r := by (rw [hy114]; with_reducible exact H)
     have Ny114 := ah.mk hy114
     clear hy114
     obtain ⟨y115, hy115⟩ : ∃ y_ : List (S44), y_ = (y114.set ((ji7) : Int).toNat (⟨(aj x0_1 (ji10)).f0, (aj x0_1 (ji10)).f1, (aj x0_1 (ji10)).f2, (aj x0_1 (ji10)).f3, (aj x0_1 (ji10)).f4⟩ : S44)) := ⟨_, rfl⟩
     replace H : (dO.l0 k1 y115 a1 a2 a3 (wrap64 (x10_1 + 1))) = some r := by (rw [hy115]; with_reducible exact H)
     have Ny115 := ah.mk hy115
     clear hy115
     have H' := ah.mk H
     clear H
     (try go_wp2)
     replace HO_0 := ah.mk (Kd.fU HO_0.out)
     replace HK := ah.mk (Kept.drew HK.out)
     replace HB := ah.mk (dx HB.out)
     obtain ⟨Ao16, co16, eo16⟩ := Kd.bO HO_0.out
     ((subst eo16))
     have p112 : 0 ≤ ((ji7) : Int) := of_decide_eq_true (by (with_reducible assumption))
     have q112 : (ji7) < (x0_1.length : Int) := of_decide_eq_true (by (with_reducible assumption))
     obtain ⟨ad112, e112, hx112_0, hx112_1, hx112_2, hx112_3, hx112_4⟩ := dM (Kd.aN HO_0.out).2.2 (ji7) p112 q112
     cases e112
     replace p112 := eq_true p112
     replace q112 := eq_true q112
     have p113 : 0 ≤ ((ji10) : Int) := of_decide_eq_true (by (with_reducible assumption))
     have q113 : (ji10) < (x0_1.length : Int) := of_decide_eq_true (by (with_reducible assumption))
     obtain ⟨ad113, e113, hx113_0, hx113_1, hx113_2, hx113_3, hx113_4⟩ := dM (Kd.aN HO_0.out).2.2 (ji10) p113 q113
     obtain rfl : ad112 = ad113 := (by injection e113)
     replace p113 := eq_true p113
     replace q113 := eq_true q113
     have p13 : 0 ≤ ((ji10) : Int) := of_decide_eq_true (by (with_reducible assumption))
     have q13 : ((ji10) : Int) < ((x0_1.length : Int) : Int) := of_decide_eq_true (by (with_reducible assumption))
     obtain ⟨go13, co13, eo13, gb13, gl13, cl13, HG13⟩ := Kd.qg HO_0.out (by omega)
     ((cases eo13))
     have GB13 := ah.mk gb13
     have GG13 := ah.mk HG13
     clear gb13 gl13 HG13
     have HMgo13 := ah.mk (show (P0_ go13 ∨ w.heap.size ≤ go13) from (HO_0.out.1 _ rfl))
     ((simp only [add_plain] at hx112_0))
     ((simp only [add_plain] at hx112_1))
     ((simp only [add_plain] at hx112_2))
     ((simp only [add_plain] at hx112_3))
     ((simp only [add_plain] at hx112_4))
     ((simp only [add_plain] at hx113_0))
     ((simp only [add_plain] at hx113_1))
     ((simp only [add_plain] at hx113_2))
     ((simp only [add_plain] at hx113_3))
     ((simp only [add_plain] at hx113_4))
     obtain ⟨ce13, hcl13, hM13, hcc13, hfr13⟩ := Kd.jf HO_0.out z44 ((ji10) : Int) p13 q13
     obtain rfl := fV hM13
     have hx13_0 : World.cell? _ ⟨go13, ((ji10) : Int).toNat * 5, none⟩ = some (.string ((aj x0_1 (ji10)).f0)) := hcc13 0 _ rfl
     have hx13_1 : World.cell? _ ⟨go13, ((ji10) : Int).toNat * 5 + 1, none⟩ = some (.int .i64 ((aj x0_1 (ji10)).f1)) := hcc13 1 _ rfl
     have hx13_2 : World.cell? _ ⟨go13, ((ji10) : Int).toNat * 5 + 2, none⟩ = some (.int .i64 ((aj x0_1 (ji10)).f2)) := hcc13 2 _ rfl
     have hx13_3 : World.cell? _ ⟨go13, ((ji10) : Int).toNat * 5 + 3, none⟩ = some (.int .i64 ((aj x0_1 (ji10)).f3)) := hcc13 3 _ rfl
     have hx13_4 : World.cell? _ ⟨go13, ((ji10) : Int).toNat * 5 + 4, none⟩ = some (.string ((aj x0_1 (ji10)).f4)) := hcc13 4 _ rfl
     have hf13_0 : World.frozen? _ ⟨go13, ((ji10) : Int).toNat * 5, none⟩ = false := hfr13 0
     have hf13_1 : World.frozen? _ ⟨go13, ((ji10) : Int).toNat * 5 + 1, none⟩ = false := hfr13 1
     have hf13_2 : World.frozen? _ ⟨go13, ((ji10) : Int).toNat * 5 + 2, none⟩ = false := hfr13 2
     have hf13_3 : World.frozen? _ ⟨go13, ((ji10) : Int).toNat * 5 + 3, none⟩ = false := hfr13 3
     have hf13_4 : World.frozen? _ ⟨go13, ((ji10) : Int).toNat * 5 + 4, none⟩ = false := hfr13 4
     clear hcl13 hcc13 hfr13 hM13
     replace p13 := eq_true p13
     replace q13 := eq_true q13
     obtain ⟨ce17, hcl17, hM17, hcc17, hfr17⟩ := Kd.jf HO_0.out z44 ((ji10) : Int) (of_decide_eq_true (by (with_reducible assumption))) (by have h_ : ((ji10) : Int) < ((x0_1.length : Int) : Int) := of_decide_eq_true (by (with_reducible assumption)); (exact h_))
     obtain rfl := fV hM17
     have HP17 := (Kd.nQ HO_0.out ((ji10) : Int) (of_decide_eq_true (by (with_reducible assumption))) (by have h_ : ((ji10) : Int) < ((x0_1.length : Int) : Int) := of_decide_eq_true (by (with_reducible assumption)); (exact h_)) (seg := [.string ((aj x0_1 (ji7)).f0), .int .i64 ((aj x0_1 (ji7)).f1), .int .i64 ((aj x0_1 (ji7)).f2), .int .i64 ((aj x0_1 (ji7)).f3), .string ((aj x0_1 (ji7)).f4)]) (j := 0) hcl17 hcc17 (show 5 ≤ 5 from by decide) (x' := (⟨(aj x0_1 (ji7)).f0, (aj x0_1 (ji7)).f1, (aj x0_1 (ji7)).f2, (aj x0_1 (ji7)).f3, (aj x0_1 (ji7)).f4⟩ : S44)) (iy _ _ _ (⟨(aj x0_1 (ji7)).f0, (aj x0_1 (ji7)).f1, (aj x0_1 (ji7)).f2, (aj x0_1 (ji7)).f3, (aj x0_1 (ji7)).f4⟩ : S44) ) (fun _ hk => hk)).1
     rw [← Ny114.out] at HP17
     have HQ17 := ah.mk HP17
     clear hcl17 hcc17 hfr17 hM17 HP17
     have p14 : 0 ≤ ((ji7) : Int) := of_decide_eq_true (by (with_reducible assumption))
     have q14 : ((ji7) : Int) < ((x0_1.length : Int) : Int) := of_decide_eq_true (by (with_reducible assumption))
     obtain ⟨ce14, hcl14, hM14, hcc14, hfr14⟩ := Kd.jf HQ17.out z44 ((ji7) : Int) p14 q14
     obtain rfl := fV hM14
     have hx14_0 : World.cell? _ ⟨go13, ((ji7) : Int).toNat * 5, none⟩ = some (.string ((aj y114 (ji7)).f0)) := hcc14 0 _ rfl
     have hx14_1 : World.cell? _ ⟨go13, ((ji7) : Int).toNat * 5 + 1, none⟩ = some (.int .i64 ((aj y114 (ji7)).f1)) := hcc14 1 _ rfl
     have hx14_2 : World.cell? _ ⟨go13, ((ji7) : Int).toNat * 5 + 2, none⟩ = some (.int .i64 ((aj y114 (ji7)).f2)) := hcc14 2 _ rfl
     have hx14_3 : World.cell? _ ⟨go13, ((ji7) : Int).toNat * 5 + 3, none⟩ = some (.int .i64 ((aj y114 (ji7)).f3)) := hcc14 3 _ rfl
     have hx14_4 : World.cell? _ ⟨go13, ((ji7) : Int).toNat * 5 + 4, none⟩ = some (.string ((aj y114 (ji7)).f4)) := hcc14 4 _ rfl
     have hf14_0 : World.frozen? _ ⟨go13, ((ji7) : Int).toNat * 5, none⟩ = false := hfr14 0
     have hf14_1 : World.frozen? _ ⟨go13, ((ji7) : Int).toNat * 5 + 1, none⟩ = false := hfr14 1
     have hf14_2 : World.frozen? _ ⟨go13, ((ji7) : Int).toNat * 5 + 2, none⟩ = false := hfr14 2
     have hf14_3 : World.frozen? _ ⟨go13, ((ji7) : Int).toNat * 5 + 3, none⟩ = false := hfr14 3
     have hf14_4 : World.frozen? _ ⟨go13, ((ji7) : Int).toNat * 5 + 4, none⟩ = false := hfr14 4
     clear hcl14 hcc14 hfr14 hM14
     replace p14 := eq_true p14
     replace q14 := eq_true q14
     obtain ⟨ce18, hcl18, hM18, hcc18, hfr18⟩ := Kd.jf HQ17.out z44 ((ji7) : Int) (of_decide_eq_true (by (with_reducible assumption))) (by have h_ : ((ji7) : Int) < ((x0_1.length : Int) : Int) := of_decide_eq_true (by (with_reducible assumption)); (exact h_))
     obtain rfl := fV hM18
     have HP18 := (Kd.nQ HQ17.out ((ji7) : Int) (of_decide_eq_true (by (with_reducible assumption))) (by have h_ : ((ji7) : Int) < ((x0_1.length : Int) : Int) := of_decide_eq_true (by (with_reducible assumption)); (exact h_)) (seg := [.string ((aj x0_1 (ji10)).f0), .int .i64 ((aj x0_1 (ji10)).f1), .int .i64 ((aj x0_1 (ji10)).f2), .int .i64 ((aj x0_1 (ji10)).f3), .string ((aj x0_1 (ji10)).f4)]) (j := 0) hcl18 hcc18 (show 5 ≤ 5 from by decide) (x' := (⟨(aj x0_1 (ji10)).f0, (aj x0_1 (ji10)).f1, (aj x0_1 (ji10)).f2, (aj x0_1 (ji10)).f3, (aj x0_1 (ji10)).f4⟩ : S44)) (iy _ _ _ (⟨(aj x0_1 (ji10)).f0, (aj x0_1 (ji10)).f1, (aj x0_1 (ji10)).f2, (aj x0_1 (ji10)).f3, (aj x0_1 (ji10)).f4⟩ : S44) ) (fun _ hk => hk)).1
     rw [← Ny115.out] at HP18
     have HQ18 := ah.mk HP18
     clear hcl18 hcc18 hfr18 hM18 HP18
     refine gG (n := 24) (S := fun w' => w'.cell? ⟨go13, (((ji7)).toNat * 5), none⟩ = some (.string ((aj x0_1 (ji7)).f0)) ∧ w'.cell? ⟨go13, (((ji7)).toNat * 5) + 1, none⟩ = some (.int .i64 ((aj x0_1 (ji7)).f1)) ∧ w'.cell? ⟨go13, (((ji7)).toNat * 5) + 2, none⟩ = some (.int .i64 ((aj x0_1 (ji7)).f2)) ∧ w'.cell? ⟨go13, (((ji7)).toNat * 5) + 3, none⟩ = some (.int .i64 ((aj x0_1 (ji7)).f3)) ∧ w'.cell? ⟨go13, (((ji7)).toNat * 5) + 4, none⟩ = some (.string ((aj x0_1 (ji7)).f4)) ∧ w'.cell? ⟨go13, (((ji10)).toNat * 5), none⟩ = some (.string ((aj x0_1 (ji10)).f0)) ∧ w'.cell? ⟨go13, (((ji10)).toNat * 5) + 1, none⟩ = some (.int .i64 ((aj x0_1 (ji10)).f1)) ∧ w'.cell? ⟨go13, (((ji10)).toNat * 5) + 2, none⟩ = some (.int .i64 ((aj x0_1 (ji10)).f2)) ∧ w'.cell? ⟨go13, (((ji10)).toNat * 5) + 3, none⟩ = some (.int .i64 ((aj x0_1 (ji10)).f3)) ∧ w'.cell? ⟨go13, (((ji10)).toNat * 5) + 4, none⟩ = some (.string ((aj x0_1 (ji10)).f4))) (ds := [21, 23]) (ls 24 0) (by kernel_rfl) rfl rfl ⟨hx112_0, hx112_1, hx112_2, hx112_3, hx112_4, hx113_0, hx113_1, hx113_2, hx113_3, hx113_4⟩ (fun hHeld => ?_); refine eX dO.yu dO.vw (fun HT_ HW_ => ?_)
     generalize wr.drew = w15 at HO_0 HK HB GG13 HQ17 HQ18 hf13_0 hf13_1 hf13_2 hf13_3 hf13_4 hf14_0 hf14_1 hf14_2 hf14_3 hf14_4 hx112_0 hx112_1 hx112_2 hx112_3 hx112_4 hx113_0 hx113_1 hx113_2 hx113_3 hx113_4 hx13_0 hx13_1 hx13_2 hx13_3 hx13_4 hx14_0 hx14_1 hx14_2 hx14_3 hx14_4 hHeld ⊢
     (try simp [go_sem, World.setCells, (show k44.sz = 5 from rfl)] at hf14_0 hf14_1 hf14_2 hf14_3 hf14_4 hx14_0 hx14_1 hx14_2 hx14_3 hx14_4)
     refine td_ [(0, 16), (1, 17), (2, 18), (3, 19), (4, 20), (5, 21), (6, 22), (7, 23), (8, 24), (9, 25), (10, 26), (11, 27), (12, 28), (14, 30), (15, 31), (16, 32), (17, 33), (18, 34)] ?_
     iterate 18 (refine pn_ (v := ?_) (a' := ?_) HT_ rfl rfl (by kernel_rfl) rfl (fun _ _ _ h => h) (fun w' => ?_) ?_ ?_; rotate_left 2; (focus go_simp; with_reducible rfl); (focus simp only [Act.put, sA_, sZ_, sS_, bA, bS]; rfl))
     refine dn_ ?_
     refine td_ [(13, 29), (19, 35)] ?_
     iterate 2 (refine tn_ (v := ?_) (a' := ?_) HT_ HW_ rfl rfl (by kernel_rfl) rfl (fun _ _ _ h => h) hHeld ?_ ?_ ?_; rotate_left 2; (focus rintro w' ⟨s0, s1, s2, s3, s4, s5, s6, s7, s8, s9⟩; go_simp; with_reducible rfl); (focus simp only [Act.put, sA_, sZ_, sS_, bA, bS]; rfl))
     refine dn_ ?_
     refine td_ [(20, 36)] ?_
     iterate 1 (refine pn_ (v := ?_) (a' := ?_) HT_ rfl rfl (by kernel_rfl) rfl (fun _ _ _ h => h) (fun w' => ?_) ?_ ?_; rotate_left 2; (focus go_simp; with_reducible rfl); (focus simp only [Act.put, sA_, sZ_, sS_, bA, bS]; rfl))
     refine dn_ ?_
     refine lN (i := 21) (N := none) (ls 24 4194303) rfl rfl (iK HT_.out (by kernel_rfl)) (by decide) (fun K hK => ?_)
     refine kZ (w1 := ?_) (by rfl) rfl ?_ ?_
     rotate_left
     ·go_simp
      rfl
     refine hK.out _ _ ?_
     clear hK K
     refine td_ [(22, 37)] ?_
     iterate 1 (refine pn_ (v := ?_) (a' := ?_) HT_ rfl rfl (by kernel_rfl) rfl (fun _ _ _ h => h) (fun w' => ?_) ?_ ?_; rotate_left 2; (focus go_simp; with_reducible rfl); (focus simp only [Act.put, sA_, sZ_, sS_, bA, bS]; rfl))
     refine dn_ ?_
     refine lN (i := 23) (N := none) (ls 24 16777215) rfl rfl (iK HT_.out (by kernel_rfl)) (by decide) (fun K hK => ?_)
     refine kZ (w1 := ?_) (by rfl) rfl ?_ ?_
     rotate_left
     ·go_simp
      rfl
     refine hK.out _ _ ?_
     clear hK K
     refine jJ (iZ HT_.out (by kernel_rfl)) ?_
     (try go_wp2)
     go_roundg k1
     case measure => have := HK1.out; omega
     case rel => exact ⟨(y115), (wrap64 (x10_1 + 1)), (by rfl), H', ⟨by have := HK1.out; omega⟩, ⟨by (with_reducible repeat ((apply Kd.aK))); exact HQ18.out⟩, ⟨by repeat ((with_reducible first | exact HK.out | refine Kept.setCell ?_ HMgo13.out _))⟩, ⟨by repeat ((with_reducible first | exact HB.out | refine dN ?_ GB13.out))⟩⟩
    ·rw [if_neg c6] at H
     have c6b0 : decide (x10_1 < a3) = false := decide_eq_false c6
     clear c6
     obtain rfl := Option.some.inj H
     go_wp2
     go_end0
     exact ⟨by rfl, by (with_reducible repeat ((apply Kd.aK))); exact HO_0.out, HB.out, HK.out⟩
def fH.l0 : Nat → List (S44) → Int → Int → Int → Int → Option ((List (S44)))
 | 0, _, _, _, _, _ => none
 | k + 1, x0, x2, x4, x10, x11 => if x10 = x11 then ((dO.f k x0 (wrap64 (x2 - x10)) x2 x10 x4).bind fun t116 => (some t116)) else (if x10 > x11 then ((dO.f k x0 (wrap64 (x2 - x10)) x2 x11 x4).bind fun t117 => (fH.l0 k t117 x2 x4 (wrap64 (x10 - x11)) x11)) else ((dO.f k x0 (wrap64 (x2 - x10)) (wrap64 ((wrap64 (x2 + x11)) - x10)) x10 x4).bind fun t118 => (fH.l0 k t118 x2 x4 x10 (wrap64 (x11 - x10)))))
def fH.f (k : Nat) (l0 : List (S44)) (a1 : Int) (a2 : Int) (a3 : Int) (a4 : Int) : Option ((List (S44))) := fH.l0 k l0 a2 a4 (wrap64 (a2 - a1)) (wrap64 (a3 - a2))
theorem fH.calls (k : Nat) (P0_ : Nat → Prop) (u9000_ : Value) (l0 : List (S44)) (a1 : Int) (a2 : Int) (a3 : Int) (a4 : Int) (r : List (S44)) (w0 w : World) (hB : Below w0.heap.size w0 w) (ho0 : Kd.R k44 44 w w0.heap.size P0_ u9000_ l0) (h : fH.f k l0 a1 a2 a3 a4 = some r) :
    Calls Tryz.prog 157 #[u9000_, .int .i64 a1, .int .i64 a2, .int .i64 a3, .func (.func 78) #[] #[]] w fun e w' => e = .returned (.tuple #[]) ∧ Kd.R k44 44 w' w0.heap.size (fun k_ => (P0_ k_ ∨ w.heap.size ≤ k_)) u9000_ r ∧ Below w0.heap.size w0 w' ∧ Kept w w' (fun k_ => P0_ k_) := by
  have HO0 := ah.mk (show Kd.R k44 44 w w0.heap.size (fun k_ => (P0_ k_ ∨ w.heap.size ≤ k_)) u9000_ l0 from Kd.dH ho0 (fun k_ hk => (.inl hk)))
  have HK := ah.mk (Kept.refl w (fun k_ => P0_ k_))
  have HW0 := ah.mk hB.size
  have HB := ah.mk hB
  clear hB
  have H : (fH.l0 k l0 a2 a4 (wrap64 (a2 - a1)) (wrap64 (a3 - a2))) = some r := h
  clear h
  have H' := ah.mk H
  clear H
  go_enter Tryz.func157, Tryz.ntmps157
  go_wp2
  go_loopg [10, 11] k (fun kq v10 v11 w' => ∃ (x0_1 : List (S44)) (x10_1 : Int) (x11_1 : Int), v10 = .int .i64 x10_1 ∧ v11 = .int .i64 x11_1 ∧ ah (fH.l0 kq x0_1 a2 a4 x10_1 x11_1 = some r) ∧ ah (kq ≤ k) ∧ ah (Kd.R k44 44 w' w0.heap.size (fun k_ => (P0_ k_ ∨ w.heap.size ≤ k_)) u9000_ x0_1) ∧ ah (Kept w w' (fun k_ => P0_ k_)) ∧ ah (Below w0.heap.size w0 w'))
  case atStart => exact ⟨(l0), (wrap64 (a2 - a1)), (wrap64 (a3 - a2)), (by rfl), (by rfl), H', ⟨Nat.le_refl _⟩, ⟨by (with_reducible repeat ((apply Kd.aK))); exact HO0.out⟩, ⟨HK.out⟩, ⟨HB.out⟩⟩
  case round =>
   clear H'
   obtain ⟨x0_1, x10_1, x11_1, rfl, rfl, HA, HK1, HO_0, HK, HB⟩ := hrel
   cases gk with
   | zero => exact absurd HA.out (by simp [fH.l0])
   | succ k1 =>
    have H := HA.out
    clear HA
    simp only [fH.l0] at H
    by_cases c6 : x10_1 = x11_1
    focus
     rw [if_pos c6] at H
     have c6b0 : (x10_1 == x11_1) = true := beq_iff_eq.mpr c6
     have c6b1 : (x10_1 != x11_1) = false := bne_eq_false_iff_eq.mpr c6
     clear c6
     obtain ⟨t116, A7, H⟩ := bP H
     obtain rfl := Option.some.inj H
    rotate_left
    focus
     rw [if_neg c6] at H
     have c6b0 : (x10_1 == x11_1) = false := beq_eq_false_iff_ne.mpr c6
     have c6b1 : (x10_1 != x11_1) = true := bne_iff_ne.mpr c6
     by_cases c10 : x10_1 > x11_1
     focus
      rw [if_pos c10] at H
      have c10b0 : decide (x11_1 < x10_1) = true := decide_eq_true c10
     rotate_left
     focus
      rw [if_neg c10] at H
      have c10b0 : decide (x11_1 < x10_1) = false := decide_eq_false c10
     rotate_left
     all_goals
      clear c10
      obtain ⟨t117, A11, H⟩ := bP H
      have H' := ah.mk H
      clear H
    rotate_left 2
    all_goals
     obtain ⟨Ao8, co8, eo8⟩ := Kd.bO HO_0.out
     subst eo8
    ·go_wp2_with ((((with_reducible refine dA (f := 163) rfl ?_); refine fC (some 57) rfl rfl Tryz.func163 (by kernel_rfl) rfl #[.slice Ao8 x0_1.length co8, .int .i64 (wrap64 (a2 - x10_1)), .int .i64 a2, .int .i64 x10_1, .func (.func 78) #[] #[]] rfl (by (try simp only [mA_, mC_, mN_]); rfl) ?_; (with_reducible refine (dO.calls k1 (fun k_ => some k_ = (.slice Ao8 x0_1.length co8 : Value).ownBlock) (.slice Ao8 x0_1.length co8) x0_1 (wrap64 (a2 - x10_1)) a2 x10_1 a4 t116 w0 _ ?side1 ?side2 A7.out).mono ?_); (case side1 => repeat ((with_reducible (exact HB.out)))); (case side2 => exact Kd.jh rfl HO_0.out); rintro e w9 ⟨rfl, hy0, hb, hkp⟩; refine ⟨_, rfl, ?_⟩; have n0_ := ah.mk (Kd.jR rfl hy0 (fun k_ e_ => HO_0.out.1 k_ e_)); have n1_ := ah.mk (Kept.then_ (S := (fun k_ => P0_ k_)) HK.out hkp (fun k_ hs_ => (fun e_ => (HO_0.out.1 k_ e_.symm)) hs_)); have n2_ := ah.mk (hb); clear HO_0; clear HK; clear HB; have HO_0 := n0_; have HK := n1_; have HB := n2_; clear n0_ n1_ n2_; (try clear hb); (try clear hkp); (try clear hy0))))
     go_end0
     exact ⟨by rfl, by (with_reducible repeat ((apply Kd.aK))); exact HO_0.out, HB.out, HK.out⟩
    ·go_wp2_with ((((with_reducible refine dA (f := 163) rfl ?_); refine fC (some 31) rfl rfl Tryz.func163 (by kernel_rfl) rfl #[.slice Ao8 x0_1.length co8, .int .i64 (wrap64 (a2 - x10_1)), .int .i64 a2, .int .i64 x11_1, .func (.func 78) #[] #[]] rfl (by (try simp only [mA_, mC_, mN_]); rfl) ?_; (with_reducible refine (dO.calls k1 (fun k_ => some k_ = (.slice Ao8 x0_1.length co8 : Value).ownBlock) (.slice Ao8 x0_1.length co8) x0_1 (wrap64 (a2 - x10_1)) a2 x11_1 a4 t117 w0 _ ?side1 ?side2 A11.out).mono ?_); (case side1 => repeat ((with_reducible (exact HB.out)))); (case side2 => exact Kd.jh rfl HO_0.out); rintro e w13 ⟨rfl, hy0, hb, hkp⟩; refine ⟨_, rfl, ?_⟩; have n0_ := ah.mk (Kd.jR rfl hy0 (fun k_ e_ => HO_0.out.1 k_ e_)); have n1_ := ah.mk (Kept.then_ (S := (fun k_ => P0_ k_)) HK.out hkp (fun k_ hs_ => (fun e_ => (HO_0.out.1 k_ e_.symm)) hs_)); have n2_ := ah.mk (hb); clear HO_0; clear HK; clear HB; have HO_0 := n0_; have HK := n1_; have HB := n2_; clear n0_ n1_ n2_; (try clear hb); (try clear hkp); (try clear hy0))))
     go_roundg k1
     case measure => have := HK1.out; omega
     case rel => exact ⟨(t117), (wrap64 (x10_1 - x11_1)), (x11_1), (by rfl), (by rfl), H', ⟨by have := HK1.out; omega⟩, ⟨by (with_reducible repeat ((apply Kd.aK))); exact HO_0.out⟩, ⟨HK.out⟩, ⟨HB.out⟩⟩
    ·go_wp2_with ((((with_reducible refine dA (f := 163) rfl ?_); refine fC (some 46) rfl rfl Tryz.func163 (by kernel_rfl) rfl #[.slice Ao8 x0_1.length co8, .int .i64 (wrap64 (a2 - x10_1)), .int .i64 (wrap64 ((wrap64 (a2 + x11_1)) - x10_1)), .int .i64 x10_1, .func (.func 78) #[] #[]] rfl (by (try simp only [mA_, mC_, mN_]); rfl) ?_; (with_reducible refine (dO.calls k1 (fun k_ => some k_ = (.slice Ao8 x0_1.length co8 : Value).ownBlock) (.slice Ao8 x0_1.length co8) x0_1 (wrap64 (a2 - x10_1)) (wrap64 ((wrap64 (a2 + x11_1)) - x10_1)) x10_1 a4 t117 w0 _ ?side1 ?side2 A11.out).mono ?_); (case side1 => repeat ((with_reducible (exact HB.out)))); (case side2 => exact Kd.jh rfl HO_0.out); rintro e w16 ⟨rfl, hy0, hb, hkp⟩; refine ⟨_, rfl, ?_⟩; have n0_ := ah.mk (Kd.jR rfl hy0 (fun k_ e_ => HO_0.out.1 k_ e_)); have n1_ := ah.mk (Kept.then_ (S := (fun k_ => P0_ k_)) HK.out hkp (fun k_ hs_ => (fun e_ => (HO_0.out.1 k_ e_.symm)) hs_)); have n2_ := ah.mk (hb); clear HO_0; clear HK; clear HB; have HO_0 := n0_; have HK := n1_; have HB := n2_; clear n0_ n1_ n2_; (try clear hb); (try clear hkp); (try clear hy0))))
     go_roundg k1
     case measure => have := HK1.out; omega
     case rel => exact ⟨(t117), (x10_1), (wrap64 (x11_1 - x10_1)), (by rfl), (by rfl), H', ⟨by have := HK1.out; omega⟩, ⟨by (with_reducible repeat ((apply Kd.aK))); exact HO_0.out⟩, ⟨HK.out⟩, ⟨HB.out⟩⟩
end Go.Y.PSo
namespace Go.Y.PSo
open Go.RowKit Go.V.aC Go.V.aV Go.V.aX Go.Y.Given Go.Y.PRd Go.Y.PRr
attribute [local go_sem] dP dQ eu eB dD dF dR dS   -- for this text's walks alone
mutual
def au.l0 : Nat → List (S44) → Int → Int → Int → Option ((List (S44)))
 | 0, _, _, _, _ => none
 | k + 1, x0, x1, x10, x11 => if x10 < x11 then (if 0 ≤ (wrap64 ((IntKind.u64.wrap (wrap64 (x10 + x11))) / 2)) then (if (wrap64 ((IntKind.u64.wrap (wrap64 (x10 + x11))) / 2)) < (x0.length : Int) then (if 0 ≤ x1 then (if x1 < (x0.length : Int) then ((dI.f k ((aj x0 (wrap64 ((IntKind.u64.wrap (wrap64 (x10 + x11))) / 2))).f0) ((aj x0 (wrap64 ((IntKind.u64.wrap (wrap64 (x10 + x11))) / 2))).f1) ((aj x0 (wrap64 ((IntKind.u64.wrap (wrap64 (x10 + x11))) / 2))).f2) ((aj x0 (wrap64 ((IntKind.u64.wrap (wrap64 (x10 + x11))) / 2))).f3) ((aj x0 (wrap64 ((IntKind.u64.wrap (wrap64 (x10 + x11))) / 2))).f4) ((aj x0 x1).f0) ((aj x0 x1).f1) ((aj x0 x1).f2) ((aj x0 x1).f3) ((aj x0 x1).f4)).bind fun t121 => (if t121 < 0 then (au.l0 k x0 x1 (wrap64 ((wrap64 ((IntKind.u64.wrap (wrap64 (x10 + x11))) / 2)) + 1)) x11) else (au.l0 k x0 x1 x10 (wrap64 ((IntKind.u64.wrap (wrap64 (x10 + x11))) / 2))))) else (none)) else (none)) else (none)) else (none)) else (au.l1 k x0 x10 x1)
def au.l1 : Nat → List (S44) → Int → Int → Option ((List (S44)))
 | 0, _, _, _ => none
 | k + 1, x0, x10, x13 => if x13 < (wrap64 (x10 - 1)) then (if 0 ≤ (wrap64 (x13 + 1)) then (if (wrap64 (x13 + 1)) < (x0.length : Int) then (if 0 ≤ x13 then (if x13 < (x0.length : Int) then (au.l1 k ((x0.set (x13 : Int).toNat (⟨(aj x0 (wrap64 (x13 + 1))).f0, (aj x0 (wrap64 (x13 + 1))).f1, (aj x0 (wrap64 (x13 + 1))).f2, (aj x0 (wrap64 (x13 + 1))).f3, (aj x0 (wrap64 (x13 + 1))).f4⟩ : S44)).set ((wrap64 (x13 + 1)) : Int).toNat (⟨(aj x0 x13).f0, (aj x0 x13).f1, (aj x0 x13).f2, (aj x0 x13).f3, (aj x0 x13).f4⟩ : S44)) x10 (wrap64 (x13 + 1))) else (none)) else (none)) else (none)) else (none)) else (some x0)
def au.l2 : Nat → List (S44) → Int → Int → Int → Option ((List (S44)))
 | 0, _, _, _, _ => none
 | k + 1, x0, x2, x14, x15 => if x14 < x15 then (if 0 ≤ x2 then (if x2 < (x0.length : Int) then (if 0 ≤ (wrap64 ((IntKind.u64.wrap (wrap64 (x14 + x15))) / 2)) then (if (wrap64 ((IntKind.u64.wrap (wrap64 (x14 + x15))) / 2)) < (x0.length : Int) then ((dI.f k ((aj x0 x2).f0) ((aj x0 x2).f1) ((aj x0 x2).f2) ((aj x0 x2).f3) ((aj x0 x2).f4) ((aj x0 (wrap64 ((IntKind.u64.wrap (wrap64 (x14 + x15))) / 2))).f0) ((aj x0 (wrap64 ((IntKind.u64.wrap (wrap64 (x14 + x15))) / 2))).f1) ((aj x0 (wrap64 ((IntKind.u64.wrap (wrap64 (x14 + x15))) / 2))).f2) ((aj x0 (wrap64 ((IntKind.u64.wrap (wrap64 (x14 + x15))) / 2))).f3) ((aj x0 (wrap64 ((IntKind.u64.wrap (wrap64 (x14 + x15))) / 2))).f4)).bind fun t128 => (if t128 < 0 then (au.l2 k x0 x2 x14 (wrap64 ((IntKind.u64.wrap (wrap64 (x14 + x15))) / 2))) else (au.l2 k x0 x2 (wrap64 ((wrap64 ((IntKind.u64.wrap (wrap64 (x14 + x15))) / 2)) + 1)) x15))) else (none)) else (none)) else (none)) else (none)) else (au.l3 k x0 x14 x2)
def au.l3 : Nat → List (S44) → Int → Int → Option ((List (S44)))
 | 0, _, _, _ => none
 | k + 1, x0, x14, x17 => if x17 > x14 then (if 0 ≤ (wrap64 (x17 - 1)) then (if (wrap64 (x17 - 1)) < (x0.length : Int) then (if 0 ≤ x17 then (if x17 < (x0.length : Int) then (au.l3 k ((x0.set (x17 : Int).toNat (⟨(aj x0 (wrap64 (x17 - 1))).f0, (aj x0 (wrap64 (x17 - 1))).f1, (aj x0 (wrap64 (x17 - 1))).f2, (aj x0 (wrap64 (x17 - 1))).f3, (aj x0 (wrap64 (x17 - 1))).f4⟩ : S44)).set ((wrap64 (x17 - 1)) : Int).toNat (⟨(aj x0 x17).f0, (aj x0 x17).f1, (aj x0 x17).f2, (aj x0 x17).f3, (aj x0 x17).f4⟩ : S44)) x14 (wrap64 (x17 - 1))) else (none)) else (none)) else (none)) else (none)) else (some x0)
def au.j4 : Nat → List (S44) → Int → Int → Int → Int → Int → Int → Int → Int → Option ((List (S44)))
 | 0, _, _, _, _, _, _, _, _, _ => none
 | k + 1, x0, x1, x2, x3, x4, x18, x19, x20, x21 => au.l4 k x0 x1 x2 x3 x4 x18 x19 x20 x21 (wrap64 (x19 - 1))
def au.l4 : Nat → List (S44) → Int → Int → Int → Int → Int → Int → Int → Int → Int → Option ((List (S44)))
 | 0, _, _, _, _, _, _, _, _, _, _ => none
 | k + 1, x0, x1, x2, x3, x4, x18, x19, x20, x21, x22 => if x20 < x21 then (if 0 ≤ (wrap64 (x22 - (wrap64 ((IntKind.u64.wrap (wrap64 (x20 + x21))) / 2)))) then (if (wrap64 (x22 - (wrap64 ((IntKind.u64.wrap (wrap64 (x20 + x21))) / 2)))) < (x0.length : Int) then (if 0 ≤ (wrap64 ((IntKind.u64.wrap (wrap64 (x20 + x21))) / 2)) then (if (wrap64 ((IntKind.u64.wrap (wrap64 (x20 + x21))) / 2)) < (x0.length : Int) then ((dI.f k ((aj x0 (wrap64 (x22 - (wrap64 ((IntKind.u64.wrap (wrap64 (x20 + x21))) / 2))))).f0) ((aj x0 (wrap64 (x22 - (wrap64 ((IntKind.u64.wrap (wrap64 (x20 + x21))) / 2))))).f1) ((aj x0 (wrap64 (x22 - (wrap64 ((IntKind.u64.wrap (wrap64 (x20 + x21))) / 2))))).f2) ((aj x0 (wrap64 (x22 - (wrap64 ((IntKind.u64.wrap (wrap64 (x20 + x21))) / 2))))).f3) ((aj x0 (wrap64 (x22 - (wrap64 ((IntKind.u64.wrap (wrap64 (x20 + x21))) / 2))))).f4) ((aj x0 (wrap64 ((IntKind.u64.wrap (wrap64 (x20 + x21))) / 2))).f0) ((aj x0 (wrap64 ((IntKind.u64.wrap (wrap64 (x20 + x21))) / 2))).f1) ((aj x0 (wrap64 ((IntKind.u64.wrap (wrap64 (x20 + x21))) / 2))).f2) ((aj x0 (wrap64 ((IntKind.u64.wrap (wrap64 (x20 + x21))) / 2))).f3) ((aj x0 (wrap64 ((IntKind.u64.wrap (wrap64 (x20 + x21))) / 2))).f4)).bind fun t135 => (if t135 < 0 then (au.l4 k x0 x1 x2 x3 x4 x18 x19 x20 (wrap64 ((IntKind.u64.wrap (wrap64 (x20 + x21))) / 2)) x22) else (au.l4 k x0 x1 x2 x3 x4 x18 x19 (wrap64 ((wrap64 ((IntKind.u64.wrap (wrap64 (x20 + x21))) / 2)) + 1)) x21 x22))) else (none)) else (none)) else (none)) else (none)) else (if x20 < x2 then (au.j6 k x0 x1 x2 x3 x4 x18 x20 (wrap64 (x19 - x20)) (decide (x2 < (wrap64 (x19 - x20))))) else (au.j6 k x0 x1 x2 x3 x4 x18 x20 (wrap64 (x19 - x20)) false))
def au.j6 : Nat → List (S44) → Int → Int → Int → Int → Int → Int → Int → Bool → Option ((List (S44)))
 | 0, _, _, _, _, _, _, _, _, _ => none
 | k + 1, x0, x1, x2, x3, x4, x18, x20, x24, x185 => if x185 = true then ((fH.f k x0 x20 x2 x24 x4).bind fun t136 => (au.j7 k t136 x1 x3 x4 x18 x20 x24)) else (au.j7 k x0 x1 x3 x4 x18 x20 x24)
def au.j7 : Nat → List (S44) → Int → Int → Int → Int → Int → Int → Option ((List (S44)))
 | 0, _, _, _, _, _, _, _ => none
 | k + 1, x0, x1, x3, x4, x18, x20, x24 => if x1 < x20 then (au.j8 k x0 x1 x3 x4 x18 x20 x24 (decide (x20 < x18))) else (au.j8 k x0 x1 x3 x4 x18 x20 x24 false)
def au.j8 : Nat → List (S44) → Int → Int → Int → Int → Int → Int → Bool → Option ((List (S44)))
 | 0, _, _, _, _, _, _, _, _ => none
 | k + 1, x0, x1, x3, x4, x18, x20, x24, x199 => if x199 = true then ((au.f k x0 x1 x20 x18 x4).bind fun t137 => (if x18 < x24 then (if x24 < x3 then ((au.f k t137 x18 x24 x3 x4).bind fun t138 => (some t138)) else (some t137)) else (some t137))) else (if x18 < x24 then (if x24 < x3 then ((au.f k x0 x18 x24 x3 x4).bind fun t139 => (some t139)) else (some x0)) else (some x0))
def au.f : Nat → List (S44) → Int → Int → Int → Int → Option ((List (S44)))
 | 0, _, _, _, _, _ => none
 | k + 1, l0, a1, a2, a3, a4 => if (wrap64 (a2 - a1)) = 1 then (au.l0 k l0 a1 a2 a3) else (if (wrap64 (a3 - a2)) = 1 then (au.l2 k l0 a2 a1 a2) else (if a2 > (wrap64 ((IntKind.u64.wrap (wrap64 (a1 + a3))) / 2)) then (au.j4 k l0 a1 a2 a3 a4 (wrap64 ((IntKind.u64.wrap (wrap64 (a1 + a3))) / 2)) (wrap64 ((wrap64 ((IntKind.u64.wrap (wrap64 (a1 + a3))) / 2)) + a2)) (wrap64 ((wrap64 ((wrap64 ((IntKind.u64.wrap (wrap64 (a1 + a3))) / 2)) + a2)) - a3)) (wrap64 ((IntKind.u64.wrap (wrap64 (a1 + a3))) / 2))) else (au.j4 k l0 a1 a2 a3 a4 (wrap64 ((IntKind.u64.wrap (wrap64 (a1 + a3))) / 2)) (wrap64 ((wrap64 ((IntKind.u64.wrap (wrap64 (a1 + a3))) / 2)) + a2)) a1 a2)))
end
def au.T5 : Bool × List (List Nat × List Nat) := (true, [([], []), ([], []), ([], []), ([1, 2], [1, 2]), ([3], [3]), ([], []), ([], []), ([5, 6], [5, 6]), ([7], [7]), ([0, 4, 8], [0, 4, 8]), ([9], [9])])
def au.B5 : List Nat := [0, 0, 0, 6, 14, 0, 0, 96, 224, 511, 1023]
theorem au.uf : fK .any (opsOf Tryz.f139 5) = au.T5 := by kernel_rfl
theorem au.qL : fP au.T5.2 au.B5 = true := by kernel_rfl
def au.T11 : Bool × List (List Nat × List Nat) := (true, [([], []), ([], []), ([], []), ([], []), ([3], [3]), ([], []), ([], []), ([6], [6]), ([5, 7], [5, 7]), ([8], [8]), ([], []), ([], []), ([10, 11], [10, 11]), ([12], [12]), ([0, 1, 0, 1, 5, 6, 7, 8, 9, 13], [0, 1]), ([14, 9, 0, 1, 5, 6, 7, 8, 9, 13], [9, 14]), ([2, 4, 0, 1, 2, 3, 4, 5, 6, 7, 8, 9, 10, 11, 12, 13, 14, 15], [2, 4]), ([16, 13, 15, 0, 1, 2, 3, 4, 5, 6, 7, 8, 9, 10, 11, 12, 13, 14, 15], [13, 16])])
def au.B11 : List Nat := [0, 0, 0, 0, 8, 0, 0, 64, 224, 480, 0, 0, 3072, 7168, 16355, 32739, 65535, 131071]
theorem au.Cc : fK .any (opsOf Tryz.f139 11) = au.T11 := by kernel_rfl
theorem au.zk : fP au.T11.2 au.B11 = true := by kernel_rfl
def au.T17 : Bool × List (List Nat × List Nat) := (true, [([], []), ([], []), ([], []), ([1, 2], [1, 2]), ([3], [3]), ([], []), ([], []), ([5, 6], [5, 6]), ([7], [7]), ([0, 4, 8], [0, 4, 8]), ([9], [9]), ([10], [10])])
def au.B17 : List Nat := [0, 0, 0, 6, 14, 0, 0, 96, 224, 511, 1023, 2047]
theorem au.JD : fK .any (opsOf Tryz.f139 17) = au.T17 := by kernel_rfl
theorem au.Iw : fP au.T17.2 au.B17 = true := by kernel_rfl
def au.T23 : Bool × List (List Nat × List Nat) := (true, [([], []), ([], []), ([], []), ([], []), ([3], [3]), ([], []), ([], []), ([6], [6]), ([5, 7], [5, 7]), ([8], [8]), ([], []), ([], []), ([10, 11], [10, 11]), ([12], [12]), ([0, 1, 0, 1, 5, 6, 7, 8, 9, 13], [0, 1]), ([14, 9, 0, 1, 5, 6, 7, 8, 9, 13], [9, 14]), ([2, 4, 0, 1, 2, 3, 4, 5, 6, 7, 8, 9, 10, 11, 12, 13, 14, 15], [2, 4]), ([16, 13, 15, 0, 1, 2, 3, 4, 5, 6, 7, 8, 9, 10, 11, 12, 13, 14, 15], [13, 16])])
def au.B23 : List Nat := [0, 0, 0, 0, 8, 0, 0, 64, 224, 480, 0, 0, 3072, 7168, 16355, 32739, 65535, 131071]
theorem au.JE : fK .any (opsOf Tryz.f139 23) = au.T23 := by kernel_rfl
theorem au.IJ : fP au.T23.2 au.B23 = true := by kernel_rfl
def au.T35 : Bool × List (List Nat × List Nat) := (true, [([], []), ([], []), ([], []), ([], []), ([2, 3], [2, 3]), ([1, 4], [1, 4]), ([5], [5]), ([], []), ([], []), ([7, 8], [7, 8]), ([9], [9]), ([0, 6, 10], [0, 6, 10]), ([11], [11]), ([12], [12])])
def au.B35 : List Nat := [0, 0, 0, 0, 12, 30, 62, 0, 0, 384, 896, 2047, 4095, 8191]
theorem au.JA : fK .any (opsOf Tryz.f139 35) = au.T35 := by kernel_rfl
theorem au.Jd : fP au.T35.2 au.B35 = true := by kernel_rfl
theorem au.calls (k : Nat) : ∀ (P0_ : Nat → Prop) (u9000_ : Value) (l0 : List (S44)) (a1 : Int) (a2 : Int) (a3 : Int) (a4 : Int) (r : List (S44)) (w0 w : World) (hB : Below w0.heap.size w0 w) (ho0 : Kd.R k44 44 w w0.heap.size P0_ u9000_ l0) (h : au.f k l0 a1 a2 a3 a4 = some r),
    Calls Tryz.prog 139 #[u9000_, .int .i64 a1, .int .i64 a2, .int .i64 a3, .func (.func 78) #[] #[]] w fun e w' => e = .returned (.tuple #[]) ∧ Kd.R k44 44 w' w0.heap.size (fun k_ => (P0_ k_ ∨ w.heap.size ≤ k_)) u9000_ r ∧ Below w0.heap.size w0 w' ∧ Kept w w' (fun k_ => P0_ k_) := by
  induction k using Nat.strongRecOn with
  | _ k ih =>
  intro P0_ u9000_ l0 a1 a2 a3 a4 r w0 w hB ho0 h
  cases k with
  | zero => exact absurd h (by simp [au.f])
  | succ k =>
  simp only [au.f] at h
  have hu44 := Tryz.underlying44
  have HO0 := ah.mk (show Kd.R k44 44 w w0.heap.size (fun k_ => (P0_ k_ ∨ w.heap.size ≤ k_)) u9000_ l0 from Kd.dH ho0 (fun k_ hk => (.inl hk)))
  have HK := ah.mk (Kept.refl w (fun k_ => P0_ k_))
  have HW0 := ah.mk hB.size
  have HB := ah.mk hB
  clear hB
  have H : (if (wrap64 (a2 - a1)) = 1 then (au.l0 k l0 a1 a2 a3) else (if (wrap64 (a3 - a2)) = 1 then (au.l2 k l0 a2 a1 a2) else (if a2 > (wrap64 ((IntKind.u64.wrap (wrap64 (a1 + a3))) / 2)) then (au.j4 k l0 a1 a2 a3 a4 (wrap64 ((IntKind.u64.wrap (wrap64 (a1 + a3))) / 2)) (wrap64 ((wrap64 ((IntKind.u64.wrap (wrap64 (a1 + a3))) / 2)) + a2)) (wrap64 ((wrap64 ((wrap64 ((IntKind.u64.wrap (wrap64 (a1 + a3))) / 2)) + a2)) - a3)) (wrap64 ((IntKind.u64.wrap (wrap64 (a1 + a3))) / 2))) else (au.j4 k l0 a1 a2 a3 a4 (wrap64 ((IntKind.u64.wrap (wrap64 (a1 + a3))) / 2)) (wrap64 ((wrap64 ((IntKind.u64.wrap (wrap64 (a1 + a3))) / 2)) + a2)) a1 a2)))) = some r := h
  clear h
  by_cases c6 : (wrap64 (a2 - a1)) = 1
  ·rw [if_pos c6] at H
   have c6b0 : ((wrap64 (a2 - a1)) == 1) = true := beq_iff_eq.mpr c6
   have c6b1 : ((wrap64 (a2 - a1)) != 1) = false := bne_eq_false_iff_eq.mpr c6
   clear c6
   have H' := ah.mk H
   clear H
   go_enter Tryz.func139, Tryz.ntmps139
   go_wp2
   go_loopg [10, 11] k (fun kq v10 v11 w' => ∃ (x10_1 : Int) (x11_1 : Int), v10 = .int .i64 x10_1 ∧ v11 = .int .i64 x11_1 ∧ ah (au.l0 kq l0 a1 x10_1 x11_1 = some r) ∧ ah (kq ≤ k) ∧ ah (Kd.R k44 44 w' w0.heap.size (fun k_ => (P0_ k_ ∨ w.heap.size ≤ k_)) u9000_ l0) ∧ ah (Kept w w' (fun k_ => P0_ k_)) ∧ ah (Below w0.heap.size w0 w'))
   case atStart => exact ⟨(a2), (a3), (by rfl), (by rfl), H', ⟨Nat.le_refl _⟩, ⟨by (with_reducible repeat ((apply Kd.aK))); exact HO0.out⟩, ⟨HK.out⟩, ⟨HB.out⟩⟩
   case round =>
    clear H'
    (try clear c6b0)
    (try clear c6b1)
    obtain ⟨x10_1, x11_1, rfl, rfl, HA, HK1, HO_0, HK, HB⟩ := hrel
    cases gk with
    | zero => exact absurd HA.out (by simp [au.l0])
    | succ k1 =>
     have H := HA.out
     clear HA
     simp only [au.l0] at H
     by_cases c7 : x10_1 < x11_1
     ·rw [if_pos c7] at H
      have c7b0 : decide (x10_1 < x11_1) = true := decide_eq_true c7
      clear c7
      obtain ⟨ji8, hji8⟩ : ∃ j_ : Int, (wrap64 ((IntKind.u64.wrap (wrap64 (x10_1 + x11_1))) / 2)) = j_ := ⟨_, rfl⟩
      rw [hji8] at H
      have hji8w : (IntKind.i64.wrap ((IntKind.u64.wrap (wrap64 (x10_1 + x11_1))) / 2)) = ji8 := (bA _).trans hji8
      obtain ⟨c9b0, H⟩ := dU H
      obtain ⟨c10b0, H⟩ := dU H
      obtain ⟨c11b0, H⟩ := dU H
      obtain ⟨c12b0, H⟩ := dU H
      obtain ⟨t121, A13, H⟩ := bP H
      by_cases c14 : t121 < 0
      focus
       rw [if_pos c14] at H
       have c14b0 : decide (t121 < 0) = true := decide_eq_true c14
      rotate_left
      focus
       rw [if_neg c14] at H
       have c14b0 : decide (t121 < 0) = false := decide_eq_false c14
      rotate_left
      all_goals
       clear c14
       have H' := ah.mk H
       clear H
       (try go_wp2)
       replace HO_0 := ah.mk (Kd.fU HO_0.out)
       replace HK := ah.mk (Kept.drew HK.out)
       replace HB := ah.mk (dx HB.out)
       obtain ⟨Ao16, co16, eo16⟩ := Kd.bO HO_0.out
       ((subst eo16))
       have p119 : 0 ≤ ((ji8) : Int) := of_decide_eq_true (by (with_reducible assumption))
       have q119 : (ji8) < (l0.length : Int) := of_decide_eq_true (by (with_reducible assumption))
       obtain ⟨ad119, e119, hx119_0, hx119_1, hx119_2, hx119_3, hx119_4⟩ := dM (Kd.aN HO_0.out).2.2 (ji8) p119 q119
       cases e119
       replace p119 := eq_true p119
       replace q119 := eq_true q119
       have p120 : 0 ≤ (a1 : Int) := of_decide_eq_true (by (with_reducible assumption))
       have q120 : a1 < (l0.length : Int) := of_decide_eq_true (by (with_reducible assumption))
       obtain ⟨ad120, e120, hx120_0, hx120_1, hx120_2, hx120_3, hx120_4⟩ := dM (Kd.aN HO_0.out).2.2 a1 p120 q120
       obtain rfl : ad119 = ad120 := (by injection e120)
       replace p120 := eq_true p120
       replace q120 := eq_true q120
       refine gG (n := 11) (S := fun w' => w'.cell? (ad119.add (((ji8)).toNat * 5)) = some (.string ((aj l0 (ji8)).f0)) ∧ w'.cell? ⟨(ad119.add (((ji8)).toNat * 5)).block, (ad119.add (((ji8)).toNat * 5)).off + 1, none⟩ = some (.int .i64 ((aj l0 (ji8)).f1)) ∧ w'.cell? ⟨(ad119.add (((ji8)).toNat * 5)).block, (ad119.add (((ji8)).toNat * 5)).off + 2, none⟩ = some (.int .i64 ((aj l0 (ji8)).f2)) ∧ w'.cell? ⟨(ad119.add (((ji8)).toNat * 5)).block, (ad119.add (((ji8)).toNat * 5)).off + 3, none⟩ = some (.int .i64 ((aj l0 (ji8)).f3)) ∧ w'.cell? ⟨(ad119.add (((ji8)).toNat * 5)).block, (ad119.add (((ji8)).toNat * 5)).off + 4, none⟩ = some (.string ((aj l0 (ji8)).f4)) ∧ w'.cell? (ad119.add ((a1).toNat * 5)) = some (.string ((aj l0 a1).f0)) ∧ w'.cell? ⟨(ad119.add ((a1).toNat * 5)).block, (ad119.add ((a1).toNat * 5)).off + 1, none⟩ = some (.int .i64 ((aj l0 a1).f1)) ∧ w'.cell? ⟨(ad119.add ((a1).toNat * 5)).block, (ad119.add ((a1).toNat * 5)).off + 2, none⟩ = some (.int .i64 ((aj l0 a1).f2)) ∧ w'.cell? ⟨(ad119.add ((a1).toNat * 5)).block, (ad119.add ((a1).toNat * 5)).off + 3, none⟩ = some (.int .i64 ((aj l0 a1).f3)) ∧ w'.cell? ⟨(ad119.add ((a1).toNat * 5)).block, (ad119.add ((a1).toNat * 5)).off + 4, none⟩ = some (.string ((aj l0 a1).f4))) (ds := []) (ls 11 0) (by kernel_rfl) rfl rfl ⟨hx119_0, hx119_1, hx119_2, hx119_3, hx119_4, hx120_0, hx120_1, hx120_2, hx120_3, hx120_4⟩ (fun hHeld => ?_); refine eX au.uf au.qL (fun HT_ HW_ => ?_)
       generalize wr.drew = w15 at HO_0 HK HB hx119_0 hx119_1 hx119_2 hx119_3 hx119_4 hx120_0 hx120_1 hx120_2 hx120_3 hx120_4 hHeld ⊢
       refine td_ [(0, 40), (1, 41), (2, 42), (3, 43), (5, 45), (6, 46), (7, 47)] ?_
       iterate 7 (refine pn_ (v := ?_) (a' := ?_) HT_ rfl rfl (by kernel_rfl) rfl (fun _ _ _ h => h) (fun w' => ?_) ?_ ?_; rotate_left 2; (focus go_simp; with_reducible rfl); (focus simp only [Act.put, sA_, sZ_, sS_, bA, bS]; rfl))
       refine dn_ ?_
       refine td_ [(4, 44), (8, 48)] ?_
       iterate 2 (refine tn_ (v := ?_) (a' := ?_) HT_ HW_ rfl rfl (by kernel_rfl) rfl (fun _ _ _ h => h) hHeld ?_ ?_ ?_; rotate_left 2; (focus rintro w' ⟨s0, s1, s2, s3, s4, s5, s6, s7, s8, s9⟩; go_simp; with_reducible rfl); (focus simp only [Act.put, sA_, sZ_, sS_, bA, bS]; rfl))
       refine dn_ ?_
       refine lY (i := 9) (N := some 49) (ls 11 1023) rfl rfl (iK HT_.out (by kernel_rfl)) (by decide) (fun K hK => ?_)
       refine vB Tryz.func78 (by kernel_rfl) rfl #[.agg #[.string ((aj l0 (ji8)).f0), .int .i64 ((aj l0 (ji8)).f1), .int .i64 ((aj l0 (ji8)).f2), .int .i64 ((aj l0 (ji8)).f3), .string ((aj l0 (ji8)).f4)], .agg #[.string ((aj l0 a1).f0), .int .i64 ((aj l0 a1).f1), .int .i64 ((aj l0 a1).f2), .int .i64 ((aj l0 a1).f3), .string ((aj l0 a1).f4)]] (by rfl) rfl rfl rfl (by (try simp only [mA_, mC_, mN_]); rfl) ?_
       with_reducible refine (dI.calls k1 ((aj l0 (ji8)).f0) ((aj l0 (ji8)).f1) ((aj l0 (ji8)).f2) ((aj l0 (ji8)).f3) ((aj l0 (ji8)).f4) ((aj l0 a1).f0) ((aj l0 a1).f1) ((aj l0 a1).f2) ((aj l0 a1).f3) ((aj l0 a1).f4) t121 _ A13.out).mono ?_
       rintro e w17 ⟨rfl, hb⟩
       have HS0_ := kp_ hb hHeld.1
       have HS1_ := kp_ hb hHeld.2.1
       have HS2_ := kp_ hb hHeld.2.2.1
       have HS3_ := kp_ hb hHeld.2.2.2.1
       have HS4_ := kp_ hb hHeld.2.2.2.2.1
       have HS5_ := kp_ hb hHeld.2.2.2.2.2.1
       have HS6_ := kp_ hb hHeld.2.2.2.2.2.2.1
       have HS7_ := kp_ hb hHeld.2.2.2.2.2.2.2.1
       have HS8_ := kp_ hb hHeld.2.2.2.2.2.2.2.2.1
       have HS9_ := kp_ hb hHeld.2.2.2.2.2.2.2.2.2
       refine ⟨_, rfl, ?_⟩
       replace HO_0 := ah.mk (Kd.bI (by ((exact HO_0.out))) hb)
       replace HK := ah.mk (Kept.below (S := (fun k_ => P0_ k_)) HK.out hb)
       replace HB := ah.mk (ak HB.out hb)
       (try clear hb)
       refine hK.out _ _ ⟨HS0_, HS1_, HS2_, HS3_, HS4_, HS5_, HS6_, HS7_, HS8_, HS9_⟩ (fun hHeld => ?_)
       clear hK K
       refine jE (a' := ?_) ?_ ?_
       rotate_left
       ·show Act.put _ (some 49) _ = _
        simp only [Act.put, sA_, sZ_, sS_, bA, bS]
        rfl
       refine td_ [(10, 50)] ?_
       iterate 1 (refine pn_ (v := ?_) (a' := ?_) HT_ rfl rfl (by kernel_rfl) rfl (fun _ _ _ h => h) (fun w' => ?_) ?_ ?_; rotate_left 2; (focus go_simp; with_reducible rfl); (focus simp only [Act.put, sA_, sZ_, sS_, bA, bS]; rfl))
       refine dn_ ?_
       refine jJ (iZ HT_.out (by kernel_rfl)) ?_
       (try go_wp2)
       go_roundg k1
       case measure => have := HK1.out; omega
      ·case rel => exact ⟨(wrap64 ((ji8) + 1)), (x11_1), (by rfl), (by rfl), H', ⟨by have := HK1.out; omega⟩, ⟨by (with_reducible repeat ((apply Kd.aK))); exact HO_0.out⟩, ⟨HK.out⟩, ⟨HB.out⟩⟩
      ·case rel => exact ⟨(x10_1), (ji8), (by rfl), (by rfl), H', ⟨by have := HK1.out; omega⟩, ⟨by (with_reducible repeat ((apply Kd.aK))); exact HO_0.out⟩, ⟨HK.out⟩, ⟨HB.out⟩⟩
     ·rw [if_neg c7] at H
      have c7b0 : decide (x10_1 < x11_1) = false := decide_eq_false c7
      clear c7
      have H' := ah.mk H
      clear H
      go_wp2
      go_loopg [13] k1 (fun kq v13 w' => ∃ (x0_2 : List (S44)) (x13_2 : Int), v13 = .int .i64 x13_2 ∧ ah (au.l1 kq x0_2 x10_1 x13_2 = some r) ∧ ah (kq ≤ k1) ∧ ah (Kd.R k44 44 w' w0.heap.size (fun k_ => (P0_ k_ ∨ w.heap.size ≤ k_)) u9000_ x0_2) ∧ ah (Kept w w' (fun k_ => P0_ k_)) ∧ ah (Below w0.heap.size w0 w'))
      case atStart => exact ⟨(l0), (a1), (by rfl), H', ⟨Nat.le_refl _⟩, ⟨by (with_reducible repeat ((apply Kd.aK))); exact HO_0.out⟩, ⟨HK.out⟩, ⟨HB.out⟩⟩
      case round =>
       clear H'
       (try clear c7b0)
       obtain ⟨x0_2, x13_2, rfl, HA, HK2, HO_0, HK, HB⟩ := hrel
       cases gk with
       | zero => exact absurd HA.out (by simp [au.l1])
       | succ k2 =>
        have H := HA.out
        clear HA
        simp only [au.l1] at H
        by_cases c21 : x13_2 < (wrap64 (x10_1 - 1))
        ·rw [if_pos c21] at H
         have c21b0 : decide (x13_2 < (wrap64 (x10_1 - 1))) = true := decide_eq_true c21
         clear c21
         obtain ⟨ji22, hji22⟩ : ∃ j_ : Int, (wrap64 (x13_2 + 1)) = j_ := ⟨_, rfl⟩
         rw [hji22] at H
         have hji22w : (IntKind.i64.wrap (x13_2 + 1)) = ji22 := (bA _).trans hji22
         obtain ⟨c23b0, H⟩ := dU H
         obtain ⟨c24b0, H⟩ := dU H
         obtain ⟨c25b0, H⟩ := dU H
         obtain ⟨c26b0, H⟩ := dU H
         obtain ⟨y124, hy124⟩ : ∃ y_ : List (S44), y_ = (x0_2.set (x13_2 : Int).toNat (⟨(aj x0_2 (ji22)).f0, (aj x0_2 (ji22)).f1, (aj x0_2 (ji22)).f2, (aj x0_2 (ji22)).f3, (aj x0_2 (ji22)).f4⟩ : S44)) := ⟨_, rfl⟩
         replace H : (au.l1 k2 (y124.set ((ji22) : Int).toNat (⟨(aj x0_2 x13_2).f0, (aj x0_2 x13_2).f1, (aj x0_2 x13_2).f2, (aj x0_2 x13_2).f3, (aj x0_2 x13_2).f4⟩ : S44)) x10_1 ji22) = some r := by (rw [hy124]; with_reducible exact H)
         have Ny124 := ah.mk hy124
         clear hy124
         obtain ⟨y125, hy125⟩ : ∃ y_ : List (S44), y_ = (y124.set ((ji22) : Int).toNat (⟨(aj x0_2 x13_2).f0, (aj x0_2 x13_2).f1, (aj x0_2 x13_2).f2, (aj x0_2 x13_2).f3, (aj x0_2 x13_2).f4⟩ : S44)) := ⟨_, rfl⟩
         replace H : (au.l1 k2 y125 x10_1 ji22) = some r := by (rw [hy125]; with_reducible exact H)
         have Ny125 := ah.mk hy125
         clear hy125
         have H' := ah.mk H
         clear H
         (try go_wp2)
         replace HO_0 := ah.mk (Kd.fU HO_0.out)
         replace HK := ah.mk (Kept.drew HK.out)
         replace HB := ah.mk (dx HB.out)
         obtain ⟨Ao30, co30, eo30⟩ := Kd.bO HO_0.out
         ((subst eo30))
         have p122 : 0 ≤ ((ji22) : Int) := of_decide_eq_true (by (with_reducible assumption))
         have q122 : (ji22) < (x0_2.length : Int) := of_decide_eq_true (by (with_reducible assumption))
         obtain ⟨ad122, e122, hx122_0, hx122_1, hx122_2, hx122_3, hx122_4⟩ := dM (Kd.aN HO_0.out).2.2 (ji22) p122 q122
         cases e122
         replace p122 := eq_true p122
         replace q122 := eq_true q122
         have p123 : 0 ≤ (x13_2 : Int) := of_decide_eq_true (by (with_reducible assumption))
         have q123 : x13_2 < (x0_2.length : Int) := of_decide_eq_true (by (with_reducible assumption))
         obtain ⟨ad123, e123, hx123_0, hx123_1, hx123_2, hx123_3, hx123_4⟩ := dM (Kd.aN HO_0.out).2.2 x13_2 p123 q123
         obtain rfl : ad122 = ad123 := (by injection e123)
         replace p123 := eq_true p123
         replace q123 := eq_true q123
         have p27 : 0 ≤ (x13_2 : Int) := of_decide_eq_true (by (with_reducible assumption))
         have q27 : (x13_2 : Int) < ((x0_2.length : Int) : Int) := of_decide_eq_true (by (with_reducible assumption))
         obtain ⟨go27, co27, eo27, gb27, gl27, cl27, HG27⟩ := Kd.qg HO_0.out (by omega)
         ((cases eo27))
         have GB27 := ah.mk gb27
         have GG27 := ah.mk HG27
         clear gb27 gl27 HG27
         have HMgo27 := ah.mk (show (P0_ go27 ∨ w.heap.size ≤ go27) from (HO_0.out.1 _ rfl))
         ((simp only [add_plain] at hx122_0))
         ((simp only [add_plain] at hx122_1))
         ((simp only [add_plain] at hx122_2))
         ((simp only [add_plain] at hx122_3))
         ((simp only [add_plain] at hx122_4))
         ((simp only [add_plain] at hx123_0))
         ((simp only [add_plain] at hx123_1))
         ((simp only [add_plain] at hx123_2))
         ((simp only [add_plain] at hx123_3))
         ((simp only [add_plain] at hx123_4))
         obtain ⟨ce27, hcl27, hM27, hcc27, hfr27⟩ := Kd.jf HO_0.out z44 (x13_2 : Int) p27 q27
         obtain rfl := fV hM27
         have hx27_0 : World.cell? _ ⟨go27, (x13_2 : Int).toNat * 5, none⟩ = some (.string ((aj x0_2 x13_2).f0)) := hcc27 0 _ rfl
         have hx27_1 : World.cell? _ ⟨go27, (x13_2 : Int).toNat * 5 + 1, none⟩ = some (.int .i64 ((aj x0_2 x13_2).f1)) := hcc27 1 _ rfl
         have hx27_2 : World.cell? _ ⟨go27, (x13_2 : Int).toNat * 5 + 2, none⟩ = some (.int .i64 ((aj x0_2 x13_2).f2)) := hcc27 2 _ rfl
         have hx27_3 : World.cell? _ ⟨go27, (x13_2 : Int).toNat * 5 + 3, none⟩ = some (.int .i64 ((aj x0_2 x13_2).f3)) := hcc27 3 _ rfl
         have hx27_4 : World.cell? _ ⟨go27, (x13_2 : Int).toNat * 5 + 4, none⟩ = some (.string ((aj x0_2 x13_2).f4)) := hcc27 4 _ rfl
         have hf27_0 : World.frozen? _ ⟨go27, (x13_2 : Int).toNat * 5, none⟩ = false := hfr27 0
         have hf27_1 : World.frozen? _ ⟨go27, (x13_2 : Int).toNat * 5 + 1, none⟩ = false := hfr27 1
         have hf27_2 : World.frozen? _ ⟨go27, (x13_2 : Int).toNat * 5 + 2, none⟩ = false := hfr27 2
         have hf27_3 : World.frozen? _ ⟨go27, (x13_2 : Int).toNat * 5 + 3, none⟩ = false := hfr27 3
         have hf27_4 : World.frozen? _ ⟨go27, (x13_2 : Int).toNat * 5 + 4, none⟩ = false := hfr27 4
         clear hcl27 hcc27 hfr27 hM27
         replace p27 := eq_true p27
         replace q27 := eq_true q27
         obtain ⟨ce31, hcl31, hM31, hcc31, hfr31⟩ := Kd.jf HO_0.out z44 (x13_2 : Int) (of_decide_eq_true (by (with_reducible assumption))) (by have h_ : (x13_2 : Int) < ((x0_2.length : Int) : Int) := of_decide_eq_true (by (with_reducible assumption)); (exact h_))
         obtain rfl := fV hM31
         have HP31 := (Kd.nQ HO_0.out (x13_2 : Int) (of_decide_eq_true (by (with_reducible assumption))) (by have h_ : (x13_2 : Int) < ((x0_2.length : Int) : Int) := of_decide_eq_true (by (with_reducible assumption)); (exact h_)) (seg := [.string ((aj x0_2 (ji22)).f0), .int .i64 ((aj x0_2 (ji22)).f1), .int .i64 ((aj x0_2 (ji22)).f2), .int .i64 ((aj x0_2 (ji22)).f3), .string ((aj x0_2 (ji22)).f4)]) (j := 0) hcl31 hcc31 (show 5 ≤ 5 from by decide) (x' := (⟨(aj x0_2 (ji22)).f0, (aj x0_2 (ji22)).f1, (aj x0_2 (ji22)).f2, (aj x0_2 (ji22)).f3, (aj x0_2 (ji22)).f4⟩ : S44)) (iy _ _ _ (⟨(aj x0_2 (ji22)).f0, (aj x0_2 (ji22)).f1, (aj x0_2 (ji22)).f2, (aj x0_2 (ji22)).f3, (aj x0_2 (ji22)).f4⟩ : S44) ) (fun _ hk => hk)).1
         rw [← Ny124.out] at HP31
         have HQ31 := ah.mk HP31
         clear hcl31 hcc31 hfr31 hM31 HP31
         have p28 : 0 ≤ ((ji22) : Int) := of_decide_eq_true (by (with_reducible assumption))
         have q28 : ((ji22) : Int) < ((x0_2.length : Int) : Int) := of_decide_eq_true (by (with_reducible assumption))
         obtain ⟨ce28, hcl28, hM28, hcc28, hfr28⟩ := Kd.jf HQ31.out z44 ((ji22) : Int) p28 q28
         obtain rfl := fV hM28
         have hx28_0 : World.cell? _ ⟨go27, ((ji22) : Int).toNat * 5, none⟩ = some (.string ((aj y124 (ji22)).f0)) := hcc28 0 _ rfl
         have hx28_1 : World.cell? _ ⟨go27, ((ji22) : Int).toNat * 5 + 1, none⟩ = some (.int .i64 ((aj y124 (ji22)).f1)) := hcc28 1 _ rfl
         have hx28_2 : World.cell? _ ⟨go27, ((ji22) : Int).toNat * 5 + 2, none⟩ = some (.int .i64 ((aj y124 (ji22)).f2)) := hcc28 2 _ rfl
         have hx28_3 : World.cell? _ ⟨go27, ((ji22) : Int).toNat * 5 + 3, none⟩ = some (.int .i64 ((aj y124 (ji22)).f3)) := hcc28 3 _ rfl
         have hx28_4 : World.cell? _ ⟨go27, ((ji22) : Int).toNat * 5 + 4, none⟩ = some (.string ((aj y124 (ji22)).f4)) := hcc28 4 _ rfl
         have hf28_0 : World.frozen? _ ⟨go27, ((ji22) : Int).toNat * 5, none⟩ = false := hfr28 0
         have hf28_1 : World.frozen? _ ⟨go27, ((ji22) : Int).toNat * 5 + 1, none⟩ = false := hfr28 1
         have hf28_2 : World.frozen? _ ⟨go27, ((ji22) : Int).toNat * 5 + 2, none⟩ = false := hfr28 2
         have hf28_3 : World.frozen? _ ⟨go27, ((ji22) : Int).toNat * 5 + 3, none⟩ = false := hfr28 3
         have hf28_4 : World.frozen? _ ⟨go27, ((ji22) : Int).toNat * 5 + 4, none⟩ = false := hfr28 4
         clear hcl28 hcc28 hfr28 hM28
         replace p28 := eq_true p28
         replace q28 := eq_true q28
         obtain ⟨ce32, hcl32, hM32, hcc32, hfr32⟩ := Kd.jf HQ31.out z44 ((ji22) : Int) (of_decide_eq_true (by (with_reducible assumption))) (by have h_ : ((ji22) : Int) < ((x0_2.length : Int) : Int) := of_decide_eq_true (by (with_reducible assumption)); (exact h_))
         obtain rfl := fV hM32
         have HP32 := (Kd.nQ HQ31.out ((ji22) : Int) (of_decide_eq_true (by (with_reducible assumption))) (by have h_ : ((ji22) : Int) < ((x0_2.length : Int) : Int) := of_decide_eq_true (by (with_reducible assumption)); (exact h_)) (seg := [.string ((aj x0_2 x13_2).f0), .int .i64 ((aj x0_2 x13_2).f1), .int .i64 ((aj x0_2 x13_2).f2), .int .i64 ((aj x0_2 x13_2).f3), .string ((aj x0_2 x13_2).f4)]) (j := 0) hcl32 hcc32 (show 5 ≤ 5 from by decide) (x' := (⟨(aj x0_2 x13_2).f0, (aj x0_2 x13_2).f1, (aj x0_2 x13_2).f2, (aj x0_2 x13_2).f3, (aj x0_2 x13_2).f4⟩ : S44)) (iy _ _ _ (⟨(aj x0_2 x13_2).f0, (aj x0_2 x13_2).f1, (aj x0_2 x13_2).f2, (aj x0_2 x13_2).f3, (aj x0_2 x13_2).f4⟩ : S44) ) (fun _ hk => hk)).1
         rw [← Ny125.out] at HP32
         have HQ32 := ah.mk HP32
         clear hcl32 hcc32 hfr32 hM32 HP32
         refine gG (n := 18) (S := fun w' => w'.cell? ⟨go27, (((ji22)).toNat * 5), none⟩ = some (.string ((aj x0_2 (ji22)).f0)) ∧ w'.cell? ⟨go27, (((ji22)).toNat * 5) + 1, none⟩ = some (.int .i64 ((aj x0_2 (ji22)).f1)) ∧ w'.cell? ⟨go27, (((ji22)).toNat * 5) + 2, none⟩ = some (.int .i64 ((aj x0_2 (ji22)).f2)) ∧ w'.cell? ⟨go27, (((ji22)).toNat * 5) + 3, none⟩ = some (.int .i64 ((aj x0_2 (ji22)).f3)) ∧ w'.cell? ⟨go27, (((ji22)).toNat * 5) + 4, none⟩ = some (.string ((aj x0_2 (ji22)).f4)) ∧ w'.cell? ⟨go27, ((x13_2).toNat * 5), none⟩ = some (.string ((aj x0_2 x13_2).f0)) ∧ w'.cell? ⟨go27, ((x13_2).toNat * 5) + 1, none⟩ = some (.int .i64 ((aj x0_2 x13_2).f1)) ∧ w'.cell? ⟨go27, ((x13_2).toNat * 5) + 2, none⟩ = some (.int .i64 ((aj x0_2 x13_2).f2)) ∧ w'.cell? ⟨go27, ((x13_2).toNat * 5) + 3, none⟩ = some (.int .i64 ((aj x0_2 x13_2).f3)) ∧ w'.cell? ⟨go27, ((x13_2).toNat * 5) + 4, none⟩ = some (.string ((aj x0_2 x13_2).f4))) (ds := [15, 17]) (ls 18 0) (by kernel_rfl) rfl rfl ⟨hx122_0, hx122_1, hx122_2, hx122_3, hx122_4, hx123_0, hx123_1, hx123_2, hx123_3, hx123_4⟩ (fun hHeld => ?_); refine eX au.Cc au.zk (fun HT_ HW_ => ?_)
         generalize wr.drew = w29 at HO_0 HK HB GG27 HQ31 HQ32 hf27_0 hf27_1 hf27_2 hf27_3 hf27_4 hf28_0 hf28_1 hf28_2 hf28_3 hf28_4 hx122_0 hx122_1 hx122_2 hx122_3 hx122_4 hx123_0 hx123_1 hx123_2 hx123_3 hx123_4 hx27_0 hx27_1 hx27_2 hx27_3 hx27_4 hx28_0 hx28_1 hx28_2 hx28_3 hx28_4 hHeld ⊢
         (try simp [go_sem, World.setCells, (show k44.sz = 5 from rfl)] at hf28_0 hf28_1 hf28_2 hf28_3 hf28_4 hx28_0 hx28_1 hx28_2 hx28_3 hx28_4)
         refine td_ [(0, 61), (1, 62), (2, 63), (3, 64), (4, 65), (5, 66), (6, 67), (7, 68), (8, 69), (10, 71), (11, 72), (12, 73)] ?_
         iterate 12 (refine pn_ (v := ?_) (a' := ?_) HT_ rfl rfl (by kernel_rfl) rfl (fun _ _ _ h => h) (fun w' => ?_) ?_ ?_; rotate_left 2; (focus go_simp; with_reducible rfl); (focus simp only [Act.put, sA_, sZ_, sS_, bA, bS]; rfl))
         refine dn_ ?_
         refine td_ [(9, 70), (13, 74)] ?_
         iterate 2 (refine tn_ (v := ?_) (a' := ?_) HT_ HW_ rfl rfl (by kernel_rfl) rfl (fun _ _ _ h => h) hHeld ?_ ?_ ?_; rotate_left 2; (focus rintro w' ⟨s0, s1, s2, s3, s4, s5, s6, s7, s8, s9⟩; go_simp; with_reducible rfl); (focus simp only [Act.put, sA_, sZ_, sS_, bA, bS]; rfl))
         refine dn_ ?_
         refine td_ [(14, 75)] ?_
         iterate 1 (refine pn_ (v := ?_) (a' := ?_) HT_ rfl rfl (by kernel_rfl) rfl (fun _ _ _ h => h) (fun w' => ?_) ?_ ?_; rotate_left 2; (focus go_simp; with_reducible rfl); (focus simp only [Act.put, sA_, sZ_, sS_, bA, bS]; rfl))
         refine dn_ ?_
         refine lN (i := 15) (N := none) (ls 18 65535) rfl rfl (iK HT_.out (by kernel_rfl)) (by decide) (fun K hK => ?_)
         refine kZ (w1 := ?_) (by rfl) rfl ?_ ?_
         rotate_left
         ·go_simp
          rfl
         refine hK.out _ _ ?_
         clear hK K
         refine td_ [(16, 76)] ?_
         iterate 1 (refine pn_ (v := ?_) (a' := ?_) HT_ rfl rfl (by kernel_rfl) rfl (fun _ _ _ h => h) (fun w' => ?_) ?_ ?_; rotate_left 2; (focus go_simp; with_reducible rfl); (focus simp only [Act.put, sA_, sZ_, sS_, bA, bS]; rfl))
         refine dn_ ?_
         refine lN (i := 17) (N := none) (ls 18 262143) rfl rfl (iK HT_.out (by kernel_rfl)) (by decide) (fun K hK => ?_)
         refine kZ (w1 := ?_) (by rfl) rfl ?_ ?_
         rotate_left
         ·go_simp
          rfl
         refine hK.out _ _ ?_
         clear hK K
         refine jJ (iZ HT_.out (by kernel_rfl)) ?_
         (try go_wp2)
         go_roundg k2
         case measure => have := HK1.out; have := HK2.out; omega
         case rel => exact ⟨(y125), (ji22), (by rfl), H', ⟨by have := HK1.out; have := HK2.out; omega⟩, ⟨by (with_reducible repeat ((apply Kd.aK))); exact HQ32.out⟩, ⟨by repeat ((with_reducible first | exact HK.out | refine Kept.setCell ?_ HMgo27.out _))⟩, ⟨by repeat ((with_reducible first | exact HB.out | refine dN ?_ GB27.out))⟩⟩
        ·rw [if_neg c21] at H
         have c21b0 : decide (x13_2 < (wrap64 (x10_1 - 1))) = false := decide_eq_false c21
         clear c21
         obtain rfl := Option.some.inj H
         go_wp2
         (refine bodyPost_ret (results_none rfl _ _ _) rfl ?_)
         exact ⟨by rfl, by (with_reducible repeat ((apply Kd.aK))); exact HO_0.out, HB.out, HK.out⟩
  ·rw [if_neg c6] at H
   have c6b0 : ((wrap64 (a2 - a1)) == 1) = false := beq_eq_false_iff_ne.mpr c6
   have c6b1 : ((wrap64 (a2 - a1)) != 1) = true := bne_iff_ne.mpr c6
   by_cases c33 : (wrap64 (a3 - a2)) = 1
   ·rw [if_pos c33] at H
    have c33b0 : ((wrap64 (a3 - a2)) == 1) = true := beq_iff_eq.mpr c33
    have c33b1 : ((wrap64 (a3 - a2)) != 1) = false := bne_eq_false_iff_eq.mpr c33
    clear c33
    have H' := ah.mk H
    clear H
    go_enter Tryz.func139, Tryz.ntmps139
    go_wp2
    go_loopg [14, 15] k (fun kq v14 v15 w' => ∃ (x14_1 : Int) (x15_1 : Int), v14 = .int .i64 x14_1 ∧ v15 = .int .i64 x15_1 ∧ ah (au.l2 kq l0 a2 x14_1 x15_1 = some r) ∧ ah (kq ≤ k) ∧ ah (Kd.R k44 44 w' w0.heap.size (fun k_ => (P0_ k_ ∨ w.heap.size ≤ k_)) u9000_ l0) ∧ ah (Kept w w' (fun k_ => P0_ k_)) ∧ ah (Below w0.heap.size w0 w'))
    case atStart => exact ⟨(a1), (a2), (by rfl), (by rfl), H', ⟨Nat.le_refl _⟩, ⟨by (with_reducible repeat ((apply Kd.aK))); exact HO0.out⟩, ⟨HK.out⟩, ⟨HB.out⟩⟩
    case round =>
     clear H'
     (try clear c6)
     (try clear c6b0)
     (try clear c6b1)
     (try clear c33b0)
     (try clear c33b1)
     obtain ⟨x14_1, x15_1, rfl, rfl, HA, HK1, HO_0, HK, HB⟩ := hrel
     cases gk with
     | zero => exact absurd HA.out (by simp [au.l2])
     | succ k1 =>
      have H := HA.out
      clear HA
      simp only [au.l2] at H
      by_cases c34 : x14_1 < x15_1
      ·rw [if_pos c34] at H
       have c34b0 : decide (x14_1 < x15_1) = true := decide_eq_true c34
       clear c34
       obtain ⟨c35b0, H⟩ := dU H
       obtain ⟨c36b0, H⟩ := dU H
       obtain ⟨ji37, hji37⟩ : ∃ j_ : Int, (wrap64 ((IntKind.u64.wrap (wrap64 (x14_1 + x15_1))) / 2)) = j_ := ⟨_, rfl⟩
       rw [hji37] at H
       have hji37w : (IntKind.i64.wrap ((IntKind.u64.wrap (wrap64 (x14_1 + x15_1))) / 2)) = ji37 := (bA _).trans hji37
       obtain ⟨c38b0, H⟩ := dU H
       obtain ⟨c39b0, H⟩ := dU H
       obtain ⟨t128, A40, H⟩ := bP H
       by_cases c41 : t128 < 0
       focus
        rw [if_pos c41] at H
        have c41b0 : decide (t128 < 0) = true := decide_eq_true c41
       rotate_left
       focus
        rw [if_neg c41] at H
        have c41b0 : decide (t128 < 0) = false := decide_eq_false c41
       rotate_left
       all_goals
        clear c41
        have H' := ah.mk H
        clear H
        (try go_wp2)
        replace HO_0 := ah.mk (Kd.fU HO_0.out)
        replace HK := ah.mk (Kept.drew HK.out)
        replace HB := ah.mk (dx HB.out)
        obtain ⟨Ao43, co43, eo43⟩ := Kd.bO HO_0.out
        ((subst eo43))
        have p126 : 0 ≤ (a2 : Int) := of_decide_eq_true (by (with_reducible assumption))
        have q126 : a2 < (l0.length : Int) := of_decide_eq_true (by (with_reducible assumption))
        obtain ⟨ad126, e126, hx126_0, hx126_1, hx126_2, hx126_3, hx126_4⟩ := dM (Kd.aN HO_0.out).2.2 a2 p126 q126
        cases e126
        replace p126 := eq_true p126
        replace q126 := eq_true q126
        have p127 : 0 ≤ ((ji37) : Int) := of_decide_eq_true (by (with_reducible assumption))
        have q127 : (ji37) < (l0.length : Int) := of_decide_eq_true (by (with_reducible assumption))
        obtain ⟨ad127, e127, hx127_0, hx127_1, hx127_2, hx127_3, hx127_4⟩ := dM (Kd.aN HO_0.out).2.2 (ji37) p127 q127
        obtain rfl : ad126 = ad127 := (by injection e127)
        replace p127 := eq_true p127
        replace q127 := eq_true q127
        refine gG (n := 12) (S := fun w' => w'.cell? (ad126.add ((a2).toNat * 5)) = some (.string ((aj l0 a2).f0)) ∧ w'.cell? ⟨(ad126.add ((a2).toNat * 5)).block, (ad126.add ((a2).toNat * 5)).off + 1, none⟩ = some (.int .i64 ((aj l0 a2).f1)) ∧ w'.cell? ⟨(ad126.add ((a2).toNat * 5)).block, (ad126.add ((a2).toNat * 5)).off + 2, none⟩ = some (.int .i64 ((aj l0 a2).f2)) ∧ w'.cell? ⟨(ad126.add ((a2).toNat * 5)).block, (ad126.add ((a2).toNat * 5)).off + 3, none⟩ = some (.int .i64 ((aj l0 a2).f3)) ∧ w'.cell? ⟨(ad126.add ((a2).toNat * 5)).block, (ad126.add ((a2).toNat * 5)).off + 4, none⟩ = some (.string ((aj l0 a2).f4)) ∧ w'.cell? (ad126.add (((ji37)).toNat * 5)) = some (.string ((aj l0 (ji37)).f0)) ∧ w'.cell? ⟨(ad126.add (((ji37)).toNat * 5)).block, (ad126.add (((ji37)).toNat * 5)).off + 1, none⟩ = some (.int .i64 ((aj l0 (ji37)).f1)) ∧ w'.cell? ⟨(ad126.add (((ji37)).toNat * 5)).block, (ad126.add (((ji37)).toNat * 5)).off + 2, none⟩ = some (.int .i64 ((aj l0 (ji37)).f2)) ∧ w'.cell? ⟨(ad126.add (((ji37)).toNat * 5)).block, (ad126.add (((ji37)).toNat * 5)).off + 3, none⟩ = some (.int .i64 ((aj l0 (ji37)).f3)) ∧ w'.cell? ⟨(ad126.add (((ji37)).toNat * 5)).block, (ad126.add (((ji37)).toNat * 5)).off + 4, none⟩ = some (.string ((aj l0 (ji37)).f4))) (ds := []) (ls 12 0) (by kernel_rfl) rfl rfl ⟨hx126_0, hx126_1, hx126_2, hx126_3, hx126_4, hx127_0, hx127_1, hx127_2, hx127_3, hx127_4⟩ (fun hHeld => ?_); refine eX au.JD au.Iw (fun HT_ HW_ => ?_)
        generalize wr.drew = w42 at HO_0 HK HB hx126_0 hx126_1 hx126_2 hx126_3 hx126_4 hx127_0 hx127_1 hx127_2 hx127_3 hx127_4 hHeld ⊢
        refine td_ [(0, 92), (1, 93), (2, 94), (3, 95), (5, 97), (6, 98), (7, 99)] ?_
        iterate 7 (refine pn_ (v := ?_) (a' := ?_) HT_ rfl rfl (by kernel_rfl) rfl (fun _ _ _ h => h) (fun w' => ?_) ?_ ?_; rotate_left 2; (focus go_simp; with_reducible rfl); (focus simp only [Act.put, sA_, sZ_, sS_, bA, bS]; rfl))
        refine dn_ ?_
        refine td_ [(4, 96), (8, 100)] ?_
        iterate 2 (refine tn_ (v := ?_) (a' := ?_) HT_ HW_ rfl rfl (by kernel_rfl) rfl (fun _ _ _ h => h) hHeld ?_ ?_ ?_; rotate_left 2; (focus rintro w' ⟨s0, s1, s2, s3, s4, s5, s6, s7, s8, s9⟩; go_simp; with_reducible rfl); (focus simp only [Act.put, sA_, sZ_, sS_, bA, bS]; rfl))
        refine dn_ ?_
        refine lY (i := 9) (N := some 101) (ls 12 1023) rfl rfl (iK HT_.out (by kernel_rfl)) (by decide) (fun K hK => ?_)
        refine vB Tryz.func78 (by kernel_rfl) rfl #[.agg #[.string ((aj l0 a2).f0), .int .i64 ((aj l0 a2).f1), .int .i64 ((aj l0 a2).f2), .int .i64 ((aj l0 a2).f3), .string ((aj l0 a2).f4)], .agg #[.string ((aj l0 (ji37)).f0), .int .i64 ((aj l0 (ji37)).f1), .int .i64 ((aj l0 (ji37)).f2), .int .i64 ((aj l0 (ji37)).f3), .string ((aj l0 (ji37)).f4)]] (by rfl) rfl rfl rfl (by (try simp only [mA_, mC_, mN_]); rfl) ?_
        with_reducible refine (dI.calls k1 ((aj l0 a2).f0) ((aj l0 a2).f1) ((aj l0 a2).f2) ((aj l0 a2).f3) ((aj l0 a2).f4) ((aj l0 (ji37)).f0) ((aj l0 (ji37)).f1) ((aj l0 (ji37)).f2) ((aj l0 (ji37)).f3) ((aj l0 (ji37)).f4) t128 _ A40.out).mono ?_
        rintro e w44 ⟨rfl, hb⟩
        have HS0_ := kp_ hb hHeld.1
        have HS1_ := kp_ hb hHeld.2.1
        have HS2_ := kp_ hb hHeld.2.2.1
        have HS3_ := kp_ hb hHeld.2.2.2.1
        have HS4_ := kp_ hb hHeld.2.2.2.2.1
        have HS5_ := kp_ hb hHeld.2.2.2.2.2.1
        have HS6_ := kp_ hb hHeld.2.2.2.2.2.2.1
        have HS7_ := kp_ hb hHeld.2.2.2.2.2.2.2.1
        have HS8_ := kp_ hb hHeld.2.2.2.2.2.2.2.2.1
        have HS9_ := kp_ hb hHeld.2.2.2.2.2.2.2.2.2
        refine ⟨_, rfl, ?_⟩
        replace HO_0 := ah.mk (Kd.bI (by ((exact HO_0.out))) hb)
        replace HK := ah.mk (Kept.below (S := (fun k_ => P0_ k_)) HK.out hb)
        replace HB := ah.mk (ak HB.out hb)
        (try clear hb)
        refine hK.out _ _ ⟨HS0_, HS1_, HS2_, HS3_, HS4_, HS5_, HS6_, HS7_, HS8_, HS9_⟩ (fun hHeld => ?_)
        clear hK K
        refine jE (a' := ?_) ?_ ?_
        rotate_left
        ·show Act.put _ (some 101) _ = _
         simp only [Act.put, sA_, sZ_, sS_, bA, bS]
         rfl
        refine td_ [(10, 102), (11, 103)] ?_
        iterate 2 (refine pn_ (v := ?_) (a' := ?_) HT_ rfl rfl (by kernel_rfl) rfl (fun _ _ _ h => h) (fun w' => ?_) ?_ ?_; rotate_left 2; (focus go_simp; with_reducible rfl); (focus simp only [Act.put, sA_, sZ_, sS_, bA, bS]; rfl))
        refine dn_ ?_
        refine jJ (iZ HT_.out (by kernel_rfl)) ?_
        (try go_wp2)
        go_roundg k1
        case measure => have := HK1.out; omega
       ·case rel => exact ⟨(x14_1), (ji37), (by rfl), (by rfl), H', ⟨by have := HK1.out; omega⟩, ⟨by (with_reducible repeat ((apply Kd.aK))); exact HO_0.out⟩, ⟨HK.out⟩, ⟨HB.out⟩⟩
       ·case rel => exact ⟨(wrap64 ((ji37) + 1)), (x15_1), (by rfl), (by rfl), H', ⟨by have := HK1.out; omega⟩, ⟨by (with_reducible repeat ((apply Kd.aK))); exact HO_0.out⟩, ⟨HK.out⟩, ⟨HB.out⟩⟩
      ·rw [if_neg c34] at H
       have c34b0 : decide (x14_1 < x15_1) = false := decide_eq_false c34
       clear c34
       have H' := ah.mk H
       clear H
       go_wp2
       go_loopg [17] k1 (fun kq v17 w' => ∃ (x0_2 : List (S44)) (x17_2 : Int), v17 = .int .i64 x17_2 ∧ ah (au.l3 kq x0_2 x14_1 x17_2 = some r) ∧ ah (kq ≤ k1) ∧ ah (Kd.R k44 44 w' w0.heap.size (fun k_ => (P0_ k_ ∨ w.heap.size ≤ k_)) u9000_ x0_2) ∧ ah (Kept w w' (fun k_ => P0_ k_)) ∧ ah (Below w0.heap.size w0 w'))
       case atStart => exact ⟨(l0), (a2), (by rfl), H', ⟨Nat.le_refl _⟩, ⟨by (with_reducible repeat ((apply Kd.aK))); exact HO_0.out⟩, ⟨HK.out⟩, ⟨HB.out⟩⟩
       case round =>
        clear H'
        (try clear c34b0)
        obtain ⟨x0_2, x17_2, rfl, HA, HK2, HO_0, HK, HB⟩ := hrel
        cases gk with
        | zero => exact absurd HA.out (by simp [au.l3])
        | succ k2 =>
         have H := HA.out
         clear HA
         simp only [au.l3] at H
         by_cases c48 : x17_2 > x14_1
         ·rw [if_pos c48] at H
          have c48b0 : decide (x14_1 < x17_2) = true := decide_eq_true c48
          clear c48
          obtain ⟨ji49, hji49⟩ : ∃ j_ : Int, (wrap64 (x17_2 - 1)) = j_ := ⟨_, rfl⟩
          rw [hji49] at H
          have hji49w : (IntKind.i64.wrap (x17_2 - 1)) = ji49 := (bA _).trans hji49
          obtain ⟨c50b0, H⟩ := dU H
          obtain ⟨c51b0, H⟩ := dU H
          obtain ⟨c52b0, H⟩ := dU H
          obtain ⟨c53b0, H⟩ := dU H
          obtain ⟨y131, hy131⟩ : ∃ y_ : List (S44), y_ = (x0_2.set (x17_2 : Int).toNat (⟨(aj x0_2 (ji49)).f0, (aj x0_2 (ji49)).f1, (aj x0_2 (ji49)).f2, (aj x0_2 (ji49)).f3, (aj x0_2 (ji49)).f4⟩ : S44)) := ⟨_, rfl⟩
          replace H : (au.l3 k2 (y131.set ((ji49) : Int).toNat (⟨(aj x0_2 x17_2).f0, (aj x0_2 x17_2).f1, (aj x0_2 x17_2).f2, (aj x0_2 x17_2).f3, (aj x0_2 x17_2).f4⟩ : S44)) x14_1 ji49) = some r := by (rw [hy131]; with_reducible exact H)
          have Ny131 := ah.mk hy131
          clear hy131
          obtain ⟨y132, hy132⟩ : ∃ y_ : List (S44), y_ = (y131.set ((ji49) : Int).toNat (⟨(aj x0_2 x17_2).f0, (aj x0_2 x17_2).f1, (aj x0_2 x17_2).f2, (aj x0_2 x17_2).f3, (aj x0_2 x17_2).f4⟩ : S44)) := ⟨_, rfl⟩
          replace H : (au.l3 k2 y132 x14_1 ji49) = some r := by (rw [hy132]; with_reducible exact H)
          have Ny132 := ah.mk hy132
          clear hy132
          have H' := ah.mk H
          clear H
          (try go_wp2)
          replace HO_0 := ah.mk (Kd.fU HO_0.out)
          replace HK := ah.mk (Kept.drew HK.out)
          replace HB := ah.mk (dx HB.out)
          obtain ⟨Ao57, co57, eo57⟩ := Kd.bO HO_0.out
          ((subst eo57))
          have p129 : 0 ≤ ((ji49) : Int) := of_decide_eq_true (by (with_reducible assumption))
          have q129 : (ji49) < (x0_2.length : Int) := of_decide_eq_true (by (with_reducible assumption))
          obtain ⟨ad129, e129, hx129_0, hx129_1, hx129_2, hx129_3, hx129_4⟩ := dM (Kd.aN HO_0.out).2.2 (ji49) p129 q129
          cases e129
          replace p129 := eq_true p129
          replace q129 := eq_true q129
          have p130 : 0 ≤ (x17_2 : Int) := of_decide_eq_true (by (with_reducible assumption))
          have q130 : x17_2 < (x0_2.length : Int) := of_decide_eq_true (by (with_reducible assumption))
          obtain ⟨ad130, e130, hx130_0, hx130_1, hx130_2, hx130_3, hx130_4⟩ := dM (Kd.aN HO_0.out).2.2 x17_2 p130 q130
          obtain rfl : ad129 = ad130 := (by injection e130)
          replace p130 := eq_true p130
          replace q130 := eq_true q130
          have p54 : 0 ≤ (x17_2 : Int) := of_decide_eq_true (by (with_reducible assumption))
          have q54 : (x17_2 : Int) < ((x0_2.length : Int) : Int) := of_decide_eq_true (by (with_reducible assumption))
          obtain ⟨go54, co54, eo54, gb54, gl54, cl54, HG54⟩ := Kd.qg HO_0.out (by omega)
          ((cases eo54))
          have GB54 := ah.mk gb54
          have GG54 := ah.mk HG54
          clear gb54 gl54 HG54
          have HMgo54 := ah.mk (show (P0_ go54 ∨ w.heap.size ≤ go54) from (HO_0.out.1 _ rfl))
          ((simp only [add_plain] at hx129_0))
          ((simp only [add_plain] at hx129_1))
          ((simp only [add_plain] at hx129_2))
          ((simp only [add_plain] at hx129_3))
          ((simp only [add_plain] at hx129_4))
          ((simp only [add_plain] at hx130_0))
          ((simp only [add_plain] at hx130_1))
          ((simp only [add_plain] at hx130_2))
          ((simp only [add_plain] at hx130_3))
          ((simp only [add_plain] at hx130_4))
          obtain ⟨ce54, hcl54, hM54, hcc54, hfr54⟩ := Kd.jf HO_0.out z44 (x17_2 : Int) p54 q54
          obtain rfl := fV hM54
          have hx54_0 : World.cell? _ ⟨go54, (x17_2 : Int).toNat * 5, none⟩ = some (.string ((aj x0_2 x17_2).f0)) := hcc54 0 _ rfl
          have hx54_1 : World.cell? _ ⟨go54, (x17_2 : Int).toNat * 5 + 1, none⟩ = some (.int .i64 ((aj x0_2 x17_2).f1)) := hcc54 1 _ rfl
          have hx54_2 : World.cell? _ ⟨go54, (x17_2 : Int).toNat * 5 + 2, none⟩ = some (.int .i64 ((aj x0_2 x17_2).f2)) := hcc54 2 _ rfl
          have hx54_3 : World.cell? _ ⟨go54, (x17_2 : Int).toNat * 5 + 3, none⟩ = some (.int .i64 ((aj x0_2 x17_2).f3)) := hcc54 3 _ rfl
          have hx54_4 : World.cell? _ ⟨go54, (x17_2 : Int).toNat * 5 + 4, none⟩ = some (.string ((aj x0_2 x17_2).f4)) := hcc54 4 _ rfl
          have hf54_0 : World.frozen? _ ⟨go54, (x17_2 : Int).toNat * 5, none⟩ = false := hfr54 0
          have hf54_1 : World.frozen? _ ⟨go54, (x17_2 : Int).toNat * 5 + 1, none⟩ = false := hfr54 1
          have hf54_2 : World.frozen? _ ⟨go54, (x17_2 : Int).toNat * 5 + 2, none⟩ = false := hfr54 2
          have hf54_3 : World.frozen? _ ⟨go54, (x17_2 : Int).toNat * 5 + 3, none⟩ = false := hfr54 3
          have hf54_4 : World.frozen? _ ⟨go54, (x17_2 : Int).toNat * 5 + 4, none⟩ = false := hfr54 4
          clear hcl54 hcc54 hfr54 hM54
          replace p54 := eq_true p54
          replace q54 := eq_true q54
          obtain ⟨ce58, hcl58, hM58, hcc58, hfr58⟩ := Kd.jf HO_0.out z44 (x17_2 : Int) (of_decide_eq_true (by (with_reducible assumption))) (by have h_ : (x17_2 : Int) < ((x0_2.length : Int) : Int) := of_decide_eq_true (by (with_reducible assumption)); (exact h_))
          obtain rfl := fV hM58
          have HP58 := (Kd.nQ HO_0.out (x17_2 : Int) (of_decide_eq_true (by (with_reducible assumption))) (by have h_ : (x17_2 : Int) < ((x0_2.length : Int) : Int) := of_decide_eq_true (by (with_reducible assumption)); (exact h_)) (seg := [.string ((aj x0_2 (ji49)).f0), .int .i64 ((aj x0_2 (ji49)).f1), .int .i64 ((aj x0_2 (ji49)).f2), .int .i64 ((aj x0_2 (ji49)).f3), .string ((aj x0_2 (ji49)).f4)]) (j := 0) hcl58 hcc58 (show 5 ≤ 5 from by decide) (x' := (⟨(aj x0_2 (ji49)).f0, (aj x0_2 (ji49)).f1, (aj x0_2 (ji49)).f2, (aj x0_2 (ji49)).f3, (aj x0_2 (ji49)).f4⟩ : S44)) (iy _ _ _ (⟨(aj x0_2 (ji49)).f0, (aj x0_2 (ji49)).f1, (aj x0_2 (ji49)).f2, (aj x0_2 (ji49)).f3, (aj x0_2 (ji49)).f4⟩ : S44) ) (fun _ hk => hk)).1
          rw [← Ny131.out] at HP58
          have HQ58 := ah.mk HP58
          clear hcl58 hcc58 hfr58 hM58 HP58
          have p55 : 0 ≤ ((ji49) : Int) := of_decide_eq_true (by (with_reducible assumption))
          have q55 : ((ji49) : Int) < ((x0_2.length : Int) : Int) := of_decide_eq_true (by (with_reducible assumption))
          obtain ⟨ce55, hcl55, hM55, hcc55, hfr55⟩ := Kd.jf HQ58.out z44 ((ji49) : Int) p55 q55
          obtain rfl := fV hM55
          have hx55_0 : World.cell? _ ⟨go54, ((ji49) : Int).toNat * 5, none⟩ = some (.string ((aj y131 (ji49)).f0)) := hcc55 0 _ rfl
          have hx55_1 : World.cell? _ ⟨go54, ((ji49) : Int).toNat * 5 + 1, none⟩ = some (.int .i64 ((aj y131 (ji49)).f1)) := hcc55 1 _ rfl
          have hx55_2 : World.cell? _ ⟨go54, ((ji49) : Int).toNat * 5 + 2, none⟩ = some (.int .i64 ((aj y131 (ji49)).f2)) := hcc55 2 _ rfl
          have hx55_3 : World.cell? _ ⟨go54, ((ji49) : Int).toNat * 5 + 3, none⟩ = some (.int .i64 ((aj y131 (ji49)).f3)) := hcc55 3 _ rfl
          have hx55_4 : World.cell? _ ⟨go54, ((ji49) : Int).toNat * 5 + 4, none⟩ = some (.string ((aj y131 (ji49)).f4)) := hcc55 4 _ rfl
          have hf55_0 : World.frozen? _ ⟨go54, ((ji49) : Int).toNat * 5, none⟩ = false := hfr55 0
          have hf55_1 : World.frozen? _ ⟨go54, ((ji49) : Int).toNat * 5 + 1, none⟩ = false := hfr55 1
          have hf55_2 : World.frozen? _ ⟨go54, ((ji49) : Int).toNat * 5 + 2, none⟩ = false := hfr55 2
          have hf55_3 : World.frozen? _ ⟨go54, ((ji49) : Int).toNat * 5 + 3, none⟩ = false := hfr55 3
          have hf55_4 : World.frozen? _ ⟨go54, ((ji49) : Int).toNat * 5 + 4, none⟩ = false := hfr55 4
          clear hcl55 hcc55 hfr55 hM55
          replace p55 := eq_true p55
          replace q55 := eq_true q55
          obtain ⟨ce59, hcl59, hM59, hcc59, hfr59⟩ := Kd.jf HQ58.out z44 ((ji49) : Int) (of_decide_eq_true (by (with_reducible assumption))) (by have h_ : ((ji49) : Int) < ((x0_2.length : Int) : Int) := of_decide_eq_true (by (with_reducible assumption)); (exact h_))
          obtain rfl := fV hM59
          have HP59 := (Kd.nQ HQ58.out ((ji49) : Int) (of_decide_eq_true (by (with_reducible assumption))) (by have h_ : ((ji49) : Int) < ((x0_2.length : Int) : Int) := of_decide_eq_true (by (with_reducible assumption)); (exact h_)) (seg := [.string ((aj x0_2 x17_2).f0), .int .i64 ((aj x0_2 x17_2).f1), .int .i64 ((aj x0_2 x17_2).f2), .int .i64 ((aj x0_2 x17_2).f3), .string ((aj x0_2 x17_2).f4)]) (j := 0) hcl59 hcc59 (show 5 ≤ 5 from by decide) (x' := (⟨(aj x0_2 x17_2).f0, (aj x0_2 x17_2).f1, (aj x0_2 x17_2).f2, (aj x0_2 x17_2).f3, (aj x0_2 x17_2).f4⟩ : S44)) (iy _ _ _ (⟨(aj x0_2 x17_2).f0, (aj x0_2 x17_2).f1, (aj x0_2 x17_2).f2, (aj x0_2 x17_2).f3, (aj x0_2 x17_2).f4⟩ : S44) ) (fun _ hk => hk)).1
          rw [← Ny132.out] at HP59
          have HQ59 := ah.mk HP59
          clear hcl59 hcc59 hfr59 hM59 HP59
          refine gG (n := 18) (S := fun w' => w'.cell? ⟨go54, (((ji49)).toNat * 5), none⟩ = some (.string ((aj x0_2 (ji49)).f0)) ∧ w'.cell? ⟨go54, (((ji49)).toNat * 5) + 1, none⟩ = some (.int .i64 ((aj x0_2 (ji49)).f1)) ∧ w'.cell? ⟨go54, (((ji49)).toNat * 5) + 2, none⟩ = some (.int .i64 ((aj x0_2 (ji49)).f2)) ∧ w'.cell? ⟨go54, (((ji49)).toNat * 5) + 3, none⟩ = some (.int .i64 ((aj x0_2 (ji49)).f3)) ∧ w'.cell? ⟨go54, (((ji49)).toNat * 5) + 4, none⟩ = some (.string ((aj x0_2 (ji49)).f4)) ∧ w'.cell? ⟨go54, ((x17_2).toNat * 5), none⟩ = some (.string ((aj x0_2 x17_2).f0)) ∧ w'.cell? ⟨go54, ((x17_2).toNat * 5) + 1, none⟩ = some (.int .i64 ((aj x0_2 x17_2).f1)) ∧ w'.cell? ⟨go54, ((x17_2).toNat * 5) + 2, none⟩ = some (.int .i64 ((aj x0_2 x17_2).f2)) ∧ w'.cell? ⟨go54, ((x17_2).toNat * 5) + 3, none⟩ = some (.int .i64 ((aj x0_2 x17_2).f3)) ∧ w'.cell? ⟨go54, ((x17_2).toNat * 5) + 4, none⟩ = some (.string ((aj x0_2 x17_2).f4))) (ds := [15, 17]) (ls 18 0) (by kernel_rfl) rfl rfl ⟨hx129_0, hx129_1, hx129_2, hx129_3, hx129_4, hx130_0, hx130_1, hx130_2, hx130_3, hx130_4⟩ (fun hHeld => ?_); refine eX au.JE au.IJ (fun HT_ HW_ => ?_)
          generalize wr.drew = w56 at HO_0 HK HB GG54 HQ58 HQ59 hf54_0 hf54_1 hf54_2 hf54_3 hf54_4 hf55_0 hf55_1 hf55_2 hf55_3 hf55_4 hx129_0 hx129_1 hx129_2 hx129_3 hx129_4 hx130_0 hx130_1 hx130_2 hx130_3 hx130_4 hx54_0 hx54_1 hx54_2 hx54_3 hx54_4 hx55_0 hx55_1 hx55_2 hx55_3 hx55_4 hHeld ⊢
          (try simp [go_sem, World.setCells, (show k44.sz = 5 from rfl)] at hf55_0 hf55_1 hf55_2 hf55_3 hf55_4 hx55_0 hx55_1 hx55_2 hx55_3 hx55_4)
          refine td_ [(0, 113), (1, 114), (2, 115), (3, 116), (4, 117), (5, 118), (6, 119), (7, 120), (8, 121), (10, 123), (11, 124), (12, 125)] ?_
          iterate 12 (refine pn_ (v := ?_) (a' := ?_) HT_ rfl rfl (by kernel_rfl) rfl (fun _ _ _ h => h) (fun w' => ?_) ?_ ?_; rotate_left 2; (focus go_simp; with_reducible rfl); (focus simp only [Act.put, sA_, sZ_, sS_, bA, bS]; rfl))
          refine dn_ ?_
          refine td_ [(9, 122), (13, 126)] ?_
          iterate 2 (refine tn_ (v := ?_) (a' := ?_) HT_ HW_ rfl rfl (by kernel_rfl) rfl (fun _ _ _ h => h) hHeld ?_ ?_ ?_; rotate_left 2; (focus rintro w' ⟨s0, s1, s2, s3, s4, s5, s6, s7, s8, s9⟩; go_simp; with_reducible rfl); (focus simp only [Act.put, sA_, sZ_, sS_, bA, bS]; rfl))
          refine dn_ ?_
          refine td_ [(14, 127)] ?_
          iterate 1 (refine pn_ (v := ?_) (a' := ?_) HT_ rfl rfl (by kernel_rfl) rfl (fun _ _ _ h => h) (fun w' => ?_) ?_ ?_; rotate_left 2; (focus go_simp; with_reducible rfl); (focus simp only [Act.put, sA_, sZ_, sS_, bA, bS]; rfl))
          refine dn_ ?_
          refine lN (i := 15) (N := none) (ls 18 65535) rfl rfl (iK HT_.out (by kernel_rfl)) (by decide) (fun K hK => ?_)
          refine kZ (w1 := ?_) (by rfl) rfl ?_ ?_
          rotate_left
          ·go_simp
           rfl
          refine hK.out _ _ ?_
          clear hK K
          refine td_ [(16, 128)] ?_
          iterate 1 (refine pn_ (v := ?_) (a' := ?_) HT_ rfl rfl (by kernel_rfl) rfl (fun _ _ _ h => h) (fun w' => ?_) ?_ ?_; rotate_left 2; (focus go_simp; with_reducible rfl); (focus simp only [Act.put, sA_, sZ_, sS_, bA, bS]; rfl))
          refine dn_ ?_
          refine lN (i := 17) (N := none) (ls 18 262143) rfl rfl (iK HT_.out (by kernel_rfl)) (by decide) (fun K hK => ?_)
          refine kZ (w1 := ?_) (by rfl) rfl ?_ ?_
          rotate_left
          ·go_simp
           rfl
          refine hK.out _ _ ?_
          clear hK K
          refine jJ (iZ HT_.out (by kernel_rfl)) ?_
          (try go_wp2)
          go_roundg k2
          case measure => have := HK1.out; have := HK2.out; omega
          case rel => exact ⟨(y132), (ji49), (by rfl), H', ⟨by have := HK1.out; have := HK2.out; omega⟩, ⟨by (with_reducible repeat ((apply Kd.aK))); exact HQ59.out⟩, ⟨by repeat ((with_reducible first | exact HK.out | refine Kept.setCell ?_ HMgo54.out _))⟩, ⟨by repeat ((with_reducible first | exact HB.out | refine dN ?_ GB54.out))⟩⟩
         ·rw [if_neg c48] at H
          have c48b0 : decide (x14_1 < x17_2) = false := decide_eq_false c48
          clear c48
          obtain rfl := Option.some.inj H
          go_wp2
          (refine bodyPost_ret (results_none rfl _ _ _) rfl ?_)
          exact ⟨by rfl, by (with_reducible repeat ((apply Kd.aK))); exact HO_0.out, HB.out, HK.out⟩
   ·rw [if_neg c33] at H
    have c33b0 : ((wrap64 (a3 - a2)) == 1) = false := beq_eq_false_iff_ne.mpr c33
    have c33b1 : ((wrap64 (a3 - a2)) != 1) = true := bne_iff_ne.mpr c33
    have HC60 := ah.mk H
    clear H
    go_enter Tryz.func139, Tryz.ntmps139
    go_upto_if 140 with (fail)
    go_cut [20, 21] (fun v20 v21 wc => ∃ (kq : Nat) (x20_59 : Int) (x21_59 : Int), v20 = .int .i64 x20_59 ∧ v21 = .int .i64 x21_59 ∧ ah (au.j4 kq l0 a1 a2 a3 a4 (wrap64 ((IntKind.u64.wrap (wrap64 (a1 + a3))) / 2)) (wrap64 ((wrap64 ((IntKind.u64.wrap (wrap64 (a1 + a3))) / 2)) + a2)) x20_59 x21_59 = some r) ∧ ah (kq ≤ k) ∧ ah (Kd.R k44 44 wc w0.heap.size (fun k_ => (P0_ k_ ∨ w.heap.size ≤ k_)) u9000_ l0) ∧ ah (Kept w wc (fun k_ => P0_ k_)) ∧ ah (Below w0.heap.size w0 wc))
    case first =>
     have H := HC60.out
     clear HC60
     by_cases c61 : a2 > (wrap64 ((IntKind.u64.wrap (wrap64 (a1 + a3))) / 2))
     focus
      rw [if_pos c61] at H
      have c61b0 : decide ((wrap64 ((IntKind.u64.wrap (wrap64 (a1 + a3))) / 2)) < a2) = true := decide_eq_true c61
     rotate_left
     focus
      rw [if_neg c61] at H
      have c61b0 : decide ((wrap64 ((IntKind.u64.wrap (wrap64 (a1 + a3))) / 2)) < a2) = false := decide_eq_false c61
     rotate_left
     all_goals
      clear c61
      ((rw [c61b0]))
      have H' := ah.mk H
      clear H
      go_wp2
      go_meet
     ·case rel => exact ⟨_, (wrap64 ((wrap64 ((wrap64 ((IntKind.u64.wrap (wrap64 (a1 + a3))) / 2)) + a2)) - a3)), (wrap64 ((IntKind.u64.wrap (wrap64 (a1 + a3))) / 2)), (by rfl), (by rfl), H', ⟨by omega⟩, ⟨by (with_reducible repeat ((apply Kd.aK))); exact HO0.out⟩, ⟨HK.out⟩, ⟨HB.out⟩⟩
     ·case rel => exact ⟨_, (a1), (a2), (by rfl), (by rfl), H', ⟨by omega⟩, ⟨by (with_reducible repeat ((apply Kd.aK))); exact HO0.out⟩, ⟨HK.out⟩, ⟨HB.out⟩⟩
    case rest =>
     clear HC60
     (try clear c6)
     (try clear c6b0)
     (try clear c6b1)
     (try clear c33)
     (try clear c33b0)
     (try clear c33b1)
     obtain ⟨kq, x20_59, x21_59, rfl, rfl, HA, HJ59, HO_0, HK, HB⟩ := hcut
     cases kq with
     | zero => exact absurd HA.out (by simp [au.j4])
     | succ kj59 =>
      have H := HA.out
      clear HA
      simp only [au.j4] at H
      have H' := ah.mk H
      clear H
      go_wp2
      go_loopg [20, 21] kj59 (fun kq v20 v21 w' => ∃ (x20_2 : Int) (x21_2 : Int), v20 = .int .i64 x20_2 ∧ v21 = .int .i64 x21_2 ∧ ah (au.l4 kq l0 a1 a2 a3 a4 (wrap64 ((IntKind.u64.wrap (wrap64 (a1 + a3))) / 2)) (wrap64 ((wrap64 ((IntKind.u64.wrap (wrap64 (a1 + a3))) / 2)) + a2)) x20_2 x21_2 (wrap64 ((wrap64 ((wrap64 ((IntKind.u64.wrap (wrap64 (a1 + a3))) / 2)) + a2)) - 1)) = some r) ∧ ah (kq ≤ kj59) ∧ ah (Kd.R k44 44 w' w0.heap.size (fun k_ => (P0_ k_ ∨ w.heap.size ≤ k_)) u9000_ l0) ∧ ah (Kept w w' (fun k_ => P0_ k_)) ∧ ah (Below w0.heap.size w0 w'))
      case atStart => exact ⟨(x20_59), (x21_59), (by rfl), (by rfl), H', ⟨Nat.le_refl _⟩, ⟨by (with_reducible repeat ((apply Kd.aK))); exact HO_0.out⟩, ⟨HK.out⟩, ⟨HB.out⟩⟩
      case round =>
       clear H'
       obtain ⟨x20_2, x21_2, rfl, rfl, HA, HK2, HO_0, HK, HB⟩ := hrel
       cases gk with
       | zero => exact absurd HA.out (by simp [au.l4])
       | succ k2 =>
        have H := HA.out
        clear HA
        simp only [au.l4] at H
        by_cases c62 : x20_2 < x21_2
        ·rw [if_pos c62] at H
         have c62b0 : decide (x20_2 < x21_2) = true := decide_eq_true c62
         clear c62
         obtain ⟨ji63, hji63⟩ : ∃ j_ : Int, (wrap64 ((wrap64 ((wrap64 ((wrap64 ((IntKind.u64.wrap (wrap64 (a1 + a3))) / 2)) + a2)) - 1)) - (wrap64 ((IntKind.u64.wrap (wrap64 (x20_2 + x21_2))) / 2)))) = j_ := ⟨_, rfl⟩
         rw [hji63] at H
         have hji63w : (IntKind.i64.wrap ((wrap64 ((wrap64 ((wrap64 ((IntKind.u64.wrap (wrap64 (a1 + a3))) / 2)) + a2)) - 1)) - (wrap64 ((IntKind.u64.wrap (wrap64 (x20_2 + x21_2))) / 2)))) = ji63 := (bA _).trans hji63
         obtain ⟨c64b0, H⟩ := dU H
         obtain ⟨c65b0, H⟩ := dU H
         obtain ⟨ji66, hji66⟩ : ∃ j_ : Int, (wrap64 ((IntKind.u64.wrap (wrap64 (x20_2 + x21_2))) / 2)) = j_ := ⟨_, rfl⟩
         rw [hji66] at H
         have hji66w : (IntKind.i64.wrap ((IntKind.u64.wrap (wrap64 (x20_2 + x21_2))) / 2)) = ji66 := (bA _).trans hji66
         have hji63xji66 : (wrap64 ((wrap64 ((wrap64 ((wrap64 ((IntKind.u64.wrap (wrap64 (a1 + a3))) / 2)) + a2)) - 1)) - ji66)) = ji63 := by rw [← hji66]; exact hji63
         have hji63yji66 : (IntKind.i64.wrap ((wrap64 ((wrap64 ((wrap64 ((IntKind.u64.wrap (wrap64 (a1 + a3))) / 2)) + a2)) - 1)) - ji66)) = ji63 := (bA _).trans hji63xji66
         obtain ⟨c67b0, H⟩ := dU H
         obtain ⟨c68b0, H⟩ := dU H
         obtain ⟨t135, A69, H⟩ := bP H
         as_aux_lemma =>
         by_cases c70 : t135 < 0
         focus
          rw [if_pos c70] at H
          have c70b0 : decide (t135 < 0) = true := decide_eq_true c70
         rotate_left
         focus
          rw [if_neg c70] at H
          have c70b0 : decide (t135 < 0) = false := decide_eq_false c70
         rotate_left
         all_goals
          clear c70
          have H' := ah.mk H
          clear H
          (try go_wp2)
          replace HO_0 := ah.mk (Kd.fU HO_0.out)
          replace HK := ah.mk (Kept.drew HK.out)
          replace HB := ah.mk (dx HB.out)
          obtain ⟨Ao72, co72, eo72⟩ := Kd.bO HO_0.out
          ((subst eo72))
          have p133 : 0 ≤ ((ji63) : Int) := of_decide_eq_true (by (with_reducible assumption))
          have q133 : (ji63) < (l0.length : Int) := of_decide_eq_true (by (with_reducible assumption))
          obtain ⟨ad133, e133, hx133_0, hx133_1, hx133_2, hx133_3, hx133_4⟩ := dM (Kd.aN HO_0.out).2.2 (ji63) p133 q133
          cases e133
          replace p133 := eq_true p133
          replace q133 := eq_true q133
          have p134 : 0 ≤ ((ji66) : Int) := of_decide_eq_true (by (with_reducible assumption))
          have q134 : (ji66) < (l0.length : Int) := of_decide_eq_true (by (with_reducible assumption))
          obtain ⟨ad134, e134, hx134_0, hx134_1, hx134_2, hx134_3, hx134_4⟩ := dM (Kd.aN HO_0.out).2.2 (ji66) p134 q134
          obtain rfl : ad133 = ad134 := (by injection e134)
          replace p134 := eq_true p134
          replace q134 := eq_true q134
          refine gG (n := 14) (S := fun w' => w'.cell? (ad133.add (((ji63)).toNat * 5)) = some (.string ((aj l0 (ji63)).f0)) ∧ w'.cell? ⟨(ad133.add (((ji63)).toNat * 5)).block, (ad133.add (((ji63)).toNat * 5)).off + 1, none⟩ = some (.int .i64 ((aj l0 (ji63)).f1)) ∧ w'.cell? ⟨(ad133.add (((ji63)).toNat * 5)).block, (ad133.add (((ji63)).toNat * 5)).off + 2, none⟩ = some (.int .i64 ((aj l0 (ji63)).f2)) ∧ w'.cell? ⟨(ad133.add (((ji63)).toNat * 5)).block, (ad133.add (((ji63)).toNat * 5)).off + 3, none⟩ = some (.int .i64 ((aj l0 (ji63)).f3)) ∧ w'.cell? ⟨(ad133.add (((ji63)).toNat * 5)).block, (ad133.add (((ji63)).toNat * 5)).off + 4, none⟩ = some (.string ((aj l0 (ji63)).f4)) ∧ w'.cell? (ad133.add (((ji66)).toNat * 5)) = some (.string ((aj l0 (ji66)).f0)) ∧ w'.cell? ⟨(ad133.add (((ji66)).toNat * 5)).block, (ad133.add (((ji66)).toNat * 5)).off + 1, none⟩ = some (.int .i64 ((aj l0 (ji66)).f1)) ∧ w'.cell? ⟨(ad133.add (((ji66)).toNat * 5)).block, (ad133.add (((ji66)).toNat * 5)).off + 2, none⟩ = some (.int .i64 ((aj l0 (ji66)).f2)) ∧ w'.cell? ⟨(ad133.add (((ji66)).toNat * 5)).block, (ad133.add (((ji66)).toNat * 5)).off + 3, none⟩ = some (.int .i64 ((aj l0 (ji66)).f3)) ∧ w'.cell? ⟨(ad133.add (((ji66)).toNat * 5)).block, (ad133.add (((ji66)).toNat * 5)).off + 4, none⟩ = some (.string ((aj l0 (ji66)).f4))) (ds := []) (ls 14 0) (by kernel_rfl) rfl rfl ⟨hx133_0, hx133_1, hx133_2, hx133_3, hx133_4, hx134_0, hx134_1, hx134_2, hx134_3, hx134_4⟩ (fun hHeld => ?_); refine eX au.JA au.Jd (fun HT_ HW_ => ?_)
          generalize wr.drew = w71 at HO_0 HK HB hx133_0 hx133_1 hx133_2 hx133_3 hx133_4 hx134_0 hx134_1 hx134_2 hx134_3 hx134_4 hHeld ⊢
          refine td_ [(0, 158), (1, 159), (2, 160), (3, 161), (4, 162), (5, 163), (7, 165), (8, 166), (9, 167)] ?_
          iterate 9 (refine pn_ (v := ?_) (a' := ?_) HT_ rfl rfl (by kernel_rfl) rfl (fun _ _ _ h => h) (fun w' => ?_) ?_ ?_; rotate_left 2; (focus go_simp; with_reducible rfl); (focus simp only [Act.put, sA_, sZ_, sS_, bA, bS]; rfl))
          refine dn_ ?_
          refine td_ [(6, 164), (10, 168)] ?_
          iterate 2 (refine tn_ (v := ?_) (a' := ?_) HT_ HW_ rfl rfl (by kernel_rfl) rfl (fun _ _ _ h => h) hHeld ?_ ?_ ?_; rotate_left 2; (focus rintro w' ⟨s0, s1, s2, s3, s4, s5, s6, s7, s8, s9⟩; go_simp; with_reducible rfl); (focus simp only [Act.put, sA_, sZ_, sS_, bA, bS]; rfl))
          refine dn_ ?_
          refine lY (i := 11) (N := some 169) (ls 14 4095) rfl rfl (iK HT_.out (by kernel_rfl)) (by decide) (fun K hK => ?_)
          refine vB Tryz.func78 (by kernel_rfl) rfl #[.agg #[.string ((aj l0 (ji63)).f0), .int .i64 ((aj l0 (ji63)).f1), .int .i64 ((aj l0 (ji63)).f2), .int .i64 ((aj l0 (ji63)).f3), .string ((aj l0 (ji63)).f4)], .agg #[.string ((aj l0 (ji66)).f0), .int .i64 ((aj l0 (ji66)).f1), .int .i64 ((aj l0 (ji66)).f2), .int .i64 ((aj l0 (ji66)).f3), .string ((aj l0 (ji66)).f4)]] (by rfl) rfl rfl rfl (by (try simp only [mA_, mC_, mN_]); rfl) ?_
          with_reducible refine (dI.calls k2 ((aj l0 (ji63)).f0) ((aj l0 (ji63)).f1) ((aj l0 (ji63)).f2) ((aj l0 (ji63)).f3) ((aj l0 (ji63)).f4) ((aj l0 (ji66)).f0) ((aj l0 (ji66)).f1) ((aj l0 (ji66)).f2) ((aj l0 (ji66)).f3) ((aj l0 (ji66)).f4) t135 _ A69.out).mono ?_
          rintro e w73 ⟨rfl, hb⟩
          have HS0_ := kp_ hb hHeld.1
          have HS1_ := kp_ hb hHeld.2.1
          have HS2_ := kp_ hb hHeld.2.2.1
          have HS3_ := kp_ hb hHeld.2.2.2.1
          have HS4_ := kp_ hb hHeld.2.2.2.2.1
          have HS5_ := kp_ hb hHeld.2.2.2.2.2.1
          have HS6_ := kp_ hb hHeld.2.2.2.2.2.2.1
          have HS7_ := kp_ hb hHeld.2.2.2.2.2.2.2.1
          have HS8_ := kp_ hb hHeld.2.2.2.2.2.2.2.2.1
          have HS9_ := kp_ hb hHeld.2.2.2.2.2.2.2.2.2
          refine ⟨_, rfl, ?_⟩
          replace HO_0 := ah.mk (Kd.bI (by ((exact HO_0.out))) hb)
          replace HK := ah.mk (Kept.below (S := (fun k_ => P0_ k_)) HK.out hb)
          replace HB := ah.mk (ak HB.out hb)
          (try clear hb)
          refine hK.out _ _ ⟨HS0_, HS1_, HS2_, HS3_, HS4_, HS5_, HS6_, HS7_, HS8_, HS9_⟩ (fun hHeld => ?_)
          clear hK K
          refine jE (a' := ?_) ?_ ?_
          rotate_left
          ·show Act.put _ (some 169) _ = _
           simp only [Act.put, sA_, sZ_, sS_, bA, bS]
           rfl
          refine td_ [(12, 170), (13, 171)] ?_
          iterate 2 (refine pn_ (v := ?_) (a' := ?_) HT_ rfl rfl (by kernel_rfl) rfl (fun _ _ _ h => h) (fun w' => ?_) ?_ ?_; rotate_left 2; (focus go_simp; with_reducible rfl); (focus simp only [Act.put, sA_, sZ_, sS_, bA, bS]; rfl))
          refine dn_ ?_
          refine jJ (iZ HT_.out (by kernel_rfl)) ?_
          (try go_wp2)
          go_roundg k2
          case measure => have := HJ59.out; have := HK2.out; omega
         ·case rel => exact ⟨(x20_2), (ji66), (by rfl), (by rfl), H', ⟨by have := HJ59.out; have := HK2.out; omega⟩, ⟨by (with_reducible repeat ((apply Kd.aK))); exact HO_0.out⟩, ⟨HK.out⟩, ⟨HB.out⟩⟩
         ·case rel => exact ⟨(wrap64 ((ji66) + 1)), (x21_2), (by rfl), (by rfl), H', ⟨by have := HJ59.out; have := HK2.out; omega⟩, ⟨by (with_reducible repeat ((apply Kd.aK))); exact HO_0.out⟩, ⟨HK.out⟩, ⟨HB.out⟩⟩
        ·rw [if_neg c62] at H
         have c62b0 : decide (x20_2 < x21_2) = false := decide_eq_false c62
         clear c62
         have HC77 := ah.mk H
         clear H
         go_upto_region 39 with (fail)
         go_cut [185] (fun v185 wc => ∃ (kq : Nat) (x185_76 : Bool), v185 = .bool x185_76 ∧ ah (au.j6 kq l0 a1 a2 a3 a4 (wrap64 ((IntKind.u64.wrap (wrap64 (a1 + a3))) / 2)) x20_2 (wrap64 ((wrap64 ((wrap64 ((IntKind.u64.wrap (wrap64 (a1 + a3))) / 2)) + a2)) - x20_2)) x185_76 = some r) ∧ ah (kq ≤ k2) ∧ ah (Kd.R k44 44 wc w0.heap.size (fun k_ => (P0_ k_ ∨ w.heap.size ≤ k_)) u9000_ l0) ∧ ah (Kept w wc (fun k_ => P0_ k_)) ∧ ah (Below w0.heap.size w0 wc))
         case first =>
          have H := HC77.out
          clear HC77
          by_cases c78 : x20_2 < a2
          focus
           rw [if_pos c78] at H
           have c78b0 : decide (x20_2 < a2) = true := decide_eq_true c78
          rotate_left
          focus
           rw [if_neg c78] at H
           have c78b0 : decide (x20_2 < a2) = false := decide_eq_false c78
          rotate_left
          all_goals
           clear c78
           (skip)
           have H' := ah.mk H
           clear H
           go_wp2
           go_meet
          ·case rel => exact ⟨_, (decide (a2 < (wrap64 ((wrap64 ((wrap64 ((IntKind.u64.wrap (wrap64 (a1 + a3))) / 2)) + a2)) - x20_2)))), (by rfl), H', ⟨by have := HJ59.out; have := HK2.out; omega⟩, ⟨by (with_reducible repeat ((apply Kd.aK))); exact HO_0.out⟩, ⟨HK.out⟩, ⟨HB.out⟩⟩
          ·case rel => exact ⟨_, (false), (by rfl), H', ⟨by have := HJ59.out; have := HK2.out; omega⟩, ⟨by (with_reducible repeat ((apply Kd.aK))); exact HO_0.out⟩, ⟨HK.out⟩, ⟨HB.out⟩⟩
         case rest =>
          as_aux_lemma =>
          clear HC77
          (try clear c62b0)
          obtain ⟨kq, x185_76, rfl, HA, HJ76, HO_0, HK, HB⟩ := hcut
          cases kq with
          | zero => exact absurd HA.out (by simp [au.j6])
          | succ kj76 =>
           have H := HA.out
           clear HA
           simp only [au.j6] at H
           have HC79 := ah.mk H
           clear H
           go_upto_if 185 with (fail)
           go_cut [] (fun wc => ∃ (kq : Nat) (x0_78 : List (S44)), ah (au.j7 kq x0_78 a1 a3 a4 (wrap64 ((IntKind.u64.wrap (wrap64 (a1 + a3))) / 2)) x20_2 (wrap64 ((wrap64 ((wrap64 ((IntKind.u64.wrap (wrap64 (a1 + a3))) / 2)) + a2)) - x20_2)) = some r) ∧ ah (kq ≤ kj76) ∧ ah (Kd.R k44 44 wc w0.heap.size (fun k_ => (P0_ k_ ∨ w.heap.size ≤ k_)) u9000_ x0_78) ∧ ah (Kept w wc (fun k_ => P0_ k_)) ∧ ah (Below w0.heap.size w0 wc))
           case first =>
            have H := HC79.out
            clear HC79
            by_cases c80 : x185_76 = true
            ·subst c80
             rw [if_pos rfl] at H
             obtain ⟨t136, A81, H⟩ := bP H
             have H' := ah.mk H
             clear H
             obtain ⟨Ao82, co82, eo82⟩ := Kd.bO HO_0.out
             subst eo82
             go_wp2_with ((((with_reducible refine dA (f := 157) rfl ?_); refine fC (some 191) rfl rfl Tryz.func157 (by kernel_rfl) rfl #[.slice Ao82 l0.length co82, .int .i64 x20_2, .int .i64 a2, .int .i64 (wrap64 ((wrap64 ((wrap64 ((IntKind.u64.wrap (wrap64 (a1 + a3))) / 2)) + a2)) - x20_2)), .func (.func 78) #[] #[]] rfl (by (try simp only [mA_, mC_, mN_]); rfl) ?_; (with_reducible refine (fH.calls kj76 (fun k_ => some k_ = (.slice Ao82 l0.length co82 : Value).ownBlock) (.slice Ao82 l0.length co82) l0 x20_2 a2 (wrap64 ((wrap64 ((wrap64 ((IntKind.u64.wrap (wrap64 (a1 + a3))) / 2)) + a2)) - x20_2)) a4 t136 w0 _ ?side1 ?side2 A81.out).mono ?_); (case side1 => repeat ((with_reducible (exact HB.out)))); (case side2 => exact Kd.jh rfl HO_0.out); rintro e w83 ⟨rfl, hy0, hb, hkp⟩; refine ⟨_, rfl, ?_⟩; have n0_ := ah.mk (Kd.jR rfl hy0 (fun k_ e_ => HO_0.out.1 k_ e_)); have n1_ := ah.mk (Kept.then_ (S := (fun k_ => P0_ k_)) HK.out hkp (fun k_ hs_ => (fun e_ => (HO_0.out.1 k_ e_.symm)) hs_)); have n2_ := ah.mk (hb); clear HO_0; clear HK; clear HB; have HO_0 := n0_; have HK := n1_; have HB := n2_; clear n0_ n1_ n2_; (try clear hb); (try clear hkp); (try clear hy0))))
             go_meet
             case rel => exact ⟨_, (t136), H', ⟨by have := HJ59.out; have := HK2.out; have := HJ76.out; omega⟩, ⟨by (with_reducible repeat ((apply Kd.aK))); exact HO_0.out⟩, ⟨HK.out⟩, ⟨HB.out⟩⟩
            ·replace c80 := Bool.eq_false_iff.mpr c80
             subst c80
             rw [if_neg ff_] at H
             have H' := ah.mk H
             clear H
             go_wp2
             go_meet
             case rel => exact ⟨_, (l0), H', ⟨by have := HJ59.out; have := HK2.out; have := HJ76.out; omega⟩, ⟨by (with_reducible repeat ((apply Kd.aK))); exact HO_0.out⟩, ⟨HK.out⟩, ⟨HB.out⟩⟩
           case rest =>
            clear HC79
            obtain ⟨kq, x0_78, HA, HJ78, HO_0, HK, HB⟩ := hcut
            cases kq with
            | zero => exact absurd HA.out (by simp [au.j7])
            | succ kj78 =>
             have H := HA.out
             clear HA
             simp only [au.j7] at H
             have HC84 := ah.mk H
             clear H
             go_upto_region 41 with (fail)
             go_cut [199] (fun v199 wc => ∃ (kq : Nat) (x199_83 : Bool), v199 = .bool x199_83 ∧ ah (au.j8 kq x0_78 a1 a3 a4 (wrap64 ((IntKind.u64.wrap (wrap64 (a1 + a3))) / 2)) x20_2 (wrap64 ((wrap64 ((wrap64 ((IntKind.u64.wrap (wrap64 (a1 + a3))) / 2)) + a2)) - x20_2)) x199_83 = some r) ∧ ah (kq ≤ kj78) ∧ ah (Kd.R k44 44 wc w0.heap.size (fun k_ => (P0_ k_ ∨ w.heap.size ≤ k_)) u9000_ x0_78) ∧ ah (Kept w wc (fun k_ => P0_ k_)) ∧ ah (Below w0.heap.size w0 wc))
             case first =>
              have H := HC84.out
              clear HC84
              by_cases c85 : a1 < x20_2
              focus
               rw [if_pos c85] at H
               have c85b0 : decide (a1 < x20_2) = true := decide_eq_true c85
              rotate_left
              focus
               rw [if_neg c85] at H
               have c85b0 : decide (a1 < x20_2) = false := decide_eq_false c85
              rotate_left
              all_goals
               clear c85
               (skip)
               have H' := ah.mk H
               clear H
               go_wp2
               go_meet
              ·case rel => exact ⟨_, (decide (x20_2 < (wrap64 ((IntKind.u64.wrap (wrap64 (a1 + a3))) / 2)))), (by rfl), H', ⟨by have := HJ59.out; have := HK2.out; have := HJ76.out; have := HJ78.out; omega⟩, ⟨by (with_reducible repeat ((apply Kd.aK))); exact HO_0.out⟩, ⟨HK.out⟩, ⟨HB.out⟩⟩
              ·case rel => exact ⟨_, (false), (by rfl), H', ⟨by have := HJ59.out; have := HK2.out; have := HJ76.out; have := HJ78.out; omega⟩, ⟨by (with_reducible repeat ((apply Kd.aK))); exact HO_0.out⟩, ⟨HK.out⟩, ⟨HB.out⟩⟩
             case rest =>
              clear HC84
              obtain ⟨kq, x199_83, rfl, HA, HJ83, HO_0, HK, HB⟩ := hcut
              cases kq with
              | zero => exact absurd HA.out (by simp [au.j8])
              | succ kj83 =>
               have H := HA.out
               clear HA
               simp only [au.j8] at H
               by_cases c86 : x199_83 = true
               focus
                subst c86
                rw [if_pos rfl] at H
                obtain ⟨t137, A87, H⟩ := bP H
                by_cases c88 : (wrap64 ((IntKind.u64.wrap (wrap64 (a1 + a3))) / 2)) < (wrap64 ((wrap64 ((wrap64 ((IntKind.u64.wrap (wrap64 (a1 + a3))) / 2)) + a2)) - x20_2))
                focus
                 rw [if_pos c88] at H
                 have c88b0 : decide ((wrap64 ((IntKind.u64.wrap (wrap64 (a1 + a3))) / 2)) < (wrap64 ((wrap64 ((wrap64 ((IntKind.u64.wrap (wrap64 (a1 + a3))) / 2)) + a2)) - x20_2))) = true := decide_eq_true c88
                 clear c88
                 by_cases c89 : (wrap64 ((wrap64 ((wrap64 ((IntKind.u64.wrap (wrap64 (a1 + a3))) / 2)) + a2)) - x20_2)) < a3
                 focus
                  rw [if_pos c89] at H
                  have c89b0 : decide ((wrap64 ((wrap64 ((wrap64 ((IntKind.u64.wrap (wrap64 (a1 + a3))) / 2)) + a2)) - x20_2)) < a3) = true := decide_eq_true c89
                  clear c89
                  obtain ⟨t138, A90, H⟩ := bP H
                 rotate_left
                 focus
                  rw [if_neg c89] at H
                  have c89b0 : decide ((wrap64 ((wrap64 ((wrap64 ((IntKind.u64.wrap (wrap64 (a1 + a3))) / 2)) + a2)) - x20_2)) < a3) = false := decide_eq_false c89
                  clear c89
                 rotate_left
                rotate_left 2
                focus
                 rw [if_neg c88] at H
                 have c88b0 : decide ((wrap64 ((IntKind.u64.wrap (wrap64 (a1 + a3))) / 2)) < (wrap64 ((wrap64 ((wrap64 ((IntKind.u64.wrap (wrap64 (a1 + a3))) / 2)) + a2)) - x20_2))) = false := decide_eq_false c88
                 clear c88
                rotate_left
                all_goals
                 obtain rfl := Option.some.inj H
                 obtain ⟨Ao91, co91, eo91⟩ := Kd.bO HO_0.out
                 subst eo91
                focus
                 go_wp2_with (first | ((with_reducible refine dA (f := 139) rfl ?_); refine fC (some 205) rfl rfl Tryz.func139 (by kernel_rfl) rfl #[.slice Ao91 x0_78.length co91, .int .i64 a1, .int .i64 x20_2, .int .i64 (wrap64 ((IntKind.u64.wrap (wrap64 (a1 + a3))) / 2)), .func (.func 78) #[] #[]] rfl (by (try simp only [mA_, mC_, mN_]); rfl) ?_; (with_reducible refine (ih kj83 (by have := HJ59.out; have := HK2.out; have := HJ76.out; have := HJ78.out; have := HJ83.out; omega) (fun k_ => some k_ = (.slice Ao91 x0_78.length co91 : Value).ownBlock) (.slice Ao91 x0_78.length co91) x0_78 a1 x20_2 (wrap64 ((IntKind.u64.wrap (wrap64 (a1 + a3))) / 2)) a4 t137 w0 _ ?side1 ?side2 A87.out).mono ?_); (case side1 => repeat ((with_reducible (exact HB.out)))); (case side2 => exact Kd.jh rfl HO_0.out); rintro e w92 ⟨rfl, hy0, hb, hkp⟩; refine ⟨_, rfl, ?_⟩; have n0_ := ah.mk (Kd.jR rfl hy0 (fun k_ e_ => HO_0.out.1 k_ e_)); have n1_ := ah.mk (Kept.then_ (S := (fun k_ => P0_ k_)) HK.out hkp (fun k_ hs_ => (fun e_ => (HO_0.out.1 k_ e_.symm)) hs_)); have n2_ := ah.mk (hb); clear HO_0; clear HK; clear HB; have HO_0 := n0_; have HK := n1_; have HB := n2_; clear n0_ n1_ n2_; (try clear hb); (try clear hkp); (try clear hy0)) | ((with_reducible refine dA (f := 139) rfl ?_); refine fC (some 219) rfl rfl Tryz.func139 (by kernel_rfl) rfl #[.slice Ao91 x0_78.length co91, .int .i64 (wrap64 ((IntKind.u64.wrap (wrap64 (a1 + a3))) / 2)), .int .i64 (wrap64 ((wrap64 ((wrap64 ((IntKind.u64.wrap (wrap64 (a1 + a3))) / 2)) + a2)) - x20_2)), .int .i64 a3, .func (.func 78) #[] #[]] rfl (by (try simp only [mA_, mC_, mN_]); rfl) ?_; (with_reducible refine (ih kj83 (by have := HJ59.out; have := HK2.out; have := HJ76.out; have := HJ78.out; have := HJ83.out; omega) (fun k_ => some k_ = (.slice Ao91 x0_78.length co91 : Value).ownBlock) (.slice Ao91 x0_78.length co91) t137 (wrap64 ((IntKind.u64.wrap (wrap64 (a1 + a3))) / 2)) (wrap64 ((wrap64 ((wrap64 ((IntKind.u64.wrap (wrap64 (a1 + a3))) / 2)) + a2)) - x20_2)) a3 a4 t138 w0 _ ?side1 ?side2 A90.out).mono ?_); (case side1 => repeat ((with_reducible (exact HB.out)))); (case side2 => exact Kd.jh rfl HO_0.out); rintro e w93 ⟨rfl, hy0, hb, hkp⟩; refine ⟨_, rfl, ?_⟩; have n0_ := ah.mk (Kd.jR rfl hy0 (fun k_ e_ => HO_0.out.1 k_ e_)); have n1_ := ah.mk (Kept.then_ (S := (fun k_ => P0_ k_)) HK.out hkp (fun k_ hs_ => (fun e_ => (HO_0.out.1 k_ e_.symm)) hs_)); have n2_ := ah.mk (hb); clear HO_0; clear HK; clear HB; have HO_0 := n0_; have HK := n1_; have HB := n2_; clear n0_ n1_ n2_; (try clear hb); (try clear hkp); (try clear hy0)))
                rotate_left
                focus
                 go_wp2_with ((((with_reducible refine dA (f := 139) rfl ?_); refine fC (some 205) rfl rfl Tryz.func139 (by kernel_rfl) rfl #[.slice Ao91 x0_78.length co91, .int .i64 a1, .int .i64 x20_2, .int .i64 (wrap64 ((IntKind.u64.wrap (wrap64 (a1 + a3))) / 2)), .func (.func 78) #[] #[]] rfl (by (try simp only [mA_, mC_, mN_]); rfl) ?_; (with_reducible refine (ih kj83 (by have := HJ59.out; have := HK2.out; have := HJ76.out; have := HJ78.out; have := HJ83.out; omega) (fun k_ => some k_ = (.slice Ao91 x0_78.length co91 : Value).ownBlock) (.slice Ao91 x0_78.length co91) x0_78 a1 x20_2 (wrap64 ((IntKind.u64.wrap (wrap64 (a1 + a3))) / 2)) a4 t137 w0 _ ?side1 ?side2 A87.out).mono ?_); (case side1 => repeat ((with_reducible (exact HB.out)))); (case side2 => exact Kd.jh rfl HO_0.out); rintro e w95 ⟨rfl, hy0, hb, hkp⟩; refine ⟨_, rfl, ?_⟩; have n0_ := ah.mk (Kd.jR rfl hy0 (fun k_ e_ => HO_0.out.1 k_ e_)); have n1_ := ah.mk (Kept.then_ (S := (fun k_ => P0_ k_)) HK.out hkp (fun k_ hs_ => (fun e_ => (HO_0.out.1 k_ e_.symm)) hs_)); have n2_ := ah.mk (hb); clear HO_0; clear HK; clear HB; have HO_0 := n0_; have HK := n1_; have HB := n2_; clear n0_ n1_ n2_; (try clear hb); (try clear hkp); (try clear hy0))))
                rotate_left
                focus
                 go_wp2_with ((((with_reducible refine dA (f := 139) rfl ?_); refine fC (some 205) rfl rfl Tryz.func139 (by kernel_rfl) rfl #[.slice Ao91 x0_78.length co91, .int .i64 a1, .int .i64 x20_2, .int .i64 (wrap64 ((IntKind.u64.wrap (wrap64 (a1 + a3))) / 2)), .func (.func 78) #[] #[]] rfl (by (try simp only [mA_, mC_, mN_]); rfl) ?_; (with_reducible refine (ih kj83 (by have := HJ59.out; have := HK2.out; have := HJ76.out; have := HJ78.out; have := HJ83.out; omega) (fun k_ => some k_ = (.slice Ao91 x0_78.length co91 : Value).ownBlock) (.slice Ao91 x0_78.length co91) x0_78 a1 x20_2 (wrap64 ((IntKind.u64.wrap (wrap64 (a1 + a3))) / 2)) a4 t137 w0 _ ?side1 ?side2 A87.out).mono ?_); (case side1 => repeat ((with_reducible (exact HB.out)))); (case side2 => exact Kd.jh rfl HO_0.out); rintro e w97 ⟨rfl, hy0, hb, hkp⟩; refine ⟨_, rfl, ?_⟩; have n0_ := ah.mk (Kd.jR rfl hy0 (fun k_ e_ => HO_0.out.1 k_ e_)); have n1_ := ah.mk (Kept.then_ (S := (fun k_ => P0_ k_)) HK.out hkp (fun k_ hs_ => (fun e_ => (HO_0.out.1 k_ e_.symm)) hs_)); have n2_ := ah.mk (hb); clear HO_0; clear HK; clear HB; have HO_0 := n0_; have HK := n1_; have HB := n2_; clear n0_ n1_ n2_; (try clear hb); (try clear hkp); (try clear hy0))))
                rotate_left
               rotate_left 3
               focus
                replace c86 := Bool.eq_false_iff.mpr c86
                subst c86
                rw [if_neg ff_] at H
                by_cases c98 : (wrap64 ((IntKind.u64.wrap (wrap64 (a1 + a3))) / 2)) < (wrap64 ((wrap64 ((wrap64 ((IntKind.u64.wrap (wrap64 (a1 + a3))) / 2)) + a2)) - x20_2))
                focus
                 rw [if_pos c98] at H
                 have c98b0 : decide ((wrap64 ((IntKind.u64.wrap (wrap64 (a1 + a3))) / 2)) < (wrap64 ((wrap64 ((wrap64 ((IntKind.u64.wrap (wrap64 (a1 + a3))) / 2)) + a2)) - x20_2))) = true := decide_eq_true c98
                 clear c98
                 by_cases c99 : (wrap64 ((wrap64 ((wrap64 ((IntKind.u64.wrap (wrap64 (a1 + a3))) / 2)) + a2)) - x20_2)) < a3
                 focus
                  rw [if_pos c99] at H
                  have c99b0 : decide ((wrap64 ((wrap64 ((wrap64 ((IntKind.u64.wrap (wrap64 (a1 + a3))) / 2)) + a2)) - x20_2)) < a3) = true := decide_eq_true c99
                  clear c99
                  obtain ⟨t139, A100, H⟩ := bP H
                  obtain rfl := Option.some.inj H
                  obtain ⟨Ao101, co101, eo101⟩ := Kd.bO HO_0.out
                  subst eo101
                  go_wp2_with ((((with_reducible refine dA (f := 139) rfl ?_); refine fC (some 219) rfl rfl Tryz.func139 (by kernel_rfl) rfl #[.slice Ao101 x0_78.length co101, .int .i64 (wrap64 ((IntKind.u64.wrap (wrap64 (a1 + a3))) / 2)), .int .i64 (wrap64 ((wrap64 ((wrap64 ((IntKind.u64.wrap (wrap64 (a1 + a3))) / 2)) + a2)) - x20_2)), .int .i64 a3, .func (.func 78) #[] #[]] rfl (by (try simp only [mA_, mC_, mN_]); rfl) ?_; (with_reducible refine (ih kj83 (by have := HJ59.out; have := HK2.out; have := HJ76.out; have := HJ78.out; have := HJ83.out; omega) (fun k_ => some k_ = (.slice Ao101 x0_78.length co101 : Value).ownBlock) (.slice Ao101 x0_78.length co101) x0_78 (wrap64 ((IntKind.u64.wrap (wrap64 (a1 + a3))) / 2)) (wrap64 ((wrap64 ((wrap64 ((IntKind.u64.wrap (wrap64 (a1 + a3))) / 2)) + a2)) - x20_2)) a3 a4 t139 w0 _ ?side1 ?side2 A100.out).mono ?_); (case side1 => repeat ((with_reducible (exact HB.out)))); (case side2 => exact Kd.jh rfl HO_0.out); rintro e w102 ⟨rfl, hy0, hb, hkp⟩; refine ⟨_, rfl, ?_⟩; have n0_ := ah.mk (Kd.jR rfl hy0 (fun k_ e_ => HO_0.out.1 k_ e_)); have n1_ := ah.mk (Kept.then_ (S := (fun k_ => P0_ k_)) HK.out hkp (fun k_ hs_ => (fun e_ => (HO_0.out.1 k_ e_.symm)) hs_)); have n2_ := ah.mk (hb); clear HO_0; clear HK; clear HB; have HO_0 := n0_; have HK := n1_; have HB := n2_; clear n0_ n1_ n2_; (try clear hb); (try clear hkp); (try clear hy0))))
                 rotate_left
                 focus
                  rw [if_neg c99] at H
                  have c99b0 : decide ((wrap64 ((wrap64 ((wrap64 ((IntKind.u64.wrap (wrap64 (a1 + a3))) / 2)) + a2)) - x20_2)) < a3) = false := decide_eq_false c99
                  clear c99
                  obtain rfl := Option.some.inj H
                  go_wp2
                 rotate_left
                rotate_left 2
                focus
                 rw [if_neg c98] at H
                 have c98b0 : decide ((wrap64 ((IntKind.u64.wrap (wrap64 (a1 + a3))) / 2)) < (wrap64 ((wrap64 ((wrap64 ((IntKind.u64.wrap (wrap64 (a1 + a3))) / 2)) + a2)) - x20_2))) = false := decide_eq_false c98
                 clear c98
                 obtain rfl := Option.some.inj H
                 go_wp2
                rotate_left
               rotate_left 3
               all_goals
                go_end0
                exact ⟨by rfl, by (with_reducible repeat ((apply Kd.aK))); exact HO_0.out, HB.out, HK.out⟩
end Go.Y.PSo
namespace Go.Y.PSo
open Go.RowKit Go.V.aC Go.V.aV Go.V.aX Go.Y.Given Go.Y.PRd Go.Y.PRr
attribute [local go_sem] dP dQ eu eB dD dF dR dS   -- for this text's walks alone
mutual
def cu.l0 : Nat → List (S44) → Int → Int → Int → Int → Int → Option ((List (S44)))
 | 0, _, _, _, _, _, _ => none
 | k + 1, x0, x1, x2, x6, x7, x8 => if x8 ≤ x1 then ((bg.f k x0 x7 x8 x2).bind fun t140 => (cu.l0 k t140 x1 x2 x6 x8 (wrap64 (x8 + x6)))) else ((bg.f k x0 x7 x1 x2).bind fun t141 => (cu.l1 k t141 x1 x2 x6))
def cu.l1 : Nat → List (S44) → Int → Int → Int → Option ((List (S44)))
 | 0, _, _, _, _ => none
 | k + 1, x0, x1, x2, x6 => if x6 < x1 then (cu.l2 k x0 x1 x2 x6 0 (wrap64 (2 * x6))) else (some x0)
def cu.l2 : Nat → List (S44) → Int → Int → Int → Int → Int → Option ((List (S44)))
 | 0, _, _, _, _, _, _ => none
 | k + 1, x0, x1, x2, x6, x7, x8 => if x8 ≤ x1 then ((au.f k x0 x7 (wrap64 (x7 + x6)) x8 x2).bind fun t142 => (cu.l2 k t142 x1 x2 x6 x8 (wrap64 (x8 + (wrap64 (2 * x6)))))) else (if (wrap64 (x7 + x6)) < x1 then ((au.f k x0 x7 (wrap64 (x7 + x6)) x1 x2).bind fun t143 => (cu.l1 k t143 x1 x2 (wrap64 (x6 * 2)))) else (cu.l1 k x0 x1 x2 (wrap64 (x6 * 2))))
end
def cu.f (k : Nat) (l0 : List (S44)) (a1 : Int) (a2 : Int) : Option ((List (S44))) := cu.l0 k l0 a1 a2 20 0 20
theorem cu.calls (k : Nat) (P0_ : Nat → Prop) (u9000_ : Value) (l0 : List (S44)) (a1 : Int) (a2 : Int) (r : List (S44)) (w0 w : World) (hB : Below w0.heap.size w0 w) (ho0 : Kd.R k44 44 w w0.heap.size P0_ u9000_ l0) (h : cu.f k l0 a1 a2 = some r) :
    Calls Tryz.prog 110 #[u9000_, .int .i64 a1, .func (.func 78) #[] #[]] w fun e w' => e = .returned (.tuple #[]) ∧ Kd.R k44 44 w' w0.heap.size (fun k_ => (P0_ k_ ∨ w.heap.size ≤ k_)) u9000_ r ∧ Below w0.heap.size w0 w' ∧ Kept w w' (fun k_ => P0_ k_) := by
  have HO0 := ah.mk (show Kd.R k44 44 w w0.heap.size (fun k_ => (P0_ k_ ∨ w.heap.size ≤ k_)) u9000_ l0 from Kd.dH ho0 (fun k_ hk => (.inl hk)))
  have HK := ah.mk (Kept.refl w (fun k_ => P0_ k_))
  have HW0 := ah.mk hB.size
  have HB := ah.mk hB
  clear hB
  have H : (cu.l0 k l0 a1 a2 20 0 20) = some r := h
  clear h
  have H' := ah.mk H
  clear H
  go_enter Tryz.func110, Tryz.ntmps110
  go_wp2
  (try go_simp)
  go_loopg [7, 8] k (fun kq v7 v8 w' => ∃ (x0_1 : List (S44)) (x7_1 : Int) (x8_1 : Int), v7 = .int .i64 x7_1 ∧ v8 = .int .i64 x8_1 ∧ ah (cu.l0 kq x0_1 a1 a2 20 x7_1 x8_1 = some r) ∧ ah (kq ≤ k) ∧ ah (Kd.R k44 44 w' w0.heap.size (fun k_ => (P0_ k_ ∨ w.heap.size ≤ k_)) u9000_ x0_1) ∧ ah (Kept w w' (fun k_ => P0_ k_)) ∧ ah (Below w0.heap.size w0 w'))
  case atStart => exact ⟨(l0), (0), (20), (by rfl), (by rfl), H', ⟨Nat.le_refl _⟩, ⟨by (with_reducible repeat ((apply Kd.aK))); exact HO0.out⟩, ⟨HK.out⟩, ⟨HB.out⟩⟩
  case round =>
   clear H'
   obtain ⟨x0_1, x7_1, x8_1, rfl, rfl, HA, HK1, HO_0, HK, HB⟩ := hrel
   cases gk with
   | zero => exact absurd HA.out (by simp [cu.l0])
   | succ k1 =>
    have H := HA.out
    clear HA
    simp only [cu.l0] at H
    by_cases c4 : x8_1 ≤ a1
    focus
     rw [if_pos c4] at H
     have c4b0 : decide (x8_1 ≤ a1) = true := decide_eq_true c4
    rotate_left
    focus
     rw [if_neg c4] at H
     have c4b0 : decide (x8_1 ≤ a1) = false := decide_eq_false c4
    rotate_left
    all_goals
     clear c4
     obtain ⟨t140, A5, H⟩ := bP H
     have H' := ah.mk H
     clear H
     obtain ⟨Ao6, co6, eo6⟩ := Kd.bO HO_0.out
     subst eo6
    ·go_wp2_with (((refine gl_ (some 18) Tryz.func138 #[.slice Ao6 x0_1.length co6, .int .i64 x7_1, .int .i64 x8_1, .func (.func 78) #[] #[]] ?_; (with_reducible refine (bg.calls k1 (fun k_ => some k_ = (.slice Ao6 x0_1.length co6 : Value).ownBlock) (.slice Ao6 x0_1.length co6) x0_1 x7_1 x8_1 a2 t140 w0 _ ?side1 ?side2 A5.out).mono ?_); (case side1 => repeat ((with_reducible (exact HB.out)))); (case side2 => exact Kd.jh rfl HO_0.out); rintro e w7 ⟨rfl, hy0, hb, hkp⟩; refine ⟨_, rfl, ?_⟩; have n0_ := ah.mk (Kd.jR rfl hy0 (fun k_ e_ => HO_0.out.1 k_ e_)); have n1_ := ah.mk (Kept.then_ (S := (fun k_ => P0_ k_)) HK.out hkp (fun k_ hs_ => (fun e_ => (HO_0.out.1 k_ e_.symm)) hs_)); have n2_ := ah.mk (hb); clear HO_0; clear HK; clear HB; have HO_0 := n0_; have HK := n1_; have HB := n2_; clear n0_ n1_ n2_; (try clear hb); (try clear hkp); (try clear hy0))))
     go_roundg k1
     case measure => have := HK1.out; omega
     case rel => exact ⟨(t140), (x8_1), (wrap64 (x8_1 + 20)), (by rfl), (by rfl), H', ⟨by have := HK1.out; omega⟩, ⟨by (with_reducible repeat ((apply Kd.aK))); exact HO_0.out⟩, ⟨HK.out⟩, ⟨HB.out⟩⟩
    ·go_wp2_with (((refine gl_ (some 27) Tryz.func138 #[.slice Ao6 x0_1.length co6, .int .i64 x7_1, .int .i64 a1, .func (.func 78) #[] #[]] ?_; (with_reducible refine (bg.calls k1 (fun k_ => some k_ = (.slice Ao6 x0_1.length co6 : Value).ownBlock) (.slice Ao6 x0_1.length co6) x0_1 x7_1 a1 a2 t140 w0 _ ?side1 ?side2 A5.out).mono ?_); (case side1 => repeat ((with_reducible (exact HB.out)))); (case side2 => exact Kd.jh rfl HO_0.out); rintro e w10 ⟨rfl, hy0, hb, hkp⟩; refine ⟨_, rfl, ?_⟩; have n0_ := ah.mk (Kd.jR rfl hy0 (fun k_ e_ => HO_0.out.1 k_ e_)); have n1_ := ah.mk (Kept.then_ (S := (fun k_ => P0_ k_)) HK.out hkp (fun k_ hs_ => (fun e_ => (HO_0.out.1 k_ e_.symm)) hs_)); have n2_ := ah.mk (hb); clear HO_0; clear HK; clear HB; have HO_0 := n0_; have HK := n1_; have HB := n2_; clear n0_ n1_ n2_; (try clear hb); (try clear hkp); (try clear hy0))))
     (try go_simp)
     go_loopg [6] k1 (fun kq v6 w' => ∃ (x0_2 : List (S44)) (x6_2 : Int), v6 = .int .i64 x6_2 ∧ ah (cu.l1 kq x0_2 a1 a2 x6_2 = some r) ∧ ah (kq ≤ k1) ∧ ah (Kd.R k44 44 w' w0.heap.size (fun k_ => (P0_ k_ ∨ w.heap.size ≤ k_)) (.slice Ao6 x0_1.length co6) x0_2) ∧ ah (Kept w w' (fun k_ => P0_ k_)) ∧ ah (Below w0.heap.size w0 w'))
     case atStart => exact ⟨(t140), (20), (by rfl), H', ⟨Nat.le_refl _⟩, ⟨by (with_reducible repeat ((apply Kd.aK))); exact HO_0.out⟩, ⟨HK.out⟩, ⟨HB.out⟩⟩
     case round =>
      clear H'
      (try clear c4b0)
      obtain ⟨x0_2, x6_2, rfl, HA, HK2, HO_0, HK, HB⟩ := hrel
      have hl0_2 := (Kd.aN HO_0.out).1
      rw [hl0_2] at HO_0
      (try simp only [hl0_2])
      cases gk with
      | zero => exact absurd HA.out (by simp [cu.l1])
      | succ k2 =>
       have H := HA.out
       clear HA
       simp only [cu.l1] at H
       by_cases c11 : x6_2 < a1
       ·rw [if_pos c11] at H
        have c11b0 : decide (x6_2 < a1) = true := decide_eq_true c11
        clear c11
        have H' := ah.mk H
        clear H
        go_wp2
        (try go_simp)
        go_loopg [7, 8] k2 (fun kq v7 v8 w' => ∃ (x0_3 : List (S44)) (x7_3 : Int) (x8_3 : Int), v7 = .int .i64 x7_3 ∧ v8 = .int .i64 x8_3 ∧ ah (cu.l2 kq x0_3 a1 a2 x6_2 x7_3 x8_3 = some r) ∧ ah (kq ≤ k2) ∧ ah (Kd.R k44 44 w' w0.heap.size (fun k_ => (P0_ k_ ∨ w.heap.size ≤ k_)) (.slice Ao6 x0_2.length co6) x0_3) ∧ ah (Kept w w' (fun k_ => P0_ k_)) ∧ ah (Below w0.heap.size w0 w'))
        case atStart => exact ⟨(x0_2), (0), (wrap64 (2 * x6_2)), (by rfl), (by rfl), H', ⟨Nat.le_refl _⟩, ⟨by (with_reducible repeat ((apply Kd.aK))); exact HO_0.out⟩, ⟨HK.out⟩, ⟨HB.out⟩⟩
        case round =>
         clear H'
         (try clear c11b0)
         obtain ⟨x0_3, x7_3, x8_3, rfl, rfl, HA, HK3, HO_0, HK, HB⟩ := hrel
         have hl0_3 := (Kd.aN HO_0.out).1
         rw [hl0_3] at HO_0
         (try simp only [hl0_3])
         cases gk with
         | zero => exact absurd HA.out (by simp [cu.l2])
         | succ k3 =>
          have H := HA.out
          clear HA
          simp only [cu.l2] at H
          by_cases c12 : x8_3 ≤ a1
          focus
           rw [if_pos c12] at H
           have c12b0 : decide (x8_3 ≤ a1) = true := decide_eq_true c12
           clear c12
           obtain ⟨t142, A13, H⟩ := bP H
           have H' := ah.mk H
           clear H
           go_wp2_with (((refine gl_ (some 43) Tryz.func139 #[.slice Ao6 x0_3.length co6, .int .i64 x7_3, .int .i64 (wrap64 (x7_3 + x6_2)), .int .i64 x8_3, .func (.func 78) #[] #[]] ?_; (with_reducible refine (au.calls k3 (fun k_ => some k_ = (.slice Ao6 x0_3.length co6 : Value).ownBlock) (.slice Ao6 x0_3.length co6) x0_3 x7_3 (wrap64 (x7_3 + x6_2)) x8_3 a2 t142 w0 _ ?side1 ?side2 A13.out).mono ?_); (case side1 => repeat ((with_reducible (exact HB.out)))); (case side2 => exact Kd.jh rfl HO_0.out); rintro e w14 ⟨rfl, hy0, hb, hkp⟩; refine ⟨_, rfl, ?_⟩; have n0_ := ah.mk (Kd.jR rfl hy0 (fun k_ e_ => HO_0.out.1 k_ e_)); have n1_ := ah.mk (Kept.then_ (S := (fun k_ => P0_ k_)) HK.out hkp (fun k_ hs_ => (fun e_ => (HO_0.out.1 k_ e_.symm)) hs_)); have n2_ := ah.mk (hb); clear HO_0; clear HK; clear HB; have HO_0 := n0_; have HK := n1_; have HB := n2_; clear n0_ n1_ n2_; (try clear hb); (try clear hkp); (try clear hy0))))
           (try simp only [← hl0_3])
          rotate_left
          focus
           rw [if_neg c12] at H
           have c12b0 : decide (x8_3 ≤ a1) = false := decide_eq_false c12
           clear c12
           by_cases c15 : (wrap64 (x7_3 + x6_2)) < a1
           focus
            rw [if_pos c15] at H
            have c15b0 : decide ((wrap64 (x7_3 + x6_2)) < a1) = true := decide_eq_true c15
            clear c15
            obtain ⟨t143, A16, H⟩ := bP H
            have H' := ah.mk H
            clear H
            go_wp2_with (((refine gl_ (some 60) Tryz.func139 #[.slice Ao6 x0_3.length co6, .int .i64 x7_3, .int .i64 (wrap64 (x7_3 + x6_2)), .int .i64 a1, .func (.func 78) #[] #[]] ?_; (with_reducible refine (au.calls k3 (fun k_ => some k_ = (.slice Ao6 x0_3.length co6 : Value).ownBlock) (.slice Ao6 x0_3.length co6) x0_3 x7_3 (wrap64 (x7_3 + x6_2)) a1 a2 t143 w0 _ ?side1 ?side2 A16.out).mono ?_); (case side1 => repeat ((with_reducible (exact HB.out)))); (case side2 => exact Kd.jh rfl HO_0.out); rintro e w17 ⟨rfl, hy0, hb, hkp⟩; refine ⟨_, rfl, ?_⟩; have n0_ := ah.mk (Kd.jR rfl hy0 (fun k_ e_ => HO_0.out.1 k_ e_)); have n1_ := ah.mk (Kept.then_ (S := (fun k_ => P0_ k_)) HK.out hkp (fun k_ hs_ => (fun e_ => (HO_0.out.1 k_ e_.symm)) hs_)); have n2_ := ah.mk (hb); clear HO_0; clear HK; clear HB; have HO_0 := n0_; have HK := n1_; have HB := n2_; clear n0_ n1_ n2_; (try clear hb); (try clear hkp); (try clear hy0))))
           rotate_left
           focus
            rw [if_neg c15] at H
            have c15b0 : decide ((wrap64 (x7_3 + x6_2)) < a1) = false := decide_eq_false c15
            clear c15
            have H' := ah.mk H
            clear H
            go_wp2
           rotate_left
           all_goals
            (try simp only [← hl0_2, ← hl0_3])
          rotate_left 2
          all_goals
           go_roundg k3
           case measure => have := HK1.out; have := HK2.out; have := HK3.out; omega
          ·case rel => exact ⟨(t142), (x8_3), (wrap64 (x8_3 + (wrap64 (2 * x6_2)))), (by rfl), (by rfl), H', ⟨by have := HK1.out; have := HK2.out; have := HK3.out; omega⟩, ⟨by (try simp only [hl0_3]); (with_reducible repeat ((apply Kd.aK))); exact HO_0.out⟩, ⟨HK.out⟩, ⟨HB.out⟩⟩
          ·case rel => exact ⟨(t143), (wrap64 (x6_2 * 2)), (by rfl), H', ⟨by have := HK1.out; have := HK2.out; have := HK3.out; omega⟩, ⟨by (try simp only [hl0_2]); (try simp only [hl0_3]); (with_reducible repeat ((apply Kd.aK))); exact HO_0.out⟩, ⟨HK.out⟩, ⟨HB.out⟩⟩
          ·case rel => exact ⟨(x0_3), (wrap64 (x6_2 * 2)), (by rfl), H', ⟨by have := HK1.out; have := HK2.out; have := HK3.out; omega⟩, ⟨by (try simp only [hl0_2]); (try simp only [hl0_3]); (with_reducible repeat ((apply Kd.aK))); exact HO_0.out⟩, ⟨HK.out⟩, ⟨HB.out⟩⟩
       ·rw [if_neg c11] at H
        have c11b0 : decide (x6_2 < a1) = false := decide_eq_false c11
        clear c11
        obtain rfl := Option.some.inj H
        go_wp2
        go_end0
        exact ⟨by rfl, (by (exact (by ((exact HO_0.out))))), HB.out, HK.out⟩
def ou.f (k : Nat) (l0 : List (S44)) (a1 : Int) : Option ((List (S44))) := (cu.f k l0 (l0.length : Int) a1).bind fun t144 => (some t144)
theorem ou.calls (k : Nat) (P0_ : Nat → Prop) (u9000_ : Value) (l0 : List (S44)) (a1 : Int) (r : List (S44)) (w0 w : World) (hB : Below w0.heap.size w0 w) (ho0 : Kd.R k44 44 w w0.heap.size P0_ u9000_ l0) (h : ou.f k l0 a1 = some r) :
  Calls Tryz.prog 77 #[u9000_, .func (.func 78) #[] #[]] w fun e w' => e = .returned (.tuple #[]) ∧ Kd.R k44 44 w' w0.heap.size (fun k_ => (P0_ k_ ∨ w.heap.size ≤ k_)) u9000_ r ∧ Below w0.heap.size w0 w' ∧ Kept w w' (fun k_ => P0_ k_) := by
 have HO0 := ah.mk (show Kd.R k44 44 w w0.heap.size (fun k_ => (P0_ k_ ∨ w.heap.size ≤ k_)) u9000_ l0 from Kd.dH ho0 (fun k_ hk => (.inl hk)))
 have HK := ah.mk (Kept.refl w (fun k_ => P0_ k_))
 have HW0 := ah.mk hB.size
 have HB := ah.mk hB
 clear hB
 have H : ((cu.f k l0 (l0.length : Int) a1).bind fun t144 => (some t144)) = some r := h
 clear h
 obtain ⟨t144, A3, H⟩ := bP H
 obtain rfl := Option.some.inj H
 obtain ⟨Ao4, co4, eo4⟩ := Kd.bO HO0.out
 subst eo4
 go_enter Tryz.func77, Tryz.ntmps77
 go_wp2_with (((refine gl_ (some 8) Tryz.func110 #[.slice Ao4 l0.length co4, .int .i64 (l0.length : Int), .func (.func 78) #[] #[]] ?_; (with_reducible refine (cu.calls k (fun k_ => some k_ = (.slice Ao4 l0.length co4 : Value).ownBlock) (.slice Ao4 l0.length co4) l0 (l0.length : Int) a1 t144 w0 _ ?side1 ?side2 A3.out).mono ?_); (case side1 => repeat ((with_reducible (exact HB.out)))); (case side2 => exact Kd.jh rfl HO0.out); rintro e w5 ⟨rfl, hy0, hb, hkp⟩; refine ⟨_, rfl, ?_⟩; have n0_ := ah.mk (Kd.jR rfl hy0 (fun k_ e_ => HO0.out.1 k_ e_)); have n1_ := ah.mk (Kept.then_ (S := (fun k_ => P0_ k_)) HK.out hkp (fun k_ hs_ => (fun e_ => (HO0.out.1 k_ e_.symm)) hs_)); have n2_ := ah.mk (hb); clear HO0; clear HK; clear HB; have HO0 := n0_; have HK := n1_; have HB := n2_; clear n0_ n1_ n2_; (try clear hb); (try clear hkp); (try clear hy0))))
 go_end0
 exact ⟨by rfl, by (with_reducible repeat ((apply Kd.aK))); exact HO0.out, HB.out, HK.out⟩
def kT.f (k : Nat) (a0_0 : ByteArray) (a0_1 : Int) (a0_2 : Int) (a0_3 : Int) (a0_4 : ByteArray) (a1_0 : ByteArray) (a1_1 : Int) (a1_2 : Int) (a1_3 : Int) (a1_4 : ByteArray) : Option (Bool) := (dI.f k a0_0 a0_1 a0_2 a0_3 a0_4 a1_0 a1_1 a1_2 a1_3 a1_4).bind fun t147 => (some (t147 == 0))
theorem kT.calls (k : Nat) (a0_0 : ByteArray) (a0_1 : Int) (a0_2 : Int) (a0_3 : Int) (a0_4 : ByteArray) (a1_0 : ByteArray) (a1_1 : Int) (a1_2 : Int) (a1_3 : Int) (a1_4 : ByteArray) (r : Bool) (w : World) (h : kT.f k a0_0 a0_1 a0_2 a0_3 a0_4 a1_0 a1_1 a1_2 a1_3 a1_4 = some r) :
  Calls Tryz.prog 80 #[.agg #[.string a0_0, .int .i64 a0_1, .int .i64 a0_2, .int .i64 a0_3, .string a0_4], .agg #[.string a1_0, .int .i64 a1_1, .int .i64 a1_2, .int .i64 a1_3, .string a1_4]] w fun e w' => e = .returned (.bool r) ∧ Below w.heap.size w w' := by
 have hu44 := Tryz.underlying44
 have HB := ah.mk (Below.refl w.heap.size w)
 have H : ((dI.f k a0_0 a0_1 a0_2 a0_3 a0_4 a1_0 a1_1 a1_2 a1_3 a1_4).bind fun t147 => (some (t147 == 0))) = some r := h
 clear h
 obtain ⟨t147, A3, H⟩ := bP H
 obtain rfl := Option.some.inj H
 go_enter Tryz.func80, Tryz.ntmps80
 go_wp2_with (first | ((with_reducible refine bF (N := 2) rfl ?_); refine bQ ?hg (N := 2) ?hd (cs := #[.string a0_0, .int .i64 a0_1, .int .i64 a0_2, .int .i64 a0_3, .string a0_4]) (t := 44) ?hr ?_; (case hd => rfl); (case hg => rfl); (case hr => (go_simp; done)); intro gb145 hg w4 hbox hb; have BK145 := ah.mk (hbox); have GW145 := ah.mk (ge_ hg (av HB.out)); have GE145 := ah.mk (ge_ hg (av HB.out)); replace HB := ah.mk (ak HB.out hb); clear hb hbox hg) | ((with_reducible refine bF (N := 3) rfl ?_); refine bQ ?hg (N := 3) ?hd (cs := #[.string a1_0, .int .i64 a1_1, .int .i64 a1_2, .int .i64 a1_3, .string a1_4]) (t := 44) ?hr ?_; (case hd => rfl); (case hg => rfl); (case hr => (go_simp; done)); intro gb146 hg w5 hbox hb; have BK146 := ah.mk (hbox); have GW146 := ah.mk (ge_ hg (av HB.out)); have GE146 := ah.mk (ge_ hg (av HB.out)); have NB145_146 := ah.mk (nl_ hg (by ((exact BK145.out)))); have NB146_145 := ah.mk (nr_ hg (by ((exact BK145.out)))); replace BK145 := ah.mk (aD (by ((exact BK145.out))) hb); replace HB := ah.mk (ak HB.out hb); clear hb hbox hg; have hnb6 := NB145_146.out; have hnc6 := NB146_145.out; obtain ⟨hcz7_0, hcz7_1, hcz7_2, hcz7_3, hcz7_4, hfz7_0, hfz7_1, hfz7_2, hfz7_3, hfz7_4⟩ := z5_ BK145.out; obtain ⟨hcz8_0, hcz8_1, hcz8_2, hcz8_3, hcz8_4, hfz8_0, hfz8_1, hfz8_2, hfz8_3, hfz8_4⟩ := z5_ BK146.out) | (refine gl_ (some 7) Tryz.func78 #[.agg #[.string a0_0, .int .i64 a0_1, .int .i64 a0_2, .int .i64 a0_3, .string a0_4], .agg #[.string a1_0, .int .i64 a1_1, .int .i64 a1_2, .int .i64 a1_3, .string a1_4]] ?_; (with_reducible refine (dI.calls k a0_0 a0_1 a0_2 a0_3 a0_4 a1_0 a1_1 a1_2 a1_3 a1_4 t147 _ A3.out).mono ?_); rintro e w9 ⟨rfl, hb⟩; refine ⟨_, rfl, ?_⟩; replace BK145 := ah.mk (aD (by ((exact BK145.out))) hb); replace BK146 := ah.mk (aD (by ((exact BK146.out))) hb); replace HB := ah.mk (ak HB.out hb); (try clear hb)))
 go_ret
 exact ⟨by rfl, HB.out⟩
end Go.Y.PSo
namespace Go.Y.Rrs
open Go.RowKit Go.V.aC Go.V.aV Go.V.aX Go.Y.Given Go.Y.PRd Go.Y.PRr Go.Y.PSo Go.Y.gu Go.Y.iD
theorem nC {l p s : List RR} {x : RR} {i : Nat} (e : l = p ++ x :: s) (hi : i = p.length) : rdR l (i : Nat) = x := by
 subst e
 subst hi
 rw [eH _ _ (by simp)]
 simp
theorem w64 {x : Int} {n : Nat} (h : x = (n : Int)) (hn : n ≤ 9223372036854775807) : wrap64 x = (n : Int) := by rw [h]; unfold wrap64; omega
theorem half (i j : Nat) (h : i + j ≤ 4000000) : wrap64 ((IntKind.u64.wrap (wrap64 ((i : Int) + (j : Int)))) / 2) = (((i + j) / 2 : Nat) : Int) := by
 have e1 : wrap64 ((i : Int) + (j : Int)) = ((i + j : Nat) : Int) := w64 (by omega) (by omega)
 have e2 : ((i + j : Nat) : Int) % 2 ^ 64 = ((i + j : Nat) : Int) := by omega
 have e3 : IntKind.u64.wrap ((i + j : Nat) : Int) = ((i + j : Nat) : Int) := by
  simp only [IntKind.wrap, IntKind.bits, IntKind.signed, e2]; rw [if_neg (by simp)]
 rw [e1, e3]
 exact w64 (by omega) (by omega)
theorem Ct (l : List RR) (i j : Nat) (hi : i < l.length) (hj : j < l.length) : (l.set i (rdR l (j : Nat))).set j (rdR l (i : Nat)) = sw l i j := by
 unfold sw
 rw [List.getElem?_eq_getElem hi, List.getElem?_eq_getElem hj, eH l i hi, eH l j hj]
theorem oO (l : List RR) (hl : ∀ y ∈ l, fine y) (i j : Nat) (hi : i < l.length) (hj : j < l.length) : Ev (fun k => qG k (rdR l (i : Nat)) (rdR l (j : Nat))) (aW (rdR l (i : Nat)) (rdR l (j : Nat))) := by
 rw [eH l i hi, eH l j hj]
 exact yZ _ _ (hl _ (List.getElem_mem _)) (hl _ (List.getElem_mem _))
theorem Fe (l : List RR) (hn : l.length ≤ 1000000) (a b n : Nat) (z : Int) (h1 : a + n ≤ b) (h2 : b + n ≤ l.length) : ∀ (d i : Nat), i + d = n → Ev (fun k => dO.l0 k (swR l a b i) (a : Int) (b : Int) (n : Int) (i : Int)) (swR l a b n) := by
 intro d
 induction d with
 | zero =>
  intro i hi
  obtain rfl : i = n := by omega
  exact Ev.step (f := fun _ => some (swR l a b i)) (fun k => by simp only [dO.l0]; rw [if_neg (by omega)]) (Ev.now _)
 | succ d ih =>
  intro i hi
  have hl := jK l a b i
  have ea : wrap64 ((a : Int) + (i : Int)) = ((a + i : Nat) : Int) := w64 (by omega) (by omega)
  have eb : wrap64 ((b : Int) + (i : Int)) = ((b + i : Nat) : Int) := w64 (by omega) (by omega)
  have ei : wrap64 ((i : Int) + 1) = ((i + 1 : Nat) : Int) := w64 (by omega) (by omega)
  have hs := Ct (swR l a b i) (a + i) (b + i) (by omega) (by omega)
  refine Ev.step (f := fun k => dO.l0 k (swR l a b (i + 1)) (a : Int) (b : Int) (n : Int) ((i + 1 : Nat) : Int)) (fun k => ?_) (ih (i + 1) (by omega))
  simp only [dO.l0, ea, eb, ei]
  rw [if_pos (by omega), if_pos (by omega), if_pos (by rw [hl]; omega), if_pos (by omega), if_pos (by rw [hl]; omega)]
  rw [swR, ← hs]
  rfl
theorem zx (l : List RR) (hn : l.length ≤ 1000000) (a b n : Nat) (z : Int) (h1 : a + n ≤ b) (h2 : b + n ≤ l.length) : Ev (fun k => dO.f k l (a : Int) (b : Int) (n : Int) z) (swR l a b n) :=
 Fe l hn a b n z h1 h2 n 0 (by omega)
theorem EP (m : Nat) (z : Int) : ∀ (s i j : Nat) (l : List RR), i + j ≤ s → 0 < i → 0 < j → i ≤ m → m + j ≤ l.length → l.length ≤ 1000000 → ∃ l', Rot l l' m i j ∧ Ev (fun k => fH.l0 k l (m : Int) z (i : Int) (j : Int)) l' := by
 intro s
 induction s with
 | zero => intro i j l h; omega
 | succ s ih =>
  intro i j l hs hi hj him hm hn
  have e1 : wrap64 ((m : Int) - (i : Int)) = ((m - i : Nat) : Int) := w64 (by omega) (by omega)
  by_cases h0 : i = j
  ·subst h0
   refine ⟨_, EO l m i him hm, Ev.step (f := fun k => (dO.f k l ((m - i : Nat) : Int) (m : Int) (i : Int) z).bind fun t => some t) (fun k => by simp only [fH.l0, e1]; rw [if_pos trivial]) ?_⟩
   exact Ev.bind (zx l hn (m - i) m i z (by omega) (by omega)) (Ev.now _)
  ·by_cases h1 : j < i
   ·have e2 : wrap64 ((i : Int) - (j : Int)) = ((i - j : Nat) : Int) := w64 (by omega) (by omega)
    obtain ⟨l', hr, he⟩ := ih (i - j) j (swR l (m - i) m j) (by omega) (by omega) hj (by omega) (by rw [jK]; omega) (by rw [jK]; omega)
    refine ⟨l', FR h1 him hm hr, Ev.step (f := fun k => (dO.f k l ((m - i : Nat) : Int) (m : Int) (j : Int) z).bind fun t => fH.l0 k t (m : Int) z ((i - j : Nat) : Int) (j : Int)) (fun k => by simp only [fH.l0, e1, e2]; rw [if_neg (by omega), if_pos (by omega)]) ?_⟩
    exact Ev.bind (zx l hn (m - i) m j z (by omega) (by omega)) he
   ·have e2 : wrap64 ((j : Int) - (i : Int)) = ((j - i : Nat) : Int) := w64 (by omega) (by omega)
    have e3 : wrap64 (wrap64 ((m : Int) + (j : Int)) - (i : Int)) = ((m + j - i : Nat) : Int) := by
     rw [show wrap64 ((m : Int) + (j : Int)) = ((m + j : Nat) : Int) from w64 (by omega) (by omega)]
     exact w64 (by omega) (by omega)
    obtain ⟨l', hr, he⟩ := ih i (j - i) (swR l (m - i) (m + j - i) i) (by omega) hi (by omega) him (by rw [jK]; omega) (by rw [jK]; omega)
    refine ⟨l', Cq (by omega) him hm hr, Ev.step (f := fun k => (dO.f k l ((m - i : Nat) : Int) ((m + j - i : Nat) : Int) (i : Int) z).bind fun t => fH.l0 k t (m : Int) z (i : Int) ((j - i : Nat) : Int)) (fun k => by simp only [fH.l0, e1, e2, e3]; rw [if_neg (by omega), if_neg (by omega)]) ?_⟩
    exact Ev.bind (zx l hn (m - i) (m + j - i) i z (by omega) (by omega)) he
theorem Ja (p u v s : List RR) (z : Int) (hu : 0 < u.length) (hv : 0 < v.length) (hn : (p ++ (u ++ (v ++ s))).length ≤ 1000000) :
  Ev (fun k => fH.f k (p ++ (u ++ (v ++ s))) (p.length : Int) ((p.length + u.length : Nat) : Int) ((p.length + u.length + v.length : Nat) : Int) z) (p ++ (v ++ (u ++ s))) := by
 have hl : (p ++ (u ++ (v ++ s))).length = p.length + u.length + v.length + s.length := by simp; omega
 have e1 : wrap64 (((p.length + u.length : Nat) : Int) - (p.length : Int)) = (u.length : Int) := w64 (by omega) (by omega)
 have e2 : wrap64 (((p.length + u.length + v.length : Nat) : Int) - ((p.length + u.length : Nat) : Int)) = (v.length : Int) := w64 (by omega) (by omega)
 obtain ⟨l', hr, he⟩ := EP (p.length + u.length) z (u.length + v.length) u.length v.length _ (Nat.le_refl _) hu hv (by omega) (by omega) hn
 rw [Eb hr] at he
 refine Ev.congr (fun k => ?_) he
 unfold fH.f
 rw [e1, e2]
theorem Iq (a b i : Nat) (z : Int) (p t : List RR) (x : RR) (hp : p.length = a) : ∀ (n : Nat) (m1 m2 : List RR), m1.length = n → Sorted aW (m1 ++ m2) → (∀ y ∈ m2, aW x y < 0) → (∀ y ∈ p ++ ((m1 ++ x :: m2) ++ t), fine y) →
  (p ++ ((m1 ++ x :: m2) ++ t)).length ≤ 1000000 → i ≤ 1000000 → ∃ m', fu aW ((m1 ++ m2) ++ [x]) m' ∧ m'.length = m1.length + m2.length + 1 ∧ (∀ y ∈ m', y ∈ m1 ++ x :: m2) ∧
   ∀ r, Ev (fun k => bg.l0 k (p ++ (m' ++ t)) (a : Int) (b : Int) ((i + 1 : Nat) : Int)) r → Ev (fun k => bg.l1 k (p ++ ((m1 ++ x :: m2) ++ t)) (a : Int) (b : Int) (i : Int) ((a + m1.length : Nat) : Int)) r := by
 intro n
 induction n with
 | zero =>
  intro m1 m2 h0 hs h2 hf hn hi
  obtain rfl := List.length_eq_zero_iff.mp h0
  have e1 : wrap64 ((i : Int) + 1) = ((i + 1 : Nat) : Int) := w64 (by omega) (by omega)
  refine ⟨[] ++ x :: m2, oD fD hs (fun y hy => by cases hy) h2, by simp, fun y hy => hy, fun r hr => ?_⟩
  refine Ev.step (f := fun k => bg.l0 k (p ++ (([] ++ x :: m2) ++ t)) (a : Int) (b : Int) ((i + 1 : Nat) : Int)) (fun k => by simp only [bg.l1, e1]; rw [if_neg (by simp)]) hr
 | succ n ih =>
  intro m1 m2 h0 hs h2 hf hn hi
  obtain ⟨m0, y, rfl⟩ : ∃ m0 y, m1 = m0 ++ [y] := ⟨m1.dropLast, m1.getLast (by intro e; rw [e] at h0; cases h0), (List.dropLast_concat_getLast (by intro e; rw [e] at h0; cases h0)).symm⟩
  have hm0 : m0.length = n := by simpa using h0
  have hlen : (p ++ (((m0 ++ [y]) ++ x :: m2) ++ t)).length = a + n + 1 + 1 + m2.length + t.length := by simp [hp, hm0]; omega
  have e1 : wrap64 ((i : Int) + 1) = ((i + 1 : Nat) : Int) := w64 (by omega) (by omega)
  have ej : wrap64 (((a + (m0 ++ [y]).length : Nat) : Int) - 1) = ((a + n : Nat) : Int) := w64 (by simp [hm0]; omega) (by omega)
  have el : p ++ (((m0 ++ [y]) ++ x :: m2) ++ t) = (p ++ m0) ++ y :: x :: (m2 ++ t) := by simp
  have hpm : (p ++ m0).length = a + n := by simp [hp, hm0]
  have ry : rdR (p ++ (((m0 ++ [y]) ++ x :: m2) ++ t)) ((a + n : Nat) : Int) = y := nC el hpm.symm
  have rx : rdR (p ++ (((m0 ++ [y]) ++ x :: m2) ++ t)) ((a + (m0 ++ [y]).length : Nat) : Int) = x := nC (p := (p ++ m0) ++ [y]) (s := m2 ++ t) (by rw [el]; simp) (by simp [hp, hm0])
  have hj : a + (m0 ++ [y]).length = a + n + 1 := by simp [hm0]; omega
  have hfx : fine x := hf x (by simp)
  have hfy : fine y := hf y (by simp)
  have hsw : ((p ++ (((m0 ++ [y]) ++ x :: m2) ++ t)).set (a + n + 1) y).set (a + n) x = p ++ ((m0 ++ x :: (y :: m2)) ++ t) := by
   rw [el, Ed (p ++ m0) (m2 ++ t) y x (a + n) hpm.symm]; simp
  have hstep : ∀ k, bg.l1 (k + 1) (p ++ (((m0 ++ [y]) ++ x :: m2) ++ t)) (a : Int) (b : Int) (i : Int) ((a + (m0 ++ [y]).length : Nat) : Int) =
    (qG k x y).bind fun c => if c < 0 then bg.l1 k (p ++ ((m0 ++ x :: (y :: m2)) ++ t)) (a : Int) (b : Int) (i : Int) ((a + m0.length : Nat) : Int) else bg.l0 k (p ++ (((m0 ++ [y]) ++ x :: m2) ++ t)) (a : Int) (b : Int) ((i + 1 : Nat) : Int) := fun k => by
   simp only [bg.l1, ej, e1]
   rw [if_pos (by omega), if_pos (by omega), if_pos (by omega), if_pos (by omega), if_pos (by omega)]
   have hset : ((p ++ (((m0 ++ [y]) ++ x :: m2) ++ t)).set ((a + (m0 ++ [y]).length : Nat) : Int).toNat (rdR (p ++ (((m0 ++ [y]) ++ x :: m2) ++ t)) ((a + n : Nat) : Int))).set ((a + n : Nat) : Int).toNat (rdR (p ++ (((m0 ++ [y]) ++ x :: m2) ++ t)) ((a + (m0 ++ [y]).length : Nat) : Int)) = p ++ ((m0 ++ x :: (y :: m2)) ++ t) := by
    rw [ry, rx, Int.toNat_natCast, Int.toNat_natCast, hj, hsw]
   show ((qG k (rdR (p ++ (((m0 ++ [y]) ++ x :: m2) ++ t)) ((a + (m0 ++ [y]).length : Nat) : Int)) (rdR (p ++ (((m0 ++ [y]) ++ x :: m2) ++ t)) ((a + n : Nat) : Int))).bind fun c => if c < 0 then bg.l1 k (((p ++ (((m0 ++ [y]) ++ x :: m2) ++ t)).set ((a + (m0 ++ [y]).length : Nat) : Int).toNat (rdR (p ++ (((m0 ++ [y]) ++ x :: m2) ++ t)) ((a + n : Nat) : Int))).set ((a + n : Nat) : Int).toNat (rdR (p ++ (((m0 ++ [y]) ++ x :: m2) ++ t)) ((a + (m0 ++ [y]).length : Nat) : Int))) (a : Int) (b : Int) (i : Int) ((a + n : Nat) : Int) else _) = _
   rw [hset, ry, rx, hm0]
  by_cases hc : aW x y < 0
  ·obtain ⟨m', h3, h4, h5, h6⟩ := ih m0 (y :: m2) hm0 (by simpa using hs) (fun w hw => by
    rcases List.mem_cons.mp hw with rfl | hw
    ·exact hc
    ·exact h2 w hw) (fun w hw => hf w (by simp at hw ⊢; rcases hw with h | h | h | h | h | h <;> simp [h])) (by simp at hn ⊢; omega) hi
   refine ⟨m', by simpa using h3, by rw [h4]; simp; omega, fun w hw => ?_, fun r hr => Ev.step hstep (Ev.bind (yZ x y hfx hfy) ?_)⟩
   ·have := h5 w hw
    simp at this ⊢
    rcases this with h | h | h | h <;> simp [h]
   ·simp only [hc, if_true]
    exact h6 r hr
  ·refine ⟨(m0 ++ [y]) ++ x :: m2, oD fD hs (fun w hw => ?_) h2, by simp; omega, fun w hw => hw, fun r hr => Ev.step hstep (Ev.bind (yZ x y hfx hfy) ?_)⟩
   ·have h7 : aW y x ≤ 0 := by have := fD.flip x y; omega
    rcases List.mem_append.mp hw with hw | hw
    ·have h8 : Sorted aW (m0 ++ [y]) := mD hs
     exact fD.le_trans (kP h8 w hw y (by simp)) h7
    ·rw [List.mem_singleton] at hw
     rw [hw]; exact h7
   ·simp only [hc, if_false]
    exact hr
theorem Ia (a b : Nat) (z : Int) (p s : List RR) (hp : p.length = a) : ∀ (n : Nat) (m r : List RR), r.length = n → a + m.length + n = b → 0 < m.length → Sorted aW m → (∀ y ∈ p ++ ((m ++ r) ++ s), fine y) → (p ++ ((m ++ r) ++ s)).length ≤ 1000000 →
  ∃ m', fu aW (m ++ r) m' ∧ m'.length = m.length + n ∧ Ev (fun k => bg.l0 k (p ++ ((m ++ r) ++ s)) (a : Int) (b : Int) ((a + m.length : Nat) : Int)) (p ++ (m' ++ s)) := by
 intro n
 induction n with
 | zero =>
  intro m r h0 hb hm hs hf hn
  obtain rfl := List.length_eq_zero_iff.mp h0
  rw [List.append_nil]
  exact ⟨m, fu.sK hs, by omega, Ev.step (f := fun _ => some (p ++ (m ++ s))) (fun k => by simp only [bg.l0]; rw [if_neg (by omega)]) (Ev.now _)⟩
 | succ n ih =>
  intro m r h0 hb hm hs hf hn
  obtain ⟨x, r, rfl⟩ : ∃ x r', r = x :: r' := by cases r with | nil => cases h0 | cons x r => exact ⟨x, r, rfl⟩
  have h0' : r.length = n := by simpa using h0
  have hl : (p ++ ((m ++ x :: r) ++ s)).length = a + m.length + 1 + n + s.length := by simp [hp, h0']; omega
  obtain ⟨m', h3, h4, h5, h6⟩ := Iq a b (a + m.length) z p (r ++ s) x hp m.length m [] rfl (by simpa using hs) (fun y hy => by cases hy) (by simpa using hf) (by simpa using hn) (by omega)
  rw [List.append_nil] at h3
  have hperm : ∀ y ∈ m', y ∈ p ++ ((m ++ x :: r) ++ s) := fun y hy => by
   have := h5 y hy
   simp at this ⊢
   rcases this with h | h <;> simp [h]
  obtain ⟨m'', g1, g2, g3⟩ := ih m' r h0' (by simp at h4; omega) (by omega) h3.1 (fun y hy => by
   rcases List.mem_append.mp hy with hy | hy
   ·exact hf y (by simp [hy])
   ·rcases List.mem_append.mp hy with hy | hy
    ·rcases List.mem_append.mp hy with hy | hy
     ·exact hf y (hperm y hy)
     ·exact hf y (by simp [hy])
    ·exact hf y (by simp [hy])) (by simp [hp, h4, h0'] at hn ⊢; omega)
  refine ⟨m'', ⟨g1.1, fun w => ?_⟩, by simp at h4; omega, ?_⟩
  ·rw [g1.2, eT, h3.2, ← eT]; simp
  ·have e : p ++ ((m ++ x :: r) ++ s) = p ++ ((m ++ x :: []) ++ (r ++ s)) := by simp
   refine Ev.step (f := fun k => bg.l1 k (p ++ ((m ++ x :: []) ++ (r ++ s))) (a : Int) (b : Int) ((a + m.length : Nat) : Int) ((a + m.length : Nat) : Int)) (fun k => by simp only [bg.l0]; rw [if_pos (by omega), e]) (h6 _ ?_)
   have e2 : p ++ (m' ++ (r ++ s)) = p ++ ((m' ++ r) ++ s) := by simp
   have e3 : a + m.length + 1 = a + m'.length := by simp at h4; omega
   rw [e2, e3]
   exact g3
theorem zy (p l s : List RR) (z : Int) (hf : ∀ y ∈ p ++ (l ++ s), fine y) (hn : (p ++ (l ++ s)).length ≤ 1000000) :
  ∃ m, fu aW l m ∧ m.length = l.length ∧ Ev (fun k => bg.f k (p ++ (l ++ s)) (p.length : Int) ((p.length + l.length : Nat) : Int) z) (p ++ (m ++ s)) := by
 have hl : (p ++ (l ++ s)).length = p.length + l.length + s.length := by simp; omega
 have e1 : wrap64 ((p.length : Int) + 1) = ((p.length + 1 : Nat) : Int) := w64 (by omega) (by omega)
 cases l with
 | nil =>
  refine ⟨[], fu.sK List.Pairwise.nil, rfl, ?_⟩
  refine Ev.congr (f := fun k => bg.l0 k (p ++ ([] ++ s)) (p.length : Int) ((p.length + [].length : Nat) : Int) ((p.length + 1 : Nat) : Int)) (fun k => by unfold bg.f; rw [e1]) ?_
  exact Ev.step (f := fun _ => some (p ++ ([] ++ s))) (fun k => by simp only [bg.l0]; rw [if_neg (by simp; omega)]) (Ev.now _)
 | cons x l =>
  obtain ⟨m, h1, h2, h3⟩ := Ia p.length (p.length + (x :: l).length) z p s rfl l.length [x] l rfl (by simp; omega) (by simp) (List.pairwise_singleton _ _) (by simpa using hf) (by simpa using hn)
  refine ⟨m, by simpa using h1, by rw [h2]; simp; omega, ?_⟩
  refine Ev.congr (f := fun k => bg.l0 k (p ++ (([x] ++ l) ++ s)) (p.length : Int) ((p.length + (x :: l).length : Nat) : Int) ((p.length + [x].length : Nat) : Int)) (fun k => by unfold bg.f; rw [e1]; rfl) h3
theorem xZ (p l s : List RR) (t : Nat) (ht : t < l.length) : rdR (p ++ (l ++ s)) ((p.length + t : Nat) : Int) = l[t] := by
 refine nC (p := p ++ l.take t) (s := l.drop (t + 1) ++ s) ?_ (by rw [List.length_append, List.length_take]; omega)
 have e : l = l.take t ++ l[t] :: l.drop (t + 1) := by rw [← List.drop_eq_getElem_cons ht, List.take_append_drop]
 calc p ++ (l ++ s) = p ++ ((l.take t ++ l[t] :: l.drop (t + 1)) ++ s) := by rw [← e]
  _ = _ := by simp only [List.append_assoc, List.cons_append]
theorem Fq (x : RR) (t : List RR) : ∀ (v q : List RR) (i : Nat), i = q.length + v.length + 1 → (q ++ x :: (v ++ t)).length ≤ 1000000 → Ev (fun k => au.l1 k (q ++ x :: (v ++ t)) (i : Int) (q.length : Int)) (q ++ (v ++ x :: t)) := by
 intro v
 induction v with
 | nil =>
  intro q i hi hn
  have e1 : wrap64 ((i : Int) - 1) = (q.length : Int) := w64 (by simp at hi; omega) (by simp at hn; omega)
  exact Ev.step (f := fun _ => some (q ++ ([] ++ x :: t))) (fun k => by simp only [au.l1, e1]; rw [if_neg (by omega)]; rfl) (Ev.now _)
 | cons y v ih =>
  intro q i hi hn
  have hl : (q ++ x :: ((y :: v) ++ t)).length = q.length + v.length + t.length + 2 := by simp; omega
  have e1 : wrap64 ((i : Int) - 1) = ((q.length + v.length + 1 : Nat) : Int) := w64 (by simp at hi; omega) (by omega)
  have e2 : wrap64 ((q.length : Int) + 1) = ((q.length + 1 : Nat) : Int) := w64 (by omega) (by omega)
  have rx : rdR (q ++ x :: ((y :: v) ++ t)) (q.length : Int) = x := nC (i := q.length) rfl rfl
  have ry : rdR (q ++ x :: ((y :: v) ++ t)) ((q.length + 1 : Nat) : Int) = y := nC (p := q ++ [x]) (s := v ++ t) (by simp) (by simp)
  have hsw : ((q ++ x :: ((y :: v) ++ t)).set q.length y).set (q.length + 1) x = (q ++ [y]) ++ x :: (v ++ t) := by
   rw [show q ++ x :: ((y :: v) ++ t) = q ++ x :: y :: (v ++ t) by simp, Gu q (v ++ t) x y q.length rfl]; simp
  have h := ih (q ++ [y]) i (by simp at hi ⊢; omega) (by simp at hn ⊢; omega)
  refine Ev.step (f := fun k => au.l1 k ((q ++ [y]) ++ x :: (v ++ t)) (i : Int) ((q ++ [y]).length : Int)) (fun k => ?_) ?_
  ·simp only [au.l1, e1, e2]
   rw [if_pos (by omega), if_pos (by omega), if_pos (by omega), if_pos (by omega), if_pos (by omega)]
   show au.l1 k (((q ++ x :: ((y :: v) ++ t)).set (q.length : Int).toNat (rdR (q ++ x :: ((y :: v) ++ t)) ((q.length + 1 : Nat) : Int))).set ((q.length + 1 : Nat) : Int).toNat (rdR (q ++ x :: ((y :: v) ++ t)) (q.length : Int))) (i : Int) ((q.length + 1 : Nat) : Int) = _
   rw [rx, ry, Int.toNat_natCast, Int.toNat_natCast, hsw]
   simp
  ·have e : q ++ ((y :: v) ++ x :: t) = (q ++ [y]) ++ (v ++ x :: t) := by simp
   rw [e]; exact h
theorem Gj (y : RR) : ∀ (n : Nat) (v q t : List RR), v.length = n → (q ++ (v ++ y :: t)).length ≤ 1000000 → Ev (fun k => au.l3 k (q ++ (v ++ y :: t)) (q.length : Int) ((q.length + v.length : Nat) : Int)) (q ++ y :: (v ++ t)) := by
 intro n
 induction n with
 | zero =>
  intro v q t hv hn
  obtain rfl := List.length_eq_zero_iff.mp hv
  exact Ev.step (f := fun _ => some (q ++ ([] ++ y :: t))) (fun k => by simp only [au.l3]; rw [if_neg (by simp)]) (Ev.now _)
 | succ n ih =>
  intro v q t hv hn
  obtain ⟨v, w, rfl⟩ : ∃ v0 w, v = v0 ++ [w] := ⟨v.dropLast, v.getLast (by intro e; rw [e] at hv; cases hv), (List.dropLast_concat_getLast (by intro e; rw [e] at hv; cases hv)).symm⟩
  have hv' : v.length = n := by simpa using hv
  have hl : (q ++ ((v ++ [w]) ++ y :: t)).length = q.length + n + t.length + 2 := by simp [hv']; omega
  have hj : q.length + (v ++ [w]).length = q.length + n + 1 := by simp [hv']; omega
  have e1 : wrap64 (((q.length + (v ++ [w]).length : Nat) : Int) - 1) = ((q.length + n : Nat) : Int) := w64 (by omega) (by omega)
  have el : q ++ ((v ++ [w]) ++ y :: t) = (q ++ v) ++ w :: y :: t := by simp
  have hqv : (q ++ v).length = q.length + n := by simp [hv']
  have rw_ : rdR (q ++ ((v ++ [w]) ++ y :: t)) ((q.length + n : Nat) : Int) = w := nC el hqv.symm
  have ry : rdR (q ++ ((v ++ [w]) ++ y :: t)) ((q.length + (v ++ [w]).length : Nat) : Int) = y := nC (p := (q ++ v) ++ [w]) (s := t) (by rw [el]; simp) (by simp [hv'])
  have hsw : ((q ++ ((v ++ [w]) ++ y :: t)).set (q.length + n + 1) w).set (q.length + n) y = q ++ (v ++ y :: (w :: t)) := by
   rw [el, Ed (q ++ v) t w y (q.length + n) hqv.symm]; simp
  have h := ih v q (w :: t) hv' (by simp at hn ⊢; omega)
  refine Ev.step (f := fun k => au.l3 k (q ++ (v ++ y :: (w :: t))) (q.length : Int) ((q.length + v.length : Nat) : Int)) (fun k => ?_) ?_
  ·simp only [au.l3, e1]
   rw [if_pos (by omega), if_pos (by omega), if_pos (by omega), if_pos (by omega), if_pos (by omega)]
   show au.l3 k (((q ++ ((v ++ [w]) ++ y :: t)).set ((q.length + (v ++ [w]).length : Nat) : Int).toNat (rdR (q ++ ((v ++ [w]) ++ y :: t)) ((q.length + n : Nat) : Int))).set ((q.length + n : Nat) : Int).toNat (rdR (q ++ ((v ++ [w]) ++ y :: t)) ((q.length + (v ++ [w]).length : Nat) : Int))) (q.length : Int) ((q.length + n : Nat) : Int) = _
   rw [rw_, ry, Int.toNat_natCast, Int.toNat_natCast, hj, hsw, hv']
  ·have e : q ++ y :: ((v ++ [w]) ++ t) = q ++ y :: (v ++ (w :: t)) := by simp
   rw [e]; exact h
theorem Et (l : List RR) (hn : l.length ≤ 1000000) (a i j h k : Nat) (hh : (i + j) / 2 = h) (hij : i < j) (hj : j ≤ l.length) (ha : a < l.length) : au.l0 (k + 1) l (a : Int) (i : Int) (j : Int) = (qG k (rdR l (h : Nat)) (rdR l (a : Nat))).bind fun c => if c < 0 then au.l0 k l (a : Int) ((h + 1 : Nat) : Int) (j : Int) else au.l0 k l (a : Int) (i : Int) (h : Int) := by
 have h1 : h < l.length := by omega
 have c1 : (i : Int) < (j : Int) := by omega
 have c2 : (0 : Int) ≤ (h : Int) := by omega
 have c3 : (h : Int) < (l.length : Int) := by omega
 have c4 : (0 : Int) ≤ (a : Int) := by omega
 have c5 : (a : Int) < (l.length : Int) := by omega
 have e2 : wrap64 ((h : Int) + 1) = ((h + 1 : Nat) : Int) := w64 (by omega) (by omega)
 have e1 := half i j (by omega)
 rw [hh] at e1
 simp only [au.l0, e1, e2]
 rw [if_pos c1, if_pos c2, if_pos c3, if_pos c4, if_pos c5]
 rfl
theorem Ep (l : List RR) (hn : l.length ≤ 1000000) (m i j h k : Nat) (hh : (i + j) / 2 = h) (hij : i < j) (hj : j ≤ l.length) (ha : m < l.length) : au.l2 (k + 1) l (m : Int) (i : Int) (j : Int) = (qG k (rdR l (m : Nat)) (rdR l (h : Nat))).bind fun c => if c < 0 then au.l2 k l (m : Int) (i : Int) (h : Int) else au.l2 k l (m : Int) ((h + 1 : Nat) : Int) (j : Int) := by
 have h1 : h < l.length := by omega
 have c1 : (i : Int) < (j : Int) := by omega
 have c2 : (0 : Int) ≤ (h : Int) := by omega
 have c3 : (h : Int) < (l.length : Int) := by omega
 have c4 : (0 : Int) ≤ (m : Int) := by omega
 have c5 : (m : Int) < (l.length : Int) := by omega
 have e2 : wrap64 ((h : Int) + 1) = ((h + 1 : Nat) : Int) := w64 (by omega) (by omega)
 have e1 := half i j (by omega)
 rw [hh] at e1
 simp only [au.l2, e1, e2]
 rw [if_pos c1, if_pos c4, if_pos c5, if_pos c2, if_pos c3]
 rfl
theorem EM (l : List RR) (hl : ∀ y ∈ l, fine y) (hn : l.length ≤ 1000000) (a m b : Nat) (ha : a < l.length) (hb : b ≤ l.length) (hmono : ∀ t t', m ≤ t → t < t' → t' < b → aW (rdR l (t' : Nat)) (rdR l (a : Nat)) < 0 → aW (rdR l (t : Nat)) (rdR l (a : Nat)) < 0) :
  ∀ (d i j : Nat), j - i ≤ d → m ≤ i → i ≤ j → j ≤ b → (∀ t, m ≤ t → t < i → aW (rdR l (t : Nat)) (rdR l (a : Nat)) < 0) → (∀ t, j ≤ t → t < b → 0 ≤ aW (rdR l (t : Nat)) (rdR l (a : Nat))) →
  ∃ i' : Nat, m ≤ i' ∧ i' ≤ b ∧ (∀ t, m ≤ t → t < i' → aW (rdR l (t : Nat)) (rdR l (a : Nat)) < 0) ∧ (∀ t, i' ≤ t → t < b → 0 ≤ aW (rdR l (t : Nat)) (rdR l (a : Nat))) ∧
   ∀ r, Ev (fun k => au.l1 k l (i' : Int) (a : Int)) r → Ev (fun k => au.l0 k l (a : Int) (i : Int) (j : Int)) r := by
 intro d
 induction d with
 | zero =>
  intro i j hd h1 h2 h3 h4 h5
  obtain rfl : i = j := by omega
  exact ⟨i, h1, h3, h4, h5, fun r hr => Ev.step (fun k => by simp only [au.l0]; rw [if_neg (by omega)]) hr⟩
 | succ d ih =>
  intro i j hd h1 h2 h3 h4 h5
  by_cases hij : i < j
  ·obtain ⟨h, hh⟩ : ∃ h, (i + j) / 2 = h := ⟨_, rfl⟩
   have hs := fun k => Et l hn a i j h k hh hij (by omega) ha
   by_cases hc : aW (rdR l (h : Nat)) (rdR l (a : Nat)) < 0
   ·obtain ⟨i', g1, g2, g3, g4, g5⟩ := ih (h + 1) j (by omega) (by omega) (by omega) h3 (fun t ht1 ht2 => by
     by_cases e : t = h
     ·rw [e]; exact hc
     ·exact hmono t h ht1 (by omega) (by omega) hc) h5
    refine ⟨i', g1, g2, g3, g4, fun r hr => Ev.step hs (Ev.bind (oO l hl h a (by omega) ha) ?_)⟩
    simp only [hc, if_true]
    exact g5 r hr
   ·obtain ⟨i', g1, g2, g3, g4, g5⟩ := ih i h (by omega) h1 (by omega) (by omega) h4 (fun t ht1 ht2 => by
     by_cases e : t = h
     ·rw [e]; omega
     ·exact Int.not_lt.mp fun hh => hc (hmono h t (by omega) (by omega) ht2 hh))
    refine ⟨i', g1, g2, g3, g4, fun r hr => Ev.step hs (Ev.bind (oO l hl h a (by omega) ha) ?_)⟩
    simp only [hc, if_false]
    exact g5 r hr
  ·obtain rfl : i = j := by omega
   exact ⟨i, h1, h3, h4, h5, fun r hr => Ev.step (fun k => by simp only [au.l0]; rw [if_neg (by omega)]) hr⟩
theorem Dq (l : List RR) (hl : ∀ y ∈ l, fine y) (hn : l.length ≤ 1000000) (a m : Nat) (hm : m < l.length) (hmono : ∀ t t', a ≤ t → t < t' → t' < m → aW (rdR l (m : Nat)) (rdR l (t : Nat)) < 0 → aW (rdR l (m : Nat)) (rdR l (t' : Nat)) < 0) :
  ∀ (d i j : Nat), j - i ≤ d → a ≤ i → i ≤ j → j ≤ m → (∀ t, a ≤ t → t < i → 0 ≤ aW (rdR l (m : Nat)) (rdR l (t : Nat))) → (∀ t, j ≤ t → t < m → aW (rdR l (m : Nat)) (rdR l (t : Nat)) < 0) →
  ∃ i' : Nat, a ≤ i' ∧ i' ≤ m ∧ (∀ t, a ≤ t → t < i' → 0 ≤ aW (rdR l (m : Nat)) (rdR l (t : Nat))) ∧ (∀ t, i' ≤ t → t < m → aW (rdR l (m : Nat)) (rdR l (t : Nat)) < 0) ∧
   ∀ r, Ev (fun k => au.l3 k l (i' : Int) (m : Int)) r → Ev (fun k => au.l2 k l (m : Int) (i : Int) (j : Int)) r := by
 intro d
 induction d with
 | zero =>
  intro i j hd h1 h2 h3 h4 h5
  obtain rfl : i = j := by omega
  exact ⟨i, h1, h3, h4, h5, fun r hr => Ev.step (fun k => by simp only [au.l2]; rw [if_neg (by omega)]) hr⟩
 | succ d ih =>
  intro i j hd h1 h2 h3 h4 h5
  by_cases hij : i < j
  ·obtain ⟨h, hh⟩ : ∃ h, (i + j) / 2 = h := ⟨_, rfl⟩
   have hs := fun k => Ep l hn m i j h k hh hij (by omega) hm
   by_cases hc : aW (rdR l (m : Nat)) (rdR l (h : Nat)) < 0
   ·obtain ⟨i', g1, g2, g3, g4, g5⟩ := ih i h (by omega) h1 (by omega) (by omega) h4 (fun t ht1 ht2 => by
     by_cases e : t = h
     ·rw [e]; exact hc
     ·exact hmono h t (by omega) (by omega) ht2 hc)
    refine ⟨i', g1, g2, g3, g4, fun r hr => Ev.step hs (Ev.bind (oO l hl m h hm (by omega)) ?_)⟩
    simp only [hc, if_true]
    exact g5 r hr
   ·obtain ⟨i', g1, g2, g3, g4, g5⟩ := ih (h + 1) j (by omega) (by omega) (by omega) h3 (fun t ht1 ht2 => by
     by_cases e : t = h
     ·rw [e]; omega
     ·exact Int.not_lt.mp fun hh => hc (hmono t h ht1 (by omega) (by omega) hh)) h5
    refine ⟨i', g1, g2, g3, g4, fun r hr => Ev.step hs (Ev.bind (oO l hl m h hm (by omega)) ?_)⟩
    simp only [hc, if_false]
    exact g5 r hr
  ·obtain rfl : i = j := by omega
   exact ⟨i, h1, h3, h4, h5, fun r hr => Ev.step (fun k => by simp only [au.l2]; rw [if_neg (by omega)]) hr⟩
theorem kD {l : List RR} (h : Sorted aW l) (i j : Nat) (hij : i < j) (hj : j < l.length) : aW (l[i]'(by omega)) l[j] ≤ 0 := List.pairwise_iff_getElem.mp h i j (by omega) hj hij
theorem He (z : Int) (p r s : List RR) (x : RR) (hr : 0 < r.length) (hs : Sorted aW r) (hf : ∀ y ∈ p ++ ([x] ++ (r ++ s)), fine y) (hn : (p ++ ([x] ++ (r ++ s))).length ≤ 1000000) :
  ∃ m, fu aW ([x] ++ r) m ∧ m.length = 1 + r.length ∧ Ev (fun k => au.f k (p ++ ([x] ++ (r ++ s))) (p.length : Int) ((p.length + 1 : Nat) : Int) ((p.length + 1 + r.length : Nat) : Int) z) (p ++ (m ++ s)) := by
 have hl : (p ++ ([x] ++ (r ++ s))).length = p.length + 1 + r.length + s.length := by simp; omega
 have e0 : p ++ ([x] ++ (r ++ s)) = (p ++ [x]) ++ (r ++ s) := by simp
 have hp1 : (p ++ [x]).length = p.length + 1 := by simp
 have rx : rdR (p ++ ([x] ++ (r ++ s))) (p.length : Int) = x := nC (i := p.length) (s := r ++ s) rfl rfl
 have rr : ∀ t (ht : t < r.length), rdR (p ++ ([x] ++ (r ++ s))) ((p.length + 1 + t : Nat) : Int) = r[t] := fun t ht => by
  rw [e0, ← hp1]; exact xZ (p ++ [x]) r s t ht
 have e1 : wrap64 (((p.length + 1 : Nat) : Int) - (p.length : Int)) = 1 := w64 (n := 1) (by omega) (by omega)
 obtain ⟨i, g1, g2, g3, g4, g5⟩ := EM _ hf hn p.length (p.length + 1) (p.length + 1 + r.length) (by omega) (by omega) (fun t t' h1 h2 h3 h4 => by
  obtain ⟨u, rfl⟩ : ∃ u, t = p.length + 1 + u := ⟨t - (p.length + 1), by omega⟩
  obtain ⟨u', rfl⟩ : ∃ u, t' = p.length + 1 + u := ⟨t' - (p.length + 1), by omega⟩
  rw [rr u (by omega)]
  rw [rr u' (by omega)] at h4
  have := kD hs u u' (by omega) (by omega)
  by_cases e : aW r[u] r[u'] = 0
  ·rw [fD.cong _ _ _ e]; exact h4
  ·exact fD.trans _ _ _ (by omega) h4) r.length (p.length + 1) (p.length + 1 + r.length) (by omega) (Nat.le_refl _) (by omega) (Nat.le_refl _) (fun t h1 h2 => by omega) (fun t h1 h2 => by omega)
 obtain ⟨q, rfl⟩ : ∃ q, i = p.length + 1 + q := ⟨i - (p.length + 1), by omega⟩
 have hq : q ≤ r.length := by omega
 have hlt : (r.take q).length = q := by rw [List.length_take]; omega
 refine ⟨r.take q ++ x :: r.drop q, ?_, by simp; omega, ?_⟩
 ·have := zo fD (r1 := r.take q) (r2 := r.drop q) (x := x) (by rw [List.take_append_drop]; exact hs) (fun y hy => by
   obtain ⟨t, ht, rfl⟩ := List.getElem_of_mem hy
   rw [hlt] at ht
   have := g3 (p.length + 1 + t) (by omega) (by omega)
   rw [rr t (by omega), rx] at this
   rw [List.getElem_take]; exact this) (fun y hy => by
   obtain ⟨t, ht, rfl⟩ := List.getElem_of_mem hy
   rw [List.length_drop] at ht
   have := g4 (p.length + 1 + (q + t)) (by omega) (by omega)
   rw [rr (q + t) (by omega), rx] at this
   rw [List.getElem_drop]; exact this)
  rw [List.take_append_drop] at this
  exact this
 ·have h := Fq x (r.drop q ++ s) (r.take q) p (p.length + 1 + q) (by rw [hlt]; omega) (by simp at hn ⊢; omega)
  have e2 : p ++ x :: (r.take q ++ (r.drop q ++ s)) = p ++ ([x] ++ (r ++ s)) := by
   rw [← List.append_assoc (r.take q), List.take_append_drop]; rfl
  have e3 : p ++ (r.take q ++ x :: (r.drop q ++ s)) = p ++ ((r.take q ++ x :: r.drop q) ++ s) := by simp
  rw [e2, e3] at h
  exact Ev.step (f := fun k => au.l0 k (p ++ ([x] ++ (r ++ s))) (p.length : Int) ((p.length + 1 : Nat) : Int) ((p.length + 1 + r.length : Nat) : Int)) (fun k => by simp only [au.f, e1]; rw [if_pos trivial]) (g5 _ h)
theorem Gq (z : Int) (p l s : List RR) (y : RR) (hl1 : 1 < l.length) (hs : Sorted aW l) (hf : ∀ w ∈ p ++ (l ++ ([y] ++ s)), fine w) (hn : (p ++ (l ++ ([y] ++ s))).length ≤ 1000000) :
  ∃ m, fu aW (l ++ [y]) m ∧ m.length = l.length + 1 ∧ Ev (fun k => au.f k (p ++ (l ++ ([y] ++ s))) (p.length : Int) ((p.length + l.length : Nat) : Int) ((p.length + l.length + 1 : Nat) : Int) z) (p ++ (m ++ s)) := by
 have hl : (p ++ (l ++ ([y] ++ s))).length = p.length + l.length + 1 + s.length := by simp; omega
 have ry : rdR (p ++ (l ++ ([y] ++ s))) ((p.length + l.length : Nat) : Int) = y := nC (p := p ++ l) (s := s) (by simp) (by simp)
 have rl : ∀ t (ht : t < l.length), rdR (p ++ (l ++ ([y] ++ s))) ((p.length + t : Nat) : Int) = l[t] := fun t ht => xZ p l _ t ht
 have e1 : wrap64 (((p.length + l.length : Nat) : Int) - (p.length : Int)) = (l.length : Int) := w64 (by omega) (by omega)
 have e2 : wrap64 (((p.length + l.length + 1 : Nat) : Int) - ((p.length + l.length : Nat) : Int)) = 1 := w64 (n := 1) (by omega) (by omega)
 obtain ⟨i, g1, g2, g3, g4, g5⟩ := Dq _ hf hn p.length (p.length + l.length) (by omega) (fun t t' h1 h2 h3 h4 => by
  obtain ⟨u, rfl⟩ : ∃ u, t = p.length + u := ⟨t - p.length, by omega⟩
  obtain ⟨u', rfl⟩ : ∃ u, t' = p.length + u := ⟨t' - p.length, by omega⟩
  rw [rl u' (by omega)]
  rw [rl u (by omega)] at h4
  have := kD hs u u' (by omega) (by omega)
  by_cases e : aW l[u] l[u'] = 0
  ·rw [← fD.congr _ _ _ e]; exact h4
  ·exact fD.trans _ _ _ h4 (by omega)) l.length p.length (p.length + l.length) (by omega) (Nat.le_refl _) (by omega) (Nat.le_refl _) (fun t h1 h2 => by omega) (fun t h1 h2 => by omega)
 obtain ⟨q, rfl⟩ : ∃ q, i = p.length + q := ⟨i - p.length, by omega⟩
 have hq : q ≤ l.length := by omega
 have hlt : (l.take q).length = q := by rw [List.length_take]; omega
 refine ⟨l.take q ++ y :: l.drop q, ?_, by simp; omega, ?_⟩
 ·have := oD fD (l1 := l.take q) (l2 := l.drop q) (x := y) (by rw [List.take_append_drop]; exact hs) (fun w hw => by
   obtain ⟨t, ht, rfl⟩ := List.getElem_of_mem hw
   rw [hlt] at ht
   have := g3 (p.length + t) (by omega) (by omega)
   rw [rl t (by omega), ry] at this
   rw [List.getElem_take]
   have := fD.flip y l[t]
   omega) (fun w hw => by
   obtain ⟨t, ht, rfl⟩ := List.getElem_of_mem hw
   rw [List.length_drop] at ht
   have := g4 (p.length + (q + t)) (by omega) (by omega)
   rw [rl (q + t) (by omega), ry] at this
   rw [List.getElem_drop]; exact this)
  rw [List.take_append_drop] at this
  exact this
 ·have h := Gj y (l.drop q).length (l.drop q) (p ++ l.take q) s rfl (by simp at hn ⊢; omega)
  have e3 : (p ++ l.take q) ++ (l.drop q ++ y :: s) = p ++ (l ++ ([y] ++ s)) := by
   rw [List.append_assoc, ← List.append_assoc (l.take q), List.take_append_drop]; rfl
  have e4 : (p ++ l.take q) ++ y :: (l.drop q ++ s) = p ++ ((l.take q ++ y :: l.drop q) ++ s) := by simp
  have e5 : (p ++ l.take q).length = p.length + q := by simp; omega
  have e6 : p.length + q + (l.drop q).length = p.length + l.length := by rw [List.length_drop]; omega
  rw [e3, e4, e5, e6] at h
  exact Ev.step (f := fun k => au.l2 k (p ++ (l ++ ([y] ++ s))) ((p.length + l.length : Nat) : Int) (p.length : Int) ((p.length + l.length : Nat) : Int)) (fun k => by simp only [au.f, e1, e2]; rw [if_neg (by omega), if_pos trivial]) (g5 _ h)
theorem CW (l : List RR) (hn : l.length ≤ 1000000) (a m b : Int) (z mid n : Int) (st r h pp k : Nat) (hh : (st + r) / 2 = h) (hij : st < r) (h2 : h ≤ pp) (h3 : pp - h < l.length) (h4 : h < l.length) : au.l4 (k + 1) l a m b z mid n (st : Int) (r : Int) (pp : Int) =
  (qG k (rdR l ((pp - h : Nat) : Int)) (rdR l (h : Nat))).bind fun c => if c < 0 then au.l4 k l a m b z mid n (st : Int) (h : Int) (pp : Int) else au.l4 k l a m b z mid n ((h + 1 : Nat) : Int) (r : Int) (pp : Int) := by
 have c1 : (st : Int) < (r : Int) := by omega
 have c2 : (0 : Int) ≤ ((pp - h : Nat) : Int) := by omega
 have c3 : ((pp - h : Nat) : Int) < (l.length : Int) := by omega
 have c4 : (0 : Int) ≤ (h : Int) := by omega
 have c5 : (h : Int) < (l.length : Int) := by omega
 have e2 : wrap64 ((h : Int) + 1) = ((h + 1 : Nat) : Int) := w64 (by omega) (by omega)
 have e3 : wrap64 ((pp : Int) - (h : Int)) = ((pp - h : Nat) : Int) := w64 (by omega) (by omega)
 have hr : st + r ≤ 4000000 := by omega
 have e1 := half st r hr
 rw [hh] at e1
 simp only [au.l4, e1, e2, e3]
 rw [if_pos c1, if_pos c2, if_pos c3, if_pos c4, if_pos c5]
 rfl
theorem Du (l : List RR) (hl : ∀ y ∈ l, fine y) (hn : l.length ≤ 1000000) (a m b : Int) (z mid n : Int) (lo hi pp : Nat) (hlo : lo ≤ hi) (hpp : hi ≤ pp + 1) (hh1 : hi ≤ l.length) (hh2 : ∀ c, lo ≤ c → c < hi → pp - c < l.length)
  (hmono : ∀ c c', lo ≤ c → c < c' → c' < hi → aW (rdR l ((pp - c : Nat) : Int)) (rdR l (c : Nat)) < 0 → aW (rdR l ((pp - c' : Nat) : Int)) (rdR l (c' : Nat)) < 0) :
  ∀ (d st r : Nat), r - st ≤ d → lo ≤ st → st ≤ r → r ≤ hi → (∀ c, lo ≤ c → c < st → 0 ≤ aW (rdR l ((pp - c : Nat) : Int)) (rdR l (c : Nat))) → (∀ c, r ≤ c → c < hi → aW (rdR l ((pp - c : Nat) : Int)) (rdR l (c : Nat)) < 0) →
  ∃ s' : Nat, lo ≤ s' ∧ s' ≤ hi ∧ (∀ c, lo ≤ c → c < s' → 0 ≤ aW (rdR l ((pp - c : Nat) : Int)) (rdR l (c : Nat))) ∧ (∀ c, s' ≤ c → c < hi → aW (rdR l ((pp - c : Nat) : Int)) (rdR l (c : Nat)) < 0) ∧
   ∀ res, Ev (fun k => if (s' : Int) < m then au.j6 k l a m b z mid (s' : Int) (wrap64 (n - (s' : Int))) (decide (m < wrap64 (n - (s' : Int)))) else au.j6 k l a m b z mid (s' : Int) (wrap64 (n - (s' : Int))) false) res →
    Ev (fun k => au.l4 k l a m b z mid n (st : Int) (r : Int) (pp : Int)) res := by
 intro d
 induction d with
 | zero =>
  intro st r hd h1 h2 h3 h4 h5
  obtain rfl : st = r := by omega
  exact ⟨st, h1, h3, h4, h5, fun res hr => Ev.step (fun k => by simp only [au.l4]; rw [if_neg (by omega)]) hr⟩
 | succ d ih =>
  intro st r hd h1 h2 h3 h4 h5
  by_cases hij : st < r
  ·obtain ⟨h, hh⟩ : ∃ h, (st + r) / 2 = h := ⟨_, rfl⟩
   have k1 : lo ≤ h := by omega
   have k2 : h < hi := by omega
   have k3 : pp - h < l.length := hh2 h k1 k2
   have k4 : h < l.length := by omega
   have hs := fun k => CW l hn a m b z mid n st r h pp k hh hij (by omega) k3 k4
   by_cases hc : aW (rdR l ((pp - h : Nat) : Int)) (rdR l (h : Nat)) < 0
   ·obtain ⟨i', g1, g2, g3, g4, g5⟩ := ih st h (by omega) h1 (by omega) (by omega) h4 (fun t ht1 ht2 => by
     by_cases e : t = h
     ·rw [e]; exact hc
     ·exact hmono h t k1 (by omega) ht2 hc)
    refine ⟨i', g1, g2, g3, g4, fun r hr => Ev.step hs (Ev.bind (oO l hl _ h k3 k4) ?_)⟩
    simp only [hc, if_true]
    exact g5 r hr
   ·obtain ⟨i', g1, g2, g3, g4, g5⟩ := ih (h + 1) r (by omega) (by omega) (by omega) h3 (fun t ht1 ht2 => by
     by_cases e : t = h
     ·rw [e]; omega
     ·exact Int.not_lt.mp fun hh => hc (hmono t h ht1 (by omega) k2 hh)) h5
    refine ⟨i', g1, g2, g3, g4, fun r hr => Ev.step hs (Ev.bind (oO l hl _ h k3 k4) ?_)⟩
    simp only [hc, if_false]
    exact g5 r hr
  ·obtain rfl : st = r := by omega
   exact ⟨st, h1, h3, h4, h5, fun res hr => Ev.step (fun k => by simp only [au.l4]; rw [if_neg (by omega)]) hr⟩
def BR (z : Int) (n : Nat) : Prop := ∀ (p l r s : List RR), l.length + r.length < n → 0 < l.length → 0 < r.length → Sorted aW l → Sorted aW r → (∀ y ∈ p ++ (l ++ (r ++ s)), fine y) → (p ++ (l ++ (r ++ s))).length ≤ 1000000 →
  ∃ m, fu aW (l ++ r) m ∧ m.length = l.length + r.length ∧ Ev (fun k => au.f k (p ++ (l ++ (r ++ s))) (p.length : Int) ((p.length + l.length : Nat) : Int) ((p.length + l.length + r.length : Nat) : Int) z) (p ++ (m ++ s))
theorem zZ (z : Int) (n : Nat) (IH : BR z n) (p l r s : List RR) (h : l.length + r.length < n) (hl : Sorted aW l) (hr : Sorted aW r) (hf : ∀ y ∈ p ++ (l ++ (r ++ s)), fine y) (hn : (p ++ (l ++ (r ++ s))).length ≤ 1000000) :
  ∃ m, fu aW (l ++ r) m ∧ m.length = l.length + r.length ∧ (0 < l.length → 0 < r.length → Ev (fun k => au.f k (p ++ (l ++ (r ++ s))) (p.length : Int) ((p.length + l.length : Nat) : Int) ((p.length + l.length + r.length : Nat) : Int) z) (p ++ (m ++ s))) ∧
   ((l.length = 0 ∨ r.length = 0) → m = l ++ r) := by
 by_cases h1 : 0 < l.length
 ·by_cases h2 : 0 < r.length
  ·obtain ⟨m, g1, g2, g3⟩ := IH p l r s h h1 h2 hl hr hf hn
   exact ⟨m, g1, g2, fun _ _ => g3, fun e => by omega⟩
  ·obtain rfl := List.length_eq_zero_iff.mp (show r.length = 0 by omega)
   exact ⟨l ++ [], fu.sK (by rw [List.append_nil]; exact hl), by simp, fun _ e => by simp at e, fun _ => rfl⟩
 ·obtain rfl := List.length_eq_zero_iff.mp (show l.length = 0 by omega)
  exact ⟨[] ++ r, fu.sK hr, by simp, fun e => by simp at e, fun _ => rfl⟩
theorem Ga (z : Int) (n : Nat) (IH : BR z n) (p l1 r1 l2 r2 s : List RR) (h1 : l1.length + r1.length < n) (h2 : l2.length + r2.length < n) (hl1 : Sorted aW l1) (hr1 : Sorted aW r1) (hl2 : Sorted aW l2) (hr2 : Sorted aW r2)
  (hf : ∀ y ∈ p ++ (l1 ++ (r1 ++ (l2 ++ (r2 ++ s)))), fine y) (hn : (p ++ (l1 ++ (r1 ++ (l2 ++ (r2 ++ s))))).length ≤ 1000000) :
  ∃ m1 m2, fu aW (l1 ++ r1) m1 ∧ fu aW (l2 ++ r2) m2 ∧ m1.length = l1.length + r1.length ∧ m2.length = l2.length + r2.length ∧
   Ev (fun k => au.j7 k (p ++ (l1 ++ (r1 ++ (l2 ++ (r2 ++ s))))) (p.length : Int) ((p.length + l1.length + r1.length + l2.length + r2.length : Nat) : Int) z ((p.length + l1.length + r1.length : Nat) : Int) ((p.length + l1.length : Nat) : Int) ((p.length + l1.length + r1.length + l2.length : Nat) : Int)) (p ++ ((m1 ++ m2) ++ s)) := by
 obtain ⟨m1, a1, a2, a3, a4⟩ := zZ z n IH p l1 r1 (l2 ++ (r2 ++ s)) h1 hl1 hr1 hf hn
 have hpm : (p ++ m1).length = p.length + l1.length + r1.length := by simp [a2]; omega
 have e1 : (p ++ m1) ++ (l2 ++ (r2 ++ s)) = p ++ (m1 ++ (l2 ++ (r2 ++ s))) := by simp
 have hmem : ∀ y ∈ m1, y ∈ l1 ++ r1 := fun y hy => a1.mem fD hy
 obtain ⟨m2, b1, b2, b3, b4⟩ := zZ z n IH (p ++ m1) l2 r2 s h2 hl2 hr2 (fun y hy => by
   rw [e1] at hy
   rcases List.mem_append.mp hy with hy | hy
   ·exact hf y (by simp [hy])
   ·rcases List.mem_append.mp hy with hy | hy
    ·have := hmem y hy
     rcases List.mem_append.mp this with h | h <;> exact hf y (by simp [h])
    ·exact hf y (by simp at hy ⊢; rcases hy with h | h | h <;> simp [h])) (by rw [e1]; simp [a2] at hn ⊢; omega)
 refine ⟨m1, m2, a1, b1, a2, b2, ?_⟩
 have e2 : (p ++ m1) ++ (m2 ++ s) = p ++ ((m1 ++ m2) ++ s) := by simp
 rw [hpm, e1, e2] at b3
 -- the second merge, over the first one's row
 have second : Ev (fun k => if ((p.length + l1.length + r1.length : Nat) : Int) < ((p.length + l1.length + r1.length + l2.length : Nat) : Int) then (if ((p.length + l1.length + r1.length + l2.length : Nat) : Int) < ((p.length + l1.length + r1.length + l2.length + r2.length : Nat) : Int) then ((au.f k (p ++ (m1 ++ (l2 ++ (r2 ++ s)))) ((p.length + l1.length + r1.length : Nat) : Int) ((p.length + l1.length + r1.length + l2.length : Nat) : Int) ((p.length + l1.length + r1.length + l2.length + r2.length : Nat) : Int) z).bind fun t138 => (some t138)) else (some (p ++ (m1 ++ (l2 ++ (r2 ++ s)))))) else (some (p ++ (m1 ++ (l2 ++ (r2 ++ s)))))) (p ++ ((m1 ++ m2) ++ s)) := by
  by_cases c1 : 0 < l2.length
  ·by_cases c2 : 0 < r2.length
   ·have d1 : ((p.length + l1.length + r1.length : Nat) : Int) < ((p.length + l1.length + r1.length + l2.length : Nat) : Int) := by omega
    have d2 : ((p.length + l1.length + r1.length + l2.length : Nat) : Int) < ((p.length + l1.length + r1.length + l2.length + r2.length : Nat) : Int) := by omega
    simp only [d1, d2, if_true]
    exact Ev.bind (b3 c1 c2) (Ev.now _)
   ·have d1 : ((p.length + l1.length + r1.length : Nat) : Int) < ((p.length + l1.length + r1.length + l2.length : Nat) : Int) := by omega
    have d2 : ¬ ((p.length + l1.length + r1.length + l2.length : Nat) : Int) < ((p.length + l1.length + r1.length + l2.length + r2.length : Nat) : Int) := by omega
    simp only [d1, d2, if_true, if_false]
    have e := b4 (.inr (by omega))
    rw [e]
    have : p ++ (m1 ++ (l2 ++ (r2 ++ s))) = p ++ ((m1 ++ (l2 ++ r2)) ++ s) := by simp
    rw [this]
    exact Ev.now _
  ·have d1 : ¬ ((p.length + l1.length + r1.length : Nat) : Int) < ((p.length + l1.length + r1.length + l2.length : Nat) : Int) := by omega
   simp only [d1, if_false]
   have e := b4 (.inl (by omega))
   rw [e]
   have : p ++ (m1 ++ (l2 ++ (r2 ++ s))) = p ++ ((m1 ++ (l2 ++ r2)) ++ s) := by simp
   rw [this]
   exact Ev.now _
 by_cases c1 : 0 < l1.length
 ·by_cases c2 : 0 < r1.length
  ·have d1 : (p.length : Int) < ((p.length + l1.length : Nat) : Int) := by omega
   have d2 : ((p.length + l1.length : Nat) : Int) < ((p.length + l1.length + r1.length : Nat) : Int) := by omega
   refine Ev.step (f := fun k => au.j8 k (p ++ (l1 ++ (r1 ++ (l2 ++ (r2 ++ s))))) (p.length : Int) ((p.length + l1.length + r1.length + l2.length + r2.length : Nat) : Int) z ((p.length + l1.length + r1.length : Nat) : Int) ((p.length + l1.length : Nat) : Int) ((p.length + l1.length + r1.length + l2.length : Nat) : Int) true) (fun k => by simp only [au.j7, d1, d2, if_true, decide_true]) ?_
   refine Ev.step (fun k => by simp only [au.j8, if_true]; rfl) (Ev.bind (a3 c1 c2) ?_)
   exact second
  ·have d1 : (p.length : Int) < ((p.length + l1.length : Nat) : Int) := by omega
   have d2 : ¬ ((p.length + l1.length : Nat) : Int) < ((p.length + l1.length + r1.length : Nat) : Int) := by omega
   have e := a4 (.inr (by omega))
   have e3 : p ++ (l1 ++ (r1 ++ (l2 ++ (r2 ++ s)))) = p ++ (m1 ++ (l2 ++ (r2 ++ s))) := by rw [e]; simp
   refine Ev.step (f := fun k => au.j8 k (p ++ (l1 ++ (r1 ++ (l2 ++ (r2 ++ s))))) (p.length : Int) ((p.length + l1.length + r1.length + l2.length + r2.length : Nat) : Int) z ((p.length + l1.length + r1.length : Nat) : Int) ((p.length + l1.length : Nat) : Int) ((p.length + l1.length + r1.length + l2.length : Nat) : Int) false) (fun k => by simp only [au.j7, d1, d2, if_true, decide_false]) ?_
   rw [e3]
   exact Ev.step (fun k => by simp only [au.j8, Bool.false_eq_true, if_false]) second
 ·have d1 : ¬ (p.length : Int) < ((p.length + l1.length : Nat) : Int) := by omega
  have e := a4 (.inl (by omega))
  have e3 : p ++ (l1 ++ (r1 ++ (l2 ++ (r2 ++ s)))) = p ++ (m1 ++ (l2 ++ (r2 ++ s))) := by rw [e]; simp
  refine Ev.step (f := fun k => au.j8 k (p ++ (l1 ++ (r1 ++ (l2 ++ (r2 ++ s))))) (p.length : Int) ((p.length + l1.length + r1.length + l2.length + r2.length : Nat) : Int) z ((p.length + l1.length + r1.length : Nat) : Int) ((p.length + l1.length : Nat) : Int) ((p.length + l1.length + r1.length + l2.length : Nat) : Int) false) (fun k => by simp only [au.j7, d1, if_false]) ?_
  rw [e3]
  exact Ev.step (fun k => by simp only [au.j8, Bool.false_eq_true, if_false]) second
theorem IL (x0 : List RR) (z : Int) (P A B H : Nat) (h0 : 0 < A + B) (ha : ¬ A = 1) (hb : ¬ B = 1) (hH : (A + B) / 2 = H) (hn : P + A + B ≤ 1000000) (hc : A > H) (res : List RR)
  (h : Ev (fun k => au.l4 k x0 (P : Int) ((P + A : Nat) : Int) ((P + A + B : Nat) : Int) z ((P + H : Nat) : Int) ((P + H + (P + A) : Nat) : Int) ((P + H - B : Nat) : Int) ((P + H : Nat) : Int) ((P + H + (P + A) - 1 : Nat) : Int)) res) : Ev (fun k => au.f k x0 (P : Int) ((P + A : Nat) : Int) ((P + A + B : Nat) : Int) z) res := by
 have hmid : (P + (P + A + B)) / 2 = P + H := by omega
 have w1 : wrap64 (((P + A : Nat) : Int) - (P : Int)) = (A : Int) := w64 (by omega) (by omega)
 have w2 : wrap64 (((P + A + B : Nat) : Int) - ((P + A : Nat) : Int)) = (B : Int) := w64 (by omega) (by omega)
 have w4 : wrap64 (((P + H : Nat) : Int) + ((P + A : Nat) : Int)) = ((P + H + (P + A) : Nat) : Int) := w64 (by omega) (by omega)
 have w5 : wrap64 (((P + H + (P + A) : Nat) : Int) - 1) = ((P + H + (P + A) - 1 : Nat) : Int) := w64 (by omega) (by omega)
 have w6 : wrap64 (((P + H + (P + A) : Nat) : Int) - ((P + A + B : Nat) : Int)) = ((P + H - B : Nat) : Int) := w64 (by omega) (by omega)
 have k1 : ¬ ((A : Int) = 1) := by omega
 have k2 : ¬ ((B : Int) = 1) := by omega
 have k3 : ((P + A : Nat) : Int) > ((P + H : Nat) : Int) := by omega
 have w3 := half P (P + A + B) (by omega)
 rw [hmid] at w3
 refine Ev.step (f := fun k => au.j4 k x0 (P : Int) ((P + A : Nat) : Int) ((P + A + B : Nat) : Int) z ((P + H : Nat) : Int) ((P + H + (P + A) : Nat) : Int) ((P + H - B : Nat) : Int) ((P + H : Nat) : Int)) (fun k => by simp only [au.f, w1, w2, w3, w4, w6]; rw [if_neg k1, if_neg k2, if_pos k3]) ?_
 exact Ev.step (fun k => by simp only [au.j4, w5]) h
theorem Iy (x0 : List RR) (z : Int) (P A B H : Nat) (h0 : 0 < A + B) (ha : ¬ A = 1) (hb : ¬ B = 1) (hH : (A + B) / 2 = H) (hn : P + A + B ≤ 1000000) (hc : ¬ A > H) (res : List RR)
  (h : Ev (fun k => au.l4 k x0 (P : Int) ((P + A : Nat) : Int) ((P + A + B : Nat) : Int) z ((P + H : Nat) : Int) ((P + H + (P + A) : Nat) : Int) (P : Int) ((P + A : Nat) : Int) ((P + H + (P + A) - 1 : Nat) : Int)) res) : Ev (fun k => au.f k x0 (P : Int) ((P + A : Nat) : Int) ((P + A + B : Nat) : Int) z) res := by
 have hmid : (P + (P + A + B)) / 2 = P + H := by omega
 have w1 : wrap64 (((P + A : Nat) : Int) - (P : Int)) = (A : Int) := w64 (by omega) (by omega)
 have w2 : wrap64 (((P + A + B : Nat) : Int) - ((P + A : Nat) : Int)) = (B : Int) := w64 (by omega) (by omega)
 have w4 : wrap64 (((P + H : Nat) : Int) + ((P + A : Nat) : Int)) = ((P + H + (P + A) : Nat) : Int) := w64 (by omega) (by omega)
 have k1 : ¬ ((A : Int) = 1) := by omega
 have k2 : ¬ ((B : Int) = 1) := by omega
 have k3 : ¬ ((P + A : Nat) : Int) > ((P + H : Nat) : Int) := by omega
 have hpos : 1 ≤ P + H + (P + A) := by omega
 have w5 : wrap64 (((P + H + (P + A) : Nat) : Int) - 1) = ((P + H + (P + A) - 1 : Nat) : Int) := w64 (by omega) (by omega)
 have w3 := half P (P + A + B) (by omega)
 rw [hmid] at w3
 refine Ev.step (f := fun k => au.j4 k x0 (P : Int) ((P + A : Nat) : Int) ((P + A + B : Nat) : Int) z ((P + H : Nat) : Int) ((P + H + (P + A) : Nat) : Int) (P : Int) ((P + A : Nat) : Int)) (fun k => by simp only [au.f, w1, w2, w3, w4]; rw [if_neg k1, if_neg k2, if_neg k3]) ?_
 exact Ev.step (fun k => by simp only [au.j4, w5]) h
theorem DZ (z : Int) : ∀ (n : Nat), BR z n := by
 intro n
 induction n with
 | zero => intro p l r s h; omega
 | succ n ih =>
  intro p l r s h hl0 hr0 hsl hsr hf hn
  by_cases h1 : l.length = 1
  ·obtain ⟨x, rfl⟩ := List.length_eq_one_iff.mp h1
   obtain ⟨m, g1, g2, g3⟩ := He z p r s x hr0 hsr hf hn
   exact ⟨m, g1, g2, g3⟩
  by_cases h2 : r.length = 1
  ·obtain ⟨y, rfl⟩ := List.length_eq_one_iff.mp h2
   obtain ⟨m, g1, g2, g3⟩ := Gq z p l s y (by omega) hsl hf hn
   exact ⟨m, g1, g2, g3⟩
  have hl : (p ++ (l ++ (r ++ s))).length = p.length + l.length + r.length + s.length := by simp; omega
  obtain ⟨P, hP⟩ : ∃ P, p.length = P := ⟨_, rfl⟩
  obtain ⟨A, hA⟩ : ∃ A, l.length = A := ⟨_, rfl⟩
  obtain ⟨B, hB⟩ : ∃ B, r.length = B := ⟨_, rfl⟩
  obtain ⟨H, hH⟩ : ∃ H, (A + B) / 2 = H := ⟨_, rfl⟩
  have hmid : (P + (P + A + B)) / 2 = P + H := by omega
  have rl : ∀ t (ht : t < A), rdR (p ++ (l ++ (r ++ s))) ((P + t : Nat) : Int) = l[t]'(by omega) := fun t ht => by
   have ht1 : t < l.length := by omega
   have h := xZ p l (r ++ s) t ht1
   rw [hP] at h
   exact h
  have e0 : p ++ (l ++ (r ++ s)) = (p ++ l) ++ (r ++ s) := by simp
  have hpl : (p ++ l).length = P + A := by simp [hP, hA]
  have rr : ∀ t (ht : t < B), rdR (p ++ (l ++ (r ++ s))) ((P + A + t : Nat) : Int) = r[t]'(by omega) := fun t ht => by
   have ht1 : t < r.length := by omega
   have h := xZ (p ++ l) r s t ht1
   rw [hpl, ← e0] at h
   exact h
  -- the halves
  obtain ⟨lo, hlo⟩ : ∃ lo, (if A > H then P + H - B else P) = lo := ⟨_, rfl⟩
  obtain ⟨hi, hhi⟩ : ∃ hi, (if A > H then P + H else P + A) = hi := ⟨_, rfl⟩
  have blo : P ≤ lo ∧ (lo = P ∨ lo + B = P + H) ∧ P + H ≤ lo + B := by rw [← hlo]; split <;> omega
  have bhi : hi ≤ P + H ∧ hi ≤ P + A ∧ (hi = P + H ∨ hi = P + A) ∧ lo ≤ hi := by rw [← hhi, ← hlo]; split <;> omega
  have hpp : P + H + (P + A) - 1 = P + H + (P + A) - 1 := rfl
  have key : ∀ c, lo ≤ c → c < hi → ∃ (hu : c - P < A) (hv : P + H - 1 - c < B), rdR (p ++ (l ++ (r ++ s))) ((P + H + (P + A) - 1 - c : Nat) : Int) = r[P + H - 1 - c]'(by omega) ∧ rdR (p ++ (l ++ (r ++ s))) (c : Nat) = l[c - P]'(by omega) := fun c c1 c2 => by
   have hu : c - P < A := by omega
   have hv : P + H - 1 - c < B := by omega
   refine ⟨hu, hv, ?_, ?_⟩
   ·rw [show P + H + (P + A) - 1 - c = P + A + (P + H - 1 - c) by omega]; exact rr _ hv
   ·have := rl (c - P) hu
    rw [show P + (c - P) = c by omega] at this
    exact this
  obtain ⟨q, g1, g2, g3, g4, g5⟩ := Du _ hf hn (P : Int) ((P + A : Nat) : Int) ((P + A + B : Nat) : Int) z ((P + H : Nat) : Int) ((P + H + (P + A) : Nat) : Int) lo hi (P + H + (P + A) - 1) bhi.2.2.2 (by omega) (by omega) (fun c c1 c2 => by omega)
   (fun c c' k1 k2 k3 k4 => by
    obtain ⟨u1, v1, x1, y1⟩ := key c k1 (by omega)
    obtain ⟨u2, v2, x2, y2⟩ := key c' (by omega) k3
    rw [x1, y1] at k4
    rw [x2, y2]
    have s1 := kD hsl (c - P) (c' - P) (by omega) (by omega)
    have s2 := kD hsr (P + H - 1 - c') (P + H - 1 - c) (by omega) (by omega)
    have s3 : aW (r[P + H - 1 - c']'(by omega)) (l[c - P]'(by omega)) < 0 := by
     by_cases e : aW (r[P + H - 1 - c']'(by omega)) (r[P + H - 1 - c]'(by omega)) = 0
     ·exact fD.lt_of_eq_of_lt e k4
     ·exact fD.trans _ _ _ (by omega) k4
    by_cases e : aW (l[c - P]'(by omega)) (l[c' - P]'(by omega)) = 0
    ·exact fD.lt_of_lt_of_eq s3 e
    ·exact fD.trans _ _ _ s3 (by omega)) (hi - lo) lo hi (Nat.le_refl _) (Nat.le_refl _) bhi.2.2.2 (Nat.le_refl _) (fun c c1 c2 => by omega) (fun c c1 c2 => by omega)
  -- q: where the first half of l ends
  obtain ⟨u, hu⟩ : ∃ u, q = P + u := ⟨q - P, by omega⟩
  have hua : u ≤ A := by omega
  have huh : u ≤ H := by omega
  have hvb : H - u ≤ B := by omega
  have ltake : (l.take u).length = u := by rw [List.length_take]; omega
  have ldrop : (l.drop u).length = A - u := by rw [List.length_drop]; omega
  have rtake : (r.take (H - u)).length = H - u := by rw [List.length_take]; omega
  have rdrop : (r.drop (H - u)).length = B - (H - u) := by rw [List.length_drop]; omega
  have sl : Sorted aW (l.take u ++ l.drop u) := by rw [List.take_append_drop]; exact hsl
  have sr : Sorted aW (r.take (H - u) ++ r.drop (H - u)) := by rw [List.take_append_drop]; exact hsr
  have c1 : ∀ x ∈ l.take u, ∀ y ∈ r.drop (H - u), aW x y ≤ 0 := fun x hx y hy => by
   obtain ⟨i, hi1, rfl⟩ := List.getElem_of_mem hx
   obtain ⟨j, hj1, rfl⟩ := List.getElem_of_mem hy
   rw [ltake] at hi1
   rw [rdrop] at hj1
   rw [List.getElem_take, List.getElem_drop]
   have hq : lo ≤ q - 1 ∧ q - 1 < q := by omega
   obtain ⟨u2, v2, x2, y2⟩ := key (q - 1) hq.1 (by omega)
   have k := g3 (q - 1) hq.1 hq.2
   rw [x2, y2] at k
   have k' := fD.flip (l[q - 1 - P]'(by omega)) (r[P + H - 1 - (q - 1)]'(by omega))
   have a1 : aW (l[i]'(by omega)) (l[q - 1 - P]'(by omega)) ≤ 0 := by
    by_cases e : i = q - 1 - P
    ·subst e; rw [fD.refl]; omega
    ·exact kD hsl i (q - 1 - P) (by omega) (by omega)
   have a2 : aW (r[P + H - 1 - (q - 1)]'(by omega)) (r[H - u + j]'(by omega)) ≤ 0 := by
    by_cases e : P + H - 1 - (q - 1) = H - u + j
    ·simp only [e]; rw [fD.refl]; omega
    ·exact kD hsr _ _ (by omega) (by omega)
   exact fD.le_trans (fD.le_trans a1 (by omega)) a2
  have c2 : ∀ y ∈ r.take (H - u), ∀ x ∈ l.drop u, aW y x < 0 := fun y hy x hx => by
   obtain ⟨i, hi1, rfl⟩ := List.getElem_of_mem hx
   obtain ⟨j, hj1, rfl⟩ := List.getElem_of_mem hy
   rw [ldrop] at hi1
   rw [rtake] at hj1
   rw [List.getElem_take, List.getElem_drop]
   obtain ⟨u2, v2, x2, y2⟩ := key q g1 (by omega)
   have k := g4 q (Nat.le_refl _) (by omega)
   rw [x2, y2] at k
   have a1 : aW (l[q - P]'(by omega)) (l[u + i]'(by omega)) ≤ 0 := by
    by_cases e : q - P = u + i
    ·simp only [e]; rw [fD.refl]; omega
    ·exact kD hsl _ _ (by omega) (by omega)
   have a2 : aW (r[j]'(by omega)) (r[P + H - 1 - q]'(by omega)) ≤ 0 := by
    by_cases e : j = P + H - 1 - q
    ·subst e; rw [fD.refl]; omega
    ·exact kD hsr _ _ (by omega) (by omega)
   have a3 : aW (r[j]'(by omega)) (l[q - P]'(by omega)) < 0 := by
    by_cases e : aW (r[j]'(by omega)) (r[P + H - 1 - q]'(by omega)) = 0
    ·exact fD.lt_of_eq_of_lt e k
    ·exact fD.trans _ _ _ (by omega) k
   by_cases e : aW (l[q - P]'(by omega)) (l[u + i]'(by omega)) = 0
   ·exact fD.lt_of_lt_of_eq a3 e
   ·exact fD.trans _ _ _ a3 (by omega)
  have hturn : (p ++ (l.take u ++ (r.take (H - u) ++ (l.drop u ++ (r.drop (H - u) ++ s))))).length = (p ++ (l ++ (r ++ s))).length := by
   rw [hl]; simp only [List.length_append, ltake, ldrop, rtake, rdrop]; omega
  obtain ⟨m1, m2, b1, b2, b3, b4, b5⟩ := Ga z n ih p (l.take u) (r.take (H - u)) (l.drop u) (r.drop (H - u)) s (by omega) (by omega) (mD sl) (mD sr) (mY sl) (mY sr) (fun y hy => by
    refine hf y ?_
    have q1 : ∀ w, w ∈ l.take u → w ∈ l := fun w => List.mem_of_mem_take
    have q2 : ∀ w, w ∈ l.drop u → w ∈ l := fun w => List.mem_of_mem_drop
    have q3 : ∀ w, w ∈ r.take (H - u) → w ∈ r := fun w => List.mem_of_mem_take
    have q4 : ∀ w, w ∈ r.drop (H - u) → w ∈ r := fun w => List.mem_of_mem_drop
    simp only [List.mem_append] at hy ⊢
    rcases hy with h | h | h | h | h | h
    ·exact .inl h
    ·exact .inr (.inl (q1 _ h))
    ·exact .inr (.inr (.inl (q3 _ h)))
    ·exact .inr (.inl (q2 _ h))
    ·exact .inr (.inr (.inl (q4 _ h)))
    ·exact .inr (.inr (.inr h))) (by rw [hturn]; exact hn)
  have st := xO fD sl sr c1 c2 b1 b2
  rw [List.take_append_drop, List.take_append_drop] at st
  refine ⟨m1 ++ m2, st, by simp only [List.length_append, b3, b4, ltake, ldrop, rtake, rdrop]; omega, ?_⟩
  rw [ltake, rtake, ldrop, rdrop, hP] at b5
  have n1 : P + u + (H - u) = P + H := by omega
  have n2 : P + H + (A - u) + (B - (H - u)) = P + A + B := by omega
  have n3 : P + H + (A - u) = P + A + (H - u) := by omega
  rw [n1, n2, n3, ← hu] at b5
  have w7 : wrap64 (((P + H + (P + A) : Nat) : Int) - (q : Int)) = ((P + A + (H - u) : Nat) : Int) := w64 (by omega) (by omega)
  -- behind the search
  have hj6 : Ev (fun k => if (q : Int) < ((P + A : Nat) : Int) then au.j6 k (p ++ (l ++ (r ++ s))) (P : Int) ((P + A : Nat) : Int) ((P + A + B : Nat) : Int) z ((P + H : Nat) : Int) (q : Int) (wrap64 (((P + H + (P + A) : Nat) : Int) - (q : Int))) (decide (((P + A : Nat) : Int) < wrap64 (((P + H + (P + A) : Nat) : Int) - (q : Int)))) else au.j6 k (p ++ (l ++ (r ++ s))) (P : Int) ((P + A : Nat) : Int) ((P + A + B : Nat) : Int) z ((P + H : Nat) : Int) (q : Int) (wrap64 (((P + H + (P + A) : Nat) : Int) - (q : Int))) false) (p ++ ((m1 ++ m2) ++ s)) := by
   rw [w7]
   have off : (A ≤ u ∨ H ≤ u) → Ev (fun k => au.j6 k (p ++ (l ++ (r ++ s))) (P : Int) ((P + A : Nat) : Int) ((P + A + B : Nat) : Int) z ((P + H : Nat) : Int) (q : Int) ((P + A + (H - u) : Nat) : Int) false) (p ++ ((m1 ++ m2) ++ s)) := fun ho => by
    have e : p ++ (l ++ (r ++ s)) = p ++ (l.take u ++ (r.take (H - u) ++ (l.drop u ++ (r.drop (H - u) ++ s)))) := by
     rcases ho with ho | ho
     ·rw [List.take_of_length_le (by omega : l.length ≤ u), List.drop_of_length_le (by omega : l.length ≤ u), List.nil_append, ← List.append_assoc (r.take (H - u)), List.take_append_drop]
     ·rw [show H - u = 0 by omega, List.take_zero, List.drop_zero, List.nil_append, ← List.append_assoc (l.take u), List.take_append_drop]
    rw [e]
    exact Ev.step (fun k => by simp only [au.j6, Bool.false_eq_true, if_false]) b5
   by_cases d1 : (q : Int) < ((P + A : Nat) : Int)
   ·simp only [d1, if_true]
    by_cases d2 : ((P + A : Nat) : Int) < ((P + A + (H - u) : Nat) : Int)
    ·rw [decide_eq_true d2]
     have hrot := Ja (p ++ l.take u) (l.drop u) (r.take (H - u)) (r.drop (H - u) ++ s) z (by omega) (by omega) (by
      have e : (p ++ l.take u) ++ (l.drop u ++ (r.take (H - u) ++ (r.drop (H - u) ++ s))) = p ++ (l ++ (r ++ s)) := by
       rw [List.append_assoc, ← List.append_assoc (l.take u), List.take_append_drop, ← List.append_assoc (r.take (H - u)), List.take_append_drop]
      rw [e]; exact hn)
     have e : (p ++ l.take u) ++ (l.drop u ++ (r.take (H - u) ++ (r.drop (H - u) ++ s))) = p ++ (l ++ (r ++ s)) := by
      rw [List.append_assoc, ← List.append_assoc (l.take u), List.take_append_drop, ← List.append_assoc (r.take (H - u)), List.take_append_drop]
     have e' : (p ++ l.take u) ++ (r.take (H - u) ++ (l.drop u ++ (r.drop (H - u) ++ s))) = p ++ (l.take u ++ (r.take (H - u) ++ (l.drop u ++ (r.drop (H - u) ++ s)))) := by simp only [List.append_assoc]
     have f1 : (p ++ l.take u).length = q := by rw [List.length_append, ltake]; omega
     rw [e, e', f1, ldrop, rtake, show q + (A - u) = P + A by omega] at hrot
     exact Ev.step (fun k => by simp only [au.j6, if_true]; rfl) (Ev.bind hrot b5)
    ·rw [decide_eq_false d2]
     exact off (by omega)
   ·simp only [d1, if_false]
    exact off (by omega)
  have hfin := g5 _ hj6
  rw [hP, hA, hB]
  have n1' : ¬ A = 1 := fun e => h1 (by omega)
  have n2' : ¬ B = 1 := fun e => h2 (by omega)
  have nb : P + A + B ≤ 1000000 := by omega
  clear hj6 g5 hf hn key rl rr c1 c2 st b1 b2 ih g3 g4 hsl hsr sl sr b5 w7
  by_cases hc : A > H
  ·rw [if_pos hc] at hlo hhi
   rw [← hhi, ← hlo] at hfin
   exact IL _ z P A B H (by omega) n1' n2' hH nb hc _ hfin
  ·rw [if_neg hc] at hlo hhi
   rw [← hhi, ← hlo] at hfin
   exact Iy _ z P A B H (by omega) n1' n2' hH nb hc _ hfin
theorem qF (q : List RR) (s : Nat) : q = q.take s ++ ((q.drop s).take s ++ q.drop (2 * s)) := by
 conv => lhs; rw [← List.take_append_drop s q, ← List.take_append_drop s (q.drop s), List.drop_drop]
 rw [show s + s = 2 * s by omega]
theorem pass (z : Int) (l : List RR) (s : Nat) (hs : 0 < s) (hs2 : s ≤ 1000000) (hn : l.length ≤ 1000000) (hf : ∀ y ∈ l, fine y) (hB : Blocks aW s l) : ∀ (d t : Nat) (p : List RR), p.length = t * (2 * s) → p.length ≤ l.length → l.length - p.length ≤ d → Blocks aW (2 * s) p →
  (∀ x, cls aW p x = cls aW (l.take p.length) x) → ∃ l', l'.length = l.length ∧ Blocks aW (2 * s) l' ∧ (∀ x, cls aW l' x = cls aW l x) ∧
   ∀ r, Ev (fun k => cu.l1 k l' (l.length : Int) z ((2 * s : Nat) : Int)) r → Ev (fun k => cu.l2 k (p ++ l.drop p.length) (l.length : Int) z (s : Int) (p.length : Int) ((p.length + 2 * s : Nat) : Int)) r := by
 intro d
 induction d with
 | zero =>
  intro t p ht hp hd hbp hc
  have hq : l.drop p.length = [] := List.drop_of_length_le (by omega)
  have e1 : wrap64 ((p.length : Int) + (s : Int)) = ((p.length + s : Nat) : Int) := w64 (by omega) (by omega)
  have e2 : wrap64 ((s : Int) * 2) = ((2 * s : Nat) : Int) := w64 (by omega) (by omega)
  rw [hq, List.append_nil]
  refine ⟨p, by omega, hbp, fun x => by rw [hc, List.take_of_length_le (by omega)], fun r hr => ?_⟩
  exact Ev.step (fun k => by simp only [cu.l2, e1, e2]; rw [if_neg (by omega), if_neg (by omega)]) hr
 | succ d ih =>
  intro t p ht hp hd hbp hc
  obtain ⟨a, ha⟩ : ∃ a, p.length = a := ⟨_, rfl⟩
  obtain ⟨q, hq⟩ : ∃ q, l.drop a = q := ⟨_, rfl⟩
  have hql : q.length = l.length - a := by rw [← hq, List.length_drop]
  have hlq : l = l.take a ++ q := by rw [← hq, List.take_append_drop]
  have hqf : ∀ y ∈ q, fine y := fun y hy => hf y (by rw [hlq]; exact List.mem_append_right _ hy)
  have hpf : ∀ y ∈ p, fine y := fun y hy => by
   have h1 : y ∈ l.take p.length := lQ fD hc hy
   exact hf y (List.mem_of_mem_take h1)
  have e1 : wrap64 ((a : Int) + (s : Int)) = ((a + s : Nat) : Int) := w64 (by omega) (by omega)
  have e2 : wrap64 ((s : Int) * 2) = ((2 * s : Nat) : Int) := w64 (by omega) (by omega)
  have e3 : wrap64 (2 * (s : Int)) = ((2 * s : Nat) : Int) := w64 (by omega) (by omega)
  have e4 : wrap64 (((a + 2 * s : Nat) : Int) + ((2 * s : Nat) : Int)) = ((a + 2 * s + 2 * s : Nat) : Int) := w64 (by omega) (by omega)
  have s1 : Sorted aW (q.take s) := by
   have := hB (2 * t)
   rw [show 2 * t * s = a by rw [← ha, ht]; rw [Nat.mul_comm 2 t, Nat.mul_assoc], hq] at this
   exact this
  have s2 : Sorted aW ((q.drop s).take s) := by
   have := hB (2 * t + 1)
   rw [show (2 * t + 1) * s = a + s by rw [← ha, ht, Nat.add_mul, Nat.one_mul, Nat.mul_comm 2 t, Nat.mul_assoc], ← List.drop_drop, hq] at this
   exact this
  have hpq : (p ++ q).length = l.length := by rw [List.length_append, hql]; omega
  have hfpq : ∀ y ∈ p ++ q, fine y := fun y hy => by
   rcases List.mem_append.mp hy with h | h
   ·exact hpf y h
   ·exact hqf y h
  rw [ha] at hc hp hd ⊢
  rw [hq]
  by_cases hb : a + 2 * s ≤ l.length
  ·have hsym := DZ z (s + s + 1) p (q.take s) ((q.drop s).take s) (q.drop (2 * s)) (by simp only [List.length_take, List.length_drop]; omega) (by rw [List.length_take]; omega) (by rw [List.length_take, List.length_drop]; omega) s1 s2
    (by rw [← qF]; exact hfpq) (by rw [← qF, hpq]; exact hn)
   obtain ⟨m, g1, g2, g3⟩ := hsym
   have l1 : (q.take s).length = s := by rw [List.length_take]; omega
   have l2 : ((q.drop s).take s).length = s := by rw [List.length_take, List.length_drop]; omega
   rw [l1, l2] at g2
   rw [← qF, l1, l2, ha] at g3
   have hpm : (p ++ m).length = a + 2 * s := by rw [List.length_append, ha, g2]; omega
   have htk : l.take (a + 2 * s) = l.take a ++ (q.take s ++ (q.drop s).take s) := by
    conv => lhs; rw [hlq]
    rw [List.take_append, List.length_take, List.take_of_length_le (by rw [List.length_take]; omega), Nat.min_eq_left hp, show a + 2 * s - a = s + s by omega, List.take_add]
   obtain ⟨l', k1, k2, k3, k4⟩ := ih (t + 1) (p ++ m) (by rw [hpm, ← ha, ht, Nat.add_mul, Nat.one_mul]) (by omega) (by omega) (mo hbp (by rw [ha] at ht ⊢; exact ht) g1.1 (by omega)) (fun x => by
    rw [hpm, htk, eT, hc, g1.2, eT aW (l.take a)])
   refine ⟨l', k1, k2, k3, fun r hr => ?_⟩
   have := k4 r hr
   rw [hpm, ← List.drop_drop, hq, List.append_assoc] at this
   refine Ev.step (f := fun k => (au.f k (p ++ q) (a : Int) ((a + s : Nat) : Int) ((a + 2 * s : Nat) : Int) z).bind fun t142 => cu.l2 k t142 (l.length : Int) z (s : Int) ((a + 2 * s : Nat) : Int) ((a + 2 * s + 2 * s : Nat) : Int)) (fun k => by simp only [cu.l2, e1, e3, e4]; rw [if_pos (by omega)]) ?_
   rw [show a + s + s = a + 2 * s by omega] at g3
   exact Ev.bind g3 this
  ·by_cases hc2 : a + s < l.length
   ·have hsym := DZ z (s + s + 1) p (q.take s) (q.drop s) [] (by simp only [List.length_take, List.length_drop]; omega) (by rw [List.length_take]; omega) (by rw [List.length_drop]; omega) s1
     (by have := s2; rw [List.take_of_length_le (by rw [List.length_drop]; omega)] at this; exact this)
     (by rw [List.append_nil, List.take_append_drop]; exact hfpq) (by rw [List.append_nil, List.take_append_drop, hpq]; exact hn)
    obtain ⟨m, g1, g2, g3⟩ := hsym
    have l1 : (q.take s).length = s := by rw [List.length_take]; omega
    have l2 : (q.drop s).length = l.length - a - s := by rw [List.length_drop]; omega
    rw [List.take_append_drop] at g1
    rw [l1, l2] at g2
    rw [List.append_nil, List.append_nil, List.take_append_drop, l1, l2, ha, show a + s + (l.length - a - s) = l.length by omega] at g3
    refine ⟨p ++ m, by rw [List.length_append, ha, g2]; omega, mo hbp (by rw [ha] at ht ⊢; exact ht) g1.1 (by omega), fun x => ?_, fun r hr => ?_⟩
    ·rw [eT, hc, g1.2, ← eT, ← hlq]
    ·refine Ev.step (f := fun k => (au.f k (p ++ q) (a : Int) ((a + s : Nat) : Int) (l.length : Int) z).bind fun t143 => cu.l1 k t143 (l.length : Int) z ((2 * s : Nat) : Int)) (fun k => by simp only [cu.l2, e1, e2]; rw [if_neg (by omega), if_pos (by omega)]) ?_
     exact Ev.bind g3 hr
   ·refine ⟨p ++ q, hpq, mo hbp (by rw [ha] at ht ⊢; exact ht) (by have := s1; rw [List.take_of_length_le (by omega)] at this; exact this) (by omega), fun x => ?_, fun r hr => ?_⟩
    ·rw [eT, hc, ← eT, ← hlq]
    ·exact Ev.step (fun k => by simp only [cu.l2, e1, e2]; rw [if_neg (by omega), if_neg (by omega)]) hr
theorem Gx (z : Int) (N : Nat) (hN : N ≤ 1000000) (l0 : List RR) : ∀ (d s : Nat) (l : List RR), N - s ≤ d → 0 < s → s ≤ 2000000 → l.length = N → (∀ y ∈ l, fine y) → Blocks aW s l → (∀ x, cls aW l x = cls aW l0 x) →
  ∃ m, fu aW l0 m ∧ m.length = N ∧ Ev (fun k => cu.l1 k l (N : Int) z (s : Int)) m := by
 intro d
 induction d with
 | zero =>
  intro s l hd hs hs2 hl hf hB hc
  exact ⟨l, ⟨uJ hB (by omega), hc⟩, hl, Ev.step (f := fun _ => some l) (fun k => by simp only [cu.l1]; rw [if_neg (by omega)]) (Ev.now _)⟩
 | succ d ih =>
  intro s l hd hs hs2 hl hf hB hc
  by_cases h : s < N
  ·have e3 : wrap64 (2 * (s : Int)) = ((2 * s : Nat) : Int) := w64 (by omega) (by omega)
   obtain ⟨l', k1, k2, k3, k4⟩ := pass z l s hs (by omega) (by omega) hf hB l.length 0 [] (by simp) (by simp) (by simp) (uW _) (fun x => by simp)
   obtain ⟨m, g1, g2, g3⟩ := ih (2 * s) l' (by omega) (by omega) (by omega) (by omega) (fun y hy => hf y (lQ fD k3 hy)) k2 (fun x => (k3 x).trans (hc x))
   refine ⟨m, g1, g2, ?_⟩
   have := k4 m (by rw [hl]; exact g3)
   simp only [List.length_nil, List.nil_append, List.drop_zero, Nat.zero_add] at this
   refine Ev.step (fun k => by simp only [cu.l1, e3]; rw [if_pos (by omega)]) ?_
   ·rw [hl] at this
    exact this
  ·exact ⟨l, ⟨uJ hB (by omega), hc⟩, hl, Ev.step (f := fun _ => some l) (fun k => by simp only [cu.l1]; rw [if_neg (by omega)]) (Ev.now _)⟩
theorem Ik (z : Int) (l : List RR) (hn : l.length ≤ 1000000) (hf : ∀ y ∈ l, fine y) : ∀ (d t : Nat) (p : List RR), p.length = t * 20 → p.length ≤ l.length → l.length - p.length ≤ d → Blocks aW 20 p →
  (∀ x, cls aW p x = cls aW (l.take p.length) x) → ∃ l', l'.length = l.length ∧ Blocks aW 20 l' ∧ (∀ x, cls aW l' x = cls aW l x) ∧
   ∀ r, Ev (fun k => cu.l1 k l' (l.length : Int) z 20) r → Ev (fun k => cu.l0 k (p ++ l.drop p.length) (l.length : Int) z 20 (p.length : Int) ((p.length + 20 : Nat) : Int)) r := by
 intro d
 induction d with
 | zero =>
  intro t p ht hp hd hbp hc
  have hq : l.drop p.length = [] := List.drop_of_length_le (by omega)
  have hpf : ∀ y ∈ p, fine y := fun y hy => by
   have h1 : y ∈ l.take p.length := lQ fD hc hy
   exact hf y (List.mem_of_mem_take h1)
  obtain ⟨m, g1, g2, g3⟩ := zy p [] [] z (by simpa using hpf) (by simp; omega)
  have hm : m = [] := List.length_eq_zero_iff.mp (by simpa using g2)
  subst hm
  simp only [List.append_nil, List.length_nil, Nat.add_zero] at g3
  rw [hq, List.append_nil]
  refine ⟨p, by omega, hbp, fun x => by rw [hc, List.take_of_length_le (by omega)], fun r hr => ?_⟩
  have hpl : p.length = l.length := by omega
  refine Ev.step (f := fun k => (bg.f k p (p.length : Int) (p.length : Int) z).bind fun t141 => cu.l1 k t141 (l.length : Int) z 20) (fun k => by simp only [cu.l0]; rw [if_neg (by omega), hpl]) ?_
  exact Ev.bind g3 hr
 | succ d ih =>
  intro t p ht hp hd hbp hc
  obtain ⟨a, ha⟩ : ∃ a, p.length = a := ⟨_, rfl⟩
  obtain ⟨q, hq⟩ : ∃ q, l.drop a = q := ⟨_, rfl⟩
  have hql : q.length = l.length - a := by rw [← hq, List.length_drop]
  have hlq : l = l.take a ++ q := by rw [← hq, List.take_append_drop]
  have hqf : ∀ y ∈ q, fine y := fun y hy => hf y (by rw [hlq]; exact List.mem_append_right _ hy)
  have hpf : ∀ y ∈ p, fine y := fun y hy => by
   have h1 : y ∈ l.take p.length := lQ fD hc hy
   exact hf y (List.mem_of_mem_take h1)
  have hpq : (p ++ q).length = l.length := by rw [List.length_append, hql]; omega
  have hfpq : ∀ y ∈ p ++ q, fine y := fun y hy => by
   rcases List.mem_append.mp hy with h | h
   ·exact hpf y h
   ·exact hqf y h
  rw [ha] at hc hp hd ⊢
  rw [hq]
  by_cases hb : a + 20 ≤ l.length
  ·obtain ⟨m, g1, g2, g3⟩ := zy p (q.take 20) (q.drop 20) z (by rw [List.take_append_drop]; exact hfpq) (by rw [List.take_append_drop, hpq]; exact hn)
   have l1 : (q.take 20).length = 20 := by rw [List.length_take]; omega
   rw [l1] at g2
   rw [List.take_append_drop, l1, ha] at g3
   have hpm : (p ++ m).length = a + 20 := by rw [List.length_append, ha, g2]
   have htk : l.take (a + 20) = l.take a ++ q.take 20 := by
    conv => lhs; rw [hlq]
    rw [List.take_append, List.length_take, List.take_of_length_le (by rw [List.length_take]; omega), Nat.min_eq_left hp, show a + 20 - a = 20 by omega]
   obtain ⟨l', k1, k2, k3, k4⟩ := ih (t + 1) (p ++ m) (by rw [hpm, ← ha, ht]; omega) (by omega) (by omega) (mo hbp (by rw [ha] at ht ⊢; exact ht) g1.1 (by omega)) (fun x => by
    rw [hpm, htk, eT, hc, g1.2, ← eT])
   refine ⟨l', k1, k2, k3, fun r hr => ?_⟩
   have := k4 r hr
   rw [hpm, ← List.drop_drop, hq, List.append_assoc] at this
   have e4 : wrap64 (((a + 20 : Nat) : Int) + 20) = ((a + 20 + 20 : Nat) : Int) := w64 (by omega) (by omega)
   refine Ev.step (f := fun k => (bg.f k (p ++ q) (a : Int) ((a + 20 : Nat) : Int) z).bind fun t140 => cu.l0 k t140 (l.length : Int) z 20 ((a + 20 : Nat) : Int) ((a + 20 + 20 : Nat) : Int)) (fun k => by simp only [cu.l0, e4]; rw [if_pos (by omega)]) ?_
   exact Ev.bind g3 this
  ·obtain ⟨m, g1, g2, g3⟩ := zy p q [] z (by rw [List.append_nil]; exact hfpq) (by rw [List.append_nil, hpq]; exact hn)
   rw [List.append_nil, List.append_nil, ha, hql, show a + (l.length - a) = l.length by omega] at g3
   refine ⟨p ++ m, by rw [List.length_append, ha, g2]; omega, mo hbp (by rw [ha] at ht ⊢; exact ht) g1.1 (by omega), fun x => ?_, fun r hr => ?_⟩
   ·rw [eT, hc, g1.2, ← eT, ← hlq]
   ·refine Ev.step (f := fun k => (bg.f k (p ++ q) (a : Int) (l.length : Int) z).bind fun t141 => cu.l1 k t141 (l.length : Int) z 20) (fun k => by simp only [cu.l0]; rw [if_neg (by omega)]) ?_
    exact Ev.bind g3 hr
theorem CB (l : List RR) (z : Int) (hn : l.length ≤ 1000000) (hf : ∀ y ∈ l, fine y) : ∃ m, fu aW l m ∧ m.length = l.length ∧ Ev (fun k => ou.f k l z) m := by
 obtain ⟨l', k1, k2, k3, k4⟩ := Ik z l hn hf l.length 0 [] (by simp) (by simp) (by simp) (uW _) (fun x => by simp)
 obtain ⟨m, g1, g2, g3⟩ := Gx z l.length hn l l.length 20 l' (by omega) (by omega) (by omega) k1 (fun y hy => hf y (lQ fD k3 hy)) k2 k3
 refine ⟨m, g1, g2, ?_⟩
 have := k4 m g3
 simp only [List.length_nil, List.nil_append, List.drop_zero, Nat.zero_add] at this
 unfold ou.f
 refine Ev.bind (a := m) ?_ (Ev.now _)
 exact this
theorem EN (l : List RR) (hn : l.length ≤ 1000000) : ∀ (d i : Nat) (m : List RR), l.length = 2 * i + d → m.length = l.length → (∀ t, m[t]? = if t < i ∨ l.length - i ≤ t ∧ t < l.length then l[l.length - 1 - t]? else l[t]?) →
  Ev (fun k => eY.l0 k m (i : Int) (wrap64 ((l.length : Int) - 1 - (i : Int)))) l.reverse := by
 intro d
 induction d using Nat.strongRecOn with
 | _ d ih =>
  intro i m hd hm hg
  by_cases h : 2 ≤ d
  ·have ej : wrap64 ((l.length : Int) - 1 - (i : Int)) = ((l.length - 1 - i : Nat) : Int) := w64 (by omega) (by omega)
   have e1 : wrap64 ((i : Int) + 1) = ((i + 1 : Nat) : Int) := w64 (by omega) (by omega)
   have e2 : wrap64 (((l.length - 1 - i : Nat) : Int) - 1) = wrap64 ((l.length : Int) - 1 - ((i + 1 : Nat) : Int)) := by congr 1; omega
   have hs := Ct m i (l.length - 1 - i) (by omega) (by omega)
   have hgs := CZ m i (l.length - 1 - i) (by omega) (by omega)
   refine Ev.step (f := fun k => eY.l0 k (sw m i (l.length - 1 - i)) ((i + 1 : Nat) : Int) (wrap64 ((l.length : Int) - 1 - ((i + 1 : Nat) : Int)))) (fun k => ?_) (ih (d - 2) (by omega) (i + 1) _ (by omega) (by rw [wS]; exact hm) (fun t => ?_))
   ·rw [ej]
    simp only [eY.l0, e1, e2]
    rw [if_pos (by omega), if_pos (by omega), if_pos (by omega), if_pos (by omega), if_pos (by omega), ← hs]
    rfl
   ·rw [hgs, hg, hg, hg]
    repeat' split
    all_goals first | rfl | (exfalso; omega) | (refine congrArg (fun k => l[k]?) ?_; omega)
  ·refine Ev.step (f := fun _ => some m) (fun k => ?_) ?_
   ·have : ¬ (i : Int) < wrap64 ((l.length : Int) - 1 - (i : Int)) := by
     unfold wrap64; omega
    simp only [eY.l0]
    rw [if_neg this]
   ·have : m = l.reverse := List.ext_getElem? fun t => by
     rw [hg]
     by_cases ht : t < l.length
     ·rw [List.getElem?_reverse ht]
      split
      ·rfl
      ·refine congrArg (fun k => l[k]?) ?_; omega
     ·rw [if_neg (by omega), List.getElem?_eq_none (by omega), List.getElem?_eq_none (by rw [List.length_reverse]; omega)]
    rw [this]
    exact Ev.now _
theorem Jp (l : List RR) (hn : l.length ≤ 1000000) : Ev (fun k => eY.f k l) l.reverse := by
 have h := EN l hn l.length 0 l (by omega) rfl (fun t => by
  rw [if_neg (by omega)])
 have e : (l.length : Int) - 1 - ((0 : Nat) : Int) = (l.length : Int) - 1 := by omega
 rw [e] at h
 exact h
end Go.Y.Rrs
namespace Go.Y.Rrs
open Go.RowKit Go.V.aC Go.V.aV Go.V.aX Go.Y.Given Go.Y.PRd Go.Y.PRr Go.Y.PSo
def lT {α : Type} (e : α → α → Bool) : α → List α → List α
 | _, [] => []
 | a, b :: l => if e b a = true then lT e b l else b :: lT e b l
def comp {α : Type} (e : α → α → Bool) : List α → List α
 | [] => []
 | a :: l => a :: lT e a l
theorem uZ {α : Type} (e : α → α → Bool) (x : α) : ∀ (l : List α) (a : α), lT e a (l ++ [x]) = lT e a l ++ (if e x (l.getLastD a) = true then [] else [x])
 | [], a => by
  simp only [List.nil_append, lT, List.getLastD_nil]
  rfl
 | b :: l, a => by
  have ih := uZ e x l b
  simp only [List.cons_append, lT, List.getLastD_cons]
  rw [ih]
  split <;> simp
theorem rG {α : Type} (e : α → α → Bool) (l : List α) (t : Nat) (ht : t + 1 < l.length) : comp e (l.take (t + 2)) = comp e (l.take (t + 1)) ++ (if e l[t + 1] l[t] = true then [] else [l[t + 1]]) := by
 cases l with
 | nil => simp at ht
 | cons a l =>
  have h1 : t < l.length := by simpa using ht
  have e1 : l.take (t + 1) = l.take t ++ [l[t]] := by rw [List.take_succ_eq_append_getElem h1]
  have e2 : (l.take t).getLastD a = (a :: l)[t]'(by simp; omega) := by
   cases t with
   | zero => rfl
   | succ t =>
    rw [List.take_succ_eq_append_getElem (show t < l.length by omega), List.getLastD_concat]
    rfl
  rw [List.take_succ_cons, List.take_succ_cons, comp, comp, e1, uZ, List.cons_append, e2]
  rfl
theorem xJ {α : Type} (e : α → α → Bool) (l : List α) : ∀ t, t ≤ l.length → (∀ j (hj : j + 1 < l.length), j + 1 < t → e l[j + 1] l[j] = false) → comp e (l.take t) = l.take t := by
 intro t
 induction t with
 | zero => intro _ _; rw [List.take_zero]; rfl
 | succ t ih =>
  intro ht h
  cases t with
  | zero =>
   cases l with
   | nil => simp at ht
   | cons a l => rfl
  | succ t =>
   rw [rG e l t (by omega), ih (by omega) (fun j hj h1 => h j hj (by omega)), h t (by omega) (by omega)]
   simp only [Bool.false_eq_true, if_false]
   rw [List.take_succ_eq_append_getElem (show t + 1 < l.length by omega)]
theorem Ht {α : Type} (p s : List α) (x y : α) : (p ++ x :: s).set p.length y = p ++ y :: s := by
 rw [List.set_append_right _ _ (Nat.le_refl _), Nat.sub_self, List.set_cons_zero]
theorem Row.below {w w' : World} {base g cap : Nat} {l : List RR} {rest : List Value} (h : Row w base g cap l rest) (hb : Below w.heap.size w w') : Row w' base g cap l rest := ⟨aD h.blk hb, h.lo, h.fits, h.len⟩
theorem Row.drew {w : World} {base g cap : Nat} {l : List RR} {rest : List Value} (h : Row w base g cap l rest) : Row w.drew base g cap l rest := ⟨gB h.blk, h.lo, h.fits, h.len⟩
theorem vK (m : Nat) : (Builtin.zeroCells zRR.cells m).toList = flat (List.replicate m (⟨⟨#[]⟩, 0, 0, 0, ⟨#[]⟩⟩ : RR)) := by
 exact rW (R := fun x cs => cs = mE x) (fun x cs h => h) _ _ (Kd.Bo (z := zRR) (size := 5) (z0 := (⟨⟨#[]⟩, 0, 0, 0, ⟨#[]⟩⟩ : RR)) rfl (by decide) rfl m)
theorem BG (w : World) (ty : TypeId) (g cap q : Nat) (base : Nat) (l : List RR) (rest : List Value) (h : Row w base g cap l rest) (hq : q < l.length) (cc : Nat) :
  ∃ rest', Row (w.setRow g ((flat l ++ rest).take (q * 5) ++ (Builtin.zeroCells zRR.cells (l.length - q)).toList ++ (flat l ++ rest).drop (q * 5 + (Builtin.zeroCells zRR.cells (l.length - q)).toList.length)).toArray) base g cap (l.take q) rest' ∧
  (Builtin.clear_ #[22] ty #[.slice (some ⟨g, q * 5, none⟩) (l.length - q) cc]).run Tryz.prog w = .ok (.tuple #[]) (w.setRow g ((flat l ++ rest).take (q * 5) ++ (Builtin.zeroCells zRR.cells (l.length - q)).toList ++ (flat l ++ rest).drop (q * 5 + (Builtin.zeroCells zRR.cells (l.length - q)).toList.length)).toArray) := by
 obtain ⟨i0, hi0, hz0, hzs, hzb⟩ := xS
 have hu22 := Tryz.underlying22
 obtain ⟨zs, hzz⟩ : ∃ zs, (Builtin.zeroCells zRR.cells (l.length - q)).toList = zs := ⟨_, rfl⟩
 have hzl : zs.length = (l.length - q) * 5 := by rw [← hzz, vK, iN, List.length_replicate]
 have hone : ∀ v ∈ zs, v.oneCell' = true := by rw [← hzz, vK]; exact yX _
 have hfl := iN l
 have hfit : q * 5 + 0 + zs.length ≤ (flat l ++ rest).toArray.size := by rw [List.size_toArray, List.length_append, hfl]; omega
 have hst := run_storeCells_at Tryz.prog g (q * 5) tRR zs 0 (flat l ++ rest).toArray w h.blk hfit hone
 rw [hzz]
 have htk : (flat l ++ rest).take (q * 5) = flat (l.take q) := by rw [List.take_append_of_le_length (by rw [hfl]; omega), Dr l q (by omega)]
 refine ⟨zs ++ (flat l ++ rest).drop (q * 5 + zs.length), ⟨?_, h.lo, h.fits, ?_⟩, ?_⟩
 ·rw [setRow_heap _ g _ _ _ _ h.blk, htk, List.append_assoc]
 ·have := h.len
  rw [List.length_take, List.length_append, List.length_drop, List.length_append, hfl]; omega
 ·have hne : ¬ (l.length - q = 0) := by omega
  obtain ⟨m, hm⟩ : ∃ m, l.length - q = m + 1 := ⟨l.length - q - 1, by omega⟩
  rw [hm] at hzz ⊢
  simp only [Nat.add_zero, List.toList_toArray] at hst
  simp [Builtin.clear_, run_underlying hu22, zeroValue, typeInfo, hi0, hz0, hzz, hst]
theorem yT (k : Nat) (y x : RR) (c : Bool) (w : World) (h : kT.f k y.f0 y.f1 y.f2 y.f3 y.f4 x.f0 x.f1 x.f2 x.f3 x.f4 = some c) :
  Calls Tryz.prog 80 #[y.v, x.v] w fun e w' => e = .returned (.bool c) ∧ Below w.heap.size w w' := kT.calls k _ _ _ _ _ _ _ _ _ _ c w h
theorem zT (K : Nat) (l : List RR) (e : RR → RR → Bool) (he : ∀ x ∈ l, ∀ y ∈ l, kT.f K x.f0 x.f1 x.f2 x.f3 x.f4 y.f0 y.f1 y.f2 y.f3 y.f4 = some (e x y)) (hn : l.length ≤ 1000000) (h2 : 2 ≤ l.length) (base : Nat) (ok : Nat → Prop) (w0 w : World) (hB : Below base w0 w) (g c : Nat) (rest : List Value) (HO : Row w base g c l rest) (hok : ok g) :
  Calls Tryz.prog 79 #[.slice (some ⟨g, 0, none⟩) l.length c, .func (.func 80) #[] #[]] w fun en w' => ∃ v', en = .returned v' ∧ Kd.R kRR tRR w' base ok v' (comp e l) ∧ Below base w0 w' := by
 have hu22 := Tryz.underlying22
 have hu41 := Tryz.underlying44
 have HE := Lib.hid he
 have HOK := Lib.hid hok
 have HB := Lib.hid hB
 have HR := Lib.hid HO
 have hcf : c ≤ 9223372036854775807 := by have := HO.fits; unfold maxLen at this; exact this
 have hlc : l.length ≤ c := by have := HO.len; omega
 obtain ⟨n, hnn⟩ : ∃ n, l.length = n := ⟨_, rfl⟩
 have HN := Lib.hid hnn
 rw [hnn] at hn h2 hlc ⊢
 clear he hB HO hok hnn
 go_enter Tryz.func79, Tryz.ntmps79
 have b0 : ¬ ((n : Int) < 2) := by omega
 go_wp2_with fail
 go_loopg [5] n (fun kx s5 wr => ∃ k : Nat, s5 = .int .i64 (k : Int) ∧ 1 ≤ k ∧ k ≤ n ∧ n - k ≤ kx ∧ Hid (∀ j (hj : j + 1 < l.length), j + 1 < k → e l[j + 1] l[j] = false) ∧ Hid (Below base w0 wr) ∧ Hid (Row wr base g c l rest))
 case atStart => exact ⟨1, rfl, by omega, by omega, by omega, Lib.hid (fun j hj h => by omega), Lib.hid HB.out, Lib.hid HR.out⟩
 case round =>
  clear HB HR
  obtain ⟨k, rfl, hk1, hkn, hkx, HS, HB, HR⟩ := hrel
  by_cases hlt : k < n
  ·obtain ⟨j, rfl⟩ : ∃ j, k = j + 1 := ⟨k - 1, by omega⟩
   have p1 : (0 : Int) ≤ ((j + 1 : Nat) : Int) := by omega
   have q1 : ((j + 1 : Nat) : Int) < (l.length : Int) := by rw [HN.out]; omega
   have p2 : (0 : Int) ≤ (j : Int) := by omega
   have q2 : (j : Int) < (l.length : Int) := by rw [HN.out]; omega
   obtain ⟨ad, e1, hx0, hx1, hx2, hx3, hx4⟩ := dM (Kd.aN (HR.out.R (ok := fun _ => True) trivial)).2.2 ((j + 1 : Nat) : Int) p1 q1
   cases e1
   obtain ⟨ad, e1, hy0, hy1, hy2, hy3, hy4⟩ := dM (Kd.aN (HR.out.R (ok := fun _ => True) trivial)).2.2 (j : Int) p2 q2
   cases e1
   rw [Int.toNat_natCast] at hx0 hx1 hx2 hx3 hx4 hy0 hy1 hy2 hy3 hy4
   simp only [Addr.add_lit, Nat.zero_add] at hx0 hx1 hx2 hx3 hx4 hy0 hy1 hy2 hy3 hy4
   have hl1 : rdR l ((j + 1 : Nat) : Int) ∈ l := by rw [eH l _ (by rw [HN.out]; exact hlt)]; exact List.getElem_mem _
   have hl0 : rdR l (j : Nat) ∈ l := by rw [eH l _ (by rw [HN.out]; omega)]; exact List.getElem_mem _
   have hcall := yT K (rdR l ((j + 1 : Nat) : Int)) (rdR l (j : Nat)) (e (rdR l ((j + 1 : Nat) : Int)) (rdR l (j : Nat))) wr.drew (HE.out _ hl1 _ hl0)
   have HCALL := Lib.hid hcall
   clear hcall hl1 hl0 p1 q1 p2 q2
   have g1 : ((j + 1 : Nat) : Int) = (j : Int) + 1 := by omega
   have g2 : (j : Int) + 1 < (n : Int) := by omega
   have g3 : (0 : Int) ≤ (j : Int) := by omega
   have g4 : (j : Int) < (n : Int) := by omega
   have g5 : (0 : Int) ≤ (j : Int) + 1 := by omega
   have g6 : ((j : Int) + 1).toNat = j + 1 := by omega
   have g7 : (j : Int) + 1 - 1 = (j : Int) := by omega
   have hw0 : IntKind.i64.wrap (j : Int) = (j : Int) := by rw [IntKind.wrap_i64]; omega
   have hw1 : IntKind.i64.wrap ((j : Int) + 1) = (j : Int) + 1 := by rw [IntKind.wrap_i64]; omega
   have hw2 : IntKind.i64.wrap ((j : Int) + 1 + 1) = (j : Int) + 1 + 1 := by rw [IntKind.wrap_i64]; omega
   rw [g1]
   clear g1
   go_wp2_with fail
   go_still_tail 10, (by kernel_rfl)
   change wpList _ _ _ _ _ wr.drew
   have HB1 := Lib.hid (dx HB.out)
   have HR1 := Lib.hid (HR.out.drew)
   clear HB HR hx0 hx1 hx2 hx3 hx4 hy0 hy1 hy2 hy3 hy4
   generalize wr.drew = wd at HB1 HR1 HCALL
   go_wp2_with fail
   refine (HCALL.out).mono ?_
   rintro en w4 ⟨rfl, hb4⟩
   have HB4 := Lib.hid (iI HB1.out (Nat.le_trans HR1.out.lo (Nat.le_of_lt (gK HR1.out.blk))) hb4)
   have HR4 := Lib.hid (HR1.out.below hb4)
   clear hb4 HB1 HR1 HCALL
   generalize hd : e (rdR l ((j + 1 : Nat) : Int)) (rdR l (j : Nat)) = d
   have HD := Lib.hid hd
   clear hd
   cases d with
   | false =>
    go_wp2_with fail
    go_roundg (n - (j + 2))
    case measure => omega
    case rel => exact ⟨j + 2, by rw [show ((j + 2 : Nat) : Int) = (j : Int) + 1 + 1 by omega], by omega, by omega, Nat.le_refl _, Lib.hid (fun i hi h1 => by
     by_cases h2 : i = j
     ·subst h2
      have := HD.out
      rw [eH l _ hi, eH l _ (by omega)] at this
      exact this
     ·exact HS.out i hi (by omega)), HB4, HR4⟩
   | true =>
    have hc0 : comp e (l.take (j + 1 + 0 + 1)) = l.take (j + 1) := by
     rw [show j + 1 + 0 + 1 = j + 2 by omega, rG e l j (by rw [HN.out]; omega)]
     have h1 := HD.out
     rw [eH l _ (by rw [HN.out]; omega), eH l _ (by rw [HN.out]; omega)] at h1
     rw [h1, if_pos rfl, List.append_nil]
     exact xJ e l (j + 1) (by rw [HN.out]; omega) (fun i hi h1 => HS.out i hi h1)
    have HC0 := Lib.hid hc0
    clear hc0 HD HS hkx hk1 hkn
    go_wp2_with fail
    go_loopg [5, 7] n (fun kx s5 s7 wr => ∃ q t : Nat, s5 = .int .i64 (q : Int) ∧ s7 = .int .i64 ((t : Int) + 1) ∧ j + 1 ≤ q ∧ q ≤ j + 1 + t ∧ j + 1 + t + 1 ≤ n ∧ n - t ≤ kx ∧ Hid ((comp e (l.take (j + 1 + t + 1))).length = q) ∧ Hid (Below base w0 wr) ∧ Hid (Row wr base g c (comp e (l.take (j + 1 + t + 1)) ++ l.drop q) rest))
    case atStart => exact ⟨j + 1, 0, by rw [show ((j + 1 : Nat) : Int) = (j : Int) + 1 by omega], rfl, Nat.le_refl _, by omega, by omega, by omega, Lib.hid (by rw [HC0.out, List.length_take, HN.out]; omega), HB4, Lib.hid (by rw [HC0.out, List.take_append_drop]; exact HR4.out)⟩
    case round =>
     clear HB4 HR4 HC0
     obtain ⟨q, t, rfl, rfl, hq1, hq2, hq3, hkx2, HL, HB, HR⟩ := hrel
     obtain ⟨cur, hcur⟩ : ∃ cur, comp e (l.take (j + 1 + t + 1)) ++ l.drop q = cur := ⟨_, rfl⟩
     have HCU := Lib.hid hcur
     rw [hcur] at HR
     have hcl : cur.length = n := by rw [← hcur, List.length_append, HL.out, List.length_drop, HN.out]; omega
     have HCL := Lib.hid hcl
     have hrd : ∀ i : Nat, q ≤ i → i < n → rdR cur (i : Nat) = rdR l (i : Nat) := fun i h1 h2 => by
      rw [eH cur i (by omega), eH l i (by rw [HN.out]; exact h2)]
      have : cur[i]? = l[i]? := by
       rw [← hcur, List.getElem?_append_right (by rw [HL.out]; exact h1), HL.out, List.getElem?_drop]
       congr 1; omega
      rw [List.getElem?_eq_getElem (by omega), List.getElem?_eq_getElem (by rw [HN.out]; exact h2)] at this
      exact Option.some.inj this
     have HRD := Lib.hid hrd
     clear hcur hcl hrd
     by_cases hlt2 : j + 1 + t + 1 < n
     ·obtain ⟨ad, e1, hx0, hx1, hx2, hx3, hx4⟩ := dM (Kd.aN (HR.out.R (ok := fun _ => True) trivial)).2.2 ((j + 1 + t + 1 : Nat) : Int) (by omega) (by rw [HCL.out]; omega)
      cases e1
      obtain ⟨ad, e1, hy0, hy1, hy2, hy3, hy4⟩ := dM (Kd.aN (HR.out.R (ok := fun _ => True) trivial)).2.2 ((j + 1 + t : Nat) : Int) (by omega) (by rw [HCL.out]; omega)
      cases e1
      have hA : (j + 1 + t + 1) * 5 = (j + 1) * 5 + (t + 1) * 5 := by omega
      have hA2 : (j + 1 + t) * 5 = (j + 1) * 5 + t * 5 := by omega
      have r1 := HRD.out (j + 1 + t + 1) (by omega) hlt2
      have r2 := HRD.out (j + 1 + t) (by omega) (by omega)
      simp only [Int.toNat_natCast, Addr.add_lit, Nat.zero_add] at hx0 hx1 hx2 hx3 hx4 hy0 hy1 hy2 hy3 hy4
      rw [hA] at hx0 hx1 hx2 hx3 hx4
      rw [hA2] at hy0 hy1 hy2 hy3 hy4
      rw [show aj cur ((j + 1 + t + 1 : Nat) : Int) = rdR l ((j + 1 + t + 1 : Nat) : Int) from r1] at hx0 hx1 hx2 hx3 hx4
      rw [show aj cur ((j + 1 + t : Nat) : Int) = rdR l ((j + 1 + t : Nat) : Int) from r2] at hy0 hy1 hy2 hy3 hy4
      have hl1 : rdR l ((j + 1 + t + 1 : Nat) : Int) ∈ l := by rw [eH l _ (by rw [HN.out]; exact hlt2)]; exact List.getElem_mem _
      have hl0 : rdR l ((j + 1 + t : Nat) : Int) ∈ l := by rw [eH l _ (by rw [HN.out]; omega)]; exact List.getElem_mem _
      obtain ⟨x, hxx⟩ : ∃ x, rdR l ((j + 1 + t + 1 : Nat) : Int) = x := ⟨_, rfl⟩
      obtain ⟨y, hyy⟩ : ∃ y, rdR l ((j + 1 + t : Nat) : Int) = y := ⟨_, rfl⟩
      rw [hxx] at hx0 hx1 hx2 hx3 hx4 hl1
      rw [hyy] at hy0 hy1 hy2 hy3 hy4 hl0
      have HX := Lib.hid hxx
      have HY := Lib.hid hyy
      have hcall := yT K x y (e x y) wr.drew (HE.out _ hl1 _ hl0)
      have HCALL := Lib.hid hcall
      clear hcall hl1 hl0 r1 r2 hA hA2 hxx hyy
      have k1 : (t : Int) + 1 < ((n - (j + 1) : Nat) : Int) := by omega
      have k2 : (0 : Int) ≤ (t : Int) := by omega
      have k3 : (t : Int) < ((n - (j + 1) : Nat) : Int) := by omega
      have k4 : (0 : Int) ≤ (t : Int) + 1 := by omega
      have k5 : ((t : Int) + 1).toNat = t + 1 := by omega
      have k6 : (t : Int) + 1 - 1 = (t : Int) := by omega
      have k7 : IntKind.i64.wrap (t : Int) = (t : Int) := by rw [IntKind.wrap_i64]; omega
      have k8 : IntKind.i64.wrap ((t : Int) + 1) = (t : Int) + 1 := by rw [IntKind.wrap_i64]; omega
      have k9 : IntKind.i64.wrap ((t : Int) + 1 + 1) = (t : Int) + 1 + 1 := by rw [IntKind.wrap_i64]; omega
      go_wp2_with fail
      go_still_tail 10, (by kernel_rfl)
      change wpList _ _ _ _ _ wr.drew
      have HB1 := Lib.hid (dx HB.out)
      have HR1 := Lib.hid (HR.out.drew)
      clear HB HR hx0 hx1 hx2 hx3 hx4 hy0 hy1 hy2 hy3 hy4
      generalize wr.drew = wd at HB1 HR1 HCALL
      go_wp2_with fail
      refine (HCALL.out).mono ?_
      rintro en w5 ⟨rfl, hb5⟩
      have HB5 := Lib.hid (iI HB1.out (Nat.le_trans HR1.out.lo (Nat.le_of_lt (gK HR1.out.blk))) hb5)
      have HR5 := Lib.hid (HR1.out.below hb5)
      clear hb5 HB1 HR1 HCALL
      generalize hd : e x y = d
      have HD := Lib.hid hd
      clear hd
      have hct := rG e l (j + 1 + t) (by rw [HN.out]; exact hlt2)
      rw [show l[j + 1 + t + 1]'(by rw [HN.out]; exact hlt2) = x by rw [← HX.out, eH l _ (by rw [HN.out]; exact hlt2)], show l[j + 1 + t]'(by rw [HN.out]; omega) = y by rw [← HY.out, eH l _ (by rw [HN.out]; omega)], HD.out] at hct
      have HCT := Lib.hid hct
      clear hct
      cases d with
      | true =>
       have hc1 : comp e (l.take (j + 1 + (t + 1) + 1)) = comp e (l.take (j + 1 + t + 1)) := by
        rw [show j + 1 + (t + 1) + 1 = j + 1 + t + 2 by omega, HCT.out, if_pos rfl, List.append_nil]
       have HC1 := Lib.hid hc1
       clear hc1
       go_wp2_with fail
       go_roundg (n - (t + 1))
       case measure => omega
       case rel => exact ⟨q, t + 1, rfl, by rw [show ((t + 1 : Nat) : Int) + 1 = (t : Int) + 1 + 1 by omega], hq1, by omega, by omega, Nat.le_refl _, Lib.hid (by rw [HC1.out]; exact HL.out), HB5, Lib.hid (by rw [HC1.out, HCU.out]; exact HR5.out)⟩
      | false =>
       obtain ⟨ad, e1, hx0, hx1, hx2, hx3, hx4⟩ := dM (Kd.aN (HR5.out.R (ok := fun _ => True) trivial)).2.2 ((j + 1 + t + 1 : Nat) : Int) (by omega) (by rw [HCL.out]; omega)
       cases e1
       obtain ⟨ad, e1, hy0, hy1, hy2, hy3, hy4⟩ := dM (Kd.aN (HR5.out.R (ok := fun _ => True) trivial)).2.2 (q : Int) (by omega) (by rw [HCL.out]; omega)
       cases e1
       have hA : (j + 1 + t + 1) * 5 = (j + 1) * 5 + (t + 1) * 5 := by omega
       have r1 := HRD.out (j + 1 + t + 1) (by omega) hlt2
       simp only [Int.toNat_natCast, Addr.add_lit, Nat.zero_add] at hx0 hx1 hx2 hx3 hx4 hy0 hy1 hy2 hy3 hy4
       rw [hA] at hx0 hx1 hx2 hx3 hx4
       rw [show aj cur ((j + 1 + t + 1 : Nat) : Int) = rdR l ((j + 1 + t + 1 : Nat) : Int) from r1, HX.out] at hx0 hx1 hx2 hx3 hx4
       clear hA r1
       have f0 := bR HR5.out.blk (q * 5)
       have f1 := bR HR5.out.blk (q * 5 + 1)
       have f2 := bR HR5.out.blk (q * 5 + 2)
       have f3 := bR HR5.out.blk (q * 5 + 3)
       have f4 := bR HR5.out.blk (q * 5 + 4)
       have m1 : (0 : Int) ≤ (q : Int) := by omega
       have m2 : (q : Int) < (n : Int) := by omega
       have m3 : IntKind.i64.wrap ((q : Int) + 1) = (q : Int) + 1 := by rw [IntKind.wrap_i64]; omega
       have hrow := HR5.out.put x q (by rw [HCL.out]; omega) _ _ _ _ _ rfl
       have hset : cur.set q x = comp e (l.take (j + 1 + (t + 1) + 1)) ++ l.drop (q + 1) := by
        have hd : l.drop q = (l[q]'(by rw [HN.out]; omega)) :: l.drop (q + 1) := List.drop_eq_getElem_cons _
        rw [show j + 1 + (t + 1) + 1 = j + 1 + t + 2 by omega, HCT.out, if_neg (by decide), ← HCU.out, hd]
        have := Ht (comp e (l.take (j + 1 + t + 1))) (l.drop (q + 1)) (l[q]'(by rw [HN.out]; omega)) x
        rw [HL.out] at this
        rw [this]; simp
       rw [hset] at hrow
       have hlen : (comp e (l.take (j + 1 + (t + 1) + 1))).length = q + 1 := by
        rw [show j + 1 + (t + 1) + 1 = j + 1 + t + 2 by omega, HCT.out, if_neg (by decide), List.length_append, HL.out]; rfl
       have hge : base ≤ g := HR5.out.lo
       have hBF := ((((HB5.out.setCell (p := ⟨g, q * 5, none⟩) hge (.string x.f0)).setCell (p := ⟨g, q * 5 + 1, none⟩) hge (.int .i64 x.f1)).setCell (p := ⟨g, q * 5 + 2, none⟩) hge (.int .i64 x.f2)).setCell (p := ⟨g, q * 5 + 3, none⟩) hge (.int .i64 x.f3)).setCell (p := ⟨g, q * 5 + 4, none⟩) hge (.string x.f4)
       have HROW := Lib.hid hrow
       have HBF := Lib.hid hBF
       have HLEN := Lib.hid hlen
       clear hrow hBF hlen hset hge
       go_wp2_with fail
       go_roundg (n - (t + 1))
       case measure => omega
       case rel => exact ⟨q + 1, t + 1, by rw [show ((q + 1 : Nat) : Int) = (q : Int) + 1 by omega], by rw [show ((t + 1 : Nat) : Int) + 1 = (t : Int) + 1 + 1 by omega], by omega, by omega, by omega, Nat.le_refl _, HLEN, HBF, HROW⟩
     ·obtain ⟨rest', hrow, hrun⟩ := BG wr 0 g c q base cur rest HR.out (by rw [HCL.out]; omega) (c - q)
      have htk : cur.take q = comp e l := by
       rw [← HCU.out, List.take_append_of_le_length (by rw [HL.out]; exact Nat.le_refl _), List.take_of_length_le (by rw [HL.out]; exact Nat.le_refl _), List.take_of_length_le (by rw [HN.out]; omega)]
      rw [htk, HCL.out] at hrow
      rw [HCL.out] at hrun
      have hql : (comp e l).length = q := by rw [← htk, List.length_take, HCL.out]; omega
      obtain ⟨w6, hw6⟩ : ∃ w6, w6 = (wr.setRow g ((flat cur ++ rest).take (q * 5) ++ (Builtin.zeroCells zRR.cells (n - q)).toList ++ (flat cur ++ rest).drop (q * 5 + (Builtin.zeroCells zRR.cells (n - q)).toList.length)).toArray) := ⟨_, rfl⟩
      rw [← hw6] at hrow hrun
      have hgw : wr.grownBy w6 (some g) := by rw [hw6]; exact ⟨rfl, rfl, rfl, by simp, fun k hk hkg => setRow_other _ _ _ _ (fun e => hkg (by rw [e]))⟩
      have hBF := HB.out.grown hgw (Nat.le_trans HR.out.lo (Nat.le_of_lt (gK HR.out.blk))) (fun k hk => by injection hk with hk; subst hk; exact HR.out.lo)
      have HROW := Lib.hid hrow
      have HBF := Lib.hid hBF
      have HQL := Lib.hid hql
      have HRUN := Lib.hid hrun
      have c1 : ¬ ((t : Int) + 1 < ((n - (j + 1) : Nat) : Int)) := by omega
      have c2 : (0 : Int) ≤ (q : Int) := by omega
      have c3 : (q : Int) ≤ (n : Int) := by omega
      have c4 : ¬ (c = q) := by omega
      have c5 : (q : Int) ≤ (c : Int) := by omega
      have c6 : q ≤ n := by omega
      clear hrow hBF hgw hrun htk hql hw6 HB HR
      go_wp2_with fail
      rw [HRUN.out, Result.andThen_ok, Oper.upon_value]
      rename_i K1 hK1
      first | refine hK1 _ _ ?_ | (rename_i K2 hK2; refine hK2 _ _ ?_)
      simp only [Act.put]
      go_wp2_with fail
      go_ret
      have hR := HROW.out.R HOK.out
      rw [HQL.out] at hR
      exact ⟨_, rfl, hR, HBF.out⟩
  ·obtain rfl : k = n := by omega
   have b1 : ¬ ((k : Int) < (k : Int)) := by omega
   go_wp2_with fail
   go_ret
   have hs := xJ e l l.length (Nat.le_refl _) (fun i hi h1 => HS.out i hi (by rw [← HN.out]; exact h1))
   rw [List.take_length] at hs
   rw [hs, ← HN.out]
   exact ⟨_, rfl, HR.out.R HOK.out, HB.out⟩
end Go.Y.Rrs
namespace Go.Y.iD
open Go.Y.Rrs
theorem AL {α : Type} {c : α → α → Int} (O : ig c) (l : List α) {a b : α} (h : c a b = 0) : lT (fun x y => c x y == 0) b l = lT (fun x y => c x y == 0) a l := by
 cases l with
 | nil => rfl
 | cons x l => rw [lT, lT, O.congr a b x h]
theorem zG {α : Type} {c : α → α → Int} (O : ig c) : ∀ (n : Nat) (l : List α), l.length = n → comp (fun x y => c x y == 0) l = firsts c l := by
 intro n
 induction n with
 | zero => intro l h; obtain rfl := List.length_eq_zero_iff.mp h; rw [firsts, comp]
 | succ n ih =>
  intro l h
  match l, h with
  | [a], _ => rw [firsts, comp, lT]
  | a :: b :: l, h =>
   rw [firsts, comp, lT]
   by_cases h0 : c a b = 0
   ·have h1 : (c b a == 0) = true := by rw [beq_iff_eq]; exact O.symm h0
    rw [if_pos h1, if_pos h0, AL O l h0, ← ih (a :: l) (by simpa using h), comp]
   ·have h1 : ¬ (c b a == 0) = true := by rw [beq_iff_eq]; exact fun e => h0 (O.symm e)
    rw [if_neg h1, if_neg h0, ← ih (b :: l) (by simpa using h), comp]
end Go.Y.iD
namespace Go.Y.Rrs
open Go.RowKit Go.V.aC Go.V.aV Go.V.aX Go.Y.Given Go.Y.PRd Go.Y.PRr Go.Y.PSo Go.Y.iD
theorem Jy (x y : RR) (hx : fine x) (hy : fine y) : kT.f 1000 x.f0 x.f1 x.f2 x.f3 x.f4 y.f0 y.f1 y.f2 y.f3 y.f4 = some (aW x y == 0) := by
 unfold kT.f
 rw [show dI.f 1000 x.f0 x.f1 x.f2 x.f3 x.f4 y.f0 y.f1 y.f2 y.f3 y.f4 = some (aW x y) from Aa x y hx.1 hy.1 hx.2 hy.2 1000 (Nat.le_refl _)]
 rfl
theorem compact_all (l : List RR) (hl : ∀ y ∈ l, fine y) (hn : l.length ≤ 1000000) (base : Nat) (ok : Nat → Prop) (w0 w : World) (hB : Below base w0 w) (v : Value) (HO : Kd.R kRR tRR w base ok v l) :
  Calls Tryz.prog 79 #[v, .func (.func 80) #[] #[]] w fun en w' => ∃ v', en = .returned v' ∧ Kd.R kRR tRR w' base ok v' (firsts aW l) ∧ Below base w0 w' := by
 rw [← zG fD l.length l rfl]
 by_cases h2 : 2 ≤ l.length
 ·rcases Row.JK HO with ⟨_, rfl⟩ | ⟨g, c, rest, rfl, hg, hr⟩
  ·simp at h2
  ·exact zT 1000 l (fun x y => aW x y == 0) (fun x hx y hy => Jy x y (hl x hx) (hl y hy)) hn h2 base ok w0 w hB g c rest hr hg
 ·have hc : comp (fun x y => aW x y == 0) l = l := by
   match l, h2 with
   | [], _ => rfl
   | [a], _ => rfl
   | a :: b :: l, h => simp at h
  rw [hc]
  obtain ⟨A, c, rfl⟩ := Kd.bO HO
  have HR := Lib.hid HO
  have HB := Lib.hid hB
  obtain ⟨n, hnn⟩ : ∃ n, l.length = n := ⟨_, rfl⟩
  rw [hnn] at HR h2 ⊢
  clear HO hB hc hnn hn
  have b0 : (n : Int) < 2 := by omega
  go_enter Tryz.func79, Tryz.ntmps79
  go_wp2_with fail
  go_ret
  exact ⟨_, rfl, HR.out, HB.out⟩
end Go.Y.Rrs
namespace Go.Y.Given
open Go.RowKit Go.V.aC Go.V.aV Go.V.aX Go.Y.PRd Go.Y.PRr Go.Y.PSo Go.Y.Rrs Go.Y.iD
open Classical in
noncomputable def lJ.f (l0 : List (S44)) : Option (List (S44)) := if (∀ y ∈ l0, fine y) ∧ l0.length ≤ 1000000 then some (ofL aW l0) else none
theorem JN {l : List RR} (hl : ∀ y ∈ l, fine y) (hn : l.length ≤ 1000000) : lJ.f l = some (ofL aW l) := by
 unfold lJ.f
 rw [if_pos ⟨hl, hn⟩]
theorem lJ.calls (A0 : Option Addr) (c0 : Nat) (l0 : List (S44)) (r : List (S44)) (w : World) (hr0 : Kd.C k44 w A0 l0.length l0) (hc0 : l0.length ≤ c0) (h : lJ.f l0 = some r) :
  Calls Tryz.prog 40 #[.slice A0 l0.length c0] w fun e w' => ∃ v0_ : Value, e = .returned (v0_) ∧ Kd.R k44 44 w' w.heap.size (fun _ => True) v0_ r ∧ Below w.heap.size w w' := by
 unfold lJ.f at h
 have hS : (∀ y ∈ l0, fine y) ∧ l0.length ≤ 1000000 := Classical.byContradiction fun hn => by rw [if_neg hn] at h; cases h
 rw [if_pos hS] at h
 injection h with h
 obtain ⟨hf, hn⟩ := hS
 have hcl : slices_Clone.f l0 = some l0 := by unfold slices_Clone.f; rw [if_pos hn]
 obtain ⟨K1, hrev⟩ := (Jp l0 hn).rounds
 have hfr : ∀ y ∈ l0.reverse, fine y := fun y hy => hf y (List.mem_reverse.mp hy)
 obtain ⟨m, hst, hml, hev⟩ := CB l0.reverse 0 (by rw [List.length_reverse]; exact hn) hfr
 obtain ⟨K2, hsort⟩ := hev.rounds
 have hfm : ∀ y ∈ m, fine y := fun y hy => hfr y (hst.mem fD hy)
 have hnm : m.length ≤ 1000000 := by rw [hml, List.length_reverse]; exact hn
 have hof : firsts aW m = r := by rw [DW fD hst]; exact h
 have CL := fun W hC => slices_Clone.calls A0 c0 l0 l0 W hC hc0 hcl
 have RV := fun v W hB hR => eY.calls K1 (fun _ => True) v l0 l0.reverse w W hB hR hrev
 have ST := fun P v W hB hR => ou.calls K2 P v l0.reverse _ m w W hB hR hsort
 have CP := fun ok v W hB hR => compact_all m hfm hnm w.heap.size ok w W hB v hR
 have HCL := Lib.hid CL
 have HRV := Lib.hid RV
 have HST := Lib.hid ST
 have HCP := Lib.hid CP
 have HR := Lib.hid hr0
 have HOF := Lib.hid hof
 clear CL RV ST CP hr0 hof hsort hev hrev hcl hst hfm hnm hfr hml h hf
 go_enter Tryz.func40, Tryz.ntmps40
 go_wp2_with fail
 refine (HCL.out w HR.out).mono ?_
 rintro e w1 ⟨v, rfl, hv, hb1⟩
 have HV := Lib.hid hv
 have HB := Lib.hid hb1
 clear hv hb1
 go_wp2_with fail
 refine (HRV.out v w1 HB.out HV.out).mono ?_
 rintro e w2 ⟨rfl, hv2, hb2, _⟩
 have HV2 := Lib.hid hv2
 have HB2 := Lib.hid hb2
 clear hv2 hb2 HV HB
 go_wp2_with fail
 refine (HST.out _ v w2 HB2.out HV2.out).mono ?_
 rintro e w3 ⟨rfl, hv3, hb3, _⟩
 have HV3 := Lib.hid hv3
 have HB3 := Lib.hid hb3
 clear hv3 hb3 HV2 HB2
 go_wp2_with fail
 refine (HCP.out _ v w3 HB3.out HV3.out).mono ?_
 rintro e w4 ⟨v4, rfl, hv4, hb4⟩
 have HV4 := Lib.hid hv4
 have HB4 := Lib.hid hb4
 clear hv4 hb4 HV3 HB3
 go_wp2_with fail
 go_ret
 exact ⟨_, rfl, by rw [← HOF.out]; exact Kd.dH HV4.out (fun _ _ => trivial), HB4.out⟩
end Go.Y.Given
namespace Go.Y.Rrs
open Go.RowKit Go.V.aC Go.V.aV Go.V.aX Go.Y.Given Go.Y.PRd Go.Y.PRr
def vV (pr : RR → Bool) (l : List RR) : Int := match l.findIdx? pr with | some i => (i : Int) | none => -1
theorem Dn (l : List RR) (pr : RR → Bool) (hn : l.length ≤ 1000000) (F : FuncId) (fn : Func) (cb : Array Value) (hf : Tryz.prog.funcs[F]? = some fn) (hname : (fn.name == "runtime.NumGoroutine") = false) (hb : fn.body.isSome = true) (A0 : Option Addr) (c0 : Nat) (w : World) (hC : Kd.C kRR w A0 l.length l)
  (hstep : ∀ x ∈ l, ∀ W, Below w.heap.size w W → Calls Tryz.prog F (#[x.v] ++ cb) W fun e w' => e = .returned (.bool (pr x)) ∧ Below W.heap.size W w') :
  Calls Tryz.prog 73 #[.slice A0 l.length c0, .func (.func F) #[] cb] w fun e w' => e = .returned (.int .i64 (vV pr l)) ∧ Below w.heap.size w w' := by
 have hu41 := Tryz.underlying44
 have HF := Lib.hid hf
 have HNM := Lib.hid hname
 have HBD := Lib.hid hb
 have HR := Lib.hid hC
 have HST := Lib.hid hstep
 obtain ⟨n, hnn⟩ : ∃ n, l.length = n := ⟨_, rfl⟩
 have HN := Lib.hid hnn
 rw [hnn] at hn ⊢
 have HB := Lib.hid (Below.refl w.heap.size w)
 clear hf hname hb hC hstep hnn
 go_enter Tryz.func73, Tryz.ntmps73
 go_wp2_with fail
 go_loopg [8] n (fun kx s8 wr => ∃ i : Nat, s8 = .int .i64 (i : Int) ∧ i ≤ n ∧ n - i ≤ kx ∧ Hid (∀ t (ht : t < l.length), t < i → pr l[t] = false) ∧ Hid (Below w.heap.size w wr))
 case atStart => exact ⟨0, rfl, by omega, by omega, Lib.hid (fun t ht h => by omega), Lib.hid HB.out⟩
 case round =>
  clear HB
  obtain ⟨i, rfl, hin, hik, HS, HB⟩ := hrel
  by_cases hlt : i < n
  ·have p1 : (0 : Int) ≤ (i : Int) := by omega
   have q1 : (i : Int) < (l.length : Int) := by rw [HN.out]; omega
   obtain ⟨ad, e1, hx0, hx1, hx2, hx3, hx4⟩ := dM HR.out (i : Int) p1 q1
   cases e1
   rw [Int.toNat_natCast] at hx0 hx1 hx2 hx3 hx4
   replace hx0 := (HB.out.cell (World.block_lt_of_cell? w _ hx0)).trans hx0
   replace hx1 := (HB.out.cell (World.block_lt_of_cell? w _ hx1)).trans hx1
   replace hx2 := (HB.out.cell (World.block_lt_of_cell? w _ hx2)).trans hx2
   replace hx3 := (HB.out.cell (World.block_lt_of_cell? w _ hx3)).trans hx3
   replace hx4 := (HB.out.cell (World.block_lt_of_cell? w _ hx4)).trans hx4
   have q2 : (i : Int) < (n : Int) := by omega
   obtain ⟨x, hx⟩ : ∃ x, rdR l (i : Nat) = x := ⟨_, rfl⟩
   rw [show aj l (i : Int) = x from hx] at hx0 hx1 hx2 hx3 hx4
   have hxl : x = l[i]'(by rw [HN.out]; exact hlt) := by rw [← hx, eH l i (by rw [HN.out]; exact hlt)]
   have hxm : x ∈ l := by rw [hxl]; exact List.getElem_mem _
   have HX := Lib.hid hxl
   have hcall := HST.out x hxm wr HB.out
   have HCALL := Lib.hid hcall
   have hw1 : IntKind.i64.wrap ((i : Int) + 1) = (i : Int) + 1 := by rw [IntKind.wrap_i64]; omega
   clear hcall hxm hxl hx q1
   go_wp2_with fail
   rw [ql HF.out HNM.out HBD.out, Oper.upon_enter]
   refine (HCALL.out).mono ?_
   rintro e w4 ⟨rfl, hb4⟩
   have HB4 := Lib.hid (iI HB.out HB.out.size hb4)
   clear hb4 HB HCALL hx0 hx1 hx2 hx3 hx4
   generalize hd : pr x = d
   have HD := Lib.hid hd
   clear hd
   cases d with
   | true =>
    go_wp2_with fail
    go_ret
    refine ⟨?_, HB4.out⟩
    have hfi : l.findIdx? pr = some i := by
     rw [List.findIdx?_eq_some_iff_getElem]
     refine ⟨by rw [HN.out]; exact hlt, by rw [← HX.out]; exact HD.out, fun j hj => ?_⟩
     rw [HS.out j (by rw [HN.out]; omega) hj]; decide
    unfold vV
    rw [hfi]
    rfl
   | false =>
    go_wp2_with fail
    go_roundg (n - (i + 1))
    case measure => omega
    case rel => exact ⟨i + 1, by rw [show ((i + 1 : Nat) : Int) = (i : Int) + 1 by omega], by omega, Nat.le_refl _, Lib.hid (fun t ht h => by
     by_cases e : t = i
     ·subst e; rw [← HX.out]; exact HD.out
     ·exact HS.out t ht (by omega)), HB4⟩
  ·obtain rfl : i = n := by omega
   have b1 : ¬ ((i : Int) < (i : Int)) := by omega
   go_wp2_with fail
   go_ret
   refine ⟨?_, HB.out⟩
   have hfi : l.findIdx? pr = none := by
    rw [List.findIdx?_eq_none_iff]
    intro y hy
    obtain ⟨t, ht, rfl⟩ := List.getElem_of_mem hy
    exact HS.out t ht (by rw [← HN.out]; exact ht)
   unfold vV
   rw [hfi]
   rfl
theorem mX (l : List RR) (pr : RR → Bool) (hn : l.length ≤ 1000000) (F : FuncId) (fn : Func) (cb : Array Value) (hf : Tryz.prog.funcs[F]? = some fn) (hname : (fn.name == "runtime.NumGoroutine") = false) (hb : fn.body.isSome = true) (A0 : Option Addr) (c0 : Nat) (w : World) (hC : Kd.C kRR w A0 l.length l)
  (hstep : ∀ x ∈ l, ∀ W, Below w.heap.size w W → Calls Tryz.prog F (#[x.v] ++ cb) W fun e w' => e = .returned (.bool (pr x)) ∧ Below W.heap.size W w') :
  Calls Tryz.prog 37 #[.slice A0 l.length c0, .func (.func F) #[] cb] w fun e w' => e = .returned (.bool (l.any pr)) ∧ Below w.heap.size w w' := by
 have hi := Dn l pr hn F fn cb hf hname hb A0 c0 w hC hstep
 have he : decide (0 ≤ vV pr l) = l.any pr := by
  unfold vV
  cases h : l.findIdx? pr with
  | none =>
   rw [List.findIdx?_eq_none_iff] at h
   have : l.any pr = false := by rw [List.any_eq_false]; intro x hx; rw [h x hx]; decide
   rw [this]; decide
  | some i =>
   obtain ⟨hi, hp, _⟩ := List.findIdx?_eq_some_iff_getElem.mp h
   have : l.any pr = true := List.any_eq_true.mpr ⟨_, List.getElem_mem hi, hp⟩
   rw [this]
   exact decide_eq_true (by simp)
 have HI := Lib.hid hi
 have HE := Lib.hid he
 clear hi he hf hname hb hC hstep hn
 generalize l.length = n at HI ⊢
 generalize hz : vV pr l = z at HI HE
 clear hz
 go_enter Tryz.func37, Tryz.ntmps37
 go_wp2_with fail
 refine (HI.out).mono ?_
 rintro e w1 ⟨rfl, hb1⟩
 have HB := Lib.hid hb1
 clear hb1 HI
 go_wp2_with fail
 go_ret
 exact ⟨by rw [← HE.out]; rfl, HB.out⟩
end Go.Y.Rrs
namespace Go.Y.Rrs
open Go.RowKit Go.V.aC Go.V.aV Go.V.aX Go.Y.Given Go.Y.PRd Go.Y.PRr
theorem Cx (k : Nat) (x : RR) (b : Bool) (w : World) (h : bC.f k x.f0 x.f1 x.f2 x.f3 x.f4 = some b) :
  Calls Tryz.prog 38 (#[x.v] ++ #[]) w fun e w' => e = .returned (.bool (!b)) ∧ Below w.heap.size w w' := by
 have hu41 := Tryz.underlying44
 have HB := ah.mk (Below.refl w.heap.size w)
 have HA := Lib.hid h
 clear h
 show Calls Tryz.prog 38 #[.agg #[.string x.f0, .int .i64 x.f1, .int .i64 x.f2, .int .i64 x.f3, .string x.f4]] w _
 go_enter Tryz.func38, Tryz.ntmps38
 go_wp2_with (first | ((with_reducible refine bF (N := 1) rfl ?_); refine bQ ?hg (N := 1) ?hd (cs := #[.string x.f0, .int .i64 x.f1, .int .i64 x.f2, .int .i64 x.f3, .string x.f4]) (t := 44) ?hr ?_; (case hd => rfl); (case hg => rfl); (case hr => first | (go_simp; done) | (go_simp; rfl)); intro gb hg w3 hbox hb; have n0_ := ah.mk (ak (HB.out) hb); have n1_ := ah.mk (hbox); clear HB; have HB := n0_; have BK := n1_; clear n0_ n1_; clear hb hbox hg; have hcz0 : w3.cell? ⟨gb, 0, none⟩ = some (.string x.f0) := (aH BK.out 0).trans rfl; have hcz1 : w3.cell? ⟨gb, 1, none⟩ = some (.int .i64 x.f1) := (aH BK.out 1).trans rfl; have hcz2 : w3.cell? ⟨gb, 2, none⟩ = some (.int .i64 x.f2) := (aH BK.out 2).trans rfl; have hcz3 : w3.cell? ⟨gb, 3, none⟩ = some (.int .i64 x.f3) := (aH BK.out 3).trans rfl; have hcz4 : w3.cell? ⟨gb, 4, none⟩ = some (.string x.f4) := (aH BK.out 4).trans rfl))
 refine (bC.calls k x.f0 x.f1 x.f2 x.f3 x.f4 b w3 HA.out).mono ?_
 rintro e w4 ⟨rfl, hb4⟩
 have HB4 := Lib.hid (iI HB.out HB.out.size hb4)
 clear hb4 HB
 go_wp2_with fail
 go_ret
 exact ⟨rfl, HB4.out⟩
theorem Eo (k : Nat) (x : RR) (n : ByteArray) (b : Bool) (g : Nat) (w : World) (hc : w.cell? ⟨g, 0, none⟩ = some (.string n)) (h : gL.f k n x.f0 x.f1 x.f2 x.f3 x.f4 = some b) :
  Calls Tryz.prog 42 (#[x.v] ++ #[.pointer (some ⟨g, 0, none⟩)]) w fun e w' => e = .returned (.bool (!b)) ∧ Below w.heap.size w w' := by
 have hu41 := Tryz.underlying44
 have HB := ah.mk (Below.refl w.heap.size w)
 have HC := Lib.hid hc
 have HA := Lib.hid h
 clear hc h
 show Calls Tryz.prog 42 #[.agg #[.string x.f0, .int .i64 x.f1, .int .i64 x.f2, .int .i64 x.f3, .string x.f4], .pointer (some ⟨g, 0, none⟩)] w _
 go_enter Tryz.func42, Tryz.ntmps42
 go_wp2_with (first | ((with_reducible refine bF (N := 2) rfl ?_); refine bQ ?hg (N := 2) ?hd (cs := #[.string x.f0, .int .i64 x.f1, .int .i64 x.f2, .int .i64 x.f3, .string x.f4]) (t := 44) ?hr ?_; (case hd => rfl); (case hg => rfl); (case hr => first | (go_simp; done) | (go_simp; rfl)); intro gb hg w3 hbox hb; have n0_ := ah.mk (ak (HB.out) hb); have n1_ := ah.mk (hbox); clear HB; have HB := n0_; have BK := n1_; have hc3 : w3.cell? ⟨g, 0, none⟩ = some (.string n) := (HB.out.cell (World.block_lt_of_cell? w _ HC.out)).trans HC.out; clear n0_ n1_; clear hb hbox hg; have hcz0 : w3.cell? ⟨gb, 0, none⟩ = some (.string x.f0) := (aH BK.out 0).trans rfl; have hcz1 : w3.cell? ⟨gb, 1, none⟩ = some (.int .i64 x.f1) := (aH BK.out 1).trans rfl; have hcz2 : w3.cell? ⟨gb, 2, none⟩ = some (.int .i64 x.f2) := (aH BK.out 2).trans rfl; have hcz3 : w3.cell? ⟨gb, 3, none⟩ = some (.int .i64 x.f3) := (aH BK.out 3).trans rfl; have hcz4 : w3.cell? ⟨gb, 4, none⟩ = some (.string x.f4) := (aH BK.out 4).trans rfl))
 refine (gL.calls k n x.f0 x.f1 x.f2 x.f3 x.f4 b w3 HA.out).mono ?_
 rintro e w4 ⟨rfl, hb4⟩
 have HB4 := Lib.hid (iI HB.out HB.out.size hb4)
 clear hb4 HB
 go_wp2_with fail
 go_ret
 exact ⟨rfl, HB4.out⟩
end Go.Y.Rrs
namespace Go.Y.Given
open Go.RowKit Go.V.aC Go.V.aV Go.V.aX Go.Y.PRd Go.Y.PRr Go.Y.Rrs
noncomputable def sF (p : RR → Option Bool) (l : List RR) : Option Bool := open Classical in if l.length ≤ 1000000 ∧ ∀ x ∈ l, (p x).isSome = true then some (l.any fun x => !(p x).getD false) else none
theorem rC {p : RR → Option Bool} {l : List RR} {r : Bool} (h : sF p l = some r) : l.length ≤ 1000000 ∧ (∀ x ∈ l, (p x).isSome = true) ∧ r = l.any fun x => !(p x).getD false := by
 unfold sF at h
 split at h
 ·rename_i hn
  injection h with h
  exact ⟨hn.1, hn.2, h.symm⟩
 ·cases h
noncomputable def iW.f (k : Nat) (l0 : List (S44)) (a1 : Int) : Option Bool := sF (fun x => bC.f k x.f0 x.f1 x.f2 x.f3 x.f4) l0
theorem iW.calls (k : Nat) (A0 : Option Addr) (c0 : Nat) (l0 : List (S44)) (a1 : Int) (r : Bool) (w : World) (hr0 : Kd.C k44 w A0 l0.length l0) (hc0 : l0.length ≤ c0) (h : iW.f k l0 a1 = some r) :
  Calls Tryz.prog 37 #[.slice A0 l0.length c0, .func (.func 38) #[] #[]] w fun e w' => e = .returned (.bool r) ∧ Below w.heap.size w w' := by
 obtain ⟨h1, h2, rfl⟩ := rC h
 exact mX l0 (fun x => !(bC.f k x.f0 x.f1 x.f2 x.f3 x.f4).getD false) h1 38 Tryz.f38 #[] Tryz.func38 (by kernel_rfl) rfl A0 c0 w hr0 (fun x hx W _ => by
  obtain ⟨b, hb⟩ := Option.isSome_iff_exists.mp (h2 x hx)
  rw [hb]
  exact Cx k x b W hb)
noncomputable def lV.f (k : Nat) (l0 : List (S44)) (a1 : ByteArray) : Option Bool := sF (fun x => gL.f k a1 x.f0 x.f1 x.f2 x.f3 x.f4) l0
theorem lV.calls (k : Nat) (A0 : Option Addr) (c0 : Nat) (l0 : List (S44)) (a1 : ByteArray) (r : Bool) (w : World) (hr0 : Kd.C k44 w A0 l0.length l0) (hc0 : l0.length ≤ c0) (h : lV.f k l0 a1 = some r) (g : Nat) (hg : w.cell? ⟨g, 0, none⟩ = some (.string a1)) :
  Calls Tryz.prog 37 #[.slice A0 l0.length c0, .func (.func 42) #[] #[.pointer (some ⟨g, 0, none⟩)]] w fun e w' => e = .returned (.bool r) ∧ Below w.heap.size w w' := by
 obtain ⟨h1, h2, rfl⟩ := rC h
 exact mX l0 (fun x => !(gL.f k a1 x.f0 x.f1 x.f2 x.f3 x.f4).getD false) h1 42 Tryz.f42 #[.pointer (some ⟨g, 0, none⟩)] Tryz.func42 (by kernel_rfl) rfl A0 c0 w hr0 (fun x hx W hW => by
  obtain ⟨b, hb⟩ := Option.isSome_iff_exists.mp (h2 x hx)
  rw [hb]
  exact Eo k x a1 b g W ((hW.cell (World.block_lt_of_cell? w _ hg)).trans hg) hb)
end Go.Y.Given
namespace Go.Y.PZo
open Go.RowKit Go.V.aC Go.V.aV Go.V.aX Go.Y.Given Go.Y.PRd Go.Y.PRr
attribute [local go_sem] dP dQ eu eB dD dF dR dS   -- for this text's walks alone
def kN : Option Int → Value
 | none => .nilIface
 | some c => .iface 0 (.int .i64 c)
theorem jC : kN none = .nilIface := rfl
theorem jA (c : Int) : kN (some c) = .iface 0 (.int .i64 c) := rfl
end Go.Y.PZo
namespace Go.Y.PZo
open Go.RowKit Go.V.aC Go.V.aV Go.V.aX Go.Y.Given Go.Y.PRd Go.Y.PRr
attribute [local go_sem] dP dQ eu eB dD dF dR dS   -- for this text's walks alone
theorem Cb (d : Nat) (w : World) (x0 y0 : ByteArray) (x1 y1 : Int) (x2 y2 : Int) (x3 y3 : Int) (x4 y4 : ByteArray) :
  (Op.equalIn (d + 2) 44 (.agg #[.string x0, .int .i64 x1, .int .i64 x2, .int .i64 x3, .string x4]) (.agg #[.string y0, .int .i64 y1, .int .i64 y2, .int .i64 y3, .string y4])).run Tryz.prog w = .ok (x0.toList == y0.toList && (x1 == y1 && (x2 == y2 && (x3 == y3 && (x4.toList == y4.toList))))) w := by
 refine Dl Tryz.underlying44 (by kernel_rfl) ?_
 refine lH (by rfl) (by go_simp; rfl) (by go_simp; rfl) (by go_simp) ?_
 refine lH (by rfl) (by go_simp; rfl) (by go_simp; rfl) (by go_simp) ?_
 refine lH (by rfl) (by go_simp; rfl) (by go_simp; rfl) (by go_simp) ?_
 refine lH (by rfl) (by go_simp; rfl) (by go_simp; rfl) (by go_simp) ?_
 exact zw (by rfl) (by go_simp; rfl) (by go_simp; rfl) (by go_simp)
end Go.Y.PZo
namespace Go.Y.PZo
open Go.RowKit Go.V.aC Go.V.aV Go.V.aX Go.Y.Given Go.Y.PRd Go.Y.PRr
attribute [local go_sem] dP dQ eu eB dD dF dR dS   -- for this text's walks alone
attribute [local go_sem high] Cb
noncomputable def gF.l0 : Nat → List (S44) → Int → Int → ByteArray → Int → Int → Int → ByteArray → Option (Int)
 | 0, _, _, _, _, _, _, _, _ => none
 | k + 1, x0, x7, x8, x102000, x102001, x102002, x102003, x102004 => if x8 < x7 then (if 0 ≤ x8 then (if x8 < (x0.length : Int) then (if (x102000.toList == (((aj x0 x8).f0).toList) && (x102001 == ((aj x0 x8).f1) && (x102002 == ((aj x0 x8).f2) && (x102003 == ((aj x0 x8).f3) && (x102004.toList == (((aj x0 x8).f4).toList)))))) = true then (some x8) else (gF.l0 k x0 x7 (wrap64 (x8 + 1)) x102000 x102001 x102002 x102003 x102004)) else (none)) else (none)) else (some (-1))
noncomputable def gF.f (k : Nat) (l0 : List (S44)) (a1_0 : ByteArray) (a1_1 : Int) (a1_2 : Int) (a1_3 : Int) (a1_4 : ByteArray) : Option (Int) := gF.l0 k l0 (l0.length : Int) 0 a1_0 a1_1 a1_2 a1_3 a1_4
theorem gF.calls (k : Nat) (A0 : Option Addr) (c0 : Nat) (l0 : List (S44)) (a1_0 : ByteArray) (a1_1 : Int) (a1_2 : Int) (a1_3 : Int) (a1_4 : ByteArray) (r : Int) (w : World) (hr0 : Kd.C k44 w A0 l0.length l0) (hc0 : l0.length ≤ c0) (h : gF.f k l0 a1_0 a1_1 a1_2 a1_3 a1_4 = some r) :
    Calls Tryz.prog 46 #[.slice A0 l0.length c0, .agg #[.string a1_0, .int .i64 a1_1, .int .i64 a1_2, .int .i64 a1_3, .string a1_4]] w fun e w' => e = .returned (.int .i64 r) ∧ Below w.heap.size w w' := by
  have hu44 := Tryz.underlying44
  have HR0 := ah.mk hr0
  have HC0 := ah.mk hc0
  clear hr0 hc0
  have HB := ah.mk (Below.refl w.heap.size w)
  have H : (gF.l0 k l0 (l0.length : Int) 0 a1_0 a1_1 a1_2 a1_3 a1_4) = some r := h
  clear h
  have H' := ah.mk H
  clear H
  go_enter Tryz.func46, Tryz.ntmps46
  go_wp2_with ((((with_reducible refine bF (N := 3) rfl ?_); refine bQ ?hg (N := 3) ?hd (cs := #[.string a1_0, .int .i64 a1_1, .int .i64 a1_2, .int .i64 a1_3, .string a1_4]) (t := 44) ?hr ?_; (case hd => rfl); (case hg => rfl); (case hr => (go_simp; done)); intro gb101 hg w3 hbox hb; have BK101 := ah.mk (hbox); have GW101 := ah.mk (ge_ hg (av HB.out)); have GE101 := ah.mk (ge_ hg (av HB.out)); replace HB := ah.mk (ak HB.out hb); clear hb hbox hg)))
  repeat (go_quiet ((((with_reducible refine bF (N := 3) rfl ?_); refine bQ ?hg (N := 3) ?hd (cs := #[.string a1_0, .int .i64 a1_1, .int .i64 a1_2, .int .i64 a1_3, .string a1_4]) (t := 44) ?hr ?_; (case hd => rfl); (case hg => rfl); (case hr => (go_simp; done)); intro gb101 hg w3 hbox hb; have BK101 := ah.mk (hbox); have GW101 := ah.mk (ge_ hg (av HB.out)); have GE101 := ah.mk (ge_ hg (av HB.out)); replace HB := ah.mk (ak HB.out hb); clear hb hbox hg))); try go_wp2_with ((((with_reducible refine bF (N := 3) rfl ?_); refine bQ ?hg (N := 3) ?hd (cs := #[.string a1_0, .int .i64 a1_1, .int .i64 a1_2, .int .i64 a1_3, .string a1_4]) (t := 44) ?hr ?_; (case hd => rfl); (case hg => rfl); (case hr => (go_simp; done)); intro gb101 hg w3 hbox hb; have BK101 := ah.mk (hbox); have GW101 := ah.mk (ge_ hg (av HB.out)); have GE101 := ah.mk (ge_ hg (av HB.out)); replace HB := ah.mk (ak HB.out hb); clear hb hbox hg))))
  go_loopg [8] k (fun kq v8 w' => ∃ (x8_1 : Int), v8 = .int .i64 x8_1 ∧ ah (gF.l0 kq l0 (l0.length : Int) x8_1 a1_0 a1_1 a1_2 a1_3 a1_4 = some r) ∧ ah (kq ≤ k) ∧ ah (w'.heap[gb101]? = some (.cells #[.string a1_0, .int .i64 a1_1, .int .i64 a1_2, .int .i64 a1_3, .string a1_4] 44 (0, 0))) ∧ ah (Below w.heap.size w w'))
  case atStart => exact ⟨(0), (by rfl), H', ⟨Nat.le_refl _⟩, ⟨by (with_reducible repeat ((refine aA ?_ _))); exact BK101.out⟩, ⟨HB.out⟩⟩
  case round =>
   clear H'
   obtain ⟨x8_1, rfl, HA, HK1, BK101, HB⟩ := hrel
   cases gk with
   | zero => exact absurd HA.out (by simp [gF.l0])
   | succ k1 =>
    have H := HA.out
    clear HA
    simp only [gF.l0] at H
    by_cases c4 : x8_1 < (l0.length : Int)
    ·rw [if_pos c4] at H
     have c4b0 : decide (x8_1 < (l0.length : Int)) = true := decide_eq_true c4
     clear c4
     obtain ⟨c5b0, H⟩ := dU H
     obtain ⟨c6b0, H⟩ := dU H
     by_cases c7 : (a1_0.toList == (((aj l0 x8_1).f0).toList) && (a1_1 == ((aj l0 x8_1).f1) && (a1_2 == ((aj l0 x8_1).f2) && (a1_3 == ((aj l0 x8_1).f3) && (a1_4.toList == (((aj l0 x8_1).f4).toList)))))) = true
     focus
      rw [if_pos c7] at H
      have c7b0 : (a1_0.toList == (((aj l0 x8_1).f0).toList) && (a1_1 == ((aj l0 x8_1).f1) && (a1_2 == ((aj l0 x8_1).f2) && (a1_3 == ((aj l0 x8_1).f3) && (a1_4.toList == (((aj l0 x8_1).f4).toList)))))) = true := c7
      (try (have c7b1 : decide (a1_0.toList = (((aj l0 x8_1).f0).toList) && (a1_1 == ((aj l0 x8_1).f1) && (a1_2 == ((aj l0 x8_1).f2) && (a1_3 == ((aj l0 x8_1).f3) && (a1_4.toList == (((aj l0 x8_1).f4).toList)))))) = true := by simpa using c7))
      (try (have c7b2 : (a1_0.toList == (((aj l0 x8_1).f0).toList) && (a1_1 == ((aj l0 x8_1).f1) && (a1_2 == ((aj l0 x8_1).f2) && (a1_3 == ((aj l0 x8_1).f3) && (a1_4.toList == (((aj l0 x8_1).f4).toList)))))) = true := by simpa using c7))
      clear c7
      obtain rfl := Option.some.inj H
     rotate_left
     focus
      rw [if_neg c7] at H
      have c7b0 : (a1_0.toList == (((aj l0 x8_1).f0).toList) && (a1_1 == ((aj l0 x8_1).f1) && (a1_2 == ((aj l0 x8_1).f2) && (a1_3 == ((aj l0 x8_1).f3) && (a1_4.toList == (((aj l0 x8_1).f4).toList)))))) = false := by simpa using c7
      (try (have c7b1 : decide (a1_0.toList = (((aj l0 x8_1).f0).toList) && (a1_1 == ((aj l0 x8_1).f1) && (a1_2 == ((aj l0 x8_1).f2) && (a1_3 == ((aj l0 x8_1).f3) && (a1_4.toList == (((aj l0 x8_1).f4).toList)))))) = false := by simpa using c7))
      (try (have c7b2 : (a1_0.toList == (((aj l0 x8_1).f0).toList) && (a1_1 == ((aj l0 x8_1).f1) && (a1_2 == ((aj l0 x8_1).f2) && (a1_3 == ((aj l0 x8_1).f3) && (a1_4.toList == (((aj l0 x8_1).f4).toList)))))) = false := by simpa using c7))
      (try (have c7b3 : ¬ (a1_0.toList = (((aj l0 x8_1).f0).toList) && (a1_1 == ((aj l0 x8_1).f1) && (a1_2 == ((aj l0 x8_1).f2) && (a1_3 == ((aj l0 x8_1).f3) && (a1_4.toList == (((aj l0 x8_1).f4).toList)))))) := by simpa using c7))
      clear c7
      have H' := ah.mk H
      clear H
     rotate_left
     all_goals
      obtain ⟨hcz8_0, hcz8_1, hcz8_2, hcz8_3, hcz8_4, hfz8_0, hfz8_1, hfz8_2, hfz8_3, hfz8_4⟩ := z5_ BK101.out
      have p102 : 0 ≤ (x8_1 : Int) := of_decide_eq_true (by assumption)
      have q102 : x8_1 < (l0.length : Int) := of_decide_eq_true (by assumption)
      obtain ⟨ad102, e102, hx102_0, hx102_1, hx102_2, hx102_3, hx102_4⟩ := dM HR0.out x8_1 p102 q102
      cases e102
      replace hx102_0 := kp_ HB.out hx102_0
      replace hx102_1 := kp_ HB.out hx102_1
      replace hx102_2 := kp_ HB.out hx102_2
      replace hx102_3 := kp_ HB.out hx102_3
      replace hx102_4 := kp_ HB.out hx102_4
      replace p102 := eq_true p102
      replace q102 := eq_true q102
      go_wp2
      repeat (go_quiet (fail); try go_wp2)
     ·go_ret
      exact ⟨by rfl, by repeat ((with_reducible first | exact HB.out | apply aZ))⟩
     ·go_roundg k1
      case measure => have := HK1.out; omega
      case rel => exact ⟨(wrap64 (x8_1 + 1)), (by rfl), H', ⟨by have := HK1.out; omega⟩, ⟨by (with_reducible repeat ((refine aA ?_ _))); exact BK101.out⟩, ⟨by repeat ((with_reducible first | exact HB.out | apply aZ))⟩⟩
    ·rw [if_neg c4] at H
     have c4b0 : decide (x8_1 < (l0.length : Int)) = false := decide_eq_false c4
     clear c4
     obtain rfl := Option.some.inj H
     go_wp2
     repeat (go_quiet (fail); try go_wp2)
     go_ret
     exact ⟨by rfl, HB.out⟩
noncomputable def jc.f (a0_0 : ByteArray) (l0_1 : List (S44)) (a0_2 : Int) (a1 : ByteArray) : Option ((List (S44))) := (lq.f l0_1 a1).bind fun t104 => (some t104)
theorem jc.calls (a0_0 : ByteArray) (A0_1 : Option Addr) (c0_1 : Nat) (l0_1 : List (S44)) (a0_2 : Int) (a1 : ByteArray) (r : List (S44)) (w : World) (hr0_1 : Kd.C k44 w A0_1 l0_1.length l0_1) (hc0_1 : l0_1.length ≤ c0_1) (h : jc.f a0_0 l0_1 a0_2 a1 = some r) :
  Calls Tryz.prog 16 #[.agg #[.string a0_0, .slice A0_1 l0_1.length c0_1, .int .i64 a0_2], .string a1] w fun e w' => ∃ v0_ : Value, e = .returned (v0_) ∧ Kd.R k44 44 w' w.heap.size (fun _ => True) v0_ r ∧ Below w.heap.size w w' := by
 have hu26 := Tryz.underlying26
 have HR0_1 := ah.mk hr0_1
 have HC0_1 := ah.mk hc0_1
 clear hr0_1 hc0_1
 have HB := ah.mk (Below.refl w.heap.size w)
 have H : ((lq.f l0_1 a1).bind fun t104 => (some t104)) = some r := h
 clear h
 obtain ⟨t104, A3, H⟩ := bP H
 obtain rfl := Option.some.inj H
 go_enter Tryz.func16, Tryz.ntmps16
 go_wp2_with (first | ((with_reducible refine bF (N := 2) rfl ?_); refine bQ ?hg (N := 2) ?hd (cs := #[.string a0_0, .slice A0_1 l0_1.length c0_1, .int .i64 a0_2]) (t := 26) ?hr ?_; (case hd => rfl); (case hg => rfl); (case hr => (go_simp; done)); intro gb103 hg w4 hbox hb; have BK103 := ah.mk (hbox); have GW103 := ah.mk (ge_ hg (av HB.out)); have GE103 := ah.mk (ge_ hg (av HB.out)); replace HB := ah.mk (ak HB.out hb); clear hb hbox hg; obtain ⟨hcz5_0, hcz5_1, hcz5_2, hfz5_0, hfz5_1, hfz5_2⟩ := z3_ BK103.out) | (refine gl_ (some 8) Tryz.func52 #[.slice A0_1 l0_1.length c0_1, .string a1] ?_; (with_reducible refine (lq.calls _ _ l0_1 a1 t104 _ ?side1 ?side2 A3.out).mono ?_); (case side1 => repeat ((exact (Kd.fM HR0_1.out HB.out)))); (case side2 => exact HC0_1.out); rintro e w6 ⟨v105, rfl, ho0, hb⟩; refine ⟨_, rfl, ?_⟩; have HO106 := ah.mk (Kd.bZ ho0 (av HB.out)); replace BK103 := ah.mk (aD (by ((exact BK103.out))) hb); replace HB := ah.mk (ak HB.out hb); (try clear hb); (try clear ho0)))
 go_ret
 exact ⟨_, by rfl, by (with_reducible repeat ((apply Kd.aK))); exact HO106.out, HB.out⟩
noncomputable def jD.f (a0_0 : ByteArray) (l0_1 : List (S44)) (a0_2 : Int) (a1 : ByteArray) (a2 : Int) : Option ((List (S44))) := (jc.f a0_0 l0_1 a0_2 a1).bind fun t108 => ((jk.f t108 a2).bind fun t111 => (some t111))
theorem jD.calls (a0_0 : ByteArray) (A0_1 : Option Addr) (c0_1 : Nat) (l0_1 : List (S44)) (a0_2 : Int) (a1 : ByteArray) (a2 : Int) (r : List (S44)) (w : World) (hr0_1 : Kd.C k44 w A0_1 l0_1.length l0_1) (hc0_1 : l0_1.length ≤ c0_1) (h : jD.f a0_0 l0_1 a0_2 a1 a2 = some r) :
  Calls Tryz.prog 14 #[.agg #[.string a0_0, .slice A0_1 l0_1.length c0_1, .int .i64 a0_2], .string a1, .int .i64 a2] w fun e w' => ∃ v0_ : Value, e = .returned (v0_) ∧ Kd.R k44 44 w' w.heap.size (fun _ => True) v0_ r ∧ Below w.heap.size w w' := by
 have hu26 := Tryz.underlying26
 have HR0_1 := ah.mk hr0_1
 have HC0_1 := ah.mk hc0_1
 clear hr0_1 hc0_1
 have HB := ah.mk (Below.refl w.heap.size w)
 have H : ((jc.f a0_0 l0_1 a0_2 a1).bind fun t108 => ((jk.f t108 a2).bind fun t111 => (some t111))) = some r := h
 clear h
 obtain ⟨t108, A4, H⟩ := bP H
 obtain ⟨t111, A5, H⟩ := bP H
 obtain rfl := Option.some.inj H
 go_enter Tryz.func14, Tryz.ntmps14
 go_wp2_with (first | ((with_reducible refine bF (N := 3) rfl ?_); refine bQ ?hg (N := 3) ?hd (cs := #[.string a0_0, .slice A0_1 l0_1.length c0_1, .int .i64 a0_2]) (t := 26) ?hr ?_; (case hd => rfl); (case hg => rfl); (case hr => (go_simp; done)); intro gb107 hg w6 hbox hb; have BK107 := ah.mk (hbox); have GW107 := ah.mk (ge_ hg (av HB.out)); have GE107 := ah.mk (ge_ hg (av HB.out)); replace HB := ah.mk (ak HB.out hb); clear hb hbox hg; obtain ⟨hcz7_0, hcz7_1, hcz7_2, hfz7_0, hfz7_1, hfz7_2⟩ := z3_ BK107.out) | (refine gl_ (some 9) Tryz.func16 #[.agg #[.string a0_0, .slice A0_1 l0_1.length c0_1, .int .i64 a0_2], .string a1] ?_; (with_reducible refine (jc.calls a0_0 _ _ l0_1 a0_2 a1 t108 _ ?side1 ?side2 A4.out).mono ?_); (case side1 => repeat ((exact (Kd.fM HR0_1.out HB.out)))); (case side2 => exact HC0_1.out); rintro e w8 ⟨v109, rfl, ho0, hb⟩; refine ⟨_, rfl, ?_⟩; have HO110 := ah.mk (Kd.bZ ho0 (av HB.out)); replace BK107 := ah.mk (aD (by ((exact BK107.out))) hb); replace HB := ah.mk (ak HB.out hb); (try clear hb); (try clear ho0); obtain ⟨Ao9, co9, eo9⟩ := Kd.bO HO110.out; subst eo9) | (refine gl_ (some 11) Tryz.func41 #[.slice Ao9 t108.length co9, .int .i64 a2] ?_; (with_reducible refine (jk.calls _ _ t108 a2 t111 _ ?side1 ?side2 A5.out).mono ?_); (case side1 => exact (Kd.aN HO110.out).2.2); (case side2 => exact (Kd.aN HO110.out).2.1); rintro e w10 ⟨v112, rfl, ho0, hb⟩; refine ⟨_, rfl, ?_⟩; have HO113 := ah.mk (Kd.bZ (Kd.iB ho0 (Kd.jO (by ((exact HO110.out))))) (av HB.out)); replace HO110 := ah.mk (Kd.fI (by ((exact HO110.out))) (Kd.iC ho0) hb); replace BK107 := ah.mk (aD (by ((exact BK107.out))) hb); replace HB := ah.mk (ak HB.out hb); (try clear hb); (try clear ho0)))
 go_ret
 exact ⟨_, by rfl, by (with_reducible repeat ((apply Kd.aK))); exact Kd.dH HO113.out (fun _ hk => trivial), HB.out⟩
noncomputable def jy.f (a0_0 : ByteArray) (l0_1 : List (S44)) (a0_2 : Int) : Option ((List (S44))) := (slices_Clone.f l0_1).bind fun t115 => (some t115)
theorem jy.calls (a0_0 : ByteArray) (A0_1 : Option Addr) (c0_1 : Nat) (l0_1 : List (S44)) (a0_2 : Int) (r : List (S44)) (w : World) (hr0_1 : Kd.C k44 w A0_1 l0_1.length l0_1) (hc0_1 : l0_1.length ≤ c0_1) (h : jy.f a0_0 l0_1 a0_2 = some r) :
  Calls Tryz.prog 29 #[.agg #[.string a0_0, .slice A0_1 l0_1.length c0_1, .int .i64 a0_2]] w fun e w' => ∃ v0_ : Value, e = .returned (v0_) ∧ Kd.R k44 44 w' w.heap.size (fun _ => True) v0_ r ∧ Below w.heap.size w w' := by
 have hu26 := Tryz.underlying26
 have HR0_1 := ah.mk hr0_1
 have HC0_1 := ah.mk hc0_1
 clear hr0_1 hc0_1
 have HB := ah.mk (Below.refl w.heap.size w)
 have H : ((slices_Clone.f l0_1).bind fun t115 => (some t115)) = some r := h
 clear h
 obtain ⟨t115, A2, H⟩ := bP H
 obtain rfl := Option.some.inj H
 go_enter Tryz.func29, Tryz.ntmps29
 go_wp2_with (first | ((with_reducible refine bF (N := 1) rfl ?_); refine bQ ?hg (N := 1) ?hd (cs := #[.string a0_0, .slice A0_1 l0_1.length c0_1, .int .i64 a0_2]) (t := 26) ?hr ?_; (case hd => rfl); (case hg => rfl); (case hr => (go_simp; done)); intro gb114 hg w3 hbox hb; have BK114 := ah.mk (hbox); have GW114 := ah.mk (ge_ hg (av HB.out)); have GE114 := ah.mk (ge_ hg (av HB.out)); replace HB := ah.mk (ak HB.out hb); clear hb hbox hg; obtain ⟨hcz4_0, hcz4_1, hcz4_2, hfz4_0, hfz4_1, hfz4_2⟩ := z3_ BK114.out) | (refine gl_ (some 5) Tryz.func64 #[.slice A0_1 l0_1.length c0_1] ?_; (with_reducible refine (slices_Clone.calls _ _ l0_1 t115 _ ?side1 ?side2 A2.out).mono ?_); (case side1 => repeat ((exact (Kd.fM HR0_1.out HB.out)))); (case side2 => exact HC0_1.out); rintro e w5 ⟨v116, rfl, ho0, hb⟩; refine ⟨_, rfl, ?_⟩; have HO117 := ah.mk (Kd.bZ ho0 (av HB.out)); replace BK114 := ah.mk (aD (by ((exact BK114.out))) hb); replace HB := ah.mk (ak HB.out hb); (try clear hb); (try clear ho0)))
 go_ret
 exact ⟨_, by rfl, by (with_reducible repeat ((apply Kd.aK))); exact HO117.out, HB.out⟩
end Go.Y.PZo
