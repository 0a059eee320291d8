/- Joined out of this session's own texts: contracts and facts that the claim's row is drawn from, each with its own conditions. -/
import Derived.Test.YtehdkopjgcoclaaGreatJoined4
import Derived.Test.YtehdkopjgcoclaaGreatProg
import Derived.Below
import Derived.Deep.Draws
import Derived.Deep.AppendLies
import Derived.Maps.AppendAt
import Derived.OwnWalk
import Derived.Laws.BytesArg
import Derived.Laws.MakeOwn
import Derived.Laws.OwnMore
import Derived.Deep.OwnRows
import Derived.Tactics
import Derived.Lib.ConvBytes
import Derived.Laws.Slices
import Derived.WalkKit
import Derived.KernelRfl
import Derived.RowKit3
import Derived.Deep.LoopGhost
import Derived.Deep.QuietTactic
import Derived.BigQuiet
import Derived.WideLaws
import Derived.Deep.DeepCutAuto
import Derived.Deep.CutBlock
import Derived.Deep.RegionHeld3
import Derived.Laws.Rows
import Derived.Lib.AppendStr
import Derived.ArgAppend
import Derived.Laws.IdiomCopy
import Derived.OrdersHeld
import Derived.Laws.BitsLemmas
import Derived.RowKit
import Derived.Deep.Slices
import Derived.Deep.Fields
import Derived.ProofKit
set_option linter.unusedSimpArgs false
set_option linter.unusedVariables false
set_option maxHeartbeats 40000000
set_option maxRecDepth 100000
open Go.Proofs
namespace Go.Y.Rrs
open Go.RowKit Go.V.aC Go.V.aV Go.V.aX Go.Y.Given Go.Y.PRd Go.Y.PRr
theorem BZ (x : RR) (n : ByteArray) (b : Bool) (g : Nat) (w : World) (hc : w.cell? ⟨g, 0, none⟩ = some (.string n)) (h : dG.f x.f0 n = some b) :
  Calls Tryz.prog 54 (#[x.v] ++ #[.pointer (some ⟨g, 0, none⟩)]) w fun e w' => e = .returned (.bool b) ∧ Below w.heap.size w w' := by
 have hu41 := Tryz.underlying44
 have HB := ah.mk (Below.refl w.heap.size w)
 have HC := Lib.hid hc
 have HA := Lib.hid h
 clear hc h
 show Calls Tryz.prog 54 #[.agg #[.string x.f0, .int .i64 x.f1, .int .i64 x.f2, .int .i64 x.f3, .string x.f4], .pointer (some ⟨g, 0, none⟩)] w _
 go_enter Tryz.func54, Tryz.ntmps54
 go_wp2_with (first | ((with_reducible refine bF (N := 2) rfl ?_); refine bQ ?hg (N := 2) ?hd (cs := #[.string x.f0, .int .i64 x.f1, .int .i64 x.f2, .int .i64 x.f3, .string x.f4]) (t := 44) ?hr ?_; (case hd => rfl); (case hg => rfl); (case hr => first | (go_simp; done) | (go_simp; rfl)); intro gb hg w3 hbox hb; have n0_ := ah.mk (ak (HB.out) hb); have n1_ := ah.mk (hbox); clear HB; have HB := n0_; have BK := n1_; have hc3 : w3.cell? ⟨g, 0, none⟩ = some (.string n) := (HB.out.cell (World.block_lt_of_cell? w _ HC.out)).trans HC.out; clear n0_ n1_; clear hb hbox hg; have hcz0 : w3.cell? ⟨gb, 0, none⟩ = some (.string x.f0) := (aH BK.out 0).trans rfl))
 refine (dG.calls x.f0 n b w3 HA.out).mono ?_
 rintro e w4 ⟨rfl, hb4⟩
 have HB4 := Lib.hid (iI HB.out HB.out.size hb4)
 clear hb4 HB
 go_wp2_with fail
 go_ret
 exact ⟨rfl, HB4.out⟩
end Go.Y.Rrs
namespace Go.Y.Given
open Go.RowKit Go.V.aC Go.V.aV Go.V.aX Go.Y.PRd Go.Y.PRr Go.Y.Rrs
open Classical in
noncomputable def fq.f (a0_0 : ByteArray) (l0_1 : List (S44)) (a0_2 : Int) (a1 : ByteArray) : Option Bool := if l0_1.length ≤ 1000000 ∧ ∀ x ∈ l0_1, (dG.f x.f0 a1).isSome = true then some (l0_1.any fun x => (dG.f x.f0 a1).getD false) else none
theorem fq.calls (a0_0 : ByteArray) (A0_1 : Option Addr) (c0_1 : Nat) (l0_1 : List (S44)) (a0_2 : Int) (a1 : ByteArray) (r : Bool) (w : World) (hr0_1 : Kd.C k44 w A0_1 l0_1.length l0_1) (hc0_1 : l0_1.length ≤ c0_1) (h : fq.f a0_0 l0_1 a0_2 a1 = some r) :
  Calls Tryz.prog 18 #[.agg #[.string a0_0, .slice A0_1 l0_1.length c0_1, .int .i64 a0_2], .string a1] w fun e w' => e = .returned (.bool r) ∧ Below w.heap.size w w' := by
 unfold fq.f at h
 have hn : l0_1.length ≤ 1000000 ∧ ∀ x ∈ l0_1, (dG.f x.f0 a1).isSome = true := Classical.byContradiction fun hn => by rw [if_neg hn] at h; cases h
 rw [if_pos hn] at h
 injection h with h
 subst h
 have HR := Lib.hid hr0_1
 have HA := Lib.hid hn.2
 replace hn := hn.1
 have HB := ah.mk (Below.refl w.heap.size w)
 have hu27 := Tryz.underlying26
 clear hr0_1 hc0_1
 go_enter Tryz.func18, Tryz.ntmps18
 go_wp2_with (first | ((with_reducible refine bF (N := 2) rfl ?_); refine bQ ?hg (N := 2) ?hd (cs := #[.string a0_0, .slice A0_1 l0_1.length c0_1, .int .i64 a0_2]) (t := 26) ?hr ?_; (case hd => rfl); (case hg => rfl); (case hr => first | (go_simp; done) | (go_simp; rfl)); intro gb hg w3 hbox hb; have n0_ := ah.mk (ak (HB.out) hb); have n1_ := ah.mk (hbox); clear HB; have HB := n0_; have BK := n1_; clear n0_ n1_; clear hb hbox hg) | ((with_reducible refine bF (N := 3) rfl ?_); refine bQ ?hg (N := 3) ?hd (cs := #[.string a1]) (t := 9) ?hr ?_; (case hd => rfl); (case hg => rfl); (case hr => first | (go_simp; done) | (go_simp; rfl)); intro ga hg w4 hbox hb; have n0_ := ah.mk (ak (HB.out) hb); have n1_ := ah.mk (hbox); have n2_ := ah.mk (aD BK.out hb); clear HB BK; have HB := n0_; have BA := n1_; have BK := n2_; clear n0_ n1_ n2_; clear hb hbox hg; have hcz0 : w4.cell? ⟨gb, 0, none⟩ = some (.string a0_0) := (aH BK.out 0).trans rfl; have hcz1 : w4.cell? ⟨gb, 1, none⟩ = some (.slice A0_1 l0_1.length c0_1) := (aH BK.out 1).trans rfl; have hcz2 : w4.cell? ⟨gb, 2, none⟩ = some (.int .i64 a0_2) := (aH BK.out 2).trans rfl; have hcza : w4.cell? ⟨ga, 0, none⟩ = some (.string a1) := (aH BA.out 0).trans rfl))
 have HC4 := Lib.hid hcza
 refine (mX l0_1 (fun x => (dG.f x.f0 a1).getD false) hn 54 Tryz.f54 _ Tryz.func54 (by kernel_rfl) rfl A0_1 c0_1 w4 (Kd.fM HR.out HB.out) (fun x hx W hW => BZ x a1 _ ga W ((hW.cell (World.block_lt_of_cell? w4 _ HC4.out)).trans HC4.out) (by
  obtain ⟨b, hb⟩ := Option.isSome_iff_exists.mp (HA.out x hx)
  rw [hb]; rfl))).mono ?_
 rintro e w5 ⟨rfl, hb5⟩
 have HB5 := Lib.hid (iI HB.out HB.out.size hb5)
 clear hb5 HB
 go_wp2_with fail
 go_ret
 exact ⟨rfl, HB5.out⟩
end Go.Y.Given
namespace Go.Y.PZf
open Go.RowKit Go.V.aC Go.V.aV Go.V.aX Go.Y.Given Go.Y.PRd Go.Y.PRr Go.Y.PZo
attribute [local go_sem] dP dQ eu eB dD dF dR dS   -- for this text's walks alone
def kN : Option Int → Value
 | none => .nilIface
 | some c => .iface 0 (.int .i64 c)
theorem jC : kN none = .nilIface := rfl
theorem jA (c : Int) : kN (some c) = .iface 0 (.int .i64 c) := rfl
end Go.Y.PZf
namespace Go.Y.PZf
open Go.RowKit Go.V.aC Go.V.aV Go.V.aX Go.Y.Given Go.Y.PRd Go.Y.PRr Go.Y.PZo
attribute [local go_sem] dP dQ eu eB dD dF dR dS   -- for this text's walks alone
noncomputable def cB.j0 : Nat → List (S44) → Bool → ByteArray → Option (ByteArray × (List (S44)) × Int × Int)
 | 0, _, _, _ => none
 | k + 1, x1, x15, x104000 => if x15 = true then (some ((⟨#[]⟩ : ByteArray), ([] : List (S44)), 0, 2)) else ((lJ.f x1).bind fun t107 => (if (t107.length : Int) > 65536 then (some ((⟨#[]⟩ : ByteArray), ([] : List (S44)), 0, 3)) else ((jk.f t107 6).bind fun t111 => ((jD.f x104000 t107 0 x104000 2).bind fun t114 => ((lV.f k t107 x104000).bind fun t117 => (if t117 = true then (some ((⟨#[]⟩ : ByteArray), ([] : List (S44)), 0, 9)) else (if (t111.length : Int) = 1 then (if 0 < (t111.length : Int) then ((dG.f ((aj t111 0).f0) x104000).bind fun t119 => (if t119 = true then (if (t114.length : Int) = 0 then (some ((⟨#[]⟩ : ByteArray), ([] : List (S44)), 0, 9)) else ((bY.f k t107).bind fun t120 => (if t120 = true then ((gF.f k t107 ((aj t111 0).f0) ((aj t111 0).f1) ((aj t111 0).f2) ((aj t111 0).f3) ((aj t111 0).f4)).bind fun t122 => (some (x104000, t107, t122, 0))) else (some ((⟨#[]⟩ : ByteArray), ([] : List (S44)), 0, 9))))) else (some ((⟨#[]⟩ : ByteArray), ([] : List (S44)), 0, 9)))) else (none)) else (some ((⟨#[]⟩ : ByteArray), ([] : List (S44)), 0, 9)))))))))
noncomputable def cB.f (k : Nat) (a0 : ByteArray) (l1 : List (S44)) : Option (ByteArray × (List (S44)) × Int × Int) := (dL.f a0).bind fun t105 => (if t105 = true then ((iW.f k l1 7770038).bind fun t106 => (cB.j0 k l1 t106 a0)) else (cB.j0 k l1 true a0))
def cB.T6 : Bool × List (List Nat × List Nat) := (true, [([], []), ([0], [0]), ([1], [1]), ([], []), ([], []), ([3, 4, 2], [3, 4]), ([2, 5, 0, 1, 2], [2]), ([5, 6, 0, 1, 2, 3, 4, 5, 6], [5])])
def cB.B6 : List Nat := [0, 1, 3, 0, 0, 31, 63, 127]
theorem cB.Eu : fK .any (opsOf Tryz.f11 6) = cB.T6 := by kernel_rfl
theorem cB.Bl : fP cB.T6.2 cB.B6 = true := by kernel_rfl
def cB.T9 : Bool × List (List Nat × List Nat) := (true, [([], []), ([0], [0]), ([1], [1]), ([2], [2]), ([3], [3]), ([4, 3], [3, 4]), ([5, 3], [3, 5]), ([6, 3], [3, 6]), ([3], [3]), ([7, 8, 3, 3], [3, 7, 8]), ([9, 3], [3, 9]), ([3, 10], [3, 10]), ([11, 9], [11]), ([12], [12]), ([13, 12], [12, 13]), ([14, 12], [12, 14]), ([12, 15], [12, 15]), ([16, 12], [16]), ([17], [17]), ([18, 17], [17, 18]), ([19, 17, 17], [17, 19]), ([20, 17], [17, 20]), ([17, 21], [17, 21]), ([22, 20], [22])])
def cB.B9 : List Nat := [0, 1, 3, 7, 15, 31, 63, 127, 15, 511, 1023, 2047, 4095, 8191, 16383, 32767, 65535, 131071, 262143, 524287, 1048575, 2097151, 4194303, 8388607]
theorem cB.yS : fK .any (opsOf Tryz.f11 9) = cB.T9 := by kernel_rfl
theorem cB.uM : fP cB.T9.2 cB.B9 = true := by kernel_rfl
def cB.T11 : Bool × List (List Nat × List Nat) := (true, [([], []), ([0], [0]), ([], []), ([2], [2]), ([3], [3]), ([1, 4], [1, 4]), ([0, 1, 2, 3, 4, 5], []), ([6, 5, 5, 0, 1, 2, 3, 4, 5], [5, 6])])
def cB.B11 : List Nat := [0, 1, 0, 4, 12, 31, 63, 127]
theorem cB.Cc : fK .any (opsOf Tryz.f11 11) = cB.T11 := by kernel_rfl
theorem cB.zk : fP cB.T11.2 cB.B11 = true := by kernel_rfl
theorem cB.calls (k : Nat) (a0 : ByteArray) (A1 : Option Addr) (c1 : Nat) (l1 : List (S44)) (r1 : ByteArray) (r2 : List (S44)) (r3 : Int) (r4 : Int) (w : World) (hr1 : Kd.C k44 w A1 l1.length l1) (hc1 : l1.length ≤ c1) (h : cB.f k a0 l1 = some (r1, r2, r3, r4)) :
    Calls Tryz.prog 11 #[.string a0, .slice A1 l1.length c1] w fun e w' => ∃ v1_ : Value, e = .returned (.tuple #[.agg #[.string r1, v1_, .int .i64 r3], .int .i64 r4]) ∧ Kd.R k44 44 w' w.heap.size (fun _ => True) v1_ r2 ∧ Below w.heap.size w w' := by
  have hu26 := Tryz.underlying26
  have hu44 := Tryz.underlying44
  have HR1 := ah.mk hr1
  have HC1 := ah.mk hc1
  clear hr1 hc1
  have HB := ah.mk (Below.refl w.heap.size w)
  have H : ((dL.f a0).bind fun t105 => (if t105 = true then ((iW.f k l1 7770038).bind fun t106 => (cB.j0 k l1 t106 a0)) else (cB.j0 k l1 true a0))) = some (r1, r2, r3, r4) := h
  clear h
  have HC3 := ah.mk H
  clear H
  go_enter Tryz.func11, Tryz.ntmps11
  go_upto_region 1 with (first | ((with_reducible refine bF (N := 2) rfl ?_); (try (refine fA (by rfl) ?_; dsimp only)); refine bQ ?hg (N := 2) ?hd (cs := #[.string a0]) (t := 9) ?hr ?_; (case hd => rfl); (case hg => rfl); (case hr => (go_simp; done)); intro gb103 hg w4 hbox hb; have BK103 := ah.mk (hbox); have GW103 := ah.mk (ge_ hg (av HB.out)); have GE103 := ah.mk (ge_ hg (av HB.out)); replace HB := ah.mk (ak HB.out hb); clear hb hbox hg) | ((with_reducible refine bF (N := 4) rfl ?_); (try (refine fA (by rfl) ?_; dsimp only)); refine bQ ?hg (N := 4) ?hd (cs := #[.string (⟨#[]⟩ : ByteArray), .slice none 0 0, .int .i64 0]) (t := 26) ?hr ?_; (case hd => rfl); (case hg => rfl); (case hr => (go_simp; done)); intro gb104 hg w5 hbox hb; have BK104 := ah.mk (hbox); have GW104 := ah.mk (ge_ hg (av HB.out)); have GE104 := ah.mk (ge_ hg (av HB.out)); have NB103_104 := ah.mk (nl_ hg (by ((exact BK103.out)))); have NB104_103 := ah.mk (nr_ hg (by ((exact BK103.out)))); replace BK103 := ah.mk (aD (by ((exact BK103.out))) hb); replace HB := ah.mk (ak HB.out hb); clear hb hbox hg))
  go_cut [15] (fun v15 wc => ∃ (kq : Nat) (x15_2 : Bool), v15 = .bool x15_2 ∧ ah (cB.j0 kq l1 x15_2 a0 = some (r1, r2, r3, r4)) ∧ ah (kq ≤ k) ∧ ah (wc.heap[gb103]? = some (.cells #[.string a0] 9 (0, 0))) ∧ ah (wc.heap[gb104]? = some (.cells #[.string (⟨#[]⟩ : ByteArray), (.slice none 0 0), .int .i64 0] 26 (0, 0))) ∧ ah (Below w.heap.size w wc))
  case first =>
   have H := HC3.out
   clear HC3
   obtain ⟨t105, A6, H⟩ := bP H
   by_cases c7 : t105 = true
   focus
    subst c7
    rw [if_pos rfl] at H
    obtain ⟨t106, A8, H⟩ := bP H
   rotate_left
   focus
    replace c7 := Bool.eq_false_iff.mpr c7
    subst c7
    rw [if_neg ff_] at H
   rotate_left
   all_goals
    have H' := ah.mk H
    clear H
    have hnb9 := NB103_104.out
    have hnc9 := NB104_103.out
    obtain ⟨hcz10_0, hfz10_0⟩ := z1_ BK103.out
   ·go_wp2_with (first | ((with_reducible refine dA (f := 36) rfl ?_); refine fC (some 10) rfl rfl Tryz.func36 (by kernel_rfl) rfl #[.string a0] rfl (by (try simp only [mA_, mC_, mN_]); rfl) ?_; (with_reducible refine (dL.calls a0 _ _ A6.out).mono ?_); rintro e w11 ⟨rfl, hb⟩; refine ⟨_, rfl, ?_⟩; replace BK103 := ah.mk (aD (by ((exact BK103.out))) hb); replace BK104 := ah.mk (aD (by ((exact BK104.out))) hb); replace HB := ah.mk (ak HB.out hb); (try clear hb)) | (go_at_call 37; (with_reducible refine (iW.calls k _ _ l1 7770038 t106 _ ?side1 ?side2 A8.out).mono ?_); (case side1 => repeat ((exact (Kd.fM HR1.out HB.out)))); (case side2 => exact HC1.out); rintro e w12 ⟨rfl, hb⟩; replace BK103 := ah.mk (aD (by ((exact BK103.out))) hb); replace BK104 := ah.mk (aD (by ((exact BK104.out))) hb); replace HB := ah.mk (ak HB.out hb); (try clear hb)))
    go_meet
    case rel => exact ⟨_, (t106), (by rfl), H', ⟨by omega⟩, ⟨by (with_reducible repeat ((refine aA ?_ _))); exact BK103.out⟩, ⟨by (with_reducible repeat ((refine aA ?_ _))); exact BK104.out⟩, ⟨HB.out⟩⟩
   ·go_wp2_with ((((with_reducible refine dA (f := 36) rfl ?_); refine fC (some 10) rfl rfl Tryz.func36 (by kernel_rfl) rfl #[.string a0] rfl (by (try simp only [mA_, mC_, mN_]); rfl) ?_; (with_reducible refine (dL.calls a0 _ _ A6.out).mono ?_); rintro e w15 ⟨rfl, hb⟩; refine ⟨_, rfl, ?_⟩; replace BK103 := ah.mk (aD (by ((exact BK103.out))) hb); replace BK104 := ah.mk (aD (by ((exact BK104.out))) hb); replace HB := ah.mk (ak HB.out hb); (try clear hb))))
    go_meet
    case rel => exact ⟨_, (true), (by rfl), H', ⟨by omega⟩, ⟨by (with_reducible repeat ((refine aA ?_ _))); exact BK103.out⟩, ⟨by (with_reducible repeat ((refine aA ?_ _))); exact BK104.out⟩, ⟨HB.out⟩⟩
  case rest =>
   clear HC3
   obtain ⟨kq, x15_2, rfl, HA, HJ2, BK103, BK104, HB⟩ := hcut
   cases kq with
   | zero => exact absurd HA.out (by simp [cB.j0])
   | succ kj2 =>
    have H := HA.out
    clear HA
    simp only [cB.j0] at H
    by_cases c16 : x15_2 = true
    focus
     subst c16
     rw [if_pos rfl] at H
    rotate_left
    focus
     replace c16 := Bool.eq_false_iff.mpr c16
     subst c16
     rw [if_neg ff_] at H
     obtain ⟨t107, A19, H⟩ := bP H
     by_cases c20 : (t107.length : Int) > 65536
     focus
      rw [if_pos c20] at H
      have c20b0 : decide (65536 < (t107.length : Int)) = true := decide_eq_true c20
      have c20b1 : decide (65536 < t107.length) = true := decide_eq_true (by omega)
      clear c20
     rotate_left
     focus
      rw [if_neg c20] at H
      have c20b0 : decide (65536 < (t107.length : Int)) = false := decide_eq_false c20
      have c20b1 : decide (65536 < t107.length) = false := decide_eq_false (by omega)
      clear c20
      obtain ⟨t111, A35, H⟩ := bP H
      obtain ⟨t114, A36, H⟩ := bP H
      obtain ⟨t117, A37, H⟩ := bP H
      by_cases c38 : t117 = true
      focus
       subst c38
       rw [if_pos rfl] at H
      rotate_left
      focus
       replace c38 := Bool.eq_false_iff.mpr c38
       subst c38
       rw [if_neg ff_] at H
       by_cases c60 : (t111.length : Int) = 1
       focus
        rw [if_pos c60] at H
        have c60b0 : ((t111.length : Int) == 1) = true := beq_iff_eq.mpr c60
        have c60b1 : ((t111.length : Int) != 1) = false := bne_eq_false_iff_eq.mpr c60
        clear c60
        obtain ⟨c61, H⟩ := gd_ H
        have c61b0 : decide (0 < (t111.length : Int)) = true := decide_eq_true c61
        have c61b1 : decide (0 < t111.length) = true := decide_eq_true (by omega)
        clear c61
        obtain ⟨t119, A62, H⟩ := bP H
        by_cases c63 : t119 = true
        focus
         subst c63
         rw [if_pos rfl] at H
         by_cases c64 : (t114.length : Int) = 0
         focus
          rw [if_pos c64] at H
          have c64b0 : ((t114.length : Int) == 0) = true := beq_iff_eq.mpr c64
          have c64b1 : ((t114.length : Int) != 0) = false := bne_eq_false_iff_eq.mpr c64
          clear c64
         rotate_left
         focus
          rw [if_neg c64] at H
          have c64b0 : ((t114.length : Int) == 0) = false := beq_eq_false_iff_ne.mpr c64
          have c64b1 : ((t114.length : Int) != 0) = true := bne_iff_ne.mpr c64
          have c64b2 : ¬ (t114 = []) := fun h_ => c64 (by rw [h_]; rfl)
          obtain ⟨t120, A90, H⟩ := bP H
          by_cases c91 : t120 = true
          focus
           subst c91
           rw [if_pos rfl] at H
           obtain ⟨t122, A92, H⟩ := bP H
          rotate_left
          focus
           replace c91 := Bool.eq_false_iff.mpr c91
           subst c91
           rw [if_neg ff_] at H
          rotate_left
         rotate_left 2
        rotate_left 3
        focus
         replace c63 := Bool.eq_false_iff.mpr c63
         subst c63
         rw [if_neg ff_] at H
        rotate_left
       rotate_left 4
       focus
        rw [if_neg c60] at H
        have c60b0 : ((t111.length : Int) == 1) = false := beq_eq_false_iff_ne.mpr c60
        have c60b1 : ((t111.length : Int) != 1) = true := bne_iff_ne.mpr c60
       rotate_left
      rotate_left 5
     rotate_left 6
    rotate_left 7
    all_goals
     simp only [Option.some.injEq, Prod.mk.injEq] at H
     obtain ⟨rfl, rfl, rfl, rfl⟩ := H
    ·have hnb17 := NB104_103.out
     have hnc17 := NB103_104.out
     obtain ⟨hcz18_0, hcz18_1, hcz18_2, hfz18_0, hfz18_1, hfz18_2⟩ := z3_ BK104.out
     go_wp2
     refine bodyPost_ret (gN rfl _ _ gb104 26 #[.string (⟨#[]⟩ : ByteArray), .slice none 0 0, .int .i64 0] (0, 0) _ rfl (by (with_reducible repeat ((refine aA ?_ _))); refine bH (cs := #[.string (⟨#[]⟩ : ByteArray), .slice none 0 0, .int .i64 0]) ?_ 2 _ rfl; (with_reducible repeat ((refine aA ?_ _))); refine bH (cs := #[.string (⟨#[]⟩ : ByteArray), .slice none 0 0, .int .i64 0]) ?_ 1 _ rfl; (with_reducible repeat ((refine aA ?_ _))); refine bH (cs := #[.string (⟨#[]⟩ : ByteArray), .slice none 0 0, .int .i64 0]) ?_ 0 _ rfl; (with_reducible repeat ((refine aA ?_ _))); exact BK104.out) Tryz.underlying26 rfl (by kernel_rfl)) rfl ?_
     exact ⟨_, by rfl, by (exact Kd.gq _ _ _ _ _), by repeat ((with_reducible first | exact HB.out | refine dN ?_ GE104.out))⟩
    all_goals
     (try go_wp2)
     replace BK103 := ah.mk (gB BK103.out)
     replace BK104 := ah.mk (gB BK104.out)
     replace HB := ah.mk (dx HB.out)
     refine gG (n := 6) (S := fun w' => w'.cell? ⟨gb103, 0, none⟩ = some (.string a0)) (ds := []) (ls 6 0) (by kernel_rfl) rfl rfl ((aH BK103.out 0).trans rfl) (fun hHeld => ?_)
     generalize wc.drew = w21 at BK103 BK104 HB hHeld ⊢
     refine nu (i := 1) (N := some 18) (v := ?_) (a' := ?_) (ls 6 2) rfl rfl (by kernel_rfl) (fun _ _ _ h => h) (Or.inl ⟨by rfl, ?_⟩) ?_ ?_
     rotate_left
     ·intro w'
      go_simp
      with_reducible rfl
     rotate_left
     ·simp only [Act.put, sA_, sZ_, sS_, bA, bS]
      rfl
     refine pW (i := 0) (N := some 17) (v := ?_) (a' := ?_) (ls 6 3) rfl rfl (by kernel_rfl) (fun _ _ _ h => h) (Or.inl ⟨by rfl, ?_⟩) hHeld ?_ ?_
     rotate_left
     ·intro w' s0
      go_simp
      with_reducible rfl
     rotate_left
     ·simp only [Act.put, sA_, sZ_, sS_, bA, bS]
      rfl
     refine Gi (σ := Value × Nat) 1 (ls 6 31) (fun s_ => [(19, s_.1), (6, .pointer (some ⟨s_.2, 0, none⟩)), (20, .agg #[.string a0, s_.1, .int .i64 0])]) (fun s_ w' => (w'.cell? ⟨gb103, 0, none⟩ = some (.string a0)) ∧ (Kd.R k44 44 w' w.heap.size (fun _ => True) s_.1 t107) ∧ (w'.heap[gb103]? = some (.cells #[.string a0] 9 (0, 0))) ∧ (w'.heap[gb104]? = some (.cells #[.string (⟨#[]⟩ : ByteArray), .slice none 0 0, .int .i64 0] 26 (0, 0))) ∧ (w'.heap[s_.2]? = some (.cells #[.string (⟨#[]⟩ : ByteArray), .slice none 0 0, .int .i64 0] 26 (0, 0))) ∧ (w.heap.size ≤ s_.2) ∧ (w.heap.size ≤ s_.2) ∧ (gb103 ≠ s_.2) ∧ (s_.2 ≠ gb103) ∧ (gb104 ≠ s_.2) ∧ (s_.2 ≠ gb104) ∧ (Below w.heap.size w w')) ?_ ?_
     rotate_left
     ·intro hCont
      refine Fw (i := 2) (j := 4) (Ni := some 19) (Nj := some 6) (ls 6 7) (ls 6 19) rfl rfl rfl rfl (by kernel_rfl) (by decide) (by decide) (fun K hK => ?_) (fun K hK => ?_)
      ·skip
       refine mW Tryz.func40 (by kernel_rfl) rfl #[.slice A1 l1.length c1] (by rfl) rfl rfl (by (try simp only [mA_, mC_, mN_]); rfl) ?_
       with_reducible refine (lJ.calls _ _ l1 t107 _ ?side1 ?side2 A19.out).mono ?_
       (case side1 => repeat ((exact (Kd.fM HR1.out HB.out))))
       (case side2 => exact HC1.out)
       rintro e w22 ⟨v108, rfl, ho0, hb⟩
       refine ⟨_, rfl, ?_⟩
       have HO109 := ah.mk (Kd.bZ ho0 (av HB.out))
       replace BK103 := ah.mk (aD (by ((exact BK103.out))) hb)
       replace BK104 := ah.mk (aD (by ((exact BK104.out))) hb)
       replace HB := ah.mk (ak HB.out hb)
       (try clear hb)
       (try clear ho0)
       obtain ⟨Ao23, co23, eo23⟩ := Kd.bO HO109.out
       ((subst eo23))
       refine hK.out _ _ ((aH BK103.out 0).trans rfl) (fun hHeld => ?_)
       clear hK K
       refine jE (a' := ?_) ?_ ?_
       rotate_left
       ·show Act.put _ (some 19) _ = _
        simp only [Act.put, sA_, sZ_, sS_, bA, bS]
        rfl
       refine nu (i := 3) (N := some 20) (v := ?_) (a' := ?_) (ls 6 15) rfl rfl (by kernel_rfl) (fun _ _ _ h => h) (Or.inl ⟨by rfl, ?_⟩) ?_ ?_
       rotate_left
       ·intro w'
        go_simp
        with_reducible rfl
       rotate_left
       ·simp only [Act.put, sA_, sZ_, sS_, bA, bS]
        rfl
       refine lY (i := 4) (N := some 6) (ls 6 31) rfl rfl (by kernel_rfl) (by decide) (fun K hK => ?_)
       refine zn ?hg (N := 6) ?hd (cs := #[.string (⟨#[]⟩ : ByteArray), .slice none 0 0, .int .i64 0]) (t := 26) ?hr ?_; (case hd => rfl); (case hg => rfl); (case hr => (go_simp; done))
       intro gb110 hg w24 hbox hb
       have BK110 := ah.mk (hbox)
       have GW110 := ah.mk (ge_ hg (av HB.out))
       have GE110 := ah.mk (ge_ hg (av HB.out))
       have NB103_110 := ah.mk (nl_ hg (by ((exact BK103.out))))
       have NB110_103 := ah.mk (nr_ hg (by ((exact BK103.out))))
       have NB104_110 := ah.mk (nl_ hg (by ((exact BK104.out))))
       have NB110_104 := ah.mk (nr_ hg (by ((exact BK104.out))))
       replace HO109 := ah.mk (Kd.bI (by ((exact HO109.out))) hb)
       replace BK103 := ah.mk (aD (by ((exact BK103.out))) hb)
       replace BK104 := ah.mk (aD (by ((exact BK104.out))) hb)
       replace HB := ah.mk (ak HB.out hb)
       clear hb hbox hg
       refine hK.out _ _ ((aH BK103.out 0).trans rfl) (fun hHeld => ?_)
       clear hK K
       refine jE (a' := ?_) ?_ ?_
       rotate_left
       ·show Act.put _ (some 6) _ = _
        simp only [Act.put, sA_, sZ_, sS_, bA, bS]
        rfl
       exact jE (by simp only [lZ, Act.put, List.setIfInBounds_toArray, List.set_cons_zero, List.set_cons_succ]) (hCont (.slice Ao23 t107.length co23, gb110) _ ⟨hHeld, (by ((exact HO109.out))), (by ((exact BK103.out))), (by ((exact BK104.out))), (by ((exact BK110.out))), GW110.out, GE110.out, NB103_110.out, NB110_103.out, NB104_110.out, NB110_104.out, HB.out⟩)
      ·skip
       refine zn ?hg (N := 6) ?hd (cs := #[.string (⟨#[]⟩ : ByteArray), .slice none 0 0, .int .i64 0]) (t := 26) ?hr ?_; (case hd => rfl); (case hg => rfl); (case hr => (go_simp; done))
       intro gb110 hg w22 hbox hb
       have BK110 := ah.mk (hbox)
       have GW110 := ah.mk (ge_ hg (av HB.out))
       have GE110 := ah.mk (ge_ hg (av HB.out))
       have NB103_110 := ah.mk (nl_ hg (by ((exact BK103.out))))
       have NB110_103 := ah.mk (nr_ hg (by ((exact BK103.out))))
       have NB104_110 := ah.mk (nl_ hg (by ((exact BK104.out))))
       have NB110_104 := ah.mk (nr_ hg (by ((exact BK104.out))))
       replace BK103 := ah.mk (aD (by ((exact BK103.out))) hb)
       replace BK104 := ah.mk (aD (by ((exact BK104.out))) hb)
       replace HB := ah.mk (ak HB.out hb)
       clear hb hbox hg
       refine hK.out _ _ ((aH BK103.out 0).trans rfl) (fun hHeld => ?_)
       clear hK K
       refine jE (a' := ?_) ?_ ?_
       rotate_left
       ·show Act.put _ (some 6) _ = _
        simp only [Act.put, sA_, sZ_, sS_, bA, bS]
        rfl
       refine lY (i := 2) (N := some 19) (ls 6 23) rfl rfl (by kernel_rfl) (by decide) (fun K hK => ?_)
       refine mW Tryz.func40 (by kernel_rfl) rfl #[.slice A1 l1.length c1] (by rfl) rfl rfl (by (try simp only [mA_, mC_, mN_]); rfl) ?_
       with_reducible refine (lJ.calls _ _ l1 t107 _ ?side1 ?side2 A19.out).mono ?_
       (case side1 => repeat ((exact (Kd.fM HR1.out HB.out))))
       (case side2 => exact HC1.out)
       rintro e w23 ⟨v108, rfl, ho0, hb⟩
       refine ⟨_, rfl, ?_⟩
       have HO109 := ah.mk (Kd.bZ ho0 (av HB.out))
       replace BK103 := ah.mk (aD (by ((exact BK103.out))) hb)
       replace BK104 := ah.mk (aD (by ((exact BK104.out))) hb)
       replace BK110 := ah.mk (aD (by ((exact BK110.out))) hb)
       replace HB := ah.mk (ak HB.out hb)
       (try clear hb)
       (try clear ho0)
       obtain ⟨Ao24, co24, eo24⟩ := Kd.bO HO109.out
       ((subst eo24))
       refine hK.out _ _ ((aH BK103.out 0).trans rfl) (fun hHeld => ?_)
       clear hK K
       refine jE (a' := ?_) ?_ ?_
       rotate_left
       ·show Act.put _ (some 19) _ = _
        simp only [Act.put, sA_, sZ_, sS_, bA, bS]
        rfl
       refine nu (i := 3) (N := some 20) (v := ?_) (a' := ?_) (ls 6 31) rfl rfl (by kernel_rfl) (fun _ _ _ h => h) (Or.inl ⟨by rfl, ?_⟩) ?_ ?_
       rotate_left
       ·intro w'
        go_simp
        with_reducible rfl
       rotate_left
       ·simp only [Act.put, sA_, sZ_, sS_, bA, bS]
        rfl
       exact jE (by simp only [lZ, Act.put, List.setIfInBounds_toArray, List.set_cons_zero, List.set_cons_succ]) (hCont (.slice Ao24 t107.length co24, gb110) _ ⟨hHeld, (by ((exact HO109.out))), (by ((exact BK103.out))), (by ((exact BK104.out))), (by ((exact BK110.out))), GW110.out, GE110.out, NB103_110.out, NB110_103.out, NB104_110.out, NB110_104.out, HB.out⟩)
     rintro ⟨v108, gb110⟩ w25 ⟨hS_, h0_, h1_, h2_, h3_, h4_, h5_, h6_, h7_, h8_, h9_, h10_⟩
     have n0_ : ah (Kd.R k44 44 w25 w.heap.size (fun _ => True) v108 t107) := ⟨h0_⟩
     have n1_ : ah (w25.heap[gb103]? = some (.cells #[.string a0] 9 (0, 0))) := ⟨h1_⟩
     have n2_ : ah (w25.heap[gb104]? = some (.cells #[.string (⟨#[]⟩ : ByteArray), .slice none 0 0, .int .i64 0] 26 (0, 0))) := ⟨h2_⟩
     have n3_ : ah (w25.heap[gb110]? = some (.cells #[.string (⟨#[]⟩ : ByteArray), .slice none 0 0, .int .i64 0] 26 (0, 0))) := ⟨h3_⟩
     have n4_ : ah (w.heap.size ≤ gb110) := ⟨h4_⟩
     have n5_ : ah (w.heap.size ≤ gb110) := ⟨h5_⟩
     have n6_ : ah (gb103 ≠ gb110) := ⟨h6_⟩
     have n7_ : ah (gb110 ≠ gb103) := ⟨h7_⟩
     have n8_ : ah (gb104 ≠ gb110) := ⟨h8_⟩
     have n9_ : ah (gb110 ≠ gb104) := ⟨h9_⟩
     have n10_ : ah (Below w.heap.size w w25) := ⟨h10_⟩
     clear BK103
     clear BK104
     clear HB
     clear h0_ h1_ h2_ h3_ h4_ h5_ h6_ h7_ h8_ h9_ h10_
     have HO109 := n0_
     have BK103 := n1_
     have BK104 := n2_
     have BK110 := n3_
     have GW110 := n4_
     have GE110 := n5_
     have NB103_110 := n6_
     have NB110_103 := n7_
     have NB104_110 := n8_
     have NB110_104 := n9_
     have HB := n10_
     clear n0_ n1_ n2_ n3_ n4_ n5_ n6_ n7_ n8_ n9_ n10_
     have hHeld : w25.cell? ⟨gb103, 0, none⟩ = some (.string a0) := hS_
     obtain ⟨Ao26, co26, eo26⟩ := Kd.bO HO109.out
     ((subst eo26))
     refine jE (a' := ?_) ?_ ?_
     rotate_left
     ·simp only [lZ, Act.put, List.setIfInBounds_toArray, List.set_cons_zero, List.set_cons_succ]
      rfl
     refine lY (i := 5) (N := none) (ls 6 63) rfl rfl (by kernel_rfl) (by decide) (fun K hK => ?_)
     have hs27 : w25.cell? ⟨gb110, 0, none⟩ = some (.string (⟨#[]⟩ : ByteArray)) := (aH BK110.out 0).trans rfl
     have hfs27 := bR BK110.out 0
     have hns27_0 := NB103_110.out
     have hns27_1 := NB104_110.out
     have hms27_0 := NB110_103.out
     have hms27_1 := NB110_104.out
     have hs28 : w25.cell? ⟨gb110, 1, none⟩ = some (.slice none 0 0) := (aH BK110.out 1).trans rfl
     have hfs28 := bR BK110.out 1
     have hns28_0 := NB103_110.out
     have hns28_1 := NB104_110.out
     have hms28_0 := NB110_103.out
     have hms28_1 := NB110_104.out
     have hs29 : w25.cell? ⟨gb110, 2, none⟩ = some (.int .i64 0) := (aH BK110.out 2).trans rfl
     have hfs29 := bR BK110.out 2
     have hns29_0 := NB103_110.out
     have hns29_1 := NB104_110.out
     have hms29_0 := NB110_103.out
     have hms29_1 := NB110_104.out
     refine kZ (w1 := ?_) (by rfl) rfl ?_ ?_
     rotate_left
     ·go_simp
      rfl
     refine hK.out _ _ (((cell_far (p := ⟨gb110, _, none⟩) NB103_110.out _).trans (((cell_far (p := ⟨gb110, _, none⟩) NB103_110.out _).trans (((cell_far (p := ⟨gb110, _, none⟩) NB103_110.out _).trans (hHeld))))))) (fun hHeld => ?_)
     clear hK K
     refine jJ (by kernel_rfl) ?_
     have hnb30 := NB110_103.out
     have hnc30 := NB103_110.out
     have hnb31 := NB110_104.out
     have hnc31 := NB104_110.out
     obtain ⟨hcz32_0, hcz32_1, hcz32_2, hfz32_0, hfz32_1, hfz32_2⟩ := z3_ BK110.out
    ·have hnb33 := NB104_103.out
     have hnc33 := NB103_104.out
     obtain ⟨hcz34_0, hcz34_1, hcz34_2, hfz34_0, hfz34_1, hfz34_2⟩ := z3_ BK104.out
     (try go_wp2)
     refine bodyPost_ret (gN rfl _ _ gb104 26 #[.string (⟨#[]⟩ : ByteArray), .slice none 0 0, .int .i64 0] (0, 0) _ rfl (by (with_reducible repeat ((refine aA ?_ _))); refine bH (cs := #[.string (⟨#[]⟩ : ByteArray), .slice none 0 0, .int .i64 0]) ?_ 2 _ rfl; (with_reducible repeat ((refine aA ?_ _))); refine bH (cs := #[.string (⟨#[]⟩ : ByteArray), .slice none 0 0, .int .i64 0]) ?_ 1 _ rfl; (with_reducible repeat ((refine aA ?_ _))); refine bH (cs := #[.string (⟨#[]⟩ : ByteArray), .slice none 0 0, .int .i64 0]) ?_ 0 _ rfl; (with_reducible repeat ((refine aA ?_ _))); refine fO ?_ NB104_110.out _; (with_reducible repeat ((refine aA ?_ _))); refine fO ?_ NB104_110.out _; (with_reducible repeat ((refine aA ?_ _))); refine fO ?_ NB104_110.out _; (with_reducible repeat ((refine aA ?_ _))); exact BK104.out) Tryz.underlying26 rfl (by kernel_rfl)) rfl ?_
     exact ⟨_, by rfl, by (exact Kd.gq _ _ _ _ _), by repeat ((with_reducible first | exact HB.out | refine dN ?_ GE104.out | refine dN ?_ GE110.out))⟩
    all_goals
     (try go_wp2)
     have n0_ : ah (Kd.R k44 44 (((w25.setCell ⟨gb110, 0, none⟩ (.string a0)).setCell ⟨gb110, 1, none⟩ (.slice Ao26 t107.length co26)).setCell ⟨gb110, 2, none⟩ (.int .i64 0)) w.heap.size (fun _ => True) (.slice Ao26 t107.length co26) t107) := ⟨by (with_reducible repeat ((apply Kd.aK))); exact Kd.dH (Kd.gZ (p := ⟨gb110, 2, none⟩) (Kd.gZ (p := ⟨gb110, 1, none⟩) (Kd.gZ (p := ⟨gb110, 0, none⟩) (Kd.jW HO109.out BK110.out (by decide)) (fun _ hk => hk.2) (.string a0)) (fun _ hk => hk.2) (.slice Ao26 t107.length co26)) (fun _ hk => hk.2) (.int .i64 0)) (fun _ hk => trivial)⟩
     have n1_ : ah ((((w25.setCell ⟨gb110, 0, none⟩ (.string a0)).setCell ⟨gb110, 1, none⟩ (.slice Ao26 t107.length co26)).setCell ⟨gb110, 2, none⟩ (.int .i64 0)).heap[gb103]? = some (.cells #[.string a0] 9 (0, 0))) := ⟨by (with_reducible repeat ((refine aA ?_ _))); refine fO ?_ NB103_110.out _; (with_reducible repeat ((refine aA ?_ _))); refine fO ?_ NB103_110.out _; (with_reducible repeat ((refine aA ?_ _))); refine fO ?_ NB103_110.out _; (with_reducible repeat ((refine aA ?_ _))); exact BK103.out⟩
     have n2_ : ah ((((w25.setCell ⟨gb110, 0, none⟩ (.string a0)).setCell ⟨gb110, 1, none⟩ (.slice Ao26 t107.length co26)).setCell ⟨gb110, 2, none⟩ (.int .i64 0)).heap[gb104]? = some (.cells #[.string (⟨#[]⟩ : ByteArray), .slice none 0 0, .int .i64 0] 26 (0, 0))) := ⟨by (with_reducible repeat ((refine aA ?_ _))); refine fO ?_ NB104_110.out _; (with_reducible repeat ((refine aA ?_ _))); refine fO ?_ NB104_110.out _; (with_reducible repeat ((refine aA ?_ _))); refine fO ?_ NB104_110.out _; (with_reducible repeat ((refine aA ?_ _))); exact BK104.out⟩
     have n3_ : ah ((((w25.setCell ⟨gb110, 0, none⟩ (.string a0)).setCell ⟨gb110, 1, none⟩ (.slice Ao26 t107.length co26)).setCell ⟨gb110, 2, none⟩ (.int .i64 0)).heap[gb110]? = some (.cells #[.string a0, .slice Ao26 t107.length co26, .int .i64 0] 26 (0, 0))) := ⟨by (with_reducible repeat ((refine aA ?_ _))); refine bH (cs := #[.string a0, .slice Ao26 t107.length co26, .int .i64 0]) ?_ 2 _ rfl; (with_reducible repeat ((refine aA ?_ _))); refine bH (cs := #[.string a0, .slice none 0 0, .int .i64 0]) ?_ 1 _ rfl; (with_reducible repeat ((refine aA ?_ _))); refine bH (cs := #[.string (⟨#[]⟩ : ByteArray), .slice none 0 0, .int .i64 0]) ?_ 0 _ rfl; (with_reducible repeat ((refine aA ?_ _))); exact BK110.out⟩
     have n4_ : ah (Below w.heap.size w (((w25.setCell ⟨gb110, 0, none⟩ (.string a0)).setCell ⟨gb110, 1, none⟩ (.slice Ao26 t107.length co26)).setCell ⟨gb110, 2, none⟩ (.int .i64 0))) := ⟨by repeat ((with_reducible first | exact HB.out | refine dN ?_ GE110.out))⟩
     (try clear HO109)
     (try clear BK103)
     (try clear BK104)
     (try clear BK110)
     (try clear HB)
     generalize (((w25.setCell ⟨gb110, 0, none⟩ (.string a0)).setCell ⟨gb110, 1, none⟩ (.slice Ao26 t107.length co26)).setCell ⟨gb110, 2, none⟩ (.int .i64 0)) = w51 at n0_ n1_ n2_ n3_ n4_ ⊢
     have HO109 := n0_
     have BK103 := n1_
     have BK104 := n2_
     have BK110 := n3_
     have HB := n4_
     clear n0_ n1_ n2_ n3_ n4_
     replace HO109 := ah.mk (Kd.fU HO109.out)
     replace BK103 := ah.mk (gB BK103.out)
     replace BK104 := ah.mk (gB BK104.out)
     replace BK110 := ah.mk (gB BK110.out)
     replace HB := ah.mk (dx HB.out)
     refine gG (n := 8) (ds := []) (ls 8 0) (by kernel_rfl) rfl rfl (c3_ BK110.out (d1_ BK103.out)) (fun hHeld => ?_); refine eX cB.Eu cB.Bl (fun HT_ HW_ => ?_)
     generalize w51.drew = w52 at HO109 BK103 BK104 BK110 HB hHeld ⊢
     refine td_ [(0, 26)] ?_
     iterate 1 (refine pn_ (v := ?_) (a' := ?_) HT_ rfl rfl (by kernel_rfl) rfl (fun _ _ _ h => h) (fun w' => ?_) ?_ ?_; rotate_left 2; (focus go_simp; with_reducible rfl); (focus simp only [Act.put, sA_, sZ_, sS_, bA, bS]; rfl))
     refine dn_ ?_
     refine td_ [(1, 27), (3, 29), (4, 30)] ?_
     iterate 3 (refine tn_ (v := ?_) (a' := ?_) HT_ HW_ rfl rfl (by kernel_rfl) rfl (fun _ _ _ h => h) hHeld ?_ ?_ ?_; rotate_left 2; (focus rintro w' ⟨s0, s1, s2, s3⟩; go_simp; with_reducible rfl); (focus simp only [Act.put, sA_, sZ_, sS_, bA, bS]; rfl))
     refine dn_ ?_
     refine lY (i := 2) (N := some 28) (ls 8 31) rfl rfl (iK HT_.out (by kernel_rfl)) (by decide) (fun K hK => ?_)
     refine mW Tryz.func41 (by kernel_rfl) rfl #[.slice Ao26 t107.length co26, .int .i64 6] (by rfl) rfl rfl (by (try simp only [mA_, mC_, mN_]); rfl) ?_
     with_reducible refine (jk.calls _ _ t107 6 t111 _ ?side1 ?side2 A35.out).mono ?_
     (case side1 => repeat ((exact (Kd.aN HO109.out).2.2)))
     (case side2 => exact (Kd.aN HO109.out).2.1)
     rintro e w53 ⟨v112, rfl, ho0, hb⟩
     refine ⟨_, rfl, ?_⟩
     have HO113 := ah.mk (Kd.bZ (Kd.iB ho0 (Kd.jO (by ((exact HO109.out))))) (av HB.out))
     replace HO109 := ah.mk (Kd.fI (by ((exact HO109.out))) (Kd.iC ho0) hb)
     replace BK103 := ah.mk (aD (by ((exact BK103.out))) hb)
     replace BK104 := ah.mk (aD (by ((exact BK104.out))) hb)
     replace BK110 := ah.mk (aD (by ((exact BK110.out))) hb)
     replace HB := ah.mk (ak HB.out hb)
     (try clear hb)
     (try clear ho0)
     refine hK.out _ _ (c3_ BK110.out (d1_ BK103.out)) (fun hHeld => ?_)
     clear hK K
     refine jE (a' := ?_) ?_ ?_
     rotate_left
     ·show Act.put _ (some 28) _ = _
      simp only [Act.put, sA_, sZ_, sS_, bA, bS]
      rfl
     refine lY (i := 5) (N := some 31) (ls 8 63) rfl rfl (iK HT_.out (by kernel_rfl)) (by decide) (fun K hK => ?_)
     refine mW Tryz.func14 (by kernel_rfl) rfl #[.agg #[.string a0, .slice Ao26 t107.length co26, .int .i64 0], .string a0, .int .i64 2] (by rfl) rfl rfl (by (try simp only [mA_, mC_, mN_]); rfl) ?_
     with_reducible refine (jD.calls a0 _ _ t107 0 a0 2 t114 _ ?side1 ?side2 A36.out).mono ?_
     (case side1 => repeat ((exact (Kd.aN HO109.out).2.2)))
     (case side2 => exact (Kd.aN HO109.out).2.1)
     rintro e w54 ⟨v115, rfl, ho0, hb⟩
     refine ⟨_, rfl, ?_⟩
     have HO116 := ah.mk (Kd.bZ (Kd.iB (Kd.iB ho0 (Kd.jO (by ((exact HO109.out))))) (Kd.jO (by ((exact HO113.out))))) (av HB.out))
     replace HO109 := ah.mk (Kd.fI (by ((exact HO109.out))) (Kd.iC ho0) hb)
     replace HO113 := ah.mk (Kd.fI (by ((exact HO113.out))) (Kd.iC ho0) hb)
     replace BK103 := ah.mk (aD (by ((exact BK103.out))) hb)
     replace BK104 := ah.mk (aD (by ((exact BK104.out))) hb)
     replace BK110 := ah.mk (aD (by ((exact BK110.out))) hb)
     replace HB := ah.mk (ak HB.out hb)
     (try clear hb)
     (try clear ho0)
     refine hK.out _ _ (c3_ BK110.out (d1_ BK103.out)) (fun hHeld => ?_)
     clear hK K
     refine jE (a' := ?_) ?_ ?_
     rotate_left
     ·show Act.put _ (some 31) _ = _
      simp only [Act.put, sA_, sZ_, sS_, bA, bS]
      rfl
     refine td_ [(6, 7), (7, 8)] ?_
     iterate 2 (refine pn_ (v := ?_) (a' := ?_) HT_ rfl rfl (by kernel_rfl) rfl (fun _ _ _ h => h) (fun w' => ?_) ?_ ?_; rotate_left 2; (focus go_simp; with_reducible rfl); (focus simp only [Act.put, sA_, sZ_, sS_, bA, bS]; rfl))
     refine dn_ ?_
     refine jJ (iZ HT_.out (by kernel_rfl)) ?_
     obtain ⟨hcz55_0, hcz55_1, hcz55_2, hfz55_0, hfz55_1, hfz55_2⟩ := z3_ BK110.out
     have hnb56 := NB103_104.out
     have hnc56 := NB104_103.out
     obtain ⟨hcz57_0, hfz57_0⟩ := z1_ BK103.out
    ·(try go_wp2_with (((go_at_call 37; (with_reducible refine (lV.calls kj2 _ _ t107 a0 true _ ?side1 ?side2 A37.out gb103 ?side3).mono ?_); (case side1 => repeat ((exact (Kd.aN HO109.out).2.2))); (case side2 => exact (Kd.aN HO109.out).2.1); (case side3 => (exact (aH BK103.out 0).trans rfl)); rintro e w58 ⟨rfl, hb⟩; replace HO109 := ah.mk (Kd.bI (by ((exact HO109.out))) hb); replace HO113 := ah.mk (Kd.bI (by ((exact HO113.out))) hb); replace HO116 := ah.mk (Kd.bI (by ((exact HO116.out))) hb); replace BK103 := ah.mk (aD (by ((exact BK103.out))) hb); replace BK104 := ah.mk (aD (by ((exact BK104.out))) hb); replace BK110 := ah.mk (aD (by ((exact BK110.out))) hb); replace HB := ah.mk (ak HB.out hb); (try clear hb); obtain ⟨hcz59_0, hcz59_1, hcz59_2, hfz59_0, hfz59_1, hfz59_2⟩ := z3_ BK104.out))))
     refine bodyPost_ret (gN rfl _ _ gb104 26 #[.string (⟨#[]⟩ : ByteArray), .slice none 0 0, .int .i64 0] (0, 0) _ rfl (by (with_reducible repeat ((refine aA ?_ _))); refine bH (cs := #[.string (⟨#[]⟩ : ByteArray), .slice none 0 0, .int .i64 0]) ?_ 2 _ rfl; (with_reducible repeat ((refine aA ?_ _))); refine bH (cs := #[.string (⟨#[]⟩ : ByteArray), .slice none 0 0, .int .i64 0]) ?_ 1 _ rfl; (with_reducible repeat ((refine aA ?_ _))); refine bH (cs := #[.string (⟨#[]⟩ : ByteArray), .slice none 0 0, .int .i64 0]) ?_ 0 _ rfl; (with_reducible repeat ((refine aA ?_ _))); exact BK104.out) Tryz.underlying26 rfl (by kernel_rfl)) rfl ?_
     exact ⟨_, by rfl, by (exact Kd.gq _ _ _ _ _), by repeat ((with_reducible first | exact HB.out | refine dN ?_ GE104.out))⟩
    all_goals
     (try go_wp2_with (((go_at_call 37; (with_reducible refine (lV.calls kj2 _ _ t107 a0 false _ ?side1 ?side2 A37.out gb103 ?side3).mono ?_); (case side1 => repeat ((exact (Kd.aN HO109.out).2.2))); (case side2 => exact (Kd.aN HO109.out).2.1); (case side3 => (exact (aH BK103.out 0).trans rfl)); rintro e w84 ⟨rfl, hb⟩; replace HO109 := ah.mk (Kd.bI (by ((exact HO109.out))) hb); replace HO113 := ah.mk (Kd.bI (by ((exact HO113.out))) hb); replace HO116 := ah.mk (Kd.bI (by ((exact HO116.out))) hb); replace BK103 := ah.mk (aD (by ((exact BK103.out))) hb); replace BK104 := ah.mk (aD (by ((exact BK104.out))) hb); replace BK110 := ah.mk (aD (by ((exact BK110.out))) hb); replace HB := ah.mk (ak HB.out hb); (try clear hb)))))
     replace HO109 := ah.mk (Kd.fU HO109.out)
     replace HO113 := ah.mk (Kd.fU HO113.out)
     replace HO116 := ah.mk (Kd.fU HO116.out)
     replace BK103 := ah.mk (gB BK103.out)
     replace BK104 := ah.mk (gB BK104.out)
     replace BK110 := ah.mk (gB BK110.out)
     replace HB := ah.mk (dx HB.out)
     obtain ⟨Ao86, co86, eo86⟩ := Kd.bO HO113.out
     ((subst eo86))
    iterate 4
     focus
      have p118 : 0 ≤ (0 : Int) := (by omega)
      have q118 : 0 < (t111.length : Int) := of_decide_eq_true (by assumption)
      obtain ⟨ad118, e118, hx118_0, hx118_1, hx118_2, hx118_3, hx118_4⟩ := dM (Kd.aN HO113.out).2.2 0 p118 q118
      cases e118
      have qi118 : (0 < t111.length) = True := eq_true (by omega)
      (try rw [show ((0 : Int)).toNat = 0 from rfl] at hx118_0)
      (try rw [show 0 * 5 = 0 from rfl] at hx118_0)
      (try rw [Addr.add_zero'] at hx118_0)
      (try rw [show ((0 : Int)).toNat = 0 from rfl] at hx118_1)
      (try rw [show 0 * 5 = 0 from rfl] at hx118_1)
      (try rw [Addr.add_zero'] at hx118_1)
      (try rw [show ((0 : Int)).toNat = 0 from rfl] at hx118_2)
      (try rw [show 0 * 5 = 0 from rfl] at hx118_2)
      (try rw [Addr.add_zero'] at hx118_2)
      (try rw [show ((0 : Int)).toNat = 0 from rfl] at hx118_3)
      (try rw [show 0 * 5 = 0 from rfl] at hx118_3)
      (try rw [Addr.add_zero'] at hx118_3)
      (try rw [show ((0 : Int)).toNat = 0 from rfl] at hx118_4)
      (try rw [show 0 * 5 = 0 from rfl] at hx118_4)
      (try rw [Addr.add_zero'] at hx118_4)
      replace p118 := eq_true p118
      replace q118 := eq_true q118
     rotate_left
    rotate_left
    focus
     refine gG (n := 24) (ds := []) (ls 24 0) (by kernel_rfl) rfl rfl (c1_ BK103.out (ec_ hx118_0 (ec_ hx118_1 (ec_ hx118_2 (ec_ hx118_3 (ed_ hx118_4)))))) (fun hHeld => ?_); refine eX cB.yS cB.uM (fun HT_ HW_ => ?_)
    rotate_left
    iterate 2
     focus
      refine gG (n := 24) (ds := []) (ls 24 0) (by kernel_rfl) rfl rfl (c1_ BK103.out (c3_ BK110.out (ec_ hx118_0 (ec_ hx118_1 (ec_ hx118_2 (ec_ hx118_3 (ed_ hx118_4))))))) (fun hHeld => ?_); refine eX cB.yS cB.uM (fun HT_ HW_ => ?_)
     rotate_left
    focus
     refine gG (n := 24) (ds := []) (ls 24 0) (by kernel_rfl) rfl rfl (c1_ BK103.out (ec_ hx118_0 (ec_ hx118_1 (ec_ hx118_2 (ec_ hx118_3 (ed_ hx118_4)))))) (fun hHeld => ?_); refine eX cB.yS cB.uM (fun HT_ HW_ => ?_)
    rotate_left
    rotate_left
    iterate 4
     focus
      generalize w84.drew = w85 at HO109 HO113 HO116 BK103 BK104 BK110 HB hx118_0 hx118_1 hx118_2 hx118_3 hx118_4 hHeld ⊢
      refine td_ [(0, 39), (1, 40), (2, 41), (3, 42), (4, 43), (5, 44), (6, 45)] ?_
      iterate 7 (refine pn_ (v := ?_) (a' := ?_) HT_ rfl rfl (by kernel_rfl) rfl (fun _ _ _ h => h) (fun w' => ?_) ?_ ?_; rotate_left 2; (focus go_simp; with_reducible rfl); (focus simp only [Act.put, sA_, sZ_, sS_, bA, bS]; rfl))
      refine dn_ ?_
      refine td_ [(7, 46), (8, 47)] ?_
     rotate_left
    rotate_left
    focus
     iterate 2 (refine tn_ (v := ?_) (a' := ?_) HT_ HW_ rfl rfl (by kernel_rfl) rfl (fun _ _ _ h => h) hHeld ?_ ?_ ?_; rotate_left 2; (focus rintro w' ⟨s0, s1, s2, s3, s4, s5⟩; go_simp; with_reducible rfl); (focus simp only [Act.put, sA_, sZ_, sS_, bA, bS]; rfl))
    rotate_left
    iterate 2
     focus
      iterate 2 (refine tn_ (v := ?_) (a' := ?_) HT_ HW_ rfl rfl (by kernel_rfl) rfl (fun _ _ _ h => h) hHeld ?_ ?_ ?_; rotate_left 2; (focus rintro w' ⟨s0, s1, s2, s3, s4, s5, s6, s7, s8⟩; go_simp; with_reducible rfl); (focus simp only [Act.put, sA_, sZ_, sS_, bA, bS]; rfl))
     rotate_left
    focus
     iterate 2 (refine tn_ (v := ?_) (a' := ?_) HT_ HW_ rfl rfl (by kernel_rfl) rfl (fun _ _ _ h => h) hHeld ?_ ?_ ?_; rotate_left 2; (focus rintro w' ⟨s0, s1, s2, s3, s4, s5⟩; go_simp; with_reducible rfl); (focus simp only [Act.put, sA_, sZ_, sS_, bA, bS]; rfl))
    rotate_left
    rotate_left
    iterate 4
     focus
      refine dn_ ?_
      refine lY (i := 9) (N := some 48) (ls 24 1023) rfl rfl (iK HT_.out (by kernel_rfl)) (by decide) (fun K hK => ?_)
      refine mW Tryz.func44 (by kernel_rfl) rfl #[.string ((aj t111 0).f0), .string a0] (by rfl) rfl rfl (by (try simp only [mA_, mC_, mN_]); rfl) ?_
      with_reducible refine (dG.calls ((aj t111 0).f0) a0 _ _ A62.out).mono ?_
      rintro e w87 ⟨rfl, hb⟩
     rotate_left
    rotate_left
    focus
     have HS1_ := kp_ hb hHeld.2.1
     have HS2_ := kp_ hb hHeld.2.2.1
     have HS3_ := kp_ hb hHeld.2.2.2.1
     have HS4_ := kp_ hb hHeld.2.2.2.2.1
     have HS5_ := kp_ hb hHeld.2.2.2.2.2
    rotate_left
    iterate 2
     focus
      have HS4_ := kp_ hb hHeld.2.2.2.2.1
      have HS5_ := kp_ hb hHeld.2.2.2.2.2.1
      have HS6_ := kp_ hb hHeld.2.2.2.2.2.2.1
      have HS7_ := kp_ hb hHeld.2.2.2.2.2.2.2.1
      have HS8_ := kp_ hb hHeld.2.2.2.2.2.2.2.2
     rotate_left
    focus
     have HS1_ := kp_ hb hHeld.2.1
     have HS2_ := kp_ hb hHeld.2.2.1
     have HS3_ := kp_ hb hHeld.2.2.2.1
     have HS4_ := kp_ hb hHeld.2.2.2.2.1
     have HS5_ := kp_ hb hHeld.2.2.2.2.2
    rotate_left
    rotate_left
    iterate 4
     focus
      refine ⟨_, rfl, ?_⟩
      replace HO109 := ah.mk (Kd.bI (by ((exact HO109.out))) hb)
      replace HO113 := ah.mk (Kd.bI (by ((exact HO113.out))) hb)
      replace HO116 := ah.mk (Kd.bI (by ((exact HO116.out))) hb)
      replace BK103 := ah.mk (aD (by ((exact BK103.out))) hb)
      replace BK104 := ah.mk (aD (by ((exact BK104.out))) hb)
      replace BK110 := ah.mk (aD (by ((exact BK110.out))) hb)
      replace HB := ah.mk (ak HB.out hb)
      (try clear hb)
     rotate_left
    rotate_left
    iterate 3
     focus
      obtain ⟨Ao88, co88, eo88⟩ := Kd.bO HO116.out
      ((subst eo88))
     rotate_left
    rotate_left 2
    focus
     refine hK.out _ _ (c1_ BK103.out (ec_ HS1_ (ec_ HS2_ (ec_ HS3_ (ec_ HS4_ (ed_ HS5_)))))) (fun hHeld => ?_)
    rotate_left
    iterate 2
     focus
      refine hK.out _ _ (c1_ BK103.out (c3_ BK110.out (ec_ HS4_ (ec_ HS5_ (ec_ HS6_ (ec_ HS7_ (ed_ HS8_))))))) (fun hHeld => ?_)
     rotate_left
    focus
     refine hK.out _ _ (c1_ BK103.out (ec_ HS1_ (ec_ HS2_ (ec_ HS3_ (ec_ HS4_ (ed_ HS5_)))))) (fun hHeld => ?_)
    rotate_left
    rotate_left
    iterate 4
     focus
      clear hK K
      refine jE (a' := ?_) ?_ ?_
      rotate_left
      ·show Act.put _ (some 48) _ = _
       simp only [Act.put, sA_, sZ_, sS_, bA, bS]
       rfl
     rotate_left
    rotate_left
    focus
     refine td_ [(10, 49), (11, 50), (12, 51), (13, 52), (14, 53), (15, 54), (16, 55), (17, 56)] ?_
     iterate 8 (refine pn_ (v := ?_) (a' := ?_) HT_ rfl rfl (by kernel_rfl) rfl (fun _ _ _ h => h) (fun w' => ?_) ?_ ?_; rotate_left 2; (focus go_simp; with_reducible rfl); (focus simp only [Act.put, sA_, sZ_, sS_, bA, bS]; rfl))
     refine dn_ ?_
     refine td_ [(18, 57), (19, 58), (20, 59), (21, 60)] ?_
     iterate 4 (refine on_ (a' := ?_) HT_ rfl rfl (by kernel_rfl) rfl (fun _ _ _ h => h) ?_ ?_; rotate_left; (focus simp only [Act.put, sA_, sZ_, sS_, bA, bS]; rfl))
     refine dn_ ?_
     refine td_ [(22, 61), (23, 38)] ?_
     iterate 2 (refine pn_ (v := ?_) (a' := ?_) HT_ rfl rfl (by kernel_rfl) rfl (fun _ _ _ h => h) (fun w' => ?_) ?_ ?_; rotate_left 2; (focus go_simp; with_reducible rfl); (focus simp only [Act.put, sA_, sZ_, sS_, bA, bS]; rfl))
    rotate_left
    iterate 2
     focus
      refine td_ [(10, 49), (11, 50), (12, 51), (13, 52), (14, 53), (15, 54), (16, 55), (17, 56), (18, 57)] ?_
      iterate 9 (refine pn_ (v := ?_) (a' := ?_) HT_ rfl rfl (by kernel_rfl) rfl (fun _ _ _ h => h) (fun w' => ?_) ?_ ?_; rotate_left 2; (focus go_simp; with_reducible rfl); (focus simp only [Act.put, sA_, sZ_, sS_, bA, bS]; rfl))
      refine dn_ ?_
      refine td_ [(19, 58)] ?_
      iterate 1 (refine tn_ (v := ?_) (a' := ?_) HT_ HW_ rfl rfl (by kernel_rfl) rfl (fun _ _ _ h => h) hHeld ?_ ?_ ?_; rotate_left 2; (focus rintro w' ⟨s0, s1, s2, s3, s4, s5, s6, s7, s8⟩; go_simp; with_reducible rfl); (focus simp only [Act.put, sA_, sZ_, sS_, bA, bS]; rfl))
      refine dn_ ?_
      refine lY (i := 20) (N := some 59) (ls 24 2097151) rfl rfl (iK HT_.out (by kernel_rfl)) (by decide) (fun K hK => ?_)
      refine mW Tryz.func45 (by kernel_rfl) rfl #[.slice Ao26 t107.length co26] (by rfl) rfl rfl (by (try simp only [mA_, mC_, mN_]); rfl) ?_
      with_reducible refine (bY.calls kj2 _ _ t107 _ _ ?side1 ?side2 A90.out).mono ?_
      (case side1 => repeat ((exact (Kd.aN HO109.out).2.2)))
      (case side2 => exact (Kd.aN HO109.out).2.1)
      rintro e w117 ⟨rfl, hb⟩
      have HS4_ := kp_ hb hHeld.2.2.2.2.1
      have HS5_ := kp_ hb hHeld.2.2.2.2.2.1
      have HS6_ := kp_ hb hHeld.2.2.2.2.2.2.1
      have HS7_ := kp_ hb hHeld.2.2.2.2.2.2.2.1
      have HS8_ := kp_ hb hHeld.2.2.2.2.2.2.2.2
      refine ⟨_, rfl, ?_⟩
      replace HO109 := ah.mk (Kd.bI (by ((exact HO109.out))) hb)
      replace HO113 := ah.mk (Kd.bI (by ((exact HO113.out))) hb)
      replace HO116 := ah.mk (Kd.bI (by ((exact HO116.out))) hb)
      replace BK103 := ah.mk (aD (by ((exact BK103.out))) hb)
      replace BK104 := ah.mk (aD (by ((exact BK104.out))) hb)
      replace BK110 := ah.mk (aD (by ((exact BK110.out))) hb)
      replace HB := ah.mk (ak HB.out hb)
      (try clear hb)
      refine hK.out _ _ (c1_ BK103.out (c3_ BK110.out (ec_ HS4_ (ec_ HS5_ (ec_ HS6_ (ec_ HS7_ (ed_ HS8_))))))) (fun hHeld => ?_)
      clear hK K
      refine jE (a' := ?_) ?_ ?_
      rotate_left
      ·show Act.put _ (some 59) _ = _
       simp only [Act.put, sA_, sZ_, sS_, bA, bS]
       rfl
      refine td_ [(21, 60), (22, 61), (23, 38)] ?_
      iterate 3 (refine pn_ (v := ?_) (a' := ?_) HT_ rfl rfl (by kernel_rfl) rfl (fun _ _ _ h => h) (fun w' => ?_) ?_ ?_; rotate_left 2; (focus go_simp; with_reducible rfl); (focus simp only [Act.put, sA_, sZ_, sS_, bA, bS]; rfl))
     rotate_left
    focus
     refine td_ [(10, 49), (11, 50), (12, 51)] ?_
     iterate 3 (refine pn_ (v := ?_) (a' := ?_) HT_ rfl rfl (by kernel_rfl) rfl (fun _ _ _ h => h) (fun w' => ?_) ?_ ?_; rotate_left 2; (focus go_simp; with_reducible rfl); (focus simp only [Act.put, sA_, sZ_, sS_, bA, bS]; rfl))
     refine dn_ ?_
     refine td_ [(13, 52), (14, 53), (15, 54)] ?_
     iterate 3 (refine on_ (a' := ?_) HT_ rfl rfl (by kernel_rfl) rfl (fun _ _ _ h => h) ?_ ?_; rotate_left; (focus simp only [Act.put, sA_, sZ_, sS_, bA, bS]; rfl))
     refine dn_ ?_
     refine td_ [(16, 55), (17, 56)] ?_
     iterate 2 (refine pn_ (v := ?_) (a' := ?_) HT_ rfl rfl (by kernel_rfl) rfl (fun _ _ _ h => h) (fun w' => ?_) ?_ ?_; rotate_left 2; (focus go_simp; with_reducible rfl); (focus simp only [Act.put, sA_, sZ_, sS_, bA, bS]; rfl))
     refine dn_ ?_
     refine td_ [(18, 57), (19, 58), (20, 59), (21, 60)] ?_
     iterate 4 (refine on_ (a' := ?_) HT_ rfl rfl (by kernel_rfl) rfl (fun _ _ _ h => h) ?_ ?_; rotate_left; (focus simp only [Act.put, sA_, sZ_, sS_, bA, bS]; rfl))
     refine dn_ ?_
     refine td_ [(22, 61), (23, 38)] ?_
     iterate 2 (refine pn_ (v := ?_) (a' := ?_) HT_ rfl rfl (by kernel_rfl) rfl (fun _ _ _ h => h) (fun w' => ?_) ?_ ?_; rotate_left 2; (focus go_simp; with_reducible rfl); (focus simp only [Act.put, sA_, sZ_, sS_, bA, bS]; rfl))
    rotate_left
    focus
     refine gG (n := 24) (S := fun w' => True) (ds := []) (ls 24 0) (by kernel_rfl) rfl rfl trivial (fun hHeld => ?_); refine eX cB.yS cB.uM (fun HT_ HW_ => ?_)
     generalize w84.drew = w193 at HO109 HO113 HO116 BK103 BK104 BK110 HB hHeld ⊢
     refine td_ [(0, 39), (1, 40), (2, 41), (3, 42)] ?_
     iterate 4 (refine pn_ (v := ?_) (a' := ?_) HT_ rfl rfl (by kernel_rfl) rfl (fun _ _ _ h => h) (fun w' => ?_) ?_ ?_; rotate_left 2; (focus go_simp; with_reducible rfl); (focus simp only [Act.put, sA_, sZ_, sS_, bA, bS]; rfl))
     refine dn_ ?_
     refine td_ [(4, 43), (5, 44), (6, 45), (7, 46), (8, 47), (9, 48), (10, 49)] ?_
     iterate 7 (refine on_ (a' := ?_) HT_ rfl rfl (by kernel_rfl) rfl (fun _ _ _ h => h) ?_ ?_; rotate_left; (focus simp only [Act.put, sA_, sZ_, sS_, bA, bS]; rfl))
     refine dn_ ?_
     refine td_ [(11, 50), (12, 51)] ?_
     iterate 2 (refine pn_ (v := ?_) (a' := ?_) HT_ rfl rfl (by kernel_rfl) rfl (fun _ _ _ h => h) (fun w' => ?_) ?_ ?_; rotate_left 2; (focus go_simp; with_reducible rfl); (focus simp only [Act.put, sA_, sZ_, sS_, bA, bS]; rfl))
     refine dn_ ?_
     refine td_ [(13, 52), (14, 53), (15, 54)] ?_
     iterate 3 (refine on_ (a' := ?_) HT_ rfl rfl (by kernel_rfl) rfl (fun _ _ _ h => h) ?_ ?_; rotate_left; (focus simp only [Act.put, sA_, sZ_, sS_, bA, bS]; rfl))
     refine dn_ ?_
     refine td_ [(16, 55), (17, 56)] ?_
     iterate 2 (refine pn_ (v := ?_) (a' := ?_) HT_ rfl rfl (by kernel_rfl) rfl (fun _ _ _ h => h) (fun w' => ?_) ?_ ?_; rotate_left 2; (focus go_simp; with_reducible rfl); (focus simp only [Act.put, sA_, sZ_, sS_, bA, bS]; rfl))
     refine dn_ ?_
     refine td_ [(18, 57), (19, 58), (20, 59), (21, 60)] ?_
     iterate 4 (refine on_ (a' := ?_) HT_ rfl rfl (by kernel_rfl) rfl (fun _ _ _ h => h) ?_ ?_; rotate_left; (focus simp only [Act.put, sA_, sZ_, sS_, bA, bS]; rfl))
     refine dn_ ?_
     refine td_ [(22, 61), (23, 38)] ?_
     iterate 2 (refine pn_ (v := ?_) (a' := ?_) HT_ rfl rfl (by kernel_rfl) rfl (fun _ _ _ h => h) (fun w' => ?_) ?_ ?_; rotate_left 2; (focus go_simp; with_reducible rfl); (focus simp only [Act.put, sA_, sZ_, sS_, bA, bS]; rfl))
    rotate_left
    all_goals
     refine dn_ ?_
     refine jJ (iZ HT_.out (by kernel_rfl)) ?_
    focus
     obtain ⟨hcz89_0, hcz89_1, hcz89_2⟩ := d3_ BK104.out
    rotate_left
    focus
     (try go_wp2)
     replace HO109 := ah.mk (Kd.fU HO109.out)
     replace HO113 := ah.mk (Kd.fU HO113.out)
     replace HO116 := ah.mk (Kd.fU HO116.out)
     replace BK103 := ah.mk (gB BK103.out)
     replace BK104 := ah.mk (gB BK104.out)
     replace BK110 := ah.mk (gB BK110.out)
     replace HB := ah.mk (dx HB.out)
     have p121 : 0 ≤ (0 : Int) := (by omega)
     have q121 : 0 < (t111.length : Int) := of_decide_eq_true (by assumption)
     obtain ⟨ad121, e121, hx121_0, hx121_1, hx121_2, hx121_3, hx121_4⟩ := dM (Kd.aN HO113.out).2.2 0 p121 q121
     obtain rfl : ad118 = ad121 := (by injection e121)
     have qi121 : (0 < t111.length) = True := eq_true (by omega)
     (try rw [show ((0 : Int)).toNat = 0 from rfl] at hx121_0)
     (try rw [show 0 * 5 = 0 from rfl] at hx121_0)
     (try rw [Addr.add_zero'] at hx121_0)
     (try rw [show ((0 : Int)).toNat = 0 from rfl] at hx121_1)
     (try rw [show 0 * 5 = 0 from rfl] at hx121_1)
     (try rw [Addr.add_zero'] at hx121_1)
     (try rw [show ((0 : Int)).toNat = 0 from rfl] at hx121_2)
     (try rw [show 0 * 5 = 0 from rfl] at hx121_2)
     (try rw [Addr.add_zero'] at hx121_2)
     (try rw [show ((0 : Int)).toNat = 0 from rfl] at hx121_3)
     (try rw [show 0 * 5 = 0 from rfl] at hx121_3)
     (try rw [Addr.add_zero'] at hx121_3)
     (try rw [show ((0 : Int)).toNat = 0 from rfl] at hx121_4)
     (try rw [show 0 * 5 = 0 from rfl] at hx121_4)
     (try rw [Addr.add_zero'] at hx121_4)
     replace p121 := eq_true p121
     replace q121 := eq_true q121
     refine gG (n := 8) (ds := [7]) (ls 8 0) (by kernel_rfl) rfl rfl (c3_ BK110.out (ec_ hx121_0 (ec_ hx121_1 (ec_ hx121_2 (ec_ hx121_3 (ed_ hx121_4)))))) (fun hHeld => ?_); refine eX cB.Cc cB.zk (fun HT_ HW_ => ?_)
     generalize w117.drew = w118 at HO109 HO113 HO116 BK103 BK104 BK110 HB hx121_0 hx121_1 hx121_2 hx121_3 hx121_4 hHeld ⊢
     refine td_ [(0, 63), (2, 65), (3, 66)] ?_
     iterate 3 (refine pn_ (v := ?_) (a' := ?_) HT_ rfl rfl (by kernel_rfl) rfl (fun _ _ _ h => h) (fun w' => ?_) ?_ ?_; rotate_left 2; (focus go_simp; with_reducible rfl); (focus simp only [Act.put, sA_, sZ_, sS_, bA, bS]; rfl))
     refine dn_ ?_
     refine td_ [(1, 64), (4, 67)] ?_
     iterate 2 (refine tn_ (v := ?_) (a' := ?_) HT_ HW_ rfl rfl (by kernel_rfl) rfl (fun _ _ _ h => h) hHeld ?_ ?_ ?_; rotate_left 2; (focus rintro w' ⟨s0, s1, s2, s3, s4, s5, s6, s7⟩; go_simp; with_reducible rfl); (focus simp only [Act.put, sA_, sZ_, sS_, bA, bS]; rfl))
     refine dn_ ?_
     refine lY (i := 5) (N := some 68) (ls 8 63) rfl rfl (iK HT_.out (by kernel_rfl)) (by decide) (fun K hK => ?_)
     refine mW Tryz.func46 (by kernel_rfl) rfl #[.slice Ao26 t107.length co26, .agg #[.string ((aj t111 0).f0), .int .i64 ((aj t111 0).f1), .int .i64 ((aj t111 0).f2), .int .i64 ((aj t111 0).f3), .string ((aj t111 0).f4)]] (by rfl) rfl rfl (by (try simp only [mA_, mC_, mN_]); rfl) ?_
     with_reducible refine (gF.calls kj2 _ _ t107 ((aj t111 0).f0) ((aj t111 0).f1) ((aj t111 0).f2) ((aj t111 0).f3) ((aj t111 0).f4) t122 _ ?side1 ?side2 A92.out).mono ?_
     (case side1 => repeat ((exact (Kd.aN HO109.out).2.2)))
     (case side2 => exact (Kd.aN HO109.out).2.1)
     rintro e w119 ⟨rfl, hb⟩
     have HS3_ := kp_ hb hHeld.2.2.2.1
     have HS4_ := kp_ hb hHeld.2.2.2.2.1
     have HS5_ := kp_ hb hHeld.2.2.2.2.2.1
     have HS6_ := kp_ hb hHeld.2.2.2.2.2.2.1
     have HS7_ := kp_ hb hHeld.2.2.2.2.2.2.2
     refine ⟨_, rfl, ?_⟩
     replace HO109 := ah.mk (Kd.bI (by ((exact HO109.out))) hb)
     replace HO113 := ah.mk (Kd.bI (by ((exact HO113.out))) hb)
     replace HO116 := ah.mk (Kd.bI (by ((exact HO116.out))) hb)
     replace BK103 := ah.mk (aD (by ((exact BK103.out))) hb)
     replace BK104 := ah.mk (aD (by ((exact BK104.out))) hb)
     replace BK110 := ah.mk (aD (by ((exact BK110.out))) hb)
     replace HB := ah.mk (ak HB.out hb)
     (try clear hb)
     refine hK.out _ _ (c3_ BK110.out (ec_ HS3_ (ec_ HS4_ (ec_ HS5_ (ec_ HS6_ (ed_ HS7_)))))) (fun hHeld => ?_)
     clear hK K
     refine jE (a' := ?_) ?_ ?_
     rotate_left
     ·show Act.put _ (some 68) _ = _
      simp only [Act.put, sA_, sZ_, sS_, bA, bS]
      rfl
     refine td_ [(6, 69)] ?_
     iterate 1 (refine pn_ (v := ?_) (a' := ?_) HT_ rfl rfl (by kernel_rfl) rfl (fun _ _ _ h => h) (fun w' => ?_) ?_ ?_; rotate_left 2; (focus go_simp; with_reducible rfl); (focus simp only [Act.put, sA_, sZ_, sS_, bA, bS]; rfl))
     refine dn_ ?_
     refine lN (i := 7) (N := none) (ls 8 255) rfl rfl (iK HT_.out (by kernel_rfl)) (by decide) (fun K hK => ?_)
     have hs120 : w119.cell? ⟨gb110, 2, none⟩ = some (.int .i64 0) := (aH BK110.out 2).trans rfl
     have hfs120 := bR BK110.out 2
     have hns120_0 := NB103_110.out
     have hns120_1 := NB104_110.out
     have hms120_0 := NB110_103.out
     have hms120_1 := NB110_104.out
     refine kZ (w1 := ?_) (by rfl) rfl ?_ ?_
     rotate_left
     ·go_simp
      rfl
     refine hK.out _ _ ?_
     clear hK K
     refine jJ (iZ HT_.out (by kernel_rfl)) ?_
     obtain ⟨hcz121_0, hcz121_1, hcz121_2, hfz121_0, hfz121_1, hfz121_2⟩ := z3_ BK110.out
     obtain ⟨hcz122_0, hcz122_1, hcz122_2⟩ := d3_ BK104.out
    rotate_left
    focus
     obtain ⟨hcz148_0, hcz148_1, hcz148_2⟩ := d3_ BK104.out
    rotate_left
    focus
     obtain ⟨hcz172_0, hcz172_1, hcz172_2⟩ := d3_ BK104.out
    rotate_left
    focus
     obtain ⟨hcz195_0, hcz195_1, hcz195_2⟩ := d3_ BK104.out
    rotate_left
    all_goals
     have hfz89_0 := bR BK104.out 0
     have hfz89_1 := bR BK104.out 1
     have hfz89_2 := bR BK104.out 2
     (try go_wp2)
    ·refine bodyPost_ret (gN rfl _ _ gb104 26 #[.string (⟨#[]⟩ : ByteArray), .slice none 0 0, .int .i64 0] (0, 0) _ rfl (by (with_reducible repeat ((refine aA ?_ _))); refine bH (cs := #[.string (⟨#[]⟩ : ByteArray), .slice none 0 0, .int .i64 0]) ?_ 2 _ rfl; (with_reducible repeat ((refine aA ?_ _))); refine bH (cs := #[.string (⟨#[]⟩ : ByteArray), .slice none 0 0, .int .i64 0]) ?_ 1 _ rfl; (with_reducible repeat ((refine aA ?_ _))); refine bH (cs := #[.string (⟨#[]⟩ : ByteArray), .slice none 0 0, .int .i64 0]) ?_ 0 _ rfl; (with_reducible repeat ((refine aA ?_ _))); exact BK104.out) Tryz.underlying26 rfl (by kernel_rfl)) rfl ?_
     exact ⟨_, by rfl, by (exact Kd.gq _ _ _ _ _), by repeat ((with_reducible first | exact HB.out | refine dN ?_ GE104.out))⟩
    ·refine bodyPost_ret (gN rfl _ _ gb104 26 #[.string a0, .slice Ao26 t107.length co26, .int .i64 t122] (0, 0) _ rfl (by (with_reducible repeat ((refine aA ?_ _))); refine bH (cs := #[.string a0, .slice Ao26 t107.length co26, .int .i64 0]) ?_ 2 _ rfl; (with_reducible repeat ((refine aA ?_ _))); refine bH (cs := #[.string a0, .slice none 0 0, .int .i64 0]) ?_ 1 _ rfl; (with_reducible repeat ((refine aA ?_ _))); refine bH (cs := #[.string (⟨#[]⟩ : ByteArray), .slice none 0 0, .int .i64 0]) ?_ 0 _ rfl; (with_reducible repeat ((refine aA ?_ _))); refine fO ?_ NB104_110.out _; (with_reducible repeat ((refine aA ?_ _))); exact BK104.out) Tryz.underlying26 rfl (by kernel_rfl)) rfl ?_
     exact ⟨_, by rfl, by (with_reducible repeat ((apply Kd.aK))); exact Kd.dH (Kd.gZ (p := ⟨gb104, 2, none⟩) (Kd.gZ (p := ⟨gb104, 1, none⟩) (Kd.gZ (p := ⟨gb104, 0, none⟩) (Kd.gZ (p := ⟨gb110, 2, none⟩) (Kd.jW (Kd.jW HO109.out BK110.out (by decide)) BK104.out (by decide)) (fun _ hk => hk.1.2) (.int .i64 t122)) (fun _ hk => hk.2) (.string a0)) (fun _ hk => hk.2) (.slice Ao26 t107.length co26)) (fun _ hk => hk.2) (.int .i64 t122)) (fun _ hk => trivial), by repeat ((with_reducible first | exact HB.out | refine dN ?_ GE104.out | refine dN ?_ GE110.out))⟩
    ·refine bodyPost_ret (gN rfl _ _ gb104 26 #[.string (⟨#[]⟩ : ByteArray), .slice none 0 0, .int .i64 0] (0, 0) _ rfl (by (with_reducible repeat ((refine aA ?_ _))); refine bH (cs := #[.string (⟨#[]⟩ : ByteArray), .slice none 0 0, .int .i64 0]) ?_ 2 _ rfl; (with_reducible repeat ((refine aA ?_ _))); refine bH (cs := #[.string (⟨#[]⟩ : ByteArray), .slice none 0 0, .int .i64 0]) ?_ 1 _ rfl; (with_reducible repeat ((refine aA ?_ _))); refine bH (cs := #[.string (⟨#[]⟩ : ByteArray), .slice none 0 0, .int .i64 0]) ?_ 0 _ rfl; (with_reducible repeat ((refine aA ?_ _))); exact BK104.out) Tryz.underlying26 rfl (by kernel_rfl)) rfl ?_
     exact ⟨_, by rfl, by (exact Kd.gq _ _ _ _ _), by repeat ((with_reducible first | exact HB.out | refine dN ?_ GE104.out))⟩
    ·refine bodyPost_ret (gN rfl _ _ gb104 26 #[.string (⟨#[]⟩ : ByteArray), .slice none 0 0, .int .i64 0] (0, 0) _ rfl (by (with_reducible repeat ((refine aA ?_ _))); refine bH (cs := #[.string (⟨#[]⟩ : ByteArray), .slice none 0 0, .int .i64 0]) ?_ 2 _ rfl; (with_reducible repeat ((refine aA ?_ _))); refine bH (cs := #[.string (⟨#[]⟩ : ByteArray), .slice none 0 0, .int .i64 0]) ?_ 1 _ rfl; (with_reducible repeat ((refine aA ?_ _))); refine bH (cs := #[.string (⟨#[]⟩ : ByteArray), .slice none 0 0, .int .i64 0]) ?_ 0 _ rfl; (with_reducible repeat ((refine aA ?_ _))); exact BK104.out) Tryz.underlying26 rfl (by kernel_rfl)) rfl ?_
     exact ⟨_, by rfl, by (exact Kd.gq _ _ _ _ _), by repeat ((with_reducible first | exact HB.out | refine dN ?_ GE104.out))⟩
    ·refine bodyPost_ret (gN rfl _ _ gb104 26 #[.string (⟨#[]⟩ : ByteArray), .slice none 0 0, .int .i64 0] (0, 0) _ rfl (by (with_reducible repeat ((refine aA ?_ _))); refine bH (cs := #[.string (⟨#[]⟩ : ByteArray), .slice none 0 0, .int .i64 0]) ?_ 2 _ rfl; (with_reducible repeat ((refine aA ?_ _))); refine bH (cs := #[.string (⟨#[]⟩ : ByteArray), .slice none 0 0, .int .i64 0]) ?_ 1 _ rfl; (with_reducible repeat ((refine aA ?_ _))); refine bH (cs := #[.string (⟨#[]⟩ : ByteArray), .slice none 0 0, .int .i64 0]) ?_ 0 _ rfl; (with_reducible repeat ((refine aA ?_ _))); exact BK104.out) Tryz.underlying26 rfl (by kernel_rfl)) rfl ?_
     exact ⟨_, by rfl, by (exact Kd.gq _ _ _ _ _), by repeat ((with_reducible first | exact HB.out | refine dN ?_ GE104.out))⟩
end Go.Y.PZf
namespace Go.Y.Rrs
open Go.RowKit Go.V.aC Go.V.aV Go.V.aX Go.Y.Given Go.Y.PRd Go.Y.PRr
theorem AB (k : Nat) (x : RR) (n : ByteArray) (b : Bool) (g : Nat) (w : World) (hc : w.cell? ⟨g, 0, none⟩ = some (.string n)) (h : bq.f k x.f0 n = some b) :
  Calls Tryz.prog 55 (#[x.v] ++ #[.pointer (some ⟨g, 0, none⟩)]) w fun e w' => e = .returned (.bool b) ∧ Below w.heap.size w w' := by
 have hu41 := Tryz.underlying44
 have HB := ah.mk (Below.refl w.heap.size w)
 have HC := Lib.hid hc
 have HA := Lib.hid h
 clear hc h
 show Calls Tryz.prog 55 #[.agg #[.string x.f0, .int .i64 x.f1, .int .i64 x.f2, .int .i64 x.f3, .string x.f4], .pointer (some ⟨g, 0, none⟩)] w _
 go_enter Tryz.func55, Tryz.ntmps55
 go_wp2_with (first | ((with_reducible refine bF (N := 2) rfl ?_); refine bQ ?hg (N := 2) ?hd (cs := #[.string x.f0, .int .i64 x.f1, .int .i64 x.f2, .int .i64 x.f3, .string x.f4]) (t := 44) ?hr ?_; (case hd => rfl); (case hg => rfl); (case hr => first | (go_simp; done) | (go_simp; rfl)); intro gb hg w3 hbox hb; have n0_ := ah.mk (ak (HB.out) hb); have n1_ := ah.mk (hbox); clear HB; have HB := n0_; have BK := n1_; have hc3 : w3.cell? ⟨g, 0, none⟩ = some (.string n) := (HB.out.cell (World.block_lt_of_cell? w _ HC.out)).trans HC.out; clear n0_ n1_; clear hb hbox hg; have hcz0 : w3.cell? ⟨gb, 0, none⟩ = some (.string x.f0) := (aH BK.out 0).trans rfl))
 refine (bq.calls k x.f0 n b w3 HA.out).mono ?_
 rintro e w4 ⟨rfl, hb4⟩
 have HB4 := Lib.hid (iI HB.out HB.out.size hb4)
 clear hb4 HB
 go_wp2_with fail
 go_ret
 exact ⟨rfl, HB4.out⟩
end Go.Y.Rrs
namespace Go.Y.Given
open Go.RowKit Go.V.aC Go.V.aV Go.V.aX Go.Y.PRd Go.Y.PRr Go.Y.Rrs
noncomputable def om.f (k : Nat) (l0 : List (S44)) (a1 : ByteArray) : Option Bool := sF (fun x => (bq.f k x.f0 a1).map (!·)) l0
theorem om.calls (k : Nat) (A0 : Option Addr) (c0 : Nat) (l0 : List (S44)) (a1 : ByteArray) (r : Bool) (w : World) (hr0 : Kd.C k44 w A0 l0.length l0) (hc0 : l0.length ≤ c0) (h : om.f k l0 a1 = some r) (g : Nat) (hg : w.cell? ⟨g, 0, none⟩ = some (.string a1)) :
  Calls Tryz.prog 37 #[.slice A0 l0.length c0, .func (.func 55) #[] #[.pointer (some ⟨g, 0, none⟩)]] w fun e w' => e = .returned (.bool r) ∧ Below w.heap.size w w' := by
 obtain ⟨h1, h2, rfl⟩ := rC h
 exact mX l0 (fun x => !((bq.f k x.f0 a1).map (!·)).getD false) h1 55 Tryz.f55 #[.pointer (some ⟨g, 0, none⟩)] Tryz.func55 (by kernel_rfl) rfl A0 c0 w hr0 (fun x hx W hW => by
  obtain ⟨b, hb⟩ := Option.isSome_iff_exists.mp (h2 x hx)
  obtain ⟨c, hc, rfl⟩ := Option.map_eq_some_iff.mp hb
  rw [hb]
  show Calls _ _ _ W fun e w' => e = .returned (.bool (!!c)) ∧ _
  rw [Bool.not_not]
  exact AB k x a1 c g W ((hW.cell (World.block_lt_of_cell? w _ hg)).trans hg) hc)
end Go.Y.Given
namespace Go.Y.PZe
open Go.RowKit Go.V.aC Go.V.aV Go.V.aX Go.Y.Given Go.Y.PRd Go.Y.PRr Go.Y.PZo
attribute [local go_sem] dP dQ eu eB dD dF dR dS   -- for this text's walks alone
def kN : Option Int → Value
 | none => .nilIface
 | some c => .iface 0 (.int .i64 c)
theorem jC : kN none = .nilIface := rfl
theorem jA (c : Int) : kN (some c) = .iface 0 (.int .i64 c) := rfl
end Go.Y.PZe
namespace Go.Y.PZe
open Go.RowKit Go.V.aC Go.V.aV Go.V.aX Go.Y.Given Go.Y.PRd Go.Y.PRr Go.Y.PZo
attribute [local go_sem] dP dQ eu eB dD dF dR dS   -- for this text's walks alone
noncomputable def jq.f (k : Nat) (a0_0 : ByteArray) (l0_1 : List (S44)) (a0_2 : Int) (a1 : ByteArray) : Option (Bool) := (fq.f a0_0 l0_1 a0_2 a1).bind fun t103 => (if t103 = true then (some false) else ((om.f k l0_1 a1).bind fun t104 => (some t104)))
theorem jq.calls (k : Nat) (a0_0 : ByteArray) (A0_1 : Option Addr) (c0_1 : Nat) (l0_1 : List (S44)) (a0_2 : Int) (a1 : ByteArray) (r : Bool) (w : World) (hr0_1 : Kd.C k44 w A0_1 l0_1.length l0_1) (hc0_1 : l0_1.length ≤ c0_1) (h : jq.f k a0_0 l0_1 a0_2 a1 = some r) :
    Calls Tryz.prog 20 #[.agg #[.string a0_0, .slice A0_1 l0_1.length c0_1, .int .i64 a0_2], .string a1] w fun e w' => e = .returned (.bool r) ∧ Below w.heap.size w w' := by
  have hu26 := Tryz.underlying26
  have HR0_1 := ah.mk hr0_1
  have HC0_1 := ah.mk hc0_1
  clear hr0_1 hc0_1
  have HB := ah.mk (Below.refl w.heap.size w)
  have H : ((fq.f a0_0 l0_1 a0_2 a1).bind fun t103 => (if t103 = true then (some false) else ((om.f k l0_1 a1).bind fun t104 => (some t104)))) = some r := h
  clear h
  obtain ⟨t103, A3, H⟩ := bP H
  by_cases c4 : t103 = true
  focus
   subst c4
   rw [if_pos rfl] at H
  rotate_left
  focus
   replace c4 := Bool.eq_false_iff.mpr c4
   subst c4
   rw [if_neg ff_] at H
   obtain ⟨t104, A11, H⟩ := bP H
  rotate_left
  all_goals
   obtain rfl := Option.some.inj H
   go_enter Tryz.func20, Tryz.ntmps20
  focus
   go_wp2_with (first | ((with_reducible refine bF (N := 2) rfl ?_); refine bQ ?hg (N := 2) ?hd (cs := #[.string a0_0, .slice A0_1 l0_1.length c0_1, .int .i64 a0_2]) (t := 26) ?hr ?_; (case hd => rfl); (case hg => rfl); (case hr => (go_simp; done)); intro gb101 hg w5 hbox hb; have BK101 := ah.mk (hbox); have GW101 := ah.mk (ge_ hg (av HB.out)); have GE101 := ah.mk (ge_ hg (av HB.out)); replace HB := ah.mk (ak HB.out hb); clear hb hbox hg) | ((with_reducible refine bF (N := 3) rfl ?_); refine bQ ?hg (N := 3) ?hd (cs := #[.string a1]) (t := 9) ?hr ?_; (case hd => rfl); (case hg => rfl); (case hr => (go_simp; done)); intro gb102 hg w6 hbox hb; have BK102 := ah.mk (hbox); have GW102 := ah.mk (ge_ hg (av HB.out)); have GE102 := ah.mk (ge_ hg (av HB.out)); have NB101_102 := ah.mk (nl_ hg (by ((exact BK101.out)))); have NB102_101 := ah.mk (nr_ hg (by ((exact BK101.out)))); replace BK101 := ah.mk (aD (by ((exact BK101.out))) hb); replace HB := ah.mk (ak HB.out hb); clear hb hbox hg; have hnb7 := NB101_102.out; have hnc7 := NB102_101.out; obtain ⟨hcz8_0, hcz8_1, hcz8_2, hfz8_0, hfz8_1, hfz8_2⟩ := z3_ BK101.out; obtain ⟨hcz9_0, hfz9_0⟩ := z1_ BK102.out) | (refine gl_ (some 7) Tryz.func18 #[.agg #[.string a0_0, .slice A0_1 l0_1.length c0_1, .int .i64 a0_2], .string a1] ?_; (with_reducible refine (fq.calls a0_0 _ _ l0_1 a0_2 a1 _ _ ?side1 ?side2 A3.out).mono ?_); (case side1 => repeat ((exact (Kd.fM HR0_1.out HB.out)))); (case side2 => exact HC0_1.out); rintro e w10 ⟨rfl, hb⟩; refine ⟨_, rfl, ?_⟩; replace BK101 := ah.mk (aD (by ((exact BK101.out))) hb); replace BK102 := ah.mk (aD (by ((exact BK102.out))) hb); replace HB := ah.mk (ak HB.out hb); (try clear hb)))
  rotate_left
  focus
   go_wp2_with (first | ((with_reducible refine bF (N := 2) rfl ?_); refine bQ ?hg (N := 2) ?hd (cs := #[.string a0_0, .slice A0_1 l0_1.length c0_1, .int .i64 a0_2]) (t := 26) ?hr ?_; (case hd => rfl); (case hg => rfl); (case hr => (go_simp; done)); intro gb101 hg w12 hbox hb; have BK101 := ah.mk (hbox); have GW101 := ah.mk (ge_ hg (av HB.out)); have GE101 := ah.mk (ge_ hg (av HB.out)); replace HB := ah.mk (ak HB.out hb); clear hb hbox hg) | ((with_reducible refine bF (N := 3) rfl ?_); refine bQ ?hg (N := 3) ?hd (cs := #[.string a1]) (t := 9) ?hr ?_; (case hd => rfl); (case hg => rfl); (case hr => (go_simp; done)); intro gb102 hg w13 hbox hb; have BK102 := ah.mk (hbox); have GW102 := ah.mk (ge_ hg (av HB.out)); have GE102 := ah.mk (ge_ hg (av HB.out)); have NB101_102 := ah.mk (nl_ hg (by ((exact BK101.out)))); have NB102_101 := ah.mk (nr_ hg (by ((exact BK101.out)))); replace BK101 := ah.mk (aD (by ((exact BK101.out))) hb); replace HB := ah.mk (ak HB.out hb); clear hb hbox hg; have hnb14 := NB101_102.out; have hnc14 := NB102_101.out; obtain ⟨hcz15_0, hcz15_1, hcz15_2, hfz15_0, hfz15_1, hfz15_2⟩ := z3_ BK101.out; obtain ⟨hcz16_0, hfz16_0⟩ := z1_ BK102.out) | (refine gl_ (some 7) Tryz.func18 #[.agg #[.string a0_0, .slice A0_1 l0_1.length c0_1, .int .i64 a0_2], .string a1] ?_; (with_reducible refine (fq.calls a0_0 _ _ l0_1 a0_2 a1 _ _ ?side1 ?side2 A3.out).mono ?_); (case side1 => repeat ((exact (Kd.fM HR0_1.out HB.out)))); (case side2 => exact HC0_1.out); rintro e w17 ⟨rfl, hb⟩; refine ⟨_, rfl, ?_⟩; replace BK101 := ah.mk (aD (by ((exact BK101.out))) hb); replace BK102 := ah.mk (aD (by ((exact BK102.out))) hb); replace HB := ah.mk (ak HB.out hb); (try clear hb); obtain ⟨hcz18_0, hcz18_1, hcz18_2, hfz18_0, hfz18_1, hfz18_2⟩ := z3_ BK101.out; obtain ⟨hcz19_0, hfz19_0⟩ := z1_ BK102.out) | (go_at_call 37; (with_reducible refine (om.calls k _ _ l0_1 a1 t104 _ ?side1 ?side2 A11.out gb102 ?side3).mono ?_); (case side1 => repeat ((exact (Kd.fM HR0_1.out HB.out)))); (case side2 => exact HC0_1.out); (case side3 => (exact (aH BK102.out 0).trans rfl)); rintro e w20 ⟨rfl, hb⟩; replace BK101 := ah.mk (aD (by ((exact BK101.out))) hb); replace BK102 := ah.mk (aD (by ((exact BK102.out))) hb); replace HB := ah.mk (ak HB.out hb); (try clear hb)))
  rotate_left
  all_goals
   go_ret
   exact ⟨by rfl, HB.out⟩
end Go.Y.PZe
namespace Go.Y.PZh
open Go.RowKit Go.V.aC Go.V.aV Go.V.aX Go.Y.Given Go.Y.PRd Go.Y.PRr Go.Y.PZo Go.Y.PZf Go.Y.PZe
attribute [local go_sem] dP dQ eu eB dD dF dR dS   -- for this text's walks alone
def kN : Option Int → Value
 | none => .nilIface
 | some c => .iface 0 (.int .i64 c)
theorem jC : kN none = .nilIface := rfl
theorem jA (c : Int) : kN (some c) = .iface 0 (.int .i64 c) := rfl
end Go.Y.PZh
namespace Go.Y.PZh
open Go.RowKit Go.V.aC Go.V.aV Go.V.aX Go.Y.Given Go.Y.PRd Go.Y.PRr Go.Y.PZo Go.Y.PZf Go.Y.PZe
attribute [local go_sem] dP dQ eu eB dD dF dR dS   -- for this text's walks alone
noncomputable def jI.f (a0_0 : ByteArray) (l0_1 : List (S44)) (a0_2 : Int) : Option (ByteArray) := some a0_0
theorem jI.calls (a0_0 : ByteArray) (A0_1 : Option Addr) (c0_1 : Nat) (l0_1 : List (S44)) (a0_2 : Int) (r : ByteArray) (w : World) (hr0_1 : Kd.C k44 w A0_1 l0_1.length l0_1) (hc0_1 : l0_1.length ≤ c0_1) (h : jI.f a0_0 l0_1 a0_2 = some r) :
  Calls Tryz.prog 28 #[.agg #[.string a0_0, .slice A0_1 l0_1.length c0_1, .int .i64 a0_2]] w fun e w' => e = .returned (.string r) ∧ Below w.heap.size w w' := by
 have hu26 := Tryz.underlying26
 have HR0_1 := ah.mk hr0_1
 have HC0_1 := ah.mk hc0_1
 clear hr0_1 hc0_1
 have HB := ah.mk (Below.refl w.heap.size w)
 have H : (some a0_0) = some r := h
 clear h
 obtain rfl := Option.some.inj H
 go_enter Tryz.func28, Tryz.ntmps28
 go_wp2_with ((((with_reducible refine bF (N := 1) rfl ?_); refine bQ ?hg (N := 1) ?hd (cs := #[.string a0_0, .slice A0_1 l0_1.length c0_1, .int .i64 a0_2]) (t := 26) ?hr ?_; (case hd => rfl); (case hg => rfl); (case hr => (go_simp; done)); intro gb101 hg w2 hbox hb; have BK101 := ah.mk (hbox); have GW101 := ah.mk (ge_ hg (av HB.out)); have GE101 := ah.mk (ge_ hg (av HB.out)); replace HB := ah.mk (ak HB.out hb); clear hb hbox hg; obtain ⟨hcz3_0, hcz3_1, hcz3_2, hfz3_0, hfz3_1, hfz3_2⟩ := z3_ BK101.out)))
 go_ret
 exact ⟨by rfl, HB.out⟩
noncomputable def iY.f  : Option ((List (S44))) := some (([(⟨(⟨#[1, 97, 0]⟩ : ByteArray), 2, 1, 0, (⟨#[1, 110, 1, 97, 0]⟩ : ByteArray)⟩ : S44), (⟨(⟨#[1, 97, 0]⟩ : ByteArray), 6, 1, 0, (⟨#[1, 110, 1, 97, 0, 0, 0, 0, 0, 1, 0, 0, 0, 2, 0, 0, 0, 3, 0, 0, 0, 4, 0, 0, 0, 5]⟩ : ByteArray)⟩ : S44)] : List (S44)))
theorem iY.calls  (r : List (S44)) (w : World) (h : iY.f  = some r) :
  Calls Tryz.prog 35 #[] w fun e w' => ∃ v0_ : Value, e = .returned (v0_) ∧ Kd.R k44 44 w' w.heap.size (fun _ => True) v0_ r ∧ Below w.heap.size w w' := by
 have hu44 := Tryz.underlying44
 have HB := ah.mk (Below.refl w.heap.size w)
 have H : (some (([(⟨(⟨#[1, 97, 0]⟩ : ByteArray), 2, 1, 0, (⟨#[1, 110, 1, 97, 0]⟩ : ByteArray)⟩ : S44), (⟨(⟨#[1, 97, 0]⟩ : ByteArray), 6, 1, 0, (⟨#[1, 110, 1, 97, 0, 0, 0, 0, 0, 1, 0, 0, 0, 2, 0, 0, 0, 3, 0, 0, 0, 4, 0, 0, 0, 5]⟩ : ByteArray)⟩ : S44)] : List (S44)))) = some r := h
 clear h
 obtain ⟨y102, hy102⟩ : ∃ y_ : List (S44), y_ = (([(⟨(⟨#[1, 97, 0]⟩ : ByteArray), 2, 1, 0, (⟨#[1, 110, 1, 97, 0]⟩ : ByteArray)⟩ : S44), (⟨(⟨#[1, 97, 0]⟩ : ByteArray), 6, 1, 0, (⟨#[1, 110, 1, 97, 0, 0, 0, 0, 0, 1, 0, 0, 0, 2, 0, 0, 0, 3, 0, 0, 0, 4, 0, 0, 0, 5]⟩ : ByteArray)⟩ : S44)] : List (S44))) := ⟨_, rfl⟩
 replace H : (some y102) = some r := by (rw [hy102]; with_reducible exact H)
 have Ny102 := ah.mk hy102
 clear hy102
 obtain rfl := Option.some.inj H
 go_enter Tryz.func35, Tryz.ntmps35
 go_wp2_with ((((with_reducible refine bF (N := 3) rfl ?_); refine Kd.mG k44 _ 44 ?hg (N := 3) ?hd (xs := ([(⟨(⟨#[1, 97, 0]⟩ : ByteArray), 2, 1, 0, (⟨#[1, 110, 1, 97, 0]⟩ : ByteArray)⟩ : S44), (⟨(⟨#[1, 97, 0]⟩ : ByteArray), 6, 1, 0, (⟨#[1, 110, 1, 97, 0, 0, 0, 0, 0, 1, 0, 0, 0, 2, 0, 0, 0, 3, 0, 0, 0, 4, 0, 0, 0, 5]⟩ : ByteArray)⟩ : S44)] : List (S44))) (inner := [.string (⟨#[1, 97, 0]⟩ : ByteArray), .int .i64 2, .int .i64 1, .int .i64 0, .string (⟨#[1, 110, 1, 97, 0]⟩ : ByteArray), .string (⟨#[1, 97, 0]⟩ : ByteArray), .int .i64 6, .int .i64 1, .int .i64 0, .string (⟨#[1, 110, 1, 97, 0, 0, 0, 0, 0, 1, 0, 0, 0, 2, 0, 0, 0, 3, 0, 0, 0, 4, 0, 0, 0, 5]⟩ : ByteArray)]) (ok := fun _ => True) (okp := fun _ => True) ?hr ?hp (fun _ hk => hk) trivial (Below.refl _ _) (Nat.le_refl _) (by simp) ?_; (case hd => rfl); (case hg => rfl); (case hr => (go_simp; done)); (case hp => exact (bW.c5 (show Kd.M k44 _ _ _ (⟨(⟨#[1, 97, 0]⟩ : ByteArray), 2, 1, 0, (⟨#[1, 110, 1, 97, 0]⟩ : ByteArray)⟩ : S44) [.string (⟨#[1, 97, 0]⟩ : ByteArray), .int .i64 2, .int .i64 1, .int .i64 0, .string (⟨#[1, 110, 1, 97, 0]⟩ : ByteArray)] from (iy _ _ _ (⟨(⟨#[1, 97, 0]⟩ : ByteArray), 2, 1, 0, (⟨#[1, 110, 1, 97, 0]⟩ : ByteArray)⟩ : S44) )) (bW.c5 (show Kd.M k44 _ _ _ (⟨(⟨#[1, 97, 0]⟩ : ByteArray), 6, 1, 0, (⟨#[1, 110, 1, 97, 0, 0, 0, 0, 0, 1, 0, 0, 0, 2, 0, 0, 0, 3, 0, 0, 0, 4, 0, 0, 0, 5]⟩ : ByteArray)⟩ : S44) [.string (⟨#[1, 97, 0]⟩ : ByteArray), .int .i64 6, .int .i64 1, .int .i64 0, .string (⟨#[1, 110, 1, 97, 0, 0, 0, 0, 0, 1, 0, 0, 0, 2, 0, 0, 0, 3, 0, 0, 0, 4, 0, 0, 0, 5]⟩ : ByteArray)] from (iy _ _ _ (⟨(⟨#[1, 97, 0]⟩ : ByteArray), 6, 1, 0, (⟨#[1, 110, 1, 97, 0, 0, 0, 0, 0, 1, 0, 0, 0, 2, 0, 0, 0, 3, 0, 0, 0, 4, 0, 0, 0, 5]⟩ : ByteArray)⟩ : S44) )) (bW.none _ _)))); intro v103 w1 ho2 hb hg_ hnew_; clear hg_ hnew_; ((rw [← Ny102.out] at ho2)); have HO104 := ah.mk (Kd.bZ ho2 (av HB.out)); replace HB := ah.mk (ak HB.out hb); clear hb ho2)))
 go_ret
 exact ⟨_, by rfl, by (with_reducible repeat ((apply Kd.aK))); exact HO104.out, HB.out⟩
noncomputable def fB.f (k : Nat)  : Option (Bool) := (iY.f).bind fun t105 => ((cB.f k (⟨#[1, 97, 0]⟩ : ByteArray) t105).bind fun bt108 => (if bt108.2.2.2 = 0 then ((jI.f bt108.1 bt108.2.1 bt108.2.2.1).bind fun t115 => (if t115.toList = ([1, 97, 0] : List UInt8) then ((jy.f bt108.1 bt108.2.1 bt108.2.2.1).bind fun t116 => (if (t116.length : Int) = 2 then ((fq.f bt108.1 bt108.2.1 bt108.2.2.1 (⟨#[1, 65, 0]⟩ : ByteArray)).bind fun t119 => (some t119)) else (none))) else (none))) else (none)))
theorem fB.calls (k : Nat)  (r : Bool) (w : World) (h : fB.f k  = some r) :
  Calls Tryz.prog 9 #[] w fun e w' => e = .returned (.bool r) ∧ Below w.heap.size w w' := by
 have hu26 := Tryz.underlying26
 have HB := ah.mk (Below.refl w.heap.size w)
 have H : ((iY.f).bind fun t105 => ((cB.f k (⟨#[1, 97, 0]⟩ : ByteArray) t105).bind fun bt108 => (if bt108.2.2.2 = 0 then ((jI.f bt108.1 bt108.2.1 bt108.2.2.1).bind fun t115 => (if t115.toList = ([1, 97, 0] : List UInt8) then ((jy.f bt108.1 bt108.2.1 bt108.2.2.1).bind fun t116 => (if (t116.length : Int) = 2 then ((fq.f bt108.1 bt108.2.1 bt108.2.2.1 (⟨#[1, 65, 0]⟩ : ByteArray)).bind fun t119 => (some t119)) else (none))) else (none))) else (none)))) = some r := h
 clear h
 obtain ⟨t105, A1, H⟩ := bP H
 replace H := Option.bind_eq_some_iff.mp H
 obtain ⟨⟨t108, t109, t112, t113⟩, A20, H⟩ := H
 replace H : (if t113 = 0 then ((jI.f t108 t109 t112).bind fun t115 => (if t115.toList = ([1, 97, 0] : List UInt8) then ((jy.f t108 t109 t112).bind fun t116 => (if (t116.length : Int) = 2 then ((fq.f t108 t109 t112 (⟨#[1, 65, 0]⟩ : ByteArray)).bind fun t119 => (some t119)) else (none))) else (none))) else (none)) = some r := H
 have A2 := ah.mk A20
 clear A20
 obtain ⟨c3, H⟩ := gd_ H
 have c3b0 : (t113 == 0) = true := beq_iff_eq.mpr c3
 have c3b1 : (t113 != 0) = false := bne_eq_false_iff_eq.mpr c3
 clear c3
 obtain ⟨t115, A4, H⟩ := bP H
 obtain ⟨c5, H⟩ := gd_ H
 have c5b0 : (t115.toList == ([1, 97, 0] : List UInt8)) = true := beq_iff_eq.mpr c5
 have c5b1 : (t115.toList != ([1, 97, 0] : List UInt8)) = false := bne_eq_false_iff_eq.mpr c5
 clear c5
 obtain ⟨t116, A6, H⟩ := bP H
 obtain ⟨c7, H⟩ := gd_ H
 have c7b0 : ((t116.length : Int) == 2) = true := beq_iff_eq.mpr c7
 have c7b1 : ((t116.length : Int) != 2) = false := bne_eq_false_iff_eq.mpr c7
 clear c7
 obtain ⟨t119, A8, H⟩ := bP H
 obtain rfl := Option.some.inj H
 go_enter Tryz.func9, Tryz.ntmps9
 go_wp2_with (first | ((with_reducible refine dA (f := 35) rfl ?_); refine fC (some 4) rfl rfl Tryz.func35 (by kernel_rfl) rfl #[] rfl (by (try simp only [List.map_toArray, List.map_cons, List.map_nil]); done) ?_; (with_reducible refine (iY.calls  t105 _ A1.out).mono ?_); rintro e w9 ⟨v106, rfl, ho0, hb⟩; refine ⟨_, rfl, ?_⟩; have HO107 := ah.mk (Kd.bZ ho0 (av HB.out)); replace HB := ah.mk (ak HB.out hb); (try clear hb); (try clear ho0); obtain ⟨Ao10, co10, eo10⟩ := Kd.bO HO107.out; subst eo10) | ((with_reducible refine dA (f := 11) rfl ?_); refine fC (some 5) rfl rfl Tryz.func11 (by kernel_rfl) rfl #[.string (⟨#[1, 97, 0]⟩ : ByteArray), .slice Ao10 t105.length co10] rfl (by (try simp only [mA_, mC_, mN_]); rfl) ?_; (with_reducible refine (cB.calls k (⟨#[1, 97, 0]⟩ : ByteArray) _ _ t105 t108 t109 t112 t113 _ ?side1 ?side2 A2.out).mono ?_); (case side1 => repeat ((exact (Kd.aN HO107.out).2.2))); (case side2 => exact (Kd.aN HO107.out).2.1); rintro e w11 ⟨v110, rfl, ho0, hb⟩; refine ⟨_, rfl, ?_⟩; have HO111 := ah.mk (Kd.bZ (Kd.iB ho0 (Kd.jO (by ((exact HO107.out))))) (av HB.out)); replace HO107 := ah.mk (Kd.fI (by ((exact HO107.out))) (Kd.iC ho0) hb); replace HB := ah.mk (ak HB.out hb); (try clear hb); (try clear ho0)) | ((with_reducible refine bF (N := 1) rfl ?_); (try (refine fA (by rfl) ?_; dsimp only)); refine bQ ?hg (N := 1) ?hd (cs := #[.string (⟨#[]⟩ : ByteArray), .slice none 0 0, .int .i64 0]) (t := 26) ?hr ?_; (case hd => rfl); (case hg => rfl); (case hr => (go_simp; done)); intro gb114 hg w12 hbox hb; have BK114 := ah.mk (hbox); have GW114 := ah.mk (ge_ hg (av HB.out)); have GE114 := ah.mk (ge_ hg (av HB.out)); replace HO107 := ah.mk (Kd.bI (by ((exact HO107.out))) hb); replace HO111 := ah.mk (Kd.bI (by ((exact HO111.out))) hb); replace HB := ah.mk (ak HB.out hb); clear hb hbox hg; obtain ⟨hcz13_0, hcz13_1, hcz13_2, hfz13_0, hfz13_1, hfz13_2⟩ := z3_ BK114.out; obtain ⟨Ao14, co14, eo14⟩ := Kd.bO HO111.out; subst eo14) | (go_at_call 28; (with_reducible refine (jI.calls t108 _ _ t109 t112 t115 _ ?side1 ?side2 A4.out).mono ?_); (case side1 => refine (Kd.aN (e := 44) (base := w.heap.size) (ok := fun k_ => (True ∧ some k_ ≠ (.slice Ao10 t105.length co10 : Value).ownBlock)) (n := t109.length) (c := co14) ?_).2.2; exact (by (with_reducible repeat ((apply Kd.aK))); exact (Kd.dH (Kd.gZ (p := ⟨gb114, 2, none⟩) (Kd.gZ (p := ⟨gb114, 1, none⟩) (Kd.gZ (p := ⟨gb114, 0, none⟩) (Kd.jW HO111.out BK114.out (by decide)) (fun _ hk => hk.2) (.string t108)) (fun _ hk => hk.2) (.slice Ao14 t109.length co14)) (fun _ hk => hk.2) (.int .i64 t112)) (fun _ h_ => h_.1)))); (case side2 => exact (Kd.aN HO111.out).2.1); rintro e w15 ⟨rfl, hb⟩; replace HO107 := ah.mk (Kd.bI (by (with_reducible repeat ((apply Kd.aK))); exact (Kd.dH (Kd.gZ (p := ⟨gb114, 2, none⟩) (Kd.gZ (p := ⟨gb114, 1, none⟩) (Kd.gZ (p := ⟨gb114, 0, none⟩) (Kd.jW HO107.out BK114.out (by decide)) (fun _ hk => hk.2) (.string t108)) (fun _ hk => hk.2) (.slice Ao14 t109.length co14)) (fun _ hk => hk.2) (.int .i64 t112)) (fun _ h_ => h_.1))) hb); replace HO111 := ah.mk (Kd.bI (by (with_reducible repeat ((apply Kd.aK))); exact (Kd.dH (Kd.gZ (p := ⟨gb114, 2, none⟩) (Kd.gZ (p := ⟨gb114, 1, none⟩) (Kd.gZ (p := ⟨gb114, 0, none⟩) (Kd.jW HO111.out BK114.out (by decide)) (fun _ hk => hk.2) (.string t108)) (fun _ hk => hk.2) (.slice Ao14 t109.length co14)) (fun _ hk => hk.2) (.int .i64 t112)) (fun _ h_ => h_.1))) hb); replace BK114 := ah.mk (aD (g := gb114) (o := .cells #[.string t108, .slice Ao14 t109.length co14, .int .i64 t112] 26 (0, 0)) (by (with_reducible repeat ((refine aA ?_ _))); refine bH (cs := #[.string t108, .slice Ao14 t109.length co14, .int .i64 0]) ?_ 2 _ rfl; (with_reducible repeat ((refine aA ?_ _))); refine bH (cs := #[.string t108, .slice none 0 0, .int .i64 0]) ?_ 1 _ rfl; (with_reducible repeat ((refine aA ?_ _))); refine bH (cs := #[.string (⟨#[]⟩ : ByteArray), .slice none 0 0, .int .i64 0]) ?_ 0 _ rfl; (with_reducible repeat ((refine aA ?_ _))); exact BK114.out) hb); replace HB := ah.mk (ak (by repeat ((with_reducible first | exact HB.out | refine dN ?_ GE114.out))) hb); (try clear hb); obtain ⟨hcz16_0, hcz16_1, hcz16_2, hfz16_0, hfz16_1, hfz16_2⟩ := z3_ BK114.out) | (go_at_call 29; (with_reducible refine (jy.calls t108 _ _ t109 t112 t116 _ ?side1 ?side2 A6.out).mono ?_); (case side1 => repeat ((exact (Kd.aN HO111.out).2.2))); (case side2 => exact (Kd.aN HO111.out).2.1); rintro e w17 ⟨v117, rfl, ho0, hb⟩; have HO118 := ah.mk (Kd.bZ (Kd.iB (Kd.iB ho0 (Kd.jO (by ((exact HO107.out))))) (Kd.jO (by ((exact HO111.out))))) (av HB.out)); replace HO107 := ah.mk (Kd.fI (by ((exact HO107.out))) (Kd.iC ho0) hb); replace HO111 := ah.mk (Kd.fI (by ((exact HO111.out))) (Kd.iC ho0) hb); replace BK114 := ah.mk (aD (by ((exact BK114.out))) hb); replace HB := ah.mk (ak HB.out hb); (try clear hb); (try clear ho0); obtain ⟨Ao18, co18, eo18⟩ := Kd.bO HO118.out; subst eo18; obtain ⟨hcz19_0, hcz19_1, hcz19_2, hfz19_0, hfz19_1, hfz19_2⟩ := z3_ BK114.out) | (go_at_call 18; (with_reducible refine (fq.calls t108 _ _ t109 t112 (⟨#[1, 65, 0]⟩ : ByteArray) t119 _ ?side1 ?side2 A8.out).mono ?_); (case side1 => repeat ((exact (Kd.aN HO111.out).2.2))); (case side2 => exact (Kd.aN HO111.out).2.1); rintro e w20 ⟨rfl, hb⟩; replace HO107 := ah.mk (Kd.bI (by ((exact HO107.out))) hb); replace HO111 := ah.mk (Kd.bI (by ((exact HO111.out))) hb); replace HO118 := ah.mk (Kd.bI (by ((exact HO118.out))) hb); replace BK114 := ah.mk (aD (by ((exact BK114.out))) hb); replace HB := ah.mk (ak HB.out hb); (try clear hb)))
 go_ret
 exact ⟨by rfl, HB.out⟩
mutual
noncomputable def bE.l0 : Nat → List (S44) → Int → Option (Bool)
 | 0, _, _ => none
 | k + 1, x0, x3 => if x3 < (x0.length : Int) then (bE.j1 k x0 x3 (decide (x3 < 40))) else (bE.j1 k x0 x3 false)
noncomputable def bE.j1 : Nat → List (S44) → Int → Bool → Option (Bool)
 | 0, _, _, _ => none
 | k + 1, x0, x3, x11 => if x11 = true then (if 0 ≤ x3 then (if x3 < (x0.length : Int) then (if (((aj x0 x3).f4).size : Int) > 2000 then (some false) else (if (((aj x0 x3).f0).size : Int) > 600 then (some false) else (bE.l0 k x0 (wrap64 (x3 + 1))))) else (none)) else (none)) else (some (decide ((x0.length : Int) ≤ 30)))
end
noncomputable def bE.f (k : Nat) (l0 : List (S44)) : Option (Bool) := bE.l0 k l0 0
theorem bE.calls (k : Nat) (A0 : Option Addr) (c0 : Nat) (l0 : List (S44)) (r : Bool) (w : World) (hr0 : Kd.C k44 w A0 l0.length l0) (hc0 : l0.length ≤ c0) (h : bE.f k l0 = some r) :
    Calls Tryz.prog 10 #[.slice A0 l0.length c0] w fun e w' => e = .returned (.bool r) ∧ aY w w' := by
  have HR0 := ah.mk hr0
  have HC0 := ah.mk hc0
  clear hr0 hc0
  have H : (bE.l0 k l0 0) = some r := h
  clear h
  have H' := ah.mk H
  clear H
  go_enter Tryz.func10, Tryz.ntmps10
  go_wp2
  go_loopg [3] k (fun kq v3 w' => ∃ (x3_1 : Int), v3 = .int .i64 x3_1 ∧ ah (bE.l0 kq l0 x3_1 = some r) ∧ ah (kq ≤ k) ∧ aY w w')
  case atStart => exact ⟨(0), (by rfl), H', ⟨Nat.le_refl _⟩, by repeat ((exact aY.refl _))⟩
  case round =>
   clear H'
   obtain ⟨x3_1, rfl, HA, HK1, ⟨m1, rfl⟩⟩ := hrel
   cases gk with
   | zero => exact absurd HA.out (by simp [bE.l0])
   | succ k1 =>
    have H := HA.out
    clear HA
    simp only [bE.l0] at H
    have HC2 := ah.mk H
    clear H
    go_upto_region 2 with (fail)
    go_cut [11] (fun v11 wc => ∃ (kq : Nat) (x11_1 : Bool), v11 = .bool x11_1 ∧ ah (bE.j1 kq l0 x3_1 x11_1 = some r) ∧ ah (kq ≤ k1) ∧ aY w wc)
    case first =>
     have H := HC2.out
     clear HC2
     by_cases c3 : x3_1 < (l0.length : Int)
     focus
      rw [if_pos c3] at H
      have c3b0 : decide (x3_1 < (l0.length : Int)) = true := decide_eq_true c3
     rotate_left
     focus
      rw [if_neg c3] at H
      have c3b0 : decide (x3_1 < (l0.length : Int)) = false := decide_eq_false c3
     rotate_left
     all_goals
      clear c3
      (skip)
      have H' := ah.mk H
      clear H
      go_wp2
      go_meet
     ·case rel => exact ⟨_, (decide (x3_1 < 40)), (by rfl), H', ⟨by have := HK1.out; omega⟩, by repeat (first | exact aY.refl _ | apply aY.step)⟩
     ·case rel => exact ⟨_, (false), (by rfl), H', ⟨by have := HK1.out; omega⟩, by repeat (first | exact aY.refl _ | apply aY.step)⟩
    case rest =>
     clear HC2
     obtain ⟨kq, x11_1, rfl, HA, HJ1, ⟨mc1, rfl⟩⟩ := hcut
     cases kq with
     | zero => exact absurd HA.out (by simp [bE.j1])
     | succ kj1 =>
      have H := HA.out
      clear HA
      simp only [bE.j1] at H
      by_cases c4 : x11_1 = true
      ·subst c4
       rw [if_pos rfl] at H
       obtain ⟨c5b0, H⟩ := dU H
       obtain ⟨c6b0, H⟩ := dU H
       by_cases c7 : (((aj l0 x3_1).f4).size : Int) > 2000
       focus
        rw [if_pos c7] at H
        have c7b0 : decide (2000 < (((aj l0 x3_1).f4).size : Int)) = true := decide_eq_true c7
        have c7b1 : decide (2000 < ((aj l0 x3_1).f4).size) = true := decide_eq_true (by omega)
        clear c7
        obtain rfl := Option.some.inj H
       rotate_left
       focus
        rw [if_neg c7] at H
        have c7b0 : decide (2000 < (((aj l0 x3_1).f4).size : Int)) = false := decide_eq_false c7
        have c7b1 : decide (2000 < ((aj l0 x3_1).f4).size) = false := decide_eq_false (by omega)
        clear c7
        by_cases c8 : (((aj l0 x3_1).f0).size : Int) > 600
        focus
         rw [if_pos c8] at H
         have c8b0 : decide (600 < (((aj l0 x3_1).f0).size : Int)) = true := decide_eq_true c8
         have c8b1 : decide (600 < ((aj l0 x3_1).f0).size) = true := decide_eq_true (by omega)
         clear c8
         obtain rfl := Option.some.inj H
        rotate_left
        focus
         rw [if_neg c8] at H
         have c8b0 : decide (600 < (((aj l0 x3_1).f0).size : Int)) = false := decide_eq_false c8
         have c8b1 : decide (600 < ((aj l0 x3_1).f0).size) = false := decide_eq_false (by omega)
         clear c8
         have H' := ah.mk H
         clear H
        rotate_left
       rotate_left 2
       all_goals
        have p120 : 0 ≤ (x3_1 : Int) := of_decide_eq_true (by assumption)
        have q120 : x3_1 < (l0.length : Int) := of_decide_eq_true (by assumption)
        obtain ⟨ad120, e120, hx120_0, hx120_1, hx120_2, hx120_3, hx120_4⟩ := dM HR0.out x3_1 p120 q120
        cases e120
        replace p120 := eq_true p120
        replace q120 := eq_true q120
       ·go_wp2
        go_ret
        exact ⟨by rfl, by repeat (first | exact aY.refl _ | apply aY.step)⟩
       all_goals
        have p121 : 0 ≤ (x3_1 : Int) := of_decide_eq_true (by assumption)
        have q121 : x3_1 < (l0.length : Int) := of_decide_eq_true (by assumption)
        obtain ⟨ad121, e121, hx121_0, hx121_1, hx121_2, hx121_3, hx121_4⟩ := dM HR0.out x3_1 p121 q121
        obtain rfl : ad120 = ad121 := (by injection e121)
        replace p121 := eq_true p121
        replace q121 := eq_true q121
        go_wp2
       ·go_ret
        exact ⟨by rfl, by repeat (first | exact aY.refl _ | apply aY.step)⟩
       ·go_roundg kj1
        case measure => have := HK1.out; have := HJ1.out; omega
        case rel => exact ⟨(wrap64 (x3_1 + 1)), (by rfl), H', ⟨by have := HK1.out; have := HJ1.out; omega⟩, by repeat (first | exact aY.refl _ | apply aY.step)⟩
      ·replace c4 := Bool.eq_false_iff.mpr c4
       subst c4
       rw [if_neg ff_] at H
       obtain rfl := Option.some.inj H
       go_wp2
       go_ret
       exact ⟨by rfl, by repeat (first | exact aY.refl _ | apply aY.step)⟩
noncomputable def eZ.f (k : Nat) (a0_0 : ByteArray) (l0_1 : List (S44)) (a1 : ByteArray) (a2 : Int) : Option ((List (S44))) := (bD.f k l0_1 a1).bind fun t123 => ((bJ.f k t123 a2).bind fun t126 => (some t126))
theorem eZ.calls (k : Nat) (a0_0 : ByteArray) (A0_1 : Option Addr) (c0_1 : Nat) (l0_1 : List (S44)) (a1 : ByteArray) (a2 : Int) (r : List (S44)) (w : World) (hr0_1 : Kd.C k44 w A0_1 l0_1.length l0_1) (hc0_1 : l0_1.length ≤ c0_1) (h : eZ.f k a0_0 l0_1 a1 a2 = some r) :
  Calls Tryz.prog 15 #[.agg #[.string a0_0, .slice A0_1 l0_1.length c0_1], .string a1, .int .i64 a2] w fun e w' => ∃ v0_ : Value, e = .returned (v0_) ∧ Kd.R k44 44 w' w.heap.size (fun _ => True) v0_ r ∧ Below w.heap.size w w' := by
 have hu31 := Tryz.underlying31
 have HR0_1 := ah.mk hr0_1
 have HC0_1 := ah.mk hc0_1
 clear hr0_1 hc0_1
 have HB := ah.mk (Below.refl w.heap.size w)
 have H : ((bD.f k l0_1 a1).bind fun t123 => ((bJ.f k t123 a2).bind fun t126 => (some t126))) = some r := h
 clear h
 obtain ⟨t123, A4, H⟩ := bP H
 obtain ⟨t126, A5, H⟩ := bP H
 obtain rfl := Option.some.inj H
 go_enter Tryz.func15, Tryz.ntmps15
 go_wp2_with (first | ((with_reducible refine bF (N := 3) rfl ?_); refine bQ ?hg (N := 3) ?hd (cs := #[.string a0_0, .slice A0_1 l0_1.length c0_1]) (t := 31) ?hr ?_; (case hd => rfl); (case hg => rfl); (case hr => (go_simp; done)); intro gb122 hg w6 hbox hb; have BK122 := ah.mk (hbox); have GW122 := ah.mk (ge_ hg (av HB.out)); have GE122 := ah.mk (ge_ hg (av HB.out)); replace HB := ah.mk (ak HB.out hb); clear hb hbox hg; obtain ⟨hcz7_0, hcz7_1, hfz7_0, hfz7_1⟩ := z2_ BK122.out) | ((with_reducible refine dA (f := 17) rfl ?_); refine fC (some 10) rfl rfl Tryz.func17 (by kernel_rfl) rfl #[.slice A0_1 l0_1.length c0_1, .string a1] rfl (by (try simp only [mA_, mC_, mN_]); rfl) ?_; (with_reducible refine (bD.calls k _ _ l0_1 a1 t123 _ ?side1 ?side2 A4.out).mono ?_); (case side1 => repeat ((exact (Kd.fM HR0_1.out HB.out)))); (case side2 => exact HC0_1.out); rintro e w8 ⟨v124, rfl, ho0, hb⟩; refine ⟨_, rfl, ?_⟩; have HO125 := ah.mk (Kd.bZ ho0 (av HB.out)); replace BK122 := ah.mk (aD (by ((exact BK122.out))) hb); replace HB := ah.mk (ak HB.out hb); (try clear hb); (try clear ho0); obtain ⟨Ao9, co9, eo9⟩ := Kd.bO HO125.out; subst eo9) | ((with_reducible refine dA (f := 51) rfl ?_); refine fC (some 12) rfl rfl Tryz.func51 (by kernel_rfl) rfl #[.slice Ao9 t123.length co9, .int .i64 a2] rfl (by (try simp only [mA_, mC_, mN_]); rfl) ?_; (with_reducible refine (bJ.calls k _ _ t123 a2 t126 _ ?side1 ?side2 A5.out).mono ?_); (case side1 => repeat ((exact (Kd.aN HO125.out).2.2))); (case side2 => exact (Kd.aN HO125.out).2.1); rintro e w10 ⟨v127, rfl, ho0, hb⟩; refine ⟨_, rfl, ?_⟩; have HO128 := ah.mk (Kd.bZ (Kd.iB ho0 (Kd.jO (by ((exact HO125.out))))) (av HB.out)); replace HO125 := ah.mk (Kd.fI (by ((exact HO125.out))) (Kd.iC ho0) hb); replace BK122 := ah.mk (aD (by ((exact BK122.out))) hb); replace HB := ah.mk (ak HB.out hb); (try clear hb); (try clear ho0)))
 go_ret
 exact ⟨_, by rfl, by (with_reducible repeat ((apply Kd.aK))); exact Kd.dH HO128.out (fun _ hk => trivial), HB.out⟩
noncomputable def fZ.f (a0 : Int) : Option (Bool) := if a0 ≥ 1 then (if a0 ≤ 65535 then (if a0 = 41 then (some false) else (if a0 < 128 then (some true) else (some (decide (a0 > 255))))) else (some false)) else (some false)
theorem fZ.calls (a0 : Int) (r : Bool) (w : World) (h : fZ.f a0 = some r) :
    Calls Tryz.prog 88 #[.int .i64 a0] w fun e w' => e = .returned (.bool r) ∧ aY w w' := by
  have H : (if a0 ≥ 1 then (if a0 ≤ 65535 then (if a0 = 41 then (some false) else (if a0 < 128 then (some true) else (some (decide (a0 > 255))))) else (some false)) else (some false)) = some r := h
  clear h
  by_cases c2 : a0 ≥ 1
  focus
   rw [if_pos c2] at H
   have c2b0 : decide (1 ≤ a0) = true := decide_eq_true c2
   clear c2
   by_cases c3 : a0 ≤ 65535
   focus
    rw [if_pos c3] at H
    have c3b0 : decide (a0 ≤ 65535) = true := decide_eq_true c3
    clear c3
    by_cases c4 : a0 = 41
    focus
     rw [if_pos c4] at H
     have c4b0 : (a0 == 41) = true := beq_iff_eq.mpr c4
     have c4b1 : (a0 != 41) = false := bne_eq_false_iff_eq.mpr c4
     clear c4
    rotate_left
    focus
     rw [if_neg c4] at H
     have c4b0 : (a0 == 41) = false := beq_eq_false_iff_ne.mpr c4
     have c4b1 : (a0 != 41) = true := bne_iff_ne.mpr c4
     by_cases c5 : a0 < 128
     focus
      rw [if_pos c5] at H
      have c5b0 : decide (a0 < 128) = true := decide_eq_true c5
     rotate_left
     focus
      rw [if_neg c5] at H
      have c5b0 : decide (a0 < 128) = false := decide_eq_false c5
     rotate_left
     all_goals
      clear c5
    rotate_left 2
   rotate_left 3
   focus
    rw [if_neg c3] at H
    have c3b0 : decide (a0 ≤ 65535) = false := decide_eq_false c3
    clear c3
   rotate_left
  rotate_left 4
  focus
   rw [if_neg c2] at H
   have c2b0 : decide (1 ≤ a0) = false := decide_eq_false c2
   clear c2
  rotate_left
  all_goals
   obtain rfl := Option.some.inj H
   go_enter Tryz.func88, Tryz.ntmps88
   go_wp2
   go_ret
   exact ⟨by rfl, by repeat ((exact aY.refl _))⟩
end Go.Y.PZh
namespace Go.Y.PZh
open Go.RowKit Go.V.aC Go.V.aV Go.V.aX Go.Y.Given Go.Y.PRd Go.Y.PRr Go.Y.PZo Go.Y.PZf Go.Y.PZe
attribute [local go_sem] dP dQ eu eB dD dF dR dS   -- for this text's walks alone
mutual
noncomputable def aR.l0 : Nat → ByteArray → List (S44) → Int → Option (Bool)
 | 0, _, _, _ => none
 | k + 1, x0, x1, x5 => if x5 < (x1.length : Int) then (if 0 ≤ x5 then (if ((aj x1 x5).f2) = 1 then ((fZ.f ((aj x1 x5).f1)).bind fun t138 => (if t138 = true then ((aQ.f k ((aj x1 x5).f0) x0).bind fun t140 => (aR.j1 k x0 x1 x5 (!t140))) else (aR.j1 k x0 x1 x5 true))) else (aR.j1 k x0 x1 x5 true)) else (none)) else ((bJ.f k x1 6).bind fun t130 => (if (t130.length : Int) = 1 then ((eZ.f k x0 x1 x0 2).bind fun t133 => (some (decide ((t133.length : Int) > 0)))) else (some false)))
noncomputable def aR.j1 : Nat → ByteArray → List (S44) → Int → Bool → Option (Bool)
 | 0, _, _, _, _ => none
 | k + 1, x0, x1, x5, x37 => if x37 = true then (some false) else (if 0 ≤ x5 then (if x5 < (x1.length : Int) then (if ((aj x1 x5).f1) = 6 then ((dJ.f k ((aj x1 x5).f0) x0).bind fun t143 => (if t143 = true then (if ((aj x1 x5).f1) = 5 then ((bD.f k x1 ((aj x1 x5).f0)).bind fun t146 => (if (t146.length : Int) = 1 then (aR.l0 k x0 x1 (wrap64 (x5 + 1))) else (some false))) else (aR.l0 k x0 x1 (wrap64 (x5 + 1)))) else (some false))) else (if ((aj x1 x5).f1) = 5 then ((bD.f k x1 ((aj x1 x5).f0)).bind fun t151 => (if (t151.length : Int) = 1 then (aR.l0 k x0 x1 (wrap64 (x5 + 1))) else (some false))) else (aR.l0 k x0 x1 (wrap64 (x5 + 1))))) else (none)) else (none))
end
noncomputable def aR.f (k : Nat) (a0 : ByteArray) (l1 : List (S44)) : Option (Bool) := aR.l0 k a0 l1 0
theorem aR.calls (k : Nat) (a0 : ByteArray) (A1 : Option Addr) (c1 : Nat) (l1 : List (S44)) (r : Bool) (w : World) (hr1 : Kd.C k44 w A1 l1.length l1) (hc1 : l1.length ≤ c1) (h : aR.f k a0 l1 = some r) :
    Calls Tryz.prog 50 #[.string a0, .slice A1 l1.length c1] w fun e w' => e = .returned (.bool r) ∧ Below w.heap.size w w' := by
  have hu31 := Tryz.underlying31
  have HR1 := ah.mk hr1
  have HC1 := ah.mk hc1
  clear hr1 hc1
  have HB := ah.mk (Below.refl w.heap.size w)
  have H : (aR.l0 k a0 l1 0) = some r := h
  clear h
  have H' := ah.mk H
  clear H
  go_enter Tryz.func50, Tryz.ntmps50
  go_wp2
  go_loopg [5] k (fun kq v5 w' => ∃ (x5_1 : Int), v5 = .int .i64 x5_1 ∧ ah (aR.l0 kq a0 l1 x5_1 = some r) ∧ ah (kq ≤ k) ∧ ah (Below w.heap.size w w'))
  case atStart => exact ⟨(0), (by rfl), H', ⟨Nat.le_refl _⟩, ⟨HB.out⟩⟩
  case round =>
   clear H'
   obtain ⟨x5_1, rfl, HA, HK1, HB⟩ := hrel
   cases gk with
   | zero => exact absurd HA.out (by simp [aR.l0])
   | succ k1 =>
    have H := HA.out
    clear HA
    simp only [aR.l0] at H
    by_cases c3 : x5_1 < (l1.length : Int)
    ·rw [if_pos c3] at H
     have c3b0 : decide (x5_1 < (l1.length : Int)) = true := decide_eq_true c3
     clear c3
     have HC4 := ah.mk H
     clear H
     go_upto_region 4 with (fail)
     go_cut [37] (fun v37 wc => ∃ (kq : Nat) (x37_3 : Bool), v37 = .bool x37_3 ∧ ah (aR.j1 kq a0 l1 x5_1 x37_3 = some r) ∧ ah (kq ≤ k1) ∧ ah (Below w.heap.size w wc))
     case first =>
      have H := HC4.out
      clear HC4
      obtain ⟨c5b0, H⟩ := dU H
      (skip)
      by_cases c6 : ((aj l1 x5_1).f2) = 1
      focus
       rw [if_pos c6] at H
       have c6b0 : (((aj l1 x5_1).f2) == 1) = true := beq_iff_eq.mpr c6
       have c6b1 : (((aj l1 x5_1).f2) != 1) = false := bne_eq_false_iff_eq.mpr c6
       clear c6
       obtain ⟨t138, A7, H⟩ := bP H
       by_cases c8 : t138 = true
       focus
        subst c8
        rw [if_pos rfl] at H
        obtain ⟨t140, A9, H⟩ := bP H
       rotate_left
       focus
        replace c8 := Bool.eq_false_iff.mpr c8
        subst c8
        rw [if_neg ff_] at H
       rotate_left
      rotate_left 2
      focus
       rw [if_neg c6] at H
       have c6b0 : (((aj l1 x5_1).f2) == 1) = false := beq_eq_false_iff_ne.mpr c6
       have c6b1 : (((aj l1 x5_1).f2) != 1) = true := bne_iff_ne.mpr c6
      rotate_left
      all_goals
       have H' := ah.mk H
       clear H
       have p136 : 0 ≤ (x5_1 : Int) := of_decide_eq_true (by assumption)
       have q136 : x5_1 < (l1.length : Int) := of_decide_eq_true (by assumption)
       obtain ⟨ad136, e136, hx136_0, hx136_1, hx136_2, hx136_3, hx136_4⟩ := dM HR1.out x5_1 p136 q136
       cases e136
       replace hx136_0 := kp_ HB.out hx136_0
       replace hx136_1 := kp_ HB.out hx136_1
       replace hx136_2 := kp_ HB.out hx136_2
       replace hx136_3 := kp_ HB.out hx136_3
       replace hx136_4 := kp_ HB.out hx136_4
       replace p136 := eq_true p136
       replace q136 := eq_true q136
      iterate 2
       focus
        have p137 : 0 ≤ (x5_1 : Int) := of_decide_eq_true (by assumption)
        have q137 : x5_1 < (l1.length : Int) := of_decide_eq_true (by assumption)
        obtain ⟨ad137, e137, hx137_0, hx137_1, hx137_2, hx137_3, hx137_4⟩ := dM HR1.out x5_1 p137 q137
        obtain rfl : ad136 = ad137 := (by injection e137)
        replace hx137_0 := kp_ HB.out hx137_0
        replace hx137_1 := kp_ HB.out hx137_1
        replace hx137_2 := kp_ HB.out hx137_2
        replace hx137_3 := kp_ HB.out hx137_3
        replace hx137_4 := kp_ HB.out hx137_4
        replace p137 := eq_true p137
        replace q137 := eq_true q137
       rotate_left
      rotate_left
      ·go_wp2_with (first | (go_at_call 88; (with_reducible refine (fZ.calls ((aj l1 x5_1).f1) _ _ A7.out).mono ?_); rintro e w' ⟨rfl, ⟨nd, rfl⟩⟩; have p139 : 0 ≤ (x5_1 : Int) := of_decide_eq_true (by assumption); have q139 : x5_1 < (l1.length : Int) := of_decide_eq_true (by assumption); obtain ⟨ad139, e139, hx139_0, hx139_1, hx139_2, hx139_3, hx139_4⟩ := dM HR1.out x5_1 p139 q139; obtain rfl : ad136 = ad139 := (by injection e139); replace hx139_0 := kp_ HB.out hx139_0; replace hx139_1 := kp_ HB.out hx139_1; replace hx139_2 := kp_ HB.out hx139_2; replace hx139_3 := kp_ HB.out hx139_3; replace hx139_4 := kp_ HB.out hx139_4; replace p139 := eq_true p139; replace q139 := eq_true q139) | (go_at_call 57; (with_reducible refine (aQ.calls k1 ((aj l1 x5_1).f0) a0 t140 _ A9.out).mono ?_); rintro e w10 ⟨rfl, hb⟩; replace HB := ah.mk (ak (by repeat ((with_reducible first | exact HB.out | apply aZ))) hb); (try clear hb)))
       go_meet
       case rel => exact ⟨_, (!t140), (by rfl), H', ⟨by have := HK1.out; omega⟩, ⟨HB.out⟩⟩
      ·go_wp2_with (((go_at_call 88; (with_reducible refine (fZ.calls ((aj l1 x5_1).f1) _ _ A7.out).mono ?_); rintro e w' ⟨rfl, ⟨nd, rfl⟩⟩)))
       go_meet
       case rel => exact ⟨_, (true), (by rfl), H', ⟨by have := HK1.out; omega⟩, ⟨by repeat ((with_reducible first | exact HB.out | apply aZ))⟩⟩
      ·go_wp2
       go_meet
       case rel => exact ⟨_, (true), (by rfl), H', ⟨by have := HK1.out; omega⟩, ⟨HB.out⟩⟩
     case rest =>
      clear HC4
      (try clear c3b0)
      obtain ⟨kq, x37_3, rfl, HA, HJ3, HB⟩ := hcut
      cases kq with
      | zero => exact absurd HA.out (by simp [aR.j1])
      | succ kj3 =>
       have H := HA.out
       clear HA
       simp only [aR.j1] at H
       by_cases c11 : x37_3 = true
       ·subst c11
        rw [if_pos rfl] at H
        obtain rfl := Option.some.inj H
        go_wp2
        go_ret
        exact ⟨by rfl, HB.out⟩
       ·replace c11 := Bool.eq_false_iff.mpr c11
        subst c11
        rw [if_neg ff_] at H
        obtain ⟨c12b0, H⟩ := dU H
        obtain ⟨c13b0, H⟩ := dU H
        by_cases c14 : ((aj l1 x5_1).f1) = 6
        focus
         rw [if_pos c14] at H
         have c14b0 : (((aj l1 x5_1).f1) == 6) = true := beq_iff_eq.mpr c14
         have c14b1 : (((aj l1 x5_1).f1) != 6) = false := bne_eq_false_iff_eq.mpr c14
         clear c14
         obtain ⟨t143, A15, H⟩ := bP H
         by_cases c16 : t143 = true
         focus
          subst c16
          rw [if_pos rfl] at H
          by_cases c17 : ((aj l1 x5_1).f1) = 5
          focus
           rw [if_pos c17] at H
           have c17b0 : (((aj l1 x5_1).f1) == 5) = true := beq_iff_eq.mpr c17
           have c17b1 : (((aj l1 x5_1).f1) != 5) = false := bne_eq_false_iff_eq.mpr c17
           clear c17
           obtain ⟨t146, A18, H⟩ := bP H
           by_cases c19 : (t146.length : Int) = 1
           focus
            rw [if_pos c19] at H
            have c19b0 : ((t146.length : Int) == 1) = true := beq_iff_eq.mpr c19
            have c19b1 : ((t146.length : Int) != 1) = false := bne_eq_false_iff_eq.mpr c19
            clear c19
            have H' := ah.mk H
            clear H
           rotate_left
           focus
            rw [if_neg c19] at H
            have c19b0 : ((t146.length : Int) == 1) = false := beq_eq_false_iff_ne.mpr c19
            have c19b1 : ((t146.length : Int) != 1) = true := bne_iff_ne.mpr c19
            obtain rfl := Option.some.inj H
           rotate_left
          rotate_left 2
          focus
           rw [if_neg c17] at H
           have c17b0 : (((aj l1 x5_1).f1) == 5) = false := beq_eq_false_iff_ne.mpr c17
           have c17b1 : (((aj l1 x5_1).f1) != 5) = true := bne_iff_ne.mpr c17
           have H' := ah.mk H
           clear H
          rotate_left
         rotate_left 3
         focus
          replace c16 := Bool.eq_false_iff.mpr c16
          subst c16
          rw [if_neg ff_] at H
          obtain rfl := Option.some.inj H
         rotate_left
        rotate_left 4
        focus
         rw [if_neg c14] at H
         have c14b0 : (((aj l1 x5_1).f1) == 6) = false := beq_eq_false_iff_ne.mpr c14
         have c14b1 : (((aj l1 x5_1).f1) != 6) = true := bne_iff_ne.mpr c14
         by_cases c28 : ((aj l1 x5_1).f1) = 5
         focus
          rw [if_pos c28] at H
          have c28b0 : (((aj l1 x5_1).f1) == 5) = true := beq_iff_eq.mpr c28
          have c28b1 : (((aj l1 x5_1).f1) != 5) = false := bne_eq_false_iff_eq.mpr c28
          clear c28
          obtain ⟨t151, A29, H⟩ := bP H
          by_cases c30 : (t151.length : Int) = 1
          focus
           rw [if_pos c30] at H
           have c30b0 : ((t151.length : Int) == 1) = true := beq_iff_eq.mpr c30
           have c30b1 : ((t151.length : Int) != 1) = false := bne_eq_false_iff_eq.mpr c30
           clear c30
           have H' := ah.mk H
           clear H
          rotate_left
          focus
           rw [if_neg c30] at H
           have c30b0 : ((t151.length : Int) == 1) = false := beq_eq_false_iff_ne.mpr c30
           have c30b1 : ((t151.length : Int) != 1) = true := bne_iff_ne.mpr c30
           obtain rfl := Option.some.inj H
          rotate_left
         rotate_left 2
         focus
          rw [if_neg c28] at H
          have c28b0 : (((aj l1 x5_1).f1) == 5) = false := beq_eq_false_iff_ne.mpr c28
          have c28b1 : (((aj l1 x5_1).f1) != 5) = true := bne_iff_ne.mpr c28
          have H' := ah.mk H
          clear H
         rotate_left
        rotate_left 3
        all_goals
         have p141 : 0 ≤ (x5_1 : Int) := of_decide_eq_true (by assumption)
         have q141 : x5_1 < (l1.length : Int) := of_decide_eq_true (by assumption)
         obtain ⟨ad141, e141, hx141_0, hx141_1, hx141_2, hx141_3, hx141_4⟩ := dM HR1.out x5_1 p141 q141
         cases e141
         replace hx141_0 := kp_ HB.out hx141_0
         replace hx141_1 := kp_ HB.out hx141_1
         replace hx141_2 := kp_ HB.out hx141_2
         replace hx141_3 := kp_ HB.out hx141_3
         replace hx141_4 := kp_ HB.out hx141_4
         replace p141 := eq_true p141
         replace q141 := eq_true q141
         have p142 : 0 ≤ (x5_1 : Int) := of_decide_eq_true (by assumption)
         have q142 : x5_1 < (l1.length : Int) := of_decide_eq_true (by assumption)
         obtain ⟨ad142, e142, hx142_0, hx142_1, hx142_2, hx142_3, hx142_4⟩ := dM HR1.out x5_1 p142 q142
         obtain rfl : ad141 = ad142 := (by injection e142)
         replace hx142_0 := kp_ HB.out hx142_0
         replace hx142_1 := kp_ HB.out hx142_1
         replace hx142_2 := kp_ HB.out hx142_2
         replace hx142_3 := kp_ HB.out hx142_3
         replace hx142_4 := kp_ HB.out hx142_4
         replace p142 := eq_true p142
         replace q142 := eq_true q142
        iterate 2
         focus
          go_wp2_with (first | (go_at_call 53; (with_reducible refine (dJ.calls kj3 ((aj l1 x5_1).f0) a0 _ _ A15.out).mono ?_); rintro e w20 ⟨rfl, hb⟩; replace HB := ah.mk (ak HB.out hb); (try clear hb); have p144 : 0 ≤ (x5_1 : Int) := of_decide_eq_true (by assumption); have q144 : x5_1 < (l1.length : Int) := of_decide_eq_true (by assumption); obtain ⟨ad144, e144, hx144_0, hx144_1, hx144_2, hx144_3, hx144_4⟩ := dM HR1.out x5_1 p144 q144; obtain rfl : ad141 = ad144 := (by injection e144); replace hx144_0 := kp_ HB.out hx144_0; replace hx144_1 := kp_ HB.out hx144_1; replace hx144_2 := kp_ HB.out hx144_2; replace hx144_3 := kp_ HB.out hx144_3; replace hx144_4 := kp_ HB.out hx144_4; replace p144 := eq_true p144; replace q144 := eq_true q144; have p145 : 0 ≤ (x5_1 : Int) := of_decide_eq_true (by assumption); have q145 : x5_1 < (l1.length : Int) := of_decide_eq_true (by assumption); obtain ⟨ad145, e145, hx145_0, hx145_1, hx145_2, hx145_3, hx145_4⟩ := dM HR1.out x5_1 p145 q145; obtain rfl : ad141 = ad145 := (by injection e145); replace hx145_0 := kp_ HB.out hx145_0; replace hx145_1 := kp_ HB.out hx145_1; replace hx145_2 := kp_ HB.out hx145_2; replace hx145_3 := kp_ HB.out hx145_3; replace hx145_4 := kp_ HB.out hx145_4; replace p145 := eq_true p145; replace q145 := eq_true q145) | (go_at_call 17; (with_reducible refine (bD.calls kj3 _ _ l1 ((aj l1 x5_1).f0) t146 _ ?side1 ?side2 A18.out).mono ?_); (case side1 => repeat ((exact (Kd.fM HR1.out HB.out)))); (case side2 => exact HC1.out); rintro e w21 ⟨v147, rfl, ho0, hb⟩; have HO148 := ah.mk (Kd.bZ ho0 (av HB.out)); replace HB := ah.mk (ak HB.out hb); (try clear hb); (try clear ho0); obtain ⟨Ao22, co22, eo22⟩ := Kd.bO HO148.out; subst eo22))
         rotate_left
        rotate_left 5
        ·go_roundg kj3
         case measure => have := HK1.out; have := HJ3.out; omega
         case rel => exact ⟨(wrap64 (x5_1 + 1)), (by rfl), H', ⟨by have := HK1.out; have := HJ3.out; omega⟩, ⟨HB.out⟩⟩
        ·go_ret
         exact ⟨by rfl, HB.out⟩
        ·go_wp2_with (((go_at_call 53; (with_reducible refine (dJ.calls kj3 ((aj l1 x5_1).f0) a0 _ _ A15.out).mono ?_); rintro e w26 ⟨rfl, hb⟩; replace HB := ah.mk (ak HB.out hb); (try clear hb); have p144 : 0 ≤ (x5_1 : Int) := of_decide_eq_true (by assumption); have q144 : x5_1 < (l1.length : Int) := of_decide_eq_true (by assumption); obtain ⟨ad144, e144, hx144_0, hx144_1, hx144_2, hx144_3, hx144_4⟩ := dM HR1.out x5_1 p144 q144; obtain rfl : ad141 = ad144 := (by injection e144); replace hx144_0 := kp_ HB.out hx144_0; replace hx144_1 := kp_ HB.out hx144_1; replace hx144_2 := kp_ HB.out hx144_2; replace hx144_3 := kp_ HB.out hx144_3; replace hx144_4 := kp_ HB.out hx144_4; replace p144 := eq_true p144; replace q144 := eq_true q144)))
         go_roundg kj3
         case measure => have := HK1.out; have := HJ3.out; omega
         case rel => exact ⟨(wrap64 (x5_1 + 1)), (by rfl), H', ⟨by have := HK1.out; have := HJ3.out; omega⟩, ⟨HB.out⟩⟩
        ·go_wp2_with (((go_at_call 53; (with_reducible refine (dJ.calls kj3 ((aj l1 x5_1).f0) a0 _ _ A15.out).mono ?_); rintro e w27 ⟨rfl, hb⟩; replace HB := ah.mk (ak HB.out hb); (try clear hb))))
         go_ret
         exact ⟨by rfl, HB.out⟩
        iterate 2
         focus
          have p150 : 0 ≤ (x5_1 : Int) := of_decide_eq_true (by assumption)
          have q150 : x5_1 < (l1.length : Int) := of_decide_eq_true (by assumption)
          obtain ⟨ad150, e150, hx150_0, hx150_1, hx150_2, hx150_3, hx150_4⟩ := dM HR1.out x5_1 p150 q150
          obtain rfl : ad141 = ad150 := (by injection e150)
          replace hx150_0 := kp_ HB.out hx150_0
          replace hx150_1 := kp_ HB.out hx150_1
          replace hx150_2 := kp_ HB.out hx150_2
          replace hx150_3 := kp_ HB.out hx150_3
          replace hx150_4 := kp_ HB.out hx150_4
          replace p150 := eq_true p150
          replace q150 := eq_true q150
          go_wp2_with (((go_at_call 17; (with_reducible refine (bD.calls kj3 _ _ l1 ((aj l1 x5_1).f0) t151 _ ?side1 ?side2 A29.out).mono ?_); (case side1 => repeat ((exact (Kd.fM HR1.out HB.out)))); (case side2 => exact HC1.out); rintro e w31 ⟨v152, rfl, ho0, hb⟩; have HO153 := ah.mk (Kd.bZ ho0 (av HB.out)); replace HB := ah.mk (ak HB.out hb); (try clear hb); (try clear ho0); obtain ⟨Ao32, co32, eo32⟩ := Kd.bO HO153.out; subst eo32)))
         rotate_left
        rotate_left
        ·go_roundg kj3
         case measure => have := HK1.out; have := HJ3.out; omega
         case rel => exact ⟨(wrap64 (x5_1 + 1)), (by rfl), H', ⟨by have := HK1.out; have := HJ3.out; omega⟩, ⟨HB.out⟩⟩
        ·go_ret
         exact ⟨by rfl, HB.out⟩
        ·go_wp2
         go_roundg kj3
         case measure => have := HK1.out; have := HJ3.out; omega
         case rel => exact ⟨(wrap64 (x5_1 + 1)), (by rfl), H', ⟨by have := HK1.out; have := HJ3.out; omega⟩, ⟨HB.out⟩⟩
    ·rw [if_neg c3] at H
     have c3b0 : decide (x5_1 < (l1.length : Int)) = false := decide_eq_false c3
     clear c3
     obtain ⟨t130, A35, H⟩ := bP H
     by_cases c36 : (t130.length : Int) = 1
     focus
      rw [if_pos c36] at H
      have c36b0 : ((t130.length : Int) == 1) = true := beq_iff_eq.mpr c36
      have c36b1 : ((t130.length : Int) != 1) = false := bne_eq_false_iff_eq.mpr c36
      clear c36
      obtain ⟨t133, A37, H⟩ := bP H
      obtain rfl := Option.some.inj H
      go_wp2_with (first | ((with_reducible refine bF (N := 6) rfl ?_); (try (refine fA (by rfl) ?_; dsimp only)); refine bQ ?hg (N := 6) ?hd (cs := #[.string (⟨#[]⟩ : ByteArray), .slice none 0 0]) (t := 31) ?hr ?_; (case hd => rfl); (case hg => rfl); (case hr => (go_simp; done)); intro gb129 hg w38 hbox hb; have BK129 := ah.mk (hbox); have GW129 := ah.mk (ge_ hg (av HB.out)); have GE129 := ah.mk (ge_ hg (av HB.out)); replace HB := ah.mk (ak HB.out hb); clear hb hbox hg; obtain ⟨hcz39_0, hcz39_1, hfz39_0, hfz39_1⟩ := z2_ BK129.out) | (refine gl_ (some 77) Tryz.func51 #[.slice A1 l1.length c1, .int .i64 6] ?_; (with_reducible refine (bJ.calls k1 _ _ l1 6 t130 _ ?side1 ?side2 A35.out).mono ?_); (case side1 => exact Kd.fM HR1.out (by repeat ((with_reducible first | exact HB.out | refine dN ?_ GE129.out)))); (case side2 => exact HC1.out); rintro e w40 ⟨v131, rfl, ho0, hb⟩; refine ⟨_, rfl, ?_⟩; have HO132 := ah.mk (Kd.bZ ho0 (av (by repeat ((with_reducible first | exact HB.out | refine dN ?_ GE129.out))))); replace BK129 := ah.mk (aD (g := gb129) (o := .cells #[.string a0, .slice A1 l1.length c1] 31 (0, 0)) (by (with_reducible repeat ((refine aA ?_ _))); refine bH (cs := #[.string a0, .slice none 0 0]) ?_ 1 _ rfl; (with_reducible repeat ((refine aA ?_ _))); refine bH (cs := #[.string (⟨#[]⟩ : ByteArray), .slice none 0 0]) ?_ 0 _ rfl; (with_reducible repeat ((refine aA ?_ _))); exact BK129.out) hb); replace HB := ah.mk (ak (by repeat ((with_reducible first | exact HB.out | refine dN ?_ GE129.out))) hb); (try clear hb); (try clear ho0); obtain ⟨Ao41, co41, eo41⟩ := Kd.bO HO132.out; subst eo41; obtain ⟨hcz42_0, hcz42_1, hfz42_0, hfz42_1⟩ := z2_ BK129.out) | (go_at_call 15; (with_reducible refine (eZ.calls k1 a0 _ _ l1 a0 2 t133 _ ?side1 ?side2 A37.out).mono ?_); (case side1 => repeat ((exact (Kd.fM HR1.out HB.out)))); (case side2 => exact HC1.out); rintro e w43 ⟨v134, rfl, ho0, hb⟩; have HO135 := ah.mk (Kd.bZ (Kd.iB ho0 (Kd.jO (by ((exact HO132.out))))) (av HB.out)); replace HO132 := ah.mk (Kd.fI (by ((exact HO132.out))) (Kd.iC ho0) hb); replace BK129 := ah.mk (aD (by ((exact BK129.out))) hb); replace HB := ah.mk (ak HB.out hb); (try clear hb); (try clear ho0); obtain ⟨Ao44, co44, eo44⟩ := Kd.bO HO135.out; subst eo44))
     rotate_left
     focus
      rw [if_neg c36] at H
      have c36b0 : ((t130.length : Int) == 1) = false := beq_eq_false_iff_ne.mpr c36
      have c36b1 : ((t130.length : Int) != 1) = true := bne_iff_ne.mpr c36
      obtain rfl := Option.some.inj H
      go_wp2_with (first | ((with_reducible refine bF (N := 6) rfl ?_); (try (refine fA (by rfl) ?_; dsimp only)); refine bQ ?hg (N := 6) ?hd (cs := #[.string (⟨#[]⟩ : ByteArray), .slice none 0 0]) (t := 31) ?hr ?_; (case hd => rfl); (case hg => rfl); (case hr => (go_simp; done)); intro gb129 hg w45 hbox hb; have BK129 := ah.mk (hbox); have GW129 := ah.mk (ge_ hg (av HB.out)); have GE129 := ah.mk (ge_ hg (av HB.out)); replace HB := ah.mk (ak HB.out hb); clear hb hbox hg; obtain ⟨hcz46_0, hcz46_1, hfz46_0, hfz46_1⟩ := z2_ BK129.out) | (refine gl_ (some 77) Tryz.func51 #[.slice A1 l1.length c1, .int .i64 6] ?_; (with_reducible refine (bJ.calls k1 _ _ l1 6 t130 _ ?side1 ?side2 A35.out).mono ?_); (case side1 => exact Kd.fM HR1.out (by repeat ((with_reducible first | exact HB.out | refine dN ?_ GE129.out)))); (case side2 => exact HC1.out); rintro e w47 ⟨v131, rfl, ho0, hb⟩; refine ⟨_, rfl, ?_⟩; have HO132 := ah.mk (Kd.bZ ho0 (av (by repeat ((with_reducible first | exact HB.out | refine dN ?_ GE129.out))))); replace BK129 := ah.mk (aD (g := gb129) (o := .cells #[.string a0, .slice A1 l1.length c1] 31 (0, 0)) (by (with_reducible repeat ((refine aA ?_ _))); refine bH (cs := #[.string a0, .slice none 0 0]) ?_ 1 _ rfl; (with_reducible repeat ((refine aA ?_ _))); refine bH (cs := #[.string (⟨#[]⟩ : ByteArray), .slice none 0 0]) ?_ 0 _ rfl; (with_reducible repeat ((refine aA ?_ _))); exact BK129.out) hb); replace HB := ah.mk (ak (by repeat ((with_reducible first | exact HB.out | refine dN ?_ GE129.out))) hb); (try clear hb); (try clear ho0); obtain ⟨Ao48, co48, eo48⟩ := Kd.bO HO132.out; subst eo48))
     rotate_left
     all_goals
      go_ret
      exact ⟨by first | rfl | (simp [jC, jA] <;> rfl), HB.out⟩
noncomputable def dB.l0 : Nat → ByteArray → List (S44) → Int → Option (ByteArray × (List (S44)) × Int)
 | 0, _, _, _ => none
 | k + 1, x0, x1, x6 => if x6 < (x1.length : Int) then (if 0 ≤ x6 then ((bn.f k ((aj x1 x6).f0) ((aj x1 x6).f1) ((aj x1 x6).f2) ((aj x1 x6).f3) ((aj x1 x6).f4)).bind fun t157 => (if t157 = true then (dB.l0 k x0 x1 (wrap64 (x6 + 1))) else (some ((⟨#[]⟩ : ByteArray), ([] : List (S44)), 2)))) else (none)) else ((dY.f k x1).bind fun t158 => ((aR.f k x0 t158).bind fun t161 => (if t161 = true then (some (x0, t158, 0)) else (some ((⟨#[]⟩ : ByteArray), ([] : List (S44)), 9)))))
noncomputable def dB.f (k : Nat) (a0 : ByteArray) (l1 : List (S44)) : Option (ByteArray × (List (S44)) × Int) := (bK.f k a0).bind fun t155 => (if t155 = true then (dB.l0 k a0 l1 0) else (some ((⟨#[]⟩ : ByteArray), ([] : List (S44)), 2)))
theorem dB.calls (k : Nat) (a0 : ByteArray) (A1 : Option Addr) (c1 : Nat) (l1 : List (S44)) (r1 : ByteArray) (r2 : List (S44)) (r3 : Int) (w : World) (hr1 : Kd.C k44 w A1 l1.length l1) (hc1 : l1.length ≤ c1) (h : dB.f k a0 l1 = some (r1, r2, r3)) :
    Calls Tryz.prog 12 #[.string a0, .slice A1 l1.length c1] w fun e w' => ∃ v1_ : Value, e = .returned (.tuple #[.agg #[.string r1, v1_], .int .i64 r3]) ∧ Kd.R k44 44 w' w.heap.size (fun _ => True) v1_ r2 ∧ Below w.heap.size w w' := by
  have hu31 := Tryz.underlying31
  have hu44 := Tryz.underlying44
  have HR1 := ah.mk hr1
  have HC1 := ah.mk hc1
  clear hr1 hc1
  have HB := ah.mk (Below.refl w.heap.size w)
  have H : ((bK.f k a0).bind fun t155 => (if t155 = true then (dB.l0 k a0 l1 0) else (some ((⟨#[]⟩ : ByteArray), ([] : List (S44)), 2)))) = some (r1, r2, r3) := h
  clear h
  obtain ⟨t155, A3, H⟩ := bP H
  by_cases c4 : t155 = true
  ·subst c4
   rw [if_pos rfl] at H
   have H' := ah.mk H
   clear H
   go_enter Tryz.func12, Tryz.ntmps12
   go_wp2_with (first | ((with_reducible refine bF (N := 4) rfl ?_); refine bQ ?hg (N := 4) ?hd (cs := #[.string (⟨#[]⟩ : ByteArray), .slice none 0 0]) (t := 31) ?hr ?_; (case hd => rfl); (case hg => rfl); (case hr => (go_simp; done)); intro gb154 hg w5 hbox hb; have BK154 := ah.mk (hbox); have GW154 := ah.mk (ge_ hg (av HB.out)); have GE154 := ah.mk (ge_ hg (av HB.out)); replace HB := ah.mk (ak HB.out hb); clear hb hbox hg) | (refine gl_ (some 9) Tryz.func47 #[.string a0] ?_; (with_reducible refine (bK.calls k a0 _ _ A3.out).mono ?_); rintro e w6 ⟨rfl, hb⟩; refine ⟨_, rfl, ?_⟩; replace BK154 := ah.mk (aD (by ((exact BK154.out))) hb); replace HB := ah.mk (ak HB.out hb); (try clear hb)))
   go_loopg [6] k (fun kq v6 w' => ∃ (x6_1 : Int) (x155000_1 : ByteArray), v6 = .int .i64 x6_1 ∧ ah (dB.l0 kq a0 l1 x6_1 = some (r1, r2, r3)) ∧ ah (kq ≤ k) ∧ ah (w'.heap[gb154]? = some (.cells #[.string x155000_1, (.slice none 0 0)] 31 (0, 0))) ∧ ah (Below w.heap.size w w'))
   case atStart => exact ⟨(0), ((⟨#[]⟩ : ByteArray)), (by rfl), H', ⟨Nat.le_refl _⟩, ⟨by (with_reducible repeat ((refine aA ?_ _))); exact BK154.out⟩, ⟨HB.out⟩⟩
   case round =>
    clear H'
    obtain ⟨x6_1, x155000_1, rfl, HA, HK1, BK154, HB⟩ := hrel
    cases gk with
    | zero => exact absurd HA.out (by simp [dB.l0])
    | succ k1 =>
     have H := HA.out
     clear HA
     simp only [dB.l0] at H
     by_cases c7 : x6_1 < (l1.length : Int)
     ·rw [if_pos c7] at H
      have c7b0 : decide (x6_1 < (l1.length : Int)) = true := decide_eq_true c7
      clear c7
      obtain ⟨c8b0, H⟩ := dU H
      obtain ⟨t157, A9, H⟩ := bP H
      by_cases c10 : t157 = true
      focus
       subst c10
       rw [if_pos rfl] at H
       have H' := ah.mk H
       clear H
      rotate_left
      focus
       replace c10 := Bool.eq_false_iff.mpr c10
       subst c10
       rw [if_neg ff_] at H
       simp only [Option.some.injEq, Prod.mk.injEq] at H
       obtain ⟨rfl, rfl, rfl⟩ := H
      rotate_left
      all_goals
       have p156 : 0 ≤ (x6_1 : Int) := of_decide_eq_true (by assumption)
       have q156 : x6_1 < (l1.length : Int) := of_decide_eq_true (by assumption)
       obtain ⟨ad156, e156, hx156_0, hx156_1, hx156_2, hx156_3, hx156_4⟩ := dM HR1.out x6_1 p156 q156
       cases e156
       replace hx156_0 := kp_ HB.out hx156_0
       replace hx156_1 := kp_ HB.out hx156_1
       replace hx156_2 := kp_ HB.out hx156_2
       replace hx156_3 := kp_ HB.out hx156_3
       replace hx156_4 := kp_ HB.out hx156_4
       replace p156 := eq_true p156
       replace q156 := eq_true q156
      ·go_wp2_with (((refine gl_ (some 22) Tryz.func48 #[.agg #[.string ((aj l1 x6_1).f0), .int .i64 ((aj l1 x6_1).f1), .int .i64 ((aj l1 x6_1).f2), .int .i64 ((aj l1 x6_1).f3), .string ((aj l1 x6_1).f4)]] ?_; (with_reducible refine (bn.calls k1 ((aj l1 x6_1).f0) ((aj l1 x6_1).f1) ((aj l1 x6_1).f2) ((aj l1 x6_1).f3) ((aj l1 x6_1).f4) _ _ A9.out).mono ?_); rintro e w11 ⟨rfl, hb⟩; refine ⟨_, rfl, ?_⟩; replace BK154 := ah.mk (aD (by ((exact BK154.out))) hb); replace HB := ah.mk (ak HB.out hb); (try clear hb))))
       go_roundg k1
       case measure => have := HK1.out; omega
       case rel => exact ⟨(wrap64 (x6_1 + 1)), (x155000_1), (by rfl), H', ⟨by have := HK1.out; omega⟩, ⟨by (with_reducible repeat ((refine aA ?_ _))); exact BK154.out⟩, ⟨HB.out⟩⟩
      ·go_wp2_with (((refine gl_ (some 22) Tryz.func48 #[.agg #[.string ((aj l1 x6_1).f0), .int .i64 ((aj l1 x6_1).f1), .int .i64 ((aj l1 x6_1).f2), .int .i64 ((aj l1 x6_1).f3), .string ((aj l1 x6_1).f4)]] ?_; (with_reducible refine (bn.calls k1 ((aj l1 x6_1).f0) ((aj l1 x6_1).f1) ((aj l1 x6_1).f2) ((aj l1 x6_1).f3) ((aj l1 x6_1).f4) _ _ A9.out).mono ?_); rintro e w12 ⟨rfl, hb⟩; refine ⟨_, rfl, ?_⟩; replace BK154 := ah.mk (aD (by ((exact BK154.out))) hb); replace HB := ah.mk (ak HB.out hb); (try clear hb); obtain ⟨hcz13_0, hcz13_1, hfz13_0, hfz13_1⟩ := z2_ BK154.out)))
       refine bodyPost_ret (gN rfl _ _ gb154 31 #[.string (⟨#[]⟩ : ByteArray), .slice none 0 0] (0, 0) _ rfl (by (with_reducible repeat ((refine aA ?_ _))); refine bH (cs := #[.string (⟨#[]⟩ : ByteArray), .slice none 0 0]) ?_ 1 _ rfl; (with_reducible repeat ((refine aA ?_ _))); refine bH (cs := #[.string x155000_1, .slice none 0 0]) ?_ 0 _ rfl; (with_reducible repeat ((refine aA ?_ _))); exact BK154.out) Tryz.underlying31 rfl (by kernel_rfl)) rfl ?_
       exact ⟨_, by rfl, by (exact Kd.gq _ _ _ _ _), by repeat ((with_reducible first | exact HB.out | refine dN ?_ GE154.out))⟩
     ·rw [if_neg c7] at H
      have c7b0 : decide (x6_1 < (l1.length : Int)) = false := decide_eq_false c7
      clear c7
      obtain ⟨t158, A14, H⟩ := bP H
      obtain ⟨t161, A15, H⟩ := bP H
      by_cases c16 : t161 = true
      focus
       subst c16
       rw [if_pos rfl] at H
      rotate_left
      focus
       replace c16 := Bool.eq_false_iff.mpr c16
       subst c16
       rw [if_neg ff_] at H
      rotate_left
      all_goals
       simp only [Option.some.injEq, Prod.mk.injEq] at H
       obtain ⟨rfl, rfl, rfl⟩ := H
       go_wp2_with (first | (refine gl_ (some 26) Tryz.func49 #[.slice A1 l1.length c1] ?_; (with_reducible refine (dY.calls k1 _ _ l1 t158 _ ?side1 ?side2 A14.out).mono ?_); (case side1 => repeat ((exact (Kd.fM HR1.out HB.out)))); (case side2 => exact HC1.out); rintro e w17 ⟨v159, rfl, ho0, hb⟩; refine ⟨_, rfl, ?_⟩; have HO160 := ah.mk (Kd.bZ ho0 (av HB.out)); replace BK154 := ah.mk (aD (by ((exact BK154.out))) hb); replace HB := ah.mk (ak HB.out hb); (try clear hb); (try clear ho0); obtain ⟨Ao18, co18, eo18⟩ := Kd.bO HO160.out; subst eo18) | (refine gl_ (some 29) Tryz.func50 #[.string a0, .slice Ao18 t158.length co18] ?_; (with_reducible refine (aR.calls k1 a0 _ _ t158 _ _ ?side1 ?side2 A15.out).mono ?_); (case side1 => exact (Kd.aN HO160.out).2.2); (case side2 => exact (Kd.aN HO160.out).2.1); rintro e w19 ⟨rfl, hb⟩; refine ⟨_, rfl, ?_⟩; replace HO160 := ah.mk (Kd.bI (by ((exact HO160.out))) hb); replace BK154 := ah.mk (aD (by ((exact BK154.out))) hb); replace HB := ah.mk (ak HB.out hb); (try clear hb); obtain ⟨hcz20_0, hcz20_1, hfz20_0, hfz20_1⟩ := z2_ BK154.out))
      ·refine bodyPost_ret (gN rfl _ _ gb154 31 #[.string a0, .slice Ao18 t158.length co18] (0, 0) _ rfl (by (with_reducible repeat ((refine aA ?_ _))); refine bH (cs := #[.string a0, .slice none 0 0]) ?_ 1 _ rfl; (with_reducible repeat ((refine aA ?_ _))); refine bH (cs := #[.string x155000_1, .slice none 0 0]) ?_ 0 _ rfl; (with_reducible repeat ((refine aA ?_ _))); exact BK154.out) Tryz.underlying31 rfl (by kernel_rfl)) rfl ?_
       exact ⟨_, by rfl, by (with_reducible repeat ((apply Kd.aK))); exact Kd.dH (Kd.gZ (p := ⟨gb154, 1, none⟩) (Kd.gZ (p := ⟨gb154, 0, none⟩) (Kd.jW HO160.out BK154.out (by decide)) (fun _ hk => hk.2) (.string a0)) (fun _ hk => hk.2) (.slice Ao18 t158.length co18)) (fun _ hk => trivial), by repeat ((with_reducible first | exact HB.out | refine dN ?_ GE154.out))⟩
      ·refine bodyPost_ret (gN rfl _ _ gb154 31 #[.string (⟨#[]⟩ : ByteArray), .slice none 0 0] (0, 0) _ rfl (by (with_reducible repeat ((refine aA ?_ _))); refine bH (cs := #[.string (⟨#[]⟩ : ByteArray), .slice none 0 0]) ?_ 1 _ rfl; (with_reducible repeat ((refine aA ?_ _))); refine bH (cs := #[.string x155000_1, .slice none 0 0]) ?_ 0 _ rfl; (with_reducible repeat ((refine aA ?_ _))); exact BK154.out) Tryz.underlying31 rfl (by kernel_rfl)) rfl ?_
       exact ⟨_, by rfl, by (exact Kd.gq _ _ _ _ _), by repeat ((with_reducible first | exact HB.out | refine dN ?_ GE154.out))⟩
  ·replace c4 := Bool.eq_false_iff.mpr c4
   subst c4
   rw [if_neg ff_] at H
   simp only [Option.some.injEq, Prod.mk.injEq] at H
   obtain ⟨rfl, rfl, rfl⟩ := H
   go_enter Tryz.func12, Tryz.ntmps12
   go_wp2_with (first | ((with_reducible refine bF (N := 4) rfl ?_); refine bQ ?hg (N := 4) ?hd (cs := #[.string (⟨#[]⟩ : ByteArray), .slice none 0 0]) (t := 31) ?hr ?_; (case hd => rfl); (case hg => rfl); (case hr => (go_simp; done)); intro gb154 hg w25 hbox hb; have BK154 := ah.mk (hbox); have GW154 := ah.mk (ge_ hg (av HB.out)); have GE154 := ah.mk (ge_ hg (av HB.out)); replace HB := ah.mk (ak HB.out hb); clear hb hbox hg) | (refine gl_ (some 9) Tryz.func47 #[.string a0] ?_; (with_reducible refine (bK.calls k a0 _ _ A3.out).mono ?_); rintro e w26 ⟨rfl, hb⟩; refine ⟨_, rfl, ?_⟩; replace BK154 := ah.mk (aD (by ((exact BK154.out))) hb); replace HB := ah.mk (ak HB.out hb); (try clear hb); obtain ⟨hcz27_0, hcz27_1, hfz27_0, hfz27_1⟩ := z2_ BK154.out))
   refine bodyPost_ret (gN rfl _ _ gb154 31 #[.string (⟨#[]⟩ : ByteArray), .slice none 0 0] (0, 0) _ rfl (by (with_reducible repeat ((refine aA ?_ _))); refine bH (cs := #[.string (⟨#[]⟩ : ByteArray), .slice none 0 0]) ?_ 1 _ rfl; (with_reducible repeat ((refine aA ?_ _))); refine bH (cs := #[.string (⟨#[]⟩ : ByteArray), .slice none 0 0]) ?_ 0 _ rfl; (with_reducible repeat ((refine aA ?_ _))); exact BK154.out) Tryz.underlying31 rfl (by kernel_rfl)) rfl ?_
   exact ⟨_, by rfl, by (exact Kd.gq _ _ _ _ _), by repeat ((with_reducible first | exact HB.out | refine dN ?_ GE154.out))⟩
noncomputable def eF.f (k : Nat) (a0_0 : ByteArray) (l0_1 : List (S44)) (a1 : ByteArray) : Option (Bool) := (bD.f k l0_1 a1).bind fun t163 => (some (decide ((t163.length : Int) > 0)))
theorem eF.calls (k : Nat) (a0_0 : ByteArray) (A0_1 : Option Addr) (c0_1 : Nat) (l0_1 : List (S44)) (a1 : ByteArray) (r : Bool) (w : World) (hr0_1 : Kd.C k44 w A0_1 l0_1.length l0_1) (hc0_1 : l0_1.length ≤ c0_1) (h : eF.f k a0_0 l0_1 a1 = some r) :
  Calls Tryz.prog 19 #[.agg #[.string a0_0, .slice A0_1 l0_1.length c0_1], .string a1] w fun e w' => e = .returned (.bool r) ∧ Below w.heap.size w w' := by
 have hu31 := Tryz.underlying31
 have HR0_1 := ah.mk hr0_1
 have HC0_1 := ah.mk hc0_1
 clear hr0_1 hc0_1
 have HB := ah.mk (Below.refl w.heap.size w)
 have H : ((bD.f k l0_1 a1).bind fun t163 => (some (decide ((t163.length : Int) > 0)))) = some r := h
 clear h
 obtain ⟨t163, A3, H⟩ := bP H
 obtain rfl := Option.some.inj H
 go_enter Tryz.func19, Tryz.ntmps19
 go_wp2_with (first | ((with_reducible refine bF (N := 2) rfl ?_); refine bQ ?hg (N := 2) ?hd (cs := #[.string a0_0, .slice A0_1 l0_1.length c0_1]) (t := 31) ?hr ?_; (case hd => rfl); (case hg => rfl); (case hr => (go_simp; done)); intro gb162 hg w4 hbox hb; have BK162 := ah.mk (hbox); have GW162 := ah.mk (ge_ hg (av HB.out)); have GE162 := ah.mk (ge_ hg (av HB.out)); replace HB := ah.mk (ak HB.out hb); clear hb hbox hg; obtain ⟨hcz5_0, hcz5_1, hfz5_0, hfz5_1⟩ := z2_ BK162.out) | (refine gl_ (some 8) Tryz.func17 #[.slice A0_1 l0_1.length c0_1, .string a1] ?_; (with_reducible refine (bD.calls k _ _ l0_1 a1 t163 _ ?side1 ?side2 A3.out).mono ?_); (case side1 => repeat ((exact (Kd.fM HR0_1.out HB.out)))); (case side2 => exact HC0_1.out); rintro e w6 ⟨v164, rfl, ho0, hb⟩; refine ⟨_, rfl, ?_⟩; have HO165 := ah.mk (Kd.bZ ho0 (av HB.out)); replace BK162 := ah.mk (aD (by ((exact BK162.out))) hb); replace HB := ah.mk (ak HB.out hb); (try clear hb); (try clear ho0); obtain ⟨Ao7, co7, eo7⟩ := Kd.bO HO165.out; subst eo7))
 go_ret
 exact ⟨by rfl, HB.out⟩
end Go.Y.PZh
namespace Go.Y.Rrs
open Go.RowKit Go.V.aC Go.V.aV Go.V.aX Go.Y.Given Go.Y.PRd Go.Y.PRr Go.Y.PZh Go.Y.Oct Go.Y.Name Go.Y.Cmp Go.Y.gu Go.Y.fQ Go.Y.iD
theorem Gl (t : Int) : fZ.f t = some (qD t) := by
 unfold qD iM.f fZ.f
 repeat' split
 all_goals rfl
theorem Ap (a : ByteArray) (s : List RR) (n : ByteArray) (t : Int) (hn : s.length ≤ 1000000) : Ev (fun k => eZ.f k a s n t) (mI s n t) := by
 unfold eZ.f
 refine Ev.bind (uX s n hn) (Ev.bind (xk _ t (Nat.le_trans (sO s n) hn)) (Ev.now _))
def qo (a : ByteArray) (s : List RR) (x : RR) : Bool := lU a x && ((!(x.f1 == 6) || fG x.f0 a) && (!(x.f1 == 5) || (atL s x.f0).length == 1))
def qj (a : ByteArray) (s : List RR) : Bool := (fE s 6).length == 1 && decide (0 < (mI s a 2).length)
def lS (a : ByteArray) (s : List RR) : Bool := s.all (qo a s) && qj a s
theorem Ar (n : Nat) : decide ((n : Int) > 0) = decide (0 < n) := by
 by_cases h : 0 < n
 ·rw [decide_eq_true h, decide_eq_true (by omega)]
 ·rw [decide_eq_false h, decide_eq_false (by omega)]
theorem GZ (a : ByteArray) (s : List RR) (hn : s.length ≤ 1000000) : ∀ (d i : Nat), s.length ≤ i + d → i ≤ s.length → Ev (fun k => aR.l0 k a s (i : Int)) ((s.drop i).all (qo a s) && qj a s) := by
 have hend : ∀ i : Nat, s.length ≤ i → Ev (fun k => aR.l0 k a s (i : Int)) ((s.drop i).all (qo a s) && qj a s) := by
  intro i hd
  have hs : ∀ k, aR.l0 (k + 1) a s (i : Int) = (bJ.f k s 6).bind fun t => if (t.length : Int) = 1 then ((eZ.f k a s a 2).bind fun u => some (decide ((u.length : Int) > 0))) else some false := fun k => by
   rw [aR.l0]; rw [if_neg (by omega)]
  refine Ev.step hs (Ev.bind (xk s 6 hn) ?_)
  rw [List.drop_of_length_le hd, List.all_nil, Bool.true_and]
  unfold qj
  by_cases h : (fE s 6).length = 1
  ·simp only [show (((fE s 6).length : Int) = 1) = True from eq_true (by omega), if_true]
   rw [h]
   refine Ev.bind (Ap a s a 2 hn) ?_
   rw [Ar]
   exact Ev.now _
  ·simp only [show (((fE s 6).length : Int) = 1) = False from eq_false (by omega), if_false]
   rw [beq_eq_false_iff_ne.mpr h, Bool.false_and]
   exact Ev.now _
 intro d
 induction d with
 | zero => exact fun i hd _ => hend i (by omega)
 | succ d ih =>
  intro i hd hi0
  by_cases hi : i < s.length
  ·have e1 : wrap64 ((i : Int) + 1) = ((i + 1 : Nat) : Int) := by unfold wrap64; omega
   have hr := eH s i hi
   have ihn := ih (i + 1) (by omega) (by omega)
   rw [List.drop_eq_getElem_cons hi, List.all_cons]
   obtain ⟨R, hR⟩ : ∃ R, ((s.drop (i + 1)).all (qo a s) && qj a s) = R := ⟨_, rfl⟩
   rw [hR] at ihn
   rw [Bool.and_assoc, hR]
   have hoff : Ev (fun k => aR.j1 k a s (i : Int) true) false := Ev.step (f := fun _ => some false) (fun k => by rw [aR.j1, if_pos rfl]) (Ev.now _)
   have hcn : Ev (fun k => if (rdR s (i : Int)).f1 = 5 then ((bD.f k s (rdR s (i : Int)).f0).bind fun t => if (t.length : Int) = 1 then aR.l0 k a s ((i + 1 : Nat) : Int) else some false) else aR.l0 k a s ((i + 1 : Nat) : Int)) ((!(s[i].f1 == 5) || (atL s s[i].f0).length == 1) && R) := by
    rw [hr]
    by_cases h5 : s[i].f1 = 5
    ·simp only [h5, if_true, beq_self_eq_true, Bool.not_true, Bool.false_or]
     refine Ev.bind (uX s _ hn) ?_
     by_cases h : (atL s s[i].f0).length = 1
     ·simp only [show (((atL s s[i].f0).length : Int) = 1) = True from eq_true (by omega), if_true]
      rw [h]
      exact ihn
     ·simp only [show (((atL s s[i].f0).length : Int) = 1) = False from eq_false (by omega), if_false]
      rw [beq_eq_false_iff_ne.mpr h, Bool.false_and]
      exact Ev.now _
    ·simp only [h5, if_false, beq_eq_false_iff_ne.mpr h5, Bool.not_false, Bool.true_or, Bool.true_and]
     exact ihn
   have hon : Ev (fun k => aR.j1 k a s (i : Int) false) (((!(s[i].f1 == 6) || fG s[i].f0 a) && (!(s[i].f1 == 5) || (atL s s[i].f0).length == 1)) && R) := by
    have hs : ∀ k, aR.j1 (k + 1) a s (i : Int) false = if (rdR s (i : Int)).f1 = 6 then ((dJ.f k (rdR s (i : Int)).f0 a).bind fun t => if t = true then (if (rdR s (i : Int)).f1 = 5 then ((bD.f k s (rdR s (i : Int)).f0).bind fun t => if (t.length : Int) = 1 then aR.l0 k a s ((i + 1 : Nat) : Int) else some false) else aR.l0 k a s ((i + 1 : Nat) : Int)) else some false)
      else if (rdR s (i : Int)).f1 = 5 then ((bD.f k s (rdR s (i : Int)).f0).bind fun t => if (t.length : Int) = 1 then aR.l0 k a s ((i + 1 : Nat) : Int) else some false) else aR.l0 k a s ((i + 1 : Nat) : Int) := fun k => by
     rw [aR.j1, e1]
     rw [if_neg (by decide), if_pos (by omega), if_pos (by omega)]
    refine Ev.step hs ?_
    rw [hr] at hcn ⊢
    rw [Bool.and_assoc]
    by_cases h6 : s[i].f1 = 6
    ·simp only [h6, if_true, beq_self_eq_true, Bool.not_true, Bool.false_or]
     simp only [h6] at hcn
     refine Ev.bind (wQ _ _) ?_
     cases fG s[i].f0 a
     ·simp only [Bool.false_eq_true, if_false, Bool.false_and]; exact Ev.now _
     ·simp only [if_true, Bool.true_and]; exact hcn
    ·simp only [h6, if_false, beq_eq_false_iff_ne.mpr h6, Bool.not_false, Bool.true_or, Bool.true_and]
     exact hcn
   have hs : ∀ k, aR.l0 (k + 1) a s (i : Int) = if (rdR s (i : Int)).f2 = 1 then ((fZ.f (rdR s (i : Int)).f1).bind fun t => if t = true then ((aQ.f k (rdR s (i : Int)).f0 a).bind fun u => aR.j1 k a s (i : Int) (!u)) else aR.j1 k a s (i : Int) true) else aR.j1 k a s (i : Int) true := fun k => by
    rw [aR.l0]; rw [if_pos (by omega), if_pos (by omega)]
   refine Ev.step hs ?_
   rw [hr]
   unfold qo lU
   by_cases h2 : s[i].f2 = 1
   ·simp only [h2, if_true, Gl, Option.bind_some, decide_true, Bool.true_and]
    cases qD s[i].f1
    ·simp only [Bool.false_eq_true, if_false, Bool.false_and]; exact hoff
    ·simp only [if_true, Bool.true_and]
     refine Ev.bind (wO _ _) ?_
     cases kE s[i].f0 a
     ·simp only [Bool.not_false, Bool.false_and]; exact hoff
     ·simp only [Bool.not_true, Bool.true_and]; exact hon
   ·simp only [h2, if_false, decide_false, Bool.false_and]
    exact hoff
  ·exact hend i (by omega)
theorem Dm (a : ByteArray) (s : List RR) (hn : s.length ≤ 1000000) : Ev (fun k => aR.f k a s) (lS a s) := by
 have := GZ a s hn s.length 0 (by omega) (Nat.zero_le _)
 rw [List.drop_zero] at this
 exact this
noncomputable def newR (a : ByteArray) (l : List RR) : ByteArray × List RR × Int :=
 if (bG a && l.all gU) = true then (if lS a (ofL aW l) = true then (a, ofL aW l, 0) else ((⟨#[]⟩ : ByteArray), [], 9)) else ((⟨#[]⟩ : ByteArray), [], 2)
theorem Ef (a : ByteArray) (l : List RR) (hn : l.length ≤ 100000) : ∀ (d i : Nat), l.length ≤ i + d → i ≤ l.length → (∀ y ∈ l.take i, gU y = true) → Ev (fun k => dB.l0 k a l (i : Int)) (if l.all gU = true then (if lS a (ofL aW l) = true then (a, ofL aW l, 0) else ((⟨#[]⟩ : ByteArray), [], 9)) else ((⟨#[]⟩ : ByteArray), [], 2)) := by
 have hend : ∀ i : Nat, l.length ≤ i → (∀ y ∈ l.take i, gU y = true) → Ev (fun k => dB.l0 k a l (i : Int)) (if l.all gU = true then (if lS a (ofL aW l) = true then (a, ofL aW l, 0) else ((⟨#[]⟩ : ByteArray), [], 9)) else ((⟨#[]⟩ : ByteArray), [], 2)) := by
  intro i hd hl
  rw [List.take_of_length_le hd] at hl
  have hall : l.all gU = true := List.all_eq_true.mpr hl
  have hf : ∀ y ∈ l, fine y := fun y hy => pE (hl y hy)
  have hs : ∀ k, dB.l0 (k + 1) a l (i : Int) = (dY.f k l).bind fun t => (aR.f k a t).bind fun u => if u = true then some (a, t, 0) else some ((⟨#[]⟩ : ByteArray), [], 9) := fun k => by
   rw [dB.l0]; rw [if_neg (by omega)]
  refine Ev.step hs (Ev.bind (Jz l hf hn) (Ev.bind (Dm a _ (uG hf hn).len) ?_))
  rw [if_pos hall]
  cases lS a (ofL aW l)
  ·simp only [Bool.false_eq_true, if_false]; exact Ev.now _
  ·simp only [if_true]; exact Ev.now _
 intro d
 induction d with
 | zero => exact fun i hd _ hl => hend i (by omega) hl
 | succ d ih =>
  intro i hd hi0 hl
  by_cases hi : i < l.length
  ·have e1 : wrap64 ((i : Int) + 1) = ((i + 1 : Nat) : Int) := by unfold wrap64; omega
   have hr := eH l i hi
   have hs : ∀ k, dB.l0 (k + 1) a l (i : Int) = (bn.f k (rdR l (i : Int)).f0 (rdR l (i : Int)).f1 (rdR l (i : Int)).f2 (rdR l (i : Int)).f3 (rdR l (i : Int)).f4).bind fun t => if t = true then dB.l0 k a l ((i + 1 : Nat) : Int) else some ((⟨#[]⟩ : ByteArray), [], 2) := fun k => by
    rw [dB.l0, e1]; rw [if_pos (by omega), if_pos (by omega)]
   rw [hr] at hs
   refine Ev.step hs (Ev.bind (Dh l[i]) ?_)
   cases h : gU l[i]
   ·have hall : ¬ l.all gU = true := fun e => by rw [List.all_eq_true.mp e _ (List.getElem_mem hi)] at h; cases h
    rw [if_neg hall]
    simp only [Bool.false_eq_true, if_false]
    exact Ev.now _
   ·simp only [if_true]
    refine ih (i + 1) (by omega) (by omega) fun y hy => ?_
    rw [List.take_succ_eq_append_getElem hi] at hy
    rcases List.mem_append.mp hy with hy | hy
    ·exact hl y hy
    ·rw [List.mem_singleton.mp hy]; exact h
  ·exact hend i (by omega) hl
theorem Io (a : ByteArray) (l : List RR) (hn : l.length ≤ 100000) : Ev (fun k => dB.f k a l) (newR a l) := by
 unfold dB.f
 refine Ev.bind (uV a) ?_
 have h := Ef a l hn l.length 0 (by omega) (Nat.zero_le _) (fun y hy => by rw [List.take_zero] at hy; cases hy)
 unfold newR
 cases bG a
 ·simp only [Bool.false_eq_true, if_false, Bool.false_and]; exact Ev.now _
 ·simp only [if_true, Bool.true_and]; exact h
theorem filter_one {l : List RR} {p : RR → Bool} {i : Nat} (hi : i < l.length) (hp : p l[i] = true) (h : ∀ (j : Nat) (hj : j < l.length), j ≠ i → p l[j] = false) : l.filter p = [l[i]] := by
 have e : l = l.take i ++ l[i] :: l.drop (i + 1) := by rw [← List.drop_eq_getElem_cons hi, List.take_append_drop]
 have h1 : (l.take i).filter p = [] := by
  rw [List.filter_eq_nil_iff]
  intro x hx
  obtain ⟨j, hj, rfl⟩ := List.getElem_of_mem hx
  rw [List.length_take] at hj
  rw [List.getElem_take, h j (by omega) (by omega)]; exact Bool.false_ne_true
 have h2 : (l.drop (i + 1)).filter p = [] := by
  rw [List.filter_eq_nil_iff]
  intro x hx
  obtain ⟨j, hj, rfl⟩ := List.getElem_of_mem hx
  rw [List.length_drop] at hj
  rw [List.getElem_drop, h _ (by omega) (by omega)]; exact Bool.false_ne_true
 have e2 : l.filter p = (l.take i ++ l[i] :: l.drop (i + 1)).filter p := congrArg (List.filter p) e
 rw [e2, List.filter_append, h1, List.filter_cons, if_pos hp, h2]; rfl
theorem Dj {l : List RR} {p : RR → Bool} {i : Nat} (hi : i + 1 < l.length) (h1 : p l[i] = true) (h2 : p l[i + 1] = true) : 2 ≤ (l.filter p).length := by
 have hs : [l[i], l[i + 1]].Sublist l := by
  refine List.Sublist.trans ?_ (List.drop_sublist i l)
  rw [FJ l i hi]
  exact ((List.nil_sublist _).cons_cons _).cons_cons _
 have := (hs.filter p).length_le
 rw [List.filter_cons, if_pos h1, List.filter_cons, if_pos h2] at this
 exact Nat.le_trans (by simp) this
theorem IG {x y : RR} (h : aW x y < 0) : cmpL (je x) (je y) ≤ 0 := by
 unfold aW at h
 unfold kJ at h
 split at h
 ·rename_i e; simp only [] at e; omega
 ·simp only [] at h; omega
theorem yF {s : List RR} (h : lg s) {i j : Nat} (hij : i ≤ j) (hj : j < s.length) : cmpL (je s[i]) (je s[j]) ≤ 0 := by
 by_cases e : i = j
 ·subst e; rw [oQ.self]; omega
 ·exact IG (List.pairwise_iff_getElem.mp h.set i j (by omega) hj (by omega))
theorem tJ {s : List RR} (h : lg s) {i m j : Nat} (him : i ≤ m) (hmj : m ≤ j) (hj : j < s.length) (e : je s[i] = je s[j]) : je s[m] = je s[i] := by
 have h1 := yF h him (by omega)
 have h2 := yF h hmj hj
 rw [← e] at h2
 have h3 := oQ.flip (je s[i]) (je s[m])
 exact (oQ.zero _ _ (by omega))
theorem sH {s : List RR} (h : lg s) {i j : Nat} (hi : i < s.length) (hj : j < s.length) : fG s[i].f0 s[j].f0 = true ↔ je s[i] = je s[j] := wM (h.all _ (List.getElem_mem hi)).1 (h.all _ (List.getElem_mem hj)).1
theorem yA {s : List RR} (h : lg s) {i : Nat} (hi : i < s.length) (h5 : s[i].f1 = 5) : mQ s i = true ↔ (atL s s[i].f0).length = 1 := by
 have hself : fG s[i].f0 s[i].f0 = true := uL (h.all _ (List.getElem_mem hi)).1
 unfold mQ
 rw [eH s i hi, h5, beq_self_eq_true, Bool.true_and]
 constructor
 ·intro hn
  rw [Bool.not_eq_true', Bool.or_eq_false_iff] at hn
  have hall : ∀ (j : Nat) (hj : j < s.length), j ≠ i → fG s[j].f0 s[i].f0 = false := by
   intro j hj hne
   cases hc : fG s[j].f0 s[i].f0
   ·rfl
   ·exfalso
    have e := (sH h hj hi).mp hc
    by_cases hlt : j < i
    ·have h1 := tJ h (show j ≤ i - 1 by omega) (show i - 1 ≤ i by omega) hi e
     have h2 := (sH h (show i - 1 < s.length by omega) hi).mpr (h1.trans e)
     have h3 := hn.1
     rw [decide_eq_true (show 0 < i by omega), Bool.true_and, eH s (i - 1) (by omega), h2] at h3
     cases h3
    ·have h1 := tJ h (show i ≤ i + 1 by omega) (show i + 1 ≤ j by omega) hj e.symm
     have h2 := (sH h (show i + 1 < s.length by omega) hi).mpr h1
     have h3 := hn.2
     rw [decide_eq_true (show i + 1 < s.length by omega), Bool.true_and, eH s (i + 1) (by omega), h2] at h3
     cases h3
  unfold atL
  rw [filter_one hi hself hall]; rfl
 ·intro hl
  rw [Bool.not_eq_true', Bool.or_eq_false_iff]
  constructor
  ·by_cases h0 : 0 < i
   ·rw [decide_eq_true h0, Bool.true_and, eH s (i - 1) (by omega)]
    cases hc : fG s[i - 1].f0 s[i].f0
    ·rfl
    ·obtain ⟨m, rfl⟩ : ∃ m, i = m + 1 := ⟨i - 1, by omega⟩
     have := Dj (l := s) (p := fun x => fG x.f0 s[m + 1].f0) (i := m) hi hc hself
     unfold atL at hl; omega
   ·rw [decide_eq_false h0]; rfl
  ·by_cases h0 : i + 1 < s.length
   ·rw [decide_eq_true h0, Bool.true_and, eH s (i + 1) h0]
    cases hc : fG s[i + 1].f0 s[i].f0
    ·rfl
    ·have := Dj (l := s) (p := fun x => fG x.f0 s[i].f0) (i := i) h0 hself hc
     unfold atL at hl; omega
   ·rw [decide_eq_false h0]; rfl
theorem Da {s : List RR} (h : lg s) : pz s = true ↔ ∀ x ∈ s, x.f1 = 5 → (atL s x.f0).length = 1 := by
 rw [vM]
 constructor
 ·intro ha x hx h5
  obtain ⟨i, hi, rfl⟩ := List.getElem_of_mem hx
  exact (yA h hi h5).mp (ha i hi)
 ·intro ha i hi
  by_cases h5 : s[i].f1 = 5
  ·exact (yA h hi h5).mpr (ha _ (List.getElem_mem hi) h5)
  ·unfold mQ
   rw [eH s i hi, beq_eq_false_iff_ne.mpr h5]; rfl
def sP (a : ByteArray) (s : List RR) : Bool := s.all (lU a) && ((fE s 6).length == 1 && (fG (rdR (fE s 6) 0).f0 a && (!(mI s a 2).isEmpty && pz s)))
theorem zV {s : List RR} (h1 : (fE s 6).length = 1) : ∃ y, fE s 6 = [y] ∧ y ∈ s ∧ y.f1 = 6 := by
 obtain ⟨y, e⟩ := List.length_eq_one_iff.mp h1
 have hm : y ∈ fE s 6 := by rw [e]; exact List.mem_singleton.mpr rfl
 unfold fE at hm
 exact ⟨y, e, (List.mem_filter.mp hm).1, beq_iff_eq.mp (List.mem_filter.mp hm).2⟩
theorem GJ {a : ByteArray} {s : List RR} (h : lg s) : sP a s = lS a s := by
 rw [Bool.eq_iff_iff]
 unfold sP lS qj
 simp only [Bool.and_eq_true, beq_iff_eq, decide_eq_true_eq, Da h, List.all_eq_true, Bool.not_eq_true']
 have hne : (mI s a 2).isEmpty = false ↔ 0 < (mI s a 2).length := by
  cases mI s a 2 <;> simp
 rw [hne]
 unfold qo
 simp only [Bool.and_eq_true, Bool.or_eq_true, Bool.not_eq_true', beq_eq_false_iff_ne, beq_iff_eq]
 constructor
 ·rintro ⟨hw, h6, ha, h2, hc⟩
  obtain ⟨y, ey, hy, hy6⟩ := zV h6
  rw [ey] at ha
  refine ⟨fun x hx => ⟨hw x hx, ?_, ?_⟩, h6, h2⟩
  ·by_cases e : x.f1 = 6
   ·have : x ∈ fE s 6 := by unfold fE; exact List.mem_filter.mpr ⟨hx, by rw [e]; rfl⟩
    rw [ey] at this
    rw [List.mem_singleton.mp this]
    exact .inr ha
   ·exact .inl e
  ·by_cases e : x.f1 = 5
   ·exact .inr (hc x hx e)
   ·exact .inl e
 ·rintro ⟨ho, h6, h2⟩
  obtain ⟨y, ey, hy, hy6⟩ := zV h6
  refine ⟨fun x hx => (ho x hx).1, h6, ?_, h2, fun x hx h5 => ?_⟩
  ·rw [ey]
   rcases (ho y hy).2.1 with e | e
   ·exact absurd hy6 e
   ·exact e
  ·rcases (ho x hx).2.2 with e | e
   ·exact absurd h5 e
   ·exact e
theorem Fu (l : List RR) (hn : l.length ≤ 9223372036854775807) : ∀ (d i : Nat), d + i = 40 → i ≤ l.length → ∃ b, Ev (fun k => bE.l0 k l (i : Int)) b ∧ (b = true → l.length ≤ 30) := by
 have hdone : ∀ i : Nat, Ev (fun k => bE.j1 k l (i : Int) false) (decide ((l.length : Int) ≤ 30)) := fun i => Ev.step (f := fun _ => some (decide ((l.length : Int) ≤ 30))) (fun k => by rw [bE.j1, if_neg (by decide)]) (Ev.now _)
 have hok : decide ((l.length : Int) ≤ 30) = true → l.length ≤ 30 := fun e => by have := of_decide_eq_true e; omega
 intro d
 induction d with
 | zero =>
  intro i hd hi0
  refine ⟨_, Ev.step (f := fun k => bE.j1 k l (i : Int) false) (fun k => ?_) (hdone i), hok⟩
  rw [bE.l0, decide_eq_false (show ¬ (i : Int) < 40 by omega)]
  split <;> rfl
 | succ d ih =>
  intro i hd hi0
  by_cases hi : i < l.length
  ·have e1 : wrap64 ((i : Int) + 1) = ((i + 1 : Nat) : Int) := by unfold wrap64; omega
   have hs : ∀ k, bE.l0 (k + 1) l (i : Int) = bE.j1 k l (i : Int) true := fun k => by
    rw [bE.l0, decide_eq_true (show (i : Int) < 40 by omega), if_pos (by omega)]
   have hj : ∀ k, bE.j1 (k + 1) l (i : Int) true = if ((rdR l (i : Int)).f4.size : Int) > 2000 then some false else if ((rdR l (i : Int)).f0.size : Int) > 600 then some false else bE.l0 k l ((i + 1 : Nat) : Int) := fun k => by
    rw [bE.j1, e1, if_pos rfl, if_pos (by omega), if_pos (by omega)]
   obtain ⟨b, hb, hb1⟩ := ih (i + 1) (by omega) (by omega)
   by_cases h4 : ((rdR l (i : Int)).f4.size : Int) > 2000
   ·refine ⟨false, Ev.step hs (Ev.step hj ?_), fun e => by cases e⟩
    simp only [h4, if_true]; exact Ev.now _
   ·by_cases h0 : ((rdR l (i : Int)).f0.size : Int) > 600
    ·refine ⟨false, Ev.step hs (Ev.step hj ?_), fun e => by cases e⟩
     simp only [h4, h0, if_true, if_false]; exact Ev.now _
    ·refine ⟨b, Ev.step hs (Ev.step hj ?_), hb1⟩
     simp only [h4, h0, if_false]; exact hb
  ·refine ⟨_, Ev.step (f := fun k => bE.j1 k l (i : Int) false) (fun k => ?_) (hdone i), hok⟩
   rw [bE.l0, if_neg (by omega)]
theorem Jq (l : List RR) (hn : l.length ≤ 9223372036854775807) : ∃ b, Ev (fun k => bE.f k l) b ∧ (b = true → l.length ≤ 30) := Fu l hn 40 0 (by omega) (Nat.zero_le _)
def mg (s : List RR) (n : ByteArray) : Bool := s.any fun x => fG x.f0 n
theorem DT (s : List RR) (n : ByteArray) : mg s n = decide (0 < (atL s n).length) := by
 unfold mg atL
 rw [Bool.eq_iff_iff, List.any_eq_true, decide_eq_true_eq, List.length_pos_iff_exists_mem]
 simp only [List.mem_filter]
theorem xC (a : ByteArray) (s : List RR) (n : ByteArray) (hn : s.length ≤ 1000000) : Ev (fun k => eF.f k a s n) (mg s n) := by
 unfold eF.f
 refine Ev.bind (uX s n hn) ?_
 rw [Ar, ← DT]
 exact Ev.now _
end Go.Y.Rrs
namespace Go.Y.Rrs
open Go.RowKit Go.V.aC Go.V.aV Go.V.aX Go.Y.Given Go.Y.PRd Go.Y.PRr Go.Y.PZo Go.Y.PZf Go.Y.Oct Go.Y.Name Go.Y.Cmp Go.Y.gu Go.Y.fQ Go.Y.iD
theorem II {p : Nat → RR → Option Bool} {b : RR → Bool} : ∀ (l : List RR), (∀ x ∈ l, Ev (fun k => p k x) (b x)) → ∃ K, ∀ k, K ≤ k → ∀ x ∈ l, p k x = some (b x) := by
 intro l
 induction l with
 | nil => exact fun _ => ⟨0, fun k _ x hx => by cases hx⟩
 | cons y l ih =>
  intro h
  obtain ⟨K1, h1⟩ := h y (List.mem_cons_self ..)
  obtain ⟨K2, h2⟩ := ih fun x hx => h x (List.mem_cons_of_mem _ hx)
  refine ⟨max K1 K2, fun k hk x hx => ?_⟩
  rcases List.mem_cons.mp hx with rfl | hx
  ·exact h1 k (by omega)
  ·exact h2 k (by omega) x hx
theorem yG {p : Nat → RR → Option Bool} {b : RR → Bool} (l : List RR) (hn : l.length ≤ 1000000) (h : ∀ x ∈ l, Ev (fun k => p k x) (b x)) : Ev (fun k => sF (p k) l) (l.any fun x => !b x) := by
 obtain ⟨K, hK⟩ := II l h
 refine ⟨K, fun k hk => ?_⟩
 have hk := hK k hk
 show sF (p k) l = _
 unfold sF
 rw [if_pos ⟨hn, fun x hx => by rw [hk x hx]; rfl⟩]
 congr 1
 rw [Bool.eq_iff_iff, List.any_eq_true, List.any_eq_true]
 exact ⟨fun ⟨x, hm, h⟩ => ⟨x, hm, by rw [hk x hm] at h; exact h⟩, fun ⟨x, hm, h⟩ => ⟨x, hm, by rw [hk x hm]; exact h⟩⟩
theorem Aj (l : List RR) (b : RR → Bool) : (l.any fun x => !b x) = !l.all b := by
 induction l with
 | nil => rfl
 | cons x l ih => rw [List.any_cons, List.all_cons, ih, Bool.not_and]
def idxFrom (s : List RR) (x : RR) : Nat → Nat → Int
 | 0, _ => -1
 | d + 1, i => if i < s.length then (if eqR x (rdR s (i : Int)) = true then (i : Int) else idxFrom s x d (i + 1)) else -1
def Jg (s : List RR) (x : RR) : Int := idxFrom s x s.length 0
theorem EK (s : List RR) (x : RR) (hn : s.length ≤ 1000000) : ∀ (d i : Nat), s.length ≤ i + d → i ≤ s.length → Ev (fun k => gF.l0 k s (s.length : Int) (i : Int) x.f0 x.f1 x.f2 x.f3 x.f4) (idxFrom s x d i) := by
 intro d
 induction d with
 | zero =>
  intro i hd hi0
  exact Ev.step (f := fun _ => some (-1)) (fun k => by rw [gF.l0]; rw [if_neg (by omega)]) (Ev.now _)
 | succ d ih =>
  intro i hd hi0
  rw [idxFrom]
  by_cases hi : i < s.length
  ·rw [if_pos hi]
   have e1 : wrap64 ((i : Int) + 1) = ((i + 1 : Nat) : Int) := by unfold wrap64; omega
   have hs : ∀ k, gF.l0 (k + 1) s (s.length : Int) (i : Int) x.f0 x.f1 x.f2 x.f3 x.f4 = if eqR x (rdR s (i : Int)) = true then some (i : Int) else gF.l0 k s (s.length : Int) ((i + 1 : Nat) : Int) x.f0 x.f1 x.f2 x.f3 x.f4 := fun k => by
    rw [gF.l0, e1]
    rw [if_pos (by omega), if_pos (by omega), if_pos (by omega)]
    rfl
   refine Ev.step hs ?_
   cases eqR x (rdR s (i : Int))
   ·simp only [Bool.false_eq_true, if_false]; exact ih (i + 1) (by omega) (by omega)
   ·simp only [if_true]; exact Ev.now _
  ·rw [if_neg hi]
   exact Ev.step (f := fun _ => some (-1)) (fun k => by rw [gF.l0]; rw [if_neg (by omega)]) (Ev.now _)
theorem Jl (s : List RR) (x : RR) (hn : s.length ≤ 1000000) : Ev (fun k => gF.f k s x.f0 x.f1 x.f2 x.f3 x.f4) (Jg s x) := EK s x hn s.length 0 (by omega) (Nat.zero_le _)
def yH (s : List RR) : Int := Jg s (rdR (fE s 6) 0)
theorem Gg (a : ByteArray) (s : List RR) (z : Int) (n : ByteArray) (t : Int) (hn : s.length ≤ 1000000) : jD.f a s z n t = some (mI s n t) := by
 unfold jD.f jc.f
 rw [Gf s n hn, Option.bind_some, Option.bind_some, yh _ t (Nat.le_trans (sO s n) hn)]; rfl
noncomputable def newP (a : ByteArray) (l : List RR) : ByteArray × List RR × Int × Int :=
 if (bG a && l.all gU) = true then (if sP a (ofL aW l) = true then (a, ofL aW l, yH (ofL aW l), 0) else ((⟨#[]⟩ : ByteArray), [], 0, 9)) else ((⟨#[]⟩ : ByteArray), [], 0, 2)
theorem DV (a : ByteArray) (l : List RR) (hn : l.length ≤ 65536) : Ev (fun k => cB.f k a l) (newP a l) := by
 have hbad : Ev (fun k => cB.j0 k l true a) ((⟨#[]⟩ : ByteArray), [], 0, 2) := Ev.step (f := fun _ => some ((⟨#[]⟩ : ByteArray), [], 0, 2)) (fun k => by rw [cB.j0, if_pos rfl]) (Ev.now _)
 unfold cB.f newP
 simp only [ku, Option.bind_some]
 cases hr : bG a
 ·simp only [Bool.false_eq_true, if_false, Bool.false_and]
  exact hbad
 ·simp only [if_true, Bool.true_and]
  refine Ev.bind (yG (p := fun k x => bC.f k x.f0 x.f1 x.f2 x.f3 x.f4) (b := gU) l (by omega) (fun x _ => uD x)) ?_
  rw [Aj]
  cases hall : l.all gU
  ·simp only [Bool.not_false, Bool.false_eq_true, if_false]
   exact hbad
  ·simp only [Bool.not_true, if_true]
   have hf : ∀ y ∈ l, fine y := fun y hy => pE (List.all_eq_true.mp hall y hy)
   have hS := uG hf (by omega)
   have hlen : (ofL aW l).length ≤ l.length := by have := wH l [] List.Pairwise.nil; unfold ofL; simpa using this
   obtain ⟨s, hs⟩ : ∃ s, ofL aW l = s := ⟨_, rfl⟩
   rw [hs] at hS hlen ⊢
   have hst : ∀ k, cB.j0 (k + 1) l false a = (lV.f k s a).bind fun t => if t = true then some ((⟨#[]⟩ : ByteArray), [], 0, 9) else if ((fE s 6).length : Int) = 1 then (if 0 < ((fE s 6).length : Int) then (if fG (rdR (fE s 6) 0).f0 a = true then (if ((mI s a 2).length : Int) = 0 then some ((⟨#[]⟩ : ByteArray), [], 0, 9) else (bY.f k s).bind fun t => if t = true then ((gF.f k s (rdR (fE s 6) 0).f0 (rdR (fE s 6) 0).f1 (rdR (fE s 6) 0).f2 (rdR (fE s 6) 0).f3 (rdR (fE s 6) 0).f4).bind fun u => some (a, s, u, 0)) else some ((⟨#[]⟩ : ByteArray), [], 0, 9)) else some ((⟨#[]⟩ : ByteArray), [], 0, 9)) else none) else some ((⟨#[]⟩ : ByteArray), [], 0, 9) := fun k => by
    rw [cB.j0]
    rw [if_neg (by decide), JN hf (by omega), hs, Option.bind_some, if_neg (by omega), yh s 6 (by omega), Option.bind_some, Gg a s 0 a 2 (by omega), Option.bind_some]
    simp only [mK, Option.bind_some]
   refine Ev.step hst (Ev.bind (yG (p := fun k x => gL.f k a x.f0 x.f1 x.f2 x.f3 x.f4) (b := lU a) s (by omega) (fun x _ => ⟨300, fun k hk => uz a x k hk⟩)) ?_)
   rw [Aj]
   unfold sP
   cases s.all (lU a)
   ·simp only [Bool.not_false, if_true, Bool.false_and, Bool.false_eq_true, if_false]
    exact Ev.now _
   ·simp only [Bool.not_true, Bool.false_eq_true, if_false, Bool.true_and]
    by_cases h1 : (fE s 6).length = 1
    ·simp only [show (((fE s 6).length : Int) = 1) = True from eq_true (by omega), show (0 < ((fE s 6).length : Int)) = True from eq_true (by omega), if_true]
     rw [show ((fE s 6).length == 1) = true from by rw [h1]; rfl, Bool.true_and]
     cases fG (rdR (fE s 6) 0).f0 a
     ·simp only [Bool.false_eq_true, if_false, Bool.false_and]; exact Ev.now _
     ·simp only [if_true, Bool.true_and]
      by_cases h2 : mI s a 2 = []
      ·simp only [h2, List.length_nil, show ((((0 : Nat) : Int)) = 0) = True from eq_true rfl, if_true, List.isEmpty_nil, Bool.not_true, Bool.false_and, Bool.false_eq_true, if_false]
       exact Ev.now _
      ·have h3 : 0 < (mI s a 2).length := List.length_pos_iff.mpr h2
       simp only [show (((mI s a 2).length : Int) = 0) = False from eq_false (by omega), if_false]
       rw [show (mI s a 2).isEmpty = false from by rw [Bool.eq_false_iff]; exact fun e => h2 (List.isEmpty_iff.mp e), Bool.not_false, Bool.true_and]
       refine Ev.bind (FH s (by omega)) ?_
       cases pz s
       ·simp only [Bool.false_eq_true, if_false]; exact Ev.now _
       ·simp only [if_true]
        refine Ev.bind (Jl s _ (by omega)) ?_
        exact Ev.now _
    ·simp only [show (((fE s 6).length : Int) = 1) = False from eq_false (by omega), if_false]
     rw [beq_eq_false_iff_ne.mpr h1]
     simp only [Bool.false_and, Bool.false_eq_true, if_false]
     exact Ev.now _
structure IB (a : ByteArray) (s : List RR) : Prop where
 set : lg s
 small : s.length ≤ 65536
 zone : lS a s = true
 right : ∀ y ∈ s, gU y = true
 apex : bG a = true
theorem Fg (a : ByteArray) (l : List RR) (hn : l.length ≤ 65536) : (∃ s, IB a s ∧ s.length ≤ l.length ∧ newP a l = (a, s, yH s, 0) ∧ newR a l = (a, s, 0) ∧ ofL aW l = s) ∨ (∃ e, e ≠ 0 ∧ newP a l = ((⟨#[]⟩ : ByteArray), [], 0, e) ∧ newR a l = ((⟨#[]⟩ : ByteArray), [], e)) := by
 unfold newP newR
 by_cases h : (bG a && l.all gU) = true
 ·rw [if_pos h, if_pos h]
  rw [Bool.and_eq_true] at h
  have hf : ∀ y ∈ l, fine y := fun y hy => pE (List.all_eq_true.mp h.2 y hy)
  have hS := uG hf (by omega)
  have hlen : (ofL aW l).length ≤ l.length := by have := wH l [] List.Pairwise.nil; unfold ofL; simpa using this
  rw [GJ hS]
  by_cases hz : lS a (ofL aW l) = true
  ·rw [if_pos hz, if_pos hz]
   refine .inl ⟨_, ⟨hS, by omega, hz, fun y hy => ?_, h.1⟩, hlen, rfl, rfl, rfl⟩
   rcases Aq l [] hy with e | e
   ·cases e
   ·exact List.all_eq_true.mp h.2 y e
  ·rw [if_neg hz, if_neg hz]
   exact .inr ⟨9, by decide, rfl, rfl⟩
 ·rw [if_neg h, if_neg h]
  exact .inr ⟨2, by decide, rfl, rfl⟩
end Go.Y.Rrs
namespace Go.Y.Rrs
open Go.RowKit Go.V.aC Go.V.aV Go.V.aX Go.Y.Given Go.Y.PRd Go.Y.PRr Go.Y.PZo Go.Y.PZf Go.Y.PZh Go.Y.Name Go.Y.gu Go.Y.iD
theorem JG (a : ByteArray) (s : List RR) (z : Int) (hn : s.length ≤ 1000000) : jy.f a s z = some s := by
 unfold jy.f
 have hc : slices_Clone.f s = some s := by unfold slices_Clone.f; rw [if_pos (by omega)]
 rw [hc]; rfl
theorem wI (a : ByteArray) (s : List RR) (z : Int) (n : ByteArray) (hn : s.length ≤ 1000000) : fq.f a s z n = some (mg s n) := by
 unfold fq.f
 rw [if_pos ⟨hn, fun x _ => by rw [mK]; rfl⟩]
 rfl
theorem Fa (a : ByteArray) (s : List RR) (z : Int) (n : ByteArray) (hn : s.length ≤ 1000000) : jc.f a s z n = some (atL s n) := by
 unfold jc.f
 rw [Gf s n hn]; rfl
abbrev lr0 : RR := ⟨(⟨#[1, 97, 0]⟩ : ByteArray), 2, 1, 0, (⟨#[1, 110, 1, 97, 0]⟩ : ByteArray)⟩
abbrev lr1 : RR := ⟨(⟨#[1, 97, 0]⟩ : ByteArray), 6, 1, 0, (⟨#[1, 110, 1, 97, 0, 0, 0, 0, 0, 1, 0, 0, 0, 2, 0, 0, 0, 3, 0, 0, 0, 4, 0, 0, 0, 5]⟩ : ByteArray)⟩
abbrev lra : ByteArray := ⟨#[1, 97, 0]⟩
theorem EF : ofL aW [lr0, lr1] = [lr0, lr1] := by
 have h : aW lr1 lr0 = 1 := by
  have hn : je lr1 = je lr0 := rfl
  unfold aW kJ
  simp only [hn]
  rw [if_pos (oQ.self _)]
  decide
 show put aW (put aW [] lr0) lr1 = _
 rw [put, put, if_neg (by omega), if_neg (by omega), put]
theorem Je : gU lr0 = true := Ev.unique (uD lr0) (Ev.of (fun k => bC.mono _ _ _ _ _ k) (k := 20) (by kernel_rfl))
theorem Jc : gU lr1 = true := Ev.unique (uD lr1) (Ev.of (fun k => bC.mono _ _ _ _ _ k) (k := 20) (by kernel_rfl))
theorem Ih : lU lra lr0 = true := by
 have h := uz lra lr0 300 (Nat.le_refl _)
 have h2 := rR (fun k => gL.mono lra lr0.f0 lr0.f1 lr0.f2 lr0.f3 lr0.f4 k) (show 20 ≤ 300 by omega) (r := true) (by kernel_rfl)
 rw [h2] at h; exact (Option.some.inj h).symm
theorem Ie : lU lra lr1 = true := by
 have h := uz lra lr1 300 (Nat.le_refl _)
 have h2 := rR (fun k => gL.mono lra lr1.f0 lr1.f1 lr1.f2 lr1.f3 lr1.f4 k) (show 20 ≤ 300 by omega) (r := true) (by kernel_rfl)
 rw [h2] at h; exact (Option.some.inj h).symm
theorem wD : fG lra lra = true := uL (by kernel_rfl)
theorem BD : sP lra [lr0, lr1] = true := by
 have ht : fE [lr0, lr1] 6 = [lr1] := rfl
 have ha : atL [lr0, lr1] lra = [lr0, lr1] := by
  unfold atL
  rw [List.filter_cons, List.filter_cons]
  rw [if_pos wD, if_pos wD]; rfl
 have hs : mI [lr0, lr1] lra 2 = [lr0] := by unfold mI; rw [ha]; rfl
 have hp : pz [lr0, lr1] = true := by
  rw [vM]
  intro j hj
  unfold mQ
  rw [eH _ j hj]
  match j, hj with
  | 0, _ => rfl
  | 1, _ => rfl
 unfold sP
 rw [ht, hs, hp, List.all_cons, List.all_cons, Ih, Ie]
 show ((true && (true && true)) && ((1 == 1) && (fG lra lra && (true && true)))) = true
 rw [wD]; rfl
theorem Di : newP lra [lr0, lr1] = (lra, [lr0, lr1], yH [lr0, lr1], 0) := by
 unfold newP
 rw [List.all_cons, List.all_cons, Je, Jc, EF]
 rw [if_pos (by show (bG lra && _) = true; rw [show bG lra = true from by kernel_rfl]; rfl), if_pos BD]
theorem FW : Ev (fun k => cB.f k lra [lr0, lr1]) (lra, [lr0, lr1], yH [lr0, lr1], 0) := by
 rw [← Di]; exact DV _ _ (by simp)
theorem zH : mg [lr0, lr1] (⟨#[1, 65, 0]⟩ : ByteArray) = true := by
 have h : fG lra (⟨#[1, 65, 0]⟩ : ByteArray) = true := by
  have h1 := mK lra (⟨#[1, 65, 0]⟩ : ByteArray)
  rw [show dG.f lra (⟨#[1, 65, 0]⟩ : ByteArray) = some true from by kernel_rfl] at h1
  exact (Option.some.inj h1).symm
 unfold mg
 rw [List.any_cons, h]; rfl
theorem vE : Ev (fun k => fB.f k) true := by
 unfold fB.f iY.f
 simp only [Option.bind_some]
 refine Ev.bind FW ?_
 simp only [if_true]
 unfold jI.f
 simp only [Option.bind_some]
 rw [JG _ _ _ (by simp), wI _ _ _ _ (by simp), zH]
 refine Ev.const ?_
 rw [if_pos (by kernel_rfl), Option.bind_some, if_pos (by decide)]
 rfl
end Go.Y.Rrs
namespace Go.Y.PZh
open Go.RowKit Go.V.aC Go.V.aV Go.V.aX Go.Y.Given Go.Y.PRd Go.Y.PRr Go.Y.PZo Go.Y.PZf Go.Y.PZe
attribute [local go_sem] dP dQ eu eB dD dF dR dS   -- for this text's walks alone
noncomputable def bM.l0 : Nat → ByteArray → Int → ByteArray → List (S44) → Option (Bool)
 | 0, _, _, _, _ => none
 | k + 1, x1, x5, x167000, x167001 => if x5 < (x167001.length : Int) then (if 0 ≤ x5 then ((aQ.f k ((aj x167001 x5).f0) x1).bind fun t169 => (if t169 = true then (some true) else (bM.l0 k x1 (wrap64 (x5 + 1)) x167000 x167001))) else (none)) else (some false)
noncomputable def bM.f (k : Nat) (a0_0 : ByteArray) (l0_1 : List (S44)) (a1 : ByteArray) : Option (Bool) := (eF.f k a0_0 l0_1 a1).bind fun t167 => (if t167 = true then (some false) else (bM.l0 k a1 0 a0_0 l0_1))
theorem bM.calls (k : Nat) (a0_0 : ByteArray) (A0_1 : Option Addr) (c0_1 : Nat) (l0_1 : List (S44)) (a1 : ByteArray) (r : Bool) (w : World) (hr0_1 : Kd.C k44 w A0_1 l0_1.length l0_1) (hc0_1 : l0_1.length ≤ c0_1) (h : bM.f k a0_0 l0_1 a1 = some r) :
    Calls Tryz.prog 21 #[.agg #[.string a0_0, .slice A0_1 l0_1.length c0_1], .string a1] w fun e w' => e = .returned (.bool r) ∧ Below w.heap.size w w' := by
  have hu31 := Tryz.underlying31
  have HR0_1 := ah.mk hr0_1
  have HC0_1 := ah.mk hc0_1
  clear hr0_1 hc0_1
  have HB := ah.mk (Below.refl w.heap.size w)
  have H : ((eF.f k a0_0 l0_1 a1).bind fun t167 => (if t167 = true then (some false) else (bM.l0 k a1 0 a0_0 l0_1))) = some r := h
  clear h
  obtain ⟨t167, A3, H⟩ := bP H
  by_cases c4 : t167 = true
  focus
   subst c4
   rw [if_pos rfl] at H
   obtain rfl := Option.some.inj H
  rotate_left
  focus
   replace c4 := Bool.eq_false_iff.mpr c4
   subst c4
   rw [if_neg ff_] at H
   have H' := ah.mk H
   clear H
  rotate_left
  all_goals
   go_enter Tryz.func21, Tryz.ntmps21
   go_wp2_with (first | ((with_reducible refine bF (N := 2) rfl ?_); refine bQ ?hg (N := 2) ?hd (cs := #[.string a0_0, .slice A0_1 l0_1.length c0_1]) (t := 31) ?hr ?_; (case hd => rfl); (case hg => rfl); (case hr => (go_simp; done)); intro gb166 hg w5 hbox hb; have BK166 := ah.mk (hbox); have GW166 := ah.mk (ge_ hg (av HB.out)); have GE166 := ah.mk (ge_ hg (av HB.out)); replace HB := ah.mk (ak HB.out hb); clear hb hbox hg; obtain ⟨hcz6_0, hcz6_1, hfz6_0, hfz6_1⟩ := z2_ BK166.out) | ((with_reducible refine dA (f := 19) rfl ?_); refine fC (some 8) rfl rfl Tryz.func19 (by kernel_rfl) rfl #[.agg #[.string a0_0, .slice A0_1 l0_1.length c0_1], .string a1] rfl (by (try simp only [mA_, mC_, mN_]); rfl) ?_; (with_reducible refine (eF.calls k a0_0 _ _ l0_1 a1 _ _ ?side1 ?side2 A3.out).mono ?_); (case side1 => repeat ((exact (Kd.fM HR0_1.out HB.out)))); (case side2 => exact HC0_1.out); rintro e w7 ⟨rfl, hb⟩; refine ⟨_, rfl, ?_⟩; replace BK166 := ah.mk (aD (by ((exact BK166.out))) hb); replace HB := ah.mk (ak HB.out hb); (try clear hb)))
  ·go_ret
   exact ⟨by rfl, HB.out⟩
  ·go_loopg [5] k (fun kq v5 w' => ∃ (x5_1 : Int), v5 = .int .i64 x5_1 ∧ ah (bM.l0 kq a1 x5_1 a0_0 l0_1 = some r) ∧ ah (kq ≤ k) ∧ ah (w'.heap[gb166]? = some (.cells #[.string a0_0, (.slice A0_1 l0_1.length c0_1)] 31 (0, 0))) ∧ ah (Below w.heap.size w w'))
   case atStart => exact ⟨(0), (by rfl), H', ⟨Nat.le_refl _⟩, ⟨by (with_reducible repeat ((refine aA ?_ _))); exact BK166.out⟩, ⟨HB.out⟩⟩
   case round =>
    clear H'
    (try clear hcz6_0)
    (try clear hcz6_1)
    (try clear hfz6_0)
    (try clear hfz6_1)
    obtain ⟨x5_1, rfl, HA, HK1, BK166, HB⟩ := hrel
    cases gk with
    | zero => exact absurd HA.out (by simp [bM.l0])
    | succ k1 =>
     have H := HA.out
     clear HA
     simp only [bM.l0] at H
     by_cases c11 : x5_1 < (l0_1.length : Int)
     focus
      rw [if_pos c11] at H
      have c11b0 : decide (x5_1 < (l0_1.length : Int)) = true := decide_eq_true c11
      clear c11
      obtain ⟨c12b0, H⟩ := dU H
      obtain ⟨t169, A13, H⟩ := bP H
      by_cases c14 : t169 = true
      focus
       subst c14
       rw [if_pos rfl] at H
       obtain rfl := Option.some.inj H
      rotate_left
      focus
       replace c14 := Bool.eq_false_iff.mpr c14
       subst c14
       rw [if_neg ff_] at H
       have H' := ah.mk H
       clear H
      rotate_left
     rotate_left 2
     focus
      rw [if_neg c11] at H
      have c11b0 : decide (x5_1 < (l0_1.length : Int)) = false := decide_eq_false c11
      clear c11
      obtain rfl := Option.some.inj H
     rotate_left
     all_goals
      obtain ⟨hcz15_0, hcz15_1, hfz15_0, hfz15_1⟩ := z2_ BK166.out
     iterate 2
      focus
       have p168 : 0 ≤ (x5_1 : Int) := of_decide_eq_true (by assumption)
       have q168 : x5_1 < (l0_1.length : Int) := of_decide_eq_true (by assumption)
       obtain ⟨ad168, e168, hx168_0, hx168_1, hx168_2, hx168_3, hx168_4⟩ := dM HR0_1.out x5_1 p168 q168
       cases e168
       replace hx168_0 := kp_ HB.out hx168_0
       replace hx168_1 := kp_ HB.out hx168_1
       replace hx168_2 := kp_ HB.out hx168_2
       replace hx168_3 := kp_ HB.out hx168_3
       replace hx168_4 := kp_ HB.out hx168_4
       replace p168 := eq_true p168
       replace q168 := eq_true q168
       go_wp2_with ((((with_reducible refine dA (f := 57) rfl ?_); refine fC (some 23) rfl rfl Tryz.func57 (by kernel_rfl) rfl #[.string ((aj l0_1 x5_1).f0), .string a1] rfl (by (try simp only [mA_, mC_, mN_]); rfl) ?_; (with_reducible refine (aQ.calls k1 ((aj l0_1 x5_1).f0) a1 _ _ A13.out).mono ?_); rintro e w16 ⟨rfl, hb⟩; refine ⟨_, rfl, ?_⟩; replace BK166 := ah.mk (aD (by ((exact BK166.out))) hb); replace HB := ah.mk (ak HB.out hb); (try clear hb))))
      rotate_left
     rotate_left
     ·go_ret
      exact ⟨by rfl, HB.out⟩
     ·go_roundg k1
      case measure => have := HK1.out; omega
      case rel => exact ⟨(wrap64 (x5_1 + 1)), (by rfl), H', ⟨by have := HK1.out; omega⟩, ⟨by (with_reducible repeat ((refine aA ?_ _))); exact BK166.out⟩, ⟨HB.out⟩⟩
     ·go_wp2
      go_ret
      exact ⟨by rfl, HB.out⟩
end Go.Y.PZh
namespace Go.Y.PZh
open Go.RowKit Go.V.aC Go.V.aV Go.V.aX Go.Y.Given Go.Y.PRd Go.Y.PRr Go.Y.PZo Go.Y.PZf Go.Y.PZe
attribute [local go_sem] dP dQ eu eB dD dF dR dS   -- for this text's walks alone
mutual
noncomputable def ay.j0 : Nat → ByteArray → List (S44) → ByteArray → Bool → Option (Bool)
 | 0, _, _, _, _ => none
 | k + 1, x0, x1, x2, x23 => if x23 = true then ((fB.f k).bind fun t172 => (some t172)) else ((cB.f k x0 x1).bind fun bt173 => ((dB.f k x0 x1).bind fun bt180 => (if bt173.2.2.2 = 0 then (ay.j1 k x2 bt173.2.2.2 bt180.2.2 (bt180.2.2 != 0) bt173.1 bt173.2.1 bt173.2.2.1 bt180.1 bt180.2.1) else (ay.j1 k x2 bt173.2.2.2 bt180.2.2 true bt173.1 bt173.2.1 bt173.2.2.1 bt180.1 bt180.2.1))))
noncomputable def ay.j1 : Nat → ByteArray → Int → Int → Bool → ByteArray → List (S44) → Int → ByteArray → List (S44) → Option (Bool)
 | 0, _, _, _, _, _, _, _, _, _ => none
 | k + 1, x2, x8, x10, x42, x180000, x180001, x180002, x186000, x186001 => if x42 = true then (some (x8 == x10)) else (ay.l0 k x2 0 x180000 x180001 x180002 x186000 x186001)
noncomputable def ay.l0 : Nat → ByteArray → Int → ByteArray → List (S44) → Int → ByteArray → List (S44) → Option (Bool)
 | 0, _, _, _, _, _, _, _ => none
 | k + 1, x2, x11, x180000, x180001, x180002, x186000, x186001 => if x11 < 40 then ((jD.f x180000 x180001 x180002 x2 x11).bind fun t186 => ((eZ.f k x186000 x186001 x2 x11).bind fun t189 => ((cK.f k t186 t189).bind fun t192 => (if t192 = true then (ay.l0 k x2 (wrap64 (x11 + 1)) x180000 x180001 x180002 x186000 x186001) else (some false))))) else ((jc.f x180000 x180001 x180002 x2).bind fun t193 => ((bD.f k x186001 x2).bind fun t196 => ((cK.f k t193 t196).bind fun t199 => (if t199 = true then ((fq.f x180000 x180001 x180002 x2).bind fun t200 => ((eF.f k x186000 x186001 x2).bind fun t201 => (if (t200 == t201) = true then ((jq.f k x180000 x180001 x180002 x2).bind fun t202 => ((bM.f k x186000 x186001 x2).bind fun t203 => (some (t202 == t203)))) else (none)))) else (none)))))
end
noncomputable def ay.f (k : Nat) (a0 : ByteArray) (l1 : List (S44)) (a2 : ByteArray) : Option (Bool) := (fB.f k).bind fun t170 => (if t170 = true then ((bE.f k l1).bind fun t171 => (if t171 = true then (ay.j0 k a0 l1 a2 (decide ((a2.size : Int) > 600))) else (ay.j0 k a0 l1 a2 true))) else (ay.j0 k a0 l1 a2 true))
def ay.T10 : Bool × List (List Nat × List Nat) := (true, [([], []), ([], []), ([], []), ([0, 1, 2], [0, 1, 2]), ([], []), ([], []), ([], []), ([4, 5, 6, 3], [4, 5, 6]), ([3, 7, 7], [3, 7]), ([8], [8])])
def ay.B10 : List Nat := [0, 0, 0, 7, 0, 0, 0, 127, 255, 511]
theorem ay.Ju : fK .any (opsOf Tryz.f3 10) = ay.T10 := by kernel_rfl
theorem ay.IW : fP ay.T10.2 ay.B10 = true := by kernel_rfl
def ay.T12 : Bool × List (List Nat × List Nat) := (true, [([], []), ([], []), ([0, 1], [0, 1]), ([], []), ([3], [3]), ([], []), ([4, 5, 2], [4, 5]), ([2, 6, 6], [2, 6]), ([7, 7], [7]), ([8], [8]), ([8], [8]), ([9, 10, 8, 8], [8, 9, 10]), ([8], [8]), ([8], [8]), ([12, 13, 11, 8], [8, 12, 13]), ([11, 14, 8], [8, 11, 14]), ([8, 15], [8, 15]), ([16, 14], [16]), ([17], [17]), ([17], [17]), ([18, 19, 17, 17], [17, 18, 19]), ([17], [17]), ([17], [17]), ([21, 22, 20, 17], [17, 21, 22]), ([20, 23, 17], [17, 20, 23]), ([17, 24], [17, 24]), ([25, 23, 0, 1, 2, 3, 4, 5, 6, 7, 8, 9, 10, 11, 12, 13, 14, 15, 16, 17, 18, 19, 20, 21, 22, 23, 24, 25], [25])])
def ay.B12 : List Nat := [0, 0, 3, 0, 8, 0, 63, 127, 255, 511, 511, 2047, 511, 511, 16383, 32767, 65535, 131071, 262143, 262143, 1048575, 262143, 262143, 8388607, 16777215, 33554431, 67108863]
theorem ay.Jt : fK .any (opsOf Tryz.f3 12) = ay.T12 := by kernel_rfl
theorem ay.Ji : fP ay.T12.2 ay.B12 = true := by kernel_rfl
theorem ay.calls (k : Nat) (a0 : ByteArray) (A1 : Option Addr) (c1 : Nat) (l1 : List (S44)) (a2 : ByteArray) (r : Bool) (w : World) (hr1 : Kd.C k44 w A1 l1.length l1) (hc1 : l1.length ≤ c1) (h : ay.f k a0 l1 a2 = some r) :
    Calls Tryz.prog 3 #[.string a0, .slice A1 l1.length c1, .string a2] w fun e w' => e = .returned (.bool r) ∧ Below w.heap.size w w' := by
  have hu26 := Tryz.underlying26
  have hu31 := Tryz.underlying31
  have HR1 := ah.mk hr1
  have HC1 := ah.mk hc1
  clear hr1 hc1
  have HB := ah.mk (Below.refl w.heap.size w)
  have H : ((fB.f k).bind fun t170 => (if t170 = true then ((bE.f k l1).bind fun t171 => (if t171 = true then (ay.j0 k a0 l1 a2 (decide ((a2.size : Int) > 600))) else (ay.j0 k a0 l1 a2 true))) else (ay.j0 k a0 l1 a2 true))) = some r := h
  clear h
  have HC4 := ah.mk H
  clear H
  go_enter Tryz.func3, Tryz.ntmps3
  go_upto_region 1 with (fail)
  go_cut [23] (fun v23 wc => ∃ (kq : Nat) (x23_3 : Bool), v23 = .bool x23_3 ∧ ah (ay.j0 kq a0 l1 a2 x23_3 = some r) ∧ ah (kq ≤ k) ∧ ah (Below w.heap.size w wc))
  case first =>
   have H := HC4.out
   clear HC4
   obtain ⟨t170, A5, H⟩ := bP H
   by_cases c6 : t170 = true
   ·subst c6
    rw [if_pos rfl] at H
    obtain ⟨t171, A7, H⟩ := bP H
    by_cases c8 : t171 = true
    focus
     subst c8
     rw [if_pos rfl] at H
    rotate_left
    focus
     replace c8 := Bool.eq_false_iff.mpr c8
     subst c8
     rw [if_neg ff_] at H
    rotate_left
    all_goals
     have H' := ah.mk H
     clear H
     go_wp2_with (first | ((with_reducible refine dA (f := 9) rfl ?_); refine fC (some 12) rfl rfl Tryz.func9 (by kernel_rfl) rfl #[] rfl (by (try simp only [List.map_toArray, List.map_cons, List.map_nil]); done) ?_; (with_reducible refine (fB.calls k  _ _ A5.out).mono ?_); rintro e w9 ⟨rfl, hb⟩; refine ⟨_, rfl, ?_⟩; replace HB := ah.mk (ak HB.out hb); (try clear hb)) | (go_at_call 10; (with_reducible refine (bE.calls k _ _ l1 _ _ ?side1 ?side2 A7.out).mono ?_); (case side1 => repeat ((exact (Kd.fM HR1.out HB.out)))); (case side2 => exact HC1.out); rintro e w' ⟨rfl, ⟨nd, rfl⟩⟩))
     go_meet
    ·case rel => exact ⟨_, (decide ((a2.size : Int) > 600)), (by rfl), H', ⟨by omega⟩, ⟨by repeat ((with_reducible first | exact HB.out | apply aZ))⟩⟩
    ·case rel => exact ⟨_, (true), (by rfl), H', ⟨by omega⟩, ⟨by repeat ((with_reducible first | exact HB.out | apply aZ))⟩⟩
   ·replace c6 := Bool.eq_false_iff.mpr c6
    subst c6
    rw [if_neg ff_] at H
    have H' := ah.mk H
    clear H
    go_wp2_with ((((with_reducible refine dA (f := 9) rfl ?_); refine fC (some 12) rfl rfl Tryz.func9 (by kernel_rfl) rfl #[] rfl (by (try simp only [List.map_toArray, List.map_cons, List.map_nil]); done) ?_; (with_reducible refine (fB.calls k  _ _ A5.out).mono ?_); rintro e w11 ⟨rfl, hb⟩; refine ⟨_, rfl, ?_⟩; replace HB := ah.mk (ak HB.out hb); (try clear hb))))
    go_meet
    case rel => exact ⟨_, (true), (by rfl), H', ⟨by omega⟩, ⟨HB.out⟩⟩
  case rest =>
   clear HC4
   obtain ⟨kq, x23_3, rfl, HA, HJ3, HB⟩ := hcut
   cases kq with
   | zero => exact absurd HA.out (by simp [ay.j0])
   | succ kj3 =>
    have H := HA.out
    clear HA
    simp only [ay.j0] at H
    by_cases c12 : x23_3 = true
    ·subst c12
     rw [if_pos rfl] at H
     obtain ⟨t172, A13, H⟩ := bP H
     obtain rfl := Option.some.inj H
     go_wp2_with ((((with_reducible refine dA (f := 9) rfl ?_); refine fC (some 24) rfl rfl Tryz.func9 (by kernel_rfl) rfl #[] rfl (by (try simp only [List.map_toArray, List.map_cons, List.map_nil]); done) ?_; (with_reducible refine (fB.calls kj3  t172 _ A13.out).mono ?_); rintro e w14 ⟨rfl, hb⟩; refine ⟨_, rfl, ?_⟩; replace HB := ah.mk (ak HB.out hb); (try clear hb))))
     go_ret
     exact ⟨by rfl, HB.out⟩
    ·replace c12 := Bool.eq_false_iff.mpr c12
     subst c12
     rw [if_neg ff_] at H
     replace H := Option.bind_eq_some_iff.mp H
     obtain ⟨⟨t173, t174, t177, t178⟩, A150, H⟩ := H
     replace H : ((dB.f kj3 a0 l1).bind fun bt180 => (if t178 = 0 then (ay.j1 kj3 a2 t178 bt180.2.2 (bt180.2.2 != 0) t173 t174 t177 bt180.1 bt180.2.1) else (ay.j1 kj3 a2 t178 bt180.2.2 true t173 t174 t177 bt180.1 bt180.2.1))) = some r := H
     have A15 := ah.mk A150
     clear A150
     replace H := Option.bind_eq_some_iff.mp H
     obtain ⟨⟨t180, t181, t184⟩, A160, H⟩ := H
     replace H : (if t178 = 0 then (ay.j1 kj3 a2 t178 t184 (t184 != 0) t173 t174 t177 t180 t181) else (ay.j1 kj3 a2 t178 t184 true t173 t174 t177 t180 t181)) = some r := H
     have A16 := ah.mk A160
     clear A160
     have HC17 := ah.mk H
     clear H
     go_upto_region 5 with (first | (refine gl_ (some 28) Tryz.func11 #[.string a0, .slice A1 l1.length c1] ?_; (with_reducible refine (cB.calls kj3 a0 _ _ l1 t173 t174 t177 t178 _ ?side1 ?side2 A15.out).mono ?_); (case side1 => repeat ((exact (Kd.fM HR1.out HB.out)))); (case side2 => exact HC1.out); rintro e w18 ⟨v175, rfl, ho0, hb⟩; refine ⟨_, rfl, ?_⟩; have HO176 := ah.mk (Kd.bZ ho0 (av HB.out)); replace HB := ah.mk (ak HB.out hb); (try clear hb); (try clear ho0)) | ((with_reducible refine bF (N := 7) rfl ?_); (try (refine fA (by rfl) ?_; dsimp only)); refine bQ ?hg (N := 7) ?hd (cs := #[.string (⟨#[]⟩ : ByteArray), .slice none 0 0, .int .i64 0]) (t := 26) ?hr ?_; (case hd => rfl); (case hg => rfl); (case hr => (go_simp; done)); intro gb179 hg w19 hbox hb; have BK179 := ah.mk (hbox); have GW179 := ah.mk (ge_ hg (av HB.out)); have GE179 := ah.mk (ge_ hg (av HB.out)); replace HO176 := ah.mk (Kd.bI (by ((exact HO176.out))) hb); replace HB := ah.mk (ak HB.out hb); clear hb hbox hg; obtain ⟨hcz20_0, hcz20_1, hcz20_2, hfz20_0, hfz20_1, hfz20_2⟩ := z3_ BK179.out; obtain ⟨Ao21, co21, eo21⟩ := Kd.bO HO176.out; subst eo21) | (refine gl_ (some 34) Tryz.func12 #[.string a0, .slice A1 l1.length c1] ?_; (with_reducible refine (dB.calls kj3 a0 _ _ l1 t180 t181 t184 _ ?side1 ?side2 A16.out).mono ?_); (case side1 => exact Kd.fM HR1.out (by repeat ((with_reducible first | exact HB.out | refine dN ?_ GE179.out)))); (case side2 => exact HC1.out); rintro e w22 ⟨v182, rfl, ho0, hb⟩; refine ⟨_, rfl, ?_⟩; have HO183 := ah.mk (Kd.bZ (Kd.iB ho0 (Kd.jO (by (with_reducible repeat ((apply Kd.aK))); exact (Kd.dH (Kd.gZ (p := ⟨gb179, 2, none⟩) (Kd.gZ (p := ⟨gb179, 1, none⟩) (Kd.gZ (p := ⟨gb179, 0, none⟩) (Kd.jW HO176.out BK179.out (by decide)) (fun _ hk => hk.2) (.string t173)) (fun _ hk => hk.2) (.slice Ao21 t174.length co21)) (fun _ hk => hk.2) (.int .i64 t177)) (fun _ h_ => h_.1))))) (av (by repeat ((with_reducible first | exact HB.out | refine dN ?_ GE179.out))))); replace HO176 := ah.mk (Kd.fI (by (with_reducible repeat ((apply Kd.aK))); exact (Kd.dH (Kd.gZ (p := ⟨gb179, 2, none⟩) (Kd.gZ (p := ⟨gb179, 1, none⟩) (Kd.gZ (p := ⟨gb179, 0, none⟩) (Kd.jW HO176.out BK179.out (by decide)) (fun _ hk => hk.2) (.string t173)) (fun _ hk => hk.2) (.slice Ao21 t174.length co21)) (fun _ hk => hk.2) (.int .i64 t177)) (fun _ h_ => h_.1))) (Kd.iC ho0) hb); replace BK179 := ah.mk (aD (g := gb179) (o := .cells #[.string t173, .slice Ao21 t174.length co21, .int .i64 t177] 26 (0, 0)) (by (with_reducible repeat ((refine aA ?_ _))); refine bH (cs := #[.string t173, .slice Ao21 t174.length co21, .int .i64 0]) ?_ 2 _ rfl; (with_reducible repeat ((refine aA ?_ _))); refine bH (cs := #[.string t173, .slice none 0 0, .int .i64 0]) ?_ 1 _ rfl; (with_reducible repeat ((refine aA ?_ _))); refine bH (cs := #[.string (⟨#[]⟩ : ByteArray), .slice none 0 0, .int .i64 0]) ?_ 0 _ rfl; (with_reducible repeat ((refine aA ?_ _))); exact BK179.out) hb); replace HB := ah.mk (ak (by repeat ((with_reducible first | exact HB.out | refine dN ?_ GE179.out))) hb); (try clear hb); (try clear ho0)) | ((with_reducible refine bF (N := 9) rfl ?_); (try (refine fA (by rfl) ?_; dsimp only)); refine bQ ?hg (N := 9) ?hd (cs := #[.string (⟨#[]⟩ : ByteArray), .slice none 0 0]) (t := 31) ?hr ?_; (case hd => rfl); (case hg => rfl); (case hr => (go_simp; done)); intro gb185 hg w23 hbox hb; have BK185 := ah.mk (hbox); have GW185 := ah.mk (ge_ hg (av HB.out)); have GE185 := ah.mk (ge_ hg (av HB.out)); have NB179_185 := ah.mk (nl_ hg (by ((exact BK179.out)))); have NB185_179 := ah.mk (nr_ hg (by ((exact BK179.out)))); replace HO176 := ah.mk (Kd.bI (by ((exact HO176.out))) hb); replace HO183 := ah.mk (Kd.bI (by ((exact HO183.out))) hb); replace BK179 := ah.mk (aD (by ((exact BK179.out))) hb); replace HB := ah.mk (ak HB.out hb); clear hb hbox hg; have hnb24 := NB185_179.out; have hnc24 := NB179_185.out; obtain ⟨hcz25_0, hcz25_1, hfz25_0, hfz25_1⟩ := z2_ BK185.out; obtain ⟨Ao26, co26, eo26⟩ := Kd.bO HO183.out; subst eo26))
     go_cut [42] (fun v42 wc => ∃ (kq : Nat) (x42_16 : Bool), v42 = .bool x42_16 ∧ ah (ay.j1 kq a2 t178 t184 x42_16 t173 t174 t177 t180 t181 = some r) ∧ ah (kq ≤ kj3) ∧ ah (Kd.R k44 44 wc w.heap.size (fun k_ => some k_ ≠ ((.slice Ao26 t181.length co26) : Value).ownBlock) (.slice Ao21 t174.length co21) t174) ∧ ah (Kd.R k44 44 wc w.heap.size (fun k_ => some k_ ≠ ((.slice Ao21 t174.length co21) : Value).ownBlock) (.slice Ao26 t181.length co26) t181) ∧ ah (wc.heap[gb179]? = some (.cells #[.string t173, (.slice Ao21 t174.length co21), .int .i64 t177] 26 (0, 0))) ∧ ah (wc.heap[gb185]? = some (.cells #[.string t180, (.slice Ao26 t181.length co26)] 31 (0, 0))) ∧ ah (Below w.heap.size w wc))
     case first =>
      have H := HC17.out
      clear HC17
      by_cases c27 : t178 = 0
      focus
       rw [if_pos c27] at H
       have c27b0 : (t178 == 0) = true := beq_iff_eq.mpr c27
       have c27b1 : (t178 != 0) = false := bne_eq_false_iff_eq.mpr c27
       clear c27
      rotate_left
      focus
       rw [if_neg c27] at H
       have c27b0 : (t178 == 0) = false := beq_eq_false_iff_ne.mpr c27
       have c27b1 : (t178 != 0) = true := bne_iff_ne.mpr c27
      rotate_left
      all_goals
       (skip)
       have H' := ah.mk H
       clear H
       go_wp2
       go_meet
      ·case rel => exact ⟨_, ((t184 != 0)), (by rfl), H', ⟨by have := HJ3.out; omega⟩, ⟨by (with_reducible repeat ((apply Kd.aK))); exact Kd.dH (Kd.gZ (p := ⟨gb185, 1, none⟩) (Kd.gZ (p := ⟨gb185, 0, none⟩) (Kd.jW HO176.out BK185.out (by decide)) (fun _ hk => hk.2) (.string t180)) (fun _ hk => hk.2) (.slice Ao26 t181.length co26)) (fun _ hk => hk.1.2)⟩, ⟨by (with_reducible repeat ((apply Kd.aK))); exact Kd.dH (Kd.gZ (p := ⟨gb185, 1, none⟩) (Kd.gZ (p := ⟨gb185, 0, none⟩) (Kd.jW HO183.out BK185.out (by decide)) (fun _ hk => hk.2) (.string t180)) (fun _ hk => hk.2) (.slice Ao26 t181.length co26)) (fun _ hk => hk.1.2)⟩, ⟨by (with_reducible repeat ((refine aA ?_ _))); refine fO ?_ NB179_185.out _; (with_reducible repeat ((refine aA ?_ _))); refine fO ?_ NB179_185.out _; (with_reducible repeat ((refine aA ?_ _))); exact BK179.out⟩, ⟨by (with_reducible repeat ((refine aA ?_ _))); refine bH (cs := #[.string t180, .slice none 0 0]) ?_ 1 _ rfl; (with_reducible repeat ((refine aA ?_ _))); refine bH (cs := #[.string (⟨#[]⟩ : ByteArray), .slice none 0 0]) ?_ 0 _ rfl; (with_reducible repeat ((refine aA ?_ _))); exact BK185.out⟩, ⟨by repeat ((with_reducible first | exact HB.out | refine dN ?_ GE185.out))⟩⟩
      ·case rel => exact ⟨_, (true), (by rfl), H', ⟨by have := HJ3.out; omega⟩, ⟨by (with_reducible repeat ((apply Kd.aK))); exact Kd.dH (Kd.gZ (p := ⟨gb185, 1, none⟩) (Kd.gZ (p := ⟨gb185, 0, none⟩) (Kd.jW HO176.out BK185.out (by decide)) (fun _ hk => hk.2) (.string t180)) (fun _ hk => hk.2) (.slice Ao26 t181.length co26)) (fun _ hk => hk.1.2)⟩, ⟨by (with_reducible repeat ((apply Kd.aK))); exact Kd.dH (Kd.gZ (p := ⟨gb185, 1, none⟩) (Kd.gZ (p := ⟨gb185, 0, none⟩) (Kd.jW HO183.out BK185.out (by decide)) (fun _ hk => hk.2) (.string t180)) (fun _ hk => hk.2) (.slice Ao26 t181.length co26)) (fun _ hk => hk.1.2)⟩, ⟨by (with_reducible repeat ((refine aA ?_ _))); refine fO ?_ NB179_185.out _; (with_reducible repeat ((refine aA ?_ _))); refine fO ?_ NB179_185.out _; (with_reducible repeat ((refine aA ?_ _))); exact BK179.out⟩, ⟨by (with_reducible repeat ((refine aA ?_ _))); refine bH (cs := #[.string t180, .slice none 0 0]) ?_ 1 _ rfl; (with_reducible repeat ((refine aA ?_ _))); refine bH (cs := #[.string (⟨#[]⟩ : ByteArray), .slice none 0 0]) ?_ 0 _ rfl; (with_reducible repeat ((refine aA ?_ _))); exact BK185.out⟩, ⟨by repeat ((with_reducible first | exact HB.out | refine dN ?_ GE185.out))⟩⟩
     case rest =>
      clear HC17
      (try clear hcz20_0)
      (try clear hcz20_1)
      (try clear hcz20_2)
      (try clear hcz25_0)
      (try clear hcz25_1)
      (try clear hfz20_0)
      (try clear hfz20_1)
      (try clear hfz20_2)
      (try clear hfz25_0)
      (try clear hfz25_1)
      obtain ⟨kq, x42_16, rfl, HA, HJ16, HO_180001, HO_186001, BK179, BK185, HB⟩ := hcut
      cases kq with
      | zero => exact absurd HA.out (by simp [ay.j1])
      | succ kj16 =>
       have H := HA.out
       clear HA
       simp only [ay.j1] at H
       by_cases c28 : x42_16 = true
       ·subst c28
        rw [if_pos rfl] at H
        obtain rfl := Option.some.inj H
        go_wp2
        go_ret
        exact ⟨by rfl, HB.out⟩
       ·replace c28 := Bool.eq_false_iff.mpr c28
        subst c28
        rw [if_neg ff_] at H
        have H' := ah.mk H
        clear H
        go_wp2
        go_loopg [11] kj16 (fun kq v11 w' => ∃ (x11_3 : Int), v11 = .int .i64 x11_3 ∧ ah (ay.l0 kq a2 x11_3 t173 t174 t177 t180 t181 = some r) ∧ ah (kq ≤ kj16) ∧ ah (Kd.R k44 44 w' w.heap.size (fun k_ => some k_ ≠ ((.slice Ao26 t181.length co26) : Value).ownBlock) (.slice Ao21 t174.length co21) t174) ∧ ah (Kd.R k44 44 w' w.heap.size (fun k_ => some k_ ≠ ((.slice Ao21 t174.length co21) : Value).ownBlock) (.slice Ao26 t181.length co26) t181) ∧ ah (w'.heap[gb179]? = some (.cells #[.string t173, (.slice Ao21 t174.length co21), .int .i64 t177] 26 (0, 0))) ∧ ah (w'.heap[gb185]? = some (.cells #[.string t180, (.slice Ao26 t181.length co26)] 31 (0, 0))) ∧ ah (Below w.heap.size w w'))
        case atStart => exact ⟨(0), (by rfl), H', ⟨Nat.le_refl _⟩, ⟨by (with_reducible repeat ((apply Kd.aK))); exact HO_180001.out⟩, ⟨by (with_reducible repeat ((apply Kd.aK))); exact HO_186001.out⟩, ⟨by (with_reducible repeat ((refine aA ?_ _))); exact BK179.out⟩, ⟨by (with_reducible repeat ((refine aA ?_ _))); exact BK185.out⟩, ⟨HB.out⟩⟩
        case round =>
         clear H'
         obtain ⟨x11_3, rfl, HA, HK3, HO_180001, HO_186001, BK179, BK185, HB⟩ := hrel
         cases gk with
         | zero => exact absurd HA.out (by simp [ay.l0])
         | succ k3 =>
          have H := HA.out
          clear HA
          simp only [ay.l0] at H
          by_cases c29 : x11_3 < 40
          focus
           rw [if_pos c29] at H
           have c29b0 : decide (x11_3 < 40) = true := decide_eq_true c29
          rotate_left
          focus
           rw [if_neg c29] at H
           have c29b0 : decide (x11_3 < 40) = false := decide_eq_false c29
          rotate_left
          all_goals
           clear c29
           obtain ⟨t186, A30, H⟩ := bP H
           obtain ⟨t189, A31, H⟩ := bP H
           obtain ⟨t192, A32, H⟩ := bP H
          ·by_cases c33 : t192 = true
           focus
            subst c33
            rw [if_pos rfl] at H
            have H' := ah.mk H
            clear H
           rotate_left
           focus
            replace c33 := Bool.eq_false_iff.mpr c33
            subst c33
            rw [if_neg ff_] at H
            obtain rfl := Option.some.inj H
           rotate_left
           all_goals
            (try go_wp2)
            replace HO_180001 := ah.mk (Kd.fU HO_180001.out)
            replace HO_186001 := ah.mk (Kd.fU HO_186001.out)
            replace BK179 := ah.mk (gB BK179.out)
            replace BK185 := ah.mk (gB BK185.out)
            replace HB := ah.mk (dx HB.out)
            refine gG (n := 10) (ds := []) (ls 10 0) (by kernel_rfl) rfl rfl (c3_ BK179.out (d2_ BK185.out)) (fun hHeld => ?_); refine eX ay.Ju ay.IW (fun HT_ HW_ => ?_)
            generalize wr.drew = w34 at HO_180001 HO_186001 BK179 BK185 HB hHeld ⊢
            refine td_ [(1, 51), (2, 52), (5, 55), (6, 56)] ?_
            iterate 4 (refine pm_ HT_ ?_)
            refine dn_ ?_
            refine td_ [(0, 50), (4, 54)] ?_
            iterate 2 (refine tm_ HT_ HW_ hHeld ?_)
            refine dn_ ?_
            refine jN HT_ (i := 3) (N := some 53) (ls 10 127) (fun K hK => ?_)
            refine gs_ Tryz.func14 #[.agg #[.string t173, .slice Ao21 t174.length co21, .int .i64 t177], .string a2, .int .i64 x11_3] ?_
            with_reducible refine (jD.calls t173 _ _ t174 t177 a2 x11_3 t186 _ ?side1 ?side2 A30.out).mono ?_
            (case side1 => exact (Kd.aN HO_180001.out).2.2)
            (case side2 => exact (Kd.aN HO_180001.out).2.1)
            rintro e w35 ⟨v187, rfl, ho0, hb⟩
            refine ⟨_, rfl, ?_⟩
            have HO188 := ah.mk (Kd.bZ (Kd.iB (Kd.iB ho0 (Kd.jO (by ((exact HO_180001.out))))) (Kd.jO (by ((exact HO_186001.out))))) (av HB.out))
            replace HO_180001 := ah.mk (Kd.fI (by ((exact HO_180001.out))) (Kd.iC ho0) hb)
            replace HO_186001 := ah.mk (Kd.fI (by ((exact HO_186001.out))) (Kd.iC ho0) hb)
            replace BK179 := ah.mk (aD (by ((exact BK179.out))) hb)
            replace BK185 := ah.mk (aD (by ((exact BK185.out))) hb)
            replace HB := ah.mk (ak HB.out hb)
            (try clear hb)
            (try clear ho0)
            refine hK.out _ _ (c3_ BK179.out (d2_ BK185.out)) (fun hHeld => ?_)
            clear hK K
            refine nm_ (N := (some 53)) ?_
            refine jN HT_ (i := 7) (N := some 57) (ls 10 255) (fun K hK => ?_)
            refine gs_ Tryz.func15 #[.agg #[.string t180, .slice Ao26 t181.length co26], .string a2, .int .i64 x11_3] ?_
            with_reducible refine (eZ.calls k3 t180 _ _ t181 a2 x11_3 t189 _ ?side1 ?side2 A31.out).mono ?_
            (case side1 => exact (Kd.aN HO_186001.out).2.2)
            (case side2 => exact (Kd.aN HO_186001.out).2.1)
            rintro e w36 ⟨v190, rfl, ho0, hb⟩
            refine ⟨_, rfl, ?_⟩
            have HO191 := ah.mk (Kd.bZ (Kd.iB (Kd.iB (Kd.iB ho0 (Kd.jO (by ((exact HO_180001.out))))) (Kd.jO (by ((exact HO_186001.out))))) (Kd.jO (by ((exact HO188.out))))) (av HB.out))
            replace HO_180001 := ah.mk (Kd.fI (by ((exact HO_180001.out))) (Kd.iC ho0) hb)
            replace HO_186001 := ah.mk (Kd.fI (by ((exact HO_186001.out))) (Kd.iC ho0) hb)
            replace HO188 := ah.mk (Kd.fI (by ((exact HO188.out))) (Kd.iC ho0) hb)
            replace BK179 := ah.mk (aD (by ((exact BK179.out))) hb)
            replace BK185 := ah.mk (aD (by ((exact BK185.out))) hb)
            replace HB := ah.mk (ak HB.out hb)
            (try clear hb)
            (try clear ho0)
            obtain ⟨Ao37, co37, eo37⟩ := Kd.bO HO188.out
            ((subst eo37))
            obtain ⟨Ao38, co38, eo38⟩ := Kd.bO HO191.out
            ((subst eo38))
            refine hK.out _ _ (c3_ BK179.out (d2_ BK185.out)) (fun hHeld => ?_)
            clear hK K
            refine nm_ (N := (some 57)) ?_
            refine jN HT_ (i := 8) (N := some 58) (ls 10 511) (fun K hK => ?_)
            refine gs_ Tryz.func13 #[.slice Ao37 t186.length co37, .slice Ao38 t189.length co38] ?_
            with_reducible refine (cK.calls k3 _ _ t186 _ _ t189 _ _ ?side1 ?side2 ?side3 ?side4 A32.out).mono ?_
            (case side1 => exact (Kd.aN HO188.out).2.2)
            (case side2 => exact (Kd.aN HO188.out).2.1)
            (case side3 => exact (Kd.aN HO191.out).2.2)
            (case side4 => exact (Kd.aN HO191.out).2.1)
            rintro e w' ⟨rfl, ⟨nd, rfl⟩⟩
            refine ⟨_, rfl, ?_⟩
            refine hK.out _ _ (c3_ BK179.out (d2_ BK185.out)) (fun hHeld => ?_)
            clear hK K
            refine nm_ (N := (some 58)) ?_
            refine td_ [(9, 59)] ?_
            refine pm_ HT_ ?_
            refine dn_ ?_
            refine jJ (iZ HT_.out (by kernel_rfl)) ?_
            (try go_wp2)
           ·go_roundg k3
            case measure => have := HJ3.out; have := HJ16.out; have := HK3.out; omega
            case rel => exact ⟨(wrap64 (x11_3 + 1)), (by rfl), H', ⟨by have := HJ3.out; have := HJ16.out; have := HK3.out; omega⟩, ⟨by (with_reducible repeat ((apply Kd.iT))); exact Kd.dH HO_180001.out (fun _ hk => hk.1.1)⟩, ⟨by (with_reducible repeat ((apply Kd.iT))); exact Kd.dH HO_186001.out (fun _ hk => hk.1.1)⟩, ⟨by (with_reducible repeat ((refine aA ?_ _))); exact BK179.out⟩, ⟨by (with_reducible repeat ((refine aA ?_ _))); exact BK185.out⟩, ⟨by repeat ((with_reducible first | exact HB.out | apply aZ))⟩⟩
           ·go_ret
            exact ⟨by rfl, by repeat ((with_reducible first | exact HB.out | apply aZ))⟩
          ·by_cases c47 : t192 = true
           ·subst c47
            rw [if_pos rfl] at H
            obtain ⟨t200, A48, H⟩ := bP H
            obtain ⟨t201, A49, H⟩ := bP H
            obtain ⟨c50, H⟩ := gd_ H
            have c50b0 : (t200 == t201) = true := c50
            (try (have c50b1 : decide (t200 = t201) = true := by simpa using c50))
            (try (have c50b2 : (t200 == t201) = true := by simpa using c50))
            clear c50
            obtain ⟨t202, A51, H⟩ := bP H
            obtain ⟨t203, A52, H⟩ := bP H
            obtain rfl := Option.some.inj H
            (try go_wp2)
            replace HO_180001 := ah.mk (Kd.fU HO_180001.out)
            replace HO_186001 := ah.mk (Kd.fU HO_186001.out)
            replace BK179 := ah.mk (gB BK179.out)
            replace BK185 := ah.mk (gB BK185.out)
            replace HB := ah.mk (dx HB.out)
            refine gG (n := 27) (ds := []) (ls 27 0) (by kernel_rfl) rfl rfl (c3_ BK179.out (d2_ BK185.out)) (fun hHeld => ?_); refine eX ay.Jt ay.Ji (fun HT_ HW_ => ?_)
            generalize wr.drew = w53 at HO_180001 HO_186001 BK179 BK185 HB hHeld ⊢
            refine td_ [(1, 61), (3, 63), (5, 65)] ?_
            iterate 3 (refine pm_ HT_ ?_)
            refine dn_ ?_
            refine td_ [(0, 60), (4, 64)] ?_
            iterate 2 (refine tm_ HT_ HW_ hHeld ?_)
            refine dn_ ?_
            refine jN HT_ (i := 2) (N := some 62) (ls 27 63) (fun K hK => ?_)
            refine gs_ Tryz.func16 #[.agg #[.string t173, .slice Ao21 t174.length co21, .int .i64 t177], .string a2] ?_
            with_reducible refine (jc.calls t173 _ _ t174 t177 a2 t186 _ ?side1 ?side2 A30.out).mono ?_
            (case side1 => exact (Kd.aN HO_180001.out).2.2)
            (case side2 => exact (Kd.aN HO_180001.out).2.1)
            rintro e w54 ⟨v194, rfl, ho0, hb⟩
            refine ⟨_, rfl, ?_⟩
            have HO195 := ah.mk (Kd.bZ (Kd.iB (Kd.iB ho0 (Kd.jO (by ((exact HO_180001.out))))) (Kd.jO (by ((exact HO_186001.out))))) (av HB.out))
            replace HO_180001 := ah.mk (Kd.fI (by ((exact HO_180001.out))) (Kd.iC ho0) hb)
            replace HO_186001 := ah.mk (Kd.fI (by ((exact HO_186001.out))) (Kd.iC ho0) hb)
            replace BK179 := ah.mk (aD (by ((exact BK179.out))) hb)
            replace BK185 := ah.mk (aD (by ((exact BK185.out))) hb)
            replace HB := ah.mk (ak HB.out hb)
            (try clear hb)
            (try clear ho0)
            refine hK.out _ _ (c3_ BK179.out (d2_ BK185.out)) (fun hHeld => ?_)
            clear hK K
            refine nm_ (N := (some 62)) ?_
            refine jN HT_ (i := 6) (N := some 66) (ls 27 127) (fun K hK => ?_)
            refine gs_ Tryz.func17 #[.slice Ao26 t181.length co26, .string a2] ?_
            with_reducible refine (bD.calls k3 _ _ t181 a2 t189 _ ?side1 ?side2 A31.out).mono ?_
            (case side1 => exact (Kd.aN HO_186001.out).2.2)
            (case side2 => exact (Kd.aN HO_186001.out).2.1)
            rintro e w55 ⟨v197, rfl, ho0, hb⟩
            refine ⟨_, rfl, ?_⟩
            have HO198 := ah.mk (Kd.bZ (Kd.iB (Kd.iB (Kd.iB ho0 (Kd.jO (by ((exact HO_180001.out))))) (Kd.jO (by ((exact HO_186001.out))))) (Kd.jO (by ((exact HO195.out))))) (av HB.out))
            replace HO_180001 := ah.mk (Kd.fI (by ((exact HO_180001.out))) (Kd.iC ho0) hb)
            replace HO_186001 := ah.mk (Kd.fI (by ((exact HO_186001.out))) (Kd.iC ho0) hb)
            replace HO195 := ah.mk (Kd.fI (by ((exact HO195.out))) (Kd.iC ho0) hb)
            replace BK179 := ah.mk (aD (by ((exact BK179.out))) hb)
            replace BK185 := ah.mk (aD (by ((exact BK185.out))) hb)
            replace HB := ah.mk (ak HB.out hb)
            (try clear hb)
            (try clear ho0)
            obtain ⟨Ao56, co56, eo56⟩ := Kd.bO HO195.out
            ((subst eo56))
            obtain ⟨Ao57, co57, eo57⟩ := Kd.bO HO198.out
            ((subst eo57))
            refine hK.out _ _ (c3_ BK179.out (d2_ BK185.out)) (fun hHeld => ?_)
            clear hK K
            refine nm_ (N := (some 66)) ?_
            refine jN HT_ (i := 7) (N := some 67) (ls 27 255) (fun K hK => ?_)
            refine gs_ Tryz.func13 #[.slice Ao56 t186.length co56, .slice Ao57 t189.length co57] ?_
            with_reducible refine (cK.calls k3 _ _ t186 _ _ t189 _ _ ?side1 ?side2 ?side3 ?side4 A32.out).mono ?_
            (case side1 => exact (Kd.aN HO195.out).2.2)
            (case side2 => exact (Kd.aN HO195.out).2.1)
            (case side3 => exact (Kd.aN HO198.out).2.2)
            (case side4 => exact (Kd.aN HO198.out).2.1)
            rintro e w' ⟨rfl, ⟨nd, rfl⟩⟩
            refine ⟨_, rfl, ?_⟩
            refine hK.out _ _ (c3_ BK179.out (d2_ BK185.out)) (fun hHeld => ?_)
            clear hK K
            refine nm_ (N := (some 67)) ?_
            refine td_ [(8, 68), (10, 70), (13, 73)] ?_
            iterate 3 (refine pm_ HT_ ?_)
            refine dn_ ?_
            refine td_ [(9, 69), (12, 72)] ?_
            iterate 2 (refine tm_ HT_ HW_ hHeld ?_)
            refine dn_ ?_
            refine jN HT_ (i := 11) (N := some 71) (ls 27 16383) (fun K hK => ?_)
            refine gs_ Tryz.func18 #[.agg #[.string t173, .slice Ao21 t174.length co21, .int .i64 t177], .string a2] ?_
            with_reducible refine (fq.calls t173 _ _ t174 t177 a2 t200 _ ?side1 ?side2 A48.out).mono ?_
            (case side1 => exact (Kd.aN HO_180001.out).2.2)
            (case side2 => exact (Kd.aN HO_180001.out).2.1)
            rintro e w58 ⟨rfl, hb⟩
            refine ⟨_, rfl, ?_⟩
            replace HO_180001 := ah.mk (Kd.bI (by (with_reducible repeat ((apply Kd.iT))); exact HO_180001.out) hb)
            replace HO_186001 := ah.mk (Kd.bI (by (with_reducible repeat ((apply Kd.iT))); exact HO_186001.out) hb)
            replace HO195 := ah.mk (Kd.bI (by (with_reducible repeat ((apply Kd.iT))); exact HO195.out) hb)
            replace HO198 := ah.mk (Kd.bI (by (with_reducible repeat ((apply Kd.iT))); exact HO198.out) hb)
            replace BK179 := ah.mk (aD (by ((exact BK179.out))) hb)
            replace BK185 := ah.mk (aD (by ((exact BK185.out))) hb)
            replace HB := ah.mk (ak (by repeat ((with_reducible first | exact HB.out | apply aZ))) hb)
            (try clear hb)
            refine hK.out _ _ (c3_ BK179.out (d2_ BK185.out)) (fun hHeld => ?_)
            clear hK K
            refine nm_ (N := (some 71)) ?_
            refine jN HT_ (i := 14) (N := some 74) (ls 27 32767) (fun K hK => ?_)
            refine gs_ Tryz.func19 #[.agg #[.string t180, .slice Ao26 t181.length co26], .string a2] ?_
            with_reducible refine (eF.calls k3 t180 _ _ t181 a2 t201 _ ?side1 ?side2 A49.out).mono ?_
            (case side1 => exact (Kd.aN HO_186001.out).2.2)
            (case side2 => exact (Kd.aN HO_186001.out).2.1)
            rintro e w59 ⟨rfl, hb⟩
            refine ⟨_, rfl, ?_⟩
            replace HO_180001 := ah.mk (Kd.bI (by ((exact HO_180001.out))) hb)
            replace HO_186001 := ah.mk (Kd.bI (by ((exact HO_186001.out))) hb)
            replace HO195 := ah.mk (Kd.bI (by ((exact HO195.out))) hb)
            replace HO198 := ah.mk (Kd.bI (by ((exact HO198.out))) hb)
            replace BK179 := ah.mk (aD (by ((exact BK179.out))) hb)
            replace BK185 := ah.mk (aD (by ((exact BK185.out))) hb)
            replace HB := ah.mk (ak HB.out hb)
            (try clear hb)
            refine hK.out _ _ (c3_ BK179.out (d2_ BK185.out)) (fun hHeld => ?_)
            clear hK K
            refine nm_ (N := (some 74)) ?_
            refine td_ [(15, 75), (16, 76), (17, 77), (19, 79), (22, 82)] ?_
            iterate 5 (refine pm_ HT_ ?_)
            refine dn_ ?_
            refine td_ [(18, 78), (21, 81)] ?_
            iterate 2 (refine tm_ HT_ HW_ hHeld ?_)
            refine dn_ ?_
            refine jN HT_ (i := 20) (N := some 80) (ls 27 8388607) (fun K hK => ?_)
            refine gs_ Tryz.func20 #[.agg #[.string t173, .slice Ao21 t174.length co21, .int .i64 t177], .string a2] ?_
            with_reducible refine (jq.calls k3 t173 _ _ t174 t177 a2 t202 _ ?side1 ?side2 A51.out).mono ?_
            (case side1 => exact (Kd.aN HO_180001.out).2.2)
            (case side2 => exact (Kd.aN HO_180001.out).2.1)
            rintro e w60 ⟨rfl, hb⟩
            refine ⟨_, rfl, ?_⟩
            replace HO_180001 := ah.mk (Kd.bI (by ((exact HO_180001.out))) hb)
            replace HO_186001 := ah.mk (Kd.bI (by ((exact HO_186001.out))) hb)
            replace HO195 := ah.mk (Kd.bI (by ((exact HO195.out))) hb)
            replace HO198 := ah.mk (Kd.bI (by ((exact HO198.out))) hb)
            replace BK179 := ah.mk (aD (by ((exact BK179.out))) hb)
            replace BK185 := ah.mk (aD (by ((exact BK185.out))) hb)
            replace HB := ah.mk (ak HB.out hb)
            (try clear hb)
            refine hK.out _ _ (c3_ BK179.out (d2_ BK185.out)) (fun hHeld => ?_)
            clear hK K
            refine nm_ (N := (some 80)) ?_
            refine jN HT_ (i := 23) (N := some 83) (ls 27 16777215) (fun K hK => ?_)
            refine gs_ Tryz.func21 #[.agg #[.string t180, .slice Ao26 t181.length co26], .string a2] ?_
            with_reducible refine (bM.calls k3 t180 _ _ t181 a2 t203 _ ?side1 ?side2 A52.out).mono ?_
            (case side1 => exact (Kd.aN HO_186001.out).2.2)
            (case side2 => exact (Kd.aN HO_186001.out).2.1)
            rintro e w61 ⟨rfl, hb⟩
            refine ⟨_, rfl, ?_⟩
            replace HO_180001 := ah.mk (Kd.bI (by ((exact HO_180001.out))) hb)
            replace HO_186001 := ah.mk (Kd.bI (by ((exact HO_186001.out))) hb)
            replace HO195 := ah.mk (Kd.bI (by ((exact HO195.out))) hb)
            replace HO198 := ah.mk (Kd.bI (by ((exact HO198.out))) hb)
            replace BK179 := ah.mk (aD (by ((exact BK179.out))) hb)
            replace BK185 := ah.mk (aD (by ((exact BK185.out))) hb)
            replace HB := ah.mk (ak HB.out hb)
            (try clear hb)
            refine hK.out _ _ (c3_ BK179.out (d2_ BK185.out)) (fun hHeld => ?_)
            clear hK K
            refine nm_ (N := (some 83)) ?_
            refine td_ [(24, 84), (25, 85), (26, 6)] ?_
            iterate 3 (refine pm_ HT_ ?_)
            refine dn_ ?_
            refine jJ (iZ HT_.out (by kernel_rfl)) ?_
            (try go_wp2)
            go_ret
            exact ⟨by rfl, HB.out⟩
           ·replace c47 := Bool.eq_false_iff.mpr c47
            subst c47
            rw [if_neg ff_] at H
            exact absurd H (by simp)
end Go.Y.PZh
namespace Go.Y.ny
open Go.RowKit Go.ChangeShapes Go.WideShapes Go.Deep Go.V.aC
section
variable {H : Type} {enc : TypeId × Value → H} {P : Program} {W : World} {base : Nat} {spare : Nat → Bool} {held : Bool}
theorem fields_of {e : TypeId} {fs : Array Field} {fuel : Nat} {cs : List Value} {x : DataW H × List MemPlace} (he : P.underlying e = some (.struct fs)) (hone : oneCellFields P fs = true) (hC : P.cellsOf e = fs.size)
  (h : DataW.trod enc P W base spare held fuel e cs = some x) : cs.length = fs.size ∧ ∃ n, ∀ (j : Nat) (f : Field), fs[j]? = some f → ∃ v y, cs[j]? = some v ∧ DataW.trod enc P W base spare held n f.type [v] = some y := by
 obtain ⟨ys, n, _, _, hl, hyl, hf⟩ := DataW.trod_struct he h
 refine ⟨hl.trans hC, n, fun j f hj => ?_⟩
 obtain ⟨ho, hk⟩ := hone_of hone j f hj
 have hjl : j < fs.size := (Array.getElem?_eq_some_iff.1 hj).1
 have hcl : j < cs.length := by omega
 have hyj : j < ys.length := by omega
 have h1 := hf j f hj
 rw [ho, hk, List.drop_eq_getElem_cons hcl, List.take_succ_cons, List.take_zero] at h1
 exact ⟨cs[j], ys[j], List.getElem?_eq_getElem hcl, h1.trans (List.getElem?_eq_getElem hyj)⟩
theorem GK {S : Type} (n : Nat) (R : Nat → S → Prop) (h : ∀ i, i < n → ∃ s, R i s) : ∃ l : List S, l.length = n ∧ ∀ i s, l[i]? = some s → R i s := by
 induction n with
 | zero => exact ⟨[], rfl, fun i s hs => by simp at hs⟩
 | succ n ih =>
  obtain ⟨l, hl, hr⟩ := ih fun i hi => h i (by omega)
  obtain ⟨s, hs⟩ := h n (by omega)
  refine ⟨l ++ [s], by simp [hl], fun i t ht => ?_⟩
  by_cases hi : i < n
  ·rw [List.getElem?_append_left (by omega)] at ht; exact hr i t ht
  ·rw [List.getElem?_append_right (by omega)] at ht
   by_cases e : i = n
   ·subst e; rw [hl, Nat.sub_self] at ht; simp at ht; subst ht; exact hs
   ·rw [List.getElem?_eq_none (by simp; omega)] at ht; cases ht
theorem BH {S : Type} (k : Kd S) (good : S → Prop) {t e : TypeId} {a : Option Addr} {len cap : Nat} {d : DataW H} {ps : List MemPlace} (hu : P.underlying t = some (.slice e)) (hC : P.cellsOf e = k.sz) (hpos : 0 < k.sz)
  (open1 : ∀ fuel cs x, DataW.trod enc P W base spare held fuel e cs = some x → ∃ s, k.K W s cs ∧ good s) (h : DataW.Trod enc P W base spare held t (.slice a len cap) d ps) :
  ∃ l : List S, len = l.length ∧ Kd.C k W a l.length l ∧ l.length ≤ cap ∧ l.length ≤ maxLen ∧ ∀ s ∈ l, good s := by
 obtain ⟨fuel, hf⟩ := h
 rcases open_slice hu hf with ⟨hcs, _⟩ | ⟨x, l, c, m, n, D, Pl, hcs, _, hl, hm, hmm, _, hi⟩
 ·simp [Value.cells] at hcs
  obtain ⟨rfl, rfl, rfl⟩ := hcs
  exact ⟨[], rfl, Kd.JB _ _, Nat.le_refl _, Nat.zero_le _, by simp⟩
 ·simp [Value.cells] at hcs
  obtain ⟨rfl, rfl, rfl⟩ := hcs
  have hlm : len ≤ m := by rw [hmm]; split <;> omega
  obtain ⟨L, hL, hR⟩ := GK len (fun i s => good s ∧ ∃ cs', k.K W s cs' ∧ cs'.length = k.sz ∧ ∀ j u, cs'[j]? = some u → W.cell? (x.add (i * k.sz + j)) = some u) (fun i hi' => by
   obtain ⟨cs', hc, ht⟩ := hi i (by omega)
   obtain ⟨s, hs, hg⟩ := open1 _ _ _ ht
   rw [hC] at hc
   obtain ⟨_, hcl, hat⟩ := World.cells?_some hc
   refine ⟨s, hg, cs', hs, hcl, fun j u hj => ?_⟩
   have hjl : j < k.sz := by rw [← hcl]; exact (List.getElem?_eq_some_iff.1 hj).1
   have := hat j hjl
   rw [← Go.Deep.add_add]; rw [this]; exact hj)
  refine ⟨L, hL.symm, ⟨rfl, by unfold maxLen at hm; omega, fun _ => ⟨x, rfl, fun j p hp => ?_⟩⟩, by omega, by omega, fun s hs => ?_⟩
  ·obtain ⟨_, c, h1, h2, h3⟩ := hR j p hp
   exact ⟨c, h2, h1, h3⟩
  ·obtain ⟨i, hi', he⟩ := List.getElem_of_mem hs
   exact (hR i s (by rw [List.getElem?_eq_getElem hi', he])).1
end
end Go.Y.ny
namespace Go.Y.ny
open Go.RowKit Go.ChangeShapes Go.WideShapes Go.Deep Go.V.aC Go.Y.PRd Go.Y.PRr
structure uK (s : S44) : Prop where
 n0 : s.f0.size ≤ maxLen
 n4 : s.f4.size ≤ maxLen
 i1 : (Lit.int .i64 s.f1).wf = true
 i2 : (Lit.int .i64 s.f2).wf = true
 i3 : (Lit.int .i64 s.f3).wf = true
section
variable {H : Type} {enc : TypeId × Value → H} {W : World} {base : Nat} {spare : Nat → Bool} {held : Bool}
theorem JI {fuel : Nat} {cs : List Value} {x : DataW H × List MemPlace} (h : DataW.trod enc Tryz.prog W base spare held fuel 44 cs = some x) : ∃ s : S44, cs = [.string s.f0, .int .i64 s.f1, .int .i64 s.f2, .int .i64 s.f3, .string s.f4] ∧ uK s := by
 obtain ⟨hl, n, hf⟩ := fields_of Tryz.underlying44 (by kernel_rfl) (by kernel_rfl) h
 obtain ⟨v0, y0, c0, h0⟩ := hf 0 _ rfl
 obtain ⟨v1, y1, c1, h1⟩ := hf 1 _ rfl
 obtain ⟨v2, y2, c2, h2⟩ := hf 2 _ rfl
 obtain ⟨v3, y3, c3, h3⟩ := hf 3 _ rfl
 obtain ⟨v4, y4, c4, h4⟩ := hf 4 _ rfl
 obtain ⟨s, e0, _, g0⟩ := DataW.trod_string Tryz.underlying9 h0
 obtain ⟨a, e1, _, g1⟩ := DataW.trod_int Tryz.underlying3 h1
 obtain ⟨b, e2, _, g2⟩ := DataW.trod_int Tryz.underlying3 h2
 obtain ⟨c, e3, _, g3⟩ := DataW.trod_int Tryz.underlying3 h3
 obtain ⟨d, e4, _, g4⟩ := DataW.trod_string Tryz.underlying9 h4
 obtain rfl : v0 = .string s := by simpa using e0
 obtain rfl : v1 = .int .i64 a := by simpa using e1
 obtain rfl : v2 = .int .i64 b := by simpa using e2
 obtain rfl : v3 = .int .i64 c := by simpa using e3
 obtain rfl : v4 = .string d := by simpa using e4
 have : cs = [.string s, .int .i64 a, .int .i64 b, .int .i64 c, .string d] := by
  match cs, hl with
  | [p, q, r, t, u], _ => simp at c0 c1 c2 c3 c4; rw [c0, c1, c2, c3, c4]
 exact ⟨⟨s, a, b, c, d⟩, this, ⟨g0, g4, g1, g2, g3⟩⟩
theorem IC {t : TypeId} {a : Option Addr} {len cap : Nat} {d : DataW H} {ps : List MemPlace} (hu : Tryz.prog.underlying t = some (.slice 44)) (h : DataW.Trod enc Tryz.prog W base spare held t (.slice a len cap) d ps) :
  ∃ l : List S44, len = l.length ∧ Kd.C k44 W a l.length l ∧ l.length ≤ cap ∧ l.length ≤ maxLen ∧ ∀ s ∈ l, uK s :=
 BH k44 uK hu (by kernel_rfl) (by decide) (fun _ _ _ h => by
  obtain ⟨s, rfl, hg⟩ := JI h
  exact ⟨s, IK W s, hg⟩) h
end
end Go.Y.ny
namespace Go.Y.Rrs
open Go.RowKit Go.V.aC Go.V.aV Go.V.aX Go.Y.Given Go.Y.PRd Go.Y.PRr Go.Y.PZo Go.Y.PZf Go.Y.PZe Go.Y.PZh Go.Y.Name Go.Y.gu Go.Y.iD
def vG (s : List RR) (n : ByteArray) : Bool := if mg s n = true then false else s.any fun x => kE x.f0 n
theorem FQ (a : ByteArray) (s : List RR) (z : Int) (n : ByteArray) (hn : s.length ≤ 1000000) : Ev (fun k => jq.f k a s z n) (vG s n) := by
 unfold jq.f vG
 simp only [wI a s z n hn, Option.bind_some]
 cases mg s n
 ·simp only [Bool.false_eq_true, if_false]
  have h := yG (p := fun k x => (bq.f k x.f0 n).map (!·)) (b := fun x => !kE x.f0 n) s hn (fun x _ => ⟨300, fun k hk => by
   show (bq.f k x.f0 n).map (!·) = _
   rw [zh _ _ k hk]; rfl⟩)
  simp only [Bool.not_not] at h
  exact Ev.bind h (Ev.now _)
 ·simp only [if_true]; exact Ev.now _
theorem zR (a : ByteArray) (s : List RR) (n : ByteArray) (hn : s.length ≤ 1000000) : ∀ (d i : Nat), s.length ≤ i + d → i ≤ s.length → Ev (fun k => bM.l0 k n (i : Int) a s) ((s.drop i).any fun x => kE x.f0 n) := by
 have hend : ∀ i : Nat, s.length ≤ i → Ev (fun k => bM.l0 k n (i : Int) a s) ((s.drop i).any fun x => kE x.f0 n) := by
  intro i hd
  refine Ev.step (f := fun _ => some false) (fun k => by rw [bM.l0]; rw [if_neg (by omega)]) ?_
  rw [List.drop_of_length_le hd]
  exact Ev.now _
 intro d
 induction d with
 | zero => exact fun i hd _ => hend i (by omega)
 | succ d ih =>
  intro i hd hi0
  by_cases hi : i < s.length
  ·have e1 : wrap64 ((i : Int) + 1) = ((i + 1 : Nat) : Int) := by unfold wrap64; omega
   have hs : ∀ k, bM.l0 (k + 1) n (i : Int) a s = (aQ.f k (rdR s (i : Int)).f0 n).bind fun t => if t = true then some true else bM.l0 k n ((i + 1 : Nat) : Int) a s := fun k => by
    rw [bM.l0, e1]; rw [if_pos (by omega), if_pos (by omega)]
   rw [eH s i hi] at hs
   refine Ev.step hs (Ev.bind (wO _ _) ?_)
   rw [List.drop_eq_getElem_cons hi, List.any_cons]
   cases kE s[i].f0 n
   ·simp only [Bool.false_eq_true, if_false, Bool.false_or]; exact ih (i + 1) (by omega) (by omega)
   ·simp only [if_true, Bool.true_or]; exact Ev.now _
  ·exact hend i (by omega)
theorem CG (a : ByteArray) (s : List RR) (n : ByteArray) (hn : s.length ≤ 1000000) : Ev (fun k => bM.f k a s n) (vG s n) := by
 unfold bM.f vG
 refine Ev.bind (xC a s n hn) ?_
 have h := zR a s n hn s.length 0 (by omega) (Nat.zero_le _)
 rw [List.drop_zero] at h
 cases mg s n
 ·simp only [Bool.false_eq_true, if_false]; exact h
 ·simp only [if_true]; exact Ev.now _
open Classical in
theorem sG (s : List RR) (hn : s.length ≤ 1000000) : Ev (fun k => cK.f k s s) true := by
 have := Im s s (by omega)
 rw [decide_eq_true rfl] at this
 exact this
theorem BX (a : ByteArray) (s : List RR) (z : Int) (n : ByteArray) (hn : s.length ≤ 1000000) : ∀ (d i : Nat), d + i = 40 → Ev (fun k => ay.l0 k n (i : Int) a s z a s) true := by
 intro d
 induction d with
 | zero =>
  intro i hd
  have hs : ∀ k, ay.l0 (k + 1) n (i : Int) a s z a s = (bD.f k s n).bind fun t => (cK.f k (atL s n) t).bind fun t => if t = true then ((eF.f k a s n).bind fun u => if (mg s n == u) = true then ((jq.f k a s z n).bind fun v => (bM.f k a s n).bind fun w => some (v == w)) else none) else none := fun k => by
   rw [ay.l0]; rw [if_neg (by omega), Fa a s z n hn, wI a s z n hn]
   rfl
  refine Ev.step hs (Ev.bind (uX s n hn) (Ev.bind (sG _ (Nat.le_trans (sO s n) hn)) ?_))
  simp only [if_true]
  refine Ev.bind (xC a s n hn) ?_
  simp only [beq_self_eq_true, if_true]
  refine Ev.bind (FQ a s z n hn) (Ev.bind (CG a s n hn) ?_)
  rw [beq_self_eq_true]
  exact Ev.now _
 | succ d ih =>
  intro i hd
  have e1 : wrap64 ((i : Int) + 1) = ((i + 1 : Nat) : Int) := by unfold wrap64; omega
  have hs : ∀ k, ay.l0 (k + 1) n (i : Int) a s z a s = (eZ.f k a s n (i : Int)).bind fun t => (cK.f k (mI s n (i : Int)) t).bind fun t => if t = true then ay.l0 k n ((i + 1 : Nat) : Int) a s z a s else some false := fun k => by
   rw [ay.l0, e1]; rw [if_pos (by omega), Gg a s z n _ hn]
   rfl
  refine Ev.step hs (Ev.bind (Ap a s n _ hn) (Ev.bind (sG _ (Nat.le_trans (BO _ _) (Nat.le_trans (sO s n) hn))) ?_))
  simp only [if_true]
  exact ih (i + 1) (by omega)
theorem xq (a : ByteArray) (l : List RR) (n : ByteArray) : Ev (fun k => ay.j0 k a l n true) true :=
 Ev.step (f := fun k => (fB.f k).bind fun t => some t) (fun k => by rw [ay.j0, if_pos rfl]) (Ev.bind vE (Ev.now _))
end Go.Y.Rrs
namespace Go.Y.Pure
open Go.RowKit Go.V.aC Go.Y.Given Go.Y.PRd Go.Y.PRr Go.Y.PZf Go.Y.PZh Go.Y.Rrs Go.Y.ny
theorem ZoneTells (a : ByteArray) (l : List RR) (n : ByteArray) (ha : a.size ≤ 140737488351232) (hm : l.length ≤ maxLen) (hs : ∀ s ∈ l, uK s) (hn : n.size ≤ 140737488351232) : ∃ k, ay.f k a l n = some true := by
 refine Ev.rounds ?_
 unfold maxLen at hm
 unfold ay.f
 refine Ev.bind vE ?_
 simp only [if_true]
 obtain ⟨b, hb, hl⟩ := Jq l (by omega)
 refine Ev.bind hb ?_
 cases b
 ·simp only [Bool.false_eq_true, if_false]
  exact xq a l n
 ·have hl := hl rfl
  simp only [if_true]
  by_cases hz : (n.size : Int) > 600
  ·rw [decide_eq_true hz]; exact xq a l n
  ·rw [decide_eq_false hz]
   have hst : ∀ k, ay.j0 (k + 1) a l n false = (cB.f k a l).bind fun p => (dB.f k a l).bind fun q => if p.2.2.2 = 0 then ay.j1 k n p.2.2.2 q.2.2 (q.2.2 != 0) p.1 p.2.1 p.2.2.1 q.1 q.2.1 else ay.j1 k n p.2.2.2 q.2.2 true p.1 p.2.1 p.2.2.1 q.1 q.2.1 := fun k => by
    rw [ay.j0, if_neg (by decide)]
   refine Ev.step hst (Ev.bind (DV a l (by omega)) (Ev.bind (Io a l (by omega)) ?_))
   rcases Fg a l (by omega) with ⟨s, hS, hsl, e1, e2, _⟩ | ⟨e, he, e1, e2⟩
   ·rw [e1, e2]
    simp only [if_true, bne_self_eq_false]
    refine Ev.step (f := fun k => ay.l0 k n 0 a s (yH s) a s) (fun k => by rw [ay.j1, if_neg (by decide)]) ?_
    exact BX a s _ n hS.set.len 40 0 rfl
   ·rw [e1, e2]
    simp only [he, if_false]
    refine Ev.step (f := fun _ => some (e == e)) (fun k => by rw [ay.j1, if_pos rfl]) ?_
    rw [beq_self_eq_true]
    exact Ev.now _
end Go.Y.Pure
