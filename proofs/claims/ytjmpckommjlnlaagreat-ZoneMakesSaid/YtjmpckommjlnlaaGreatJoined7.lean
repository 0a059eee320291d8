/- Contracts and facts that the claim's row is drawn from, each with its own conditions. -/
import Derived.Test.YtjmpckommjlnlaaGreatJoined6
import Derived.BigRegion
import Derived.StillTailTactics
import Derived.Test.YtjmpckommjlnlaaGreatProg
import Derived.Below
import Derived.Deep.Draws
import Derived.Deep.AppendLies
import Derived.Maps.AppendAt
import Derived.OwnWalk
import Derived.Laws.BytesArg
import Derived.Laws.MakeOwn
import Derived.Laws.OwnMore
import Derived.Deep.OwnRows
import Derived.Tactics
import Derived.Lib.ConvBytes
import Derived.Laws.Slices
import Derived.WalkKit
import Derived.KernelRfl
import Derived.RowKit3
import Derived.Deep.LoopGhost
import Derived.Deep.QuietTactic
import Derived.BigQuiet
import Derived.WideLaws
import Derived.Deep.DeepCutAuto
import Derived.Deep.CutBlock
import Derived.Deep.RegionHeld3
import Derived.Laws.Rows
import Derived.Lib.AppendStr
import Derived.ArgAppend
import Derived.Laws.IdiomCopy
import Derived.OrdersHeld
import Derived.Laws.BitsLemmas
import Derived.RowKit
import Derived.Deep.Slices
import Derived.Deep.Fields
import Derived.ProofKit
set_option linter.unusedSimpArgs false
set_option linter.unusedVariables false
set_option maxHeartbeats 8000000
set_option maxRecDepth 100000
open Go.Proofs Go.RowKit
namespace Go.Y.kP
open Go.Proofs.aj.aD Go.Proofs.aj.aQ Go.Proofs.aj.aW Go.Y.Given Go.Y.PRd Go.Y.nR Go.Y.dY Go.Y.Oct
theorem Hw (B : ByteArray) (w : World) (hr : fZ 6 B = true) (m r s1 s2 s3 s4 s5 : ByteArray) (he : qA B = [m, r, s1, s2, s3, s4, s5]) (h1 : s1.size = 4) (h2 : s2.size = 4) (h3 : s3.size = 4) (h4 : s4.size = 4) (h5 : s5.size = 4) :
  Calls Tryz.prog 70 #[.string B] w fun e w' => e = .returned (.tuple #[.agg #[.string m, .string r, .int .u32 (beN s1.data.toList : Int), .int .u32 (beN s2.data.toList : Int), .int .u32 (beN s3.data.toList : Int), .int .u32 (beN s4.data.toList : Int), .int .u32 (beN s5.data.toList : Int)], .int .i64 0]) ∧ Below w.heap.size w w' := by
 have hs := (rP hr).1
 have HR := Lib.hid (fun w => iE 6 B w (by omega))
 have HF := Lib.hid hr
 have hsz := nA B (by omega) (dO 6) 0
 have hw := zA B (by omega) (FU + 1) (Nat.le_succ _) (dO 6) 0 (qY 6) (Nat.zero_le _)
 have HK := Lib.hid (xA 6 (FU + 1) (Nat.succ_le_succ (Nat.zero_le _)))
 have HSP := Lib.hid (Ca h1 h2 h3 h4 h5)
 have HZ := Lib.hid (show (Go.Lib.join ([s1, s2, s3, s4, s5].map (·.data.toList)) ([] : List UInt8)).length ≤ 140737488355328 from by
  rw [yA]
  simp only [List.map_cons, List.map_nil, List.flatten_cons, List.flatten_nil, List.length_append, bS, h1, h2, h3, h4, h5, List.length_nil]
  decide)
 have m1 : (beN s1.data.toList : Int) % 4294967296 = (beN s1.data.toList : Int) := by have := jY h1; omega
 have m2 : (beN s2.data.toList : Int) % 4294967296 = (beN s2.data.toList : Int) := by have := jY h2; omega
 have m3 : (beN s3.data.toList : Int) % 4294967296 = (beN s3.data.toList : Int) := by have := jY h3; omega
 have m4 : (beN s4.data.toList : Int) % 4294967296 = (beN s4.data.toList : Int) := by have := jY h4; omega
 have m5 : (beN s5.data.toList : Int) % 4294967296 = (beN s5.data.toList : Int) := by have := jY h5; omega
 unfold qA at he
 obtain ⟨⟨ps, b⟩, hp⟩ : ∃ x, dG B (dO 6) 0 = x := ⟨_, rfl⟩
 rw [hp] at hw hsz he
 have HE := Lib.hid he
 have HW := Lib.hid hw
 have HSZ := Lib.hid hsz.1
 have HL7 := Lib.hid (Nat.le_trans hsz.2 (jW 6))
 have HL := Lib.hid (jW 6)
 clear hr hw hsz hp he h1 h2 h3 h4 h5 hs
 have hu49 := Tryz.underlying38
 go_enter Tryz.func70, Tryz.ntmps70
 go_wp2_with fail
 refine (HR.out _).mono ?_
 rintro e w1 ⟨rfl, hb⟩
 rw [HF.out]
 have hlt : ∀ (w : World) (o : Obj), w.heap.size < (w.alloc o).heap.size := fun w o => by show _ < (w.heap.push _).size; rw [Array.size_push]; exact Nat.lt_succ_self _
 have HLT := Lib.hid hlt
 have HB0 := Lib.hid ((hb.block _ (hlt _ _)).trans (heap_alloc_new w _))
 have HBEL := Lib.hid (eZ ((Below.refl _ w).alloc (Nat.le_refl _) _) (Nat.le_of_lt (hlt _ _)) hb)
 have HSW := Lib.hid (Nat.lt_of_lt_of_le (hlt w _) hb.size)
 clear hb hlt
 go_wp2_with fail
 refine (uL (strs w1.heap.size w1.heap.size) (FU + 1) B 0 (B.size : Int) 6 (dO 6) HK.out [] ps b HW.out (fun k => k = w1.heap.size) _ ⟨Nat.le_of_lt (HLT.out _ _), fun k hk => by rw [hk]; exact ⟨Nat.le_refl _, HLT.out _ _⟩, rfl, _, heap_alloc_new w1 _, ?_⟩ (by have := HL.out; omega) HSZ.out (by have := HL7.out; simp; omega)).mono ?_
 ·exact ⟨fun k hk => by simp [Value.ownBlock] at hk, [], ⟨by simp, .inl ⟨rfl, rfl⟩⟩, bQ.none _ _⟩
 rintro e w2 ⟨rfl, F', hst, ht, _⟩
 obtain ⟨hlo, hFb, hBF, v, hb2, hR2⟩ := hst
 rw [List.nil_append, HE.out] at hR2
 obtain ⟨g, c, rfl, hbg, hgl, _⟩ := Kd.wC hR2 (by simp)
 obtain ⟨_, hc7, hC⟩ := Kd.aV hR2
 have hbx : w2.cell? ⟨w1.heap.size, 0, none⟩ = some (.slice (some ⟨g, 0, none⟩) 7 c) := (aA hb2 0).trans rfl
 have kk : ∀ (i : Nat) (x : ByteArray), [m, r, s1, s2, s3, s4, s5][i]? = some x → w2.cell? ⟨g, i, none⟩ = some (.string x) := fun i x hx => by
  have hi : i < 7 := by obtain ⟨h, _⟩ := List.getElem?_eq_some_iff.mp hx; exact h
  obtain ⟨ad, e, h⟩ := Kd.fU hC (i : Int) (by omega) (by show (i : Int) < ((7 : Nat) : Int); omega)
  cases e
  rw [Int.toNat_natCast] at h
  refine Eq.trans ?_ (h.trans ?_)
  ·exact congrArg w2.cell? (by simp [Addr.add])
  ·unfold bB
   rw [Int.toNat_natCast, List.getD_eq_getElem?_getD, hx]; rfl
 have k0 := kk 0 m rfl
 have k1 := kk 1 r rfl
 have HJ := Lib.hid (Shelf.Gf g 2 (c - 2) [s1, s2, s3, s4, s5] ⟨#[]⟩ w2 (fun j x hx => kk (2 + j) x (by rw [← hx, Nat.add_comm 2 j]; rfl)) hgl (by simp) (by show 5 ≤ c - 2; have : 7 ≤ c := hc7; omega) HZ.out)
 have hcc : (7 : Nat) ≤ c := hc7
 have HW2 := Lib.hid (show Below w.heap.size w w2 from by
  have h0 : Below w1.heap.size w1 (w1.alloc (.cells #[.slice none 0 0] 45)) := (Below.refl _ w1).alloc (Nat.le_refl _) _
  exact eZ HBEL.out HBEL.out.size (h0.trans (ht.below h0.size fun k hk => by rw [hk]; exact Nat.le_refl _)))
 have HG := Lib.hid hgl
 have HBX := Lib.hid hb2
 have HBS := Lib.hid (eY hb2)
 have HB0' := Lib.hid ((ht.block w.heap.size (Nat.lt_trans HSW.out (HLT.out w1 _)) (fun h => Nat.ne_of_lt HSW.out h)).trans ((by have := HSW.out; exact Array.getElem?_push_lt this |>.trans (Array.getElem?_eq_getElem this).symm : (w1.alloc (.cells #[.slice none 0 0] 45)).heap[w.heap.size]? = w1.heap[w.heap.size]?).trans HB0.out))
 clear ht hlo hFb hBF hb2 hR2 hbg hgl hc7 hC kk HB0 HBEL
 go_wp2_with fail
 refine HJ.out.mono ?_
 rintro e w3 ⟨rfl, hb3⟩
 have HB3 := Lib.hid hb3
 obtain ⟨J, hJ⟩ : ∃ J, (⟨(Go.Lib.join ([s1, s2, s3, s4, s5].map (·.data.toList)) (⟨#[]⟩ : ByteArray).data.toList).toArray⟩ : ByteArray) = J := ⟨_, rfl⟩
 rw [hJ]
 have hsp := HSP.out
 rw [show (⟨(Go.Lib.join ([s1, s2, s3, s4, s5].map (·.data.toList)) ([] : List UInt8)).toArray⟩ : ByteArray) = J from hJ] at hsp
 have HSJ := Lib.hid hsp
 clear hb3 hJ HJ hsp
 go_wp2_with (first | ((with_reducible refine bP (N := 21) rfl ?_); refine Kd.mF (Kd.int .i64) _ 3 ?hg (N := 21) ?hd (xs := ([4, 4, 4, 4, 4] : List Int)) (inner := [.int .i64 4, .int .i64 4, .int .i64 4, .int .i64 4, .int .i64 4]) (ok := fun _ => True) (okp := fun _ => True) ?hr ?hp (fun _ hk => hk) trivial (Below.refl _ _) (Nat.le_refl _) (by simp) ?_; (case hd => rfl); (case hg => rfl); (case hr => first | (go_simp; done) | (go_simp; rfl)); (case hp => exact (bQ.one (show Kd.M (Kd.int .i64) _ _ _ 4 [.int .i64 4] from rfl) (bQ.one (show Kd.M (Kd.int .i64) _ _ _ 4 [.int .i64 4] from rfl) (bQ.one (show Kd.M (Kd.int .i64) _ _ _ 4 [.int .i64 4] from rfl) (bQ.one (show Kd.M (Kd.int .i64) _ _ _ 4 [.int .i64 4] from rfl) (bQ.one (show Kd.M (Kd.int .i64) _ _ _ 4 [.int .i64 4] from rfl) (bQ.none _ _))))))); intro v21 w4 ho hb hg_ hnew_; clear hg_ hnew_; obtain ⟨A21, c21, rfl⟩ := Kd.dn ho; have n0_ := Lib.hid ho; have n1_ := Lib.hid hb; clear ho hb; have HO21 := n0_; have HB4 := n1_; clear n0_ n1_))
 obtain ⟨_, hcl21, hC21⟩ := Kd.aV HO21.out
 refine (gG.calls J A21 c21 [4, 4, 4, 4, 4] _ _ _ w4 hC21 hcl21 HSJ.out).mono ?_
 rintro e w5 ⟨v5, rfl, hv5, hb5⟩
 obtain ⟨g5, c5, rfl, hbg5, hgl5, _⟩ := Kd.wC hv5 (by simp)
 obtain ⟨_, hc5, hC5⟩ := Kd.aV hv5
 have hB35 : Below w2.heap.size w2 w5 := eZ HB3.out HB3.out.size (eZ HB4.out HB4.out.size hb5)
 have hbx5 : w5.cell? ⟨w1.heap.size, 0, none⟩ = some (.slice (some ⟨g, 0, none⟩) 7 c) := (hB35.cell (p := ⟨w1.heap.size, 0, none⟩) HBS.out).trans hbx
 have k05 : w5.cell? ⟨g, 0, none⟩ = some (.string m) := (hB35.cell (p := ⟨g, 0, none⟩) HG.out).trans k0
 have k15 : w5.cell? ⟨g, 1, none⟩ = some (.string r) := (hB35.cell (p := ⟨g, 1, none⟩) HG.out).trans k1
 have nn : ∀ (i : Nat) (x : Int), [(beN s1.data.toList : Int), (beN s2.data.toList : Int), (beN s3.data.toList : Int), (beN s4.data.toList : Int), (beN s5.data.toList : Int)][i]? = some x → w5.cell? ⟨g5, i, none⟩ = some (.int .u64 x) := fun i x hx => by
  have hi : i < 5 := by obtain ⟨h, _⟩ := List.getElem?_eq_some_iff.mp hx; exact h
  obtain ⟨ad, e, h⟩ := Kd.kY hC5 (i : Int) (by omega) (by show (i : Int) < ((5 : Nat) : Int); omega)
  cases e
  rw [Int.toNat_natCast] at h
  refine Eq.trans ?_ (h.trans ?_)
  ·exact congrArg w5.cell? (by simp [Addr.add])
  ·unfold rd
   rw [Int.toNat_natCast, List.getD_eq_getElem?_getD, hx]; rfl
 obtain ⟨n1, hn1⟩ : ∃ n, (beN s1.data.toList : Int) = n := ⟨_, rfl⟩
 obtain ⟨n2, hn2⟩ : ∃ n, (beN s2.data.toList : Int) = n := ⟨_, rfl⟩
 obtain ⟨n3, hn3⟩ : ∃ n, (beN s3.data.toList : Int) = n := ⟨_, rfl⟩
 obtain ⟨n4, hn4⟩ : ∃ n, (beN s4.data.toList : Int) = n := ⟨_, rfl⟩
 obtain ⟨n5, hn5⟩ : ∃ n, (beN s5.data.toList : Int) = n := ⟨_, rfl⟩
 rw [hn1, hn2, hn3, hn4, hn5] at nn
 rw [hn1] at m1
 rw [hn2] at m2
 rw [hn3] at m3
 rw [hn4] at m4
 rw [hn5] at m5
 have q0 := nn 0 n1 rfl
 have q1 := nn 1 n2 rfl
 have q2 := nn 2 n3 rfl
 have q3 := nn 3 n4 rfl
 have q4 := nn 4 n5 rfl
 have hb0 := (hB35.block w.heap.size (Nat.lt_of_lt_of_le (Nat.lt_trans HSW.out HBS.out) (Nat.le_refl _))).trans HB0'.out
 have HBF := Lib.hid (eZ HW2.out HW2.out.size hB35)
 have HN := Lib.hid (And.intro hn1 (And.intro hn2 (And.intro hn3 (And.intro hn4 hn5))))
 clear hv5 hb5 hbg5 hgl5 hC5 hB35 nn HO21 HB4 hcl21 hC21 HB3 hn1 hn2 hn3 hn4 hn5 hbx k0 k1
 have u1 : IntKind.u32.wrap n1 = n1 := by simp only [IntKind.wrap, IntKind.bits, IntKind.signed]; simpa using m1
 have u2 : IntKind.u32.wrap n2 = n2 := by simp only [IntKind.wrap, IntKind.bits, IntKind.signed]; simpa using m2
 have u3 : IntKind.u32.wrap n3 = n3 := by simp only [IntKind.wrap, IntKind.bits, IntKind.signed]; simpa using m3
 have u4 : IntKind.u32.wrap n4 = n4 := by simp only [IntKind.wrap, IntKind.bits, IntKind.signed]; simpa using m4
 have u5 : IntKind.u32.wrap n5 = n5 := by simp only [IntKind.wrap, IntKind.bits, IntKind.signed]; simpa using m5
 have HB0 := Lib.hid hb0
 have hcc5 : (5 : Nat) ≤ c5 := hc5
 clear hb0 hc5
 clear HSP HSJ HZ HW HSZ HL7 HL HE HK HR HF m1 m2 m3 m4 m5
 go_wp2_with fail
 go_still_tail 27, (by kernel_rfl)
 change wpList _ _ _ _ _ w5.drew
 have hb0 : w5.drew.heap[w.heap.size]? = _ := HB0.out
 have HBG := Lib.hid (show Below w.heap.size w w5.drew from mh HBF.out)
 clear HB0 HBF hbx5 k05 k15 q0 q1 q2 q3 q4
 generalize w5.drew = w6 at hb0 HBG ⊢
 have c0 := aA hb0 0
 have c1 := aA hb0 1
 have c2 := aA hb0 2
 have c3 := aA hb0 3
 have c4 := aA hb0 4
 have c5' := aA hb0 5
 have c6 := aA hb0 6
 have f0 := aI hb0 0
 have f1 := aI hb0 1
 have f2 := aI hb0 2
 have f3 := aI hb0 3
 have f4 := aI hb0 4
 have f5 := aI hb0 5
 have f6 := aI hb0 6
 have HB0 := Lib.hid hb0
 clear hb0
 simp at c0 c1 c2 c3 c4 c5' c6
 go_wp2_with fail
 have hput := aM (aM (aM (aM (aM (aM (aM HB0.out 0 (.string m) rfl) 1 (.string r) rfl) 2 (.int .u32 n1) rfl) 3 (.int .u32 n2) rfl) 4 (.int .u32 n3) rfl) 5 (.int .u32 n4) rfl) 6 (.int .u32 n5) rfl
 refine bodyPost_ret (fI rfl _ _ w.heap.size 38 #[.string m, .string r, .int .u32 n1, .int .u32 n2, .int .u32 n3, .int .u32 n4, .int .u32 n5] (0, 0) _ rfl hput hu49 rfl (by kernel_rfl)) rfl ?_
 obtain ⟨hn1, hn2, hn3, hn4, hn5⟩ := HN.out
 rw [hn1, hn2, hn3, hn4, hn5]
 exact ⟨rfl, (((((((HBG.out.setCell (p := ⟨w.heap.size, 0, none⟩) (Nat.le_refl _) (.string m)).setCell (p := ⟨w.heap.size, 1, none⟩) (Nat.le_refl _) (.string r)).setCell (p := ⟨w.heap.size, 2, none⟩) (Nat.le_refl _) (.int .u32 n1)).setCell (p := ⟨w.heap.size, 3, none⟩) (Nat.le_refl _) (.int .u32 n2)).setCell (p := ⟨w.heap.size, 4, none⟩) (Nat.le_refl _) (.int .u32 n3)).setCell (p := ⟨w.heap.size, 5, none⟩) (Nat.le_refl _) (.int .u32 n4)).setCell (p := ⟨w.heap.size, 6, none⟩) (Nat.le_refl _) (.int .u32 n5))⟩
end Go.Y.kP
namespace Go.Y.Given
open Go.Y.dY Go.Y.kP
def jX.f (a0 : ByteArray) : Option (ByteArray × ByteArray × Int × Int × Int × Int × Int × Int) := if a0.size ≤ 9223372036854775807 then some (if fZ 6 a0 = true then (xq a0, xD a0, jL a0 0, jL a0 1, jL a0 2, jL a0 3, jL a0 4, 0) else (⟨#[]⟩, ⟨#[]⟩, 0, 0, 0, 0, 0, 2)) else none
theorem BO {a : ByteArray} (h : fZ 6 a = true) : jX.f a = some (xq a, xD a, jL a 0, jL a 1, jL a 2, jL a 3, jL a 4, 0) := by
 have := (rP h).1
 unfold jX.f
 rw [if_pos (by omega), if_pos h]
theorem KC {a : ByteArray} (hs : a.size ≤ 9223372036854775807) (h : fZ 6 a = false) : jX.f a = some (⟨#[]⟩, ⟨#[]⟩, 0, 0, 0, 0, 0, 2) := by
 unfold jX.f
 rw [if_pos hs, if_neg (by rw [h]; decide)]
theorem jX.calls (a0 : ByteArray) (r1 r2 : ByteArray) (r3 r4 r5 r6 r7 r8 : Int) (w : World) (h : jX.f a0 = some (r1, r2, r3, r4, r5, r6, r7, r8)) :
  Calls Tryz.prog 70 #[.string a0] w fun e w' => e = .returned (.tuple #[.agg #[.string r1, .string r2, .int .u32 r3, .int .u32 r4, .int .u32 r5, .int .u32 r6, .int .u32 r7], .int .i64 r8]) ∧ Below w.heap.size w w' := by
 have hs : a0.size ≤ 9223372036854775807 := Classical.byContradiction fun hn => by unfold jX.f at h; rw [if_neg hn] at h; cases h
 cases hr : fZ 6 a0 with
 | false =>
  rw [KC hs hr] at h
  simp only [Option.some.injEq, Prod.mk.injEq] at h
  obtain ⟨rfl, rfl, rfl, rfl, rfl, rfl, rfl, rfl⟩ := h
  exact Ke a0 w hs hr
 | true =>
  obtain ⟨m, r, s1, s2, s3, s4, s5, he, _, _, h1, h2, h3, h4, h5⟩ := Ae (rP hr).2.1
  obtain ⟨g1, g2, g3, g4, g5, g6, g7⟩ := Bl he
  rw [BO hr, g1, g2, g3, g4, g5, g6, g7] at h
  simp only [Option.some.injEq, Prod.mk.injEq] at h
  obtain ⟨rfl, rfl, rfl, rfl, rfl, rfl, rfl, rfl⟩ := h
  exact Hw a0 w hr m r s1 s2 s3 s4 s5 he h1 h2 h3 h4 h5
end Go.Y.Given
namespace Go.Y.PZm
open Go.Proofs.aj.aD Go.Proofs.aj.aQ Go.Proofs.aj.aW Go.Y.Given Go.Y.PRd Go.Y.PRr Go.Y.PZo Go.Y.PZf Go.Y.PZe Go.Y.PZh
attribute [local go_sem] dQ dP eD eF dJ dI dS dU
def kr : Option Int → Value
 | none => .nilIface
 | some c => .iface 0 (.int .i64 c)
theorem jK : kr none = .nilIface := rfl
theorem jN (c : Int) : kr (some c) = .iface 0 (.int .i64 c) := rfl
end Go.Y.PZm
namespace Go.Y.Given
open Go.Proofs.aj.aD Go.Proofs.aj.aQ Go.Proofs.aj.aW Go.Y.PRd Go.Y.PRr Go.Y.Rrs
abbrev cRR (x : RR) : Array Value := #[.string x.f0, .int .i64 x.f1, .int .i64 x.f2, .int .i64 x.f3, .string x.f4]
abbrev cSO (m r : ByteArray) (n1 n2 n3 n4 n5 : Int) : Array Value := #[.string m, .string r, .int .u32 n1, .int .u32 n2, .int .u32 n3, .int .u32 n4, .int .u32 n5]
abbrev lJ : Array Value := #[.string ⟨#[]⟩, .int .i64 0, .int .i64 0, .int .i64 0, .string ⟨#[]⟩]
abbrev mI : Array Value := #[.string ⟨#[]⟩, .string ⟨#[]⟩, .int .u32 0, .int .u32 0, .int .u32 0, .int .u32 0, .int .u32 0]
section
variable {w : World} {g t : Nat} {v0 v1 v2 v3 v4 v5 v6 : Value}
theorem cells5 (h : w.heap[g]? = some (.cells #[v0, v1, v2, v3, v4] t (0, 0))) : w.cell? ⟨g, 0, none⟩ = some v0 ∧ w.cell? ⟨g, 1, none⟩ = some v1 ∧ w.cell? ⟨g, 2, none⟩ = some v2 ∧ w.cell? ⟨g, 3, none⟩ = some v3 ∧ w.cell? ⟨g, 4, none⟩ = some v4 := ⟨(aA h 0).trans rfl, (aA h 1).trans rfl, (aA h 2).trans rfl, (aA h 3).trans rfl, (aA h 4).trans rfl⟩
theorem vM (h : w.heap[g]? = some (.cells #[v0, v1, v2, v3, v4, v5, v6] t (0, 0))) : w.cell? ⟨g, 0, none⟩ = some v0 ∧ w.cell? ⟨g, 1, none⟩ = some v1 ∧ w.cell? ⟨g, 2, none⟩ = some v2 ∧ w.cell? ⟨g, 3, none⟩ = some v3 ∧ w.cell? ⟨g, 4, none⟩ = some v4 ∧ w.cell? ⟨g, 5, none⟩ = some v5 ∧ w.cell? ⟨g, 6, none⟩ = some v6 := ⟨(aA h 0).trans rfl, (aA h 1).trans rfl, (aA h 2).trans rfl, (aA h 3).trans rfl, (aA h 4).trans rfl, (aA h 5).trans rfl, (aA h 6).trans rfl⟩
theorem yV {cs : Array Value} (h : w.heap[g]? = some (.cells cs t (0, 0))) : w.frozen? ⟨g, 0, none⟩ = false ∧ w.frozen? ⟨g, 1, none⟩ = false ∧ w.frozen? ⟨g, 2, none⟩ = false ∧ w.frozen? ⟨g, 3, none⟩ = false ∧ w.frozen? ⟨g, 4, none⟩ = false ∧ w.frozen? ⟨g, 5, none⟩ = false ∧ w.frozen? ⟨g, 6, none⟩ = false := ⟨aI h 0, aI h 1, aI h 2, aI h 3, aI h 4, aI h 5, aI h 6⟩
end
def pRR (w : World) (g : Nat) (x : RR) : World := ((((w.setCell ⟨g, 0, none⟩ (.string x.f0)).setCell ⟨g, 1, none⟩ (.int .i64 x.f1)).setCell ⟨g, 2, none⟩ (.int .i64 x.f2)).setCell ⟨g, 3, none⟩ (.int .i64 x.f3)).setCell ⟨g, 4, none⟩ (.string x.f4)
def pSO (w : World) (g : Nat) (m r : ByteArray) (n1 n2 n3 n4 n5 : Int) : World := ((((((w.setCell ⟨g, 0, none⟩ (.string m)).setCell ⟨g, 1, none⟩ (.string r)).setCell ⟨g, 2, none⟩ (.int .u32 n1)).setCell ⟨g, 3, none⟩ (.int .u32 n2)).setCell ⟨g, 4, none⟩ (.int .u32 n3)).setCell ⟨g, 5, none⟩ (.int .u32 n4)).setCell ⟨g, 6, none⟩ (.int .u32 n5)
section
variable {w : World} {g g' t t' : Nat} {cs : Array Value} (x : RR) (m r : ByteArray) (n1 n2 n3 n4 n5 : Int)
theorem BU {v0 v1 v2 v3 v4 : Value} (h : w.heap[g]? = some (.cells #[v0, v1, v2, v3, v4] t (0, 0))) : (pRR w g x).heap[g]? = some (.cells (cRR x) t (0, 0)) := aM (aM (aM (aM (aM h 0 _ rfl) 1 _ rfl) 2 _ rfl) 3 _ rfl) 4 _ rfl
theorem BF {v0 v1 v2 v3 v4 v5 v6 : Value} (h : w.heap[g]? = some (.cells #[v0, v1, v2, v3, v4, v5, v6] t (0, 0))) : (pSO w g m r n1 n2 n3 n4 n5).heap[g]? = some (.cells (cSO m r n1 n2 n3 n4 n5) t (0, 0)) := by
 exact aM (cs := #[.string m, .string r, .int .u32 n1, .int .u32 n2, .int .u32 n3, .int .u32 n4, v6]) (aM (cs := #[.string m, .string r, .int .u32 n1, .int .u32 n2, .int .u32 n3, v5, v6]) (aM (cs := #[.string m, .string r, .int .u32 n1, .int .u32 n2, v4, v5, v6]) (aM (cs := #[.string m, .string r, .int .u32 n1, v3, v4, v5, v6]) (aM (cs := #[.string m, .string r, v2, v3, v4, v5, v6]) (aM (cs := #[.string m, v1, v2, v3, v4, v5, v6]) (aM (cs := #[v0, v1, v2, v3, v4, v5, v6]) (h) 0 _ rfl) 1 _ rfl) 2 _ rfl) 3 _ rfl) 4 _ rfl) 5 _ rfl) 6 _ rfl
theorem BN (h : w.heap[g]? = some (.cells cs t (0, 0))) (e : g ≠ g') : (pRR w g' x).heap[g]? = some (.cells cs t (0, 0)) := by
 unfold pRR
 iterate 5 refine aR ?_ e _
 exact h
theorem BQ (h : w.heap[g]? = some (.cells cs t (0, 0))) (e : g ≠ g') : (pSO w g' m r n1 n2 n3 n4 n5).heap[g]? = some (.cells cs t (0, 0)) := by
 unfold pSO
 iterate 7 refine aR ?_ e _
 exact h
theorem yt {w0 : World} (h : Below w0.heap.size w0 w) (e : w0.heap.size ≤ g) : Below w0.heap.size w0 (pRR w g x) := bL (bL (bL (bL (bL h e) e) e) e) e
theorem xO {w0 : World} (h : Below w0.heap.size w0 w) (e : w0.heap.size ≤ g) : Below w0.heap.size w0 (pSO w g m r n1 n2 n3 n4 n5) := bL (bL (bL (bL (bL (bL (bL h e) e) e) e) e) e) e
end
theorem size_alloc (w : World) (o : Obj) : (w.alloc o).heap.size = w.heap.size + 1 := by show (w.heap.push _).size = _; rw [Array.size_push]
end Go.Y.Given
namespace Go.Y.PZm
open Go.Proofs.aj.aD Go.Proofs.aj.aQ Go.Proofs.aj.aW Go.Y.Given Go.Y.PRd Go.Y.PRr Go.Y.PZo Go.Y.PZf Go.Y.PZe Go.Y.PZh
attribute [local go_sem] dQ dP eD eF dJ dI dS dU
noncomputable def jB.f (a0_0 : ByteArray) (l0_1 : List (S35)) (a0_2 : Int) : Option (ByteArray × Int × Int × Int × ByteArray × ByteArray × ByteArray × Int × Int × Int × Int × Int) := if 0 ≤ a0_2 then (if a0_2 < (l0_1.length : Int) then ((jX.f ((au l0_1 a0_2).f4)).bind fun bt106 => (some ((au l0_1 a0_2).f0, (au l0_1 a0_2).f1, (au l0_1 a0_2).f2, (au l0_1 a0_2).f3, (au l0_1 a0_2).f4, bt106.1, bt106.2.1, bt106.2.2.1, bt106.2.2.2.1, bt106.2.2.2.2.1, bt106.2.2.2.2.2.1, bt106.2.2.2.2.2.2.1))) else (none)) else (none)
theorem jB.calls (a0_0 : ByteArray) (A0_1 : Option Addr) (c0_1 : Nat) (l0_1 : List (S35)) (a0_2 : Int) (r1 : ByteArray) (r2 r3 r4 : Int) (r5 r6 r7 : ByteArray) (r8 r9 r10 r11 r12 : Int) (w : World) (hr0_1 : Kd.C k35 w A0_1 l0_1.length l0_1) (hc0_1 : l0_1.length ≤ c0_1) (h : jB.f a0_0 l0_1 a0_2 = some (r1, r2, r3, r4, r5, r6, r7, r8, r9, r10, r11, r12)) :
  Calls Tryz.prog 19 #[.agg #[.string a0_0, .slice A0_1 l0_1.length c0_1, .int .i64 a0_2]] w fun e w' => e = .returned (.tuple #[.agg #[.string r1, .int .i64 r2, .int .i64 r3, .int .i64 r4, .string r5], .agg #[.string r6, .string r7, .int .u32 r8, .int .u32 r9, .int .u32 r10, .int .u32 r11, .int .u32 r12]]) ∧ Below w.heap.size w w' := by
 unfold jB.f at h
 have p1 : 0 ≤ a0_2 := Classical.byContradiction fun hn => by rw [if_neg hn] at h; cases h
 rw [if_pos p1] at h
 have q1 : a0_2 < (l0_1.length : Int) := Classical.byContradiction fun hn => by rw [if_neg hn] at h; cases h
 rw [if_pos q1] at h
 obtain ⟨⟨m, r, n1, n2, n3, n4, n5, en⟩, hso, h⟩ := Option.bind_eq_some_iff.mp h
 obtain ⟨ad, e1, hx0, hx1, hx2, hx3, hx4⟩ := eT hr0_1 a0_2 p1 q1
 obtain ⟨x, hx⟩ : ∃ x, au l0_1 a0_2 = x := ⟨_, rfl⟩
 rw [hx] at hso h hx0 hx1 hx2 hx3 hx4
 simp only [Option.some.injEq, Prod.mk.injEq] at h
 obtain ⟨rfl, rfl, rfl, rfl, rfl, rfl, rfl, rfl, rfl, rfl, rfl, rfl⟩ := h
 cases e1
 obtain ⟨N, hN⟩ : ∃ N, l0_1.length = N := ⟨_, rfl⟩
 rw [hN] at q1 ⊢
 have HSO := Lib.hid hso
 have hu26 := Tryz.underlying26
 have hu35 := Tryz.underlying35
 have hu38 := Tryz.underlying38
 have HB := ah.mk (Below.refl w.heap.size w)
 clear hr0_1 hc0_1 hso hx hN
 go_enter Tryz.func19, Tryz.ntmps19
 go_wp2_with (first | ((with_reducible refine bP (N := 1) rfl ?_); refine bW ?hg (N := 1) ?hd (cs := #[.string a0_0, .slice (some ad) N c0_1, .int .i64 a0_2]) (t := 26) ?hr ?_; (case hd => rfl); (case hg => rfl); (case hr => first | (go_simp; done) | (go_simp; rfl)); intro gb hg w3 hbox hb; have n0_ := ah.mk (av (HB.out) hb); have n1_ := ah.mk (hbox); clear HB; have HB := n0_; have BK := n1_; clear n0_ n1_; clear hb hbox hg; have hw4 := eH (eH BK.out (.cells lJ 35)) (.cells mI 38); have hcy1 : ((w3.alloc (.cells lJ 35)).alloc (.cells mI 38)).cell? ⟨gb, 1, none⟩ = some (.slice (some ad) N c0_1) := (aA hw4 1).trans rfl; have hcy2 : ((w3.alloc (.cells lJ 35)).alloc (.cells mI 38)).cell? ⟨gb, 2, none⟩ = some (.int .i64 a0_2) := (aA hw4 2).trans rfl; have hBE := bC (bC HB.out (.cells lJ 35)) (.cells mI 38); replace hx0 := (hBE.cell (World.block_lt_of_cell? w _ hx0)).trans hx0; replace hx1 := (hBE.cell (World.block_lt_of_cell? w _ hx1)).trans hx1; replace hx2 := (hBE.cell (World.block_lt_of_cell? w _ hx2)).trans hx2; replace hx3 := (hBE.cell (World.block_lt_of_cell? w _ hx3)).trans hx3; replace hx4 := (hBE.cell (World.block_lt_of_cell? w _ hx4)).trans hx4; clear hw4 hBE))
 have hBW := bC (bC (bC HB.out (.cells lJ 35)) (.cells mI 38)) (.cells (cRR x) 35)
 have s3 := size_alloc w3 (.cells lJ 35)
 have s4 := size_alloc (w3.alloc (.cells lJ 35)) (.cells mI 38)
 have k2 := eH (eH (heap_alloc_new w3 (.cells lJ 35)) (.cells mI 38)) (.cells (cRR x) 35)
 have k3 := eH (heap_alloc_new (w3.alloc (.cells lJ 35)) (.cells mI 38)) (.cells (cRR x) 35)
 have k4 := heap_alloc_new ((w3.alloc (.cells lJ 35)).alloc (.cells mI 38)) (.cells (cRR x) 35)
 have GE2 : w.heap.size ≤ w3.heap.size := ay HB.out
 rw [s3] at k3 s4
 rw [s4] at k4
 clear s3 s4 hcy1 hcy2 hx0 hx1 hx2 hx3 hx4 HB BK
 generalize w3.heap.size = g2 at k2 k3 k4 GE2 ⊢
 generalize (((w3.alloc (.cells lJ 35)).alloc (.cells mI 38)).alloc (.cells (cRR x) 35)) = w4 at hBW k2 k3 k4 ⊢
 refine (jX.calls x.f4 _ _ _ _ _ _ _ _ w4 HSO.out).mono ?_
 rintro e w5 ⟨rfl, hb5⟩
 have kc0 : (w5.alloc (.cells (cSO m r n1 n2 n3 n4 n5) 38)).cell? ⟨g2 + 1 + 1, 0, none⟩ = some (.string x.f0) := (aA (eH (aC k4 hb5) _) 0).trans rfl
 have hBF := bC (eZ hBW hBW.size hb5) (.cells (cSO m r n1 n2 n3 n4 n5) 38)
 have l2 := eY (aC k2 hb5)
 have l3 := eY (aC k3 hb5)
 replace k2 := eH (aC k2 hb5) (.cells (cSO m r n1 n2 n3 n4 n5) 38)
 replace k3 := eH (aC k3 hb5) (.cells (cSO m r n1 n2 n3 n4 n5) 38)
 replace k4 := eH (aC k4 hb5) (.cells (cSO m r n1 n2 n3 n4 n5) 38)
 have k5 := heap_alloc_new w5 (.cells (cSO m r n1 n2 n3 n4 n5) 38)
 have HBF := Lib.hid hBF
 have K2 := Lib.hid k2
 have K3 := Lib.hid k3
 have K4 := Lib.hid k4
 have K5 := Lib.hid k5
 clear hb5 hBW hBF k2 k3 k4 k5
 go_wp2_with fail
 have k2 := K2.out
 have k3 := K3.out
 have k4 := K4.out
 have k5 := K5.out
 have hBF := HBF.out
 clear kc0 K2 K3 K4 K5 HBF
 generalize w5.alloc (.cells (cSO m r n1 n2 n3 n4 n5) 38) = w6 at k2 k3 k4 k5 hBF ⊢
 generalize w5.heap.size = g5 at k5 l2 l3 ⊢
 obtain ⟨g3, hg3⟩ : ∃ g, g2 + 1 = g := ⟨_, rfl⟩
 obtain ⟨g4, hg4⟩ : ∃ g, g3 + 1 = g := ⟨_, rfl⟩
 rw [hg3] at k3 k4 l3 ⊢
 rw [hg4] at k4 ⊢
 have e1 : g2 ≠ g5 := Nat.ne_of_lt l2
 have e2 : g3 ≠ g5 := Nat.ne_of_lt l3
 have e3 := Ne.symm e1
 have e4 := Ne.symm e2
 have e5 : g2 ≠ g3 := by omega
 have e6 := Ne.symm e5
 have e7 : g4 ≠ g2 := by omega
 have e8 : g4 ≠ g3 := by omega
 have e9 := Ne.symm e7
 have e10 := Ne.symm e8
 have GE3 : w.heap.size ≤ g3 := by omega
 obtain ⟨a0, a1, a2, a3, a4⟩ := cells5 k4
 obtain ⟨b0, b1, b2, b3, b4, b5, b6⟩ := vM k5
 obtain ⟨c0, c1, c2, c3, c4⟩ := cells5 k2
 obtain ⟨d0, d1, d2, d3, d4, d5, d6⟩ := vM k3
 obtain ⟨f0, f1, f2, f3, f4, _⟩ := yV k2
 obtain ⟨h0, h1, h2, h3, h4, h5, h6⟩ := yV k3
 have K2 := Lib.hid k2
 have K3 := Lib.hid k3
 have HBF := Lib.hid hBF
 have G2 := Lib.hid GE2
 have G3 := Lib.hid GE3
 have E56 := Lib.hid e5
 clear k2 k3 k4 k5 hBF GE2 GE3 hg3 hg4 l2 l3
 go_big_region
 all_goals go_wp2
 change bodyPost _ _ _ _ _ (pSO (pRR w6 g2 x) g3 m r n1 n2 n3 n4 n5).drew
 refine bodyPost_ret (vS rfl _ _ g2 g3 35 38 (cRR x) (cSO m r n1 n2 n3 n4 n5) (0, 0) (0, 0) _ _ rfl (eG (BQ m r n1 n2 n3 n4 n5 (BU x K2.out) E56.out)) hu35 rfl (by kernel_rfl) rfl (eG (BF m r n1 n2 n3 n4 n5 (BN x K3.out (Ne.symm E56.out)))) hu38 rfl (by kernel_rfl)) rfl ?_
 exact ⟨rfl, mh (xO m r n1 n2 n3 n4 n5 (yt x HBF.out G2.out) G3.out)⟩
noncomputable def fF.f (k : Nat) (a0_0 : ByteArray) (l0_1 : List (S35)) : Option (ByteArray × Int × Int × Int × ByteArray × ByteArray × ByteArray × Int × Int × Int × Int × Int) := (bK.f k l0_1 6).bind fun t118 => (if 0 < (t118.length : Int) then ((bH.f k ((au t118 0).f4)).bind fun bt123 => (some ((au t118 0).f0, (au t118 0).f1, (au t118 0).f2, (au t118 0).f3, (au t118 0).f4, bt123.1, bt123.2.1, bt123.2.2.1, bt123.2.2.2.1, bt123.2.2.2.2.1, bt123.2.2.2.2.2.1, bt123.2.2.2.2.2.2.1))) else (none))
theorem fF.calls (k : Nat) (a0_0 : ByteArray) (A0_1 : Option Addr) (c0_1 : Nat) (l0_1 : List (S35)) (r1 : ByteArray) (r2 : Int) (r3 : Int) (r4 : Int) (r5 : ByteArray) (r6 : ByteArray) (r7 : ByteArray) (r8 : Int) (r9 : Int) (r10 : Int) (r11 : Int) (r12 : Int) (w : World) (hr0_1 : Kd.C k35 w A0_1 l0_1.length l0_1) (hc0_1 : l0_1.length ≤ c0_1) (h : fF.f k a0_0 l0_1 = some (r1, r2, r3, r4, r5, r6, r7, r8, r9, r10, r11, r12)) :
  Calls Tryz.prog 20 #[.agg #[.string a0_0, .slice A0_1 l0_1.length c0_1]] w fun e w' => e = .returned (.tuple #[.agg #[.string r1, .int .i64 r2, .int .i64 r3, .int .i64 r4, .string r5], .agg #[.string r6, .string r7, .int .u32 r8, .int .u32 r9, .int .u32 r10, .int .u32 r11, .int .u32 r12]]) ∧ Below w.heap.size w w' := by
 unfold fF.f at h
 obtain ⟨t, ht, h⟩ := Option.bind_eq_some_iff.mp h
 have q1 : (0 : Int) < (t.length : Int) := Classical.byContradiction fun hn => by rw [if_neg hn] at h; cases h
 rw [if_pos q1] at h
 obtain ⟨⟨m, r, n1, n2, n3, n4, n5, en⟩, hso, h⟩ := Option.bind_eq_some_iff.mp h
 obtain ⟨x, hx⟩ : ∃ x, au t 0 = x := ⟨_, rfl⟩
 rw [hx] at hso h
 simp only [Option.some.injEq, Prod.mk.injEq] at h
 obtain ⟨rfl, rfl, rfl, rfl, rfl, rfl, rfl, rfl, rfl, rfl, rfl, rfl⟩ := h
 have HSO := Lib.hid hso
 have HC := Lib.hid hr0_1
 have HT := Lib.hid ht
 have HL := Lib.hid hc0_1
 have hu26 := Tryz.underlying31
 have hu35 := Tryz.underlying35
 have hu38 := Tryz.underlying38
 have HB := ah.mk (Below.refl w.heap.size w)
 clear hr0_1 hc0_1 hso ht
 go_enter Tryz.func20, Tryz.ntmps20
 go_wp2_with (first | ((with_reducible refine bP (N := 1) rfl ?_); refine bW ?hg (N := 1) ?hd (cs := #[.string a0_0, .slice A0_1 l0_1.length c0_1]) (t := 31) ?hr ?_; (case hd => rfl); (case hg => rfl); (case hr => first | (go_simp; done) | (go_simp; rfl)); intro gb hg w3 hbox hb; have n0_ := ah.mk (av (HB.out) hb); have n1_ := ah.mk (hbox); clear HB; have HB := n0_; have BK := n1_; clear n0_ n1_; clear hb hbox hg; have hcy1 : ((w3.alloc (.cells lJ 35)).alloc (.cells mI 38)).cell? ⟨gb, 1, none⟩ = some (.slice A0_1 l0_1.length c0_1) := (aA (eH (eH BK.out (.cells lJ 35)) (.cells mI 38)) 1).trans rfl))
 have hBW := bC (bC HB.out (.cells lJ 35)) (.cells mI 38)
 have s3 := size_alloc w3 (.cells lJ 35)
 have k2 := eH (heap_alloc_new w3 (.cells lJ 35)) (.cells mI 38)
 have k3 := heap_alloc_new (w3.alloc (.cells lJ 35)) (.cells mI 38)
 have GE2 : w.heap.size ≤ w3.heap.size := ay HB.out
 rw [s3] at k3
 clear s3 hcy1 HB BK
 generalize w3.heap.size = g2 at k2 k3 GE2 ⊢
 generalize ((w3.alloc (.cells lJ 35)).alloc (.cells mI 38)) = w4 at hBW k2 k3 ⊢
 refine (bK.calls k _ _ l0_1 6 t w4 (Kd.gQ HC.out hBW) HL.out HT.out).mono ?_
 rintro e w5 ⟨v, rfl, ho, hb5⟩
 obtain ⟨Ao, co, rfl⟩ := Kd.dn ho
 obtain ⟨ad, e1, hx0, hx1, hx2, hx3, hx4⟩ := eT (Kd.aV ho).2.2 0 (Int.le_refl 0) q1
 cases e1
 rw [hx] at hx0 hx1 hx2 hx3 hx4
 rw [show ((0 : Int)).toNat = 0 from rfl, show 0 * 5 = 0 from rfl, Addr.add_zero'] at hx0 hx1 hx2 hx3 hx4
 have hBW := eZ hBW hBW.size hb5
 have k2 := aC k2 hb5
 have k3 := aC k3 hb5
 obtain ⟨N, hN⟩ : ∃ N, t.length = N := ⟨_, rfl⟩
 rw [hN] at q1 ⊢
 clear ho hN hx HT HC HL
 have HBW := Lib.hid hBW
 have K2 := Lib.hid k2
 have K3 := Lib.hid k3
 have G2 := Lib.hid GE2
 clear hBW k2 k3 GE2
 go_wp2_with fail
 have l4 := eY K2.out
 have l5 := eY K3.out
 have hBW := bC HBW.out (.cells (cRR x) 35)
 have k2 := eH K2.out (.cells (cRR x) 35)
 have k3 := eH K3.out (.cells (cRR x) 35)
 have k4 := heap_alloc_new w5 (.cells (cRR x) 35)
 have GE2 := G2.out
 clear K2 K3 HBW G2 hx0 hx1 hx2 hx3 hx4 hb5
 generalize w5.heap.size = g4 at k4 l4 l5 ⊢
 generalize (w5.alloc (.cells (cRR x) 35)) = w4 at hBW k2 k3 k4 ⊢
 refine (bH.calls k x.f4 _ _ _ _ _ _ _ _ w4 HSO.out).mono ?_
 rintro e w5 ⟨rfl, hb5⟩
 have kc0 : (w5.alloc (.cells (cSO m r n1 n2 n3 n4 n5) 38)).cell? ⟨g4, 0, none⟩ = some (.string x.f0) := (aA (eH (aC k4 hb5) _) 0).trans rfl
 have hBF := bC (eZ hBW hBW.size hb5) (.cells (cSO m r n1 n2 n3 n4 n5) 38)
 have l2 := eY (aC k2 hb5)
 have l3 := eY (aC k3 hb5)
 replace k2 := eH (aC k2 hb5) (.cells (cSO m r n1 n2 n3 n4 n5) 38)
 replace k3 := eH (aC k3 hb5) (.cells (cSO m r n1 n2 n3 n4 n5) 38)
 replace k4 := eH (aC k4 hb5) (.cells (cSO m r n1 n2 n3 n4 n5) 38)
 have k5 := heap_alloc_new w5 (.cells (cSO m r n1 n2 n3 n4 n5) 38)
 have HBF := Lib.hid hBF
 have K2 := Lib.hid k2
 have K3 := Lib.hid k3
 have K4 := Lib.hid k4
 have K5 := Lib.hid k5
 clear hb5 hBW hBF k2 k3 k4 k5
 go_wp2_with fail
 have k2 := K2.out
 have k3 := K3.out
 have k4 := K4.out
 have k5 := K5.out
 have hBF := HBF.out
 clear kc0 K2 K3 K4 K5 HBF
 generalize w5.alloc (.cells (cSO m r n1 n2 n3 n4 n5) 38) = w6 at k2 k3 k4 k5 hBF ⊢
 generalize w5.heap.size = g5 at k5 l2 l3 ⊢
 obtain ⟨g3, hg3⟩ : ∃ g, g2 + 1 = g := ⟨_, rfl⟩
 rw [hg3] at k3 l3 l5 ⊢
 have e1 : g2 ≠ g5 := Nat.ne_of_lt l2
 have e2 : g3 ≠ g5 := Nat.ne_of_lt l3
 have e3 := Ne.symm e1
 have e4 := Ne.symm e2
 have e5 : g2 ≠ g3 := by omega
 have e6 := Ne.symm e5
 have e7 : g4 ≠ g2 := by omega
 have e8 : g4 ≠ g3 := by omega
 have e9 := Ne.symm e7
 have e10 := Ne.symm e8
 have GE3 : w.heap.size ≤ g3 := by omega
 obtain ⟨a0, a1, a2, a3, a4⟩ := cells5 k4
 obtain ⟨b0, b1, b2, b3, b4, b5, b6⟩ := vM k5
 obtain ⟨c0, c1, c2, c3, c4⟩ := cells5 k2
 obtain ⟨d0, d1, d2, d3, d4, d5, d6⟩ := vM k3
 obtain ⟨f0, f1, f2, f3, f4, _⟩ := yV k2
 obtain ⟨h0, h1, h2, h3, h4, h5, h6⟩ := yV k3
 have K2 := Lib.hid k2
 have K3 := Lib.hid k3
 have HBF := Lib.hid hBF
 have G2 := Lib.hid GE2
 have G3 := Lib.hid GE3
 have E56 := Lib.hid e5
 clear k2 k3 k4 k5 hBF GE2 GE3 hg3 l2 l3 l4 l5
 go_big_region
 all_goals go_wp2
 change bodyPost _ _ _ _ _ (pSO (pRR w6 g2 x) g3 m r n1 n2 n3 n4 n5).drew
 refine bodyPost_ret (vS rfl _ _ g2 g3 35 38 (cRR x) (cSO m r n1 n2 n3 n4 n5) (0, 0) (0, 0) _ _ rfl (eG (BQ m r n1 n2 n3 n4 n5 (BU x K2.out) E56.out)) hu35 rfl (by kernel_rfl) rfl (eG (BF m r n1 n2 n3 n4 n5 (BN x K3.out (Ne.symm E56.out)))) hu38 rfl (by kernel_rfl)) rfl ?_
 exact ⟨rfl, mh (xO m r n1 n2 n3 n4 n5 (yt x HBF.out G2.out) G3.out)⟩
noncomputable def bq.l0 : Nat → List ByteArray → Int → ByteArray → List (S35) → Option (List ByteArray)
 | 0, _, _, _, _ => none
 | k + 1, x3, x4, x133000, x133001 => if x4 < (x133001.length : Int) then (if 0 ≤ x4 then ((aH.f k ((au x133001 x4).f0)).bind fun t134 => (if (x3.length : Int) = 0 then (if x3.length < 8796093022208 then (bq.l0 k (x3 ++ [t134]) (wrap64 (x4 + 1)) x133000 x133001) else (none)) else (if 0 ≤ (wrap64 ((x3.length : Int) - 1)) then (if (wrap64 ((x3.length : Int) - 1)) < (x3.length : Int) then (if (bB ByteArray.empty x3 (wrap64 ((x3.length : Int) - 1))).toList = t134.toList then (bq.l0 k x3 (wrap64 (x4 + 1)) x133000 x133001) else (if x3.length < 8796093022208 then (bq.l0 k (x3 ++ [t134]) (wrap64 (x4 + 1)) x133000 x133001) else (none))) else (none)) else (none)))) else (none)) else (some x3)
noncomputable def bq.f (k : Nat) (a0_0 : ByteArray) (l0_1 : List (S35)) : Option (List ByteArray) := bq.l0 k ([] : List ByteArray) 0 a0_0 l0_1
theorem bq.calls (k : Nat) (a0_0 : ByteArray) (A0_1 : Option Addr) (c0_1 : Nat) (l0_1 : List (S35)) (r : List ByteArray) (w : World) (hr0_1 : Kd.C k35 w A0_1 l0_1.length l0_1) (hc0_1 : l0_1.length ≤ c0_1) (h : bq.f k a0_0 l0_1 = some r) :
    Calls Tryz.prog 26 #[.agg #[.string a0_0, .slice A0_1 l0_1.length c0_1]] w fun e w' => ∃ v0_ : Value, e = .returned (v0_) ∧ Kd.R Kd.string 9 w' w.heap.size (fun _ => True) v0_ r ∧ Below w.heap.size w w' := by
  have hu31 := Tryz.underlying31
  have HR0_1 := ah.mk hr0_1
  have HC0_1 := ah.mk hc0_1
  clear hr0_1 hc0_1
  have HB := ah.mk (Below.refl w.heap.size w)
  have H : (bq.l0 k ([] : List ByteArray) 0 a0_0 l0_1) = some r := h
  clear h
  have H' := ah.mk H
  clear H
  go_enter Tryz.func26, Tryz.ntmps26
  go_wp2_with (((((refine be_ (N := 1) (cs := #[.string a0_0, .slice A0_1 l0_1.length c0_1]) (t := 31) ?_)); intro gb132 hg w2 hbox hb; have BK132 := ah.mk (hbox); have GW132 := ah.mk (ge_ hg (ay HB.out)); have GE132 := ah.mk (ge_ hg (ay HB.out)); replace HB := ah.mk (av HB.out hb); clear hb hbox hg)))
  go_loopg [3, 4] k (fun kq v3 v4 w' => ∃ (x3_1 : List ByteArray) (x4_1 : Int), v4 = .int .i64 x4_1 ∧ ah (bq.l0 kq x3_1 x4_1 a0_0 l0_1 = some r) ∧ ah (kq ≤ k) ∧ ah (Kd.R Kd.string 9 w' w.heap.size (fun _ => True) v3 x3_1) ∧ ah (w'.heap[gb132]? = some (.cells #[.string a0_0, (.slice A0_1 l0_1.length c0_1)] 31 (0, 0))) ∧ ah (Below w.heap.size w w'))
  case atStart => exact ⟨(([] : List ByteArray)), (0), (by rfl), H', ⟨Nat.le_refl _⟩, ⟨by (exact Kd.fJ _ _ _ _ _)⟩, ⟨by (with_reducible repeat ((refine ak ?_ _))); exact BK132.out⟩, ⟨HB.out⟩⟩
  case round =>
   clear H'
   obtain ⟨x3_1, x4_1, rfl, HA, HK1, HO_3, BK132, HB⟩ := hrel
   cases gk with
   | zero => exact absurd HA.out (by simp [bq.l0])
   | succ k1 =>
    have H := HA.out
    clear HA
    simp only [bq.l0] at H
    by_cases c3 : x4_1 < (l0_1.length : Int)
    focus
     rw [if_pos c3] at H
     have c3b0 : decide (x4_1 < (l0_1.length : Int)) = true := decide_eq_true c3
     clear c3
     obtain ⟨c4b0, H⟩ := fq H
     obtain ⟨t134, A5, H⟩ := cK H
     by_cases c6 : (x3_1.length : Int) = 0
     focus
      rw [if_pos c6] at H
      have c6b0 : ((x3_1.length : Int) == 0) = true := beq_iff_eq.mpr c6
      have c6b1 : ((x3_1.length : Int) != 0) = false := bne_eq_false_iff_eq.mpr c6
      clear c6
      obtain ⟨c7, H⟩ := gd_ H
      have LMc7 := ah.mk c7
      clear c7
      obtain ⟨y135, hy135⟩ : ∃ y_ : List ByteArray, y_ = (x3_1 ++ [t134]) := ⟨_, rfl⟩
      replace H : (bq.l0 k1 y135 (wrap64 (x4_1 + 1)) a0_0 l0_1) = some r := by (rw [hy135]; with_reducible exact H)
      have Ny135 := ah.mk hy135
      clear hy135
     rotate_left
     focus
      rw [if_neg c6] at H
      have c6b0 : ((x3_1.length : Int) == 0) = false := beq_eq_false_iff_ne.mpr c6
      have c6b1 : ((x3_1.length : Int) != 0) = true := bne_iff_ne.mpr c6
      have c6b2 : ¬ (x3_1 = []) := fun h_ => c6 (by rw [h_]; rfl)
      obtain ⟨ji12, hji12⟩ : ∃ j_ : Int, (wrap64 ((x3_1.length : Int) - 1)) = j_ := ⟨_, rfl⟩
      rw [hji12] at H
      have hji12w : (IntKind.i64.wrap ((x3_1.length : Int) - 1)) = ji12 := (gu _).trans hji12
      obtain ⟨c13b0, H⟩ := fq H
      obtain ⟨c14b0, H⟩ := fq H
      by_cases c15 : (bB ByteArray.empty x3_1 (ji12)).toList = t134.toList
      focus
       rw [if_pos c15] at H
       have c15b0 : ((bB ByteArray.empty x3_1 (ji12)).toList == t134.toList) = true := beq_iff_eq.mpr c15
       have c15b1 : ((bB ByteArray.empty x3_1 (ji12)).toList != t134.toList) = false := bne_eq_false_iff_eq.mpr c15
       clear c15
      rotate_left
      focus
       rw [if_neg c15] at H
       have c15b0 : ((bB ByteArray.empty x3_1 (ji12)).toList == t134.toList) = false := beq_eq_false_iff_ne.mpr c15
       have c15b1 : ((bB ByteArray.empty x3_1 (ji12)).toList != t134.toList) = true := bne_iff_ne.mpr c15
       obtain ⟨c19, H⟩ := gd_ H
       have LMc19 := ah.mk c19
       clear c19
       obtain ⟨y139, hy139⟩ : ∃ y_ : List ByteArray, y_ = (x3_1 ++ [t134]) := ⟨_, rfl⟩
       replace H : (bq.l0 k1 y139 (wrap64 (x4_1 + 1)) a0_0 l0_1) = some r := by (rw [hy139]; with_reducible exact H)
       have Ny139 := ah.mk hy139
       clear hy139
      rotate_left
     rotate_left 2
     all_goals
      have H' := ah.mk H
      clear H
    rotate_left 3
    focus
     rw [if_neg c3] at H
     have c3b0 : decide (x4_1 < (l0_1.length : Int)) = false := decide_eq_false c3
     clear c3
     obtain rfl := Option.some.inj H
    rotate_left
    all_goals
     obtain ⟨hcz8_0, hcz8_1, hfz8_0, hfz8_1⟩ := z2_ BK132.out
    iterate 3
     focus
      have p133 : 0 ≤ (x4_1 : Int) := of_decide_eq_true (by assumption)
      have q133 : x4_1 < (l0_1.length : Int) := of_decide_eq_true (by assumption)
      obtain ⟨ad133, e133, hx133_0, hx133_1, hx133_2, hx133_3, hx133_4⟩ := eT HR0_1.out x4_1 p133 q133
      cases e133
      replace hx133_0 := kp_ HB.out hx133_0
      replace hx133_1 := kp_ HB.out hx133_1
      replace hx133_2 := kp_ HB.out hx133_2
      replace hx133_3 := kp_ HB.out hx133_3
      replace hx133_4 := kp_ HB.out hx133_4
      replace p133 := eq_true p133
      replace q133 := eq_true q133
     rotate_left
    rotate_left
    ·go_wp2_with (first | (refine gl_ (some 19) Tryz.func75 #[.string ((au l0_1 x4_1).f0)] ?_; (with_reducible refine (aH.calls k1 ((au l0_1 x4_1).f0) t134 _ A5.out).mono ?_); rintro e w9 ⟨rfl, hb⟩; refine ⟨_, rfl, ?_⟩; replace HO_3 := ah.mk (Kd.bI (by ((exact HO_3.out))) hb); replace BK132 := ah.mk (aC (by ((exact BK132.out))) hb); replace HB := ah.mk (av HB.out hb); (try clear hb); obtain ⟨Ao10, co10, eo10⟩ := Kd.dn HO_3.out; subst eo10) | ((with_reducible refine dX (b := .append) (xs := #[.tmp 33, .tmp 35]) rfl ?_); (try (refine fC (by rfl) ?_; dsimp only)); at_builtin; refine Kd.fO Kd.string (w0 := w) w.heap.size rfl (.tmp 33) (.tmp 35) 45 9 (.string ⟨#[]⟩) 16 rfl Tryz.underlying45 mE rfl (by decide) (by omega) (.slice Ao10 x3_1.length co10) x3_1 t134 [.string t134] (fun _ => True) (fun _ => False) rfl rfl ?aP (fun _ hk => hk.elim) ?aF ?aO ?aB ?aS ?aL ?_; (case aP => exact rfl); (case aB => exact HB.out); (case aF => exact (fun _ _ => trivial)); (case aO => exact (by ((exact HO_3.out)))); (case aS => exact (ay HB.out)); (case aL => have := LMc7.out; omega); intro v136 w11 ho hb hg hat; rw [← Ny135.out] at ho; have n0_ := ah.mk (gV (g := gb132) (o := .cells #[.string a0_0, .slice (some ad133) l0_1.length c0_1] 31 (0, 0)) (by ((exact BK132.out))) hg (Kd.fH HO_3.out BK132.out (by decide))); have n1_ := ah.mk (hb); have n2_ := ah.mk (ho); clear BK132; clear HB; clear HO_3; have BK132 := n0_; have HB := n1_; have HO137 := n2_; clear n0_ n1_ n2_; clear ho hb hg hat))
     go_roundg k1
     case measure => have := HK1.out; omega
     case rel => exact ⟨(y135), (wrap64 (x4_1 + 1)), (by rfl), H', ⟨by have := HK1.out; omega⟩, ⟨by (with_reducible repeat ((apply Kd.bf))); exact HO137.out⟩, ⟨by (with_reducible repeat ((refine ak ?_ _))); exact BK132.out⟩, ⟨HB.out⟩⟩
    ·go_wp2_with (((refine gl_ (some 19) Tryz.func75 #[.string ((au l0_1 x4_1).f0)] ?_; (with_reducible refine (aH.calls k1 ((au l0_1 x4_1).f0) t134 _ A5.out).mono ?_); rintro e w17 ⟨rfl, hb⟩; refine ⟨_, rfl, ?_⟩; replace HO_3 := ah.mk (Kd.bI (by ((exact HO_3.out))) hb); replace BK132 := ah.mk (aC (by ((exact BK132.out))) hb); replace HB := ah.mk (av HB.out hb); (try clear hb); obtain ⟨Ao18, co18, eo18⟩ := Kd.dn HO_3.out; subst eo18; have p138 : 0 ≤ ((ji12) : Int) := of_decide_eq_true (by assumption); have q138 : (ji12) < (x3_1.length : Int) := of_decide_eq_true (by assumption); obtain ⟨ad138, e138, hx138_0⟩ := Kd.fU (Kd.aV HO_3.out).2.2 (ji12) p138 q138; cases e138; replace p138 := eq_true p138; replace q138 := eq_true q138)))
     go_roundg k1
     case measure => have := HK1.out; omega
     case rel => exact ⟨(x3_1), (wrap64 (x4_1 + 1)), (by rfl), H', ⟨by have := HK1.out; omega⟩, ⟨by (with_reducible repeat ((apply Kd.bf))); exact HO_3.out⟩, ⟨by (with_reducible repeat ((refine ak ?_ _))); exact BK132.out⟩, ⟨HB.out⟩⟩
    ·go_wp2_with (first | (refine gl_ (some 19) Tryz.func75 #[.string ((au l0_1 x4_1).f0)] ?_; (with_reducible refine (aH.calls k1 ((au l0_1 x4_1).f0) t134 _ A5.out).mono ?_); rintro e w21 ⟨rfl, hb⟩; refine ⟨_, rfl, ?_⟩; replace HO_3 := ah.mk (Kd.bI (by ((exact HO_3.out))) hb); replace BK132 := ah.mk (aC (by ((exact BK132.out))) hb); replace HB := ah.mk (av HB.out hb); (try clear hb); obtain ⟨Ao22, co22, eo22⟩ := Kd.dn HO_3.out; subst eo22; have p138 : 0 ≤ ((ji12) : Int) := of_decide_eq_true (by assumption); have q138 : (ji12) < (x3_1.length : Int) := of_decide_eq_true (by assumption); obtain ⟨ad138, e138, hx138_0⟩ := Kd.fU (Kd.aV HO_3.out).2.2 (ji12) p138 q138; cases e138; replace p138 := eq_true p138; replace q138 := eq_true q138) | ((with_reducible refine dX (b := .append) (xs := #[.tmp 33, .tmp 35]) rfl ?_); (try (refine fC (by rfl) ?_; dsimp only)); at_builtin; refine Kd.fO Kd.string (w0 := w) w.heap.size rfl (.tmp 33) (.tmp 35) 45 9 (.string ⟨#[]⟩) 16 rfl Tryz.underlying45 mE rfl (by decide) (by omega) (.slice (some ad138) x3_1.length co22) x3_1 t134 [.string t134] (fun _ => True) (fun _ => False) rfl rfl ?aP (fun _ hk => hk.elim) ?aF ?aO ?aB ?aS ?aL ?_; (case aP => exact rfl); (case aB => exact HB.out); (case aF => exact (fun _ _ => trivial)); (case aO => exact (by ((exact HO_3.out)))); (case aS => exact (ay HB.out)); (case aL => have := LMc19.out; omega); intro v140 w23 ho hb hg hat; rw [← Ny139.out] at ho; have n0_ := ah.mk (gV (g := gb132) (o := .cells #[.string a0_0, .slice (some ad133) l0_1.length c0_1] 31 (0, 0)) (by ((exact BK132.out))) hg (Kd.fH HO_3.out BK132.out (by decide))); have n1_ := ah.mk (hb); have n2_ := ah.mk (ho); clear BK132; clear HB; clear HO_3; have BK132 := n0_; have HB := n1_; have HO141 := n2_; clear n0_ n1_ n2_; clear ho hb hg hat))
     go_roundg k1
     case measure => have := HK1.out; omega
     case rel => exact ⟨(y139), (wrap64 (x4_1 + 1)), (by rfl), H', ⟨by have := HK1.out; omega⟩, ⟨by (with_reducible repeat ((apply Kd.bf))); exact HO141.out⟩, ⟨by (with_reducible repeat ((refine ak ?_ _))); exact BK132.out⟩, ⟨HB.out⟩⟩
    ·go_wp2
     go_ret
     exact ⟨_, by rfl, by (with_reducible repeat ((apply Kd.bf))); exact HO_3.out, HB.out⟩
end Go.Y.PZm
namespace Go.Y.Rrs
open Go.Proofs.aj.aD Go.Proofs.aj.aQ Go.Proofs.aj.aW Go.Y.Given Go.Y.PRd Go.Y.PRr Go.Y.PZm Go.Y.Oct Go.Y.Name Go.Y.gL Go.Y.dY Go.Y.eU
theorem sO {a : ByteArray} {x : RR} (h : kH a x = true) : x.f2 = 1 ∧ qc x.f1 = true ∧ mJ x.f0 a = true := by
 unfold kH at h
 simp only [Bool.and_eq_true, decide_eq_true_eq] at h
 exact ⟨h.1, h.2.1, h.2.2⟩
theorem Dq {x : RR} (h : gF x = true) (h2 : x.f2 = 1) : fZ x.f1 x.f4 = true := by
 unfold gF at h
 simp only [Bool.and_eq_true, decide_eq_true_eq, Bool.or_eq_true, Bool.not_eq_true'] at h
 rcases h.2.2.2.2.2.2.2.2 with e | e
 ·unfold mP at e; rw [if_pos h2] at e; cases e
 ·exact e
theorem sI.within {a : ByteArray} {s : List RR} (h : sI a s) {x : RR} (hx : x ∈ s) : kH a x = true := by
 have := h.zone
 unfold kW at this
 rw [Bool.and_eq_true, List.all_eq_true] at this
 have := this.1 x hx
 unfold oZ at this
 rw [Bool.and_eq_true] at this
 exact this.1
theorem sI.soa {a : ByteArray} {s : List RR} (h : sI a s) : ∃ (j : Nat) (hj : j < s.length), pF s = (j : Int) ∧ fD s 6 = [s[j]] ∧ s[j].f1 = 6 ∧ s[j].f2 = 1 ∧ fZ 6 s[j].f4 = true := by
 have hz := h.zone
 unfold kW pV at hz
 simp only [Bool.and_eq_true, beq_iff_eq] at hz
 obtain ⟨y, ey, hy, hy6⟩ := wS hz.2.1
 obtain ⟨j, hj, e1, e2⟩ := JO hy
 have h0 : rdR (fD s 6) 0 = y := by rw [ey]; rfl
 refine ⟨j, hj, by unfold pF; rw [h0]; exact e1, by rw [e2]; exact ey, by rw [e2]; exact hy6, ?_, ?_⟩
 ·rw [e2]; exact (sO (h.within hy)).1
 ·rw [e2, ← hy6]; exact Dq (h.right y hy) (sO (h.within hy)).1
def Ko (y : RR) : ByteArray × Int × Int × Int × ByteArray × ByteArray × ByteArray × Int × Int × Int × Int × Int := (y.f0, y.f1, y.f2, y.f3, y.f4, xq y.f4, xD y.f4, jL y.f4 0, jL y.f4 1, jL y.f4 2, jL y.f4 3, jL y.f4 4)
theorem JK (a : ByteArray) (s : List RR) (j : Nat) (hj : j < s.length) (hr : fZ 6 s[j].f4 = true) : jB.f a s (j : Int) = some (Ko s[j]) := by
 have hrd : rdR s (j : Int) = s[j] := fA s j hj
 have hb := (rP hr).1
 unfold jB.f
 rw [if_pos (by omega), if_pos (by omega)]
 show ((jX.f (rdR s (j : Int)).f4).bind fun bt => some ((rdR s (j : Int)).f0, (rdR s (j : Int)).f1, (rdR s (j : Int)).f2, (rdR s (j : Int)).f3, (rdR s (j : Int)).f4, bt.1, bt.2.1, bt.2.2.1, bt.2.2.2.1, bt.2.2.2.2.1, bt.2.2.2.2.2.1, bt.2.2.2.2.2.2.1)) = _
 rw [hrd, BO hr]
 rfl
theorem Jt (a : ByteArray) (s : List RR) (y : RR) (hn : s.length ≤ 1000000) (hy : fD s 6 = [y]) (hr : fZ 6 y.f4 = true) : Ev (fun k => fF.f k a s) (Ko y) := by
 unfold fF.f
 refine Ev.bind (rT s 6 hn) ?_
 rw [hy]
 have hp : (0 : Int) < (([y] : List RR).length : Int) := by simp
 simp only [if_pos hp]
 refine Ev.bind (g := fun k => bH.f k y.f4) ⟨FU + 2000, fun k hk => GX hr k hk⟩ ?_
 exact Ev.now _
open Go.Lib in
theorem zx (d : Array (List UInt8)) : ∀ m, m < d.size → compactUpTo d (m + 1) ≠ [] ∧ (compactUpTo d (m + 1)).getLast? = some d[m]! := by
 intro m
 induction m with
 | zero =>
  intro h
  have hk : keeps d 0 = true := by unfold keeps; simp
  rw [compactUpTo_succ, if_pos hk]
  simp
 | succ m ih =>
  intro h
  have := ih (by omega)
  rw [compactUpTo_succ]
  cases hk : keeps d (m + 1)
  ·have e : d[m + 1]! = d[m]! := by
    unfold keeps at hk
    simp only [decide_eq_false_iff_not, not_or, Decidable.not_not] at hk
    exact hk.2
   rw [if_neg (by decide), List.append_nil, e]
   exact this
  ·rw [if_pos rfl]
   exact ⟨by simp, by simp⟩
open Go.Lib in
theorem AV (a : ByteArray) (s : List RR) (hn : s.length ≤ 1000000) (d : Array (List UInt8)) (hd : d = ((s.map fun x => jg x.f0).map (·.data.toList)).toArray) :
  ∀ (e i : Nat), s.length ≤ i + e → i ≤ s.length → Ev (fun k => bq.l0 k ((compactUpTo d i).map arr) (i : Int) a s) ((compactUpTo d s.length).map arr) := by
 have hsz : d.size = s.length := by rw [hd]; simp
 have hend : ∀ i : Nat, i = s.length → Ev (fun k => bq.l0 k ((compactUpTo d i).map arr) (i : Int) a s) ((compactUpTo d s.length).map arr) := by
  intro i hi
  refine Ev.step (f := fun _ => some ((compactUpTo d i).map arr)) (fun k => by rw [bq.l0]; rw [if_neg (by omega)]) ?_
  rw [hi]
  exact Ev.now _
 intro e
 induction e with
 | zero => exact fun i h1 h2 => hend i (by omega)
 | succ e ih =>
  intro i h1 h2
  by_cases hi : i < s.length
  ·have e1 : wrap64 ((i : Int) + 1) = ((i + 1 : Nat) : Int) := by unfold wrap64; omega
   have hr := fA s i hi
   have hdi : d[i]! = (jg s[i].f0).data.toList := by
    rw [getElem!_pos d i (by omega)]
    subst hd
    simp
   have hle : (compactUpTo d i).length ≤ i := by
    unfold compactUpTo
    rw [List.length_map]
    exact Nat.le_trans (List.length_filter_le _ _) (by simp)
   have hnext := ih (i + 1) (by omega) (by omega)
   have hstep : ∀ k, 700 ≤ k → bq.l0 (k + 1) ((compactUpTo d i).map arr) (i : Int) a s = bq.l0 k ((compactUpTo d (i + 1)).map arr) ((i + 1 : Nat) : Int) a s := by
    intro k hk
    have hrd : au s (i : Int) = s[i] := hr
    rw [bq.l0, e1, if_pos (by omega), if_pos (by omega), hrd, AY _ k hk, Option.bind_some]
    have hlen : ((compactUpTo d i).map arr).length = (compactUpTo d i).length := List.length_map ..
    rw [compactUpTo_succ, List.map_append]
    have harr : arr d[i]! = jg s[i].f0 := by rw [hdi, wE]
    rcases Nat.eq_zero_or_pos i with h0 | hp
    ·have hk0 : keeps d i = true := by unfold keeps; rw [h0]; simp
     have hl0 : (compactUpTo d i).length = 0 := by omega
     rw [if_pos (by omega), if_pos (by omega), if_pos hk0, List.map_cons, List.map_nil, harr]
    ·have hlast := zx d (i - 1) (by omega)
     rw [show i - 1 + 1 = i by omega] at hlast
     have hpos : 0 < (compactUpTo d i).length := List.length_pos_iff.mpr hlast.1
     have e2 : wrap64 ((((compactUpTo d i).map arr).length : Int) - 1) = (((compactUpTo d i).length - 1 : Nat) : Int) := by unfold wrap64; rw [hlen]; omega
     have hlz : bB ByteArray.empty ((compactUpTo d i).map arr) (((compactUpTo d i).length - 1 : Nat) : Int) = arr d[i - 1]! := by
      unfold bB
      rw [Int.toNat_natCast, List.getD_eq_getElem?_getD, List.getElem?_map, ← List.getLast?_eq_getElem?, hlast.2]
      rfl
     rw [if_neg (by omega), e2, if_pos (by omega), if_pos (by omega), hlz]
     by_cases he : d[i]! = d[i - 1]!
     ·have hk0 : keeps d i = false := by unfold keeps; exact decide_eq_false (fun h => h.elim (fun h => by omega) (fun h => h he))
      rw [if_pos (by rw [← he, harr]), hk0, if_neg (by decide), List.map_nil, List.append_nil]
     ·have hk0 : keeps d i = true := by unfold keeps; rw [decide_eq_true (.inr he)]
      rw [if_neg (fun h => he (by rw [← harr] at h; have := toList_inj.mp h; exact (JH this).symm)), if_pos (by omega), if_pos hk0, List.map_cons, List.map_nil, harr]
   obtain ⟨K, hK⟩ := hnext
   refine ⟨max (K + 1) 702, fun k hk => ?_⟩
   obtain ⟨k, rfl⟩ : ∃ j, k = j + 1 := ⟨k - 1, by omega⟩
   show bq.l0 (k + 1) _ _ _ _ = _
   rw [hstep k (by omega)]
   exact hK k (by omega)
  ·exact hend i (by omega)
theorem FI (a : ByteArray) (s : List RR) (hn : s.length ≤ 1000000) : Ev (fun k => bq.f k a s) (tq s) := by
 have := AV a s hn _ rfl s.length 0 (by omega) (Nat.zero_le _)
 unfold tq Go.Lib.compact
 rw [List.length_map, List.length_map]
 exact this
theorem Ig (a : ByteArray) (s : List RR) (z : Int) (hn : s.length ≤ 1000000) : ig.f a s z = some (tq s) := by
 unfold ig.f
 rw [if_pos hn]
theorem Co (l m : List ByteArray) (hlm : l.length = m.length) (hn : l.length ≤ 9223372036854775807) : ∀ (d i : Nat), l.length ≤ i + d → i ≤ l.length → ∃ b, Ev (fun k => dh.l0 k l m (i : Int)) b ∧ (b = true ↔ l.drop i = m.drop i) := by
 intro d
 induction d with
 | zero =>
  intro i hd hi0
  refine ⟨true, Ev.step (f := fun _ => some true) (fun k => by rw [dh.l0]; rw [if_neg (by omega)]) (Ev.now _), ?_⟩
  rw [List.drop_of_length_le (by omega), List.drop_of_length_le (by omega)]
  simp
 | succ d ih =>
  intro i hd hi0
  by_cases hi : i < l.length
  ·have e1 : wrap64 ((i : Int) + 1) = ((i + 1 : Nat) : Int) := by unfold wrap64; omega
   have r1 : bB ByteArray.empty l (i : Int) = l[i] := jr l i hi
   have r2 : bB ByteArray.empty m (i : Int) = m[i]'(by omega) := jr m i (by omega)
   obtain ⟨b, hb, hb2⟩ := ih (i + 1) (by omega) (by omega)
   by_cases he : l[i] = m[i]'(by omega)
   ·refine ⟨b, Ev.step (f := fun k => dh.l0 k l m ((i + 1 : Nat) : Int)) (fun k => ?_) hb, ?_⟩
    ·rw [dh.l0, e1, r1, r2, he]
     simp only [show ((i : Int) < (l.length : Int)) = True from eq_true (by omega), show ((i : Int) < (m.length : Int)) = True from eq_true (by omega), show (0 ≤ (i : Int)) = True from eq_true (by omega), if_true]
     try simp
    ·rw [hb2, List.drop_eq_getElem_cons hi, List.drop_eq_getElem_cons (show i < m.length by omega), he, List.cons.injEq]
     exact ⟨fun h => ⟨rfl, h⟩, fun h => h.2⟩
   ·refine ⟨false, Ev.step (f := fun _ => some false) (fun k => ?_) (Ev.now _), ?_⟩
    ·have hne : ¬ l[i].toList = (m[i]'(by omega)).toList := fun h => he (toList_inj.mp h)
     rw [dh.l0, r1, r2]
     simp only [show ((i : Int) < (l.length : Int)) = True from eq_true (by omega), show ((i : Int) < (m.length : Int)) = True from eq_true (by omega), show (0 ≤ (i : Int)) = True from eq_true (by omega), if_true, hne, if_false]
     try simp
    ·rw [List.drop_eq_getElem_cons hi, List.drop_eq_getElem_cons (show i < m.length by omega), List.cons.injEq]
     exact ⟨(fun h => by cases h), fun h => absurd h.1 he⟩
  ·refine ⟨true, Ev.step (f := fun _ => some true) (fun k => by rw [dh.l0]; rw [if_neg (by omega)]) (Ev.now _), ?_⟩
   rw [List.drop_of_length_le (by omega), List.drop_of_length_le (by omega)]
   simp
theorem GH (l m : List ByteArray) (hn : l.length ≤ 9223372036854775807) : Ev (fun k => dh.f k l m) (decide (l = m)) := by
 unfold dh.f
 by_cases h : l.length = m.length
 ·obtain ⟨b, hb, hb2⟩ := Co l m h hn l.length 0 (by omega) (Nat.zero_le _)
  rw [List.drop_zero, List.drop_zero] at hb2
  have : decide (l = m) = b := by
   rw [Bool.eq_iff_iff, decide_eq_true_eq, hb2]
  rw [this]
  simp only [show ((l.length : Int) = (m.length : Int)) = True from eq_true (by omega), if_true]
  exact hb
 ·have : decide (l = m) = false := decide_eq_false fun e => h (congrArg List.length e)
  rw [this]
  simp only [show ((l.length : Int) = (m.length : Int)) = False from eq_false (by omega), if_false]
  exact Ev.now _
end Go.Y.Rrs
namespace Go.Y.PZm
open Go.Proofs.aj.aD Go.Proofs.aj.aQ Go.Proofs.aj.aW Go.Y.Given Go.Y.PRd Go.Y.PRr Go.Y.PZo Go.Y.PZf Go.Y.PZe Go.Y.PZh
attribute [local go_sem] dQ dP eD eF dJ dI dS dU
theorem Lc (d : Nat) (w : World) (x0 y0 : ByteArray) (x1 y1 : Int) (x2 y2 : Int) (x3 y3 : Int) (x4 y4 : ByteArray) :
  (Op.equalIn (d + 2) 35 (.agg #[.string x0, .int .i64 x1, .int .i64 x2, .int .i64 x3, .string x4]) (.agg #[.string y0, .int .i64 y1, .int .i64 y2, .int .i64 y3, .string y4])).run Tryz.prog w = .ok (x0.toList == y0.toList && (x1 == y1 && (x2 == y2 && (x3 == y3 && (x4.toList == y4.toList))))) w := by
 refine vE Tryz.underlying35 (by kernel_rfl) ?_
 refine iJ (by rfl) (by go_simp; rfl) (by go_simp; rfl) (by go_simp) ?_
 refine iJ (by rfl) (by go_simp; rfl) (by go_simp; rfl) (by go_simp) ?_
 refine iJ (by rfl) (by go_simp; rfl) (by go_simp; rfl) (by go_simp) ?_
 refine iJ (by rfl) (by go_simp; rfl) (by go_simp; rfl) (by go_simp) ?_
 exact qR (by rfl) (by go_simp; rfl) (by go_simp; rfl) (by go_simp)
end Go.Y.PZm
namespace Go.Y.PZm
open Go.Proofs.aj.aD Go.Proofs.aj.aQ Go.Proofs.aj.aW Go.Y.Given Go.Y.PRd Go.Y.PRr Go.Y.PZo Go.Y.PZf Go.Y.PZe Go.Y.PZh
attribute [local go_sem] dQ dP eD eF dJ dI dS dU
theorem KY (d : Nat) (w : World) (x0 y0 : ByteArray) (x1 y1 : ByteArray) (x2 y2 : Int) (x3 y3 : Int) (x4 y4 : Int) (x5 y5 : Int) (x6 y6 : Int) :
  (Op.equalIn (d + 2) 38 (.agg #[.string x0, .string x1, .int .u32 x2, .int .u32 x3, .int .u32 x4, .int .u32 x5, .int .u32 x6]) (.agg #[.string y0, .string y1, .int .u32 y2, .int .u32 y3, .int .u32 y4, .int .u32 y5, .int .u32 y6])).run Tryz.prog w = .ok (x0.toList == y0.toList && (x1.toList == y1.toList && (x2 == y2 && (x3 == y3 && (x4 == y4 && (x5 == y5 && (x6 == y6))))))) w := by
 refine vE Tryz.underlying38 (by kernel_rfl) ?_
 refine iJ (by rfl) (by go_simp; rfl) (by go_simp; rfl) (by go_simp) ?_
 refine iJ (by rfl) (by go_simp; rfl) (by go_simp; rfl) (by go_simp) ?_
 refine iJ (by rfl) (by go_simp; rfl) (by go_simp; rfl) (by go_simp) ?_
 refine iJ (by rfl) (by go_simp; rfl) (by go_simp; rfl) (by go_simp) ?_
 refine iJ (by rfl) (by go_simp; rfl) (by go_simp; rfl) (by go_simp) ?_
 refine iJ (by rfl) (by go_simp; rfl) (by go_simp; rfl) (by go_simp) ?_
 exact qR (by rfl) (by go_simp; rfl) (by go_simp; rfl) (by go_simp)
end Go.Y.PZm
namespace Go.Y.PZm
open Go.Proofs.aj.aD Go.Proofs.aj.aQ Go.Proofs.aj.aW Go.Y.Given Go.Y.PRd Go.Y.PRr Go.Y.PZo Go.Y.PZf Go.Y.PZe Go.Y.PZh
attribute [local go_sem] dQ dP eD eF dJ dI dS dU
attribute [local go_sem high] Lc KY
mutual
noncomputable def aK.j0 : Nat → ByteArray → List (S35) → Bool → Option (Bool)
 | 0, _, _, _ => none
 | k + 1, x0, x1, x24 => if x24 = true then ((fE.f k).bind fun t144 => (some t144)) else ((bY.f k x0 x1).bind fun bt145 => ((dF.f k x0 x1).bind fun bt152 => (if bt145.2.2.2 = bt152.2.2 then (aK.j1 k x0 bt145.2.2.2 bt152.2.2 (bt152.2.2 != 0) bt145.1 bt145.2.1 bt145.2.2.1 bt152.1 bt152.2.1) else (aK.j1 k x0 bt145.2.2.2 bt152.2.2 true bt145.1 bt145.2.1 bt145.2.2.1 bt152.1 bt152.2.1))))
noncomputable def aK.j1 : Nat → ByteArray → Int → Int → Bool → ByteArray → List (S35) → Int → ByteArray → List (S35) → Option (Bool)
 | 0, _, _, _, _, _, _, _, _, _ => none
 | k + 1, x0, x6, x8, x44, x152000, x152001, x152002, x158000, x158001 => if x44 = true then (some (x6 == x8)) else ((jB.f x152000 x152001 x152002).bind fun bt158 => ((fF.f k x158000 x158001).bind fun bt172 => ((fV.f x152000 x152001 x152002).bind fun t186 => (if t186.toList = x0.toList then ((gD.f x152000 x152001 x152002).bind fun t187 => ((dz.f k t187 x158001).bind fun t190 => (if t190 = true then ((ig.f x152000 x152001 x152002).bind fun t191 => ((bq.f k x158000 x158001).bind fun t194 => ((dh.f k t191 t194).bind fun t197 => (if t197 = true then (if (bt158.1.toList == bt172.1.toList && (bt158.2.1 == bt172.2.1 && (bt158.2.2.1 == bt172.2.2.1 && (bt158.2.2.2.1 == bt172.2.2.2.1 && (bt158.2.2.2.2.1.toList == bt172.2.2.2.2.1.toList))))) = true then (some (bt158.2.2.2.2.2.1.toList == bt172.2.2.2.2.2.1.toList && (bt158.2.2.2.2.2.2.1.toList == bt172.2.2.2.2.2.2.1.toList && (bt158.2.2.2.2.2.2.2.1 == bt172.2.2.2.2.2.2.2.1 && (bt158.2.2.2.2.2.2.2.2.1 == bt172.2.2.2.2.2.2.2.2.1 && (bt158.2.2.2.2.2.2.2.2.2.1 == bt172.2.2.2.2.2.2.2.2.2.1 && (bt158.2.2.2.2.2.2.2.2.2.2.1 == bt172.2.2.2.2.2.2.2.2.2.2.1 && (bt158.2.2.2.2.2.2.2.2.2.2.2 == bt172.2.2.2.2.2.2.2.2.2.2.2)))))))) else (none)) else (none))))) else (none)))) else (none)))))
end
noncomputable def aK.f (k : Nat) (a0 : ByteArray) (l1 : List (S35)) : Option (Bool) := (fE.f k).bind fun t142 => (if t142 = true then ((bG.f k l1).bind fun t143 => (if t143 = true then (aK.j0 k a0 l1 (decide ((a0.size : Int) > 600))) else (aK.j0 k a0 l1 true))) else (aK.j0 k a0 l1 true))
def aK.T9 : Bool × List (List Nat × List Nat) := (true, [([], []), ([0], [0]), ([], []), ([1, 2], [1, 2]), ([3, 1], [3]), ([4], [4]), ([5, 4, 4], [4, 5]), ([4], [4]), ([7, 4], [4, 7]), ([6, 8, 6, 4], [4, 6, 8]), ([4, 9], [4, 9]), ([10, 9], [10]), ([11], [11]), ([12, 11, 11], [11, 12]), ([11], [11]), ([14, 13, 11], [11, 14]), ([13, 15, 15, 11], [11, 13, 15]), ([11, 16], [11, 16]), ([17, 16], [17]), ([18], [18]), ([18], [18]), ([19, 20, 18], [18, 19, 20]), ([18, 21], [18, 21]), ([22, 18], [22]), ([23], [23]), ([23], [23]), ([24, 25, 23], [23, 24, 25]), ([23, 26], [23, 26]), ([27, 23, 0, 1, 2, 3, 4, 5, 6, 7, 8, 9, 10, 11, 12, 13, 14, 15, 16, 17, 18, 19, 20, 21, 22, 23, 24, 25, 26, 27], [27])])
def aK.B9 : List Nat := [0, 1, 0, 7, 15, 31, 63, 31, 159, 511, 1023, 2047, 4095, 8191, 4095, 32767, 65535, 131071, 262143, 524287, 524287, 2097151, 4194303, 8388607, 16777215, 16777215, 67108863, 134217727, 268435455]
theorem aK.sQ : iy .any (opsOf Tryz.f3 9) = aK.T9 := by kernel_rfl
theorem aK.qd : iX aK.T9.2 aK.B9 = true := by kernel_rfl
theorem aK.calls (k : Nat) (a0 : ByteArray) (A1 : Option Addr) (c1 : Nat) (l1 : List (S35)) (r : Bool) (w : World) (hr1 : Kd.C k35 w A1 l1.length l1) (hc1 : l1.length ≤ c1) (h : aK.f k a0 l1 = some r) :
    Calls Tryz.prog 3 #[.string a0, .slice A1 l1.length c1] w fun e w' => e = .returned (.bool r) ∧ Below w.heap.size w w' := by
  have hu26 := Tryz.underlying26
  have hu31 := Tryz.underlying31
  have hu35 := Tryz.underlying35
  have hu38 := Tryz.underlying38
  have HR1 := ah.mk hr1
  have HC1 := ah.mk hc1
  clear hr1 hc1
  have HB := ah.mk (Below.refl w.heap.size w)
  have H : ((fE.f k).bind fun t142 => (if t142 = true then ((bG.f k l1).bind fun t143 => (if t143 = true then (aK.j0 k a0 l1 (decide ((a0.size : Int) > 600))) else (aK.j0 k a0 l1 true))) else (aK.j0 k a0 l1 true))) = some r := h
  clear h
  have HC3 := ah.mk H
  clear H
  go_enter Tryz.func3, Tryz.ntmps3
  go_upto_region 1 with (fail)
  go_cut [24] (fun v24 wc => ∃ (kq : Nat) (x24_2 : Bool), v24 = .bool x24_2 ∧ ah (aK.j0 kq a0 l1 x24_2 = some r) ∧ ah (kq ≤ k) ∧ ah (Below w.heap.size w wc))
  case first =>
   have H := HC3.out
   clear HC3
   obtain ⟨t142, A4, H⟩ := cK H
   by_cases c5 : t142 = true
   ·subst c5
    rw [if_pos rfl] at H
    obtain ⟨t143, A6, H⟩ := cK H
    by_cases c7 : t143 = true
    focus
     subst c7
     rw [if_pos rfl] at H
    rotate_left
    focus
     replace c7 := Bool.eq_false_iff.mpr c7
     subst c7
     rw [if_neg ff_] at H
    rotate_left
    all_goals
     have H' := ah.mk H
     clear H
     go_wp2_with (first | ((with_reducible refine dZ (f := 15) rfl ?_); refine gT (some 13) rfl rfl Tryz.func15 (by kernel_rfl) rfl #[] rfl (by (try simp only [List.map_toArray, List.map_cons, List.map_nil]); done) ?_; (with_reducible refine (fE.calls k  _ _ A4.out).mono ?_); rintro e w8 ⟨rfl, hb⟩; refine ⟨_, rfl, ?_⟩; replace HB := ah.mk (av HB.out hb); (try clear hb)) | (go_at_call 16; (with_reducible refine (bG.calls k _ _ l1 _ _ ?side1 ?side2 A6.out).mono ?_); (case side1 => repeat ((exact (Kd.gQ HR1.out HB.out)))); (case side2 => exact HC1.out); rintro e w' ⟨rfl, ⟨nd, rfl⟩⟩))
     go_meet
    ·case rel => exact ⟨_, (decide ((a0.size : Int) > 600)), (by rfl), H', ⟨by omega⟩, ⟨by repeat ((with_reducible first | exact HB.out | apply bg))⟩⟩
    ·case rel => exact ⟨_, (true), (by rfl), H', ⟨by omega⟩, ⟨by repeat ((with_reducible first | exact HB.out | apply bg))⟩⟩
   ·replace c5 := Bool.eq_false_iff.mpr c5
    subst c5
    rw [if_neg ff_] at H
    have H' := ah.mk H
    clear H
    go_wp2_with ((((with_reducible refine dZ (f := 15) rfl ?_); refine gT (some 13) rfl rfl Tryz.func15 (by kernel_rfl) rfl #[] rfl (by (try simp only [List.map_toArray, List.map_cons, List.map_nil]); done) ?_; (with_reducible refine (fE.calls k  _ _ A4.out).mono ?_); rintro e w10 ⟨rfl, hb⟩; refine ⟨_, rfl, ?_⟩; replace HB := ah.mk (av HB.out hb); (try clear hb))))
    go_meet
    case rel => exact ⟨_, (true), (by rfl), H', ⟨by omega⟩, ⟨HB.out⟩⟩
  case rest =>
   clear HC3
   obtain ⟨kq, x24_2, rfl, HA, HJ2, HB⟩ := hcut
   cases kq with
   | zero => exact absurd HA.out (by simp [aK.j0])
   | succ kj2 =>
    have H := HA.out
    clear HA
    simp only [aK.j0] at H
    by_cases c11 : x24_2 = true
    ·subst c11
     rw [if_pos rfl] at H
     obtain ⟨t144, A12, H⟩ := cK H
     obtain rfl := Option.some.inj H
     go_wp2_with ((((with_reducible refine dZ (f := 15) rfl ?_); refine gT (some 25) rfl rfl Tryz.func15 (by kernel_rfl) rfl #[] rfl (by (try simp only [List.map_toArray, List.map_cons, List.map_nil]); done) ?_; (with_reducible refine (fE.calls kj2  t144 _ A12.out).mono ?_); rintro e w13 ⟨rfl, hb⟩; refine ⟨_, rfl, ?_⟩; replace HB := ah.mk (av HB.out hb); (try clear hb))))
     go_ret
     exact ⟨by rfl, HB.out⟩
    ·replace c11 := Bool.eq_false_iff.mpr c11
     subst c11
     rw [if_neg ff_] at H
     replace H := Option.bind_eq_some_iff.mp H
     obtain ⟨⟨t145, t146, t149, t150⟩, A140, H⟩ := H
     replace H : ((dF.f kj2 a0 l1).bind fun bt152 => (if t150 = bt152.2.2 then (aK.j1 kj2 a0 t150 bt152.2.2 (bt152.2.2 != 0) t145 t146 t149 bt152.1 bt152.2.1) else (aK.j1 kj2 a0 t150 bt152.2.2 true t145 t146 t149 bt152.1 bt152.2.1))) = some r := H
     have A14 := ah.mk A140
     clear A140
     replace H := Option.bind_eq_some_iff.mp H
     obtain ⟨⟨t152, t153, t156⟩, A150, H⟩ := H
     replace H : (if t150 = t156 then (aK.j1 kj2 a0 t150 t156 (t156 != 0) t145 t146 t149 t152 t153) else (aK.j1 kj2 a0 t150 t156 true t145 t146 t149 t152 t153)) = some r := H
     have A15 := ah.mk A150
     clear A150
     have HC16 := ah.mk H
     clear H
     go_upto_region 5 with (first | (refine gl_ (some 29) Tryz.func17 #[.string a0, .slice A1 l1.length c1] ?_; (with_reducible refine (bY.calls kj2 a0 _ _ l1 t145 t146 t149 t150 _ ?side1 ?side2 A14.out).mono ?_); (case side1 => repeat ((exact (Kd.gQ HR1.out HB.out)))); (case side2 => exact HC1.out); rintro e w17 ⟨v147, rfl, ho0, hb⟩; refine ⟨_, rfl, ?_⟩; have HO148 := ah.mk (Kd.bZ ho0 (ay HB.out)); replace HB := ah.mk (av HB.out hb); (try clear hb); (try clear ho0)) | ((((refine be_ (N := 5) (cs := #[.string (⟨#[]⟩ : ByteArray), .slice none 0 0, .int .i64 0]) (t := 26) ?_))); intro gb151 hg w18 hbox hb; have BK151 := ah.mk (hbox); have GW151 := ah.mk (ge_ hg (ay HB.out)); have GE151 := ah.mk (ge_ hg (ay HB.out)); replace HO148 := ah.mk (Kd.bI (by ((exact HO148.out))) hb); replace HB := ah.mk (av HB.out hb); clear hb hbox hg; obtain ⟨hcz19_0, hcz19_1, hcz19_2, hfz19_0, hfz19_1, hfz19_2⟩ := z3_ BK151.out; obtain ⟨Ao20, co20, eo20⟩ := Kd.dn HO148.out; subst eo20) | (refine gl_ (some 35) Tryz.func18 #[.string a0, .slice A1 l1.length c1] ?_; (with_reducible refine (dF.calls kj2 a0 _ _ l1 t152 t153 t156 _ ?side1 ?side2 A15.out).mono ?_); (case side1 => exact Kd.gQ HR1.out (by repeat ((with_reducible first | exact HB.out | refine bL ?_ GE151.out)))); (case side2 => exact HC1.out); rintro e w21 ⟨v154, rfl, ho0, hb⟩; refine ⟨_, rfl, ?_⟩; have HO155 := ah.mk (Kd.bZ (Kd.jI ho0 (Kd.lI (by (with_reducible repeat ((apply Kd.bf))); exact (Kd.dx (Kd.bX (p := ⟨gb151, 2, none⟩) (Kd.bX (p := ⟨gb151, 1, none⟩) (Kd.bX (p := ⟨gb151, 0, none⟩) (Kd.iZ HO148.out BK151.out (by decide)) (fun _ hk => hk.2) (.string t145)) (fun _ hk => hk.2) (.slice Ao20 t146.length co20)) (fun _ hk => hk.2) (.int .i64 t149)) (fun _ h_ => h_.1))))) (ay (by repeat ((with_reducible first | exact HB.out | refine bL ?_ GE151.out))))); replace HO148 := ah.mk (Kd.iI (by (with_reducible repeat ((apply Kd.bf))); exact (Kd.dx (Kd.bX (p := ⟨gb151, 2, none⟩) (Kd.bX (p := ⟨gb151, 1, none⟩) (Kd.bX (p := ⟨gb151, 0, none⟩) (Kd.iZ HO148.out BK151.out (by decide)) (fun _ hk => hk.2) (.string t145)) (fun _ hk => hk.2) (.slice Ao20 t146.length co20)) (fun _ hk => hk.2) (.int .i64 t149)) (fun _ h_ => h_.1))) (Kd.jF ho0) hb); replace BK151 := ah.mk (aC (g := gb151) (o := .cells #[.string t145, .slice Ao20 t146.length co20, .int .i64 t149] 26 (0, 0)) (by (with_reducible repeat ((refine ak ?_ _))); refine aM (cs := #[.string t145, .slice Ao20 t146.length co20, .int .i64 0]) ?_ 2 _ rfl; (with_reducible repeat ((refine ak ?_ _))); refine aM (cs := #[.string t145, .slice none 0 0, .int .i64 0]) ?_ 1 _ rfl; (with_reducible repeat ((refine ak ?_ _))); refine aM (cs := #[.string (⟨#[]⟩ : ByteArray), .slice none 0 0, .int .i64 0]) ?_ 0 _ rfl; (with_reducible repeat ((refine ak ?_ _))); exact BK151.out) hb); replace HB := ah.mk (av (by repeat ((with_reducible first | exact HB.out | refine bL ?_ GE151.out))) hb); (try clear hb); (try clear ho0)) | ((((refine be_ (N := 7) (cs := #[.string (⟨#[]⟩ : ByteArray), .slice none 0 0]) (t := 31) ?_))); intro gb157 hg w22 hbox hb; have BK157 := ah.mk (hbox); have GW157 := ah.mk (ge_ hg (ay HB.out)); have GE157 := ah.mk (ge_ hg (ay HB.out)); have NB151_157 := ah.mk (nl_ hg (by ((exact BK151.out)))); have NB157_151 := ah.mk (nr_ hg (by ((exact BK151.out)))); replace HO148 := ah.mk (Kd.bI (by ((exact HO148.out))) hb); replace HO155 := ah.mk (Kd.bI (by ((exact HO155.out))) hb); replace BK151 := ah.mk (aC (by ((exact BK151.out))) hb); replace HB := ah.mk (av HB.out hb); clear hb hbox hg; have hnb23 := NB157_151.out; have hnc23 := NB151_157.out; obtain ⟨hcz24_0, hcz24_1, hfz24_0, hfz24_1⟩ := z2_ BK157.out; obtain ⟨Ao25, co25, eo25⟩ := Kd.dn HO155.out; subst eo25))
     go_cut [44] (fun v44 wc => ∃ (kq : Nat) (x44_15 : Bool), v44 = .bool x44_15 ∧ ah (aK.j1 kq a0 t150 t156 x44_15 t145 t146 t149 t152 t153 = some r) ∧ ah (kq ≤ kj2) ∧ ah (Kd.R k35 35 wc w.heap.size (fun k_ => some k_ ≠ ((.slice Ao25 t153.length co25) : Value).ownBlock) (.slice Ao20 t146.length co20) t146) ∧ ah (Kd.R k35 35 wc w.heap.size (fun k_ => some k_ ≠ ((.slice Ao20 t146.length co20) : Value).ownBlock) (.slice Ao25 t153.length co25) t153) ∧ ah (wc.heap[gb151]? = some (.cells #[.string t145, (.slice Ao20 t146.length co20), .int .i64 t149] 26 (0, 0))) ∧ ah (wc.heap[gb157]? = some (.cells #[.string t152, (.slice Ao25 t153.length co25)] 31 (0, 0))) ∧ ah (Below w.heap.size w wc))
     case first =>
      have H := HC16.out
      clear HC16
      by_cases c26 : t150 = t156
      focus
       rw [if_pos c26] at H
       have c26b0 : (t150 == t156) = true := beq_iff_eq.mpr c26
       have c26b1 : (t150 != t156) = false := bne_eq_false_iff_eq.mpr c26
       clear c26
      rotate_left
      focus
       rw [if_neg c26] at H
       have c26b0 : (t150 == t156) = false := beq_eq_false_iff_ne.mpr c26
       have c26b1 : (t150 != t156) = true := bne_iff_ne.mpr c26
      rotate_left
      all_goals
       (skip)
       have H' := ah.mk H
       clear H
       go_wp2
       go_meet
      ·case rel => exact ⟨_, ((t156 != 0)), (by rfl), H', ⟨by have := HJ2.out; omega⟩, ⟨by (with_reducible repeat ((apply Kd.bf))); exact Kd.dx (Kd.bX (p := ⟨gb157, 1, none⟩) (Kd.bX (p := ⟨gb157, 0, none⟩) (Kd.iZ HO148.out BK157.out (by decide)) (fun _ hk => hk.2) (.string t152)) (fun _ hk => hk.2) (.slice Ao25 t153.length co25)) (fun _ hk => hk.1.2)⟩, ⟨by (with_reducible repeat ((apply Kd.bf))); exact Kd.dx (Kd.bX (p := ⟨gb157, 1, none⟩) (Kd.bX (p := ⟨gb157, 0, none⟩) (Kd.iZ HO155.out BK157.out (by decide)) (fun _ hk => hk.2) (.string t152)) (fun _ hk => hk.2) (.slice Ao25 t153.length co25)) (fun _ hk => hk.1.2)⟩, ⟨by (with_reducible repeat ((refine ak ?_ _))); refine aR ?_ NB151_157.out _; (with_reducible repeat ((refine ak ?_ _))); refine aR ?_ NB151_157.out _; (with_reducible repeat ((refine ak ?_ _))); exact BK151.out⟩, ⟨by (with_reducible repeat ((refine ak ?_ _))); refine aM (cs := #[.string t152, .slice none 0 0]) ?_ 1 _ rfl; (with_reducible repeat ((refine ak ?_ _))); refine aM (cs := #[.string (⟨#[]⟩ : ByteArray), .slice none 0 0]) ?_ 0 _ rfl; (with_reducible repeat ((refine ak ?_ _))); exact BK157.out⟩, ⟨by repeat ((with_reducible first | exact HB.out | refine bL ?_ GE157.out))⟩⟩
      ·case rel => exact ⟨_, (true), (by rfl), H', ⟨by have := HJ2.out; omega⟩, ⟨by (with_reducible repeat ((apply Kd.bf))); exact Kd.dx (Kd.bX (p := ⟨gb157, 1, none⟩) (Kd.bX (p := ⟨gb157, 0, none⟩) (Kd.iZ HO148.out BK157.out (by decide)) (fun _ hk => hk.2) (.string t152)) (fun _ hk => hk.2) (.slice Ao25 t153.length co25)) (fun _ hk => hk.1.2)⟩, ⟨by (with_reducible repeat ((apply Kd.bf))); exact Kd.dx (Kd.bX (p := ⟨gb157, 1, none⟩) (Kd.bX (p := ⟨gb157, 0, none⟩) (Kd.iZ HO155.out BK157.out (by decide)) (fun _ hk => hk.2) (.string t152)) (fun _ hk => hk.2) (.slice Ao25 t153.length co25)) (fun _ hk => hk.1.2)⟩, ⟨by (with_reducible repeat ((refine ak ?_ _))); refine aR ?_ NB151_157.out _; (with_reducible repeat ((refine ak ?_ _))); refine aR ?_ NB151_157.out _; (with_reducible repeat ((refine ak ?_ _))); exact BK151.out⟩, ⟨by (with_reducible repeat ((refine ak ?_ _))); refine aM (cs := #[.string t152, .slice none 0 0]) ?_ 1 _ rfl; (with_reducible repeat ((refine ak ?_ _))); refine aM (cs := #[.string (⟨#[]⟩ : ByteArray), .slice none 0 0]) ?_ 0 _ rfl; (with_reducible repeat ((refine ak ?_ _))); exact BK157.out⟩, ⟨by repeat ((with_reducible first | exact HB.out | refine bL ?_ GE157.out))⟩⟩
     case rest =>
      clear HC16
      (try clear hcz19_0)
      (try clear hcz19_1)
      (try clear hcz19_2)
      (try clear hcz24_0)
      (try clear hcz24_1)
      (try clear hfz19_0)
      (try clear hfz19_1)
      (try clear hfz19_2)
      (try clear hfz24_0)
      (try clear hfz24_1)
      obtain ⟨kq, x44_15, rfl, HA, HJ15, HO_152001, HO_158001, BK151, BK157, HB⟩ := hcut
      cases kq with
      | zero => exact absurd HA.out (by simp [aK.j1])
      | succ kj15 =>
       have H := HA.out
       clear HA
       simp only [aK.j1] at H
       by_cases c27 : x44_15 = true
       ·subst c27
        rw [if_pos rfl] at H
        obtain rfl := Option.some.inj H
        go_wp2
        go_ret
        exact ⟨by rfl, HB.out⟩
       ·replace c27 := Bool.eq_false_iff.mpr c27
        subst c27
        rw [if_neg ff_] at H
        replace H := Option.bind_eq_some_iff.mp H
        obtain ⟨⟨t158, t159, t160, t161, t162, t163, t164, t165, t166, t167, t168, t169⟩, A280, H⟩ := H
        replace H : ((fF.f kj15 t152 t153).bind fun bt172 => ((fV.f t145 t146 t149).bind fun t186 => (if t186.toList = a0.toList then ((gD.f t145 t146 t149).bind fun t187 => ((dz.f kj15 t187 t153).bind fun t190 => (if t190 = true then ((ig.f t145 t146 t149).bind fun t191 => ((bq.f kj15 t152 t153).bind fun t194 => ((dh.f kj15 t191 t194).bind fun t197 => (if t197 = true then (if (t158.toList == bt172.1.toList && (t159 == bt172.2.1 && (t160 == bt172.2.2.1 && (t161 == bt172.2.2.2.1 && (t162.toList == bt172.2.2.2.2.1.toList))))) = true then (some (t163.toList == bt172.2.2.2.2.2.1.toList && (t164.toList == bt172.2.2.2.2.2.2.1.toList && (t165 == bt172.2.2.2.2.2.2.2.1 && (t166 == bt172.2.2.2.2.2.2.2.2.1 && (t167 == bt172.2.2.2.2.2.2.2.2.2.1 && (t168 == bt172.2.2.2.2.2.2.2.2.2.2.1 && (t169 == bt172.2.2.2.2.2.2.2.2.2.2.2)))))))) else (none)) else (none))))) else (none)))) else (none)))) = some r := H
        have A28 := ah.mk A280
        clear A280
        replace H := Option.bind_eq_some_iff.mp H
        obtain ⟨⟨t172, t173, t174, t175, t176, t177, t178, t179, t180, t181, t182, t183⟩, A290, H⟩ := H
        replace H : ((fV.f t145 t146 t149).bind fun t186 => (if t186.toList = a0.toList then ((gD.f t145 t146 t149).bind fun t187 => ((dz.f kj15 t187 t153).bind fun t190 => (if t190 = true then ((ig.f t145 t146 t149).bind fun t191 => ((bq.f kj15 t152 t153).bind fun t194 => ((dh.f kj15 t191 t194).bind fun t197 => (if t197 = true then (if (t158.toList == t172.toList && (t159 == t173 && (t160 == t174 && (t161 == t175 && (t162.toList == t176.toList))))) = true then (some (t163.toList == t177.toList && (t164.toList == t178.toList && (t165 == t179 && (t166 == t180 && (t167 == t181 && (t168 == t182 && (t169 == t183)))))))) else (none)) else (none))))) else (none)))) else (none))) = some r := H
        have A29 := ah.mk A290
        clear A290
        obtain ⟨t186, A30, H⟩ := cK H
        obtain ⟨c31, H⟩ := gd_ H
        have c31b0 : (t186.toList == a0.toList) = true := beq_iff_eq.mpr c31
        have c31b1 : (t186.toList != a0.toList) = false := bne_eq_false_iff_eq.mpr c31
        clear c31
        obtain ⟨t187, A32, H⟩ := cK H
        obtain ⟨t190, A33, H⟩ := cK H
        by_cases c34 : t190 = true
        ·subst c34
         rw [if_pos rfl] at H
         obtain ⟨t191, A35, H⟩ := cK H
         obtain ⟨t194, A36, H⟩ := cK H
         obtain ⟨t197, A37, H⟩ := cK H
         by_cases c38 : t197 = true
         ·subst c38
          rw [if_pos rfl] at H
          obtain ⟨c39, H⟩ := gd_ H
          have c39b0 : (t158.toList == t172.toList && (t159 == t173 && (t160 == t174 && (t161 == t175 && (t162.toList == t176.toList))))) = true := c39
          (try (have c39b1 : decide (t158.toList = t172.toList && (t159 == t173 && (t160 == t174 && (t161 == t175 && (t162.toList == t176.toList))))) = true := by simpa using c39))
          (try (have c39b2 : (t158.toList == t172.toList && (t159 == t173 && (t160 == t174 && (t161 == t175 && (t162.toList == t176.toList))))) = true := by simpa using c39))
          clear c39
          obtain rfl := Option.some.inj H
          have hnb40 := NB151_157.out
          have hnc40 := NB157_151.out
          obtain ⟨hcz41_0, hcz41_1, hcz41_2, hfz41_0, hfz41_1, hfz41_2⟩ := z3_ BK151.out
          (try go_wp2_with (first | (refine gl_ (some 50) Tryz.func19 #[.agg #[.string t145, .slice Ao20 t146.length co20, .int .i64 t149]] ?_; (with_reducible refine (jB.calls t145 _ _ t146 t149 t158 t159 t160 t161 t162 t163 t164 t165 t166 t167 t168 t169 _ ?side1 ?side2 A28.out).mono ?_); (case side1 => exact (Kd.aV HO_152001.out).2.2); (case side2 => exact (Kd.aV HO_152001.out).2.1); rintro e w42 ⟨rfl, hb⟩; refine ⟨_, rfl, ?_⟩; replace HO_152001 := ah.mk (Kd.bI (by ((exact HO_152001.out))) hb); replace HO_158001 := ah.mk (Kd.bI (by ((exact HO_158001.out))) hb); replace BK151 := ah.mk (aC (by ((exact BK151.out))) hb); replace BK157 := ah.mk (aC (by ((exact BK157.out))) hb); replace HB := ah.mk (av HB.out hb); (try clear hb)) | ((((refine be_ (N := 9) (cs := #[.string (⟨#[]⟩ : ByteArray), .int .i64 0, .int .i64 0, .int .i64 0, .string (⟨#[]⟩ : ByteArray)]) (t := 35) ?_))); intro gb170 hg w43 hbox hb; have BK170 := ah.mk (hbox); have GW170 := ah.mk (ge_ hg (ay HB.out)); have GE170 := ah.mk (ge_ hg (ay HB.out)); have NB151_170 := ah.mk (nl_ hg (by ((exact BK151.out)))); have NB170_151 := ah.mk (nr_ hg (by ((exact BK151.out)))); have NB157_170 := ah.mk (nl_ hg (by ((exact BK157.out)))); have NB170_157 := ah.mk (nr_ hg (by ((exact BK157.out)))); replace HO_152001 := ah.mk (Kd.bI (Kd.ru (by ((exact HO_152001.out))) gb170 (Nat.le_of_eq hg.symm)) hb); replace HO_158001 := ah.mk (Kd.bI (Kd.ru (by ((exact HO_158001.out))) gb170 (Nat.le_of_eq hg.symm)) hb); replace BK151 := ah.mk (aC (by ((exact BK151.out))) hb); replace BK157 := ah.mk (aC (by ((exact BK157.out))) hb); replace HB := ah.mk (av HB.out hb); clear hb hbox hg) | ((((refine be_ (N := 10) (cs := #[.string (⟨#[]⟩ : ByteArray), .string (⟨#[]⟩ : ByteArray), .int .u32 0, .int .u32 0, .int .u32 0, .int .u32 0, .int .u32 0]) (t := 38) ?_))); intro gb171 hg w44 hbox hb; have BK171 := ah.mk (hbox); have GW171 := ah.mk (ge_ hg (ay HB.out)); have GE171 := ah.mk (ge_ hg (ay HB.out)); have NB151_171 := ah.mk (nl_ hg (by ((exact BK151.out)))); have NB171_151 := ah.mk (nr_ hg (by ((exact BK151.out)))); have NB157_171 := ah.mk (nl_ hg (by ((exact BK157.out)))); have NB171_157 := ah.mk (nr_ hg (by ((exact BK157.out)))); have NB170_171 := ah.mk (nl_ hg (by ((exact BK170.out)))); have NB171_170 := ah.mk (nr_ hg (by ((exact BK170.out)))); replace HO_152001 := ah.mk (Kd.bI (by ((exact HO_152001.out))) hb); replace HO_158001 := ah.mk (Kd.bI (by ((exact HO_158001.out))) hb); replace BK151 := ah.mk (aC (by ((exact BK151.out))) hb); replace BK157 := ah.mk (aC (by ((exact BK157.out))) hb); replace BK170 := ah.mk (aC (by ((exact BK170.out))) hb); replace HB := ah.mk (av HB.out hb); clear hb hbox hg; have hnb45 := NB170_151.out; have hnc45 := NB151_170.out; have hnb46 := NB170_157.out; have hnc46 := NB157_170.out; have hnb47 := NB170_171.out; have hnc47 := NB171_170.out; obtain ⟨hcz48_0, hcz48_1, hcz48_2, hcz48_3, hcz48_4, hfz48_0, hfz48_1, hfz48_2, hfz48_3, hfz48_4⟩ := z5_ BK170.out; have hnb49 := NB171_151.out; have hnc49 := NB151_171.out; have hnb50 := NB171_157.out; have hnc50 := NB157_171.out; obtain ⟨hcz51_0, hcz51_1, hcz51_2, hcz51_3, hcz51_4, hcz51_5, hcz51_6, hfz51_0, hfz51_1, hfz51_2, hfz51_3, hfz51_4, hfz51_5, hfz51_6⟩ := z7_ BK171.out; obtain ⟨hcz52_0, hcz52_1, hfz52_0, hfz52_1⟩ := z2_ BK157.out) | (refine gl_ (some 55) Tryz.func20 #[.agg #[.string t152, .slice Ao25 t153.length co25]] ?_; (with_reducible refine (fF.calls kj15 t152 _ _ t153 t172 t173 t174 t175 t176 t177 t178 t179 t180 t181 t182 t183 _ ?side1 ?side2 A29.out).mono ?_); (case side1 => refine (Kd.aV (e := 35) (base := w.heap.size) (ok := fun k_ => (some k_ ≠ (.slice Ao20 t146.length co20 : Value).ownBlock ∧ k_ ≠ gb170)) (n := t153.length) (c := co25) ?_).2.2; exact (by (with_reducible repeat ((apply Kd.bf))); exact (Kd.dx (Kd.dx (Kd.bX (p := ⟨gb171, 6, none⟩) (Kd.bX (p := ⟨gb171, 5, none⟩) (Kd.bX (p := ⟨gb171, 4, none⟩) (Kd.bX (p := ⟨gb171, 3, none⟩) (Kd.bX (p := ⟨gb171, 2, none⟩) (Kd.bX (p := ⟨gb171, 1, none⟩) (Kd.bX (p := ⟨gb171, 0, none⟩) (Kd.bX (p := ⟨gb170, 4, none⟩) (Kd.bX (p := ⟨gb170, 3, none⟩) (Kd.bX (p := ⟨gb170, 2, none⟩) (Kd.bX (p := ⟨gb170, 1, none⟩) (Kd.bX (p := ⟨gb170, 0, none⟩) (Kd.iZ (Kd.dx HO_158001.out (fun k_ hk => (⟨hk, hk.2⟩ : _ ∧ k_ ≠ gb170))) BK171.out (by decide)) (fun _ hk => hk.1.2) (.string t158)) (fun _ hk => hk.1.2) (.int .i64 t159)) (fun _ hk => hk.1.2) (.int .i64 t160)) (fun _ hk => hk.1.2) (.int .i64 t161)) (fun _ hk => hk.1.2) (.string t162)) (fun _ hk => hk.2) (.string t163)) (fun _ hk => hk.2) (.string t164)) (fun _ hk => hk.2) (.int .u32 t165)) (fun _ hk => hk.2) (.int .u32 t166)) (fun _ hk => hk.2) (.int .u32 t167)) (fun _ hk => hk.2) (.int .u32 t168)) (fun _ hk => hk.2) (.int .u32 t169)) (fun _ h_ => h_.1)) (fun _ h_ => h_.1)))); (case side2 => exact (Kd.aV HO_158001.out).2.1); rintro e w53 ⟨rfl, hb⟩; refine ⟨_, rfl, ?_⟩; replace HO_152001 := ah.mk (Kd.bI (by (with_reducible repeat ((apply Kd.bf))); exact (Kd.dx (Kd.dx (Kd.bX (p := ⟨gb171, 6, none⟩) (Kd.bX (p := ⟨gb171, 5, none⟩) (Kd.bX (p := ⟨gb171, 4, none⟩) (Kd.bX (p := ⟨gb171, 3, none⟩) (Kd.bX (p := ⟨gb171, 2, none⟩) (Kd.bX (p := ⟨gb171, 1, none⟩) (Kd.bX (p := ⟨gb171, 0, none⟩) (Kd.bX (p := ⟨gb170, 4, none⟩) (Kd.bX (p := ⟨gb170, 3, none⟩) (Kd.bX (p := ⟨gb170, 2, none⟩) (Kd.bX (p := ⟨gb170, 1, none⟩) (Kd.bX (p := ⟨gb170, 0, none⟩) (Kd.iZ (Kd.dx HO_152001.out (fun k_ hk => (⟨hk, hk.2⟩ : _ ∧ k_ ≠ gb170))) BK171.out (by decide)) (fun _ hk => hk.1.2) (.string t158)) (fun _ hk => hk.1.2) (.int .i64 t159)) (fun _ hk => hk.1.2) (.int .i64 t160)) (fun _ hk => hk.1.2) (.int .i64 t161)) (fun _ hk => hk.1.2) (.string t162)) (fun _ hk => hk.2) (.string t163)) (fun _ hk => hk.2) (.string t164)) (fun _ hk => hk.2) (.int .u32 t165)) (fun _ hk => hk.2) (.int .u32 t166)) (fun _ hk => hk.2) (.int .u32 t167)) (fun _ hk => hk.2) (.int .u32 t168)) (fun _ hk => hk.2) (.int .u32 t169)) (fun _ h_ => h_.1)) (fun _ h_ => h_.1))) hb); replace HO_158001 := ah.mk (Kd.bI (by (with_reducible repeat ((apply Kd.bf))); exact (Kd.dx (Kd.dx (Kd.bX (p := ⟨gb171, 6, none⟩) (Kd.bX (p := ⟨gb171, 5, none⟩) (Kd.bX (p := ⟨gb171, 4, none⟩) (Kd.bX (p := ⟨gb171, 3, none⟩) (Kd.bX (p := ⟨gb171, 2, none⟩) (Kd.bX (p := ⟨gb171, 1, none⟩) (Kd.bX (p := ⟨gb171, 0, none⟩) (Kd.bX (p := ⟨gb170, 4, none⟩) (Kd.bX (p := ⟨gb170, 3, none⟩) (Kd.bX (p := ⟨gb170, 2, none⟩) (Kd.bX (p := ⟨gb170, 1, none⟩) (Kd.bX (p := ⟨gb170, 0, none⟩) (Kd.iZ (Kd.dx HO_158001.out (fun k_ hk => (⟨hk, hk.2⟩ : _ ∧ k_ ≠ gb170))) BK171.out (by decide)) (fun _ hk => hk.1.2) (.string t158)) (fun _ hk => hk.1.2) (.int .i64 t159)) (fun _ hk => hk.1.2) (.int .i64 t160)) (fun _ hk => hk.1.2) (.int .i64 t161)) (fun _ hk => hk.1.2) (.string t162)) (fun _ hk => hk.2) (.string t163)) (fun _ hk => hk.2) (.string t164)) (fun _ hk => hk.2) (.int .u32 t165)) (fun _ hk => hk.2) (.int .u32 t166)) (fun _ hk => hk.2) (.int .u32 t167)) (fun _ hk => hk.2) (.int .u32 t168)) (fun _ hk => hk.2) (.int .u32 t169)) (fun _ h_ => h_.1)) (fun _ h_ => h_.1))) hb); replace BK151 := ah.mk (aC (g := gb151) (o := .cells #[.string t145, .slice Ao20 t146.length co20, .int .i64 t149] 26 (0, 0)) (by (with_reducible repeat ((refine ak ?_ _))); refine aR ?_ NB151_171.out _; (with_reducible repeat ((refine ak ?_ _))); refine aR ?_ NB151_171.out _; (with_reducible repeat ((refine ak ?_ _))); refine aR ?_ NB151_171.out _; (with_reducible repeat ((refine ak ?_ _))); refine aR ?_ NB151_171.out _; (with_reducible repeat ((refine ak ?_ _))); refine aR ?_ NB151_171.out _; (with_reducible repeat ((refine ak ?_ _))); refine aR ?_ NB151_171.out _; (with_reducible repeat ((refine ak ?_ _))); refine aR ?_ NB151_171.out _; (with_reducible repeat ((refine ak ?_ _))); refine aR ?_ NB151_170.out _; (with_reducible repeat ((refine ak ?_ _))); refine aR ?_ NB151_170.out _; (with_reducible repeat ((refine ak ?_ _))); refine aR ?_ NB151_170.out _; (with_reducible repeat ((refine ak ?_ _))); refine aR ?_ NB151_170.out _; (with_reducible repeat ((refine ak ?_ _))); refine aR ?_ NB151_170.out _; (with_reducible repeat ((refine ak ?_ _))); exact BK151.out) hb); replace BK157 := ah.mk (aC (g := gb157) (o := .cells #[.string t152, .slice Ao25 t153.length co25] 31 (0, 0)) (by (with_reducible repeat ((refine ak ?_ _))); refine aR ?_ NB157_171.out _; (with_reducible repeat ((refine ak ?_ _))); refine aR ?_ NB157_171.out _; (with_reducible repeat ((refine ak ?_ _))); refine aR ?_ NB157_171.out _; (with_reducible repeat ((refine ak ?_ _))); refine aR ?_ NB157_171.out _; (with_reducible repeat ((refine ak ?_ _))); refine aR ?_ NB157_171.out _; (with_reducible repeat ((refine ak ?_ _))); refine aR ?_ NB157_171.out _; (with_reducible repeat ((refine ak ?_ _))); refine aR ?_ NB157_171.out _; (with_reducible repeat ((refine ak ?_ _))); refine aR ?_ NB157_170.out _; (with_reducible repeat ((refine ak ?_ _))); refine aR ?_ NB157_170.out _; (with_reducible repeat ((refine ak ?_ _))); refine aR ?_ NB157_170.out _; (with_reducible repeat ((refine ak ?_ _))); refine aR ?_ NB157_170.out _; (with_reducible repeat ((refine ak ?_ _))); refine aR ?_ NB157_170.out _; (with_reducible repeat ((refine ak ?_ _))); exact BK157.out) hb); replace BK170 := ah.mk (aC (g := gb170) (o := .cells #[.string t158, .int .i64 t159, .int .i64 t160, .int .i64 t161, .string t162] 35 (0, 0)) (by (with_reducible repeat ((refine ak ?_ _))); refine aR ?_ NB170_171.out _; (with_reducible repeat ((refine ak ?_ _))); refine aR ?_ NB170_171.out _; (with_reducible repeat ((refine ak ?_ _))); refine aR ?_ NB170_171.out _; (with_reducible repeat ((refine ak ?_ _))); refine aR ?_ NB170_171.out _; (with_reducible repeat ((refine ak ?_ _))); refine aR ?_ NB170_171.out _; (with_reducible repeat ((refine ak ?_ _))); refine aR ?_ NB170_171.out _; (with_reducible repeat ((refine ak ?_ _))); refine aR ?_ NB170_171.out _; (with_reducible repeat ((refine ak ?_ _))); refine aM (cs := #[.string t158, .int .i64 t159, .int .i64 t160, .int .i64 t161, .string (⟨#[]⟩ : ByteArray)]) ?_ 4 _ rfl; (with_reducible repeat ((refine ak ?_ _))); refine aM (cs := #[.string t158, .int .i64 t159, .int .i64 t160, .int .i64 0, .string (⟨#[]⟩ : ByteArray)]) ?_ 3 _ rfl; (with_reducible repeat ((refine ak ?_ _))); refine aM (cs := #[.string t158, .int .i64 t159, .int .i64 0, .int .i64 0, .string (⟨#[]⟩ : ByteArray)]) ?_ 2 _ rfl; (with_reducible repeat ((refine ak ?_ _))); refine aM (cs := #[.string t158, .int .i64 0, .int .i64 0, .int .i64 0, .string (⟨#[]⟩ : ByteArray)]) ?_ 1 _ rfl; (with_reducible repeat ((refine ak ?_ _))); refine aM (cs := #[.string (⟨#[]⟩ : ByteArray), .int .i64 0, .int .i64 0, .int .i64 0, .string (⟨#[]⟩ : ByteArray)]) ?_ 0 _ rfl; (with_reducible repeat ((refine ak ?_ _))); exact BK170.out) hb); replace BK171 := ah.mk (aC (g := gb171) (o := .cells #[.string t163, .string t164, .int .u32 t165, .int .u32 t166, .int .u32 t167, .int .u32 t168, .int .u32 t169] 38 (0, 0)) (by (with_reducible repeat ((refine ak ?_ _))); refine aM (cs := #[.string t163, .string t164, .int .u32 t165, .int .u32 t166, .int .u32 t167, .int .u32 t168, .int .u32 0]) ?_ 6 _ rfl; (with_reducible repeat ((refine ak ?_ _))); refine aM (cs := #[.string t163, .string t164, .int .u32 t165, .int .u32 t166, .int .u32 t167, .int .u32 0, .int .u32 0]) ?_ 5 _ rfl; (with_reducible repeat ((refine ak ?_ _))); refine aM (cs := #[.string t163, .string t164, .int .u32 t165, .int .u32 t166, .int .u32 0, .int .u32 0, .int .u32 0]) ?_ 4 _ rfl; (with_reducible repeat ((refine ak ?_ _))); refine aM (cs := #[.string t163, .string t164, .int .u32 t165, .int .u32 0, .int .u32 0, .int .u32 0, .int .u32 0]) ?_ 3 _ rfl; (with_reducible repeat ((refine ak ?_ _))); refine aM (cs := #[.string t163, .string t164, .int .u32 0, .int .u32 0, .int .u32 0, .int .u32 0, .int .u32 0]) ?_ 2 _ rfl; (with_reducible repeat ((refine ak ?_ _))); refine aM (cs := #[.string t163, .string (⟨#[]⟩ : ByteArray), .int .u32 0, .int .u32 0, .int .u32 0, .int .u32 0, .int .u32 0]) ?_ 1 _ rfl; (with_reducible repeat ((refine ak ?_ _))); refine aM (cs := #[.string (⟨#[]⟩ : ByteArray), .string (⟨#[]⟩ : ByteArray), .int .u32 0, .int .u32 0, .int .u32 0, .int .u32 0, .int .u32 0]) ?_ 0 _ rfl; (with_reducible repeat ((refine ak ?_ _))); refine aR ?_ NB171_170.out _; (with_reducible repeat ((refine ak ?_ _))); refine aR ?_ NB171_170.out _; (with_reducible repeat ((refine ak ?_ _))); refine aR ?_ NB171_170.out _; (with_reducible repeat ((refine ak ?_ _))); refine aR ?_ NB171_170.out _; (with_reducible repeat ((refine ak ?_ _))); refine aR ?_ NB171_170.out _; (with_reducible repeat ((refine ak ?_ _))); exact BK171.out) hb); replace HB := ah.mk (av (by repeat ((with_reducible first | exact HB.out | refine bL ?_ GE170.out | refine bL ?_ GE171.out))) hb); (try clear hb)) | ((((refine be_ (N := 11) (cs := #[.string (⟨#[]⟩ : ByteArray), .int .i64 0, .int .i64 0, .int .i64 0, .string (⟨#[]⟩ : ByteArray)]) (t := 35) ?_))); intro gb184 hg w54 hbox hb; have BK184 := ah.mk (hbox); have GW184 := ah.mk (ge_ hg (ay HB.out)); have GE184 := ah.mk (ge_ hg (ay HB.out)); have NB151_184 := ah.mk (nl_ hg (by ((exact BK151.out)))); have NB184_151 := ah.mk (nr_ hg (by ((exact BK151.out)))); have NB157_184 := ah.mk (nl_ hg (by ((exact BK157.out)))); have NB184_157 := ah.mk (nr_ hg (by ((exact BK157.out)))); have NB170_184 := ah.mk (nl_ hg (by ((exact BK170.out)))); have NB184_170 := ah.mk (nr_ hg (by ((exact BK170.out)))); have NB171_184 := ah.mk (nl_ hg (by ((exact BK171.out)))); have NB184_171 := ah.mk (nr_ hg (by ((exact BK171.out)))); replace HO_152001 := ah.mk (Kd.bI (Kd.ru (by ((exact HO_152001.out))) gb184 (Nat.le_of_eq hg.symm)) hb); replace HO_158001 := ah.mk (Kd.bI (Kd.ru (by ((exact HO_158001.out))) gb184 (Nat.le_of_eq hg.symm)) hb); replace BK151 := ah.mk (aC (by ((exact BK151.out))) hb); replace BK157 := ah.mk (aC (by ((exact BK157.out))) hb); replace BK170 := ah.mk (aC (by ((exact BK170.out))) hb); replace BK171 := ah.mk (aC (by ((exact BK171.out))) hb); replace HB := ah.mk (av HB.out hb); clear hb hbox hg) | ((((refine be_ (N := 12) (cs := #[.string (⟨#[]⟩ : ByteArray), .string (⟨#[]⟩ : ByteArray), .int .u32 0, .int .u32 0, .int .u32 0, .int .u32 0, .int .u32 0]) (t := 38) ?_))); intro gb185 hg w55 hbox hb; have BK185 := ah.mk (hbox); have GW185 := ah.mk (ge_ hg (ay HB.out)); have GE185 := ah.mk (ge_ hg (ay HB.out)); have NB151_185 := ah.mk (nl_ hg (by ((exact BK151.out)))); have NB185_151 := ah.mk (nr_ hg (by ((exact BK151.out)))); have NB157_185 := ah.mk (nl_ hg (by ((exact BK157.out)))); have NB185_157 := ah.mk (nr_ hg (by ((exact BK157.out)))); have NB170_185 := ah.mk (nl_ hg (by ((exact BK170.out)))); have NB185_170 := ah.mk (nr_ hg (by ((exact BK170.out)))); have NB171_185 := ah.mk (nl_ hg (by ((exact BK171.out)))); have NB185_171 := ah.mk (nr_ hg (by ((exact BK171.out)))); have NB184_185 := ah.mk (nl_ hg (by ((exact BK184.out)))); have NB185_184 := ah.mk (nr_ hg (by ((exact BK184.out)))); replace HO_152001 := ah.mk (Kd.bI (by ((exact HO_152001.out))) hb); replace HO_158001 := ah.mk (Kd.bI (by ((exact HO_158001.out))) hb); replace BK151 := ah.mk (aC (by ((exact BK151.out))) hb); replace BK157 := ah.mk (aC (by ((exact BK157.out))) hb); replace BK170 := ah.mk (aC (by ((exact BK170.out))) hb); replace BK171 := ah.mk (aC (by ((exact BK171.out))) hb); replace BK184 := ah.mk (aC (by ((exact BK184.out))) hb); replace HB := ah.mk (av HB.out hb); clear hb hbox hg; have hnb56 := NB184_151.out; have hnc56 := NB151_184.out; have hnb57 := NB184_157.out; have hnc57 := NB157_184.out; have hnb58 := NB184_170.out; have hnc58 := NB170_184.out; have hnb59 := NB184_171.out; have hnc59 := NB171_184.out; have hnb60 := NB184_185.out; have hnc60 := NB185_184.out; obtain ⟨hcz61_0, hcz61_1, hcz61_2, hcz61_3, hcz61_4, hfz61_0, hfz61_1, hfz61_2, hfz61_3, hfz61_4⟩ := z5_ BK184.out; have hnb62 := NB185_151.out; have hnc62 := NB151_185.out; have hnb63 := NB185_157.out; have hnc63 := NB157_185.out; have hnb64 := NB185_170.out; have hnc64 := NB170_185.out; have hnb65 := NB185_171.out; have hnc65 := NB171_185.out; obtain ⟨hcz66_0, hcz66_1, hcz66_2, hcz66_3, hcz66_4, hcz66_5, hcz66_6, hfz66_0, hfz66_1, hfz66_2, hfz66_3, hfz66_4, hfz66_5, hfz66_6⟩ := z7_ BK185.out)))
          have n0_ : ah (Kd.R k35 35 ((((((((((((w55.setCell ⟨gb184, 0, none⟩ (.string t172)).setCell ⟨gb184, 1, none⟩ (.int .i64 t173)).setCell ⟨gb184, 2, none⟩ (.int .i64 t174)).setCell ⟨gb184, 3, none⟩ (.int .i64 t175)).setCell ⟨gb184, 4, none⟩ (.string t176)).setCell ⟨gb185, 0, none⟩ (.string t177)).setCell ⟨gb185, 1, none⟩ (.string t178)).setCell ⟨gb185, 2, none⟩ (.int .u32 t179)).setCell ⟨gb185, 3, none⟩ (.int .u32 t180)).setCell ⟨gb185, 4, none⟩ (.int .u32 t181)).setCell ⟨gb185, 5, none⟩ (.int .u32 t182)).setCell ⟨gb185, 6, none⟩ (.int .u32 t183)) w.heap.size (fun k_ => some k_ ≠ (.slice Ao25 t153.length co25 : Value).ownBlock ∧ k_ ≠ gb170 ∧ k_ ≠ gb184) (.slice Ao20 t146.length co20) t146) := ⟨by (with_reducible repeat ((apply Kd.bf))); exact Kd.dx (Kd.bX (p := ⟨gb185, 6, none⟩) (Kd.bX (p := ⟨gb185, 5, none⟩) (Kd.bX (p := ⟨gb185, 4, none⟩) (Kd.bX (p := ⟨gb185, 3, none⟩) (Kd.bX (p := ⟨gb185, 2, none⟩) (Kd.bX (p := ⟨gb185, 1, none⟩) (Kd.bX (p := ⟨gb185, 0, none⟩) (Kd.bX (p := ⟨gb184, 4, none⟩) (Kd.bX (p := ⟨gb184, 3, none⟩) (Kd.bX (p := ⟨gb184, 2, none⟩) (Kd.bX (p := ⟨gb184, 1, none⟩) (Kd.bX (p := ⟨gb184, 0, none⟩) (Kd.iZ (Kd.dx HO_152001.out (fun k_ hk => (⟨hk, hk.2⟩ : _ ∧ k_ ≠ gb184))) BK185.out (by decide)) (fun _ hk => hk.1.2) (.string t172)) (fun _ hk => hk.1.2) (.int .i64 t173)) (fun _ hk => hk.1.2) (.int .i64 t174)) (fun _ hk => hk.1.2) (.int .i64 t175)) (fun _ hk => hk.1.2) (.string t176)) (fun _ hk => hk.2) (.string t177)) (fun _ hk => hk.2) (.string t178)) (fun _ hk => hk.2) (.int .u32 t179)) (fun _ hk => hk.2) (.int .u32 t180)) (fun _ hk => hk.2) (.int .u32 t181)) (fun _ hk => hk.2) (.int .u32 t182)) (fun _ hk => hk.2) (.int .u32 t183)) (fun _ hk => ⟨hk.1.1.1.1, ⟨hk.1.1.1.2, hk.1.1.2⟩⟩)⟩
          have n1_ : ah (Kd.R k35 35 ((((((((((((w55.setCell ⟨gb184, 0, none⟩ (.string t172)).setCell ⟨gb184, 1, none⟩ (.int .i64 t173)).setCell ⟨gb184, 2, none⟩ (.int .i64 t174)).setCell ⟨gb184, 3, none⟩ (.int .i64 t175)).setCell ⟨gb184, 4, none⟩ (.string t176)).setCell ⟨gb185, 0, none⟩ (.string t177)).setCell ⟨gb185, 1, none⟩ (.string t178)).setCell ⟨gb185, 2, none⟩ (.int .u32 t179)).setCell ⟨gb185, 3, none⟩ (.int .u32 t180)).setCell ⟨gb185, 4, none⟩ (.int .u32 t181)).setCell ⟨gb185, 5, none⟩ (.int .u32 t182)).setCell ⟨gb185, 6, none⟩ (.int .u32 t183)) w.heap.size (fun k_ => some k_ ≠ (.slice Ao20 t146.length co20 : Value).ownBlock ∧ k_ ≠ gb170 ∧ k_ ≠ gb184) (.slice Ao25 t153.length co25) t153) := ⟨by (with_reducible repeat ((apply Kd.bf))); exact Kd.dx (Kd.bX (p := ⟨gb185, 6, none⟩) (Kd.bX (p := ⟨gb185, 5, none⟩) (Kd.bX (p := ⟨gb185, 4, none⟩) (Kd.bX (p := ⟨gb185, 3, none⟩) (Kd.bX (p := ⟨gb185, 2, none⟩) (Kd.bX (p := ⟨gb185, 1, none⟩) (Kd.bX (p := ⟨gb185, 0, none⟩) (Kd.bX (p := ⟨gb184, 4, none⟩) (Kd.bX (p := ⟨gb184, 3, none⟩) (Kd.bX (p := ⟨gb184, 2, none⟩) (Kd.bX (p := ⟨gb184, 1, none⟩) (Kd.bX (p := ⟨gb184, 0, none⟩) (Kd.iZ (Kd.dx HO_158001.out (fun k_ hk => (⟨hk, hk.2⟩ : _ ∧ k_ ≠ gb184))) BK185.out (by decide)) (fun _ hk => hk.1.2) (.string t172)) (fun _ hk => hk.1.2) (.int .i64 t173)) (fun _ hk => hk.1.2) (.int .i64 t174)) (fun _ hk => hk.1.2) (.int .i64 t175)) (fun _ hk => hk.1.2) (.string t176)) (fun _ hk => hk.2) (.string t177)) (fun _ hk => hk.2) (.string t178)) (fun _ hk => hk.2) (.int .u32 t179)) (fun _ hk => hk.2) (.int .u32 t180)) (fun _ hk => hk.2) (.int .u32 t181)) (fun _ hk => hk.2) (.int .u32 t182)) (fun _ hk => hk.2) (.int .u32 t183)) (fun _ hk => ⟨hk.1.1.1.1, ⟨hk.1.1.1.2, hk.1.1.2⟩⟩)⟩
          have n2_ : ah (((((((((((((w55.setCell ⟨gb184, 0, none⟩ (.string t172)).setCell ⟨gb184, 1, none⟩ (.int .i64 t173)).setCell ⟨gb184, 2, none⟩ (.int .i64 t174)).setCell ⟨gb184, 3, none⟩ (.int .i64 t175)).setCell ⟨gb184, 4, none⟩ (.string t176)).setCell ⟨gb185, 0, none⟩ (.string t177)).setCell ⟨gb185, 1, none⟩ (.string t178)).setCell ⟨gb185, 2, none⟩ (.int .u32 t179)).setCell ⟨gb185, 3, none⟩ (.int .u32 t180)).setCell ⟨gb185, 4, none⟩ (.int .u32 t181)).setCell ⟨gb185, 5, none⟩ (.int .u32 t182)).setCell ⟨gb185, 6, none⟩ (.int .u32 t183)).heap[gb151]? = some (.cells #[.string t145, .slice Ao20 t146.length co20, .int .i64 t149] 26 (0, 0))) := ⟨by (with_reducible repeat ((refine ak ?_ _))); refine aR ?_ NB151_185.out _; (with_reducible repeat ((refine ak ?_ _))); refine aR ?_ NB151_185.out _; (with_reducible repeat ((refine ak ?_ _))); refine aR ?_ NB151_185.out _; (with_reducible repeat ((refine ak ?_ _))); refine aR ?_ NB151_185.out _; (with_reducible repeat ((refine ak ?_ _))); refine aR ?_ NB151_185.out _; (with_reducible repeat ((refine ak ?_ _))); refine aR ?_ NB151_185.out _; (with_reducible repeat ((refine ak ?_ _))); refine aR ?_ NB151_185.out _; (with_reducible repeat ((refine ak ?_ _))); refine aR ?_ NB151_184.out _; (with_reducible repeat ((refine ak ?_ _))); refine aR ?_ NB151_184.out _; (with_reducible repeat ((refine ak ?_ _))); refine aR ?_ NB151_184.out _; (with_reducible repeat ((refine ak ?_ _))); refine aR ?_ NB151_184.out _; (with_reducible repeat ((refine ak ?_ _))); refine aR ?_ NB151_184.out _; (with_reducible repeat ((refine ak ?_ _))); exact BK151.out⟩
          have n3_ : ah (((((((((((((w55.setCell ⟨gb184, 0, none⟩ (.string t172)).setCell ⟨gb184, 1, none⟩ (.int .i64 t173)).setCell ⟨gb184, 2, none⟩ (.int .i64 t174)).setCell ⟨gb184, 3, none⟩ (.int .i64 t175)).setCell ⟨gb184, 4, none⟩ (.string t176)).setCell ⟨gb185, 0, none⟩ (.string t177)).setCell ⟨gb185, 1, none⟩ (.string t178)).setCell ⟨gb185, 2, none⟩ (.int .u32 t179)).setCell ⟨gb185, 3, none⟩ (.int .u32 t180)).setCell ⟨gb185, 4, none⟩ (.int .u32 t181)).setCell ⟨gb185, 5, none⟩ (.int .u32 t182)).setCell ⟨gb185, 6, none⟩ (.int .u32 t183)).heap[gb157]? = some (.cells #[.string t152, .slice Ao25 t153.length co25] 31 (0, 0))) := ⟨by (with_reducible repeat ((refine ak ?_ _))); refine aR ?_ NB157_185.out _; (with_reducible repeat ((refine ak ?_ _))); refine aR ?_ NB157_185.out _; (with_reducible repeat ((refine ak ?_ _))); refine aR ?_ NB157_185.out _; (with_reducible repeat ((refine ak ?_ _))); refine aR ?_ NB157_185.out _; (with_reducible repeat ((refine ak ?_ _))); refine aR ?_ NB157_185.out _; (with_reducible repeat ((refine ak ?_ _))); refine aR ?_ NB157_185.out _; (with_reducible repeat ((refine ak ?_ _))); refine aR ?_ NB157_185.out _; (with_reducible repeat ((refine ak ?_ _))); refine aR ?_ NB157_184.out _; (with_reducible repeat ((refine ak ?_ _))); refine aR ?_ NB157_184.out _; (with_reducible repeat ((refine ak ?_ _))); refine aR ?_ NB157_184.out _; (with_reducible repeat ((refine ak ?_ _))); refine aR ?_ NB157_184.out _; (with_reducible repeat ((refine ak ?_ _))); refine aR ?_ NB157_184.out _; (with_reducible repeat ((refine ak ?_ _))); exact BK157.out⟩
          have n4_ : ah (((((((((((((w55.setCell ⟨gb184, 0, none⟩ (.string t172)).setCell ⟨gb184, 1, none⟩ (.int .i64 t173)).setCell ⟨gb184, 2, none⟩ (.int .i64 t174)).setCell ⟨gb184, 3, none⟩ (.int .i64 t175)).setCell ⟨gb184, 4, none⟩ (.string t176)).setCell ⟨gb185, 0, none⟩ (.string t177)).setCell ⟨gb185, 1, none⟩ (.string t178)).setCell ⟨gb185, 2, none⟩ (.int .u32 t179)).setCell ⟨gb185, 3, none⟩ (.int .u32 t180)).setCell ⟨gb185, 4, none⟩ (.int .u32 t181)).setCell ⟨gb185, 5, none⟩ (.int .u32 t182)).setCell ⟨gb185, 6, none⟩ (.int .u32 t183)).heap[gb170]? = some (.cells #[.string t158, .int .i64 t159, .int .i64 t160, .int .i64 t161, .string t162] 35 (0, 0))) := ⟨by (with_reducible repeat ((refine ak ?_ _))); refine aR ?_ NB170_185.out _; (with_reducible repeat ((refine ak ?_ _))); refine aR ?_ NB170_185.out _; (with_reducible repeat ((refine ak ?_ _))); refine aR ?_ NB170_185.out _; (with_reducible repeat ((refine ak ?_ _))); refine aR ?_ NB170_185.out _; (with_reducible repeat ((refine ak ?_ _))); refine aR ?_ NB170_185.out _; (with_reducible repeat ((refine ak ?_ _))); refine aR ?_ NB170_185.out _; (with_reducible repeat ((refine ak ?_ _))); refine aR ?_ NB170_185.out _; (with_reducible repeat ((refine ak ?_ _))); refine aR ?_ NB170_184.out _; (with_reducible repeat ((refine ak ?_ _))); refine aR ?_ NB170_184.out _; (with_reducible repeat ((refine ak ?_ _))); refine aR ?_ NB170_184.out _; (with_reducible repeat ((refine ak ?_ _))); refine aR ?_ NB170_184.out _; (with_reducible repeat ((refine ak ?_ _))); refine aR ?_ NB170_184.out _; (with_reducible repeat ((refine ak ?_ _))); exact BK170.out⟩
          have n5_ : ah (((((((((((((w55.setCell ⟨gb184, 0, none⟩ (.string t172)).setCell ⟨gb184, 1, none⟩ (.int .i64 t173)).setCell ⟨gb184, 2, none⟩ (.int .i64 t174)).setCell ⟨gb184, 3, none⟩ (.int .i64 t175)).setCell ⟨gb184, 4, none⟩ (.string t176)).setCell ⟨gb185, 0, none⟩ (.string t177)).setCell ⟨gb185, 1, none⟩ (.string t178)).setCell ⟨gb185, 2, none⟩ (.int .u32 t179)).setCell ⟨gb185, 3, none⟩ (.int .u32 t180)).setCell ⟨gb185, 4, none⟩ (.int .u32 t181)).setCell ⟨gb185, 5, none⟩ (.int .u32 t182)).setCell ⟨gb185, 6, none⟩ (.int .u32 t183)).heap[gb171]? = some (.cells #[.string t163, .string t164, .int .u32 t165, .int .u32 t166, .int .u32 t167, .int .u32 t168, .int .u32 t169] 38 (0, 0))) := ⟨by (with_reducible repeat ((refine ak ?_ _))); refine aR ?_ NB171_185.out _; (with_reducible repeat ((refine ak ?_ _))); refine aR ?_ NB171_185.out _; (with_reducible repeat ((refine ak ?_ _))); refine aR ?_ NB171_185.out _; (with_reducible repeat ((refine ak ?_ _))); refine aR ?_ NB171_185.out _; (with_reducible repeat ((refine ak ?_ _))); refine aR ?_ NB171_185.out _; (with_reducible repeat ((refine ak ?_ _))); refine aR ?_ NB171_185.out _; (with_reducible repeat ((refine ak ?_ _))); refine aR ?_ NB171_185.out _; (with_reducible repeat ((refine ak ?_ _))); refine aR ?_ NB171_184.out _; (with_reducible repeat ((refine ak ?_ _))); refine aR ?_ NB171_184.out _; (with_reducible repeat ((refine ak ?_ _))); refine aR ?_ NB171_184.out _; (with_reducible repeat ((refine ak ?_ _))); refine aR ?_ NB171_184.out _; (with_reducible repeat ((refine ak ?_ _))); refine aR ?_ NB171_184.out _; (with_reducible repeat ((refine ak ?_ _))); exact BK171.out⟩
          have n6_ : ah (((((((((((((w55.setCell ⟨gb184, 0, none⟩ (.string t172)).setCell ⟨gb184, 1, none⟩ (.int .i64 t173)).setCell ⟨gb184, 2, none⟩ (.int .i64 t174)).setCell ⟨gb184, 3, none⟩ (.int .i64 t175)).setCell ⟨gb184, 4, none⟩ (.string t176)).setCell ⟨gb185, 0, none⟩ (.string t177)).setCell ⟨gb185, 1, none⟩ (.string t178)).setCell ⟨gb185, 2, none⟩ (.int .u32 t179)).setCell ⟨gb185, 3, none⟩ (.int .u32 t180)).setCell ⟨gb185, 4, none⟩ (.int .u32 t181)).setCell ⟨gb185, 5, none⟩ (.int .u32 t182)).setCell ⟨gb185, 6, none⟩ (.int .u32 t183)).heap[gb184]? = some (.cells #[.string t172, .int .i64 t173, .int .i64 t174, .int .i64 t175, .string t176] 35 (0, 0))) := ⟨by (with_reducible repeat ((refine ak ?_ _))); refine aR ?_ NB184_185.out _; (with_reducible repeat ((refine ak ?_ _))); refine aR ?_ NB184_185.out _; (with_reducible repeat ((refine ak ?_ _))); refine aR ?_ NB184_185.out _; (with_reducible repeat ((refine ak ?_ _))); refine aR ?_ NB184_185.out _; (with_reducible repeat ((refine ak ?_ _))); refine aR ?_ NB184_185.out _; (with_reducible repeat ((refine ak ?_ _))); refine aR ?_ NB184_185.out _; (with_reducible repeat ((refine ak ?_ _))); refine aR ?_ NB184_185.out _; (with_reducible repeat ((refine ak ?_ _))); refine aM (cs := #[.string t172, .int .i64 t173, .int .i64 t174, .int .i64 t175, .string (⟨#[]⟩ : ByteArray)]) ?_ 4 _ rfl; (with_reducible repeat ((refine ak ?_ _))); refine aM (cs := #[.string t172, .int .i64 t173, .int .i64 t174, .int .i64 0, .string (⟨#[]⟩ : ByteArray)]) ?_ 3 _ rfl; (with_reducible repeat ((refine ak ?_ _))); refine aM (cs := #[.string t172, .int .i64 t173, .int .i64 0, .int .i64 0, .string (⟨#[]⟩ : ByteArray)]) ?_ 2 _ rfl; (with_reducible repeat ((refine ak ?_ _))); refine aM (cs := #[.string t172, .int .i64 0, .int .i64 0, .int .i64 0, .string (⟨#[]⟩ : ByteArray)]) ?_ 1 _ rfl; (with_reducible repeat ((refine ak ?_ _))); refine aM (cs := #[.string (⟨#[]⟩ : ByteArray), .int .i64 0, .int .i64 0, .int .i64 0, .string (⟨#[]⟩ : ByteArray)]) ?_ 0 _ rfl; (with_reducible repeat ((refine ak ?_ _))); exact BK184.out⟩
          have n7_ : ah (((((((((((((w55.setCell ⟨gb184, 0, none⟩ (.string t172)).setCell ⟨gb184, 1, none⟩ (.int .i64 t173)).setCell ⟨gb184, 2, none⟩ (.int .i64 t174)).setCell ⟨gb184, 3, none⟩ (.int .i64 t175)).setCell ⟨gb184, 4, none⟩ (.string t176)).setCell ⟨gb185, 0, none⟩ (.string t177)).setCell ⟨gb185, 1, none⟩ (.string t178)).setCell ⟨gb185, 2, none⟩ (.int .u32 t179)).setCell ⟨gb185, 3, none⟩ (.int .u32 t180)).setCell ⟨gb185, 4, none⟩ (.int .u32 t181)).setCell ⟨gb185, 5, none⟩ (.int .u32 t182)).setCell ⟨gb185, 6, none⟩ (.int .u32 t183)).heap[gb185]? = some (.cells #[.string t177, .string t178, .int .u32 t179, .int .u32 t180, .int .u32 t181, .int .u32 t182, .int .u32 t183] 38 (0, 0))) := ⟨by (with_reducible repeat ((refine ak ?_ _))); refine aM (cs := #[.string t177, .string t178, .int .u32 t179, .int .u32 t180, .int .u32 t181, .int .u32 t182, .int .u32 0]) ?_ 6 _ rfl; (with_reducible repeat ((refine ak ?_ _))); refine aM (cs := #[.string t177, .string t178, .int .u32 t179, .int .u32 t180, .int .u32 t181, .int .u32 0, .int .u32 0]) ?_ 5 _ rfl; (with_reducible repeat ((refine ak ?_ _))); refine aM (cs := #[.string t177, .string t178, .int .u32 t179, .int .u32 t180, .int .u32 0, .int .u32 0, .int .u32 0]) ?_ 4 _ rfl; (with_reducible repeat ((refine ak ?_ _))); refine aM (cs := #[.string t177, .string t178, .int .u32 t179, .int .u32 0, .int .u32 0, .int .u32 0, .int .u32 0]) ?_ 3 _ rfl; (with_reducible repeat ((refine ak ?_ _))); refine aM (cs := #[.string t177, .string t178, .int .u32 0, .int .u32 0, .int .u32 0, .int .u32 0, .int .u32 0]) ?_ 2 _ rfl; (with_reducible repeat ((refine ak ?_ _))); refine aM (cs := #[.string t177, .string (⟨#[]⟩ : ByteArray), .int .u32 0, .int .u32 0, .int .u32 0, .int .u32 0, .int .u32 0]) ?_ 1 _ rfl; (with_reducible repeat ((refine ak ?_ _))); refine aM (cs := #[.string (⟨#[]⟩ : ByteArray), .string (⟨#[]⟩ : ByteArray), .int .u32 0, .int .u32 0, .int .u32 0, .int .u32 0, .int .u32 0]) ?_ 0 _ rfl; (with_reducible repeat ((refine ak ?_ _))); refine aR ?_ NB185_184.out _; (with_reducible repeat ((refine ak ?_ _))); refine aR ?_ NB185_184.out _; (with_reducible repeat ((refine ak ?_ _))); refine aR ?_ NB185_184.out _; (with_reducible repeat ((refine ak ?_ _))); refine aR ?_ NB185_184.out _; (with_reducible repeat ((refine ak ?_ _))); refine aR ?_ NB185_184.out _; (with_reducible repeat ((refine ak ?_ _))); exact BK185.out⟩
          have n8_ : ah (Below w.heap.size w ((((((((((((w55.setCell ⟨gb184, 0, none⟩ (.string t172)).setCell ⟨gb184, 1, none⟩ (.int .i64 t173)).setCell ⟨gb184, 2, none⟩ (.int .i64 t174)).setCell ⟨gb184, 3, none⟩ (.int .i64 t175)).setCell ⟨gb184, 4, none⟩ (.string t176)).setCell ⟨gb185, 0, none⟩ (.string t177)).setCell ⟨gb185, 1, none⟩ (.string t178)).setCell ⟨gb185, 2, none⟩ (.int .u32 t179)).setCell ⟨gb185, 3, none⟩ (.int .u32 t180)).setCell ⟨gb185, 4, none⟩ (.int .u32 t181)).setCell ⟨gb185, 5, none⟩ (.int .u32 t182)).setCell ⟨gb185, 6, none⟩ (.int .u32 t183))) := ⟨by repeat ((with_reducible first | exact HB.out | refine bL ?_ GE184.out | refine bL ?_ GE185.out))⟩
          (try clear HO_152001)
          (try clear HO_158001)
          (try clear BK151)
          (try clear BK157)
          (try clear BK170)
          (try clear BK171)
          (try clear BK184)
          (try clear BK185)
          (try clear HB)
          generalize ((((((((((((w55.setCell ⟨gb184, 0, none⟩ (.string t172)).setCell ⟨gb184, 1, none⟩ (.int .i64 t173)).setCell ⟨gb184, 2, none⟩ (.int .i64 t174)).setCell ⟨gb184, 3, none⟩ (.int .i64 t175)).setCell ⟨gb184, 4, none⟩ (.string t176)).setCell ⟨gb185, 0, none⟩ (.string t177)).setCell ⟨gb185, 1, none⟩ (.string t178)).setCell ⟨gb185, 2, none⟩ (.int .u32 t179)).setCell ⟨gb185, 3, none⟩ (.int .u32 t180)).setCell ⟨gb185, 4, none⟩ (.int .u32 t181)).setCell ⟨gb185, 5, none⟩ (.int .u32 t182)).setCell ⟨gb185, 6, none⟩ (.int .u32 t183)) = w67 at n0_ n1_ n2_ n3_ n4_ n5_ n6_ n7_ n8_ ⊢
          have HO_152001 := n0_
          have HO_158001 := n1_
          have BK151 := n2_
          have BK157 := n3_
          have BK170 := n4_
          have BK171 := n5_
          have BK184 := n6_
          have BK185 := n7_
          have HB := n8_
          clear n0_ n1_ n2_ n3_ n4_ n5_ n6_ n7_ n8_
          replace HO_152001 := ah.mk (Kd.jG HO_152001.out)
          replace HO_158001 := ah.mk (Kd.jG HO_158001.out)
          replace BK151 := ah.mk (eG BK151.out)
          replace BK157 := ah.mk (eG BK157.out)
          replace BK170 := ah.mk (eG BK170.out)
          replace BK171 := ah.mk (eG BK171.out)
          replace BK184 := ah.mk (eG BK184.out)
          replace BK185 := ah.mk (eG BK185.out)
          replace HB := ah.mk (eu HB.out)
          refine jq (n := 29) (ds := []) (ls 29 0) (by kernel_rfl) rfl rfl (c3_ BK151.out (c2_ BK157.out (c5_ BK170.out (c5_ BK184.out (c7_ BK171.out (d7_ BK185.out)))))) (fun hHeld => ?_); refine iH aK.sQ aK.qd (fun HT_ HW_ => ?_)
          generalize w67.drew = w68 at HO_152001 HO_158001 BK151 BK157 BK170 BK171 BK184 BK185 HB hHeld ⊢
          refine td_ [(2, 60)] ?_
          refine pm_ HT_ ?_
          refine dn_ ?_
          refine td_ [(0, 58)] ?_
          refine tm_ HT_ HW_ hHeld ?_
          refine dn_ ?_
          refine jO HT_ (i := 1) (N := some 59) (ls 29 7) (fun K hK => ?_)
          refine gs_ Tryz.func21 #[.agg #[.string t145, .slice Ao20 t146.length co20, .int .i64 t149]] ?_
          with_reducible refine (fV.calls t145 _ _ t146 t149 t186 _ ?side1 ?side2 A30.out).mono ?_
          (case side1 => exact (Kd.aV HO_152001.out).2.2)
          (case side2 => exact (Kd.aV HO_152001.out).2.1)
          rintro e w69 ⟨rfl, hb⟩
          refine ⟨_, rfl, ?_⟩
          replace HO_152001 := ah.mk (Kd.bI (by ((exact HO_152001.out))) hb)
          replace HO_158001 := ah.mk (Kd.bI (by ((exact HO_158001.out))) hb)
          replace BK151 := ah.mk (aC (by ((exact BK151.out))) hb)
          replace BK157 := ah.mk (aC (by ((exact BK157.out))) hb)
          replace BK170 := ah.mk (aC (by ((exact BK170.out))) hb)
          replace BK171 := ah.mk (aC (by ((exact BK171.out))) hb)
          replace BK184 := ah.mk (aC (by ((exact BK184.out))) hb)
          replace BK185 := ah.mk (aC (by ((exact BK185.out))) hb)
          replace HB := ah.mk (av HB.out hb)
          (try clear hb)
          refine hK.out _ _ (c3_ BK151.out (c2_ BK157.out (c5_ BK170.out (c5_ BK184.out (c7_ BK171.out (d7_ BK185.out)))))) (fun hHeld => ?_)
          clear hK K
          refine nm_ (N := (some 59)) ?_
          refine td_ [(3, 61), (4, 62), (7, 65)] ?_
          iterate 3 (refine pm_ HT_ ?_)
          refine dn_ ?_
          refine td_ [(5, 63), (8, 66)] ?_
          iterate 2 (refine tm_ HT_ HW_ hHeld ?_)
          refine dn_ ?_
          refine jO HT_ (i := 6) (N := some 64) (ls 29 511) (fun K hK => ?_)
          refine gs_ Tryz.func23 #[.agg #[.string t145, .slice Ao20 t146.length co20, .int .i64 t149]] ?_
          with_reducible refine (gD.calls t145 _ _ t146 t149 t187 _ ?side1 ?side2 A32.out).mono ?_
          (case side1 => exact (Kd.aV HO_152001.out).2.2)
          (case side2 => exact (Kd.aV HO_152001.out).2.1)
          rintro e w70 ⟨v188, rfl, ho0, hb⟩
          refine ⟨_, rfl, ?_⟩
          have HO189 := ah.mk (Kd.bZ (Kd.FB (Kd.FB (Kd.jI (Kd.jI ho0 (Kd.lI (by ((exact HO_152001.out))))) (Kd.lI (by ((exact HO_158001.out))))) (g := gb170) (o := .cells #[.string t158, .int .i64 t159, .int .i64 t160, .int .i64 t161, .string t162] 35 (0, 0)) (by ((exact BK170.out)))) (g := gb184) (o := .cells #[.string t172, .int .i64 t173, .int .i64 t174, .int .i64 t175, .string t176] 35 (0, 0)) (by ((exact BK184.out)))) (ay HB.out))
          replace HO_152001 := ah.mk (Kd.iI (by ((exact HO_152001.out))) (Kd.jF ho0) hb)
          replace HO_158001 := ah.mk (Kd.iI (by ((exact HO_158001.out))) (Kd.jF ho0) hb)
          replace BK151 := ah.mk (aC (by ((exact BK151.out))) hb)
          replace BK157 := ah.mk (aC (by ((exact BK157.out))) hb)
          replace BK170 := ah.mk (aC (by ((exact BK170.out))) hb)
          replace BK171 := ah.mk (aC (by ((exact BK171.out))) hb)
          replace BK184 := ah.mk (aC (by ((exact BK184.out))) hb)
          replace BK185 := ah.mk (aC (by ((exact BK185.out))) hb)
          replace HB := ah.mk (av HB.out hb)
          (try clear hb)
          (try clear ho0)
          obtain ⟨Ao71, co71, eo71⟩ := Kd.dn HO189.out
          ((subst eo71))
          refine hK.out _ _ (c3_ BK151.out (c2_ BK157.out (c5_ BK170.out (c5_ BK184.out (c7_ BK171.out (d7_ BK185.out)))))) (fun hHeld => ?_)
          clear hK K
          refine nm_ (N := (some 64)) ?_
          refine jO HT_ (i := 9) (N := some 67) (ls 29 1023) (fun K hK => ?_)
          refine gs_ Tryz.func22 #[.slice Ao71 t187.length co71, .slice Ao25 t153.length co25] ?_
          with_reducible refine (dz.calls kj15 _ _ t187 _ _ t153 _ _ ?side1 ?side2 ?side3 ?side4 A33.out).mono ?_
          (case side1 => exact (Kd.aV HO189.out).2.2)
          (case side2 => exact (Kd.aV HO189.out).2.1)
          (case side3 => exact (Kd.aV HO_158001.out).2.2)
          (case side4 => exact (Kd.aV HO_158001.out).2.1)
          rintro e w' ⟨rfl, ⟨nd, rfl⟩⟩
          refine ⟨_, rfl, ?_⟩
          refine hK.out _ _ (c3_ BK151.out (c2_ BK157.out (c5_ BK170.out (c5_ BK184.out (c7_ BK171.out (d7_ BK185.out)))))) (fun hHeld => ?_)
          clear hK K
          refine nm_ (N := (some 67)) ?_
          refine td_ [(10, 68), (11, 69)] ?_
          iterate 2 (refine pm_ HT_ ?_)
          refine dn_ ?_
          refine td_ [(12, 70), (14, 72)] ?_
          iterate 2 (refine tm_ HT_ HW_ hHeld ?_)
          refine dn_ ?_
          refine jO HT_ (i := 13) (N := some 71) (ls 29 32767) (fun K hK => ?_)
          refine gs_ Tryz.func25 #[.agg #[.string t145, .slice Ao20 t146.length co20, .int .i64 t149]] ?_
          with_reducible refine (ig.calls t145 _ _ t146 t149 t191 _ ?side1 ?side2 A35.out).mono ?_
          (case side1 => exact (Kd.aV HO_152001.out).2.2)
          (case side2 => exact (Kd.aV HO_152001.out).2.1)
          rintro e w72 ⟨v192, rfl, ho0, hb⟩
          refine ⟨_, rfl, ?_⟩
          have HO193 := ah.mk (Kd.bZ ho0 (ay (by repeat ((with_reducible first | exact HB.out | apply bg)))))
          replace HO_152001 := ah.mk (Kd.bI (by (with_reducible repeat ((apply Kd.jA))); exact HO_152001.out) hb)
          replace HO_158001 := ah.mk (Kd.bI (by (with_reducible repeat ((apply Kd.jA))); exact HO_158001.out) hb)
          replace HO189 := ah.mk (Kd.bI (by (with_reducible repeat ((apply Kd.jA))); exact HO189.out) hb)
          replace BK151 := ah.mk (aC (by ((exact BK151.out))) hb)
          replace BK157 := ah.mk (aC (by ((exact BK157.out))) hb)
          replace BK170 := ah.mk (aC (by ((exact BK170.out))) hb)
          replace BK171 := ah.mk (aC (by ((exact BK171.out))) hb)
          replace BK184 := ah.mk (aC (by ((exact BK184.out))) hb)
          replace BK185 := ah.mk (aC (by ((exact BK185.out))) hb)
          replace HB := ah.mk (av (by repeat ((with_reducible first | exact HB.out | apply bg))) hb)
          (try clear hb)
          (try clear ho0)
          refine hK.out _ _ (c3_ BK151.out (c2_ BK157.out (c5_ BK170.out (c5_ BK184.out (c7_ BK171.out (d7_ BK185.out)))))) (fun hHeld => ?_)
          clear hK K
          refine nm_ (N := (some 71)) ?_
          refine jO HT_ (i := 15) (N := some 73) (ls 29 65535) (fun K hK => ?_)
          refine gs_ Tryz.func26 #[.agg #[.string t152, .slice Ao25 t153.length co25]] ?_
          with_reducible refine (bq.calls kj15 t152 _ _ t153 t194 _ ?side1 ?side2 A36.out).mono ?_
          (case side1 => exact (Kd.aV HO_158001.out).2.2)
          (case side2 => exact (Kd.aV HO_158001.out).2.1)
          rintro e w73 ⟨v195, rfl, ho0, hb⟩
          refine ⟨_, rfl, ?_⟩
          have HO196 := ah.mk (Kd.bZ (Kd.jI ho0 (Kd.lI (by ((exact HO193.out))))) (ay HB.out))
          replace HO_152001 := ah.mk (Kd.bI (by ((exact HO_152001.out))) hb)
          replace HO_158001 := ah.mk (Kd.bI (by ((exact HO_158001.out))) hb)
          replace HO189 := ah.mk (Kd.bI (by ((exact HO189.out))) hb)
          replace HO193 := ah.mk (Kd.iI (by ((exact HO193.out))) (Kd.jF ho0) hb)
          replace BK151 := ah.mk (aC (by ((exact BK151.out))) hb)
          replace BK157 := ah.mk (aC (by ((exact BK157.out))) hb)
          replace BK170 := ah.mk (aC (by ((exact BK170.out))) hb)
          replace BK171 := ah.mk (aC (by ((exact BK171.out))) hb)
          replace BK184 := ah.mk (aC (by ((exact BK184.out))) hb)
          replace BK185 := ah.mk (aC (by ((exact BK185.out))) hb)
          replace HB := ah.mk (av HB.out hb)
          (try clear hb)
          (try clear ho0)
          obtain ⟨Ao74, co74, eo74⟩ := Kd.dn HO193.out
          ((subst eo74))
          obtain ⟨Ao75, co75, eo75⟩ := Kd.dn HO196.out
          ((subst eo75))
          refine hK.out _ _ (c3_ BK151.out (c2_ BK157.out (c5_ BK170.out (c5_ BK184.out (c7_ BK171.out (d7_ BK185.out)))))) (fun hHeld => ?_)
          clear hK K
          refine nm_ (N := (some 73)) ?_
          refine jO HT_ (i := 16) (N := some 74) (ls 29 131071) (fun K hK => ?_)
          refine gs_ Tryz.func24 #[.slice Ao74 t191.length co74, .slice Ao75 t194.length co75] ?_
          with_reducible refine (dh.calls kj15 _ _ t191 _ _ t194 _ _ ?side1 ?side2 ?side3 ?side4 A37.out).mono ?_
          (case side1 => exact (Kd.aV HO193.out).2.2)
          (case side2 => exact (Kd.aV HO193.out).2.1)
          (case side3 => exact (Kd.aV HO196.out).2.2)
          (case side4 => exact (Kd.aV HO196.out).2.1)
          rintro e w' ⟨rfl, ⟨nd, rfl⟩⟩
          refine ⟨_, rfl, ?_⟩
          refine hK.out _ _ (c3_ BK151.out (c2_ BK157.out (c5_ BK170.out (c5_ BK184.out (c7_ BK171.out (d7_ BK185.out)))))) (fun hHeld => ?_)
          clear hK K
          refine nm_ (N := (some 74)) ?_
          refine td_ [(17, 75), (18, 76)] ?_
          iterate 2 (refine pm_ HT_ ?_)
          refine dn_ ?_
          refine td_ [(19, 77), (20, 78)] ?_
          iterate 2 (refine tm_ HT_ HW_ hHeld ?_)
          refine dn_ ?_
          refine td_ [(21, 79), (22, 80), (23, 81)] ?_
          iterate 3 (refine pm_ HT_ ?_)
          refine dn_ ?_
          refine td_ [(24, 82), (25, 83)] ?_
          iterate 2 (refine tm_ HT_ HW_ hHeld ?_)
          refine dn_ ?_
          refine td_ [(26, 84), (27, 85), (28, 4)] ?_
          iterate 3 (refine pm_ HT_ ?_)
          refine dn_ ?_
          refine mV (mg HT_.out (by kernel_rfl)) ?_
          (try go_wp2)
          go_ret
          exact ⟨by rfl, by repeat ((with_reducible first | exact HB.out | apply bg))⟩
         ·replace c38 := Bool.eq_false_iff.mpr c38
          subst c38
          rw [if_neg ff_] at H
          exact absurd H (by simp)
        ·replace c34 := Bool.eq_false_iff.mpr c34
         subst c34
         rw [if_neg ff_] at H
         exact absurd H (by simp)
end Go.Y.PZm
namespace Go.Y.nG
open Go.ChangeShapes Go.WideShapes Go.Deep Go.Proofs.aj.aD
section
variable {H : Type} {enc : TypeId × Value → H} {P : Program} {W : World} {base : Nat} {spare : Nat → Bool} {held : Bool}
theorem fields_of {e : TypeId} {fs : Array Field} {fuel : Nat} {cs : List Value} {x : DataW H × List MemPlace} (he : P.underlying e = some (.struct fs)) (hone : oneCellFields P fs = true) (hC : P.cellsOf e = fs.size)
  (h : DataW.trod enc P W base spare held fuel e cs = some x) : cs.length = fs.size ∧ ∃ n, ∀ (j : Nat) (f : Field), fs[j]? = some f → ∃ v y, cs[j]? = some v ∧ DataW.trod enc P W base spare held n f.type [v] = some y := by
 obtain ⟨ys, n, _, _, hl, hyl, hf⟩ := DataW.trod_struct he h
 refine ⟨hl.trans hC, n, fun j f hj => ?_⟩
 obtain ⟨ho, hk⟩ := hone_of hone j f hj
 have hjl : j < fs.size := (Array.getElem?_eq_some_iff.1 hj).1
 have hcl : j < cs.length := by omega
 have hyj : j < ys.length := by omega
 have h1 := hf j f hj
 rw [ho, hk, List.drop_eq_getElem_cons hcl, List.take_succ_cons, List.take_zero] at h1
 exact ⟨cs[j], ys[j], List.getElem?_eq_getElem hcl, h1.trans (List.getElem?_eq_getElem hyj)⟩
theorem Ju {S : Type} (n : Nat) (R : Nat → S → Prop) (h : ∀ i, i < n → ∃ s, R i s) : ∃ l : List S, l.length = n ∧ ∀ i s, l[i]? = some s → R i s := by
 induction n with
 | zero => exact ⟨[], rfl, fun i s hs => by simp at hs⟩
 | succ n ih =>
  obtain ⟨l, hl, hr⟩ := ih fun i hi => h i (by omega)
  obtain ⟨s, hs⟩ := h n (by omega)
  refine ⟨l ++ [s], by simp [hl], fun i t ht => ?_⟩
  by_cases hi : i < n
  ·rw [List.getElem?_append_left (by omega)] at ht; exact hr i t ht
  ·rw [List.getElem?_append_right (by omega)] at ht
   by_cases e : i = n
   ·subst e; rw [hl, Nat.sub_self] at ht; simp at ht; subst ht; exact hs
   ·rw [List.getElem?_eq_none (by simp; omega)] at ht; cases ht
theorem Ck {S : Type} (k : Kd S) (good : S → Prop) {t e : TypeId} {a : Option Addr} {len cap : Nat} {d : DataW H} {ps : List MemPlace} (hu : P.underlying t = some (.slice e)) (hC : P.cellsOf e = k.sz) (hpos : 0 < k.sz)
  (open1 : ∀ fuel cs x, DataW.trod enc P W base spare held fuel e cs = some x → ∃ s, k.K W s cs ∧ good s) (h : DataW.Trod enc P W base spare held t (.slice a len cap) d ps) :
  ∃ l : List S, len = l.length ∧ Kd.C k W a l.length l ∧ l.length ≤ cap ∧ l.length ≤ maxLen ∧ ∀ s ∈ l, good s := by
 obtain ⟨fuel, hf⟩ := h
 rcases open_slice hu hf with ⟨hcs, _⟩ | ⟨x, l, c, m, n, D, Pl, hcs, _, hl, hm, hmm, _, hi⟩
 ·simp [Value.cells] at hcs
  obtain ⟨rfl, rfl, rfl⟩ := hcs
  exact ⟨[], rfl, Kd.Lr _ _, Nat.le_refl _, Nat.zero_le _, by simp⟩
 ·simp [Value.cells] at hcs
  obtain ⟨rfl, rfl, rfl⟩ := hcs
  have hlm : len ≤ m := by rw [hmm]; split <;> omega
  obtain ⟨L, hL, hR⟩ := Ju len (fun i s => good s ∧ ∃ cs', k.K W s cs' ∧ cs'.length = k.sz ∧ ∀ j u, cs'[j]? = some u → W.cell? (x.add (i * k.sz + j)) = some u) (fun i hi' => by
   obtain ⟨cs', hc, ht⟩ := hi i (by omega)
   obtain ⟨s, hs, hg⟩ := open1 _ _ _ ht
   rw [hC] at hc
   obtain ⟨_, hcl, hat⟩ := World.cells?_some hc
   refine ⟨s, hg, cs', hs, hcl, fun j u hj => ?_⟩
   have hjl : j < k.sz := by rw [← hcl]; exact (List.getElem?_eq_some_iff.1 hj).1
   have := hat j hjl
   rw [← Go.Deep.add_add]; rw [this]; exact hj)
  refine ⟨L, hL.symm, ⟨rfl, by unfold maxLen at hm; omega, fun _ => ⟨x, rfl, fun j p hp => ?_⟩⟩, by omega, by omega, fun s hs => ?_⟩
  ·obtain ⟨_, c, h1, h2, h3⟩ := hR j p hp
   exact ⟨c, h2, h1, h3⟩
  ·obtain ⟨i, hi', he⟩ := List.getElem_of_mem hs
   exact (hR i s (by rw [List.getElem?_eq_getElem hi', he])).1
end
end Go.Y.nG
namespace Go.Y.nG
open Go.ChangeShapes Go.WideShapes Go.Deep Go.Proofs.aj.aD Go.Y.PRd Go.Y.PRr
structure vR (s : S35) : Prop where
 n0 : s.f0.size ≤ maxLen
 n4 : s.f4.size ≤ maxLen
 i1 : (Lit.int .i64 s.f1).wf = true
 i2 : (Lit.int .i64 s.f2).wf = true
 i3 : (Lit.int .i64 s.f3).wf = true
section
variable {H : Type} {enc : TypeId × Value → H} {W : World} {base : Nat} {spare : Nat → Bool} {held : Bool}
theorem Lm {fuel : Nat} {cs : List Value} {x : DataW H × List MemPlace} (h : DataW.trod enc Tryz.prog W base spare held fuel 35 cs = some x) : ∃ s : S35, cs = [.string s.f0, .int .i64 s.f1, .int .i64 s.f2, .int .i64 s.f3, .string s.f4] ∧ vR s := by
 obtain ⟨hl, n, hf⟩ := fields_of Tryz.underlying35 (by kernel_rfl) (by kernel_rfl) h
 obtain ⟨v0, y0, c0, h0⟩ := hf 0 _ rfl
 obtain ⟨v1, y1, c1, h1⟩ := hf 1 _ rfl
 obtain ⟨v2, y2, c2, h2⟩ := hf 2 _ rfl
 obtain ⟨v3, y3, c3, h3⟩ := hf 3 _ rfl
 obtain ⟨v4, y4, c4, h4⟩ := hf 4 _ rfl
 obtain ⟨s, e0, _, g0⟩ := DataW.trod_string Tryz.underlying9 h0
 obtain ⟨a, e1, _, g1⟩ := DataW.trod_int Tryz.underlying3 h1
 obtain ⟨b, e2, _, g2⟩ := DataW.trod_int Tryz.underlying3 h2
 obtain ⟨c, e3, _, g3⟩ := DataW.trod_int Tryz.underlying3 h3
 obtain ⟨d, e4, _, g4⟩ := DataW.trod_string Tryz.underlying9 h4
 obtain rfl : v0 = .string s := by simpa using e0
 obtain rfl : v1 = .int .i64 a := by simpa using e1
 obtain rfl : v2 = .int .i64 b := by simpa using e2
 obtain rfl : v3 = .int .i64 c := by simpa using e3
 obtain rfl : v4 = .string d := by simpa using e4
 have : cs = [.string s, .int .i64 a, .int .i64 b, .int .i64 c, .string d] := by
  match cs, hl with
  | [p, q, r, t, u], _ => simp at c0 c1 c2 c3 c4; rw [c0, c1, c2, c3, c4]
 exact ⟨⟨s, a, b, c, d⟩, this, ⟨g0, g4, g1, g2, g3⟩⟩
theorem KL {t : TypeId} {a : Option Addr} {len cap : Nat} {d : DataW H} {ps : List MemPlace} (hu : Tryz.prog.underlying t = some (.slice 35)) (h : DataW.Trod enc Tryz.prog W base spare held t (.slice a len cap) d ps) :
  ∃ l : List S35, len = l.length ∧ Kd.C k35 W a l.length l ∧ l.length ≤ cap ∧ l.length ≤ maxLen ∧ ∀ s ∈ l, vR s :=
 Ck k35 vR hu (by kernel_rfl) (by decide) (fun _ _ _ h => by
  obtain ⟨s, rfl, hg⟩ := Lm h
  exact ⟨s, Kr W s, hg⟩) h
end
end Go.Y.nG
namespace Go.Y.Pure
open Go.Proofs.aj.aD Go.Y.Given Go.Y.PRd Go.Y.PRr Go.Y.PZf Go.Y.PZh Go.Y.PZm Go.Y.Rrs Go.Y.nG
theorem xS (a : ByteArray) (l : List RR) : Ev (fun k => aK.j0 k a l true) true :=
 Ev.step (f := fun k => (fE.f k).bind fun t => some t) (fun k => by rw [aK.j0, if_pos rfl]) (Ev.bind vL (Ev.now _))
theorem ZoneMakes (a : ByteArray) (l : List RR) (ha : a.size ≤ 140737488351232) (hm : l.length ≤ maxLen) (hs : ∀ s ∈ l, vR s) : ∃ k, aK.f k a l = some true := by
 refine Ev.rounds ?_
 unfold maxLen at hm
 unfold aK.f
 refine Ev.bind vL ?_
 simp only [if_true]
 obtain ⟨b, hb, hl⟩ := KN l (by omega)
 refine Ev.bind hb ?_
 cases b
 ·simp only [Bool.false_eq_true, if_false]
  exact xS a l
 ·have hl := hl rfl
  simp only [if_true]
  by_cases hz : (a.size : Int) > 600
  ·rw [decide_eq_true hz]; exact xS a l
  ·rw [decide_eq_false hz]
   have hst : ∀ k, aK.j0 (k + 1) a l false = (bY.f k a l).bind fun p => (dF.f k a l).bind fun q => if p.2.2.2 = q.2.2 then aK.j1 k a p.2.2.2 q.2.2 (q.2.2 != 0) p.1 p.2.1 p.2.2.1 q.1 q.2.1 else aK.j1 k a p.2.2.2 q.2.2 true p.1 p.2.1 p.2.2.1 q.1 q.2.1 := fun k => by
    rw [aK.j0, if_neg (by decide)]
   refine Ev.step hst (Ev.bind (DU a l (by omega)) (Ev.bind (Js a l (by omega)) ?_))
   rcases He a l (by omega) with ⟨s, hS, hsl, e1, e2, _⟩ | ⟨e, he, e1, e2⟩
   ·rw [e1, e2]
    simp only [if_true, bne_self_eq_false]
    obtain ⟨j, hj, ej, hy, _, _, hr⟩ := hS.soa
    have hp := JK a s j hj hr
    rw [← ej] at hp
    have hq := Jt a s s[j] hS.set.len hy hr
    refine Ev.step (f := fun k => (jB.f a s (pF s)).bind fun bt158 => (fF.f k a s).bind fun bt172 => (fV.f a s (pF s)).bind fun t186 => if t186.toList = a.toList then ((PZo.gD.f a s (pF s)).bind fun t187 => (dz.f k t187 s).bind fun t190 => if t190 = true then ((ig.f a s (pF s)).bind fun t191 => (bq.f k a s).bind fun t194 => (dh.f k t191 t194).bind fun t197 => if t197 = true then (if (bt158.1.toList == bt172.1.toList && (bt158.2.1 == bt172.2.1 && (bt158.2.2.1 == bt172.2.2.1 && (bt158.2.2.2.1 == bt172.2.2.2.1 && (bt158.2.2.2.2.1.toList == bt172.2.2.2.2.1.toList))))) = true then (some (bt158.2.2.2.2.2.1.toList == bt172.2.2.2.2.2.1.toList && (bt158.2.2.2.2.2.2.1.toList == bt172.2.2.2.2.2.2.1.toList && (bt158.2.2.2.2.2.2.2.1 == bt172.2.2.2.2.2.2.2.1 && (bt158.2.2.2.2.2.2.2.2.1 == bt172.2.2.2.2.2.2.2.2.1 && (bt158.2.2.2.2.2.2.2.2.2.1 == bt172.2.2.2.2.2.2.2.2.2.1 && (bt158.2.2.2.2.2.2.2.2.2.2.1 == bt172.2.2.2.2.2.2.2.2.2.2.1 && (bt158.2.2.2.2.2.2.2.2.2.2.2 == bt172.2.2.2.2.2.2.2.2.2.2.2)))))))) else none) else none) else none) else none) (fun k => by rw [aK.j1, if_neg (by decide)]) ?_
    have hap : fV.f a s (pF s) = some a := rfl
    simp only [hp, hap, IE a s _ hS.set.len, Ig a s _ hS.set.len, Option.bind_some]
    refine Ev.bind hq ?_
    simp only [if_true]
    refine Ev.bind (Jf s s (by have := hS.set.len; omega)) ?_
    simp only [decide_true, if_true]
    refine Ev.bind (FI a s hS.set.len) ?_
    refine Ev.bind (GH _ _ ?_) ?_
    ·unfold tq
     rw [List.length_map]
     have := xk.vO ((s.map fun x => dY.jg x.f0).map fun b : ByteArray => b.data.toList)
     rw [List.length_map, List.length_map] at this
     have := hS.set.len
     omega
    simp only [decide_true, if_true, beq_self_eq_true, Bool.and_self]
    exact Ev.now _
   ·rw [e1, e2]
    simp only [if_true]
    rw [show (e != 0) = true from bne_iff_ne.mpr he]
    refine Ev.step (f := fun _ => some (e == e)) (fun k => by rw [aK.j1, if_pos rfl]) ?_
    rw [beq_self_eq_true]
    exact Ev.now _
end Go.Y.Pure
