/- Contracts and facts that the claim's row is drawn from, each with its own conditions. -/
import Derived.Test.YtkgghkfolmmadaaGreatJoined4
import Derived.Test.YtkgghkfolmmadaaGreatProg
import Derived.Below
import Derived.Deep.Draws
import Derived.Deep.AppendLies
import Derived.Maps.AppendAt
import Derived.OwnWalk
import Derived.Laws.BytesArg
import Derived.Laws.MakeOwn
import Derived.Laws.OwnMore
import Derived.Deep.OwnRows
import Derived.Tactics
import Derived.Lib.ConvBytes
import Derived.Laws.Slices
import Derived.WalkKit
import Derived.KernelRfl
import Derived.RowKit3
import Derived.Deep.LoopGhost
import Derived.Deep.QuietTactic
import Derived.BigQuiet
import Derived.WideLaws
import Derived.Deep.DeepCutAuto
import Derived.Deep.CutBlock
import Derived.Deep.RegionHeld3
import Derived.Laws.Rows
import Derived.Lib.AppendStr
import Derived.ArgAppend
import Derived.Laws.IdiomCopy
import Derived.OrdersHeld
import Derived.Laws.BitsLemmas
import Derived.RowKit
import Derived.StillTailTactics
import Derived.Outline
import Derived.Shelf.Strings.OnBuilder
import Derived.Shelf.Slices.CompactS
import Derived.Sort.Row
import Derived.Sort.Grow
import Derived.Lib.SlicesCompact
import Derived.Shelf.SlSortCmp.Whole1
import Derived.Calls
import Derived.Shelf.SlSortCmp.NoneTotal
set_option linter.unusedSimpArgs false
set_option linter.unusedVariables false
set_option maxHeartbeats 8000000
set_option maxRecDepth 100000
open Go.Proofs Go.RowKit
namespace Go.Y.Rrs
open Go.Proofs.ah.av Go.Proofs.ah.aT Go.Proofs.ah.aU Go.Y.Given Go.Y.PRd Go.Y.PRr Go.Y.bY
theorem Ij {l m1 m2 : List RR} {x : RR} {t : Nat} (hx : l[t]? = some x) (hs : cZ bP (l.take t) (m1 ++ m2)) (h1 : ∀ y ∈ m1, bP y x ≤ 0) (h2 : ∀ y ∈ m2, bP x y < 0) : cZ bP (l.take (t + 1)) (m1 ++ x :: m2) := by
 have h := qR jh hs.1 h1 h2
 obtain ⟨ht, e⟩ := List.getElem?_eq_some_iff.1 hx
 exact ⟨h.1, fun z => by rw [h.2, eZ, hs.2, ← eZ, List.take_succ_eq_append_getElem ht, e]⟩
theorem HZ {w0 : World} {base g c : Nat} {rest : List Value} (p l s : List RR) (hf : ∀ y ∈ l, fine y) (hn : (p ++ (l ++ s)).length ≤ 1000000) {N a b : Nat} (hN : (p ++ (l ++ s)).length = N) (ha : p.length = a) (hb : a + l.length = b) (w : World) (HO : Own w0 base g c rest w (p ++ (l ++ s))) :
  Calls Tryz.prog 113 #[.slice (some ⟨g, 0, none⟩) N c, .int .i64 (a : Int), .int .i64 (b : Int), nR] w fun e w' => e = .returned (.tuple #[]) ∧ ∃ m, cZ bP l m ∧ m.length = l.length ∧ Own w0 base g c rest w' (p ++ (m ++ s)) := by
 have hu22 := Tryz.underlying22
 have hu41 := Tryz.underlying28
 have hl : (p ++ (l ++ s)).length = p.length + l.length + s.length := by simp; omega
 rw [hN] at hl hn
 have HR := Lib.hid HO
 have HF := Lib.hid hf
 obtain ⟨n, hln⟩ : ∃ n, l.length = n := ⟨_, rfl⟩
 have HL := Lib.hid hln
 have HA := Lib.hid ha
 have hbn : b ≤ a + n ∧ a + n ≤ b ∧ b ≤ N := by omega
 have e0 : IntKind.i64.wrap ((a : Int) + 1) = ((a + 1 : Nat) : Int) := gY (by omega) (by omega)
 obtain ⟨a1, ha1⟩ : ∃ a1, a + 1 = a1 := ⟨_, rfl⟩
 rw [ha1] at e0
 have ha2 : a1 ≤ a + 1 ∧ a + 1 ≤ a1 := by omega
 clear HO hf hN hl ha hb ha1
 go_enter Tryz.func113, Tryz.ntmps113
 go_wp2_with fail
 go_loopg [8] n (fun kx si wr => ∃ (i t : Nat) (m : List RR), si = .int .i64 (i : Int) ∧ i ≤ a + t ∧ a + t ≤ i ∧ 1 ≤ t ∧ n - t ≤ kx ∧ Hid (cZ bP (l.take t) m) ∧ Hid (m.length = (l.take t).length) ∧ Hid (Own w0 base g c rest wr (p ++ (m ++ (l.drop t ++ s)))))
 case atStart => exact ⟨a1, 1, l.take 1, rfl, ha2.1, ha2.2, Nat.le_refl _, by omega, Lib.hid (cZ.qp (by cases l with | nil => exact List.Pairwise.nil | cons x l => exact List.pairwise_singleton _ _)), Lib.hid rfl, Lib.hid (by have := HR.out; rwa [← List.take_append_drop 1 l, List.append_assoc] at this)⟩
 case round =>
  clear HR
  obtain ⟨i, t, m, rfl, hi1, hi2, ht1, hk, HS, HM, HR⟩ := hrel
  by_cases hlt : t < n
  ·obtain ⟨x, hx⟩ := qd (show t < l.length by omega)
   have hxf : fine x := HF.out _ (List.mem_of_getElem? hx)
   have hdr : l.drop t = x :: l.drop (t + 1) := by obtain ⟨h1, h2⟩ := List.getElem?_eq_some_iff.1 hx; rw [List.drop_eq_getElem_cons h1, h2]
   rw [hdr] at HR
   have hmt : m.length = t := by rw [HM.out, List.length_take]; omega
   have HX := Lib.hid hx
   have HXF := Lib.hid hxf
   clear hx hxf hdr HM
   have ei : IntKind.i64.wrap ((i : Int) + 1) = ((i + 1 : Nat) : Int) := gY (by omega) (by omega)
   obtain ⟨i1, hi3⟩ : ∃ i1, i + 1 = i1 := ⟨_, rfl⟩
   rw [hi3] at ei
   have hi4 : i1 ≤ i + 1 ∧ i + 1 ≤ i1 := by omega
   clear hi3
   have hltz : (i : Int) < (b : Int) := by omega
   go_wp2_with fail
   go_loopg [9] t (fun kx sj wr => ∃ (h' j : Nat) (m1 m2 : List RR), sj = .int .i64 (h' : Int) ∧ h' ≤ a + j ∧ a + j ≤ h' ∧ j ≤ kx ∧ j ≤ t ∧ m1.length = j ∧ Hid ((m1 ++ m2).length = t) ∧ Hid (cZ bP (l.take t) (m1 ++ m2)) ∧ Hid (∀ y ∈ m2, bP x y < 0) ∧ Hid (Own w0 base g c rest wr (p ++ (m1 ++ x :: (m2 ++ (l.drop (t + 1) ++ s))))))
   case atStart => exact ⟨i, t, m, [], rfl, hi1, hi2, Nat.le_refl _, Nat.le_refl _, hmt, Lib.hid (by rw [List.append_nil]; exact hmt), by rw [List.append_nil]; exact HS, Lib.hid (fun y hy => by cases hy), by rw [List.nil_append]; exact HR⟩
   case round =>
    clear HR HS
    obtain ⟨h', j, m1, m2, rfl, hj1, hj2, hkj, hjt, hm1, HML, HS, H2, HR⟩ := hrel
    have hout : (∀ y ∈ m1, bP y x ≤ 0) → ∀ wr', Own w0 base g c rest wr' (p ++ (m1 ++ x :: (m2 ++ (l.drop (t + 1) ++ s)))) → ∃ m, cZ bP (l.take (t + 1)) m ∧ m.length = (l.take (t + 1)).length ∧ Own w0 base g c rest wr' (p ++ (m ++ (l.drop (t + 1) ++ s))) := fun h wr' ho =>
     ⟨m1 ++ x :: m2, Ij HX.out HS.out h H2.out, by have := HML.out; have := HL.out; simp at *; omega, by simpa using ho⟩
    have OUT := Lib.hid hout
    clear hout
    by_cases hj : j = 0
    ·subst hj
     obtain rfl : h' = a := by omega
     obtain ⟨m', k1, k2, k3⟩ := OUT.out (by rw [List.length_eq_zero_iff.mp hm1]; intro y hy; cases hy) _ HR.out.drew
     have K1 := Lib.hid k1
     have K2 := Lib.hid k2
     have K3 := Lib.hid k3
     clear k1 k2 k3 OUT HR
     go_wp2_with fail
     go_big_region
     all_goals go_wp2
     go_roundg (n - (t + 1))
     case measure => omega
     case rel => exact ⟨i1, t + 1, m', rfl, by omega, by omega, by omega, Nat.le_refl _, K1, K2, K3⟩
    ·obtain ⟨q, rfl⟩ : ∃ q, j = q + 1 := ⟨j - 1, by omega⟩
     obtain ⟨mi, y, rfl⟩ : ∃ m0 y, m1 = m0 ++ [y] := ⟨m1.dropLast, m1.getLast (by intro e; rw [e] at hm1; cases hm1), (List.dropLast_concat_getLast (by intro e; rw [e] at hm1; cases hm1)).symm⟩
     have hmi : mi.length = q := by simpa using hm1
     obtain ⟨cur, hc⟩ : ∃ cur, p ++ ((mi ++ [y]) ++ x :: (m2 ++ (l.drop (t + 1) ++ s))) = cur := ⟨_, rfl⟩
     obtain ⟨h, rfl⟩ : ∃ h, h' = h + 1 := ⟨h' - 1, by omega⟩
     have hh : a + q = h := by omega
     have hcy : cur[h]? = some y := by rw [← hc, ← hh, show p ++ ((mi ++ [y]) ++ x :: (m2 ++ (l.drop (t + 1) ++ s))) = (p ++ mi) ++ y :: x :: (m2 ++ (l.drop (t + 1) ++ s)) by simp, ← HA.out, ← hmi, ← List.length_append]; exact bY.get_at _ _ _
     have hcx : cur[h + 1]? = some x := by rw [← hc, ← hh, show p ++ ((mi ++ [y]) ++ x :: (m2 ++ (l.drop (t + 1) ++ s))) = (p ++ (mi ++ [y])) ++ x :: (m2 ++ (l.drop (t + 1) ++ s)) by simp, ← HA.out, ← hmi, show p.length + mi.length + 1 = (p ++ (mi ++ [y])).length by simp; omega]; exact bY.get_at _ _ _
     rw [hc] at HR
     obtain ⟨y0, y1, y2, y3, y4, y5, y6, y7, y8, y9⟩ := HR.out.at5 hcy
     obtain ⟨x0, x1, x2, x3, x4, x5, x6, x7, x8, x9⟩ := HR.out.at5 hcx
     have w1 : IntKind.i64.wrap (((h + 1 : Nat) : Int) - 1) = (h : Int) := gY (by omega) (by omega)
     obtain ⟨h', hh'⟩ : ∃ h', h + 1 = h' := ⟨_, rfl⟩
     rw [hh'] at w1 x0 x1 x2 x3 x4 x5 x6 x7 x8 x9 hcx hj1 hj2
     rw [hh']
     have hh2 : h' ≠ h := by omega
     have HH := Lib.hid hh
     have HH' := Lib.hid hh'
     have p0 : (0 : Int) ≤ (h : Int) := by omega
     have p1 : (h : Int) < (N : Int) := by omega
     have p2 : (0 : Int) ≤ (h' : Int) := by omega
     have p3 : (h' : Int) < (N : Int) := by omega
     have p4 : (a : Int) < (h' : Int) := by omega
     clear hh hh'
     go_wp2_with fail
     go_still_tail 14, (by kernel_rfl)
     change wpList _ _ _ _ _ wr.drew
     clear x0 x1 x2 x3 x4 x5 x6 x7 x8 x9 y0 y1 y2 y3 y4 y5 y6 y7 y8 y9
     have HR1 := Lib.hid HR.out.drew
     have HCY := Lib.hid hcy
     have HCX := Lib.hid hcx
     clear HR hcy hcx
     have hyl : y ∈ l.take t := HS.out.mem jh (by simp)
     have hcall := qL HXF.out (HF.out _ (List.mem_of_mem_take hyl)) wr.drew
     generalize wr.drew = wd at HR1 hcall
     have HCALL := Lib.hid hcall
     clear hcall hyl
     go_wp2_with fail
     refine (HCALL.out).mono ?_
     rintro en w4 ⟨rfl, hb4⟩
     have HR := Lib.hid (HR1.out.below hb4)
     clear hb4 HR1 HCALL
     obtain ⟨v, hv⟩ : ∃ v, bP x y = v := ⟨_, rfl⟩
     rw [hv]
     by_cases hlv : v < 0
     ·have hnx : (cur.set h' y).set h x = p ++ (mi ++ x :: ((y :: m2) ++ (l.drop (t + 1) ++ s))) := by
       rw [← hc, ← HH'.out, show p ++ ((mi ++ [y]) ++ x :: (m2 ++ (l.drop (t + 1) ++ s))) = (p ++ mi) ++ y :: x :: (m2 ++ (l.drop (t + 1) ++ s)) by simp, DI (p ++ mi) _ y x h (by rw [List.length_append, HA.out, hmi, HH.out])]; simp
      have HS2 := Lib.hid (HR.out.swap HCX.out HCY.out).drew
      rw [hnx] at HS2
      obtain ⟨D2, hy2⟩ := HR.out.next y (List.getElem?_eq_some_iff.1 HCX.out).1 HCY.out hh2
      obtain ⟨x0, x1, x2, x3, x4, x5, x6, x7, x8, x9⟩ := HR.out.at5 HCX.out
      obtain ⟨y0, y1, y2, y3, y4, y5, y6, y7, y8, y9⟩ := HR.out.at5 HCY.out
      obtain ⟨z0, z1, z2, z3, z4, z5, z6, z7, z8, z9⟩ := D2.at5 hy2
      have HV := Lib.hid hv
      clear HR D2 hy2 hnx hc hv OUT
      go_wp2_with fail
      go_big_region
      all_goals go_wp2
      go_roundg q
      case measure => omega
      case rel => exact ⟨h, q, mi, y :: m2, rfl, by have := HH.out; omega, by have := HH.out; omega, Nat.le_refl _, by omega, hmi, Lib.hid (by have := HML.out; simpa using this), Lib.hid (by have := HS.out; simpa using this), Lib.hid (fun z hz => by
       rcases List.mem_cons.mp hz with rfl | hz
       ·rw [HV.out]; exact hlv
       ·exact H2.out z hz), HS2⟩
     ·obtain ⟨m', k1, k2, k3⟩ := OUT.out (fun z hz => by
       have h7 : bP y x ≤ 0 := by have := jh.flip x y; omega
       rcases List.mem_append.mp hz with hz | hz
       ·exact jh.le_trans (jT (pK HS.out.1) z hz y (by simp)) h7
       ·rw [List.mem_singleton.mp hz]; exact h7) _ (by rw [hc]; exact HR.out)
      have K1 := Lib.hid k1
      have K2 := Lib.hid k2
      have K3 := Lib.hid k3
      clear k1 k2 k3 OUT HR hv hc
      go_wp2_with fail
      go_roundg (n - (t + 1))
      case measure => omega
      case rel => exact ⟨i1, t + 1, m', rfl, by omega, by omega, by omega, Nat.le_refl _, K1, K2, K3⟩
  ·have hltz : ¬ (i : Int) < (b : Int) := by omega
   go_wp2_with fail
   go_end0
   have h1 : l.take t = l := List.take_of_length_le (by rw [HL.out]; omega)
   have h2 : l.drop t = [] := List.drop_of_length_le (by rw [HL.out]; omega)
   have hs := HS.out
   have hm := HM.out
   have hr := HR.out
   rw [h1] at hs hm
   rw [h2, List.nil_append] at hr
   exact ⟨rfl, m, hs, hm.trans HL.out, hr⟩
end Go.Y.Rrs
namespace Go.Y.bY
variable {α : Type} {c : α → α → Int}
structure Part (c : α → α → Int) (S : Nat) (l q : List α) (t : Nat) : Prop where
 len : q.length = t * S
 le : q.length ≤ l.length
 blk : Blocks c S q
 cl : ∀ x, cls c q x = cls c (l.take q.length) x
theorem Part.start (S : Nat) (l : List α) : Part c S l [] 0 := ⟨by simp, Nat.zero_le _, CZ _, fun x => by simp⟩
theorem Da (l : List α) (a S : Nat) : l.take (a + S) = l.take a ++ (l.drop a).take S := by rw [List.take_add]
theorem Part.step {S t : Nat} {l q m : List α} (h : Part c S l q t) (hs : cZ c ((l.drop q.length).take S) m) (hm : m.length = S) (hn : q.length + S ≤ l.length) : Part c S l (q ++ m) (t + 1) := by
 refine ⟨by rw [List.length_append, h.len, hm, Nat.add_mul, Nat.one_mul], by rw [List.length_append, hm]; exact hn, tY h.blk h.len hs.1 (by omega), fun x => ?_⟩
 rw [List.length_append, hm, Da, eZ, h.cl, hs.2, ← eZ]
theorem Part.last {S t : Nat} {l q m : List α} (h : Part c S l q t) (hs : cZ c (l.drop q.length) m) (hm : m.length = (l.drop q.length).length) (hn : l.length ≤ q.length + S) : (q ++ m).length = l.length ∧ Blocks c S (q ++ m) ∧ ∀ x, cls c (q ++ m) x = cls c l x := by
 have := h.le
 rw [List.length_drop] at hm
 refine ⟨by rw [List.length_append]; omega, tY h.blk h.len hs.1 (by omega), fun x => ?_⟩
 rw [eZ, h.cl, hs.2, ← eZ, List.take_append_drop]
theorem Part.pair {s t : Nat} {l q : List α} (h : Part c (2 * s) l q t) (hb : Blocks c s l) : Sorted c ((l.drop q.length).take s) ∧ Sorted c (((l.drop q.length).drop s).take s) := by
 have e1 : q.length = 2 * t * s := by rw [h.len, Nat.mul_comm 2 t, Nat.mul_assoc]
 have e2 : q.length + s = (2 * t + 1) * s := by rw [e1, Nat.add_mul, Nat.one_mul]
 exact ⟨by rw [e1]; exact hb _, by rw [List.drop_drop, e2]; exact hb _⟩
end Go.Y.bY
namespace Go.Y.Rrs
open Go.Proofs.ah.av Go.Proofs.ah.aT Go.Proofs.ah.aU Go.Y.Given Go.Y.PRd Go.Y.PRr Go.Y.bY
theorem EI {w0 : World} {base g c : Nat} {rest : List Value} {N : Nat} (hn : N ≤ 1000000) : ∀ n, Iw w0 base g c rest N n
 | 0 => fun p l r s a m b h => by omega
 | n + 1 => fun p l r s a m b h hl hr sl sr fl fr hN ha hm hb w ho => by
  by_cases h1 : l.length = 1
  ·obtain ⟨x, rfl⟩ := List.length_eq_one_iff.mp h1
   exact JJ p r s x hr sr (fl x (by simp)) fr hn hN ha hm hb w ho
  ·by_cases h2 : r.length = 1
   ·obtain ⟨y, rfl⟩ := List.length_eq_one_iff.mp h2
    exact IE p l s y (by omega) sl (fr y (by simp)) fl hn hN ha hm hb w ho
   ·exact Hu (EI hn n) hn p l r s a m b h (by omega) (by omega) sl sr fl fr hN ha hm hb w ho
theorem AO {w0 : World} {base g c : Nat} {rest : List Value} (l : List RR) (hf : ∀ y ∈ l, fine y) {N : Nat} (hn : N ≤ 1000000) (hN : l.length = N) (w : World) (HO : Own w0 base g c rest w l) :
  Calls Tryz.prog 78 #[.slice (some ⟨g, 0, none⟩) N c, .int .i64 (N : Int), nR] w fun e w' => e = .returned (.tuple #[]) ∧ ∃ m, cZ bP l m ∧ m.length = N ∧ Own w0 base g c rest w' m := by
 have HR := Lib.hid HO
 have HF := Lib.hid hf
 have HL := Lib.hid hN
 have HINS := Lib.hid (fun p l s hf hn' a b hN' ha hb w ho => HZ (w0 := w0) (base := base) (g := g) (c := c) (rest := rest) p l s hf hn' (N := N) (a := a) (b := b) hN' ha hb w ho)
 have HSYM := Lib.hid (EI (w0 := w0) (base := base) (g := g) (c := c) (rest := rest) hn (N + 1))
 clear HO hf hN
 go_enter Tryz.func78, Tryz.ntmps78
 go_wp2_with fail
 go_loopg [7, 8] N (fun kx sa sb wr => ∃ (a b t : Nat) (q : List RR), sa = .int .i64 (a : Int) ∧ sb = .int .i64 (b : Int) ∧ b ≤ a + 20 ∧ a + 20 ≤ b ∧ a ≤ N ∧ N - a ≤ kx ∧ Hid (q.length = a) ∧ Hid (Part bP 20 l q t) ∧ Hid (Own w0 base g c rest wr (q ++ l.drop a)))
 case atStart => exact ⟨0, 20, 0, [], rfl, rfl, by omega, by omega, by omega, by omega, Lib.hid rfl, Lib.hid (Part.start _ _), HR⟩
 case round =>
  clear HR
  obtain ⟨a, b, t, q, rfl, rfl, b1, b2, ha, hk, HQ, HP, HR⟩ := hrel
  have hql : (l.drop a).length = N - a := by rw [List.length_drop, HL.out]
  by_cases hlt : b ≤ N
  ·have hltz : (b : Int) ≤ (N : Int) := by omega
   have ht : ((l.drop a).take 20).length = 20 := by rw [List.length_take]; omega
   have e1 : IntKind.i64.wrap ((b : Int) + 20) = ((b + 20 : Nat) : Int) := gY (by omega) (by omega)
   obtain ⟨b', hb'⟩ : ∃ b', b + 20 = b' := ⟨_, rfl⟩
   rw [hb'] at e1
   have hb2 : b' ≤ b + 20 ∧ b + 20 ≤ b' := by omega
   have hcall := HINS.out q ((l.drop a).take 20) ((l.drop a).drop 20) (fun y hy => HF.out y (List.mem_of_mem_drop (List.mem_of_mem_take hy))) (by rw [List.take_append_drop, List.length_append, HQ.out, hql]; omega) a b (by rw [List.take_append_drop, List.length_append, HQ.out, hql]; omega) HQ.out (by rw [ht]; omega) wr (by rw [List.take_append_drop]; exact HR.out)
   have HC := Lib.hid hcall
   have HT := Lib.hid ht
   clear hcall HR ht hb' hql
   go_wp2_with fail
   refine HC.out.mono ?_
   rintro e w1 ⟨rfl, m, g1, g2, g3⟩
   have hm : m.length = 20 := g2.trans HT.out
   have hstep := HP.out.step (m := m) (by rw [HQ.out]; exact g1) hm (by rw [HQ.out, HL.out]; omega)
   have HP2 := Lib.hid hstep
   have HQ2 : Hid ((q ++ m).length = b) := Lib.hid (by rw [List.length_append, HQ.out, hm]; omega)
   have HR : Hid (Own w0 base g c rest w1 ((q ++ m) ++ l.drop b)) := Lib.hid (by rw [List.append_assoc, show b = a + 20 by omega, ← List.drop_drop]; exact g3)
   clear g1 g2 g3 hm hstep HC
   go_wp2_with fail
   go_roundg (N - b)
   case measure => omega
   case rel => exact ⟨b, b', t + 1, q ++ m, rfl, rfl, hb2.1, hb2.2, hlt, Nat.le_refl _, HQ2, HP2, HR⟩
  ·have hltz : ¬ (b : Int) ≤ (N : Int) := by omega
   have hcall := HINS.out q (l.drop a) [] (fun y hy => HF.out y (List.mem_of_mem_drop hy)) (by rw [List.append_nil, List.length_append, HQ.out, hql]; omega) a N (by rw [List.append_nil, List.length_append, HQ.out, hql]; omega) HQ.out (by rw [hql]; omega) wr (by rw [List.append_nil]; exact HR.out)
   have HC := Lib.hid hcall
   clear hcall HR hql
   go_wp2_with fail
   refine HC.out.mono ?_
   rintro e w1 ⟨rfl, m, g1, g2, g3⟩
   rw [List.append_nil] at g3
   have HB := Lib.hid (HP.out.last (m := m) (by rw [HQ.out]; exact g1) (by rw [HQ.out]; exact g2) (by rw [HQ.out, HL.out]; omega))
   have HR := Lib.hid g3
   obtain ⟨l1, hl1⟩ : ∃ l1, q ++ m = l1 := ⟨_, rfl⟩
   rw [hl1] at HB HR
   clear g1 g2 g3 HC HP HQ hl1
   go_wp2_with fail
   go_loopg [6] N (fun kx ss wr => ∃ (s : Nat) (l1 : List RR), ss = .int .i64 (s : Int) ∧ 0 < s ∧ s ≤ 4000000 ∧ N - s ≤ kx ∧ Hid (l1.length = l.length ∧ Blocks bP s l1 ∧ ∀ x, cls bP l1 x = cls bP l x) ∧ Hid (Own w0 base g c rest wr l1))
   case atStart => exact ⟨20, l1, rfl, by omega, by omega, by omega, HB, HR⟩
   case round =>
    clear HR HB
    obtain ⟨s, l1, rfl, s0, s1, hks, HB, HR⟩ := hrel
    by_cases hs : s < N
    ·have hsz : (s : Int) < (N : Int) := by omega
     have e2 : IntKind.i64.wrap (2 * (s : Int)) = ((2 * s : Nat) : Int) := gY (by omega) (by omega)
     have e3 : IntKind.i64.wrap ((s : Int) * 2) = ((2 * s : Nat) : Int) := gY (by omega) (by omega)
     obtain ⟨S, hS⟩ : ∃ S, 2 * s = S := ⟨_, rfl⟩
     rw [hS] at e2 e3
     have HSS := Lib.hid hS
     have hS2 : S ≤ s + s ∧ s + s ≤ S := by omega
     have HF1 := Lib.hid (show ∀ y ∈ l1, fine y from fun y hy => HF.out y (vv jh HB.out.2.2 hy))
     clear hS
     go_wp2_with fail
     go_loopg [7, 8] N (fun kx sa sb wr => ∃ (a b t : Nat) (q : List RR), sa = .int .i64 (a : Int) ∧ sb = .int .i64 (b : Int) ∧ b ≤ a + S ∧ a + S ≤ b ∧ a ≤ N ∧ N - a ≤ kx ∧ Hid (q.length = a) ∧ Hid (Part bP S l1 q t) ∧ Hid (Own w0 base g c rest wr (q ++ l1.drop a)))
     case atStart => exact ⟨0, S, 0, [], rfl, rfl, by omega, by omega, by omega, by omega, Lib.hid rfl, Lib.hid (Part.start _ _), HR⟩
     case round =>
      clear HR
      obtain ⟨a, b, t, q, rfl, rfl, b1, b2, ha, hk, HQ, HP, HR⟩ := hrel
      have e4 : IntKind.i64.wrap ((a : Int) + (s : Int)) = ((a + s : Nat) : Int) := gY (by omega) (by omega)
      obtain ⟨m1, hm1⟩ : ∃ m1, a + s = m1 := ⟨_, rfl⟩
      rw [hm1] at e4
      have HPR := Lib.hid (Part.pair (s := s) (t := t) (l := l1) (q := q) (by rw [HSS.out]; exact HP.out) HB.out.2.1)
      rw [HQ.out] at HPR
      obtain ⟨d, hd⟩ : ∃ d, l1.drop a = d := ⟨_, rfl⟩
      have hdl : d.length = N - a := by rw [← hd, List.length_drop, HB.out.1, HL.out]
      have HFD := Lib.hid (show ∀ y ∈ d, fine y from fun y hy => HF1.out y (List.mem_of_mem_drop (hd ▸ hy)))
      rw [hd] at HR HPR
      have HD := Lib.hid hd
      have hmm : m1 ≤ a + s ∧ a + s ≤ m1 := by omega
      clear hm1 hd
      by_cases hlt : b ≤ N
      ·have hltz : (b : Int) ≤ (N : Int) := by omega
       have e5 : IntKind.i64.wrap ((b : Int) + (S : Int)) = ((b + S : Nat) : Int) := gY (by omega) (by omega)
       obtain ⟨b', hb'⟩ : ∃ b', b + S = b' := ⟨_, rfl⟩
       rw [hb'] at e5
       have hb2 : b' ≤ b + S ∧ b + S ≤ b' := by omega
       have e6 : d.take s ++ ((d.drop s).take s ++ d.drop S) = d := by rw [show S = s + s by omega, ← List.drop_drop, List.take_append_drop, List.take_append_drop]
       have t1 : (d.take s).length = s := by rw [List.length_take]; omega
       have t2 : ((d.drop s).take s).length = s := by rw [List.length_take, List.length_drop]; omega
       have hcall := HSYM.out q (d.take s) ((d.drop s).take s) (d.drop S) a m1 b (by rw [t1, t2]; omega) (by rw [t1]; omega) (by rw [t2]; omega) HPR.out.1 HPR.out.2 (fun y hy => HFD.out y (List.mem_of_mem_take hy)) (fun y hy => HFD.out y (List.mem_of_mem_drop (List.mem_of_mem_take hy))) (by rw [e6, List.length_append, HQ.out, hdl]; omega) HQ.out (by rw [t1]; omega) (by rw [t2]; omega) wr (by rw [e6]; exact HR.out)
       have HT : Hid (((d.take s).length + ((d.drop s).take s).length = S) ∧ d.take s ++ (d.drop s).take s = d.take S) := Lib.hid ⟨by rw [t1, t2]; omega, by rw [show S = s + s by omega, List.take_add]⟩
       have HC := Lib.hid hcall
       clear hcall HR hb' hdl e6 t1 t2
       go_wp2_with fail
       refine HC.out.mono ?_
       rintro e w1 ⟨rfl, m, g1, g2, g3⟩
       have hm : m.length = S := g2.trans HT.out.1
       rw [HT.out.2] at g1
       have HP2 := Lib.hid (HP.out.step (m := m) (by rw [HQ.out, HD.out]; exact g1) hm (by rw [HQ.out, HB.out.1, HL.out]; omega))
       have HQ2 : Hid ((q ++ m).length = b) := Lib.hid (by rw [List.length_append, HQ.out, hm]; omega)
       have HR : Hid (Own w0 base g c rest w1 ((q ++ m) ++ l1.drop b)) := Lib.hid (by rw [List.append_assoc, show b = a + S by omega, ← List.drop_drop, HD.out]; exact g3)
       clear g1 g2 g3 hm HC
       go_wp2_with fail
       go_roundg (N - b)
       case measure => omega
       case rel => exact ⟨b, b', t + 1, q ++ m, rfl, rfl, hb2.1, hb2.2, hlt, Nat.le_refl _, HQ2, HP2, HR⟩
      ·have hltz : ¬ (b : Int) ≤ (N : Int) := by omega
       have fin : ∀ m wr, cZ bP d m → m.length = d.length → Own w0 base g c rest wr (q ++ m) → ∃ l2 : List RR, (l2.length = l.length ∧ Blocks bP S l2 ∧ ∀ x, cls bP l2 x = cls bP l x) ∧ Own w0 base g c rest wr l2 := fun m wr g1 g2 g3 => by
        obtain ⟨f1, f2, f3⟩ := HP.out.last (m := m) (by rw [HQ.out, HD.out]; exact g1) (by rw [HQ.out, HD.out]; exact g2) (by rw [HQ.out, HB.out.1, HL.out]; omega)
        exact ⟨_, ⟨f1.trans HB.out.1, f2, fun x => (f3 x).trans (HB.out.2.2 x)⟩, g3⟩
       have FIN := Lib.hid fin
       clear fin
       by_cases hc : m1 < N
       ·have hcz : (m1 : Int) < (N : Int) := by omega
        have e6 : d.take s ++ (d.drop s ++ []) = d := by rw [List.append_nil, List.take_append_drop]
        have t1 : (d.take s).length = s := by rw [List.length_take]; omega
        have t2 : (d.drop s).length = N - m1 := by rw [List.length_drop]; omega
        have hcall := HSYM.out q (d.take s) (d.drop s) [] a m1 N (by rw [t1, t2]; omega) (by rw [t1]; omega) (by rw [t2]; omega) HPR.out.1 (by have := HPR.out.2; rwa [List.take_of_length_le (by rw [t2]; omega)] at this) (fun y hy => HFD.out y (List.mem_of_mem_take hy)) (fun y hy => HFD.out y (List.mem_of_mem_drop hy)) (by rw [e6, List.length_append, HQ.out, hdl]; omega) HQ.out (by rw [t1]; omega) (by rw [t2]; omega) wr (by rw [e6]; exact HR.out)
        have HT : Hid ((d.take s).length + (d.drop s).length = d.length) := Lib.hid (by rw [t1, t2, hdl]; omega)
        have HC := Lib.hid hcall
        clear hcall HR hdl e6 t1 t2
        go_wp2_with fail
        refine HC.out.mono ?_
        rintro e w1 ⟨rfl, m, g1, g2, g3⟩
        rw [List.take_append_drop] at g1
        rw [List.append_nil] at g3
        obtain ⟨l2, f1, f2⟩ := FIN.out m w1 g1 (g2.trans HT.out) g3
        have HB2 := Lib.hid f1
        have HR := Lib.hid f2
        clear g1 g2 g3 f1 f2 HC FIN
        go_wp2_with fail
        go_roundg (N - S)
        case measure => omega
        case rel => exact ⟨S, l2, rfl, by omega, by omega, Nat.le_refl _, HB2, HR⟩
       ·have hcz : ¬ (m1 : Int) < (N : Int) := by omega
        obtain ⟨l2, f1, f2⟩ := FIN.out d wr (cZ.qp (by have := HPR.out.1; rwa [List.take_of_length_le (by omega)] at this)) rfl HR.out
        have HB2 := Lib.hid f1
        have HR2 := Lib.hid f2
        clear f1 f2 FIN HR
        go_wp2_with fail
        go_roundg (N - S)
        case measure => omega
        case rel => exact ⟨S, l2, rfl, by omega, by omega, Nat.le_refl _, HB2, HR2⟩
    ·have hsz : ¬ (s : Int) < (N : Int) := by omega
     go_wp2_with fail
     go_end0
     exact ⟨rfl, l1, ⟨CK HB.out.2.1 (by rw [HB.out.1, HL.out]; omega), HB.out.2.2⟩, HB.out.1.trans HL.out, HR.out⟩
end Go.Y.Rrs
namespace Go.Y.Rrs
open Go.Proofs.ah.av Go.Proofs.ah.aT Go.Proofs.ah.aU Go.Y.Given Go.Y.PRd Go.Y.PRr Go.Y.bY
def Turned (l m : List RR) (i : Nat) : Prop := m.length = l.length ∧ ∀ t, m[t]? = if t < i ∨ l.length - i ≤ t ∧ t < l.length then l[l.length - 1 - t]? else l[t]?
theorem Ay {l m : List RR} {i j : Nat} {x y : RR} (h : Turned l m i) (hj : i + j + 1 = l.length) (hij : i < j) (hx : m[i]? = some x) (hy : m[j]? = some y) : Turned l ((m.set i y).set j x) (i + 1) := by
 have e : (m.set i y).set j x = sw m i j := by unfold sw; rw [hx, hy]
 rw [e]
 refine ⟨(xE _ _ _).trans h.1, fun t => ?_⟩
 rw [Fx m i j (by rw [h.1]; omega) (by rw [h.1]; omega), h.2, h.2, h.2]
 repeat' split
 all_goals first | rfl | (exfalso; omega) | (refine congrArg (fun k => l[k]?) ?_; omega)
theorem Cx {l m : List RR} {i : Nat} (h : Turned l m i) (hi : l.length ≤ 2 * i + 1) (hi2 : i ≤ l.length) : m = l.reverse := List.ext_getElem? fun t => by
 rw [h.2]
 by_cases ht : t < l.length
 ·rw [List.getElem?_reverse ht]
  split
  ·rfl
  ·refine congrArg (fun k => l[k]?) ?_; omega
 ·rw [if_neg (by omega), List.getElem?_eq_none (by omega), List.getElem?_eq_none (by rw [List.length_reverse]; omega)]
theorem FZ {w0 : World} {base g c : Nat} {rest : List Value} (l : List RR) {N : Nat} (hn : N ≤ 1000000) (hN : l.length = N) (w : World) (HO : Own w0 base g c rest w l) :
  Calls Tryz.prog 37 #[.slice (some ⟨g, 0, none⟩) N c] w fun e w' => e = .returned (.tuple #[]) ∧ Own w0 base g c rest w' l.reverse := by
 have hu22 := Tryz.underlying22
 have hu41 := Tryz.underlying28
 have HR := Lib.hid HO
 have HL := Lib.hid hN
 have e0 : IntKind.i64.wrap ((N : Int) - 1) = (N : Int) - 1 := by rw [IntKind.wrap_i64]; omega
 clear HO hN
 go_enter Tryz.func37, Tryz.ntmps37
 go_wp2_with fail
 go_loopg [2, 3] N (fun kx si sj wr => ∃ (i : Nat) (J : Int) (m : List RR), si = .int .i64 (i : Int) ∧ sj = .int .i64 J ∧ J + 1 + i ≤ N ∧ (N : Int) ≤ J + 1 + i ∧ i ≤ N ∧ N - i ≤ kx ∧ Hid (Turned l m i) ∧ Hid (Own w0 base g c rest wr m))
 case atStart => exact ⟨0, (N : Int) - 1, l, rfl, rfl, by omega, by omega, by omega, by omega, Lib.hid ⟨rfl, fun t => by rw [if_neg (by omega)]⟩, HR⟩
 case round =>
  clear HR
  obtain ⟨i, J, m, rfl, rfl, j1, j2, hi, hk, HT, HR⟩ := hrel
  by_cases hlt : (i : Int) < J
  ·obtain ⟨j, rfl⟩ : ∃ j : Nat, J = (j : Int) := ⟨J.toNat, by omega⟩
   obtain ⟨x, hx⟩ := qd (show i < m.length by rw [HT.out.1, HL.out]; omega)
   obtain ⟨y, hy⟩ := qd (show j < m.length by rw [HT.out.1, HL.out]; omega)
   have HT2 := Lib.hid (Ay HT.out (by rw [HL.out]; omega) (by omega) hx hy)
   have HS := Lib.hid (HR.out.swap hx hy).drew
   obtain ⟨D2, hy2⟩ := HR.out.next y (List.getElem?_eq_some_iff.1 hx).1 hy (show i ≠ j by omega)
   obtain ⟨x0, x1, x2, x3, x4, x5, x6, x7, x8, x9⟩ := HR.out.at5 hx
   obtain ⟨y0, y1, y2, y3, y4, y5, y6, y7, y8, y9⟩ := HR.out.at5 hy
   obtain ⟨z0, z1, z2, z3, z4, z5, z6, z7, z8, z9⟩ := D2.at5 hy2
   have p0 : (0 : Int) ≤ (i : Int) := by omega
   have p1 : (i : Int) < (N : Int) := by omega
   have p2 : (0 : Int) ≤ (j : Int) := by omega
   have p3 : (j : Int) < (N : Int) := by omega
   have e1 : IntKind.i64.wrap ((i : Int) + 1) = ((i + 1 : Nat) : Int) := gY (by omega) (by omega)
   obtain ⟨i', hi'⟩ : ∃ i', i + 1 = i' := ⟨_, rfl⟩
   have e2 : IntKind.i64.wrap ((j : Int) - 1) = (j : Int) - 1 := by rw [IntKind.wrap_i64]; omega
   have j3 : ((j : Int) - 1) + 1 + i' ≤ N ∧ (N : Int) ≤ ((j : Int) - 1) + 1 + i' ∧ i' ≤ N ∧ N - i' < N - i := by omega
   rw [hi'] at e1 HT2
   clear HR D2 hy2 hx hy HT hi'
   go_wp2_with fail
   go_big_region
   all_goals go_wp2
   go_roundg (N - i')
   case measure => omega
   case rel => exact ⟨i', _, _, rfl, rfl, j3.1, j3.2.1, j3.2.2.1, Nat.le_refl _, HT2, HS⟩
  ·go_wp2_with fail
   go_end0
   rw [← Cx HT.out (by rw [HL.out]; omega) (by rw [HL.out]; exact hi)]
   exact ⟨rfl, HR.out⟩
end Go.Y.Rrs
namespace Go.Y.PSo
open Go.Proofs.ah.av Go.Proofs.ah.aT Go.Proofs.ah.aU Go.Y.Given Go.Y.PRd Go.Y.PRr
attribute [local go_sem] dB dD dQ dP cK cB dA dF
def je : Option Int → Value
 | none => .nilIface
 | some c => .iface 0 (.int .i64 c)
theorem iZ : je none = .nilIface := rfl
theorem jd (c : Int) : je (some c) = .iface 0 (.int .i64 c) := rfl
end Go.Y.PSo
namespace Go.Y.PSo
open Go.Proofs.ah.av Go.Proofs.ah.aT Go.Proofs.ah.aU Go.Y.Given Go.Y.PRd Go.Y.PRr
attribute [local go_sem] dB dD dQ dP cK cB dA dF
def kg.f (k : Nat) (a0_0 : ByteArray) (a0_1 : Int) (a0_2 : Int) (a0_3 : Int) (a0_4 : ByteArray) (a1_0 : ByteArray) (a1_1 : Int) (a1_2 : Int) (a1_3 : Int) (a1_4 : ByteArray) : Option (Bool) := (dM.f k a0_0 a0_1 a0_2 a0_3 a0_4 a1_0 a1_1 a1_2 a1_3 a1_4).bind fun t103 => (some (t103 == 0))
theorem kg.calls (k : Nat) (a0_0 : ByteArray) (a0_1 : Int) (a0_2 : Int) (a0_3 : Int) (a0_4 : ByteArray) (a1_0 : ByteArray) (a1_1 : Int) (a1_2 : Int) (a1_3 : Int) (a1_4 : ByteArray) (r : Bool) (w : World) (h : kg.f k a0_0 a0_1 a0_2 a0_3 a0_4 a1_0 a1_1 a1_2 a1_3 a1_4 = some r) :
  Calls Tryz.prog 40 #[.agg #[.string a0_0, .int .i64 a0_1, .int .i64 a0_2, .int .i64 a0_3, .string a0_4], .agg #[.string a1_0, .int .i64 a1_1, .int .i64 a1_2, .int .i64 a1_3, .string a1_4]] w fun e w' => e = .returned (.bool r) ∧ Below w.heap.size w w' := by
 have hu28 := Tryz.underlying28
 have HB := aj.mk (Below.refl w.heap.size w)
 have H : ((dM.f k a0_0 a0_1 a0_2 a0_3 a0_4 a1_0 a1_1 a1_2 a1_3 a1_4).bind fun t103 => (some (t103 == 0))) = some r := h
 clear h
 replace H := Option.bind_eq_some_iff.mp H
 obtain ⟨t103, A30, H⟩ := H
 replace H : (some (t103 == 0)) = some r := H
 have A3 := aj.mk A30
 clear A30
 obtain rfl := Option.some.inj H
 go_enter Tryz.func40, Tryz.ntmps40
 go_wp2_with (first | ((with_reducible refine bU (N := 2) rfl ?_); refine dw ?hg (N := 2) ?hd (cs := #[.string a0_0, .int .i64 a0_1, .int .i64 a0_2, .int .i64 a0_3, .string a0_4]) (t := 28) ?hr ?_; (case hd => rfl); (case hg => rfl); (case hr => first | (go_simp; done) | (go_simp; rfl)); intro gb101 hg w4 hbox hb; have n0_ := aj.mk (au (by repeat (first | (with_reducible first | exact HB.out | apply bI | apply aW | apply dz) | exact HB.out)) hb); have n1_ := aj.mk (hbox); have n2_ := aj.mk ((by rw [hg]; exact (ay (by repeat (first | (with_reducible first | exact HB.out | apply bI | apply aW | apply dz) | exact HB.out))) : w.heap.size ≤ gb101)); have n3_ := aj.mk ((by rw [hg]; exact (ay (by repeat (first | (with_reducible first | exact HB.out | apply bI | apply aW | apply dz) | exact HB.out))) : w.heap.size ≤ gb101)); clear HB; have HB := n0_; have BK101 := n1_; have GW101 := n2_; have GE101 := n3_; clear n0_ n1_ n2_ n3_; clear hb hbox hg) | ((with_reducible refine bU (N := 3) rfl ?_); refine dw ?hg (N := 3) ?hd (cs := #[.string a1_0, .int .i64 a1_1, .int .i64 a1_2, .int .i64 a1_3, .string a1_4]) (t := 28) ?hr ?_; (case hd => rfl); (case hg => rfl); (case hr => first | (go_simp; done) | (go_simp; rfl)); intro gb102 hg w5 hbox hb; have n0_ := aj.mk (aI (g := gb101) (o := .cells #[.string a0_0, .int .i64 a0_1, .int .i64 a0_2, .int .i64 a0_3, .string a0_4] 28 (0, 0)) (by (with_reducible repeat (first | refine aA ?_ _ | refine eP ?_ | refine gU ?_ _)); exact BK101.out) hb); have n1_ := aj.mk (au (by repeat (first | (with_reducible first | exact HB.out | apply bI | apply aW | apply dz | refine dG ?_ GE101.out) | exact HB.out)) hb); have n2_ := aj.mk (hbox); have n3_ := aj.mk ((by rw [hg]; exact (ay (by repeat (first | (with_reducible first | exact HB.out | apply bI | apply aW | apply dz | refine dG ?_ GE101.out) | exact HB.out))) : w.heap.size ≤ gb102)); have n4_ := aj.mk ((by rw [hg]; exact (ay (by repeat (first | (with_reducible first | exact HB.out | apply bI | apply aW | apply dz | refine dG ?_ GE101.out) | exact HB.out))) : w.heap.size ≤ gb102)); have n5_ := aj.mk ((by rw [hg]; exact Nat.ne_of_lt (eU (g := gb101) (o := .cells #[.string a0_0, .int .i64 a0_1, .int .i64 a0_2, .int .i64 a0_3, .string a0_4] 28 (0, 0)) (by (with_reducible repeat (first | refine aA ?_ _ | refine eP ?_ | refine gU ?_ _)); exact BK101.out)) : gb101 ≠ gb102)); have n6_ := aj.mk ((by rw [hg]; exact Nat.ne_of_gt (eU (g := gb101) (o := .cells #[.string a0_0, .int .i64 a0_1, .int .i64 a0_2, .int .i64 a0_3, .string a0_4] 28 (0, 0)) (by (with_reducible repeat (first | refine aA ?_ _ | refine eP ?_ | refine gU ?_ _)); exact BK101.out)) : gb102 ≠ gb101)); clear BK101; clear HB; have BK101 := n0_; have HB := n1_; have BK102 := n2_; have GW102 := n3_; have GE102 := n4_; have NB101_102 := n5_; have NB102_101 := n6_; clear n0_ n1_ n2_ n3_ n4_ n5_ n6_; clear hb hbox hg; have hnb6 := NB101_102.out; have hnc6 := NB102_101.out; have hcz7_0 : w5.cell? ⟨gb101, 0, none⟩ = some (.string a0_0) := (aG BK101.out 0).trans rfl; have hcz7_1 : w5.cell? ⟨gb101, 1, none⟩ = some (.int .i64 a0_1) := (aG BK101.out 1).trans rfl; have hcz7_2 : w5.cell? ⟨gb101, 2, none⟩ = some (.int .i64 a0_2) := (aG BK101.out 2).trans rfl; have hcz7_3 : w5.cell? ⟨gb101, 3, none⟩ = some (.int .i64 a0_3) := (aG BK101.out 3).trans rfl; have hcz7_4 : w5.cell? ⟨gb101, 4, none⟩ = some (.string a0_4) := (aG BK101.out 4).trans rfl; have hfz7_0 := bB BK101.out 0; have hfz7_1 := bB BK101.out 1; have hfz7_2 := bB BK101.out 2; have hfz7_3 := bB BK101.out 3; have hfz7_4 := bB BK101.out 4; have hcz8_0 : w5.cell? ⟨gb102, 0, none⟩ = some (.string a1_0) := (aG BK102.out 0).trans rfl; have hcz8_1 : w5.cell? ⟨gb102, 1, none⟩ = some (.int .i64 a1_1) := (aG BK102.out 1).trans rfl; have hcz8_2 : w5.cell? ⟨gb102, 2, none⟩ = some (.int .i64 a1_2) := (aG BK102.out 2).trans rfl; have hcz8_3 : w5.cell? ⟨gb102, 3, none⟩ = some (.int .i64 a1_3) := (aG BK102.out 3).trans rfl; have hcz8_4 : w5.cell? ⟨gb102, 4, none⟩ = some (.string a1_4) := (aG BK102.out 4).trans rfl; have hfz8_0 := bB BK102.out 0; have hfz8_1 := bB BK102.out 1; have hfz8_2 := bB BK102.out 2; have hfz8_3 := bB BK102.out 3; have hfz8_4 := bB BK102.out 4) | ((with_reducible refine eG (f := 34) rfl ?_); refine iK (some 7) rfl rfl Tryz.func34 (by kernel_rfl) rfl #[.agg #[.string a0_0, .int .i64 a0_1, .int .i64 a0_2, .int .i64 a0_3, .string a0_4], .agg #[.string a1_0, .int .i64 a1_1, .int .i64 a1_2, .int .i64 a1_3, .string a1_4]] rfl (by (try simp only [List.map_toArray, List.map_cons, List.map_nil]); first | done | rfl | (simp only [List.length_drop, List.length_take]; rfl)) ?_; (with_reducible refine (dM.calls k a0_0 a0_1 a0_2 a0_3 a0_4 a1_0 a1_1 a1_2 a1_3 a1_4 t103 _ A3.out).mono ?_); rintro e w9 ⟨rfl, hb⟩; refine ⟨_, rfl, ?_⟩; have n0_ := aj.mk (aI (g := gb101) (o := .cells #[.string a0_0, .int .i64 a0_1, .int .i64 a0_2, .int .i64 a0_3, .string a0_4] 28 (0, 0)) (by (with_reducible repeat (first | refine aA ?_ _ | refine eP ?_ | refine gU ?_ _)); exact BK101.out) hb); have n1_ := aj.mk (aI (g := gb102) (o := .cells #[.string a1_0, .int .i64 a1_1, .int .i64 a1_2, .int .i64 a1_3, .string a1_4] 28 (0, 0)) (by (with_reducible repeat (first | refine aA ?_ _ | refine eP ?_ | refine gU ?_ _)); exact BK102.out) hb); have n2_ := aj.mk (au (by repeat (first | (with_reducible first | exact HB.out | apply bI | apply aW | apply dz | refine dG ?_ GE101.out | refine dG ?_ GE102.out) | exact HB.out)) hb); clear BK101; clear BK102; clear HB; have BK101 := n0_; have BK102 := n1_; have HB := n2_; clear n0_ n1_ n2_; (try clear hb); (try clear hb2); (try clear hk); (try clear hi)))
 go_ret
 exact ⟨by first | rfl | (simp [iZ, jd] <;> rfl) | (simp [*, iZ, jd] <;> rfl), by repeat (first | (with_reducible first | exact HB.out | apply bI | apply aW | apply dz | refine dG ?_ GE101.out | refine dG ?_ GE102.out) | exact HB.out)⟩
end Go.Y.PSo
namespace Go.Y.Rrs
open Go.Proofs.ah.av Go.Proofs.ah.aT Go.Proofs.ah.aU Go.Y.Given Go.Y.PRd Go.Y.PRr Go.Y.PSo
def kZ {α : Type} (e : α → α → Bool) : α → List α → List α
 | _, [] => []
 | a, b :: l => if e b a = true then kZ e b l else b :: kZ e b l
def comp {α : Type} (e : α → α → Bool) : List α → List α
 | [] => []
 | a :: l => a :: kZ e a l
theorem uZ {α : Type} (e : α → α → Bool) (x : α) : ∀ (l : List α) (a : α), kZ e a (l ++ [x]) = kZ e a l ++ (if e x (l.getLastD a) = true then [] else [x])
 | [], a => by
  simp only [List.nil_append, kZ, List.getLastD_nil]
  rfl
 | b :: l, a => by
  have ih := uZ e x l b
  simp only [List.cons_append, kZ, List.getLastD_cons]
  rw [ih]
  split <;> simp
theorem sI {α : Type} (e : α → α → Bool) (l : List α) (t : Nat) (ht : t + 1 < l.length) : comp e (l.take (t + 2)) = comp e (l.take (t + 1)) ++ (if e l[t + 1] l[t] = true then [] else [l[t + 1]]) := by
 cases l with
 | nil => simp at ht
 | cons a l =>
  have h1 : t < l.length := by simpa using ht
  have e1 : l.take (t + 1) = l.take t ++ [l[t]] := by rw [List.take_succ_eq_append_getElem h1]
  have e2 : (l.take t).getLastD a = (a :: l)[t]'(by simp; omega) := by
   cases t with
   | zero => rfl
   | succ t =>
    rw [List.take_succ_eq_append_getElem (show t < l.length by omega), List.getLastD_concat]
    rfl
  rw [List.take_succ_cons, List.take_succ_cons, comp, comp, e1, uZ, List.cons_append, e2]
  rfl
theorem xX {α : Type} (e : α → α → Bool) (l : List α) : ∀ t, t ≤ l.length → (∀ j (hj : j + 1 < l.length), j + 1 < t → e l[j + 1] l[j] = false) → comp e (l.take t) = l.take t := by
 intro t
 induction t with
 | zero => intro _ _; rw [List.take_zero]; rfl
 | succ t ih =>
  intro ht h
  cases t with
  | zero =>
   cases l with
   | nil => simp at ht
   | cons a l => rfl
  | succ t =>
   rw [sI e l t (by omega), ih (by omega) (fun j hj h1 => h j hj (by omega)), h t (by omega) (by omega)]
   simp only [Bool.false_eq_true, if_false]
   rw [List.take_succ_eq_append_getElem (show t + 1 < l.length by omega)]
theorem IY {α : Type} (p s : List α) (x y : α) : (p ++ x :: s).set p.length y = p ++ y :: s := by
 rw [List.set_append_right _ _ (Nat.le_refl _), Nat.sub_self, List.set_cons_zero]
theorem vG (m : Nat) : (Builtin.zeroCells zRR.cells m).toList = flat (List.replicate m (⟨⟨#[]⟩, 0, 0, 0, ⟨#[]⟩⟩ : RR)) := by
 exact rX (R := fun x cs => cs = kS x) (fun x cs h => h) _ _ (Kd.Cc (z := zRR) (size := 5) (z0 := (⟨⟨#[]⟩, 0, 0, 0, ⟨#[]⟩⟩ : RR)) rfl (by decide) rfl m)
theorem CB (w : World) (ty : TypeId) (g cap q : Nat) (base : Nat) (l : List RR) (rest : List Value) (h : Row w base g cap l rest) (hq : q < l.length) (cc : Nat) :
  ∃ rest', Row (w.setRow g ((flat l ++ rest).take (q * 5) ++ (Builtin.zeroCells zRR.cells (l.length - q)).toList ++ (flat l ++ rest).drop (q * 5 + (Builtin.zeroCells zRR.cells (l.length - q)).toList.length)).toArray) base g cap (l.take q) rest' ∧
  (Builtin.clear_ #[22] ty #[.slice (some ⟨g, q * 5, none⟩) (l.length - q) cc]).run Tryz.prog w = .ok (.tuple #[]) (w.setRow g ((flat l ++ rest).take (q * 5) ++ (Builtin.zeroCells zRR.cells (l.length - q)).toList ++ (flat l ++ rest).drop (q * 5 + (Builtin.zeroCells zRR.cells (l.length - q)).toList.length)).toArray) := by
 obtain ⟨i0, hi0, hz0, hzs, hzb⟩ := yG
 have hu22 := Tryz.underlying22
 obtain ⟨zs, hzz⟩ : ∃ zs, (Builtin.zeroCells zRR.cells (l.length - q)).toList = zs := ⟨_, rfl⟩
 have hzl : zs.length = (l.length - q) * 5 := by rw [← hzz, vG, gW, List.length_replicate]
 have hone : ∀ v ∈ zs, v.oneCell' = true := by rw [← hzz, vG]; exact zn _
 have hfl := gW l
 have hfit : q * 5 + 0 + zs.length ≤ (flat l ++ rest).toArray.size := by rw [List.size_toArray, List.length_append, hfl]; omega
 have hst := run_storeCells_at Tryz.prog g (q * 5) tRR zs 0 (flat l ++ rest).toArray w h.blk hfit hone
 rw [hzz]
 have htk : (flat l ++ rest).take (q * 5) = flat (l.take q) := by rw [List.take_append_of_le_length (by rw [hfl]; omega), Fu l q (by omega)]
 refine ⟨zs ++ (flat l ++ rest).drop (q * 5 + zs.length), ⟨?_, h.lo, h.fits, ?_⟩, ?_⟩
 ·rw [setRow_heap _ g _ _ _ _ h.blk, htk, List.append_assoc]
 ·have := h.len
  rw [List.length_take, List.length_append, List.length_drop, List.length_append, hfl]; omega
 ·have hne : ¬ (l.length - q = 0) := by omega
  obtain ⟨m, hm⟩ : ∃ m, l.length - q = m + 1 := ⟨l.length - q - 1, by omega⟩
  rw [hm] at hzz ⊢
  simp only [Nat.add_zero, List.toList_toArray] at hst
  simp [Builtin.clear_, run_underlying hu22, zeroValue, typeInfo, hi0, hz0, hzz, hst]
theorem zP (k : Nat) (y x : RR) (c : Bool) (w : World) (h : kg.f k y.f0 y.f1 y.f2 y.f3 y.f4 x.f0 x.f1 x.f2 x.f3 x.f4 = some c) :
  Calls Tryz.prog 40 #[y.v, x.v] w fun e w' => e = .returned (.bool c) ∧ Below w.heap.size w w' := kg.calls k _ _ _ _ _ _ _ _ _ _ c w h
theorem Ao (K : Nat) (l : List RR) (e : RR → RR → Bool) (he : ∀ x ∈ l, ∀ y ∈ l, kg.f K x.f0 x.f1 x.f2 x.f3 x.f4 y.f0 y.f1 y.f2 y.f3 y.f4 = some (e x y)) (hn : l.length ≤ 1000000) (h2 : 2 ≤ l.length) (base : Nat) (ok : Nat → Prop) (w0 w : World) (hB : Below base w0 w) (g c : Nat) (rest : List Value) (HO : Row w base g c l rest) (hok : ok g) :
  Calls Tryz.prog 39 #[.slice (some ⟨g, 0, none⟩) l.length c, .func (.func 40) #[] #[]] w fun en w' => ∃ v', en = .returned v' ∧ Kd.R kRR tRR w' base ok v' (comp e l) ∧ Below base w0 w' := by
 have hu22 := Tryz.underlying22
 have hu41 := Tryz.underlying28
 have HE := Lib.hid he
 have HOK := Lib.hid hok
 have HB := Lib.hid hB
 have HR := Lib.hid HO
 have hcf : c ≤ 9223372036854775807 := by have := HO.fits; unfold maxLen at this; exact this
 have hlc : l.length ≤ c := by have := HO.len; omega
 obtain ⟨n, hnn⟩ : ∃ n, l.length = n := ⟨_, rfl⟩
 have HN := Lib.hid hnn
 rw [hnn] at hn h2 hlc ⊢
 clear he hB HO hok hnn
 go_enter Tryz.func39, Tryz.ntmps39
 have b0 : ¬ ((n : Int) < 2) := by omega
 go_wp2_with fail
 go_loopg [5] n (fun kx s5 wr => ∃ k : Nat, s5 = .int .i64 (k : Int) ∧ 1 ≤ k ∧ k ≤ n ∧ n - k ≤ kx ∧ Hid (∀ j (hj : j + 1 < l.length), j + 1 < k → e l[j + 1] l[j] = false) ∧ Hid (Below base w0 wr) ∧ Hid (Row wr base g c l rest))
 case atStart => exact ⟨1, rfl, by omega, by omega, by omega, Lib.hid (fun j hj h => by omega), Lib.hid HB.out, Lib.hid HR.out⟩
 case round =>
  clear HB HR
  obtain ⟨k, rfl, hk1, hkn, hkx, HS, HB, HR⟩ := hrel
  by_cases hlt : k < n
  ·obtain ⟨j, rfl⟩ : ∃ j, k = j + 1 := ⟨k - 1, by omega⟩
   have p1 : (0 : Int) ≤ ((j + 1 : Nat) : Int) := by omega
   have q1 : ((j + 1 : Nat) : Int) < (l.length : Int) := by rw [HN.out]; omega
   have p2 : (0 : Int) ≤ (j : Int) := by omega
   have q2 : (j : Int) < (l.length : Int) := by rw [HN.out]; omega
   obtain ⟨ad, e1, hx0, hx1, hx2, hx3, hx4⟩ := iD (Kd.aX (HR.out.R (ok := fun _ => True) trivial)).2.2 ((j + 1 : Nat) : Int) p1 q1
   cases e1
   obtain ⟨ad, e1, hy0, hy1, hy2, hy3, hy4⟩ := iD (Kd.aX (HR.out.R (ok := fun _ => True) trivial)).2.2 (j : Int) p2 q2
   cases e1
   rw [Int.toNat_natCast] at hx0 hx1 hx2 hx3 hx4 hy0 hy1 hy2 hy3 hy4
   simp only [Addr.add_lit, Nat.zero_add] at hx0 hx1 hx2 hx3 hx4 hy0 hy1 hy2 hy3 hy4
   have hl1 : rdR l ((j + 1 : Nat) : Int) ∈ l := by rw [fE l _ (by rw [HN.out]; exact hlt)]; exact List.getElem_mem _
   have hl0 : rdR l (j : Nat) ∈ l := by rw [fE l _ (by rw [HN.out]; omega)]; exact List.getElem_mem _
   have hcall := zP K (rdR l ((j + 1 : Nat) : Int)) (rdR l (j : Nat)) (e (rdR l ((j + 1 : Nat) : Int)) (rdR l (j : Nat))) wr.drew (HE.out _ hl1 _ hl0)
   have HCALL := Lib.hid hcall
   clear hcall hl1 hl0 p1 q1 p2 q2
   have g1 : ((j + 1 : Nat) : Int) = (j : Int) + 1 := by omega
   have g2 : (j : Int) + 1 < (n : Int) := by omega
   have g3 : (0 : Int) ≤ (j : Int) := by omega
   have g4 : (j : Int) < (n : Int) := by omega
   have g5 : (0 : Int) ≤ (j : Int) + 1 := by omega
   have g6 : ((j : Int) + 1).toNat = j + 1 := by omega
   have g7 : (j : Int) + 1 - 1 = (j : Int) := by omega
   have hw0 : IntKind.i64.wrap (j : Int) = (j : Int) := by rw [IntKind.wrap_i64]; omega
   have hw1 : IntKind.i64.wrap ((j : Int) + 1) = (j : Int) + 1 := by rw [IntKind.wrap_i64]; omega
   have hw2 : IntKind.i64.wrap ((j : Int) + 1 + 1) = (j : Int) + 1 + 1 := by rw [IntKind.wrap_i64]; omega
   rw [g1]
   clear g1
   go_wp2_with fail
   go_still_tail 10, (by kernel_rfl)
   change wpList _ _ _ _ _ wr.drew
   have HB1 := Lib.hid (dz HB.out)
   have HR1 := Lib.hid (HR.out.drew)
   clear HB HR hx0 hx1 hx2 hx3 hx4 hy0 hy1 hy2 hy3 hy4
   generalize wr.drew = wd at HB1 HR1 HCALL
   go_wp2_with fail
   refine (HCALL.out).mono ?_
   rintro en w4 ⟨rfl, hb4⟩
   have HB4 := Lib.hid (eY HB1.out (Nat.le_trans HR1.out.lo (Nat.le_of_lt (eU HR1.out.blk))) hb4)
   have HR4 := Lib.hid (HR1.out.below hb4)
   clear hb4 HB1 HR1 HCALL
   generalize hd : e (rdR l ((j + 1 : Nat) : Int)) (rdR l (j : Nat)) = d
   have HD := Lib.hid hd
   clear hd
   cases d with
   | false =>
    go_wp2_with fail
    go_roundg (n - (j + 2))
    case measure => omega
    case rel => exact ⟨j + 2, by rw [show ((j + 2 : Nat) : Int) = (j : Int) + 1 + 1 by omega], by omega, by omega, Nat.le_refl _, Lib.hid (fun i hi h1 => by
     by_cases h2 : i = j
     ·subst h2
      have := HD.out
      rw [fE l _ hi, fE l _ (by omega)] at this
      exact this
     ·exact HS.out i hi (by omega)), HB4, HR4⟩
   | true =>
    have hc0 : comp e (l.take (j + 1 + 0 + 1)) = l.take (j + 1) := by
     rw [show j + 1 + 0 + 1 = j + 2 by omega, sI e l j (by rw [HN.out]; omega)]
     have h1 := HD.out
     rw [fE l _ (by rw [HN.out]; omega), fE l _ (by rw [HN.out]; omega)] at h1
     rw [h1, if_pos rfl, List.append_nil]
     exact xX e l (j + 1) (by rw [HN.out]; omega) (fun i hi h1 => HS.out i hi h1)
    have HC0 := Lib.hid hc0
    clear hc0 HD HS hkx hk1 hkn
    go_wp2_with fail
    go_loopg [5, 7] n (fun kx s5 s7 wr => ∃ q t : Nat, s5 = .int .i64 (q : Int) ∧ s7 = .int .i64 ((t : Int) + 1) ∧ j + 1 ≤ q ∧ q ≤ j + 1 + t ∧ j + 1 + t + 1 ≤ n ∧ n - t ≤ kx ∧ Hid ((comp e (l.take (j + 1 + t + 1))).length = q) ∧ Hid (Below base w0 wr) ∧ Hid (Row wr base g c (comp e (l.take (j + 1 + t + 1)) ++ l.drop q) rest))
    case atStart => exact ⟨j + 1, 0, by rw [show ((j + 1 : Nat) : Int) = (j : Int) + 1 by omega], rfl, Nat.le_refl _, by omega, by omega, by omega, Lib.hid (by rw [HC0.out, List.length_take, HN.out]; omega), HB4, Lib.hid (by rw [HC0.out, List.take_append_drop]; exact HR4.out)⟩
    case round =>
     clear HB4 HR4 HC0
     obtain ⟨q, t, rfl, rfl, hq1, hq2, hq3, hkx2, HL, HB, HR⟩ := hrel
     obtain ⟨cur, hcur⟩ : ∃ cur, comp e (l.take (j + 1 + t + 1)) ++ l.drop q = cur := ⟨_, rfl⟩
     have HCU := Lib.hid hcur
     rw [hcur] at HR
     have hcl : cur.length = n := by rw [← hcur, List.length_append, HL.out, List.length_drop, HN.out]; omega
     have HCL := Lib.hid hcl
     have hrd : ∀ i : Nat, q ≤ i → i < n → rdR cur (i : Nat) = rdR l (i : Nat) := fun i h1 h2 => by
      rw [fE cur i (by omega), fE l i (by rw [HN.out]; exact h2)]
      have : cur[i]? = l[i]? := by
       rw [← hcur, List.getElem?_append_right (by rw [HL.out]; exact h1), HL.out, List.getElem?_drop]
       congr 1; omega
      rw [List.getElem?_eq_getElem (by omega), List.getElem?_eq_getElem (by rw [HN.out]; exact h2)] at this
      exact Option.some.inj this
     have HRD := Lib.hid hrd
     clear hcur hcl hrd
     by_cases hlt2 : j + 1 + t + 1 < n
     ·obtain ⟨ad, e1, hx0, hx1, hx2, hx3, hx4⟩ := iD (Kd.aX (HR.out.R (ok := fun _ => True) trivial)).2.2 ((j + 1 + t + 1 : Nat) : Int) (by omega) (by rw [HCL.out]; omega)
      cases e1
      obtain ⟨ad, e1, hy0, hy1, hy2, hy3, hy4⟩ := iD (Kd.aX (HR.out.R (ok := fun _ => True) trivial)).2.2 ((j + 1 + t : Nat) : Int) (by omega) (by rw [HCL.out]; omega)
      cases e1
      have hA : (j + 1 + t + 1) * 5 = (j + 1) * 5 + (t + 1) * 5 := by omega
      have hA2 : (j + 1 + t) * 5 = (j + 1) * 5 + t * 5 := by omega
      have r1 := HRD.out (j + 1 + t + 1) (by omega) hlt2
      have r2 := HRD.out (j + 1 + t) (by omega) (by omega)
      simp only [Int.toNat_natCast, Addr.add_lit, Nat.zero_add] at hx0 hx1 hx2 hx3 hx4 hy0 hy1 hy2 hy3 hy4
      rw [hA] at hx0 hx1 hx2 hx3 hx4
      rw [hA2] at hy0 hy1 hy2 hy3 hy4
      rw [show aC cur ((j + 1 + t + 1 : Nat) : Int) = rdR l ((j + 1 + t + 1 : Nat) : Int) from r1] at hx0 hx1 hx2 hx3 hx4
      rw [show aC cur ((j + 1 + t : Nat) : Int) = rdR l ((j + 1 + t : Nat) : Int) from r2] at hy0 hy1 hy2 hy3 hy4
      have hl1 : rdR l ((j + 1 + t + 1 : Nat) : Int) ∈ l := by rw [fE l _ (by rw [HN.out]; exact hlt2)]; exact List.getElem_mem _
      have hl0 : rdR l ((j + 1 + t : Nat) : Int) ∈ l := by rw [fE l _ (by rw [HN.out]; omega)]; exact List.getElem_mem _
      obtain ⟨x, hxx⟩ : ∃ x, rdR l ((j + 1 + t + 1 : Nat) : Int) = x := ⟨_, rfl⟩
      obtain ⟨y, hyy⟩ : ∃ y, rdR l ((j + 1 + t : Nat) : Int) = y := ⟨_, rfl⟩
      rw [hxx] at hx0 hx1 hx2 hx3 hx4 hl1
      rw [hyy] at hy0 hy1 hy2 hy3 hy4 hl0
      have HX := Lib.hid hxx
      have HY := Lib.hid hyy
      have hcall := zP K x y (e x y) wr.drew (HE.out _ hl1 _ hl0)
      have HCALL := Lib.hid hcall
      clear hcall hl1 hl0 r1 r2 hA hA2 hxx hyy
      have k1 : (t : Int) + 1 < ((n - (j + 1) : Nat) : Int) := by omega
      have k2 : (0 : Int) ≤ (t : Int) := by omega
      have k3 : (t : Int) < ((n - (j + 1) : Nat) : Int) := by omega
      have k4 : (0 : Int) ≤ (t : Int) + 1 := by omega
      have k5 : ((t : Int) + 1).toNat = t + 1 := by omega
      have k6 : (t : Int) + 1 - 1 = (t : Int) := by omega
      have k7 : IntKind.i64.wrap (t : Int) = (t : Int) := by rw [IntKind.wrap_i64]; omega
      have k8 : IntKind.i64.wrap ((t : Int) + 1) = (t : Int) + 1 := by rw [IntKind.wrap_i64]; omega
      have k9 : IntKind.i64.wrap ((t : Int) + 1 + 1) = (t : Int) + 1 + 1 := by rw [IntKind.wrap_i64]; omega
      go_wp2_with fail
      go_still_tail 10, (by kernel_rfl)
      change wpList _ _ _ _ _ wr.drew
      have HB1 := Lib.hid (dz HB.out)
      have HR1 := Lib.hid (HR.out.drew)
      clear HB HR hx0 hx1 hx2 hx3 hx4 hy0 hy1 hy2 hy3 hy4
      generalize wr.drew = wd at HB1 HR1 HCALL
      go_wp2_with fail
      refine (HCALL.out).mono ?_
      rintro en w5 ⟨rfl, hb5⟩
      have HB5 := Lib.hid (eY HB1.out (Nat.le_trans HR1.out.lo (Nat.le_of_lt (eU HR1.out.blk))) hb5)
      have HR5 := Lib.hid (HR1.out.below hb5)
      clear hb5 HB1 HR1 HCALL
      generalize hd : e x y = d
      have HD := Lib.hid hd
      clear hd
      have hct := sI e l (j + 1 + t) (by rw [HN.out]; exact hlt2)
      rw [show l[j + 1 + t + 1]'(by rw [HN.out]; exact hlt2) = x by rw [← HX.out, fE l _ (by rw [HN.out]; exact hlt2)], show l[j + 1 + t]'(by rw [HN.out]; omega) = y by rw [← HY.out, fE l _ (by rw [HN.out]; omega)], HD.out] at hct
      have HCT := Lib.hid hct
      clear hct
      cases d with
      | true =>
       have hc1 : comp e (l.take (j + 1 + (t + 1) + 1)) = comp e (l.take (j + 1 + t + 1)) := by
        rw [show j + 1 + (t + 1) + 1 = j + 1 + t + 2 by omega, HCT.out, if_pos rfl, List.append_nil]
       have HC1 := Lib.hid hc1
       clear hc1
       go_wp2_with fail
       go_roundg (n - (t + 1))
       case measure => omega
       case rel => exact ⟨q, t + 1, rfl, by rw [show ((t + 1 : Nat) : Int) + 1 = (t : Int) + 1 + 1 by omega], hq1, by omega, by omega, Nat.le_refl _, Lib.hid (by rw [HC1.out]; exact HL.out), HB5, Lib.hid (by rw [HC1.out, HCU.out]; exact HR5.out)⟩
      | false =>
       obtain ⟨ad, e1, hx0, hx1, hx2, hx3, hx4⟩ := iD (Kd.aX (HR5.out.R (ok := fun _ => True) trivial)).2.2 ((j + 1 + t + 1 : Nat) : Int) (by omega) (by rw [HCL.out]; omega)
       cases e1
       obtain ⟨ad, e1, hy0, hy1, hy2, hy3, hy4⟩ := iD (Kd.aX (HR5.out.R (ok := fun _ => True) trivial)).2.2 (q : Int) (by omega) (by rw [HCL.out]; omega)
       cases e1
       have hA : (j + 1 + t + 1) * 5 = (j + 1) * 5 + (t + 1) * 5 := by omega
       have r1 := HRD.out (j + 1 + t + 1) (by omega) hlt2
       simp only [Int.toNat_natCast, Addr.add_lit, Nat.zero_add] at hx0 hx1 hx2 hx3 hx4 hy0 hy1 hy2 hy3 hy4
       rw [hA] at hx0 hx1 hx2 hx3 hx4
       rw [show aC cur ((j + 1 + t + 1 : Nat) : Int) = rdR l ((j + 1 + t + 1 : Nat) : Int) from r1, HX.out] at hx0 hx1 hx2 hx3 hx4
       clear hA r1
       have f0 := bB HR5.out.blk (q * 5)
       have f1 := bB HR5.out.blk (q * 5 + 1)
       have f2 := bB HR5.out.blk (q * 5 + 2)
       have f3 := bB HR5.out.blk (q * 5 + 3)
       have f4 := bB HR5.out.blk (q * 5 + 4)
       have m1 : (0 : Int) ≤ (q : Int) := by omega
       have m2 : (q : Int) < (n : Int) := by omega
       have m3 : IntKind.i64.wrap ((q : Int) + 1) = (q : Int) + 1 := by rw [IntKind.wrap_i64]; omega
       have hrow := HR5.out.put x q (by rw [HCL.out]; omega) _ _ _ _ _ rfl
       have hset : cur.set q x = comp e (l.take (j + 1 + (t + 1) + 1)) ++ l.drop (q + 1) := by
        have hd : l.drop q = (l[q]'(by rw [HN.out]; omega)) :: l.drop (q + 1) := List.drop_eq_getElem_cons _
        rw [show j + 1 + (t + 1) + 1 = j + 1 + t + 2 by omega, HCT.out, if_neg (by decide), ← HCU.out, hd]
        have := IY (comp e (l.take (j + 1 + t + 1))) (l.drop (q + 1)) (l[q]'(by rw [HN.out]; omega)) x
        rw [HL.out] at this
        rw [this]; simp
       rw [hset] at hrow
       have hlen : (comp e (l.take (j + 1 + (t + 1) + 1))).length = q + 1 := by
        rw [show j + 1 + (t + 1) + 1 = j + 1 + t + 2 by omega, HCT.out, if_neg (by decide), List.length_append, HL.out]; rfl
       have hge : base ≤ g := HR5.out.lo
       have hBF := ((((HB5.out.setCell (p := ⟨g, q * 5, none⟩) hge (.string x.f0)).setCell (p := ⟨g, q * 5 + 1, none⟩) hge (.int .i64 x.f1)).setCell (p := ⟨g, q * 5 + 2, none⟩) hge (.int .i64 x.f2)).setCell (p := ⟨g, q * 5 + 3, none⟩) hge (.int .i64 x.f3)).setCell (p := ⟨g, q * 5 + 4, none⟩) hge (.string x.f4)
       have HROW := Lib.hid hrow
       have HBF := Lib.hid hBF
       have HLEN := Lib.hid hlen
       clear hrow hBF hlen hset hge
       go_wp2_with fail
       go_roundg (n - (t + 1))
       case measure => omega
       case rel => exact ⟨q + 1, t + 1, by rw [show ((q + 1 : Nat) : Int) = (q : Int) + 1 by omega], by rw [show ((t + 1 : Nat) : Int) + 1 = (t : Int) + 1 + 1 by omega], by omega, by omega, by omega, Nat.le_refl _, HLEN, HBF, HROW⟩
     ·obtain ⟨rest', hrow, hrun⟩ := CB wr 0 g c q base cur rest HR.out (by rw [HCL.out]; omega) (c - q)
      have htk : cur.take q = comp e l := by
       rw [← HCU.out, List.take_append_of_le_length (by rw [HL.out]; exact Nat.le_refl _), List.take_of_length_le (by rw [HL.out]; exact Nat.le_refl _), List.take_of_length_le (by rw [HN.out]; omega)]
      rw [htk, HCL.out] at hrow
      rw [HCL.out] at hrun
      have hql : (comp e l).length = q := by rw [← htk, List.length_take, HCL.out]; omega
      obtain ⟨w6, hw6⟩ : ∃ w6, w6 = (wr.setRow g ((flat cur ++ rest).take (q * 5) ++ (Builtin.zeroCells zRR.cells (n - q)).toList ++ (flat cur ++ rest).drop (q * 5 + (Builtin.zeroCells zRR.cells (n - q)).toList.length)).toArray) := ⟨_, rfl⟩
      rw [← hw6] at hrow hrun
      have hgw : wr.grownBy w6 (some g) := by rw [hw6]; exact ⟨rfl, rfl, rfl, by simp, fun k hk hkg => setRow_other _ _ _ _ (fun e => hkg (by rw [e]))⟩
      have hBF := HB.out.grown hgw (Nat.le_trans HR.out.lo (Nat.le_of_lt (eU HR.out.blk))) (fun k hk => by injection hk with hk; subst hk; exact HR.out.lo)
      have HROW := Lib.hid hrow
      have HBF := Lib.hid hBF
      have HQL := Lib.hid hql
      have HRUN := Lib.hid hrun
      have c1 : ¬ ((t : Int) + 1 < ((n - (j + 1) : Nat) : Int)) := by omega
      have c2 : (0 : Int) ≤ (q : Int) := by omega
      have c3 : (q : Int) ≤ (n : Int) := by omega
      have c4 : ¬ (c = q) := by omega
      have c5 : (q : Int) ≤ (c : Int) := by omega
      have c6 : q ≤ n := by omega
      clear hrow hBF hgw hrun htk hql hw6 HB HR
      go_wp2_with fail
      rw [HRUN.out, Result.andThen_ok, Oper.upon_value]
      rename_i K1 hK1
      first | refine hK1 _ _ ?_ | (rename_i K2 hK2; refine hK2 _ _ ?_)
      simp only [Act.put]
      go_wp2_with fail
      go_ret
      have hR := HROW.out.R HOK.out
      rw [HQL.out] at hR
      exact ⟨_, rfl, hR, HBF.out⟩
  ·obtain rfl : k = n := by omega
   have b1 : ¬ ((k : Int) < (k : Int)) := by omega
   go_wp2_with fail
   go_ret
   have hs := xX e l l.length (Nat.le_refl _) (fun i hi h1 => HS.out i hi (by rw [← HN.out]; exact h1))
   rw [List.take_length] at hs
   rw [hs, ← HN.out]
   exact ⟨_, rfl, HR.out.R HOK.out, HB.out⟩
end Go.Y.Rrs
namespace Go.Y.bY
open Go.Y.Rrs
theorem CP {α : Type} {c : α → α → Int} (O : dV c) (l : List α) {a b : α} (h : c a b = 0) : kZ (fun x y => c x y == 0) b l = kZ (fun x y => c x y == 0) a l := by
 cases l with
 | nil => rfl
 | cons x l => rw [kZ, kZ, O.congr a b x h]
theorem AU {α : Type} {c : α → α → Int} (O : dV c) : ∀ (n : Nat) (l : List α), l.length = n → comp (fun x y => c x y == 0) l = firsts c l := by
 intro n
 induction n with
 | zero => intro l h; obtain rfl := List.length_eq_zero_iff.mp h; rw [firsts, comp]
 | succ n ih =>
  intro l h
  match l, h with
  | [a], _ => rw [firsts, comp, kZ]
  | a :: b :: l, h =>
   rw [firsts, comp, kZ]
   by_cases h0 : c a b = 0
   ·have h1 : (c b a == 0) = true := by rw [beq_iff_eq]; exact O.symm h0
    rw [if_pos h1, if_pos h0, CP O l h0, ← ih (a :: l) (by simpa using h), comp]
   ·have h1 : ¬ (c b a == 0) = true := by rw [beq_iff_eq]; exact fun e => h0 (O.symm e)
    rw [if_neg h1, if_neg h0, ← ih (b :: l) (by simpa using h), comp]
end Go.Y.bY
namespace Go.Y.Rrs
open Go.Proofs.ah.av Go.Proofs.ah.aT Go.Proofs.ah.aU Go.Y.Given Go.Y.PRd Go.Y.PRr Go.Y.PSo Go.Y.bY
theorem KI (x y : RR) (hx : fine x) (hy : fine y) : kg.f 1000 x.f0 x.f1 x.f2 x.f3 x.f4 y.f0 y.f1 y.f2 y.f3 y.f4 = some (bP x y == 0) := by
 unfold kg.f
 rw [show dM.f 1000 x.f0 x.f1 x.f2 x.f3 x.f4 y.f0 y.f1 y.f2 y.f3 y.f4 = some (bP x y) from BN x y hx.1 hy.1 hx.2 hy.2 1000 (Nat.le_refl _)]
 rfl
theorem compact_all (l : List RR) (hl : ∀ y ∈ l, fine y) (hn : l.length ≤ 1000000) (base : Nat) (ok : Nat → Prop) (w0 w : World) (hB : Below base w0 w) (v : Value) (HO : Kd.R kRR tRR w base ok v l) :
  Calls Tryz.prog 39 #[v, .func (.func 40) #[] #[]] w fun en w' => ∃ v', en = .returned v' ∧ Kd.R kRR tRR w' base ok v' (firsts bP l) ∧ Below base w0 w' := by
 rw [← AU jh l.length l rfl]
 by_cases h2 : 2 ≤ l.length
 ·rcases Row.Kw HO with ⟨_, rfl⟩ | ⟨g, c, rest, rfl, hg, hr⟩
  ·simp at h2
  ·exact Ao 1000 l (fun x y => bP x y == 0) (fun x hx y hy => KI x y (hl x hx) (hl y hy)) hn h2 base ok w0 w hB g c rest hr hg
 ·have hc : comp (fun x y => bP x y == 0) l = l := by
   match l, h2 with
   | [], _ => rfl
   | [a], _ => rfl
   | a :: b :: l, h => simp at h
  rw [hc]
  obtain ⟨A, c, rfl⟩ := Kd.cO HO
  have HR := Lib.hid HO
  have HB := Lib.hid hB
  obtain ⟨n, hnn⟩ : ∃ n, l.length = n := ⟨_, rfl⟩
  rw [hnn] at HR h2 ⊢
  clear HO hB hc hnn hn
  have b0 : (n : Int) < 2 := by omega
  go_enter Tryz.func39, Tryz.ntmps39
  go_wp2_with fail
  go_ret
  exact ⟨_, rfl, HR.out, HB.out⟩
theorem Je (w : World) : Calls Tryz.prog 37 #[.slice none 0 0] w fun e w' => e = .returned (.tuple #[]) ∧ w' = w := by
 go_enter Tryz.func37, Tryz.ntmps37
 go_wp2
 refine wp_loop_rounds 1 ?_
 rw [rounds_succ]
 go_wp2
 go_end0
 exact ⟨rfl, rfl⟩
theorem IK (w : World) : Calls Tryz.prog 113 #[.slice none 0 0, .int .i64 0, .int .i64 0, nR] w fun e w' => e = .returned (.tuple #[]) ∧ w' = w := by
 go_enter Tryz.func113, Tryz.ntmps113
 go_wp2
 refine wp_loop_rounds 1 ?_
 rw [rounds_succ]
 go_wp2
 go_end0
 exact ⟨rfl, rfl⟩
theorem BZ (w : World) : Calls Tryz.prog 78 #[.slice none 0 0, .int .i64 0, nR] w fun e w' => e = .returned (.tuple #[]) ∧ w' = w := by
 have HI := Lib.hid IK
 go_enter Tryz.func78, Tryz.ntmps78
 go_wp2
 refine wp_loop_rounds 1 ?_
 rw [rounds_succ]
 go_wp2_with fail
 refine (HI.out w).mono ?_
 rintro e w1 ⟨rfl, rfl⟩
 go_wp2_with fail
 refine wp_loop_rounds 1 ?_
 rw [rounds_succ]
 go_wp2
 go_end0
 exact ⟨rfl, rfl⟩
theorem AY {A : Option Addr} {N c : Nat} {w : World} {R : World → Prop} (h : Calls Tryz.prog 78 #[.slice A N c, .int .i64 (N : Int), nR] w fun e w' => e = .returned (.tuple #[]) ∧ R w') :
  Calls Tryz.prog 38 #[.slice A N c, nR] w fun e w' => e = .returned (.tuple #[]) ∧ R w' := by
 have H := Lib.hid h
 clear h
 go_enter Tryz.func38, Tryz.ntmps38
 go_wp2_with fail
 refine H.out.mono ?_
 rintro e w1 ⟨rfl, hR⟩
 have HR := Lib.hid hR
 clear hR
 go_wp2_with fail
 go_end0
 exact ⟨rfl, HR.out⟩
end Go.Y.Rrs
namespace Go.Y.Given
open Go.Proofs.ah.av Go.Proofs.ah.aT Go.Proofs.ah.aU Go.Y.PRd Go.Y.PRr Go.Y.PSo Go.Y.Rrs Go.Y.bY
open Classical in
noncomputable def kQ.f (l0 : List (S28)) : Option (List (S28)) := if (∀ y ∈ l0, fine y) ∧ l0.length ≤ 1000000 then some (ofL bP l0) else none
theorem KU {l : List RR} (hl : ∀ y ∈ l, fine y) (hn : l.length ≤ 1000000) : kQ.f l = some (ofL bP l) := by
 unfold kQ.f
 rw [if_pos ⟨hl, hn⟩]
theorem kQ.calls (A0 : Option Addr) (c0 : Nat) (l0 : List (S28)) (r : List (S28)) (w : World) (hr0 : Kd.C k28 w A0 l0.length l0) (hc0 : l0.length ≤ c0) (h : kQ.f l0 = some r) :
  Calls Tryz.prog 14 #[.slice A0 l0.length c0] w fun e w' => ∃ v0_ : Value, e = .returned (v0_) ∧ Kd.R k28 28 w' w.heap.size (fun _ => True) v0_ r ∧ Below w.heap.size w w' := by
 unfold kQ.f at h
 have hS : (∀ y ∈ l0, fine y) ∧ l0.length ≤ 1000000 := Classical.byContradiction fun hn => by rw [if_neg hn] at h; cases h
 rw [if_pos hS] at h
 injection h with h
 obtain ⟨hf, hn⟩ := hS
 have hcl : slices_Clone.f l0 = some l0 := by unfold slices_Clone.f; rw [if_pos hn]
 have hfr : ∀ y ∈ l0.reverse, fine y := fun y hy => hf y (List.mem_reverse.mp hy)
 have HCL := Lib.hid (fun W hC => slices_Clone.calls A0 c0 l0 l0 W hC hc0 hcl)
 have HCP := Lib.hid (fun m hfm hnm v W hB hR => compact_all m hfm hnm w.heap.size (fun _ => True) w W hB v hR)
 have HR := Lib.hid hr0
 have HFR := Lib.hid hfr
 have HOF := Lib.hid h
 have HN := Lib.hid hn
 clear hr0 hcl hfr h hf hn
 go_enter Tryz.func14, Tryz.ntmps14
 go_wp2_with fail
 refine (HCL.out w HR.out).mono ?_
 rintro e w1 ⟨v, rfl, hv, hb1⟩
 rcases Row.Kw hv with ⟨rfl, hl⟩ | ⟨g, cap, rest, rfl, hok, hrow⟩
 ·have HOF2 : Hid (firsts bP ([] : List RR) = r) := Lib.hid (by rw [xL jh (show cZ bP ([] : List RR).reverse [] from cZ.qp List.Pairwise.nil), ← hl]; exact HOF.out)
  have HV := Lib.hid hv
  have HB := Lib.hid hb1
  have HRV := Lib.hid (Je w1)
  have HST := Lib.hid (AY (c := 0) (R := fun w' => w' = w1) (BZ w1))
  have HCC := HCP.out [] (fun y hy => by cases hy) (by simp) (.slice none 0 0) w1 HB.out (by rw [hl] at hv; exact hv)
  have HC := Lib.hid HCC
  clear HOF HCC hv hb1 hl
  go_wp2_with fail
  refine HRV.out.mono ?_
  rintro e w2 ⟨rfl, rfl⟩
  go_wp2_with fail
  refine HST.out.mono ?_
  rintro e w3 ⟨rfl, rfl⟩
  go_wp2_with fail
  refine HC.out.mono ?_
  rintro e w4 ⟨v4, rfl, hv4, hb4⟩
  have HV4 := Lib.hid hv4
  have HB4 := Lib.hid hb4
  clear hv4 hb4
  go_wp2_with fail
  go_ret
  exact ⟨_, rfl, by rw [← HOF2.out]; exact HV4.out, HB4.out⟩
 ·obtain ⟨N, hN⟩ : ∃ N, l0.length = N := ⟨_, rfl⟩
  have HL := Lib.hid hN
  have hnn : N ≤ 1000000 := by rw [← hN]; exact HN.out
  have HRV := Lib.hid (FZ (w0 := w) (base := w.heap.size) (g := g) (c := cap) (rest := rest) l0 hnn hN w1 ⟨hrow, hb1⟩)
  have HST := Lib.hid (fun W ho => AY (AO (w0 := w) (base := w.heap.size) (g := g) (c := cap) (rest := rest) l0.reverse HFR.out hnn (by rw [List.length_reverse]; exact hN) W ho))
  rw [hN]
  clear hv hb1 hrow hN
  go_wp2_with fail
  refine HRV.out.mono ?_
  rintro e w2 ⟨rfl, ho⟩
  have HO := Lib.hid ho
  clear ho HRV
  go_wp2_with fail
  refine (HST.out w2 HO.out).mono ?_
  rintro e w3 ⟨rfl, m, g1, g2, g3⟩
  have hcp := HCP.out m (fun y hy => HFR.out y (g1.mem jh hy)) (by rw [g2]; exact hnn) _ w3 g3.2 (g3.1.R trivial)
  rw [g2] at hcp
  have HOF2 : Hid (firsts bP m = r) := Lib.hid (by rw [xL jh g1]; exact HOF.out)
  have HC := Lib.hid hcp
  clear hcp g1 g2 g3 HO HST
  go_wp2_with fail
  refine HC.out.mono ?_
  rintro e w4 ⟨v4, rfl, hv4, hb4⟩
  have HV4 := Lib.hid hv4
  have HB4 := Lib.hid hb4
  clear hv4 hb4
  go_wp2_with fail
  go_ret
  exact ⟨_, rfl, by rw [← HOF2.out]; exact HV4.out, HB4.out⟩
end Go.Y.Given
namespace Go.Y.Rrs
open Go.Proofs.ah.av Go.Proofs.ah.aT Go.Proofs.ah.aU Go.Y.Given Go.Y.PRd Go.Y.PRr
def xq (pr : RR → Bool) (l : List RR) : Int := match l.findIdx? pr with | some i => (i : Int) | none => -1
theorem Ej (l : List RR) (pr : RR → Bool) (hn : l.length ≤ 1000000) (F : FuncId) (fn : Func) (cb : Array Value) (hf : Tryz.prog.funcs[F]? = some fn) (hname : (fn.name == "runtime.NumGoroutine") = false) (hb : fn.body.isSome = true) (A0 : Option Addr) (c0 : Nat) (w : World) (hC : Kd.C kRR w A0 l.length l)
  (hstep : ∀ x ∈ l, ∀ W, Below w.heap.size w W → Calls Tryz.prog F (#[x.v] ++ cb) W fun e w' => e = .returned (.bool (pr x)) ∧ Below W.heap.size W w') :
  Calls Tryz.prog 84 #[.slice A0 l.length c0, .func (.func F) #[] cb] w fun e w' => e = .returned (.int .i64 (xq pr l)) ∧ Below w.heap.size w w' := by
 have hu41 := Tryz.underlying28
 have HF := Lib.hid hf
 have HNM := Lib.hid hname
 have HBD := Lib.hid hb
 have HR := Lib.hid hC
 have HST := Lib.hid hstep
 obtain ⟨n, hnn⟩ : ∃ n, l.length = n := ⟨_, rfl⟩
 have HN := Lib.hid hnn
 rw [hnn] at hn ⊢
 have HB := Lib.hid (Below.refl w.heap.size w)
 clear hf hname hb hC hstep hnn
 go_enter Tryz.func84, Tryz.ntmps84
 go_wp2_with fail
 go_loopg [8] n (fun kx s8 wr => ∃ i : Nat, s8 = .int .i64 (i : Int) ∧ i ≤ n ∧ n - i ≤ kx ∧ Hid (∀ t (ht : t < l.length), t < i → pr l[t] = false) ∧ Hid (Below w.heap.size w wr))
 case atStart => exact ⟨0, rfl, by omega, by omega, Lib.hid (fun t ht h => by omega), Lib.hid HB.out⟩
 case round =>
  clear HB
  obtain ⟨i, rfl, hin, hik, HS, HB⟩ := hrel
  by_cases hlt : i < n
  ·have p1 : (0 : Int) ≤ (i : Int) := by omega
   have q1 : (i : Int) < (l.length : Int) := by rw [HN.out]; omega
   obtain ⟨ad, e1, hx0, hx1, hx2, hx3, hx4⟩ := iD HR.out (i : Int) p1 q1
   cases e1
   rw [Int.toNat_natCast] at hx0 hx1 hx2 hx3 hx4
   replace hx0 := (HB.out.cell (World.block_lt_of_cell? w _ hx0)).trans hx0
   replace hx1 := (HB.out.cell (World.block_lt_of_cell? w _ hx1)).trans hx1
   replace hx2 := (HB.out.cell (World.block_lt_of_cell? w _ hx2)).trans hx2
   replace hx3 := (HB.out.cell (World.block_lt_of_cell? w _ hx3)).trans hx3
   replace hx4 := (HB.out.cell (World.block_lt_of_cell? w _ hx4)).trans hx4
   have q2 : (i : Int) < (n : Int) := by omega
   obtain ⟨x, hx⟩ : ∃ x, rdR l (i : Nat) = x := ⟨_, rfl⟩
   rw [show aC l (i : Int) = x from hx] at hx0 hx1 hx2 hx3 hx4
   have hxl : x = l[i]'(by rw [HN.out]; exact hlt) := by rw [← hx, fE l i (by rw [HN.out]; exact hlt)]
   have hxm : x ∈ l := by rw [hxl]; exact List.getElem_mem _
   have HX := Lib.hid hxl
   have hcall := HST.out x hxm wr HB.out
   have HCALL := Lib.hid hcall
   have hw1 : IntKind.i64.wrap ((i : Int) + 1) = (i : Int) + 1 := by rw [IntKind.wrap_i64]; omega
   clear hcall hxm hxl hx q1
   go_wp2_with fail
   rw [tq HF.out HNM.out HBD.out, Oper.upon_enter]
   refine (HCALL.out).mono ?_
   rintro e w4 ⟨rfl, hb4⟩
   have HB4 := Lib.hid (eY HB.out HB.out.size hb4)
   clear hb4 HB HCALL hx0 hx1 hx2 hx3 hx4
   generalize hd : pr x = d
   have HD := Lib.hid hd
   clear hd
   cases d with
   | true =>
    go_wp2_with fail
    go_ret
    refine ⟨?_, HB4.out⟩
    have hfi : l.findIdx? pr = some i := by
     rw [List.findIdx?_eq_some_iff_getElem]
     refine ⟨by rw [HN.out]; exact hlt, by rw [← HX.out]; exact HD.out, fun j hj => ?_⟩
     rw [HS.out j (by rw [HN.out]; omega) hj]; decide
    unfold xq
    rw [hfi]
    rfl
   | false =>
    go_wp2_with fail
    go_roundg (n - (i + 1))
    case measure => omega
    case rel => exact ⟨i + 1, by rw [show ((i + 1 : Nat) : Int) = (i : Int) + 1 by omega], by omega, Nat.le_refl _, Lib.hid (fun t ht h => by
     by_cases e : t = i
     ·subst e; rw [← HX.out]; exact HD.out
     ·exact HS.out t ht (by omega)), HB4⟩
  ·obtain rfl : i = n := by omega
   have b1 : ¬ ((i : Int) < (i : Int)) := by omega
   go_wp2_with fail
   go_ret
   refine ⟨?_, HB.out⟩
   have hfi : l.findIdx? pr = none := by
    rw [List.findIdx?_eq_none_iff]
    intro y hy
    obtain ⟨t, ht, rfl⟩ := List.getElem_of_mem hy
    exact HS.out t ht (by rw [← HN.out]; exact ht)
   unfold xq
   rw [hfi]
   rfl
theorem sH (l : List RR) (pr : RR → Bool) (hn : l.length ≤ 1000000) (F : FuncId) (fn : Func) (cb : Array Value) (hf : Tryz.prog.funcs[F]? = some fn) (hname : (fn.name == "runtime.NumGoroutine") = false) (hb : fn.body.isSome = true) (A0 : Option Addr) (c0 : Nat) (w : World) (hC : Kd.C kRR w A0 l.length l)
  (hstep : ∀ x ∈ l, ∀ W, Below w.heap.size w W → Calls Tryz.prog F (#[x.v] ++ cb) W fun e w' => e = .returned (.bool (pr x)) ∧ Below W.heap.size W w') :
  Calls Tryz.prog 48 #[.slice A0 l.length c0, .func (.func F) #[] cb] w fun e w' => e = .returned (.bool (l.any pr)) ∧ Below w.heap.size w w' := by
 have hi := Ej l pr hn F fn cb hf hname hb A0 c0 w hC hstep
 have he : decide (0 ≤ xq pr l) = l.any pr := by
  unfold xq
  cases h : l.findIdx? pr with
  | none =>
   rw [List.findIdx?_eq_none_iff] at h
   have : l.any pr = false := by rw [List.any_eq_false]; intro x hx; rw [h x hx]; decide
   rw [this]; decide
  | some i =>
   obtain ⟨hi, hp, _⟩ := List.findIdx?_eq_some_iff_getElem.mp h
   have : l.any pr = true := List.any_eq_true.mpr ⟨_, List.getElem_mem hi, hp⟩
   rw [this]
   exact decide_eq_true (by simp)
 have HI := Lib.hid hi
 have HE := Lib.hid he
 clear hi he hf hname hb hC hstep hn
 generalize l.length = n at HI ⊢
 generalize hz : xq pr l = z at HI HE
 clear hz
 go_enter Tryz.func48, Tryz.ntmps48
 go_wp2_with fail
 refine (HI.out).mono ?_
 rintro e w1 ⟨rfl, hb1⟩
 have HB := Lib.hid hb1
 clear hb1 HI
 go_wp2_with fail
 go_ret
 exact ⟨by rw [← HE.out]; rfl, HB.out⟩
end Go.Y.Rrs
namespace Go.Y.Rrs
open Go.Proofs.ah.av Go.Proofs.ah.aT Go.Proofs.ah.aU Go.Y.Given Go.Y.PRd Go.Y.PRr
theorem Eu (k : Nat) (x : RR) (b : Bool) (w : World) (h : bA.f k x.f0 x.f1 x.f2 x.f3 x.f4 = some b) :
  Calls Tryz.prog 49 (#[x.v] ++ #[]) w fun e w' => e = .returned (.bool (!b)) ∧ Below w.heap.size w w' := by
 have hu41 := Tryz.underlying28
 have HB := aj.mk (Below.refl w.heap.size w)
 have HA := Lib.hid h
 clear h
 show Calls Tryz.prog 49 #[.agg #[.string x.f0, .int .i64 x.f1, .int .i64 x.f2, .int .i64 x.f3, .string x.f4]] w _
 go_enter Tryz.func49, Tryz.ntmps49
 go_wp2_with (first | ((with_reducible refine bU (N := 1) rfl ?_); refine dw ?hg (N := 1) ?hd (cs := #[.string x.f0, .int .i64 x.f1, .int .i64 x.f2, .int .i64 x.f3, .string x.f4]) (t := 28) ?hr ?_; (case hd => rfl); (case hg => rfl); (case hr => first | (go_simp; done) | (go_simp; rfl)); intro gb hg w3 hbox hb; have n0_ := aj.mk (au (HB.out) hb); have n1_ := aj.mk (hbox); clear HB; have HB := n0_; have BK := n1_; clear n0_ n1_; clear hb hbox hg; have hcz0 : w3.cell? ⟨gb, 0, none⟩ = some (.string x.f0) := (aG BK.out 0).trans rfl; have hcz1 : w3.cell? ⟨gb, 1, none⟩ = some (.int .i64 x.f1) := (aG BK.out 1).trans rfl; have hcz2 : w3.cell? ⟨gb, 2, none⟩ = some (.int .i64 x.f2) := (aG BK.out 2).trans rfl; have hcz3 : w3.cell? ⟨gb, 3, none⟩ = some (.int .i64 x.f3) := (aG BK.out 3).trans rfl; have hcz4 : w3.cell? ⟨gb, 4, none⟩ = some (.string x.f4) := (aG BK.out 4).trans rfl))
 refine (bA.calls k x.f0 x.f1 x.f2 x.f3 x.f4 b w3 HA.out).mono ?_
 rintro e w4 ⟨rfl, hb4⟩
 have HB4 := Lib.hid (eY HB.out HB.out.size hb4)
 clear hb4 HB
 go_wp2_with fail
 go_ret
 exact ⟨rfl, HB4.out⟩
theorem Et (k : Nat) (x : RR) (n : ByteArray) (b : Bool) (g : Nat) (w : World) (hc : w.cell? ⟨g, 0, none⟩ = some (.string n)) (h : fD.f k n x.f0 x.f1 x.f2 x.f3 x.f4 = some b) :
  Calls Tryz.prog 53 (#[x.v] ++ #[.pointer (some ⟨g, 0, none⟩)]) w fun e w' => e = .returned (.bool (!b)) ∧ Below w.heap.size w w' := by
 have hu41 := Tryz.underlying28
 have HB := aj.mk (Below.refl w.heap.size w)
 have HC := Lib.hid hc
 have HA := Lib.hid h
 clear hc h
 show Calls Tryz.prog 53 #[.agg #[.string x.f0, .int .i64 x.f1, .int .i64 x.f2, .int .i64 x.f3, .string x.f4], .pointer (some ⟨g, 0, none⟩)] w _
 go_enter Tryz.func53, Tryz.ntmps53
 go_wp2_with (first | ((with_reducible refine bU (N := 2) rfl ?_); refine dw ?hg (N := 2) ?hd (cs := #[.string x.f0, .int .i64 x.f1, .int .i64 x.f2, .int .i64 x.f3, .string x.f4]) (t := 28) ?hr ?_; (case hd => rfl); (case hg => rfl); (case hr => first | (go_simp; done) | (go_simp; rfl)); intro gb hg w3 hbox hb; have n0_ := aj.mk (au (HB.out) hb); have n1_ := aj.mk (hbox); clear HB; have HB := n0_; have BK := n1_; have hc3 : w3.cell? ⟨g, 0, none⟩ = some (.string n) := (HB.out.cell (World.block_lt_of_cell? w _ HC.out)).trans HC.out; clear n0_ n1_; clear hb hbox hg; have hcz0 : w3.cell? ⟨gb, 0, none⟩ = some (.string x.f0) := (aG BK.out 0).trans rfl; have hcz1 : w3.cell? ⟨gb, 1, none⟩ = some (.int .i64 x.f1) := (aG BK.out 1).trans rfl; have hcz2 : w3.cell? ⟨gb, 2, none⟩ = some (.int .i64 x.f2) := (aG BK.out 2).trans rfl; have hcz3 : w3.cell? ⟨gb, 3, none⟩ = some (.int .i64 x.f3) := (aG BK.out 3).trans rfl; have hcz4 : w3.cell? ⟨gb, 4, none⟩ = some (.string x.f4) := (aG BK.out 4).trans rfl))
 refine (fD.calls k n x.f0 x.f1 x.f2 x.f3 x.f4 b w3 HA.out).mono ?_
 rintro e w4 ⟨rfl, hb4⟩
 have HB4 := Lib.hid (eY HB.out HB.out.size hb4)
 clear hb4 HB
 go_wp2_with fail
 go_ret
 exact ⟨rfl, HB4.out⟩
end Go.Y.Rrs
namespace Go.Y.Given
open Go.Proofs.ah.av Go.Proofs.ah.aT Go.Proofs.ah.aU Go.Y.PRd Go.Y.PRr Go.Y.Rrs
noncomputable def uV (p : RR → Option Bool) (l : List RR) : Option Bool := open Classical in if l.length ≤ 1000000 ∧ ∀ x ∈ l, (p x).isSome = true then some (l.any fun x => !(p x).getD false) else none
theorem xR {p : RR → Option Bool} {l : List RR} {r : Bool} (h : uV p l = some r) : l.length ≤ 1000000 ∧ (∀ x ∈ l, (p x).isSome = true) ∧ r = l.any fun x => !(p x).getD false := by
 unfold uV at h
 split at h
 ·rename_i hn
  injection h with h
  exact ⟨hn.1, hn.2, h.symm⟩
 ·cases h
noncomputable def iA.f (k : Nat) (l0 : List (S28)) (a1 : Int) : Option Bool := uV (fun x => bA.f k x.f0 x.f1 x.f2 x.f3 x.f4) l0
theorem iA.calls (k : Nat) (A0 : Option Addr) (c0 : Nat) (l0 : List (S28)) (a1 : Int) (r : Bool) (w : World) (hr0 : Kd.C k28 w A0 l0.length l0) (hc0 : l0.length ≤ c0) (h : iA.f k l0 a1 = some r) :
  Calls Tryz.prog 48 #[.slice A0 l0.length c0, .func (.func 49) #[] #[]] w fun e w' => e = .returned (.bool r) ∧ Below w.heap.size w w' := by
 obtain ⟨h1, h2, rfl⟩ := xR h
 exact sH l0 (fun x => !(bA.f k x.f0 x.f1 x.f2 x.f3 x.f4).getD false) h1 49 Tryz.f49 #[] Tryz.func49 (by kernel_rfl) rfl A0 c0 w hr0 (fun x hx W _ => by
  obtain ⟨b, hb⟩ := Option.isSome_iff_exists.mp (h2 x hx)
  rw [hb]
  exact Eu k x b W hb)
noncomputable def lg.f (k : Nat) (l0 : List (S28)) (a1 : ByteArray) : Option Bool := uV (fun x => fD.f k a1 x.f0 x.f1 x.f2 x.f3 x.f4) l0
theorem lg.calls (k : Nat) (A0 : Option Addr) (c0 : Nat) (l0 : List (S28)) (a1 : ByteArray) (r : Bool) (w : World) (hr0 : Kd.C k28 w A0 l0.length l0) (hc0 : l0.length ≤ c0) (h : lg.f k l0 a1 = some r) (g : Nat) (hg : w.cell? ⟨g, 0, none⟩ = some (.string a1)) :
  Calls Tryz.prog 48 #[.slice A0 l0.length c0, .func (.func 53) #[] #[.pointer (some ⟨g, 0, none⟩)]] w fun e w' => e = .returned (.bool r) ∧ Below w.heap.size w w' := by
 obtain ⟨h1, h2, rfl⟩ := xR h
 exact sH l0 (fun x => !(fD.f k a1 x.f0 x.f1 x.f2 x.f3 x.f4).getD false) h1 53 Tryz.f53 #[.pointer (some ⟨g, 0, none⟩)] Tryz.func53 (by kernel_rfl) rfl A0 c0 w hr0 (fun x hx W hW => by
  obtain ⟨b, hb⟩ := Option.isSome_iff_exists.mp (h2 x hx)
  rw [hb]
  exact Et k x a1 b g W ((hW.cell (World.block_lt_of_cell? w _ hg)).trans hg) hb)
end Go.Y.Given
namespace Go.Y.PZo
open Go.Proofs.ah.av Go.Proofs.ah.aT Go.Proofs.ah.aU Go.Y.Given Go.Y.PRd Go.Y.PRr
attribute [local go_sem] dB dD dQ dP cK cB dA dF
def je : Option Int → Value
 | none => .nilIface
 | some c => .iface 0 (.int .i64 c)
theorem iZ : je none = .nilIface := rfl
theorem jd (c : Int) : je (some c) = .iface 0 (.int .i64 c) := rfl
end Go.Y.PZo
namespace Go.Y.PZo
open Go.Proofs.ah.av Go.Proofs.ah.aT Go.Proofs.ah.aU Go.Y.Given Go.Y.PRd Go.Y.PRr
attribute [local go_sem] dB dD dQ dP cK cB dA dF
theorem Ip (d : Nat) (w : World) (x0 y0 : ByteArray) (x1 y1 : Int) (x2 y2 : Int) (x3 y3 : Int) (x4 y4 : ByteArray) :
  (Op.equalIn (d + 2) 28 (.agg #[.string x0, .int .i64 x1, .int .i64 x2, .int .i64 x3, .string x4]) (.agg #[.string y0, .int .i64 y1, .int .i64 y2, .int .i64 y3, .string y4])).run Tryz.prog w = .ok (x0.toList == y0.toList && (x1 == y1 && (x2 == y2 && (x3 == y3 && (x4.toList == y4.toList))))) w := by
 refine Fp Tryz.underlying28 (by kernel_rfl) ?_
 refine kM (by rfl) (by go_simp; rfl) (by go_simp; rfl) (by go_simp) ?_
 refine kM (by rfl) (by go_simp; rfl) (by go_simp; rfl) (by go_simp) ?_
 refine kM (by rfl) (by go_simp; rfl) (by go_simp; rfl) (by go_simp) ?_
 refine kM (by rfl) (by go_simp; rfl) (by go_simp; rfl) (by go_simp) ?_
 exact zy (by rfl) (by go_simp; rfl) (by go_simp; rfl) (by go_simp)
end Go.Y.PZo
namespace Go.Y.PZo
open Go.Proofs.ah.av Go.Proofs.ah.aT Go.Proofs.ah.aU Go.Y.Given Go.Y.PRd Go.Y.PRr
attribute [local go_sem] dB dD dQ dP cK cB dA dF
attribute [local go_sem high] Ip
noncomputable def fB.l0 : Nat → List (S28) → Int → Int → ByteArray → Int → Int → Int → ByteArray → Option (Int)
 | 0, _, _, _, _, _, _, _, _ => none
 | k + 1, x0, x7, x8, x102000, x102001, x102002, x102003, x102004 => if x8 < x7 then (if 0 ≤ x8 then (if x8 < (x0.length : Int) then (if (x102000.toList == (((aC x0 x8).f0).toList) && (x102001 == ((aC x0 x8).f1) && (x102002 == ((aC x0 x8).f2) && (x102003 == ((aC x0 x8).f3) && (x102004.toList == (((aC x0 x8).f4).toList)))))) = true then (some x8) else (fB.l0 k x0 x7 (wrap64 (x8 + 1)) x102000 x102001 x102002 x102003 x102004)) else (none)) else (none)) else (some (-1))
noncomputable def fB.f (k : Nat) (l0 : List (S28)) (a1_0 : ByteArray) (a1_1 : Int) (a1_2 : Int) (a1_3 : Int) (a1_4 : ByteArray) : Option (Int) := fB.l0 k l0 (l0.length : Int) 0 a1_0 a1_1 a1_2 a1_3 a1_4
theorem fB.calls (k : Nat) (A0 : Option Addr) (c0 : Nat) (l0 : List (S28)) (a1_0 : ByteArray) (a1_1 : Int) (a1_2 : Int) (a1_3 : Int) (a1_4 : ByteArray) (r : Int) (w : World) (hr0 : Kd.C k28 w A0 l0.length l0) (hc0 : l0.length ≤ c0) (h : fB.f k l0 a1_0 a1_1 a1_2 a1_3 a1_4 = some r) :
    Calls Tryz.prog 57 #[.slice A0 l0.length c0, .agg #[.string a1_0, .int .i64 a1_1, .int .i64 a1_2, .int .i64 a1_3, .string a1_4]] w fun e w' => e = .returned (.int .i64 r) ∧ Below w.heap.size w w' := by
  have hu28 := Tryz.underlying28
  have HR0 := aj.mk hr0
  have HC0 := aj.mk hc0
  clear hr0 hc0
  have HB := aj.mk (Below.refl w.heap.size w)
  have H : (fB.l0 k l0 (l0.length : Int) 0 a1_0 a1_1 a1_2 a1_3 a1_4) = some r := h
  clear h
  have H' := aj.mk H
  clear H
  go_enter Tryz.func57, Tryz.ntmps57
  go_wp2_with ((((with_reducible refine bU (N := 3) rfl ?_); refine dw ?hg (N := 3) ?hd (cs := #[.string a1_0, .int .i64 a1_1, .int .i64 a1_2, .int .i64 a1_3, .string a1_4]) (t := 28) ?hr ?_; (case hd => rfl); (case hg => rfl); (case hr => (go_simp; done)); intro gb101 hg w3 hbox hb; have BK101 := aj.mk (hbox); have GW101 := aj.mk (ge_ hg (ay HB.out)); have GE101 := aj.mk (ge_ hg (ay HB.out)); replace HB := aj.mk (au HB.out hb); clear hb hbox hg)))
  repeat (go_quiet ((((with_reducible refine bU (N := 3) rfl ?_); refine dw ?hg (N := 3) ?hd (cs := #[.string a1_0, .int .i64 a1_1, .int .i64 a1_2, .int .i64 a1_3, .string a1_4]) (t := 28) ?hr ?_; (case hd => rfl); (case hg => rfl); (case hr => (go_simp; done)); intro gb101 hg w3 hbox hb; have BK101 := aj.mk (hbox); have GW101 := aj.mk (ge_ hg (ay HB.out)); have GE101 := aj.mk (ge_ hg (ay HB.out)); replace HB := aj.mk (au HB.out hb); clear hb hbox hg))); try go_wp2_with ((((with_reducible refine bU (N := 3) rfl ?_); refine dw ?hg (N := 3) ?hd (cs := #[.string a1_0, .int .i64 a1_1, .int .i64 a1_2, .int .i64 a1_3, .string a1_4]) (t := 28) ?hr ?_; (case hd => rfl); (case hg => rfl); (case hr => (go_simp; done)); intro gb101 hg w3 hbox hb; have BK101 := aj.mk (hbox); have GW101 := aj.mk (ge_ hg (ay HB.out)); have GE101 := aj.mk (ge_ hg (ay HB.out)); replace HB := aj.mk (au HB.out hb); clear hb hbox hg))))
  go_loopg [8] k (fun kq v8 w' => ∃ (x8_1 : Int), v8 = .int .i64 x8_1 ∧ aj (fB.l0 kq l0 (l0.length : Int) x8_1 a1_0 a1_1 a1_2 a1_3 a1_4 = some r) ∧ aj (kq ≤ k) ∧ aj (w'.heap[gb101]? = some (.cells #[.string a1_0, .int .i64 a1_1, .int .i64 a1_2, .int .i64 a1_3, .string a1_4] 28 (0, 0))) ∧ aj (Below w.heap.size w w'))
  case atStart => exact ⟨(0), (by rfl), H', ⟨Nat.le_refl _⟩, ⟨by (with_reducible repeat ((refine aA ?_ _))); exact BK101.out⟩, ⟨HB.out⟩⟩
  case round =>
   clear H'
   obtain ⟨x8_1, rfl, HA, HK1, BK101, HB⟩ := hrel
   cases gk with
   | zero => exact absurd HA.out (by simp [fB.l0])
   | succ k1 =>
    have H := HA.out
    clear HA
    simp only [fB.l0] at H
    by_cases c4 : x8_1 < (l0.length : Int)
    ·rw [if_pos c4] at H
     have c4b0 : decide (x8_1 < (l0.length : Int)) = true := decide_eq_true c4
     clear c4
     obtain ⟨c5b0, H⟩ := dX H
     obtain ⟨c6b0, H⟩ := dX H
     by_cases c7 : (a1_0.toList == (((aC l0 x8_1).f0).toList) && (a1_1 == ((aC l0 x8_1).f1) && (a1_2 == ((aC l0 x8_1).f2) && (a1_3 == ((aC l0 x8_1).f3) && (a1_4.toList == (((aC l0 x8_1).f4).toList)))))) = true
     focus
      rw [if_pos c7] at H
      have c7b0 : (a1_0.toList == (((aC l0 x8_1).f0).toList) && (a1_1 == ((aC l0 x8_1).f1) && (a1_2 == ((aC l0 x8_1).f2) && (a1_3 == ((aC l0 x8_1).f3) && (a1_4.toList == (((aC l0 x8_1).f4).toList)))))) = true := c7
      (try (have c7b1 : decide (a1_0.toList = (((aC l0 x8_1).f0).toList) && (a1_1 == ((aC l0 x8_1).f1) && (a1_2 == ((aC l0 x8_1).f2) && (a1_3 == ((aC l0 x8_1).f3) && (a1_4.toList == (((aC l0 x8_1).f4).toList)))))) = true := by simpa using c7))
      (try (have c7b2 : (a1_0.toList == (((aC l0 x8_1).f0).toList) && (a1_1 == ((aC l0 x8_1).f1) && (a1_2 == ((aC l0 x8_1).f2) && (a1_3 == ((aC l0 x8_1).f3) && (a1_4.toList == (((aC l0 x8_1).f4).toList)))))) = true := by simpa using c7))
      clear c7
      obtain rfl := Option.some.inj H
     rotate_left
     focus
      rw [if_neg c7] at H
      have c7b0 : (a1_0.toList == (((aC l0 x8_1).f0).toList) && (a1_1 == ((aC l0 x8_1).f1) && (a1_2 == ((aC l0 x8_1).f2) && (a1_3 == ((aC l0 x8_1).f3) && (a1_4.toList == (((aC l0 x8_1).f4).toList)))))) = false := by simpa using c7
      (try (have c7b1 : decide (a1_0.toList = (((aC l0 x8_1).f0).toList) && (a1_1 == ((aC l0 x8_1).f1) && (a1_2 == ((aC l0 x8_1).f2) && (a1_3 == ((aC l0 x8_1).f3) && (a1_4.toList == (((aC l0 x8_1).f4).toList)))))) = false := by simpa using c7))
      (try (have c7b2 : (a1_0.toList == (((aC l0 x8_1).f0).toList) && (a1_1 == ((aC l0 x8_1).f1) && (a1_2 == ((aC l0 x8_1).f2) && (a1_3 == ((aC l0 x8_1).f3) && (a1_4.toList == (((aC l0 x8_1).f4).toList)))))) = false := by simpa using c7))
      (try (have c7b3 : ¬ (a1_0.toList = (((aC l0 x8_1).f0).toList) && (a1_1 == ((aC l0 x8_1).f1) && (a1_2 == ((aC l0 x8_1).f2) && (a1_3 == ((aC l0 x8_1).f3) && (a1_4.toList == (((aC l0 x8_1).f4).toList)))))) := by simpa using c7))
      clear c7
      have H' := aj.mk H
      clear H
     rotate_left
     all_goals
      obtain ⟨hcz8_0, hcz8_1, hcz8_2, hcz8_3, hcz8_4, hfz8_0, hfz8_1, hfz8_2, hfz8_3, hfz8_4⟩ := z5_ BK101.out
      have p102 : 0 ≤ (x8_1 : Int) := of_decide_eq_true (by assumption)
      have q102 : x8_1 < (l0.length : Int) := of_decide_eq_true (by assumption)
      obtain ⟨ad102, e102, hx102_0, hx102_1, hx102_2, hx102_3, hx102_4⟩ := iD HR0.out x8_1 p102 q102
      cases e102
      replace hx102_0 := kp_ HB.out hx102_0
      replace hx102_1 := kp_ HB.out hx102_1
      replace hx102_2 := kp_ HB.out hx102_2
      replace hx102_3 := kp_ HB.out hx102_3
      replace hx102_4 := kp_ HB.out hx102_4
      replace p102 := eq_true p102
      replace q102 := eq_true q102
      go_wp2
      repeat (go_quiet (fail); try go_wp2)
     ·go_ret
      exact ⟨by rfl, by repeat ((with_reducible first | exact HB.out | apply aW))⟩
     ·go_roundg k1
      case measure => have := HK1.out; omega
      case rel => exact ⟨(wrap64 (x8_1 + 1)), (by rfl), H', ⟨by have := HK1.out; omega⟩, ⟨by (with_reducible repeat ((refine aA ?_ _))); exact BK101.out⟩, ⟨by repeat ((with_reducible first | exact HB.out | apply aW))⟩⟩
    ·rw [if_neg c4] at H
     have c4b0 : decide (x8_1 < (l0.length : Int)) = false := decide_eq_false c4
     clear c4
     obtain rfl := Option.some.inj H
     go_wp2
     repeat (go_quiet (fail); try go_wp2)
     go_ret
     exact ⟨by rfl, HB.out⟩
noncomputable def jg.f (a0_0 : ByteArray) (l0_1 : List (S28)) (a0_2 : Int) (a1 : ByteArray) : Option ((List (S28))) := (kV.f l0_1 a1).bind fun t104 => (some t104)
theorem jg.calls (a0_0 : ByteArray) (A0_1 : Option Addr) (c0_1 : Nat) (l0_1 : List (S28)) (a0_2 : Int) (a1 : ByteArray) (r : List (S28)) (w : World) (hr0_1 : Kd.C k28 w A0_1 l0_1.length l0_1) (hc0_1 : l0_1.length ≤ c0_1) (h : jg.f a0_0 l0_1 a0_2 a1 = some r) :
  Calls Tryz.prog 89 #[.agg #[.string a0_0, .slice A0_1 l0_1.length c0_1, .int .i64 a0_2], .string a1] w fun e w' => ∃ v0_ : Value, e = .returned (v0_) ∧ Kd.R k28 28 w' w.heap.size (fun _ => True) v0_ r ∧ Below w.heap.size w w' := by
 have hu31 := Tryz.underlying31
 have HR0_1 := aj.mk hr0_1
 have HC0_1 := aj.mk hc0_1
 clear hr0_1 hc0_1
 have HB := aj.mk (Below.refl w.heap.size w)
 have H : ((kV.f l0_1 a1).bind fun t104 => (some t104)) = some r := h
 clear h
 obtain ⟨t104, A3, H⟩ := cu H
 obtain rfl := Option.some.inj H
 go_enter Tryz.func89, Tryz.ntmps89
 go_wp2_with (first | ((with_reducible refine bU (N := 2) rfl ?_); refine dw ?hg (N := 2) ?hd (cs := #[.string a0_0, .slice A0_1 l0_1.length c0_1, .int .i64 a0_2]) (t := 31) ?hr ?_; (case hd => rfl); (case hg => rfl); (case hr => (go_simp; done)); intro gb103 hg w4 hbox hb; have BK103 := aj.mk (hbox); have GW103 := aj.mk (ge_ hg (ay HB.out)); have GE103 := aj.mk (ge_ hg (ay HB.out)); replace HB := aj.mk (au HB.out hb); clear hb hbox hg; obtain ⟨hcz5_0, hcz5_1, hcz5_2, hfz5_0, hfz5_1, hfz5_2⟩ := z3_ BK103.out) | (refine gl_ (some 8) Tryz.func120 #[.slice A0_1 l0_1.length c0_1, .string a1] ?_; (with_reducible refine (kV.calls _ _ l0_1 a1 t104 _ ?side1 ?side2 A3.out).mono ?_); (case side1 => repeat ((exact (Kd.eF HR0_1.out HB.out)))); (case side2 => exact HC0_1.out); rintro e w6 ⟨v105, rfl, ho0, hb⟩; refine ⟨_, rfl, ?_⟩; have HO106 := aj.mk (Kd.bS ho0 (ay HB.out)); replace BK103 := aj.mk (aI (by ((exact BK103.out))) hb); replace HB := aj.mk (au HB.out hb); (try clear hb); (try clear ho0)))
 go_ret
 exact ⟨_, by rfl, by (with_reducible repeat ((apply Kd.aN))); exact HO106.out, HB.out⟩
noncomputable def jH.f (a0_0 : ByteArray) (l0_1 : List (S28)) (a0_2 : Int) (a1 : ByteArray) (a2 : Int) : Option ((List (S28))) := (jg.f a0_0 l0_1 a0_2 a1).bind fun t108 => ((iI.f t108 a2).bind fun t111 => (some t111))
theorem jH.calls (a0_0 : ByteArray) (A0_1 : Option Addr) (c0_1 : Nat) (l0_1 : List (S28)) (a0_2 : Int) (a1 : ByteArray) (a2 : Int) (r : List (S28)) (w : World) (hr0_1 : Kd.C k28 w A0_1 l0_1.length l0_1) (hc0_1 : l0_1.length ≤ c0_1) (h : jH.f a0_0 l0_1 a0_2 a1 a2 = some r) :
  Calls Tryz.prog 52 #[.agg #[.string a0_0, .slice A0_1 l0_1.length c0_1, .int .i64 a0_2], .string a1, .int .i64 a2] w fun e w' => ∃ v0_ : Value, e = .returned (v0_) ∧ Kd.R k28 28 w' w.heap.size (fun _ => True) v0_ r ∧ Below w.heap.size w w' := by
 have hu31 := Tryz.underlying31
 have HR0_1 := aj.mk hr0_1
 have HC0_1 := aj.mk hc0_1
 clear hr0_1 hc0_1
 have HB := aj.mk (Below.refl w.heap.size w)
 have H : ((jg.f a0_0 l0_1 a0_2 a1).bind fun t108 => ((iI.f t108 a2).bind fun t111 => (some t111))) = some r := h
 clear h
 obtain ⟨t108, A4, H⟩ := cu H
 obtain ⟨t111, A5, H⟩ := cu H
 obtain rfl := Option.some.inj H
 go_enter Tryz.func52, Tryz.ntmps52
 go_wp2_with (first | ((with_reducible refine bU (N := 3) rfl ?_); refine dw ?hg (N := 3) ?hd (cs := #[.string a0_0, .slice A0_1 l0_1.length c0_1, .int .i64 a0_2]) (t := 31) ?hr ?_; (case hd => rfl); (case hg => rfl); (case hr => (go_simp; done)); intro gb107 hg w6 hbox hb; have BK107 := aj.mk (hbox); have GW107 := aj.mk (ge_ hg (ay HB.out)); have GE107 := aj.mk (ge_ hg (ay HB.out)); replace HB := aj.mk (au HB.out hb); clear hb hbox hg; obtain ⟨hcz7_0, hcz7_1, hcz7_2, hfz7_0, hfz7_1, hfz7_2⟩ := z3_ BK107.out) | (refine gl_ (some 9) Tryz.func89 #[.agg #[.string a0_0, .slice A0_1 l0_1.length c0_1, .int .i64 a0_2], .string a1] ?_; (with_reducible refine (jg.calls a0_0 _ _ l0_1 a0_2 a1 t108 _ ?side1 ?side2 A4.out).mono ?_); (case side1 => repeat ((exact (Kd.eF HR0_1.out HB.out)))); (case side2 => exact HC0_1.out); rintro e w8 ⟨v109, rfl, ho0, hb⟩; refine ⟨_, rfl, ?_⟩; have HO110 := aj.mk (Kd.bS ho0 (ay HB.out)); replace BK107 := aj.mk (aI (by ((exact BK107.out))) hb); replace HB := aj.mk (au HB.out hb); (try clear hb); (try clear ho0); obtain ⟨Ao9, co9, eo9⟩ := Kd.cO HO110.out; subst eo9) | (refine gl_ (some 11) Tryz.func51 #[.slice Ao9 t108.length co9, .int .i64 a2] ?_; (with_reducible refine (iI.calls _ _ t108 a2 t111 _ ?side1 ?side2 A5.out).mono ?_); (case side1 => exact (Kd.aX HO110.out).2.2); (case side2 => exact (Kd.aX HO110.out).2.1); rintro e w10 ⟨v112, rfl, ho0, hb⟩; refine ⟨_, rfl, ?_⟩; have HO113 := aj.mk (Kd.bS (Kd.iU ho0 (Kd.jS (by ((exact HO110.out))))) (ay HB.out)); replace HO110 := aj.mk (Kd.gK (by ((exact HO110.out))) (Kd.iV ho0) hb); replace BK107 := aj.mk (aI (by ((exact BK107.out))) hb); replace HB := aj.mk (au HB.out hb); (try clear hb); (try clear ho0)))
 go_ret
 exact ⟨_, by rfl, by (with_reducible repeat ((apply Kd.aN))); exact Kd.dn HO113.out (fun _ hk => trivial), HB.out⟩
noncomputable def iP.f (a0_0 : ByteArray) (l0_1 : List (S28)) (a0_2 : Int) : Option ((List (S28))) := (slices_Clone.f l0_1).bind fun t115 => (some t115)
theorem iP.calls (a0_0 : ByteArray) (A0_1 : Option Addr) (c0_1 : Nat) (l0_1 : List (S28)) (a0_2 : Int) (r : List (S28)) (w : World) (hr0_1 : Kd.C k28 w A0_1 l0_1.length l0_1) (hc0_1 : l0_1.length ≤ c0_1) (h : iP.f a0_0 l0_1 a0_2 = some r) :
  Calls Tryz.prog 30 #[.agg #[.string a0_0, .slice A0_1 l0_1.length c0_1, .int .i64 a0_2]] w fun e w' => ∃ v0_ : Value, e = .returned (v0_) ∧ Kd.R k28 28 w' w.heap.size (fun _ => True) v0_ r ∧ Below w.heap.size w w' := by
 have hu31 := Tryz.underlying31
 have HR0_1 := aj.mk hr0_1
 have HC0_1 := aj.mk hc0_1
 clear hr0_1 hc0_1
 have HB := aj.mk (Below.refl w.heap.size w)
 have H : ((slices_Clone.f l0_1).bind fun t115 => (some t115)) = some r := h
 clear h
 obtain ⟨t115, A2, H⟩ := cu H
 obtain rfl := Option.some.inj H
 go_enter Tryz.func30, Tryz.ntmps30
 go_wp2_with (first | ((with_reducible refine bU (N := 1) rfl ?_); refine dw ?hg (N := 1) ?hd (cs := #[.string a0_0, .slice A0_1 l0_1.length c0_1, .int .i64 a0_2]) (t := 31) ?hr ?_; (case hd => rfl); (case hg => rfl); (case hr => (go_simp; done)); intro gb114 hg w3 hbox hb; have BK114 := aj.mk (hbox); have GW114 := aj.mk (ge_ hg (ay HB.out)); have GE114 := aj.mk (ge_ hg (ay HB.out)); replace HB := aj.mk (au HB.out hb); clear hb hbox hg; obtain ⟨hcz4_0, hcz4_1, hcz4_2, hfz4_0, hfz4_1, hfz4_2⟩ := z3_ BK114.out) | (refine gl_ (some 5) Tryz.func36 #[.slice A0_1 l0_1.length c0_1] ?_; (with_reducible refine (slices_Clone.calls _ _ l0_1 t115 _ ?side1 ?side2 A2.out).mono ?_); (case side1 => repeat ((exact (Kd.eF HR0_1.out HB.out)))); (case side2 => exact HC0_1.out); rintro e w5 ⟨v116, rfl, ho0, hb⟩; refine ⟨_, rfl, ?_⟩; have HO117 := aj.mk (Kd.bS ho0 (ay HB.out)); replace BK114 := aj.mk (aI (by ((exact BK114.out))) hb); replace HB := aj.mk (au HB.out hb); (try clear hb); (try clear ho0)))
 go_ret
 exact ⟨_, by rfl, by (with_reducible repeat ((apply Kd.aN))); exact HO117.out, HB.out⟩
end Go.Y.PZo
namespace Go.Y.PZf
open Go.Proofs.ah.av Go.Proofs.ah.aT Go.Proofs.ah.aU Go.Y.Given Go.Y.PRd Go.Y.PRr Go.Y.PZo
attribute [local go_sem] dB dD dQ dP cK cB dA dF
def je : Option Int → Value
 | none => .nilIface
 | some c => .iface 0 (.int .i64 c)
theorem iZ : je none = .nilIface := rfl
theorem jd (c : Int) : je (some c) = .iface 0 (.int .i64 c) := rfl
end Go.Y.PZf
namespace Go.Y.PZf
open Go.Proofs.ah.av Go.Proofs.ah.aT Go.Proofs.ah.aU Go.Y.Given Go.Y.PRd Go.Y.PRr Go.Y.PZo
attribute [local go_sem] dB dD dQ dP cK cB dA dF
noncomputable def bL.j0 : Nat → List (S28) → Bool → ByteArray → Option (ByteArray × (List (S28)) × Int × Int)
 | 0, _, _, _ => none
 | k + 1, x1, x15, x104000 => if x15 = true then (some ((⟨#[]⟩ : ByteArray), ([] : List (S28)), 0, 2)) else ((kQ.f x1).bind fun t107 => (if (t107.length : Int) > 65536 then (some ((⟨#[]⟩ : ByteArray), ([] : List (S28)), 0, 3)) else ((iI.f t107 6).bind fun t111 => ((jH.f x104000 t107 0 x104000 2).bind fun t114 => ((lg.f k t107 x104000).bind fun t117 => (if t117 = true then (some ((⟨#[]⟩ : ByteArray), ([] : List (S28)), 0, 9)) else (if (t111.length : Int) = 1 then (if 0 < (t111.length : Int) then ((dx.f ((aC t111 0).f0) x104000).bind fun t119 => (if t119 = true then (if (t114.length : Int) = 0 then (some ((⟨#[]⟩ : ByteArray), ([] : List (S28)), 0, 9)) else ((bJ.f k t107).bind fun t120 => (if t120 = true then ((fB.f k t107 ((aC t111 0).f0) ((aC t111 0).f1) ((aC t111 0).f2) ((aC t111 0).f3) ((aC t111 0).f4)).bind fun t122 => (some (x104000, t107, t122, 0))) else (some ((⟨#[]⟩ : ByteArray), ([] : List (S28)), 0, 9))))) else (some ((⟨#[]⟩ : ByteArray), ([] : List (S28)), 0, 9)))) else (none)) else (some ((⟨#[]⟩ : ByteArray), ([] : List (S28)), 0, 9)))))))))
noncomputable def bL.f (k : Nat) (a0 : ByteArray) (l1 : List (S28)) : Option (ByteArray × (List (S28)) × Int × Int) := (bX.f a0).bind fun t105 => (if t105 = true then ((iA.f k l1 7770038).bind fun t106 => (bL.j0 k l1 t106 a0)) else (bL.j0 k l1 true a0))
def bL.T6 : Bool × List (List Nat × List Nat) := (true, [([], []), ([0], [0]), ([1], [1]), ([], []), ([], []), ([3, 4, 2], [3, 4]), ([2, 5, 0, 1, 2], [2]), ([5, 6, 0, 1, 2, 3, 4, 5, 6], [5])])
def bL.B6 : List Nat := [0, 1, 3, 0, 0, 31, 63, 127]
theorem bL.KT : gF .any (opsOf Tryz.f21 6) = bL.T6 := by kernel_rfl
theorem bL.KH : iO bL.T6.2 bL.B6 = true := by kernel_rfl
def bL.T9 : Bool × List (List Nat × List Nat) := (true, [([], []), ([0], [0]), ([1], [1]), ([2], [2]), ([3], [3]), ([4, 3], [3, 4]), ([5, 3], [3, 5]), ([6, 3], [3, 6]), ([3], [3]), ([7, 8, 3, 3], [3, 7, 8]), ([9, 3], [3, 9]), ([3, 10], [3, 10]), ([11, 9], [11]), ([12], [12]), ([13, 12], [12, 13]), ([14, 12], [12, 14]), ([12, 15], [12, 15]), ([16, 12], [16]), ([17], [17]), ([18, 17], [17, 18]), ([19, 17, 17], [17, 19]), ([20, 17], [17, 20]), ([17, 21], [17, 21]), ([22, 20], [22])])
def bL.B9 : List Nat := [0, 1, 3, 7, 15, 31, 63, 127, 15, 511, 1023, 2047, 4095, 8191, 16383, 32767, 65535, 131071, 262143, 524287, 1048575, 2097151, 4194303, 8388607]
theorem bL.Cw : gF .any (opsOf Tryz.f21 9) = bL.T9 := by kernel_rfl
theorem bL.yP : iO bL.T9.2 bL.B9 = true := by kernel_rfl
def bL.T11 : Bool × List (List Nat × List Nat) := (true, [([], []), ([0], [0]), ([], []), ([2], [2]), ([3], [3]), ([1, 4], [1, 4]), ([0, 1, 2, 3, 4, 5], []), ([6, 5, 5, 0, 1, 2, 3, 4, 5], [5, 6])])
def bL.B11 : List Nat := [0, 1, 0, 4, 12, 31, 63, 127]
theorem bL.KF : gF .any (opsOf Tryz.f21 11) = bL.T11 := by kernel_rfl
theorem bL.Kr : iO bL.T11.2 bL.B11 = true := by kernel_rfl
theorem bL.calls (k : Nat) (a0 : ByteArray) (A1 : Option Addr) (c1 : Nat) (l1 : List (S28)) (r1 : ByteArray) (r2 : List (S28)) (r3 : Int) (r4 : Int) (w : World) (hr1 : Kd.C k28 w A1 l1.length l1) (hc1 : l1.length ≤ c1) (h : bL.f k a0 l1 = some (r1, r2, r3, r4)) :
    Calls Tryz.prog 21 #[.string a0, .slice A1 l1.length c1] w fun e w' => ∃ v1_ : Value, e = .returned (.tuple #[.agg #[.string r1, v1_, .int .i64 r3], .int .i64 r4]) ∧ Kd.R k28 28 w' w.heap.size (fun _ => True) v1_ r2 ∧ Below w.heap.size w w' := by
  have hu31 := Tryz.underlying31
  have hu28 := Tryz.underlying28
  have HR1 := aj.mk hr1
  have HC1 := aj.mk hc1
  clear hr1 hc1
  have HB := aj.mk (Below.refl w.heap.size w)
  have H : ((bX.f a0).bind fun t105 => (if t105 = true then ((iA.f k l1 7770038).bind fun t106 => (bL.j0 k l1 t106 a0)) else (bL.j0 k l1 true a0))) = some (r1, r2, r3, r4) := h
  clear h
  have HC3 := aj.mk H
  clear H
  go_enter Tryz.func21, Tryz.ntmps21
  go_upto_region 1 with (first | ((with_reducible refine bU (N := 2) rfl ?_); (try (refine dZ (by rfl) ?_; dsimp only)); refine dw ?hg (N := 2) ?hd (cs := #[.string a0]) (t := 9) ?hr ?_; (case hd => rfl); (case hg => rfl); (case hr => (go_simp; done)); intro gb103 hg w4 hbox hb; have BK103 := aj.mk (hbox); have GW103 := aj.mk (ge_ hg (ay HB.out)); have GE103 := aj.mk (ge_ hg (ay HB.out)); replace HB := aj.mk (au HB.out hb); clear hb hbox hg) | ((with_reducible refine bU (N := 4) rfl ?_); (try (refine dZ (by rfl) ?_; dsimp only)); refine dw ?hg (N := 4) ?hd (cs := #[.string (⟨#[]⟩ : ByteArray), .slice none 0 0, .int .i64 0]) (t := 31) ?hr ?_; (case hd => rfl); (case hg => rfl); (case hr => (go_simp; done)); intro gb104 hg w5 hbox hb; have BK104 := aj.mk (hbox); have GW104 := aj.mk (ge_ hg (ay HB.out)); have GE104 := aj.mk (ge_ hg (ay HB.out)); have NB103_104 := aj.mk (nl_ hg (by ((exact BK103.out)))); have NB104_103 := aj.mk (nr_ hg (by ((exact BK103.out)))); replace BK103 := aj.mk (aI (by ((exact BK103.out))) hb); replace HB := aj.mk (au HB.out hb); clear hb hbox hg))
  go_cut [15] (fun v15 wc => ∃ (kq : Nat) (x15_2 : Bool), v15 = .bool x15_2 ∧ aj (bL.j0 kq l1 x15_2 a0 = some (r1, r2, r3, r4)) ∧ aj (kq ≤ k) ∧ aj (wc.heap[gb103]? = some (.cells #[.string a0] 9 (0, 0))) ∧ aj (wc.heap[gb104]? = some (.cells #[.string (⟨#[]⟩ : ByteArray), (.slice none 0 0), .int .i64 0] 31 (0, 0))) ∧ aj (Below w.heap.size w wc))
  case first =>
   have H := HC3.out
   clear HC3
   obtain ⟨t105, A6, H⟩ := cu H
   by_cases c7 : t105 = true
   focus
    subst c7
    rw [if_pos rfl] at H
    obtain ⟨t106, A8, H⟩ := cu H
   rotate_left
   focus
    replace c7 := Bool.eq_false_iff.mpr c7
    subst c7
    rw [if_neg ff_] at H
   rotate_left
   all_goals
    have H' := aj.mk H
    clear H
    have hnb9 := NB103_104.out
    have hnc9 := NB104_103.out
    obtain ⟨hcz10_0, hfz10_0⟩ := z1_ BK103.out
   ·go_wp2_with (first | (refine gl_ (some 10) Tryz.func47 #[.string a0] ?_; (with_reducible refine (bX.calls a0 _ _ A6.out).mono ?_); rintro e w11 ⟨rfl, hb⟩; refine ⟨_, rfl, ?_⟩; replace BK103 := aj.mk (aI (by ((exact BK103.out))) hb); replace BK104 := aj.mk (aI (by ((exact BK104.out))) hb); replace HB := aj.mk (au HB.out hb); (try clear hb)) | (go_at_call 48; (with_reducible refine (iA.calls k _ _ l1 7770038 t106 _ ?side1 ?side2 A8.out).mono ?_); (case side1 => repeat ((exact (Kd.eF HR1.out HB.out)))); (case side2 => exact HC1.out); rintro e w12 ⟨rfl, hb⟩; replace BK103 := aj.mk (aI (by ((exact BK103.out))) hb); replace BK104 := aj.mk (aI (by ((exact BK104.out))) hb); replace HB := aj.mk (au HB.out hb); (try clear hb)))
    go_meet
    case rel => exact ⟨_, (t106), (by rfl), H', ⟨by omega⟩, ⟨by (with_reducible repeat ((refine aA ?_ _))); exact BK103.out⟩, ⟨by (with_reducible repeat ((refine aA ?_ _))); exact BK104.out⟩, ⟨HB.out⟩⟩
   ·go_wp2_with (((refine gl_ (some 10) Tryz.func47 #[.string a0] ?_; (with_reducible refine (bX.calls a0 _ _ A6.out).mono ?_); rintro e w15 ⟨rfl, hb⟩; refine ⟨_, rfl, ?_⟩; replace BK103 := aj.mk (aI (by ((exact BK103.out))) hb); replace BK104 := aj.mk (aI (by ((exact BK104.out))) hb); replace HB := aj.mk (au HB.out hb); (try clear hb))))
    go_meet
    case rel => exact ⟨_, (true), (by rfl), H', ⟨by omega⟩, ⟨by (with_reducible repeat ((refine aA ?_ _))); exact BK103.out⟩, ⟨by (with_reducible repeat ((refine aA ?_ _))); exact BK104.out⟩, ⟨HB.out⟩⟩
  case rest =>
   clear HC3
   obtain ⟨kq, x15_2, rfl, HA, HJ2, BK103, BK104, HB⟩ := hcut
   cases kq with
   | zero => exact absurd HA.out (by simp [bL.j0])
   | succ kj2 =>
    have H := HA.out
    clear HA
    simp only [bL.j0] at H
    by_cases c16 : x15_2 = true
    focus
     subst c16
     rw [if_pos rfl] at H
    rotate_left
    focus
     replace c16 := Bool.eq_false_iff.mpr c16
     subst c16
     rw [if_neg ff_] at H
     obtain ⟨t107, A19, H⟩ := cu H
     by_cases c20 : (t107.length : Int) > 65536
     focus
      rw [if_pos c20] at H
      have c20b0 : decide (65536 < (t107.length : Int)) = true := decide_eq_true c20
      have c20b1 : decide (65536 < t107.length) = true := decide_eq_true (by omega)
      clear c20
     rotate_left
     focus
      rw [if_neg c20] at H
      have c20b0 : decide (65536 < (t107.length : Int)) = false := decide_eq_false c20
      have c20b1 : decide (65536 < t107.length) = false := decide_eq_false (by omega)
      clear c20
      obtain ⟨t111, A35, H⟩ := cu H
      obtain ⟨t114, A36, H⟩ := cu H
      obtain ⟨t117, A37, H⟩ := cu H
      by_cases c38 : t117 = true
      focus
       subst c38
       rw [if_pos rfl] at H
      rotate_left
      focus
       replace c38 := Bool.eq_false_iff.mpr c38
       subst c38
       rw [if_neg ff_] at H
       by_cases c60 : (t111.length : Int) = 1
       focus
        rw [if_pos c60] at H
        have c60b0 : ((t111.length : Int) == 1) = true := beq_iff_eq.mpr c60
        have c60b1 : ((t111.length : Int) != 1) = false := bne_eq_false_iff_eq.mpr c60
        clear c60
        obtain ⟨c61, H⟩ := gd_ H
        have c61b0 : decide (0 < (t111.length : Int)) = true := decide_eq_true c61
        have c61b1 : decide (0 < t111.length) = true := decide_eq_true (by omega)
        clear c61
        obtain ⟨t119, A62, H⟩ := cu H
        by_cases c63 : t119 = true
        focus
         subst c63
         rw [if_pos rfl] at H
         by_cases c64 : (t114.length : Int) = 0
         focus
          rw [if_pos c64] at H
          have c64b0 : ((t114.length : Int) == 0) = true := beq_iff_eq.mpr c64
          have c64b1 : ((t114.length : Int) != 0) = false := bne_eq_false_iff_eq.mpr c64
          clear c64
         rotate_left
         focus
          rw [if_neg c64] at H
          have c64b0 : ((t114.length : Int) == 0) = false := beq_eq_false_iff_ne.mpr c64
          have c64b1 : ((t114.length : Int) != 0) = true := bne_iff_ne.mpr c64
          have c64b2 : ¬ (t114 = []) := fun h_ => c64 (by rw [h_]; rfl)
          obtain ⟨t120, A90, H⟩ := cu H
          by_cases c91 : t120 = true
          focus
           subst c91
           rw [if_pos rfl] at H
           obtain ⟨t122, A92, H⟩ := cu H
          rotate_left
          focus
           replace c91 := Bool.eq_false_iff.mpr c91
           subst c91
           rw [if_neg ff_] at H
          rotate_left
         rotate_left 2
        rotate_left 3
        focus
         replace c63 := Bool.eq_false_iff.mpr c63
         subst c63
         rw [if_neg ff_] at H
        rotate_left
       rotate_left 4
       focus
        rw [if_neg c60] at H
        have c60b0 : ((t111.length : Int) == 1) = false := beq_eq_false_iff_ne.mpr c60
        have c60b1 : ((t111.length : Int) != 1) = true := bne_iff_ne.mpr c60
       rotate_left
      rotate_left 5
     rotate_left 6
    rotate_left 7
    all_goals
     simp only [Option.some.injEq, Prod.mk.injEq] at H
     obtain ⟨rfl, rfl, rfl, rfl⟩ := H
    ·have hnb17 := NB104_103.out
     have hnc17 := NB103_104.out
     obtain ⟨hcz18_0, hcz18_1, hcz18_2, hfz18_0, hfz18_1, hfz18_2⟩ := z3_ BK104.out
     go_wp2
     refine bodyPost_ret (iE rfl _ _ gb104 31 #[.string (⟨#[]⟩ : ByteArray), .slice none 0 0, .int .i64 0] (0, 0) _ rfl (by (with_reducible repeat ((refine aA ?_ _))); refine bM (cs := #[.string (⟨#[]⟩ : ByteArray), .slice none 0 0, .int .i64 0]) ?_ 2 _ rfl; (with_reducible repeat ((refine aA ?_ _))); refine bM (cs := #[.string (⟨#[]⟩ : ByteArray), .slice none 0 0, .int .i64 0]) ?_ 1 _ rfl; (with_reducible repeat ((refine aA ?_ _))); refine bM (cs := #[.string (⟨#[]⟩ : ByteArray), .slice none 0 0, .int .i64 0]) ?_ 0 _ rfl; (with_reducible repeat ((refine aA ?_ _))); exact BK104.out) Tryz.underlying31 rfl (by kernel_rfl)) rfl ?_
     exact ⟨_, by rfl, by (exact Kd.fU _ _ _ _ _), by repeat ((with_reducible first | exact HB.out | refine dG ?_ GE104.out))⟩
    all_goals
     (try go_wp2)
     replace BK103 := aj.mk (eP BK103.out)
     replace BK104 := aj.mk (eP BK104.out)
     replace HB := aj.mk (dz HB.out)
     refine iH (n := 6) (S := fun w' => w'.cell? ⟨gb103, 0, none⟩ = some (.string a0)) (ds := []) (ls 6 0) (by kernel_rfl) rfl rfl ((aG BK103.out 0).trans rfl) (fun hHeld => ?_)
     generalize wc.drew = w21 at BK103 BK104 HB hHeld ⊢
     refine qE (i := 1) (N := some 18) (v := ?_) (a' := ?_) (ls 6 2) rfl rfl (by kernel_rfl) (fun _ _ _ h => h) (Or.inl ⟨by rfl, ?_⟩) ?_ ?_
     rotate_left
     ·intro w'
      go_simp
      with_reducible rfl
     rotate_left
     ·simp only [Act.put, sA_, sZ_, sS_, dU, fA]
      rfl
     refine tH (i := 0) (N := some 17) (v := ?_) (a' := ?_) (ls 6 3) rfl rfl (by kernel_rfl) (fun _ _ _ h => h) (Or.inl ⟨by rfl, ?_⟩) hHeld ?_ ?_
     rotate_left
     ·intro w' s0
      go_simp
      with_reducible rfl
     rotate_left
     ·simp only [Act.put, sA_, sZ_, sS_, dU, fA]
      rfl
     refine Ir (σ := Value × Nat) 1 (ls 6 31) (fun s_ => [(19, s_.1), (6, .pointer (some ⟨s_.2, 0, none⟩)), (20, .agg #[.string a0, s_.1, .int .i64 0])]) (fun s_ w' => (w'.cell? ⟨gb103, 0, none⟩ = some (.string a0)) ∧ (Kd.R k28 28 w' w.heap.size (fun _ => True) s_.1 t107) ∧ (w'.heap[gb103]? = some (.cells #[.string a0] 9 (0, 0))) ∧ (w'.heap[gb104]? = some (.cells #[.string (⟨#[]⟩ : ByteArray), .slice none 0 0, .int .i64 0] 31 (0, 0))) ∧ (w'.heap[s_.2]? = some (.cells #[.string (⟨#[]⟩ : ByteArray), .slice none 0 0, .int .i64 0] 31 (0, 0))) ∧ (w.heap.size ≤ s_.2) ∧ (w.heap.size ≤ s_.2) ∧ (gb103 ≠ s_.2) ∧ (s_.2 ≠ gb103) ∧ (gb104 ≠ s_.2) ∧ (s_.2 ≠ gb104) ∧ (Below w.heap.size w w')) ?_ ?_
     rotate_left
     ·intro hCont
      refine Ht (i := 2) (j := 4) (Ni := some 19) (Nj := some 6) (ls 6 7) (ls 6 19) rfl rfl rfl rfl (by kernel_rfl) (by decide) (by decide) (fun K hK => ?_) (fun K hK => ?_)
      ·skip
       refine gs_ Tryz.func14 #[.slice A1 l1.length c1] ?_
       with_reducible refine (kQ.calls _ _ l1 t107 _ ?side1 ?side2 A19.out).mono ?_
       (case side1 => repeat ((exact (Kd.eF HR1.out HB.out))))
       (case side2 => exact HC1.out)
       rintro e w22 ⟨v108, rfl, ho0, hb⟩
       refine ⟨_, rfl, ?_⟩
       have HO109 := aj.mk (Kd.bS ho0 (ay HB.out))
       replace BK103 := aj.mk (aI (by ((exact BK103.out))) hb)
       replace BK104 := aj.mk (aI (by ((exact BK104.out))) hb)
       replace HB := aj.mk (au HB.out hb)
       (try clear hb)
       (try clear ho0)
       obtain ⟨Ao23, co23, eo23⟩ := Kd.cO HO109.out
       ((subst eo23))
       refine hK.out _ _ ((aG BK103.out 0).trans rfl) (fun hHeld => ?_)
       clear hK K
       refine nm_ (N := (some 19)) ?_
       refine qE (i := 3) (N := some 20) (v := ?_) (a' := ?_) (ls 6 15) rfl rfl (by kernel_rfl) (fun _ _ _ h => h) (Or.inl ⟨by rfl, ?_⟩) ?_ ?_
       rotate_left
       ·intro w'
        go_simp
        with_reducible rfl
       rotate_left
       ·simp only [Act.put, sA_, sZ_, sS_, dU, fA]
        rfl
       refine oI (i := 4) (N := some 6) (ls 6 31) rfl rfl (by kernel_rfl) (by decide) (fun K hK => ?_)
       refine zB ?hg (N := 6) ?hd (cs := #[.string (⟨#[]⟩ : ByteArray), .slice none 0 0, .int .i64 0]) (t := 31) ?hr ?_; (case hd => rfl); (case hg => rfl); (case hr => (go_simp; done))
       intro gb110 hg w24 hbox hb
       have BK110 := aj.mk (hbox)
       have GW110 := aj.mk (ge_ hg (ay HB.out))
       have GE110 := aj.mk (ge_ hg (ay HB.out))
       have NB103_110 := aj.mk (nl_ hg (by ((exact BK103.out))))
       have NB110_103 := aj.mk (nr_ hg (by ((exact BK103.out))))
       have NB104_110 := aj.mk (nl_ hg (by ((exact BK104.out))))
       have NB110_104 := aj.mk (nr_ hg (by ((exact BK104.out))))
       replace HO109 := aj.mk (Kd.bD (by ((exact HO109.out))) hb)
       replace BK103 := aj.mk (aI (by ((exact BK103.out))) hb)
       replace BK104 := aj.mk (aI (by ((exact BK104.out))) hb)
       replace HB := aj.mk (au HB.out hb)
       clear hb hbox hg
       refine hK.out _ _ ((aG BK103.out 0).trans rfl) (fun hHeld => ?_)
       clear hK K
       refine nm_ (N := (some 6)) ?_
       exact lC (by simp only [lF, Act.put, List.setIfInBounds_toArray, List.set_cons_zero, List.set_cons_succ]) (hCont (.slice Ao23 t107.length co23, gb110) _ ⟨hHeld, (by ((exact HO109.out))), (by ((exact BK103.out))), (by ((exact BK104.out))), (by ((exact BK110.out))), GW110.out, GE110.out, NB103_110.out, NB110_103.out, NB104_110.out, NB110_104.out, HB.out⟩)
      ·skip
       refine zB ?hg (N := 6) ?hd (cs := #[.string (⟨#[]⟩ : ByteArray), .slice none 0 0, .int .i64 0]) (t := 31) ?hr ?_; (case hd => rfl); (case hg => rfl); (case hr => (go_simp; done))
       intro gb110 hg w22 hbox hb
       have BK110 := aj.mk (hbox)
       have GW110 := aj.mk (ge_ hg (ay HB.out))
       have GE110 := aj.mk (ge_ hg (ay HB.out))
       have NB103_110 := aj.mk (nl_ hg (by ((exact BK103.out))))
       have NB110_103 := aj.mk (nr_ hg (by ((exact BK103.out))))
       have NB104_110 := aj.mk (nl_ hg (by ((exact BK104.out))))
       have NB110_104 := aj.mk (nr_ hg (by ((exact BK104.out))))
       replace BK103 := aj.mk (aI (by ((exact BK103.out))) hb)
       replace BK104 := aj.mk (aI (by ((exact BK104.out))) hb)
       replace HB := aj.mk (au HB.out hb)
       clear hb hbox hg
       refine hK.out _ _ ((aG BK103.out 0).trans rfl) (fun hHeld => ?_)
       clear hK K
       refine nm_ (N := (some 6)) ?_
       refine oI (i := 2) (N := some 19) (ls 6 23) rfl rfl (by kernel_rfl) (by decide) (fun K hK => ?_)
       refine gs_ Tryz.func14 #[.slice A1 l1.length c1] ?_
       with_reducible refine (kQ.calls _ _ l1 t107 _ ?side1 ?side2 A19.out).mono ?_
       (case side1 => repeat ((exact (Kd.eF HR1.out HB.out))))
       (case side2 => exact HC1.out)
       rintro e w23 ⟨v108, rfl, ho0, hb⟩
       refine ⟨_, rfl, ?_⟩
       have HO109 := aj.mk (Kd.bS ho0 (ay HB.out))
       replace BK103 := aj.mk (aI (by ((exact BK103.out))) hb)
       replace BK104 := aj.mk (aI (by ((exact BK104.out))) hb)
       replace BK110 := aj.mk (aI (by ((exact BK110.out))) hb)
       replace HB := aj.mk (au HB.out hb)
       (try clear hb)
       (try clear ho0)
       obtain ⟨Ao24, co24, eo24⟩ := Kd.cO HO109.out
       ((subst eo24))
       refine hK.out _ _ ((aG BK103.out 0).trans rfl) (fun hHeld => ?_)
       clear hK K
       refine nm_ (N := (some 19)) ?_
       refine qE (i := 3) (N := some 20) (v := ?_) (a' := ?_) (ls 6 31) rfl rfl (by kernel_rfl) (fun _ _ _ h => h) (Or.inl ⟨by rfl, ?_⟩) ?_ ?_
       rotate_left
       ·intro w'
        go_simp
        with_reducible rfl
       rotate_left
       ·simp only [Act.put, sA_, sZ_, sS_, dU, fA]
        rfl
       exact lC (by simp only [lF, Act.put, List.setIfInBounds_toArray, List.set_cons_zero, List.set_cons_succ]) (hCont (.slice Ao24 t107.length co24, gb110) _ ⟨hHeld, (by ((exact HO109.out))), (by ((exact BK103.out))), (by ((exact BK104.out))), (by ((exact BK110.out))), GW110.out, GE110.out, NB103_110.out, NB110_103.out, NB104_110.out, NB110_104.out, HB.out⟩)
     rintro ⟨v108, gb110⟩ w25 ⟨hS_, h0_, h1_, h2_, h3_, h4_, h5_, h6_, h7_, h8_, h9_, h10_⟩
     have n0_ : aj (Kd.R k28 28 w25 w.heap.size (fun _ => True) v108 t107) := ⟨h0_⟩
     have n1_ : aj (w25.heap[gb103]? = some (.cells #[.string a0] 9 (0, 0))) := ⟨h1_⟩
     have n2_ : aj (w25.heap[gb104]? = some (.cells #[.string (⟨#[]⟩ : ByteArray), .slice none 0 0, .int .i64 0] 31 (0, 0))) := ⟨h2_⟩
     have n3_ : aj (w25.heap[gb110]? = some (.cells #[.string (⟨#[]⟩ : ByteArray), .slice none 0 0, .int .i64 0] 31 (0, 0))) := ⟨h3_⟩
     have n4_ : aj (w.heap.size ≤ gb110) := ⟨h4_⟩
     have n5_ : aj (w.heap.size ≤ gb110) := ⟨h5_⟩
     have n6_ : aj (gb103 ≠ gb110) := ⟨h6_⟩
     have n7_ : aj (gb110 ≠ gb103) := ⟨h7_⟩
     have n8_ : aj (gb104 ≠ gb110) := ⟨h8_⟩
     have n9_ : aj (gb110 ≠ gb104) := ⟨h9_⟩
     have n10_ : aj (Below w.heap.size w w25) := ⟨h10_⟩
     clear BK103
     clear BK104
     clear HB
     clear h0_ h1_ h2_ h3_ h4_ h5_ h6_ h7_ h8_ h9_ h10_
     have HO109 := n0_
     have BK103 := n1_
     have BK104 := n2_
     have BK110 := n3_
     have GW110 := n4_
     have GE110 := n5_
     have NB103_110 := n6_
     have NB110_103 := n7_
     have NB104_110 := n8_
     have NB110_104 := n9_
     have HB := n10_
     clear n0_ n1_ n2_ n3_ n4_ n5_ n6_ n7_ n8_ n9_ n10_
     have hHeld : w25.cell? ⟨gb103, 0, none⟩ = some (.string a0) := hS_
     obtain ⟨Ao26, co26, eo26⟩ := Kd.cO HO109.out
     ((subst eo26))
     refine lC (a' := ?_) ?_ ?_
     rotate_left
     ·simp only [lF, Act.put, List.setIfInBounds_toArray, List.set_cons_zero, List.set_cons_succ]
      rfl
     refine oI (i := 5) (N := none) (ls 6 63) rfl rfl (by kernel_rfl) (by decide) (fun K hK => ?_)
     have hs27 : w25.cell? ⟨gb110, 0, none⟩ = some (.string (⟨#[]⟩ : ByteArray)) := (aG BK110.out 0).trans rfl
     have hfs27 := bB BK110.out 0
     have hns27_0 := NB103_110.out
     have hns27_1 := NB104_110.out
     have hms27_0 := NB110_103.out
     have hms27_1 := NB110_104.out
     have hs28 : w25.cell? ⟨gb110, 1, none⟩ = some (.slice none 0 0) := (aG BK110.out 1).trans rfl
     have hfs28 := bB BK110.out 1
     have hns28_0 := NB103_110.out
     have hns28_1 := NB104_110.out
     have hms28_0 := NB110_103.out
     have hms28_1 := NB110_104.out
     have hs29 : w25.cell? ⟨gb110, 2, none⟩ = some (.int .i64 0) := (aG BK110.out 2).trans rfl
     have hfs29 := bB BK110.out 2
     have hns29_0 := NB103_110.out
     have hns29_1 := NB104_110.out
     have hms29_0 := NB110_103.out
     have hms29_1 := NB110_104.out
     refine yR (w1 := ?_) (by rfl) rfl ?_ ?_
     rotate_left
     ·go_simp
      rfl
     refine hK.out _ _ (((cell_far (p := ⟨gb110, _, none⟩) NB103_110.out _).trans (((cell_far (p := ⟨gb110, _, none⟩) NB103_110.out _).trans (((cell_far (p := ⟨gb110, _, none⟩) NB103_110.out _).trans (hHeld))))))) (fun hHeld => ?_)
     clear hK K
     refine mJ (by kernel_rfl) ?_
     have hnb30 := NB110_103.out
     have hnc30 := NB103_110.out
     have hnb31 := NB110_104.out
     have hnc31 := NB104_110.out
     obtain ⟨hcz32_0, hcz32_1, hcz32_2, hfz32_0, hfz32_1, hfz32_2⟩ := z3_ BK110.out
    ·have hnb33 := NB104_103.out
     have hnc33 := NB103_104.out
     obtain ⟨hcz34_0, hcz34_1, hcz34_2, hfz34_0, hfz34_1, hfz34_2⟩ := z3_ BK104.out
     (try go_wp2)
     refine bodyPost_ret (iE rfl _ _ gb104 31 #[.string (⟨#[]⟩ : ByteArray), .slice none 0 0, .int .i64 0] (0, 0) _ rfl (by (with_reducible repeat ((refine aA ?_ _))); refine bM (cs := #[.string (⟨#[]⟩ : ByteArray), .slice none 0 0, .int .i64 0]) ?_ 2 _ rfl; (with_reducible repeat ((refine aA ?_ _))); refine bM (cs := #[.string (⟨#[]⟩ : ByteArray), .slice none 0 0, .int .i64 0]) ?_ 1 _ rfl; (with_reducible repeat ((refine aA ?_ _))); refine bM (cs := #[.string (⟨#[]⟩ : ByteArray), .slice none 0 0, .int .i64 0]) ?_ 0 _ rfl; (with_reducible repeat ((refine aA ?_ _))); refine eD ?_ NB104_110.out _; (with_reducible repeat ((refine aA ?_ _))); refine eD ?_ NB104_110.out _; (with_reducible repeat ((refine aA ?_ _))); refine eD ?_ NB104_110.out _; (with_reducible repeat ((refine aA ?_ _))); exact BK104.out) Tryz.underlying31 rfl (by kernel_rfl)) rfl ?_
     exact ⟨_, by rfl, by (exact Kd.fU _ _ _ _ _), by repeat ((with_reducible first | exact HB.out | refine dG ?_ GE104.out | refine dG ?_ GE110.out))⟩
    all_goals
     (try go_wp2)
     have n0_ : aj (Kd.R k28 28 (((w25.setCell ⟨gb110, 0, none⟩ (.string a0)).setCell ⟨gb110, 1, none⟩ (.slice Ao26 t107.length co26)).setCell ⟨gb110, 2, none⟩ (.int .i64 0)) w.heap.size (fun _ => True) (.slice Ao26 t107.length co26) t107) := ⟨by (with_reducible repeat ((apply Kd.aN))); exact Kd.dn (Kd.gP (p := ⟨gb110, 2, none⟩) (Kd.gP (p := ⟨gb110, 1, none⟩) (Kd.gP (p := ⟨gb110, 0, none⟩) (Kd.kJ HO109.out BK110.out (by decide)) (fun _ hk => hk.2) (.string a0)) (fun _ hk => hk.2) (.slice Ao26 t107.length co26)) (fun _ hk => hk.2) (.int .i64 0)) (fun _ hk => trivial)⟩
     have n1_ : aj ((((w25.setCell ⟨gb110, 0, none⟩ (.string a0)).setCell ⟨gb110, 1, none⟩ (.slice Ao26 t107.length co26)).setCell ⟨gb110, 2, none⟩ (.int .i64 0)).heap[gb103]? = some (.cells #[.string a0] 9 (0, 0))) := ⟨by (with_reducible repeat ((refine aA ?_ _))); refine eD ?_ NB103_110.out _; (with_reducible repeat ((refine aA ?_ _))); refine eD ?_ NB103_110.out _; (with_reducible repeat ((refine aA ?_ _))); refine eD ?_ NB103_110.out _; (with_reducible repeat ((refine aA ?_ _))); exact BK103.out⟩
     have n2_ : aj ((((w25.setCell ⟨gb110, 0, none⟩ (.string a0)).setCell ⟨gb110, 1, none⟩ (.slice Ao26 t107.length co26)).setCell ⟨gb110, 2, none⟩ (.int .i64 0)).heap[gb104]? = some (.cells #[.string (⟨#[]⟩ : ByteArray), .slice none 0 0, .int .i64 0] 31 (0, 0))) := ⟨by (with_reducible repeat ((refine aA ?_ _))); refine eD ?_ NB104_110.out _; (with_reducible repeat ((refine aA ?_ _))); refine eD ?_ NB104_110.out _; (with_reducible repeat ((refine aA ?_ _))); refine eD ?_ NB104_110.out _; (with_reducible repeat ((refine aA ?_ _))); exact BK104.out⟩
     have n3_ : aj ((((w25.setCell ⟨gb110, 0, none⟩ (.string a0)).setCell ⟨gb110, 1, none⟩ (.slice Ao26 t107.length co26)).setCell ⟨gb110, 2, none⟩ (.int .i64 0)).heap[gb110]? = some (.cells #[.string a0, .slice Ao26 t107.length co26, .int .i64 0] 31 (0, 0))) := ⟨by (with_reducible repeat ((refine aA ?_ _))); refine bM (cs := #[.string a0, .slice Ao26 t107.length co26, .int .i64 0]) ?_ 2 _ rfl; (with_reducible repeat ((refine aA ?_ _))); refine bM (cs := #[.string a0, .slice none 0 0, .int .i64 0]) ?_ 1 _ rfl; (with_reducible repeat ((refine aA ?_ _))); refine bM (cs := #[.string (⟨#[]⟩ : ByteArray), .slice none 0 0, .int .i64 0]) ?_ 0 _ rfl; (with_reducible repeat ((refine aA ?_ _))); exact BK110.out⟩
     have n4_ : aj (Below w.heap.size w (((w25.setCell ⟨gb110, 0, none⟩ (.string a0)).setCell ⟨gb110, 1, none⟩ (.slice Ao26 t107.length co26)).setCell ⟨gb110, 2, none⟩ (.int .i64 0))) := ⟨by repeat ((with_reducible first | exact HB.out | refine dG ?_ GE110.out))⟩
     (try clear HO109)
     (try clear BK103)
     (try clear BK104)
     (try clear BK110)
     (try clear HB)
     generalize (((w25.setCell ⟨gb110, 0, none⟩ (.string a0)).setCell ⟨gb110, 1, none⟩ (.slice Ao26 t107.length co26)).setCell ⟨gb110, 2, none⟩ (.int .i64 0)) = w51 at n0_ n1_ n2_ n3_ n4_ ⊢
     have HO109 := n0_
     have BK103 := n1_
     have BK104 := n2_
     have BK110 := n3_
     have HB := n4_
     clear n0_ n1_ n2_ n3_ n4_
     replace HO109 := aj.mk (Kd.iF HO109.out)
     replace BK103 := aj.mk (eP BK103.out)
     replace BK104 := aj.mk (eP BK104.out)
     replace BK110 := aj.mk (eP BK110.out)
     replace HB := aj.mk (dz HB.out)
     refine iH (n := 8) (ds := []) (ls 8 0) (by kernel_rfl) rfl rfl (c3_ BK110.out (d1_ BK103.out)) (fun hHeld => ?_); refine fF bL.KT bL.KH (fun HT_ HW_ => ?_)
     generalize w51.drew = w52 at HO109 BK103 BK104 BK110 HB hHeld ⊢
     refine td_ [(0, 26)] ?_
     refine pm_ HT_ ?_
     refine dn_ ?_
     refine td_ [(1, 27), (3, 29), (4, 30)] ?_
     iterate 3 (refine tm_ HT_ HW_ hHeld ?_)
     refine dn_ ?_
     refine jR HT_ (i := 2) (N := some 28) (ls 8 31) (fun K hK => ?_)
     refine gs_ Tryz.func51 #[.slice Ao26 t107.length co26, .int .i64 6] ?_
     with_reducible refine (iI.calls _ _ t107 6 t111 _ ?side1 ?side2 A35.out).mono ?_
     (case side1 => exact (Kd.aX HO109.out).2.2)
     (case side2 => exact (Kd.aX HO109.out).2.1)
     rintro e w53 ⟨v112, rfl, ho0, hb⟩
     refine ⟨_, rfl, ?_⟩
     have HO113 := aj.mk (Kd.bS (Kd.iU ho0 (Kd.jS (by ((exact HO109.out))))) (ay HB.out))
     replace HO109 := aj.mk (Kd.gK (by ((exact HO109.out))) (Kd.iV ho0) hb)
     replace BK103 := aj.mk (aI (by ((exact BK103.out))) hb)
     replace BK104 := aj.mk (aI (by ((exact BK104.out))) hb)
     replace BK110 := aj.mk (aI (by ((exact BK110.out))) hb)
     replace HB := aj.mk (au HB.out hb)
     (try clear hb)
     (try clear ho0)
     refine hK.out _ _ (c3_ BK110.out (d1_ BK103.out)) (fun hHeld => ?_)
     clear hK K
     refine nm_ (N := (some 28)) ?_
     refine jR HT_ (i := 5) (N := some 31) (ls 8 63) (fun K hK => ?_)
     refine gs_ Tryz.func52 #[.agg #[.string a0, .slice Ao26 t107.length co26, .int .i64 0], .string a0, .int .i64 2] ?_
     with_reducible refine (jH.calls a0 _ _ t107 0 a0 2 t114 _ ?side1 ?side2 A36.out).mono ?_
     (case side1 => exact (Kd.aX HO109.out).2.2)
     (case side2 => exact (Kd.aX HO109.out).2.1)
     rintro e w54 ⟨v115, rfl, ho0, hb⟩
     refine ⟨_, rfl, ?_⟩
     have HO116 := aj.mk (Kd.bS (Kd.iU (Kd.iU ho0 (Kd.jS (by ((exact HO109.out))))) (Kd.jS (by ((exact HO113.out))))) (ay HB.out))
     replace HO109 := aj.mk (Kd.gK (by ((exact HO109.out))) (Kd.iV ho0) hb)
     replace HO113 := aj.mk (Kd.gK (by ((exact HO113.out))) (Kd.iV ho0) hb)
     replace BK103 := aj.mk (aI (by ((exact BK103.out))) hb)
     replace BK104 := aj.mk (aI (by ((exact BK104.out))) hb)
     replace BK110 := aj.mk (aI (by ((exact BK110.out))) hb)
     replace HB := aj.mk (au HB.out hb)
     (try clear hb)
     (try clear ho0)
     refine hK.out _ _ (c3_ BK110.out (d1_ BK103.out)) (fun hHeld => ?_)
     clear hK K
     refine nm_ (N := (some 31)) ?_
     refine td_ [(6, 7), (7, 8)] ?_
     iterate 2 (refine pm_ HT_ ?_)
     refine dn_ ?_
     refine mJ (kY HT_.out (by kernel_rfl)) ?_
     obtain ⟨hcz55_0, hcz55_1, hcz55_2, hfz55_0, hfz55_1, hfz55_2⟩ := z3_ BK110.out
     have hnb56 := NB103_104.out
     have hnc56 := NB104_103.out
     obtain ⟨hcz57_0, hfz57_0⟩ := z1_ BK103.out
    ·(try go_wp2_with (((go_at_call 48; (with_reducible refine (lg.calls kj2 _ _ t107 a0 true _ ?side1 ?side2 A37.out gb103 ?side3).mono ?_); (case side1 => exact (Kd.aX HO109.out).2.2); (case side2 => exact (Kd.aX HO109.out).2.1); (case side3 => (exact (aG BK103.out 0).trans rfl)); rintro e w58 ⟨rfl, hb⟩; replace HO109 := aj.mk (Kd.bD (by ((exact HO109.out))) hb); replace HO113 := aj.mk (Kd.bD (by ((exact HO113.out))) hb); replace HO116 := aj.mk (Kd.bD (by ((exact HO116.out))) hb); replace BK103 := aj.mk (aI (by ((exact BK103.out))) hb); replace BK104 := aj.mk (aI (by ((exact BK104.out))) hb); replace BK110 := aj.mk (aI (by ((exact BK110.out))) hb); replace HB := aj.mk (au HB.out hb); (try clear hb); obtain ⟨hcz59_0, hcz59_1, hcz59_2, hfz59_0, hfz59_1, hfz59_2⟩ := z3_ BK104.out))))
     refine bodyPost_ret (iE rfl _ _ gb104 31 #[.string (⟨#[]⟩ : ByteArray), .slice none 0 0, .int .i64 0] (0, 0) _ rfl (by (with_reducible repeat ((refine aA ?_ _))); refine bM (cs := #[.string (⟨#[]⟩ : ByteArray), .slice none 0 0, .int .i64 0]) ?_ 2 _ rfl; (with_reducible repeat ((refine aA ?_ _))); refine bM (cs := #[.string (⟨#[]⟩ : ByteArray), .slice none 0 0, .int .i64 0]) ?_ 1 _ rfl; (with_reducible repeat ((refine aA ?_ _))); refine bM (cs := #[.string (⟨#[]⟩ : ByteArray), .slice none 0 0, .int .i64 0]) ?_ 0 _ rfl; (with_reducible repeat ((refine aA ?_ _))); exact BK104.out) Tryz.underlying31 rfl (by kernel_rfl)) rfl ?_
     exact ⟨_, by rfl, by (exact Kd.fU _ _ _ _ _), by repeat ((with_reducible first | exact HB.out | refine dG ?_ GE104.out))⟩
    all_goals
     (try go_wp2_with (((go_at_call 48; (with_reducible refine (lg.calls kj2 _ _ t107 a0 false _ ?side1 ?side2 A37.out gb103 ?side3).mono ?_); (case side1 => exact (Kd.aX HO109.out).2.2); (case side2 => exact (Kd.aX HO109.out).2.1); (case side3 => (exact (aG BK103.out 0).trans rfl)); rintro e w84 ⟨rfl, hb⟩; replace HO109 := aj.mk (Kd.bD (by ((exact HO109.out))) hb); replace HO113 := aj.mk (Kd.bD (by ((exact HO113.out))) hb); replace HO116 := aj.mk (Kd.bD (by ((exact HO116.out))) hb); replace BK103 := aj.mk (aI (by ((exact BK103.out))) hb); replace BK104 := aj.mk (aI (by ((exact BK104.out))) hb); replace BK110 := aj.mk (aI (by ((exact BK110.out))) hb); replace HB := aj.mk (au HB.out hb); (try clear hb)))))
     replace HO109 := aj.mk (Kd.iF HO109.out)
     replace HO113 := aj.mk (Kd.iF HO113.out)
     replace HO116 := aj.mk (Kd.iF HO116.out)
     replace BK103 := aj.mk (eP BK103.out)
     replace BK104 := aj.mk (eP BK104.out)
     replace BK110 := aj.mk (eP BK110.out)
     replace HB := aj.mk (dz HB.out)
     obtain ⟨Ao86, co86, eo86⟩ := Kd.cO HO113.out
     ((subst eo86))
    iterate 4
     focus
      have p118 : 0 ≤ (0 : Int) := (by omega)
      have q118 : 0 < (t111.length : Int) := of_decide_eq_true (by assumption)
      obtain ⟨ad118, e118, hx118_0, hx118_1, hx118_2, hx118_3, hx118_4⟩ := iD (Kd.aX HO113.out).2.2 0 p118 q118
      cases e118
      have qi118 : (0 < t111.length) = True := eq_true (by omega)
      (try rw [show ((0 : Int)).toNat = 0 from rfl] at hx118_0)
      (try rw [show 0 * 5 = 0 from rfl] at hx118_0)
      (try rw [Addr.add_zero'] at hx118_0)
      (try rw [show ((0 : Int)).toNat = 0 from rfl] at hx118_1)
      (try rw [show 0 * 5 = 0 from rfl] at hx118_1)
      (try rw [Addr.add_zero'] at hx118_1)
      (try rw [show ((0 : Int)).toNat = 0 from rfl] at hx118_2)
      (try rw [show 0 * 5 = 0 from rfl] at hx118_2)
      (try rw [Addr.add_zero'] at hx118_2)
      (try rw [show ((0 : Int)).toNat = 0 from rfl] at hx118_3)
      (try rw [show 0 * 5 = 0 from rfl] at hx118_3)
      (try rw [Addr.add_zero'] at hx118_3)
      (try rw [show ((0 : Int)).toNat = 0 from rfl] at hx118_4)
      (try rw [show 0 * 5 = 0 from rfl] at hx118_4)
      (try rw [Addr.add_zero'] at hx118_4)
      replace p118 := eq_true p118
      replace q118 := eq_true q118
     rotate_left
    rotate_left
    focus
     refine iH (n := 24) (ds := []) (ls 24 0) (by kernel_rfl) rfl rfl (c1_ BK103.out (ec_ hx118_0 (ec_ hx118_1 (ec_ hx118_2 (ec_ hx118_3 (ed_ hx118_4)))))) (fun hHeld => ?_); refine fF bL.Cw bL.yP (fun HT_ HW_ => ?_)
    rotate_left
    iterate 2
     focus
      refine iH (n := 24) (ds := []) (ls 24 0) (by kernel_rfl) rfl rfl (c1_ BK103.out (c3_ BK110.out (ec_ hx118_0 (ec_ hx118_1 (ec_ hx118_2 (ec_ hx118_3 (ed_ hx118_4))))))) (fun hHeld => ?_); refine fF bL.Cw bL.yP (fun HT_ HW_ => ?_)
     rotate_left
    focus
     refine iH (n := 24) (ds := []) (ls 24 0) (by kernel_rfl) rfl rfl (c1_ BK103.out (ec_ hx118_0 (ec_ hx118_1 (ec_ hx118_2 (ec_ hx118_3 (ed_ hx118_4)))))) (fun hHeld => ?_); refine fF bL.Cw bL.yP (fun HT_ HW_ => ?_)
    rotate_left
    rotate_left
    iterate 4
     focus
      generalize w84.drew = w85 at HO109 HO113 HO116 BK103 BK104 BK110 HB hx118_0 hx118_1 hx118_2 hx118_3 hx118_4 hHeld ⊢
      refine td_ [(0, 39), (1, 40), (2, 41), (3, 42), (4, 43), (5, 44), (6, 45)] ?_
      iterate 7 (refine pm_ HT_ ?_)
      refine dn_ ?_
      refine td_ [(7, 46), (8, 47)] ?_
     rotate_left
    rotate_left
    focus
     iterate 2 (refine tm_ HT_ HW_ hHeld ?_)
    rotate_left
    iterate 2
     focus
      iterate 2 (refine tm_ HT_ HW_ hHeld ?_)
     rotate_left
    focus
     iterate 2 (refine tm_ HT_ HW_ hHeld ?_)
    rotate_left
    rotate_left
    iterate 4
     focus
      refine dn_ ?_
      refine jR HT_ (i := 9) (N := some 48) (ls 24 1023) (fun K hK => ?_)
      refine gs_ Tryz.func55 #[.string ((aC t111 0).f0), .string a0] ?_
      with_reducible refine (dx.calls ((aC t111 0).f0) a0 _ _ A62.out).mono ?_
      rintro e w87 ⟨rfl, hb⟩
     rotate_left
    rotate_left
    focus
     have HS1_ := kp_ hb hHeld.2.1
     have HS2_ := kp_ hb hHeld.2.2.1
     have HS3_ := kp_ hb hHeld.2.2.2.1
     have HS4_ := kp_ hb hHeld.2.2.2.2.1
     have HS5_ := kp_ hb hHeld.2.2.2.2.2
    rotate_left
    iterate 2
     focus
      have HS4_ := kp_ hb hHeld.2.2.2.2.1
      have HS5_ := kp_ hb hHeld.2.2.2.2.2.1
      have HS6_ := kp_ hb hHeld.2.2.2.2.2.2.1
      have HS7_ := kp_ hb hHeld.2.2.2.2.2.2.2.1
      have HS8_ := kp_ hb hHeld.2.2.2.2.2.2.2.2
     rotate_left
    focus
     have HS1_ := kp_ hb hHeld.2.1
     have HS2_ := kp_ hb hHeld.2.2.1
     have HS3_ := kp_ hb hHeld.2.2.2.1
     have HS4_ := kp_ hb hHeld.2.2.2.2.1
     have HS5_ := kp_ hb hHeld.2.2.2.2.2
    rotate_left
    rotate_left
    iterate 4
     focus
      refine ⟨_, rfl, ?_⟩
      replace HO109 := aj.mk (Kd.bD (by ((exact HO109.out))) hb)
      replace HO113 := aj.mk (Kd.bD (by ((exact HO113.out))) hb)
      replace HO116 := aj.mk (Kd.bD (by ((exact HO116.out))) hb)
      replace BK103 := aj.mk (aI (by ((exact BK103.out))) hb)
      replace BK104 := aj.mk (aI (by ((exact BK104.out))) hb)
      replace BK110 := aj.mk (aI (by ((exact BK110.out))) hb)
      replace HB := aj.mk (au HB.out hb)
      (try clear hb)
     rotate_left
    rotate_left
    iterate 3
     focus
      obtain ⟨Ao88, co88, eo88⟩ := Kd.cO HO116.out
      ((subst eo88))
     rotate_left
    rotate_left 2
    focus
     refine hK.out _ _ (c1_ BK103.out (ec_ HS1_ (ec_ HS2_ (ec_ HS3_ (ec_ HS4_ (ed_ HS5_)))))) (fun hHeld => ?_)
    rotate_left
    iterate 2
     focus
      refine hK.out _ _ (c1_ BK103.out (c3_ BK110.out (ec_ HS4_ (ec_ HS5_ (ec_ HS6_ (ec_ HS7_ (ed_ HS8_))))))) (fun hHeld => ?_)
     rotate_left
    focus
     refine hK.out _ _ (c1_ BK103.out (ec_ HS1_ (ec_ HS2_ (ec_ HS3_ (ec_ HS4_ (ed_ HS5_)))))) (fun hHeld => ?_)
    rotate_left
    rotate_left
    iterate 4
     focus
      clear hK K
      refine nm_ (N := (some 48)) ?_
     rotate_left
    rotate_left
    focus
     refine td_ [(10, 49), (11, 50), (12, 51), (13, 52), (14, 53), (15, 54), (16, 55), (17, 56)] ?_
     iterate 8 (refine pm_ HT_ ?_)
     refine dn_ ?_
     refine td_ [(18, 57), (19, 58), (20, 59), (21, 60)] ?_
     iterate 4 (refine om_ HT_ ?_)
     refine dn_ ?_
     refine td_ [(22, 61), (23, 38)] ?_
     iterate 2 (refine pm_ HT_ ?_)
    rotate_left
    iterate 2
     focus
      refine td_ [(10, 49), (11, 50), (12, 51), (13, 52), (14, 53), (15, 54), (16, 55), (17, 56), (18, 57)] ?_
      iterate 9 (refine pm_ HT_ ?_)
      refine dn_ ?_
      refine td_ [(19, 58)] ?_
      refine tm_ HT_ HW_ hHeld ?_
      refine dn_ ?_
      refine jR HT_ (i := 20) (N := some 59) (ls 24 2097151) (fun K hK => ?_)
      refine gs_ Tryz.func56 #[.slice Ao26 t107.length co26] ?_
      with_reducible refine (bJ.calls kj2 _ _ t107 _ _ ?side1 ?side2 A90.out).mono ?_
      (case side1 => exact (Kd.aX HO109.out).2.2)
      (case side2 => exact (Kd.aX HO109.out).2.1)
      rintro e w117 ⟨rfl, hb⟩
      have HS4_ := kp_ hb hHeld.2.2.2.2.1
      have HS5_ := kp_ hb hHeld.2.2.2.2.2.1
      have HS6_ := kp_ hb hHeld.2.2.2.2.2.2.1
      have HS7_ := kp_ hb hHeld.2.2.2.2.2.2.2.1
      have HS8_ := kp_ hb hHeld.2.2.2.2.2.2.2.2
      refine ⟨_, rfl, ?_⟩
      replace HO109 := aj.mk (Kd.bD (by ((exact HO109.out))) hb)
      replace HO113 := aj.mk (Kd.bD (by ((exact HO113.out))) hb)
      replace HO116 := aj.mk (Kd.bD (by ((exact HO116.out))) hb)
      replace BK103 := aj.mk (aI (by ((exact BK103.out))) hb)
      replace BK104 := aj.mk (aI (by ((exact BK104.out))) hb)
      replace BK110 := aj.mk (aI (by ((exact BK110.out))) hb)
      replace HB := aj.mk (au HB.out hb)
      (try clear hb)
      refine hK.out _ _ (c1_ BK103.out (c3_ BK110.out (ec_ HS4_ (ec_ HS5_ (ec_ HS6_ (ec_ HS7_ (ed_ HS8_))))))) (fun hHeld => ?_)
      clear hK K
      refine nm_ (N := (some 59)) ?_
      refine td_ [(21, 60), (22, 61), (23, 38)] ?_
      iterate 3 (refine pm_ HT_ ?_)
     rotate_left
    focus
     refine td_ [(10, 49), (11, 50), (12, 51)] ?_
     iterate 3 (refine pm_ HT_ ?_)
     refine dn_ ?_
     refine td_ [(13, 52), (14, 53), (15, 54)] ?_
     iterate 3 (refine om_ HT_ ?_)
     refine dn_ ?_
     refine td_ [(16, 55), (17, 56)] ?_
     iterate 2 (refine pm_ HT_ ?_)
     refine dn_ ?_
     refine td_ [(18, 57), (19, 58), (20, 59), (21, 60)] ?_
     iterate 4 (refine om_ HT_ ?_)
     refine dn_ ?_
     refine td_ [(22, 61), (23, 38)] ?_
     iterate 2 (refine pm_ HT_ ?_)
    rotate_left
    focus
     refine iH (n := 24) (S := fun w' => True) (ds := []) (ls 24 0) (by kernel_rfl) rfl rfl trivial (fun hHeld => ?_); refine fF bL.Cw bL.yP (fun HT_ HW_ => ?_)
     generalize w84.drew = w193 at HO109 HO113 HO116 BK103 BK104 BK110 HB hHeld ⊢
     refine td_ [(0, 39), (1, 40), (2, 41), (3, 42)] ?_
     iterate 4 (refine pm_ HT_ ?_)
     refine dn_ ?_
     refine td_ [(4, 43), (5, 44), (6, 45), (7, 46), (8, 47), (9, 48), (10, 49)] ?_
     iterate 7 (refine om_ HT_ ?_)
     refine dn_ ?_
     refine td_ [(11, 50), (12, 51)] ?_
     iterate 2 (refine pm_ HT_ ?_)
     refine dn_ ?_
     refine td_ [(13, 52), (14, 53), (15, 54)] ?_
     iterate 3 (refine om_ HT_ ?_)
     refine dn_ ?_
     refine td_ [(16, 55), (17, 56)] ?_
     iterate 2 (refine pm_ HT_ ?_)
     refine dn_ ?_
     refine td_ [(18, 57), (19, 58), (20, 59), (21, 60)] ?_
     iterate 4 (refine om_ HT_ ?_)
     refine dn_ ?_
     refine td_ [(22, 61), (23, 38)] ?_
     iterate 2 (refine pm_ HT_ ?_)
    rotate_left
    all_goals
     refine dn_ ?_
     refine mJ (kY HT_.out (by kernel_rfl)) ?_
    focus
     obtain ⟨hcz89_0, hcz89_1, hcz89_2⟩ := d3_ BK104.out
    rotate_left
    focus
     (try go_wp2)
     replace HO109 := aj.mk (Kd.iF HO109.out)
     replace HO113 := aj.mk (Kd.iF HO113.out)
     replace HO116 := aj.mk (Kd.iF HO116.out)
     replace BK103 := aj.mk (eP BK103.out)
     replace BK104 := aj.mk (eP BK104.out)
     replace BK110 := aj.mk (eP BK110.out)
     replace HB := aj.mk (dz HB.out)
     have p121 : 0 ≤ (0 : Int) := (by omega)
     have q121 : 0 < (t111.length : Int) := of_decide_eq_true (by assumption)
     obtain ⟨ad121, e121, hx121_0, hx121_1, hx121_2, hx121_3, hx121_4⟩ := iD (Kd.aX HO113.out).2.2 0 p121 q121
     obtain rfl : ad118 = ad121 := (by injection e121)
     have qi121 : (0 < t111.length) = True := eq_true (by omega)
     (try rw [show ((0 : Int)).toNat = 0 from rfl] at hx121_0)
     (try rw [show 0 * 5 = 0 from rfl] at hx121_0)
     (try rw [Addr.add_zero'] at hx121_0)
     (try rw [show ((0 : Int)).toNat = 0 from rfl] at hx121_1)
     (try rw [show 0 * 5 = 0 from rfl] at hx121_1)
     (try rw [Addr.add_zero'] at hx121_1)
     (try rw [show ((0 : Int)).toNat = 0 from rfl] at hx121_2)
     (try rw [show 0 * 5 = 0 from rfl] at hx121_2)
     (try rw [Addr.add_zero'] at hx121_2)
     (try rw [show ((0 : Int)).toNat = 0 from rfl] at hx121_3)
     (try rw [show 0 * 5 = 0 from rfl] at hx121_3)
     (try rw [Addr.add_zero'] at hx121_3)
     (try rw [show ((0 : Int)).toNat = 0 from rfl] at hx121_4)
     (try rw [show 0 * 5 = 0 from rfl] at hx121_4)
     (try rw [Addr.add_zero'] at hx121_4)
     replace p121 := eq_true p121
     replace q121 := eq_true q121
     refine iH (n := 8) (ds := [7]) (ls 8 0) (by kernel_rfl) rfl rfl (c3_ BK110.out (ec_ hx121_0 (ec_ hx121_1 (ec_ hx121_2 (ec_ hx121_3 (ed_ hx121_4)))))) (fun hHeld => ?_); refine fF bL.KF bL.Kr (fun HT_ HW_ => ?_)
     generalize w117.drew = w118 at HO109 HO113 HO116 BK103 BK104 BK110 HB hx121_0 hx121_1 hx121_2 hx121_3 hx121_4 hHeld ⊢
     refine td_ [(0, 63), (2, 65), (3, 66)] ?_
     iterate 3 (refine pm_ HT_ ?_)
     refine dn_ ?_
     refine td_ [(1, 64), (4, 67)] ?_
     iterate 2 (refine tm_ HT_ HW_ hHeld ?_)
     refine dn_ ?_
     refine jR HT_ (i := 5) (N := some 68) (ls 8 63) (fun K hK => ?_)
     refine gs_ Tryz.func57 #[.slice Ao26 t107.length co26, .agg #[.string ((aC t111 0).f0), .int .i64 ((aC t111 0).f1), .int .i64 ((aC t111 0).f2), .int .i64 ((aC t111 0).f3), .string ((aC t111 0).f4)]] ?_
     with_reducible refine (fB.calls kj2 _ _ t107 ((aC t111 0).f0) ((aC t111 0).f1) ((aC t111 0).f2) ((aC t111 0).f3) ((aC t111 0).f4) t122 _ ?side1 ?side2 A92.out).mono ?_
     (case side1 => exact (Kd.aX HO109.out).2.2)
     (case side2 => exact (Kd.aX HO109.out).2.1)
     rintro e w119 ⟨rfl, hb⟩
     have HS3_ := kp_ hb hHeld.2.2.2.1
     have HS4_ := kp_ hb hHeld.2.2.2.2.1
     have HS5_ := kp_ hb hHeld.2.2.2.2.2.1
     have HS6_ := kp_ hb hHeld.2.2.2.2.2.2.1
     have HS7_ := kp_ hb hHeld.2.2.2.2.2.2.2
     refine ⟨_, rfl, ?_⟩
     replace HO109 := aj.mk (Kd.bD (by ((exact HO109.out))) hb)
     replace HO113 := aj.mk (Kd.bD (by ((exact HO113.out))) hb)
     replace HO116 := aj.mk (Kd.bD (by ((exact HO116.out))) hb)
     replace BK103 := aj.mk (aI (by ((exact BK103.out))) hb)
     replace BK104 := aj.mk (aI (by ((exact BK104.out))) hb)
     replace BK110 := aj.mk (aI (by ((exact BK110.out))) hb)
     replace HB := aj.mk (au HB.out hb)
     (try clear hb)
     refine hK.out _ _ (c3_ BK110.out (ec_ HS3_ (ec_ HS4_ (ec_ HS5_ (ec_ HS6_ (ed_ HS7_)))))) (fun hHeld => ?_)
     clear hK K
     refine nm_ (N := (some 68)) ?_
     refine td_ [(6, 69)] ?_
     refine pm_ HT_ ?_
     refine dn_ ?_
     refine Cr (i := 7) (N := none) (ls 8 255) rfl rfl (lY HT_.out (by kernel_rfl)) (by decide) (fun K hK => ?_)
     have hs120 : w119.cell? ⟨gb110, 2, none⟩ = some (.int .i64 0) := (aG BK110.out 2).trans rfl
     have hfs120 := bB BK110.out 2
     have hns120_0 := NB103_110.out
     have hns120_1 := NB104_110.out
     have hms120_0 := NB110_103.out
     have hms120_1 := NB110_104.out
     refine yR (w1 := ?_) (by rfl) rfl ?_ ?_
     rotate_left
     ·go_simp
      rfl
     refine hK.out _ _ ?_
     clear hK K
     refine mJ (kY HT_.out (by kernel_rfl)) ?_
     obtain ⟨hcz121_0, hcz121_1, hcz121_2, hfz121_0, hfz121_1, hfz121_2⟩ := z3_ BK110.out
     obtain ⟨hcz122_0, hcz122_1, hcz122_2⟩ := d3_ BK104.out
    rotate_left
    focus
     obtain ⟨hcz148_0, hcz148_1, hcz148_2⟩ := d3_ BK104.out
    rotate_left
    focus
     obtain ⟨hcz172_0, hcz172_1, hcz172_2⟩ := d3_ BK104.out
    rotate_left
    focus
     obtain ⟨hcz195_0, hcz195_1, hcz195_2⟩ := d3_ BK104.out
    rotate_left
    all_goals
     have hfz89_0 := bB BK104.out 0
     have hfz89_1 := bB BK104.out 1
     have hfz89_2 := bB BK104.out 2
     (try go_wp2)
    ·refine bodyPost_ret (iE rfl _ _ gb104 31 #[.string (⟨#[]⟩ : ByteArray), .slice none 0 0, .int .i64 0] (0, 0) _ rfl (by (with_reducible repeat ((refine aA ?_ _))); refine bM (cs := #[.string (⟨#[]⟩ : ByteArray), .slice none 0 0, .int .i64 0]) ?_ 2 _ rfl; (with_reducible repeat ((refine aA ?_ _))); refine bM (cs := #[.string (⟨#[]⟩ : ByteArray), .slice none 0 0, .int .i64 0]) ?_ 1 _ rfl; (with_reducible repeat ((refine aA ?_ _))); refine bM (cs := #[.string (⟨#[]⟩ : ByteArray), .slice none 0 0, .int .i64 0]) ?_ 0 _ rfl; (with_reducible repeat ((refine aA ?_ _))); exact BK104.out) Tryz.underlying31 rfl (by kernel_rfl)) rfl ?_
     exact ⟨_, by rfl, by (exact Kd.fU _ _ _ _ _), by repeat ((with_reducible first | exact HB.out | refine dG ?_ GE104.out))⟩
    ·refine bodyPost_ret (iE rfl _ _ gb104 31 #[.string a0, .slice Ao26 t107.length co26, .int .i64 t122] (0, 0) _ rfl (by (with_reducible repeat ((refine aA ?_ _))); refine bM (cs := #[.string a0, .slice Ao26 t107.length co26, .int .i64 0]) ?_ 2 _ rfl; (with_reducible repeat ((refine aA ?_ _))); refine bM (cs := #[.string a0, .slice none 0 0, .int .i64 0]) ?_ 1 _ rfl; (with_reducible repeat ((refine aA ?_ _))); refine bM (cs := #[.string (⟨#[]⟩ : ByteArray), .slice none 0 0, .int .i64 0]) ?_ 0 _ rfl; (with_reducible repeat ((refine aA ?_ _))); refine eD ?_ NB104_110.out _; (with_reducible repeat ((refine aA ?_ _))); exact BK104.out) Tryz.underlying31 rfl (by kernel_rfl)) rfl ?_
     exact ⟨_, by rfl, by (with_reducible repeat ((apply Kd.aN))); exact Kd.dn (Kd.gP (p := ⟨gb104, 2, none⟩) (Kd.gP (p := ⟨gb104, 1, none⟩) (Kd.gP (p := ⟨gb104, 0, none⟩) (Kd.gP (p := ⟨gb110, 2, none⟩) (Kd.kJ (Kd.kJ HO109.out BK110.out (by decide)) BK104.out (by decide)) (fun _ hk => hk.1.2) (.int .i64 t122)) (fun _ hk => hk.2) (.string a0)) (fun _ hk => hk.2) (.slice Ao26 t107.length co26)) (fun _ hk => hk.2) (.int .i64 t122)) (fun _ hk => trivial), by repeat ((with_reducible first | exact HB.out | refine dG ?_ GE104.out | refine dG ?_ GE110.out))⟩
    ·refine bodyPost_ret (iE rfl _ _ gb104 31 #[.string (⟨#[]⟩ : ByteArray), .slice none 0 0, .int .i64 0] (0, 0) _ rfl (by (with_reducible repeat ((refine aA ?_ _))); refine bM (cs := #[.string (⟨#[]⟩ : ByteArray), .slice none 0 0, .int .i64 0]) ?_ 2 _ rfl; (with_reducible repeat ((refine aA ?_ _))); refine bM (cs := #[.string (⟨#[]⟩ : ByteArray), .slice none 0 0, .int .i64 0]) ?_ 1 _ rfl; (with_reducible repeat ((refine aA ?_ _))); refine bM (cs := #[.string (⟨#[]⟩ : ByteArray), .slice none 0 0, .int .i64 0]) ?_ 0 _ rfl; (with_reducible repeat ((refine aA ?_ _))); exact BK104.out) Tryz.underlying31 rfl (by kernel_rfl)) rfl ?_
     exact ⟨_, by rfl, by (exact Kd.fU _ _ _ _ _), by repeat ((with_reducible first | exact HB.out | refine dG ?_ GE104.out))⟩
    ·refine bodyPost_ret (iE rfl _ _ gb104 31 #[.string (⟨#[]⟩ : ByteArray), .slice none 0 0, .int .i64 0] (0, 0) _ rfl (by (with_reducible repeat ((refine aA ?_ _))); refine bM (cs := #[.string (⟨#[]⟩ : ByteArray), .slice none 0 0, .int .i64 0]) ?_ 2 _ rfl; (with_reducible repeat ((refine aA ?_ _))); refine bM (cs := #[.string (⟨#[]⟩ : ByteArray), .slice none 0 0, .int .i64 0]) ?_ 1 _ rfl; (with_reducible repeat ((refine aA ?_ _))); refine bM (cs := #[.string (⟨#[]⟩ : ByteArray), .slice none 0 0, .int .i64 0]) ?_ 0 _ rfl; (with_reducible repeat ((refine aA ?_ _))); exact BK104.out) Tryz.underlying31 rfl (by kernel_rfl)) rfl ?_
     exact ⟨_, by rfl, by (exact Kd.fU _ _ _ _ _), by repeat ((with_reducible first | exact HB.out | refine dG ?_ GE104.out))⟩
    ·refine bodyPost_ret (iE rfl _ _ gb104 31 #[.string (⟨#[]⟩ : ByteArray), .slice none 0 0, .int .i64 0] (0, 0) _ rfl (by (with_reducible repeat ((refine aA ?_ _))); refine bM (cs := #[.string (⟨#[]⟩ : ByteArray), .slice none 0 0, .int .i64 0]) ?_ 2 _ rfl; (with_reducible repeat ((refine aA ?_ _))); refine bM (cs := #[.string (⟨#[]⟩ : ByteArray), .slice none 0 0, .int .i64 0]) ?_ 1 _ rfl; (with_reducible repeat ((refine aA ?_ _))); refine bM (cs := #[.string (⟨#[]⟩ : ByteArray), .slice none 0 0, .int .i64 0]) ?_ 0 _ rfl; (with_reducible repeat ((refine aA ?_ _))); exact BK104.out) Tryz.underlying31 rfl (by kernel_rfl)) rfl ?_
     exact ⟨_, by rfl, by (exact Kd.fU _ _ _ _ _), by repeat ((with_reducible first | exact HB.out | refine dG ?_ GE104.out))⟩
end Go.Y.PZf
namespace Go.Y.PZe
open Go.Proofs.ah.av Go.Proofs.ah.aT Go.Proofs.ah.aU Go.Y.Given Go.Y.PRd Go.Y.PRr Go.Y.PZo
attribute [local go_sem] dB dD dQ dP cK cB dA dF
def je : Option Int → Value
 | none => .nilIface
 | some c => .iface 0 (.int .i64 c)
theorem iZ : je none = .nilIface := rfl
theorem jd (c : Int) : je (some c) = .iface 0 (.int .i64 c) := rfl
end Go.Y.PZe
namespace Go.Y.PZh
open Go.Proofs.ah.av Go.Proofs.ah.aT Go.Proofs.ah.aU Go.Y.Given Go.Y.PRd Go.Y.PRr Go.Y.PZo Go.Y.PZf Go.Y.PZe
attribute [local go_sem] dB dD dQ dP cK cB dA dF
def je : Option Int → Value
 | none => .nilIface
 | some c => .iface 0 (.int .i64 c)
theorem iZ : je none = .nilIface := rfl
theorem jd (c : Int) : je (some c) = .iface 0 (.int .i64 c) := rfl
end Go.Y.PZh
namespace Go.Y.PZh
open Go.Proofs.ah.av Go.Proofs.ah.aT Go.Proofs.ah.aU Go.Y.Given Go.Y.PRd Go.Y.PRr Go.Y.PZo Go.Y.PZf Go.Y.PZe
attribute [local go_sem] dB dD dQ dP cK cB dA dF
noncomputable def gZ.f (a0_0 : ByteArray) (l0_1 : List (S28)) (a0_2 : Int) : Option (ByteArray) := some a0_0
theorem gZ.calls (a0_0 : ByteArray) (A0_1 : Option Addr) (c0_1 : Nat) (l0_1 : List (S28)) (a0_2 : Int) (r : ByteArray) (w : World) (hr0_1 : Kd.C k28 w A0_1 l0_1.length l0_1) (hc0_1 : l0_1.length ≤ c0_1) (h : gZ.f a0_0 l0_1 a0_2 = some r) :
  Calls Tryz.prog 98 #[.agg #[.string a0_0, .slice A0_1 l0_1.length c0_1, .int .i64 a0_2]] w fun e w' => e = .returned (.string r) ∧ Below w.heap.size w w' := by
 have hu31 := Tryz.underlying31
 have HR0_1 := aj.mk hr0_1
 have HC0_1 := aj.mk hc0_1
 clear hr0_1 hc0_1
 have HB := aj.mk (Below.refl w.heap.size w)
 have H : (some a0_0) = some r := h
 clear h
 obtain rfl := Option.some.inj H
 go_enter Tryz.func98, Tryz.ntmps98
 go_wp2_with ((((with_reducible refine bU (N := 1) rfl ?_); refine dw ?hg (N := 1) ?hd (cs := #[.string a0_0, .slice A0_1 l0_1.length c0_1, .int .i64 a0_2]) (t := 31) ?hr ?_; (case hd => rfl); (case hg => rfl); (case hr => (go_simp; done)); intro gb101 hg w2 hbox hb; have BK101 := aj.mk (hbox); have GW101 := aj.mk (ge_ hg (ay HB.out)); have GE101 := aj.mk (ge_ hg (ay HB.out)); replace HB := aj.mk (au HB.out hb); clear hb hbox hg; obtain ⟨hcz3_0, hcz3_1, hcz3_2, hfz3_0, hfz3_1, hfz3_2⟩ := z3_ BK101.out)))
 go_ret
 exact ⟨by rfl, HB.out⟩
noncomputable def eX.f  : Option ((List (S28))) := some (([(⟨(⟨#[1, 97, 0]⟩ : ByteArray), 2, 1, 0, (⟨#[1, 110, 1, 97, 0]⟩ : ByteArray)⟩ : S28), (⟨(⟨#[1, 97, 0]⟩ : ByteArray), 6, 1, 0, (⟨#[1, 110, 1, 97, 0, 0, 0, 0, 0, 1, 0, 0, 0, 2, 0, 0, 0, 3, 0, 0, 0, 4, 0, 0, 0, 5]⟩ : ByteArray)⟩ : S28)] : List (S28)))
theorem eX.calls  (r : List (S28)) (w : World) (h : eX.f  = some r) :
  Calls Tryz.prog 46 #[] w fun e w' => ∃ v0_ : Value, e = .returned (v0_) ∧ Kd.R k28 28 w' w.heap.size (fun _ => True) v0_ r ∧ Below w.heap.size w w' := by
 have hu28 := Tryz.underlying28
 have HB := aj.mk (Below.refl w.heap.size w)
 have H : (some (([(⟨(⟨#[1, 97, 0]⟩ : ByteArray), 2, 1, 0, (⟨#[1, 110, 1, 97, 0]⟩ : ByteArray)⟩ : S28), (⟨(⟨#[1, 97, 0]⟩ : ByteArray), 6, 1, 0, (⟨#[1, 110, 1, 97, 0, 0, 0, 0, 0, 1, 0, 0, 0, 2, 0, 0, 0, 3, 0, 0, 0, 4, 0, 0, 0, 5]⟩ : ByteArray)⟩ : S28)] : List (S28)))) = some r := h
 clear h
 obtain ⟨y102, hy102⟩ : ∃ y_ : List (S28), y_ = (([(⟨(⟨#[1, 97, 0]⟩ : ByteArray), 2, 1, 0, (⟨#[1, 110, 1, 97, 0]⟩ : ByteArray)⟩ : S28), (⟨(⟨#[1, 97, 0]⟩ : ByteArray), 6, 1, 0, (⟨#[1, 110, 1, 97, 0, 0, 0, 0, 0, 1, 0, 0, 0, 2, 0, 0, 0, 3, 0, 0, 0, 4, 0, 0, 0, 5]⟩ : ByteArray)⟩ : S28)] : List (S28))) := ⟨_, rfl⟩
 replace H : (some y102) = some r := by (rw [hy102]; with_reducible exact H)
 have Ny102 := aj.mk hy102
 clear hy102
 obtain rfl := Option.some.inj H
 go_enter Tryz.func46, Tryz.ntmps46
 go_wp2_with ((((with_reducible refine bU (N := 3) rfl ?_); refine Kd.kE k28 _ 28 ?hg (N := 3) ?hd (xs := ([(⟨(⟨#[1, 97, 0]⟩ : ByteArray), 2, 1, 0, (⟨#[1, 110, 1, 97, 0]⟩ : ByteArray)⟩ : S28), (⟨(⟨#[1, 97, 0]⟩ : ByteArray), 6, 1, 0, (⟨#[1, 110, 1, 97, 0, 0, 0, 0, 0, 1, 0, 0, 0, 2, 0, 0, 0, 3, 0, 0, 0, 4, 0, 0, 0, 5]⟩ : ByteArray)⟩ : S28)] : List (S28))) (inner := [.string (⟨#[1, 97, 0]⟩ : ByteArray), .int .i64 2, .int .i64 1, .int .i64 0, .string (⟨#[1, 110, 1, 97, 0]⟩ : ByteArray), .string (⟨#[1, 97, 0]⟩ : ByteArray), .int .i64 6, .int .i64 1, .int .i64 0, .string (⟨#[1, 110, 1, 97, 0, 0, 0, 0, 0, 1, 0, 0, 0, 2, 0, 0, 0, 3, 0, 0, 0, 4, 0, 0, 0, 5]⟩ : ByteArray)]) (ok := fun _ => True) (okp := fun _ => True) ?hr ?hp (fun _ hk => hk) trivial (Below.refl _ _) (Nat.le_refl _) (by simp) ?_; (case hd => rfl); (case hg => rfl); (case hr => (go_simp; done)); (case hp => exact (bF.c5 (show Kd.M k28 _ _ _ (⟨(⟨#[1, 97, 0]⟩ : ByteArray), 2, 1, 0, (⟨#[1, 110, 1, 97, 0]⟩ : ByteArray)⟩ : S28) [.string (⟨#[1, 97, 0]⟩ : ByteArray), .int .i64 2, .int .i64 1, .int .i64 0, .string (⟨#[1, 110, 1, 97, 0]⟩ : ByteArray)] from (lQ _ _ _ (⟨(⟨#[1, 97, 0]⟩ : ByteArray), 2, 1, 0, (⟨#[1, 110, 1, 97, 0]⟩ : ByteArray)⟩ : S28) )) (bF.c5 (show Kd.M k28 _ _ _ (⟨(⟨#[1, 97, 0]⟩ : ByteArray), 6, 1, 0, (⟨#[1, 110, 1, 97, 0, 0, 0, 0, 0, 1, 0, 0, 0, 2, 0, 0, 0, 3, 0, 0, 0, 4, 0, 0, 0, 5]⟩ : ByteArray)⟩ : S28) [.string (⟨#[1, 97, 0]⟩ : ByteArray), .int .i64 6, .int .i64 1, .int .i64 0, .string (⟨#[1, 110, 1, 97, 0, 0, 0, 0, 0, 1, 0, 0, 0, 2, 0, 0, 0, 3, 0, 0, 0, 4, 0, 0, 0, 5]⟩ : ByteArray)] from (lQ _ _ _ (⟨(⟨#[1, 97, 0]⟩ : ByteArray), 6, 1, 0, (⟨#[1, 110, 1, 97, 0, 0, 0, 0, 0, 1, 0, 0, 0, 2, 0, 0, 0, 3, 0, 0, 0, 4, 0, 0, 0, 5]⟩ : ByteArray)⟩ : S28) )) (bF.none _ _)))); intro v103 w1 ho2 hb hg_ hnew_; clear hg_ hnew_; ((rw [← Ny102.out] at ho2)); have HO104 := aj.mk (Kd.bS ho2 (ay HB.out)); replace HB := aj.mk (au HB.out hb); clear hb ho2)))
 go_ret
 exact ⟨_, by rfl, by (with_reducible repeat ((apply Kd.aN))); exact HO104.out, HB.out⟩
mutual
noncomputable def bg.l0 : Nat → List (S28) → Int → Option (Bool)
 | 0, _, _ => none
 | k + 1, x0, x3 => if x3 < (x0.length : Int) then (bg.j1 k x0 x3 (decide (x3 < 40))) else (bg.j1 k x0 x3 false)
noncomputable def bg.j1 : Nat → List (S28) → Int → Bool → Option (Bool)
 | 0, _, _, _ => none
 | k + 1, x0, x3, x11 => if x11 = true then (if 0 ≤ x3 then (if x3 < (x0.length : Int) then (if (((aC x0 x3).f4).size : Int) > 2000 then (some false) else (if (((aC x0 x3).f0).size : Int) > 600 then (some false) else (bg.l0 k x0 (wrap64 (x3 + 1))))) else (none)) else (none)) else (some (decide ((x0.length : Int) ≤ 30)))
end
noncomputable def bg.f (k : Nat) (l0 : List (S28)) : Option (Bool) := bg.l0 k l0 0
theorem bg.calls (k : Nat) (A0 : Option Addr) (c0 : Nat) (l0 : List (S28)) (r : Bool) (w : World) (hr0 : Kd.C k28 w A0 l0.length l0) (hc0 : l0.length ≤ c0) (h : bg.f k l0 = some r) :
    Calls Tryz.prog 19 #[.slice A0 l0.length c0] w fun e w' => e = .returned (.bool r) ∧ bf w w' := by
  have HR0 := aj.mk hr0
  have HC0 := aj.mk hc0
  clear hr0 hc0
  have H : (bg.l0 k l0 0) = some r := h
  clear h
  have H' := aj.mk H
  clear H
  go_enter Tryz.func19, Tryz.ntmps19
  go_wp2
  go_loopg [3] k (fun kq v3 w' => ∃ (x3_1 : Int), v3 = .int .i64 x3_1 ∧ aj (bg.l0 kq l0 x3_1 = some r) ∧ aj (kq ≤ k) ∧ bf w w')
  case atStart => exact ⟨(0), (by rfl), H', ⟨Nat.le_refl _⟩, by repeat ((exact bf.refl _))⟩
  case round =>
   clear H'
   obtain ⟨x3_1, rfl, HA, HK1, ⟨m1, rfl⟩⟩ := hrel
   cases gk with
   | zero => exact absurd HA.out (by simp [bg.l0])
   | succ k1 =>
    have H := HA.out
    clear HA
    simp only [bg.l0] at H
    have HC2 := aj.mk H
    clear H
    go_upto_region 2 with (fail)
    go_cut [11] (fun v11 wc => ∃ (kq : Nat) (x11_1 : Bool), v11 = .bool x11_1 ∧ aj (bg.j1 kq l0 x3_1 x11_1 = some r) ∧ aj (kq ≤ k1) ∧ bf w wc)
    case first =>
     have H := HC2.out
     clear HC2
     by_cases c3 : x3_1 < (l0.length : Int)
     focus
      rw [if_pos c3] at H
      have c3b0 : decide (x3_1 < (l0.length : Int)) = true := decide_eq_true c3
     rotate_left
     focus
      rw [if_neg c3] at H
      have c3b0 : decide (x3_1 < (l0.length : Int)) = false := decide_eq_false c3
     rotate_left
     all_goals
      clear c3
      (skip)
      have H' := aj.mk H
      clear H
      go_wp2
      go_meet
     ·case rel => exact ⟨_, (decide (x3_1 < 40)), (by rfl), H', ⟨by have := HK1.out; omega⟩, by repeat (first | exact bf.refl _ | apply bf.step)⟩
     ·case rel => exact ⟨_, (false), (by rfl), H', ⟨by have := HK1.out; omega⟩, by repeat (first | exact bf.refl _ | apply bf.step)⟩
    case rest =>
     clear HC2
     obtain ⟨kq, x11_1, rfl, HA, HJ1, ⟨mc1, rfl⟩⟩ := hcut
     cases kq with
     | zero => exact absurd HA.out (by simp [bg.j1])
     | succ kj1 =>
      have H := HA.out
      clear HA
      simp only [bg.j1] at H
      by_cases c4 : x11_1 = true
      ·subst c4
       rw [if_pos rfl] at H
       obtain ⟨c5b0, H⟩ := dX H
       obtain ⟨c6b0, H⟩ := dX H
       by_cases c7 : (((aC l0 x3_1).f4).size : Int) > 2000
       focus
        rw [if_pos c7] at H
        have c7b0 : decide (2000 < (((aC l0 x3_1).f4).size : Int)) = true := decide_eq_true c7
        have c7b1 : decide (2000 < ((aC l0 x3_1).f4).size) = true := decide_eq_true (by omega)
        clear c7
        obtain rfl := Option.some.inj H
       rotate_left
       focus
        rw [if_neg c7] at H
        have c7b0 : decide (2000 < (((aC l0 x3_1).f4).size : Int)) = false := decide_eq_false c7
        have c7b1 : decide (2000 < ((aC l0 x3_1).f4).size) = false := decide_eq_false (by omega)
        clear c7
        by_cases c8 : (((aC l0 x3_1).f0).size : Int) > 600
        focus
         rw [if_pos c8] at H
         have c8b0 : decide (600 < (((aC l0 x3_1).f0).size : Int)) = true := decide_eq_true c8
         have c8b1 : decide (600 < ((aC l0 x3_1).f0).size) = true := decide_eq_true (by omega)
         clear c8
         obtain rfl := Option.some.inj H
        rotate_left
        focus
         rw [if_neg c8] at H
         have c8b0 : decide (600 < (((aC l0 x3_1).f0).size : Int)) = false := decide_eq_false c8
         have c8b1 : decide (600 < ((aC l0 x3_1).f0).size) = false := decide_eq_false (by omega)
         clear c8
         have H' := aj.mk H
         clear H
        rotate_left
       rotate_left 2
       all_goals
        have p120 : 0 ≤ (x3_1 : Int) := of_decide_eq_true (by assumption)
        have q120 : x3_1 < (l0.length : Int) := of_decide_eq_true (by assumption)
        obtain ⟨ad120, e120, hx120_0, hx120_1, hx120_2, hx120_3, hx120_4⟩ := iD HR0.out x3_1 p120 q120
        cases e120
        replace p120 := eq_true p120
        replace q120 := eq_true q120
       ·go_wp2
        go_ret
        exact ⟨by rfl, by repeat (first | exact bf.refl _ | apply bf.step)⟩
       all_goals
        have p121 : 0 ≤ (x3_1 : Int) := of_decide_eq_true (by assumption)
        have q121 : x3_1 < (l0.length : Int) := of_decide_eq_true (by assumption)
        obtain ⟨ad121, e121, hx121_0, hx121_1, hx121_2, hx121_3, hx121_4⟩ := iD HR0.out x3_1 p121 q121
        obtain rfl : ad120 = ad121 := (by injection e121)
        replace p121 := eq_true p121
        replace q121 := eq_true q121
        go_wp2
       ·go_ret
        exact ⟨by rfl, by repeat (first | exact bf.refl _ | apply bf.step)⟩
       ·go_roundg kj1
        case measure => have := HK1.out; have := HJ1.out; omega
        case rel => exact ⟨(wrap64 (x3_1 + 1)), (by rfl), H', ⟨by have := HK1.out; have := HJ1.out; omega⟩, by repeat (first | exact bf.refl _ | apply bf.step)⟩
      ·replace c4 := Bool.eq_false_iff.mpr c4
       subst c4
       rw [if_neg ff_] at H
       obtain rfl := Option.some.inj H
       go_wp2
       go_ret
       exact ⟨by rfl, by repeat (first | exact bf.refl _ | apply bf.step)⟩
end Go.Y.PZh
namespace Go.Y.Rrs
open Go.Proofs.ah.av Go.Proofs.ah.aT Go.Proofs.ah.aU Go.Y.Given Go.Y.PRd Go.Y.PRr Go.Y.PZh Go.Y.Oct Go.Y.Name Go.Y.Cmp Go.Y.dY Go.Y.dK Go.Y.bY
def DL (a : ByteArray) (s : List RR) (x : RR) : Bool := lM a x && ((!(x.f1 == 6) || gu x.f0 a) && (!(x.f1 == 5) || (atL s x.f0).length == 1))
def Fh (a : ByteArray) (s : List RR) : Bool := (fP s 6).length == 1 && decide (0 < (mY s a 2).length)
def qg (a : ByteArray) (s : List RR) : Bool := s.all (DL a s) && Fh a s
noncomputable def newR (a : ByteArray) (l : List RR) : ByteArray × List RR × Int :=
 if (bC a && l.all gN) = true then (if qg a (ofL bP l) = true then (a, ofL bP l, 0) else ((⟨#[]⟩ : ByteArray), [], 9)) else ((⟨#[]⟩ : ByteArray), [], 2)
theorem filter_one {l : List RR} {p : RR → Bool} {i : Nat} (hi : i < l.length) (hp : p l[i] = true) (h : ∀ (j : Nat) (hj : j < l.length), j ≠ i → p l[j] = false) : l.filter p = [l[i]] := by
 have e : l = l.take i ++ l[i] :: l.drop (i + 1) := by rw [← List.drop_eq_getElem_cons hi, List.take_append_drop]
 have h1 : (l.take i).filter p = [] := by
  rw [List.filter_eq_nil_iff]
  intro x hx
  obtain ⟨j, hj, rfl⟩ := List.getElem_of_mem hx
  rw [List.length_take] at hj
  rw [List.getElem_take, h j (by omega) (by omega)]; exact Bool.false_ne_true
 have h2 : (l.drop (i + 1)).filter p = [] := by
  rw [List.filter_eq_nil_iff]
  intro x hx
  obtain ⟨j, hj, rfl⟩ := List.getElem_of_mem hx
  rw [List.length_drop] at hj
  rw [List.getElem_drop, h _ (by omega) (by omega)]; exact Bool.false_ne_true
 have e2 : l.filter p = (l.take i ++ l[i] :: l.drop (i + 1)).filter p := congrArg (List.filter p) e
 rw [e2, List.filter_append, h1, List.filter_cons, if_pos hp, h2]; rfl
theorem FM {l : List RR} {p : RR → Bool} {i : Nat} (hi : i + 1 < l.length) (h1 : p l[i] = true) (h2 : p l[i + 1] = true) : 2 ≤ (l.filter p).length := by
 have hs : [l[i], l[i + 1]].Sublist l := by
  refine List.Sublist.trans ?_ (List.drop_sublist i l)
  rw [Gz l i hi]
  exact ((List.nil_sublist _).cons_cons _).cons_cons _
 have := (hs.filter p).length_le
 rw [List.filter_cons, if_pos h1, List.filter_cons, if_pos h2] at this
 exact Nat.le_trans (by simp) this
theorem Kj {x y : RR} (h : bP x y < 0) : cmpL (iR x) (iR y) ≤ 0 := by
 unfold bP at h
 unfold kF at h
 split at h
 ·rename_i e; simp only [] at e; omega
 ·simp only [] at h; omega
theorem yX {s : List RR} (h : mo s) {i j : Nat} (hij : i ≤ j) (hj : j < s.length) : cmpL (iR s[i]) (iR s[j]) ≤ 0 := by
 by_cases e : i = j
 ·subst e; rw [mU.self]; omega
 ·exact Kj (List.pairwise_iff_getElem.mp h.set i j (by omega) hj (by omega))
theorem tX {s : List RR} (h : mo s) {i m j : Nat} (him : i ≤ m) (hmj : m ≤ j) (hj : j < s.length) (e : iR s[i] = iR s[j]) : iR s[m] = iR s[i] := by
 have h1 := yX h him (by omega)
 have h2 := yX h hmj hj
 rw [← e] at h2
 have h3 := mU.flip (iR s[i]) (iR s[m])
 exact (mU.zero _ _ (by omega))
theorem rT {s : List RR} (h : mo s) {i j : Nat} (hi : i < s.length) (hj : j < s.length) : gu s[i].f0 s[j].f0 = true ↔ iR s[i] = iR s[j] := yc (h.all _ (List.getElem_mem hi)).1 (h.all _ (List.getElem_mem hj)).1
theorem Aa {s : List RR} (h : mo s) {i : Nat} (hi : i < s.length) (h5 : s[i].f1 = 5) : lX s i = true ↔ (atL s s[i].f0).length = 1 := by
 have hself : gu s[i].f0 s[i].f0 = true := vS (h.all _ (List.getElem_mem hi)).1
 unfold lX
 rw [fE s i hi, h5, beq_self_eq_true, Bool.true_and]
 constructor
 ·intro hn
  rw [Bool.not_eq_true', Bool.or_eq_false_iff] at hn
  have hall : ∀ (j : Nat) (hj : j < s.length), j ≠ i → gu s[j].f0 s[i].f0 = false := by
   intro j hj hne
   cases hc : gu s[j].f0 s[i].f0
   ·rfl
   ·exfalso
    have e := (rT h hj hi).mp hc
    by_cases hlt : j < i
    ·have h1 := tX h (show j ≤ i - 1 by omega) (show i - 1 ≤ i by omega) hi e
     have h2 := (rT h (show i - 1 < s.length by omega) hi).mpr (h1.trans e)
     have h3 := hn.1
     rw [decide_eq_true (show 0 < i by omega), Bool.true_and, fE s (i - 1) (by omega), h2] at h3
     cases h3
    ·have h1 := tX h (show i ≤ i + 1 by omega) (show i + 1 ≤ j by omega) hj e.symm
     have h2 := (rT h (show i + 1 < s.length by omega) hi).mpr h1
     have h3 := hn.2
     rw [decide_eq_true (show i + 1 < s.length by omega), Bool.true_and, fE s (i + 1) (by omega), h2] at h3
     cases h3
  unfold atL
  rw [filter_one hi hself hall]; rfl
 ·intro hl
  rw [Bool.not_eq_true', Bool.or_eq_false_iff]
  constructor
  ·by_cases h0 : 0 < i
   ·rw [decide_eq_true h0, Bool.true_and, fE s (i - 1) (by omega)]
    cases hc : gu s[i - 1].f0 s[i].f0
    ·rfl
    ·obtain ⟨m, rfl⟩ : ∃ m, i = m + 1 := ⟨i - 1, by omega⟩
     have := FM (l := s) (p := fun x => gu x.f0 s[m + 1].f0) (i := m) hi hc hself
     unfold atL at hl; omega
   ·rw [decide_eq_false h0]; rfl
  ·by_cases h0 : i + 1 < s.length
   ·rw [decide_eq_true h0, Bool.true_and, fE s (i + 1) h0]
    cases hc : gu s[i + 1].f0 s[i].f0
    ·rfl
    ·have := FM (l := s) (p := fun x => gu x.f0 s[i].f0) (i := i) h0 hself hc
     unfold atL at hl; omega
   ·rw [decide_eq_false h0]; rfl
theorem Ea {s : List RR} (h : mo s) : oz s = true ↔ ∀ x ∈ s, x.f1 = 5 → (atL s x.f0).length = 1 := by
 rw [vW]
 constructor
 ·intro ha x hx h5
  obtain ⟨i, hi, rfl⟩ := List.getElem_of_mem hx
  exact (Aa h hi h5).mp (ha i hi)
 ·intro ha i hi
  by_cases h5 : s[i].f1 = 5
  ·exact (Aa h hi h5).mpr (ha _ (List.getElem_mem hi) h5)
  ·unfold lX
   rw [fE s i hi, beq_eq_false_iff_ne.mpr h5]; rfl
def tu (a : ByteArray) (s : List RR) : Bool := s.all (lM a) && ((fP s 6).length == 1 && (gu (rdR (fP s 6) 0).f0 a && (!(mY s a 2).isEmpty && oz s)))
theorem Bq {s : List RR} (h1 : (fP s 6).length = 1) : ∃ y, fP s 6 = [y] ∧ y ∈ s ∧ y.f1 = 6 := by
 obtain ⟨y, e⟩ := List.length_eq_one_iff.mp h1
 have hm : y ∈ fP s 6 := by rw [e]; exact List.mem_singleton.mpr rfl
 unfold fP at hm
 exact ⟨y, e, (List.mem_filter.mp hm).1, beq_iff_eq.mp (List.mem_filter.mp hm).2⟩
theorem JK {a : ByteArray} {s : List RR} (h : mo s) : tu a s = qg a s := by
 rw [Bool.eq_iff_iff]
 unfold tu qg Fh
 simp only [Bool.and_eq_true, beq_iff_eq, decide_eq_true_eq, Ea h, List.all_eq_true, Bool.not_eq_true']
 have hne : (mY s a 2).isEmpty = false ↔ 0 < (mY s a 2).length := by
  cases mY s a 2 <;> simp
 rw [hne]
 unfold DL
 simp only [Bool.and_eq_true, Bool.or_eq_true, Bool.not_eq_true', beq_eq_false_iff_ne, beq_iff_eq]
 constructor
 ·rintro ⟨hw, h6, ha, h2, hc⟩
  obtain ⟨y, ey, hy, hy6⟩ := Bq h6
  rw [ey] at ha
  refine ⟨fun x hx => ⟨hw x hx, ?_, ?_⟩, h6, h2⟩
  ·by_cases e : x.f1 = 6
   ·have : x ∈ fP s 6 := by unfold fP; exact List.mem_filter.mpr ⟨hx, by rw [e]; rfl⟩
    rw [ey] at this
    rw [List.mem_singleton.mp this]
    exact .inr ha
   ·exact .inl e
  ·by_cases e : x.f1 = 5
   ·exact .inr (hc x hx e)
   ·exact .inl e
 ·rintro ⟨ho, h6, h2⟩
  obtain ⟨y, ey, hy, hy6⟩ := Bq h6
  refine ⟨fun x hx => (ho x hx).1, h6, ?_, h2, fun x hx h5 => ?_⟩
  ·rw [ey]
   rcases (ho y hy).2.1 with e | e
   ·exact absurd hy6 e
   ·exact e
  ·rcases (ho x hx).2.2 with e | e
   ·exact absurd h5 e
   ·exact e
theorem GI (l : List RR) (hn : l.length ≤ 9223372036854775807) : ∀ (d i : Nat), d + i = 40 → i ≤ l.length → ∃ b, Ev (fun k => bg.l0 k l (i : Int)) b ∧ (b = true → l.length ≤ 30) := by
 have hdone : ∀ i : Nat, Ev (fun k => bg.j1 k l (i : Int) false) (decide ((l.length : Int) ≤ 30)) := fun i => Ev.step (f := fun _ => some (decide ((l.length : Int) ≤ 30))) (fun k => by rw [bg.j1, if_neg (by decide)]) (Ev.now _)
 have hok : decide ((l.length : Int) ≤ 30) = true → l.length ≤ 30 := fun e => by have := of_decide_eq_true e; omega
 intro d
 induction d with
 | zero =>
  intro i hd hi0
  refine ⟨_, Ev.step (f := fun k => bg.j1 k l (i : Int) false) (fun k => ?_) (hdone i), hok⟩
  rw [bg.l0, decide_eq_false (show ¬ (i : Int) < 40 by omega)]
  split <;> rfl
 | succ d ih =>
  intro i hd hi0
  by_cases hi : i < l.length
  ·have e1 : wrap64 ((i : Int) + 1) = ((i + 1 : Nat) : Int) := by unfold wrap64; omega
   have hs : ∀ k, bg.l0 (k + 1) l (i : Int) = bg.j1 k l (i : Int) true := fun k => by
    rw [bg.l0, decide_eq_true (show (i : Int) < 40 by omega), if_pos (by omega)]
   have hj : ∀ k, bg.j1 (k + 1) l (i : Int) true = if ((rdR l (i : Int)).f4.size : Int) > 2000 then some false else if ((rdR l (i : Int)).f0.size : Int) > 600 then some false else bg.l0 k l ((i + 1 : Nat) : Int) := fun k => by
    rw [bg.j1, e1, if_pos rfl, if_pos (by omega), if_pos (by omega)]
   obtain ⟨b, hb, hb1⟩ := ih (i + 1) (by omega) (by omega)
   by_cases h4 : ((rdR l (i : Int)).f4.size : Int) > 2000
   ·refine ⟨false, Ev.step hs (Ev.step hj ?_), fun e => by cases e⟩
    simp only [h4, if_true]; exact Ev.now _
   ·by_cases h0 : ((rdR l (i : Int)).f0.size : Int) > 600
    ·refine ⟨false, Ev.step hs (Ev.step hj ?_), fun e => by cases e⟩
     simp only [h4, h0, if_true, if_false]; exact Ev.now _
    ·refine ⟨b, Ev.step hs (Ev.step hj ?_), hb1⟩
     simp only [h4, h0, if_false]; exact hb
  ·refine ⟨_, Ev.step (f := fun k => bg.j1 k l (i : Int) false) (fun k => ?_) (hdone i), hok⟩
   rw [bg.l0, if_neg (by omega)]
theorem JY (l : List RR) (hn : l.length ≤ 9223372036854775807) : ∃ b, Ev (fun k => bg.f k l) b ∧ (b = true → l.length ≤ 30) := GI l hn 40 0 (by omega) (Nat.zero_le _)
end Go.Y.Rrs
namespace Go.Y.Rrs
open Go.Proofs.ah.av Go.Proofs.ah.aT Go.Proofs.ah.aU Go.Y.Given Go.Y.PRd Go.Y.PRr Go.Y.PZo Go.Y.PZf Go.Y.Oct Go.Y.Name Go.Y.Cmp Go.Y.dY Go.Y.dK Go.Y.bY
theorem Ka {p : Nat → RR → Option Bool} {b : RR → Bool} : ∀ (l : List RR), (∀ x ∈ l, Ev (fun k => p k x) (b x)) → ∃ K, ∀ k, K ≤ k → ∀ x ∈ l, p k x = some (b x) := by
 intro l
 induction l with
 | nil => exact fun _ => ⟨0, fun k _ x hx => by cases hx⟩
 | cons y l ih =>
  intro h
  obtain ⟨K1, h1⟩ := h y (List.mem_cons_self ..)
  obtain ⟨K2, h2⟩ := ih fun x hx => h x (List.mem_cons_of_mem _ hx)
  refine ⟨max K1 K2, fun k hk x hx => ?_⟩
  rcases List.mem_cons.mp hx with rfl | hx
  ·exact h1 k (by omega)
  ·exact h2 k (by omega) x hx
theorem FC {p : Nat → RR → Option Bool} {b : RR → Bool} (l : List RR) (hn : l.length ≤ 1000000) (h : ∀ x ∈ l, Ev (fun k => p k x) (b x)) : Ev (fun k => uV (p k) l) (l.any fun x => !b x) := by
 obtain ⟨K, hK⟩ := Ka l h
 refine ⟨K, fun k hk => ?_⟩
 have hk := hK k hk
 show uV (p k) l = _
 unfold uV
 rw [if_pos ⟨hn, fun x hx => by rw [hk x hx]; rfl⟩]
 congr 1
 rw [Bool.eq_iff_iff, List.any_eq_true, List.any_eq_true]
 exact ⟨fun ⟨x, hm, h⟩ => ⟨x, hm, by rw [hk x hm] at h; exact h⟩, fun ⟨x, hm, h⟩ => ⟨x, hm, by rw [hk x hm]; exact h⟩⟩
theorem BJ (l : List RR) (b : RR → Bool) : (l.any fun x => !b x) = !l.all b := by
 induction l with
 | nil => rfl
 | cons x l ih => rw [List.any_cons, List.all_cons, ih, Bool.not_and]
def idxFrom (s : List RR) (x : RR) : Nat → Nat → Int
 | 0, _ => -1
 | d + 1, i => if i < s.length then (if eqR x (rdR s (i : Int)) = true then (i : Int) else idxFrom s x d (i + 1)) else -1
def Ko (s : List RR) (x : RR) : Int := idxFrom s x s.length 0
theorem Hq (s : List RR) (x : RR) (hn : s.length ≤ 1000000) : ∀ (d i : Nat), s.length ≤ i + d → i ≤ s.length → Ev (fun k => fB.l0 k s (s.length : Int) (i : Int) x.f0 x.f1 x.f2 x.f3 x.f4) (idxFrom s x d i) := by
 intro d
 induction d with
 | zero =>
  intro i hd hi0
  exact Ev.step (f := fun _ => some (-1)) (fun k => by rw [fB.l0]; rw [if_neg (by omega)]) (Ev.now _)
 | succ d ih =>
  intro i hd hi0
  rw [idxFrom]
  by_cases hi : i < s.length
  ·rw [if_pos hi]
   have e1 : wrap64 ((i : Int) + 1) = ((i + 1 : Nat) : Int) := by unfold wrap64; omega
   have hs : ∀ k, fB.l0 (k + 1) s (s.length : Int) (i : Int) x.f0 x.f1 x.f2 x.f3 x.f4 = if eqR x (rdR s (i : Int)) = true then some (i : Int) else fB.l0 k s (s.length : Int) ((i + 1 : Nat) : Int) x.f0 x.f1 x.f2 x.f3 x.f4 := fun k => by
    rw [fB.l0, e1]
    rw [if_pos (by omega), if_pos (by omega), if_pos (by omega)]
    rfl
   refine Ev.step hs ?_
   cases eqR x (rdR s (i : Int))
   ·simp only [Bool.false_eq_true, if_false]; exact ih (i + 1) (by omega) (by omega)
   ·simp only [if_true]; exact Ev.now _
  ·rw [if_neg hi]
   exact Ev.step (f := fun _ => some (-1)) (fun k => by rw [fB.l0]; rw [if_neg (by omega)]) (Ev.now _)
theorem Ky (s : List RR) (x : RR) (hn : s.length ≤ 1000000) : Ev (fun k => fB.f k s x.f0 x.f1 x.f2 x.f3 x.f4) (Ko s x) := Hq s x hn s.length 0 (by omega) (Nat.zero_le _)
def ru (s : List RR) : Int := Ko s (rdR (fP s 6) 0)
theorem KN (a : ByteArray) (s : List RR) (z : Int) (n : ByteArray) (t : Int) (hn : s.length ≤ 1000000) : jH.f a s z n t = some (mY s n t) := by
 unfold jH.f jg.f
 rw [Io s n hn, Option.bind_some, Option.bind_some, zA _ t (Nat.le_trans (IC s n) hn)]; rfl
noncomputable def newP (a : ByteArray) (l : List RR) : ByteArray × List RR × Int × Int :=
 if (bC a && l.all gN) = true then (if tu a (ofL bP l) = true then (a, ofL bP l, ru (ofL bP l), 0) else ((⟨#[]⟩ : ByteArray), [], 0, 9)) else ((⟨#[]⟩ : ByteArray), [], 0, 2)
theorem Dw (a : ByteArray) (l : List RR) (hn : l.length ≤ 65536) : Ev (fun k => bL.f k a l) (newP a l) := by
 have hbad : Ev (fun k => bL.j0 k l true a) ((⟨#[]⟩ : ByteArray), [], 0, 2) := Ev.step (f := fun _ => some ((⟨#[]⟩ : ByteArray), [], 0, 2)) (fun k => by rw [bL.j0, if_pos rfl]) (Ev.now _)
 unfold bL.f newP
 simp only [jG, Option.bind_some]
 cases hr : bC a
 ·simp only [Bool.false_eq_true, if_false, Bool.false_and]
  exact hbad
 ·simp only [if_true, Bool.true_and]
  refine Ev.bind (FC (p := fun k x => bA.f k x.f0 x.f1 x.f2 x.f3 x.f4) (b := gN) l (by omega) (fun x _ => uN x)) ?_
  rw [BJ]
  cases hall : l.all gN
  ·simp only [Bool.not_false, Bool.false_eq_true, if_false]
   exact hbad
  ·simp only [Bool.not_true, if_true]
   have hf : ∀ y ∈ l, fine y := fun y hy => qZ (List.all_eq_true.mp hall y hy)
   have hS := Ad hf (by omega)
   have hlen : (ofL bP l).length ≤ l.length := by have := wM l [] List.Pairwise.nil; unfold ofL; simpa using this
   obtain ⟨s, hs⟩ : ∃ s, ofL bP l = s := ⟨_, rfl⟩
   rw [hs] at hS hlen ⊢
   have hst : ∀ k, bL.j0 (k + 1) l false a = (lg.f k s a).bind fun t => if t = true then some ((⟨#[]⟩ : ByteArray), [], 0, 9) else if ((fP s 6).length : Int) = 1 then (if 0 < ((fP s 6).length : Int) then (if gu (rdR (fP s 6) 0).f0 a = true then (if ((mY s a 2).length : Int) = 0 then some ((⟨#[]⟩ : ByteArray), [], 0, 9) else (bJ.f k s).bind fun t => if t = true then ((fB.f k s (rdR (fP s 6) 0).f0 (rdR (fP s 6) 0).f1 (rdR (fP s 6) 0).f2 (rdR (fP s 6) 0).f3 (rdR (fP s 6) 0).f4).bind fun u => some (a, s, u, 0)) else some ((⟨#[]⟩ : ByteArray), [], 0, 9)) else some ((⟨#[]⟩ : ByteArray), [], 0, 9)) else none) else some ((⟨#[]⟩ : ByteArray), [], 0, 9) := fun k => by
    rw [bL.j0]
    rw [if_neg (by decide), KU hf (by omega), hs, Option.bind_some, if_neg (by omega), zA s 6 (by omega), Option.bind_some, KN a s 0 a 2 (by omega), Option.bind_some]
    simp only [oo, Option.bind_some]
   refine Ev.step hst (Ev.bind (FC (p := fun k x => fD.f k a x.f0 x.f1 x.f2 x.f3 x.f4) (b := lM a) s (by omega) (fun x _ => ⟨300, fun k hk => uy a x k hk⟩)) ?_)
   rw [BJ]
   unfold tu
   cases s.all (lM a)
   ·simp only [Bool.not_false, if_true, Bool.false_and, Bool.false_eq_true, if_false]
    exact Ev.now _
   ·simp only [Bool.not_true, Bool.false_eq_true, if_false, Bool.true_and]
    by_cases h1 : (fP s 6).length = 1
    ·simp only [show (((fP s 6).length : Int) = 1) = True from eq_true (by omega), show (0 < ((fP s 6).length : Int)) = True from eq_true (by omega), if_true]
     rw [show ((fP s 6).length == 1) = true from by rw [h1]; rfl, Bool.true_and]
     cases gu (rdR (fP s 6) 0).f0 a
     ·simp only [Bool.false_eq_true, if_false, Bool.false_and]; exact Ev.now _
     ·simp only [if_true, Bool.true_and]
      by_cases h2 : mY s a 2 = []
      ·simp only [h2, List.length_nil, show ((((0 : Nat) : Int)) = 0) = True from eq_true rfl, if_true, List.isEmpty_nil, Bool.not_true, Bool.false_and, Bool.false_eq_true, if_false]
       exact Ev.now _
      ·have h3 : 0 < (mY s a 2).length := List.length_pos_iff.mpr h2
       simp only [show (((mY s a 2).length : Int) = 0) = False from eq_false (by omega), if_false]
       rw [show (mY s a 2).isEmpty = false from by rw [Bool.eq_false_iff]; exact fun e => h2 (List.isEmpty_iff.mp e), Bool.not_false, Bool.true_and]
       refine Ev.bind (GK s (by omega)) ?_
       cases oz s
       ·simp only [Bool.false_eq_true, if_false]; exact Ev.now _
       ·simp only [if_true]
        refine Ev.bind (Ky s _ (by omega)) ?_
        exact Ev.now _
    ·simp only [show (((fP s 6).length : Int) = 1) = False from eq_false (by omega), if_false]
     rw [beq_eq_false_iff_ne.mpr h1]
     simp only [Bool.false_and, Bool.false_eq_true, if_false]
     exact Ev.now _
structure Kv (a : ByteArray) (s : List RR) : Prop where
 set : mo s
 small : s.length ≤ 65536
 zone : qg a s = true
 right : ∀ y ∈ s, gN y = true
 apex : bC a = true
theorem GD (a : ByteArray) (l : List RR) (hn : l.length ≤ 65536) : (∃ s, Kv a s ∧ s.length ≤ l.length ∧ newP a l = (a, s, ru s, 0) ∧ newR a l = (a, s, 0) ∧ ofL bP l = s) ∨ (∃ e, e ≠ 0 ∧ newP a l = ((⟨#[]⟩ : ByteArray), [], 0, e) ∧ newR a l = ((⟨#[]⟩ : ByteArray), [], e)) := by
 unfold newP newR
 by_cases h : (bC a && l.all gN) = true
 ·rw [if_pos h, if_pos h]
  rw [Bool.and_eq_true] at h
  have hf : ∀ y ∈ l, fine y := fun y hy => qZ (List.all_eq_true.mp h.2 y hy)
  have hS := Ad hf (by omega)
  have hlen : (ofL bP l).length ≤ l.length := by have := wM l [] List.Pairwise.nil; unfold ofL; simpa using this
  rw [JK hS]
  by_cases hz : qg a (ofL bP l) = true
  ·rw [if_pos hz, if_pos hz]
   refine .inl ⟨_, ⟨hS, by omega, hz, fun y hy => ?_, h.1⟩, hlen, rfl, rfl, rfl⟩
   rcases Bj l [] hy with e | e
   ·cases e
   ·exact List.all_eq_true.mp h.2 y e
  ·rw [if_neg hz, if_neg hz]
   exact .inr ⟨9, by decide, rfl, rfl⟩
 ·rw [if_neg h, if_neg h]
  exact .inr ⟨2, by decide, rfl, rfl⟩
end Go.Y.Rrs
namespace Go.Y.Rrs
open Go.Proofs.ah.av Go.Proofs.ah.aT Go.Proofs.ah.aU Go.Y.Given Go.Y.PRd Go.Y.PRr Go.Y.PZo Go.Y.PZf Go.Y.PZh Go.Y.Name Go.Y.dY Go.Y.bY
theorem KD (a : ByteArray) (s : List RR) (z : Int) (hn : s.length ≤ 1000000) : iP.f a s z = some s := by
 unfold iP.f
 have hc : slices_Clone.f s = some s := by unfold slices_Clone.f; rw [if_pos (by omega)]
 rw [hc]; rfl
theorem JZ (a : ByteArray) (s : List RR) (z : Int) (n : ByteArray) (hn : s.length ≤ 1000000) : jg.f a s z n = some (atL s n) := by
 unfold jg.f
 rw [Io s n hn]; rfl
abbrev lr0 : RR := ⟨(⟨#[1, 97, 0]⟩ : ByteArray), 2, 1, 0, (⟨#[1, 110, 1, 97, 0]⟩ : ByteArray)⟩
abbrev lr1 : RR := ⟨(⟨#[1, 97, 0]⟩ : ByteArray), 6, 1, 0, (⟨#[1, 110, 1, 97, 0, 0, 0, 0, 0, 1, 0, 0, 0, 2, 0, 0, 0, 3, 0, 0, 0, 4, 0, 0, 0, 5]⟩ : ByteArray)⟩
abbrev lra : ByteArray := ⟨#[1, 97, 0]⟩
theorem Gh : ofL bP [lr0, lr1] = [lr0, lr1] := by
 have h : bP lr1 lr0 = 1 := by
  have hn : iR lr1 = iR lr0 := rfl
  unfold bP kF
  simp only [hn]
  rw [if_pos (mU.self _)]
  decide
 show put bP (put bP [] lr0) lr1 = _
 rw [put, put, if_neg (by omega), if_neg (by omega), put]
theorem JU : gN lr0 = true := Ev.unique (uN lr0) (Ev.of (fun k => bA.mono _ _ _ _ _ k) (k := 20) (by kernel_rfl))
theorem JO : gN lr1 = true := Ev.unique (uN lr1) (Ev.of (fun k => bA.mono _ _ _ _ _ k) (k := 20) (by kernel_rfl))
theorem IW : lM lra lr0 = true := by
 have h := uy lra lr0 300 (Nat.le_refl _)
 have h2 := oK (fun k => fD.mono lra lr0.f0 lr0.f1 lr0.f2 lr0.f3 lr0.f4 k) (show 20 ≤ 300 by omega) (r := true) (by kernel_rfl)
 rw [h2] at h; exact (Option.some.inj h).symm
theorem JB : lM lra lr1 = true := by
 have h := uy lra lr1 300 (Nat.le_refl _)
 have h2 := oK (fun k => fD.mono lra lr1.f0 lr1.f1 lr1.f2 lr1.f3 lr1.f4 k) (show 20 ≤ 300 by omega) (r := true) (by kernel_rfl)
 rw [h2] at h; exact (Option.some.inj h).symm
theorem wK : gu lra lra = true := vS (by kernel_rfl)
theorem Cq : tu lra [lr0, lr1] = true := by
 have ht : fP [lr0, lr1] 6 = [lr1] := rfl
 have ha : atL [lr0, lr1] lra = [lr0, lr1] := by
  unfold atL
  rw [List.filter_cons, List.filter_cons]
  rw [if_pos wK, if_pos wK]; rfl
 have hs : mY [lr0, lr1] lra 2 = [lr0] := by unfold mY; rw [ha]; rfl
 have hp : oz [lr0, lr1] = true := by
  rw [vW]
  intro j hj
  unfold lX
  rw [fE _ j hj]
  match j, hj with
  | 0, _ => rfl
  | 1, _ => rfl
 unfold tu
 rw [ht, hs, hp, List.all_cons, List.all_cons, IW, JB]
 show ((true && (true && true)) && ((1 == 1) && (gu lra lra && (true && true)))) = true
 rw [wK]; rfl
theorem ET : newP lra [lr0, lr1] = (lra, [lr0, lr1], ru [lr0, lr1], 0) := by
 unfold newP
 rw [List.all_cons, List.all_cons, JU, JO, Gh]
 rw [if_pos (by show (bC lra && _) = true; rw [show bC lra = true from by kernel_rfl]; rfl), if_pos Cq]
theorem Gm : Ev (fun k => bL.f k lra [lr0, lr1]) (lra, [lr0, lr1], ru [lr0, lr1], 0) := by
 rw [← ET]; exact Dw _ _ (by simp)
end Go.Y.Rrs
namespace Go.Y.PZh
open Go.Proofs.ah.av Go.Proofs.ah.aT Go.Proofs.ah.aU Go.Y.Given Go.Y.PRd Go.Y.PRr Go.Y.PZo Go.Y.PZf Go.Y.PZe
attribute [local go_sem] dB dD dQ dP cK cB dA dF
mutual
noncomputable def aV.l0 : Nat → List (S28) → Int → Option (Bool)
 | 0, _, _ => none
 | k + 1, x0, x3 => if x3 < (x0.length : Int) then (aV.j1 k x0 x3 (decide (x3 < 40))) else (aV.j1 k x0 x3 false)
noncomputable def aV.j1 : Nat → List (S28) → Int → Bool → Option (Bool)
 | 0, _, _, _ => none
 | k + 1, x0, x3, x11 => if x11 = true then (if 0 ≤ x3 then (if x3 < (x0.length : Int) then (if (((aC x0 x3).f4).size : Int) > 2000 then (some false) else ((aZ.f k ((aC x0 x3).f0) ((aC x0 x3).f1) ((aC x0 x3).f2) ((aC x0 x3).f3) ((aC x0 x3).f4)).bind fun t272 => (if t272 = true then (aV.l0 k x0 (wrap64 (x3 + 1))) else (some false)))) else (none)) else (none)) else (some (decide ((x0.length : Int) ≤ 30)))
end
noncomputable def aV.f (k : Nat) (l0 : List (S28)) : Option (Bool) := aV.l0 k l0 0
theorem aV.calls (k : Nat) (A0 : Option Addr) (c0 : Nat) (l0 : List (S28)) (r : Bool) (w : World) (hr0 : Kd.C k28 w A0 l0.length l0) (hc0 : l0.length ≤ c0) (h : aV.f k l0 = some r) :
    Calls Tryz.prog 20 #[.slice A0 l0.length c0] w fun e w' => e = .returned (.bool r) ∧ Below w.heap.size w w' := by
  have hu28 := Tryz.underlying28
  have HR0 := aj.mk hr0
  have HC0 := aj.mk hc0
  clear hr0 hc0
  have HB := aj.mk (Below.refl w.heap.size w)
  have H : (aV.l0 k l0 0) = some r := h
  clear h
  have H' := aj.mk H
  clear H
  go_enter Tryz.func20, Tryz.ntmps20
  go_wp2
  go_loopg [3] k (fun kq v3 w' => ∃ (x3_1 : Int), v3 = .int .i64 x3_1 ∧ aj (aV.l0 kq l0 x3_1 = some r) ∧ aj (kq ≤ k) ∧ aj (Below w.heap.size w w'))
  case atStart => exact ⟨(0), (by rfl), H', ⟨Nat.le_refl _⟩, ⟨HB.out⟩⟩
  case round =>
   clear H'
   obtain ⟨x3_1, rfl, HA, HK1, HB⟩ := hrel
   cases gk with
   | zero => exact absurd HA.out (by simp [aV.l0])
   | succ k1 =>
    have H := HA.out
    clear HA
    simp only [aV.l0] at H
    have HC2 := aj.mk H
    clear H
    go_upto_region 2 with (fail)
    go_cut [11] (fun v11 wc => ∃ (kq : Nat) (x11_1 : Bool), v11 = .bool x11_1 ∧ aj (aV.j1 kq l0 x3_1 x11_1 = some r) ∧ aj (kq ≤ k1) ∧ aj (Below w.heap.size w wc))
    case first =>
     have H := HC2.out
     clear HC2
     by_cases c3 : x3_1 < (l0.length : Int)
     focus
      rw [if_pos c3] at H
      have c3b0 : decide (x3_1 < (l0.length : Int)) = true := decide_eq_true c3
     rotate_left
     focus
      rw [if_neg c3] at H
      have c3b0 : decide (x3_1 < (l0.length : Int)) = false := decide_eq_false c3
     rotate_left
     all_goals
      clear c3
      (skip)
      have H' := aj.mk H
      clear H
      go_wp2
      go_meet
     ·case rel => exact ⟨_, (decide (x3_1 < 40)), (by rfl), H', ⟨by have := HK1.out; omega⟩, ⟨HB.out⟩⟩
     ·case rel => exact ⟨_, (false), (by rfl), H', ⟨by have := HK1.out; omega⟩, ⟨HB.out⟩⟩
    case rest =>
     clear HC2
     obtain ⟨kq, x11_1, rfl, HA, HJ1, HB⟩ := hcut
     cases kq with
     | zero => exact absurd HA.out (by simp [aV.j1])
     | succ kj1 =>
      have H := HA.out
      clear HA
      simp only [aV.j1] at H
      by_cases c4 : x11_1 = true
      ·subst c4
       rw [if_pos rfl] at H
       obtain ⟨c5b0, H⟩ := dX H
       obtain ⟨c6b0, H⟩ := dX H
       by_cases c7 : (((aC l0 x3_1).f4).size : Int) > 2000
       focus
        rw [if_pos c7] at H
        have c7b0 : decide (2000 < (((aC l0 x3_1).f4).size : Int)) = true := decide_eq_true c7
        have c7b1 : decide (2000 < ((aC l0 x3_1).f4).size) = true := decide_eq_true (by omega)
        clear c7
        obtain rfl := Option.some.inj H
       rotate_left
       focus
        rw [if_neg c7] at H
        have c7b0 : decide (2000 < (((aC l0 x3_1).f4).size : Int)) = false := decide_eq_false c7
        have c7b1 : decide (2000 < ((aC l0 x3_1).f4).size) = false := decide_eq_false (by omega)
        clear c7
        obtain ⟨t272, A8, H⟩ := cu H
        by_cases c9 : t272 = true
        focus
         subst c9
         rw [if_pos rfl] at H
         have H' := aj.mk H
         clear H
        rotate_left
        focus
         replace c9 := Bool.eq_false_iff.mpr c9
         subst c9
         rw [if_neg ff_] at H
         obtain rfl := Option.some.inj H
        rotate_left
       rotate_left 2
       all_goals
        have p270 : 0 ≤ (x3_1 : Int) := of_decide_eq_true (by assumption)
        have q270 : x3_1 < (l0.length : Int) := of_decide_eq_true (by assumption)
        obtain ⟨ad270, e270, hx270_0, hx270_1, hx270_2, hx270_3, hx270_4⟩ := iD HR0.out x3_1 p270 q270
        cases e270
        replace hx270_0 := kp_ HB.out hx270_0
        replace hx270_1 := kp_ HB.out hx270_1
        replace hx270_2 := kp_ HB.out hx270_2
        replace hx270_3 := kp_ HB.out hx270_3
        replace hx270_4 := kp_ HB.out hx270_4
        replace p270 := eq_true p270
        replace q270 := eq_true q270
       ·go_wp2
        go_ret
        exact ⟨by rfl, HB.out⟩
       all_goals
        have p271 : 0 ≤ (x3_1 : Int) := of_decide_eq_true (by assumption)
        have q271 : x3_1 < (l0.length : Int) := of_decide_eq_true (by assumption)
        obtain ⟨ad271, e271, hx271_0, hx271_1, hx271_2, hx271_3, hx271_4⟩ := iD HR0.out x3_1 p271 q271
        obtain rfl : ad270 = ad271 := (by injection e271)
        replace hx271_0 := kp_ HB.out hx271_0
        replace hx271_1 := kp_ HB.out hx271_1
        replace hx271_2 := kp_ HB.out hx271_2
        replace hx271_3 := kp_ HB.out hx271_3
        replace hx271_4 := kp_ HB.out hx271_4
        replace p271 := eq_true p271
        replace q271 := eq_true q271
        go_wp2_with (((go_at_call 33; (with_reducible refine (aZ.calls kj1 ((aC l0 x3_1).f0) ((aC l0 x3_1).f1) ((aC l0 x3_1).f2) ((aC l0 x3_1).f3) ((aC l0 x3_1).f4) _ _ A8.out).mono ?_); rintro e w10 ⟨rfl, hb⟩; replace HB := aj.mk (au HB.out hb); (try clear hb))))
       ·go_roundg kj1
        case measure => have := HK1.out; have := HJ1.out; omega
        case rel => exact ⟨(wrap64 (x3_1 + 1)), (by rfl), H', ⟨by have := HK1.out; have := HJ1.out; omega⟩, ⟨HB.out⟩⟩
       ·go_ret
        exact ⟨by rfl, HB.out⟩
      ·replace c4 := Bool.eq_false_iff.mpr c4
       subst c4
       rw [if_neg ff_] at H
       obtain rfl := Option.some.inj H
       go_wp2
       go_ret
       exact ⟨by rfl, HB.out⟩
end Go.Y.PZh
namespace Go.Y.Rrs
open Go.Proofs.ah.av Go.Proofs.ah.aT Go.Proofs.ah.aU Go.Y.Given Go.Y.PRd Go.Y.PRr Go.Y.PZh Go.Y.dY Go.Y.dK Go.Y.bY
theorem wT (l : List RR) (hn : l.length ≤ 9223372036854775807) : ∀ (d i : Nat), d + i = 40 → i ≤ l.length → (∀ y ∈ l.take i, gN y = true) → ∃ b, Ev (fun k => aV.l0 k l (i : Int)) b ∧ (b = true → l.length ≤ 30 ∧ ∀ y ∈ l, gN y = true) := by
 have hdone : ∀ i : Nat, Ev (fun k => aV.j1 k l (i : Int) false) (decide ((l.length : Int) ≤ 30)) := fun i => Ev.step (f := fun _ => some (decide ((l.length : Int) ≤ 30))) (fun k => by rw [aV.j1, if_neg (by decide)]) (Ev.now _)
 intro d
 induction d with
 | zero =>
  intro i hd hi0 hr
  refine ⟨_, Ev.step (f := fun k => aV.j1 k l (i : Int) false) (fun k => ?_) (hdone i), fun e => ?_⟩
  ·rw [aV.l0, decide_eq_false (show ¬ (i : Int) < 40 by omega)]
   split <;> rfl
  ·have := of_decide_eq_true e
   exact absurd hi0 (by omega)
 | succ d ih =>
  intro i hd hi0 hr
  by_cases hi : i < l.length
  ·have e1 : wrap64 ((i : Int) + 1) = ((i + 1 : Nat) : Int) := by unfold wrap64; omega
   have hs : ∀ k, aV.l0 (k + 1) l (i : Int) = aV.j1 k l (i : Int) true := fun k => by
    rw [aV.l0, decide_eq_true (show (i : Int) < 40 by omega), if_pos (by omega)]
   have hj : ∀ k, aV.j1 (k + 1) l (i : Int) true = if ((rdR l (i : Int)).f4.size : Int) > 2000 then some false else (aZ.f k (rdR l (i : Int)).f0 (rdR l (i : Int)).f1 (rdR l (i : Int)).f2 (rdR l (i : Int)).f3 (rdR l (i : Int)).f4).bind fun t => if t = true then aV.l0 k l ((i + 1 : Nat) : Int) else some false := fun k => by
    rw [aV.j1, e1, if_pos rfl, if_pos (by omega), if_pos (by omega)]
   rw [fE l i hi] at hj
   by_cases h4 : (l[i].f4.size : Int) > 2000
   ·refine ⟨false, Ev.step hs (Ev.step hj ?_), fun e => by cases e⟩
    simp only [h4, if_true]; exact Ev.now _
   ·cases hri : gN l[i]
    ·refine ⟨false, Ev.step hs (Ev.step hj ?_), fun e => by cases e⟩
     simp only [h4, if_false]
     refine Ev.bind (yt l[i]) ?_
     simp only [hri, Bool.false_eq_true, if_false]; exact Ev.now _
    ·obtain ⟨b, hb, hb1⟩ := ih (i + 1) (by omega) (by omega) (fun y hy => by
      rw [List.take_succ_eq_append_getElem hi] at hy
      rcases List.mem_append.mp hy with hy | hy
      ·exact hr y hy
      ·rw [List.mem_singleton.mp hy]; exact hri)
     refine ⟨b, Ev.step hs (Ev.step hj ?_), hb1⟩
     simp only [h4, if_false]
     refine Ev.bind (yt l[i]) ?_
     simp only [hri, if_true]; exact hb
  ·refine ⟨_, Ev.step (f := fun k => aV.j1 k l (i : Int) false) (fun k => ?_) (hdone i), fun e => ⟨by have := of_decide_eq_true e; omega, ?_⟩⟩
   ·rw [aV.l0, if_neg (by omega)]
   ·rw [List.take_of_length_le (by omega)] at hr
    exact hr
theorem rH (l : List RR) (hn : l.length ≤ 9223372036854775807) : ∃ b, Ev (fun k => aV.f k l) b ∧ (b = true → l.length ≤ 30 ∧ ∀ y ∈ l, gN y = true) := wT l hn 40 0 (by omega) (Nat.zero_le _) (fun y hy => by rw [List.take_zero] at hy; cases hy)
end Go.Y.Rrs
namespace Go.Y.Shelf
open Go.Proofs Go.Shelf Go.RowKit
def Kn : Go.Shelf.Ren := ⟨fun | 194 => 65 | n => n, fun | 0 => 0 | 3 => 3 | 4 => 4 | 9 => 9 | 31 => 43 | n => n, fun | n => n⟩
theorem Bc : Go.Proofs.Lays.n194 Tryz.prog Kn := {
 mixed := by kernel_rfl
 f194 := Tryz.func65.trans (congrArg some (by kernel_rfl))
 t0 := Tryz.underlying0
 a0 := Tryz.isAgg0
 z0 := Tryz.sizeOf0
 v0 := Tryz.zeroValue0
 t3 := Tryz.underlying3
 a3 := Tryz.isAgg3
 z3 := Tryz.sizeOf3
 v3 := Tryz.zeroValue3
 t4 := Tryz.underlying4
 a4 := Tryz.isAgg4
 z4 := Tryz.sizeOf4
 v4 := Tryz.zeroValue4
 t9 := Tryz.underlying9
 a9 := Tryz.isAgg9
 z9 := Tryz.sizeOf9
 v9 := Tryz.zeroValue9
 t31 := Tryz.underlying43
 a31 := Tryz.isAgg43
 z31 := Tryz.sizeOf43
 v31 := Tryz.zeroValue43 }
end Go.Y.Shelf
namespace Go.Y.qb
open Go.Proofs Go.Sort Go.RowKit Go.Proofs.ah.av Go.Y.Oct
section
variable {β : Type} [Inhabited β] {enc : β → Value} {f : β → ByteArray} {e : TypeId} {w : World} {base g c : Nat} {ok : Nat → Prop} {xs : List ByteArray}
theorem vD (hf : ∀ y, enc y = .string (f y)) (h : Kd.string.R e w base ok (.slice (some ⟨g, 0, none⟩) xs.length c) xs) (d : Array β) (hd : d.toList.map f = xs) : Holds enc w g 0 d := by
 intro j hj
 have hl : d.size = xs.length := by rw [← hd]; simp
 have := Kd.DX (enc := Value.string) (h1 := fun _ => rfl) ByteArray.empty h (j : Int) (by omega) (by omega)
 rw [Int.toNat_natCast] at this
 rw [Nat.zero_add, hf]
 refine ⟨this.1.trans ?_, this.2⟩
 unfold bH
 rw [Int.toNat_natCast, ← hd, List.getD_eq_getElem?_getD, List.getElem?_map, List.getElem?_eq_getElem (by simpa using hj), getElem!_pos d j hj]
 rfl
theorem Af {cur : Array Value} {t : TypeId} {fz : Nat × Nat} (hg : w.heap[g]? = some (.cells cur t fz)) (d : Array β) : (putRow enc w g 0 d).heap[g]? = some (.cells (putCells enc 0 d cur) t fz) := by
 simp [putRow, mapBlock, Array.getElem?_modify, hg, onCells]
theorem za (d : Array β) {k : Nat} (hk : k ≠ g) : (putRow enc w g 0 d).heap[k]? = w.heap[k]? := by
 simp [putRow, mapBlock, Array.getElem?_modify, Ne.symm hk]
theorem rV (d : Array β) : w.grownBy (putRow enc w g 0 d) (some g) := ⟨rfl, rfl, rfl, by simp, fun k hk hn => za d fun e => hn (congrArg some e)⟩
theorem uh (hf : ∀ y, enc y = .string (f y)) (h : Kd.string.R e w base ok (.slice (some ⟨g, 0, none⟩) xs.length c) xs) (d : Array β) (hd : d.size = xs.length) (m : Nat) (hm : m ≤ d.size) :
  Kd.string.R e (putRow enc w g 0 d) base ok (.slice (some ⟨g, 0, none⟩) m c) ((d.toList.take m).map f) := by
 have hown := Kd.lK (enc := Value.string) (h1 := fun _ => rfl) h
 obtain ⟨hlen, hn | ⟨g', cap, cur, hv, hb, hg, hnc, hcap, hcs, htake⟩⟩ := hown
 ·exact absurd hn.1 (by simp)
 injection hv with h1 _ h3
 injection h1 with h1
 injection h1 with h1 _ _
 subst h1 h3
 have hl : ((d.toList.take m).map f).length = m := by rw [List.length_map, List.length_take, Array.length_toList]; omega
 have hown2 : (putRow enc w g 0 d).ownsRow base e 1 (.slice (some ⟨g, 0, none⟩) m c) ((d.toList.take m).map f).length (encs Value.string ((d.toList.take m).map f)) := by
  refine ⟨by rw [nu, Nat.mul_one], .inr ⟨g, c, putCells enc 0 d cur, by rw [hl], hb, Af hg d, by rw [hl]; omega, hcap, ?_, ?_⟩⟩
  ·unfold putCells; rw [Array.size_mapIdx]; exact hcs
  ·rw [hl, Nat.mul_one]
   apply List.ext_getElem?
   intro j
   by_cases hj : j < m
   ·have hjc : j < cur.size := by rw [hcs]; omega
    have hjd : j < d.size := by omega
    rw [List.getElem?_take_of_lt hj]
    unfold putCells encs
    rw [List.getElem?_map, List.getElem?_map, List.getElem?_take_of_lt hj, Array.getElem?_toList, Array.getElem?_mapIdx, Array.getElem?_eq_getElem hjc, Array.getElem?_toList, Array.getElem?_eq_getElem hjd]
    simp only [Option.map_some, Nat.zero_le, Nat.zero_add, true_and, hjd, if_true, Nat.sub_zero]
    rw [getElem!_pos d j hjd, hf]
   ·rw [List.getElem?_eq_none (by rw [List.length_take]; omega), List.getElem?_eq_none (by rw [nu, hl]; omega)]
 exact Kd.uO (enc := Value.string) (h1 := fun _ => rfl) hown2 fun k hk => h.1 k (by simpa [Value.ownBlock] using hk)
end
theorem Dh {α : Type} [Inhabited α] [DecidableEq α] (zs : List α) : (Go.Lib.compact zs).length ≤ zs.length := by
 unfold Go.Lib.compact Go.Lib.compactUpTo
 rw [List.length_map]
 exact Nat.le_trans (List.length_filter_le _ _) (by simp)
theorem BD (l : List UInt8) : encStr l = .string (arr l) := rfl
theorem Al (xs : List ByteArray) (hn : xs.length ≤ 1000000) (base : Nat) (ok : Nat → Prop) (w0 w : World) (hB : Below base w0 w) (v : Value) (hR : Kd.string.R 9 w base ok v xs) :
  Calls Tryz.prog 65 #[v] w fun e w' => ∃ v', e = .returned v' ∧ Kd.string.R 9 w' base ok v' ((Go.Lib.compact (xs.map fun b : ByteArray => b.data.toList)).map arr) ∧ Below base w0 w' := by
 by_cases hp : 0 < xs.length
 ·obtain ⟨g, c, rfl, hbg, hgl, _⟩ := Kd.zU hR hp
  obtain ⟨_, hnc, _⟩ := Kd.aX hR
  have hmap : (xs.map fun b : ByteArray => b.data.toList).toArray.toList.map arr = xs := by
   rw [List.map_map]
   conv => rhs; rw [← List.map_id xs]
   exact List.map_congr_left fun x _ => wh x
  have hH := vD (enc := encStr) (f := arr) BD hR (xs.map fun b : ByteArray => b.data.toList).toArray hmap
  have hc := Any.slices_Compact_string Shelf.Bc g 0 c (xs.map fun b : ByteArray => b.data.toList) w hH (by rw [List.length_map]; omega) (by rw [List.length_map]; omega)
  rw [List.length_map] at hc
  have hle := Dh (xs.map fun b : ByteArray => b.data.toList)
  rw [List.length_map] at hle
  refine hc.mono ?_
  rintro e w' ⟨rfl, q, rfl⟩
  have hR2 := Kd.kH hR q
  refine ⟨_, rfl, ?_, ?_⟩
  ·have hz := hle
   have := uh (enc := encStr) (f := arr) BD hR2 (Go.Lib.compact (xs.map fun b : ByteArray => b.data.toList) ++ List.replicate (xs.length - (Go.Lib.compact (xs.map fun b : ByteArray => b.data.toList)).length) []).toArray (by rw [List.size_toArray, List.length_append, List.length_replicate]; omega) (Go.Lib.compact (xs.map fun b : ByteArray => b.data.toList)).length (by rw [List.size_toArray, List.length_append]; omega)
   rw [List.take_left' rfl] at this
   exact this
  ·exact (aW hB q).grown (rV _) (by show base ≤ w.heap.size; omega) fun k hk => by injection hk with hk; omega
 ·have h0 : xs = [] := List.length_eq_zero_iff.mp (by omega)
  subst h0
  obtain ⟨A, c, rfl, _, _⟩ := Kd.mX hR
  refine (Any.slices_Compact_string_empty Shelf.Bc A c w).mono ?_
  rintro e w' ⟨rfl, rfl⟩
  exact ⟨_, rfl, hR, hB⟩
end Go.Y.qb
namespace Go.Y.bY
theorem uP {α : Type} {c : α → α → Int} (O : dV c) {l m : List α} (hl : gG c l) (hm : gG c m) (h : ∀ y, y ∈ l ↔ y ∈ m) : l = m := by
 refine vP O hl hm fun x => ?_
 rcases nQ O hl x with e | ⟨y, hy, h0, e⟩
 ·rw [e]
  refine (kX fun y hy h0 => ?_).symm
  have : y ∈ cls c l x := lu.mpr ⟨(h y).mpr hy, h0⟩
  rw [e] at this
  cases this
 ·rw [e, wS O hm ((h y).mp hy) h0]
theorem qU {α : Type} {P : α → Prop} {c : α → α → Int} (O : dV c) (he : ∀ x y : α, P x → P y → c x y = 0 → x = y) : ∀ (l m : List α), gG c m → (∀ y ∈ l, P y) → (∀ y ∈ m, P y) → ∀ y, y ∈ l.foldl (put c) m ↔ y ∈ l ∨ y ∈ m := by
 intro l
 induction l with
 | nil => intro m _ _ _ y; simp
 | cons a l ih =>
  intro m hm hl hP y
  have ha := hl a (List.mem_cons_self ..)
  have hput : ∀ y, y ∈ put c m a ↔ y = a ∨ y ∈ m := by
   intro y
   constructor
   ·exact pX
   ·intro h
    rcases h with rfl | h
    ·have := qN O hm y y
     rw [if_pos (O.refl y)] at this
     exact (uS this).1
    ·by_cases h0 : c y a = 0
     ·have := he y a (hP y h) ha h0
      subst this
      have := qN O hm y y
      rw [if_pos (O.refl y)] at this
      exact (uS this).1
     ·have := qN O hm a y
      rw [if_neg h0, Ak O hm h (O.refl y)] at this
      exact (uS this).1
  rw [List.foldl_cons, ih (put c m a) (qm O hm a) (fun z hz => hl z (List.mem_cons_of_mem _ hz)) (fun z hz => by
   rcases pX hz with rfl | hz
   ·exact ha
   ·exact hP z hz) y, hput y, List.mem_cons]
  constructor
  ·rintro (h | rfl | h)
   ·exact .inl (.inr h)
   ·exact .inl (.inl rfl)
   ·exact .inr h
  ·rintro ((rfl | h) | h)
   ·exact .inr (.inl rfl)
   ·exact .inl h
   ·exact .inr (.inr h)
end Go.Y.bY
namespace Go.Y.Rrs
open Go.Proofs.ah.av Go.Proofs.ah.aT Go.Proofs.ah.aU Go.Y.Given Go.Y.PRd Go.Y.PRr Go.Y.Oct Go.Y.Name Go.Y.dY Go.Y.dK Go.Y.bY
noncomputable def Cz (b : ByteArray) : List ByteArray := iR ⟨b, 0, 0, 0, b⟩
noncomputable def iq (a b : ByteArray) : Int := cmpL (Cz a) (Cz b)
theorem jB : dV iq := dV.pull mU Cz
def folded (b : ByteArray) : Prop := bC b = true ∧ gL b = b
theorem nX {b : ByteArray} (h : bC b = true) : ∃ l, good l ∧ (bE l).size ≤ 255 ∧ b = bE l ∧ Cz b = (l.map dH).reverse := oD ⟨b, 0, 0, 0, b⟩ h
theorem mF {l : List ByteArray} (hg : good l) (hz : (bE l).size ≤ 255) : gL (bE l) = bE (l.map dH) := by
 unfold gL
 rw [iX l hg hz]
 rfl
theorem uE {l : List ByteArray} (h : good l) : good (l.map dH) := by
 intro s hs
 obtain ⟨t, ht, rfl⟩ := List.mem_map.mp hs
 have : (dH t).size = t.size := kL t
 rw [this]
 exact h t ht
theorem uj {b : ByteArray} (h : bC b = true) : folded (gL b) := by
 obtain ⟨l, hg, rfl, hz⟩ := sV h
 have hz2 : (bE (l.map dH)).size ≤ 255 := by rw [size_map]; exact hz
 rw [mF hg hz]
 refine ⟨(jX _).mpr ⟨_, uE hg, rfl, hz2⟩, ?_⟩
 rw [mF (uE hg) hz2, List.map_map]
 congr 1
 exact List.map_congr_left fun x _ => rD x
theorem oW {a b : ByteArray} (ha : folded a) (hb : folded b) (h : iq a b = 0) : a = b := by
 obtain ⟨l, gl, sl, el, kl⟩ := nX ha.1
 obtain ⟨m, gm, sm, em, km⟩ := nX hb.1
 unfold iq at h
 rw [kl, km] at h
 have h1 := List.reverse_inj.mp (sG _ _ h)
 have e1 := mF gl sl
 have e2 := mF gm sm
 rw [← el, ha.2] at e1
 rw [← em, hb.2] at e2
 rw [e1, e2, h1]
noncomputable def pQ (l : List ByteArray) : List ByteArray := ofL iq l
theorem qF {l : List ByteArray} (h : ∀ y ∈ l, folded y) (y : ByteArray) : y ∈ pQ l ↔ y ∈ l := by
 unfold pQ ofL
 rw [qU (P := folded) jB (fun x y hx hy => oW hx hy) l [] List.Pairwise.nil h (fun y hy => by cases hy)]
 simp
open Go.Lib in
theorem AQ (d : Array (List UInt8)) (hf : ∀ i, i < d.size → folded (arr d[i]!)) (hs : ∀ i j, i ≤ j → j < d.size → iq (arr d[i]!) (arr d[j]!) ≤ 0) :
  ∀ m, m ≤ d.size → gG iq ((compactUpTo d m).map arr) ∧ ∀ y, y ∈ (compactUpTo d m).map arr ↔ ∃ i, i < m ∧ arr d[i]! = y := by
 intro m
 induction m with
 | zero =>
  intro _
  have : compactUpTo d 0 = [] := rfl
  rw [this]
  exact ⟨List.Pairwise.nil, fun y => ⟨fun h => (by cases h), fun ⟨i, hi, _⟩ => by omega⟩⟩
 | succ m ih =>
  intro hm
  obtain ⟨h1, h2⟩ := ih (by omega)
  rw [compactUpTo_succ]
  cases hk : keeps d m
  ·rw [if_neg (by decide), List.append_nil]
   unfold keeps at hk
   simp only [decide_eq_false_iff_not, not_or, Decidable.not_not] at hk
   refine ⟨h1, fun y => (h2 y).trans ⟨fun ⟨i, hi, e⟩ => ⟨i, by omega, e⟩, fun ⟨i, hi, e⟩ => ?_⟩⟩
   by_cases e2 : i = m
   ·exact ⟨m - 1, by omega, by rw [← e, e2, hk.2]⟩
   ·exact ⟨i, by omega, e⟩
  ·rw [if_pos rfl, List.map_append, List.map_cons, List.map_nil]
   constructor
   ·refine List.pairwise_append.mpr ⟨h1, List.pairwise_singleton _ _, fun a ha b hb => ?_⟩
    rw [List.mem_singleton] at hb
    subst hb
    obtain ⟨i, hi, rfl⟩ := (h2 a).mp ha
    have h3 := hs i m (by omega) (by omega)
    by_cases h0 : iq (arr d[i]!) (arr d[m]!) = 0
    ·exfalso
     have e := oW (hf i (by omega)) (hf m (by omega)) h0
     have h4 := hs i (m - 1) (by omega) (by omega)
     have h5 := hs (m - 1) m (by omega) (by omega)
     rw [e] at h4
     have e2 := IZ (oW (hf (m - 1) (by omega)) (hf m (by omega)) (jB.zW h5 h4))
     unfold keeps at hk
     rw [decide_eq_true_eq] at hk
     rcases hk with hk | hk
     ·omega
     ·exact hk e2.symm
    ·omega
   ·intro y
    rw [List.mem_append, List.mem_singleton, h2 y]
    constructor
    ·rintro (⟨i, hi, e⟩ | rfl)
     ·exact ⟨i, by omega, e⟩
     ·exact ⟨m, by omega, rfl⟩
    ·rintro ⟨i, hi, e⟩
     by_cases e2 : i = m
     ·right; rw [← e, e2]
     ·exact .inl ⟨i, by omega, e⟩
theorem wZ (l : List ByteArray) (hf : ∀ y ∈ l, folded y) (hs : l.Pairwise fun a b => iq a b ≤ 0) : (Go.Lib.compact (l.map fun b : ByteArray => b.data.toList)).map arr = pQ l := by
 have hsz : (l.map fun b : ByteArray => b.data.toList).toArray.size = l.length := by simp
 have hget : ∀ i (hi : i < l.length), arr ((l.map fun b : ByteArray => b.data.toList).toArray[i]!) = l[i] := fun i hi => by
  rw [getElem!_pos _ i (by rw [hsz]; exact hi)]
  simp [wh]
 have hs2 : ∀ i j, i ≤ j → j < (l.map fun b : ByteArray => b.data.toList).toArray.size → iq (arr (l.map fun b : ByteArray => b.data.toList).toArray[i]!) (arr (l.map fun b : ByteArray => b.data.toList).toArray[j]!) ≤ 0 := fun i j hij hj => by
  rw [hsz] at hj
  rw [hget i (by omega), hget j hj]
  by_cases e : i = j
  ·subst e; rw [jB.refl]; exact Int.le_refl _
  ·exact (List.pairwise_iff_getElem.mp hs) i j (by omega) hj (by omega)
 have := AQ _ (fun i hi => by rw [hsz] at hi; rw [hget i hi]; exact hf _ (List.getElem_mem hi)) hs2 l.length (by rw [hsz]; exact Nat.le_refl _)
 have e : Go.Lib.compact (l.map fun b : ByteArray => b.data.toList) = Go.Lib.compactUpTo (l.map fun b : ByteArray => b.data.toList).toArray l.length := by
  unfold Go.Lib.compact
  rw [List.length_map]
 rw [e]
 refine uP jB this.1 (lN jB l) fun y => (this.2 y).trans (Iff.trans ?_ (qF hf y).symm)
 constructor
 ·rintro ⟨i, hi, rfl⟩
  rw [hget i hi]
  exact List.getElem_mem hi
 ·intro hy
  obtain ⟨i, hi, rfl⟩ := List.getElem_of_mem hy
  exact ⟨i, hi, hget i hi⟩
end Go.Y.Rrs
namespace Go.Y.Shelf
open Go.Proofs Go.Shelf Go.RowKit
def BM : Go.Shelf.Ren := ⟨fun | 6 => 63 | 14 => 99 | 15 => 100 | 20 => 122 | 21 => 123 | 22 => 124 | 23 => 125 | 24 => 126 | 25 => 127 | 26 => 128 | 27 => 129 | 28 => 130 | 29 => 131 | 46 => 154 | 47 => 155 | 48 => 156 | 49 => 157 | 50 => 158 | 57 => 171 | n => n, fun | 0 => 0 | 3 => 3 | 4 => 4 | 5 => 5 | 9 => 9 | 22 => 43 | 24 => 9 | 25 => 47 | 39 => 96 | 45 => 116 | 46 => 117 | 50 => 76 | 53 => 123 | 55 => 125 | 66 => 147 | 70 => 151 | 76 => 164 | 77 => 165 | n => n, fun | n => n⟩
theorem zo : Go.Proofs.SlLaysF.n6 Tryz.prog BM := {
 mixed := by kernel_rfl
 f6 := ⟨Tryz.f63.name, by kernel_rfl, Tryz.func63.trans (congrArg some (by kernel_rfl))⟩
 f14 := ⟨Tryz.f99.name, by kernel_rfl, Tryz.func99.trans (congrArg some (by kernel_rfl))⟩
 f15 := Tryz.func100.trans (congrArg some (by kernel_rfl))
 f20 := ⟨Tryz.f122.name, by kernel_rfl, Tryz.func122.trans (congrArg some (by kernel_rfl))⟩
 f21 := ⟨Tryz.f123.name, by kernel_rfl, Tryz.func123.trans (congrArg some (by kernel_rfl))⟩
 f22 := ⟨Tryz.f124.name, by kernel_rfl, Tryz.func124.trans (congrArg some (by kernel_rfl))⟩
 f23 := ⟨Tryz.f125.name, by kernel_rfl, Tryz.func125.trans (congrArg some (by kernel_rfl))⟩
 f24 := ⟨Tryz.f126.name, by kernel_rfl, Tryz.func126.trans (congrArg some (by kernel_rfl))⟩
 f25 := ⟨Tryz.f127.name, by kernel_rfl, Tryz.func127.trans (congrArg some (by kernel_rfl))⟩
 f26 := ⟨Tryz.f128.name, by kernel_rfl, Tryz.func128.trans (congrArg some (by kernel_rfl))⟩
 f27 := ⟨Tryz.f129.name, by kernel_rfl, Tryz.func129.trans (congrArg some (by kernel_rfl))⟩
 f28 := Tryz.func130.trans (congrArg some (by kernel_rfl))
 f29 := Tryz.func131.trans (congrArg some (by kernel_rfl))
 f46 := ⟨Tryz.f154.name, by kernel_rfl, Tryz.func154.trans (congrArg some (by kernel_rfl))⟩
 f47 := Tryz.func155.trans (congrArg some (by kernel_rfl))
 f48 := Tryz.func156.trans (congrArg some (by kernel_rfl))
 f49 := ⟨Tryz.f157.name, by kernel_rfl, Tryz.func157.trans (congrArg some (by kernel_rfl))⟩
 f50 := ⟨Tryz.f158.name, by kernel_rfl, Tryz.func158.trans (congrArg some (by kernel_rfl))⟩
 f57 := ⟨Tryz.f171.name, by kernel_rfl, Tryz.func171.trans (congrArg some (by kernel_rfl))⟩
 t0 := Tryz.underlying0
 a0 := Tryz.isAgg0
 z0 := Tryz.sizeOf0
 v0 := Tryz.zeroValue0
 t3 := Tryz.underlying3
 a3 := Tryz.isAgg3
 z3 := Tryz.sizeOf3
 v3 := Tryz.zeroValue3
 t4 := Tryz.underlying4
 a4 := Tryz.isAgg4
 z4 := Tryz.sizeOf4
 v4 := Tryz.zeroValue4
 t5 := Tryz.underlying5
 a5 := Tryz.isAgg5
 z5 := Tryz.sizeOf5
 v5 := Tryz.zeroValue5
 t9 := Tryz.underlying9
 a9 := Tryz.isAgg9
 z9 := Tryz.sizeOf9
 v9 := Tryz.zeroValue9
 t22 := Tryz.underlying43
 a22 := Tryz.isAgg43
 z22 := Tryz.sizeOf43
 v22 := Tryz.zeroValue43
 a24 := Tryz.isAgg9
 z24 := Tryz.sizeOf9
 t25 := Tryz.underlying47
 a25 := Tryz.isAgg47
 z25 := Tryz.sizeOf47
 v25 := Tryz.zeroValue47
 t39 := Tryz.underlying96
 a39 := Tryz.isAgg96
 z39 := Tryz.sizeOf96
 v39 := Tryz.zeroValue96
 t45 := Tryz.underlying116
 a45 := Tryz.isAgg116
 z45 := Tryz.sizeOf116
 v45 := Tryz.zeroValue116
 t46 := Tryz.underlying117
 a46 := Tryz.isAgg117
 z46 := Tryz.sizeOf117
 v46 := Tryz.zeroValue117
 t50 := Tryz.underlying76
 a50 := Tryz.isAgg76
 z50 := Tryz.sizeOf76
 v50 := Tryz.zeroValue76
 t53 := Tryz.underlying123
 a53 := Tryz.isAgg123
 z53 := Tryz.sizeOf123
 v53 := Tryz.zeroValue123
 t55 := Tryz.underlying125
 a55 := Tryz.isAgg125
 z55 := Tryz.sizeOf125
 v55 := Tryz.zeroValue125
 t66 := Tryz.underlying147
 a66 := Tryz.isAgg147
 z66 := Tryz.sizeOf147
 v66 := Tryz.zeroValue147
 t70 := Tryz.underlying151
 a70 := Tryz.isAgg151
 z70 := Tryz.sizeOf151
 v70 := Tryz.zeroValue151
 t76 := Tryz.underlying164
 a76 := Tryz.isAgg164
 z76 := Tryz.sizeOf164
 v76 := Tryz.zeroValue164
 t77 := Tryz.underlying165
 a77 := Tryz.isAgg165
 z77 := Tryz.sizeOf165
 v77 := Tryz.zeroValue165 }
end Go.Y.Shelf
namespace Go.Y.qz
open Go Go.RowKit
def wQ (d : Nat) {α : Type} : Result α → Prop
 | .ok _ w => d ≤ w.drawn
 | .halt _ w => d ≤ w.drawn
theorem wP {α : Type} : ∀ (a : Ask α) (w : World), w.drawn ≤ (w.ask a).2.drawn
 | .done a, w => Nat.le_refl _
 | .ask what range k, w => by
  rw [World.ask]
  split
  ·exact wP _ w
  ·exact Nat.le_trans (Nat.le_succ _) (wP (k _) { w with drawn := w.drawn + 1 })
theorem Bh (w : World) (c : Sys) : w.drawn ≤ (w.sys c).2.drawn := by
 have h := wP (Kernel.perform c w.os) w
 unfold World.sys
 split
 ·exact Nat.le_refl _
 ·rename_i e; rw [e] at h; exact h
theorem rM (w : World) (a : Addr) (n : Nat) : (w.freeze a n).drawn = w.drawn := by
 unfold World.freeze; split <;> rfl
theorem vk {P : Program} {w w' : World} {at_ : Addr} {u : TypeId} {k : Addr} {v : Value} {b : Bool} {l : List Addr} (h : w.viewStore P at_ u k v b = .ok (w', l)) : w'.drawn = w.drawn := by
 unfold World.viewStore at h
 simp only [bind, Except.bind, pure, Except.pure, throw, throwThe, MonadExceptOf.throw] at h
 repeat' (split at h)
 all_goals first
  | (cases h; done)
  | (injection h with h; injection h with h1 h2; rw [← h1])
theorem pU {P : Program} {w w' : World} {a : Addr} {v : Value} {b : Bool} {l : List Addr} (h : w.farStore P a v b = .ok (w', l)) : w'.drawn = w.drawn := by
 unfold World.farStore at h
 split at h
 ·split at h
  ·rename_i r hr
   cases h
   exact vk hr
  ·cases h
 ·cases h
theorem wW {α : Type} (P : Program) (s : Sem α) : ∀ (w : World), wQ w.drawn (s.run P w) := by
 induction s with
 | pure a => intro w; exact Nat.le_refl _
 | load m a k ih =>
  intro w
  rw [Sem.run.eq_def]
  simp only []
  split
  ·exact ih _ w
  ·split
   ·exact ih _ w
   ·exact Nat.le_refl _
 | store m a v k ih =>
  intro w
  have key : wQ w.drawn (match w.cell? a with
   | some _ => if w.frozen? a then .halt (.unsupported (.unsafePointer "a write to bytes that a string shares")) w else k.run P (w.setCell a v)
   | none => match w.farStore P a v (m == .atomic) with
    | .ok (w, _) => k.run P w
    | .error h => .halt h w) := by
   split
   ·split
    ·exact Nat.le_refl _
    ·exact ih (w.setCell a v)
   ·split
    ·rename_i w' l e
     have := ih w'
     rw [pU e] at this
     exact this
    ·exact Nat.le_refl _
  cases v <;> first | exact Nat.le_refl _ | (rw [Sem.run.eq_def]; exact key)
 | new o k ih => intro w; exact ih _ { w with heap := w.heap.push o }
 | shape r k ih => intro w; exact ih _ w
 | freeze a n k ih =>
  intro w
  have := ih (w.freeze a n)
  rw [rM] at this
  exact this
 | frozen a k ih => intro w; exact ih _ w
 | getObj r k ih =>
  intro w
  rw [Sem.run.eq_def]
  simp only []
  split
  ·exact Nat.le_refl _
  ·exact ih _ w
  ·exact Nat.le_refl _
 | setObj r o k ih =>
  intro w
  rw [Sem.run.eq_def]
  simp only []
  split
  ·exact Nat.le_refl _
  ·exact ih { w with heap := w.heap.setIfInBounds r o }
  ·exact Nat.le_refl _
 | choose q k ih =>
  intro w
  rw [Sem.run.eq_def]
  simp only []
  split
  ·exact ih _ w
  ·have := ih (q.cut (w.tape w.drawn q)) { w with drawn := w.drawn + 1 }
   revert this
   cases (k (q.cut (w.tape w.drawn q))).run P { w with drawn := w.drawn + 1 } <;> intro h <;> exact Nat.le_trans (Nat.le_succ _) h
 | sys c k ih =>
  intro w
  have h := ih (w.sys c).1 (w.sys c).2
  have h2 := Bh w c
  rw [Sem.run.eq_def]
  simp only []
  revert h
  cases (k (w.sys c).1).run P (w.sys c).2 <;> intro h <;> exact Nat.le_trans h2 h
 | program k ih => intro w; exact ih _ w
 | mark m k ih => intro w; exact ih w
 | halt h => intro w; exact Nat.le_refl _
theorem uF {α : Type} (P : Program) (s : Sem α) : ∀ (w : World) (es : Array Event), wQ w.drawn (s.runT P w es).1 := by
 induction s with
 | pure a => intro w es; exact Nat.le_refl _
 | load m a k ih =>
  intro w es
  rw [Sem.runT.eq_def]
  simp only []
  split
  ·exact ih _ w _
  ·split
   ·exact ih _ w _
   ·exact Nat.le_refl _
 | store m a v k ih =>
  intro w es
  have key : wQ w.drawn (match w.cell? a with
   | some _ =>
    if w.frozen? a then ((Result.halt (.unsupported (.unsafePointer "a write to bytes that a string shares")) w, es) : Result α × Array Event)
    else k.runT P (w.setCell a v) (es.push (Event.mk (Loc.cell a) true (m == Mode.atomic)))
   | none => match w.farStore P a v (m == Mode.atomic) with
    | .ok (w, touched) => k.runT P w (es ++ touched.toArray.map (fun x => Event.mk (Loc.cell x) true (m == Mode.atomic)))
    | .error h => (Result.halt h w, es)).1 := by
   split
   ·split
    ·exact Nat.le_refl _
    ·exact ih (w.setCell a v) _
   ·split
    ·rename_i w' l e
     have := ih w' (es ++ l.toArray.map (fun x => Event.mk (Loc.cell x) true (m == Mode.atomic)))
     rw [pU e] at this
     exact this
    ·exact Nat.le_refl _
  cases v <;> first | exact Nat.le_refl _ | (rw [Sem.runT.eq_def]; exact key)
 | new o k ih => intro w es; exact ih _ { w with heap := w.heap.push o } es
 | shape r k ih => intro w es; exact ih _ w es
 | freeze a n k ih =>
  intro w es
  have := ih (w.freeze a n) es
  rw [rM] at this
  exact this
 | frozen a k ih => intro w es; exact ih _ w es
 | getObj r k ih =>
  intro w es
  rw [Sem.runT.eq_def]
  simp only []
  split
  ·exact Nat.le_refl _
  ·exact ih _ w _
  ·exact Nat.le_refl _
 | setObj r o k ih =>
  intro w es
  rw [Sem.runT.eq_def]
  simp only []
  split
  ·exact Nat.le_refl _
  ·exact ih { w with heap := w.heap.setIfInBounds r o } _
  ·exact Nat.le_refl _
 | choose q k ih =>
  intro w es
  rw [Sem.runT.eq_def]
  simp only []
  split
  ·exact ih _ w es
  ·have := ih (q.cut (w.tape w.drawn q)) { w with drawn := w.drawn + 1 } es
   revert this
   cases ((k (q.cut (w.tape w.drawn q))).runT P { w with drawn := w.drawn + 1 } es).1 <;> intro h <;> exact Nat.le_trans (Nat.le_succ _) h
 | sys c k ih =>
  intro w es
  have h := ih (w.sys c).1 (w.sys c).2 (es.push (Event.mk Loc.output true false))
  have h2 := Bh w c
  rw [Sem.runT.eq_def]
  simp only []
  revert h
  cases ((k (w.sys c).1).runT P (w.sys c).2 (es.push (Event.mk Loc.output true false))).1 <;> intro h <;> exact Nat.le_trans h2 h
 | program k ih => intro w es; exact ih _ w es
 | mark m k ih => intro w es; exact ih w _
 | halt h => intro w es; exact Nat.le_refl _
theorem jo {α : Type} {P : Program} {s : Sem α} {w w' : World} {a : α} (e : s.run P w = .ok a w') : w.drawn ≤ w'.drawn := by
 have := wW P s w; rw [e] at this; exact this
theorem Ii {α : Type} {P : Program} {s : Sem α} {w w' : World} {h : Halt} (e : s.run P w = .halt h w') : w.drawn ≤ w'.drawn := by
 have := wW P s w; rw [e] at this; exact this
theorem uW {α : Type} {P : Program} {s : Sem α} {w : World} {es es' : Array Event} {r : Result α} (e : s.runT P w es = (r, es')) : wQ w.drawn r := by
 have := uF P s w es; rw [e] at this; exact this
def fV (d : Nat) : GStep → Prop
 | .go _ w _ => d ≤ w.drawn
 | .comm _ _ _ _ w _ => d ≤ w.drawn
 | .spawn _ _ w _ => d ≤ w.drawn
 | .count _ w _ => d ≤ w.drawn
 | .timer _ _ w _ => d ≤ w.drawn
 | .alone _ _ w _ => d ≤ w.drawn
 | .newcoro _ _ _ w _ => d ≤ w.drawn
 | .coroswitch _ _ _ w _ => d ≤ w.drawn
 | .collect _ w _ => d ≤ w.drawn
 | .watch _ w _ => d ≤ w.drawn
 | .ended _ _ _ => True
theorem kT {d : Nat} {es : Array Event} {s : GStep} (h : fV d s) : fV d (GStep.after es s) := by cases s <;> exact h
theorem fV.of_le {d d' : Nat} {s : GStep} (hd : d ≤ d') (h : fV d' s) : fV d s := by cases s <;> first | trivial | exact Nat.le_trans hd h
theorem pY {d : Nat} {c : Prop} [Decidable c] {a b : GStep} (ha : fV d a) (hb : fV d b) : fV d (if c then a else b) := by split <;> assumption
theorem mD (fr : Frame) (m : String) (w : World) : fV w.drawn (endThrow fr m w) := Nat.le_refl _
theorem oL (P : Program) (fr : Frame) (v : Value) (w : World) : fV w.drawn (endPrinting P fr v w) := by
 unfold endPrinting
 simp only []
 split
 ·exact mD _ _ _
 ·trivial
theorem rC (P : Program) (fr : Frame) (cs : List Frame) (d : Option Dying) (m : String) (w : World) : fV w.drawn (endFatal P fr cs d m w) := by
 unfold endFatal
 simp only []
 split
 ·rename_i e; exact jo e
 ·trivial
 ·trivial
theorem AJ (w : World) (fd : Nat) (text : ByteArray) (o : Outcome) (d : Nat) : fV d (endWith w fd text o) := by
 unfold endWith
 simp only []
 repeat' split
 all_goals trivial
theorem lZ (P : Program) (main : Bool) (fr : Frame) (cs : List Frame) (d : Option Dying) (v : Value) (w : World) : fV w.drawn (doReturn P main fr cs d v w) := by
 unfold doReturn
 repeat' split
 all_goals first | trivial | exact Nat.le_refl _
theorem Aw (P : Program) (fr : Frame) (d : Dying) (f : Fatal) (w : World) : fV w.drawn (writeOn P fr d f w) := by
 unfold writeOn
 simp only []
 split
 ·trivial
 ·split
  ·rename_i e; exact uW e
  ·rename_i e; exact uW e
  ·trivial
  ·trivial
theorem IV (P : Program) (fr : Frame) (d : Dying) (w : World) : fV w.drawn (die P fr d w) := by
 unfold die
 split
 ·exact Aw _ _ _ _ _
 ·split
  ·split
   ·exact Nat.le_refl _
   ·exact AJ _ _ _ _ _
  ·simp only []
   split
   ·exact Nat.le_refl _
   ·split
    ·rename_i e; exact jo e
    ·trivial
   ·generalize hx : Sem.runT _ _ _ _ = x
    obtain ⟨r, es⟩ := x
    have hr := uW hx
    simp only []
    refine kT ?_
    split
    ·exact hr
    ·exact hr
    ·trivial
    ·exact fV.of_le hr (oL _ _ _ _)
    ·trivial
   ·trivial
theorem uG (P : Program) (fr : Frame) (cs : List Frame) (dy : Option Dying) (d : Deferred) (w : World) : fV w.drawn (callDeferred P fr cs dy d w) := by
 unfold callDeferred
 refine pY trivial ?_
 generalize hx : Sem.runT _ _ _ _ = x
 obtain ⟨r, es⟩ := x
 have hr := uW hx
 simp only []
 refine kT ?_
 split
 all_goals first
  | trivial
  | exact hr
  | exact fV.of_le hr (rC _ _ _ _ _ _)
  | exact fV.of_le hr (mD _ _ _)
  | (split <;> exact hr)
theorem CY (P : Program) (main : Bool) (fr : Frame) (cs : List Frame) (dy : Option Dying) (w : World) : fV w.drawn (unwind P main fr cs dy w) := by
 unfold unwind
 split
 ·generalize hx : Sem.runT _ _ _ _ = x
  obtain ⟨r, es⟩ := x
  have hr := uW hx
  simp only []
  refine kT ?_
  split
  ·exact hr
  ·trivial
 ·exact uG _ _ _ _ _ _
 ·split
  ·trivial
  ·split
   ·trivial
   ·split
    ·exact Nat.le_refl _
    ·split
     ·split
      ·exact Nat.le_refl _
      ·split
       ·rename_i e; exact jo e
       ·trivial
       ·trivial
     ·split
      ·exact oL _ _ _ _
      ·trivial
  ·split
   ·exact lZ _ _ _ _ _ _ _
   ·generalize hx : Sem.runT _ _ _ _ = x
    obtain ⟨r, es⟩ := x
    have hr := uW hx
    simp only []
    refine kT ?_
    split
    ·exact fV.of_le hr (lZ _ _ _ _ _ _ _)
    ·trivial
    ·trivial
theorem DK (P : Program) (fr : Frame) (cs : List Frame) (dy : Option Dying) (g : Nat) (w : World) : fV w.drawn (early P fr cs dy g w) := by
 unfold early
 simp only []
 repeat' split
 all_goals first
  | trivial
  | exact Nat.le_refl _
  | (have h_ := jo (P := P) (s := choose (Question.early g)) (by assumption); exact h_)
theorem CQ {α : Type} (P : Program) (s : Sem α) (w : World) (listen : Bool) : wQ w.drawn (if listen = true then s.runT P w #[] else (s.run P w, #[])).1 := by
 split
 ·exact uF P s w #[]
 ·exact wW P s w
theorem oN (P : Program) (listen : Bool) (fr : Frame) (cs : List Frame) (dy : Option Dying) (s : Sem Next) (w : World) : fV w.drawn (stepG.apply P listen fr cs dy s w) := by
 unfold stepG.apply
 simp only []
 have hr := CQ P s w listen
 generalize (if listen = true then s.runT P w #[] else (s.run P w, #[])) = x at hr ⊢
 obtain ⟨r, es⟩ := x
 simp only [] at hr ⊢
 refine kT ?_
 split
 all_goals first
  | trivial
  | exact hr
  | exact fV.of_le hr (rC _ _ _ _ _ _)
  | exact fV.of_le hr (mD _ _ _)
  | exact fV.of_le hr (DK _ _ _ _ _ _)
  | exact pY (fV.of_le hr (mD _ _ _)) hr
  | (repeat' split) <;> exact hr
theorem Il (P : Program) (listen : Bool) (fr : Frame) (cs : List Frame) (dy : Option Dying) (w : World) : fV w.drawn (stepG.oper P listen fr cs dy w) := by
 unfold stepG.oper
 split
 ·trivial
 ·split <;> exact oN _ _ _ _ _ _ _
theorem yx {c : Prop} [Decidable c] {g : Goroutine} {o o' : Outcome} {es : Nat → Array Event} (P : Program) (main : Bool) (fr : Frame) (cs : List Frame) (dy : Option Dying) (w : World) (jump : Option Code) : fV w.drawn (match fr.roundOf with
   | none => if c then GStep.go g w else GStep.ended o w
   | some l => GStep.after (es l) (match ((Instr.endRound l jump).runT P w #[]).1 with
    | .ok v w => doReturn P main fr cs dy v w
    | .halt _ w => .ended o' w)) := by
 split
 ·exact pY (Nat.le_refl _) trivial
 ·rename_i l _
  have hr := uF P (Instr.endRound l jump) w #[]
  refine kT ?_
  generalize ((Instr.endRound l jump).runT P w #[]).1 = r at hr ⊢
  cases r
  ·exact fV.of_le hr (lZ _ _ _ _ _ _ _)
  ·trivial
theorem GY {d : Nat} {x : Option (List Item)} {a : GStep} {f : List Item → GStep} (ha : fV d a) (hf : ∀ k, fV d (f k)) : fV d (x.elim a f) := by cases x <;> simp only [Option.elim] <;> first | exact ha | exact hf _
theorem Er {d : Nat} {β : Type} {x : Option β} {a : GStep} {f : β → GStep} (ha : fV d a) (hf : ∀ k, fV d (f k)) : fV d (x.elim a f) := by cases x <;> simp only [Option.elim] <;> first | exact ha | exact hf _
theorem GX (P : Program) (main : Bool) (listen : Bool) (fr : Frame) (cs : List Frame) (dy : Option Dying) (w : World) : fV w.drawn (stepG.exec P main listen fr cs dy w) := by
 unfold stepG.exec
 simp only []
 split
 all_goals first
  | trivial
  | exact Nat.le_refl _
  | exact yx P main fr cs dy w _
  | exact oN _ _ _ _ _ _ _
  | exact GY (yx P main fr cs dy w _) (fun _ => Nat.le_refl _)
  | exact Er trivial (fun _ => oN _ _ _ _ _ _ _)
  | exact pY (Il _ _ _ _ _ _) (Nat.le_refl _)
  | (split <;> first | exact Nat.le_refl _ | trivial)
  | (refine pY (Nat.le_refl _) ?_; split <;> first | (rename_i e; exact jo e) | trivial)
  | (generalize hx : Sem.runT _ _ _ _ = x; obtain ⟨r, es⟩ := x; have hr := uW hx; simp only []; refine kT ?_; split <;> first | trivial | exact hr | exact fV.of_le hr (lZ _ _ _ _ _ _ _) | exact fV.of_le hr (oN _ _ _ _ _ _ _) | (split <;> first | exact hr | trivial))
  | skip
theorem Ei (P : Program) (main : Bool) (g : Goroutine) (w : World) (listen : Bool) : fV w.drawn (stepG P main g w listen) := by
 unfold stepG
 simp only []
 split
 ·exact IV _ _ _ _
 ·exact GX _ _ _ _ _ _ _
 ·exact CY _ _ _ _ _ _
def nP (d : Nat) : Stepped → Prop
 | .next m => d ≤ m.world.drawn
 | .ended _ _ => True
theorem nP.of_le {d d' : Nat} {s : Stepped} (hd : d ≤ d') (h : nP d' s) : nP d s := by cases s <;> first | trivial | exact Nat.le_trans hd h
theorem yL {rest : Rest} {cases : Array CommCase} {w w' : World} (h : waitingAt rest cases w = some w') : w'.drawn = w.drawn := by
 unfold waitingAt at h
 repeat' (split at h)
 all_goals first | (cases h; done) | (injection h with h; rw [← h])
theorem vQ (P : Program) (rest : Rest) (gs : Array Goroutine) (i : Nat) (g : Goroutine) (cs : Array CommCase) (bl : Bool) (sh : CommShape) (w : World) : nP w.drawn (communicate P rest gs i g cs bl sh w).1 := by
 unfold communicate
 simp only []
 split
 ·trivial
 ·split
  ·split
   ·split
    ·rename_i e; exact Nat.le_of_eq (yL e).symm
    ·trivial
   ·exact Nat.le_refl _
  ·split
   ·trivial
   ·rename_i e
    have hr := jo e
    split
    ·split
     ·rename_i e2; exact Nat.le_trans hr (Ii e2)
     ·trivial
    ·exact hr
    ·exact hr
    ·split
     ·exact hr
     ·split
      ·rename_i e2; have h_ := jo e2; exact Nat.le_trans hr h_
      ·trivial
    ·exact hr
    ·exact hr
    ·trivial
theorem ze (P : Program) (gs : Array Goroutine) (rest : Rest) (w : World) : nP w.drawn (look P gs rest w) := by
 unfold look
 simp only []
 repeat' split
 all_goals first
  | trivial
  | (have h_ := jo (P := P) (by assumption); exact h_)
  | skip
theorem EB (w : World) (c : Nat) : (drain w c).2.drawn = w.drawn := by
 unfold drain
 split <;> rfl
theorem vU (m : Machine) (k : Nat) (t : Timer) (a b : Nat) : (retime m k t a b).2.world.drawn = m.world.drawn := by
 unfold retime
 simp only []
 cases t.chan with
 | none => rfl
 | some c => exact EB _ _
theorem Ci {m m' : Machine} {var : Addr} (h : timerOp.opened m var = some m') : m'.world.drawn = m.world.drawn := by
 unfold timerOp.opened at h
 repeat' (split at h)
 all_goals first | (cases h; done) | (injection h with h; rw [← h])
theorem xA {m m' : Machine} {var : Addr} {f : Nat → Timer → Value × Machine} {v : Value} {d : Nat} (hf : ∀ k t, (f k t).2.world.drawn = d) (h : timerOp.named m var f = .ok (v, m')) : m'.world.drawn = d := by
 unfold timerOp.named at h
 split at h
 ·injection h with h
  have := hf ‹Nat› (m.rest.timers.getD ‹Nat› default)
  rw [h] at this; exact this
 ·cases h
theorem AL {m m' : Machine} {op : TimerOp} {v : Value} (h : timerOp m op = .ok (v, m')) : m'.world.drawn = m.world.drawn := by
 unfold timerOp at h
 cases op with
 | new t =>
  simp only [] at h
  repeat' (split at h)
  all_goals first | (cases h; done) | (injection h with h; injection h with h1 h2; rw [← h2]; first | done | rfl)
 | stop var => exact xA (fun k t => vU _ _ _ _ _) h
 | reset var a b =>
  simp only [] at h
  split at h
  ·rename_i e
   rw [← Ci e]
   exact xA (fun k t => vU _ _ _ _ _) h
  ·cases h
 | deadline a b c d => simp only [] at h; injection h with h; injection h with h1 h2; rw [← h2]; first | done | rfl
theorem FE (P : Program) (m : Machine) (k : Nat) : nP m.world.drawn (serve P m k) := by
 unfold serve
 simp only []
 repeat' split
 all_goals first | trivial | exact Nat.le_refl _
theorem FI (P : Program) (m : Machine) (i : Nat) (listen : Bool) : nP m.world.drawn (runT P m i listen).1 := by
 unfold runT
 simp only []
 have h := Ei P (i == 0) (m.gs.swapAt! i { (default : Goroutine) with status := .finished }).1 m.world listen
 generalize stepG P (i == 0) (m.gs.swapAt! i { (default : Goroutine) with status := .finished }).1 m.world listen = s at h ⊢
 cases s with
 | ended o w es => trivial
 | comm g cs bl sh w es => exact nP.of_le h (vQ _ _ _ _ _ _ _ _ _)
 | go g w es => exact h
 | spawn g c w es => exact h
 | count g w es =>
  simp only []
  split
  ·trivial
  ·exact h
 | alone g on w es => exact h
 | collect g w es => exact nP.of_le h (ze _ _ _ _)
 | watch g w es => exact h
 | newcoro g c d w es => exact h
 | coroswitch g c ex w es =>
  simp only []
  split
  ·exact h
  ·exact h
  ·trivial
 | timer g op w es =>
  simp only []
  split
  ·rename_i e
   have h2 := AL e
   exact Nat.le_trans h (Nat.le_of_eq h2.symm)
  ·exact h
  ·trivial
  ·trivial
def mM (d : Nat) : Move → Prop
 | .goroutine m _ => d ≤ m.world.drawn
 | .machine s _ => nP d s
theorem mM.of_le {d d' : Nat} {s : Move} (hd : d ≤ d') (h : mM d' s) : mM d s := by cases s <;> first | exact Nat.le_trans hd h | exact nP.of_le hd h
theorem uD (P : Program) (m : Machine) (rs : List Nat) (f : Nat → Rest) (g : Nat → Nat → Rest) : mM m.world.drawn (match (choose (.sched rs.length)).run P m.world with
   | .halt _ w => Move.machine (.ended (.stuck "sched" "") w)
   | .ok k world =>
    if rs.length ≤ 1 then .goroutine { m with world } (rs.getD k 0) else
    match (choose (.extern "sched.slice" 65536)).run P world with
    | .halt _ w => .machine (.ended (.stuck "sched.slice" "") w)
    | .ok n world => .goroutine { m with world, rest := { m.rest with slice := if n = 0 then none else some (rs.getD k 0, n) } } (rs.getD k 0)) := by
 split
 ·trivial
 ·rename_i e
  have hr := jo e
  split
  ·exact hr
  ·split
   ·trivial
   ·rename_i e2; exact Nat.le_trans hr (jo e2)
theorem rR (P : Program) (m : Machine) : mM m.world.drawn (askOn P m) := by
 unfold askOn
 simp only []
 split
 ·trivial
 ·rename_i e
  have hr := jo e
  split
  ·exact mM.of_le hr (FE _ _ _)
  ·split
   ·split
    ·exact hr
    ·split
     ·exact hr
     ·split <;> trivial
   ·split
    ·exact mM.of_le hr (uD P { m with world := _ } _ (fun _ => m.rest) (fun _ _ => m.rest))
    ·split
     ·trivial
     ·rename_i e2
      exact mM.of_le (Nat.le_trans hr (jo e2)) (uD P { m with world := _ } _ (fun _ => m.rest) (fun _ _ => m.rest))
     ·rename_i e2
      have h_ := jo e2
      exact Nat.le_trans hr h_
     ·rename_i e2
      exact mM.of_le (Nat.le_trans hr (jo e2)) (uD P (Machine.advanceTo { m with world := _ } _) _ (fun _ => m.rest) (fun _ _ => m.rest))
theorem xO (P : Program) (m : Machine) : mM m.world.drawn (ask P m) := by
 unfold ask
 split
 ·split
  ·trivial
  ·rename_i e
   have hr := jo e
   have hl := ze P m.gs m.rest ‹World›
   split
   ·rename_i e2
    rw [e2] at hl
    exact mM.of_le (Nat.le_trans hr hl) (rR _ _)
   ·exact nP.of_le hr hl
  ·rename_i e
   exact mM.of_le (jo e) (rR _ { m with world := _ })
 ·exact rR _ _
theorem Ia (P : Program) (m : Machine) : mM m.world.drawn (move P m) := by
 unfold move
 split
 ·split
  ·exact Nat.le_refl _
  ·trivial
 ·split
  ·split
   ·exact Nat.le_refl _
   ·exact xO P _
  ·exact xO P m
theorem Gv {P : Program} {m m' : Machine} (h : step P m = .next m') : m.world.drawn ≤ m'.world.drawn := by
 unfold step stepT at h
 have hm := Ia P m
 generalize move P m = mv at h hm
 cases mv with
 | goroutine m1 i =>
  simp only [] at h
  have := FI P m1 i true
  rw [h] at this
  exact Nat.le_trans hm this
 | machine s ops =>
  simp only [] at h
  rw [h] at hm
  exact hm
theorem FD {P : Program} {m m' : Machine} (h : Steps P m m') : m.world.drawn ≤ m'.world.drawn := by
 obtain ⟨n, hn⟩ := h
 induction n generalizing m with
 | zero => simp only [runN] at hn; cases hn; exact Nat.le_refl _
 | succ n ih =>
  simp only [runN] at hn
  cases hs : step P m with
  | next m1 => rw [hs] at hn; exact Nat.le_trans (Gv hs) (ih hn)
  | ended o w => rw [hs] at hn; cases hn
theorem Eo {P : Program} {f : FuncId} {args : Array Value} {w : World} {v : Value} {R : World → Prop} (h : Calls P f args w fun e w' => e = .returned v ∧ R w') : Calls P f args w fun e w' => e = .returned v ∧ R w' ∧ w.drawn ≤ w'.drawn := by
 intro cs
 obtain ⟨e, w', fr, ⟨he, hR⟩, hc, h1, h2⟩ := h cs
 subst he
 exact ⟨_, w', fr, ⟨rfl, hR, FD hc⟩, hc, h1, h2⟩
end Go.Y.qz
namespace Go.Y.qz
open Go.Proofs Go.Sort Go.RowKit
theorem IX {w w' : World} (h : Below w.heap.size w w') (hd : w.drawn ≤ w'.drawn) : ∃ q os, w' = grow (w.drewN q) os := by
 refine ⟨w'.drawn - w.drawn, w'.heap.extract w.heap.size w'.heap.size, ?_⟩
 obtain ⟨h1, h2, h3, h4, h5⟩ := h
 cases w with
 | mk heap tape drawn os output =>
 cases w' with
 | mk heap' tape' drawn' os' output' =>
 simp only at h1 h2 h3 h4 h5 hd
 subst h1 h2 h3
 show World.mk heap' _ drawn' _ _ = World.mk (heap ++ heap'.extract heap.size heap'.size) _ (drawn + (drawn' - drawn)) _ _
 have e1 : drawn + (drawn' - drawn) = drawn' := by omega
 have e2 : heap ++ heap'.extract heap.size heap'.size = heap' := by
  apply Array.ext_getElem?
  intro i
  by_cases hi : i < heap.size
  ·rw [Array.getElem?_append_left hi, h5 i hi]
  ·rw [Array.getElem?_append_right (by omega), Array.getElem?_extract]
   by_cases hj : i < heap'.size
   ·rw [if_pos (by omega), show heap.size + (i - heap.size) = i by omega]
   ·rw [if_neg (by omega), Array.getElem?_eq_none (by omega)]
 rw [e1, e2]
 rfl
theorem below_grow (w : World) (os : Array Obj) : Below w.heap.size w (grow w os) :=
 ⟨rfl, rfl, rfl, by show w.heap.size ≤ (w.heap ++ os).size; rw [Array.size_append]; omega, fun k hk => by show (w.heap ++ os)[k]? = _; rw [Array.getElem?_append_left hk]⟩
end Go.Y.qz
namespace Go.Y.Rrs
open Go.Proofs Go.Sort Go.RowKit Go.Proofs.ah.av Go.Proofs.ah.aT Go.Proofs.ah.aU Go.Y.Given Go.Y.PRd Go.Y.PRr Go.Y.Oct Go.Y.Name Go.Y.dY Go.Y.dK Go.Y.bY
abbrev Fd := { b : ByteArray // folded b }
noncomputable def tK (x y : Fd) : Int := iq x.1 y.1
theorem Kk (x y : Fd) : dI.f 300 x.1 y.1 = some (tK x y) := by
 obtain ⟨l, gl, sl, el, kl⟩ := nX x.2.1
 obtain ⟨m, gm, sm, em, km⟩ := nX y.2.1
 unfold tK iq
 rw [kl, km, el, em, xG l m gl gm sl sm 300 (Nat.le_refl _)]
 rfl
theorem JD {α : Type} {c : α → α → Int} (O : dV c) : SWO (ltOf c) where
 irrefl x := by unfold ltOf; rw [O.refl]; rfl
 trans x y z h1 h2 := by
  unfold ltOf at *
  rw [decide_eq_true_eq] at *
  exact O.trans x y z h1 h2
 ntrans x y z h1 h2 := by
  unfold ltOf at *
  rw [decide_eq_false_iff_not] at *
  have e1 := O.flip x y
  have e2 := O.flip y z
  have e3 := O.flip x z
  have := O.le_trans (show c z y ≤ 0 by omega) (show c y x ≤ 0 by omega)
  omega
theorem Iu : dV tK where
 vals x y := jB.vals x.1 y.1
 flip x y := jB.flip x.1 y.1
 cong x y z h := jB.cong x.1 y.1 z.1 h
 trans x y z h1 h2 := jB.trans x.1 y.1 z.1 h1 h2
abbrev tC (x : Fd) : Value := .string x.1
theorem DC (blk size : Nat) (w : World) [Inhabited Fd] : CmpLays1 Tryz.prog 64 #[] tC tK blk 0 size w := fun m os dk hs x y => by
 have hc := qz.Eo (dI.calls 300 x.1 y.1 _ (sortWorld tC w blk 0 m dk os) (Kk x y))
 exact hc.mono fun e w' ⟨he, hb, hd⟩ => ⟨he, qz.IX hb hd⟩
theorem Ib (xs : List ByteArray) (hx : ∀ y ∈ xs, folded y) (hn : xs.length ≤ 1000000) (hp : 0 < xs.length) (base : Nat) (ok : Nat → Prop) (w0 w : World) (hB : Below base w0 w) (v : Value) (hR : Kd.string.R 9 w base ok v xs) :
  Calls Tryz.prog 63 #[v, .func (.func 64) #[] #[]] w fun e w' => e = .returned (.tuple #[]) ∧ ∃ ys, ys.Perm xs ∧ (ys.Pairwise fun a b => iq a b ≤ 0) ∧ Kd.string.R 9 w' base ok v ys ∧ Below base w0 w' := by
 obtain ⟨g, c, rfl, hbg, hgl, _⟩ := Kd.zU hR hp
 haveI : Inhabited Fd := ⟨⟨xs[0], hx _ (List.getElem_mem hp)⟩⟩
 obtain ⟨d, hd⟩ : ∃ d : Array Fd, d.toList.map (fun x : Fd => x.1) = xs := ⟨(xs.attach.map fun y => (⟨y.1, hx y.1 y.2⟩ : Fd)).toArray, by simp⟩
 have hsz : d.size = xs.length := by rw [← hd]; simp
 have hH := qb.vD (enc := tC) (f := fun x : Fd => x.1) (fun _ => rfl) hR d hd
 have hcon := Any.slices_SortFunc Shelf.zo tC (fun _ => rfl) tK (JD Iu) 64 #[] g 0 c d w (enters_of Tryz.func64 (by kernel_rfl) rfl) (DC g d.size w) hH hgl (by omega)
 rw [hsz] at hcon
 refine hcon.mono ?_
 rintro e w' ⟨rfl, d', n, os, hperm, hs, rfl⟩
 refine ⟨rfl, d'.toList.map (fun x : Fd => x.1), ?_, ?_, ?_, ?_⟩
 ·have h3 := hperm.2.2
  have hz := hperm.1
  rw [← hd]
  refine List.Perm.map _ ?_
  have e1 : d'.extract 0 xs.length = d' := by rw [← hsz, ← hz]; simp
  have e2 : d.extract 0 xs.length = d := by rw [← hsz]; simp
  rw [e1, e2] at h3
  exact h3
 ·rw [List.pairwise_map, List.pairwise_iff_getElem]
  intro i j hi hj hij
  have hi' : i < d'.size := by simpa using hi
  have hj' : j < d'.size := by simpa using hj
  have := hs i j (Nat.zero_le _) hij (by rw [← hsz, ← hperm.1]; exact hj')
  rw [getElem!_pos d' i hi', getElem!_pos d' j hj'] at this
  unfold ltOf at this
  rw [decide_eq_false_iff_not] at this
  have hf := Iu.flip d'[i] d'[j]
  show tK d'.toList[i] d'.toList[j] ≤ 0
  rw [Array.getElem_toList, Array.getElem_toList]
  omega
 ·have h1 := qb.uh (enc := tC) (f := fun x : Fd => x.1) (fun _ => rfl) (Kd.kH hR n) d' (by rw [hperm.1, hsz]) d'.size (Nat.le_refl _)
  rw [show d'.toList.take d'.size = d'.toList from List.take_of_length_le (by simp)] at h1
  have h2 := Kd.bD h1 (qz.below_grow _ os)
  rw [hperm.1, hsz] at h2
  exact h2
 ·refine eY (w1 := putRow tC (w.drewN n) g 0 d') ((aW hB n).grown (qb.rV _) (by show base ≤ w.heap.size; omega) fun k hk => by injection hk with hk; omega) ?_ (qz.below_grow _ os)
  rw [Go.Sort.size_putRow]
  show base ≤ w.heap.size
  omega
end Go.Y.Rrs
namespace Go.Y.PPo
open Go.Proofs.ah.av Go.Proofs.ah.aT Go.Proofs.ah.aU Go.Y.Given Go.Y.PRd Go.Y.PRr Go.Y.PZo Go.Y.PZf Go.Y.PZe Go.Y.PZh
attribute [local go_sem] dB dD dQ dP cK cB dA dF
def je : Option Int → Value
 | none => .nilIface
 | some c => .iface 0 (.int .i64 c)
theorem iZ : je none = .nilIface := rfl
theorem jd (c : Int) : je (some c) = .iface 0 (.int .i64 c) := rfl
end Go.Y.PPo
namespace Go.Y.PPo
open Go.Proofs.ah.av Go.Proofs.ah.aT Go.Proofs.ah.aU Go.Y.Given Go.Y.PRd Go.Y.PRr Go.Y.PZo Go.Y.PZf Go.Y.PZe Go.Y.PZh
attribute [local go_sem] dB dD dQ dP cK cB dA dF
noncomputable def gZ.f (a0_0 : ByteArray) (l0_1 : List (S28)) (a0_2 : Int) : Option (ByteArray) := some a0_0
theorem gZ.calls (a0_0 : ByteArray) (A0_1 : Option Addr) (c0_1 : Nat) (l0_1 : List (S28)) (a0_2 : Int) (r : ByteArray) (w : World) (hr0_1 : Kd.C k28 w A0_1 l0_1.length l0_1) (hc0_1 : l0_1.length ≤ c0_1) (h : gZ.f a0_0 l0_1 a0_2 = some r) :
  Calls Tryz.prog 98 #[.agg #[.string a0_0, .slice A0_1 l0_1.length c0_1, .int .i64 a0_2]] w fun e w' => e = .returned (.string r) ∧ Below w.heap.size w w' := by
 have hu31 := Tryz.underlying31
 have HR0_1 := aj.mk hr0_1
 have HC0_1 := aj.mk hc0_1
 clear hr0_1 hc0_1
 have HB := aj.mk (Below.refl w.heap.size w)
 have H : (some a0_0) = some r := h
 clear h
 obtain rfl := Option.some.inj H
 go_enter Tryz.func98, Tryz.ntmps98
 go_wp2_with (((((refine be_ (N := 1) (cs := #[.string a0_0, .slice A0_1 l0_1.length c0_1, .int .i64 a0_2]) (t := 31) ?_)); intro gb101 hg w2 hbox hb; have BK101 := aj.mk (hbox); have GW101 := aj.mk (ge_ hg (ay HB.out)); have GE101 := aj.mk (ge_ hg (ay HB.out)); replace HB := aj.mk (au HB.out hb); clear hb hbox hg; obtain ⟨hcz3_0, hcz3_1, hcz3_2, hfz3_0, hfz3_1, hfz3_2⟩ := z3_ BK101.out)))
 go_ret
 exact ⟨by rfl, HB.out⟩
noncomputable def dO.j0 : Nat → Bool → ByteArray → Int → Int → Int → ByteArray → Option (Int)
 | 0, _, _, _, _, _, _ => none
 | k + 1, x5, x104000, x104001, x104002, x104003, x104004 => if x104003 = 0 then (if x5 = true then (some 0) else (some 1)) else (some 1)
noncomputable def dO.f (k : Nat) (a0_0 : ByteArray) (l0_1 : List (S28)) (a0_2 : Int) (a1_0 : ByteArray) (a1_1 : Int) (a1_2 : Int) (a1_3 : Int) (a1_4 : ByteArray) : Option (Int) := (gZ.f a0_0 l0_1 a0_2).bind fun t104 => ((bn.f k a1_0 t104).bind fun t105 => (if t105 = true then ((fJ.f a1_1).bind fun t106 => (if a1_2 = 255 then (if a1_4.toList = ([] : List UInt8) then (if t106 = true then (dO.j0 k true a1_0 a1_1 a1_2 a1_3 a1_4) else (dO.j0 k (a1_1 == 255) a1_0 a1_1 a1_2 a1_3 a1_4)) else (some 1)) else (if a1_2 = 254 then (dO.j0 k t106 a1_0 a1_1 a1_2 a1_3 a1_4) else (if a1_2 = 1 then (if t106 = true then (some 0) else (some 1)) else (some 1))))) else (some 10)))
theorem dO.calls (k : Nat) (a0_0 : ByteArray) (A0_1 : Option Addr) (c0_1 : Nat) (l0_1 : List (S28)) (a0_2 : Int) (a1_0 : ByteArray) (a1_1 : Int) (a1_2 : Int) (a1_3 : Int) (a1_4 : ByteArray) (r : Int) (w : World) (hr0_1 : Kd.C k28 w A0_1 l0_1.length l0_1) (hc0_1 : l0_1.length ≤ c0_1) (h : dO.f k a0_0 l0_1 a0_2 a1_0 a1_1 a1_2 a1_3 a1_4 = some r) :
    Calls Tryz.prog 60 #[.agg #[.string a0_0, .slice A0_1 l0_1.length c0_1, .int .i64 a0_2], .agg #[.string a1_0, .int .i64 a1_1, .int .i64 a1_2, .int .i64 a1_3, .string a1_4]] w fun e w' => e = .returned (.int .i64 r) ∧ Below w.heap.size w w' := by
  have hu31 := Tryz.underlying31
  have hu28 := Tryz.underlying28
  have HR0_1 := aj.mk hr0_1
  have HC0_1 := aj.mk hc0_1
  clear hr0_1 hc0_1
  have HB := aj.mk (Below.refl w.heap.size w)
  have H : ((gZ.f a0_0 l0_1 a0_2).bind fun t104 => ((bn.f k a1_0 t104).bind fun t105 => (if t105 = true then ((fJ.f a1_1).bind fun t106 => (if a1_2 = 255 then (if a1_4.toList = ([] : List UInt8) then (if t106 = true then (dO.j0 k true a1_0 a1_1 a1_2 a1_3 a1_4) else (dO.j0 k (a1_1 == 255) a1_0 a1_1 a1_2 a1_3 a1_4)) else (some 1)) else (if a1_2 = 254 then (dO.j0 k t106 a1_0 a1_1 a1_2 a1_3 a1_4) else (if a1_2 = 1 then (if t106 = true then (some 0) else (some 1)) else (some 1))))) else (some 10)))) = some r := h
  clear h
  obtain ⟨t104, A3, H⟩ := cu H
  obtain ⟨t105, A4, H⟩ := cu H
  by_cases c5 : t105 = true
  focus
   subst c5
   rw [if_pos rfl] at H
   obtain ⟨t106, A6, H⟩ := cu H
   have HC7 := aj.mk H
   clear H
  rotate_left
  focus
   replace c5 := Bool.eq_false_iff.mpr c5
   subst c5
   rw [if_neg ff_] at H
   obtain rfl := Option.some.inj H
  rotate_left
  all_goals
   go_enter Tryz.func60, Tryz.ntmps60
   (try go_wp2_with (first | (((refine be_ (N := 2) (cs := #[.string a0_0, .slice A0_1 l0_1.length c0_1, .int .i64 a0_2]) (t := 31) ?_)); intro gb102 hg w8 hbox hb; have BK102 := aj.mk (hbox); have GW102 := aj.mk (ge_ hg (ay HB.out)); have GE102 := aj.mk (ge_ hg (ay HB.out)); replace HB := aj.mk (au HB.out hb); clear hb hbox hg) | (((refine be_ (N := 3) (cs := #[.string a1_0, .int .i64 a1_1, .int .i64 a1_2, .int .i64 a1_3, .string a1_4]) (t := 28) ?_)); intro gb103 hg w9 hbox hb; have BK103 := aj.mk (hbox); have GW103 := aj.mk (ge_ hg (ay HB.out)); have GE103 := aj.mk (ge_ hg (ay HB.out)); have NB102_103 := aj.mk (nl_ hg (by ((exact BK102.out)))); have NB103_102 := aj.mk (nr_ hg (by ((exact BK102.out)))); replace BK102 := aj.mk (aI (by ((exact BK102.out))) hb); replace HB := aj.mk (au HB.out hb); clear hb hbox hg)))
   replace BK102 := aj.mk (eP BK102.out)
   replace BK103 := aj.mk (eP BK103.out)
   replace HB := aj.mk (dz HB.out)
   refine iH (n := 6) (ds := []) (ls 6 0) (by kernel_rfl) rfl rfl (c5_ BK103.out (d3_ BK102.out)) (fun hHeld => ?_)
   generalize w9.drew = w10 at BK102 BK103 HB hHeld ⊢
   refine qE (i := 0) (N := some 6) (v := ?_) (a' := ?_) (ls 6 1) rfl rfl (by kernel_rfl) (fun _ _ _ h => h) (Or.inl ⟨by rfl, ?_⟩) ?_ ?_
   rotate_left
   ·intro w'
    go_simp
    with_reducible rfl
   rotate_left
   ·simp only [Act.put, sA_, sZ_, sS_, dU, fA]
    rfl
   refine tH (i := 1) (N := some 7) (v := ?_) (a' := ?_) (ls 6 3) rfl rfl (by kernel_rfl) (fun _ _ _ h => h) (Or.inl ⟨by rfl, ?_⟩) hHeld ?_ ?_
   rotate_left
   ·rintro w' ⟨s0, s1, s2, s3, s4, s5, s6, s7⟩
    go_simp
    with_reducible rfl
   rotate_left
   ·simp only [Act.put, sA_, sZ_, sS_, dU, fA]
    rfl
   refine tH (i := 2) (N := some 8) (v := ?_) (a' := ?_) (ls 6 7) rfl rfl (by kernel_rfl) (fun _ _ _ h => h) (Or.inl ⟨by rfl, ?_⟩) hHeld ?_ ?_
   rotate_left
   ·rintro w' ⟨s0, s1, s2, s3, s4, s5, s6, s7⟩
    go_simp
    with_reducible rfl
   rotate_left
   ·simp only [Act.put, sA_, sZ_, sS_, dU, fA]
    rfl
   refine oI (i := 3) (N := some 9) (ls 6 15) rfl rfl (by kernel_rfl) (by decide) (fun K hK => ?_)
   refine gs_ Tryz.func98 #[.agg #[.string a0_0, .slice A0_1 l0_1.length c0_1, .int .i64 a0_2]] ?_
   with_reducible refine (gZ.calls a0_0 _ _ l0_1 a0_2 t104 _ ?side1 ?side2 A3.out).mono ?_
   (case side1 => repeat ((exact (Kd.eF HR0_1.out HB.out))))
   (case side2 => exact HC0_1.out)
   rintro e w11 ⟨rfl, hb⟩
   refine ⟨_, rfl, ?_⟩
   replace BK102 := aj.mk (aI (by ((exact BK102.out))) hb)
   replace BK103 := aj.mk (aI (by ((exact BK103.out))) hb)
   replace HB := aj.mk (au HB.out hb)
   (try clear hb)
   refine hK.out _ _ (c5_ BK103.out (d3_ BK102.out)) (fun hHeld => ?_)
   clear hK K
   refine nm_ (N := (some 9)) ?_
   refine oI (i := 4) (N := some 10) (ls 6 31) rfl rfl (by kernel_rfl) (by decide) (fun K hK => ?_)
   refine gs_ Tryz.func91 #[.string a1_0, .string t104] ?_
   with_reducible refine (bn.calls k a1_0 t104 _ _ A4.out).mono ?_
   rintro e w12 ⟨rfl, hb⟩
   refine ⟨_, rfl, ?_⟩
   replace BK102 := aj.mk (aI (by ((exact BK102.out))) hb)
   replace BK103 := aj.mk (aI (by ((exact BK103.out))) hb)
   replace HB := aj.mk (au HB.out hb)
   (try clear hb)
   refine hK.out _ _ (c5_ BK103.out (d3_ BK102.out)) (fun hHeld => ?_)
   clear hK K
   refine nm_ (N := (some 10)) ?_
   refine qE (i := 5) (N := some 11) (v := ?_) (a' := ?_) (ls 6 63) rfl rfl (by kernel_rfl) (fun _ _ _ h => h) (Or.inl ⟨by rfl, ?_⟩) ?_ ?_
   rotate_left
   ·intro w'
    go_simp
    with_reducible rfl
   rotate_left
   ·simp only [Act.put, sA_, sZ_, sS_, dU, fA]
    rfl
   refine mJ (by kernel_rfl) ?_
  ·have hnb13 := NB103_102.out
   have hnc13 := NB102_103.out
   obtain ⟨hcz14_0, hcz14_1, hcz14_2, hcz14_3, hcz14_4, hfz14_0, hfz14_1, hfz14_2, hfz14_3, hfz14_4⟩ := z5_ BK103.out
   go_upto_block 2 with (((refine gl_ (some 14) Tryz.func90 #[.int .i64 a1_1] ?_; (with_reducible refine (fJ.calls a1_1 t106 _ A6.out).mono ?_); rintro e w' ⟨rfl, ⟨nd, rfl⟩⟩; refine ⟨_, rfl, ?_⟩)))
   go_cut [5] (fun v5 wc => ∃ (kq : Nat) (x5_6 : Bool), v5 = .bool x5_6 ∧ aj (dO.j0 kq x5_6 a1_0 a1_1 a1_2 a1_3 a1_4 = some r) ∧ aj (kq ≤ k) ∧ aj (wc.heap[gb102]? = some (.cells #[.string a0_0, (.slice A0_1 l0_1.length c0_1), .int .i64 a0_2] 31 (0, 0))) ∧ aj (wc.heap[gb103]? = some (.cells #[.string a1_0, .int .i64 a1_1, .int .i64 a1_2, .int .i64 a1_3, .string a1_4] 28 (0, 0))) ∧ aj (Below w.heap.size w wc))
   case first =>
    have H := HC7.out
    clear HC7
    by_cases c15 : a1_2 = 255
    focus
     rw [if_pos c15] at H
     have c15b0 : (a1_2 == 255) = true := beq_iff_eq.mpr c15
     have c15b1 : (a1_2 != 255) = false := bne_eq_false_iff_eq.mpr c15
     clear c15
    rotate_left
    focus
     rw [if_neg c15] at H
     have c15b0 : (a1_2 == 255) = false := beq_eq_false_iff_ne.mpr c15
     have c15b1 : (a1_2 != 255) = true := bne_iff_ne.mpr c15
    rotate_left
    all_goals
     (skip)
    ·by_cases c16 : a1_4.toList = ([] : List UInt8)
     focus
      rw [if_pos c16] at H
      have c16b0 : a1_4.toList.isEmpty = true := List.isEmpty_iff.mpr c16
      have c16b1 : (!a1_4.toList.isEmpty) = false := by rw [List.isEmpty_iff.mpr c16]; rfl
      clear c16
      by_cases c17 : t106 = true
      focus
       subst c17
       rw [if_pos rfl] at H
      rotate_left
      focus
       replace c17 := Bool.eq_false_iff.mpr c17
       subst c17
       rw [if_neg ff_] at H
      rotate_left
      all_goals
       have H' := aj.mk H
       clear H
     rotate_left 2
     focus
      rw [if_neg c16] at H
      have c16b0 : a1_4.toList.isEmpty = false := Bool.eq_false_iff.mpr (fun h_ => c16 (List.isEmpty_iff.mp h_))
      have c16b1 : (!a1_4.toList.isEmpty) = true := by rw [Bool.eq_false_iff.mpr (fun h_ => c16 (List.isEmpty_iff.mp h_))]; rfl
      obtain rfl := Option.some.inj H
     rotate_left
     all_goals
      have hnb18 := NB103_102.out
      have hnc18 := NB102_103.out
      obtain ⟨hcz19_0, hcz19_1, hcz19_2, hcz19_3, hcz19_4, hfz19_0, hfz19_1, hfz19_2, hfz19_3, hfz19_4⟩ := z5_ BK103.out
      go_wp2
     iterate 2
      focus
       go_meet
      rotate_left
     rotate_left
     ·case rel => exact ⟨_, (true), (by rfl), H', ⟨by omega⟩, ⟨by (with_reducible repeat ((refine aA ?_ _))); exact BK102.out⟩, ⟨by (with_reducible repeat ((refine aA ?_ _))); exact BK103.out⟩, ⟨by repeat ((with_reducible first | exact HB.out | apply aW))⟩⟩
     ·case rel => exact ⟨_, ((a1_1 == 255)), (by rfl), H', ⟨by omega⟩, ⟨by (with_reducible repeat ((refine aA ?_ _))); exact BK102.out⟩, ⟨by (with_reducible repeat ((refine aA ?_ _))); exact BK103.out⟩, ⟨by repeat ((with_reducible first | exact HB.out | apply aW))⟩⟩
     ·go_ret
      exact ⟨by rfl, by repeat ((with_reducible first | exact HB.out | apply aW))⟩
    ·by_cases c24 : a1_2 = 254
     ·rw [if_pos c24] at H
      have c24b0 : (a1_2 == 254) = true := beq_iff_eq.mpr c24
      have c24b1 : (a1_2 != 254) = false := bne_eq_false_iff_eq.mpr c24
      clear c24
      have H' := aj.mk H
      clear H
      go_wp2
      go_meet
      case rel => exact ⟨_, (t106), (by rfl), H', ⟨by omega⟩, ⟨by (with_reducible repeat ((refine aA ?_ _))); exact BK102.out⟩, ⟨by (with_reducible repeat ((refine aA ?_ _))); exact BK103.out⟩, ⟨by repeat ((with_reducible first | exact HB.out | apply aW))⟩⟩
     ·rw [if_neg c24] at H
      have c24b0 : (a1_2 == 254) = false := beq_eq_false_iff_ne.mpr c24
      have c24b1 : (a1_2 != 254) = true := bne_iff_ne.mpr c24
      by_cases c25 : a1_2 = 1
      focus
       rw [if_pos c25] at H
       have c25b0 : (a1_2 == 1) = true := beq_iff_eq.mpr c25
       have c25b1 : (a1_2 != 1) = false := bne_eq_false_iff_eq.mpr c25
       clear c25
       by_cases c26 : t106 = true
       focus
        subst c26
        rw [if_pos rfl] at H
       rotate_left
       focus
        replace c26 := Bool.eq_false_iff.mpr c26
        subst c26
        rw [if_neg ff_] at H
       rotate_left
      rotate_left 2
      focus
       rw [if_neg c25] at H
       have c25b0 : (a1_2 == 1) = false := beq_eq_false_iff_ne.mpr c25
       have c25b1 : (a1_2 != 1) = true := bne_iff_ne.mpr c25
      rotate_left
      all_goals
       obtain rfl := Option.some.inj H
       go_wp2
       go_ret
       exact ⟨by rfl, by repeat ((with_reducible first | exact HB.out | apply aW))⟩
   case rest =>
    clear HC7
    (try clear hcz14_0)
    (try clear hcz14_1)
    (try clear hcz14_2)
    (try clear hcz14_3)
    (try clear hcz14_4)
    (try clear hfz14_0)
    (try clear hfz14_1)
    (try clear hfz14_2)
    (try clear hfz14_3)
    (try clear hfz14_4)
    obtain ⟨kq, x5_6, rfl, HA, HJ6, BK102, BK103, HB⟩ := hcut
    cases kq with
    | zero => exact absurd HA.out (by simp [dO.j0])
    | succ kj6 =>
     have H := HA.out
     clear HA
     simp only [dO.j0] at H
     by_cases c27 : a1_3 = 0
     focus
      rw [if_pos c27] at H
      have c27b0 : (a1_3 == 0) = true := beq_iff_eq.mpr c27
      have c27b1 : (a1_3 != 0) = false := bne_eq_false_iff_eq.mpr c27
      clear c27
      by_cases c28 : x5_6 = true
      focus
       subst c28
       rw [if_pos rfl] at H
      rotate_left
      focus
       replace c28 := Bool.eq_false_iff.mpr c28
       subst c28
       rw [if_neg ff_] at H
      rotate_left
     rotate_left 2
     focus
      rw [if_neg c27] at H
      have c27b0 : (a1_3 == 0) = false := beq_eq_false_iff_ne.mpr c27
      have c27b1 : (a1_3 != 0) = true := bne_iff_ne.mpr c27
     rotate_left
     all_goals
      obtain rfl := Option.some.inj H
      have hnb29 := NB103_102.out
      have hnc29 := NB102_103.out
      obtain ⟨hcz30_0, hcz30_1, hcz30_2, hcz30_3, hcz30_4, hfz30_0, hfz30_1, hfz30_2, hfz30_3, hfz30_4⟩ := z5_ BK103.out
      go_wp2
      go_ret
      exact ⟨by rfl, HB.out⟩
  ·try go_wp2
   go_ret
   exact ⟨by rfl, HB.out⟩
noncomputable def bK.l0 : Nat → List (S28) → Int → Int → ByteArray → List (S28) → Int → Option (Int)
 | 0, _, _, _, _, _, _ => none
 | k + 1, x8, x9, x10, x108000, x108001, x108002 => if x10 < x9 then (if 0 ≤ x10 then (if x10 < (x8.length : Int) then ((dO.f k x108000 x108001 x108002 ((aC x8 x10).f0) ((aC x8 x10).f1) ((aC x8 x10).f2) ((aC x8 x10).f3) ((aC x8 x10).f4)).bind fun t110 => (if t110 = 0 then (bK.l0 k x8 x9 (wrap64 (x10 + 1)) x108000 x108001 x108002) else (some t110))) else (none)) else (none)) else (some 0)
noncomputable def bK.f (k : Nat) (a0_0 : ByteArray) (l0_1 : List (S28)) (a0_2 : Int) (l1 : List (S28)) : Option (Int) := bK.l0 k l1 (l1.length : Int) 0 a0_0 l0_1 a0_2
theorem bK.calls (k : Nat) (a0_0 : ByteArray) (A0_1 : Option Addr) (c0_1 : Nat) (l0_1 : List (S28)) (a0_2 : Int) (A1 : Option Addr) (c1 : Nat) (l1 : List (S28)) (r : Int) (w : World) (hr0_1 : Kd.C k28 w A0_1 l0_1.length l0_1) (hc0_1 : l0_1.length ≤ c0_1) (hr1 : Kd.C k28 w A1 l1.length l1) (hc1 : l1.length ≤ c1) (h : bK.f k a0_0 l0_1 a0_2 l1 = some r) :
    Calls Tryz.prog 23 #[.agg #[.string a0_0, .slice A0_1 l0_1.length c0_1, .int .i64 a0_2], .slice A1 l1.length c1] w fun e w' => e = .returned (.int .i64 r) ∧ Below w.heap.size w w' := by
  have hu31 := Tryz.underlying31
  have hu28 := Tryz.underlying28
  have HR0_1 := aj.mk hr0_1
  have HC0_1 := aj.mk hc0_1
  clear hr0_1 hc0_1
  have HR1 := aj.mk hr1
  have HC1 := aj.mk hc1
  clear hr1 hc1
  have HB := aj.mk (Below.refl w.heap.size w)
  have H : (bK.l0 k l1 (l1.length : Int) 0 a0_0 l0_1 a0_2) = some r := h
  clear h
  have H' := aj.mk H
  clear H
  go_enter Tryz.func23, Tryz.ntmps23
  go_wp2_with (((((refine be_ (N := 2) (cs := #[.string a0_0, .slice A0_1 l0_1.length c0_1, .int .i64 a0_2]) (t := 31) ?_)); intro gb107 hg w3 hbox hb; have BK107 := aj.mk (hbox); have GW107 := aj.mk (ge_ hg (ay HB.out)); have GE107 := aj.mk (ge_ hg (ay HB.out)); replace HB := aj.mk (au HB.out hb); clear hb hbox hg)))
  go_loopg [10] k (fun kq v10 w' => ∃ (x10_1 : Int), v10 = .int .i64 x10_1 ∧ aj (bK.l0 kq l1 (l1.length : Int) x10_1 a0_0 l0_1 a0_2 = some r) ∧ aj (kq ≤ k) ∧ aj (w'.heap[gb107]? = some (.cells #[.string a0_0, (.slice A0_1 l0_1.length c0_1), .int .i64 a0_2] 31 (0, 0))) ∧ aj (Below w.heap.size w w'))
  case atStart => exact ⟨(0), (by rfl), H', ⟨Nat.le_refl _⟩, ⟨by (with_reducible repeat ((refine aA ?_ _))); exact BK107.out⟩, ⟨HB.out⟩⟩
  case round =>
   clear H'
   obtain ⟨x10_1, rfl, HA, HK1, BK107, HB⟩ := hrel
   cases gk with
   | zero => exact absurd HA.out (by simp [bK.l0])
   | succ k1 =>
    have H := HA.out
    clear HA
    simp only [bK.l0] at H
    by_cases c4 : x10_1 < (l1.length : Int)
    ·rw [if_pos c4] at H
     have c4b0 : decide (x10_1 < (l1.length : Int)) = true := decide_eq_true c4
     clear c4
     obtain ⟨c5b0, H⟩ := dX H
     obtain ⟨c6b0, H⟩ := dX H
     obtain ⟨t110, A7, H⟩ := cu H
     by_cases c8 : t110 = 0
     focus
      rw [if_pos c8] at H
      have c8b0 : (t110 == 0) = true := beq_iff_eq.mpr c8
      have c8b1 : (t110 != 0) = false := bne_eq_false_iff_eq.mpr c8
      clear c8
      have H' := aj.mk H
      clear H
     rotate_left
     focus
      rw [if_neg c8] at H
      have c8b0 : (t110 == 0) = false := beq_eq_false_iff_ne.mpr c8
      have c8b1 : (t110 != 0) = true := bne_iff_ne.mpr c8
      obtain rfl := Option.some.inj H
     rotate_left
     all_goals
      have p108 : 0 ≤ (x10_1 : Int) := of_decide_eq_true (by assumption)
      have q108 : x10_1 < (l1.length : Int) := of_decide_eq_true (by assumption)
      obtain ⟨ad108, e108, hx108_0, hx108_1, hx108_2, hx108_3, hx108_4⟩ := iD HR1.out x10_1 p108 q108
      cases e108
      replace hx108_0 := kp_ HB.out hx108_0
      replace hx108_1 := kp_ HB.out hx108_1
      replace hx108_2 := kp_ HB.out hx108_2
      replace hx108_3 := kp_ HB.out hx108_3
      replace hx108_4 := kp_ HB.out hx108_4
      replace p108 := eq_true p108
      replace q108 := eq_true q108
      go_wp2_with (first | ((((refine be_ (N := 6) (cs := #[.string (⟨#[]⟩ : ByteArray), .int .i64 0, .int .i64 0, .int .i64 0, .string (⟨#[]⟩ : ByteArray)]) (t := 28) ?_))); intro gb109 hg w9 hbox hb; have BK109 := aj.mk (hbox); have GW109 := aj.mk (ge_ hg (ay HB.out)); have GE109 := aj.mk (ge_ hg (ay HB.out)); have NB107_109 := aj.mk (nl_ hg (by ((exact BK107.out)))); have NB109_107 := aj.mk (nr_ hg (by ((exact BK107.out)))); replace BK107 := aj.mk (aI (by ((exact BK107.out))) hb); replace HB := aj.mk (au HB.out hb); clear hb hbox hg; have hnb10 := NB109_107.out; have hnc10 := NB107_109.out; obtain ⟨hcz11_0, hcz11_1, hcz11_2, hcz11_3, hcz11_4, hfz11_0, hfz11_1, hfz11_2, hfz11_3, hfz11_4⟩ := z5_ BK109.out; obtain ⟨hcz12_0, hcz12_1, hcz12_2, hfz12_0, hfz12_1, hfz12_2⟩ := z3_ BK107.out) | (refine gl_ (some 16) Tryz.func60 #[.agg #[.string a0_0, .slice A0_1 l0_1.length c0_1, .int .i64 a0_2], .agg #[.string ((aC l1 x10_1).f0), .int .i64 ((aC l1 x10_1).f1), .int .i64 ((aC l1 x10_1).f2), .int .i64 ((aC l1 x10_1).f3), .string ((aC l1 x10_1).f4)]] ?_; (with_reducible refine (dO.calls k1 a0_0 _ _ l0_1 a0_2 ((aC l1 x10_1).f0) ((aC l1 x10_1).f1) ((aC l1 x10_1).f2) ((aC l1 x10_1).f3) ((aC l1 x10_1).f4) t110 _ ?side1 ?side2 A7.out).mono ?_); (case side1 => exact Kd.eF HR0_1.out (by repeat ((with_reducible first | exact HB.out | refine dG ?_ GE109.out)))); (case side2 => exact HC0_1.out); rintro e w13 ⟨rfl, hb⟩; refine ⟨_, rfl, ?_⟩; replace BK107 := aj.mk (aI (g := gb107) (o := .cells #[.string a0_0, .slice A0_1 l0_1.length c0_1, .int .i64 a0_2] 31 (0, 0)) (by (with_reducible repeat ((refine aA ?_ _))); refine eD ?_ NB107_109.out _; (with_reducible repeat ((refine aA ?_ _))); refine eD ?_ NB107_109.out _; (with_reducible repeat ((refine aA ?_ _))); refine eD ?_ NB107_109.out _; (with_reducible repeat ((refine aA ?_ _))); refine eD ?_ NB107_109.out _; (with_reducible repeat ((refine aA ?_ _))); refine eD ?_ NB107_109.out _; (with_reducible repeat ((refine aA ?_ _))); exact BK107.out) hb); replace BK109 := aj.mk (aI (g := gb109) (o := .cells #[.string ((aC l1 x10_1).f0), .int .i64 ((aC l1 x10_1).f1), .int .i64 ((aC l1 x10_1).f2), .int .i64 ((aC l1 x10_1).f3), .string ((aC l1 x10_1).f4)] 28 (0, 0)) (by (with_reducible repeat ((refine aA ?_ _))); refine bM (cs := #[.string ((aC l1 x10_1).f0), .int .i64 ((aC l1 x10_1).f1), .int .i64 ((aC l1 x10_1).f2), .int .i64 ((aC l1 x10_1).f3), .string (⟨#[]⟩ : ByteArray)]) ?_ 4 _ rfl; (with_reducible repeat ((refine aA ?_ _))); refine bM (cs := #[.string ((aC l1 x10_1).f0), .int .i64 ((aC l1 x10_1).f1), .int .i64 ((aC l1 x10_1).f2), .int .i64 0, .string (⟨#[]⟩ : ByteArray)]) ?_ 3 _ rfl; (with_reducible repeat ((refine aA ?_ _))); refine bM (cs := #[.string ((aC l1 x10_1).f0), .int .i64 ((aC l1 x10_1).f1), .int .i64 0, .int .i64 0, .string (⟨#[]⟩ : ByteArray)]) ?_ 2 _ rfl; (with_reducible repeat ((refine aA ?_ _))); refine bM (cs := #[.string ((aC l1 x10_1).f0), .int .i64 0, .int .i64 0, .int .i64 0, .string (⟨#[]⟩ : ByteArray)]) ?_ 1 _ rfl; (with_reducible repeat ((refine aA ?_ _))); refine bM (cs := #[.string (⟨#[]⟩ : ByteArray), .int .i64 0, .int .i64 0, .int .i64 0, .string (⟨#[]⟩ : ByteArray)]) ?_ 0 _ rfl; (with_reducible repeat ((refine aA ?_ _))); exact BK109.out) hb); replace HB := aj.mk (au (by repeat ((with_reducible first | exact HB.out | refine dG ?_ GE109.out))) hb); (try clear hb)))
     ·go_roundg k1
      case measure => have := HK1.out; omega
      case rel => exact ⟨(wrap64 (x10_1 + 1)), (by rfl), H', ⟨by have := HK1.out; omega⟩, ⟨by (with_reducible repeat ((refine aA ?_ _))); exact BK107.out⟩, ⟨HB.out⟩⟩
     ·go_ret
      exact ⟨by rfl, HB.out⟩
    ·rw [if_neg c4] at H
     have c4b0 : decide (x10_1 < (l1.length : Int)) = false := decide_eq_false c4
     clear c4
     obtain rfl := Option.some.inj H
     go_wp2
     go_ret
     exact ⟨by rfl, HB.out⟩
end Go.Y.PPo
namespace Go.Y.Rrs
open Go.Proofs.ah.av Go.Proofs.ah.aT Go.Proofs.ah.aU Go.Y.Given Go.Y.PRd Go.Y.PRr Go.Y.bY
theorem Ik (xs : List ByteArray) (hx : ∀ y ∈ xs, folded y) (hn : xs.length ≤ 1000000) (base : Nat) (ok : Nat → Prop) (w0 w : World) (hB : Below base w0 w) (v : Value) (hR : Kd.string.R 9 w base ok v xs) :
  Calls Tryz.prog 63 #[v, .func (.func 64) #[] #[]] w fun e w' => e = .returned (.tuple #[]) ∧ ∃ ys, ys.Perm xs ∧ (ys.Pairwise fun a b => iq a b ≤ 0) ∧ Kd.string.R 9 w' base ok v ys ∧ Below base w0 w' := by
 by_cases hp : 0 < xs.length
 ·exact Ib xs hx hn hp base ok w0 w hB v hR
 ·have h0 : xs = [] := List.length_eq_zero_iff.mp (by omega)
  subst h0
  obtain ⟨A, c, rfl, _, _⟩ := Kd.mX hR
  refine (AnyF.slices_SortFunc_none (P := Tryz.prog) (ρ := Shelf.BM) { Shelf.zo with } A c (.func (.func 64) #[] #[]) w).mono ?_
  rintro e w' ⟨rfl, rfl⟩
  exact ⟨rfl, [], List.Perm.nil, List.Pairwise.nil, hR, hB⟩
end Go.Y.Rrs
namespace Go.Y.Given
open Go.Proofs.ah.av Go.Proofs.ah.aT Go.Proofs.ah.aU Go.Y.PRd Go.Y.PRr Go.Y.PPo Go.Y.Rrs Go.Y.Oct Go.Y.Name Go.Y.dK
noncomputable def mH (k : Nat) (a : ByteArray) (s : List RR) (z : Int) (l : List RR) : List RR := l.filter fun x => (dO.f k a s z x.f0 x.f1 x.f2 x.f3 x.f4).getD 1 == 0
def Dt (k : Nat) (a : ByteArray) (s : List RR) (z : Int) (l : List RR) : Prop := l.length ≤ 1000000 ∧ ∀ x ∈ l, ∃ c, dO.f k a s z x.f0 x.f1 x.f2 x.f3 x.f4 = some c ∧ (c = 0 → bC x.f0 = true)
open Classical in
noncomputable def dS.f (k : Nat) (a0_0 : ByteArray) (l0_1 : List (S28)) (a0_2 : Int) (l1 : List (S28)) : Option (List ByteArray) :=
 if Dt k a0_0 l0_1 a0_2 l1 then some (pQ ((mH k a0_0 l0_1 a0_2 l1).map fun x => gL x.f0)) else none
theorem dS.calls (k : Nat) (a0_0 : ByteArray) (A0_1 : Option Addr) (c0_1 : Nat) (l0_1 : List (S28)) (a0_2 : Int) (A1 : Option Addr) (c1 : Nat) (l1 : List (S28)) (r : List ByteArray) (w : World) (hr0_1 : Kd.C k28 w A0_1 l0_1.length l0_1) (hc0_1 : l0_1.length ≤ c0_1) (hr1 : Kd.C k28 w A1 l1.length l1) (hc1 : l1.length ≤ c1) (h : dS.f k a0_0 l0_1 a0_2 l1 = some r) :
  Calls Tryz.prog 26 #[.agg #[.string a0_0, .slice A0_1 l0_1.length c0_1, .int .i64 a0_2], .slice A1 l1.length c1] w fun e w' => ∃ v0_ : Value, e = .returned (v0_) ∧ Kd.R Kd.string 9 w' w.heap.size (fun _ => True) v0_ r ∧ Below w.heap.size w w' := by
 unfold dS.f at h
 have hk : Dt k a0_0 l0_1 a0_2 l1 := Classical.byContradiction fun hn => by rw [if_neg hn] at h; cases h
 rw [if_pos hk] at h
 injection h with h
 have HS0 := Lib.hid hr0_1
 have HSC := Lib.hid hc0_1
 have HR := Lib.hid hr1
 have HH := Lib.hid h
 have HM := Lib.hid hk.2
 have hn := hk.1
 obtain ⟨n0, hn0⟩ : ∃ n, l0_1.length = n := ⟨_, rfl⟩
 have HN0 := Lib.hid hn0
 rw [hn0]
 obtain ⟨n, hnn⟩ : ∃ n, l1.length = n := ⟨_, rfl⟩
 have HN := Lib.hid hnn
 rw [hnn] at hn ⊢
 have HB := aj.mk (Below.refl w.heap.size w)
 have hu31 := Tryz.underlying31
 have hu28 := Tryz.underlying28
 clear hr0_1 hc0_1 hr1 hc1 h hk hnn hn0
 go_enter Tryz.func26, Tryz.ntmps26
 go_wp2_with (first | ((with_reducible refine bU (N := 2) rfl ?_); refine dw ?hg (N := 2) ?hd (cs := #[.string a0_0, .slice A0_1 n0 c0_1, .int .i64 a0_2]) (t := 31) ?hr ?_; (case hd => rfl); (case hg => rfl); (case hr => first | (go_simp; done) | (go_simp; rfl)); intro gb hg w3 hbox hb; have n0_ := aj.mk (au (HB.out) hb); have n1_ := aj.mk (hbox); have n2_ := aj.mk (show w.heap.size ≤ gb by rw [hg]; exact ay HB.out); clear HB; have HB := n0_; have BK := n1_; have GE := n2_; clear n0_ n1_ n2_; clear hb hbox hg))
 go_loopg [5, 10] n (fun kx s5 s10 wr => ∃ i : Nat, s10 = .int .i64 (i : Int) ∧ i ≤ n ∧ n - i ≤ kx ∧ Hid (Kd.R Kd.string 9 wr w3.heap.size (fun _ => True) s5 ((mH k a0_0 l0_1 a0_2 (l1.take i)).map fun x => gL x.f0)) ∧ Hid (Below w3.heap.size w3 wr))
 case atStart => exact ⟨0, rfl, by omega, by omega, Lib.hid (Kd.fU _ _ _ _ _), Lib.hid (Below.refl _ _)⟩
 case round =>
  obtain ⟨i, rfl, hin, hik, HO, HB3⟩ := hrel
  by_cases hlt : i < n
  ·have p1 : (0 : Int) ≤ (i : Int) := by omega
   have q1 : (i : Int) < (l1.length : Int) := by rw [HN.out]; omega
   have BKr := Lib.hid (aI BK.out HB3.out)
   have hcz0 : wr.cell? ⟨gb, 0, none⟩ = some (.string a0_0) := (aG BKr.out 0).trans rfl
   have hcz1 : wr.cell? ⟨gb, 1, none⟩ = some (.slice A0_1 n0 c0_1) := (aG BKr.out 1).trans rfl
   have hcz2 : wr.cell? ⟨gb, 2, none⟩ = some (.int .i64 a0_2) := (aG BKr.out 2).trans rfl
   have HBW := Lib.hid (eY HB.out HB.out.size HB3.out)
   obtain ⟨ad, e1, hx0, hx1, hx2, hx3, hx4⟩ := iD HR.out (i : Int) p1 q1
   cases e1
   rw [Int.toNat_natCast] at hx0 hx1 hx2 hx3 hx4
   replace hx0 := (HBW.out.cell (World.block_lt_of_cell? w _ hx0)).trans hx0
   replace hx1 := (HBW.out.cell (World.block_lt_of_cell? w _ hx1)).trans hx1
   replace hx2 := (HBW.out.cell (World.block_lt_of_cell? w _ hx2)).trans hx2
   replace hx3 := (HBW.out.cell (World.block_lt_of_cell? w _ hx3)).trans hx3
   replace hx4 := (HBW.out.cell (World.block_lt_of_cell? w _ hx4)).trans hx4
   have q2 : (i : Int) < (n : Int) := by omega
   obtain ⟨x, hx⟩ : ∃ x, rdR l1 (i : Nat) = x := ⟨_, rfl⟩
   rw [show aC l1 (i : Int) = x from hx] at hx0 hx1 hx2 hx3 hx4
   have hxl : x = l1[i]'(by rw [HN.out]; exact hlt) := by rw [← hx, fE l1 i (by rw [HN.out]; exact hlt)]
   have hxm : x ∈ l1 := by rw [hxl]; exact List.getElem_mem _
   obtain ⟨c, hc, _⟩ := HM.out x hxm
   have HC := Lib.hid hc
   have HX := Lib.hid hxl
   have hw1 : IntKind.i64.wrap ((i : Int) + 1) = (i : Int) + 1 := by rw [IntKind.wrap_i64]; omega
   have HSTEP := Lib.hid (show ((mH k a0_0 l0_1 a0_2 (l1.take (i + 1))).map fun x => gL x.f0) = ((mH k a0_0 l0_1 a0_2 (l1.take i)).map fun x => gL x.f0) ++ (if c = 0 then [gL x.f0] else []) by
    unfold mH
    rw [List.take_add_one, List.getElem?_eq_getElem (by rw [HN.out]; exact hlt), List.filter_append, List.map_append]
    congr 1
    rw [← hxl]
    simp only [Option.toList_some, List.filter_cons, List.filter_nil, hc, Option.getD_some, beq_iff_eq]
    split <;> rfl)
   have hcy0 : (wr.alloc (.cells #[.string x.f0, .int .i64 x.f1, .int .i64 x.f2, .int .i64 x.f3, .string x.f4] 28)).cell? ⟨gb, 0, none⟩ = some (.string a0_0) := (aG (gU BKr.out _) 0).trans rfl
   have hcy1 : (wr.alloc (.cells #[.string x.f0, .int .i64 x.f1, .int .i64 x.f2, .int .i64 x.f3, .string x.f4] 28)).cell? ⟨gb, 1, none⟩ = some (.slice A0_1 n0 c0_1) := (aG (gU BKr.out _) 1).trans rfl
   have hcy2 : (wr.alloc (.cells #[.string x.f0, .int .i64 x.f1, .int .i64 x.f2, .int .i64 x.f3, .string x.f4] 28)).cell? ⟨gb, 2, none⟩ = some (.int .i64 a0_2) := (aG (gU BKr.out _) 2).trans rfl
   clear hxl hx q1 hxm hc
   go_wp2_with fail
   clear hcy0 hcy1 hcy2
   have hB1 : Below w3.heap.size w3 (wr.alloc (.cells #[.string x.f0, .int .i64 x.f1, .int .i64 x.f2, .int .i64 x.f3, .string x.f4] 28)) := bI HB3.out _
   have hO1 := Kd.aN HO.out (.cells #[.string x.f0, .int .i64 x.f1, .int .i64 x.f2, .int .i64 x.f3, .string x.f4] 28)
   have hk : (wr.alloc (.cells #[.string x.f0, .int .i64 x.f1, .int .i64 x.f2, .int .i64 x.f3, .string x.f4] 28)).heap[wr.heap.size]? = some (.cells #[.string x.f0, .int .i64 x.f1, .int .i64 x.f2, .int .i64 x.f3, .string x.f4] 28 (0, 0)) := by show (wr.heap.push _)[wr.heap.size]? = _; simp
   have hgz : wr.heap.size < (wr.alloc (.cells #[.string x.f0, .int .i64 x.f1, .int .i64 x.f2, .int .i64 x.f3, .string x.f4] 28)).heap.size := by show _ < (wr.heap.push _).size; simp
   generalize wr.alloc (.cells #[.string x.f0, .int .i64 x.f1, .int .i64 x.f2, .int .i64 x.f3, .string x.f4] 28) = w1 at hB1 hO1 hk hgz ⊢
   generalize wr.heap.size = gx at hk hgz ⊢
   have hcall := dO.calls k a0_0 A0_1 c0_1 l0_1 a0_2 x.f0 x.f1 x.f2 x.f3 x.f4 c w1 (Kd.eF HS0.out (eY HB.out HB.out.size hB1)) HSC.out HC.out
   rw [HN0.out] at hcall
   refine hcall.mono ?_
   rintro e w4 ⟨rfl, hb4⟩
   have hk4 : w4.heap[gx]? = _ := (hb4.block gx hgz).trans hk
   have HB4 := Lib.hid (eY hB1 hB1.size hb4)
   have HO4 := Lib.hid (Kd.bD hO1 hb4)
   clear hb4 HB3 HO hB1 hO1 hk hgz hcall hx0 hx1 hx2 hx3 hx4 hcz0 hcz1 hcz2 BKr HBW HC
   have hx0 : w4.cell? ⟨gx, 0, none⟩ = some (.string x.f0) := by simp [World.cell?, hk4]
   clear hk4
   cases hd : decide (c = 0) with
   | true =>
    have hc0 : (c == 0) = true := beq_iff_eq.mpr (of_decide_eq_true hd)
    have hst2 := HSTEP.out
    rw [if_pos (of_decide_eq_true hd)] at hst2
    have HST2 := Lib.hid hst2
    clear hst2
    clear HSTEP hd
    go_wp2_with fail
    refine (gq.calls x.f0 (gL x.f0) w4 (DF x.f0)).mono ?_
    rintro e w5 ⟨rfl, hb5⟩
    have HB5 := Lib.hid (eY HB4.out HB4.out.size hb5)
    have HO5 := Lib.hid (Kd.bD HO4.out hb5)
    clear hb5 HB4 HO4 hx0
    obtain ⟨y, hy⟩ : ∃ y, gL x.f0 = y := ⟨_, rfl⟩
    rw [hy] at HST2 ⊢
    clear hy
    go_wp2_with (first | ((with_reducible refine eO (b := .append) (xs := #[.tmp 18, .tmp 22]) rfl ?_); at_builtin; refine Kd.iL Kd.string (w0 := w3) w3.heap.size rfl (.tmp 18) (.tmp 22) 43 9 (.string ⟨#[]⟩) 16 rfl Tryz.underlying43 nA rfl (by decide) (by omega) u5 ((mH k a0_0 l0_1 a0_2 (l1.take i)).map fun x => gL x.f0) y [.string y] (fun _ => True) (fun _ => False) rfl rfl ?aP (fun _ hk => hk.elim) ?aF ?aO ?aB ?aS ?aL ?_; (case aP => exact rfl); (case aB => exact (by repeat (first | (with_reducible first | exact HB5.out | apply bI | apply aW | apply dz) | exact HB5.out))); (case aF => exact (fun _ _ => trivial)); (case aO => exact (by (with_reducible repeat (first | apply Kd.aN | apply Kd.kH | apply Kd.iF)); exact HO5.out)); (case aS => exact (ay (by repeat (first | (with_reducible first | exact HB5.out | apply bI | apply aW | apply dz) | exact HB5.out)))); (case aL => have h3 : (mH k a0_0 l0_1 a0_2 (l1.take i)).length ≤ i := Nat.le_trans (List.length_filter_le _ _) (by rw [List.length_take]; omega); rw [List.length_map]; omega); intro v7 w7 ho hb hg hat; have n0_ := Lib.hid hb; have n1_ := Lib.hid ho; clear HB5 HO5; have HB5 := n0_; have HO5 := n1_; clear n0_ n1_ ho hb hg hat))
    go_roundg (n - (i + 1))
    case measure => omega
    case rel => exact ⟨i + 1, by rw [show ((i + 1 : Nat) : Int) = (i : Int) + 1 by omega], by omega, Nat.le_refl _, Lib.hid (by rw [HST2.out]; exact HO5.out), HB5⟩
   | false =>
    have hc0 : (c == 0) = false := beq_eq_false_iff_ne.mpr (of_decide_eq_false hd)
    have hst2 := HSTEP.out
    rw [if_neg (of_decide_eq_false hd)] at hst2
    have HST2 := Lib.hid hst2
    clear hst2
    clear HSTEP hd
    go_wp2_with fail
    go_roundg (n - (i + 1))
    case measure => omega
    case rel => exact ⟨i + 1, by rw [show ((i + 1 : Nat) : Int) = (i : Int) + 1 by omega], by omega, Nat.le_refl _, Lib.hid (by rw [HST2.out, List.append_nil]; exact HO4.out), HB4⟩
  ·obtain rfl : i = n := by omega
   have b1 : ¬ ((i : Int) < (i : Int)) := by omega
   have hO := HO.out
   rw [List.take_of_length_le (by rw [HN.out]; exact Nat.le_refl _)] at hO
   have hfd : ∀ y ∈ (mH k a0_0 l0_1 a0_2 l1).map (fun x => gL x.f0), folded y := fun y hy => by
    obtain ⟨x, hx, rfl⟩ := List.mem_map.mp hy
    unfold mH at hx
    obtain ⟨hx1, hx2⟩ := List.mem_filter.mp hx
    obtain ⟨c, hc, hc2⟩ := HM.out x hx1
    rw [hc] at hx2
    exact uj (hc2 (by simpa using hx2))
   have hln : ((mH k a0_0 l0_1 a0_2 l1).map fun x => gL x.f0).length ≤ 1000000 := by
    rw [List.length_map]
    unfold mH
    exact Nat.le_trans (List.length_filter_le _ _) (by rw [HN.out]; exact hn)
   have HFD := Lib.hid hfd
   have HLN := Lib.hid hln
   have HS := Lib.hid (Ik _ hfd hln w3.heap.size (fun _ => True) w3 wr HB3.out _ hO)
   clear hO HO HB3 hfd hln
   go_wp2_with fail
   refine HS.out.mono ?_
   rintro e w5 ⟨rfl, ys, hperm, hsorted, hR5, hB5⟩
   have hcs := wZ ys (fun y hy => HFD.out y (hperm.mem_iff.mp hy)) hsorted
   have hst : pQ ys = pQ ((mH k a0_0 l0_1 a0_2 l1).map fun x => gL x.f0) := bY.uP jB (bY.lN jB _) (bY.lN jB _) fun y => by
    show y ∈ pQ _ ↔ y ∈ pQ _
    rw [qF (fun y hy => HFD.out y (hperm.mem_iff.mp hy)), qF HFD.out, hperm.mem_iff]
   have hcp := qb.Al ys (by rw [hperm.length_eq]; exact HLN.out) w3.heap.size (fun _ => True) w3 w5 hB5 _ hR5
   rw [hcs, hst, HH.out] at hcp
   have HCP := Lib.hid hcp
   clear hcs hst hcp hperm hsorted hR5 hB5 HS HFD HLN
   go_wp2_with fail
   refine HCP.out.mono ?_
   rintro e w6 ⟨v6, rfl, hv6, hb6⟩
   have HV6 := Lib.hid (Kd.bS hv6 HB.out.size)
   have HB6 := Lib.hid (eY HB.out HB.out.size hb6)
   clear hv6 hb6 HCP
   go_wp2_with fail
   go_ret
   exact ⟨_, rfl, HV6.out, HB6.out⟩
end Go.Y.Given
namespace Go.Y.PPs
open Go.Proofs.ah.av Go.Proofs.ah.aT Go.Proofs.ah.aU Go.Y.Given Go.Y.PRd Go.Y.PRr Go.Y.PZo Go.Y.PZf Go.Y.PZe Go.Y.PZh Go.Y.PPo
attribute [local go_sem] dB dD dQ dP cK cB dA dF
def je : Option Int → Value
 | none => .nilIface
 | some c => .iface 0 (.int .i64 c)
theorem iZ : je none = .nilIface := rfl
theorem jd (c : Int) : je (some c) = .iface 0 (.int .i64 c) := rfl
end Go.Y.PPs
namespace Go.Y.PPs
open Go.Proofs.ah.av Go.Proofs.ah.aT Go.Proofs.ah.aU Go.Y.Given Go.Y.PRd Go.Y.PRr Go.Y.PZo Go.Y.PZf Go.Y.PZe Go.Y.PZh Go.Y.PPo
attribute [local go_sem] dB dD dQ dP cK cB dA dF
noncomputable def eX.f  : Option ((List (S28))) := some (([(⟨(⟨#[1, 97, 0]⟩ : ByteArray), 2, 1, 0, (⟨#[1, 110, 1, 97, 0]⟩ : ByteArray)⟩ : S28), (⟨(⟨#[1, 97, 0]⟩ : ByteArray), 6, 1, 0, (⟨#[1, 110, 1, 97, 0, 0, 0, 0, 0, 1, 0, 0, 0, 2, 0, 0, 0, 3, 0, 0, 0, 4, 0, 0, 0, 5]⟩ : ByteArray)⟩ : S28)] : List (S28)))
theorem eX.calls  (r : List (S28)) (w : World) (h : eX.f  = some r) :
  Calls Tryz.prog 46 #[] w fun e w' => ∃ v0_ : Value, e = .returned (v0_) ∧ Kd.R k28 28 w' w.heap.size (fun _ => True) v0_ r ∧ Below w.heap.size w w' := by
 have hu28 := Tryz.underlying28
 have HB := aj.mk (Below.refl w.heap.size w)
 have H : (some (([(⟨(⟨#[1, 97, 0]⟩ : ByteArray), 2, 1, 0, (⟨#[1, 110, 1, 97, 0]⟩ : ByteArray)⟩ : S28), (⟨(⟨#[1, 97, 0]⟩ : ByteArray), 6, 1, 0, (⟨#[1, 110, 1, 97, 0, 0, 0, 0, 0, 1, 0, 0, 0, 2, 0, 0, 0, 3, 0, 0, 0, 4, 0, 0, 0, 5]⟩ : ByteArray)⟩ : S28)] : List (S28)))) = some r := h
 clear h
 obtain ⟨y101, hy101⟩ : ∃ y_ : List (S28), y_ = (([(⟨(⟨#[1, 97, 0]⟩ : ByteArray), 2, 1, 0, (⟨#[1, 110, 1, 97, 0]⟩ : ByteArray)⟩ : S28), (⟨(⟨#[1, 97, 0]⟩ : ByteArray), 6, 1, 0, (⟨#[1, 110, 1, 97, 0, 0, 0, 0, 0, 1, 0, 0, 0, 2, 0, 0, 0, 3, 0, 0, 0, 4, 0, 0, 0, 5]⟩ : ByteArray)⟩ : S28)] : List (S28))) := ⟨_, rfl⟩
 replace H : (some y101) = some r := by (rw [hy101]; with_reducible exact H)
 have Ny101 := aj.mk hy101
 clear hy101
 obtain rfl := Option.some.inj H
 go_enter Tryz.func46, Tryz.ntmps46
 go_wp2_with ((((with_reducible refine bU (N := 3) rfl ?_); refine Kd.kE k28 _ 28 ?hg (N := 3) ?hd (xs := ([(⟨(⟨#[1, 97, 0]⟩ : ByteArray), 2, 1, 0, (⟨#[1, 110, 1, 97, 0]⟩ : ByteArray)⟩ : S28), (⟨(⟨#[1, 97, 0]⟩ : ByteArray), 6, 1, 0, (⟨#[1, 110, 1, 97, 0, 0, 0, 0, 0, 1, 0, 0, 0, 2, 0, 0, 0, 3, 0, 0, 0, 4, 0, 0, 0, 5]⟩ : ByteArray)⟩ : S28)] : List (S28))) (inner := [.string (⟨#[1, 97, 0]⟩ : ByteArray), .int .i64 2, .int .i64 1, .int .i64 0, .string (⟨#[1, 110, 1, 97, 0]⟩ : ByteArray), .string (⟨#[1, 97, 0]⟩ : ByteArray), .int .i64 6, .int .i64 1, .int .i64 0, .string (⟨#[1, 110, 1, 97, 0, 0, 0, 0, 0, 1, 0, 0, 0, 2, 0, 0, 0, 3, 0, 0, 0, 4, 0, 0, 0, 5]⟩ : ByteArray)]) (ok := fun _ => True) (okp := fun _ => True) ?hr ?hp (fun _ hk => hk) trivial (Below.refl _ _) (Nat.le_refl _) (by simp) ?_; (case hd => rfl); (case hg => rfl); (case hr => (go_simp; done)); (case hp => exact (bF.c5 (show Kd.M k28 _ _ _ (⟨(⟨#[1, 97, 0]⟩ : ByteArray), 2, 1, 0, (⟨#[1, 110, 1, 97, 0]⟩ : ByteArray)⟩ : S28) [.string (⟨#[1, 97, 0]⟩ : ByteArray), .int .i64 2, .int .i64 1, .int .i64 0, .string (⟨#[1, 110, 1, 97, 0]⟩ : ByteArray)] from (lQ _ _ _ (⟨(⟨#[1, 97, 0]⟩ : ByteArray), 2, 1, 0, (⟨#[1, 110, 1, 97, 0]⟩ : ByteArray)⟩ : S28) )) (bF.c5 (show Kd.M k28 _ _ _ (⟨(⟨#[1, 97, 0]⟩ : ByteArray), 6, 1, 0, (⟨#[1, 110, 1, 97, 0, 0, 0, 0, 0, 1, 0, 0, 0, 2, 0, 0, 0, 3, 0, 0, 0, 4, 0, 0, 0, 5]⟩ : ByteArray)⟩ : S28) [.string (⟨#[1, 97, 0]⟩ : ByteArray), .int .i64 6, .int .i64 1, .int .i64 0, .string (⟨#[1, 110, 1, 97, 0, 0, 0, 0, 0, 1, 0, 0, 0, 2, 0, 0, 0, 3, 0, 0, 0, 4, 0, 0, 0, 5]⟩ : ByteArray)] from (lQ _ _ _ (⟨(⟨#[1, 97, 0]⟩ : ByteArray), 6, 1, 0, (⟨#[1, 110, 1, 97, 0, 0, 0, 0, 0, 1, 0, 0, 0, 2, 0, 0, 0, 3, 0, 0, 0, 4, 0, 0, 0, 5]⟩ : ByteArray)⟩ : S28) )) (bF.none _ _)))); intro v102 w1 ho2 hb hg_ hnew_; clear hg_ hnew_; ((rw [← Ny101.out] at ho2)); have HO103 := aj.mk (Kd.bS ho2 (ay HB.out)); replace HB := aj.mk (au HB.out hb); clear hb ho2)))
 go_ret
 exact ⟨_, by rfl, by (with_reducible repeat ((apply Kd.aN))); exact HO103.out, HB.out⟩
noncomputable def dN.f (k : Nat)  : Option (Bool) := (eX.f).bind fun t104 => ((bL.f k (⟨#[1, 97, 0]⟩ : ByteArray) t104).bind fun bt107 => (if bt107.2.2.2 = 0 then ((iP.f bt107.1 bt107.2.1 bt107.2.2.1).bind fun t114 => (if (t114.length : Int) = 2 then ((bK.f k bt107.1 bt107.2.1 bt107.2.2.1 (([(⟨(⟨#[1, 98, 1, 97, 0]⟩ : ByteArray), 255, 1, 0, (⟨#[]⟩ : ByteArray)⟩ : S28)] : List (S28)))).bind fun t120 => (some (t120 == 1))) else (none))) else (none)))
theorem dN.calls (k : Nat)  (r : Bool) (w : World) (h : dN.f k  = some r) :
  Calls Tryz.prog 18 #[] w fun e w' => e = .returned (.bool r) ∧ Below w.heap.size w w' := by
 have hu31 := Tryz.underlying31
 have hu28 := Tryz.underlying28
 have HB := aj.mk (Below.refl w.heap.size w)
 have H : ((eX.f).bind fun t104 => ((bL.f k (⟨#[1, 97, 0]⟩ : ByteArray) t104).bind fun bt107 => (if bt107.2.2.2 = 0 then ((iP.f bt107.1 bt107.2.1 bt107.2.2.1).bind fun t114 => (if (t114.length : Int) = 2 then ((bK.f k bt107.1 bt107.2.1 bt107.2.2.1 (([(⟨(⟨#[1, 98, 1, 97, 0]⟩ : ByteArray), 255, 1, 0, (⟨#[]⟩ : ByteArray)⟩ : S28)] : List (S28)))).bind fun t120 => (some (t120 == 1))) else (none))) else (none)))) = some r := h
 clear h
 obtain ⟨t104, A1, H⟩ := cu H
 replace H := Option.bind_eq_some_iff.mp H
 obtain ⟨⟨t107, t108, t111, t112⟩, A20, H⟩ := H
 replace H : (if t112 = 0 then ((iP.f t107 t108 t111).bind fun t114 => (if (t114.length : Int) = 2 then ((bK.f k t107 t108 t111 (([(⟨(⟨#[1, 98, 1, 97, 0]⟩ : ByteArray), 255, 1, 0, (⟨#[]⟩ : ByteArray)⟩ : S28)] : List (S28)))).bind fun t120 => (some (t120 == 1))) else (none))) else (none)) = some r := H
 have A2 := aj.mk A20
 clear A20
 obtain ⟨c3, H⟩ := gd_ H
 have c3b0 : (t112 == 0) = true := beq_iff_eq.mpr c3
 have c3b1 : (t112 != 0) = false := bne_eq_false_iff_eq.mpr c3
 clear c3
 obtain ⟨t114, A4, H⟩ := cu H
 obtain ⟨c5, H⟩ := gd_ H
 have c5b0 : ((t114.length : Int) == 2) = true := beq_iff_eq.mpr c5
 have c5b1 : ((t114.length : Int) != 2) = false := bne_eq_false_iff_eq.mpr c5
 clear c5
 obtain ⟨y117, hy117⟩ : ∃ y_ : List (S28), y_ = (([(⟨(⟨#[1, 98, 1, 97, 0]⟩ : ByteArray), 255, 1, 0, (⟨#[]⟩ : ByteArray)⟩ : S28)] : List (S28))) := ⟨_, rfl⟩
 replace H : ((bK.f k t107 t108 t111 y117).bind fun t120 => (some (t120 == 1))) = some r := by (rw [hy117]; with_reducible exact H)
 have Ny117 := aj.mk hy117
 clear hy117
 obtain ⟨t120, A6, H⟩ := cu H
 obtain rfl := Option.some.inj H
 go_enter Tryz.func18, Tryz.ntmps18
 go_wp2_with (first | ((with_reducible refine eG (f := 46) rfl ?_); refine iK (some 4) rfl rfl Tryz.func46 (by kernel_rfl) rfl #[] rfl (by (try simp only [List.map_toArray, List.map_cons, List.map_nil]); done) ?_; (with_reducible refine (eX.calls  t104 _ A1.out).mono ?_); rintro e w7 ⟨v105, rfl, ho0, hb⟩; refine ⟨_, rfl, ?_⟩; have HO106 := aj.mk (Kd.bS ho0 (ay HB.out)); replace HB := aj.mk (au HB.out hb); (try clear hb); (try clear ho0); obtain ⟨Ao8, co8, eo8⟩ := Kd.cO HO106.out; subst eo8) | (refine gl_ (some 5) Tryz.func21 #[.string (⟨#[1, 97, 0]⟩ : ByteArray), .slice Ao8 t104.length co8] ?_; (with_reducible refine (bL.calls k (⟨#[1, 97, 0]⟩ : ByteArray) _ _ t104 t107 t108 t111 t112 _ ?side1 ?side2 A2.out).mono ?_); (case side1 => exact (Kd.aX HO106.out).2.2); (case side2 => exact (Kd.aX HO106.out).2.1); rintro e w9 ⟨v109, rfl, ho0, hb⟩; refine ⟨_, rfl, ?_⟩; have HO110 := aj.mk (Kd.bS (Kd.iU ho0 (Kd.jS (by ((exact HO106.out))))) (ay HB.out)); replace HO106 := aj.mk (Kd.gK (by ((exact HO106.out))) (Kd.iV ho0) hb); replace HB := aj.mk (au HB.out hb); (try clear hb); (try clear ho0)) | ((((refine be_ (N := 1) (cs := #[.string (⟨#[]⟩ : ByteArray), .slice none 0 0, .int .i64 0]) (t := 31) ?_))); intro gb113 hg w10 hbox hb; have BK113 := aj.mk (hbox); have GW113 := aj.mk (ge_ hg (ay HB.out)); have GE113 := aj.mk (ge_ hg (ay HB.out)); replace HO106 := aj.mk (Kd.bD (by ((exact HO106.out))) hb); replace HO110 := aj.mk (Kd.bD (by ((exact HO110.out))) hb); replace HB := aj.mk (au HB.out hb); clear hb hbox hg; obtain ⟨hcz11_0, hcz11_1, hcz11_2, hfz11_0, hfz11_1, hfz11_2⟩ := z3_ BK113.out; obtain ⟨Ao12, co12, eo12⟩ := Kd.cO HO110.out; subst eo12) | (go_at_call 30; (with_reducible refine (iP.calls t107 _ _ t108 t111 t114 _ ?side1 ?side2 A4.out).mono ?_); (case side1 => refine (Kd.aX (e := 28) (base := w.heap.size) (ok := fun k_ => (True ∧ some k_ ≠ (.slice Ao8 t104.length co8 : Value).ownBlock)) (n := t108.length) (c := co12) ?_).2.2; exact (by (with_reducible repeat ((apply Kd.aN))); exact (Kd.dn (Kd.gP (p := ⟨gb113, 2, none⟩) (Kd.gP (p := ⟨gb113, 1, none⟩) (Kd.gP (p := ⟨gb113, 0, none⟩) (Kd.kJ HO110.out BK113.out (by decide)) (fun _ hk => hk.2) (.string t107)) (fun _ hk => hk.2) (.slice Ao12 t108.length co12)) (fun _ hk => hk.2) (.int .i64 t111)) (fun _ h_ => h_.1)))); (case side2 => exact (Kd.aX HO110.out).2.1); rintro e w13 ⟨v115, rfl, ho0, hb⟩; have HO116 := aj.mk (Kd.bS (Kd.iU (Kd.iU ho0 (Kd.jS (by (with_reducible repeat ((apply Kd.aN))); exact (Kd.dn (Kd.gP (p := ⟨gb113, 2, none⟩) (Kd.gP (p := ⟨gb113, 1, none⟩) (Kd.gP (p := ⟨gb113, 0, none⟩) (Kd.kJ HO106.out BK113.out (by decide)) (fun _ hk => hk.2) (.string t107)) (fun _ hk => hk.2) (.slice Ao12 t108.length co12)) (fun _ hk => hk.2) (.int .i64 t111)) (fun _ h_ => h_.1))))) (Kd.jS (by (with_reducible repeat ((apply Kd.aN))); exact (Kd.dn (Kd.gP (p := ⟨gb113, 2, none⟩) (Kd.gP (p := ⟨gb113, 1, none⟩) (Kd.gP (p := ⟨gb113, 0, none⟩) (Kd.kJ HO110.out BK113.out (by decide)) (fun _ hk => hk.2) (.string t107)) (fun _ hk => hk.2) (.slice Ao12 t108.length co12)) (fun _ hk => hk.2) (.int .i64 t111)) (fun _ h_ => h_.1))))) (ay (by repeat ((with_reducible first | exact HB.out | refine dG ?_ GE113.out))))); replace HO106 := aj.mk (Kd.gK (by (with_reducible repeat ((apply Kd.aN))); exact (Kd.dn (Kd.gP (p := ⟨gb113, 2, none⟩) (Kd.gP (p := ⟨gb113, 1, none⟩) (Kd.gP (p := ⟨gb113, 0, none⟩) (Kd.kJ HO106.out BK113.out (by decide)) (fun _ hk => hk.2) (.string t107)) (fun _ hk => hk.2) (.slice Ao12 t108.length co12)) (fun _ hk => hk.2) (.int .i64 t111)) (fun _ h_ => h_.1))) (Kd.iV ho0) hb); replace HO110 := aj.mk (Kd.gK (by (with_reducible repeat ((apply Kd.aN))); exact (Kd.dn (Kd.gP (p := ⟨gb113, 2, none⟩) (Kd.gP (p := ⟨gb113, 1, none⟩) (Kd.gP (p := ⟨gb113, 0, none⟩) (Kd.kJ HO110.out BK113.out (by decide)) (fun _ hk => hk.2) (.string t107)) (fun _ hk => hk.2) (.slice Ao12 t108.length co12)) (fun _ hk => hk.2) (.int .i64 t111)) (fun _ h_ => h_.1))) (Kd.iV ho0) hb); replace BK113 := aj.mk (aI (g := gb113) (o := .cells #[.string t107, .slice Ao12 t108.length co12, .int .i64 t111] 31 (0, 0)) (by (with_reducible repeat ((refine aA ?_ _))); refine bM (cs := #[.string t107, .slice Ao12 t108.length co12, .int .i64 0]) ?_ 2 _ rfl; (with_reducible repeat ((refine aA ?_ _))); refine bM (cs := #[.string t107, .slice none 0 0, .int .i64 0]) ?_ 1 _ rfl; (with_reducible repeat ((refine aA ?_ _))); refine bM (cs := #[.string (⟨#[]⟩ : ByteArray), .slice none 0 0, .int .i64 0]) ?_ 0 _ rfl; (with_reducible repeat ((refine aA ?_ _))); exact BK113.out) hb); replace HB := aj.mk (au (by repeat ((with_reducible first | exact HB.out | refine dG ?_ GE113.out))) hb); (try clear hb); (try clear ho0); obtain ⟨Ao14, co14, eo14⟩ := Kd.cO HO116.out; subst eo14; obtain ⟨hcz15_0, hcz15_1, hcz15_2, hfz15_0, hfz15_1, hfz15_2⟩ := z3_ BK113.out) | ((with_reducible refine bU (N := 19) rfl ?_); (try (refine dZ (by rfl) ?_; dsimp only)); refine Kd.kE k28 _ 28 ?hg (N := 19) ?hd (xs := ([(⟨(⟨#[1, 98, 1, 97, 0]⟩ : ByteArray), 255, 1, 0, (⟨#[]⟩ : ByteArray)⟩ : S28)] : List (S28))) (inner := [.string (⟨#[1, 98, 1, 97, 0]⟩ : ByteArray), .int .i64 255, .int .i64 1, .int .i64 0, .string (⟨#[]⟩ : ByteArray)]) (ok := fun _ => True) (okp := fun _ => True) ?hr ?hp (fun _ hk => hk) trivial (Below.refl _ _) (Nat.le_refl _) (by simp) ?_; (case hd => rfl); (case hg => rfl); (case hr => (go_simp; done)); (case hp => exact (bF.c5 (show Kd.M k28 _ _ _ (⟨(⟨#[1, 98, 1, 97, 0]⟩ : ByteArray), 255, 1, 0, (⟨#[]⟩ : ByteArray)⟩ : S28) [.string (⟨#[1, 98, 1, 97, 0]⟩ : ByteArray), .int .i64 255, .int .i64 1, .int .i64 0, .string (⟨#[]⟩ : ByteArray)] from (lQ _ _ _ (⟨(⟨#[1, 98, 1, 97, 0]⟩ : ByteArray), 255, 1, 0, (⟨#[]⟩ : ByteArray)⟩ : S28) )) (bF.none _ _))); intro v118 w16 ho17 hb hg_ hnew_; clear hg_ hnew_; ((rw [← Ny117.out] at ho17)); have HO119 := aj.mk (Kd.bS (Kd.iU (Kd.iU (Kd.iU ho17 (Kd.jS (by ((exact HO106.out))))) (Kd.jS (by ((exact HO110.out))))) (Kd.jS (by ((exact HO116.out))))) (ay HB.out)); replace HO106 := aj.mk (Kd.gK (by ((exact HO106.out))) (Kd.iV ho17) hb); replace HO110 := aj.mk (Kd.gK (by ((exact HO110.out))) (Kd.iV ho17) hb); replace HO116 := aj.mk (Kd.gK (by ((exact HO116.out))) (Kd.iV ho17) hb); replace BK113 := aj.mk (aI (by ((exact BK113.out))) hb); replace HB := aj.mk (au HB.out hb); clear hb ho17; obtain ⟨Ao18, co18, eo18⟩ := Kd.cO HO119.out; subst eo18) | (go_at_call 23; (with_reducible refine (bK.calls k t107 _ _ t108 t111 _ _ y117 t120 _ ?side1 ?side2 ?side3 ?side4 A6.out).mono ?_); (case side1 => exact (Kd.aX HO110.out).2.2); (case side2 => exact (Kd.aX HO110.out).2.1); (case side3 => exact (Kd.aX HO119.out).2.2); (case side4 => exact (Kd.aX HO119.out).2.1); rintro e w19 ⟨rfl, hb⟩; replace HO106 := aj.mk (Kd.bD (by ((exact HO106.out))) hb); replace HO110 := aj.mk (Kd.bD (by ((exact HO110.out))) hb); replace HO116 := aj.mk (Kd.bD (by ((exact HO116.out))) hb); replace HO119 := aj.mk (Kd.bD (by ((exact HO119.out))) hb); replace BK113 := aj.mk (aI (by ((exact BK113.out))) hb); replace HB := aj.mk (au HB.out hb); (try clear hb)))
 go_ret
 exact ⟨by rfl, HB.out⟩
end Go.Y.PPs
