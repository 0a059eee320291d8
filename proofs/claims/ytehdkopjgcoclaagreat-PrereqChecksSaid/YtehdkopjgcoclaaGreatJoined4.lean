/- Contracts and facts that the claim's row is drawn from, each with its own conditions. -/
import Derived.Test.YtehdkopjgcoclaaGreatJoined3
set_option linter.unusedSimpArgs false
set_option linter.unusedVariables false
set_option maxHeartbeats 8000000
set_option maxRecDepth 100000
open Go.Proofs Go.RowKit Go.V.aA Go.V.aN Go.V.aT
namespace Go.Y.Rrs
open Go.Y.Given Go.Y.PRd Go.Y.PRr Go.Y.fD
theorem IW {w0 : World} {base g c : Nat} {rest : List Value} (p l s : List RR) (y : RR) (hl0 : 1 < l.length) (hs : Sorted bg l) (hfy : fine y) (hf : ∀ x ∈ l, fine x) {N a m b : Nat} (hn : N ≤ 1000000) (hN : (p ++ (l ++ ([y] ++ s))).length = N) (ha : p.length = a) (hm : a + l.length = m) (hb : m + 1 = b) (w : World) (HO : Own w0 base g c rest w (p ++ (l ++ ([y] ++ s)))) :
  Calls Tryz.prog 139 #[.slice (some ⟨g, 0, none⟩) N c, .int .i64 (a : Int), .int .i64 (m : Int), .int .i64 (b : Int), oJ] w fun e w' => e = .returned (.tuple #[]) ∧ ∃ mm, dV bg (l ++ [y]) mm ∧ mm.length = l.length + 1 ∧ Own w0 base g c rest w' (p ++ (mm ++ s)) := by
 have hu22 := Tryz.underlying22
 have hu41 := Tryz.underlying44
 have hl : (p ++ (l ++ ([y] ++ s))).length = p.length + l.length + 1 + s.length := by simp; omega
 rw [hN] at hl
 obtain ⟨A, hA⟩ : ∃ A, l.length = A := ⟨_, rfl⟩
 have HR := Lib.hid HO
 have HF := Lib.hid hf
 have HM := Lib.hid (EJ gN zR y hs)
 have HFY := Lib.hid hfy
 have HS := Lib.hid hs
 have HL := Lib.hid hA
 have HA := Lib.hid ha
 have h1 : b ≤ m + 1 ∧ m + 1 ≤ b ∧ b ≤ N ∧ 1 < A := by omega
 have h2 : m ≤ a + A ∧ a + A ≤ m := by omega
 have e1 : IntKind.i64.wrap ((m : Int) - (a : Int)) = (A : Int) := jd (by omega) (by omega)
 have e2 : IntKind.i64.wrap ((b : Int) - (m : Int)) = 1 := jd (n := 1) (by omega) (by omega)
 have e3 : ((A : Int) == 1) = false := beq_false_of_ne (by omega)
 have hcy : (p ++ (l ++ ([y] ++ s)))[m]? = some y := by
  have := fD.get_at (p ++ l) s y
  rw [List.length_append, ha, hA, show a + A = m by omega] at this
  simpa using this
 have HCY := Lib.hid hcy
 have hrd : ∀ t h, t < A → a + t = h → (p ++ (l ++ ([y] ++ s)))[h]? = some (l.getD t zR) := fun t h ht e => tH zR p l ([y] ++ s) (t := t) (by omega) (i := h) (by omega)
 have HRD := Lib.hid hrd
 clear HO hf hfy hs hN hl ha hm hb hcy hrd hA hl0
 go_enter Tryz.func139, Tryz.ntmps139
 go_wp2_with fail
 go_loopg [14, 15] A (fun kx si sj wr => ∃ (i j u v : Nat), si = .int .i64 (i : Int) ∧ sj = .int .i64 (j : Int) ∧ i ≤ a + u ∧ a + u ≤ i ∧ j ≤ a + v ∧ a + v ≤ j ∧ u ≤ v ∧ v ≤ A ∧ v - u ≤ kx ∧ Hid (Cut (fun t => 0 ≤ bg y (l.getD t zR)) 0 l.length u v) ∧ Hid (Own w0 base g c rest wr (p ++ (l ++ ([y] ++ s)))))
 case atStart => exact ⟨a, m, 0, A, rfl, rfl, by omega, by omega, by omega, by omega, by omega, by omega, by omega, Lib.hid (by rw [← HL.out]; exact Cut.start (Nat.zero_le _)), HR⟩
 case round =>
  clear HR
  obtain ⟨i, j, u, v, rfl, rfl, i1, i2, j1, j2, huv, hv, hk, HC, HR⟩ := hrel
  by_cases hlt : u < v
  ·obtain ⟨k, h, k1, k2, k3, k4, k5, k6, k7⟩ := yS i j (by omega)
   have hltz : (i : Int) < (j : Int) := by omega
   obtain ⟨q, hq⟩ : ∃ q, h - a = q := ⟨_, rfl⟩
   have q1 : a + q = h := by omega
   have q2 : u ≤ q ∧ q < v := by omega
   obtain ⟨x, hx⟩ : ∃ x, l.getD q zR = x := ⟨_, rfl⟩
   have hcx := HRD.out q h (by omega) q1
   rw [hx] at hcx
   have hfx : fine x := by rw [← hx, lG l zR (by rw [HL.out]; omega)]; exact HF.out _ (List.getElem_mem _)
   obtain ⟨y0, y1, y2, y3, y4, y5, y6, y7, y8, y9⟩ := HR.out.at5 HCY.out
   obtain ⟨x0, x1, x2, x3, x4, x5, x6, x7, x8, x9⟩ := HR.out.at5 hcx
   have HX := Lib.hid hx
   have HQ := Lib.hid q1
   have p0 : (0 : Int) ≤ (h : Int) := by omega
   have p1 : (h : Int) < (N : Int) := by omega
   have p2 : (0 : Int) ≤ (m : Int) := by omega
   have p3 : (m : Int) < (N : Int) := by omega
   clear hq q1 hx hcx
   go_wp2_with fail
   go_still_tail 9, (by kernel_rfl)
   change wpList _ _ _ _ _ wr.drew
   clear x0 x1 x2 x3 x4 x5 x6 x7 x8 x9 y0 y1 y2 y3 y4 y5 y6 y7 y8 y9
   have HR1 := Lib.hid HR.out.drew
   have hcall := rA HFY.out hfx wr.drew
   clear HR hfx
   generalize wr.drew = wd at HR1 hcall
   have HCALL := Lib.hid hcall
   clear hcall
   go_wp2_with fail
   refine (HCALL.out).mono ?_
   rintro en w4 ⟨rfl, hb4⟩
   have HR := Lib.hid (HR1.out.below hb4)
   clear hb4 HR1 HCALL
   obtain ⟨o, ho⟩ : ∃ o, bg y x = o := ⟨_, rfl⟩
   rw [ho]
   have HO := Lib.hid ho
   clear ho
   by_cases hlv : o < 0
   ·have HC2 := Lib.hid (HC.out.no (HM.out) q2.1 q2.2 (by rw [HX.out, HO.out]; omega))
    go_wp2_with fail
    go_roundg (q - u)
    case measure => omega
    case rel => exact ⟨i, h, u, q, rfl, rfl, i1, i2, by have := HQ.out; omega, by have := HQ.out; omega, q2.1, by omega, Nat.le_refl _, HC2, HR⟩
   ·obtain ⟨h1', hh1⟩ : ∃ h1', h + 1 = h1' := ⟨_, rfl⟩
    rw [hh1] at k5
    have hh2 : h + 1 ≤ h1' ∧ h1' ≤ h + 1 := by omega
    have HC2 := Lib.hid (HC.out.yes (HM.out) q2.1 q2.2 (by rw [HX.out, HO.out]; omega))
    have hlv' : decide (o < 0) = false := decide_eq_false hlv
    clear hh1
    go_wp2_with fail
    go_roundg (v - (q + 1))
    case measure => omega
    case rel => exact ⟨h1', j, q + 1, v, rfl, rfl, by have := HQ.out; omega, by have := HQ.out; omega, j1, j2, by omega, hv, Nat.le_refl _, HC2, HR⟩
  ·have hltz : ¬ (i : Int) < (j : Int) := by omega
   obtain rfl : u = v := by omega
   have HD := Lib.hid (El gN zR y HS.out (i := u) HC.out)
   obtain ⟨p1, hp1⟩ : ∃ p1, p ++ l.take u = p1 := ⟨_, rfl⟩
   obtain ⟨v1, hv1⟩ : ∃ v1, l.drop u = v1 := ⟨_, rfl⟩
   have hul : u ≤ l.length := by rw [HL.out]; exact hv
   have hvl : v1.length = A - u := by rw [← hv1, List.length_drop, HL.out]
   have HPL : Hid (p1.length = a + u) := Lib.hid (by rw [← hp1, List.length_append, List.length_take, HA.out]; omega)
   have hcur : p ++ (l ++ ([y] ++ s)) = p1 ++ (v1.take (A - u) ++ y :: (v1.drop (A - u) ++ s)) := by
    rw [List.take_of_length_le (by omega), List.drop_of_length_le (by omega), ← hp1, ← hv1, List.nil_append, List.append_assoc, ← List.append_assoc (l.take u), List.take_append_drop]; rfl
   rw [hcur] at HR
   have HFIN : Hid (p ++ ((l.take u ++ y :: v1) ++ s) = p1 ++ (y :: (v1 ++ s))) := Lib.hid (by rw [← hp1]; simp)
   rw [hv1] at HD
   have HVL := Lib.hid hvl
   have HLL : Hid ((l.take u).length + v1.length = l.length) := Lib.hid (by rw [hvl, List.length_take, HL.out]; omega)
   have hAu : a + u + (A - u) ≤ m ∧ m ≤ a + u + (A - u) := by omega
   obtain ⟨B, hB⟩ : ∃ B, A - u = B := ⟨_, rfl⟩
   rw [hB] at HR hAu HVL
   clear HC hcur hp1 hv1 hvl hul HM HF HRD HCY HS hB HA
   go_wp2_with fail
   go_loopg [17] B (fun kx sk wr => ∃ (k q : Nat), sk = .int .i64 (k : Int) ∧ k ≤ a + u + q ∧ a + u + q ≤ k ∧ q ≤ B ∧ q ≤ kx ∧ Hid (Own w0 base g c rest wr (p1 ++ (v1.take q ++ y :: (v1.drop q ++ s)))))
   case atStart => exact ⟨m, B, rfl, by omega, by omega, by omega, by omega, HR⟩
   case round =>
    clear HR
    obtain ⟨k, q, rfl, k1, k2, hq, hkq, HR⟩ := hrel
    by_cases hlt : 0 < q
    ·obtain ⟨q, rfl⟩ : ∃ q', q = q' + 1 := ⟨q - 1, by omega⟩
     obtain ⟨k', rfl⟩ : ∃ k', k = k' + 1 := ⟨k - 1, by omega⟩
     obtain ⟨x, hx, hy, hs⟩ := BM p1 v1 s y (k := k') (q := q) (by rw [HVL.out]; exact hq) (by rw [HPL.out]; omega)
     obtain ⟨k, hk'⟩ : ∃ k, k' + 1 = k := ⟨_, rfl⟩
     have ek : IntKind.i64.wrap ((k : Int) - 1) = (k' : Int) := jd (by omega) (by omega)
     obtain ⟨cur, hc⟩ : ∃ cur, p1 ++ (v1.take (q + 1) ++ y :: (v1.drop (q + 1) ++ s)) = cur := ⟨_, rfl⟩
     rw [hk'] at hy hs k1 k2 ⊢
     rw [hc] at hx hy hs HR
     have HS2 := Lib.hid (HR.out.swap hy hx).drew
     rw [hs] at HS2
     obtain ⟨D2, hy2⟩ := HR.out.next x (List.getElem?_eq_some_iff.1 hy).1 hx (show k ≠ k' by omega)
     obtain ⟨x0, x1, x2, x3, x4, x5, x6, x7, x8, x9⟩ := HR.out.at5 hx
     obtain ⟨y0, y1, y2, y3, y4, y5, y6, y7, y8, y9⟩ := HR.out.at5 hy
     obtain ⟨z0, z1, z2, z3, z4, z5, z6, z7, z8, z9⟩ := D2.at5 hy2
     have hltz : (i : Int) < (k : Int) := by omega
     have p0 : (0 : Int) ≤ (k : Int) := by omega
     have p1 : (k : Int) < (N : Int) := by omega
     have p2 : (0 : Int) ≤ (k' : Int) := by omega
     have p3 : (k' : Int) < (N : Int) := by omega
     have k3 : k' ≤ a + u + q ∧ a + u + q ≤ k' := by omega
     clear HR D2 hy2 hx hy hs hc hk'
     go_wp2_with fail
     go_big_region
     all_goals go_wp2
     go_roundg q
     case measure => omega
     case rel => exact ⟨k', q, rfl, k3.1, k3.2, by omega, Nat.le_refl _, HS2⟩
    ·have hltz : ¬ (i : Int) < (k : Int) := by omega
     obtain rfl : q = 0 := by omega
     have hr := HR.out
     rw [List.take_zero, List.drop_zero, List.nil_append, ← HFIN.out] at hr
     have HR2 := Lib.hid hr
     clear hr HR
     go_wp2_with fail
     refine bodyPost_ret (results_none rfl _ _ _) rfl ?_
     exact ⟨rfl, _, HD.out, by have := HLL.out; simp at this ⊢; omega, HR2.out⟩
end Go.Y.Rrs
namespace Go.Y.Rrs
open Go.Y.Given Go.Y.PRd Go.Y.PRr Go.Y.fD
theorem HZ {w0 : World} {base g c : Nat} {rest : List Value} (l : List RR) (hn : l.length ≤ 1000000) (a b n : Nat) (h1 : a + n ≤ b) (h2 : b + n ≤ l.length) (w : World) (HO : Own w0 base g c rest w l) :
  Calls Tryz.prog 163 #[.slice (some ⟨g, 0, none⟩) l.length c, .int .i64 (a : Int), .int .i64 (b : Int), .int .i64 (n : Int), oJ] w fun e w' => e = .returned (.tuple #[]) ∧ Own w0 base g c rest w' (swR l a b n) := by
 have hu22 := Tryz.underlying22
 have hu41 := Tryz.underlying44
 have HR := Lib.hid HO
 obtain ⟨N, hN⟩ : ∃ N, l.length = N := ⟨_, rfl⟩
 have HN := Lib.hid hN
 rw [hN] at hn h2 ⊢
 clear HO hN
 go_enter Tryz.func163, Tryz.ntmps163
 go_wp2_with fail
 go_loopg [10] n (fun kx s wr => ∃ i : Nat, s = .int .i64 (i : Int) ∧ i ≤ n ∧ n - i ≤ kx ∧ Hid (Own w0 base g c rest wr (swR l a b i)))
 case atStart => exact ⟨0, rfl, by omega, by omega, HR⟩
 case round =>
  clear HR
  obtain ⟨i, rfl, hi, hk, HR⟩ := hrel
  by_cases hlt : i < n
  ·obtain ⟨cur, hc⟩ : ∃ cur, swR l a b i = cur := ⟨_, rfl⟩
   rw [hc] at HR
   have hl : cur.length = N := by rw [← hc, kQ, HN.out]
   obtain ⟨x, hx⟩ := qG (show a + i < cur.length by omega)
   obtain ⟨y, hy⟩ := qG (show b + i < cur.length by omega)
   have eA : IntKind.i64.wrap ((a : Int) + (i : Int)) = ((a + i : Nat) : Int) := jd (by omega) (by omega)
   have eB : IntKind.i64.wrap ((b : Int) + (i : Int)) = ((b + i : Nat) : Int) := jd (by omega) (by omega)
   obtain ⟨p, hp⟩ : ∃ p, a + i = p := ⟨_, rfl⟩
   obtain ⟨q, hq⟩ : ∃ q, b + i = q := ⟨_, rfl⟩
   rw [hp] at eA hx
   rw [hq] at eB hy
   have hs : (cur.set p y).set q x = swR l a b (i + 1) := by rw [swR, hp, hq, hc]; unfold sw; rw [hx, hy]
   have HS := Lib.hid (HR.out.swap hx hy).drew
   rw [hs] at HS
   obtain ⟨D2, hy2⟩ := HR.out.next y (by omega) hy (show p ≠ q by omega)
   obtain ⟨x0, x1, x2, x3, x4, x5, x6, x7, x8, x9⟩ := HR.out.at5 hx
   obtain ⟨y0, y1, y2, y3, y4, y5, y6, y7, y8, y9⟩ := HR.out.at5 hy
   obtain ⟨z0, z1, z2, z3, z4, z5, z6, z7, z8, z9⟩ := D2.at5 hy2
   clear HR hc hx hy D2 hy2 hs
   have p1 : (p : Int) < (N : Int) := by omega
   have q1 : (q : Int) < (N : Int) := by omega
   have hltz : (i : Int) < (n : Int) := by omega
   have p0 : (0 : Int) ≤ (p : Int) := by omega
   have q0 : (0 : Int) ≤ (q : Int) := by omega
   go_wp2_with fail
   go_big_region
   all_goals go_wp2
   go_roundg (n - (i + 1))
   case measure => omega
   case rel => exact ⟨i + 1, by first | rfl | go_num, by omega, Nat.le_refl _, HS⟩
  ·go_wp2_with fail
   go_end0
   obtain rfl : i = n := by omega
   exact ⟨rfl, HR.out⟩
end Go.Y.Rrs
namespace Go.Y.Rrs
open Go.Y.Given Go.Y.PRd Go.Y.PRr Go.Y.fD
theorem Gu {w0 : World} {base g c : Nat} {rest : List Value} (p u v s : List RR) (hu : 0 < u.length) (hv : 0 < v.length) (hn : (p ++ (u ++ (v ++ s))).length ≤ 1000000) {N a m b : Nat} (hN : (p ++ (u ++ (v ++ s))).length = N) (ha : p.length = a) (hm : p.length + u.length = m) (hb : m + v.length = b) (w : World) (HO : Own w0 base g c rest w (p ++ (u ++ (v ++ s)))) :
  Calls Tryz.prog 157 #[.slice (some ⟨g, 0, none⟩) N c, .int .i64 (a : Int), .int .i64 (m : Int), .int .i64 (b : Int), oJ] w fun e w' => e = .returned (.tuple #[]) ∧ Own w0 base g c rest w' (p ++ (v ++ (u ++ s))) := by
 have hl : (p ++ (u ++ (v ++ s))).length = p.length + u.length + v.length + s.length := by simp; omega
 have HR := Lib.hid HO
 have HF := Lib.hid (fun l' => DT (p := p) (u := u) (v := v) (s := s) (l' := l'))
 rw [hm] at HF
 obtain ⟨l, hL⟩ : ∃ l, p ++ (u ++ (v ++ s)) = l := ⟨_, rfl⟩
 rw [hN] at hl hn
 rw [hL] at HR HF hN
 have e1 : IntKind.i64.wrap ((m : Int) - (a : Int)) = (u.length : Int) := jd (by omega) (by omega)
 have e2 : IntKind.i64.wrap ((b : Int) - (m : Int)) = (v.length : Int) := jd (by omega) (by omega)
 obtain ⟨A, hA⟩ : ∃ A, u.length = A := ⟨_, rfl⟩
 obtain ⟨B, hB⟩ : ∃ B, v.length = B := ⟨_, rfl⟩
 rw [hA] at e1 HF hu hm
 rw [hB] at e2 HF hv hb
 have hmb : A ≤ m ∧ m + B ≤ N ∧ N ≤ 1000000 := by omega
 have HL := Lib.hid hN
 clear HO hL ha hA hB hN hl
 go_enter Tryz.func157, Tryz.ntmps157
 go_wp2_with fail
 go_loopg [10, 11] (A + B) (fun kx si sj wr => ∃ (i j : Nat) (cur : List RR), si = .int .i64 (i : Int) ∧ sj = .int .i64 (j : Int) ∧ 0 < i ∧ 0 < j ∧ i ≤ m ∧ m + j ≤ N ∧ i + j ≤ kx ∧ Hid (cur.length = N) ∧ Hid (∀ l', Rot cur l' m i j → Rot l l' m A B) ∧ Hid (Own w0 base g c rest wr cur))
 case atStart => exact ⟨A, B, l, rfl, rfl, hu, hv, hmb.1, hmb.2.1, Nat.le_refl _, HL, Lib.hid (fun l' h => h), HR⟩
 case round =>
  clear HR HL
  obtain ⟨i, j, cur, rfl, rfl, hi, hj, him, hjn, hk, HL, HT, HR⟩ := hrel
  have e3 : IntKind.i64.wrap ((m : Int) - (i : Int)) = ((m - i : Nat) : Int) := jd (by omega) (by omega)
  have hln : cur.length ≤ 1000000 := by rw [HL.out]; omega
  have hs := fun x y z w h1 h2 h => HZ (w0 := w0) (base := base) (g := g) (c := c) (rest := rest) cur hln x y z h1 h2 w h
  rw [HL.out] at hs
  have HS := Lib.hid hs
  clear hs hln
  by_cases h0 : i = j
  ·subst h0
   go_wp2_with fail
   refine (HS.out (m - i) m i wr (by omega) (by omega) HR.out).mono ?_
   rintro e w' ⟨rfl, hw⟩
   rw [HF.out _ (HT.out _ (GA cur m i him (by rw [HL.out]; exact hjn)))] at hw
   have HW := Lib.hid hw
   clear hw
   go_wp2_with fail
   go_end0
   exact ⟨rfl, HW.out⟩
  ·have h0z : ¬ ((i : Int) = (j : Int)) := by omega
   by_cases h1 : j < i
   ·have h1z : (j : Int) < (i : Int) := by omega
    have e4 : IntKind.i64.wrap ((i : Int) - (j : Int)) = ((i - j : Nat) : Int) := jd (by omega) (by omega)
    go_wp2_with fail
    refine (HS.out (m - i) m j wr (by omega) (by omega) HR.out).mono ?_
    rintro e w' ⟨rfl, hw⟩
    have HW := Lib.hid hw
    clear hw
    go_wp2_with fail
    go_roundg (i - j + j)
    case measure => omega
    case rel => exact ⟨i - j, j, _, rfl, rfl, by omega, hj, by omega, hjn, Nat.le_refl _, Lib.hid ((kQ _ _ _ _).trans HL.out), Lib.hid (fun l' h => HT.out _ (FT h1 him (by rw [HL.out]; exact hjn) h)), HW⟩
   ·have h1z : ¬ (j : Int) < (i : Int) := by omega
    have e4 : IntKind.i64.wrap ((j : Int) - (i : Int)) = ((j - i : Nat) : Int) := jd (by omega) (by omega)
    have e5 : IntKind.i64.wrap ((m : Int) + (j : Int)) = ((m + j : Nat) : Int) := jd (by omega) (by omega)
    have e6 : IntKind.i64.wrap (((m + j : Nat) : Int) - (i : Int)) = ((m + j - i : Nat) : Int) := jd (by omega) (by omega)
    obtain ⟨q, hq⟩ : ∃ q, m + j = q := ⟨_, rfl⟩
    rw [hq] at e5 e6
    go_wp2_with fail
    refine (HS.out (m - i) (q - i) i wr (by omega) (by omega) HR.out).mono ?_
    rintro e w' ⟨rfl, hw⟩
    have HW := Lib.hid hw
    clear hw
    go_wp2_with fail
    go_roundg (i + (j - i))
    case measure => omega
    case rel => exact ⟨i, j - i, _, rfl, rfl, hi, by omega, him, by omega, Nat.le_refl _, Lib.hid ((kQ _ _ _ _).trans HL.out), Lib.hid (fun l' h => HT.out _ (EI (by omega) him (by rw [HL.out]; exact hjn) (by rw [hq]; exact h))), HW⟩
end Go.Y.Rrs
