/- Contracts and facts that the claim's row is drawn from, each with its own conditions. -/
import Derived.Test.YtkgghkfolmmadaaGreatJoined3
set_option linter.unusedSimpArgs false
set_option linter.unusedVariables false
set_option maxHeartbeats 8000000
set_option maxRecDepth 100000
open Go.Proofs Go.RowKit
namespace Go.Y.Rrs
open Go.Proofs.ah.av Go.Proofs.ah.aT Go.Proofs.ah.aU Go.Y.Given Go.Y.PRd Go.Y.PRr Go.Y.bY
def Iw (w0 : World) (base g c : Nat) (rest : List Value) (N n : Nat) : Prop := ∀ (p l r s : List RR) (a m b : Nat), l.length + r.length < n → 0 < l.length → 0 < r.length → Sorted bP l → Sorted bP r → (∀ y ∈ l, fine y) → (∀ y ∈ r, fine y) → (p ++ (l ++ (r ++ s))).length = N → p.length = a → a + l.length = m → m + r.length = b → ∀ w, Own w0 base g c rest w (p ++ (l ++ (r ++ s))) →
  Calls Tryz.prog 114 #[.slice (some ⟨g, 0, none⟩) N c, .int .i64 (a : Int), .int .i64 (m : Int), .int .i64 (b : Int), nR] w fun e w' => e = .returned (.tuple #[]) ∧ ∃ mm, cZ bP (l ++ r) mm ∧ mm.length = l.length + r.length ∧ Own w0 base g c rest w' (p ++ (mm ++ s))
theorem Hu {w0 : World} {base g c : Nat} {rest : List Value} {N n : Nat} (IH : Iw w0 base g c rest N n) (hn : N ≤ 1000000) (p l r s : List RR) (a m b : Nat) (hlr : l.length + r.length < n + 1) (hl0 : 1 < l.length) (hr0 : 1 < r.length) (hsl : Sorted bP l) (hsr : Sorted bP r) (hfl : ∀ y ∈ l, fine y) (hfr : ∀ y ∈ r, fine y) (hN : (p ++ (l ++ (r ++ s))).length = N) (ha : p.length = a) (hm : a + l.length = m) (hb : m + r.length = b) (w : World) (HO : Own w0 base g c rest w (p ++ (l ++ (r ++ s)))) :
  Calls Tryz.prog 114 #[.slice (some ⟨g, 0, none⟩) N c, .int .i64 (a : Int), .int .i64 (m : Int), .int .i64 (b : Int), nR] w fun e w' => e = .returned (.tuple #[]) ∧ ∃ mm, cZ bP (l ++ r) mm ∧ mm.length = l.length + r.length ∧ Own w0 base g c rest w' (p ++ (mm ++ s)) := by
 have hu22 := Tryz.underlying22
 have hu41 := Tryz.underlying28
 have hl : (p ++ (l ++ (r ++ s))).length = p.length + l.length + r.length + s.length := by simp; omega
 rw [hN] at hl
 obtain ⟨A, hA⟩ : ∃ A, l.length = A := ⟨_, rfl⟩
 obtain ⟨B, hB⟩ : ∃ B, r.length = B := ⟨_, rfl⟩
 have HR := Lib.hid HO
 have HI := Lib.hid IH
 have HNN := Lib.hid hN
 have HLA := Lib.hid hA
 have HLB := Lib.hid hB
 have HA := Lib.hid ha
 have HFL := Lib.hid hfl
 have HFR := Lib.hid hfr
 have HSL := Lib.hid hsl
 have HSR := Lib.hid hsr
 have h1 : m ≤ a + A ∧ a + A ≤ m ∧ b ≤ m + B ∧ m + B ≤ b ∧ b ≤ N ∧ 1 < A ∧ 1 < B ∧ A + B < n + 1 := by omega
 have e1 : IntKind.i64.wrap ((m : Int) - (a : Int)) = (A : Int) := gY (by omega) (by omega)
 have e2 : IntKind.i64.wrap ((b : Int) - (m : Int)) = (B : Int) := gY (by omega) (by omega)
 have e3 : ((A : Int) == 1) = false := beq_false_of_ne (by omega)
 have e4 : ((B : Int) == 1) = false := beq_false_of_ne (by omega)
 have hrl : ∀ t h, t < A → a + t = h → (p ++ (l ++ (r ++ s)))[h]? = some (l.getD t zR) := fun t h ht e => tJ zR p l (r ++ s) (t := t) (by omega) (i := h) (by omega)
 have hrr : ∀ t h, t < B → m + t = h → (p ++ (l ++ (r ++ s)))[h]? = some (r.getD t zR) := fun t h ht e => by
  have := tJ zR (p ++ l) r s (t := t) (by omega) (i := h) (by rw [List.length_append]; omega)
  rwa [List.append_assoc] at this
 have HRL := Lib.hid hrl
 have HRR := Lib.hid hrr
 clear HO IH hN hl ha hfl hfr hsl hsr hrl hrr hA hB hl0 hr0 hlr hm hb
 obtain ⟨k0, mid, m1, m2, m3, m4, m5, m6, m7⟩ := yQ a b (by omega)
 clear m5
 obtain ⟨H, hH⟩ : ∃ H, mid - a = H := ⟨_, rfl⟩
 have hmid : mid ≤ a + H ∧ a + H ≤ mid := by omega
 have e5 : IntKind.i64.wrap ((mid : Int) + (m : Int)) = ((mid + m : Nat) : Int) := gY (by omega) (by omega)
 obtain ⟨nn, hnn⟩ : ∃ nn, mid + m = nn := ⟨_, rfl⟩
 rw [hnn] at e5
 have e6 : IntKind.i64.wrap ((nn : Int) - 1) = ((nn - 1 : Nat) : Int) := gY (by omega) (by omega)
 obtain ⟨pp, hpp⟩ : ∃ pp, nn - 1 = pp := ⟨_, rfl⟩
 rw [hpp] at e6
 have h2 : nn ≤ mid + m ∧ mid + m ≤ nn ∧ pp + 1 ≤ nn ∧ nn ≤ pp + 1 := by omega
 have key : ∃ st rr lo hi : Nat, st ≤ a + lo ∧ a + lo ≤ st ∧ rr ≤ a + hi ∧ a + hi ≤ rr ∧ lo ≤ hi ∧ hi ≤ H ∧ hi ≤ A ∧ H ≤ lo + B ∧ Hid (lo = 0 ∨ lo + B = H) ∧ Hid (hi = H ∨ hi = A) ∧ ((mid < m ∧ IntKind.i64.wrap ((nn : Int) - (b : Int)) = (st : Int) ∧ Hid (st = st ∧ True) ∧ Hid (rr = mid)) ∨ (¬ mid < m ∧ IntKind.i64.wrap (0 : Int) = 0 ∧ Hid (st = a) ∧ Hid (rr = m))) := by
  by_cases hc : mid < m
  ·exact ⟨nn - b, mid, nn - b - a, H, by omega, by omega, by omega, by omega, by omega, by omega, by omega, by omega, Lib.hid (by omega), Lib.hid (by omega), .inl ⟨hc, gY (by omega) (by omega), Lib.hid ⟨rfl, trivial⟩, Lib.hid rfl⟩⟩
  ·exact ⟨a, m, 0, A, by omega, by omega, by omega, by omega, by omega, by omega, by omega, by omega, Lib.hid (.inl rfl), Lib.hid (.inr rfl), .inr ⟨hc, by decide, Lib.hid rfl, Lib.hid rfl⟩⟩
 obtain ⟨st, rr, lo, hi, s1, s2, s3, s4, s5, s6, s7, s8, HLO, HHI, hcase⟩ := key
 have HM := Lib.hid (Ee jh zR HSL.out HSR.out (H := H) (lo := lo) (hi := hi) s6 (by rw [HLA.out]; exact s7) (by rw [HLB.out]; exact s8))
 have hHn : 1 ≤ H ∧ H < A + B := by omega
 clear hH hnn hpp
 go_enter Tryz.func114, Tryz.ntmps114
 rcases hcase with ⟨hc, e7, HST, HRT⟩ | ⟨hc, e7, HST, HRT⟩
 all_goals
  have hcz := hc
  rw [← Int.ofNat_lt] at hcz
  go_wp2_with fail
  go_loopg [20, 21] A (fun kx si sj wr => ∃ (i j u v : Nat), si = .int .i64 (i : Int) ∧ sj = .int .i64 (j : Int) ∧ i ≤ a + u ∧ a + u ≤ i ∧ j ≤ a + v ∧ a + v ≤ j ∧ lo ≤ u ∧ u ≤ v ∧ v ≤ hi ∧ v - u ≤ kx ∧ Hid (Cut (fun t => 0 ≤ bP (r.getD (H - 1 - t) zR) (l.getD t zR)) lo hi u v) ∧ Hid (Own w0 base g c rest wr (p ++ (l ++ (r ++ s)))))
  case atStart => exact ⟨st, rr, lo, hi, by first | rfl | rw [HST.out], by first | rfl | rw [HRT.out], s1, s2, s3, s4, Nat.le_refl _, s5, Nat.le_refl _, by omega, Lib.hid (Cut.start s5), HR⟩
  case round =>
   clear HR e1 e2 e3 e4 e5 e6 e7 m1 m2 m3 m4 m6 m7 hcz hc s1 s2 s3 s4 HST HRT
   obtain ⟨i, j, u, v, rfl, rfl, i1, i2, j1, j2, hlu, huv, hv, hk, HC, HR⟩ := hrel
   by_cases hlt : u < v
   ·obtain ⟨k, h, k1, k2, k3, k4, k5, k6, k7⟩ := yQ i j (by omega)
    have hltz : (i : Int) < (j : Int) := by omega
    obtain ⟨q, hq⟩ : ∃ q, h - a = q := ⟨_, rfl⟩
    have q1 : a + q = h := by omega
    have q2 : u ≤ q ∧ q < v := by omega
    have ef : IntKind.i64.wrap ((pp : Int) - (h : Int)) = ((pp - h : Nat) : Int) := gY (by omega) (by omega)
    obtain ⟨f, hf⟩ : ∃ f, pp - h = f := ⟨_, rfl⟩
    rw [hf] at ef
    have hq3 : H - 1 - q < B ∧ m + (H - 1 - q) = f := by omega
    obtain ⟨x, hx⟩ : ∃ x, l.getD q zR = x := ⟨_, rfl⟩
    obtain ⟨y, hy⟩ : ∃ y, r.getD (H - 1 - q) zR = y := ⟨_, rfl⟩
    have hcx := HRL.out q h (by omega) q1
    have hcy := HRR.out _ f hq3.1 hq3.2
    rw [hx] at hcx
    rw [hy] at hcy
    have hfx : fine x := by rw [← hx, kr l zR (by rw [HLA.out]; omega)]; exact HFL.out _ (List.getElem_mem _)
    have hfy : fine y := by rw [← hy, kr r zR (by rw [HLB.out]; omega)]; exact HFR.out _ (List.getElem_mem _)
    obtain ⟨y0, y1, y2, y3, y4, y5, y6, y7, y8, y9⟩ := HR.out.at5 hcy
    obtain ⟨x0, x1, x2, x3, x4, x5, x6, x7, x8, x9⟩ := HR.out.at5 hcx
    have HX := Lib.hid hx
    have HY := Lib.hid hy
    have HQ := Lib.hid q1
    have p0 : (0 : Int) ≤ (h : Int) := by omega
    have p1 : (h : Int) < (N : Int) := by omega
    have p2 : (0 : Int) ≤ (f : Int) := by omega
    have p3 : (f : Int) < (N : Int) := by omega
    clear hq q1 hx hcx hcy hy hf hq3
    go_wp2_with fail
    go_still_tail 11, (by kernel_rfl)
    change wpList _ _ _ _ _ wr.drew
    clear x0 x1 x2 x3 x4 x5 x6 x7 x8 x9 y0 y1 y2 y3 y4 y5 y6 y7 y8 y9
    have HR1 := Lib.hid HR.out.drew
    have hcall := qL hfy hfx wr.drew
    clear HR hfx hfy
    generalize wr.drew = wd at HR1 hcall
    have HCALL := Lib.hid hcall
    clear hcall
    go_wp2_with fail
    refine (HCALL.out).mono ?_
    rintro en w4 ⟨rfl, hb4⟩
    have HR := Lib.hid (HR1.out.below hb4)
    clear hb4 HR1 HCALL
    obtain ⟨o, ho⟩ : ∃ o, bP y x = o := ⟨_, rfl⟩
    rw [ho]
    have HO := Lib.hid ho
    clear ho
    by_cases hlv : o < 0
    ·have HC2 := Lib.hid (HC.out.no (HM.out) q2.1 q2.2 (by rw [HX.out, HY.out, HO.out]; omega))
     go_wp2_with fail
     go_roundg (q - u)
     case measure => omega
     case rel => exact ⟨i, h, u, q, rfl, rfl, i1, i2, by have := HQ.out; omega, by have := HQ.out; omega, hlu, q2.1, by omega, Nat.le_refl _, HC2, HR⟩
    ·obtain ⟨h1', hh1⟩ : ∃ h1', h + 1 = h1' := ⟨_, rfl⟩
     rw [hh1] at k5
     have hh2 : h + 1 ≤ h1' ∧ h1' ≤ h + 1 := by omega
     have HC2 := Lib.hid (HC.out.yes (HM.out) q2.1 q2.2 (by rw [HX.out, HY.out, HO.out]; omega))
     have hlv' : decide (o < 0) = false := decide_eq_false hlv
     clear hh1
     go_wp2_with fail
     go_roundg (v - (q + 1))
     case measure => omega
     case rel => exact ⟨h1', j, q + 1, v, rfl, rfl, by have := HQ.out; omega, by have := HQ.out; omega, j1, j2, by omega, by omega, hv, Nat.le_refl _, HC2, HR⟩
   ·have hltz : ¬ (i : Int) < (j : Int) := by omega
    obtain rfl : u = v := by omega
    have ee : IntKind.i64.wrap ((nn : Int) - (i : Int)) = ((nn - i : Nat) : Int) := gY (by omega) (by omega)
    obtain ⟨e, he⟩ : ∃ e, nn - i = e := ⟨_, rfl⟩
    rw [he] at ee
    have he2 : e ≤ m + (H - u) ∧ m + (H - u) ≤ e := by omega
    have HPD := Lib.hid (fun m1 m2 => DU jh zR (m1 := m1) (m2 := m2) HSL.out HSR.out s6 (by rw [HLA.out]; exact s7) (by rw [HLB.out]; exact s8) (by rw [HLB.out]; exact HLO.out) (by rw [HLA.out]; exact HHI.out) HC.out)
    obtain ⟨hla, hlb, hlh⟩ : u ≤ A ∧ H ≤ u + B ∧ u ≤ H := by omega
    have h3 : i ≤ mid ∧ a ≤ i ∧ mid ≤ e ∧ e ≤ b := by omega
    have tl : (l.take u).length = u := by rw [List.length_take, HLA.out]; omega
    have dl : (l.drop u).length = A - u := by rw [List.length_drop, HLA.out]
    have tr : (r.take (H - u)).length = H - u := by rw [List.length_take, HLB.out]; omega
    have dr : (r.drop (H - u)).length = B - (H - u) := by rw [List.length_drop, HLB.out]
    have e7 : p ++ (l ++ (r ++ s)) = (p ++ l.take u) ++ (l.drop u ++ (r.take (H - u) ++ (r.drop (H - u) ++ s))) := by
     rw [List.append_assoc, ← List.append_assoc (l.take u), List.take_append_drop, ← List.append_assoc (r.take (H - u)), List.take_append_drop]
    obtain ⟨l1, hl1⟩ : ∃ l1, l.take u = l1 := ⟨_, rfl⟩
    obtain ⟨l2, hl2⟩ : ∃ l2, l.drop u = l2 := ⟨_, rfl⟩
    obtain ⟨r1, hr1⟩ : ∃ r1, r.take (H - u) = r1 := ⟨_, rfl⟩
    obtain ⟨r2, hr2⟩ : ∃ r2, r.drop (H - u) = r2 := ⟨_, rfl⟩
    have HS := Lib.hid (show Sorted bP l1 ∧ Sorted bP l2 ∧ Sorted bP r1 ∧ Sorted bP r2 from ⟨hl1 ▸ HSL.out.sublist (List.take_sublist _ _), hl2 ▸ HSL.out.sublist (List.drop_sublist _ _), hr1 ▸ HSR.out.sublist (List.take_sublist _ _), hr2 ▸ HSR.out.sublist (List.drop_sublist _ _)⟩)
    have HF := Lib.hid (show (∀ y ∈ l1, fine y) ∧ (∀ y ∈ l2, fine y) ∧ (∀ y ∈ r1, fine y) ∧ (∀ y ∈ r2, fine y) from ⟨fun y h => HFL.out y (List.mem_of_mem_take (hl1 ▸ h)), fun y h => HFL.out y (List.mem_of_mem_drop (hl2 ▸ h)), fun y h => HFR.out y (List.mem_of_mem_take (hr1 ▸ h)), fun y h => HFR.out y (List.mem_of_mem_drop (hr2 ▸ h))⟩)
    rw [hl1] at tl e7 HPD
    rw [hl2] at dl e7 HPD
    rw [hr1] at tr e7 HPD
    rw [hr2] at dr e7 HPD
    have hlen : (p ++ (l1 ++ (r1 ++ (l2 ++ (r2 ++ s))))).length = N := by
     have := HNN.out; rw [e7] at this; simp only [List.length_append] at this ⊢; omega
    have HSZ := Lib.hid (show l1.length = u ∧ l2.length = A - u ∧ r1.length = H - u ∧ r2.length = B - (H - u) ∧ (p ++ (l1 ++ (r1 ++ (l2 ++ (r2 ++ s))))).length = N ∧ p ++ (l ++ (r ++ s)) = (p ++ l1) ++ (l2 ++ (r1 ++ (r2 ++ s))) from ⟨tl, dl, tr, dr, hlen, e7⟩)
    clear he HC HM HRL HRR tl dl tr dr e7 hl1 hl2 hr1 hr2 hlen HFL HFR HSL HSR HLO HHI hlt huv hv hlu hk s5 s6 s7 s8
    by_cases c1 : i < m ∧ m < e
    focus
     have d1 : (i : Int) < (m : Int) := by omega
     have d2 : (m : Int) < (e : Int) := by omega
     go_wp2_with fail
     refine (Im (p ++ l1) l2 r1 (r2 ++ s) (by rw [HSZ.out.2.1]; omega) (by rw [HSZ.out.2.2.1]; omega) (by rw [← HSZ.out.2.2.2.2.2, HNN.out]; exact hn) (N := N) (a := i) (m := m) (b := e) (by rw [← HSZ.out.2.2.2.2.2]; exact HNN.out) (by rw [List.length_append, HA.out, HSZ.out.1]; omega) (by rw [List.length_append, HA.out, HSZ.out.1, HSZ.out.2.1]; omega) (by rw [HSZ.out.2.2.1]; omega) wr (by rw [← HSZ.out.2.2.2.2.2]; exact HR.out)).mono ?_
     rintro en w5 ⟨rfl, hw⟩
     rw [List.append_assoc] at hw
     have HR := Lib.hid hw
     clear hw
    rotate_left
    focus
     have hcur : p ++ (l ++ (r ++ s)) = p ++ (l1 ++ (r1 ++ (l2 ++ (r2 ++ s)))) := by
      rw [HSZ.out.2.2.2.2.2, List.append_assoc]
      have h4 : l2.length = 0 ∨ r1.length = 0 := by rw [HSZ.out.2.1, HSZ.out.2.2.1]; omega
      rcases h4 with h4 | h4
      ·rw [List.length_eq_zero_iff.mp h4]; rfl
      ·rw [List.length_eq_zero_iff.mp h4]; rfl
     rw [hcur] at HR
     clear hcur
     obtain d1 | ⟨d1, d2⟩ : ¬ (i : Int) < (m : Int) ∨ ((i : Int) < (m : Int) ∧ ¬ (m : Int) < (e : Int)) := by omega
    all_goals as_aux_lemma =>
     by_cases c2 : a < i ∧ i < mid
     focus
      all_goals first | (exfalso; omega) | skip
      all_goals have d3 : (a : Int) < (i : Int) := by omega
      all_goals have d4 : (i : Int) < (mid : Int) := by omega
      all_goals go_wp2_with fail
      all_goals refine (HI.out p l1 r1 (l2 ++ (r2 ++ s)) a i mid (by rw [HSZ.out.1, HSZ.out.2.2.1]; omega) (by rw [HSZ.out.1]; omega) (by rw [HSZ.out.2.2.1]; omega) HS.out.1 HS.out.2.2.1 HF.out.1 HF.out.2.2.1 HSZ.out.2.2.2.2.1 HA.out (by rw [HSZ.out.1]; omega) (by rw [HSZ.out.2.2.1]; omega) _ HR.out).mono ?_
      all_goals
       rintro en w6 ⟨rfl, mm, g1, g2, g3⟩
       have HG := Lib.hid (And.intro g1 g2)
       have HR := Lib.hid g3
       clear g1 g2 g3
     rotate_left
     focus
      obtain ⟨mm, HG, HR⟩ : ∃ mm, Hid (cZ bP (l1 ++ r1) mm ∧ mm.length = l1.length + r1.length) ∧ Hid (Own w0 base g c rest _ (p ++ (mm ++ (l2 ++ (r2 ++ s))))) := by
       refine ⟨l1 ++ r1, Lib.hid ⟨cZ.qp ?_, List.length_append⟩, by rw [List.append_assoc]; exact HR⟩
       have h4 : l1.length = 0 ∨ r1.length = 0 := by rw [HSZ.out.1, HSZ.out.2.2.1]; omega
       rcases h4 with h4 | h4
       ·rw [List.length_eq_zero_iff.mp h4]; exact HS.out.2.2.1
       ·rw [List.length_eq_zero_iff.mp h4, List.append_nil]; exact HS.out.1
      obtain d3 | ⟨d3, d4⟩ : ¬ (a : Int) < (i : Int) ∨ ((a : Int) < (i : Int) ∧ ¬ (i : Int) < (mid : Int)) := by omega
      all_goals first | (exfalso; omega) | skip
     all_goals as_aux_lemma =>
      have HML : Hid ((p ++ mm).length = mid) := Lib.hid (by rw [List.length_append, HG.out.2, HA.out, HSZ.out.1, HSZ.out.2.2.1]; omega)
      by_cases c3 : mid < e ∧ e < b
      focus
       all_goals first | (exfalso; omega) | skip
       all_goals have d5 : (mid : Int) < (e : Int) := by omega
       all_goals have d6 : (e : Int) < (b : Int) := by omega
       all_goals go_wp2_with fail
       all_goals refine (HI.out (p ++ mm) l2 r2 s mid e b (by rw [HSZ.out.2.1, HSZ.out.2.2.2.1]; omega) (by rw [HSZ.out.2.1]; omega) (by rw [HSZ.out.2.2.2.1]; omega) HS.out.2.1 HS.out.2.2.2 HF.out.2.1 HF.out.2.2.2 (by have := HSZ.out.2.2.2.2.1; have := HG.out.2; simp only [List.length_append] at *; omega) HML.out (by rw [HSZ.out.2.1]; omega) (by rw [HSZ.out.2.2.2.1]; omega) _ (by rw [List.append_assoc]; exact HR.out)).mono ?_
       all_goals
        rintro en w7 ⟨rfl, m2, g1, g2, g3⟩
        have HG2 := Lib.hid (And.intro g1 g2)
        have HR := Lib.hid g3
        clear g1 g2 g3
        go_wp2_with fail
      rotate_left
      focus
       obtain ⟨m2, HG2, HR⟩ : ∃ m2, Hid (cZ bP (l2 ++ r2) m2 ∧ m2.length = l2.length + r2.length) ∧ Hid (Own w0 base g c rest _ ((p ++ mm) ++ (m2 ++ s))) := by
        refine ⟨l2 ++ r2, Lib.hid ⟨cZ.qp ?_, List.length_append⟩, by rw [List.append_assoc, List.append_assoc]; exact HR⟩
        have h4 : l2.length = 0 ∨ r2.length = 0 := by rw [HSZ.out.2.1, HSZ.out.2.2.2.1]; omega
        rcases h4 with h4 | h4
        ·rw [List.length_eq_zero_iff.mp h4]; exact HS.out.2.2.2
        ·rw [List.length_eq_zero_iff.mp h4, List.append_nil]; exact HS.out.2.1
       obtain d5 | ⟨d5, d6⟩ : ¬ (mid : Int) < (e : Int) ∨ ((mid : Int) < (e : Int) ∧ ¬ (e : Int) < (b : Int)) := by omega
       all_goals first | (exfalso; omega) | skip
      all_goals
       (try go_wp2_with fail)
       all_goals go_end0
       refine ⟨rfl, mm ++ m2, HPD.out _ _ HG.out.1 HG2.out.1, ?_, by have := HR.out; rwa [List.append_assoc, ← List.append_assoc mm] at this⟩
       rw [List.length_append, HG.out.2, HG2.out.2, HSZ.out.1, HSZ.out.2.1, HSZ.out.2.2.1, HSZ.out.2.2.2.1, HLA.out, HLB.out]
       omega
end Go.Y.Rrs
