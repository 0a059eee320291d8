/- Contracts and facts that the claim's row is drawn from, each with its own conditions. -/
import Derived.Test.YtehdkopjgcoclaaJoined4
import Derived.Test.YtehdkopjgcoclaaProg
import Derived.Below
import Derived.Deep.Draws
import Derived.Deep.AppendLies
import Derived.Maps.AppendAt
import Derived.OwnWalk
import Derived.Laws.BytesArg
import Derived.Laws.MakeOwn
import Derived.Laws.OwnMore
import Derived.Deep.OwnRows
import Derived.Tactics
import Derived.Lib.ConvBytes
import Derived.Laws.Slices
import Derived.WalkKit
import Derived.KernelRfl
import Derived.RowKit3
import Derived.Deep.LoopGhost
import Derived.Deep.QuietTactic
import Derived.BigQuiet
import Derived.WideLaws
import Derived.Deep.DeepCutAuto
import Derived.Deep.CutBlock
import Derived.Deep.RegionHeld3
import Derived.Laws.Rows
import Derived.Lib.AppendStr
import Derived.ArgAppend
import Derived.Laws.IdiomCopy
import Derived.OrdersHeld
import Derived.Laws.BitsLemmas
import Derived.RowKit
import Derived.StillTailTactics
import Derived.Outline
namespace Go.Proofs.Ytehdkopjgcoclaa.Rrs
open Go.RowKit Go.Proofs.YtehdkopjgcoclaaW.PrintWords Go.Proofs.YtehdkopjgcoclaaW.PrintLast Go.Proofs.YtehdkopjgcoclaaW.PrintMore Go.Proofs.Ytehdkopjgcoclaa.Given Go.Proofs.Ytehdkopjgcoclaa.PRd Go.Proofs.Ytehdkopjgcoclaa.PRr Go.Proofs.Ytehdkopjgcoclaa.SetLaw
set_option linter.unusedVariables false
set_option linter.unusedSimpArgs false
theorem ins_done {l m1 m2 : List RR} {x : RR} {t : Nat} (hx : l[t]? = some x) (hs : StableOf cmpRR (l.take t) (m1 ++ m2)) (h1 : ∀ y ∈ m1, cmpRR y x ≤ 0) (h2 : ∀ y ∈ m2, cmpRR x y < 0) : StableOf cmpRR (l.take (t + 1)) (m1 ++ x :: m2) := by
  have h := stable_insert ordRR hs.1 h1 h2
  obtain ⟨ht, e⟩ := List.getElem?_eq_some_iff.1 hx
  exact ⟨h.1, fun z => by rw [h.2, cls_append, hs.2, ← cls_append, List.take_succ_eq_append_getElem ht, e]⟩
set_option maxHeartbeats 8000000 in
set_option maxRecDepth 100000 in
theorem ins_walk {w0 : World} {base g c : Nat} {rest : List Value} (p l s : List RR) (hf : ∀ y ∈ l, fine y) (hn : (p ++ (l ++ s)).length ≤ 1000000) {N a b : Nat} (hN : (p ++ (l ++ s)).length = N) (ha : p.length = a) (hb : a + l.length = b) (w : World) (HO : Own w0 base g c rest w (p ++ (l ++ s))) :
    Calls Try.prog 78 #[.slice (some ⟨g, 0, none⟩) N c, .int .i64 (a : Int), .int .i64 (b : Int), cmpV] w fun e w' => e = .returned (.tuple #[]) ∧ ∃ m, StableOf cmpRR l m ∧ m.length = l.length ∧ Own w0 base g c rest w' (p ++ (m ++ s)) := by
  have hu22 := Try.underlying24
  have hu41 := Try.underlying33
  have hl : (p ++ (l ++ s)).length = p.length + l.length + s.length := by simp; omega
  rw [hN] at hl hn
  have HR := Lib.hid HO
  have HF := Lib.hid hf
  obtain ⟨n, hln⟩ : ∃ n, l.length = n := ⟨_, rfl⟩
  have HL := Lib.hid hln
  have HA := Lib.hid ha
  have hbn : b ≤ a + n ∧ a + n ≤ b ∧ b ≤ N := by omega
  have e0 : IntKind.i64.wrap ((a : Int) + 1) = ((a + 1 : Nat) : Int) := w64i (by omega) (by omega)
  obtain ⟨a1, ha1⟩ : ∃ a1, a + 1 = a1 := ⟨_, rfl⟩
  rw [ha1] at e0
  have ha2 : a1 ≤ a + 1 ∧ a + 1 ≤ a1 := by omega
  clear HO hf hN hl ha hb ha1
  go_enter Try.func78, Try.ntmps78
  go_wp2_with fail
  go_loopg [8] n (fun kx si wr => ∃ (i t : Nat) (m : List RR), si = .int .i64 (i : Int) ∧ i ≤ a + t ∧ a + t ≤ i ∧ 1 ≤ t ∧ n - t ≤ kx ∧ Hid (StableOf cmpRR (l.take t) m) ∧ Hid (m.length = (l.take t).length) ∧ Hid (Own w0 base g c rest wr (p ++ (m ++ (l.drop t ++ s)))))
  case atStart => exact ⟨a1, 1, l.take 1, rfl, ha2.1, ha2.2, Nat.le_refl _, by omega, Lib.hid (StableOf.refl_of (by cases l with | nil => exact List.Pairwise.nil | cons x l => exact List.pairwise_singleton _ _)), Lib.hid rfl, Lib.hid (by have := HR.out; rwa [← List.take_append_drop 1 l, List.append_assoc] at this)⟩
  case round =>
    clear HR
    obtain ⟨i, t, m, rfl, hi1, hi2, ht1, hk, HS, HM, HR⟩ := hrel
    by_cases hlt : t < n
    · obtain ⟨x, hx⟩ := lt_some (show t < l.length by omega)
      have hxf : fine x := HF.out _ (List.mem_of_getElem? hx)
      have hdr : l.drop t = x :: l.drop (t + 1) := by obtain ⟨h1, h2⟩ := List.getElem?_eq_some_iff.1 hx; rw [List.drop_eq_getElem_cons h1, h2]
      rw [hdr] at HR
      have hmt : m.length = t := by rw [HM.out, List.length_take]; omega
      have HX := Lib.hid hx
      have HXF := Lib.hid hxf
      clear hx hxf hdr HM
      have ei : IntKind.i64.wrap ((i : Int) + 1) = ((i + 1 : Nat) : Int) := w64i (by omega) (by omega)
      obtain ⟨i1, hi3⟩ : ∃ i1, i + 1 = i1 := ⟨_, rfl⟩
      rw [hi3] at ei
      have hi4 : i1 ≤ i + 1 ∧ i + 1 ≤ i1 := by omega
      clear hi3
      have hltz : (i : Int) < (b : Int) := by omega
      go_wp2_with fail
      go_loopg [9] t (fun kx sj wr => ∃ (h' j : Nat) (m1 m2 : List RR), sj = .int .i64 (h' : Int) ∧ h' ≤ a + j ∧ a + j ≤ h' ∧ j ≤ kx ∧ j ≤ t ∧ m1.length = j ∧ Hid ((m1 ++ m2).length = t) ∧ Hid (StableOf cmpRR (l.take t) (m1 ++ m2)) ∧ Hid (∀ y ∈ m2, cmpRR x y < 0) ∧ Hid (Own w0 base g c rest wr (p ++ (m1 ++ x :: (m2 ++ (l.drop (t + 1) ++ s))))))
      case atStart => exact ⟨i, t, m, [], rfl, hi1, hi2, Nat.le_refl _, Nat.le_refl _, hmt, Lib.hid (by rw [List.append_nil]; exact hmt), by rw [List.append_nil]; exact HS, Lib.hid (fun y hy => by cases hy), by rw [List.nil_append]; exact HR⟩
      case round =>
        clear HR HS
        obtain ⟨h', j, m1, m2, rfl, hj1, hj2, hkj, hjt, hm1, HML, HS, H2, HR⟩ := hrel
        have hout : (∀ y ∈ m1, cmpRR y x ≤ 0) → ∀ wr', Own w0 base g c rest wr' (p ++ (m1 ++ x :: (m2 ++ (l.drop (t + 1) ++ s)))) → ∃ m, StableOf cmpRR (l.take (t + 1)) m ∧ m.length = (l.take (t + 1)).length ∧ Own w0 base g c rest wr' (p ++ (m ++ (l.drop (t + 1) ++ s))) := fun h wr' ho =>
          ⟨m1 ++ x :: m2, ins_done HX.out HS.out h H2.out, by have := HML.out; have := HL.out; simp at *; omega, by simpa using ho⟩
        have OUT := Lib.hid hout
        clear hout
        by_cases hj : j = 0
        · subst hj
          obtain rfl : h' = a := by omega
          obtain ⟨m', k1, k2, k3⟩ := OUT.out (by rw [List.length_eq_zero_iff.mp hm1]; intro y hy; cases hy) _ HR.out.drew
          have K1 := Lib.hid k1
          have K2 := Lib.hid k2
          have K3 := Lib.hid k3
          clear k1 k2 k3 OUT HR
          go_wp2_with fail
          go_big_region
          all_goals go_wp2
          go_roundg (n - (t + 1))
          case measure => omega
          case rel => exact ⟨i1, t + 1, m', rfl, by omega, by omega, by omega, Nat.le_refl _, K1, K2, K3⟩
        · obtain ⟨q, rfl⟩ : ∃ q, j = q + 1 := ⟨j - 1, by omega⟩
          obtain ⟨mi, y, rfl⟩ : ∃ m0 y, m1 = m0 ++ [y] := ⟨m1.dropLast, m1.getLast (by intro e; rw [e] at hm1; cases hm1), (List.dropLast_concat_getLast (by intro e; rw [e] at hm1; cases hm1)).symm⟩
          have hmi : mi.length = q := by simpa using hm1
          obtain ⟨cur, hc⟩ : ∃ cur, p ++ ((mi ++ [y]) ++ x :: (m2 ++ (l.drop (t + 1) ++ s))) = cur := ⟨_, rfl⟩
          obtain ⟨h, rfl⟩ : ∃ h, h' = h + 1 := ⟨h' - 1, by omega⟩
          have hh : a + q = h := by omega
          have hcy : cur[h]? = some y := by rw [← hc, ← hh, show p ++ ((mi ++ [y]) ++ x :: (m2 ++ (l.drop (t + 1) ++ s))) = (p ++ mi) ++ y :: x :: (m2 ++ (l.drop (t + 1) ++ s)) by simp, ← HA.out, ← hmi, ← List.length_append]; exact SetLaw.get_at _ _ _
          have hcx : cur[h + 1]? = some x := by rw [← hc, ← hh, show p ++ ((mi ++ [y]) ++ x :: (m2 ++ (l.drop (t + 1) ++ s))) = (p ++ (mi ++ [y])) ++ x :: (m2 ++ (l.drop (t + 1) ++ s)) by simp, ← HA.out, ← hmi, show p.length + mi.length + 1 = (p ++ (mi ++ [y])).length by simp; omega]; exact SetLaw.get_at _ _ _
          rw [hc] at HR
          obtain ⟨y0, y1, y2, y3, y4, y5, y6, y7, y8, y9⟩ := HR.out.at5 hcy
          obtain ⟨x0, x1, x2, x3, x4, x5, x6, x7, x8, x9⟩ := HR.out.at5 hcx
          have w1 : IntKind.i64.wrap (((h + 1 : Nat) : Int) - 1) = (h : Int) := w64i (by omega) (by omega)
          obtain ⟨h', hh'⟩ : ∃ h', h + 1 = h' := ⟨_, rfl⟩
          rw [hh'] at w1 x0 x1 x2 x3 x4 x5 x6 x7 x8 x9 hcx hj1 hj2
          rw [hh']
          have hh2 : h' ≠ h := by omega
          have HH := Lib.hid hh
          have HH' := Lib.hid hh'
          have p0 : (0 : Int) ≤ (h : Int) := by omega
          have p1 : (h : Int) < (N : Int) := by omega
          have p2 : (0 : Int) ≤ (h' : Int) := by omega
          have p3 : (h' : Int) < (N : Int) := by omega
          have p4 : (a : Int) < (h' : Int) := by omega
          clear hh hh'
          go_wp2_with fail
          go_still_tail 14, (by kernel_rfl)
          change wpList _ _ _ _ _ wr.drew
          clear x0 x1 x2 x3 x4 x5 x6 x7 x8 x9 y0 y1 y2 y3 y4 y5 y6 y7 y8 y9
          have HR1 := Lib.hid HR.out.drew
          have HCY := Lib.hid hcy
          have HCX := Lib.hid hcx
          clear HR hcy hcx
          have hyl : y ∈ l.take t := HS.out.mem ordRR (by simp)
          have hcall := cmp_fine HXF.out (HF.out _ (List.mem_of_mem_take hyl)) wr.drew
          generalize wr.drew = wd at HR1 hcall
          have HCALL := Lib.hid hcall
          clear hcall hyl
          go_wp2_with fail
          refine (HCALL.out).mono ?_
          rintro en w4 ⟨rfl, hb4⟩
          have HR := Lib.hid (HR1.out.below hb4)
          clear hb4 HR1 HCALL
          obtain ⟨v, hv⟩ : ∃ v, cmpRR x y = v := ⟨_, rfl⟩
          rw [hv]
          by_cases hlv : v < 0
          · have hnx : (cur.set h' y).set h x = p ++ (mi ++ x :: ((y :: m2) ++ (l.drop (t + 1) ++ s))) := by
              rw [← hc, ← HH'.out, show p ++ ((mi ++ [y]) ++ x :: (m2 ++ (l.drop (t + 1) ++ s))) = (p ++ mi) ++ y :: x :: (m2 ++ (l.drop (t + 1) ++ s)) by simp, sw_adj (p ++ mi) _ y x h (by rw [List.length_append, HA.out, hmi, HH.out])]; simp
            have HS2 := Lib.hid (HR.out.swap HCX.out HCY.out).drew
            rw [hnx] at HS2
            obtain ⟨D2, hy2⟩ := HR.out.next y (List.getElem?_eq_some_iff.1 HCX.out).1 HCY.out hh2
            obtain ⟨x0, x1, x2, x3, x4, x5, x6, x7, x8, x9⟩ := HR.out.at5 HCX.out
            obtain ⟨y0, y1, y2, y3, y4, y5, y6, y7, y8, y9⟩ := HR.out.at5 HCY.out
            obtain ⟨z0, z1, z2, z3, z4, z5, z6, z7, z8, z9⟩ := D2.at5 hy2
            have HV := Lib.hid hv
            clear HR D2 hy2 hnx hc hv OUT
            go_wp2_with fail
            go_big_region
            all_goals go_wp2
            go_roundg q
            case measure => omega
            case rel => exact ⟨h, q, mi, y :: m2, rfl, by have := HH.out; omega, by have := HH.out; omega, Nat.le_refl _, by omega, hmi, Lib.hid (by have := HML.out; simpa using this), Lib.hid (by have := HS.out; simpa using this), Lib.hid (fun z hz => by
              rcases List.mem_cons.mp hz with rfl | hz
              · rw [HV.out]; exact hlv
              · exact H2.out z hz), HS2⟩
          · obtain ⟨m', k1, k2, k3⟩ := OUT.out (fun z hz => by
              have h7 : cmpRR y x ≤ 0 := by have := ordRR.flip x y; omega
              rcases List.mem_append.mp hz with hz | hz
              · exact ordRR.le_trans (sorted_between (sorted_left HS.out.1) z hz y (by simp)) h7
              · rw [List.mem_singleton.mp hz]; exact h7) _ (by rw [hc]; exact HR.out)
            have K1 := Lib.hid k1
            have K2 := Lib.hid k2
            have K3 := Lib.hid k3
            clear k1 k2 k3 OUT HR hv hc
            go_wp2_with fail
            go_roundg (n - (t + 1))
            case measure => omega
            case rel => exact ⟨i1, t + 1, m', rfl, by omega, by omega, by omega, Nat.le_refl _, K1, K2, K3⟩
    · have hltz : ¬ (i : Int) < (b : Int) := by omega
      go_wp2_with fail
      go_end0
      have h1 : l.take t = l := List.take_of_length_le (by rw [HL.out]; omega)
      have h2 : l.drop t = [] := List.drop_of_length_le (by rw [HL.out]; omega)
      have hs := HS.out
      have hm := HM.out
      have hr := HR.out
      rw [h1] at hs hm
      rw [h2, List.nil_append] at hr
      exact ⟨rfl, m, hs, hm.trans HL.out, hr⟩
end Go.Proofs.Ytehdkopjgcoclaa.Rrs
namespace Go.Proofs.Ytehdkopjgcoclaa.SetLaw
set_option linter.unusedVariables false
variable {α : Type} {c : α → α → Int}
structure Part (c : α → α → Int) (S : Nat) (l q : List α) (t : Nat) : Prop where
  len : q.length = t * S
  le : q.length ≤ l.length
  blk : Blocks c S q
  cl : ∀ x, cls c q x = cls c (l.take q.length) x
theorem Part.start (S : Nat) (l : List α) : Part c S l [] 0 := ⟨by simp, Nat.zero_le _, blocks_nil _, fun x => by simp⟩
theorem take_drop_ (l : List α) (a S : Nat) : l.take (a + S) = l.take a ++ (l.drop a).take S := by rw [List.take_add]
theorem Part.step {S t : Nat} {l q m : List α} (h : Part c S l q t) (hs : StableOf c ((l.drop q.length).take S) m) (hm : m.length = S) (hn : q.length + S ≤ l.length) : Part c S l (q ++ m) (t + 1) := by
  refine ⟨by rw [List.length_append, h.len, hm, Nat.add_mul, Nat.one_mul], by rw [List.length_append, hm]; exact hn, blocks_snoc h.blk h.len hs.1 (by omega), fun x => ?_⟩
  rw [List.length_append, hm, take_drop_, cls_append, h.cl, hs.2, ← cls_append]
theorem Part.last {S t : Nat} {l q m : List α} (h : Part c S l q t) (hs : StableOf c (l.drop q.length) m) (hm : m.length = (l.drop q.length).length) (hn : l.length ≤ q.length + S) : (q ++ m).length = l.length ∧ Blocks c S (q ++ m) ∧ ∀ x, cls c (q ++ m) x = cls c l x := by
  have := h.le
  rw [List.length_drop] at hm
  refine ⟨by rw [List.length_append]; omega, blocks_snoc h.blk h.len hs.1 (by omega), fun x => ?_⟩
  rw [cls_append, h.cl, hs.2, ← cls_append, List.take_append_drop]
theorem Part.pair {s t : Nat} {l q : List α} (h : Part c (2 * s) l q t) (hb : Blocks c s l) : Sorted c ((l.drop q.length).take s) ∧ Sorted c (((l.drop q.length).drop s).take s) := by
  have e1 : q.length = 2 * t * s := by rw [h.len, Nat.mul_comm 2 t, Nat.mul_assoc]
  have e2 : q.length + s = (2 * t + 1) * s := by rw [e1, Nat.add_mul, Nat.one_mul]
  exact ⟨by rw [e1]; exact hb _, by rw [List.drop_drop, e2]; exact hb _⟩
end Go.Proofs.Ytehdkopjgcoclaa.SetLaw
namespace Go.Proofs.Ytehdkopjgcoclaa.Rrs
open Go.RowKit Go.Proofs.YtehdkopjgcoclaaW.PrintWords Go.Proofs.YtehdkopjgcoclaaW.PrintLast Go.Proofs.YtehdkopjgcoclaaW.PrintMore Go.Proofs.Ytehdkopjgcoclaa.Given Go.Proofs.Ytehdkopjgcoclaa.PRd Go.Proofs.Ytehdkopjgcoclaa.PRr Go.Proofs.Ytehdkopjgcoclaa.SetLaw
set_option linter.unusedVariables false
set_option linter.unusedSimpArgs false
theorem sym_ok {w0 : World} {base g c : Nat} {rest : List Value} {N : Nat} (hn : N ≤ 1000000) : ∀ n, SymOk w0 base g c rest N n
  | 0 => fun p l r s a m b h => by omega
  | n + 1 => fun p l r s a m b h hl hr sl sr fl fr hN ha hm hb w ho => by
    by_cases h1 : l.length = 1
    · obtain ⟨x, rfl⟩ := List.length_eq_one_iff.mp h1
      exact sym_one p r s x hr sr (fl x (by simp)) fr hn hN ha hm hb w ho
    · by_cases h2 : r.length = 1
      · obtain ⟨y, rfl⟩ := List.length_eq_one_iff.mp h2
        exact sym_two p l s y (by omega) sl (fr y (by simp)) fl hn hN ha hm hb w ho
      · exact sym_main (sym_ok hn n) hn p l r s a m b h (by omega) (by omega) sl sr fl fr hN ha hm hb w ho
set_option maxHeartbeats 8000000 in
set_option maxRecDepth 100000 in
theorem stable_walk {w0 : World} {base g c : Nat} {rest : List Value} (l : List RR) (hf : ∀ y ∈ l, fine y) {N : Nat} (hn : N ≤ 1000000) (hN : l.length = N) (w : World) (HO : Own w0 base g c rest w l) :
    Calls Try.prog 63 #[.slice (some ⟨g, 0, none⟩) N c, .int .i64 (N : Int), cmpV] w fun e w' => e = .returned (.tuple #[]) ∧ ∃ m, StableOf cmpRR l m ∧ m.length = N ∧ Own w0 base g c rest w' m := by
  have HR := Lib.hid HO
  have HF := Lib.hid hf
  have HL := Lib.hid hN
  have HINS := Lib.hid (fun p l s hf hn' a b hN' ha hb w ho => ins_walk (w0 := w0) (base := base) (g := g) (c := c) (rest := rest) p l s hf hn' (N := N) (a := a) (b := b) hN' ha hb w ho)
  have HSYM := Lib.hid (sym_ok (w0 := w0) (base := base) (g := g) (c := c) (rest := rest) hn (N + 1))
  clear HO hf hN
  go_enter Try.func63, Try.ntmps63
  go_wp2_with fail
  go_loopg [7, 8] N (fun kx sa sb wr => ∃ (a b t : Nat) (q : List RR), sa = .int .i64 (a : Int) ∧ sb = .int .i64 (b : Int) ∧ b ≤ a + 20 ∧ a + 20 ≤ b ∧ a ≤ N ∧ N - a ≤ kx ∧ Hid (q.length = a) ∧ Hid (Part cmpRR 20 l q t) ∧ Hid (Own w0 base g c rest wr (q ++ l.drop a)))
  case atStart => exact ⟨0, 20, 0, [], rfl, rfl, by omega, by omega, by omega, by omega, Lib.hid rfl, Lib.hid (Part.start _ _), HR⟩
  case round =>
    clear HR
    obtain ⟨a, b, t, q, rfl, rfl, b1, b2, ha, hk, HQ, HP, HR⟩ := hrel
    have hql : (l.drop a).length = N - a := by rw [List.length_drop, HL.out]
    by_cases hlt : b ≤ N
    · have hltz : (b : Int) ≤ (N : Int) := by omega
      have ht : ((l.drop a).take 20).length = 20 := by rw [List.length_take]; omega
      have e1 : IntKind.i64.wrap ((b : Int) + 20) = ((b + 20 : Nat) : Int) := w64i (by omega) (by omega)
      obtain ⟨b', hb'⟩ : ∃ b', b + 20 = b' := ⟨_, rfl⟩
      rw [hb'] at e1
      have hb2 : b' ≤ b + 20 ∧ b + 20 ≤ b' := by omega
      have hcall := HINS.out q ((l.drop a).take 20) ((l.drop a).drop 20) (fun y hy => HF.out y (List.mem_of_mem_drop (List.mem_of_mem_take hy))) (by rw [List.take_append_drop, List.length_append, HQ.out, hql]; omega) a b (by rw [List.take_append_drop, List.length_append, HQ.out, hql]; omega) HQ.out (by rw [ht]; omega) wr (by rw [List.take_append_drop]; exact HR.out)
      have HC := Lib.hid hcall
      have HT := Lib.hid ht
      clear hcall HR ht hb' hql
      go_wp2_with fail
      refine HC.out.mono ?_
      rintro e w1 ⟨rfl, m, g1, g2, g3⟩
      have hm : m.length = 20 := g2.trans HT.out
      have hstep := HP.out.step (m := m) (by rw [HQ.out]; exact g1) hm (by rw [HQ.out, HL.out]; omega)
      have HP2 := Lib.hid hstep
      have HQ2 : Hid ((q ++ m).length = b) := Lib.hid (by rw [List.length_append, HQ.out, hm]; omega)
      have HR : Hid (Own w0 base g c rest w1 ((q ++ m) ++ l.drop b)) := Lib.hid (by rw [List.append_assoc, show b = a + 20 by omega, ← List.drop_drop]; exact g3)
      clear g1 g2 g3 hm hstep HC
      go_wp2_with fail
      go_roundg (N - b)
      case measure => omega
      case rel => exact ⟨b, b', t + 1, q ++ m, rfl, rfl, hb2.1, hb2.2, hlt, Nat.le_refl _, HQ2, HP2, HR⟩
    · have hltz : ¬ (b : Int) ≤ (N : Int) := by omega
      have hcall := HINS.out q (l.drop a) [] (fun y hy => HF.out y (List.mem_of_mem_drop hy)) (by rw [List.append_nil, List.length_append, HQ.out, hql]; omega) a N (by rw [List.append_nil, List.length_append, HQ.out, hql]; omega) HQ.out (by rw [hql]; omega) wr (by rw [List.append_nil]; exact HR.out)
      have HC := Lib.hid hcall
      clear hcall HR hql
      go_wp2_with fail
      refine HC.out.mono ?_
      rintro e w1 ⟨rfl, m, g1, g2, g3⟩
      rw [List.append_nil] at g3
      have HB := Lib.hid (HP.out.last (m := m) (by rw [HQ.out]; exact g1) (by rw [HQ.out]; exact g2) (by rw [HQ.out, HL.out]; omega))
      have HR := Lib.hid g3
      obtain ⟨l1, hl1⟩ : ∃ l1, q ++ m = l1 := ⟨_, rfl⟩
      rw [hl1] at HB HR
      clear g1 g2 g3 HC HP HQ hl1
      go_wp2_with fail
      go_loopg [6] N (fun kx ss wr => ∃ (s : Nat) (l1 : List RR), ss = .int .i64 (s : Int) ∧ 0 < s ∧ s ≤ 4000000 ∧ N - s ≤ kx ∧ Hid (l1.length = l.length ∧ Blocks cmpRR s l1 ∧ ∀ x, cls cmpRR l1 x = cls cmpRR l x) ∧ Hid (Own w0 base g c rest wr l1))
      case atStart => exact ⟨20, l1, rfl, by omega, by omega, by omega, HB, HR⟩
      case round =>
        clear HR HB
        obtain ⟨s, l1, rfl, s0, s1, hks, HB, HR⟩ := hrel
        by_cases hs : s < N
        · have hsz : (s : Int) < (N : Int) := by omega
          have e2 : IntKind.i64.wrap (2 * (s : Int)) = ((2 * s : Nat) : Int) := w64i (by omega) (by omega)
          have e3 : IntKind.i64.wrap ((s : Int) * 2) = ((2 * s : Nat) : Int) := w64i (by omega) (by omega)
          obtain ⟨S, hS⟩ : ∃ S, 2 * s = S := ⟨_, rfl⟩
          rw [hS] at e2 e3
          have HSS := Lib.hid hS
          have hS2 : S ≤ s + s ∧ s + s ≤ S := by omega
          have HF1 := Lib.hid (show ∀ y ∈ l1, fine y from fun y hy => HF.out y (mem_of_cls ordRR HB.out.2.2 hy))
          clear hS
          go_wp2_with fail
          go_loopg [7, 8] N (fun kx sa sb wr => ∃ (a b t : Nat) (q : List RR), sa = .int .i64 (a : Int) ∧ sb = .int .i64 (b : Int) ∧ b ≤ a + S ∧ a + S ≤ b ∧ a ≤ N ∧ N - a ≤ kx ∧ Hid (q.length = a) ∧ Hid (Part cmpRR S l1 q t) ∧ Hid (Own w0 base g c rest wr (q ++ l1.drop a)))
          case atStart => exact ⟨0, S, 0, [], rfl, rfl, by omega, by omega, by omega, by omega, Lib.hid rfl, Lib.hid (Part.start _ _), HR⟩
          case round =>
            clear HR
            obtain ⟨a, b, t, q, rfl, rfl, b1, b2, ha, hk, HQ, HP, HR⟩ := hrel
            have e4 : IntKind.i64.wrap ((a : Int) + (s : Int)) = ((a + s : Nat) : Int) := w64i (by omega) (by omega)
            obtain ⟨m1, hm1⟩ : ∃ m1, a + s = m1 := ⟨_, rfl⟩
            rw [hm1] at e4
            have HPR := Lib.hid (Part.pair (s := s) (t := t) (l := l1) (q := q) (by rw [HSS.out]; exact HP.out) HB.out.2.1)
            rw [HQ.out] at HPR
            obtain ⟨d, hd⟩ : ∃ d, l1.drop a = d := ⟨_, rfl⟩
            have hdl : d.length = N - a := by rw [← hd, List.length_drop, HB.out.1, HL.out]
            have HFD := Lib.hid (show ∀ y ∈ d, fine y from fun y hy => HF1.out y (List.mem_of_mem_drop (hd ▸ hy)))
            rw [hd] at HR HPR
            have HD := Lib.hid hd
            have hmm : m1 ≤ a + s ∧ a + s ≤ m1 := by omega
            clear hm1 hd
            by_cases hlt : b ≤ N
            · have hltz : (b : Int) ≤ (N : Int) := by omega
              have e5 : IntKind.i64.wrap ((b : Int) + (S : Int)) = ((b + S : Nat) : Int) := w64i (by omega) (by omega)
              obtain ⟨b', hb'⟩ : ∃ b', b + S = b' := ⟨_, rfl⟩
              rw [hb'] at e5
              have hb2 : b' ≤ b + S ∧ b + S ≤ b' := by omega
              have e6 : d.take s ++ ((d.drop s).take s ++ d.drop S) = d := by rw [show S = s + s by omega, ← List.drop_drop, List.take_append_drop, List.take_append_drop]
              have t1 : (d.take s).length = s := by rw [List.length_take]; omega
              have t2 : ((d.drop s).take s).length = s := by rw [List.length_take, List.length_drop]; omega
              have hcall := HSYM.out q (d.take s) ((d.drop s).take s) (d.drop S) a m1 b (by rw [t1, t2]; omega) (by rw [t1]; omega) (by rw [t2]; omega) HPR.out.1 HPR.out.2 (fun y hy => HFD.out y (List.mem_of_mem_take hy)) (fun y hy => HFD.out y (List.mem_of_mem_drop (List.mem_of_mem_take hy))) (by rw [e6, List.length_append, HQ.out, hdl]; omega) HQ.out (by rw [t1]; omega) (by rw [t2]; omega) wr (by rw [e6]; exact HR.out)
              have HT : Hid (((d.take s).length + ((d.drop s).take s).length = S) ∧ d.take s ++ (d.drop s).take s = d.take S) := Lib.hid ⟨by rw [t1, t2]; omega, by rw [show S = s + s by omega, List.take_add]⟩
              have HC := Lib.hid hcall
              clear hcall HR hb' hdl e6 t1 t2
              go_wp2_with fail
              refine HC.out.mono ?_
              rintro e w1 ⟨rfl, m, g1, g2, g3⟩
              have hm : m.length = S := g2.trans HT.out.1
              rw [HT.out.2] at g1
              have HP2 := Lib.hid (HP.out.step (m := m) (by rw [HQ.out, HD.out]; exact g1) hm (by rw [HQ.out, HB.out.1, HL.out]; omega))
              have HQ2 : Hid ((q ++ m).length = b) := Lib.hid (by rw [List.length_append, HQ.out, hm]; omega)
              have HR : Hid (Own w0 base g c rest w1 ((q ++ m) ++ l1.drop b)) := Lib.hid (by rw [List.append_assoc, show b = a + S by omega, ← List.drop_drop, HD.out]; exact g3)
              clear g1 g2 g3 hm HC
              go_wp2_with fail
              go_roundg (N - b)
              case measure => omega
              case rel => exact ⟨b, b', t + 1, q ++ m, rfl, rfl, hb2.1, hb2.2, hlt, Nat.le_refl _, HQ2, HP2, HR⟩
            · have hltz : ¬ (b : Int) ≤ (N : Int) := by omega
              have fin : ∀ m wr, StableOf cmpRR d m → m.length = d.length → Own w0 base g c rest wr (q ++ m) → ∃ l2 : List RR, (l2.length = l.length ∧ Blocks cmpRR S l2 ∧ ∀ x, cls cmpRR l2 x = cls cmpRR l x) ∧ Own w0 base g c rest wr l2 := fun m wr g1 g2 g3 => by
                obtain ⟨f1, f2, f3⟩ := HP.out.last (m := m) (by rw [HQ.out, HD.out]; exact g1) (by rw [HQ.out, HD.out]; exact g2) (by rw [HQ.out, HB.out.1, HL.out]; omega)
                exact ⟨_, ⟨f1.trans HB.out.1, f2, fun x => (f3 x).trans (HB.out.2.2 x)⟩, g3⟩
              have FIN := Lib.hid fin
              clear fin
              by_cases hc : m1 < N
              · have hcz : (m1 : Int) < (N : Int) := by omega
                have e6 : d.take s ++ (d.drop s ++ []) = d := by rw [List.append_nil, List.take_append_drop]
                have t1 : (d.take s).length = s := by rw [List.length_take]; omega
                have t2 : (d.drop s).length = N - m1 := by rw [List.length_drop]; omega
                have hcall := HSYM.out q (d.take s) (d.drop s) [] a m1 N (by rw [t1, t2]; omega) (by rw [t1]; omega) (by rw [t2]; omega) HPR.out.1 (by have := HPR.out.2; rwa [List.take_of_length_le (by rw [t2]; omega)] at this) (fun y hy => HFD.out y (List.mem_of_mem_take hy)) (fun y hy => HFD.out y (List.mem_of_mem_drop hy)) (by rw [e6, List.length_append, HQ.out, hdl]; omega) HQ.out (by rw [t1]; omega) (by rw [t2]; omega) wr (by rw [e6]; exact HR.out)
                have HT : Hid ((d.take s).length + (d.drop s).length = d.length) := Lib.hid (by rw [t1, t2, hdl]; omega)
                have HC := Lib.hid hcall
                clear hcall HR hdl e6 t1 t2
                go_wp2_with fail
                refine HC.out.mono ?_
                rintro e w1 ⟨rfl, m, g1, g2, g3⟩
                rw [List.take_append_drop] at g1
                rw [List.append_nil] at g3
                obtain ⟨l2, f1, f2⟩ := FIN.out m w1 g1 (g2.trans HT.out) g3
                have HB2 := Lib.hid f1
                have HR := Lib.hid f2
                clear g1 g2 g3 f1 f2 HC FIN
                go_wp2_with fail
                go_roundg (N - S)
                case measure => omega
                case rel => exact ⟨S, l2, rfl, by omega, by omega, Nat.le_refl _, HB2, HR⟩
              · have hcz : ¬ (m1 : Int) < (N : Int) := by omega
                obtain ⟨l2, f1, f2⟩ := FIN.out d wr (StableOf.refl_of (by have := HPR.out.1; rwa [List.take_of_length_le (by omega)] at this)) rfl HR.out
                have HB2 := Lib.hid f1
                have HR2 := Lib.hid f2
                clear f1 f2 FIN HR
                go_wp2_with fail
                go_roundg (N - S)
                case measure => omega
                case rel => exact ⟨S, l2, rfl, by omega, by omega, Nat.le_refl _, HB2, HR2⟩
        · have hsz : ¬ (s : Int) < (N : Int) := by omega
          go_wp2_with fail
          go_end0
          exact ⟨rfl, l1, ⟨blocks_all HB.out.2.1 (by rw [HB.out.1, HL.out]; omega), HB.out.2.2⟩, HB.out.1.trans HL.out, HR.out⟩
end Go.Proofs.Ytehdkopjgcoclaa.Rrs
namespace Go.Proofs.Ytehdkopjgcoclaa.Rrs
open Go.RowKit Go.Proofs.YtehdkopjgcoclaaW.PrintWords Go.Proofs.YtehdkopjgcoclaaW.PrintLast Go.Proofs.YtehdkopjgcoclaaW.PrintMore Go.Proofs.Ytehdkopjgcoclaa.Given Go.Proofs.Ytehdkopjgcoclaa.PRd Go.Proofs.Ytehdkopjgcoclaa.PRr Go.Proofs.Ytehdkopjgcoclaa.SetLaw
set_option linter.unusedVariables false
set_option linter.unusedSimpArgs false
def Turned (l m : List RR) (i : Nat) : Prop := m.length = l.length ∧ ∀ t, m[t]? = if t < i ∨ l.length - i ≤ t ∧ t < l.length then l[l.length - 1 - t]? else l[t]?
theorem turned_step {l m : List RR} {i j : Nat} {x y : RR} (h : Turned l m i) (hj : i + j + 1 = l.length) (hij : i < j) (hx : m[i]? = some x) (hy : m[j]? = some y) : Turned l ((m.set i y).set j x) (i + 1) := by
  have e : (m.set i y).set j x = sw m i j := by unfold sw; rw [hx, hy]
  rw [e]
  refine ⟨(sw_length _ _ _).trans h.1, fun t => ?_⟩
  rw [sw_get m i j (by rw [h.1]; omega) (by rw [h.1]; omega), h.2, h.2, h.2]
  repeat' split
  all_goals first | rfl | (exfalso; omega) | (refine congrArg (fun k => l[k]?) ?_; omega)
theorem turned_end {l m : List RR} {i : Nat} (h : Turned l m i) (hi : l.length ≤ 2 * i + 1) (hi2 : i ≤ l.length) : m = l.reverse := List.ext_getElem? fun t => by
  rw [h.2]
  by_cases ht : t < l.length
  · rw [List.getElem?_reverse ht]
    split
    · rfl
    · refine congrArg (fun k => l[k]?) ?_; omega
  · rw [if_neg (by omega), List.getElem?_eq_none (by omega), List.getElem?_eq_none (by rw [List.length_reverse]; omega)]
set_option maxHeartbeats 8000000 in
set_option maxRecDepth 100000 in
theorem rev_walk {w0 : World} {base g c : Nat} {rest : List Value} (l : List RR) {N : Nat} (hn : N ≤ 1000000) (hN : l.length = N) (w : World) (HO : Own w0 base g c rest w l) :
    Calls Try.prog 42 #[.slice (some ⟨g, 0, none⟩) N c] w fun e w' => e = .returned (.tuple #[]) ∧ Own w0 base g c rest w' l.reverse := by
  have hu22 := Try.underlying24
  have hu41 := Try.underlying33
  have HR := Lib.hid HO
  have HL := Lib.hid hN
  have e0 : IntKind.i64.wrap ((N : Int) - 1) = (N : Int) - 1 := by rw [IntKind.wrap_i64]; omega
  clear HO hN
  go_enter Try.func42, Try.ntmps42
  go_wp2_with fail
  go_loopg [2, 3] N (fun kx si sj wr => ∃ (i : Nat) (J : Int) (m : List RR), si = .int .i64 (i : Int) ∧ sj = .int .i64 J ∧ J + 1 + i ≤ N ∧ (N : Int) ≤ J + 1 + i ∧ i ≤ N ∧ N - i ≤ kx ∧ Hid (Turned l m i) ∧ Hid (Own w0 base g c rest wr m))
  case atStart => exact ⟨0, (N : Int) - 1, l, rfl, rfl, by omega, by omega, by omega, by omega, Lib.hid ⟨rfl, fun t => by rw [if_neg (by omega)]⟩, HR⟩
  case round =>
    clear HR
    obtain ⟨i, J, m, rfl, rfl, j1, j2, hi, hk, HT, HR⟩ := hrel
    by_cases hlt : (i : Int) < J
    · obtain ⟨j, rfl⟩ : ∃ j : Nat, J = (j : Int) := ⟨J.toNat, by omega⟩
      obtain ⟨x, hx⟩ := lt_some (show i < m.length by rw [HT.out.1, HL.out]; omega)
      obtain ⟨y, hy⟩ := lt_some (show j < m.length by rw [HT.out.1, HL.out]; omega)
      have HT2 := Lib.hid (turned_step HT.out (by rw [HL.out]; omega) (by omega) hx hy)
      have HS := Lib.hid (HR.out.swap hx hy).drew
      obtain ⟨D2, hy2⟩ := HR.out.next y (List.getElem?_eq_some_iff.1 hx).1 hy (show i ≠ j by omega)
      obtain ⟨x0, x1, x2, x3, x4, x5, x6, x7, x8, x9⟩ := HR.out.at5 hx
      obtain ⟨y0, y1, y2, y3, y4, y5, y6, y7, y8, y9⟩ := HR.out.at5 hy
      obtain ⟨z0, z1, z2, z3, z4, z5, z6, z7, z8, z9⟩ := D2.at5 hy2
      have p0 : (0 : Int) ≤ (i : Int) := by omega
      have p1 : (i : Int) < (N : Int) := by omega
      have p2 : (0 : Int) ≤ (j : Int) := by omega
      have p3 : (j : Int) < (N : Int) := by omega
      have e1 : IntKind.i64.wrap ((i : Int) + 1) = ((i + 1 : Nat) : Int) := w64i (by omega) (by omega)
      obtain ⟨i', hi'⟩ : ∃ i', i + 1 = i' := ⟨_, rfl⟩
      have e2 : IntKind.i64.wrap ((j : Int) - 1) = (j : Int) - 1 := by rw [IntKind.wrap_i64]; omega
      have j3 : ((j : Int) - 1) + 1 + i' ≤ N ∧ (N : Int) ≤ ((j : Int) - 1) + 1 + i' ∧ i' ≤ N ∧ N - i' < N - i := by omega
      rw [hi'] at e1 HT2
      clear HR D2 hy2 hx hy HT hi'
      go_wp2_with fail
      go_big_region
      all_goals go_wp2
      go_roundg (N - i')
      case measure => omega
      case rel => exact ⟨i', _, _, rfl, rfl, j3.1, j3.2.1, j3.2.2.1, Nat.le_refl _, HT2, HS⟩
    · go_wp2_with fail
      go_end0
      rw [← turned_end HT.out (by rw [HL.out]; omega) (by rw [HL.out]; exact hi)]
      exact ⟨rfl, HR.out⟩
end Go.Proofs.Ytehdkopjgcoclaa.Rrs
namespace Go.Proofs.Ytehdkopjgcoclaa.PSo
open Go.RowKit Go.Proofs.YtehdkopjgcoclaaW.PrintWords Go.Proofs.YtehdkopjgcoclaaW.PrintLast Go.Proofs.YtehdkopjgcoclaaW.PrintMore Go.Proofs.Ytehdkopjgcoclaa.Given Go.Proofs.Ytehdkopjgcoclaa.PRd Go.Proofs.Ytehdkopjgcoclaa.PRr
attribute [local go_sem] max2_int min2_int max_two min_two max_three min_three max_four min_four   -- for this text's walks alone
set_option linter.unusedVariables false
set_option linter.unusedSimpArgs false
def errW : Option Int → Value
 | none => .nilIface
 | some c => .iface 0 (.int .i64 c)
theorem errW_none : errW none = .nilIface := rfl
theorem errW_some (c : Int) : errW (some c) = .iface 0 (.int .i64 c) := rfl
end Go.Proofs.Ytehdkopjgcoclaa.PSo
namespace Go.Proofs.Ytehdkopjgcoclaa.PSo
open Go.RowKit Go.Proofs.YtehdkopjgcoclaaW.PrintWords Go.Proofs.YtehdkopjgcoclaaW.PrintLast Go.Proofs.YtehdkopjgcoclaaW.PrintMore Go.Proofs.Ytehdkopjgcoclaa.Given Go.Proofs.Ytehdkopjgcoclaa.PRd Go.Proofs.Ytehdkopjgcoclaa.PRr
attribute [local go_sem] max2_int min2_int max_two min_two max_three min_three max_four min_four   -- for this text's walks alone
set_option linter.unusedVariables false
set_option linter.unusedSimpArgs false
def rrset_Of_1.f (k : Nat) (a0_0 : ByteArray) (a0_1 : Int) (a0_2 : Int) (a0_3 : Int) (a0_4 : ByteArray) (a1_0 : ByteArray) (a1_1 : Int) (a1_2 : Int) (a1_3 : Int) (a1_4 : ByteArray) : Option (Bool) := (record_Compare.f k a0_0 a0_1 a0_2 a0_3 a0_4 a1_0 a1_1 a1_2 a1_3 a1_4).bind fun t103 => (some (t103 == 0))
set_option maxHeartbeats 8000000 in
set_option maxRecDepth 100000 in
theorem rrset_Of_1.calls (k : Nat) (a0_0 : ByteArray) (a0_1 : Int) (a0_2 : Int) (a0_3 : Int) (a0_4 : ByteArray) (a1_0 : ByteArray) (a1_1 : Int) (a1_2 : Int) (a1_3 : Int) (a1_4 : ByteArray) (r : Bool) (w : World) (h : rrset_Of_1.f k a0_0 a0_1 a0_2 a0_3 a0_4 a1_0 a1_1 a1_2 a1_3 a1_4 = some r) :
  Calls Try.prog 46 #[.agg #[.string a0_0, .int .i64 a0_1, .int .i64 a0_2, .int .i64 a0_3, .string a0_4], .agg #[.string a1_0, .int .i64 a1_1, .int .i64 a1_2, .int .i64 a1_3, .string a1_4]] w fun e w' => e = .returned (.bool r) ∧ Below w.heap.size w w' := by
 have hu33 := Try.underlying33
 have HB := Aside0.mk (Below.refl w.heap.size w)
 have H : ((record_Compare.f k a0_0 a0_1 a0_2 a0_3 a0_4 a1_0 a1_1 a1_2 a1_3 a1_4).bind fun t103 => (some (t103 == 0))) = some r := h
 clear h
 replace H := Option.bind_eq_some_iff.mp H
 obtain ⟨t103, A30, H⟩ := H
 replace H : (some (t103 == 0)) = some r := H
 have A3 := Aside0.mk A30
 clear A30
 obtain rfl := Option.some.inj H
 go_enter Try.func46, Try.ntmps46
 go_wp2_with (first | ((with_reducible refine gate_dst (N := 2) rfl ?_); refine box_event ?hg (N := 2) ?hd (cs := #[.string a0_0, .int .i64 a0_1, .int .i64 a0_2, .int .i64 a0_3, .string a0_4]) (t := 33) ?hr ?_; (case hd => rfl); (case hg => rfl); (case hr => first | (go_simp; done) | (go_simp; rfl)); intro gb101 hg w4 hbox hb; have n0_ := Aside0.mk (below_step (by repeat (first | (with_reducible first | exact HB.out | apply below_alloc | apply pw_below_drewN | apply below_drew1) | exact HB.out)) hb); have n1_ := Aside0.mk (hbox); have n2_ := Aside0.mk ((by rw [hg]; exact (below_size (by repeat (first | (with_reducible first | exact HB.out | apply below_alloc | apply pw_below_drewN | apply below_drew1) | exact HB.out))) : w.heap.size ≤ gb101)); have n3_ := Aside0.mk ((by rw [hg]; exact (below_size (by repeat (first | (with_reducible first | exact HB.out | apply below_alloc | apply pw_below_drewN | apply below_drew1) | exact HB.out))) : w.heap.size ≤ gb101)); clear HB; have HB := n0_; have BK101 := n1_; have GW101 := n2_; have GE101 := n3_; clear n0_ n1_ n2_ n3_; clear hb hbox hg) | ((with_reducible refine gate_dst (N := 3) rfl ?_); refine box_event ?hg (N := 3) ?hd (cs := #[.string a1_0, .int .i64 a1_1, .int .i64 a1_2, .int .i64 a1_3, .string a1_4]) (t := 33) ?hr ?_; (case hd => rfl); (case hg => rfl); (case hr => first | (go_simp; done) | (go_simp; rfl)); intro gb102 hg w5 hbox hb; have n0_ := Aside0.mk (blk_below (g := gb101) (o := .cells #[.string a0_0, .int .i64 a0_1, .int .i64 a0_2, .int .i64 a0_3, .string a0_4] 33 (0, 0)) (by (with_reducible repeat (first | refine blk_drewN ?_ _ | refine blk_drew ?_ | refine blk_alloc ?_ _)); exact BK101.out) hb); have n1_ := Aside0.mk (below_step (by repeat (first | (with_reducible first | exact HB.out | apply below_alloc | apply pw_below_drewN | apply below_drew1 | refine below_set ?_ GE101.out) | exact HB.out)) hb); have n2_ := Aside0.mk (hbox); have n3_ := Aside0.mk ((by rw [hg]; exact (below_size (by repeat (first | (with_reducible first | exact HB.out | apply below_alloc | apply pw_below_drewN | apply below_drew1 | refine below_set ?_ GE101.out) | exact HB.out))) : w.heap.size ≤ gb102)); have n4_ := Aside0.mk ((by rw [hg]; exact (below_size (by repeat (first | (with_reducible first | exact HB.out | apply below_alloc | apply pw_below_drewN | apply below_drew1 | refine below_set ?_ GE101.out) | exact HB.out))) : w.heap.size ≤ gb102)); have n5_ := Aside0.mk ((by rw [hg]; exact Nat.ne_of_lt (blk_lt (g := gb101) (o := .cells #[.string a0_0, .int .i64 a0_1, .int .i64 a0_2, .int .i64 a0_3, .string a0_4] 33 (0, 0)) (by (with_reducible repeat (first | refine blk_drewN ?_ _ | refine blk_drew ?_ | refine blk_alloc ?_ _)); exact BK101.out)) : gb101 ≠ gb102)); have n6_ := Aside0.mk ((by rw [hg]; exact Nat.ne_of_gt (blk_lt (g := gb101) (o := .cells #[.string a0_0, .int .i64 a0_1, .int .i64 a0_2, .int .i64 a0_3, .string a0_4] 33 (0, 0)) (by (with_reducible repeat (first | refine blk_drewN ?_ _ | refine blk_drew ?_ | refine blk_alloc ?_ _)); exact BK101.out)) : gb102 ≠ gb101)); clear BK101; clear HB; have BK101 := n0_; have HB := n1_; have BK102 := n2_; have GW102 := n3_; have GE102 := n4_; have NB101_102 := n5_; have NB102_101 := n6_; clear n0_ n1_ n2_ n3_ n4_ n5_ n6_; clear hb hbox hg; have hnb6 := NB101_102.out; have hnc6 := NB102_101.out; have hcz7_0 : w5.cell? ⟨gb101, 0, none⟩ = some (.string a0_0) := (blk_cell BK101.out 0).trans rfl; have hcz7_1 : w5.cell? ⟨gb101, 1, none⟩ = some (.int .i64 a0_1) := (blk_cell BK101.out 1).trans rfl; have hcz7_2 : w5.cell? ⟨gb101, 2, none⟩ = some (.int .i64 a0_2) := (blk_cell BK101.out 2).trans rfl; have hcz7_3 : w5.cell? ⟨gb101, 3, none⟩ = some (.int .i64 a0_3) := (blk_cell BK101.out 3).trans rfl; have hcz7_4 : w5.cell? ⟨gb101, 4, none⟩ = some (.string a0_4) := (blk_cell BK101.out 4).trans rfl; have hfz7_0 := blk_frozen BK101.out 0; have hfz7_1 := blk_frozen BK101.out 1; have hfz7_2 := blk_frozen BK101.out 2; have hfz7_3 := blk_frozen BK101.out 3; have hfz7_4 := blk_frozen BK101.out 4; have hcz8_0 : w5.cell? ⟨gb102, 0, none⟩ = some (.string a1_0) := (blk_cell BK102.out 0).trans rfl; have hcz8_1 : w5.cell? ⟨gb102, 1, none⟩ = some (.int .i64 a1_1) := (blk_cell BK102.out 1).trans rfl; have hcz8_2 : w5.cell? ⟨gb102, 2, none⟩ = some (.int .i64 a1_2) := (blk_cell BK102.out 2).trans rfl; have hcz8_3 : w5.cell? ⟨gb102, 3, none⟩ = some (.int .i64 a1_3) := (blk_cell BK102.out 3).trans rfl; have hcz8_4 : w5.cell? ⟨gb102, 4, none⟩ = some (.string a1_4) := (blk_cell BK102.out 4).trans rfl; have hfz8_0 := blk_frozen BK102.out 0; have hfz8_1 := blk_frozen BK102.out 1; have hfz8_2 := blk_frozen BK102.out 2; have hfz8_3 := blk_frozen BK102.out 3; have hfz8_4 := blk_frozen BK102.out 4) | ((with_reducible refine gate_callee (f := 44) rfl ?_); refine goesL_ (some 7) rfl rfl Try.func44 (by kernel_rfl) rfl #[.agg #[.string a0_0, .int .i64 a0_1, .int .i64 a0_2, .int .i64 a0_3, .string a0_4], .agg #[.string a1_0, .int .i64 a1_1, .int .i64 a1_2, .int .i64 a1_3, .string a1_4]] rfl (by (try simp only [List.map_toArray, List.map_cons, List.map_nil]); first | done | rfl | (simp only [List.length_drop, List.length_take]; rfl)) ?_; (with_reducible refine (record_Compare.calls k a0_0 a0_1 a0_2 a0_3 a0_4 a1_0 a1_1 a1_2 a1_3 a1_4 t103 _ A3.out).mono ?_); rintro e w9 ⟨rfl, hb⟩; refine ⟨_, rfl, ?_⟩; have n0_ := Aside0.mk (blk_below (g := gb101) (o := .cells #[.string a0_0, .int .i64 a0_1, .int .i64 a0_2, .int .i64 a0_3, .string a0_4] 33 (0, 0)) (by (with_reducible repeat (first | refine blk_drewN ?_ _ | refine blk_drew ?_ | refine blk_alloc ?_ _)); exact BK101.out) hb); have n1_ := Aside0.mk (blk_below (g := gb102) (o := .cells #[.string a1_0, .int .i64 a1_1, .int .i64 a1_2, .int .i64 a1_3, .string a1_4] 33 (0, 0)) (by (with_reducible repeat (first | refine blk_drewN ?_ _ | refine blk_drew ?_ | refine blk_alloc ?_ _)); exact BK102.out) hb); have n2_ := Aside0.mk (below_step (by repeat (first | (with_reducible first | exact HB.out | apply below_alloc | apply pw_below_drewN | apply below_drew1 | refine below_set ?_ GE101.out | refine below_set ?_ GE102.out) | exact HB.out)) hb); clear BK101; clear BK102; clear HB; have BK101 := n0_; have BK102 := n1_; have HB := n2_; clear n0_ n1_ n2_; (try clear hb); (try clear hb2); (try clear hk); (try clear hi)))
 go_ret
 exact ⟨by first | rfl | (simp [errW_none, errW_some] <;> rfl) | (simp [*, errW_none, errW_some] <;> rfl), by repeat (first | (with_reducible first | exact HB.out | apply below_alloc | apply pw_below_drewN | apply below_drew1 | refine below_set ?_ GE101.out | refine below_set ?_ GE102.out) | exact HB.out)⟩
end Go.Proofs.Ytehdkopjgcoclaa.PSo
namespace Go.Proofs.Ytehdkopjgcoclaa.Rrs
open Go.RowKit Go.Proofs.YtehdkopjgcoclaaW.PrintWords Go.Proofs.YtehdkopjgcoclaaW.PrintLast Go.Proofs.YtehdkopjgcoclaaW.PrintMore Go.Proofs.Ytehdkopjgcoclaa.Given Go.Proofs.Ytehdkopjgcoclaa.PRd Go.Proofs.Ytehdkopjgcoclaa.PRr Go.Proofs.Ytehdkopjgcoclaa.PSo
set_option linter.unusedVariables false
set_option linter.unusedSimpArgs false
def compG {α : Type} (e : α → α → Bool) : α → List α → List α
  | _, [] => []
  | a, b :: l => if e b a = true then compG e b l else b :: compG e b l
def comp {α : Type} (e : α → α → Bool) : List α → List α
  | [] => []
  | a :: l => a :: compG e a l
theorem compG_snoc {α : Type} (e : α → α → Bool) (x : α) : ∀ (l : List α) (a : α), compG e a (l ++ [x]) = compG e a l ++ (if e x (l.getLastD a) = true then [] else [x])
  | [], a => by
    simp only [List.nil_append, compG, List.getLastD_nil]
    rfl
  | b :: l, a => by
    have ih := compG_snoc e x l b
    simp only [List.cons_append, compG, List.getLastD_cons]
    rw [ih]
    split <;> simp
theorem comp_take {α : Type} (e : α → α → Bool) (l : List α) (t : Nat) (ht : t + 1 < l.length) : comp e (l.take (t + 2)) = comp e (l.take (t + 1)) ++ (if e l[t + 1] l[t] = true then [] else [l[t + 1]]) := by
  cases l with
  | nil => simp at ht
  | cons a l =>
    have h1 : t < l.length := by simpa using ht
    have e1 : l.take (t + 1) = l.take t ++ [l[t]] := by rw [List.take_succ_eq_append_getElem h1]
    have e2 : (l.take t).getLastD a = (a :: l)[t]'(by simp; omega) := by
      cases t with
      | zero => rfl
      | succ t =>
        rw [List.take_succ_eq_append_getElem (show t < l.length by omega), List.getLastD_concat]
        rfl
    rw [List.take_succ_cons, List.take_succ_cons, comp, comp, e1, compG_snoc, List.cons_append, e2]
    rfl
theorem comp_same {α : Type} (e : α → α → Bool) (l : List α) : ∀ t, t ≤ l.length → (∀ j (hj : j + 1 < l.length), j + 1 < t → e l[j + 1] l[j] = false) → comp e (l.take t) = l.take t := by
  intro t
  induction t with
  | zero => intro _ _; rw [List.take_zero]; rfl
  | succ t ih =>
    intro ht h
    cases t with
    | zero =>
      cases l with
      | nil => simp at ht
      | cons a l => rfl
    | succ t =>
      rw [comp_take e l t (by omega), ih (by omega) (fun j hj h1 => h j hj (by omega)), h t (by omega) (by omega)]
      simp only [Bool.false_eq_true, if_false]
      rw [List.take_succ_eq_append_getElem (show t + 1 < l.length by omega)]
theorem set_at_ {α : Type} (p s : List α) (x y : α) : (p ++ x :: s).set p.length y = p ++ y :: s := by
  rw [List.set_append_right _ _ (Nat.le_refl _), Nat.sub_self, List.set_cons_zero]
theorem zeros_flat (m : Nat) : (Builtin.zeroCells zRR.cells m).toList = flat (List.replicate m (⟨⟨#[]⟩, 0, 0, 0, ⟨#[]⟩⟩ : RR)) := by
  exact reps_flat (R := fun x cs => cs = cellsR x) (fun x cs h => h) _ _ (Kd.reps_zeros (z := zRR) (size := 5) (z0 := (⟨⟨#[]⟩, 0, 0, 0, ⟨#[]⟩⟩ : RR)) rfl (by decide) rfl m)
theorem run_clearN (w : World) (ty : TypeId) (g cap q : Nat) (base : Nat) (l : List RR) (rest : List Value) (h : Row w base g cap l rest) (hq : q < l.length) (cc : Nat) :
    ∃ rest', Row (w.setRow g ((flat l ++ rest).take (q * 5) ++ (Builtin.zeroCells zRR.cells (l.length - q)).toList ++ (flat l ++ rest).drop (q * 5 + (Builtin.zeroCells zRR.cells (l.length - q)).toList.length)).toArray) base g cap (l.take q) rest' ∧
    (Builtin.clear_ #[24] ty #[.slice (some ⟨g, q * 5, none⟩) (l.length - q) cc]).run Try.prog w = .ok (.tuple #[]) (w.setRow g ((flat l ++ rest).take (q * 5) ++ (Builtin.zeroCells zRR.cells (l.length - q)).toList ++ (flat l ++ rest).drop (q * 5 + (Builtin.zeroCells zRR.cells (l.length - q)).toList.length)).toArray) := by
  obtain ⟨i0, hi0, hz0, hzs, hzb⟩ := info_parts_RR
  have hu22 := Try.underlying24
  obtain ⟨zs, hzz⟩ : ∃ zs, (Builtin.zeroCells zRR.cells (l.length - q)).toList = zs := ⟨_, rfl⟩
  have hzl : zs.length = (l.length - q) * 5 := by rw [← hzz, zeros_flat, flat_length, List.length_replicate]
  have hone : ∀ v ∈ zs, v.oneCell' = true := by rw [← hzz, zeros_flat]; exact flat_one _
  have hfl := flat_length l
  have hfit : q * 5 + 0 + zs.length ≤ (flat l ++ rest).toArray.size := by rw [List.size_toArray, List.length_append, hfl]; omega
  have hst := run_storeCells_at Try.prog g (q * 5) tRR zs 0 (flat l ++ rest).toArray w h.blk hfit hone
  rw [hzz]
  have htk : (flat l ++ rest).take (q * 5) = flat (l.take q) := by rw [List.take_append_of_le_length (by rw [hfl]; omega), flat_take l q (by omega)]
  refine ⟨zs ++ (flat l ++ rest).drop (q * 5 + zs.length), ⟨?_, h.lo, h.fits, ?_⟩, ?_⟩
  · rw [setRow_heap _ g _ _ _ _ h.blk, htk, List.append_assoc]
  · have := h.len
    rw [List.length_take, List.length_append, List.length_drop, List.length_append, hfl]; omega
  · have hne : ¬ (l.length - q = 0) := by omega
    obtain ⟨m, hm⟩ : ∃ m, l.length - q = m + 1 := ⟨l.length - q - 1, by omega⟩
    rw [hm] at hzz ⊢
    simp only [Nat.add_zero, List.toList_toArray] at hst
    simp [Builtin.clear_, run_underlying hu22, zeroValue, typeInfo, hi0, hz0, hzz, hst]
theorem eq_calls (k : Nat) (y x : RR) (c : Bool) (w : World) (h : rrset_Of_1.f k y.f0 y.f1 y.f2 y.f3 y.f4 x.f0 x.f1 x.f2 x.f3 x.f4 = some c) :
    Calls Try.prog 46 #[y.v, x.v] w fun e w' => e = .returned (.bool c) ∧ Below w.heap.size w w' := rrset_Of_1.calls k _ _ _ _ _ _ _ _ _ _ c w h
set_option maxHeartbeats 8000000 in
set_option maxRecDepth 100000 in
theorem compact_any (K : Nat) (l : List RR) (e : RR → RR → Bool) (he : ∀ x ∈ l, ∀ y ∈ l, rrset_Of_1.f K x.f0 x.f1 x.f2 x.f3 x.f4 y.f0 y.f1 y.f2 y.f3 y.f4 = some (e x y)) (hn : l.length ≤ 1000000) (h2 : 2 ≤ l.length) (base : Nat) (ok : Nat → Prop) (w0 w : World) (hB : Below base w0 w) (g c : Nat) (rest : List Value) (HO : Row w base g c l rest) (hok : ok g) :
    Calls Try.prog 45 #[.slice (some ⟨g, 0, none⟩) l.length c, .func (.func 46) #[] #[]] w fun en w' => ∃ v', en = .returned v' ∧ Kd.R kRR tRR w' base ok v' (comp e l) ∧ Below base w0 w' := by
  have hu22 := Try.underlying24
  have hu41 := Try.underlying33
  have HE := Lib.hid he
  have HOK := Lib.hid hok
  have HB := Lib.hid hB
  have HR := Lib.hid HO
  have hcf : c ≤ 9223372036854775807 := by have := HO.fits; unfold maxLen at this; exact this
  have hlc : l.length ≤ c := by have := HO.len; omega
  obtain ⟨n, hnn⟩ : ∃ n, l.length = n := ⟨_, rfl⟩
  have HN := Lib.hid hnn
  rw [hnn] at hn h2 hlc ⊢
  clear he hB HO hok hnn
  go_enter Try.func45, Try.ntmps45
  have b0 : ¬ ((n : Int) < 2) := by omega
  go_wp2_with fail
  go_loopg [5] n (fun kx s5 wr => ∃ k : Nat, s5 = .int .i64 (k : Int) ∧ 1 ≤ k ∧ k ≤ n ∧ n - k ≤ kx ∧ Hid (∀ j (hj : j + 1 < l.length), j + 1 < k → e l[j + 1] l[j] = false) ∧ Hid (Below base w0 wr) ∧ Hid (Row wr base g c l rest))
  case atStart => exact ⟨1, rfl, by omega, by omega, by omega, Lib.hid (fun j hj h => by omega), Lib.hid HB.out, Lib.hid HR.out⟩
  case round =>
    clear HB HR
    obtain ⟨k, rfl, hk1, hkn, hkx, HS, HB, HR⟩ := hrel
    by_cases hlt : k < n
    · obtain ⟨j, rfl⟩ : ∃ j, k = j + 1 := ⟨k - 1, by omega⟩
      have p1 : (0 : Int) ≤ ((j + 1 : Nat) : Int) := by omega
      have q1 : ((j + 1 : Nat) : Int) < (l.length : Int) := by rw [HN.out]; omega
      have p2 : (0 : Int) ≤ (j : Int) := by omega
      have q2 : (j : Int) < (l.length : Int) := by rw [HN.out]; omega
      obtain ⟨ad, e1, hx0, hx1, hx2, hx3, hx4⟩ := at_T33 (Kd.R_reads' (HR.out.R (ok := fun _ => True) trivial)).2.2 ((j + 1 : Nat) : Int) p1 q1
      cases e1
      obtain ⟨ad, e1, hy0, hy1, hy2, hy3, hy4⟩ := at_T33 (Kd.R_reads' (HR.out.R (ok := fun _ => True) trivial)).2.2 (j : Int) p2 q2
      cases e1
      rw [Int.toNat_natCast] at hx0 hx1 hx2 hx3 hx4 hy0 hy1 hy2 hy3 hy4
      simp only [Addr.add_lit, Nat.zero_add] at hx0 hx1 hx2 hx3 hx4 hy0 hy1 hy2 hy3 hy4
      have hl1 : rdR l ((j + 1 : Nat) : Int) ∈ l := by rw [rdR_get l _ (by rw [HN.out]; exact hlt)]; exact List.getElem_mem _
      have hl0 : rdR l (j : Nat) ∈ l := by rw [rdR_get l _ (by rw [HN.out]; omega)]; exact List.getElem_mem _
      have hcall := eq_calls K (rdR l ((j + 1 : Nat) : Int)) (rdR l (j : Nat)) (e (rdR l ((j + 1 : Nat) : Int)) (rdR l (j : Nat))) wr.drew (HE.out _ hl1 _ hl0)
      have HCALL := Lib.hid hcall
      clear hcall hl1 hl0 p1 q1 p2 q2
      have g1 : ((j + 1 : Nat) : Int) = (j : Int) + 1 := by omega
      have g2 : (j : Int) + 1 < (n : Int) := by omega
      have g3 : (0 : Int) ≤ (j : Int) := by omega
      have g4 : (j : Int) < (n : Int) := by omega
      have g5 : (0 : Int) ≤ (j : Int) + 1 := by omega
      have g6 : ((j : Int) + 1).toNat = j + 1 := by omega
      have g7 : (j : Int) + 1 - 1 = (j : Int) := by omega
      have hw0 : IntKind.i64.wrap (j : Int) = (j : Int) := by rw [IntKind.wrap_i64]; omega
      have hw1 : IntKind.i64.wrap ((j : Int) + 1) = (j : Int) + 1 := by rw [IntKind.wrap_i64]; omega
      have hw2 : IntKind.i64.wrap ((j : Int) + 1 + 1) = (j : Int) + 1 + 1 := by rw [IntKind.wrap_i64]; omega
      rw [g1]
      clear g1
      go_wp2_with fail
      go_still_tail 10, (by kernel_rfl)
      change wpList _ _ _ _ _ wr.drew
      have HB1 := Lib.hid (below_drew1 HB.out)
      have HR1 := Lib.hid (HR.out.drew)
      clear HB HR hx0 hx1 hx2 hx3 hx4 hy0 hy1 hy2 hy3 hy4
      generalize wr.drew = wd at HB1 HR1 HCALL
      go_wp2_with fail
      refine (HCALL.out).mono ?_
      rintro en w4 ⟨rfl, hb4⟩
      have HB4 := Lib.hid (below_then HB1.out (Nat.le_trans HR1.out.lo (Nat.le_of_lt (blk_lt HR1.out.blk))) hb4)
      have HR4 := Lib.hid (HR1.out.below hb4)
      clear hb4 HB1 HR1 HCALL
      generalize hd : e (rdR l ((j + 1 : Nat) : Int)) (rdR l (j : Nat)) = d
      have HD := Lib.hid hd
      clear hd
      cases d with
      | false =>
        go_wp2_with fail
        go_roundg (n - (j + 2))
        case measure => omega
        case rel => exact ⟨j + 2, by rw [show ((j + 2 : Nat) : Int) = (j : Int) + 1 + 1 by omega], by omega, by omega, Nat.le_refl _, Lib.hid (fun i hi h1 => by
          by_cases h2 : i = j
          · subst h2
            have := HD.out
            rw [rdR_get l _ hi, rdR_get l _ (by omega)] at this
            exact this
          · exact HS.out i hi (by omega)), HB4, HR4⟩
      | true =>
        have hc0 : comp e (l.take (j + 1 + 0 + 1)) = l.take (j + 1) := by
          rw [show j + 1 + 0 + 1 = j + 2 by omega, comp_take e l j (by rw [HN.out]; omega)]
          have h1 := HD.out
          rw [rdR_get l _ (by rw [HN.out]; omega), rdR_get l _ (by rw [HN.out]; omega)] at h1
          rw [h1, if_pos rfl, List.append_nil]
          exact comp_same e l (j + 1) (by rw [HN.out]; omega) (fun i hi h1 => HS.out i hi h1)
        have HC0 := Lib.hid hc0
        clear hc0 HD HS hkx hk1 hkn
        go_wp2_with fail
        go_loopg [5, 7] n (fun kx s5 s7 wr => ∃ q t : Nat, s5 = .int .i64 (q : Int) ∧ s7 = .int .i64 ((t : Int) + 1) ∧ j + 1 ≤ q ∧ q ≤ j + 1 + t ∧ j + 1 + t + 1 ≤ n ∧ n - t ≤ kx ∧ Hid ((comp e (l.take (j + 1 + t + 1))).length = q) ∧ Hid (Below base w0 wr) ∧ Hid (Row wr base g c (comp e (l.take (j + 1 + t + 1)) ++ l.drop q) rest))
        case atStart => exact ⟨j + 1, 0, by rw [show ((j + 1 : Nat) : Int) = (j : Int) + 1 by omega], rfl, Nat.le_refl _, by omega, by omega, by omega, Lib.hid (by rw [HC0.out, List.length_take, HN.out]; omega), HB4, Lib.hid (by rw [HC0.out, List.take_append_drop]; exact HR4.out)⟩
        case round =>
          clear HB4 HR4 HC0
          obtain ⟨q, t, rfl, rfl, hq1, hq2, hq3, hkx2, HL, HB, HR⟩ := hrel
          obtain ⟨cur, hcur⟩ : ∃ cur, comp e (l.take (j + 1 + t + 1)) ++ l.drop q = cur := ⟨_, rfl⟩
          have HCU := Lib.hid hcur
          rw [hcur] at HR
          have hcl : cur.length = n := by rw [← hcur, List.length_append, HL.out, List.length_drop, HN.out]; omega
          have HCL := Lib.hid hcl
          have hrd : ∀ i : Nat, q ≤ i → i < n → rdR cur (i : Nat) = rdR l (i : Nat) := fun i h1 h2 => by
            rw [rdR_get cur i (by omega), rdR_get l i (by rw [HN.out]; exact h2)]
            have : cur[i]? = l[i]? := by
              rw [← hcur, List.getElem?_append_right (by rw [HL.out]; exact h1), HL.out, List.getElem?_drop]
              congr 1; omega
            rw [List.getElem?_eq_getElem (by omega), List.getElem?_eq_getElem (by rw [HN.out]; exact h2)] at this
            exact Option.some.inj this
          have HRD := Lib.hid hrd
          clear hcur hcl hrd
          by_cases hlt2 : j + 1 + t + 1 < n
          · obtain ⟨ad, e1, hx0, hx1, hx2, hx3, hx4⟩ := at_T33 (Kd.R_reads' (HR.out.R (ok := fun _ => True) trivial)).2.2 ((j + 1 + t + 1 : Nat) : Int) (by omega) (by rw [HCL.out]; omega)
            cases e1
            obtain ⟨ad, e1, hy0, hy1, hy2, hy3, hy4⟩ := at_T33 (Kd.R_reads' (HR.out.R (ok := fun _ => True) trivial)).2.2 ((j + 1 + t : Nat) : Int) (by omega) (by rw [HCL.out]; omega)
            cases e1
            have hA : (j + 1 + t + 1) * 5 = (j + 1) * 5 + (t + 1) * 5 := by omega
            have hA2 : (j + 1 + t) * 5 = (j + 1) * 5 + t * 5 := by omega
            have r1 := HRD.out (j + 1 + t + 1) (by omega) hlt2
            have r2 := HRD.out (j + 1 + t) (by omega) (by omega)
            simp only [Int.toNat_natCast, Addr.add_lit, Nat.zero_add] at hx0 hx1 hx2 hx3 hx4 hy0 hy1 hy2 hy3 hy4
            rw [hA] at hx0 hx1 hx2 hx3 hx4
            rw [hA2] at hy0 hy1 hy2 hy3 hy4
            rw [show rd_T33 cur ((j + 1 + t + 1 : Nat) : Int) = rdR l ((j + 1 + t + 1 : Nat) : Int) from r1] at hx0 hx1 hx2 hx3 hx4
            rw [show rd_T33 cur ((j + 1 + t : Nat) : Int) = rdR l ((j + 1 + t : Nat) : Int) from r2] at hy0 hy1 hy2 hy3 hy4
            have hl1 : rdR l ((j + 1 + t + 1 : Nat) : Int) ∈ l := by rw [rdR_get l _ (by rw [HN.out]; exact hlt2)]; exact List.getElem_mem _
            have hl0 : rdR l ((j + 1 + t : Nat) : Int) ∈ l := by rw [rdR_get l _ (by rw [HN.out]; omega)]; exact List.getElem_mem _
            obtain ⟨x, hxx⟩ : ∃ x, rdR l ((j + 1 + t + 1 : Nat) : Int) = x := ⟨_, rfl⟩
            obtain ⟨y, hyy⟩ : ∃ y, rdR l ((j + 1 + t : Nat) : Int) = y := ⟨_, rfl⟩
            rw [hxx] at hx0 hx1 hx2 hx3 hx4 hl1
            rw [hyy] at hy0 hy1 hy2 hy3 hy4 hl0
            have HX := Lib.hid hxx
            have HY := Lib.hid hyy
            have hcall := eq_calls K x y (e x y) wr.drew (HE.out _ hl1 _ hl0)
            have HCALL := Lib.hid hcall
            clear hcall hl1 hl0 r1 r2 hA hA2 hxx hyy
            have k1 : (t : Int) + 1 < ((n - (j + 1) : Nat) : Int) := by omega
            have k2 : (0 : Int) ≤ (t : Int) := by omega
            have k3 : (t : Int) < ((n - (j + 1) : Nat) : Int) := by omega
            have k4 : (0 : Int) ≤ (t : Int) + 1 := by omega
            have k5 : ((t : Int) + 1).toNat = t + 1 := by omega
            have k6 : (t : Int) + 1 - 1 = (t : Int) := by omega
            have k7 : IntKind.i64.wrap (t : Int) = (t : Int) := by rw [IntKind.wrap_i64]; omega
            have k8 : IntKind.i64.wrap ((t : Int) + 1) = (t : Int) + 1 := by rw [IntKind.wrap_i64]; omega
            have k9 : IntKind.i64.wrap ((t : Int) + 1 + 1) = (t : Int) + 1 + 1 := by rw [IntKind.wrap_i64]; omega
            go_wp2_with fail
            go_still_tail 10, (by kernel_rfl)
            change wpList _ _ _ _ _ wr.drew
            have HB1 := Lib.hid (below_drew1 HB.out)
            have HR1 := Lib.hid (HR.out.drew)
            clear HB HR hx0 hx1 hx2 hx3 hx4 hy0 hy1 hy2 hy3 hy4
            generalize wr.drew = wd at HB1 HR1 HCALL
            go_wp2_with fail
            refine (HCALL.out).mono ?_
            rintro en w5 ⟨rfl, hb5⟩
            have HB5 := Lib.hid (below_then HB1.out (Nat.le_trans HR1.out.lo (Nat.le_of_lt (blk_lt HR1.out.blk))) hb5)
            have HR5 := Lib.hid (HR1.out.below hb5)
            clear hb5 HB1 HR1 HCALL
            generalize hd : e x y = d
            have HD := Lib.hid hd
            clear hd
            have hct := comp_take e l (j + 1 + t) (by rw [HN.out]; exact hlt2)
            rw [show l[j + 1 + t + 1]'(by rw [HN.out]; exact hlt2) = x by rw [← HX.out, rdR_get l _ (by rw [HN.out]; exact hlt2)], show l[j + 1 + t]'(by rw [HN.out]; omega) = y by rw [← HY.out, rdR_get l _ (by rw [HN.out]; omega)], HD.out] at hct
            have HCT := Lib.hid hct
            clear hct
            cases d with
            | true =>
              have hc1 : comp e (l.take (j + 1 + (t + 1) + 1)) = comp e (l.take (j + 1 + t + 1)) := by
                rw [show j + 1 + (t + 1) + 1 = j + 1 + t + 2 by omega, HCT.out, if_pos rfl, List.append_nil]
              have HC1 := Lib.hid hc1
              clear hc1
              go_wp2_with fail
              go_roundg (n - (t + 1))
              case measure => omega
              case rel => exact ⟨q, t + 1, rfl, by rw [show ((t + 1 : Nat) : Int) + 1 = (t : Int) + 1 + 1 by omega], hq1, by omega, by omega, Nat.le_refl _, Lib.hid (by rw [HC1.out]; exact HL.out), HB5, Lib.hid (by rw [HC1.out, HCU.out]; exact HR5.out)⟩
            | false =>
              obtain ⟨ad, e1, hx0, hx1, hx2, hx3, hx4⟩ := at_T33 (Kd.R_reads' (HR5.out.R (ok := fun _ => True) trivial)).2.2 ((j + 1 + t + 1 : Nat) : Int) (by omega) (by rw [HCL.out]; omega)
              cases e1
              obtain ⟨ad, e1, hy0, hy1, hy2, hy3, hy4⟩ := at_T33 (Kd.R_reads' (HR5.out.R (ok := fun _ => True) trivial)).2.2 (q : Int) (by omega) (by rw [HCL.out]; omega)
              cases e1
              have hA : (j + 1 + t + 1) * 5 = (j + 1) * 5 + (t + 1) * 5 := by omega
              have r1 := HRD.out (j + 1 + t + 1) (by omega) hlt2
              simp only [Int.toNat_natCast, Addr.add_lit, Nat.zero_add] at hx0 hx1 hx2 hx3 hx4 hy0 hy1 hy2 hy3 hy4
              rw [hA] at hx0 hx1 hx2 hx3 hx4
              rw [show rd_T33 cur ((j + 1 + t + 1 : Nat) : Int) = rdR l ((j + 1 + t + 1 : Nat) : Int) from r1, HX.out] at hx0 hx1 hx2 hx3 hx4
              clear hA r1
              have f0 := blk_frozen HR5.out.blk (q * 5)
              have f1 := blk_frozen HR5.out.blk (q * 5 + 1)
              have f2 := blk_frozen HR5.out.blk (q * 5 + 2)
              have f3 := blk_frozen HR5.out.blk (q * 5 + 3)
              have f4 := blk_frozen HR5.out.blk (q * 5 + 4)
              have m1 : (0 : Int) ≤ (q : Int) := by omega
              have m2 : (q : Int) < (n : Int) := by omega
              have m3 : IntKind.i64.wrap ((q : Int) + 1) = (q : Int) + 1 := by rw [IntKind.wrap_i64]; omega
              have hrow := HR5.out.put x q (by rw [HCL.out]; omega) _ _ _ _ _ rfl
              have hset : cur.set q x = comp e (l.take (j + 1 + (t + 1) + 1)) ++ l.drop (q + 1) := by
                have hd : l.drop q = (l[q]'(by rw [HN.out]; omega)) :: l.drop (q + 1) := List.drop_eq_getElem_cons _
                rw [show j + 1 + (t + 1) + 1 = j + 1 + t + 2 by omega, HCT.out, if_neg (by decide), ← HCU.out, hd]
                have := set_at_ (comp e (l.take (j + 1 + t + 1))) (l.drop (q + 1)) (l[q]'(by rw [HN.out]; omega)) x
                rw [HL.out] at this
                rw [this]; simp
              rw [hset] at hrow
              have hlen : (comp e (l.take (j + 1 + (t + 1) + 1))).length = q + 1 := by
                rw [show j + 1 + (t + 1) + 1 = j + 1 + t + 2 by omega, HCT.out, if_neg (by decide), List.length_append, HL.out]; rfl
              have hge : base ≤ g := HR5.out.lo
              have hBF := ((((HB5.out.setCell (p := ⟨g, q * 5, none⟩) hge (.string x.f0)).setCell (p := ⟨g, q * 5 + 1, none⟩) hge (.int .i64 x.f1)).setCell (p := ⟨g, q * 5 + 2, none⟩) hge (.int .i64 x.f2)).setCell (p := ⟨g, q * 5 + 3, none⟩) hge (.int .i64 x.f3)).setCell (p := ⟨g, q * 5 + 4, none⟩) hge (.string x.f4)
              have HROW := Lib.hid hrow
              have HBF := Lib.hid hBF
              have HLEN := Lib.hid hlen
              clear hrow hBF hlen hset hge
              go_wp2_with fail
              go_roundg (n - (t + 1))
              case measure => omega
              case rel => exact ⟨q + 1, t + 1, by rw [show ((q + 1 : Nat) : Int) = (q : Int) + 1 by omega], by rw [show ((t + 1 : Nat) : Int) + 1 = (t : Int) + 1 + 1 by omega], by omega, by omega, by omega, Nat.le_refl _, HLEN, HBF, HROW⟩
          · obtain ⟨rest', hrow, hrun⟩ := run_clearN wr 0 g c q base cur rest HR.out (by rw [HCL.out]; omega) (c - q)
            have htk : cur.take q = comp e l := by
              rw [← HCU.out, List.take_append_of_le_length (by rw [HL.out]; exact Nat.le_refl _), List.take_of_length_le (by rw [HL.out]; exact Nat.le_refl _), List.take_of_length_le (by rw [HN.out]; omega)]
            rw [htk, HCL.out] at hrow
            rw [HCL.out] at hrun
            have hql : (comp e l).length = q := by rw [← htk, List.length_take, HCL.out]; omega
            obtain ⟨w6, hw6⟩ : ∃ w6, w6 = (wr.setRow g ((flat cur ++ rest).take (q * 5) ++ (Builtin.zeroCells zRR.cells (n - q)).toList ++ (flat cur ++ rest).drop (q * 5 + (Builtin.zeroCells zRR.cells (n - q)).toList.length)).toArray) := ⟨_, rfl⟩
            rw [← hw6] at hrow hrun
            have hgw : wr.grownBy w6 (some g) := by rw [hw6]; exact ⟨rfl, rfl, rfl, by simp, fun k hk hkg => setRow_other _ _ _ _ (fun e => hkg (by rw [e]))⟩
            have hBF := HB.out.grown hgw (Nat.le_trans HR.out.lo (Nat.le_of_lt (blk_lt HR.out.blk))) (fun k hk => by injection hk with hk; subst hk; exact HR.out.lo)
            have HROW := Lib.hid hrow
            have HBF := Lib.hid hBF
            have HQL := Lib.hid hql
            have HRUN := Lib.hid hrun
            have c1 : ¬ ((t : Int) + 1 < ((n - (j + 1) : Nat) : Int)) := by omega
            have c2 : (0 : Int) ≤ (q : Int) := by omega
            have c3 : (q : Int) ≤ (n : Int) := by omega
            have c4 : ¬ (c = q) := by omega
            have c5 : (q : Int) ≤ (c : Int) := by omega
            have c6 : q ≤ n := by omega
            clear hrow hBF hgw hrun htk hql hw6 HB HR
            go_wp2_with fail
            rw [HRUN.out, Result.andThen_ok, Oper.upon_value]
            rename_i K1 hK1
            first | refine hK1 _ _ ?_ | (rename_i K2 hK2; refine hK2 _ _ ?_)
            simp only [Act.put]
            go_wp2_with fail
            go_ret
            have hR := HROW.out.R HOK.out
            rw [HQL.out] at hR
            exact ⟨_, rfl, hR, HBF.out⟩
    · obtain rfl : k = n := by omega
      have b1 : ¬ ((k : Int) < (k : Int)) := by omega
      go_wp2_with fail
      go_ret
      have hs := comp_same e l l.length (Nat.le_refl _) (fun i hi h1 => HS.out i hi (by rw [← HN.out]; exact h1))
      rw [List.take_length] at hs
      rw [hs, ← HN.out]
      exact ⟨_, rfl, HR.out.R HOK.out, HB.out⟩
end Go.Proofs.Ytehdkopjgcoclaa.Rrs
namespace Go.Proofs.Ytehdkopjgcoclaa.SetLaw
set_option linter.unusedVariables false
open Go.Proofs.Ytehdkopjgcoclaa.Rrs
theorem compG_cong {α : Type} {c : α → α → Int} (O : POrd c) (l : List α) {a b : α} (h : c a b = 0) : compG (fun x y => c x y == 0) b l = compG (fun x y => c x y == 0) a l := by
  cases l with
  | nil => rfl
  | cons x l => rw [compG, compG, O.congr a b x h]
theorem comp_firsts {α : Type} {c : α → α → Int} (O : POrd c) : ∀ (n : Nat) (l : List α), l.length = n → comp (fun x y => c x y == 0) l = firsts c l := by
  intro n
  induction n with
  | zero => intro l h; obtain rfl := List.length_eq_zero_iff.mp h; rw [firsts, comp]
  | succ n ih =>
    intro l h
    match l, h with
    | [a], _ => rw [firsts, comp, compG]
    | a :: b :: l, h =>
      rw [firsts, comp, compG]
      by_cases h0 : c a b = 0
      · have h1 : (c b a == 0) = true := by rw [beq_iff_eq]; exact O.symm h0
        rw [if_pos h1, if_pos h0, compG_cong O l h0, ← ih (a :: l) (by simpa using h), comp]
      · have h1 : ¬ (c b a == 0) = true := by rw [beq_iff_eq]; exact fun e => h0 (O.symm e)
        rw [if_neg h1, if_neg h0, ← ih (b :: l) (by simpa using h), comp]
end Go.Proofs.Ytehdkopjgcoclaa.SetLaw
namespace Go.Proofs.Ytehdkopjgcoclaa.Rrs
open Go.RowKit Go.Proofs.YtehdkopjgcoclaaW.PrintWords Go.Proofs.YtehdkopjgcoclaaW.PrintLast Go.Proofs.YtehdkopjgcoclaaW.PrintMore Go.Proofs.Ytehdkopjgcoclaa.Given Go.Proofs.Ytehdkopjgcoclaa.PRd Go.Proofs.Ytehdkopjgcoclaa.PRr Go.Proofs.Ytehdkopjgcoclaa.PSo Go.Proofs.Ytehdkopjgcoclaa.SetLaw
set_option linter.unusedVariables false
set_option linter.unusedSimpArgs false
theorem of1_f (x y : RR) (hx : fine x) (hy : fine y) : rrset_Of_1.f 1000 x.f0 x.f1 x.f2 x.f3 x.f4 y.f0 y.f1 y.f2 y.f3 y.f4 = some (cmpRR x y == 0) := by
  unfold rrset_Of_1.f
  rw [show record_Compare.f 1000 x.f0 x.f1 x.f2 x.f3 x.f4 y.f0 y.f1 y.f2 y.f3 y.f4 = some (cmpRR x y) from cmpO_eq x y hx.1 hy.1 hx.2 hy.2 1000 (Nat.le_refl _)]
  rfl
set_option maxHeartbeats 8000000 in
set_option maxRecDepth 100000 in
theorem compact_all (l : List RR) (hl : ∀ y ∈ l, fine y) (hn : l.length ≤ 1000000) (base : Nat) (ok : Nat → Prop) (w0 w : World) (hB : Below base w0 w) (v : Value) (HO : Kd.R kRR tRR w base ok v l) :
    Calls Try.prog 45 #[v, .func (.func 46) #[] #[]] w fun en w' => ∃ v', en = .returned v' ∧ Kd.R kRR tRR w' base ok v' (firsts cmpRR l) ∧ Below base w0 w' := by
  rw [← comp_firsts ordRR l.length l rfl]
  by_cases h2 : 2 ≤ l.length
  · rcases Row.of_R HO with ⟨_, rfl⟩ | ⟨g, c, rest, rfl, hg, hr⟩
    · simp at h2
    · exact compact_any 1000 l (fun x y => cmpRR x y == 0) (fun x hx y hy => of1_f x y (hl x hx) (hl y hy)) hn h2 base ok w0 w hB g c rest hr hg
  · have hc : comp (fun x y => cmpRR x y == 0) l = l := by
      match l, h2 with
      | [], _ => rfl
      | [a], _ => rfl
      | a :: b :: l, h => simp at h
    rw [hc]
    obtain ⟨A, c, rfl⟩ := Kd.R_slice HO
    have HR := Lib.hid HO
    have HB := Lib.hid hB
    obtain ⟨n, hnn⟩ : ∃ n, l.length = n := ⟨_, rfl⟩
    rw [hnn] at HR h2 ⊢
    clear HO hB hc hnn hn
    have b0 : (n : Int) < 2 := by omega
    go_enter Try.func45, Try.ntmps45
    go_wp2_with fail
    go_ret
    exact ⟨_, rfl, HR.out, HB.out⟩
set_option maxHeartbeats 8000000 in
set_option maxRecDepth 100000 in
theorem rev_nil (w : World) : Calls Try.prog 42 #[.slice none 0 0] w fun e w' => e = .returned (.tuple #[]) ∧ w' = w := by
  go_enter Try.func42, Try.ntmps42
  go_wp2
  refine wp_loop_rounds 1 ?_
  rw [rounds_succ]
  go_wp2
  go_end0
  exact ⟨rfl, rfl⟩
set_option maxHeartbeats 8000000 in
set_option maxRecDepth 100000 in
theorem ins_nil (w : World) : Calls Try.prog 78 #[.slice none 0 0, .int .i64 0, .int .i64 0, cmpV] w fun e w' => e = .returned (.tuple #[]) ∧ w' = w := by
  go_enter Try.func78, Try.ntmps78
  go_wp2
  refine wp_loop_rounds 1 ?_
  rw [rounds_succ]
  go_wp2
  go_end0
  exact ⟨rfl, rfl⟩
set_option maxHeartbeats 8000000 in
set_option maxRecDepth 100000 in
theorem stable_nil (w : World) : Calls Try.prog 63 #[.slice none 0 0, .int .i64 0, cmpV] w fun e w' => e = .returned (.tuple #[]) ∧ w' = w := by
  have HI := Lib.hid ins_nil
  go_enter Try.func63, Try.ntmps63
  go_wp2
  refine wp_loop_rounds 1 ?_
  rw [rounds_succ]
  go_wp2_with fail
  refine (HI.out w).mono ?_
  rintro e w1 ⟨rfl, rfl⟩
  go_wp2_with fail
  refine wp_loop_rounds 1 ?_
  rw [rounds_succ]
  go_wp2
  go_end0
  exact ⟨rfl, rfl⟩
set_option maxHeartbeats 8000000 in
set_option maxRecDepth 100000 in
theorem sort_of {A : Option Addr} {N c : Nat} {w : World} {R : World → Prop} (h : Calls Try.prog 63 #[.slice A N c, .int .i64 (N : Int), cmpV] w fun e w' => e = .returned (.tuple #[]) ∧ R w') :
    Calls Try.prog 43 #[.slice A N c, cmpV] w fun e w' => e = .returned (.tuple #[]) ∧ R w' := by
  have H := Lib.hid h
  clear h
  go_enter Try.func43, Try.ntmps43
  go_wp2_with fail
  refine H.out.mono ?_
  rintro e w1 ⟨rfl, hR⟩
  have HR := Lib.hid hR
  clear hR
  go_wp2_with fail
  go_end0
  exact ⟨rfl, HR.out⟩
end Go.Proofs.Ytehdkopjgcoclaa.Rrs
namespace Go.Proofs.Ytehdkopjgcoclaa.Given
open Go.RowKit Go.Proofs.YtehdkopjgcoclaaW.PrintWords Go.Proofs.YtehdkopjgcoclaaW.PrintLast Go.Proofs.YtehdkopjgcoclaaW.PrintMore Go.Proofs.Ytehdkopjgcoclaa.PRd Go.Proofs.Ytehdkopjgcoclaa.PRr Go.Proofs.Ytehdkopjgcoclaa.PSo Go.Proofs.Ytehdkopjgcoclaa.Rrs Go.Proofs.Ytehdkopjgcoclaa.SetLaw
set_option linter.unusedVariables false
open Classical in
noncomputable def rrset_Of.f (l0 : List (S33)) : Option (List (S33)) := if (∀ y ∈ l0, fine y) ∧ l0.length ≤ 1000000 then some (ofL cmpRR l0) else none
theorem of_f {l : List RR} (hl : ∀ y ∈ l, fine y) (hn : l.length ≤ 1000000) : rrset_Of.f l = some (ofL cmpRR l) := by
  unfold rrset_Of.f
  rw [if_pos ⟨hl, hn⟩]
set_option maxHeartbeats 8000000 in
set_option maxRecDepth 100000 in
theorem rrset_Of.calls (A0 : Option Addr) (c0 : Nat) (l0 : List (S33)) (r : List (S33)) (w : World) (hr0 : Kd.C k33 w A0 l0.length l0) (hc0 : l0.length ≤ c0) (h : rrset_Of.f l0 = some r) :
    Calls Try.prog 24 #[.slice A0 l0.length c0] w fun e w' => ∃ v0_ : Value, e = .returned (v0_) ∧ Kd.R k33 33 w' w.heap.size (fun _ => True) v0_ r ∧ Below w.heap.size w w' := by
  unfold rrset_Of.f at h
  have hS : (∀ y ∈ l0, fine y) ∧ l0.length ≤ 1000000 := Classical.byContradiction fun hn => by rw [if_neg hn] at h; cases h
  rw [if_pos hS] at h
  injection h with h
  obtain ⟨hf, hn⟩ := hS
  have hcl : slices_Clone.f l0 = some l0 := by unfold slices_Clone.f; rw [if_pos hn]
  have hfr : ∀ y ∈ l0.reverse, fine y := fun y hy => hf y (List.mem_reverse.mp hy)
  have HCL := Lib.hid (fun W hC => slices_Clone.calls A0 c0 l0 l0 W hC hc0 hcl)
  have HCP := Lib.hid (fun m hfm hnm v W hB hR => compact_all m hfm hnm w.heap.size (fun _ => True) w W hB v hR)
  have HR := Lib.hid hr0
  have HFR := Lib.hid hfr
  have HOF := Lib.hid h
  have HN := Lib.hid hn
  clear hr0 hcl hfr h hf hn
  go_enter Try.func24, Try.ntmps24
  go_wp2_with fail
  refine (HCL.out w HR.out).mono ?_
  rintro e w1 ⟨v, rfl, hv, hb1⟩
  rcases Row.of_R hv with ⟨rfl, hl⟩ | ⟨g, cap, rest, rfl, hok, hrow⟩
  · have HOF2 : Hid (firsts cmpRR ([] : List RR) = r) := Lib.hid (by rw [firsts_of ordRR (show StableOf cmpRR ([] : List RR).reverse [] from StableOf.refl_of List.Pairwise.nil), ← hl]; exact HOF.out)
    have HV := Lib.hid hv
    have HB := Lib.hid hb1
    have HRV := Lib.hid (rev_nil w1)
    have HST := Lib.hid (sort_of (c := 0) (R := fun w' => w' = w1) (stable_nil w1))
    have HCC := HCP.out [] (fun y hy => by cases hy) (by simp) (.slice none 0 0) w1 HB.out (by rw [hl] at hv; exact hv)
    have HC := Lib.hid HCC
    clear HOF HCC hv hb1 hl
    go_wp2_with fail
    refine HRV.out.mono ?_
    rintro e w2 ⟨rfl, rfl⟩
    go_wp2_with fail
    refine HST.out.mono ?_
    rintro e w3 ⟨rfl, rfl⟩
    go_wp2_with fail
    refine HC.out.mono ?_
    rintro e w4 ⟨v4, rfl, hv4, hb4⟩
    have HV4 := Lib.hid hv4
    have HB4 := Lib.hid hb4
    clear hv4 hb4
    go_wp2_with fail
    go_ret
    exact ⟨_, rfl, by rw [← HOF2.out]; exact HV4.out, HB4.out⟩
  · obtain ⟨N, hN⟩ : ∃ N, l0.length = N := ⟨_, rfl⟩
    have HL := Lib.hid hN
    have hnn : N ≤ 1000000 := by rw [← hN]; exact HN.out
    have HRV := Lib.hid (rev_walk (w0 := w) (base := w.heap.size) (g := g) (c := cap) (rest := rest) l0 hnn hN w1 ⟨hrow, hb1⟩)
    have HST := Lib.hid (fun W ho => sort_of (stable_walk (w0 := w) (base := w.heap.size) (g := g) (c := cap) (rest := rest) l0.reverse HFR.out hnn (by rw [List.length_reverse]; exact hN) W ho))
    rw [hN]
    clear hv hb1 hrow hN
    go_wp2_with fail
    refine HRV.out.mono ?_
    rintro e w2 ⟨rfl, ho⟩
    have HO := Lib.hid ho
    clear ho HRV
    go_wp2_with fail
    refine (HST.out w2 HO.out).mono ?_
    rintro e w3 ⟨rfl, m, g1, g2, g3⟩
    have hcp := HCP.out m (fun y hy => HFR.out y (g1.mem ordRR hy)) (by rw [g2]; exact hnn) _ w3 g3.2 (g3.1.R trivial)
    rw [g2] at hcp
    have HOF2 : Hid (firsts cmpRR m = r) := Lib.hid (by rw [firsts_of ordRR g1]; exact HOF.out)
    have HC := Lib.hid hcp
    clear hcp g1 g2 g3 HO HST
    go_wp2_with fail
    refine HC.out.mono ?_
    rintro e w4 ⟨v4, rfl, hv4, hb4⟩
    have HV4 := Lib.hid hv4
    have HB4 := Lib.hid hb4
    clear hv4 hb4
    go_wp2_with fail
    go_ret
    exact ⟨_, rfl, by rw [← HOF2.out]; exact HV4.out, HB4.out⟩
end Go.Proofs.Ytehdkopjgcoclaa.Given
namespace Go.Proofs.Ytehdkopjgcoclaa.PZo
open Go.RowKit Go.Proofs.YtehdkopjgcoclaaW.PrintWords Go.Proofs.YtehdkopjgcoclaaW.PrintLast Go.Proofs.YtehdkopjgcoclaaW.PrintMore Go.Proofs.Ytehdkopjgcoclaa.Given Go.Proofs.Ytehdkopjgcoclaa.PRd Go.Proofs.Ytehdkopjgcoclaa.PRr
attribute [local go_sem] max2_int min2_int max_two min_two max_three min_three max_four min_four   -- for this text's walks alone
set_option linter.unusedVariables false
set_option linter.unusedSimpArgs false
def errW : Option Int → Value
 | none => .nilIface
 | some c => .iface 0 (.int .i64 c)
theorem errW_none : errW none = .nilIface := rfl
theorem errW_some (c : Int) : errW (some c) = .iface 0 (.int .i64 c) := rfl
end Go.Proofs.Ytehdkopjgcoclaa.PZo
namespace Go.Proofs.Ytehdkopjgcoclaa.PZo
open Go.RowKit Go.Proofs.YtehdkopjgcoclaaW.PrintWords Go.Proofs.YtehdkopjgcoclaaW.PrintLast Go.Proofs.YtehdkopjgcoclaaW.PrintMore Go.Proofs.Ytehdkopjgcoclaa.Given Go.Proofs.Ytehdkopjgcoclaa.PRd Go.Proofs.Ytehdkopjgcoclaa.PRr
attribute [local go_sem] max2_int min2_int max_two min_two max_three min_three max_four min_four   -- for this text's walks alone
set_option linter.unusedVariables false
set_option linter.unusedSimpArgs false
theorem eqA44 (d : Nat) (w : World) (x0 y0 : ByteArray) (x1 y1 : Int) (x2 y2 : Int) (x3 y3 : Int) (x4 y4 : ByteArray) :
  (Op.equalIn (d + 2) 33 (.agg #[.string x0, .int .i64 x1, .int .i64 x2, .int .i64 x3, .string x4]) (.agg #[.string y0, .int .i64 y1, .int .i64 y2, .int .i64 y3, .string y4])).run Try.prog w = .ok (x0.toList == y0.toList && (x1 == y1 && (x2 == y2 && (x3 == y3 && (x4.toList == y4.toList))))) w := by
 refine eqA_of Try.underlying33 (by kernel_rfl) ?_
 refine eqf_cons (by rfl) (by go_simp; rfl) (by go_simp; rfl) (by go_simp) ?_
 refine eqf_cons (by rfl) (by go_simp; rfl) (by go_simp; rfl) (by go_simp) ?_
 refine eqf_cons (by rfl) (by go_simp; rfl) (by go_simp; rfl) (by go_simp) ?_
 refine eqf_cons (by rfl) (by go_simp; rfl) (by go_simp; rfl) (by go_simp) ?_
 exact eqf_last (by rfl) (by go_simp; rfl) (by go_simp; rfl) (by go_simp)
end Go.Proofs.Ytehdkopjgcoclaa.PZo
namespace Go.Proofs.Ytehdkopjgcoclaa.PZo
open Go.RowKit Go.Proofs.YtehdkopjgcoclaaW.PrintWords Go.Proofs.YtehdkopjgcoclaaW.PrintLast Go.Proofs.YtehdkopjgcoclaaW.PrintMore Go.Proofs.Ytehdkopjgcoclaa.Given Go.Proofs.Ytehdkopjgcoclaa.PRd Go.Proofs.Ytehdkopjgcoclaa.PRr
attribute [local go_sem] max2_int min2_int max_two min_two max_three min_three max_four min_four   -- for this text's walks alone
set_option linter.unusedVariables false
set_option linter.unusedSimpArgs false
attribute [local go_sem high] eqA44
noncomputable def api_RR_31.l0 : Nat → List (S33) → Int → Int → ByteArray → Int → Int → Int → ByteArray → Option (Int)
 | 0, _, _, _, _, _, _, _, _ => none
 | k + 1, x0, x7, x8, x102000, x102001, x102002, x102003, x102004 => if x8 < x7 then (if 0 ≤ x8 then (if x8 < (x0.length : Int) then (if (x102000.toList == (((rd_T33 x0 x8).f0).toList) && (x102001 == ((rd_T33 x0 x8).f1) && (x102002 == ((rd_T33 x0 x8).f2) && (x102003 == ((rd_T33 x0 x8).f3) && (x102004.toList == (((rd_T33 x0 x8).f4).toList)))))) = true then (some x8) else (api_RR_31.l0 k x0 x7 (wrap64 (x8 + 1)) x102000 x102001 x102002 x102003 x102004)) else (none)) else (none)) else (some (-1))
noncomputable def api_RR_31.f (k : Nat) (l0 : List (S33)) (a1_0 : ByteArray) (a1_1 : Int) (a1_2 : Int) (a1_3 : Int) (a1_4 : ByteArray) : Option (Int) := api_RR_31.l0 k l0 (l0.length : Int) 0 a1_0 a1_1 a1_2 a1_3 a1_4
set_option maxHeartbeats 8000000 in
set_option maxRecDepth 100000 in
theorem api_RR_31.calls (k : Nat) (A0 : Option Addr) (c0 : Nat) (l0 : List (S33)) (a1_0 : ByteArray) (a1_1 : Int) (a1_2 : Int) (a1_3 : Int) (a1_4 : ByteArray) (r : Int) (w : World) (hr0 : Kd.C k33 w A0 l0.length l0) (hc0 : l0.length ≤ c0) (h : api_RR_31.f k l0 a1_0 a1_1 a1_2 a1_3 a1_4 = some r) :
    Calls Try.prog 31 #[.slice A0 l0.length c0, .agg #[.string a1_0, .int .i64 a1_1, .int .i64 a1_2, .int .i64 a1_3, .string a1_4]] w fun e w' => e = .returned (.int .i64 r) ∧ Below w.heap.size w w' := by
  have hu33 := Try.underlying33
  have HR0 := Aside0.mk hr0
  have HC0 := Aside0.mk hc0
  clear hr0 hc0
  have HB := Aside0.mk (Below.refl w.heap.size w)
  have H : (api_RR_31.l0 k l0 (l0.length : Int) 0 a1_0 a1_1 a1_2 a1_3 a1_4) = some r := h
  clear h
  have H' := Aside0.mk H
  clear H
  go_enter Try.func31, Try.ntmps31
  go_wp2_with ((((with_reducible refine gate_dst (N := 3) rfl ?_); refine box_event ?hg (N := 3) ?hd (cs := #[.string a1_0, .int .i64 a1_1, .int .i64 a1_2, .int .i64 a1_3, .string a1_4]) (t := 33) ?hr ?_; (case hd => rfl); (case hg => rfl); (case hr => (go_simp; done)); intro gb101 hg w3 hbox hb; have BK101 := Aside0.mk (hbox); have GW101 := Aside0.mk (ge_ hg (below_size HB.out)); have GE101 := Aside0.mk (ge_ hg (below_size HB.out)); replace HB := Aside0.mk (below_step HB.out hb); clear hb hbox hg)))
  repeat (go_quiet ((((with_reducible refine gate_dst (N := 3) rfl ?_); refine box_event ?hg (N := 3) ?hd (cs := #[.string a1_0, .int .i64 a1_1, .int .i64 a1_2, .int .i64 a1_3, .string a1_4]) (t := 33) ?hr ?_; (case hd => rfl); (case hg => rfl); (case hr => (go_simp; done)); intro gb101 hg w3 hbox hb; have BK101 := Aside0.mk (hbox); have GW101 := Aside0.mk (ge_ hg (below_size HB.out)); have GE101 := Aside0.mk (ge_ hg (below_size HB.out)); replace HB := Aside0.mk (below_step HB.out hb); clear hb hbox hg))); try go_wp2_with ((((with_reducible refine gate_dst (N := 3) rfl ?_); refine box_event ?hg (N := 3) ?hd (cs := #[.string a1_0, .int .i64 a1_1, .int .i64 a1_2, .int .i64 a1_3, .string a1_4]) (t := 33) ?hr ?_; (case hd => rfl); (case hg => rfl); (case hr => (go_simp; done)); intro gb101 hg w3 hbox hb; have BK101 := Aside0.mk (hbox); have GW101 := Aside0.mk (ge_ hg (below_size HB.out)); have GE101 := Aside0.mk (ge_ hg (below_size HB.out)); replace HB := Aside0.mk (below_step HB.out hb); clear hb hbox hg))))
  go_loopg [8] k (fun kq v8 w' => ∃ (x8_1 : Int), v8 = .int .i64 x8_1 ∧ Aside0 (api_RR_31.l0 kq l0 (l0.length : Int) x8_1 a1_0 a1_1 a1_2 a1_3 a1_4 = some r) ∧ Aside0 (kq ≤ k) ∧ Aside0 (w'.heap[gb101]? = some (.cells #[.string a1_0, .int .i64 a1_1, .int .i64 a1_2, .int .i64 a1_3, .string a1_4] 33 (0, 0))) ∧ Aside0 (Below w.heap.size w w'))
  case atStart => exact ⟨(0), (by rfl), H', ⟨Nat.le_refl _⟩, ⟨by (with_reducible repeat ((refine blk_drewN ?_ _))); exact BK101.out⟩, ⟨HB.out⟩⟩
  case round =>
   clear H'
   obtain ⟨x8_1, rfl, HA, HK1, BK101, HB⟩ := hrel
   cases gk with
   | zero => exact absurd HA.out (by simp [api_RR_31.l0])
   | succ k1 =>
    have H := HA.out
    clear HA
    simp only [api_RR_31.l0] at H
    by_cases c4 : x8_1 < (l0.length : Int)
    ·rw [if_pos c4] at H
     have c4b0 : decide (x8_1 < (l0.length : Int)) = true := decide_eq_true c4
     clear c4
     obtain ⟨c5b0, H⟩ := gdd_ H
     obtain ⟨c6b0, H⟩ := gdd_ H
     by_cases c7 : (a1_0.toList == (((rd_T33 l0 x8_1).f0).toList) && (a1_1 == ((rd_T33 l0 x8_1).f1) && (a1_2 == ((rd_T33 l0 x8_1).f2) && (a1_3 == ((rd_T33 l0 x8_1).f3) && (a1_4.toList == (((rd_T33 l0 x8_1).f4).toList)))))) = true
     focus
      rw [if_pos c7] at H
      have c7b0 : (a1_0.toList == (((rd_T33 l0 x8_1).f0).toList) && (a1_1 == ((rd_T33 l0 x8_1).f1) && (a1_2 == ((rd_T33 l0 x8_1).f2) && (a1_3 == ((rd_T33 l0 x8_1).f3) && (a1_4.toList == (((rd_T33 l0 x8_1).f4).toList)))))) = true := c7
      (try (have c7b1 : decide (a1_0.toList = (((rd_T33 l0 x8_1).f0).toList) && (a1_1 == ((rd_T33 l0 x8_1).f1) && (a1_2 == ((rd_T33 l0 x8_1).f2) && (a1_3 == ((rd_T33 l0 x8_1).f3) && (a1_4.toList == (((rd_T33 l0 x8_1).f4).toList)))))) = true := by simpa using c7))
      (try (have c7b2 : (a1_0.toList == (((rd_T33 l0 x8_1).f0).toList) && (a1_1 == ((rd_T33 l0 x8_1).f1) && (a1_2 == ((rd_T33 l0 x8_1).f2) && (a1_3 == ((rd_T33 l0 x8_1).f3) && (a1_4.toList == (((rd_T33 l0 x8_1).f4).toList)))))) = true := by simpa using c7))
      clear c7
      obtain rfl := Option.some.inj H
     rotate_left
     focus
      rw [if_neg c7] at H
      have c7b0 : (a1_0.toList == (((rd_T33 l0 x8_1).f0).toList) && (a1_1 == ((rd_T33 l0 x8_1).f1) && (a1_2 == ((rd_T33 l0 x8_1).f2) && (a1_3 == ((rd_T33 l0 x8_1).f3) && (a1_4.toList == (((rd_T33 l0 x8_1).f4).toList)))))) = false := by simpa using c7
      (try (have c7b1 : decide (a1_0.toList = (((rd_T33 l0 x8_1).f0).toList) && (a1_1 == ((rd_T33 l0 x8_1).f1) && (a1_2 == ((rd_T33 l0 x8_1).f2) && (a1_3 == ((rd_T33 l0 x8_1).f3) && (a1_4.toList == (((rd_T33 l0 x8_1).f4).toList)))))) = false := by simpa using c7))
      (try (have c7b2 : (a1_0.toList == (((rd_T33 l0 x8_1).f0).toList) && (a1_1 == ((rd_T33 l0 x8_1).f1) && (a1_2 == ((rd_T33 l0 x8_1).f2) && (a1_3 == ((rd_T33 l0 x8_1).f3) && (a1_4.toList == (((rd_T33 l0 x8_1).f4).toList)))))) = false := by simpa using c7))
      (try (have c7b3 : ¬ (a1_0.toList = (((rd_T33 l0 x8_1).f0).toList) && (a1_1 == ((rd_T33 l0 x8_1).f1) && (a1_2 == ((rd_T33 l0 x8_1).f2) && (a1_3 == ((rd_T33 l0 x8_1).f3) && (a1_4.toList == (((rd_T33 l0 x8_1).f4).toList)))))) := by simpa using c7))
      clear c7
      have H' := Aside0.mk H
      clear H
     rotate_left
     all_goals
      obtain ⟨hcz8_0, hcz8_1, hcz8_2, hcz8_3, hcz8_4, hfz8_0, hfz8_1, hfz8_2, hfz8_3, hfz8_4⟩ := z5_ BK101.out
      have p102 : 0 ≤ (x8_1 : Int) := of_decide_eq_true (by assumption)
      have q102 : x8_1 < (l0.length : Int) := of_decide_eq_true (by assumption)
      obtain ⟨ad102, e102, hx102_0, hx102_1, hx102_2, hx102_3, hx102_4⟩ := at_T33 HR0.out x8_1 p102 q102
      cases e102
      replace hx102_0 := kp_ HB.out hx102_0
      replace hx102_1 := kp_ HB.out hx102_1
      replace hx102_2 := kp_ HB.out hx102_2
      replace hx102_3 := kp_ HB.out hx102_3
      replace hx102_4 := kp_ HB.out hx102_4
      replace p102 := eq_true p102
      replace q102 := eq_true q102
      go_wp2
      repeat (go_quiet (fail); try go_wp2)
     ·go_ret
      exact ⟨by rfl, by repeat ((with_reducible first | exact HB.out | apply pw_below_drewN))⟩
     ·go_roundg k1
      case measure => have := HK1.out; omega
      case rel => exact ⟨(wrap64 (x8_1 + 1)), (by rfl), H', ⟨by have := HK1.out; omega⟩, ⟨by (with_reducible repeat ((refine blk_drewN ?_ _))); exact BK101.out⟩, ⟨by repeat ((with_reducible first | exact HB.out | apply pw_below_drewN))⟩⟩
    ·rw [if_neg c4] at H
     have c4b0 : decide (x8_1 < (l0.length : Int)) = false := decide_eq_false c4
     clear c4
     obtain rfl := Option.some.inj H
     go_wp2
     repeat (go_quiet (fail); try go_wp2)
     go_ret
     exact ⟨by rfl, HB.out⟩
noncomputable def zone_Zone_At.f (a0_0 : ByteArray) (l0_1 : List (S33)) (a0_2 : Int) (a1 : ByteArray) : Option ((List (S33))) := (rrset_At.f l0_1 a1).bind fun t104 => (some t104)
set_option maxHeartbeats 8000000 in
set_option maxRecDepth 100000 in
theorem zone_Zone_At.calls (a0_0 : ByteArray) (A0_1 : Option Addr) (c0_1 : Nat) (l0_1 : List (S33)) (a0_2 : Int) (a1 : ByteArray) (r : List (S33)) (w : World) (hr0_1 : Kd.C k33 w A0_1 l0_1.length l0_1) (hc0_1 : l0_1.length ≤ c0_1) (h : zone_Zone_At.f a0_0 l0_1 a0_2 a1 = some r) :
  Calls Try.prog 49 #[.agg #[.string a0_0, .slice A0_1 l0_1.length c0_1, .int .i64 a0_2], .string a1] w fun e w' => ∃ v0_ : Value, e = .returned (v0_) ∧ Kd.R k33 33 w' w.heap.size (fun _ => True) v0_ r ∧ Below w.heap.size w w' := by
 have hu27 := Try.underlying27
 have HR0_1 := Aside0.mk hr0_1
 have HC0_1 := Aside0.mk hc0_1
 clear hr0_1 hc0_1
 have HB := Aside0.mk (Below.refl w.heap.size w)
 have H : ((rrset_At.f l0_1 a1).bind fun t104 => (some t104)) = some r := h
 clear h
 obtain ⟨t104, A3, H⟩ := bnd_ H
 obtain rfl := Option.some.inj H
 go_enter Try.func49, Try.ntmps49
 go_wp2_with (first | ((with_reducible refine gate_dst (N := 2) rfl ?_); refine box_event ?hg (N := 2) ?hd (cs := #[.string a0_0, .slice A0_1 l0_1.length c0_1, .int .i64 a0_2]) (t := 27) ?hr ?_; (case hd => rfl); (case hg => rfl); (case hr => (go_simp; done)); intro gb103 hg w4 hbox hb; have BK103 := Aside0.mk (hbox); have GW103 := Aside0.mk (ge_ hg (below_size HB.out)); have GE103 := Aside0.mk (ge_ hg (below_size HB.out)); replace HB := Aside0.mk (below_step HB.out hb); clear hb hbox hg; obtain ⟨hcz5_0, hcz5_1, hcz5_2, hfz5_0, hfz5_1, hfz5_2⟩ := z3_ BK103.out) | (refine gl_ (some 8) Try.func36 #[.slice A0_1 l0_1.length c0_1, .string a1] ?_; (with_reducible refine (rrset_At.calls _ _ l0_1 a1 t104 _ ?side1 ?side2 A3.out).mono ?_); (case side1 => repeat ((exact (Kd.C_below HR0_1.out HB.out)))); (case side2 => exact HC0_1.out); rintro e w6 ⟨v105, rfl, ho0, hb⟩; refine ⟨_, rfl, ?_⟩; have HO106 := Aside0.mk (Kd.R_lower ho0 (below_size HB.out)); replace BK103 := Aside0.mk (blk_below (by ((exact BK103.out))) hb); replace HB := Aside0.mk (below_step HB.out hb); (try clear hb); (try clear ho0)))
 go_ret
 exact ⟨_, by rfl, by (with_reducible repeat ((apply Kd.R_alloc))); exact HO106.out, HB.out⟩
noncomputable def zone_Zone_Set.f (a0_0 : ByteArray) (l0_1 : List (S33)) (a0_2 : Int) (a1 : ByteArray) (a2 : Int) : Option ((List (S33))) := (zone_Zone_At.f a0_0 l0_1 a0_2 a1).bind fun t108 => ((rrset_Typed.f t108 a2).bind fun t111 => (some t111))
set_option maxHeartbeats 8000000 in
set_option maxRecDepth 100000 in
theorem zone_Zone_Set.calls (a0_0 : ByteArray) (A0_1 : Option Addr) (c0_1 : Nat) (l0_1 : List (S33)) (a0_2 : Int) (a1 : ByteArray) (a2 : Int) (r : List (S33)) (w : World) (hr0_1 : Kd.C k33 w A0_1 l0_1.length l0_1) (hc0_1 : l0_1.length ≤ c0_1) (h : zone_Zone_Set.f a0_0 l0_1 a0_2 a1 a2 = some r) :
  Calls Try.prog 26 #[.agg #[.string a0_0, .slice A0_1 l0_1.length c0_1, .int .i64 a0_2], .string a1, .int .i64 a2] w fun e w' => ∃ v0_ : Value, e = .returned (v0_) ∧ Kd.R k33 33 w' w.heap.size (fun _ => True) v0_ r ∧ Below w.heap.size w w' := by
 have hu27 := Try.underlying27
 have HR0_1 := Aside0.mk hr0_1
 have HC0_1 := Aside0.mk hc0_1
 clear hr0_1 hc0_1
 have HB := Aside0.mk (Below.refl w.heap.size w)
 have H : ((zone_Zone_At.f a0_0 l0_1 a0_2 a1).bind fun t108 => ((rrset_Typed.f t108 a2).bind fun t111 => (some t111))) = some r := h
 clear h
 obtain ⟨t108, A4, H⟩ := bnd_ H
 obtain ⟨t111, A5, H⟩ := bnd_ H
 obtain rfl := Option.some.inj H
 go_enter Try.func26, Try.ntmps26
 go_wp2_with (first | ((with_reducible refine gate_dst (N := 3) rfl ?_); refine box_event ?hg (N := 3) ?hd (cs := #[.string a0_0, .slice A0_1 l0_1.length c0_1, .int .i64 a0_2]) (t := 27) ?hr ?_; (case hd => rfl); (case hg => rfl); (case hr => (go_simp; done)); intro gb107 hg w6 hbox hb; have BK107 := Aside0.mk (hbox); have GW107 := Aside0.mk (ge_ hg (below_size HB.out)); have GE107 := Aside0.mk (ge_ hg (below_size HB.out)); replace HB := Aside0.mk (below_step HB.out hb); clear hb hbox hg; obtain ⟨hcz7_0, hcz7_1, hcz7_2, hfz7_0, hfz7_1, hfz7_2⟩ := z3_ BK107.out) | (refine gl_ (some 9) Try.func49 #[.agg #[.string a0_0, .slice A0_1 l0_1.length c0_1, .int .i64 a0_2], .string a1] ?_; (with_reducible refine (zone_Zone_At.calls a0_0 _ _ l0_1 a0_2 a1 t108 _ ?side1 ?side2 A4.out).mono ?_); (case side1 => repeat ((exact (Kd.C_below HR0_1.out HB.out)))); (case side2 => exact HC0_1.out); rintro e w8 ⟨v109, rfl, ho0, hb⟩; refine ⟨_, rfl, ?_⟩; have HO110 := Aside0.mk (Kd.R_lower ho0 (below_size HB.out)); replace BK107 := Aside0.mk (blk_below (by ((exact BK107.out))) hb); replace HB := Aside0.mk (below_step HB.out hb); (try clear hb); (try clear ho0); obtain ⟨Ao9, co9, eo9⟩ := Kd.R_slice HO110.out; subst eo9) | (refine gl_ (some 11) Try.func25 #[.slice Ao9 t108.length co9, .int .i64 a2] ?_; (with_reducible refine (rrset_Typed.calls _ _ t108 a2 t111 _ ?side1 ?side2 A5.out).mono ?_); (case side1 => exact (Kd.R_reads' HO110.out).2.2); (case side2 => exact (Kd.R_reads' HO110.out).2.1); rintro e w10 ⟨v112, rfl, ho0, hb⟩; refine ⟨_, rfl, ?_⟩; have HO113 := Aside0.mk (Kd.R_lower (Kd.R_new' ho0 (Kd.R_lt (by ((exact HO110.out))))) (below_size HB.out)); replace HO110 := Aside0.mk (Kd.R_elder' (by ((exact HO110.out))) (Kd.R_base ho0) hb); replace BK107 := Aside0.mk (blk_below (by ((exact BK107.out))) hb); replace HB := Aside0.mk (below_step HB.out hb); (try clear hb); (try clear ho0)))
 go_ret
 exact ⟨_, by rfl, by (with_reducible repeat ((apply Kd.R_alloc))); exact Kd.R_mono HO113.out (fun _ hk => trivial), HB.out⟩
noncomputable def zone_Zone_All.f (a0_0 : ByteArray) (l0_1 : List (S33)) (a0_2 : Int) : Option ((List (S33))) := (slices_Clone.f l0_1).bind fun t115 => (some t115)
set_option maxHeartbeats 8000000 in
set_option maxRecDepth 100000 in
theorem zone_Zone_All.calls (a0_0 : ByteArray) (A0_1 : Option Addr) (c0_1 : Nat) (l0_1 : List (S33)) (a0_2 : Int) (r : List (S33)) (w : World) (hr0_1 : Kd.C k33 w A0_1 l0_1.length l0_1) (hc0_1 : l0_1.length ≤ c0_1) (h : zone_Zone_All.f a0_0 l0_1 a0_2 = some r) :
  Calls Try.prog 11 #[.agg #[.string a0_0, .slice A0_1 l0_1.length c0_1, .int .i64 a0_2]] w fun e w' => ∃ v0_ : Value, e = .returned (v0_) ∧ Kd.R k33 33 w' w.heap.size (fun _ => True) v0_ r ∧ Below w.heap.size w w' := by
 have hu27 := Try.underlying27
 have HR0_1 := Aside0.mk hr0_1
 have HC0_1 := Aside0.mk hc0_1
 clear hr0_1 hc0_1
 have HB := Aside0.mk (Below.refl w.heap.size w)
 have H : ((slices_Clone.f l0_1).bind fun t115 => (some t115)) = some r := h
 clear h
 obtain ⟨t115, A2, H⟩ := bnd_ H
 obtain rfl := Option.some.inj H
 go_enter Try.func11, Try.ntmps11
 go_wp2_with (first | ((with_reducible refine gate_dst (N := 1) rfl ?_); refine box_event ?hg (N := 1) ?hd (cs := #[.string a0_0, .slice A0_1 l0_1.length c0_1, .int .i64 a0_2]) (t := 27) ?hr ?_; (case hd => rfl); (case hg => rfl); (case hr => (go_simp; done)); intro gb114 hg w3 hbox hb; have BK114 := Aside0.mk (hbox); have GW114 := Aside0.mk (ge_ hg (below_size HB.out)); have GE114 := Aside0.mk (ge_ hg (below_size HB.out)); replace HB := Aside0.mk (below_step HB.out hb); clear hb hbox hg; obtain ⟨hcz4_0, hcz4_1, hcz4_2, hfz4_0, hfz4_1, hfz4_2⟩ := z3_ BK114.out) | (refine gl_ (some 5) Try.func32 #[.slice A0_1 l0_1.length c0_1] ?_; (with_reducible refine (slices_Clone.calls _ _ l0_1 t115 _ ?side1 ?side2 A2.out).mono ?_); (case side1 => repeat ((exact (Kd.C_below HR0_1.out HB.out)))); (case side2 => exact HC0_1.out); rintro e w5 ⟨v116, rfl, ho0, hb⟩; refine ⟨_, rfl, ?_⟩; have HO117 := Aside0.mk (Kd.R_lower ho0 (below_size HB.out)); replace BK114 := Aside0.mk (blk_below (by ((exact BK114.out))) hb); replace HB := Aside0.mk (below_step HB.out hb); (try clear hb); (try clear ho0)))
 go_ret
 exact ⟨_, by rfl, by (with_reducible repeat ((apply Kd.R_alloc))); exact HO117.out, HB.out⟩
end Go.Proofs.Ytehdkopjgcoclaa.PZo
namespace Go.Proofs.Ytehdkopjgcoclaa.Rrs
open Go.RowKit Go.Proofs.YtehdkopjgcoclaaW.PrintWords Go.Proofs.YtehdkopjgcoclaaW.PrintLast Go.Proofs.YtehdkopjgcoclaaW.PrintMore Go.Proofs.Ytehdkopjgcoclaa.Given Go.Proofs.Ytehdkopjgcoclaa.PRd Go.Proofs.Ytehdkopjgcoclaa.PRr
set_option linter.unusedVariables false
set_option linter.unusedSimpArgs false
def idxP (pr : RR → Bool) (l : List RR) : Int := match l.findIdx? pr with | some i => (i : Int) | none => -1
set_option maxHeartbeats 8000000 in
set_option maxRecDepth 100000 in
theorem index_any (l : List RR) (pr : RR → Bool) (hn : l.length ≤ 1000000) (F : FuncId) (fn : Func) (cb : Array Value) (hf : Try.prog.funcs[F]? = some fn) (hname : (fn.name == "runtime.NumGoroutine") = false) (hb : fn.body.isSome = true) (A0 : Option Addr) (c0 : Nat) (w : World) (hC : Kd.C kRR w A0 l.length l)
    (hstep : ∀ x ∈ l, ∀ W, Below w.heap.size w W → Calls Try.prog F (#[x.v] ++ cb) W fun e w' => e = .returned (.bool (pr x)) ∧ Below W.heap.size W w') :
    Calls Try.prog 39 #[.slice A0 l.length c0, .func (.func F) #[] cb] w fun e w' => e = .returned (.int .i64 (idxP pr l)) ∧ Below w.heap.size w w' := by
  have hu41 := Try.underlying33
  have HF := Lib.hid hf
  have HNM := Lib.hid hname
  have HBD := Lib.hid hb
  have HR := Lib.hid hC
  have HST := Lib.hid hstep
  obtain ⟨n, hnn⟩ : ∃ n, l.length = n := ⟨_, rfl⟩
  have HN := Lib.hid hnn
  rw [hnn] at hn ⊢
  have HB := Lib.hid (Below.refl w.heap.size w)
  clear hf hname hb hC hstep hnn
  go_enter Try.func39, Try.ntmps39
  go_wp2_with fail
  go_loopg [8] n (fun kx s8 wr => ∃ i : Nat, s8 = .int .i64 (i : Int) ∧ i ≤ n ∧ n - i ≤ kx ∧ Hid (∀ t (ht : t < l.length), t < i → pr l[t] = false) ∧ Hid (Below w.heap.size w wr))
  case atStart => exact ⟨0, rfl, by omega, by omega, Lib.hid (fun t ht h => by omega), Lib.hid HB.out⟩
  case round =>
    clear HB
    obtain ⟨i, rfl, hin, hik, HS, HB⟩ := hrel
    by_cases hlt : i < n
    · have p1 : (0 : Int) ≤ (i : Int) := by omega
      have q1 : (i : Int) < (l.length : Int) := by rw [HN.out]; omega
      obtain ⟨ad, e1, hx0, hx1, hx2, hx3, hx4⟩ := at_T33 HR.out (i : Int) p1 q1
      cases e1
      rw [Int.toNat_natCast] at hx0 hx1 hx2 hx3 hx4
      replace hx0 := (HB.out.cell (World.block_lt_of_cell? w _ hx0)).trans hx0
      replace hx1 := (HB.out.cell (World.block_lt_of_cell? w _ hx1)).trans hx1
      replace hx2 := (HB.out.cell (World.block_lt_of_cell? w _ hx2)).trans hx2
      replace hx3 := (HB.out.cell (World.block_lt_of_cell? w _ hx3)).trans hx3
      replace hx4 := (HB.out.cell (World.block_lt_of_cell? w _ hx4)).trans hx4
      have q2 : (i : Int) < (n : Int) := by omega
      obtain ⟨x, hx⟩ : ∃ x, rdR l (i : Nat) = x := ⟨_, rfl⟩
      rw [show rd_T33 l (i : Int) = x from hx] at hx0 hx1 hx2 hx3 hx4
      have hxl : x = l[i]'(by rw [HN.out]; exact hlt) := by rw [← hx, rdR_get l i (by rw [HN.out]; exact hlt)]
      have hxm : x ∈ l := by rw [hxl]; exact List.getElem_mem _
      have HX := Lib.hid hxl
      have hcall := HST.out x hxm wr HB.out
      have HCALL := Lib.hid hcall
      have hw1 : IntKind.i64.wrap ((i : Int) + 1) = (i : Int) + 1 := by rw [IntKind.wrap_i64]; omega
      clear hcall hxm hxl hx q1
      go_wp2_with fail
      rw [enters_ HF.out HNM.out HBD.out, Oper.upon_enter]
      refine (HCALL.out).mono ?_
      rintro e w4 ⟨rfl, hb4⟩
      have HB4 := Lib.hid (below_then HB.out HB.out.size hb4)
      clear hb4 HB HCALL hx0 hx1 hx2 hx3 hx4
      generalize hd : pr x = d
      have HD := Lib.hid hd
      clear hd
      cases d with
      | true =>
        go_wp2_with fail
        go_ret
        refine ⟨?_, HB4.out⟩
        have hfi : l.findIdx? pr = some i := by
          rw [List.findIdx?_eq_some_iff_getElem]
          refine ⟨by rw [HN.out]; exact hlt, by rw [← HX.out]; exact HD.out, fun j hj => ?_⟩
          rw [HS.out j (by rw [HN.out]; omega) hj]; decide
        unfold idxP
        rw [hfi]
        rfl
      | false =>
        go_wp2_with fail
        go_roundg (n - (i + 1))
        case measure => omega
        case rel => exact ⟨i + 1, by rw [show ((i + 1 : Nat) : Int) = (i : Int) + 1 by omega], by omega, Nat.le_refl _, Lib.hid (fun t ht h => by
          by_cases e : t = i
          · subst e; rw [← HX.out]; exact HD.out
          · exact HS.out t ht (by omega)), HB4⟩
    · obtain rfl : i = n := by omega
      have b1 : ¬ ((i : Int) < (i : Int)) := by omega
      go_wp2_with fail
      go_ret
      refine ⟨?_, HB.out⟩
      have hfi : l.findIdx? pr = none := by
        rw [List.findIdx?_eq_none_iff]
        intro y hy
        obtain ⟨t, ht, rfl⟩ := List.getElem_of_mem hy
        exact HS.out t ht (by rw [← HN.out]; exact ht)
      unfold idxP
      rw [hfi]
      rfl
set_option maxHeartbeats 8000000 in
set_option maxRecDepth 100000 in
theorem contains_any (l : List RR) (pr : RR → Bool) (hn : l.length ≤ 1000000) (F : FuncId) (fn : Func) (cb : Array Value) (hf : Try.prog.funcs[F]? = some fn) (hname : (fn.name == "runtime.NumGoroutine") = false) (hb : fn.body.isSome = true) (A0 : Option Addr) (c0 : Nat) (w : World) (hC : Kd.C kRR w A0 l.length l)
    (hstep : ∀ x ∈ l, ∀ W, Below w.heap.size w W → Calls Try.prog F (#[x.v] ++ cb) W fun e w' => e = .returned (.bool (pr x)) ∧ Below W.heap.size W w') :
    Calls Try.prog 21 #[.slice A0 l.length c0, .func (.func F) #[] cb] w fun e w' => e = .returned (.bool (l.any pr)) ∧ Below w.heap.size w w' := by
  have hi := index_any l pr hn F fn cb hf hname hb A0 c0 w hC hstep
  have he : decide (0 ≤ idxP pr l) = l.any pr := by
    unfold idxP
    cases h : l.findIdx? pr with
    | none =>
      rw [List.findIdx?_eq_none_iff] at h
      have : l.any pr = false := by rw [List.any_eq_false]; intro x hx; rw [h x hx]; decide
      rw [this]; decide
    | some i =>
      obtain ⟨hi, hp, _⟩ := List.findIdx?_eq_some_iff_getElem.mp h
      have : l.any pr = true := List.any_eq_true.mpr ⟨_, List.getElem_mem hi, hp⟩
      rw [this]
      exact decide_eq_true (by simp)
  have HI := Lib.hid hi
  have HE := Lib.hid he
  clear hi he hf hname hb hC hstep hn
  generalize l.length = n at HI ⊢
  generalize hz : idxP pr l = z at HI HE
  clear hz
  go_enter Try.func21, Try.ntmps21
  go_wp2_with fail
  refine (HI.out).mono ?_
  rintro e w1 ⟨rfl, hb1⟩
  have HB := Lib.hid hb1
  clear hb1 HI
  go_wp2_with fail
  go_ret
  exact ⟨by rw [← HE.out]; rfl, HB.out⟩
end Go.Proofs.Ytehdkopjgcoclaa.Rrs
namespace Go.Proofs.Ytehdkopjgcoclaa.Rrs
open Go.RowKit Go.Proofs.YtehdkopjgcoclaaW.PrintWords Go.Proofs.YtehdkopjgcoclaaW.PrintLast Go.Proofs.YtehdkopjgcoclaaW.PrintMore Go.Proofs.Ytehdkopjgcoclaa.Given Go.Proofs.Ytehdkopjgcoclaa.PRd Go.Proofs.Ytehdkopjgcoclaa.PRr
set_option linter.unusedVariables false
set_option linter.unusedSimpArgs false
set_option maxHeartbeats 4000000 in
set_option maxRecDepth 100000 in
theorem new1_step (k : Nat) (x : RR) (b : Bool) (w : World) (h : record_Right.f k x.f0 x.f1 x.f2 x.f3 x.f4 = some b) :
    Calls Try.prog 22 (#[x.v] ++ #[]) w fun e w' => e = .returned (.bool (!b)) ∧ Below w.heap.size w w' := by
  have hu41 := Try.underlying33
  have HB := Aside0.mk (Below.refl w.heap.size w)
  have HA := Lib.hid h
  clear h
  show Calls Try.prog 22 #[.agg #[.string x.f0, .int .i64 x.f1, .int .i64 x.f2, .int .i64 x.f3, .string x.f4]] w _
  go_enter Try.func22, Try.ntmps22
  go_wp2_with (first | ((with_reducible refine gate_dst (N := 1) rfl ?_); refine box_event ?hg (N := 1) ?hd (cs := #[.string x.f0, .int .i64 x.f1, .int .i64 x.f2, .int .i64 x.f3, .string x.f4]) (t := 33) ?hr ?_; (case hd => rfl); (case hg => rfl); (case hr => first | (go_simp; done) | (go_simp; rfl)); intro gb hg w3 hbox hb; have n0_ := Aside0.mk (below_step (HB.out) hb); have n1_ := Aside0.mk (hbox); clear HB; have HB := n0_; have BK := n1_; clear n0_ n1_; clear hb hbox hg; have hcz0 : w3.cell? ⟨gb, 0, none⟩ = some (.string x.f0) := (blk_cell BK.out 0).trans rfl; have hcz1 : w3.cell? ⟨gb, 1, none⟩ = some (.int .i64 x.f1) := (blk_cell BK.out 1).trans rfl; have hcz2 : w3.cell? ⟨gb, 2, none⟩ = some (.int .i64 x.f2) := (blk_cell BK.out 2).trans rfl; have hcz3 : w3.cell? ⟨gb, 3, none⟩ = some (.int .i64 x.f3) := (blk_cell BK.out 3).trans rfl; have hcz4 : w3.cell? ⟨gb, 4, none⟩ = some (.string x.f4) := (blk_cell BK.out 4).trans rfl))
  refine (record_Right.calls k x.f0 x.f1 x.f2 x.f3 x.f4 b w3 HA.out).mono ?_
  rintro e w4 ⟨rfl, hb4⟩
  have HB4 := Lib.hid (below_then HB.out HB.out.size hb4)
  clear hb4 HB
  go_wp2_with fail
  go_ret
  exact ⟨rfl, HB4.out⟩
set_option maxHeartbeats 4000000 in
set_option maxRecDepth 100000 in
theorem new2_step (k : Nat) (x : RR) (n : ByteArray) (b : Bool) (g : Nat) (w : World) (hc : w.cell? ⟨g, 0, none⟩ = some (.string n)) (h : zone_within.f k n x.f0 x.f1 x.f2 x.f3 x.f4 = some b) :
    Calls Try.prog 27 (#[x.v] ++ #[.pointer (some ⟨g, 0, none⟩)]) w fun e w' => e = .returned (.bool (!b)) ∧ Below w.heap.size w w' := by
  have hu41 := Try.underlying33
  have HB := Aside0.mk (Below.refl w.heap.size w)
  have HC := Lib.hid hc
  have HA := Lib.hid h
  clear hc h
  show Calls Try.prog 27 #[.agg #[.string x.f0, .int .i64 x.f1, .int .i64 x.f2, .int .i64 x.f3, .string x.f4], .pointer (some ⟨g, 0, none⟩)] w _
  go_enter Try.func27, Try.ntmps27
  go_wp2_with (first | ((with_reducible refine gate_dst (N := 2) rfl ?_); refine box_event ?hg (N := 2) ?hd (cs := #[.string x.f0, .int .i64 x.f1, .int .i64 x.f2, .int .i64 x.f3, .string x.f4]) (t := 33) ?hr ?_; (case hd => rfl); (case hg => rfl); (case hr => first | (go_simp; done) | (go_simp; rfl)); intro gb hg w3 hbox hb; have n0_ := Aside0.mk (below_step (HB.out) hb); have n1_ := Aside0.mk (hbox); clear HB; have HB := n0_; have BK := n1_; have hc3 : w3.cell? ⟨g, 0, none⟩ = some (.string n) := (HB.out.cell (World.block_lt_of_cell? w _ HC.out)).trans HC.out; clear n0_ n1_; clear hb hbox hg; have hcz0 : w3.cell? ⟨gb, 0, none⟩ = some (.string x.f0) := (blk_cell BK.out 0).trans rfl; have hcz1 : w3.cell? ⟨gb, 1, none⟩ = some (.int .i64 x.f1) := (blk_cell BK.out 1).trans rfl; have hcz2 : w3.cell? ⟨gb, 2, none⟩ = some (.int .i64 x.f2) := (blk_cell BK.out 2).trans rfl; have hcz3 : w3.cell? ⟨gb, 3, none⟩ = some (.int .i64 x.f3) := (blk_cell BK.out 3).trans rfl; have hcz4 : w3.cell? ⟨gb, 4, none⟩ = some (.string x.f4) := (blk_cell BK.out 4).trans rfl))
  refine (zone_within.calls k n x.f0 x.f1 x.f2 x.f3 x.f4 b w3 HA.out).mono ?_
  rintro e w4 ⟨rfl, hb4⟩
  have HB4 := Lib.hid (below_then HB.out HB.out.size hb4)
  clear hb4 HB
  go_wp2_with fail
  go_ret
  exact ⟨rfl, HB4.out⟩
end Go.Proofs.Ytehdkopjgcoclaa.Rrs
namespace Go.Proofs.Ytehdkopjgcoclaa.Given
open Go.RowKit Go.Proofs.YtehdkopjgcoclaaW.PrintWords Go.Proofs.YtehdkopjgcoclaaW.PrintLast Go.Proofs.YtehdkopjgcoclaaW.PrintMore Go.Proofs.Ytehdkopjgcoclaa.PRd Go.Proofs.Ytehdkopjgcoclaa.PRr Go.Proofs.Ytehdkopjgcoclaa.Rrs
set_option linter.unusedVariables false
noncomputable def anyO (p : RR → Option Bool) (l : List RR) : Option Bool := open Classical in if l.length ≤ 1000000 ∧ ∀ x ∈ l, (p x).isSome = true then some (l.any fun x => !(p x).getD false) else none
theorem anyO_some {p : RR → Option Bool} {l : List RR} {r : Bool} (h : anyO p l = some r) : l.length ≤ 1000000 ∧ (∀ x ∈ l, (p x).isSome = true) ∧ r = l.any fun x => !(p x).getD false := by
  unfold anyO at h
  split at h
  · rename_i hn
    injection h with h
    exact ⟨hn.1, hn.2, h.symm⟩
  · cases h
noncomputable def right_any.f (k : Nat) (l0 : List (S33)) (a1 : Int) : Option Bool := anyO (fun x => record_Right.f k x.f0 x.f1 x.f2 x.f3 x.f4) l0
theorem right_any.calls (k : Nat) (A0 : Option Addr) (c0 : Nat) (l0 : List (S33)) (a1 : Int) (r : Bool) (w : World) (hr0 : Kd.C k33 w A0 l0.length l0) (hc0 : l0.length ≤ c0) (h : right_any.f k l0 a1 = some r) :
    Calls Try.prog 21 #[.slice A0 l0.length c0, .func (.func 22) #[] #[]] w fun e w' => e = .returned (.bool r) ∧ Below w.heap.size w w' := by
  obtain ⟨h1, h2, rfl⟩ := anyO_some h
  exact contains_any l0 (fun x => !(record_Right.f k x.f0 x.f1 x.f2 x.f3 x.f4).getD false) h1 22 Try.f22 #[] Try.func22 (by kernel_rfl) rfl A0 c0 w hr0 (fun x hx W _ => by
    obtain ⟨b, hb⟩ := Option.isSome_iff_exists.mp (h2 x hx)
    rw [hb]
    exact new1_step k x b W hb)
noncomputable def within_any.f (k : Nat) (l0 : List (S33)) (a1 : ByteArray) : Option Bool := anyO (fun x => zone_within.f k a1 x.f0 x.f1 x.f2 x.f3 x.f4) l0
theorem within_any.calls (k : Nat) (A0 : Option Addr) (c0 : Nat) (l0 : List (S33)) (a1 : ByteArray) (r : Bool) (w : World) (hr0 : Kd.C k33 w A0 l0.length l0) (hc0 : l0.length ≤ c0) (h : within_any.f k l0 a1 = some r) (g : Nat) (hg : w.cell? ⟨g, 0, none⟩ = some (.string a1)) :
    Calls Try.prog 21 #[.slice A0 l0.length c0, .func (.func 27) #[] #[.pointer (some ⟨g, 0, none⟩)]] w fun e w' => e = .returned (.bool r) ∧ Below w.heap.size w w' := by
  obtain ⟨h1, h2, rfl⟩ := anyO_some h
  exact contains_any l0 (fun x => !(zone_within.f k a1 x.f0 x.f1 x.f2 x.f3 x.f4).getD false) h1 27 Try.f27 #[.pointer (some ⟨g, 0, none⟩)] Try.func27 (by kernel_rfl) rfl A0 c0 w hr0 (fun x hx W hW => by
    obtain ⟨b, hb⟩ := Option.isSome_iff_exists.mp (h2 x hx)
    rw [hb]
    exact new2_step k x a1 b g W ((hW.cell (World.block_lt_of_cell? w _ hg)).trans hg) hb)
end Go.Proofs.Ytehdkopjgcoclaa.Given
namespace Go.Proofs.Ytehdkopjgcoclaa.PZf
open Go.RowKit Go.Proofs.YtehdkopjgcoclaaW.PrintWords Go.Proofs.YtehdkopjgcoclaaW.PrintLast Go.Proofs.YtehdkopjgcoclaaW.PrintMore Go.Proofs.Ytehdkopjgcoclaa.Given Go.Proofs.Ytehdkopjgcoclaa.PRd Go.Proofs.Ytehdkopjgcoclaa.PRr Go.Proofs.Ytehdkopjgcoclaa.PZo
attribute [local go_sem] max2_int min2_int max_two min_two max_three min_three max_four min_four   -- for this text's walks alone
set_option linter.unusedVariables false
set_option linter.unusedSimpArgs false
def errW : Option Int → Value
 | none => .nilIface
 | some c => .iface 0 (.int .i64 c)
theorem errW_none : errW none = .nilIface := rfl
theorem errW_some (c : Int) : errW (some c) = .iface 0 (.int .i64 c) := rfl
end Go.Proofs.Ytehdkopjgcoclaa.PZf
namespace Go.Proofs.Ytehdkopjgcoclaa.PZf
open Go.RowKit Go.Proofs.YtehdkopjgcoclaaW.PrintWords Go.Proofs.YtehdkopjgcoclaaW.PrintLast Go.Proofs.YtehdkopjgcoclaaW.PrintMore Go.Proofs.Ytehdkopjgcoclaa.Given Go.Proofs.Ytehdkopjgcoclaa.PRd Go.Proofs.Ytehdkopjgcoclaa.PRr Go.Proofs.Ytehdkopjgcoclaa.PZo
attribute [local go_sem] max2_int min2_int max_two min_two max_three min_three max_four min_four   -- for this text's walks alone
set_option linter.unusedVariables false
set_option linter.unusedSimpArgs false
noncomputable def zone_New.j0 : Nat → List (S33) → Bool → ByteArray → Option (ByteArray × (List (S33)) × Int × Int)
 | 0, _, _, _ => none
 | k + 1, x1, x15, x104000 => if x15 = true then (some ((⟨#[]⟩ : ByteArray), ([] : List (S33)), 0, 2)) else ((rrset_Of.f x1).bind fun t107 => (if (t107.length : Int) > 65536 then (some ((⟨#[]⟩ : ByteArray), ([] : List (S33)), 0, 3)) else ((rrset_Typed.f t107 6).bind fun t111 => ((zone_Zone_Set.f x104000 t107 0 x104000 2).bind fun t114 => ((within_any.f k t107 x104000).bind fun t117 => (if t117 = true then (some ((⟨#[]⟩ : ByteArray), ([] : List (S33)), 0, 9)) else (if (t111.length : Int) = 1 then (if 0 < (t111.length : Int) then ((name_Alike.f ((rd_T33 t111 0).f0) x104000).bind fun t119 => (if t119 = true then (if (t114.length : Int) = 0 then (some ((⟨#[]⟩ : ByteArray), ([] : List (S33)), 0, 9)) else ((zone_apart.f k t107).bind fun t120 => (if t120 = true then ((api_RR_31.f k t107 ((rd_T33 t111 0).f0) ((rd_T33 t111 0).f1) ((rd_T33 t111 0).f2) ((rd_T33 t111 0).f3) ((rd_T33 t111 0).f4)).bind fun t122 => (some (x104000, t107, t122, 0))) else (some ((⟨#[]⟩ : ByteArray), ([] : List (S33)), 0, 9))))) else (some ((⟨#[]⟩ : ByteArray), ([] : List (S33)), 0, 9)))) else (none)) else (some ((⟨#[]⟩ : ByteArray), ([] : List (S33)), 0, 9)))))))))
noncomputable def zone_New.f (k : Nat) (a0 : ByteArray) (l1 : List (S33)) : Option (ByteArray × (List (S33)) × Int × Int) := (name_Right.f a0).bind fun t105 => (if t105 = true then ((right_any.f k l1 7770038).bind fun t106 => (zone_New.j0 k l1 t106 a0)) else (zone_New.j0 k l1 true a0))
def zone_New.T6 : Bool × List (List Nat × List Nat) := (true, [([], []), ([0], [0]), ([1], [1]), ([], []), ([], []), ([3, 4, 2], [3, 4]), ([2, 5, 0, 1, 2], [2]), ([5, 6, 0, 1, 2, 3, 4, 5, 6], [5])])
def zone_New.B6 : List Nat := [0, 1, 3, 0, 0, 31, 63, 127]
theorem zone_New.tab6 : rtab .any (opsOf Try.f10 6) = zone_New.T6 := by kernel_rfl
theorem zone_New.bits6 : waitsOk zone_New.T6.2 zone_New.B6 = true := by kernel_rfl
def zone_New.T9 : Bool × List (List Nat × List Nat) := (true, [([], []), ([0], [0]), ([1], [1]), ([2], [2]), ([3], [3]), ([4, 3], [3, 4]), ([5, 3], [3, 5]), ([6, 3], [3, 6]), ([3], [3]), ([7, 8, 3, 3], [3, 7, 8]), ([9, 3], [3, 9]), ([3, 10], [3, 10]), ([11, 9], [11]), ([12], [12]), ([13, 12], [12, 13]), ([14, 12], [12, 14]), ([12, 15], [12, 15]), ([16, 12], [16]), ([17], [17]), ([18, 17], [17, 18]), ([19, 17, 17], [17, 19]), ([20, 17], [17, 20]), ([17, 21], [17, 21]), ([22, 20], [22])])
def zone_New.B9 : List Nat := [0, 1, 3, 7, 15, 31, 63, 127, 15, 511, 1023, 2047, 4095, 8191, 16383, 32767, 65535, 131071, 262143, 524287, 1048575, 2097151, 4194303, 8388607]
theorem zone_New.tab9 : rtab .any (opsOf Try.f10 9) = zone_New.T9 := by kernel_rfl
theorem zone_New.bits9 : waitsOk zone_New.T9.2 zone_New.B9 = true := by kernel_rfl
def zone_New.T11 : Bool × List (List Nat × List Nat) := (true, [([], []), ([0], [0]), ([], []), ([2], [2]), ([3], [3]), ([1, 4], [1, 4]), ([0, 1, 2, 3, 4, 5], []), ([6, 5, 5, 0, 1, 2, 3, 4, 5], [5, 6])])
def zone_New.B11 : List Nat := [0, 1, 0, 4, 12, 31, 63, 127]
theorem zone_New.tab11 : rtab .any (opsOf Try.f10 11) = zone_New.T11 := by kernel_rfl
theorem zone_New.bits11 : waitsOk zone_New.T11.2 zone_New.B11 = true := by kernel_rfl
set_option maxHeartbeats 8000000 in
set_option maxRecDepth 100000 in
theorem zone_New.calls (k : Nat) (a0 : ByteArray) (A1 : Option Addr) (c1 : Nat) (l1 : List (S33)) (r1 : ByteArray) (r2 : List (S33)) (r3 : Int) (r4 : Int) (w : World) (hr1 : Kd.C k33 w A1 l1.length l1) (hc1 : l1.length ≤ c1) (h : zone_New.f k a0 l1 = some (r1, r2, r3, r4)) :
    Calls Try.prog 10 #[.string a0, .slice A1 l1.length c1] w fun e w' => ∃ v1_ : Value, e = .returned (.tuple #[.agg #[.string r1, v1_, .int .i64 r3], .int .i64 r4]) ∧ Kd.R k33 33 w' w.heap.size (fun _ => True) v1_ r2 ∧ Below w.heap.size w w' := by
  have hu27 := Try.underlying27
  have hu33 := Try.underlying33
  have HR1 := Aside0.mk hr1
  have HC1 := Aside0.mk hc1
  clear hr1 hc1
  have HB := Aside0.mk (Below.refl w.heap.size w)
  have H : ((name_Right.f a0).bind fun t105 => (if t105 = true then ((right_any.f k l1 7770038).bind fun t106 => (zone_New.j0 k l1 t106 a0)) else (zone_New.j0 k l1 true a0))) = some (r1, r2, r3, r4) := h
  clear h
  have HC3 := Aside0.mk H
  clear H
  go_enter Try.func10, Try.ntmps10
  go_upto_region 1 with (first | ((with_reducible refine gate_dst (N := 2) rfl ?_); (try (refine gate_guard (by rfl) ?_; dsimp only)); refine box_event ?hg (N := 2) ?hd (cs := #[.string a0]) (t := 9) ?hr ?_; (case hd => rfl); (case hg => rfl); (case hr => (go_simp; done)); intro gb103 hg w4 hbox hb; have BK103 := Aside0.mk (hbox); have GW103 := Aside0.mk (ge_ hg (below_size HB.out)); have GE103 := Aside0.mk (ge_ hg (below_size HB.out)); replace HB := Aside0.mk (below_step HB.out hb); clear hb hbox hg) | ((with_reducible refine gate_dst (N := 4) rfl ?_); (try (refine gate_guard (by rfl) ?_; dsimp only)); refine box_event ?hg (N := 4) ?hd (cs := #[.string (⟨#[]⟩ : ByteArray), .slice none 0 0, .int .i64 0]) (t := 27) ?hr ?_; (case hd => rfl); (case hg => rfl); (case hr => (go_simp; done)); intro gb104 hg w5 hbox hb; have BK104 := Aside0.mk (hbox); have GW104 := Aside0.mk (ge_ hg (below_size HB.out)); have GE104 := Aside0.mk (ge_ hg (below_size HB.out)); have NB103_104 := Aside0.mk (nl_ hg (by ((exact BK103.out)))); have NB104_103 := Aside0.mk (nr_ hg (by ((exact BK103.out)))); replace BK103 := Aside0.mk (blk_below (by ((exact BK103.out))) hb); replace HB := Aside0.mk (below_step HB.out hb); clear hb hbox hg))
  go_cut [15] (fun v15 wc => ∃ (kq : Nat) (x15_2 : Bool), v15 = .bool x15_2 ∧ Aside0 (zone_New.j0 kq l1 x15_2 a0 = some (r1, r2, r3, r4)) ∧ Aside0 (kq ≤ k) ∧ Aside0 (wc.heap[gb103]? = some (.cells #[.string a0] 9 (0, 0))) ∧ Aside0 (wc.heap[gb104]? = some (.cells #[.string (⟨#[]⟩ : ByteArray), (.slice none 0 0), .int .i64 0] 27 (0, 0))) ∧ Aside0 (Below w.heap.size w wc))
  case first =>
   have H := HC3.out
   clear HC3
   obtain ⟨t105, A6, H⟩ := bnd_ H
   by_cases c7 : t105 = true
   focus
    subst c7
    rw [if_pos rfl] at H
    obtain ⟨t106, A8, H⟩ := bnd_ H
   rotate_left
   focus
    replace c7 := Bool.eq_false_iff.mpr c7
    subst c7
    rw [if_neg ff_] at H
   rotate_left
   all_goals
    have H' := Aside0.mk H
    clear H
    have hnb9 := NB103_104.out
    have hnc9 := NB104_103.out
    obtain ⟨hcz10_0, hfz10_0⟩ := z1_ BK103.out
   ·go_wp2_with (first | (refine gl_ (some 10) Try.func20 #[.string a0] ?_; (with_reducible refine (name_Right.calls a0 _ _ A6.out).mono ?_); rintro e w11 ⟨rfl, hb⟩; refine ⟨_, rfl, ?_⟩; replace BK103 := Aside0.mk (blk_below (by ((exact BK103.out))) hb); replace BK104 := Aside0.mk (blk_below (by ((exact BK104.out))) hb); replace HB := Aside0.mk (below_step HB.out hb); (try clear hb)) | (go_at_call 21; (with_reducible refine (right_any.calls k _ _ l1 7770038 t106 _ ?side1 ?side2 A8.out).mono ?_); (case side1 => repeat ((exact (Kd.C_below HR1.out HB.out)))); (case side2 => exact HC1.out); rintro e w12 ⟨rfl, hb⟩; replace BK103 := Aside0.mk (blk_below (by ((exact BK103.out))) hb); replace BK104 := Aside0.mk (blk_below (by ((exact BK104.out))) hb); replace HB := Aside0.mk (below_step HB.out hb); (try clear hb)))
    go_meet
    case rel => exact ⟨_, (t106), (by rfl), H', ⟨by omega⟩, ⟨by (with_reducible repeat ((refine blk_drewN ?_ _))); exact BK103.out⟩, ⟨by (with_reducible repeat ((refine blk_drewN ?_ _))); exact BK104.out⟩, ⟨HB.out⟩⟩
   ·go_wp2_with (((refine gl_ (some 10) Try.func20 #[.string a0] ?_; (with_reducible refine (name_Right.calls a0 _ _ A6.out).mono ?_); rintro e w15 ⟨rfl, hb⟩; refine ⟨_, rfl, ?_⟩; replace BK103 := Aside0.mk (blk_below (by ((exact BK103.out))) hb); replace BK104 := Aside0.mk (blk_below (by ((exact BK104.out))) hb); replace HB := Aside0.mk (below_step HB.out hb); (try clear hb))))
    go_meet
    case rel => exact ⟨_, (true), (by rfl), H', ⟨by omega⟩, ⟨by (with_reducible repeat ((refine blk_drewN ?_ _))); exact BK103.out⟩, ⟨by (with_reducible repeat ((refine blk_drewN ?_ _))); exact BK104.out⟩, ⟨HB.out⟩⟩
  case rest =>
   clear HC3
   obtain ⟨kq, x15_2, rfl, HA, HJ2, BK103, BK104, HB⟩ := hcut
   cases kq with
   | zero => exact absurd HA.out (by simp [zone_New.j0])
   | succ kj2 =>
    have H := HA.out
    clear HA
    simp only [zone_New.j0] at H
    by_cases c16 : x15_2 = true
    focus
     subst c16
     rw [if_pos rfl] at H
    rotate_left
    focus
     replace c16 := Bool.eq_false_iff.mpr c16
     subst c16
     rw [if_neg ff_] at H
     obtain ⟨t107, A19, H⟩ := bnd_ H
     by_cases c20 : (t107.length : Int) > 65536
     focus
      rw [if_pos c20] at H
      have c20b0 : decide (65536 < (t107.length : Int)) = true := decide_eq_true c20
      have c20b1 : decide (65536 < t107.length) = true := decide_eq_true (by omega)
      clear c20
     rotate_left
     focus
      rw [if_neg c20] at H
      have c20b0 : decide (65536 < (t107.length : Int)) = false := decide_eq_false c20
      have c20b1 : decide (65536 < t107.length) = false := decide_eq_false (by omega)
      clear c20
      obtain ⟨t111, A35, H⟩ := bnd_ H
      obtain ⟨t114, A36, H⟩ := bnd_ H
      obtain ⟨t117, A37, H⟩ := bnd_ H
      by_cases c38 : t117 = true
      focus
       subst c38
       rw [if_pos rfl] at H
      rotate_left
      focus
       replace c38 := Bool.eq_false_iff.mpr c38
       subst c38
       rw [if_neg ff_] at H
       by_cases c60 : (t111.length : Int) = 1
       focus
        rw [if_pos c60] at H
        have c60b0 : ((t111.length : Int) == 1) = true := beq_iff_eq.mpr c60
        have c60b1 : ((t111.length : Int) != 1) = false := bne_eq_false_iff_eq.mpr c60
        clear c60
        obtain ⟨c61, H⟩ := gd_ H
        have c61b0 : decide (0 < (t111.length : Int)) = true := decide_eq_true c61
        have c61b1 : decide (0 < t111.length) = true := decide_eq_true (by omega)
        clear c61
        obtain ⟨t119, A62, H⟩ := bnd_ H
        by_cases c63 : t119 = true
        focus
         subst c63
         rw [if_pos rfl] at H
         by_cases c64 : (t114.length : Int) = 0
         focus
          rw [if_pos c64] at H
          have c64b0 : ((t114.length : Int) == 0) = true := beq_iff_eq.mpr c64
          have c64b1 : ((t114.length : Int) != 0) = false := bne_eq_false_iff_eq.mpr c64
          clear c64
         rotate_left
         focus
          rw [if_neg c64] at H
          have c64b0 : ((t114.length : Int) == 0) = false := beq_eq_false_iff_ne.mpr c64
          have c64b1 : ((t114.length : Int) != 0) = true := bne_iff_ne.mpr c64
          have c64b2 : ¬ (t114 = []) := fun h_ => c64 (by rw [h_]; rfl)
          obtain ⟨t120, A90, H⟩ := bnd_ H
          by_cases c91 : t120 = true
          focus
           subst c91
           rw [if_pos rfl] at H
           obtain ⟨t122, A92, H⟩ := bnd_ H
          rotate_left
          focus
           replace c91 := Bool.eq_false_iff.mpr c91
           subst c91
           rw [if_neg ff_] at H
          rotate_left
         rotate_left 2
        rotate_left 3
        focus
         replace c63 := Bool.eq_false_iff.mpr c63
         subst c63
         rw [if_neg ff_] at H
        rotate_left
       rotate_left 4
       focus
        rw [if_neg c60] at H
        have c60b0 : ((t111.length : Int) == 1) = false := beq_eq_false_iff_ne.mpr c60
        have c60b1 : ((t111.length : Int) != 1) = true := bne_iff_ne.mpr c60
       rotate_left
      rotate_left 5
     rotate_left 6
    rotate_left 7
    all_goals
     simp only [Option.some.injEq, Prod.mk.injEq] at H
     obtain ⟨rfl, rfl, rfl, rfl⟩ := H
    ·have hnb17 := NB104_103.out
     have hnc17 := NB103_104.out
     obtain ⟨hcz18_0, hcz18_1, hcz18_2, hfz18_0, hfz18_1, hfz18_2⟩ := z3_ BK104.out
     go_wp2
     refine bodyPost_ret (results_ct rfl _ _ gb104 27 #[.string (⟨#[]⟩ : ByteArray), .slice none 0 0, .int .i64 0] (0, 0) _ rfl (by (with_reducible repeat ((refine blk_drewN ?_ _))); refine blk_put (cs := #[.string (⟨#[]⟩ : ByteArray), .slice none 0 0, .int .i64 0]) ?_ 2 _ rfl; (with_reducible repeat ((refine blk_drewN ?_ _))); refine blk_put (cs := #[.string (⟨#[]⟩ : ByteArray), .slice none 0 0, .int .i64 0]) ?_ 1 _ rfl; (with_reducible repeat ((refine blk_drewN ?_ _))); refine blk_put (cs := #[.string (⟨#[]⟩ : ByteArray), .slice none 0 0, .int .i64 0]) ?_ 0 _ rfl; (with_reducible repeat ((refine blk_drewN ?_ _))); exact BK104.out) Try.underlying27 rfl (by kernel_rfl)) rfl ?_
     exact ⟨_, by rfl, by (exact Kd.R_nil _ _ _ _ _), by repeat ((with_reducible first | exact HB.out | refine below_set ?_ GE104.out))⟩
    all_goals
     (try go_wp2)
     replace BK103 := Aside0.mk (blk_drew BK103.out)
     replace BK104 := Aside0.mk (blk_drew BK104.out)
     replace HB := Aside0.mk (below_drew1 HB.out)
     refine start_ (n := 6) (S := fun w' => w'.cell? ⟨gb103, 0, none⟩ = some (.string a0)) (ds := []) (ls 6 0) (by kernel_rfl) rfl rfl ((blk_cell BK103.out 0).trans rfl) (fun hHeld => ?_)
     generalize wc.drew = w21 at BK103 BK104 HB hHeld ⊢
     refine pure_ (i := 1) (N := some 18) (v := ?_) (a' := ?_) (ls 6 2) rfl rfl (by kernel_rfl) (fun _ _ _ h => h) (Or.inl ⟨by rfl, ?_⟩) ?_ ?_
     rotate_left
     ·intro w'
      go_simp
      with_reducible rfl
     rotate_left
     ·simp only [Act.put, sA_, sZ_, sS_, i64_w, i32_w]
      rfl
     refine take_ (i := 0) (N := some 17) (v := ?_) (a' := ?_) (ls 6 3) rfl rfl (by kernel_rfl) (fun _ _ _ h => h) (Or.inl ⟨by rfl, ?_⟩) hHeld ?_ ?_
     rotate_left
     ·intro w' s0
      go_simp
      with_reducible rfl
     rotate_left
     ·simp only [Act.put, sA_, sZ_, sS_, i64_w, i32_w]
      rfl
     refine join_ (σ := Value × Nat) 1 (ls 6 31) (fun s_ => [(19, s_.1), (6, .pointer (some ⟨s_.2, 0, none⟩)), (20, .agg #[.string a0, s_.1, .int .i64 0])]) (fun s_ w' => (w'.cell? ⟨gb103, 0, none⟩ = some (.string a0)) ∧ (Kd.R k33 33 w' w.heap.size (fun _ => True) s_.1 t107) ∧ (w'.heap[gb103]? = some (.cells #[.string a0] 9 (0, 0))) ∧ (w'.heap[gb104]? = some (.cells #[.string (⟨#[]⟩ : ByteArray), .slice none 0 0, .int .i64 0] 27 (0, 0))) ∧ (w'.heap[s_.2]? = some (.cells #[.string (⟨#[]⟩ : ByteArray), .slice none 0 0, .int .i64 0] 27 (0, 0))) ∧ (w.heap.size ≤ s_.2) ∧ (w.heap.size ≤ s_.2) ∧ (gb103 ≠ s_.2) ∧ (s_.2 ≠ gb103) ∧ (gb104 ≠ s_.2) ∧ (s_.2 ≠ gb104) ∧ (Below w.heap.size w w')) ?_ ?_
     rotate_left
     ·intro hCont
      refine two_ (i := 2) (j := 4) (Ni := some 19) (Nj := some 6) (ls 6 7) (ls 6 19) rfl rfl rfl rfl (by kernel_rfl) (by decide) (by decide) (fun K hK => ?_) (fun K hK => ?_)
      ·skip
       refine gs_ Try.func24 #[.slice A1 l1.length c1] ?_
       with_reducible refine (rrset_Of.calls _ _ l1 t107 _ ?side1 ?side2 A19.out).mono ?_
       (case side1 => repeat ((exact (Kd.C_below HR1.out HB.out))))
       (case side2 => exact HC1.out)
       rintro e w22 ⟨v108, rfl, ho0, hb⟩
       refine ⟨_, rfl, ?_⟩
       have HO109 := Aside0.mk (Kd.R_lower ho0 (below_size HB.out))
       replace BK103 := Aside0.mk (blk_below (by ((exact BK103.out))) hb)
       replace BK104 := Aside0.mk (blk_below (by ((exact BK104.out))) hb)
       replace HB := Aside0.mk (below_step HB.out hb)
       (try clear hb)
       (try clear ho0)
       obtain ⟨Ao23, co23, eo23⟩ := Kd.R_slice HO109.out
       ((subst eo23))
       refine hK.out _ _ ((blk_cell BK103.out 0).trans rfl) (fun hHeld => ?_)
       clear hK K
       refine nm_ (N := (some 19)) ?_
       refine pure_ (i := 3) (N := some 20) (v := ?_) (a' := ?_) (ls 6 15) rfl rfl (by kernel_rfl) (fun _ _ _ h => h) (Or.inl ⟨by rfl, ?_⟩) ?_ ?_
       rotate_left
       ·intro w'
        go_simp
        with_reducible rfl
       rotate_left
       ·simp only [Act.put, sA_, sZ_, sS_, i64_w, i32_w]
        rfl
       refine one_ (i := 4) (N := some 6) (ls 6 31) rfl rfl (by kernel_rfl) (by decide) (fun K hK => ?_)
       refine box_step ?hg (N := 6) ?hd (cs := #[.string (⟨#[]⟩ : ByteArray), .slice none 0 0, .int .i64 0]) (t := 27) ?hr ?_; (case hd => rfl); (case hg => rfl); (case hr => (go_simp; done))
       intro gb110 hg w24 hbox hb
       have BK110 := Aside0.mk (hbox)
       have GW110 := Aside0.mk (ge_ hg (below_size HB.out))
       have GE110 := Aside0.mk (ge_ hg (below_size HB.out))
       have NB103_110 := Aside0.mk (nl_ hg (by ((exact BK103.out))))
       have NB110_103 := Aside0.mk (nr_ hg (by ((exact BK103.out))))
       have NB104_110 := Aside0.mk (nl_ hg (by ((exact BK104.out))))
       have NB110_104 := Aside0.mk (nr_ hg (by ((exact BK104.out))))
       replace HO109 := Aside0.mk (Kd.R_below (by ((exact HO109.out))) hb)
       replace BK103 := Aside0.mk (blk_below (by ((exact BK103.out))) hb)
       replace BK104 := Aside0.mk (blk_below (by ((exact BK104.out))) hb)
       replace HB := Aside0.mk (below_step HB.out hb)
       clear hb hbox hg
       refine hK.out _ _ ((blk_cell BK103.out 0).trans rfl) (fun hHeld => ?_)
       clear hK K
       refine nm_ (N := (some 6)) ?_
       exact norm_ (by simp only [putAll, Act.put, List.setIfInBounds_toArray, List.set_cons_zero, List.set_cons_succ]) (hCont (.slice Ao23 t107.length co23, gb110) _ ⟨hHeld, (by ((exact HO109.out))), (by ((exact BK103.out))), (by ((exact BK104.out))), (by ((exact BK110.out))), GW110.out, GE110.out, NB103_110.out, NB110_103.out, NB104_110.out, NB110_104.out, HB.out⟩)
      ·skip
       refine box_step ?hg (N := 6) ?hd (cs := #[.string (⟨#[]⟩ : ByteArray), .slice none 0 0, .int .i64 0]) (t := 27) ?hr ?_; (case hd => rfl); (case hg => rfl); (case hr => (go_simp; done))
       intro gb110 hg w22 hbox hb
       have BK110 := Aside0.mk (hbox)
       have GW110 := Aside0.mk (ge_ hg (below_size HB.out))
       have GE110 := Aside0.mk (ge_ hg (below_size HB.out))
       have NB103_110 := Aside0.mk (nl_ hg (by ((exact BK103.out))))
       have NB110_103 := Aside0.mk (nr_ hg (by ((exact BK103.out))))
       have NB104_110 := Aside0.mk (nl_ hg (by ((exact BK104.out))))
       have NB110_104 := Aside0.mk (nr_ hg (by ((exact BK104.out))))
       replace BK103 := Aside0.mk (blk_below (by ((exact BK103.out))) hb)
       replace BK104 := Aside0.mk (blk_below (by ((exact BK104.out))) hb)
       replace HB := Aside0.mk (below_step HB.out hb)
       clear hb hbox hg
       refine hK.out _ _ ((blk_cell BK103.out 0).trans rfl) (fun hHeld => ?_)
       clear hK K
       refine nm_ (N := (some 6)) ?_
       refine one_ (i := 2) (N := some 19) (ls 6 23) rfl rfl (by kernel_rfl) (by decide) (fun K hK => ?_)
       refine gs_ Try.func24 #[.slice A1 l1.length c1] ?_
       with_reducible refine (rrset_Of.calls _ _ l1 t107 _ ?side1 ?side2 A19.out).mono ?_
       (case side1 => repeat ((exact (Kd.C_below HR1.out HB.out))))
       (case side2 => exact HC1.out)
       rintro e w23 ⟨v108, rfl, ho0, hb⟩
       refine ⟨_, rfl, ?_⟩
       have HO109 := Aside0.mk (Kd.R_lower ho0 (below_size HB.out))
       replace BK103 := Aside0.mk (blk_below (by ((exact BK103.out))) hb)
       replace BK104 := Aside0.mk (blk_below (by ((exact BK104.out))) hb)
       replace BK110 := Aside0.mk (blk_below (by ((exact BK110.out))) hb)
       replace HB := Aside0.mk (below_step HB.out hb)
       (try clear hb)
       (try clear ho0)
       obtain ⟨Ao24, co24, eo24⟩ := Kd.R_slice HO109.out
       ((subst eo24))
       refine hK.out _ _ ((blk_cell BK103.out 0).trans rfl) (fun hHeld => ?_)
       clear hK K
       refine nm_ (N := (some 19)) ?_
       refine pure_ (i := 3) (N := some 20) (v := ?_) (a' := ?_) (ls 6 31) rfl rfl (by kernel_rfl) (fun _ _ _ h => h) (Or.inl ⟨by rfl, ?_⟩) ?_ ?_
       rotate_left
       ·intro w'
        go_simp
        with_reducible rfl
       rotate_left
       ·simp only [Act.put, sA_, sZ_, sS_, i64_w, i32_w]
        rfl
       exact norm_ (by simp only [putAll, Act.put, List.setIfInBounds_toArray, List.set_cons_zero, List.set_cons_succ]) (hCont (.slice Ao24 t107.length co24, gb110) _ ⟨hHeld, (by ((exact HO109.out))), (by ((exact BK103.out))), (by ((exact BK104.out))), (by ((exact BK110.out))), GW110.out, GE110.out, NB103_110.out, NB110_103.out, NB104_110.out, NB110_104.out, HB.out⟩)
     rintro ⟨v108, gb110⟩ w25 ⟨hS_, h0_, h1_, h2_, h3_, h4_, h5_, h6_, h7_, h8_, h9_, h10_⟩
     have n0_ : Aside0 (Kd.R k33 33 w25 w.heap.size (fun _ => True) v108 t107) := ⟨h0_⟩
     have n1_ : Aside0 (w25.heap[gb103]? = some (.cells #[.string a0] 9 (0, 0))) := ⟨h1_⟩
     have n2_ : Aside0 (w25.heap[gb104]? = some (.cells #[.string (⟨#[]⟩ : ByteArray), .slice none 0 0, .int .i64 0] 27 (0, 0))) := ⟨h2_⟩
     have n3_ : Aside0 (w25.heap[gb110]? = some (.cells #[.string (⟨#[]⟩ : ByteArray), .slice none 0 0, .int .i64 0] 27 (0, 0))) := ⟨h3_⟩
     have n4_ : Aside0 (w.heap.size ≤ gb110) := ⟨h4_⟩
     have n5_ : Aside0 (w.heap.size ≤ gb110) := ⟨h5_⟩
     have n6_ : Aside0 (gb103 ≠ gb110) := ⟨h6_⟩
     have n7_ : Aside0 (gb110 ≠ gb103) := ⟨h7_⟩
     have n8_ : Aside0 (gb104 ≠ gb110) := ⟨h8_⟩
     have n9_ : Aside0 (gb110 ≠ gb104) := ⟨h9_⟩
     have n10_ : Aside0 (Below w.heap.size w w25) := ⟨h10_⟩
     clear BK103
     clear BK104
     clear HB
     clear h0_ h1_ h2_ h3_ h4_ h5_ h6_ h7_ h8_ h9_ h10_
     have HO109 := n0_
     have BK103 := n1_
     have BK104 := n2_
     have BK110 := n3_
     have GW110 := n4_
     have GE110 := n5_
     have NB103_110 := n6_
     have NB110_103 := n7_
     have NB104_110 := n8_
     have NB110_104 := n9_
     have HB := n10_
     clear n0_ n1_ n2_ n3_ n4_ n5_ n6_ n7_ n8_ n9_ n10_
     have hHeld : w25.cell? ⟨gb103, 0, none⟩ = some (.string a0) := hS_
     obtain ⟨Ao26, co26, eo26⟩ := Kd.R_slice HO109.out
     ((subst eo26))
     refine norm_ (a' := ?_) ?_ ?_
     rotate_left
     ·simp only [putAll, Act.put, List.setIfInBounds_toArray, List.set_cons_zero, List.set_cons_succ]
      rfl
     refine one_ (i := 5) (N := none) (ls 6 63) rfl rfl (by kernel_rfl) (by decide) (fun K hK => ?_)
     have hs27 : w25.cell? ⟨gb110, 0, none⟩ = some (.string (⟨#[]⟩ : ByteArray)) := (blk_cell BK110.out 0).trans rfl
     have hfs27 := blk_frozen BK110.out 0
     have hns27_0 := NB103_110.out
     have hns27_1 := NB104_110.out
     have hms27_0 := NB110_103.out
     have hms27_1 := NB110_104.out
     have hs28 : w25.cell? ⟨gb110, 1, none⟩ = some (.slice none 0 0) := (blk_cell BK110.out 1).trans rfl
     have hfs28 := blk_frozen BK110.out 1
     have hns28_0 := NB103_110.out
     have hns28_1 := NB104_110.out
     have hms28_0 := NB110_103.out
     have hms28_1 := NB110_104.out
     have hs29 : w25.cell? ⟨gb110, 2, none⟩ = some (.int .i64 0) := (blk_cell BK110.out 2).trans rfl
     have hfs29 := blk_frozen BK110.out 2
     have hns29_0 := NB103_110.out
     have hns29_1 := NB104_110.out
     have hms29_0 := NB110_103.out
     have hms29_1 := NB110_104.out
     refine skip_ (w1 := ?_) (by rfl) rfl ?_ ?_
     rotate_left
     ·go_simp
      rfl
     refine hK.out _ _ (((cell_far (p := ⟨gb110, _, none⟩) NB103_110.out _).trans (((cell_far (p := ⟨gb110, _, none⟩) NB103_110.out _).trans (((cell_far (p := ⟨gb110, _, none⟩) NB103_110.out _).trans (hHeld))))))) (fun hHeld => ?_)
     clear hK K
     refine done_ (by kernel_rfl) ?_
     have hnb30 := NB110_103.out
     have hnc30 := NB103_110.out
     have hnb31 := NB110_104.out
     have hnc31 := NB104_110.out
     obtain ⟨hcz32_0, hcz32_1, hcz32_2, hfz32_0, hfz32_1, hfz32_2⟩ := z3_ BK110.out
    ·have hnb33 := NB104_103.out
     have hnc33 := NB103_104.out
     obtain ⟨hcz34_0, hcz34_1, hcz34_2, hfz34_0, hfz34_1, hfz34_2⟩ := z3_ BK104.out
     (try go_wp2)
     refine bodyPost_ret (results_ct rfl _ _ gb104 27 #[.string (⟨#[]⟩ : ByteArray), .slice none 0 0, .int .i64 0] (0, 0) _ rfl (by (with_reducible repeat ((refine blk_drewN ?_ _))); refine blk_put (cs := #[.string (⟨#[]⟩ : ByteArray), .slice none 0 0, .int .i64 0]) ?_ 2 _ rfl; (with_reducible repeat ((refine blk_drewN ?_ _))); refine blk_put (cs := #[.string (⟨#[]⟩ : ByteArray), .slice none 0 0, .int .i64 0]) ?_ 1 _ rfl; (with_reducible repeat ((refine blk_drewN ?_ _))); refine blk_put (cs := #[.string (⟨#[]⟩ : ByteArray), .slice none 0 0, .int .i64 0]) ?_ 0 _ rfl; (with_reducible repeat ((refine blk_drewN ?_ _))); refine blk_far ?_ NB104_110.out _; (with_reducible repeat ((refine blk_drewN ?_ _))); refine blk_far ?_ NB104_110.out _; (with_reducible repeat ((refine blk_drewN ?_ _))); refine blk_far ?_ NB104_110.out _; (with_reducible repeat ((refine blk_drewN ?_ _))); exact BK104.out) Try.underlying27 rfl (by kernel_rfl)) rfl ?_
     exact ⟨_, by rfl, by (exact Kd.R_nil _ _ _ _ _), by repeat ((with_reducible first | exact HB.out | refine below_set ?_ GE104.out | refine below_set ?_ GE110.out))⟩
    all_goals
     (try go_wp2)
     have n0_ : Aside0 (Kd.R k33 33 (((w25.setCell ⟨gb110, 0, none⟩ (.string a0)).setCell ⟨gb110, 1, none⟩ (.slice Ao26 t107.length co26)).setCell ⟨gb110, 2, none⟩ (.int .i64 0)) w.heap.size (fun _ => True) (.slice Ao26 t107.length co26) t107) := ⟨by (with_reducible repeat ((apply Kd.R_alloc))); exact Kd.R_mono (Kd.R_far (p := ⟨gb110, 2, none⟩) (Kd.R_far (p := ⟨gb110, 1, none⟩) (Kd.R_far (p := ⟨gb110, 0, none⟩) (Kd.R_types HO109.out BK110.out (by decide)) (fun _ hk => hk.2) (.string a0)) (fun _ hk => hk.2) (.slice Ao26 t107.length co26)) (fun _ hk => hk.2) (.int .i64 0)) (fun _ hk => trivial)⟩
     have n1_ : Aside0 ((((w25.setCell ⟨gb110, 0, none⟩ (.string a0)).setCell ⟨gb110, 1, none⟩ (.slice Ao26 t107.length co26)).setCell ⟨gb110, 2, none⟩ (.int .i64 0)).heap[gb103]? = some (.cells #[.string a0] 9 (0, 0))) := ⟨by (with_reducible repeat ((refine blk_drewN ?_ _))); refine blk_far ?_ NB103_110.out _; (with_reducible repeat ((refine blk_drewN ?_ _))); refine blk_far ?_ NB103_110.out _; (with_reducible repeat ((refine blk_drewN ?_ _))); refine blk_far ?_ NB103_110.out _; (with_reducible repeat ((refine blk_drewN ?_ _))); exact BK103.out⟩
     have n2_ : Aside0 ((((w25.setCell ⟨gb110, 0, none⟩ (.string a0)).setCell ⟨gb110, 1, none⟩ (.slice Ao26 t107.length co26)).setCell ⟨gb110, 2, none⟩ (.int .i64 0)).heap[gb104]? = some (.cells #[.string (⟨#[]⟩ : ByteArray), .slice none 0 0, .int .i64 0] 27 (0, 0))) := ⟨by (with_reducible repeat ((refine blk_drewN ?_ _))); refine blk_far ?_ NB104_110.out _; (with_reducible repeat ((refine blk_drewN ?_ _))); refine blk_far ?_ NB104_110.out _; (with_reducible repeat ((refine blk_drewN ?_ _))); refine blk_far ?_ NB104_110.out _; (with_reducible repeat ((refine blk_drewN ?_ _))); exact BK104.out⟩
     have n3_ : Aside0 ((((w25.setCell ⟨gb110, 0, none⟩ (.string a0)).setCell ⟨gb110, 1, none⟩ (.slice Ao26 t107.length co26)).setCell ⟨gb110, 2, none⟩ (.int .i64 0)).heap[gb110]? = some (.cells #[.string a0, .slice Ao26 t107.length co26, .int .i64 0] 27 (0, 0))) := ⟨by (with_reducible repeat ((refine blk_drewN ?_ _))); refine blk_put (cs := #[.string a0, .slice Ao26 t107.length co26, .int .i64 0]) ?_ 2 _ rfl; (with_reducible repeat ((refine blk_drewN ?_ _))); refine blk_put (cs := #[.string a0, .slice none 0 0, .int .i64 0]) ?_ 1 _ rfl; (with_reducible repeat ((refine blk_drewN ?_ _))); refine blk_put (cs := #[.string (⟨#[]⟩ : ByteArray), .slice none 0 0, .int .i64 0]) ?_ 0 _ rfl; (with_reducible repeat ((refine blk_drewN ?_ _))); exact BK110.out⟩
     have n4_ : Aside0 (Below w.heap.size w (((w25.setCell ⟨gb110, 0, none⟩ (.string a0)).setCell ⟨gb110, 1, none⟩ (.slice Ao26 t107.length co26)).setCell ⟨gb110, 2, none⟩ (.int .i64 0))) := ⟨by repeat ((with_reducible first | exact HB.out | refine below_set ?_ GE110.out))⟩
     (try clear HO109)
     (try clear BK103)
     (try clear BK104)
     (try clear BK110)
     (try clear HB)
     generalize (((w25.setCell ⟨gb110, 0, none⟩ (.string a0)).setCell ⟨gb110, 1, none⟩ (.slice Ao26 t107.length co26)).setCell ⟨gb110, 2, none⟩ (.int .i64 0)) = w51 at n0_ n1_ n2_ n3_ n4_ ⊢
     have HO109 := n0_
     have BK103 := n1_
     have BK104 := n2_
     have BK110 := n3_
     have HB := n4_
     clear n0_ n1_ n2_ n3_ n4_
     replace HO109 := Aside0.mk (Kd.R_drew HO109.out)
     replace BK103 := Aside0.mk (blk_drew BK103.out)
     replace BK104 := Aside0.mk (blk_drew BK104.out)
     replace BK110 := Aside0.mk (blk_drew BK110.out)
     replace HB := Aside0.mk (below_drew1 HB.out)
     refine start_ (n := 8) (ds := []) (ls 8 0) (by kernel_rfl) rfl rfl (c3_ BK110.out (d1_ BK103.out)) (fun hHeld => ?_); refine with_tabW zone_New.tab6 zone_New.bits6 (fun HT_ HW_ => ?_)
     generalize w51.drew = w52 at HO109 BK103 BK104 BK110 HB hHeld ⊢
     refine td_ [(0, 26)] ?_
     refine pm_ HT_ ?_
     refine dn_ ?_
     refine td_ [(1, 27), (3, 29), (4, 30)] ?_
     iterate 3 (refine tm_ HT_ HW_ hHeld ?_)
     refine dn_ ?_
     refine om1_ HT_ (i := 2) (N := some 28) (ls 8 31) (fun K hK => ?_)
     refine gs_ Try.func25 #[.slice Ao26 t107.length co26, .int .i64 6] ?_
     with_reducible refine (rrset_Typed.calls _ _ t107 6 t111 _ ?side1 ?side2 A35.out).mono ?_
     (case side1 => exact (Kd.R_reads' HO109.out).2.2)
     (case side2 => exact (Kd.R_reads' HO109.out).2.1)
     rintro e w53 ⟨v112, rfl, ho0, hb⟩
     refine ⟨_, rfl, ?_⟩
     have HO113 := Aside0.mk (Kd.R_lower (Kd.R_new' ho0 (Kd.R_lt (by ((exact HO109.out))))) (below_size HB.out))
     replace HO109 := Aside0.mk (Kd.R_elder' (by ((exact HO109.out))) (Kd.R_base ho0) hb)
     replace BK103 := Aside0.mk (blk_below (by ((exact BK103.out))) hb)
     replace BK104 := Aside0.mk (blk_below (by ((exact BK104.out))) hb)
     replace BK110 := Aside0.mk (blk_below (by ((exact BK110.out))) hb)
     replace HB := Aside0.mk (below_step HB.out hb)
     (try clear hb)
     (try clear ho0)
     refine hK.out _ _ (c3_ BK110.out (d1_ BK103.out)) (fun hHeld => ?_)
     clear hK K
     refine nm_ (N := (some 28)) ?_
     refine om1_ HT_ (i := 5) (N := some 31) (ls 8 63) (fun K hK => ?_)
     refine gs_ Try.func26 #[.agg #[.string a0, .slice Ao26 t107.length co26, .int .i64 0], .string a0, .int .i64 2] ?_
     with_reducible refine (zone_Zone_Set.calls a0 _ _ t107 0 a0 2 t114 _ ?side1 ?side2 A36.out).mono ?_
     (case side1 => exact (Kd.R_reads' HO109.out).2.2)
     (case side2 => exact (Kd.R_reads' HO109.out).2.1)
     rintro e w54 ⟨v115, rfl, ho0, hb⟩
     refine ⟨_, rfl, ?_⟩
     have HO116 := Aside0.mk (Kd.R_lower (Kd.R_new' (Kd.R_new' ho0 (Kd.R_lt (by ((exact HO109.out))))) (Kd.R_lt (by ((exact HO113.out))))) (below_size HB.out))
     replace HO109 := Aside0.mk (Kd.R_elder' (by ((exact HO109.out))) (Kd.R_base ho0) hb)
     replace HO113 := Aside0.mk (Kd.R_elder' (by ((exact HO113.out))) (Kd.R_base ho0) hb)
     replace BK103 := Aside0.mk (blk_below (by ((exact BK103.out))) hb)
     replace BK104 := Aside0.mk (blk_below (by ((exact BK104.out))) hb)
     replace BK110 := Aside0.mk (blk_below (by ((exact BK110.out))) hb)
     replace HB := Aside0.mk (below_step HB.out hb)
     (try clear hb)
     (try clear ho0)
     refine hK.out _ _ (c3_ BK110.out (d1_ BK103.out)) (fun hHeld => ?_)
     clear hK K
     refine nm_ (N := (some 31)) ?_
     refine td_ [(6, 7), (7, 8)] ?_
     iterate 2 (refine pm_ HT_ ?_)
     refine dn_ ?_
     refine done_ (done_of HT_.out (by kernel_rfl)) ?_
     obtain ⟨hcz55_0, hcz55_1, hcz55_2, hfz55_0, hfz55_1, hfz55_2⟩ := z3_ BK110.out
     have hnb56 := NB103_104.out
     have hnc56 := NB104_103.out
     obtain ⟨hcz57_0, hfz57_0⟩ := z1_ BK103.out
    ·(try go_wp2_with (((go_at_call 21; (with_reducible refine (within_any.calls kj2 _ _ t107 a0 true _ ?side1 ?side2 A37.out gb103 ?side3).mono ?_); (case side1 => exact (Kd.R_reads' HO109.out).2.2); (case side2 => exact (Kd.R_reads' HO109.out).2.1); (case side3 => (exact (blk_cell BK103.out 0).trans rfl)); rintro e w58 ⟨rfl, hb⟩; replace HO109 := Aside0.mk (Kd.R_below (by ((exact HO109.out))) hb); replace HO113 := Aside0.mk (Kd.R_below (by ((exact HO113.out))) hb); replace HO116 := Aside0.mk (Kd.R_below (by ((exact HO116.out))) hb); replace BK103 := Aside0.mk (blk_below (by ((exact BK103.out))) hb); replace BK104 := Aside0.mk (blk_below (by ((exact BK104.out))) hb); replace BK110 := Aside0.mk (blk_below (by ((exact BK110.out))) hb); replace HB := Aside0.mk (below_step HB.out hb); (try clear hb); obtain ⟨hcz59_0, hcz59_1, hcz59_2, hfz59_0, hfz59_1, hfz59_2⟩ := z3_ BK104.out))))
     refine bodyPost_ret (results_ct rfl _ _ gb104 27 #[.string (⟨#[]⟩ : ByteArray), .slice none 0 0, .int .i64 0] (0, 0) _ rfl (by (with_reducible repeat ((refine blk_drewN ?_ _))); refine blk_put (cs := #[.string (⟨#[]⟩ : ByteArray), .slice none 0 0, .int .i64 0]) ?_ 2 _ rfl; (with_reducible repeat ((refine blk_drewN ?_ _))); refine blk_put (cs := #[.string (⟨#[]⟩ : ByteArray), .slice none 0 0, .int .i64 0]) ?_ 1 _ rfl; (with_reducible repeat ((refine blk_drewN ?_ _))); refine blk_put (cs := #[.string (⟨#[]⟩ : ByteArray), .slice none 0 0, .int .i64 0]) ?_ 0 _ rfl; (with_reducible repeat ((refine blk_drewN ?_ _))); exact BK104.out) Try.underlying27 rfl (by kernel_rfl)) rfl ?_
     exact ⟨_, by rfl, by (exact Kd.R_nil _ _ _ _ _), by repeat ((with_reducible first | exact HB.out | refine below_set ?_ GE104.out))⟩
    all_goals
     (try go_wp2_with (((go_at_call 21; (with_reducible refine (within_any.calls kj2 _ _ t107 a0 false _ ?side1 ?side2 A37.out gb103 ?side3).mono ?_); (case side1 => exact (Kd.R_reads' HO109.out).2.2); (case side2 => exact (Kd.R_reads' HO109.out).2.1); (case side3 => (exact (blk_cell BK103.out 0).trans rfl)); rintro e w84 ⟨rfl, hb⟩; replace HO109 := Aside0.mk (Kd.R_below (by ((exact HO109.out))) hb); replace HO113 := Aside0.mk (Kd.R_below (by ((exact HO113.out))) hb); replace HO116 := Aside0.mk (Kd.R_below (by ((exact HO116.out))) hb); replace BK103 := Aside0.mk (blk_below (by ((exact BK103.out))) hb); replace BK104 := Aside0.mk (blk_below (by ((exact BK104.out))) hb); replace BK110 := Aside0.mk (blk_below (by ((exact BK110.out))) hb); replace HB := Aside0.mk (below_step HB.out hb); (try clear hb)))))
     replace HO109 := Aside0.mk (Kd.R_drew HO109.out)
     replace HO113 := Aside0.mk (Kd.R_drew HO113.out)
     replace HO116 := Aside0.mk (Kd.R_drew HO116.out)
     replace BK103 := Aside0.mk (blk_drew BK103.out)
     replace BK104 := Aside0.mk (blk_drew BK104.out)
     replace BK110 := Aside0.mk (blk_drew BK110.out)
     replace HB := Aside0.mk (below_drew1 HB.out)
     obtain ⟨Ao86, co86, eo86⟩ := Kd.R_slice HO113.out
     ((subst eo86))
    iterate 4
     focus
      have p118 : 0 ≤ (0 : Int) := (by omega)
      have q118 : 0 < (t111.length : Int) := of_decide_eq_true (by assumption)
      obtain ⟨ad118, e118, hx118_0, hx118_1, hx118_2, hx118_3, hx118_4⟩ := at_T33 (Kd.R_reads' HO113.out).2.2 0 p118 q118
      cases e118
      have qi118 : (0 < t111.length) = True := eq_true (by omega)
      (try rw [show ((0 : Int)).toNat = 0 from rfl] at hx118_0)
      (try rw [show 0 * 5 = 0 from rfl] at hx118_0)
      (try rw [Addr.add_zero'] at hx118_0)
      (try rw [show ((0 : Int)).toNat = 0 from rfl] at hx118_1)
      (try rw [show 0 * 5 = 0 from rfl] at hx118_1)
      (try rw [Addr.add_zero'] at hx118_1)
      (try rw [show ((0 : Int)).toNat = 0 from rfl] at hx118_2)
      (try rw [show 0 * 5 = 0 from rfl] at hx118_2)
      (try rw [Addr.add_zero'] at hx118_2)
      (try rw [show ((0 : Int)).toNat = 0 from rfl] at hx118_3)
      (try rw [show 0 * 5 = 0 from rfl] at hx118_3)
      (try rw [Addr.add_zero'] at hx118_3)
      (try rw [show ((0 : Int)).toNat = 0 from rfl] at hx118_4)
      (try rw [show 0 * 5 = 0 from rfl] at hx118_4)
      (try rw [Addr.add_zero'] at hx118_4)
      replace p118 := eq_true p118
      replace q118 := eq_true q118
     rotate_left
    rotate_left
    focus
     refine start_ (n := 24) (ds := []) (ls 24 0) (by kernel_rfl) rfl rfl (c1_ BK103.out (ec_ hx118_0 (ec_ hx118_1 (ec_ hx118_2 (ec_ hx118_3 (ed_ hx118_4)))))) (fun hHeld => ?_); refine with_tabW zone_New.tab9 zone_New.bits9 (fun HT_ HW_ => ?_)
    rotate_left
    iterate 2
     focus
      refine start_ (n := 24) (ds := []) (ls 24 0) (by kernel_rfl) rfl rfl (c1_ BK103.out (c3_ BK110.out (ec_ hx118_0 (ec_ hx118_1 (ec_ hx118_2 (ec_ hx118_3 (ed_ hx118_4))))))) (fun hHeld => ?_); refine with_tabW zone_New.tab9 zone_New.bits9 (fun HT_ HW_ => ?_)
     rotate_left
    focus
     refine start_ (n := 24) (ds := []) (ls 24 0) (by kernel_rfl) rfl rfl (c1_ BK103.out (ec_ hx118_0 (ec_ hx118_1 (ec_ hx118_2 (ec_ hx118_3 (ed_ hx118_4)))))) (fun hHeld => ?_); refine with_tabW zone_New.tab9 zone_New.bits9 (fun HT_ HW_ => ?_)
    rotate_left
    rotate_left
    iterate 4
     focus
      generalize w84.drew = w85 at HO109 HO113 HO116 BK103 BK104 BK110 HB hx118_0 hx118_1 hx118_2 hx118_3 hx118_4 hHeld ⊢
      refine td_ [(0, 39), (1, 40), (2, 41), (3, 42), (4, 43), (5, 44), (6, 45)] ?_
      iterate 7 (refine pm_ HT_ ?_)
      refine dn_ ?_
      refine td_ [(7, 46), (8, 47)] ?_
     rotate_left
    rotate_left
    focus
     iterate 2 (refine tm_ HT_ HW_ hHeld ?_)
    rotate_left
    iterate 2
     focus
      iterate 2 (refine tm_ HT_ HW_ hHeld ?_)
     rotate_left
    focus
     iterate 2 (refine tm_ HT_ HW_ hHeld ?_)
    rotate_left
    rotate_left
    iterate 4
     focus
      refine dn_ ?_
      refine om1_ HT_ (i := 9) (N := some 48) (ls 24 1023) (fun K hK => ?_)
      refine gs_ Try.func29 #[.string ((rd_T33 t111 0).f0), .string a0] ?_
      with_reducible refine (name_Alike.calls ((rd_T33 t111 0).f0) a0 _ _ A62.out).mono ?_
      rintro e w87 ⟨rfl, hb⟩
     rotate_left
    rotate_left
    focus
     have HS1_ := kp_ hb hHeld.2.1
     have HS2_ := kp_ hb hHeld.2.2.1
     have HS3_ := kp_ hb hHeld.2.2.2.1
     have HS4_ := kp_ hb hHeld.2.2.2.2.1
     have HS5_ := kp_ hb hHeld.2.2.2.2.2
    rotate_left
    iterate 2
     focus
      have HS4_ := kp_ hb hHeld.2.2.2.2.1
      have HS5_ := kp_ hb hHeld.2.2.2.2.2.1
      have HS6_ := kp_ hb hHeld.2.2.2.2.2.2.1
      have HS7_ := kp_ hb hHeld.2.2.2.2.2.2.2.1
      have HS8_ := kp_ hb hHeld.2.2.2.2.2.2.2.2
     rotate_left
    focus
     have HS1_ := kp_ hb hHeld.2.1
     have HS2_ := kp_ hb hHeld.2.2.1
     have HS3_ := kp_ hb hHeld.2.2.2.1
     have HS4_ := kp_ hb hHeld.2.2.2.2.1
     have HS5_ := kp_ hb hHeld.2.2.2.2.2
    rotate_left
    rotate_left
    iterate 4
     focus
      refine ⟨_, rfl, ?_⟩
      replace HO109 := Aside0.mk (Kd.R_below (by ((exact HO109.out))) hb)
      replace HO113 := Aside0.mk (Kd.R_below (by ((exact HO113.out))) hb)
      replace HO116 := Aside0.mk (Kd.R_below (by ((exact HO116.out))) hb)
      replace BK103 := Aside0.mk (blk_below (by ((exact BK103.out))) hb)
      replace BK104 := Aside0.mk (blk_below (by ((exact BK104.out))) hb)
      replace BK110 := Aside0.mk (blk_below (by ((exact BK110.out))) hb)
      replace HB := Aside0.mk (below_step HB.out hb)
      (try clear hb)
     rotate_left
    rotate_left
    iterate 3
     focus
      obtain ⟨Ao88, co88, eo88⟩ := Kd.R_slice HO116.out
      ((subst eo88))
     rotate_left
    rotate_left 2
    focus
     refine hK.out _ _ (c1_ BK103.out (ec_ HS1_ (ec_ HS2_ (ec_ HS3_ (ec_ HS4_ (ed_ HS5_)))))) (fun hHeld => ?_)
    rotate_left
    iterate 2
     focus
      refine hK.out _ _ (c1_ BK103.out (c3_ BK110.out (ec_ HS4_ (ec_ HS5_ (ec_ HS6_ (ec_ HS7_ (ed_ HS8_))))))) (fun hHeld => ?_)
     rotate_left
    focus
     refine hK.out _ _ (c1_ BK103.out (ec_ HS1_ (ec_ HS2_ (ec_ HS3_ (ec_ HS4_ (ed_ HS5_)))))) (fun hHeld => ?_)
    rotate_left
    rotate_left
    iterate 4
     focus
      clear hK K
      refine nm_ (N := (some 48)) ?_
     rotate_left
    rotate_left
    focus
     refine td_ [(10, 49), (11, 50), (12, 51), (13, 52), (14, 53), (15, 54), (16, 55), (17, 56)] ?_
     iterate 8 (refine pm_ HT_ ?_)
     refine dn_ ?_
     refine td_ [(18, 57), (19, 58), (20, 59), (21, 60)] ?_
     iterate 4 (refine om_ HT_ ?_)
     refine dn_ ?_
     refine td_ [(22, 61), (23, 38)] ?_
     iterate 2 (refine pm_ HT_ ?_)
    rotate_left
    iterate 2
     focus
      refine td_ [(10, 49), (11, 50), (12, 51), (13, 52), (14, 53), (15, 54), (16, 55), (17, 56), (18, 57)] ?_
      iterate 9 (refine pm_ HT_ ?_)
      refine dn_ ?_
      refine td_ [(19, 58)] ?_
      refine tm_ HT_ HW_ hHeld ?_
      refine dn_ ?_
      refine om1_ HT_ (i := 20) (N := some 59) (ls 24 2097151) (fun K hK => ?_)
      refine gs_ Try.func30 #[.slice Ao26 t107.length co26] ?_
      with_reducible refine (zone_apart.calls kj2 _ _ t107 _ _ ?side1 ?side2 A90.out).mono ?_
      (case side1 => exact (Kd.R_reads' HO109.out).2.2)
      (case side2 => exact (Kd.R_reads' HO109.out).2.1)
      rintro e w117 ⟨rfl, hb⟩
      have HS4_ := kp_ hb hHeld.2.2.2.2.1
      have HS5_ := kp_ hb hHeld.2.2.2.2.2.1
      have HS6_ := kp_ hb hHeld.2.2.2.2.2.2.1
      have HS7_ := kp_ hb hHeld.2.2.2.2.2.2.2.1
      have HS8_ := kp_ hb hHeld.2.2.2.2.2.2.2.2
      refine ⟨_, rfl, ?_⟩
      replace HO109 := Aside0.mk (Kd.R_below (by ((exact HO109.out))) hb)
      replace HO113 := Aside0.mk (Kd.R_below (by ((exact HO113.out))) hb)
      replace HO116 := Aside0.mk (Kd.R_below (by ((exact HO116.out))) hb)
      replace BK103 := Aside0.mk (blk_below (by ((exact BK103.out))) hb)
      replace BK104 := Aside0.mk (blk_below (by ((exact BK104.out))) hb)
      replace BK110 := Aside0.mk (blk_below (by ((exact BK110.out))) hb)
      replace HB := Aside0.mk (below_step HB.out hb)
      (try clear hb)
      refine hK.out _ _ (c1_ BK103.out (c3_ BK110.out (ec_ HS4_ (ec_ HS5_ (ec_ HS6_ (ec_ HS7_ (ed_ HS8_))))))) (fun hHeld => ?_)
      clear hK K
      refine nm_ (N := (some 59)) ?_
      refine td_ [(21, 60), (22, 61), (23, 38)] ?_
      iterate 3 (refine pm_ HT_ ?_)
     rotate_left
    focus
     refine td_ [(10, 49), (11, 50), (12, 51)] ?_
     iterate 3 (refine pm_ HT_ ?_)
     refine dn_ ?_
     refine td_ [(13, 52), (14, 53), (15, 54)] ?_
     iterate 3 (refine om_ HT_ ?_)
     refine dn_ ?_
     refine td_ [(16, 55), (17, 56)] ?_
     iterate 2 (refine pm_ HT_ ?_)
     refine dn_ ?_
     refine td_ [(18, 57), (19, 58), (20, 59), (21, 60)] ?_
     iterate 4 (refine om_ HT_ ?_)
     refine dn_ ?_
     refine td_ [(22, 61), (23, 38)] ?_
     iterate 2 (refine pm_ HT_ ?_)
    rotate_left
    focus
     refine start_ (n := 24) (S := fun w' => True) (ds := []) (ls 24 0) (by kernel_rfl) rfl rfl trivial (fun hHeld => ?_); refine with_tabW zone_New.tab9 zone_New.bits9 (fun HT_ HW_ => ?_)
     generalize w84.drew = w193 at HO109 HO113 HO116 BK103 BK104 BK110 HB hHeld ⊢
     refine td_ [(0, 39), (1, 40), (2, 41), (3, 42)] ?_
     iterate 4 (refine pm_ HT_ ?_)
     refine dn_ ?_
     refine td_ [(4, 43), (5, 44), (6, 45), (7, 46), (8, 47), (9, 48), (10, 49)] ?_
     iterate 7 (refine om_ HT_ ?_)
     refine dn_ ?_
     refine td_ [(11, 50), (12, 51)] ?_
     iterate 2 (refine pm_ HT_ ?_)
     refine dn_ ?_
     refine td_ [(13, 52), (14, 53), (15, 54)] ?_
     iterate 3 (refine om_ HT_ ?_)
     refine dn_ ?_
     refine td_ [(16, 55), (17, 56)] ?_
     iterate 2 (refine pm_ HT_ ?_)
     refine dn_ ?_
     refine td_ [(18, 57), (19, 58), (20, 59), (21, 60)] ?_
     iterate 4 (refine om_ HT_ ?_)
     refine dn_ ?_
     refine td_ [(22, 61), (23, 38)] ?_
     iterate 2 (refine pm_ HT_ ?_)
    rotate_left
    all_goals
     refine dn_ ?_
     refine done_ (done_of HT_.out (by kernel_rfl)) ?_
    focus
     obtain ⟨hcz89_0, hcz89_1, hcz89_2⟩ := d3_ BK104.out
    rotate_left
    focus
     (try go_wp2)
     replace HO109 := Aside0.mk (Kd.R_drew HO109.out)
     replace HO113 := Aside0.mk (Kd.R_drew HO113.out)
     replace HO116 := Aside0.mk (Kd.R_drew HO116.out)
     replace BK103 := Aside0.mk (blk_drew BK103.out)
     replace BK104 := Aside0.mk (blk_drew BK104.out)
     replace BK110 := Aside0.mk (blk_drew BK110.out)
     replace HB := Aside0.mk (below_drew1 HB.out)
     have p121 : 0 ≤ (0 : Int) := (by omega)
     have q121 : 0 < (t111.length : Int) := of_decide_eq_true (by assumption)
     obtain ⟨ad121, e121, hx121_0, hx121_1, hx121_2, hx121_3, hx121_4⟩ := at_T33 (Kd.R_reads' HO113.out).2.2 0 p121 q121
     obtain rfl : ad118 = ad121 := (by injection e121)
     have qi121 : (0 < t111.length) = True := eq_true (by omega)
     (try rw [show ((0 : Int)).toNat = 0 from rfl] at hx121_0)
     (try rw [show 0 * 5 = 0 from rfl] at hx121_0)
     (try rw [Addr.add_zero'] at hx121_0)
     (try rw [show ((0 : Int)).toNat = 0 from rfl] at hx121_1)
     (try rw [show 0 * 5 = 0 from rfl] at hx121_1)
     (try rw [Addr.add_zero'] at hx121_1)
     (try rw [show ((0 : Int)).toNat = 0 from rfl] at hx121_2)
     (try rw [show 0 * 5 = 0 from rfl] at hx121_2)
     (try rw [Addr.add_zero'] at hx121_2)
     (try rw [show ((0 : Int)).toNat = 0 from rfl] at hx121_3)
     (try rw [show 0 * 5 = 0 from rfl] at hx121_3)
     (try rw [Addr.add_zero'] at hx121_3)
     (try rw [show ((0 : Int)).toNat = 0 from rfl] at hx121_4)
     (try rw [show 0 * 5 = 0 from rfl] at hx121_4)
     (try rw [Addr.add_zero'] at hx121_4)
     replace p121 := eq_true p121
     replace q121 := eq_true q121
     refine start_ (n := 8) (ds := [7]) (ls 8 0) (by kernel_rfl) rfl rfl (c3_ BK110.out (ec_ hx121_0 (ec_ hx121_1 (ec_ hx121_2 (ec_ hx121_3 (ed_ hx121_4)))))) (fun hHeld => ?_); refine with_tabW zone_New.tab11 zone_New.bits11 (fun HT_ HW_ => ?_)
     generalize w117.drew = w118 at HO109 HO113 HO116 BK103 BK104 BK110 HB hx121_0 hx121_1 hx121_2 hx121_3 hx121_4 hHeld ⊢
     refine td_ [(0, 63), (2, 65), (3, 66)] ?_
     iterate 3 (refine pm_ HT_ ?_)
     refine dn_ ?_
     refine td_ [(1, 64), (4, 67)] ?_
     iterate 2 (refine tm_ HT_ HW_ hHeld ?_)
     refine dn_ ?_
     refine om1_ HT_ (i := 5) (N := some 68) (ls 8 63) (fun K hK => ?_)
     refine gs_ Try.func31 #[.slice Ao26 t107.length co26, .agg #[.string ((rd_T33 t111 0).f0), .int .i64 ((rd_T33 t111 0).f1), .int .i64 ((rd_T33 t111 0).f2), .int .i64 ((rd_T33 t111 0).f3), .string ((rd_T33 t111 0).f4)]] ?_
     with_reducible refine (api_RR_31.calls kj2 _ _ t107 ((rd_T33 t111 0).f0) ((rd_T33 t111 0).f1) ((rd_T33 t111 0).f2) ((rd_T33 t111 0).f3) ((rd_T33 t111 0).f4) t122 _ ?side1 ?side2 A92.out).mono ?_
     (case side1 => exact (Kd.R_reads' HO109.out).2.2)
     (case side2 => exact (Kd.R_reads' HO109.out).2.1)
     rintro e w119 ⟨rfl, hb⟩
     have HS3_ := kp_ hb hHeld.2.2.2.1
     have HS4_ := kp_ hb hHeld.2.2.2.2.1
     have HS5_ := kp_ hb hHeld.2.2.2.2.2.1
     have HS6_ := kp_ hb hHeld.2.2.2.2.2.2.1
     have HS7_ := kp_ hb hHeld.2.2.2.2.2.2.2
     refine ⟨_, rfl, ?_⟩
     replace HO109 := Aside0.mk (Kd.R_below (by ((exact HO109.out))) hb)
     replace HO113 := Aside0.mk (Kd.R_below (by ((exact HO113.out))) hb)
     replace HO116 := Aside0.mk (Kd.R_below (by ((exact HO116.out))) hb)
     replace BK103 := Aside0.mk (blk_below (by ((exact BK103.out))) hb)
     replace BK104 := Aside0.mk (blk_below (by ((exact BK104.out))) hb)
     replace BK110 := Aside0.mk (blk_below (by ((exact BK110.out))) hb)
     replace HB := Aside0.mk (below_step HB.out hb)
     (try clear hb)
     refine hK.out _ _ (c3_ BK110.out (ec_ HS3_ (ec_ HS4_ (ec_ HS5_ (ec_ HS6_ (ed_ HS7_)))))) (fun hHeld => ?_)
     clear hK K
     refine nm_ (N := (some 68)) ?_
     refine td_ [(6, 69)] ?_
     refine pm_ HT_ ?_
     refine dn_ ?_
     refine last_ (i := 7) (N := none) (ls 8 255) rfl rfl (one_of HT_.out (by kernel_rfl)) (by decide) (fun K hK => ?_)
     have hs120 : w119.cell? ⟨gb110, 2, none⟩ = some (.int .i64 0) := (blk_cell BK110.out 2).trans rfl
     have hfs120 := blk_frozen BK110.out 2
     have hns120_0 := NB103_110.out
     have hns120_1 := NB104_110.out
     have hms120_0 := NB110_103.out
     have hms120_1 := NB110_104.out
     refine skip_ (w1 := ?_) (by rfl) rfl ?_ ?_
     rotate_left
     ·go_simp
      rfl
     refine hK.out _ _ ?_
     clear hK K
     refine done_ (done_of HT_.out (by kernel_rfl)) ?_
     obtain ⟨hcz121_0, hcz121_1, hcz121_2, hfz121_0, hfz121_1, hfz121_2⟩ := z3_ BK110.out
     obtain ⟨hcz122_0, hcz122_1, hcz122_2⟩ := d3_ BK104.out
    rotate_left
    focus
     obtain ⟨hcz148_0, hcz148_1, hcz148_2⟩ := d3_ BK104.out
    rotate_left
    focus
     obtain ⟨hcz172_0, hcz172_1, hcz172_2⟩ := d3_ BK104.out
    rotate_left
    focus
     obtain ⟨hcz195_0, hcz195_1, hcz195_2⟩ := d3_ BK104.out
    rotate_left
    all_goals
     have hfz89_0 := blk_frozen BK104.out 0
     have hfz89_1 := blk_frozen BK104.out 1
     have hfz89_2 := blk_frozen BK104.out 2
     (try go_wp2)
    ·refine bodyPost_ret (results_ct rfl _ _ gb104 27 #[.string (⟨#[]⟩ : ByteArray), .slice none 0 0, .int .i64 0] (0, 0) _ rfl (by (with_reducible repeat ((refine blk_drewN ?_ _))); refine blk_put (cs := #[.string (⟨#[]⟩ : ByteArray), .slice none 0 0, .int .i64 0]) ?_ 2 _ rfl; (with_reducible repeat ((refine blk_drewN ?_ _))); refine blk_put (cs := #[.string (⟨#[]⟩ : ByteArray), .slice none 0 0, .int .i64 0]) ?_ 1 _ rfl; (with_reducible repeat ((refine blk_drewN ?_ _))); refine blk_put (cs := #[.string (⟨#[]⟩ : ByteArray), .slice none 0 0, .int .i64 0]) ?_ 0 _ rfl; (with_reducible repeat ((refine blk_drewN ?_ _))); exact BK104.out) Try.underlying27 rfl (by kernel_rfl)) rfl ?_
     exact ⟨_, by rfl, by (exact Kd.R_nil _ _ _ _ _), by repeat ((with_reducible first | exact HB.out | refine below_set ?_ GE104.out))⟩
    ·refine bodyPost_ret (results_ct rfl _ _ gb104 27 #[.string a0, .slice Ao26 t107.length co26, .int .i64 t122] (0, 0) _ rfl (by (with_reducible repeat ((refine blk_drewN ?_ _))); refine blk_put (cs := #[.string a0, .slice Ao26 t107.length co26, .int .i64 0]) ?_ 2 _ rfl; (with_reducible repeat ((refine blk_drewN ?_ _))); refine blk_put (cs := #[.string a0, .slice none 0 0, .int .i64 0]) ?_ 1 _ rfl; (with_reducible repeat ((refine blk_drewN ?_ _))); refine blk_put (cs := #[.string (⟨#[]⟩ : ByteArray), .slice none 0 0, .int .i64 0]) ?_ 0 _ rfl; (with_reducible repeat ((refine blk_drewN ?_ _))); refine blk_far ?_ NB104_110.out _; (with_reducible repeat ((refine blk_drewN ?_ _))); exact BK104.out) Try.underlying27 rfl (by kernel_rfl)) rfl ?_
     exact ⟨_, by rfl, by (with_reducible repeat ((apply Kd.R_alloc))); exact Kd.R_mono (Kd.R_far (p := ⟨gb104, 2, none⟩) (Kd.R_far (p := ⟨gb104, 1, none⟩) (Kd.R_far (p := ⟨gb104, 0, none⟩) (Kd.R_far (p := ⟨gb110, 2, none⟩) (Kd.R_types (Kd.R_types HO109.out BK110.out (by decide)) BK104.out (by decide)) (fun _ hk => hk.1.2) (.int .i64 t122)) (fun _ hk => hk.2) (.string a0)) (fun _ hk => hk.2) (.slice Ao26 t107.length co26)) (fun _ hk => hk.2) (.int .i64 t122)) (fun _ hk => trivial), by repeat ((with_reducible first | exact HB.out | refine below_set ?_ GE104.out | refine below_set ?_ GE110.out))⟩
    ·refine bodyPost_ret (results_ct rfl _ _ gb104 27 #[.string (⟨#[]⟩ : ByteArray), .slice none 0 0, .int .i64 0] (0, 0) _ rfl (by (with_reducible repeat ((refine blk_drewN ?_ _))); refine blk_put (cs := #[.string (⟨#[]⟩ : ByteArray), .slice none 0 0, .int .i64 0]) ?_ 2 _ rfl; (with_reducible repeat ((refine blk_drewN ?_ _))); refine blk_put (cs := #[.string (⟨#[]⟩ : ByteArray), .slice none 0 0, .int .i64 0]) ?_ 1 _ rfl; (with_reducible repeat ((refine blk_drewN ?_ _))); refine blk_put (cs := #[.string (⟨#[]⟩ : ByteArray), .slice none 0 0, .int .i64 0]) ?_ 0 _ rfl; (with_reducible repeat ((refine blk_drewN ?_ _))); exact BK104.out) Try.underlying27 rfl (by kernel_rfl)) rfl ?_
     exact ⟨_, by rfl, by (exact Kd.R_nil _ _ _ _ _), by repeat ((with_reducible first | exact HB.out | refine below_set ?_ GE104.out))⟩
    ·refine bodyPost_ret (results_ct rfl _ _ gb104 27 #[.string (⟨#[]⟩ : ByteArray), .slice none 0 0, .int .i64 0] (0, 0) _ rfl (by (with_reducible repeat ((refine blk_drewN ?_ _))); refine blk_put (cs := #[.string (⟨#[]⟩ : ByteArray), .slice none 0 0, .int .i64 0]) ?_ 2 _ rfl; (with_reducible repeat ((refine blk_drewN ?_ _))); refine blk_put (cs := #[.string (⟨#[]⟩ : ByteArray), .slice none 0 0, .int .i64 0]) ?_ 1 _ rfl; (with_reducible repeat ((refine blk_drewN ?_ _))); refine blk_put (cs := #[.string (⟨#[]⟩ : ByteArray), .slice none 0 0, .int .i64 0]) ?_ 0 _ rfl; (with_reducible repeat ((refine blk_drewN ?_ _))); exact BK104.out) Try.underlying27 rfl (by kernel_rfl)) rfl ?_
     exact ⟨_, by rfl, by (exact Kd.R_nil _ _ _ _ _), by repeat ((with_reducible first | exact HB.out | refine below_set ?_ GE104.out))⟩
    ·refine bodyPost_ret (results_ct rfl _ _ gb104 27 #[.string (⟨#[]⟩ : ByteArray), .slice none 0 0, .int .i64 0] (0, 0) _ rfl (by (with_reducible repeat ((refine blk_drewN ?_ _))); refine blk_put (cs := #[.string (⟨#[]⟩ : ByteArray), .slice none 0 0, .int .i64 0]) ?_ 2 _ rfl; (with_reducible repeat ((refine blk_drewN ?_ _))); refine blk_put (cs := #[.string (⟨#[]⟩ : ByteArray), .slice none 0 0, .int .i64 0]) ?_ 1 _ rfl; (with_reducible repeat ((refine blk_drewN ?_ _))); refine blk_put (cs := #[.string (⟨#[]⟩ : ByteArray), .slice none 0 0, .int .i64 0]) ?_ 0 _ rfl; (with_reducible repeat ((refine blk_drewN ?_ _))); exact BK104.out) Try.underlying27 rfl (by kernel_rfl)) rfl ?_
     exact ⟨_, by rfl, by (exact Kd.R_nil _ _ _ _ _), by repeat ((with_reducible first | exact HB.out | refine below_set ?_ GE104.out))⟩
end Go.Proofs.Ytehdkopjgcoclaa.PZf
namespace Go.Proofs.Ytehdkopjgcoclaa.Rrs
open Go.RowKit Go.Proofs.YtehdkopjgcoclaaW.PrintWords Go.Proofs.YtehdkopjgcoclaaW.PrintLast Go.Proofs.YtehdkopjgcoclaaW.PrintMore Go.Proofs.Ytehdkopjgcoclaa.Given Go.Proofs.Ytehdkopjgcoclaa.PRd Go.Proofs.Ytehdkopjgcoclaa.PRr
set_option linter.unusedVariables false
set_option linter.unusedSimpArgs false
set_option maxHeartbeats 4000000 in
set_option maxRecDepth 100000 in
theorem there_step (x : RR) (n : ByteArray) (b : Bool) (g : Nat) (w : World) (hc : w.cell? ⟨g, 0, none⟩ = some (.string n)) (h : name_Alike.f x.f0 n = some b) :
    Calls Try.prog 37 (#[x.v] ++ #[.pointer (some ⟨g, 0, none⟩)]) w fun e w' => e = .returned (.bool b) ∧ Below w.heap.size w w' := by
  have hu41 := Try.underlying33
  have HB := Aside0.mk (Below.refl w.heap.size w)
  have HC := Lib.hid hc
  have HA := Lib.hid h
  clear hc h
  show Calls Try.prog 37 #[.agg #[.string x.f0, .int .i64 x.f1, .int .i64 x.f2, .int .i64 x.f3, .string x.f4], .pointer (some ⟨g, 0, none⟩)] w _
  go_enter Try.func37, Try.ntmps37
  go_wp2_with (first | ((with_reducible refine gate_dst (N := 2) rfl ?_); refine box_event ?hg (N := 2) ?hd (cs := #[.string x.f0, .int .i64 x.f1, .int .i64 x.f2, .int .i64 x.f3, .string x.f4]) (t := 33) ?hr ?_; (case hd => rfl); (case hg => rfl); (case hr => first | (go_simp; done) | (go_simp; rfl)); intro gb hg w3 hbox hb; have n0_ := Aside0.mk (below_step (HB.out) hb); have n1_ := Aside0.mk (hbox); clear HB; have HB := n0_; have BK := n1_; have hc3 : w3.cell? ⟨g, 0, none⟩ = some (.string n) := (HB.out.cell (World.block_lt_of_cell? w _ HC.out)).trans HC.out; clear n0_ n1_; clear hb hbox hg; have hcz0 : w3.cell? ⟨gb, 0, none⟩ = some (.string x.f0) := (blk_cell BK.out 0).trans rfl))
  refine (name_Alike.calls x.f0 n b w3 HA.out).mono ?_
  rintro e w4 ⟨rfl, hb4⟩
  have HB4 := Lib.hid (below_then HB.out HB.out.size hb4)
  clear hb4 HB
  go_wp2_with fail
  go_ret
  exact ⟨rfl, HB4.out⟩
end Go.Proofs.Ytehdkopjgcoclaa.Rrs
namespace Go.Proofs.Ytehdkopjgcoclaa.Given
open Go.RowKit Go.Proofs.YtehdkopjgcoclaaW.PrintWords Go.Proofs.YtehdkopjgcoclaaW.PrintLast Go.Proofs.YtehdkopjgcoclaaW.PrintMore Go.Proofs.Ytehdkopjgcoclaa.PRd Go.Proofs.Ytehdkopjgcoclaa.PRr Go.Proofs.Ytehdkopjgcoclaa.Rrs
set_option linter.unusedVariables false
open Classical in
noncomputable def zone_Zone_There.f (a0_0 : ByteArray) (l0_1 : List (S33)) (a0_2 : Int) (a1 : ByteArray) : Option Bool := if l0_1.length ≤ 1000000 ∧ ∀ x ∈ l0_1, (name_Alike.f x.f0 a1).isSome = true then some (l0_1.any fun x => (name_Alike.f x.f0 a1).getD false) else none
set_option maxHeartbeats 4000000 in
set_option maxRecDepth 100000 in
theorem zone_Zone_There.calls (a0_0 : ByteArray) (A0_1 : Option Addr) (c0_1 : Nat) (l0_1 : List (S33)) (a0_2 : Int) (a1 : ByteArray) (r : Bool) (w : World) (hr0_1 : Kd.C k33 w A0_1 l0_1.length l0_1) (hc0_1 : l0_1.length ≤ c0_1) (h : zone_Zone_There.f a0_0 l0_1 a0_2 a1 = some r) :
    Calls Try.prog 19 #[.agg #[.string a0_0, .slice A0_1 l0_1.length c0_1, .int .i64 a0_2], .string a1] w fun e w' => e = .returned (.bool r) ∧ Below w.heap.size w w' := by
  unfold zone_Zone_There.f at h
  have hn : l0_1.length ≤ 1000000 ∧ ∀ x ∈ l0_1, (name_Alike.f x.f0 a1).isSome = true := Classical.byContradiction fun hn => by rw [if_neg hn] at h; cases h
  rw [if_pos hn] at h
  injection h with h
  subst h
  have HR := Lib.hid hr0_1
  have HA := Lib.hid hn.2
  replace hn := hn.1
  have HB := Aside0.mk (Below.refl w.heap.size w)
  have hu27 := Try.underlying27
  clear hr0_1 hc0_1
  go_enter Try.func19, Try.ntmps19
  go_wp2_with (first | ((with_reducible refine gate_dst (N := 2) rfl ?_); refine box_event ?hg (N := 2) ?hd (cs := #[.string a0_0, .slice A0_1 l0_1.length c0_1, .int .i64 a0_2]) (t := 27) ?hr ?_; (case hd => rfl); (case hg => rfl); (case hr => first | (go_simp; done) | (go_simp; rfl)); intro gb hg w3 hbox hb; have n0_ := Aside0.mk (below_step (HB.out) hb); have n1_ := Aside0.mk (hbox); clear HB; have HB := n0_; have BK := n1_; clear n0_ n1_; clear hb hbox hg) | ((with_reducible refine gate_dst (N := 3) rfl ?_); refine box_event ?hg (N := 3) ?hd (cs := #[.string a1]) (t := 9) ?hr ?_; (case hd => rfl); (case hg => rfl); (case hr => first | (go_simp; done) | (go_simp; rfl)); intro ga hg w4 hbox hb; have n0_ := Aside0.mk (below_step (HB.out) hb); have n1_ := Aside0.mk (hbox); have n2_ := Aside0.mk (blk_below BK.out hb); clear HB BK; have HB := n0_; have BA := n1_; have BK := n2_; clear n0_ n1_ n2_; clear hb hbox hg; have hcz0 : w4.cell? ⟨gb, 0, none⟩ = some (.string a0_0) := (blk_cell BK.out 0).trans rfl; have hcz1 : w4.cell? ⟨gb, 1, none⟩ = some (.slice A0_1 l0_1.length c0_1) := (blk_cell BK.out 1).trans rfl; have hcz2 : w4.cell? ⟨gb, 2, none⟩ = some (.int .i64 a0_2) := (blk_cell BK.out 2).trans rfl; have hcza : w4.cell? ⟨ga, 0, none⟩ = some (.string a1) := (blk_cell BA.out 0).trans rfl))
  have HC4 := Lib.hid hcza
  refine (contains_any l0_1 (fun x => (name_Alike.f x.f0 a1).getD false) hn 37 Try.f37 _ Try.func37 (by kernel_rfl) rfl A0_1 c0_1 w4 (Kd.C_below HR.out HB.out) (fun x hx W hW => there_step x a1 _ ga W ((hW.cell (World.block_lt_of_cell? w4 _ HC4.out)).trans HC4.out) (by
    obtain ⟨b, hb⟩ := Option.isSome_iff_exists.mp (HA.out x hx)
    rw [hb]; rfl))).mono ?_
  rintro e w5 ⟨rfl, hb5⟩
  have HB5 := Lib.hid (below_then HB.out HB.out.size hb5)
  clear hb5 HB
  go_wp2_with fail
  go_ret
  exact ⟨rfl, HB5.out⟩
end Go.Proofs.Ytehdkopjgcoclaa.Given
namespace Go.Proofs.Ytehdkopjgcoclaa.PZh
open Go.RowKit Go.Proofs.YtehdkopjgcoclaaW.PrintWords Go.Proofs.YtehdkopjgcoclaaW.PrintLast Go.Proofs.YtehdkopjgcoclaaW.PrintMore Go.Proofs.Ytehdkopjgcoclaa.Given Go.Proofs.Ytehdkopjgcoclaa.PRd Go.Proofs.Ytehdkopjgcoclaa.PRr Go.Proofs.Ytehdkopjgcoclaa.PZo Go.Proofs.Ytehdkopjgcoclaa.PZf
attribute [local go_sem] max2_int min2_int max_two min_two max_three min_three max_four min_four   -- for this text's walks alone
set_option linter.unusedVariables false
set_option linter.unusedSimpArgs false
def errW : Option Int → Value
 | none => .nilIface
 | some c => .iface 0 (.int .i64 c)
theorem errW_none : errW none = .nilIface := rfl
theorem errW_some (c : Int) : errW (some c) = .iface 0 (.int .i64 c) := rfl
end Go.Proofs.Ytehdkopjgcoclaa.PZh
namespace Go.Proofs.Ytehdkopjgcoclaa.PZh
open Go.RowKit Go.Proofs.YtehdkopjgcoclaaW.PrintWords Go.Proofs.YtehdkopjgcoclaaW.PrintLast Go.Proofs.YtehdkopjgcoclaaW.PrintMore Go.Proofs.Ytehdkopjgcoclaa.Given Go.Proofs.Ytehdkopjgcoclaa.PRd Go.Proofs.Ytehdkopjgcoclaa.PRr Go.Proofs.Ytehdkopjgcoclaa.PZo Go.Proofs.Ytehdkopjgcoclaa.PZf
attribute [local go_sem] max2_int min2_int max_two min_two max_three min_three max_four min_four   -- for this text's walks alone
set_option linter.unusedVariables false
set_option linter.unusedSimpArgs false
noncomputable def zone_Zone_Apex.f (a0_0 : ByteArray) (l0_1 : List (S33)) (a0_2 : Int) : Option (ByteArray) := some a0_0
set_option maxHeartbeats 8000000 in
set_option maxRecDepth 100000 in
theorem zone_Zone_Apex.calls (a0_0 : ByteArray) (A0_1 : Option Addr) (c0_1 : Nat) (l0_1 : List (S33)) (a0_2 : Int) (r : ByteArray) (w : World) (hr0_1 : Kd.C k33 w A0_1 l0_1.length l0_1) (hc0_1 : l0_1.length ≤ c0_1) (h : zone_Zone_Apex.f a0_0 l0_1 a0_2 = some r) :
  Calls Try.prog 18 #[.agg #[.string a0_0, .slice A0_1 l0_1.length c0_1, .int .i64 a0_2]] w fun e w' => e = .returned (.string r) ∧ Below w.heap.size w w' := by
 have hu27 := Try.underlying27
 have HR0_1 := Aside0.mk hr0_1
 have HC0_1 := Aside0.mk hc0_1
 clear hr0_1 hc0_1
 have HB := Aside0.mk (Below.refl w.heap.size w)
 have H : (some a0_0) = some r := h
 clear h
 obtain rfl := Option.some.inj H
 go_enter Try.func18, Try.ntmps18
 go_wp2_with ((((with_reducible refine gate_dst (N := 1) rfl ?_); refine box_event ?hg (N := 1) ?hd (cs := #[.string a0_0, .slice A0_1 l0_1.length c0_1, .int .i64 a0_2]) (t := 27) ?hr ?_; (case hd => rfl); (case hg => rfl); (case hr => (go_simp; done)); intro gb101 hg w2 hbox hb; have BK101 := Aside0.mk (hbox); have GW101 := Aside0.mk (ge_ hg (below_size HB.out)); have GE101 := Aside0.mk (ge_ hg (below_size HB.out)); replace HB := Aside0.mk (below_step HB.out hb); clear hb hbox hg; obtain ⟨hcz3_0, hcz3_1, hcz3_2, hfz3_0, hfz3_1, hfz3_2⟩ := z3_ BK101.out)))
 go_ret
 exact ⟨by rfl, HB.out⟩
noncomputable def beadrolllaw14_Least.f  : Option ((List (S33))) := some (([(⟨(⟨#[1, 97, 0]⟩ : ByteArray), 2, 1, 0, (⟨#[1, 110, 1, 97, 0]⟩ : ByteArray)⟩ : S33), (⟨(⟨#[1, 97, 0]⟩ : ByteArray), 6, 1, 0, (⟨#[1, 110, 1, 97, 0, 0, 0, 0, 0, 1, 0, 0, 0, 2, 0, 0, 0, 3, 0, 0, 0, 4, 0, 0, 0, 5]⟩ : ByteArray)⟩ : S33)] : List (S33)))
set_option maxHeartbeats 8000000 in
set_option maxRecDepth 100000 in
theorem beadrolllaw14_Least.calls  (r : List (S33)) (w : World) (h : beadrolllaw14_Least.f  = some r) :
  Calls Try.prog 17 #[] w fun e w' => ∃ v0_ : Value, e = .returned (v0_) ∧ Kd.R k33 33 w' w.heap.size (fun _ => True) v0_ r ∧ Below w.heap.size w w' := by
 have hu33 := Try.underlying33
 have HB := Aside0.mk (Below.refl w.heap.size w)
 have H : (some (([(⟨(⟨#[1, 97, 0]⟩ : ByteArray), 2, 1, 0, (⟨#[1, 110, 1, 97, 0]⟩ : ByteArray)⟩ : S33), (⟨(⟨#[1, 97, 0]⟩ : ByteArray), 6, 1, 0, (⟨#[1, 110, 1, 97, 0, 0, 0, 0, 0, 1, 0, 0, 0, 2, 0, 0, 0, 3, 0, 0, 0, 4, 0, 0, 0, 5]⟩ : ByteArray)⟩ : S33)] : List (S33)))) = some r := h
 clear h
 obtain ⟨y102, hy102⟩ : ∃ y_ : List (S33), y_ = (([(⟨(⟨#[1, 97, 0]⟩ : ByteArray), 2, 1, 0, (⟨#[1, 110, 1, 97, 0]⟩ : ByteArray)⟩ : S33), (⟨(⟨#[1, 97, 0]⟩ : ByteArray), 6, 1, 0, (⟨#[1, 110, 1, 97, 0, 0, 0, 0, 0, 1, 0, 0, 0, 2, 0, 0, 0, 3, 0, 0, 0, 4, 0, 0, 0, 5]⟩ : ByteArray)⟩ : S33)] : List (S33))) := ⟨_, rfl⟩
 replace H : (some y102) = some r := by (rw [hy102]; with_reducible exact H)
 have Ny102 := Aside0.mk hy102
 clear hy102
 obtain rfl := Option.some.inj H
 go_enter Try.func17, Try.ntmps17
 go_wp2_with ((((with_reducible refine gate_dst (N := 3) rfl ?_); refine Kd.R_lit k33 _ 33 ?hg (N := 3) ?hd (xs := ([(⟨(⟨#[1, 97, 0]⟩ : ByteArray), 2, 1, 0, (⟨#[1, 110, 1, 97, 0]⟩ : ByteArray)⟩ : S33), (⟨(⟨#[1, 97, 0]⟩ : ByteArray), 6, 1, 0, (⟨#[1, 110, 1, 97, 0, 0, 0, 0, 0, 1, 0, 0, 0, 2, 0, 0, 0, 3, 0, 0, 0, 4, 0, 0, 0, 5]⟩ : ByteArray)⟩ : S33)] : List (S33))) (inner := [.string (⟨#[1, 97, 0]⟩ : ByteArray), .int .i64 2, .int .i64 1, .int .i64 0, .string (⟨#[1, 110, 1, 97, 0]⟩ : ByteArray), .string (⟨#[1, 97, 0]⟩ : ByteArray), .int .i64 6, .int .i64 1, .int .i64 0, .string (⟨#[1, 110, 1, 97, 0, 0, 0, 0, 0, 1, 0, 0, 0, 2, 0, 0, 0, 3, 0, 0, 0, 4, 0, 0, 0, 5]⟩ : ByteArray)]) (ok := fun _ => True) (okp := fun _ => True) ?hr ?hp (fun _ hk => hk) trivial (Below.refl _ _) (Nat.le_refl _) (by simp) ?_; (case hd => rfl); (case hg => rfl); (case hr => (go_simp; done)); (case hp => exact (Reps.c5 (show Kd.M k33 _ _ _ (⟨(⟨#[1, 97, 0]⟩ : ByteArray), 2, 1, 0, (⟨#[1, 110, 1, 97, 0]⟩ : ByteArray)⟩ : S33) [.string (⟨#[1, 97, 0]⟩ : ByteArray), .int .i64 2, .int .i64 1, .int .i64 0, .string (⟨#[1, 110, 1, 97, 0]⟩ : ByteArray)] from (k33_mkM _ _ _ (⟨(⟨#[1, 97, 0]⟩ : ByteArray), 2, 1, 0, (⟨#[1, 110, 1, 97, 0]⟩ : ByteArray)⟩ : S33) )) (Reps.c5 (show Kd.M k33 _ _ _ (⟨(⟨#[1, 97, 0]⟩ : ByteArray), 6, 1, 0, (⟨#[1, 110, 1, 97, 0, 0, 0, 0, 0, 1, 0, 0, 0, 2, 0, 0, 0, 3, 0, 0, 0, 4, 0, 0, 0, 5]⟩ : ByteArray)⟩ : S33) [.string (⟨#[1, 97, 0]⟩ : ByteArray), .int .i64 6, .int .i64 1, .int .i64 0, .string (⟨#[1, 110, 1, 97, 0, 0, 0, 0, 0, 1, 0, 0, 0, 2, 0, 0, 0, 3, 0, 0, 0, 4, 0, 0, 0, 5]⟩ : ByteArray)] from (k33_mkM _ _ _ (⟨(⟨#[1, 97, 0]⟩ : ByteArray), 6, 1, 0, (⟨#[1, 110, 1, 97, 0, 0, 0, 0, 0, 1, 0, 0, 0, 2, 0, 0, 0, 3, 0, 0, 0, 4, 0, 0, 0, 5]⟩ : ByteArray)⟩ : S33) )) (Reps.none _ _)))); intro v103 w1 ho2 hb hg_ hnew_; clear hg_ hnew_; ((rw [← Ny102.out] at ho2)); have HO104 := Aside0.mk (Kd.R_lower ho2 (below_size HB.out)); replace HB := Aside0.mk (below_step HB.out hb); clear hb ho2)))
 go_ret
 exact ⟨_, by rfl, by (with_reducible repeat ((apply Kd.R_alloc))); exact HO104.out, HB.out⟩
mutual
noncomputable def beadrollref14_Few.l0 : Nat → List (S33) → Int → Option (Bool)
 | 0, _, _ => none
 | k + 1, x0, x3 => if x3 < (x0.length : Int) then (beadrollref14_Few.j1 k x0 x3 (decide (x3 < 40))) else (beadrollref14_Few.j1 k x0 x3 false)
noncomputable def beadrollref14_Few.j1 : Nat → List (S33) → Int → Bool → Option (Bool)
 | 0, _, _, _ => none
 | k + 1, x0, x3, x11 => if x11 = true then (if 0 ≤ x3 then (if x3 < (x0.length : Int) then (if (((rd_T33 x0 x3).f4).size : Int) > 2000 then (some false) else (if (((rd_T33 x0 x3).f0).size : Int) > 600 then (some false) else (beadrollref14_Few.l0 k x0 (wrap64 (x3 + 1))))) else (none)) else (none)) else (some (decide ((x0.length : Int) ≤ 30)))
end
noncomputable def beadrollref14_Few.f (k : Nat) (l0 : List (S33)) : Option (Bool) := beadrollref14_Few.l0 k l0 0
set_option maxHeartbeats 8000000 in
set_option maxRecDepth 100000 in
theorem beadrollref14_Few.calls (k : Nat) (A0 : Option Addr) (c0 : Nat) (l0 : List (S33)) (r : Bool) (w : World) (hr0 : Kd.C k33 w A0 l0.length l0) (hc0 : l0.length ≤ c0) (h : beadrollref14_Few.f k l0 = some r) :
    Calls Try.prog 9 #[.slice A0 l0.length c0] w fun e w' => e = .returned (.bool r) ∧ Drawn0 w w' := by
  have HR0 := Aside0.mk hr0
  have HC0 := Aside0.mk hc0
  clear hr0 hc0
  have H : (beadrollref14_Few.l0 k l0 0) = some r := h
  clear h
  have H' := Aside0.mk H
  clear H
  go_enter Try.func9, Try.ntmps9
  go_wp2
  go_loopg [3] k (fun kq v3 w' => ∃ (x3_1 : Int), v3 = .int .i64 x3_1 ∧ Aside0 (beadrollref14_Few.l0 kq l0 x3_1 = some r) ∧ Aside0 (kq ≤ k) ∧ Drawn0 w w')
  case atStart => exact ⟨(0), (by rfl), H', ⟨Nat.le_refl _⟩, by repeat ((exact Drawn0.refl _))⟩
  case round =>
   clear H'
   obtain ⟨x3_1, rfl, HA, HK1, ⟨m1, rfl⟩⟩ := hrel
   cases gk with
   | zero => exact absurd HA.out (by simp [beadrollref14_Few.l0])
   | succ k1 =>
    have H := HA.out
    clear HA
    simp only [beadrollref14_Few.l0] at H
    have HC2 := Aside0.mk H
    clear H
    go_upto_region 2 with (fail)
    go_cut [11] (fun v11 wc => ∃ (kq : Nat) (x11_1 : Bool), v11 = .bool x11_1 ∧ Aside0 (beadrollref14_Few.j1 kq l0 x3_1 x11_1 = some r) ∧ Aside0 (kq ≤ k1) ∧ Drawn0 w wc)
    case first =>
     have H := HC2.out
     clear HC2
     by_cases c3 : x3_1 < (l0.length : Int)
     focus
      rw [if_pos c3] at H
      have c3b0 : decide (x3_1 < (l0.length : Int)) = true := decide_eq_true c3
     rotate_left
     focus
      rw [if_neg c3] at H
      have c3b0 : decide (x3_1 < (l0.length : Int)) = false := decide_eq_false c3
     rotate_left
     all_goals
      clear c3
      (skip)
      have H' := Aside0.mk H
      clear H
      go_wp2
      go_meet
     ·case rel => exact ⟨_, (decide (x3_1 < 40)), (by rfl), H', ⟨by have := HK1.out; omega⟩, by repeat (first | exact Drawn0.refl _ | apply Drawn0.step)⟩
     ·case rel => exact ⟨_, (false), (by rfl), H', ⟨by have := HK1.out; omega⟩, by repeat (first | exact Drawn0.refl _ | apply Drawn0.step)⟩
    case rest =>
     clear HC2
     obtain ⟨kq, x11_1, rfl, HA, HJ1, ⟨mc1, rfl⟩⟩ := hcut
     cases kq with
     | zero => exact absurd HA.out (by simp [beadrollref14_Few.j1])
     | succ kj1 =>
      have H := HA.out
      clear HA
      simp only [beadrollref14_Few.j1] at H
      by_cases c4 : x11_1 = true
      ·subst c4
       rw [if_pos rfl] at H
       obtain ⟨c5b0, H⟩ := gdd_ H
       obtain ⟨c6b0, H⟩ := gdd_ H
       by_cases c7 : (((rd_T33 l0 x3_1).f4).size : Int) > 2000
       focus
        rw [if_pos c7] at H
        have c7b0 : decide (2000 < (((rd_T33 l0 x3_1).f4).size : Int)) = true := decide_eq_true c7
        have c7b1 : decide (2000 < ((rd_T33 l0 x3_1).f4).size) = true := decide_eq_true (by omega)
        clear c7
        obtain rfl := Option.some.inj H
       rotate_left
       focus
        rw [if_neg c7] at H
        have c7b0 : decide (2000 < (((rd_T33 l0 x3_1).f4).size : Int)) = false := decide_eq_false c7
        have c7b1 : decide (2000 < ((rd_T33 l0 x3_1).f4).size) = false := decide_eq_false (by omega)
        clear c7
        by_cases c8 : (((rd_T33 l0 x3_1).f0).size : Int) > 600
        focus
         rw [if_pos c8] at H
         have c8b0 : decide (600 < (((rd_T33 l0 x3_1).f0).size : Int)) = true := decide_eq_true c8
         have c8b1 : decide (600 < ((rd_T33 l0 x3_1).f0).size) = true := decide_eq_true (by omega)
         clear c8
         obtain rfl := Option.some.inj H
        rotate_left
        focus
         rw [if_neg c8] at H
         have c8b0 : decide (600 < (((rd_T33 l0 x3_1).f0).size : Int)) = false := decide_eq_false c8
         have c8b1 : decide (600 < ((rd_T33 l0 x3_1).f0).size) = false := decide_eq_false (by omega)
         clear c8
         have H' := Aside0.mk H
         clear H
        rotate_left
       rotate_left 2
       all_goals
        have p120 : 0 ≤ (x3_1 : Int) := of_decide_eq_true (by assumption)
        have q120 : x3_1 < (l0.length : Int) := of_decide_eq_true (by assumption)
        obtain ⟨ad120, e120, hx120_0, hx120_1, hx120_2, hx120_3, hx120_4⟩ := at_T33 HR0.out x3_1 p120 q120
        cases e120
        replace p120 := eq_true p120
        replace q120 := eq_true q120
       ·go_wp2
        go_ret
        exact ⟨by rfl, by repeat (first | exact Drawn0.refl _ | apply Drawn0.step)⟩
       all_goals
        have p121 : 0 ≤ (x3_1 : Int) := of_decide_eq_true (by assumption)
        have q121 : x3_1 < (l0.length : Int) := of_decide_eq_true (by assumption)
        obtain ⟨ad121, e121, hx121_0, hx121_1, hx121_2, hx121_3, hx121_4⟩ := at_T33 HR0.out x3_1 p121 q121
        obtain rfl : ad120 = ad121 := (by injection e121)
        replace p121 := eq_true p121
        replace q121 := eq_true q121
        go_wp2
       ·go_ret
        exact ⟨by rfl, by repeat (first | exact Drawn0.refl _ | apply Drawn0.step)⟩
       ·go_roundg kj1
        case measure => have := HK1.out; have := HJ1.out; omega
        case rel => exact ⟨(wrap64 (x3_1 + 1)), (by rfl), H', ⟨by have := HK1.out; have := HJ1.out; omega⟩, by repeat (first | exact Drawn0.refl _ | apply Drawn0.step)⟩
      ·replace c4 := Bool.eq_false_iff.mpr c4
       subst c4
       rw [if_neg ff_] at H
       obtain rfl := Option.some.inj H
       go_wp2
       go_ret
       exact ⟨by rfl, by repeat (first | exact Drawn0.refl _ | apply Drawn0.step)⟩
end Go.Proofs.Ytehdkopjgcoclaa.PZh
namespace Go.Proofs.Ytehdkopjgcoclaa.Rrs
open Go.RowKit Go.Proofs.YtehdkopjgcoclaaW.PrintWords Go.Proofs.YtehdkopjgcoclaaW.PrintLast Go.Proofs.YtehdkopjgcoclaaW.PrintMore Go.Proofs.Ytehdkopjgcoclaa.Given Go.Proofs.Ytehdkopjgcoclaa.PRd Go.Proofs.Ytehdkopjgcoclaa.PRr Go.Proofs.Ytehdkopjgcoclaa.PZh Go.Proofs.Ytehdkopjgcoclaa.Oct Go.Proofs.Ytehdkopjgcoclaa.Name Go.Proofs.Ytehdkopjgcoclaa.Cmp Go.Proofs.Ytehdkopjgcoclaa.NameFacts Go.Proofs.Ytehdkopjgcoclaa.RdataFacts Go.Proofs.Ytehdkopjgcoclaa.SetLaw
set_option linter.unusedVariables false
def refOne (a : ByteArray) (s : List RR) (x : RR) : Bool := withinB a x && ((!(x.f1 == 6) || alikeN x.f0 a) && (!(x.f1 == 5) || (atL s x.f0).length == 1))
def refEnd (a : ByteArray) (s : List RR) : Bool := (typedL s 6).length == 1 && decide (0 < (setL s a 2).length)
def isZoneB (a : ByteArray) (s : List RR) : Bool := s.all (refOne a s) && refEnd a s
noncomputable def newR (a : ByteArray) (l : List RR) : ByteArray × List RR × Int :=
  if (rightB a && l.all rightRR) = true then (if isZoneB a (ofL cmpRR l) = true then (a, ofL cmpRR l, 0) else ((⟨#[]⟩ : ByteArray), [], 9)) else ((⟨#[]⟩ : ByteArray), [], 2)
theorem filter_one {l : List RR} {p : RR → Bool} {i : Nat} (hi : i < l.length) (hp : p l[i] = true) (h : ∀ (j : Nat) (hj : j < l.length), j ≠ i → p l[j] = false) : l.filter p = [l[i]] := by
  have e : l = l.take i ++ l[i] :: l.drop (i + 1) := by rw [← List.drop_eq_getElem_cons hi, List.take_append_drop]
  have h1 : (l.take i).filter p = [] := by
    rw [List.filter_eq_nil_iff]
    intro x hx
    obtain ⟨j, hj, rfl⟩ := List.getElem_of_mem hx
    rw [List.length_take] at hj
    rw [List.getElem_take, h j (by omega) (by omega)]; exact Bool.false_ne_true
  have h2 : (l.drop (i + 1)).filter p = [] := by
    rw [List.filter_eq_nil_iff]
    intro x hx
    obtain ⟨j, hj, rfl⟩ := List.getElem_of_mem hx
    rw [List.length_drop] at hj
    rw [List.getElem_drop, h _ (by omega) (by omega)]; exact Bool.false_ne_true
  have e2 : l.filter p = (l.take i ++ l[i] :: l.drop (i + 1)).filter p := congrArg (List.filter p) e
  rw [e2, List.filter_append, h1, List.filter_cons, if_pos hp, h2]; rfl
theorem two_in {l : List RR} {p : RR → Bool} {i : Nat} (hi : i + 1 < l.length) (h1 : p l[i] = true) (h2 : p l[i + 1] = true) : 2 ≤ (l.filter p).length := by
  have hs : [l[i], l[i + 1]].Sublist l := by
    refine List.Sublist.trans ?_ (List.drop_sublist i l)
    rw [drop_two l i hi]
    exact ((List.nil_sublist _).cons_cons _).cons_cons _
  have := (hs.filter p).length_le
  rw [List.filter_cons, if_pos h1, List.filter_cons, if_pos h2] at this
  exact Nat.le_trans (by simp) this
theorem key_le {x y : RR} (h : cmpRR x y < 0) : cmpL (nameK x) (nameK y) ≤ 0 := by
  unfold cmpRR at h
  unfold thenC at h
  split at h
  · rename_i e; simp only [] at e; omega
  · simp only [] at h; omega
theorem key_mono {s : List RR} (h : SetOf s) {i j : Nat} (hij : i ≤ j) (hj : j < s.length) : cmpL (nameK s[i]) (nameK s[j]) ≤ 0 := by
  by_cases e : i = j
  · subst e; rw [cmpL_ord.self]; omega
  · exact key_le (List.pairwise_iff_getElem.mp h.set i j (by omega) hj (by omega))
theorem key_between {s : List RR} (h : SetOf s) {i m j : Nat} (him : i ≤ m) (hmj : m ≤ j) (hj : j < s.length) (e : nameK s[i] = nameK s[j]) : nameK s[m] = nameK s[i] := by
  have h1 := key_mono h him (by omega)
  have h2 := key_mono h hmj hj
  rw [← e] at h2
  have h3 := cmpL_ord.flip (nameK s[i]) (nameK s[m])
  exact (cmpL_ord.zero _ _ (by omega))
theorem alike_get {s : List RR} (h : SetOf s) {i j : Nat} (hi : i < s.length) (hj : j < s.length) : alikeN s[i].f0 s[j].f0 = true ↔ nameK s[i] = nameK s[j] := alike_iff (h.all _ (List.getElem_mem hi)).1 (h.all _ (List.getElem_mem hj)).1
theorem apart_is {s : List RR} (h : SetOf s) {i : Nat} (hi : i < s.length) (h5 : s[i].f1 = 5) : apartAt s i = true ↔ (atL s s[i].f0).length = 1 := by
  have hself : alikeN s[i].f0 s[i].f0 = true := alike_self (h.all _ (List.getElem_mem hi)).1
  unfold apartAt
  rw [rdR_get s i hi, h5, beq_self_eq_true, Bool.true_and]
  constructor
  · intro hn
    rw [Bool.not_eq_true', Bool.or_eq_false_iff] at hn
    have hall : ∀ (j : Nat) (hj : j < s.length), j ≠ i → alikeN s[j].f0 s[i].f0 = false := by
      intro j hj hne
      cases hc : alikeN s[j].f0 s[i].f0
      · rfl
      · exfalso
        have e := (alike_get h hj hi).mp hc
        by_cases hlt : j < i
        · have h1 := key_between h (show j ≤ i - 1 by omega) (show i - 1 ≤ i by omega) hi e
          have h2 := (alike_get h (show i - 1 < s.length by omega) hi).mpr (h1.trans e)
          have h3 := hn.1
          rw [decide_eq_true (show 0 < i by omega), Bool.true_and, rdR_get s (i - 1) (by omega), h2] at h3
          cases h3
        · have h1 := key_between h (show i ≤ i + 1 by omega) (show i + 1 ≤ j by omega) hj e.symm
          have h2 := (alike_get h (show i + 1 < s.length by omega) hi).mpr h1
          have h3 := hn.2
          rw [decide_eq_true (show i + 1 < s.length by omega), Bool.true_and, rdR_get s (i + 1) (by omega), h2] at h3
          cases h3
    unfold atL
    rw [filter_one hi hself hall]; rfl
  · intro hl
    rw [Bool.not_eq_true', Bool.or_eq_false_iff]
    constructor
    · by_cases h0 : 0 < i
      · rw [decide_eq_true h0, Bool.true_and, rdR_get s (i - 1) (by omega)]
        cases hc : alikeN s[i - 1].f0 s[i].f0
        · rfl
        · obtain ⟨m, rfl⟩ : ∃ m, i = m + 1 := ⟨i - 1, by omega⟩
          have := two_in (l := s) (p := fun x => alikeN x.f0 s[m + 1].f0) (i := m) hi hc hself
          unfold atL at hl; omega
      · rw [decide_eq_false h0]; rfl
    · by_cases h0 : i + 1 < s.length
      · rw [decide_eq_true h0, Bool.true_and, rdR_get s (i + 1) h0]
        cases hc : alikeN s[i + 1].f0 s[i].f0
        · rfl
        · have := two_in (l := s) (p := fun x => alikeN x.f0 s[i].f0) (i := i) h0 hself hc
          unfold atL at hl; omega
      · rw [decide_eq_false h0]; rfl
theorem apartB_is {s : List RR} (h : SetOf s) : apartB s = true ↔ ∀ x ∈ s, x.f1 = 5 → (atL s x.f0).length = 1 := by
  rw [apartB_iff]
  constructor
  · intro ha x hx h5
    obtain ⟨i, hi, rfl⟩ := List.getElem_of_mem hx
    exact (apart_is h hi h5).mp (ha i hi)
  · intro ha i hi
    by_cases h5 : s[i].f1 = 5
    · exact (apart_is h hi h5).mpr (ha _ (List.getElem_mem hi) h5)
    · unfold apartAt
      rw [rdR_get s i hi, beq_eq_false_iff_ne.mpr h5]; rfl
def zoneB (a : ByteArray) (s : List RR) : Bool := s.all (withinB a) && ((typedL s 6).length == 1 && (alikeN (rdR (typedL s 6) 0).f0 a && (!(setL s a 2).isEmpty && apartB s)))
theorem one_six {s : List RR} (h1 : (typedL s 6).length = 1) : ∃ y, typedL s 6 = [y] ∧ y ∈ s ∧ y.f1 = 6 := by
  obtain ⟨y, e⟩ := List.length_eq_one_iff.mp h1
  have hm : y ∈ typedL s 6 := by rw [e]; exact List.mem_singleton.mpr rfl
  unfold typedL at hm
  exact ⟨y, e, (List.mem_filter.mp hm).1, beq_iff_eq.mp (List.mem_filter.mp hm).2⟩
theorem zone_is {a : ByteArray} {s : List RR} (h : SetOf s) : zoneB a s = isZoneB a s := by
  rw [Bool.eq_iff_iff]
  unfold zoneB isZoneB refEnd
  simp only [Bool.and_eq_true, beq_iff_eq, decide_eq_true_eq, apartB_is h, List.all_eq_true, Bool.not_eq_true']
  have hne : (setL s a 2).isEmpty = false ↔ 0 < (setL s a 2).length := by
    cases setL s a 2 <;> simp
  rw [hne]
  unfold refOne
  simp only [Bool.and_eq_true, Bool.or_eq_true, Bool.not_eq_true', beq_eq_false_iff_ne, beq_iff_eq]
  constructor
  · rintro ⟨hw, h6, ha, h2, hc⟩
    obtain ⟨y, ey, hy, hy6⟩ := one_six h6
    rw [ey] at ha
    refine ⟨fun x hx => ⟨hw x hx, ?_, ?_⟩, h6, h2⟩
    · by_cases e : x.f1 = 6
      · have : x ∈ typedL s 6 := by unfold typedL; exact List.mem_filter.mpr ⟨hx, by rw [e]; rfl⟩
        rw [ey] at this
        rw [List.mem_singleton.mp this]
        exact .inr ha
      · exact .inl e
    · by_cases e : x.f1 = 5
      · exact .inr (hc x hx e)
      · exact .inl e
  · rintro ⟨ho, h6, h2⟩
    obtain ⟨y, ey, hy, hy6⟩ := one_six h6
    refine ⟨fun x hx => (ho x hx).1, h6, ?_, h2, fun x hx h5 => ?_⟩
    · rw [ey]
      rcases (ho y hy).2.1 with e | e
      · exact absurd hy6 e
      · exact e
    · rcases (ho x hx).2.2 with e | e
      · exact absurd h5 e
      · exact e
theorem few_loop (l : List RR) (hn : l.length ≤ 9223372036854775807) : ∀ (d i : Nat), d + i = 40 → i ≤ l.length → ∃ b, Ev (fun k => beadrollref14_Few.l0 k l (i : Int)) b ∧ (b = true → l.length ≤ 30) := by
  have hdone : ∀ i : Nat, Ev (fun k => beadrollref14_Few.j1 k l (i : Int) false) (decide ((l.length : Int) ≤ 30)) := fun i => Ev.step (f := fun _ => some (decide ((l.length : Int) ≤ 30))) (fun k => by rw [beadrollref14_Few.j1, if_neg (by decide)]) (Ev.now _)
  have hok : decide ((l.length : Int) ≤ 30) = true → l.length ≤ 30 := fun e => by have := of_decide_eq_true e; omega
  intro d
  induction d with
  | zero =>
    intro i hd hi0
    refine ⟨_, Ev.step (f := fun k => beadrollref14_Few.j1 k l (i : Int) false) (fun k => ?_) (hdone i), hok⟩
    rw [beadrollref14_Few.l0, decide_eq_false (show ¬ (i : Int) < 40 by omega)]
    split <;> rfl
  | succ d ih =>
    intro i hd hi0
    by_cases hi : i < l.length
    · have e1 : wrap64 ((i : Int) + 1) = ((i + 1 : Nat) : Int) := by unfold wrap64; omega
      have hs : ∀ k, beadrollref14_Few.l0 (k + 1) l (i : Int) = beadrollref14_Few.j1 k l (i : Int) true := fun k => by
        rw [beadrollref14_Few.l0, decide_eq_true (show (i : Int) < 40 by omega), if_pos (by omega)]
      have hj : ∀ k, beadrollref14_Few.j1 (k + 1) l (i : Int) true = if ((rdR l (i : Int)).f4.size : Int) > 2000 then some false else if ((rdR l (i : Int)).f0.size : Int) > 600 then some false else beadrollref14_Few.l0 k l ((i + 1 : Nat) : Int) := fun k => by
        rw [beadrollref14_Few.j1, e1, if_pos rfl, if_pos (by omega), if_pos (by omega)]
      obtain ⟨b, hb, hb1⟩ := ih (i + 1) (by omega) (by omega)
      by_cases h4 : ((rdR l (i : Int)).f4.size : Int) > 2000
      · refine ⟨false, Ev.step hs (Ev.step hj ?_), fun e => by cases e⟩
        simp only [h4, if_true]; exact Ev.now _
      · by_cases h0 : ((rdR l (i : Int)).f0.size : Int) > 600
        · refine ⟨false, Ev.step hs (Ev.step hj ?_), fun e => by cases e⟩
          simp only [h4, h0, if_true, if_false]; exact Ev.now _
        · refine ⟨b, Ev.step hs (Ev.step hj ?_), hb1⟩
          simp only [h4, h0, if_false]; exact hb
    · refine ⟨_, Ev.step (f := fun k => beadrollref14_Few.j1 k l (i : Int) false) (fun k => ?_) (hdone i), hok⟩
      rw [beadrollref14_Few.l0, if_neg (by omega)]
theorem ev_few (l : List RR) (hn : l.length ≤ 9223372036854775807) : ∃ b, Ev (fun k => beadrollref14_Few.f k l) b ∧ (b = true → l.length ≤ 30) := few_loop l hn 40 0 (by omega) (Nat.zero_le _)
def thereB (s : List RR) (n : ByteArray) : Bool := s.any fun x => alikeN x.f0 n
end Go.Proofs.Ytehdkopjgcoclaa.Rrs
namespace Go.Proofs.Ytehdkopjgcoclaa.Rrs
open Go.RowKit Go.Proofs.YtehdkopjgcoclaaW.PrintWords Go.Proofs.YtehdkopjgcoclaaW.PrintLast Go.Proofs.YtehdkopjgcoclaaW.PrintMore Go.Proofs.Ytehdkopjgcoclaa.Given Go.Proofs.Ytehdkopjgcoclaa.PRd Go.Proofs.Ytehdkopjgcoclaa.PRr Go.Proofs.Ytehdkopjgcoclaa.PZo Go.Proofs.Ytehdkopjgcoclaa.PZf Go.Proofs.Ytehdkopjgcoclaa.Oct Go.Proofs.Ytehdkopjgcoclaa.Name Go.Proofs.Ytehdkopjgcoclaa.Cmp Go.Proofs.Ytehdkopjgcoclaa.NameFacts Go.Proofs.Ytehdkopjgcoclaa.RdataFacts Go.Proofs.Ytehdkopjgcoclaa.SetLaw
set_option linter.unusedVariables false
theorem ev_all {p : Nat → RR → Option Bool} {b : RR → Bool} : ∀ (l : List RR), (∀ x ∈ l, Ev (fun k => p k x) (b x)) → ∃ K, ∀ k, K ≤ k → ∀ x ∈ l, p k x = some (b x) := by
  intro l
  induction l with
  | nil => exact fun _ => ⟨0, fun k _ x hx => by cases hx⟩
  | cons y l ih =>
    intro h
    obtain ⟨K1, h1⟩ := h y (List.mem_cons_self ..)
    obtain ⟨K2, h2⟩ := ih fun x hx => h x (List.mem_cons_of_mem _ hx)
    refine ⟨max K1 K2, fun k hk x hx => ?_⟩
    rcases List.mem_cons.mp hx with rfl | hx
    · exact h1 k (by omega)
    · exact h2 k (by omega) x hx
theorem ev_any {p : Nat → RR → Option Bool} {b : RR → Bool} (l : List RR) (hn : l.length ≤ 1000000) (h : ∀ x ∈ l, Ev (fun k => p k x) (b x)) : Ev (fun k => anyO (p k) l) (l.any fun x => !b x) := by
  obtain ⟨K, hK⟩ := ev_all l h
  refine ⟨K, fun k hk => ?_⟩
  have hk := hK k hk
  show anyO (p k) l = _
  unfold anyO
  rw [if_pos ⟨hn, fun x hx => by rw [hk x hx]; rfl⟩]
  congr 1
  rw [Bool.eq_iff_iff, List.any_eq_true, List.any_eq_true]
  exact ⟨fun ⟨x, hm, h⟩ => ⟨x, hm, by rw [hk x hm] at h; exact h⟩, fun ⟨x, hm, h⟩ => ⟨x, hm, by rw [hk x hm]; exact h⟩⟩
theorem any_not (l : List RR) (b : RR → Bool) : (l.any fun x => !b x) = !l.all b := by
  induction l with
  | nil => rfl
  | cons x l ih => rw [List.any_cons, List.all_cons, ih, Bool.not_and]
def idxFrom (s : List RR) (x : RR) : Nat → Nat → Int
  | 0, _ => -1
  | d + 1, i => if i < s.length then (if eqR x (rdR s (i : Int)) = true then (i : Int) else idxFrom s x d (i + 1)) else -1
def idxL (s : List RR) (x : RR) : Int := idxFrom s x s.length 0
theorem idx_loop (s : List RR) (x : RR) (hn : s.length ≤ 1000000) : ∀ (d i : Nat), s.length ≤ i + d → i ≤ s.length → Ev (fun k => api_RR_31.l0 k s (s.length : Int) (i : Int) x.f0 x.f1 x.f2 x.f3 x.f4) (idxFrom s x d i) := by
  intro d
  induction d with
  | zero =>
    intro i hd hi0
    exact Ev.step (f := fun _ => some (-1)) (fun k => by rw [api_RR_31.l0]; rw [if_neg (by omega)]) (Ev.now _)
  | succ d ih =>
    intro i hd hi0
    rw [idxFrom]
    by_cases hi : i < s.length
    · rw [if_pos hi]
      have e1 : wrap64 ((i : Int) + 1) = ((i + 1 : Nat) : Int) := by unfold wrap64; omega
      have hs : ∀ k, api_RR_31.l0 (k + 1) s (s.length : Int) (i : Int) x.f0 x.f1 x.f2 x.f3 x.f4 = if eqR x (rdR s (i : Int)) = true then some (i : Int) else api_RR_31.l0 k s (s.length : Int) ((i + 1 : Nat) : Int) x.f0 x.f1 x.f2 x.f3 x.f4 := fun k => by
        rw [api_RR_31.l0, e1]
        rw [if_pos (by omega), if_pos (by omega), if_pos (by omega)]
        rfl
      refine Ev.step hs ?_
      cases eqR x (rdR s (i : Int))
      · simp only [Bool.false_eq_true, if_false]; exact ih (i + 1) (by omega) (by omega)
      · simp only [if_true]; exact Ev.now _
    · rw [if_neg hi]
      exact Ev.step (f := fun _ => some (-1)) (fun k => by rw [api_RR_31.l0]; rw [if_neg (by omega)]) (Ev.now _)
theorem ev_idx (s : List RR) (x : RR) (hn : s.length ≤ 1000000) : Ev (fun k => api_RR_31.f k s x.f0 x.f1 x.f2 x.f3 x.f4) (idxL s x) := idx_loop s x hn s.length 0 (by omega) (Nat.zero_le _)
def soaI (s : List RR) : Int := idxL s (rdR (typedL s 6) 0)
theorem set_f (a : ByteArray) (s : List RR) (z : Int) (n : ByteArray) (t : Int) (hn : s.length ≤ 1000000) : zone_Zone_Set.f a s z n t = some (setL s n t) := by
  unfold zone_Zone_Set.f zone_Zone_At.f
  rw [at_fl s n hn, Option.bind_some, Option.bind_some, typed_fl _ t (Nat.le_trans (atL_len s n) hn)]; rfl
noncomputable def newP (a : ByteArray) (l : List RR) : ByteArray × List RR × Int × Int :=
  if (rightB a && l.all rightRR) = true then (if zoneB a (ofL cmpRR l) = true then (a, ofL cmpRR l, soaI (ofL cmpRR l), 0) else ((⟨#[]⟩ : ByteArray), [], 0, 9)) else ((⟨#[]⟩ : ByteArray), [], 0, 2)
theorem ev_new (a : ByteArray) (l : List RR) (hn : l.length ≤ 65536) : Ev (fun k => zone_New.f k a l) (newP a l) := by
  have hbad : Ev (fun k => zone_New.j0 k l true a) ((⟨#[]⟩ : ByteArray), [], 0, 2) := Ev.step (f := fun _ => some ((⟨#[]⟩ : ByteArray), [], 0, 2)) (fun k => by rw [zone_New.j0, if_pos rfl]) (Ev.now _)
  unfold zone_New.f newP
  simp only [right_f, Option.bind_some]
  cases hr : rightB a
  · simp only [Bool.false_eq_true, if_false, Bool.false_and]
    exact hbad
  · simp only [if_true, Bool.true_and]
    refine Ev.bind (ev_any (p := fun k x => record_Right.f k x.f0 x.f1 x.f2 x.f3 x.f4) (b := rightRR) l (by omega) (fun x _ => ev_right x)) ?_
    rw [any_not]
    cases hall : l.all rightRR
    · simp only [Bool.not_false, Bool.false_eq_true, if_false]
      exact hbad
    · simp only [Bool.not_true, if_true]
      have hf : ∀ y ∈ l, fine y := fun y hy => rightRR_fine (List.all_eq_true.mp hall y hy)
      have hS := setOf_of hf (by omega)
      have hlen : (ofL cmpRR l).length ≤ l.length := by have := ofL_len l [] List.Pairwise.nil; unfold ofL; simpa using this
      obtain ⟨s, hs⟩ : ∃ s, ofL cmpRR l = s := ⟨_, rfl⟩
      rw [hs] at hS hlen ⊢
      have hst : ∀ k, zone_New.j0 (k + 1) l false a = (within_any.f k s a).bind fun t => if t = true then some ((⟨#[]⟩ : ByteArray), [], 0, 9) else if ((typedL s 6).length : Int) = 1 then (if 0 < ((typedL s 6).length : Int) then (if alikeN (rdR (typedL s 6) 0).f0 a = true then (if ((setL s a 2).length : Int) = 0 then some ((⟨#[]⟩ : ByteArray), [], 0, 9) else (zone_apart.f k s).bind fun t => if t = true then ((api_RR_31.f k s (rdR (typedL s 6) 0).f0 (rdR (typedL s 6) 0).f1 (rdR (typedL s 6) 0).f2 (rdR (typedL s 6) 0).f3 (rdR (typedL s 6) 0).f4).bind fun u => some (a, s, u, 0)) else some ((⟨#[]⟩ : ByteArray), [], 0, 9)) else some ((⟨#[]⟩ : ByteArray), [], 0, 9)) else none) else some ((⟨#[]⟩ : ByteArray), [], 0, 9) := fun k => by
        rw [zone_New.j0]
        rw [if_neg (by decide), of_f hf (by omega), hs, Option.bind_some, if_neg (by omega), typed_fl s 6 (by omega), Option.bind_some, set_f a s 0 a 2 (by omega), Option.bind_some]
        simp only [alikeN_f, Option.bind_some]
      refine Ev.step hst (Ev.bind (ev_any (p := fun k x => zone_within.f k a x.f0 x.f1 x.f2 x.f3 x.f4) (b := withinB a) s (by omega) (fun x _ => ⟨300, fun k hk => within_f a x k hk⟩)) ?_)
      rw [any_not]
      unfold zoneB
      cases s.all (withinB a)
      · simp only [Bool.not_false, if_true, Bool.false_and, Bool.false_eq_true, if_false]
        exact Ev.now _
      · simp only [Bool.not_true, Bool.false_eq_true, if_false, Bool.true_and]
        by_cases h1 : (typedL s 6).length = 1
        · simp only [show (((typedL s 6).length : Int) = 1) = True from eq_true (by omega), show (0 < ((typedL s 6).length : Int)) = True from eq_true (by omega), if_true]
          rw [show ((typedL s 6).length == 1) = true from by rw [h1]; rfl, Bool.true_and]
          cases alikeN (rdR (typedL s 6) 0).f0 a
          · simp only [Bool.false_eq_true, if_false, Bool.false_and]; exact Ev.now _
          · simp only [if_true, Bool.true_and]
            by_cases h2 : setL s a 2 = []
            · simp only [h2, List.length_nil, show ((((0 : Nat) : Int)) = 0) = True from eq_true rfl, if_true, List.isEmpty_nil, Bool.not_true, Bool.false_and, Bool.false_eq_true, if_false]
              exact Ev.now _
            · have h3 : 0 < (setL s a 2).length := List.length_pos_iff.mpr h2
              simp only [show (((setL s a 2).length : Int) = 0) = False from eq_false (by omega), if_false]
              rw [show (setL s a 2).isEmpty = false from by rw [Bool.eq_false_iff]; exact fun e => h2 (List.isEmpty_iff.mp e), Bool.not_false, Bool.true_and]
              refine Ev.bind (ev_apart s (by omega)) ?_
              cases apartB s
              · simp only [Bool.false_eq_true, if_false]; exact Ev.now _
              · simp only [if_true]
                refine Ev.bind (ev_idx s _ (by omega)) ?_
                exact Ev.now _
        · simp only [show (((typedL s 6).length : Int) = 1) = False from eq_false (by omega), if_false]
          rw [beq_eq_false_iff_ne.mpr h1]
          simp only [Bool.false_and, Bool.false_eq_true, if_false]
          exact Ev.now _
structure ZoneOf (a : ByteArray) (s : List RR) : Prop where
  set : SetOf s
  small : s.length ≤ 65536
  zone : isZoneB a s = true
  right : ∀ y ∈ s, rightRR y = true
  apex : rightB a = true
theorem new_both (a : ByteArray) (l : List RR) (hn : l.length ≤ 65536) : (∃ s, ZoneOf a s ∧ s.length ≤ l.length ∧ newP a l = (a, s, soaI s, 0) ∧ newR a l = (a, s, 0) ∧ ofL cmpRR l = s) ∨ (∃ e, e ≠ 0 ∧ newP a l = ((⟨#[]⟩ : ByteArray), [], 0, e) ∧ newR a l = ((⟨#[]⟩ : ByteArray), [], e)) := by
  unfold newP newR
  by_cases h : (rightB a && l.all rightRR) = true
  · rw [if_pos h, if_pos h]
    rw [Bool.and_eq_true] at h
    have hf : ∀ y ∈ l, fine y := fun y hy => rightRR_fine (List.all_eq_true.mp h.2 y hy)
    have hS := setOf_of hf (by omega)
    have hlen : (ofL cmpRR l).length ≤ l.length := by have := ofL_len l [] List.Pairwise.nil; unfold ofL; simpa using this
    rw [zone_is hS]
    by_cases hz : isZoneB a (ofL cmpRR l) = true
    · rw [if_pos hz, if_pos hz]
      refine .inl ⟨_, ⟨hS, by omega, hz, fun y hy => ?_, h.1⟩, hlen, rfl, rfl, rfl⟩
      rcases ofL_mem l [] hy with e | e
      · cases e
      · exact List.all_eq_true.mp h.2 y e
    · rw [if_neg hz, if_neg hz]
      exact .inr ⟨9, by decide, rfl, rfl⟩
  · rw [if_neg h, if_neg h]
    exact .inr ⟨2, by decide, rfl, rfl⟩
end Go.Proofs.Ytehdkopjgcoclaa.Rrs
namespace Go.Proofs.Ytehdkopjgcoclaa.Rrs
open Go.RowKit Go.Proofs.YtehdkopjgcoclaaW.PrintWords Go.Proofs.YtehdkopjgcoclaaW.PrintLast Go.Proofs.YtehdkopjgcoclaaW.PrintMore Go.Proofs.Ytehdkopjgcoclaa.Given Go.Proofs.Ytehdkopjgcoclaa.PRd Go.Proofs.Ytehdkopjgcoclaa.PRr Go.Proofs.Ytehdkopjgcoclaa.PZo Go.Proofs.Ytehdkopjgcoclaa.PZf Go.Proofs.Ytehdkopjgcoclaa.PZh Go.Proofs.Ytehdkopjgcoclaa.Name Go.Proofs.Ytehdkopjgcoclaa.NameFacts Go.Proofs.Ytehdkopjgcoclaa.SetLaw
set_option linter.unusedVariables false
theorem all_f (a : ByteArray) (s : List RR) (z : Int) (hn : s.length ≤ 1000000) : zone_Zone_All.f a s z = some s := by
  unfold zone_Zone_All.f
  have hc : slices_Clone.f s = some s := by unfold slices_Clone.f; rw [if_pos (by omega)]
  rw [hc]; rfl
theorem there_f (a : ByteArray) (s : List RR) (z : Int) (n : ByteArray) (hn : s.length ≤ 1000000) : zone_Zone_There.f a s z n = some (thereB s n) := by
  unfold zone_Zone_There.f
  rw [if_pos ⟨hn, fun x _ => by rw [alikeN_f]; rfl⟩]
  rfl
theorem at_f (a : ByteArray) (s : List RR) (z : Int) (n : ByteArray) (hn : s.length ≤ 1000000) : zone_Zone_At.f a s z n = some (atL s n) := by
  unfold zone_Zone_At.f
  rw [at_fl s n hn]; rfl
abbrev lr0 : RR := ⟨(⟨#[1, 97, 0]⟩ : ByteArray), 2, 1, 0, (⟨#[1, 110, 1, 97, 0]⟩ : ByteArray)⟩
abbrev lr1 : RR := ⟨(⟨#[1, 97, 0]⟩ : ByteArray), 6, 1, 0, (⟨#[1, 110, 1, 97, 0, 0, 0, 0, 0, 1, 0, 0, 0, 2, 0, 0, 0, 3, 0, 0, 0, 4, 0, 0, 0, 5]⟩ : ByteArray)⟩
abbrev lra : ByteArray := ⟨#[1, 97, 0]⟩
theorem of_least : ofL cmpRR [lr0, lr1] = [lr0, lr1] := by
  have h : cmpRR lr1 lr0 = 1 := by
    have hn : nameK lr1 = nameK lr0 := rfl
    unfold cmpRR thenC
    simp only [hn]
    rw [if_pos (cmpL_ord.self _)]
    decide
  show put cmpRR (put cmpRR [] lr0) lr1 = _
  rw [put, put, if_neg (by omega), if_neg (by omega), put]
theorem right0 : rightRR lr0 = true := Ev.unique (ev_right lr0) (Ev.of (fun k => record_Right.mono _ _ _ _ _ k) (k := 20) (by kernel_rfl))
theorem right1 : rightRR lr1 = true := Ev.unique (ev_right lr1) (Ev.of (fun k => record_Right.mono _ _ _ _ _ k) (k := 20) (by kernel_rfl))
theorem within0 : withinB lra lr0 = true := by
  have h := within_f lra lr0 300 (Nat.le_refl _)
  have h2 := at_rounds (fun k => zone_within.mono lra lr0.f0 lr0.f1 lr0.f2 lr0.f3 lr0.f4 k) (show 20 ≤ 300 by omega) (r := true) (by kernel_rfl)
  rw [h2] at h; exact (Option.some.inj h).symm
theorem within1 : withinB lra lr1 = true := by
  have h := within_f lra lr1 300 (Nat.le_refl _)
  have h2 := at_rounds (fun k => zone_within.mono lra lr1.f0 lr1.f1 lr1.f2 lr1.f3 lr1.f4 k) (show 20 ≤ 300 by omega) (r := true) (by kernel_rfl)
  rw [h2] at h; exact (Option.some.inj h).symm
theorem alike_a : alikeN lra lra = true := alike_self (by kernel_rfl)
theorem zone_least : zoneB lra [lr0, lr1] = true := by
  have ht : typedL [lr0, lr1] 6 = [lr1] := rfl
  have ha : atL [lr0, lr1] lra = [lr0, lr1] := by
    unfold atL
    rw [List.filter_cons, List.filter_cons]
    rw [if_pos alike_a, if_pos alike_a]; rfl
  have hs : setL [lr0, lr1] lra 2 = [lr0] := by unfold setL; rw [ha]; rfl
  have hp : apartB [lr0, lr1] = true := by
    rw [apartB_iff]
    intro j hj
    unfold apartAt
    rw [rdR_get _ j hj]
    match j, hj with
    | 0, _ => rfl
    | 1, _ => rfl
  unfold zoneB
  rw [ht, hs, hp, List.all_cons, List.all_cons, within0, within1]
  show ((true && (true && true)) && ((1 == 1) && (alikeN lra lra && (true && true)))) = true
  rw [alike_a]; rfl
theorem new_least : newP lra [lr0, lr1] = (lra, [lr0, lr1], soaI [lr0, lr1], 0) := by
  unfold newP
  rw [List.all_cons, List.all_cons, right0, right1, of_least]
  rw [if_pos (by show (rightB lra && _) = true; rw [show rightB lra = true from by kernel_rfl]; rfl), if_pos zone_least]
theorem ev_least : Ev (fun k => zone_New.f k lra [lr0, lr1]) (lra, [lr0, lr1], soaI [lr0, lr1], 0) := by
  rw [← new_least]; exact ev_new _ _ (by simp)
end Go.Proofs.Ytehdkopjgcoclaa.Rrs
namespace Go.Proofs.Ytehdkopjgcoclaa.PZh
open Go.RowKit Go.Proofs.YtehdkopjgcoclaaW.PrintWords Go.Proofs.YtehdkopjgcoclaaW.PrintLast Go.Proofs.YtehdkopjgcoclaaW.PrintMore Go.Proofs.Ytehdkopjgcoclaa.Given Go.Proofs.Ytehdkopjgcoclaa.PRd Go.Proofs.Ytehdkopjgcoclaa.PRr Go.Proofs.Ytehdkopjgcoclaa.PZo Go.Proofs.Ytehdkopjgcoclaa.PZf
attribute [local go_sem] max2_int min2_int max_two min_two max_three min_three max_four min_four   -- for this text's walks alone
set_option linter.unusedVariables false
set_option linter.unusedSimpArgs false
noncomputable def prereq_absent.f (a0_0 : ByteArray) (l0_1 : List (S33)) (a0_2 : Int) (a1_0 : ByteArray) (a1_1 : Int) (a1_2 : Int) (a1_3 : Int) (a1_4 : ByteArray) : Option (Bool × Bool) := (zone_Zone_There.f a0_0 l0_1 a0_2 a1_0).bind fun t206 => ((zone_Zone_Set.f a0_0 l0_1 a0_2 a1_0 a1_1).bind fun t207 => (some (!t206, ((t207.length : Int) == 0))))
def prereq_absent.T1 : Bool × List (List Nat × List Nat) := (true, [([], []), ([], []), ([1], [1]), ([0, 2], [0, 2]), ([3], [3]), ([], []), ([], []), ([6], [6]), ([], []), ([8], [8]), ([5, 7, 9, 3], [5, 7, 9]), ([10], [10]), ([11], [11]), ([4, 10, 0, 1, 2, 3, 4], [4]), ([12, 13, 0, 1, 2, 3, 4, 5, 6, 7, 8, 9, 10, 11, 12, 13], [12])])
def prereq_absent.B1 : List Nat := [0, 0, 2, 7, 15, 0, 0, 64, 0, 256, 1007, 2031, 4079, 2047, 16383]
theorem prereq_absent.tab1 : rtab .any (opsOf Try.f54 1) = prereq_absent.T1 := by kernel_rfl
theorem prereq_absent.bits1 : waitsOk prereq_absent.T1.2 prereq_absent.B1 = true := by kernel_rfl
set_option maxHeartbeats 8000000 in
set_option maxRecDepth 100000 in
theorem prereq_absent.calls (a0_0 : ByteArray) (A0_1 : Option Addr) (c0_1 : Nat) (l0_1 : List (S33)) (a0_2 : Int) (a1_0 : ByteArray) (a1_1 : Int) (a1_2 : Int) (a1_3 : Int) (a1_4 : ByteArray) (r1 : Bool) (r2 : Bool) (w : World) (hr0_1 : Kd.C k33 w A0_1 l0_1.length l0_1) (hc0_1 : l0_1.length ≤ c0_1) (h : prereq_absent.f a0_0 l0_1 a0_2 a1_0 a1_1 a1_2 a1_3 a1_4 = some (r1, r2)) :
    Calls Try.prog 54 #[.agg #[.string a0_0, .slice A0_1 l0_1.length c0_1, .int .i64 a0_2], .agg #[.string a1_0, .int .i64 a1_1, .int .i64 a1_2, .int .i64 a1_3, .string a1_4]] w fun e w' => e = .returned (.tuple #[.bool r1, .bool r2]) ∧ Below w.heap.size w w' := by
  have hu27 := Try.underlying27
  have hu33 := Try.underlying33
  have HR0_1 := Aside0.mk hr0_1
  have HC0_1 := Aside0.mk hc0_1
  clear hr0_1 hc0_1
  have HB := Aside0.mk (Below.refl w.heap.size w)
  have H : ((zone_Zone_There.f a0_0 l0_1 a0_2 a1_0).bind fun t206 => ((zone_Zone_Set.f a0_0 l0_1 a0_2 a1_0 a1_1).bind fun t207 => (some (!t206, ((t207.length : Int) == 0))))) = some (r1, r2) := h
  clear h
  obtain ⟨t206, A3, H⟩ := bnd_ H
  obtain ⟨t207, A4, H⟩ := bnd_ H
  simp only [Option.some.injEq, Prod.mk.injEq] at H
  obtain ⟨rfl, rfl⟩ := H
  go_enter Try.func54, Try.ntmps54
  (try go_wp2_with (first | ((with_reducible refine gate_dst (N := 2) rfl ?_); refine box_event ?hg (N := 2) ?hd (cs := #[.string a0_0, .slice A0_1 l0_1.length c0_1, .int .i64 a0_2]) (t := 27) ?hr ?_; (case hd => rfl); (case hg => rfl); (case hr => (go_simp; done)); intro gb204 hg w5 hbox hb; have BK204 := Aside0.mk (hbox); have GW204 := Aside0.mk (ge_ hg (below_size HB.out)); have GE204 := Aside0.mk (ge_ hg (below_size HB.out)); replace HB := Aside0.mk (below_step HB.out hb); clear hb hbox hg) | ((with_reducible refine gate_dst (N := 3) rfl ?_); refine box_event ?hg (N := 3) ?hd (cs := #[.string a1_0, .int .i64 a1_1, .int .i64 a1_2, .int .i64 a1_3, .string a1_4]) (t := 33) ?hr ?_; (case hd => rfl); (case hg => rfl); (case hr => (go_simp; done)); intro gb205 hg w6 hbox hb; have BK205 := Aside0.mk (hbox); have GW205 := Aside0.mk (ge_ hg (below_size HB.out)); have GE205 := Aside0.mk (ge_ hg (below_size HB.out)); have NB204_205 := Aside0.mk (nl_ hg (by ((exact BK204.out)))); have NB205_204 := Aside0.mk (nr_ hg (by ((exact BK204.out)))); replace BK204 := Aside0.mk (blk_below (by ((exact BK204.out))) hb); replace HB := Aside0.mk (below_step HB.out hb); clear hb hbox hg)))
  replace BK204 := Aside0.mk (blk_drew BK204.out)
  replace BK205 := Aside0.mk (blk_drew BK205.out)
  replace HB := Aside0.mk (below_drew1 HB.out)
  refine start_ (n := 15) (ds := []) (ls 15 0) (by kernel_rfl) rfl rfl (c3_ BK204.out (d5_ BK205.out)) (fun hHeld => ?_); refine with_tabW prereq_absent.tab1 prereq_absent.bits1 (fun HT_ HW_ => ?_)
  generalize w6.drew = w7 at BK204 BK205 HB hHeld ⊢
  refine td_ [(1, 7), (6, 12), (8, 14)] ?_
  iterate 3 (refine pn_ (v := ?_) (a' := ?_) HT_ rfl rfl (by kernel_rfl) rfl (fun _ _ _ h => h) (fun w' => ?_) ?_ ?_; rotate_left 2; (focus go_simp; with_reducible rfl); (focus simp only [Act.put, sA_, sZ_, sS_, i64_w, i32_w]; rfl))
  refine dn_ ?_
  refine td_ [(0, 6), (2, 8), (5, 11), (7, 13), (9, 15)] ?_
  iterate 5 (refine tn_ (v := ?_) (a' := ?_) HT_ HW_ rfl rfl (by kernel_rfl) rfl (fun _ _ _ h => h) hHeld ?_ ?_ ?_; rotate_left 2; (focus rintro w' ⟨s0, s1, s2, s3, s4, s5, s6, s7⟩; go_simp; with_reducible rfl); (focus simp only [Act.put, sA_, sZ_, sS_, i64_w, i32_w]; rfl))
  refine dn_ ?_
  refine one_ (i := 3) (N := some 9) (ls 15 1007) rfl rfl (one_of HT_.out (by kernel_rfl)) (by decide) (fun K hK => ?_)
  refine goes_ Try.func19 (by kernel_rfl) rfl #[.agg #[.string a0_0, .slice A0_1 l0_1.length c0_1, .int .i64 a0_2], .string a1_0] (by rfl) rfl rfl (by (try simp only [mA_, mC_, mN_]); rfl) ?_
  with_reducible refine (zone_Zone_There.calls a0_0 _ _ l0_1 a0_2 a1_0 t206 _ ?side1 ?side2 A3.out).mono ?_
  (case side1 => repeat ((exact (Kd.C_below HR0_1.out HB.out))))
  (case side2 => exact HC0_1.out)
  rintro e w8 ⟨rfl, hb⟩
  refine ⟨_, rfl, ?_⟩
  replace BK204 := Aside0.mk (blk_below (by ((exact BK204.out))) hb)
  replace BK205 := Aside0.mk (blk_below (by ((exact BK205.out))) hb)
  replace HB := Aside0.mk (below_step HB.out hb)
  (try clear hb)
  refine hK.out _ _ (c3_ BK204.out (d5_ BK205.out)) (fun hHeld => ?_)
  clear hK K
  refine norm_ (a' := ?_) ?_ ?_
  rotate_left
  ·show Act.put _ (some 9) _ = _
   simp only [Act.put, sA_, sZ_, sS_, i64_w, i32_w]
   rfl
  refine td_ [(4, 10)] ?_
  iterate 1 (refine pn_ (v := ?_) (a' := ?_) HT_ rfl rfl (by kernel_rfl) rfl (fun _ _ _ h => h) (fun w' => ?_) ?_ ?_; rotate_left 2; (focus go_simp; with_reducible rfl); (focus simp only [Act.put, sA_, sZ_, sS_, i64_w, i32_w]; rfl))
  refine dn_ ?_
  refine one_ (i := 10) (N := some 16) (ls 15 2047) rfl rfl (one_of HT_.out (by kernel_rfl)) (by decide) (fun K hK => ?_)
  refine goes_ Try.func26 (by kernel_rfl) rfl #[.agg #[.string a0_0, .slice A0_1 l0_1.length c0_1, .int .i64 a0_2], .string a1_0, .int .i64 a1_1] (by rfl) rfl rfl (by (try simp only [mA_, mC_, mN_]); rfl) ?_
  with_reducible refine (zone_Zone_Set.calls a0_0 _ _ l0_1 a0_2 a1_0 a1_1 t207 _ ?side1 ?side2 A4.out).mono ?_
  (case side1 => repeat ((exact (Kd.C_below HR0_1.out HB.out))))
  (case side2 => exact HC0_1.out)
  rintro e w9 ⟨v208, rfl, ho0, hb⟩
  refine ⟨_, rfl, ?_⟩
  have HO209 := Aside0.mk (Kd.R_lower (Kd.R_newB ho0 (g := gb205) (o := .cells #[.string a1_0, .int .i64 a1_1, .int .i64 a1_2, .int .i64 a1_3, .string a1_4] 33 (0, 0)) (by ((exact BK205.out)))) (below_size HB.out))
  replace BK204 := Aside0.mk (blk_below (by ((exact BK204.out))) hb)
  replace BK205 := Aside0.mk (blk_below (by ((exact BK205.out))) hb)
  replace HB := Aside0.mk (below_step HB.out hb)
  (try clear hb)
  (try clear ho0)
  obtain ⟨Ao10, co10, eo10⟩ := Kd.R_slice HO209.out
  ((subst eo10))
  refine hK.out _ _ (c3_ BK204.out (d5_ BK205.out)) (fun hHeld => ?_)
  clear hK K
  refine norm_ (a' := ?_) ?_ ?_
  rotate_left
  ·show Act.put _ (some 16) _ = _
   simp only [Act.put, sA_, sZ_, sS_, i64_w, i32_w]
   rfl
  refine td_ [(11, 17), (12, 18), (13, 4), (14, 5)] ?_
  iterate 4 (refine pn_ (v := ?_) (a' := ?_) HT_ rfl rfl (by kernel_rfl) rfl (fun _ _ _ h => h) (fun w' => ?_) ?_ ?_; rotate_left 2; (focus go_simp; with_reducible rfl); (focus simp only [Act.put, sA_, sZ_, sS_, i64_w, i32_w]; rfl))
  refine dn_ ?_
  refine done_ (done_of HT_.out (by kernel_rfl)) ?_
  (try go_wp2)
  go_ret2
  exact ⟨by rfl, HB.out⟩
noncomputable def prereq_first.f (a0 : Bool) (a1 : Int) : Option (Int) := if a0 = true then (some a1) else (some 0)
set_option maxHeartbeats 8000000 in
set_option maxRecDepth 100000 in
theorem prereq_first.calls (a0 : Bool) (a1 : Int) (r : Int) (w : World) (h : prereq_first.f a0 a1 = some r) :
  Calls Try.prog 55 #[.bool a0, .int .i64 a1] w fun e w' => e = .returned (.int .i64 r) ∧ Drawn0 w w' := by
 have H : (if a0 = true then (some a1) else (some 0)) = some r := h
 clear h
 by_cases c3 : a0 = true
 ·subst c3
  rw [if_pos rfl] at H
  obtain rfl := Option.some.inj H
  go_enter Try.func55, Try.ntmps55
  go_wp2
  go_ret
  exact ⟨by rfl, by repeat ((exact Drawn0.refl _))⟩
 ·replace c3 := Bool.eq_false_iff.mpr c3
  subst c3
  rw [if_neg ff_] at H
  obtain rfl := Option.some.inj H
  go_enter Try.func55, Try.ntmps55
  go_wp2
  go_ret
  exact ⟨by rfl, by repeat ((exact Drawn0.refl _))⟩
end Go.Proofs.Ytehdkopjgcoclaa.PZh
namespace Go.Proofs.Ytehdkopjgcoclaa.PZh
open Go.RowKit Go.Proofs.YtehdkopjgcoclaaW.PrintWords Go.Proofs.YtehdkopjgcoclaaW.PrintLast Go.Proofs.YtehdkopjgcoclaaW.PrintMore Go.Proofs.Ytehdkopjgcoclaa.Given Go.Proofs.Ytehdkopjgcoclaa.PRd Go.Proofs.Ytehdkopjgcoclaa.PRr Go.Proofs.Ytehdkopjgcoclaa.PZo Go.Proofs.Ytehdkopjgcoclaa.PZf
attribute [local go_sem] max2_int min2_int max_two min_two max_three min_three max_four min_four   -- for this text's walks alone
set_option linter.unusedVariables false
set_option linter.unusedSimpArgs false
mutual
noncomputable def prereq_one.j0 : Nat → Bool → Bool → Bool → ByteArray → Int → Int → Int → ByteArray → Option (Int)
 | 0, _, _, _, _, _, _, _, _ => none
 | k + 1, x5, x6, x33, x212000, x212001, x212002, x212003, x212004 => if x33 = true then (if x212004.toList = ([] : List UInt8) then (if x212002 = 255 then (prereq_one.j1 k x5 x6 (x212001 == 255) x212000 x212001 x212002 x212003 x212004) else (prereq_one.j1 k x5 x6 false x212000 x212001 x212002 x212003 x212004)) else (some 1)) else (some 1)
noncomputable def prereq_one.j1 : Nat → Bool → Bool → Bool → ByteArray → Int → Int → Int → ByteArray → Option (Int)
 | 0, _, _, _, _, _, _, _, _ => none
 | k + 1, x5, x6, x39, x212000, x212001, x212002, x212003, x212004 => if x39 = true then ((prereq_first.f x5 3).bind fun t218 => (some t218)) else (if x212002 = 255 then ((prereq_first.f x6 8).bind fun t219 => (some t219)) else (if x212001 = 255 then ((prereq_first.f (!x5) 6).bind fun t220 => (some t220)) else ((prereq_first.f (!x6) 7).bind fun t221 => (some t221))))
end
noncomputable def prereq_one.f (k : Nat) (a0_0 : ByteArray) (l0_1 : List (S33)) (a0_2 : Int) (a1_0 : ByteArray) (a1_1 : Int) (a1_2 : Int) (a1_3 : Int) (a1_4 : ByteArray) : Option (Int) := if a1_3 = 0 then ((zone_Zone_Apex.f a0_0 l0_1 a0_2).bind fun t212 => ((name_Under.f k a1_0 t212).bind fun t213 => (if t213 = true then ((prereq_absent.f a0_0 l0_1 a0_2 a1_0 a1_1 a1_2 a1_3 a1_4).bind fun bt214 => (if a1_2 = 1 then ((zone_DataType.f a1_1).bind fun t216 => ((prereq_first.f (!t216) 1).bind fun t217 => (some t217))) else (if a1_2 = 255 then (prereq_one.j0 k bt214.1 bt214.2 (a1_2 == 255) a1_0 a1_1 a1_2 a1_3 a1_4) else (prereq_one.j0 k bt214.1 bt214.2 (a1_2 == 254) a1_0 a1_1 a1_2 a1_3 a1_4)))) else (some 10)))) else (some 1)
set_option maxHeartbeats 8000000 in
set_option maxRecDepth 100000 in
theorem prereq_one.calls (k : Nat) (a0_0 : ByteArray) (A0_1 : Option Addr) (c0_1 : Nat) (l0_1 : List (S33)) (a0_2 : Int) (a1_0 : ByteArray) (a1_1 : Int) (a1_2 : Int) (a1_3 : Int) (a1_4 : ByteArray) (r : Int) (w : World) (hr0_1 : Kd.C k33 w A0_1 l0_1.length l0_1) (hc0_1 : l0_1.length ≤ c0_1) (h : prereq_one.f k a0_0 l0_1 a0_2 a1_0 a1_1 a1_2 a1_3 a1_4 = some r) :
    Calls Try.prog 34 #[.agg #[.string a0_0, .slice A0_1 l0_1.length c0_1, .int .i64 a0_2], .agg #[.string a1_0, .int .i64 a1_1, .int .i64 a1_2, .int .i64 a1_3, .string a1_4]] w fun e w' => e = .returned (.int .i64 r) ∧ Below w.heap.size w w' := by
  have hu27 := Try.underlying27
  have hu33 := Try.underlying33
  have HR0_1 := Aside0.mk hr0_1
  have HC0_1 := Aside0.mk hc0_1
  clear hr0_1 hc0_1
  have HB := Aside0.mk (Below.refl w.heap.size w)
  have H : (if a1_3 = 0 then ((zone_Zone_Apex.f a0_0 l0_1 a0_2).bind fun t212 => ((name_Under.f k a1_0 t212).bind fun t213 => (if t213 = true then ((prereq_absent.f a0_0 l0_1 a0_2 a1_0 a1_1 a1_2 a1_3 a1_4).bind fun bt214 => (if a1_2 = 1 then ((zone_DataType.f a1_1).bind fun t216 => ((prereq_first.f (!t216) 1).bind fun t217 => (some t217))) else (if a1_2 = 255 then (prereq_one.j0 k bt214.1 bt214.2 (a1_2 == 255) a1_0 a1_1 a1_2 a1_3 a1_4) else (prereq_one.j0 k bt214.1 bt214.2 (a1_2 == 254) a1_0 a1_1 a1_2 a1_3 a1_4)))) else (some 10)))) else (some 1)) = some r := h
  clear h
  by_cases c3 : a1_3 = 0
  ·rw [if_pos c3] at H
   have c3b0 : (a1_3 == 0) = true := beq_iff_eq.mpr c3
   have c3b1 : (a1_3 != 0) = false := bne_eq_false_iff_eq.mpr c3
   clear c3
   obtain ⟨t212, A4, H⟩ := bnd_ H
   obtain ⟨t213, A5, H⟩ := bnd_ H
   by_cases c6 : t213 = true
   focus
    subst c6
    rw [if_pos rfl] at H
    replace H := Option.bind_eq_some_iff.mp H
    obtain ⟨⟨t214, t215⟩, A70, H⟩ := H
    replace H : (if a1_2 = 1 then ((zone_DataType.f a1_1).bind fun t216 => ((prereq_first.f (!t216) 1).bind fun t217 => (some t217))) else (if a1_2 = 255 then (prereq_one.j0 k t214 t215 (a1_2 == 255) a1_0 a1_1 a1_2 a1_3 a1_4) else (prereq_one.j0 k t214 t215 (a1_2 == 254) a1_0 a1_1 a1_2 a1_3 a1_4))) = some r := H
    have A7 := Aside0.mk A70
    clear A70
    by_cases c8 : a1_2 = 1
    focus
     rw [if_pos c8] at H
     have c8b0 : (a1_2 == 1) = true := beq_iff_eq.mpr c8
     have c8b1 : (a1_2 != 1) = false := bne_eq_false_iff_eq.mpr c8
     clear c8
     obtain ⟨t216, A9, H⟩ := bnd_ H
     obtain ⟨t217, A10, H⟩ := bnd_ H
     obtain rfl := Option.some.inj H
     go_enter Try.func34, Try.ntmps34
     (try go_wp2_with (first | (((refine be_ (N := 2) (cs := #[.string a0_0, .slice A0_1 l0_1.length c0_1, .int .i64 a0_2]) (t := 27) ?_)); intro gb210 hg w11 hbox hb; have BK210 := Aside0.mk (hbox); have GW210 := Aside0.mk (ge_ hg (below_size HB.out)); have GE210 := Aside0.mk (ge_ hg (below_size HB.out)); replace HB := Aside0.mk (below_step HB.out hb); clear hb hbox hg) | (((refine be_ (N := 3) (cs := #[.string a1_0, .int .i64 a1_1, .int .i64 a1_2, .int .i64 a1_3, .string a1_4]) (t := 33) ?_)); intro gb211 hg w12 hbox hb; have BK211 := Aside0.mk (hbox); have GW211 := Aside0.mk (ge_ hg (below_size HB.out)); have GE211 := Aside0.mk (ge_ hg (below_size HB.out)); have NB210_211 := Aside0.mk (nl_ hg (by ((exact BK210.out)))); have NB211_210 := Aside0.mk (nr_ hg (by ((exact BK210.out)))); replace BK210 := Aside0.mk (blk_below (by ((exact BK210.out))) hb); replace HB := Aside0.mk (below_step HB.out hb); clear hb hbox hg; have hnb13 := NB211_210.out; have hnc13 := NB210_211.out; obtain ⟨hcz14_0, hcz14_1, hcz14_2, hcz14_3, hcz14_4, hfz14_0, hfz14_1, hfz14_2, hfz14_3, hfz14_4⟩ := z5_ BK211.out)))
    rotate_left
    focus
     rw [if_neg c8] at H
     have c8b0 : (a1_2 == 1) = false := beq_eq_false_iff_ne.mpr c8
     have c8b1 : (a1_2 != 1) = true := bne_iff_ne.mpr c8
     have HC22 := Aside0.mk H
     clear H
     go_enter Try.func34, Try.ntmps34
     (try go_wp2_with (first | (((refine be_ (N := 2) (cs := #[.string a0_0, .slice A0_1 l0_1.length c0_1, .int .i64 a0_2]) (t := 27) ?_)); intro gb210 hg w23 hbox hb; have BK210 := Aside0.mk (hbox); have GW210 := Aside0.mk (ge_ hg (below_size HB.out)); have GE210 := Aside0.mk (ge_ hg (below_size HB.out)); replace HB := Aside0.mk (below_step HB.out hb); clear hb hbox hg) | (((refine be_ (N := 3) (cs := #[.string a1_0, .int .i64 a1_1, .int .i64 a1_2, .int .i64 a1_3, .string a1_4]) (t := 33) ?_)); intro gb211 hg w12 hbox hb; have BK211 := Aside0.mk (hbox); have GW211 := Aside0.mk (ge_ hg (below_size HB.out)); have GE211 := Aside0.mk (ge_ hg (below_size HB.out)); have NB210_211 := Aside0.mk (nl_ hg (by ((exact BK210.out)))); have NB211_210 := Aside0.mk (nr_ hg (by ((exact BK210.out)))); replace BK210 := Aside0.mk (blk_below (by ((exact BK210.out))) hb); replace HB := Aside0.mk (below_step HB.out hb); clear hb hbox hg; have hnb25 := NB211_210.out; have hnc25 := NB210_211.out; obtain ⟨hcz26_0, hcz26_1, hcz26_2, hcz26_3, hcz26_4, hfz26_0, hfz26_1, hfz26_2, hfz26_3, hfz26_4⟩ := z5_ BK211.out)))
    rotate_left
   rotate_left 2
   focus
    replace c6 := Bool.eq_false_iff.mpr c6
    subst c6
    rw [if_neg ff_] at H
    obtain rfl := Option.some.inj H
    go_enter Try.func34, Try.ntmps34
    (try go_wp2_with (first | (((refine be_ (N := 2) (cs := #[.string a0_0, .slice A0_1 l0_1.length c0_1, .int .i64 a0_2]) (t := 27) ?_)); intro gb210 hg w60 hbox hb; have BK210 := Aside0.mk (hbox); have GW210 := Aside0.mk (ge_ hg (below_size HB.out)); have GE210 := Aside0.mk (ge_ hg (below_size HB.out)); replace HB := Aside0.mk (below_step HB.out hb); clear hb hbox hg) | (((refine be_ (N := 3) (cs := #[.string a1_0, .int .i64 a1_1, .int .i64 a1_2, .int .i64 a1_3, .string a1_4]) (t := 33) ?_)); intro gb211 hg w12 hbox hb; have BK211 := Aside0.mk (hbox); have GW211 := Aside0.mk (ge_ hg (below_size HB.out)); have GE211 := Aside0.mk (ge_ hg (below_size HB.out)); have NB210_211 := Aside0.mk (nl_ hg (by ((exact BK210.out)))); have NB211_210 := Aside0.mk (nr_ hg (by ((exact BK210.out)))); replace BK210 := Aside0.mk (blk_below (by ((exact BK210.out))) hb); replace HB := Aside0.mk (below_step HB.out hb); clear hb hbox hg; have hnb62 := NB211_210.out; have hnc62 := NB210_211.out; obtain ⟨hcz63_0, hcz63_1, hcz63_2, hcz63_3, hcz63_4, hfz63_0, hfz63_1, hfz63_2, hfz63_3, hfz63_4⟩ := z5_ BK211.out)))
   rotate_left
   all_goals
    replace BK210 := Aside0.mk (blk_drew BK210.out)
    replace BK211 := Aside0.mk (blk_drew BK211.out)
    replace HB := Aside0.mk (below_drew1 HB.out)
    refine start_ (n := 7) (ds := []) (ls 7 0) (by kernel_rfl) rfl rfl (c5_ BK211.out (d3_ BK210.out)) (fun hHeld => ?_)
    generalize w12.drew = w15 at BK210 BK211 HB hHeld ⊢
    refine pure_ (i := 0) (N := some 12) (v := ?_) (a' := ?_) (ls 7 1) rfl rfl (by kernel_rfl) (fun _ _ _ h => h) (Or.inl ⟨by rfl, ?_⟩) ?_ ?_
    rotate_left
    ·intro w'
     go_simp
     with_reducible rfl
    rotate_left
    ·simp only [Act.put, sA_, sZ_, sS_, i64_w, i32_w]
     rfl
    refine take_ (i := 1) (N := some 13) (v := ?_) (a' := ?_) (ls 7 3) rfl rfl (by kernel_rfl) (fun _ _ _ h => h) (Or.inl ⟨by rfl, ?_⟩) hHeld ?_ ?_
    rotate_left
    ·rintro w' ⟨s0, s1, s2, s3, s4, s5, s6, s7⟩
     go_simp
     with_reducible rfl
    rotate_left
    ·simp only [Act.put, sA_, sZ_, sS_, i64_w, i32_w]
     rfl
    refine take_ (i := 2) (N := some 14) (v := ?_) (a' := ?_) (ls 7 7) rfl rfl (by kernel_rfl) (fun _ _ _ h => h) (Or.inl ⟨by rfl, ?_⟩) hHeld ?_ ?_
    rotate_left
    ·rintro w' ⟨s0, s1, s2, s3, s4, s5, s6, s7⟩
     go_simp
     with_reducible rfl
    rotate_left
    ·simp only [Act.put, sA_, sZ_, sS_, i64_w, i32_w]
     rfl
    refine one_ (i := 3) (N := some 15) (ls 7 15) rfl rfl (by kernel_rfl) (by decide) (fun K hK => ?_)
    refine goes_ Try.func18 (by kernel_rfl) rfl #[.agg #[.string a0_0, .slice A0_1 l0_1.length c0_1, .int .i64 a0_2]] (by rfl) rfl rfl (by (try simp only [mA_, mC_, mN_]); rfl) ?_
    with_reducible refine (zone_Zone_Apex.calls a0_0 _ _ l0_1 a0_2 t212 _ ?side1 ?side2 A4.out).mono ?_
    (case side1 => repeat ((exact (Kd.C_below HR0_1.out HB.out))))
    (case side2 => exact HC0_1.out)
    rintro e w16 ⟨rfl, hb⟩
    refine ⟨_, rfl, ?_⟩
    replace BK210 := Aside0.mk (blk_below (by ((exact BK210.out))) hb)
    replace BK211 := Aside0.mk (blk_below (by ((exact BK211.out))) hb)
    replace HB := Aside0.mk (below_step HB.out hb)
    (try clear hb)
    refine hK.out _ _ (c5_ BK211.out (d3_ BK210.out)) (fun hHeld => ?_)
    clear hK K
    refine norm_ (a' := ?_) ?_ ?_
    rotate_left
    ·show Act.put _ (some 15) _ = _
     simp only [Act.put, sA_, sZ_, sS_, i64_w, i32_w]
     rfl
    refine one_ (i := 4) (N := some 16) (ls 7 31) rfl rfl (by kernel_rfl) (by decide) (fun K hK => ?_)
    refine goes_ Try.func50 (by kernel_rfl) rfl #[.string a1_0, .string t212] (by rfl) rfl rfl (by (try simp only [mA_, mC_, mN_]); rfl) ?_
    with_reducible refine (name_Under.calls k a1_0 t212 _ _ A5.out).mono ?_
    rintro e w17 ⟨rfl, hb⟩
    refine ⟨_, rfl, ?_⟩
    replace BK210 := Aside0.mk (blk_below (by ((exact BK210.out))) hb)
    replace BK211 := Aside0.mk (blk_below (by ((exact BK211.out))) hb)
    replace HB := Aside0.mk (below_step HB.out hb)
    (try clear hb)
    refine hK.out _ _ (c5_ BK211.out (d3_ BK210.out)) (fun hHeld => ?_)
    clear hK K
    refine norm_ (a' := ?_) ?_ ?_
    rotate_left
    ·show Act.put _ (some 16) _ = _
     simp only [Act.put, sA_, sZ_, sS_, i64_w, i32_w]
     rfl
    refine pure_ (i := 5) (N := some 17) (v := ?_) (a' := ?_) (ls 7 63) rfl rfl (by kernel_rfl) (fun _ _ _ h => h) (Or.inl ⟨by rfl, ?_⟩) ?_ ?_
    rotate_left
    ·intro w'
     go_simp
     with_reducible rfl
    rotate_left
    ·simp only [Act.put, sA_, sZ_, sS_, i64_w, i32_w]
     rfl
    refine pure_ (i := 6) (N := some 11) (v := ?_) (a' := ?_) (ls 7 127) rfl rfl (by kernel_rfl) (fun _ _ _ h => h) (Or.inl ⟨by rfl, ?_⟩) ?_ ?_
    rotate_left
    ·intro w'
     go_simp
     with_reducible rfl
    rotate_left
    ·simp only [Act.put, sA_, sZ_, sS_, i64_w, i32_w]
     rfl
    refine done_ (by kernel_rfl) ?_
   ·obtain ⟨hcz18_0, hcz18_1, hcz18_2, hfz18_0, hfz18_1, hfz18_2⟩ := z3_ BK210.out
    obtain ⟨hcz19_0, hcz19_1, hcz19_2, hcz19_3, hcz19_4, hfz19_0, hfz19_1, hfz19_2, hfz19_3, hfz19_4⟩ := z5_ BK211.out
    (try go_wp2_with (first | ((with_reducible refine gate_callee (f := 54) rfl ?_); refine goesL_ (some 21) rfl rfl Try.func54 (by kernel_rfl) rfl #[.agg #[.string a0_0, .slice A0_1 l0_1.length c0_1, .int .i64 a0_2], .agg #[.string a1_0, .int .i64 a1_1, .int .i64 a1_2, .int .i64 a1_3, .string a1_4]] rfl (by (try simp only [mA_, mC_, mN_]); rfl) ?_; (with_reducible refine (prereq_absent.calls a0_0 _ _ l0_1 a0_2 a1_0 a1_1 a1_2 a1_3 a1_4 t214 t215 _ ?side1 ?side2 A7.out).mono ?_); (case side1 => repeat ((exact (Kd.C_below HR0_1.out HB.out)))); (case side2 => exact HC0_1.out); rintro e w20 ⟨rfl, hb⟩; refine ⟨_, rfl, ?_⟩; replace BK210 := Aside0.mk (blk_below (by ((exact BK210.out))) hb); replace BK211 := Aside0.mk (blk_below (by ((exact BK211.out))) hb); replace HB := Aside0.mk (below_step HB.out hb); (try clear hb); obtain ⟨hcz21_0, hcz21_1, hcz21_2, hcz21_3, hcz21_4, hfz21_0, hfz21_1, hfz21_2, hfz21_3, hfz21_4⟩ := z5_ BK211.out) | ((with_reducible refine gate_callee (f := 7) rfl ?_); refine goesL_ (some 30) rfl rfl Try.func7 (by kernel_rfl) rfl #[.int .i64 a1_1] rfl (by (try simp only [mA_, mC_, mN_]); rfl) ?_; (with_reducible refine (zone_DataType.calls a1_1 t216 _ A9.out).mono ?_); rintro e w' ⟨rfl, ⟨nd, rfl⟩⟩; refine ⟨_, rfl, ?_⟩) | ((with_reducible refine gate_callee (f := 55) rfl ?_); refine goesL_ (some 32) rfl rfl Try.func55 (by kernel_rfl) rfl #[.bool (!t216), .int .i64 1] rfl (by (try simp only [mA_, mC_, mN_]); rfl) ?_; (with_reducible refine (prereq_first.calls (!t216) 1 t217 _ A10.out).mono ?_); rintro e w' ⟨rfl, ⟨nd, rfl⟩⟩; refine ⟨_, rfl, ?_⟩)))
    go_ret
    exact ⟨by rfl, by repeat ((with_reducible first | exact HB.out | apply pw_below_drewN))⟩
   ·obtain ⟨hcz30_0, hcz30_1, hcz30_2, hfz30_0, hfz30_1, hfz30_2⟩ := z3_ BK210.out
    obtain ⟨hcz31_0, hcz31_1, hcz31_2, hcz31_3, hcz31_4, hfz31_0, hfz31_1, hfz31_2, hfz31_3, hfz31_4⟩ := z5_ BK211.out
    go_upto_if 33 with ((((with_reducible refine gate_callee (f := 54) rfl ?_); refine goesL_ (some 21) rfl rfl Try.func54 (by kernel_rfl) rfl #[.agg #[.string a0_0, .slice A0_1 l0_1.length c0_1, .int .i64 a0_2], .agg #[.string a1_0, .int .i64 a1_1, .int .i64 a1_2, .int .i64 a1_3, .string a1_4]] rfl (by (try simp only [mA_, mC_, mN_]); rfl) ?_; (with_reducible refine (prereq_absent.calls a0_0 _ _ l0_1 a0_2 a1_0 a1_1 a1_2 a1_3 a1_4 t214 t215 _ ?side1 ?side2 A7.out).mono ?_); (case side1 => repeat ((exact (Kd.C_below HR0_1.out HB.out)))); (case side2 => exact HC0_1.out); rintro e w32 ⟨rfl, hb⟩; refine ⟨_, rfl, ?_⟩; replace BK210 := Aside0.mk (blk_below (by ((exact BK210.out))) hb); replace BK211 := Aside0.mk (blk_below (by ((exact BK211.out))) hb); replace HB := Aside0.mk (below_step HB.out hb); (try clear hb); obtain ⟨hcz33_0, hcz33_1, hcz33_2, hcz33_3, hcz33_4, hfz33_0, hfz33_1, hfz33_2, hfz33_3, hfz33_4⟩ := z5_ BK211.out)))
    go_cut [33] (fun v33 wc => ∃ (kq : Nat) (x33_21 : Bool), v33 = .bool x33_21 ∧ Aside0 (prereq_one.j0 kq t214 t215 x33_21 a1_0 a1_1 a1_2 a1_3 a1_4 = some r) ∧ Aside0 (kq ≤ k) ∧ Aside0 (wc.heap[gb210]? = some (.cells #[.string a0_0, (.slice A0_1 l0_1.length c0_1), .int .i64 a0_2] 27 (0, 0))) ∧ Aside0 (wc.heap[gb211]? = some (.cells #[.string a1_0, .int .i64 a1_1, .int .i64 a1_2, .int .i64 a1_3, .string a1_4] 33 (0, 0))) ∧ Aside0 (Below w.heap.size w wc))
    case first =>
     have H := HC22.out
     clear HC22
     by_cases c34 : a1_2 = 255
     focus
      rw [if_pos c34] at H
      have c34b0 : (a1_2 == 255) = true := beq_iff_eq.mpr c34
      have c34b1 : (a1_2 != 255) = false := bne_eq_false_iff_eq.mpr c34
      clear c34
     rotate_left
     focus
      rw [if_neg c34] at H
      have c34b0 : (a1_2 == 255) = false := beq_eq_false_iff_ne.mpr c34
      have c34b1 : (a1_2 != 255) = true := bne_iff_ne.mpr c34
     rotate_left
     all_goals
      ((rw [c34b0]))
      have H' := Aside0.mk H
      clear H
      go_wp2
      go_meet
     ·case rel => exact ⟨_, ((a1_2 == 255)), (by (simp [*]; done)), H', ⟨by omega⟩, ⟨by (with_reducible repeat ((refine blk_drewN ?_ _))); exact BK210.out⟩, ⟨by (with_reducible repeat ((refine blk_drewN ?_ _))); exact BK211.out⟩, ⟨HB.out⟩⟩
     ·case rel => exact ⟨_, ((a1_2 == 254)), (by rfl), H', ⟨by omega⟩, ⟨by (with_reducible repeat ((refine blk_drewN ?_ _))); exact BK210.out⟩, ⟨by (with_reducible repeat ((refine blk_drewN ?_ _))); exact BK211.out⟩, ⟨HB.out⟩⟩
    case rest =>
     clear HC22
     (try clear c3b0)
     (try clear c3b1)
     (try clear c8)
     (try clear c8b0)
     (try clear c8b1)
     (try clear hcz26_0)
     (try clear hcz26_1)
     (try clear hcz26_2)
     (try clear hcz26_3)
     (try clear hcz26_4)
     (try clear hcz30_0)
     (try clear hcz30_1)
     (try clear hcz30_2)
     (try clear hcz31_0)
     (try clear hcz31_1)
     (try clear hcz31_2)
     (try clear hcz31_3)
     (try clear hcz31_4)
     (try clear hcz33_0)
     (try clear hcz33_1)
     (try clear hcz33_2)
     (try clear hcz33_3)
     (try clear hcz33_4)
     (try clear hfz26_0)
     (try clear hfz26_1)
     (try clear hfz26_2)
     (try clear hfz26_3)
     (try clear hfz26_4)
     (try clear hfz30_0)
     (try clear hfz30_1)
     (try clear hfz30_2)
     (try clear hfz31_0)
     (try clear hfz31_1)
     (try clear hfz31_2)
     (try clear hfz31_3)
     (try clear hfz31_4)
     (try clear hfz33_0)
     (try clear hfz33_1)
     (try clear hfz33_2)
     (try clear hfz33_3)
     (try clear hfz33_4)
     obtain ⟨kq, x33_21, rfl, HA, HJ21, BK210, BK211, HB⟩ := hcut
     cases kq with
     | zero => exact absurd HA.out (by simp [prereq_one.j0])
     | succ kj21 =>
      have H := HA.out
      clear HA
      simp only [prereq_one.j0] at H
      by_cases c35 : x33_21 = true
      ·subst c35
       rw [if_pos rfl] at H
       by_cases c36 : a1_4.toList = ([] : List UInt8)
       focus
        rw [if_pos c36] at H
        have c36b0 : a1_4.toList.isEmpty = true := List.isEmpty_iff.mpr c36
        have c36b1 : (!a1_4.toList.isEmpty) = false := by rw [List.isEmpty_iff.mpr c36]; rfl
        clear c36
        have HC37 := Aside0.mk H
        clear H
       rotate_left
       focus
        rw [if_neg c36] at H
        have c36b0 : a1_4.toList.isEmpty = false := Bool.eq_false_iff.mpr (fun h_ => c36 (List.isEmpty_iff.mp h_))
        have c36b1 : (!a1_4.toList.isEmpty) = true := by rw [Bool.eq_false_iff.mpr (fun h_ => c36 (List.isEmpty_iff.mp h_))]; rfl
        obtain rfl := Option.some.inj H
       rotate_left
       all_goals
        have hnb38 := NB211_210.out
        have hnc38 := NB210_211.out
        obtain ⟨hcz39_0, hcz39_1, hcz39_2, hcz39_3, hcz39_4, hfz39_0, hfz39_1, hfz39_2, hfz39_3, hfz39_4⟩ := z5_ BK211.out
       ·go_upto_region 14 with (fail)
        go_cut [39] (fun v39 wc => ∃ (kq : Nat) (x39_36 : Bool), v39 = .bool x39_36 ∧ Aside0 (prereq_one.j1 kq t214 t215 x39_36 a1_0 a1_1 a1_2 a1_3 a1_4 = some r) ∧ Aside0 (kq ≤ kj21) ∧ Aside0 (wc.heap[gb210]? = some (.cells #[.string a0_0, (.slice A0_1 l0_1.length c0_1), .int .i64 a0_2] 27 (0, 0))) ∧ Aside0 (wc.heap[gb211]? = some (.cells #[.string a1_0, .int .i64 a1_1, .int .i64 a1_2, .int .i64 a1_3, .string a1_4] 33 (0, 0))) ∧ Aside0 (Below w.heap.size w wc))
        case first =>
         have H := HC37.out
         clear HC37
         by_cases c40 : a1_2 = 255
         focus
          rw [if_pos c40] at H
          have c40b0 : (a1_2 == 255) = true := beq_iff_eq.mpr c40
          have c40b1 : (a1_2 != 255) = false := bne_eq_false_iff_eq.mpr c40
          clear c40
         rotate_left
         focus
          rw [if_neg c40] at H
          have c40b0 : (a1_2 == 255) = false := beq_eq_false_iff_ne.mpr c40
          have c40b1 : (a1_2 != 255) = true := bne_iff_ne.mpr c40
         rotate_left
         all_goals
          (skip)
          have H' := Aside0.mk H
          clear H
          have hnb41 := NB211_210.out
          have hnc41 := NB210_211.out
          obtain ⟨hcz42_0, hcz42_1, hcz42_2, hcz42_3, hcz42_4, hfz42_0, hfz42_1, hfz42_2, hfz42_3, hfz42_4⟩ := z5_ BK211.out
          go_wp2
          go_meet
         ·case rel => exact ⟨_, ((a1_1 == 255)), (by rfl), H', ⟨by have := HJ21.out; omega⟩, ⟨by (with_reducible repeat ((refine blk_drewN ?_ _))); exact BK210.out⟩, ⟨by (with_reducible repeat ((refine blk_drewN ?_ _))); exact BK211.out⟩, ⟨HB.out⟩⟩
         ·case rel => exact ⟨_, (false), (by rfl), H', ⟨by have := HJ21.out; omega⟩, ⟨by (with_reducible repeat ((refine blk_drewN ?_ _))); exact BK210.out⟩, ⟨by (with_reducible repeat ((refine blk_drewN ?_ _))); exact BK211.out⟩, ⟨HB.out⟩⟩
        case rest =>
         clear HC37
         (try clear c36b0)
         (try clear c36b1)
         (try clear hcz39_0)
         (try clear hcz39_1)
         (try clear hcz39_2)
         (try clear hcz39_3)
         (try clear hcz39_4)
         (try clear hfz39_0)
         (try clear hfz39_1)
         (try clear hfz39_2)
         (try clear hfz39_3)
         (try clear hfz39_4)
         obtain ⟨kq, x39_36, rfl, HA, HJ36, BK210, BK211, HB⟩ := hcut
         cases kq with
         | zero => exact absurd HA.out (by simp [prereq_one.j1])
         | succ kj36 =>
          have H := HA.out
          clear HA
          simp only [prereq_one.j1] at H
          by_cases c45 : x39_36 = true
          focus
           subst c45
           rw [if_pos rfl] at H
          rotate_left
          focus
           replace c45 := Bool.eq_false_iff.mpr c45
           subst c45
           rw [if_neg ff_] at H
           by_cases c47 : a1_2 = 255
           focus
            rw [if_pos c47] at H
            have c47b0 : (a1_2 == 255) = true := beq_iff_eq.mpr c47
            have c47b1 : (a1_2 != 255) = false := bne_eq_false_iff_eq.mpr c47
            clear c47
           rotate_left
           focus
            rw [if_neg c47] at H
            have c47b0 : (a1_2 == 255) = false := beq_eq_false_iff_ne.mpr c47
            have c47b1 : (a1_2 != 255) = true := bne_iff_ne.mpr c47
            by_cases c51 : a1_1 = 255
            focus
             rw [if_pos c51] at H
             have c51b0 : (a1_1 == 255) = true := beq_iff_eq.mpr c51
             have c51b1 : (a1_1 != 255) = false := bne_eq_false_iff_eq.mpr c51
             clear c51
            rotate_left
            focus
             rw [if_neg c51] at H
             have c51b0 : (a1_1 == 255) = false := beq_eq_false_iff_ne.mpr c51
             have c51b1 : (a1_1 != 255) = true := bne_iff_ne.mpr c51
            rotate_left
           rotate_left 2
          rotate_left 3
          all_goals
           obtain ⟨t218, A46, H⟩ := bnd_ H
           obtain rfl := Option.some.inj H
          focus
           go_wp2_with ((((with_reducible refine gate_callee (f := 55) rfl ?_); refine goesL_ (some 49) rfl rfl Try.func55 (by kernel_rfl) rfl #[.bool t214, .int .i64 3] rfl (by (try simp only [mA_, mC_, mN_]); rfl) ?_; (with_reducible refine (prereq_first.calls t214 3 t218 _ A46.out).mono ?_); rintro e w' ⟨rfl, ⟨nd, rfl⟩⟩; refine ⟨_, rfl, ?_⟩)))
          rotate_left
          iterate 3
           focus
            have hnb49 := NB211_210.out
            have hnc49 := NB210_211.out
            obtain ⟨hcz50_0, hcz50_1, hcz50_2, hcz50_3, hcz50_4, hfz50_0, hfz50_1, hfz50_2, hfz50_3, hfz50_4⟩ := z5_ BK211.out
           rotate_left
          rotate_left
          focus
           go_wp2_with ((((with_reducible refine gate_callee (f := 55) rfl ?_); refine goesL_ (some 55) rfl rfl Try.func55 (by kernel_rfl) rfl #[.bool t215, .int .i64 8] rfl (by (try simp only [mA_, mC_, mN_]); rfl) ?_; (with_reducible refine (prereq_first.calls t215 8 t218 _ A46.out).mono ?_); rintro e w' ⟨rfl, ⟨nd, rfl⟩⟩; refine ⟨_, rfl, ?_⟩)))
          rotate_left
          focus
           go_wp2_with ((((with_reducible refine gate_callee (f := 55) rfl ?_); refine goesL_ (some 62) rfl rfl Try.func55 (by kernel_rfl) rfl #[.bool (!t214), .int .i64 6] rfl (by (try simp only [mA_, mC_, mN_]); rfl) ?_; (with_reducible refine (prereq_first.calls (!t214) 6 t218 _ A46.out).mono ?_); rintro e w' ⟨rfl, ⟨nd, rfl⟩⟩; refine ⟨_, rfl, ?_⟩)))
          rotate_left
          focus
           go_wp2_with ((((with_reducible refine gate_callee (f := 55) rfl ?_); refine goesL_ (some 65) rfl rfl Try.func55 (by kernel_rfl) rfl #[.bool (!t215), .int .i64 7] rfl (by (try simp only [mA_, mC_, mN_]); rfl) ?_; (with_reducible refine (prereq_first.calls (!t215) 7 t218 _ A46.out).mono ?_); rintro e w' ⟨rfl, ⟨nd, rfl⟩⟩; refine ⟨_, rfl, ?_⟩)))
          rotate_left
          all_goals
           go_ret
           exact ⟨by rfl, by repeat ((with_reducible first | exact HB.out | apply pw_below_drewN))⟩
       ·go_wp2
        go_ret
        exact ⟨by rfl, HB.out⟩
      ·replace c35 := Bool.eq_false_iff.mpr c35
       subst c35
       rw [if_neg ff_] at H
       obtain rfl := Option.some.inj H
       go_wp2
       go_ret
       exact ⟨by rfl, HB.out⟩
   ·try go_wp2
    go_ret
    exact ⟨by rfl, HB.out⟩
  ·rw [if_neg c3] at H
   have c3b0 : (a1_3 == 0) = false := beq_eq_false_iff_ne.mpr c3
   have c3b1 : (a1_3 != 0) = true := bne_iff_ne.mpr c3
   obtain rfl := Option.some.inj H
   go_enter Try.func34, Try.ntmps34
   go_wp2_with (first | (((refine be_ (N := 2) (cs := #[.string a0_0, .slice A0_1 l0_1.length c0_1, .int .i64 a0_2]) (t := 27) ?_)); intro gb210 hg w67 hbox hb; have BK210 := Aside0.mk (hbox); have GW210 := Aside0.mk (ge_ hg (below_size HB.out)); have GE210 := Aside0.mk (ge_ hg (below_size HB.out)); replace HB := Aside0.mk (below_step HB.out hb); clear hb hbox hg) | (((refine be_ (N := 3) (cs := #[.string a1_0, .int .i64 a1_1, .int .i64 a1_2, .int .i64 a1_3, .string a1_4]) (t := 33) ?_)); intro gb211 hg w68 hbox hb; have BK211 := Aside0.mk (hbox); have GW211 := Aside0.mk (ge_ hg (below_size HB.out)); have GE211 := Aside0.mk (ge_ hg (below_size HB.out)); have NB210_211 := Aside0.mk (nl_ hg (by ((exact BK210.out)))); have NB211_210 := Aside0.mk (nr_ hg (by ((exact BK210.out)))); replace BK210 := Aside0.mk (blk_below (by ((exact BK210.out))) hb); replace HB := Aside0.mk (below_step HB.out hb); clear hb hbox hg; have hnb69 := NB211_210.out; have hnc69 := NB210_211.out; obtain ⟨hcz70_0, hcz70_1, hcz70_2, hcz70_3, hcz70_4, hfz70_0, hfz70_1, hfz70_2, hfz70_3, hfz70_4⟩ := z5_ BK211.out))
   go_ret
   exact ⟨by rfl, HB.out⟩
end Go.Proofs.Ytehdkopjgcoclaa.PZh
namespace Go.Proofs.Ytehdkopjgcoclaa.PZh
open Go.RowKit Go.Proofs.YtehdkopjgcoclaaW.PrintWords Go.Proofs.YtehdkopjgcoclaaW.PrintLast Go.Proofs.YtehdkopjgcoclaaW.PrintMore Go.Proofs.Ytehdkopjgcoclaa.Given Go.Proofs.Ytehdkopjgcoclaa.PRd Go.Proofs.Ytehdkopjgcoclaa.PRr Go.Proofs.Ytehdkopjgcoclaa.PZo Go.Proofs.Ytehdkopjgcoclaa.PZf
attribute [local go_sem] max2_int min2_int max_two min_two max_three min_three max_four min_four   -- for this text's walks alone
set_option linter.unusedVariables false
set_option linter.unusedSimpArgs false
noncomputable def api_RR.l0 : Nat → List (S33) → List (S33) → Int → Int → Option (Bool)
 | 0, _, _, _, _ => none
 | k + 1, x1, x15, x16, x17 => if x17 < x16 then (if 0 ≤ x17 then (if x17 < (x15.length : Int) then (if x17 < (x1.length : Int) then ((record_One.f ((rd_T33 x15 x17).f0) ((rd_T33 x15 x17).f1) ((rd_T33 x15 x17).f2) ((rd_T33 x15 x17).f3) ((rd_T33 x15 x17).f4) ((rd_T33 x1 x17).f0) ((rd_T33 x1 x17).f1) ((rd_T33 x1 x17).f2) ((rd_T33 x1 x17).f3) ((rd_T33 x1 x17).f4)).bind fun t226 => (if t226 = true then (api_RR.l0 k x1 x15 x16 (wrap64 (x17 + 1))) else (some false))) else (none)) else (none)) else (none)) else (some true)
noncomputable def api_RR.f (k : Nat) (l0 : List (S33)) (l1 : List (S33)) (a2 : Int) : Option (Bool) := if (l0.length : Int) = (l1.length : Int) then (api_RR.l0 k l1 l0 (l0.length : Int) 0) else (some false)
set_option maxHeartbeats 8000000 in
set_option maxRecDepth 100000 in
theorem api_RR.calls (k : Nat) (A0 : Option Addr) (c0 : Nat) (l0 : List (S33)) (A1 : Option Addr) (c1 : Nat) (l1 : List (S33)) (a2 : Int) (r : Bool) (w : World) (hr0 : Kd.C k33 w A0 l0.length l0) (hc0 : l0.length ≤ c0) (hr1 : Kd.C k33 w A1 l1.length l1) (hc1 : l1.length ≤ c1) (h : api_RR.f k l0 l1 a2 = some r) :
    Calls Try.prog 56 #[.slice A0 l0.length c0, .slice A1 l1.length c1, .func (.func 57) #[] #[]] w fun e w' => e = .returned (.bool r) ∧ Below w.heap.size w w' := by
  have hu33 := Try.underlying33
  have HR0 := Aside0.mk hr0
  have HC0 := Aside0.mk hc0
  clear hr0 hc0
  have HR1 := Aside0.mk hr1
  have HC1 := Aside0.mk hc1
  clear hr1 hc1
  have HB := Aside0.mk (Below.refl w.heap.size w)
  have H : (if (l0.length : Int) = (l1.length : Int) then (api_RR.l0 k l1 l0 (l0.length : Int) 0) else (some false)) = some r := h
  clear h
  by_cases c4 : (l0.length : Int) = (l1.length : Int)
  ·rw [if_pos c4] at H
   have c4b0 : ((l0.length : Int) == (l1.length : Int)) = true := beq_iff_eq.mpr c4
   have c4b1 : ((l0.length : Int) != (l1.length : Int)) = false := bne_eq_false_iff_eq.mpr c4
   have c4b2 : (l0.length == l1.length) = true := by (simp at c4 ⊢; omega)
   clear c4
   have H' := Aside0.mk H
   clear H
   go_enter Try.func56, Try.ntmps56
   go_wp2
   go_loopg [17] k (fun kq v17 w' => ∃ (x17_1 : Int), v17 = .int .i64 x17_1 ∧ Aside0 (api_RR.l0 kq l1 l0 (l0.length : Int) x17_1 = some r) ∧ Aside0 (kq ≤ k) ∧ Aside0 (Below w.heap.size w w'))
   case atStart => exact ⟨(0), (by rfl), H', ⟨Nat.le_refl _⟩, ⟨HB.out⟩⟩
   case round =>
    clear H'
    (try clear c4b0)
    (try clear c4b1)
    (try clear c4b2)
    obtain ⟨x17_1, rfl, HA, HK1, HB⟩ := hrel
    cases gk with
    | zero => exact absurd HA.out (by simp [api_RR.l0])
    | succ k1 =>
     have H := HA.out
     clear HA
     simp only [api_RR.l0] at H
     by_cases c5 : x17_1 < (l0.length : Int)
     ·rw [if_pos c5] at H
      have c5b0 : decide (x17_1 < (l0.length : Int)) = true := decide_eq_true c5
      clear c5
      obtain ⟨c6b0, H⟩ := gdd_ H
      obtain ⟨c7b0, H⟩ := gdd_ H
      obtain ⟨c8b0, H⟩ := gdd_ H
      obtain ⟨t226, A9, H⟩ := bnd_ H
      by_cases c10 : t226 = true
      focus
       subst c10
       rw [if_pos rfl] at H
       have H' := Aside0.mk H
       clear H
      rotate_left
      focus
       replace c10 := Bool.eq_false_iff.mpr c10
       subst c10
       rw [if_neg ff_] at H
       obtain rfl := Option.some.inj H
      rotate_left
      all_goals
       have p222 : 0 ≤ (x17_1 : Int) := of_decide_eq_true (by assumption)
       have q222 : x17_1 < (l0.length : Int) := of_decide_eq_true (by assumption)
       obtain ⟨ad222, e222, hx222_0, hx222_1, hx222_2, hx222_3, hx222_4⟩ := at_T33 HR0.out x17_1 p222 q222
       cases e222
       replace hx222_0 := kp_ HB.out hx222_0
       replace hx222_1 := kp_ HB.out hx222_1
       replace hx222_2 := kp_ HB.out hx222_2
       replace hx222_3 := kp_ HB.out hx222_3
       replace hx222_4 := kp_ HB.out hx222_4
       replace p222 := eq_true p222
       replace q222 := eq_true q222
       go_wp2_with (first | ((with_reducible refine gate_dst (N := 8) rfl ?_); refine box_event ?hg (N := 8) ?hd (cs := #[.string (⟨#[]⟩ : ByteArray), .int .i64 0, .int .i64 0, .int .i64 0, .string (⟨#[]⟩ : ByteArray)]) (t := 33) ?hr ?_; (case hd => rfl); (case hg => rfl); (case hr => (go_simp; done)); intro gb223 hg w11 hbox hb; have BK223 := Aside0.mk (hbox); have GW223 := Aside0.mk (ge_ hg (below_size HB.out)); have GE223 := Aside0.mk (ge_ hg (below_size HB.out)); replace HB := Aside0.mk (below_step HB.out hb); clear hb hbox hg; obtain ⟨hcz12_0, hcz12_1, hcz12_2, hcz12_3, hcz12_4, hfz12_0, hfz12_1, hfz12_2, hfz12_3, hfz12_4⟩ := z5_ BK223.out; have p224 : 0 ≤ (x17_1 : Int) := of_decide_eq_true (by assumption); have q224 : x17_1 < (l1.length : Int) := of_decide_eq_true (by assumption); obtain ⟨ad224, e224, hx224_0, hx224_1, hx224_2, hx224_3, hx224_4⟩ := at_T33 HR1.out x17_1 p224 q224; cases e224; have hn224_0 : ad224.block ≠ gb223 := Nat.ne_of_lt (Nat.lt_of_lt_of_le (by have := World.block_lt_of_cell? _ _ hx224_0; (rwa [add_block] at this)) GW223.out); have hn224_1 : ad224.block ≠ gb223 := Nat.ne_of_lt (Nat.lt_of_lt_of_le (by have := World.block_lt_of_cell? _ _ hx224_0; (rwa [add_block] at this)) GW223.out); have hn224_2 : ad224.block ≠ gb223 := Nat.ne_of_lt (Nat.lt_of_lt_of_le (by have := World.block_lt_of_cell? _ _ hx224_0; (rwa [add_block] at this)) GW223.out); have hn224_3 : ad224.block ≠ gb223 := Nat.ne_of_lt (Nat.lt_of_lt_of_le (by have := World.block_lt_of_cell? _ _ hx224_0; (rwa [add_block] at this)) GW223.out); have hn224_4 : ad224.block ≠ gb223 := Nat.ne_of_lt (Nat.lt_of_lt_of_le (by have := World.block_lt_of_cell? _ _ hx224_0; (rwa [add_block] at this)) GW223.out); replace hx224_0 := kp_ HB.out hx224_0; replace hx224_1 := kp_ HB.out hx224_1; replace hx224_2 := kp_ HB.out hx224_2; replace hx224_3 := kp_ HB.out hx224_3; replace hx224_4 := kp_ HB.out hx224_4; replace hx224_0 := (cell_far (p := ⟨gb223, 0, none⟩) (by (rw [add_block]; exact hn224_0)) (.string ((rd_T33 l0 x17_1).f0))).trans hx224_0; replace hx224_1 := (cell_far (p := ⟨gb223, 0, none⟩) (by (rw [add_block]; exact hn224_0)) (.string ((rd_T33 l0 x17_1).f0))).trans hx224_1; replace hx224_2 := (cell_far (p := ⟨gb223, 0, none⟩) (by (rw [add_block]; exact hn224_0)) (.string ((rd_T33 l0 x17_1).f0))).trans hx224_2; replace hx224_3 := (cell_far (p := ⟨gb223, 0, none⟩) (by (rw [add_block]; exact hn224_0)) (.string ((rd_T33 l0 x17_1).f0))).trans hx224_3; replace hx224_4 := (cell_far (p := ⟨gb223, 0, none⟩) (by (rw [add_block]; exact hn224_0)) (.string ((rd_T33 l0 x17_1).f0))).trans hx224_4; replace hx224_0 := (cell_far (p := ⟨gb223, 1, none⟩) (by (rw [add_block]; exact hn224_1)) (.int .i64 ((rd_T33 l0 x17_1).f1))).trans hx224_0; replace hx224_1 := (cell_far (p := ⟨gb223, 1, none⟩) (by (rw [add_block]; exact hn224_1)) (.int .i64 ((rd_T33 l0 x17_1).f1))).trans hx224_1; replace hx224_2 := (cell_far (p := ⟨gb223, 1, none⟩) (by (rw [add_block]; exact hn224_1)) (.int .i64 ((rd_T33 l0 x17_1).f1))).trans hx224_2; replace hx224_3 := (cell_far (p := ⟨gb223, 1, none⟩) (by (rw [add_block]; exact hn224_1)) (.int .i64 ((rd_T33 l0 x17_1).f1))).trans hx224_3; replace hx224_4 := (cell_far (p := ⟨gb223, 1, none⟩) (by (rw [add_block]; exact hn224_1)) (.int .i64 ((rd_T33 l0 x17_1).f1))).trans hx224_4; replace hx224_0 := (cell_far (p := ⟨gb223, 2, none⟩) (by (rw [add_block]; exact hn224_2)) (.int .i64 ((rd_T33 l0 x17_1).f2))).trans hx224_0; replace hx224_1 := (cell_far (p := ⟨gb223, 2, none⟩) (by (rw [add_block]; exact hn224_2)) (.int .i64 ((rd_T33 l0 x17_1).f2))).trans hx224_1; replace hx224_2 := (cell_far (p := ⟨gb223, 2, none⟩) (by (rw [add_block]; exact hn224_2)) (.int .i64 ((rd_T33 l0 x17_1).f2))).trans hx224_2; replace hx224_3 := (cell_far (p := ⟨gb223, 2, none⟩) (by (rw [add_block]; exact hn224_2)) (.int .i64 ((rd_T33 l0 x17_1).f2))).trans hx224_3; replace hx224_4 := (cell_far (p := ⟨gb223, 2, none⟩) (by (rw [add_block]; exact hn224_2)) (.int .i64 ((rd_T33 l0 x17_1).f2))).trans hx224_4; replace hx224_0 := (cell_far (p := ⟨gb223, 3, none⟩) (by (rw [add_block]; exact hn224_3)) (.int .i64 ((rd_T33 l0 x17_1).f3))).trans hx224_0; replace hx224_1 := (cell_far (p := ⟨gb223, 3, none⟩) (by (rw [add_block]; exact hn224_3)) (.int .i64 ((rd_T33 l0 x17_1).f3))).trans hx224_1; replace hx224_2 := (cell_far (p := ⟨gb223, 3, none⟩) (by (rw [add_block]; exact hn224_3)) (.int .i64 ((rd_T33 l0 x17_1).f3))).trans hx224_2; replace hx224_3 := (cell_far (p := ⟨gb223, 3, none⟩) (by (rw [add_block]; exact hn224_3)) (.int .i64 ((rd_T33 l0 x17_1).f3))).trans hx224_3; replace hx224_4 := (cell_far (p := ⟨gb223, 3, none⟩) (by (rw [add_block]; exact hn224_3)) (.int .i64 ((rd_T33 l0 x17_1).f3))).trans hx224_4; replace hx224_0 := (cell_far (p := ⟨gb223, 4, none⟩) (by (rw [add_block]; exact hn224_4)) (.string ((rd_T33 l0 x17_1).f4))).trans hx224_0; replace hx224_1 := (cell_far (p := ⟨gb223, 4, none⟩) (by (rw [add_block]; exact hn224_4)) (.string ((rd_T33 l0 x17_1).f4))).trans hx224_1; replace hx224_2 := (cell_far (p := ⟨gb223, 4, none⟩) (by (rw [add_block]; exact hn224_4)) (.string ((rd_T33 l0 x17_1).f4))).trans hx224_2; replace hx224_3 := (cell_far (p := ⟨gb223, 4, none⟩) (by (rw [add_block]; exact hn224_4)) (.string ((rd_T33 l0 x17_1).f4))).trans hx224_3; replace hx224_4 := (cell_far (p := ⟨gb223, 4, none⟩) (by (rw [add_block]; exact hn224_4)) (.string ((rd_T33 l0 x17_1).f4))).trans hx224_4; clear hn224_0; clear hn224_1; clear hn224_2; clear hn224_3; clear hn224_4; replace p224 := eq_true p224; replace q224 := eq_true q224) | ((with_reducible refine gate_dst (N := 9) rfl ?_); refine box_event ?hg (N := 9) ?hd (cs := #[.string (⟨#[]⟩ : ByteArray), .int .i64 0, .int .i64 0, .int .i64 0, .string (⟨#[]⟩ : ByteArray)]) (t := 33) ?hr ?_; (case hd => rfl); (case hg => rfl); (case hr => (go_simp; done)); intro gb225 hg w13 hbox hb; have BK225 := Aside0.mk (hbox); have GW225 := Aside0.mk ((by rw [hg]; exact (below_size (by repeat ((with_reducible first | exact HB.out | refine below_set ?_ GE223.out)))) : w.heap.size ≤ gb225)); have GE225 := Aside0.mk ((by rw [hg]; exact (below_size (by repeat ((with_reducible first | exact HB.out | refine below_set ?_ GE223.out)))) : w.heap.size ≤ gb225)); have NB223_225 := Aside0.mk ((by rw [hg]; exact Nat.ne_of_lt (blk_lt (g := gb223) (o := .cells #[.string ((rd_T33 l0 x17_1).f0), .int .i64 ((rd_T33 l0 x17_1).f1), .int .i64 ((rd_T33 l0 x17_1).f2), .int .i64 ((rd_T33 l0 x17_1).f3), .string ((rd_T33 l0 x17_1).f4)] 33 (0, 0)) (by (with_reducible repeat ((refine blk_drewN ?_ _))); refine blk_put (cs := #[.string ((rd_T33 l0 x17_1).f0), .int .i64 ((rd_T33 l0 x17_1).f1), .int .i64 ((rd_T33 l0 x17_1).f2), .int .i64 ((rd_T33 l0 x17_1).f3), .string (⟨#[]⟩ : ByteArray)]) ?_ 4 _ rfl; (with_reducible repeat ((refine blk_drewN ?_ _))); refine blk_put (cs := #[.string ((rd_T33 l0 x17_1).f0), .int .i64 ((rd_T33 l0 x17_1).f1), .int .i64 ((rd_T33 l0 x17_1).f2), .int .i64 0, .string (⟨#[]⟩ : ByteArray)]) ?_ 3 _ rfl; (with_reducible repeat ((refine blk_drewN ?_ _))); refine blk_put (cs := #[.string ((rd_T33 l0 x17_1).f0), .int .i64 ((rd_T33 l0 x17_1).f1), .int .i64 0, .int .i64 0, .string (⟨#[]⟩ : ByteArray)]) ?_ 2 _ rfl; (with_reducible repeat ((refine blk_drewN ?_ _))); refine blk_put (cs := #[.string ((rd_T33 l0 x17_1).f0), .int .i64 0, .int .i64 0, .int .i64 0, .string (⟨#[]⟩ : ByteArray)]) ?_ 1 _ rfl; (with_reducible repeat ((refine blk_drewN ?_ _))); refine blk_put (cs := #[.string (⟨#[]⟩ : ByteArray), .int .i64 0, .int .i64 0, .int .i64 0, .string (⟨#[]⟩ : ByteArray)]) ?_ 0 _ rfl; (with_reducible repeat ((refine blk_drewN ?_ _))); exact BK223.out)) : gb223 ≠ gb225)); have NB225_223 := Aside0.mk ((by rw [hg]; exact Nat.ne_of_gt (blk_lt (g := gb223) (o := .cells #[.string ((rd_T33 l0 x17_1).f0), .int .i64 ((rd_T33 l0 x17_1).f1), .int .i64 ((rd_T33 l0 x17_1).f2), .int .i64 ((rd_T33 l0 x17_1).f3), .string ((rd_T33 l0 x17_1).f4)] 33 (0, 0)) (by (with_reducible repeat ((refine blk_drewN ?_ _))); refine blk_put (cs := #[.string ((rd_T33 l0 x17_1).f0), .int .i64 ((rd_T33 l0 x17_1).f1), .int .i64 ((rd_T33 l0 x17_1).f2), .int .i64 ((rd_T33 l0 x17_1).f3), .string (⟨#[]⟩ : ByteArray)]) ?_ 4 _ rfl; (with_reducible repeat ((refine blk_drewN ?_ _))); refine blk_put (cs := #[.string ((rd_T33 l0 x17_1).f0), .int .i64 ((rd_T33 l0 x17_1).f1), .int .i64 ((rd_T33 l0 x17_1).f2), .int .i64 0, .string (⟨#[]⟩ : ByteArray)]) ?_ 3 _ rfl; (with_reducible repeat ((refine blk_drewN ?_ _))); refine blk_put (cs := #[.string ((rd_T33 l0 x17_1).f0), .int .i64 ((rd_T33 l0 x17_1).f1), .int .i64 0, .int .i64 0, .string (⟨#[]⟩ : ByteArray)]) ?_ 2 _ rfl; (with_reducible repeat ((refine blk_drewN ?_ _))); refine blk_put (cs := #[.string ((rd_T33 l0 x17_1).f0), .int .i64 0, .int .i64 0, .int .i64 0, .string (⟨#[]⟩ : ByteArray)]) ?_ 1 _ rfl; (with_reducible repeat ((refine blk_drewN ?_ _))); refine blk_put (cs := #[.string (⟨#[]⟩ : ByteArray), .int .i64 0, .int .i64 0, .int .i64 0, .string (⟨#[]⟩ : ByteArray)]) ?_ 0 _ rfl; (with_reducible repeat ((refine blk_drewN ?_ _))); exact BK223.out)) : gb225 ≠ gb223)); replace BK223 := Aside0.mk (blk_below (g := gb223) (o := .cells #[.string ((rd_T33 l0 x17_1).f0), .int .i64 ((rd_T33 l0 x17_1).f1), .int .i64 ((rd_T33 l0 x17_1).f2), .int .i64 ((rd_T33 l0 x17_1).f3), .string ((rd_T33 l0 x17_1).f4)] 33 (0, 0)) (by (with_reducible repeat ((refine blk_drewN ?_ _))); refine blk_put (cs := #[.string ((rd_T33 l0 x17_1).f0), .int .i64 ((rd_T33 l0 x17_1).f1), .int .i64 ((rd_T33 l0 x17_1).f2), .int .i64 ((rd_T33 l0 x17_1).f3), .string (⟨#[]⟩ : ByteArray)]) ?_ 4 _ rfl; (with_reducible repeat ((refine blk_drewN ?_ _))); refine blk_put (cs := #[.string ((rd_T33 l0 x17_1).f0), .int .i64 ((rd_T33 l0 x17_1).f1), .int .i64 ((rd_T33 l0 x17_1).f2), .int .i64 0, .string (⟨#[]⟩ : ByteArray)]) ?_ 3 _ rfl; (with_reducible repeat ((refine blk_drewN ?_ _))); refine blk_put (cs := #[.string ((rd_T33 l0 x17_1).f0), .int .i64 ((rd_T33 l0 x17_1).f1), .int .i64 0, .int .i64 0, .string (⟨#[]⟩ : ByteArray)]) ?_ 2 _ rfl; (with_reducible repeat ((refine blk_drewN ?_ _))); refine blk_put (cs := #[.string ((rd_T33 l0 x17_1).f0), .int .i64 0, .int .i64 0, .int .i64 0, .string (⟨#[]⟩ : ByteArray)]) ?_ 1 _ rfl; (with_reducible repeat ((refine blk_drewN ?_ _))); refine blk_put (cs := #[.string (⟨#[]⟩ : ByteArray), .int .i64 0, .int .i64 0, .int .i64 0, .string (⟨#[]⟩ : ByteArray)]) ?_ 0 _ rfl; (with_reducible repeat ((refine blk_drewN ?_ _))); exact BK223.out) hb); replace HB := Aside0.mk (below_step (by repeat ((with_reducible first | exact HB.out | refine below_set ?_ GE223.out))) hb); clear hb hbox hg; have hnb14 := NB225_223.out; have hnc14 := NB223_225.out; obtain ⟨hcz15_0, hcz15_1, hcz15_2, hcz15_3, hcz15_4, hfz15_0, hfz15_1, hfz15_2, hfz15_3, hfz15_4⟩ := z5_ BK225.out; obtain ⟨hcz16_0, hcz16_1, hcz16_2, hcz16_3, hcz16_4, hfz16_0, hfz16_1, hfz16_2, hfz16_3, hfz16_4⟩ := z5_ BK223.out) | ((with_reducible refine gate_calleeT rfl ?_); refine goesLT_ (some 29) rfl rfl Try.func57 (by kernel_rfl) rfl #[.agg #[.string ((rd_T33 l0 x17_1).f0), .int .i64 ((rd_T33 l0 x17_1).f1), .int .i64 ((rd_T33 l0 x17_1).f2), .int .i64 ((rd_T33 l0 x17_1).f3), .string ((rd_T33 l0 x17_1).f4)], .agg #[.string ((rd_T33 l1 x17_1).f0), .int .i64 ((rd_T33 l1 x17_1).f1), .int .i64 ((rd_T33 l1 x17_1).f2), .int .i64 ((rd_T33 l1 x17_1).f3), .string ((rd_T33 l1 x17_1).f4)]] rfl rfl (by (try simp only [mA_, mC_, mN_]); rfl) ?_; (with_reducible refine (record_One.calls ((rd_T33 l0 x17_1).f0) ((rd_T33 l0 x17_1).f1) ((rd_T33 l0 x17_1).f2) ((rd_T33 l0 x17_1).f3) ((rd_T33 l0 x17_1).f4) ((rd_T33 l1 x17_1).f0) ((rd_T33 l1 x17_1).f1) ((rd_T33 l1 x17_1).f2) ((rd_T33 l1 x17_1).f3) ((rd_T33 l1 x17_1).f4) _ _ A9.out).mono ?_); rintro e w17 ⟨rfl, hb⟩; refine ⟨_, rfl, ?_⟩; replace BK223 := Aside0.mk (blk_below (g := gb223) (o := .cells #[.string ((rd_T33 l0 x17_1).f0), .int .i64 ((rd_T33 l0 x17_1).f1), .int .i64 ((rd_T33 l0 x17_1).f2), .int .i64 ((rd_T33 l0 x17_1).f3), .string ((rd_T33 l0 x17_1).f4)] 33 (0, 0)) (by (with_reducible repeat ((refine blk_drewN ?_ _))); refine blk_far ?_ NB223_225.out _; (with_reducible repeat ((refine blk_drewN ?_ _))); refine blk_far ?_ NB223_225.out _; (with_reducible repeat ((refine blk_drewN ?_ _))); refine blk_far ?_ NB223_225.out _; (with_reducible repeat ((refine blk_drewN ?_ _))); refine blk_far ?_ NB223_225.out _; (with_reducible repeat ((refine blk_drewN ?_ _))); refine blk_far ?_ NB223_225.out _; (with_reducible repeat ((refine blk_drewN ?_ _))); exact BK223.out) hb); replace BK225 := Aside0.mk (blk_below (g := gb225) (o := .cells #[.string ((rd_T33 l1 x17_1).f0), .int .i64 ((rd_T33 l1 x17_1).f1), .int .i64 ((rd_T33 l1 x17_1).f2), .int .i64 ((rd_T33 l1 x17_1).f3), .string ((rd_T33 l1 x17_1).f4)] 33 (0, 0)) (by (with_reducible repeat ((refine blk_drewN ?_ _))); refine blk_put (cs := #[.string ((rd_T33 l1 x17_1).f0), .int .i64 ((rd_T33 l1 x17_1).f1), .int .i64 ((rd_T33 l1 x17_1).f2), .int .i64 ((rd_T33 l1 x17_1).f3), .string (⟨#[]⟩ : ByteArray)]) ?_ 4 _ rfl; (with_reducible repeat ((refine blk_drewN ?_ _))); refine blk_put (cs := #[.string ((rd_T33 l1 x17_1).f0), .int .i64 ((rd_T33 l1 x17_1).f1), .int .i64 ((rd_T33 l1 x17_1).f2), .int .i64 0, .string (⟨#[]⟩ : ByteArray)]) ?_ 3 _ rfl; (with_reducible repeat ((refine blk_drewN ?_ _))); refine blk_put (cs := #[.string ((rd_T33 l1 x17_1).f0), .int .i64 ((rd_T33 l1 x17_1).f1), .int .i64 0, .int .i64 0, .string (⟨#[]⟩ : ByteArray)]) ?_ 2 _ rfl; (with_reducible repeat ((refine blk_drewN ?_ _))); refine blk_put (cs := #[.string ((rd_T33 l1 x17_1).f0), .int .i64 0, .int .i64 0, .int .i64 0, .string (⟨#[]⟩ : ByteArray)]) ?_ 1 _ rfl; (with_reducible repeat ((refine blk_drewN ?_ _))); refine blk_put (cs := #[.string (⟨#[]⟩ : ByteArray), .int .i64 0, .int .i64 0, .int .i64 0, .string (⟨#[]⟩ : ByteArray)]) ?_ 0 _ rfl; (with_reducible repeat ((refine blk_drewN ?_ _))); exact BK225.out) hb); replace HB := Aside0.mk (below_step (by repeat ((with_reducible first | exact HB.out | refine below_set ?_ GE225.out))) hb); (try clear hb)))
      ·go_roundg k1
       case measure => have := HK1.out; omega
       case rel => exact ⟨(wrap64 (x17_1 + 1)), (by rfl), H', ⟨by have := HK1.out; omega⟩, ⟨HB.out⟩⟩
      ·go_ret
       exact ⟨by rfl, HB.out⟩
     ·rw [if_neg c5] at H
      have c5b0 : decide (x17_1 < (l0.length : Int)) = false := decide_eq_false c5
      clear c5
      obtain rfl := Option.some.inj H
      go_wp2
      go_ret
      exact ⟨by rfl, HB.out⟩
  ·rw [if_neg c4] at H
   have c4b0 : ((l0.length : Int) == (l1.length : Int)) = false := beq_eq_false_iff_ne.mpr c4
   have c4b1 : ((l0.length : Int) != (l1.length : Int)) = true := bne_iff_ne.mpr c4
   have c4b2 : (l0.length == l1.length) = false := by (simp at c4 ⊢; omega)
   obtain rfl := Option.some.inj H
   go_enter Try.func56, Try.ntmps56
   go_wp2
   go_ret
   exact ⟨by rfl, HB.out⟩
noncomputable def prereq_equal.f (k : Nat) (l0 : List (S33)) (l1 : List (S33)) : Option (Bool) := (rrset_Of.f l0).bind fun t227 => ((rrset_Of.f l1).bind fun t230 => ((api_RR.f k t227 t230 7770094).bind fun t233 => (some t233)))
set_option maxHeartbeats 8000000 in
set_option maxRecDepth 100000 in
theorem prereq_equal.calls (k : Nat) (A0 : Option Addr) (c0 : Nat) (l0 : List (S33)) (A1 : Option Addr) (c1 : Nat) (l1 : List (S33)) (r : Bool) (w : World) (hr0 : Kd.C k33 w A0 l0.length l0) (hc0 : l0.length ≤ c0) (hr1 : Kd.C k33 w A1 l1.length l1) (hc1 : l1.length ≤ c1) (h : prereq_equal.f k l0 l1 = some r) :
  Calls Try.prog 35 #[.slice A0 l0.length c0, .slice A1 l1.length c1] w fun e w' => e = .returned (.bool r) ∧ Below w.heap.size w w' := by
 have HR0 := Aside0.mk hr0
 have HC0 := Aside0.mk hc0
 clear hr0 hc0
 have HR1 := Aside0.mk hr1
 have HC1 := Aside0.mk hc1
 clear hr1 hc1
 have HB := Aside0.mk (Below.refl w.heap.size w)
 have H : ((rrset_Of.f l0).bind fun t227 => ((rrset_Of.f l1).bind fun t230 => ((api_RR.f k t227 t230 7770094).bind fun t233 => (some t233)))) = some r := h
 clear h
 obtain ⟨t227, A3, H⟩ := bnd_ H
 obtain ⟨t230, A4, H⟩ := bnd_ H
 obtain ⟨t233, A5, H⟩ := bnd_ H
 obtain rfl := Option.some.inj H
 go_enter Try.func35, Try.ntmps35
 go_wp2_with (first | ((with_reducible refine gate_callee (f := 24) rfl ?_); refine goesL_ (some 6) rfl rfl Try.func24 (by kernel_rfl) rfl #[.slice A0 l0.length c0] rfl (by (try simp only [mA_, mC_, mN_]); rfl) ?_; (with_reducible refine (rrset_Of.calls _ _ l0 t227 _ ?side1 ?side2 A3.out).mono ?_); (case side1 => repeat ((exact HR0.out))); (case side2 => exact HC0.out); rintro e w6 ⟨v228, rfl, ho0, hb⟩; refine ⟨_, rfl, ?_⟩; have HO229 := Aside0.mk (Kd.R_lower ho0 (below_size HB.out)); replace HB := Aside0.mk (below_step HB.out hb); (try clear hb); (try clear ho0)) | ((with_reducible refine gate_callee (f := 24) rfl ?_); refine goesL_ (some 8) rfl rfl Try.func24 (by kernel_rfl) rfl #[.slice A1 l1.length c1] rfl (by (try simp only [mA_, mC_, mN_]); rfl) ?_; (with_reducible refine (rrset_Of.calls _ _ l1 t230 _ ?side1 ?side2 A4.out).mono ?_); (case side1 => repeat ((exact (Kd.C_below HR1.out HB.out)))); (case side2 => exact HC1.out); rintro e w7 ⟨v231, rfl, ho0, hb⟩; refine ⟨_, rfl, ?_⟩; have HO232 := Aside0.mk (Kd.R_lower (Kd.R_new' ho0 (Kd.R_lt (by ((exact HO229.out))))) (below_size HB.out)); replace HO229 := Aside0.mk (Kd.R_elder' (by ((exact HO229.out))) (Kd.R_base ho0) hb); replace HB := Aside0.mk (below_step HB.out hb); (try clear hb); (try clear ho0); obtain ⟨Ao8, co8, eo8⟩ := Kd.R_slice HO229.out; subst eo8; obtain ⟨Ao9, co9, eo9⟩ := Kd.R_slice HO232.out; subst eo9) | ((with_reducible refine gate_callee (f := 56) rfl ?_); refine goesL_ (some 9) rfl rfl Try.func56 (by kernel_rfl) rfl #[.slice Ao8 t227.length co8, .slice Ao9 t230.length co9, .func (.func 57) #[] #[]] rfl (by (try simp only [mA_, mC_, mN_]); rfl) ?_; (with_reducible refine (api_RR.calls k _ _ t227 _ _ t230 7770094 t233 _ ?side1 ?side2 ?side3 ?side4 A5.out).mono ?_); (case side1 => repeat ((exact (Kd.R_reads' HO229.out).2.2))); (case side2 => exact (Kd.R_reads' HO229.out).2.1); (case side3 => repeat ((exact (Kd.R_reads' HO232.out).2.2))); (case side4 => exact (Kd.R_reads' HO232.out).2.1); rintro e w10 ⟨rfl, hb⟩; refine ⟨_, rfl, ?_⟩; replace HO229 := Aside0.mk (Kd.R_below (by ((exact HO229.out))) hb); replace HO232 := Aside0.mk (Kd.R_below (by ((exact HO232.out))) hb); replace HB := Aside0.mk (below_step HB.out hb); (try clear hb)))
 go_ret
 exact ⟨by rfl, HB.out⟩
end Go.Proofs.Ytehdkopjgcoclaa.PZh
