/- Joined out of this session's own texts: contracts and facts that the claim's row is drawn from, each with its own conditions. -/
import Derived.Test.YtehdkopjgcoclaaJoined4
import Derived.Deep.QuietTactic
import Derived.BigQuiet
import Derived.StillTailTactics
import Derived.Deep.LoopGhost
import Derived.Outline
import Derived.Test.YtehdkopjgcoclaaProg
import Derived.Below
import Derived.Deep.Draws
import Derived.Deep.AppendLies
import Derived.Maps.AppendAt
import Derived.OwnWalk
import Derived.Laws.BytesArg
import Derived.Laws.MakeOwn
import Derived.Laws.OwnMore
import Derived.Deep.OwnRows
import Derived.Tactics
import Derived.Lib.ConvBytes
import Derived.Laws.Slices
import Derived.WalkKit
import Derived.KernelRfl
import Derived.RowKit3
import Derived.WideLaws
import Derived.Deep.DeepCutAuto
import Derived.Deep.CutBlock
import Derived.Deep.RegionHeld3
import Derived.Laws.Rows
import Derived.Lib.AppendStr
import Derived.ArgAppend
import Derived.Laws.IdiomCopy
import Derived.OrdersHeld
import Derived.Laws.BitsLemmas
import Derived.RowKit
namespace Go.Proofs.Ytehdkopjgcoclaa.Rrs
open Go.RowKit Go.Proofs.YtehdkopjgcoclaaW.PrintWords Go.Proofs.YtehdkopjgcoclaaW.PrintLast Go.Proofs.YtehdkopjgcoclaaW.PrintMore Go.Proofs.Ytehdkopjgcoclaa.Given Go.Proofs.Ytehdkopjgcoclaa.PRd Go.Proofs.Ytehdkopjgcoclaa.PRr Go.Proofs.Ytehdkopjgcoclaa.PSo
set_option linter.unusedVariables false
set_option linter.unusedSimpArgs false
def compG {α : Type} (e : α → α → Bool) : α → List α → List α
  | _, [] => []
  | a, b :: l => if e b a = true then compG e b l else b :: compG e b l
def comp {α : Type} (e : α → α → Bool) : List α → List α
  | [] => []
  | a :: l => a :: compG e a l
theorem compG_snoc {α : Type} (e : α → α → Bool) (x : α) : ∀ (l : List α) (a : α), compG e a (l ++ [x]) = compG e a l ++ (if e x (l.getLastD a) = true then [] else [x])
  | [], a => by
    simp only [List.nil_append, compG, List.getLastD_nil]
    rfl
  | b :: l, a => by
    have ih := compG_snoc e x l b
    simp only [List.cons_append, compG, List.getLastD_cons]
    rw [ih]
    split <;> simp
theorem comp_take {α : Type} (e : α → α → Bool) (l : List α) (t : Nat) (ht : t + 1 < l.length) : comp e (l.take (t + 2)) = comp e (l.take (t + 1)) ++ (if e l[t + 1] l[t] = true then [] else [l[t + 1]]) := by
  cases l with
  | nil => simp at ht
  | cons a l =>
    have h1 : t < l.length := by simpa using ht
    have e1 : l.take (t + 1) = l.take t ++ [l[t]] := by rw [List.take_succ_eq_append_getElem h1]
    have e2 : (l.take t).getLastD a = (a :: l)[t]'(by simp; omega) := by
      cases t with
      | zero => rfl
      | succ t =>
        rw [List.take_succ_eq_append_getElem (show t < l.length by omega), List.getLastD_concat]
        rfl
    rw [List.take_succ_cons, List.take_succ_cons, comp, comp, e1, compG_snoc, List.cons_append, e2]
    rfl
theorem comp_same {α : Type} (e : α → α → Bool) (l : List α) : ∀ t, t ≤ l.length → (∀ j (hj : j + 1 < l.length), j + 1 < t → e l[j + 1] l[j] = false) → comp e (l.take t) = l.take t := by
  intro t
  induction t with
  | zero => intro _ _; rw [List.take_zero]; rfl
  | succ t ih =>
    intro ht h
    cases t with
    | zero =>
      cases l with
      | nil => simp at ht
      | cons a l => rfl
    | succ t =>
      rw [comp_take e l t (by omega), ih (by omega) (fun j hj h1 => h j hj (by omega)), h t (by omega) (by omega)]
      simp only [Bool.false_eq_true, if_false]
      rw [List.take_succ_eq_append_getElem (show t + 1 < l.length by omega)]
theorem set_at_ {α : Type} (p s : List α) (x y : α) : (p ++ x :: s).set p.length y = p ++ y :: s := by
  rw [List.set_append_right _ _ (Nat.le_refl _), Nat.sub_self, List.set_cons_zero]
theorem Row.below {w w' : World} {base g cap : Nat} {l : List RR} {rest : List Value} (h : Row w base g cap l rest) (hb : Below w.heap.size w w') : Row w' base g cap l rest := ⟨blk_below h.blk hb, h.lo, h.fits, h.len⟩
theorem Row.drew {w : World} {base g cap : Nat} {l : List RR} {rest : List Value} (h : Row w base g cap l rest) : Row w.drew base g cap l rest := ⟨blk_drew h.blk, h.lo, h.fits, h.len⟩
theorem zeros_flat (m : Nat) : (Builtin.zeroCells zRR.cells m).toList = flat (List.replicate m (⟨⟨#[]⟩, 0, 0, 0, ⟨#[]⟩⟩ : RR)) := by
  exact reps_flat (R := fun x cs => cs = cellsR x) (fun x cs h => h) _ _ (Kd.reps_zeros (z := zRR) (size := 5) (z0 := (⟨⟨#[]⟩, 0, 0, 0, ⟨#[]⟩⟩ : RR)) rfl (by decide) rfl m)
theorem run_clearN (w : World) (ty : TypeId) (g cap q : Nat) (base : Nat) (l : List RR) (rest : List Value) (h : Row w base g cap l rest) (hq : q < l.length) (cc : Nat) :
    ∃ rest', Row (w.setRow g ((flat l ++ rest).take (q * 5) ++ (Builtin.zeroCells zRR.cells (l.length - q)).toList ++ (flat l ++ rest).drop (q * 5 + (Builtin.zeroCells zRR.cells (l.length - q)).toList.length)).toArray) base g cap (l.take q) rest' ∧
    (Builtin.clear_ #[24] ty #[.slice (some ⟨g, q * 5, none⟩) (l.length - q) cc]).run Try.prog w = .ok (.tuple #[]) (w.setRow g ((flat l ++ rest).take (q * 5) ++ (Builtin.zeroCells zRR.cells (l.length - q)).toList ++ (flat l ++ rest).drop (q * 5 + (Builtin.zeroCells zRR.cells (l.length - q)).toList.length)).toArray) := by
  obtain ⟨i0, hi0, hz0, hzs, hzb⟩ := info_parts_RR
  have hu22 := Try.underlying24
  obtain ⟨zs, hzz⟩ : ∃ zs, (Builtin.zeroCells zRR.cells (l.length - q)).toList = zs := ⟨_, rfl⟩
  have hzl : zs.length = (l.length - q) * 5 := by rw [← hzz, zeros_flat, flat_length, List.length_replicate]
  have hone : ∀ v ∈ zs, v.oneCell' = true := by rw [← hzz, zeros_flat]; exact flat_one _
  have hfl := flat_length l
  have hfit : q * 5 + 0 + zs.length ≤ (flat l ++ rest).toArray.size := by rw [List.size_toArray, List.length_append, hfl]; omega
  have hst := run_storeCells_at Try.prog g (q * 5) tRR zs 0 (flat l ++ rest).toArray w h.blk hfit hone
  rw [hzz]
  have htk : (flat l ++ rest).take (q * 5) = flat (l.take q) := by rw [List.take_append_of_le_length (by rw [hfl]; omega), flat_take l q (by omega)]
  refine ⟨zs ++ (flat l ++ rest).drop (q * 5 + zs.length), ⟨?_, h.lo, h.fits, ?_⟩, ?_⟩
  · rw [setRow_heap _ g _ _ _ _ h.blk, htk, List.append_assoc]
  · have := h.len
    rw [List.length_take, List.length_append, List.length_drop, List.length_append, hfl]; omega
  · have hne : ¬ (l.length - q = 0) := by omega
    obtain ⟨m, hm⟩ : ∃ m, l.length - q = m + 1 := ⟨l.length - q - 1, by omega⟩
    rw [hm] at hzz ⊢
    simp only [Nat.add_zero, List.toList_toArray] at hst
    simp [Builtin.clear_, run_underlying hu22, zeroValue, typeInfo, hi0, hz0, hzz, hst]
theorem eq_calls (k : Nat) (y x : RR) (c : Bool) (w : World) (h : rrset_Of_1.f k y.f0 y.f1 y.f2 y.f3 y.f4 x.f0 x.f1 x.f2 x.f3 x.f4 = some c) :
    Calls Try.prog 46 #[y.v, x.v] w fun e w' => e = .returned (.bool c) ∧ Below w.heap.size w w' := rrset_Of_1.calls k _ _ _ _ _ _ _ _ _ _ c w h
set_option maxHeartbeats 8000000 in
set_option maxRecDepth 100000 in
theorem compact_any (K : Nat) (l : List RR) (e : RR → RR → Bool) (he : ∀ x ∈ l, ∀ y ∈ l, rrset_Of_1.f K x.f0 x.f1 x.f2 x.f3 x.f4 y.f0 y.f1 y.f2 y.f3 y.f4 = some (e x y)) (hn : l.length ≤ 1000000) (h2 : 2 ≤ l.length) (base : Nat) (ok : Nat → Prop) (w0 w : World) (hB : Below base w0 w) (g c : Nat) (rest : List Value) (HO : Row w base g c l rest) (hok : ok g) :
    Calls Try.prog 45 #[.slice (some ⟨g, 0, none⟩) l.length c, .func (.func 46) #[] #[]] w fun en w' => ∃ v', en = .returned v' ∧ Kd.R kRR tRR w' base ok v' (comp e l) ∧ Below base w0 w' := by
  have hu22 := Try.underlying24
  have hu41 := Try.underlying33
  have HE := Lib.hid he
  have HOK := Lib.hid hok
  have HB := Lib.hid hB
  have HR := Lib.hid HO
  have hcf : c ≤ 9223372036854775807 := by have := HO.fits; unfold maxLen at this; exact this
  have hlc : l.length ≤ c := by have := HO.len; omega
  obtain ⟨n, hnn⟩ : ∃ n, l.length = n := ⟨_, rfl⟩
  have HN := Lib.hid hnn
  rw [hnn] at hn h2 hlc ⊢
  clear he hB HO hok hnn
  go_enter Try.func45, Try.ntmps45
  have b0 : ¬ ((n : Int) < 2) := by omega
  go_wp2_with fail
  go_loopg [5] n (fun kx s5 wr => ∃ k : Nat, s5 = .int .i64 (k : Int) ∧ 1 ≤ k ∧ k ≤ n ∧ n - k ≤ kx ∧ Hid (∀ j (hj : j + 1 < l.length), j + 1 < k → e l[j + 1] l[j] = false) ∧ Hid (Below base w0 wr) ∧ Hid (Row wr base g c l rest))
  case atStart => exact ⟨1, rfl, by omega, by omega, by omega, Lib.hid (fun j hj h => by omega), Lib.hid HB.out, Lib.hid HR.out⟩
  case round =>
    clear HB HR
    obtain ⟨k, rfl, hk1, hkn, hkx, HS, HB, HR⟩ := hrel
    by_cases hlt : k < n
    · obtain ⟨j, rfl⟩ : ∃ j, k = j + 1 := ⟨k - 1, by omega⟩
      have p1 : (0 : Int) ≤ ((j + 1 : Nat) : Int) := by omega
      have q1 : ((j + 1 : Nat) : Int) < (l.length : Int) := by rw [HN.out]; omega
      have p2 : (0 : Int) ≤ (j : Int) := by omega
      have q2 : (j : Int) < (l.length : Int) := by rw [HN.out]; omega
      obtain ⟨ad, e1, hx0, hx1, hx2, hx3, hx4⟩ := at_T33 (Kd.R_reads' (HR.out.R (ok := fun _ => True) trivial)).2.2 ((j + 1 : Nat) : Int) p1 q1
      cases e1
      obtain ⟨ad, e1, hy0, hy1, hy2, hy3, hy4⟩ := at_T33 (Kd.R_reads' (HR.out.R (ok := fun _ => True) trivial)).2.2 (j : Int) p2 q2
      cases e1
      rw [Int.toNat_natCast] at hx0 hx1 hx2 hx3 hx4 hy0 hy1 hy2 hy3 hy4
      simp only [Addr.add_lit, Nat.zero_add] at hx0 hx1 hx2 hx3 hx4 hy0 hy1 hy2 hy3 hy4
      have hl1 : rdR l ((j + 1 : Nat) : Int) ∈ l := by rw [rdR_get l _ (by rw [HN.out]; exact hlt)]; exact List.getElem_mem _
      have hl0 : rdR l (j : Nat) ∈ l := by rw [rdR_get l _ (by rw [HN.out]; omega)]; exact List.getElem_mem _
      have hcall := eq_calls K (rdR l ((j + 1 : Nat) : Int)) (rdR l (j : Nat)) (e (rdR l ((j + 1 : Nat) : Int)) (rdR l (j : Nat))) wr.drew (HE.out _ hl1 _ hl0)
      have HCALL := Lib.hid hcall
      clear hcall hl1 hl0 p1 q1 p2 q2
      have g1 : ((j + 1 : Nat) : Int) = (j : Int) + 1 := by omega
      have g2 : (j : Int) + 1 < (n : Int) := by omega
      have g3 : (0 : Int) ≤ (j : Int) := by omega
      have g4 : (j : Int) < (n : Int) := by omega
      have g5 : (0 : Int) ≤ (j : Int) + 1 := by omega
      have g6 : ((j : Int) + 1).toNat = j + 1 := by omega
      have g7 : (j : Int) + 1 - 1 = (j : Int) := by omega
      have hw0 : IntKind.i64.wrap (j : Int) = (j : Int) := by rw [IntKind.wrap_i64]; omega
      have hw1 : IntKind.i64.wrap ((j : Int) + 1) = (j : Int) + 1 := by rw [IntKind.wrap_i64]; omega
      have hw2 : IntKind.i64.wrap ((j : Int) + 1 + 1) = (j : Int) + 1 + 1 := by rw [IntKind.wrap_i64]; omega
      rw [g1]
      clear g1
      go_wp2_with fail
      go_still_tail 10, (by kernel_rfl)
      change wpList _ _ _ _ _ wr.drew
      have HB1 := Lib.hid (below_drew1 HB.out)
      have HR1 := Lib.hid (HR.out.drew)
      clear HB HR hx0 hx1 hx2 hx3 hx4 hy0 hy1 hy2 hy3 hy4
      generalize wr.drew = wd at HB1 HR1 HCALL
      go_wp2_with fail
      refine (HCALL.out).mono ?_
      rintro en w4 ⟨rfl, hb4⟩
      have HB4 := Lib.hid (below_then HB1.out (Nat.le_trans HR1.out.lo (Nat.le_of_lt (blk_lt HR1.out.blk))) hb4)
      have HR4 := Lib.hid (HR1.out.below hb4)
      clear hb4 HB1 HR1 HCALL
      generalize hd : e (rdR l ((j + 1 : Nat) : Int)) (rdR l (j : Nat)) = d
      have HD := Lib.hid hd
      clear hd
      cases d with
      | false =>
        go_wp2_with fail
        go_roundg (n - (j + 2))
        case measure => omega
        case rel => exact ⟨j + 2, by rw [show ((j + 2 : Nat) : Int) = (j : Int) + 1 + 1 by omega], by omega, by omega, Nat.le_refl _, Lib.hid (fun i hi h1 => by
          by_cases h2 : i = j
          · subst h2
            have := HD.out
            rw [rdR_get l _ hi, rdR_get l _ (by omega)] at this
            exact this
          · exact HS.out i hi (by omega)), HB4, HR4⟩
      | true =>
        have hc0 : comp e (l.take (j + 1 + 0 + 1)) = l.take (j + 1) := by
          rw [show j + 1 + 0 + 1 = j + 2 by omega, comp_take e l j (by rw [HN.out]; omega)]
          have h1 := HD.out
          rw [rdR_get l _ (by rw [HN.out]; omega), rdR_get l _ (by rw [HN.out]; omega)] at h1
          rw [h1, if_pos rfl, List.append_nil]
          exact comp_same e l (j + 1) (by rw [HN.out]; omega) (fun i hi h1 => HS.out i hi h1)
        have HC0 := Lib.hid hc0
        clear hc0 HD HS hkx hk1 hkn
        go_wp2_with fail
        go_loopg [5, 7] n (fun kx s5 s7 wr => ∃ q t : Nat, s5 = .int .i64 (q : Int) ∧ s7 = .int .i64 ((t : Int) + 1) ∧ j + 1 ≤ q ∧ q ≤ j + 1 + t ∧ j + 1 + t + 1 ≤ n ∧ n - t ≤ kx ∧ Hid ((comp e (l.take (j + 1 + t + 1))).length = q) ∧ Hid (Below base w0 wr) ∧ Hid (Row wr base g c (comp e (l.take (j + 1 + t + 1)) ++ l.drop q) rest))
        case atStart => exact ⟨j + 1, 0, by rw [show ((j + 1 : Nat) : Int) = (j : Int) + 1 by omega], rfl, Nat.le_refl _, by omega, by omega, by omega, Lib.hid (by rw [HC0.out, List.length_take, HN.out]; omega), HB4, Lib.hid (by rw [HC0.out, List.take_append_drop]; exact HR4.out)⟩
        case round =>
          clear HB4 HR4 HC0
          obtain ⟨q, t, rfl, rfl, hq1, hq2, hq3, hkx2, HL, HB, HR⟩ := hrel
          obtain ⟨cur, hcur⟩ : ∃ cur, comp e (l.take (j + 1 + t + 1)) ++ l.drop q = cur := ⟨_, rfl⟩
          have HCU := Lib.hid hcur
          rw [hcur] at HR
          have hcl : cur.length = n := by rw [← hcur, List.length_append, HL.out, List.length_drop, HN.out]; omega
          have HCL := Lib.hid hcl
          have hrd : ∀ i : Nat, q ≤ i → i < n → rdR cur (i : Nat) = rdR l (i : Nat) := fun i h1 h2 => by
            rw [rdR_get cur i (by omega), rdR_get l i (by rw [HN.out]; exact h2)]
            have : cur[i]? = l[i]? := by
              rw [← hcur, List.getElem?_append_right (by rw [HL.out]; exact h1), HL.out, List.getElem?_drop]
              congr 1; omega
            rw [List.getElem?_eq_getElem (by omega), List.getElem?_eq_getElem (by rw [HN.out]; exact h2)] at this
            exact Option.some.inj this
          have HRD := Lib.hid hrd
          clear hcur hcl hrd
          by_cases hlt2 : j + 1 + t + 1 < n
          · obtain ⟨ad, e1, hx0, hx1, hx2, hx3, hx4⟩ := at_T33 (Kd.R_reads' (HR.out.R (ok := fun _ => True) trivial)).2.2 ((j + 1 + t + 1 : Nat) : Int) (by omega) (by rw [HCL.out]; omega)
            cases e1
            obtain ⟨ad, e1, hy0, hy1, hy2, hy3, hy4⟩ := at_T33 (Kd.R_reads' (HR.out.R (ok := fun _ => True) trivial)).2.2 ((j + 1 + t : Nat) : Int) (by omega) (by rw [HCL.out]; omega)
            cases e1
            have hA : (j + 1 + t + 1) * 5 = (j + 1) * 5 + (t + 1) * 5 := by omega
            have hA2 : (j + 1 + t) * 5 = (j + 1) * 5 + t * 5 := by omega
            have r1 := HRD.out (j + 1 + t + 1) (by omega) hlt2
            have r2 := HRD.out (j + 1 + t) (by omega) (by omega)
            simp only [Int.toNat_natCast, Addr.add_lit, Nat.zero_add] at hx0 hx1 hx2 hx3 hx4 hy0 hy1 hy2 hy3 hy4
            rw [hA] at hx0 hx1 hx2 hx3 hx4
            rw [hA2] at hy0 hy1 hy2 hy3 hy4
            rw [show rd_T33 cur ((j + 1 + t + 1 : Nat) : Int) = rdR l ((j + 1 + t + 1 : Nat) : Int) from r1] at hx0 hx1 hx2 hx3 hx4
            rw [show rd_T33 cur ((j + 1 + t : Nat) : Int) = rdR l ((j + 1 + t : Nat) : Int) from r2] at hy0 hy1 hy2 hy3 hy4
            have hl1 : rdR l ((j + 1 + t + 1 : Nat) : Int) ∈ l := by rw [rdR_get l _ (by rw [HN.out]; exact hlt2)]; exact List.getElem_mem _
            have hl0 : rdR l ((j + 1 + t : Nat) : Int) ∈ l := by rw [rdR_get l _ (by rw [HN.out]; omega)]; exact List.getElem_mem _
            obtain ⟨x, hxx⟩ : ∃ x, rdR l ((j + 1 + t + 1 : Nat) : Int) = x := ⟨_, rfl⟩
            obtain ⟨y, hyy⟩ : ∃ y, rdR l ((j + 1 + t : Nat) : Int) = y := ⟨_, rfl⟩
            rw [hxx] at hx0 hx1 hx2 hx3 hx4 hl1
            rw [hyy] at hy0 hy1 hy2 hy3 hy4 hl0
            have HX := Lib.hid hxx
            have HY := Lib.hid hyy
            have hcall := eq_calls K x y (e x y) wr.drew (HE.out _ hl1 _ hl0)
            have HCALL := Lib.hid hcall
            clear hcall hl1 hl0 r1 r2 hA hA2 hxx hyy
            have k1 : (t : Int) + 1 < ((n - (j + 1) : Nat) : Int) := by omega
            have k2 : (0 : Int) ≤ (t : Int) := by omega
            have k3 : (t : Int) < ((n - (j + 1) : Nat) : Int) := by omega
            have k4 : (0 : Int) ≤ (t : Int) + 1 := by omega
            have k5 : ((t : Int) + 1).toNat = t + 1 := by omega
            have k6 : (t : Int) + 1 - 1 = (t : Int) := by omega
            have k7 : IntKind.i64.wrap (t : Int) = (t : Int) := by rw [IntKind.wrap_i64]; omega
            have k8 : IntKind.i64.wrap ((t : Int) + 1) = (t : Int) + 1 := by rw [IntKind.wrap_i64]; omega
            have k9 : IntKind.i64.wrap ((t : Int) + 1 + 1) = (t : Int) + 1 + 1 := by rw [IntKind.wrap_i64]; omega
            go_wp2_with fail
            go_still_tail 10, (by kernel_rfl)
            change wpList _ _ _ _ _ wr.drew
            have HB1 := Lib.hid (below_drew1 HB.out)
            have HR1 := Lib.hid (HR.out.drew)
            clear HB HR hx0 hx1 hx2 hx3 hx4 hy0 hy1 hy2 hy3 hy4
            generalize wr.drew = wd at HB1 HR1 HCALL
            go_wp2_with fail
            refine (HCALL.out).mono ?_
            rintro en w5 ⟨rfl, hb5⟩
            have HB5 := Lib.hid (below_then HB1.out (Nat.le_trans HR1.out.lo (Nat.le_of_lt (blk_lt HR1.out.blk))) hb5)
            have HR5 := Lib.hid (HR1.out.below hb5)
            clear hb5 HB1 HR1 HCALL
            generalize hd : e x y = d
            have HD := Lib.hid hd
            clear hd
            have hct := comp_take e l (j + 1 + t) (by rw [HN.out]; exact hlt2)
            rw [show l[j + 1 + t + 1]'(by rw [HN.out]; exact hlt2) = x by rw [← HX.out, rdR_get l _ (by rw [HN.out]; exact hlt2)], show l[j + 1 + t]'(by rw [HN.out]; omega) = y by rw [← HY.out, rdR_get l _ (by rw [HN.out]; omega)], HD.out] at hct
            have HCT := Lib.hid hct
            clear hct
            cases d with
            | true =>
              have hc1 : comp e (l.take (j + 1 + (t + 1) + 1)) = comp e (l.take (j + 1 + t + 1)) := by
                rw [show j + 1 + (t + 1) + 1 = j + 1 + t + 2 by omega, HCT.out, if_pos rfl, List.append_nil]
              have HC1 := Lib.hid hc1
              clear hc1
              go_wp2_with fail
              go_roundg (n - (t + 1))
              case measure => omega
              case rel => exact ⟨q, t + 1, rfl, by rw [show ((t + 1 : Nat) : Int) + 1 = (t : Int) + 1 + 1 by omega], hq1, by omega, by omega, Nat.le_refl _, Lib.hid (by rw [HC1.out]; exact HL.out), HB5, Lib.hid (by rw [HC1.out, HCU.out]; exact HR5.out)⟩
            | false =>
              obtain ⟨ad, e1, hx0, hx1, hx2, hx3, hx4⟩ := at_T33 (Kd.R_reads' (HR5.out.R (ok := fun _ => True) trivial)).2.2 ((j + 1 + t + 1 : Nat) : Int) (by omega) (by rw [HCL.out]; omega)
              cases e1
              obtain ⟨ad, e1, hy0, hy1, hy2, hy3, hy4⟩ := at_T33 (Kd.R_reads' (HR5.out.R (ok := fun _ => True) trivial)).2.2 (q : Int) (by omega) (by rw [HCL.out]; omega)
              cases e1
              have hA : (j + 1 + t + 1) * 5 = (j + 1) * 5 + (t + 1) * 5 := by omega
              have r1 := HRD.out (j + 1 + t + 1) (by omega) hlt2
              simp only [Int.toNat_natCast, Addr.add_lit, Nat.zero_add] at hx0 hx1 hx2 hx3 hx4 hy0 hy1 hy2 hy3 hy4
              rw [hA] at hx0 hx1 hx2 hx3 hx4
              rw [show rd_T33 cur ((j + 1 + t + 1 : Nat) : Int) = rdR l ((j + 1 + t + 1 : Nat) : Int) from r1, HX.out] at hx0 hx1 hx2 hx3 hx4
              clear hA r1
              have f0 := blk_frozen HR5.out.blk (q * 5)
              have f1 := blk_frozen HR5.out.blk (q * 5 + 1)
              have f2 := blk_frozen HR5.out.blk (q * 5 + 2)
              have f3 := blk_frozen HR5.out.blk (q * 5 + 3)
              have f4 := blk_frozen HR5.out.blk (q * 5 + 4)
              have m1 : (0 : Int) ≤ (q : Int) := by omega
              have m2 : (q : Int) < (n : Int) := by omega
              have m3 : IntKind.i64.wrap ((q : Int) + 1) = (q : Int) + 1 := by rw [IntKind.wrap_i64]; omega
              have hrow := HR5.out.put x q (by rw [HCL.out]; omega) _ _ _ _ _ rfl
              have hset : cur.set q x = comp e (l.take (j + 1 + (t + 1) + 1)) ++ l.drop (q + 1) := by
                have hd : l.drop q = (l[q]'(by rw [HN.out]; omega)) :: l.drop (q + 1) := List.drop_eq_getElem_cons _
                rw [show j + 1 + (t + 1) + 1 = j + 1 + t + 2 by omega, HCT.out, if_neg (by decide), ← HCU.out, hd]
                have := set_at_ (comp e (l.take (j + 1 + t + 1))) (l.drop (q + 1)) (l[q]'(by rw [HN.out]; omega)) x
                rw [HL.out] at this
                rw [this]; simp
              rw [hset] at hrow
              have hlen : (comp e (l.take (j + 1 + (t + 1) + 1))).length = q + 1 := by
                rw [show j + 1 + (t + 1) + 1 = j + 1 + t + 2 by omega, HCT.out, if_neg (by decide), List.length_append, HL.out]; rfl
              have hge : base ≤ g := HR5.out.lo
              have hBF := ((((HB5.out.setCell (p := ⟨g, q * 5, none⟩) hge (.string x.f0)).setCell (p := ⟨g, q * 5 + 1, none⟩) hge (.int .i64 x.f1)).setCell (p := ⟨g, q * 5 + 2, none⟩) hge (.int .i64 x.f2)).setCell (p := ⟨g, q * 5 + 3, none⟩) hge (.int .i64 x.f3)).setCell (p := ⟨g, q * 5 + 4, none⟩) hge (.string x.f4)
              have HROW := Lib.hid hrow
              have HBF := Lib.hid hBF
              have HLEN := Lib.hid hlen
              clear hrow hBF hlen hset hge
              go_wp2_with fail
              go_roundg (n - (t + 1))
              case measure => omega
              case rel => exact ⟨q + 1, t + 1, by rw [show ((q + 1 : Nat) : Int) = (q : Int) + 1 by omega], by rw [show ((t + 1 : Nat) : Int) + 1 = (t : Int) + 1 + 1 by omega], by omega, by omega, by omega, Nat.le_refl _, HLEN, HBF, HROW⟩
          · obtain ⟨rest', hrow, hrun⟩ := run_clearN wr 0 g c q base cur rest HR.out (by rw [HCL.out]; omega) (c - q)
            have htk : cur.take q = comp e l := by
              rw [← HCU.out, List.take_append_of_le_length (by rw [HL.out]; exact Nat.le_refl _), List.take_of_length_le (by rw [HL.out]; exact Nat.le_refl _), List.take_of_length_le (by rw [HN.out]; omega)]
            rw [htk, HCL.out] at hrow
            rw [HCL.out] at hrun
            have hql : (comp e l).length = q := by rw [← htk, List.length_take, HCL.out]; omega
            obtain ⟨w6, hw6⟩ : ∃ w6, w6 = (wr.setRow g ((flat cur ++ rest).take (q * 5) ++ (Builtin.zeroCells zRR.cells (n - q)).toList ++ (flat cur ++ rest).drop (q * 5 + (Builtin.zeroCells zRR.cells (n - q)).toList.length)).toArray) := ⟨_, rfl⟩
            rw [← hw6] at hrow hrun
            have hgw : wr.grownBy w6 (some g) := by rw [hw6]; exact ⟨rfl, rfl, rfl, by simp, fun k hk hkg => setRow_other _ _ _ _ (fun e => hkg (by rw [e]))⟩
            have hBF := HB.out.grown hgw (Nat.le_trans HR.out.lo (Nat.le_of_lt (blk_lt HR.out.blk))) (fun k hk => by injection hk with hk; subst hk; exact HR.out.lo)
            have HROW := Lib.hid hrow
            have HBF := Lib.hid hBF
            have HQL := Lib.hid hql
            have HRUN := Lib.hid hrun
            have c1 : ¬ ((t : Int) + 1 < ((n - (j + 1) : Nat) : Int)) := by omega
            have c2 : (0 : Int) ≤ (q : Int) := by omega
            have c3 : (q : Int) ≤ (n : Int) := by omega
            have c4 : ¬ (c = q) := by omega
            have c5 : (q : Int) ≤ (c : Int) := by omega
            have c6 : q ≤ n := by omega
            clear hrow hBF hgw hrun htk hql hw6 HB HR
            go_wp2_with fail
            rw [HRUN.out, Result.andThen_ok, Oper.upon_value]
            rename_i K1 hK1
            first | refine hK1 _ _ ?_ | (rename_i K2 hK2; refine hK2 _ _ ?_)
            simp only [Act.put]
            go_wp2_with fail
            go_ret
            have hR := HROW.out.R HOK.out
            rw [HQL.out] at hR
            exact ⟨_, rfl, hR, HBF.out⟩
    · obtain rfl : k = n := by omega
      have b1 : ¬ ((k : Int) < (k : Int)) := by omega
      go_wp2_with fail
      go_ret
      have hs := comp_same e l l.length (Nat.le_refl _) (fun i hi h1 => HS.out i hi (by rw [← HN.out]; exact h1))
      rw [List.take_length] at hs
      rw [hs, ← HN.out]
      exact ⟨_, rfl, HR.out.R HOK.out, HB.out⟩
end Go.Proofs.Ytehdkopjgcoclaa.Rrs
namespace Go.Proofs.Ytehdkopjgcoclaa.SetLaw
set_option linter.unusedVariables false
open Go.Proofs.Ytehdkopjgcoclaa.Rrs
theorem compG_cong {α : Type} {c : α → α → Int} (O : POrd c) (l : List α) {a b : α} (h : c a b = 0) : compG (fun x y => c x y == 0) b l = compG (fun x y => c x y == 0) a l := by
  cases l with
  | nil => rfl
  | cons x l => rw [compG, compG, O.congr a b x h]
theorem comp_firsts {α : Type} {c : α → α → Int} (O : POrd c) : ∀ (n : Nat) (l : List α), l.length = n → comp (fun x y => c x y == 0) l = firsts c l := by
  intro n
  induction n with
  | zero => intro l h; obtain rfl := List.length_eq_zero_iff.mp h; rw [firsts, comp]
  | succ n ih =>
    intro l h
    match l, h with
    | [a], _ => rw [firsts, comp, compG]
    | a :: b :: l, h =>
      rw [firsts, comp, compG]
      by_cases h0 : c a b = 0
      · have h1 : (c b a == 0) = true := by rw [beq_iff_eq]; exact O.symm h0
        rw [if_pos h1, if_pos h0, compG_cong O l h0, ← ih (a :: l) (by simpa using h), comp]
      · have h1 : ¬ (c b a == 0) = true := by rw [beq_iff_eq]; exact fun e => h0 (O.symm e)
        rw [if_neg h1, if_neg h0, ← ih (b :: l) (by simpa using h), comp]
end Go.Proofs.Ytehdkopjgcoclaa.SetLaw
namespace Go.Proofs.Ytehdkopjgcoclaa.Rrs
open Go.RowKit Go.Proofs.YtehdkopjgcoclaaW.PrintWords Go.Proofs.YtehdkopjgcoclaaW.PrintLast Go.Proofs.YtehdkopjgcoclaaW.PrintMore Go.Proofs.Ytehdkopjgcoclaa.Given Go.Proofs.Ytehdkopjgcoclaa.PRd Go.Proofs.Ytehdkopjgcoclaa.PRr Go.Proofs.Ytehdkopjgcoclaa.PSo Go.Proofs.Ytehdkopjgcoclaa.SetLaw
set_option linter.unusedVariables false
set_option linter.unusedSimpArgs false
theorem of1_f (x y : RR) (hx : fine x) (hy : fine y) : rrset_Of_1.f 1000 x.f0 x.f1 x.f2 x.f3 x.f4 y.f0 y.f1 y.f2 y.f3 y.f4 = some (cmpRR x y == 0) := by
  unfold rrset_Of_1.f
  rw [show record_Compare.f 1000 x.f0 x.f1 x.f2 x.f3 x.f4 y.f0 y.f1 y.f2 y.f3 y.f4 = some (cmpRR x y) from cmpO_eq x y hx.1 hy.1 hx.2 hy.2 1000 (Nat.le_refl _)]
  rfl
set_option maxHeartbeats 8000000 in
set_option maxRecDepth 100000 in
theorem compact_all (l : List RR) (hl : ∀ y ∈ l, fine y) (hn : l.length ≤ 1000000) (base : Nat) (ok : Nat → Prop) (w0 w : World) (hB : Below base w0 w) (v : Value) (HO : Kd.R kRR tRR w base ok v l) :
    Calls Try.prog 45 #[v, .func (.func 46) #[] #[]] w fun en w' => ∃ v', en = .returned v' ∧ Kd.R kRR tRR w' base ok v' (firsts cmpRR l) ∧ Below base w0 w' := by
  rw [← comp_firsts ordRR l.length l rfl]
  by_cases h2 : 2 ≤ l.length
  · rcases Row.of_R HO with ⟨_, rfl⟩ | ⟨g, c, rest, rfl, hg, hr⟩
    · simp at h2
    · exact compact_any 1000 l (fun x y => cmpRR x y == 0) (fun x hx y hy => of1_f x y (hl x hx) (hl y hy)) hn h2 base ok w0 w hB g c rest hr hg
  · have hc : comp (fun x y => cmpRR x y == 0) l = l := by
      match l, h2 with
      | [], _ => rfl
      | [a], _ => rfl
      | a :: b :: l, h => simp at h
    rw [hc]
    obtain ⟨A, c, rfl⟩ := Kd.R_slice HO
    have HR := Lib.hid HO
    have HB := Lib.hid hB
    obtain ⟨n, hnn⟩ : ∃ n, l.length = n := ⟨_, rfl⟩
    rw [hnn] at HR h2 ⊢
    clear HO hB hc hnn hn
    have b0 : (n : Int) < 2 := by omega
    go_enter Try.func45, Try.ntmps45
    go_wp2_with fail
    go_ret
    exact ⟨_, rfl, HR.out, HB.out⟩
end Go.Proofs.Ytehdkopjgcoclaa.Rrs
namespace Go.Proofs.Ytehdkopjgcoclaa.Given
open Go.RowKit Go.Proofs.YtehdkopjgcoclaaW.PrintWords Go.Proofs.YtehdkopjgcoclaaW.PrintLast Go.Proofs.YtehdkopjgcoclaaW.PrintMore Go.Proofs.Ytehdkopjgcoclaa.PRd Go.Proofs.Ytehdkopjgcoclaa.PRr Go.Proofs.Ytehdkopjgcoclaa.PSo Go.Proofs.Ytehdkopjgcoclaa.Rrs Go.Proofs.Ytehdkopjgcoclaa.SetLaw
set_option linter.unusedVariables false
open Classical in
noncomputable def rrset_Of.f (l0 : List (S33)) : Option (List (S33)) := if (∀ y ∈ l0, fine y) ∧ l0.length ≤ 1000000 then some (ofL cmpRR l0) else none
theorem of_f {l : List RR} (hl : ∀ y ∈ l, fine y) (hn : l.length ≤ 1000000) : rrset_Of.f l = some (ofL cmpRR l) := by
  unfold rrset_Of.f
  rw [if_pos ⟨hl, hn⟩]
set_option maxHeartbeats 8000000 in
set_option maxRecDepth 100000 in
theorem rrset_Of.calls (A0 : Option Addr) (c0 : Nat) (l0 : List (S33)) (r : List (S33)) (w : World) (hr0 : Kd.C k33 w A0 l0.length l0) (hc0 : l0.length ≤ c0) (h : rrset_Of.f l0 = some r) :
    Calls Try.prog 24 #[.slice A0 l0.length c0] w fun e w' => ∃ v0_ : Value, e = .returned (v0_) ∧ Kd.R k33 33 w' w.heap.size (fun _ => True) v0_ r ∧ Below w.heap.size w w' := by
  unfold rrset_Of.f at h
  have hS : (∀ y ∈ l0, fine y) ∧ l0.length ≤ 1000000 := Classical.byContradiction fun hn => by rw [if_neg hn] at h; cases h
  rw [if_pos hS] at h
  injection h with h
  obtain ⟨hf, hn⟩ := hS
  have hcl : slices_Clone.f l0 = some l0 := by unfold slices_Clone.f; rw [if_pos hn]
  obtain ⟨K1, hrev⟩ := (ev_rev l0 hn).rounds
  have hfr : ∀ y ∈ l0.reverse, fine y := fun y hy => hf y (List.mem_reverse.mp hy)
  obtain ⟨m, hst, hml, hev⟩ := ev_stable l0.reverse 0 (by rw [List.length_reverse]; exact hn) hfr
  obtain ⟨K2, hsort⟩ := hev.rounds
  have hfm : ∀ y ∈ m, fine y := fun y hy => hfr y (hst.mem ordRR hy)
  have hnm : m.length ≤ 1000000 := by rw [hml, List.length_reverse]; exact hn
  have hof : firsts cmpRR m = r := by rw [firsts_of ordRR hst]; exact h
  have CL := fun W hC => slices_Clone.calls A0 c0 l0 l0 W hC hc0 hcl
  have RV := fun v W hB hR => api_RR_42.calls K1 (fun _ => True) v l0 l0.reverse w W hB hR hrev
  have ST := fun P v W hB hR => api_RR_43.calls K2 P v l0.reverse _ m w W hB hR hsort
  have CP := fun ok v W hB hR => compact_all m hfm hnm w.heap.size ok w W hB v hR
  have HCL := Lib.hid CL
  have HRV := Lib.hid RV
  have HST := Lib.hid ST
  have HCP := Lib.hid CP
  have HR := Lib.hid hr0
  have HOF := Lib.hid hof
  clear CL RV ST CP hr0 hof hsort hev hrev hcl hst hfm hnm hfr hml h hf
  go_enter Try.func24, Try.ntmps24
  go_wp2_with fail
  refine (HCL.out w HR.out).mono ?_
  rintro e w1 ⟨v, rfl, hv, hb1⟩
  have HV := Lib.hid hv
  have HB := Lib.hid hb1
  clear hv hb1
  go_wp2_with fail
  refine (HRV.out v w1 HB.out HV.out).mono ?_
  rintro e w2 ⟨rfl, hv2, hb2, _⟩
  have HV2 := Lib.hid hv2
  have HB2 := Lib.hid hb2
  clear hv2 hb2 HV HB
  go_wp2_with fail
  refine (HST.out _ v w2 HB2.out HV2.out).mono ?_
  rintro e w3 ⟨rfl, hv3, hb3, _⟩
  have HV3 := Lib.hid hv3
  have HB3 := Lib.hid hb3
  clear hv3 hb3 HV2 HB2
  go_wp2_with fail
  refine (HCP.out _ v w3 HB3.out HV3.out).mono ?_
  rintro e w4 ⟨v4, rfl, hv4, hb4⟩
  have HV4 := Lib.hid hv4
  have HB4 := Lib.hid hb4
  clear hv4 hb4 HV3 HB3
  go_wp2_with fail
  go_ret
  exact ⟨_, rfl, by rw [← HOF.out]; exact Kd.R_mono HV4.out (fun _ _ => trivial), HB4.out⟩
end Go.Proofs.Ytehdkopjgcoclaa.Given
namespace Go.Proofs.Ytehdkopjgcoclaa.PZo
open Go.RowKit Go.Proofs.YtehdkopjgcoclaaW.PrintWords Go.Proofs.YtehdkopjgcoclaaW.PrintLast Go.Proofs.YtehdkopjgcoclaaW.PrintMore Go.Proofs.Ytehdkopjgcoclaa.Given Go.Proofs.Ytehdkopjgcoclaa.PRd Go.Proofs.Ytehdkopjgcoclaa.PRr
attribute [local go_sem] max2_int min2_int max_two min_two max_three min_three max_four min_four   -- for this text's walks alone
set_option linter.unusedVariables false
set_option linter.unusedSimpArgs false
def errW : Option Int → Value
 | none => .nilIface
 | some c => .iface 0 (.int .i64 c)
theorem errW_none : errW none = .nilIface := rfl
theorem errW_some (c : Int) : errW (some c) = .iface 0 (.int .i64 c) := rfl
end Go.Proofs.Ytehdkopjgcoclaa.PZo
namespace Go.Proofs.Ytehdkopjgcoclaa.PZo
open Go.RowKit Go.Proofs.YtehdkopjgcoclaaW.PrintWords Go.Proofs.YtehdkopjgcoclaaW.PrintLast Go.Proofs.YtehdkopjgcoclaaW.PrintMore Go.Proofs.Ytehdkopjgcoclaa.Given Go.Proofs.Ytehdkopjgcoclaa.PRd Go.Proofs.Ytehdkopjgcoclaa.PRr
attribute [local go_sem] max2_int min2_int max_two min_two max_three min_three max_four min_four   -- for this text's walks alone
set_option linter.unusedVariables false
set_option linter.unusedSimpArgs false
theorem eqA33 (d : Nat) (w : World) (x0 y0 : ByteArray) (x1 y1 : Int) (x2 y2 : Int) (x3 y3 : Int) (x4 y4 : ByteArray) :
  (Op.equalIn (d + 2) 33 (.agg #[.string x0, .int .i64 x1, .int .i64 x2, .int .i64 x3, .string x4]) (.agg #[.string y0, .int .i64 y1, .int .i64 y2, .int .i64 y3, .string y4])).run Try.prog w = .ok (x0.toList == y0.toList && (x1 == y1 && (x2 == y2 && (x3 == y3 && (x4.toList == y4.toList))))) w := by
 refine eqA_of Try.underlying33 (by kernel_rfl) ?_
 refine eqf_cons (by rfl) (by go_simp; rfl) (by go_simp; rfl) (by go_simp) ?_
 refine eqf_cons (by rfl) (by go_simp; rfl) (by go_simp; rfl) (by go_simp) ?_
 refine eqf_cons (by rfl) (by go_simp; rfl) (by go_simp; rfl) (by go_simp) ?_
 refine eqf_cons (by rfl) (by go_simp; rfl) (by go_simp; rfl) (by go_simp) ?_
 exact eqf_last (by rfl) (by go_simp; rfl) (by go_simp; rfl) (by go_simp)
end Go.Proofs.Ytehdkopjgcoclaa.PZo
namespace Go.Proofs.Ytehdkopjgcoclaa.PZo
open Go.RowKit Go.Proofs.YtehdkopjgcoclaaW.PrintWords Go.Proofs.YtehdkopjgcoclaaW.PrintLast Go.Proofs.YtehdkopjgcoclaaW.PrintMore Go.Proofs.Ytehdkopjgcoclaa.Given Go.Proofs.Ytehdkopjgcoclaa.PRd Go.Proofs.Ytehdkopjgcoclaa.PRr
attribute [local go_sem] max2_int min2_int max_two min_two max_three min_three max_four min_four   -- for this text's walks alone
set_option linter.unusedVariables false
set_option linter.unusedSimpArgs false
attribute [local go_sem high] eqA33
noncomputable def api_RR_31.l0 : Nat → List (S33) → Int → Int → ByteArray → Int → Int → Int → ByteArray → Option (Int)
 | 0, _, _, _, _, _, _, _, _ => none
 | k + 1, x0, x7, x8, x102000, x102001, x102002, x102003, x102004 => if x8 < x7 then (if 0 ≤ x8 then (if x8 < (x0.length : Int) then (if (x102000.toList == (((rd_T33 x0 x8).f0).toList) && (x102001 == ((rd_T33 x0 x8).f1) && (x102002 == ((rd_T33 x0 x8).f2) && (x102003 == ((rd_T33 x0 x8).f3) && (x102004.toList == (((rd_T33 x0 x8).f4).toList)))))) = true then (some x8) else (api_RR_31.l0 k x0 x7 (wrap64 (x8 + 1)) x102000 x102001 x102002 x102003 x102004)) else (none)) else (none)) else (some (-1))
noncomputable def api_RR_31.f (k : Nat) (l0 : List (S33)) (a1_0 : ByteArray) (a1_1 : Int) (a1_2 : Int) (a1_3 : Int) (a1_4 : ByteArray) : Option (Int) := api_RR_31.l0 k l0 (l0.length : Int) 0 a1_0 a1_1 a1_2 a1_3 a1_4
set_option maxHeartbeats 8000000 in
set_option maxRecDepth 100000 in
theorem api_RR_31.calls (k : Nat) (A0 : Option Addr) (c0 : Nat) (l0 : List (S33)) (a1_0 : ByteArray) (a1_1 : Int) (a1_2 : Int) (a1_3 : Int) (a1_4 : ByteArray) (r : Int) (w : World) (hr0 : Kd.C k33 w A0 l0.length l0) (hc0 : l0.length ≤ c0) (h : api_RR_31.f k l0 a1_0 a1_1 a1_2 a1_3 a1_4 = some r) :
  Calls Try.prog 31 #[.slice A0 l0.length c0, .agg #[.string a1_0, .int .i64 a1_1, .int .i64 a1_2, .int .i64 a1_3, .string a1_4]] w fun e w' => e = .returned (.int .i64 r) ∧ Below w.heap.size w w' := by
 have hu33 := Try.underlying33
 have HR0 := Aside0.mk hr0
 have HC0 := Aside0.mk hc0
 clear hr0 hc0
 have HB := Aside0.mk (Below.refl w.heap.size w)
 have H : (api_RR_31.l0 k l0 (l0.length : Int) 0 a1_0 a1_1 a1_2 a1_3 a1_4) = some r := h
 clear h
 have H' := Aside0.mk H
 clear H
 go_enter Try.func31, Try.ntmps31
 go_wp2_with ((((with_reducible refine gate_dst (N := 3) rfl ?_); refine box_event ?hg (N := 3) ?hd (cs := #[.string a1_0, .int .i64 a1_1, .int .i64 a1_2, .int .i64 a1_3, .string a1_4]) (t := 33) ?hr ?_; (case hd => rfl); (case hg => rfl); (case hr => (go_simp; done)); intro gb101 hg w3 hbox hb; have n0_ := Aside0.mk (below_step (by repeat ((with_reducible (exact HB.out)))) hb); have n1_ := Aside0.mk (hbox); have n2_ := Aside0.mk ((by rw [hg]; exact (below_size (by repeat ((with_reducible (exact HB.out))))) : w.heap.size ≤ gb101)); have n3_ := Aside0.mk ((by rw [hg]; exact (below_size (by repeat ((with_reducible (exact HB.out))))) : w.heap.size ≤ gb101)); clear HB; have HB := n0_; have BK101 := n1_; have GW101 := n2_; have GE101 := n3_; clear n0_ n1_ n2_ n3_; clear hb hbox hg)))
 repeat (go_quiet ((((with_reducible refine gate_dst (N := 3) rfl ?_); refine box_event ?hg (N := 3) ?hd (cs := #[.string a1_0, .int .i64 a1_1, .int .i64 a1_2, .int .i64 a1_3, .string a1_4]) (t := 33) ?hr ?_; (case hd => rfl); (case hg => rfl); (case hr => (go_simp; done)); intro gb101 hg w3 hbox hb; have n0_ := Aside0.mk (below_step (by repeat ((with_reducible (exact HB.out)))) hb); have n1_ := Aside0.mk (hbox); have n2_ := Aside0.mk ((by rw [hg]; exact (below_size (by repeat ((with_reducible (exact HB.out))))) : w.heap.size ≤ gb101)); have n3_ := Aside0.mk ((by rw [hg]; exact (below_size (by repeat ((with_reducible (exact HB.out))))) : w.heap.size ≤ gb101)); clear HB; have HB := n0_; have BK101 := n1_; have GW101 := n2_; have GE101 := n3_; clear n0_ n1_ n2_ n3_; clear hb hbox hg))); try go_wp2_with ((((with_reducible refine gate_dst (N := 3) rfl ?_); refine box_event ?hg (N := 3) ?hd (cs := #[.string a1_0, .int .i64 a1_1, .int .i64 a1_2, .int .i64 a1_3, .string a1_4]) (t := 33) ?hr ?_; (case hd => rfl); (case hg => rfl); (case hr => (go_simp; done)); intro gb101 hg w3 hbox hb; have n0_ := Aside0.mk (below_step (by repeat ((with_reducible (exact HB.out)))) hb); have n1_ := Aside0.mk (hbox); have n2_ := Aside0.mk ((by rw [hg]; exact (below_size (by repeat ((with_reducible (exact HB.out))))) : w.heap.size ≤ gb101)); have n3_ := Aside0.mk ((by rw [hg]; exact (below_size (by repeat ((with_reducible (exact HB.out))))) : w.heap.size ≤ gb101)); clear HB; have HB := n0_; have BK101 := n1_; have GW101 := n2_; have GE101 := n3_; clear n0_ n1_ n2_ n3_; clear hb hbox hg))))
 go_loopg [8] k (fun kq v8 w' => ∃ (x8_1 : Int), v8 = .int .i64 x8_1 ∧ Aside0 (api_RR_31.l0 kq l0 (l0.length : Int) x8_1 a1_0 a1_1 a1_2 a1_3 a1_4 = some r) ∧ Aside0 (kq ≤ k) ∧ Aside0 (w'.heap[gb101]? = some (.cells #[.string a1_0, .int .i64 a1_1, .int .i64 a1_2, .int .i64 a1_3, .string a1_4] 33 (0, 0))) ∧ Aside0 (Below w.heap.size w w'))
 case atStart => exact ⟨(0), (by rfl), H', ⟨Nat.le_refl _⟩, ⟨by (with_reducible repeat ((refine blk_drewN ?_ _))); exact BK101.out⟩, ⟨by repeat ((with_reducible (exact HB.out)))⟩⟩
 case round =>
  clear H'
  obtain ⟨x8_1, rfl, HA, HK1, BK101, HB⟩ := hrel
  cases gk with
  | zero => exact absurd HA.out (by simp [api_RR_31.l0])
  | succ k1 =>
   have H := HA.out
   clear HA
   simp only [api_RR_31.l0] at H
   by_cases c4 : x8_1 < (l0.length : Int)
   ·rw [if_pos c4] at H
    have c4b0 : decide (x8_1 < (l0.length : Int)) = true := decide_eq_true c4
    clear c4
    by_cases c5 : 0 ≤ x8_1
    ·rw [if_pos c5] at H
     have c5b0 : decide (0 ≤ x8_1) = true := decide_eq_true c5
     clear c5
     by_cases c6 : x8_1 < (l0.length : Int)
     ·rw [if_pos c6] at H
      have c6b0 : decide (x8_1 < (l0.length : Int)) = true := decide_eq_true c6
      clear c6
      by_cases c7 : (a1_0.toList == (((rd_T33 l0 x8_1).f0).toList) && (a1_1 == ((rd_T33 l0 x8_1).f1) && (a1_2 == ((rd_T33 l0 x8_1).f2) && (a1_3 == ((rd_T33 l0 x8_1).f3) && (a1_4.toList == (((rd_T33 l0 x8_1).f4).toList)))))) = true
      ·rw [if_pos c7] at H
       have c7b0 : (a1_0.toList == (((rd_T33 l0 x8_1).f0).toList) && (a1_1 == ((rd_T33 l0 x8_1).f1) && (a1_2 == ((rd_T33 l0 x8_1).f2) && (a1_3 == ((rd_T33 l0 x8_1).f3) && (a1_4.toList == (((rd_T33 l0 x8_1).f4).toList)))))) = true := c7
       (try (have c7b1 : decide (a1_0.toList = (((rd_T33 l0 x8_1).f0).toList) && (a1_1 == ((rd_T33 l0 x8_1).f1) && (a1_2 == ((rd_T33 l0 x8_1).f2) && (a1_3 == ((rd_T33 l0 x8_1).f3) && (a1_4.toList == (((rd_T33 l0 x8_1).f4).toList)))))) = true := by simpa using c7))
       (try (have c7b2 : (a1_0.toList == (((rd_T33 l0 x8_1).f0).toList) && (a1_1 == ((rd_T33 l0 x8_1).f1) && (a1_2 == ((rd_T33 l0 x8_1).f2) && (a1_3 == ((rd_T33 l0 x8_1).f3) && (a1_4.toList == (((rd_T33 l0 x8_1).f4).toList)))))) = true := by simpa using c7))
       clear c7
       obtain rfl := Option.some.inj H
       have hcz8_0 : wr.cell? ⟨gb101, 0, none⟩ = some (.string a1_0) := (blk_cell BK101.out 0).trans rfl
       have hcz8_1 : wr.cell? ⟨gb101, 1, none⟩ = some (.int .i64 a1_1) := (blk_cell BK101.out 1).trans rfl
       have hcz8_2 : wr.cell? ⟨gb101, 2, none⟩ = some (.int .i64 a1_2) := (blk_cell BK101.out 2).trans rfl
       have hcz8_3 : wr.cell? ⟨gb101, 3, none⟩ = some (.int .i64 a1_3) := (blk_cell BK101.out 3).trans rfl
       have hcz8_4 : wr.cell? ⟨gb101, 4, none⟩ = some (.string a1_4) := (blk_cell BK101.out 4).trans rfl
       have hfz8_0 := blk_frozen BK101.out 0
       have hfz8_1 := blk_frozen BK101.out 1
       have hfz8_2 := blk_frozen BK101.out 2
       have hfz8_3 := blk_frozen BK101.out 3
       have hfz8_4 := blk_frozen BK101.out 4
       have p102 : 0 ≤ (x8_1 : Int) := of_decide_eq_true (by (with_reducible assumption))
       have q102 : x8_1 < (l0.length : Int) := of_decide_eq_true (by (with_reducible assumption))
       obtain ⟨ad102, e102, hx102_0, hx102_1, hx102_2, hx102_3, hx102_4⟩ := at_T33 HR0.out x8_1 p102 q102
       cases e102
       replace hx102_0 := (HB.out.cell (World.block_lt_of_cell? w _ hx102_0)).trans hx102_0
       replace hx102_1 := (HB.out.cell (World.block_lt_of_cell? w _ hx102_1)).trans hx102_1
       replace hx102_2 := (HB.out.cell (World.block_lt_of_cell? w _ hx102_2)).trans hx102_2
       replace hx102_3 := (HB.out.cell (World.block_lt_of_cell? w _ hx102_3)).trans hx102_3
       replace hx102_4 := (HB.out.cell (World.block_lt_of_cell? w _ hx102_4)).trans hx102_4
       replace p102 := eq_true p102
       replace q102 := eq_true q102
       go_wp2
       repeat (go_quiet (fail); try go_wp2)
       go_ret
       exact ⟨by rfl, by repeat ((with_reducible first | exact HB.out | apply pw_below_drewN))⟩
      ·rw [if_neg c7] at H
       have c7b0 : (a1_0.toList == (((rd_T33 l0 x8_1).f0).toList) && (a1_1 == ((rd_T33 l0 x8_1).f1) && (a1_2 == ((rd_T33 l0 x8_1).f2) && (a1_3 == ((rd_T33 l0 x8_1).f3) && (a1_4.toList == (((rd_T33 l0 x8_1).f4).toList)))))) = false := by simpa using c7
       (try (have c7b1 : decide (a1_0.toList = (((rd_T33 l0 x8_1).f0).toList) && (a1_1 == ((rd_T33 l0 x8_1).f1) && (a1_2 == ((rd_T33 l0 x8_1).f2) && (a1_3 == ((rd_T33 l0 x8_1).f3) && (a1_4.toList == (((rd_T33 l0 x8_1).f4).toList)))))) = false := by simpa using c7))
       (try (have c7b2 : (a1_0.toList == (((rd_T33 l0 x8_1).f0).toList) && (a1_1 == ((rd_T33 l0 x8_1).f1) && (a1_2 == ((rd_T33 l0 x8_1).f2) && (a1_3 == ((rd_T33 l0 x8_1).f3) && (a1_4.toList == (((rd_T33 l0 x8_1).f4).toList)))))) = false := by simpa using c7))
       (try (have c7b3 : ¬ (a1_0.toList = (((rd_T33 l0 x8_1).f0).toList) && (a1_1 == ((rd_T33 l0 x8_1).f1) && (a1_2 == ((rd_T33 l0 x8_1).f2) && (a1_3 == ((rd_T33 l0 x8_1).f3) && (a1_4.toList == (((rd_T33 l0 x8_1).f4).toList)))))) := by simpa using c7))
       clear c7
       have H' := Aside0.mk H
       clear H
       have hcz9_0 : wr.cell? ⟨gb101, 0, none⟩ = some (.string a1_0) := (blk_cell BK101.out 0).trans rfl
       have hcz9_1 : wr.cell? ⟨gb101, 1, none⟩ = some (.int .i64 a1_1) := (blk_cell BK101.out 1).trans rfl
       have hcz9_2 : wr.cell? ⟨gb101, 2, none⟩ = some (.int .i64 a1_2) := (blk_cell BK101.out 2).trans rfl
       have hcz9_3 : wr.cell? ⟨gb101, 3, none⟩ = some (.int .i64 a1_3) := (blk_cell BK101.out 3).trans rfl
       have hcz9_4 : wr.cell? ⟨gb101, 4, none⟩ = some (.string a1_4) := (blk_cell BK101.out 4).trans rfl
       have hfz9_0 := blk_frozen BK101.out 0
       have hfz9_1 := blk_frozen BK101.out 1
       have hfz9_2 := blk_frozen BK101.out 2
       have hfz9_3 := blk_frozen BK101.out 3
       have hfz9_4 := blk_frozen BK101.out 4
       have p102 : 0 ≤ (x8_1 : Int) := of_decide_eq_true (by (with_reducible assumption))
       have q102 : x8_1 < (l0.length : Int) := of_decide_eq_true (by (with_reducible assumption))
       obtain ⟨ad102, e102, hx102_0, hx102_1, hx102_2, hx102_3, hx102_4⟩ := at_T33 HR0.out x8_1 p102 q102
       cases e102
       replace hx102_0 := (HB.out.cell (World.block_lt_of_cell? w _ hx102_0)).trans hx102_0
       replace hx102_1 := (HB.out.cell (World.block_lt_of_cell? w _ hx102_1)).trans hx102_1
       replace hx102_2 := (HB.out.cell (World.block_lt_of_cell? w _ hx102_2)).trans hx102_2
       replace hx102_3 := (HB.out.cell (World.block_lt_of_cell? w _ hx102_3)).trans hx102_3
       replace hx102_4 := (HB.out.cell (World.block_lt_of_cell? w _ hx102_4)).trans hx102_4
       replace p102 := eq_true p102
       replace q102 := eq_true q102
       go_wp2
       repeat (go_quiet (fail); try go_wp2)
       go_roundg k1
       case measure => have := HK1.out; omega
       case rel => exact ⟨(wrap64 (x8_1 + 1)), (by rfl), H', ⟨by have := HK1.out; omega⟩, ⟨by (with_reducible repeat ((refine blk_drewN ?_ _))); exact BK101.out⟩, ⟨by repeat ((with_reducible first | exact HB.out | apply pw_below_drewN))⟩⟩
     ·rw [if_neg c6] at H
      exact absurd H (by simp)
    ·rw [if_neg c5] at H
     exact absurd H (by simp)
   ·rw [if_neg c4] at H
    have c4b0 : decide (x8_1 < (l0.length : Int)) = false := decide_eq_false c4
    clear c4
    obtain rfl := Option.some.inj H
    go_wp2
    repeat (go_quiet (fail); try go_wp2)
    go_ret
    exact ⟨by rfl, by repeat ((with_reducible (exact HB.out)))⟩
noncomputable def zone_Zone_At.f (a0_0 : ByteArray) (l0_1 : List (S33)) (a0_2 : Int) (a1 : ByteArray) : Option ((List (S33))) := (rrset_At.f l0_1 a1).bind fun t104 => (some t104)
set_option maxHeartbeats 8000000 in
set_option maxRecDepth 100000 in
theorem zone_Zone_At.calls (a0_0 : ByteArray) (A0_1 : Option Addr) (c0_1 : Nat) (l0_1 : List (S33)) (a0_2 : Int) (a1 : ByteArray) (r : List (S33)) (w : World) (hr0_1 : Kd.C k33 w A0_1 l0_1.length l0_1) (hc0_1 : l0_1.length ≤ c0_1) (h : zone_Zone_At.f a0_0 l0_1 a0_2 a1 = some r) :
  Calls Try.prog 49 #[.agg #[.string a0_0, .slice A0_1 l0_1.length c0_1, .int .i64 a0_2], .string a1] w fun e w' => ∃ v0_ : Value, e = .returned (v0_) ∧ Kd.R k33 33 w' w.heap.size (fun _ => True) v0_ r ∧ Below w.heap.size w w' := by
 have hu27 := Try.underlying27
 have HR0_1 := Aside0.mk hr0_1
 have HC0_1 := Aside0.mk hc0_1
 clear hr0_1 hc0_1
 have HB := Aside0.mk (Below.refl w.heap.size w)
 have H : ((rrset_At.f l0_1 a1).bind fun t104 => (some t104)) = some r := h
 clear h
 replace H := Option.bind_eq_some_iff.mp H
 obtain ⟨t104, A30, H⟩ := H
 replace H : (some t104) = some r := H
 have A3 := Aside0.mk A30
 clear A30
 obtain rfl := Option.some.inj H
 go_enter Try.func49, Try.ntmps49
 go_wp2_with (first | ((with_reducible refine gate_dst (N := 2) rfl ?_); refine box_event ?hg (N := 2) ?hd (cs := #[.string a0_0, .slice A0_1 l0_1.length c0_1, .int .i64 a0_2]) (t := 27) ?hr ?_; (case hd => rfl); (case hg => rfl); (case hr => (go_simp; done)); intro gb103 hg w4 hbox hb; have n0_ := Aside0.mk (below_step (by repeat ((with_reducible (exact HB.out)))) hb); have n1_ := Aside0.mk (hbox); have n2_ := Aside0.mk ((by rw [hg]; exact (below_size (by repeat ((with_reducible (exact HB.out))))) : w.heap.size ≤ gb103)); have n3_ := Aside0.mk ((by rw [hg]; exact (below_size (by repeat ((with_reducible (exact HB.out))))) : w.heap.size ≤ gb103)); clear HB; have HB := n0_; have BK103 := n1_; have GW103 := n2_; have GE103 := n3_; clear n0_ n1_ n2_ n3_; clear hb hbox hg; have hcz5_0 : w4.cell? ⟨gb103, 0, none⟩ = some (.string a0_0) := (blk_cell BK103.out 0).trans rfl; have hcz5_1 : w4.cell? ⟨gb103, 1, none⟩ = some (.slice A0_1 l0_1.length c0_1) := (blk_cell BK103.out 1).trans rfl; have hcz5_2 : w4.cell? ⟨gb103, 2, none⟩ = some (.int .i64 a0_2) := (blk_cell BK103.out 2).trans rfl; have hfz5_0 := blk_frozen BK103.out 0; have hfz5_1 := blk_frozen BK103.out 1; have hfz5_2 := blk_frozen BK103.out 2) | ((with_reducible refine gate_callee (f := 36) rfl ?_); refine goesL_ (some 8) rfl rfl Try.func36 (by kernel_rfl) rfl #[.slice A0_1 l0_1.length c0_1, .string a1] rfl (by (try simp only [List.map_toArray, List.map_cons, List.map_nil]); rfl) ?_; (with_reducible refine (rrset_At.calls _ _ l0_1 a1 t104 _ ?side1 ?side2 A3.out).mono ?_); (case side1 => repeat ((exact (Kd.C_below HR0_1.out HB.out)))); (case side2 => exact HC0_1.out); rintro e w6 ⟨v105, rfl, ho0, hb⟩; refine ⟨_, rfl, ?_⟩; have n0_ := Aside0.mk (Kd.R_lower ho0 (below_size (by repeat ((with_reducible (exact HB.out)))))); have n1_ := Aside0.mk (blk_below (g := gb103) (o := .cells #[.string a0_0, .slice A0_1 l0_1.length c0_1, .int .i64 a0_2] 27 (0, 0)) (by (with_reducible repeat ((refine blk_drewN ?_ _))); exact BK103.out) hb); have n2_ := Aside0.mk (below_step (by repeat ((with_reducible (exact HB.out)))) hb); clear BK103; clear HB; have HO106 := n0_; have BK103 := n1_; have HB := n2_; clear n0_ n1_ n2_; (try clear hb); (try clear ho0)))
 go_ret
 exact ⟨_, by rfl, by (with_reducible repeat ((apply Kd.R_alloc))); exact HO106.out, by repeat ((with_reducible (exact HB.out)))⟩
noncomputable def zone_Zone_Set.f (a0_0 : ByteArray) (l0_1 : List (S33)) (a0_2 : Int) (a1 : ByteArray) (a2 : Int) : Option ((List (S33))) := (zone_Zone_At.f a0_0 l0_1 a0_2 a1).bind fun t108 => ((rrset_Typed.f t108 a2).bind fun t111 => (some t111))
set_option maxHeartbeats 8000000 in
set_option maxRecDepth 100000 in
theorem zone_Zone_Set.calls (a0_0 : ByteArray) (A0_1 : Option Addr) (c0_1 : Nat) (l0_1 : List (S33)) (a0_2 : Int) (a1 : ByteArray) (a2 : Int) (r : List (S33)) (w : World) (hr0_1 : Kd.C k33 w A0_1 l0_1.length l0_1) (hc0_1 : l0_1.length ≤ c0_1) (h : zone_Zone_Set.f a0_0 l0_1 a0_2 a1 a2 = some r) :
  Calls Try.prog 26 #[.agg #[.string a0_0, .slice A0_1 l0_1.length c0_1, .int .i64 a0_2], .string a1, .int .i64 a2] w fun e w' => ∃ v0_ : Value, e = .returned (v0_) ∧ Kd.R k33 33 w' w.heap.size (fun _ => True) v0_ r ∧ Below w.heap.size w w' := by
 have hu27 := Try.underlying27
 have HR0_1 := Aside0.mk hr0_1
 have HC0_1 := Aside0.mk hc0_1
 clear hr0_1 hc0_1
 have HB := Aside0.mk (Below.refl w.heap.size w)
 have H : ((zone_Zone_At.f a0_0 l0_1 a0_2 a1).bind fun t108 => ((rrset_Typed.f t108 a2).bind fun t111 => (some t111))) = some r := h
 clear h
 replace H := Option.bind_eq_some_iff.mp H
 obtain ⟨t108, A40, H⟩ := H
 replace H : ((rrset_Typed.f t108 a2).bind fun t111 => (some t111)) = some r := H
 have A4 := Aside0.mk A40
 clear A40
 replace H := Option.bind_eq_some_iff.mp H
 obtain ⟨t111, A50, H⟩ := H
 replace H : (some t111) = some r := H
 have A5 := Aside0.mk A50
 clear A50
 obtain rfl := Option.some.inj H
 go_enter Try.func26, Try.ntmps26
 go_wp2_with (first | ((with_reducible refine gate_dst (N := 3) rfl ?_); refine box_event ?hg (N := 3) ?hd (cs := #[.string a0_0, .slice A0_1 l0_1.length c0_1, .int .i64 a0_2]) (t := 27) ?hr ?_; (case hd => rfl); (case hg => rfl); (case hr => (go_simp; done)); intro gb107 hg w6 hbox hb; have n0_ := Aside0.mk (below_step (by repeat ((with_reducible (exact HB.out)))) hb); have n1_ := Aside0.mk (hbox); have n2_ := Aside0.mk ((by rw [hg]; exact (below_size (by repeat ((with_reducible (exact HB.out))))) : w.heap.size ≤ gb107)); have n3_ := Aside0.mk ((by rw [hg]; exact (below_size (by repeat ((with_reducible (exact HB.out))))) : w.heap.size ≤ gb107)); clear HB; have HB := n0_; have BK107 := n1_; have GW107 := n2_; have GE107 := n3_; clear n0_ n1_ n2_ n3_; clear hb hbox hg; have hcz7_0 : w6.cell? ⟨gb107, 0, none⟩ = some (.string a0_0) := (blk_cell BK107.out 0).trans rfl; have hcz7_1 : w6.cell? ⟨gb107, 1, none⟩ = some (.slice A0_1 l0_1.length c0_1) := (blk_cell BK107.out 1).trans rfl; have hcz7_2 : w6.cell? ⟨gb107, 2, none⟩ = some (.int .i64 a0_2) := (blk_cell BK107.out 2).trans rfl; have hfz7_0 := blk_frozen BK107.out 0; have hfz7_1 := blk_frozen BK107.out 1; have hfz7_2 := blk_frozen BK107.out 2) | ((with_reducible refine gate_callee (f := 49) rfl ?_); refine goesL_ (some 9) rfl rfl Try.func49 (by kernel_rfl) rfl #[.agg #[.string a0_0, .slice A0_1 l0_1.length c0_1, .int .i64 a0_2], .string a1] rfl (by (try simp only [List.map_toArray, List.map_cons, List.map_nil]); rfl) ?_; (with_reducible refine (zone_Zone_At.calls a0_0 _ _ l0_1 a0_2 a1 t108 _ ?side1 ?side2 A4.out).mono ?_); (case side1 => repeat ((exact (Kd.C_below HR0_1.out HB.out)))); (case side2 => exact HC0_1.out); rintro e w8 ⟨v109, rfl, ho0, hb⟩; refine ⟨_, rfl, ?_⟩; have n0_ := Aside0.mk (Kd.R_lower ho0 (below_size (by repeat ((with_reducible (exact HB.out)))))); have n1_ := Aside0.mk (blk_below (g := gb107) (o := .cells #[.string a0_0, .slice A0_1 l0_1.length c0_1, .int .i64 a0_2] 27 (0, 0)) (by (with_reducible repeat ((refine blk_drewN ?_ _))); exact BK107.out) hb); have n2_ := Aside0.mk (below_step (by repeat ((with_reducible (exact HB.out)))) hb); clear BK107; clear HB; have HO110 := n0_; have BK107 := n1_; have HB := n2_; clear n0_ n1_ n2_; (try clear hb); (try clear ho0); obtain ⟨Ao9, co9, eo9⟩ := Kd.R_slice HO110.out; subst eo9) | ((with_reducible refine gate_callee (f := 25) rfl ?_); refine goesL_ (some 11) rfl rfl Try.func25 (by kernel_rfl) rfl #[.slice Ao9 t108.length co9, .int .i64 a2] rfl (by (try simp only [List.map_toArray, List.map_cons, List.map_nil]); rfl) ?_; (with_reducible refine (rrset_Typed.calls _ _ t108 a2 t111 _ ?side1 ?side2 A5.out).mono ?_); (case side1 => repeat ((exact (Kd.R_reads' HO110.out).2.2))); (case side2 => exact (Kd.R_reads' HO110.out).2.1); rintro e w10 ⟨v112, rfl, ho0, hb⟩; refine ⟨_, rfl, ?_⟩; have n0_ := Aside0.mk (Kd.R_elder' (by (with_reducible repeat ((apply Kd.R_alloc))); exact HO110.out) (Kd.R_base ho0) hb); have n1_ := Aside0.mk (Kd.R_lower (Kd.R_new' ho0 (Kd.R_lt (by (with_reducible repeat ((apply Kd.R_alloc))); exact HO110.out))) (below_size (by repeat ((with_reducible (exact HB.out)))))); have n2_ := Aside0.mk (blk_below (g := gb107) (o := .cells #[.string a0_0, .slice A0_1 l0_1.length c0_1, .int .i64 a0_2] 27 (0, 0)) (by (with_reducible repeat ((refine blk_drewN ?_ _))); exact BK107.out) hb); have n3_ := Aside0.mk (below_step (by repeat ((with_reducible (exact HB.out)))) hb); clear HO110; clear BK107; clear HB; have HO110 := n0_; have HO113 := n1_; have BK107 := n2_; have HB := n3_; clear n0_ n1_ n2_ n3_; (try clear hb); (try clear ho0)))
 go_ret
 exact ⟨_, by rfl, by (with_reducible repeat ((apply Kd.R_alloc))); exact Kd.R_mono HO113.out (fun _ hk => trivial), by repeat ((with_reducible (exact HB.out)))⟩
noncomputable def zone_Zone_All.f (a0_0 : ByteArray) (l0_1 : List (S33)) (a0_2 : Int) : Option ((List (S33))) := (slices_Clone.f l0_1).bind fun t115 => (some t115)
set_option maxHeartbeats 8000000 in
set_option maxRecDepth 100000 in
theorem zone_Zone_All.calls (a0_0 : ByteArray) (A0_1 : Option Addr) (c0_1 : Nat) (l0_1 : List (S33)) (a0_2 : Int) (r : List (S33)) (w : World) (hr0_1 : Kd.C k33 w A0_1 l0_1.length l0_1) (hc0_1 : l0_1.length ≤ c0_1) (h : zone_Zone_All.f a0_0 l0_1 a0_2 = some r) :
  Calls Try.prog 11 #[.agg #[.string a0_0, .slice A0_1 l0_1.length c0_1, .int .i64 a0_2]] w fun e w' => ∃ v0_ : Value, e = .returned (v0_) ∧ Kd.R k33 33 w' w.heap.size (fun _ => True) v0_ r ∧ Below w.heap.size w w' := by
 have hu27 := Try.underlying27
 have HR0_1 := Aside0.mk hr0_1
 have HC0_1 := Aside0.mk hc0_1
 clear hr0_1 hc0_1
 have HB := Aside0.mk (Below.refl w.heap.size w)
 have H : ((slices_Clone.f l0_1).bind fun t115 => (some t115)) = some r := h
 clear h
 replace H := Option.bind_eq_some_iff.mp H
 obtain ⟨t115, A20, H⟩ := H
 replace H : (some t115) = some r := H
 have A2 := Aside0.mk A20
 clear A20
 obtain rfl := Option.some.inj H
 go_enter Try.func11, Try.ntmps11
 go_wp2_with (first | ((with_reducible refine gate_dst (N := 1) rfl ?_); refine box_event ?hg (N := 1) ?hd (cs := #[.string a0_0, .slice A0_1 l0_1.length c0_1, .int .i64 a0_2]) (t := 27) ?hr ?_; (case hd => rfl); (case hg => rfl); (case hr => (go_simp; done)); intro gb114 hg w3 hbox hb; have n0_ := Aside0.mk (below_step (by repeat ((with_reducible (exact HB.out)))) hb); have n1_ := Aside0.mk (hbox); have n2_ := Aside0.mk ((by rw [hg]; exact (below_size (by repeat ((with_reducible (exact HB.out))))) : w.heap.size ≤ gb114)); have n3_ := Aside0.mk ((by rw [hg]; exact (below_size (by repeat ((with_reducible (exact HB.out))))) : w.heap.size ≤ gb114)); clear HB; have HB := n0_; have BK114 := n1_; have GW114 := n2_; have GE114 := n3_; clear n0_ n1_ n2_ n3_; clear hb hbox hg; have hcz4_0 : w3.cell? ⟨gb114, 0, none⟩ = some (.string a0_0) := (blk_cell BK114.out 0).trans rfl; have hcz4_1 : w3.cell? ⟨gb114, 1, none⟩ = some (.slice A0_1 l0_1.length c0_1) := (blk_cell BK114.out 1).trans rfl; have hcz4_2 : w3.cell? ⟨gb114, 2, none⟩ = some (.int .i64 a0_2) := (blk_cell BK114.out 2).trans rfl; have hfz4_0 := blk_frozen BK114.out 0; have hfz4_1 := blk_frozen BK114.out 1; have hfz4_2 := blk_frozen BK114.out 2) | ((with_reducible refine gate_callee (f := 32) rfl ?_); refine goesL_ (some 5) rfl rfl Try.func32 (by kernel_rfl) rfl #[.slice A0_1 l0_1.length c0_1] rfl (by (try simp only [List.map_toArray, List.map_cons, List.map_nil]); rfl) ?_; (with_reducible refine (slices_Clone.calls _ _ l0_1 t115 _ ?side1 ?side2 A2.out).mono ?_); (case side1 => repeat ((exact (Kd.C_below HR0_1.out HB.out)))); (case side2 => exact HC0_1.out); rintro e w5 ⟨v116, rfl, ho0, hb⟩; refine ⟨_, rfl, ?_⟩; have n0_ := Aside0.mk (Kd.R_lower ho0 (below_size (by repeat ((with_reducible (exact HB.out)))))); have n1_ := Aside0.mk (blk_below (g := gb114) (o := .cells #[.string a0_0, .slice A0_1 l0_1.length c0_1, .int .i64 a0_2] 27 (0, 0)) (by (with_reducible repeat ((refine blk_drewN ?_ _))); exact BK114.out) hb); have n2_ := Aside0.mk (below_step (by repeat ((with_reducible (exact HB.out)))) hb); clear BK114; clear HB; have HO117 := n0_; have BK114 := n1_; have HB := n2_; clear n0_ n1_ n2_; (try clear hb); (try clear ho0)))
 go_ret
 exact ⟨_, by rfl, by (with_reducible repeat ((apply Kd.R_alloc))); exact HO117.out, by repeat ((with_reducible (exact HB.out)))⟩
end Go.Proofs.Ytehdkopjgcoclaa.PZo
namespace Go.Proofs.Ytehdkopjgcoclaa.PRr
open Go.RowKit Go.Proofs.YtehdkopjgcoclaaW.PrintWords Go.Proofs.YtehdkopjgcoclaaW.PrintLast Go.Proofs.YtehdkopjgcoclaaW.PrintMore Go.Proofs.Ytehdkopjgcoclaa.Given Go.Proofs.Ytehdkopjgcoclaa.PRd
attribute [local go_sem] max2_int min2_int max_two min_two max_three min_three max_four min_four   -- for this text's walks alone
set_option linter.unusedVariables false
set_option linter.unusedSimpArgs false
def zone_apart.T5 : Bool × List (List Nat × List Nat) := (true, [([], []), ([0], [0]), ([1], [1]), ([2], [2]), ([2], [2]), ([4, 2], [2, 4]), ([3, 5, 2], [2, 3, 5]), ([6, 2], [2, 6]), ([7, 2], [2, 7]), ([2], [2]), ([9, 2], [2, 9]), ([8, 10, 2, 2], [2, 8, 10]), ([2, 11], [2, 11]), ([12, 11], [12]), ([13], [13]), ([14, 13], [13, 14]), ([13], [13]), ([16, 13], [13, 16]), ([15, 17, 13], [13, 15, 17]), ([18, 13, 13], [13, 18]), ([19], [19]), ([19], [19]), ([21, 19], [19, 21]), ([20, 22, 19], [19, 20, 22]), ([23, 19], [19, 23]), ([24, 19], [19, 24]), ([19], [19]), ([26, 19], [19, 26]), ([25, 27, 19, 19], [19, 25, 27]), ([19, 28, 13], [13, 19, 28]), ([13, 29], [13, 29])])
def zone_apart.B5 : List Nat := [0, 1, 3, 7, 7, 23, 63, 127, 255, 7, 519, 2047, 4095, 8191, 16383, 32767, 16383, 81919, 262143, 524287, 1048575, 1048575, 3145727, 8388607, 16777215, 33554431, 1048575, 68157439, 268435455, 536870911, 1073741823]
theorem zone_apart.tab5 : rtab .any (opsOf Try.f30 5) = zone_apart.T5 := by kernel_rfl
theorem zone_apart.bits5 : waitsOk zone_apart.T5.2 zone_apart.B5 = true := by kernel_rfl
end Go.Proofs.Ytehdkopjgcoclaa.PRr
namespace Go.Proofs.Ytehdkopjgcoclaa.PZa
open Go.RowKit Go.Proofs.YtehdkopjgcoclaaW.PrintWords Go.Proofs.YtehdkopjgcoclaaW.PrintLast Go.Proofs.YtehdkopjgcoclaaW.PrintMore Go.Proofs.Ytehdkopjgcoclaa.Given Go.Proofs.Ytehdkopjgcoclaa.PRd Go.Proofs.Ytehdkopjgcoclaa.PRr
attribute [local go_sem] max2_int min2_int max_two min_two max_three min_three max_four min_four   -- for this text's walks alone
set_option linter.unusedVariables false
set_option linter.unusedSimpArgs false
def errW : Option Int → Value
 | none => .nilIface
 | some c => .iface 0 (.int .i64 c)
theorem errW_none : errW none = .nilIface := rfl
theorem errW_some (c : Int) : errW (some c) = .iface 0 (.int .i64 c) := rfl
end Go.Proofs.Ytehdkopjgcoclaa.PZa
namespace Go.Proofs.Ytehdkopjgcoclaa.PZa
open Go.RowKit Go.Proofs.YtehdkopjgcoclaaW.PrintWords Go.Proofs.YtehdkopjgcoclaaW.PrintLast Go.Proofs.YtehdkopjgcoclaaW.PrintMore Go.Proofs.Ytehdkopjgcoclaa.Given Go.Proofs.Ytehdkopjgcoclaa.PRd Go.Proofs.Ytehdkopjgcoclaa.PRr
attribute [local go_sem] max2_int min2_int max_two min_two max_three min_three max_four min_four   -- for this text's walks alone
set_option linter.unusedVariables false
set_option linter.unusedSimpArgs false
noncomputable def zone_apartZ.l0 : Nat → List (S33) → List (S33) → Int → Int → Option (Bool)
 | 0, _, _, _, _ => none
 | k + 1, x0, x5, x6, x7 => if x7 < x6 then (if 0 ≤ x7 then (if x7 < (x5.length : Int) then (if ((rd_T33 x5 x7).f1) = 5 then (if x7 > 0 then (none) else (if (wrap64 (x7 + 1)) < (x0.length : Int) then (none) else (zone_apartZ.l0 k x0 x5 x6 (wrap64 (x7 + 1))))) else (zone_apartZ.l0 k x0 x5 x6 (wrap64 (x7 + 1)))) else (none)) else (none)) else (some true)
noncomputable def zone_apartZ.f (k : Nat) (l0 : List (S33)) : Option (Bool) := zone_apartZ.l0 k l0 l0 (l0.length : Int) 0
def zone_apartZ.T5 : Bool × List (List Nat × List Nat) := (true, [([], []), ([0], [0]), ([1], [1]), ([2], [2]), ([2], [2]), ([4, 2], [2, 4]), ([3, 5, 2], [2, 3, 5]), ([6, 2], [2, 6]), ([7, 2], [2, 7]), ([2], [2]), ([9, 2], [2, 9]), ([8, 10, 2, 2], [2, 8, 10]), ([2, 11], [2, 11]), ([12, 11], [12]), ([13], [13]), ([14, 13], [13, 14]), ([13], [13]), ([16, 13], [13, 16]), ([15, 17, 13], [13, 15, 17]), ([18, 13, 13], [13, 18]), ([19], [19]), ([19], [19]), ([21, 19], [19, 21]), ([20, 22, 19], [19, 20, 22]), ([23, 19], [19, 23]), ([24, 19], [19, 24]), ([19], [19]), ([26, 19], [19, 26]), ([25, 27, 19, 19], [19, 25, 27]), ([19, 28, 13], [13, 19, 28]), ([13, 29], [13, 29])])
def zone_apartZ.B5 : List Nat := [0, 1, 3, 7, 7, 23, 63, 127, 255, 7, 519, 2047, 4095, 8191, 16383, 32767, 16383, 81919, 262143, 524287, 1048575, 1048575, 3145727, 8388607, 16777215, 33554431, 1048575, 68157439, 268435455, 536870911, 1073741823]
theorem zone_apartZ.tab5 : rtab .any (opsOf Try.f30 5) = zone_apartZ.T5 := by kernel_rfl
theorem zone_apartZ.bits5 : waitsOk zone_apartZ.T5.2 zone_apartZ.B5 = true := by kernel_rfl
set_option maxHeartbeats 8000000 in
set_option maxRecDepth 100000 in
theorem zone_apartZ.calls (k : Nat) (A0 : Option Addr) (c0 : Nat) (l0 : List (S33)) (r : Bool) (w : World) (hr0 : Kd.C k33 w A0 l0.length l0) (hc0 : l0.length ≤ c0) (h : zone_apartZ.f k l0 = some r) :
  Calls Try.prog 30 #[.slice A0 l0.length c0] w fun e w' => e = .returned (.bool r) ∧ Below w.heap.size w w' := by
 have hu33 := Try.underlying33
 have HR0 := Aside0.mk hr0
 have HC0 := Aside0.mk hc0
 clear hr0 hc0
 have HB := Aside0.mk (Below.refl w.heap.size w)
 have H : (zone_apartZ.l0 k l0 l0 (l0.length : Int) 0) = some r := h
 clear h
 have H' := Aside0.mk H
 clear H
 go_enter Try.func30, Try.ntmps30
 go_wp2
 go_loopg [7] k (fun kq v7 w' => ∃ (x7_1 : Int), v7 = .int .i64 x7_1 ∧ Aside0 (zone_apartZ.l0 kq l0 l0 (l0.length : Int) x7_1 = some r) ∧ Aside0 (kq ≤ k) ∧ Aside0 (Below w.heap.size w w'))
 case atStart => exact ⟨(0), (by first | rfl | (simp; done) | (simp [*]; done)), H', ⟨Nat.le_refl _⟩, ⟨by repeat (first | (with_reducible first | exact HB.out | apply below_alloc | apply pw_below_drewN | apply below_drew1) | exact HB.out)⟩⟩
 case round =>
  clear H'
  obtain ⟨x7_1, rfl, HA, HK1, HB⟩ := hrel
  cases gk with
  | zero => exact absurd HA.out (by simp [zone_apartZ.l0])
  | succ k1 =>
   have H := HA.out
   clear HA
   simp only [zone_apartZ.l0] at H
   by_cases c2 : x7_1 < (l0.length : Int)
   ·rw [if_pos c2] at H
    have c2b0 : decide (x7_1 < (l0.length : Int)) = true := decide_eq_true c2
    clear c2
    by_cases c3 : 0 ≤ x7_1
    ·rw [if_pos c3] at H
     have c3b0 : decide (0 ≤ x7_1) = true := decide_eq_true c3
     clear c3
     by_cases c4 : x7_1 < (l0.length : Int)
     ·rw [if_pos c4] at H
      have c4b0 : decide (x7_1 < (l0.length : Int)) = true := decide_eq_true c4
      clear c4
      by_cases c5 : ((rd_T33 l0 x7_1).f1) = 5
      ·rw [if_pos c5] at H
       have c5b0 : (((rd_T33 l0 x7_1).f1) == 5) = true := beq_iff_eq.mpr c5
       have c5b1 : (((rd_T33 l0 x7_1).f1) != 5) = false := bne_eq_false_iff_eq.mpr c5
       clear c5
       by_cases c6 : x7_1 > 0
       ·rw [if_pos c6] at H
        exact absurd H (by simp)
       ·rw [if_neg c6] at H
        have c6b0 : decide (0 < x7_1) = false := decide_eq_false c6
        clear c6
        by_cases c7 : (wrap64 (x7_1 + 1)) < (l0.length : Int)
        ·rw [if_pos c7] at H
         exact absurd H (by simp)
        ·rw [if_neg c7] at H
         have c7b0 : decide ((wrap64 (x7_1 + 1)) < (l0.length : Int)) = false := decide_eq_false c7
         clear c7
         have H' := Aside0.mk H
         clear H
         have p101 : 0 ≤ (x7_1 : Int) := of_decide_eq_true (by first | (with_reducible assumption) | assumption)
         have q101 : x7_1 < (l0.length : Int) := of_decide_eq_true (by first | (with_reducible assumption) | assumption)
         obtain ⟨ad101, e101, hx101_0, hx101_1, hx101_2, hx101_3, hx101_4⟩ := at_T33 HR0.out x7_1 p101 q101
         cases e101
         replace hx101_0 := (HB.out.cell (World.block_lt_of_cell? w _ hx101_0)).trans hx101_0
         replace hx101_1 := (HB.out.cell (World.block_lt_of_cell? w _ hx101_1)).trans hx101_1
         replace hx101_2 := (HB.out.cell (World.block_lt_of_cell? w _ hx101_2)).trans hx101_2
         replace hx101_3 := (HB.out.cell (World.block_lt_of_cell? w _ hx101_3)).trans hx101_3
         replace hx101_4 := (HB.out.cell (World.block_lt_of_cell? w _ hx101_4)).trans hx101_4
         replace p101 := eq_true p101
         replace q101 := eq_true q101
         try go_wp2_with (first | ((with_reducible refine gate_dst (N := 4) rfl ?_); (try (refine gate_guard (by rfl) ?_; dsimp only)); refine box_event ?hg (N := 4) ?hd (cs := #[.string (⟨#[]⟩ : ByteArray), .int .i64 0, .int .i64 0, .int .i64 0, .string (⟨#[]⟩ : ByteArray)]) (t := 33) ?hr ?_; (case hd => rfl); (case hg => rfl); (case hr => first | (go_simp; done) | (go_simp; rfl)); intro gb102 hg w8 hbox hb; have n0_ := Aside0.mk (below_step (by repeat (first | (with_reducible first | exact HB.out | apply below_alloc | apply pw_below_drewN | apply below_drew1) | exact HB.out)) hb); have n1_ := Aside0.mk (hbox); have n2_ := Aside0.mk ((by rw [hg]; exact (below_size (by repeat (first | (with_reducible first | exact HB.out | apply below_alloc | apply pw_below_drewN | apply below_drew1) | exact HB.out))) : w.heap.size ≤ gb102)); have n3_ := Aside0.mk ((by rw [hg]; exact (below_size (by repeat (first | (with_reducible first | exact HB.out | apply below_alloc | apply pw_below_drewN | apply below_drew1) | exact HB.out))) : w.heap.size ≤ gb102)); clear HB; have HB := n0_; have BK102 := n1_; have GW102 := n2_; have GE102 := n3_; clear n0_ n1_ n2_ n3_; clear hb hbox hg; have hcz9_0 : w8.cell? ⟨gb102, 0, none⟩ = some (.string (⟨#[]⟩ : ByteArray)) := (blk_cell BK102.out 0).trans rfl; have hcz9_1 : w8.cell? ⟨gb102, 1, none⟩ = some (.int .i64 0) := (blk_cell BK102.out 1).trans rfl; have hcz9_2 : w8.cell? ⟨gb102, 2, none⟩ = some (.int .i64 0) := (blk_cell BK102.out 2).trans rfl; have hcz9_3 : w8.cell? ⟨gb102, 3, none⟩ = some (.int .i64 0) := (blk_cell BK102.out 3).trans rfl; have hcz9_4 : w8.cell? ⟨gb102, 4, none⟩ = some (.string (⟨#[]⟩ : ByteArray)) := (blk_cell BK102.out 4).trans rfl; have hfz9_0 := blk_frozen BK102.out 0; have hfz9_1 := blk_frozen BK102.out 1; have hfz9_2 := blk_frozen BK102.out 2; have hfz9_3 := blk_frozen BK102.out 3; have hfz9_4 := blk_frozen BK102.out 4))
         have n0_ : Aside0 ((((((w8.setCell ⟨gb102, 0, none⟩ (.string ((rd_T33 l0 x7_1).f0))).setCell ⟨gb102, 1, none⟩ (.int .i64 ((rd_T33 l0 x7_1).f1))).setCell ⟨gb102, 2, none⟩ (.int .i64 ((rd_T33 l0 x7_1).f2))).setCell ⟨gb102, 3, none⟩ (.int .i64 ((rd_T33 l0 x7_1).f3))).setCell ⟨gb102, 4, none⟩ (.string ((rd_T33 l0 x7_1).f4))).heap[gb102]? = some (.cells #[.string ((rd_T33 l0 x7_1).f0), .int .i64 ((rd_T33 l0 x7_1).f1), .int .i64 ((rd_T33 l0 x7_1).f2), .int .i64 ((rd_T33 l0 x7_1).f3), .string ((rd_T33 l0 x7_1).f4)] 33 (0, 0))) := ⟨by (with_reducible repeat (first | refine blk_drewN ?_ _ | refine blk_drew ?_ | refine blk_alloc ?_ _)); refine blk_put (cs := #[.string ((rd_T33 l0 x7_1).f0), .int .i64 ((rd_T33 l0 x7_1).f1), .int .i64 ((rd_T33 l0 x7_1).f2), .int .i64 ((rd_T33 l0 x7_1).f3), .string (⟨#[]⟩ : ByteArray)]) ?_ 4 _ rfl; (with_reducible repeat (first | refine blk_drewN ?_ _ | refine blk_drew ?_ | refine blk_alloc ?_ _)); refine blk_put (cs := #[.string ((rd_T33 l0 x7_1).f0), .int .i64 ((rd_T33 l0 x7_1).f1), .int .i64 ((rd_T33 l0 x7_1).f2), .int .i64 0, .string (⟨#[]⟩ : ByteArray)]) ?_ 3 _ rfl; (with_reducible repeat (first | refine blk_drewN ?_ _ | refine blk_drew ?_ | refine blk_alloc ?_ _)); refine blk_put (cs := #[.string ((rd_T33 l0 x7_1).f0), .int .i64 ((rd_T33 l0 x7_1).f1), .int .i64 0, .int .i64 0, .string (⟨#[]⟩ : ByteArray)]) ?_ 2 _ rfl; (with_reducible repeat (first | refine blk_drewN ?_ _ | refine blk_drew ?_ | refine blk_alloc ?_ _)); refine blk_put (cs := #[.string ((rd_T33 l0 x7_1).f0), .int .i64 0, .int .i64 0, .int .i64 0, .string (⟨#[]⟩ : ByteArray)]) ?_ 1 _ rfl; (with_reducible repeat (first | refine blk_drewN ?_ _ | refine blk_drew ?_ | refine blk_alloc ?_ _)); refine blk_put (cs := #[.string (⟨#[]⟩ : ByteArray), .int .i64 0, .int .i64 0, .int .i64 0, .string (⟨#[]⟩ : ByteArray)]) ?_ 0 _ rfl; (with_reducible repeat (first | refine blk_drewN ?_ _ | refine blk_drew ?_ | refine blk_alloc ?_ _)); exact BK102.out⟩
         have n1_ : Aside0 (Below w.heap.size w (((((w8.setCell ⟨gb102, 0, none⟩ (.string ((rd_T33 l0 x7_1).f0))).setCell ⟨gb102, 1, none⟩ (.int .i64 ((rd_T33 l0 x7_1).f1))).setCell ⟨gb102, 2, none⟩ (.int .i64 ((rd_T33 l0 x7_1).f2))).setCell ⟨gb102, 3, none⟩ (.int .i64 ((rd_T33 l0 x7_1).f3))).setCell ⟨gb102, 4, none⟩ (.string ((rd_T33 l0 x7_1).f4)))) := ⟨by repeat (first | (with_reducible first | exact HB.out | apply below_alloc | apply pw_below_drewN | apply below_drew1 | refine below_set ?_ GE102.out) | exact HB.out)⟩
         (try clear BK102)
         (try clear HB)
         generalize (((((w8.setCell ⟨gb102, 0, none⟩ (.string ((rd_T33 l0 x7_1).f0))).setCell ⟨gb102, 1, none⟩ (.int .i64 ((rd_T33 l0 x7_1).f1))).setCell ⟨gb102, 2, none⟩ (.int .i64 ((rd_T33 l0 x7_1).f2))).setCell ⟨gb102, 3, none⟩ (.int .i64 ((rd_T33 l0 x7_1).f3))).setCell ⟨gb102, 4, none⟩ (.string ((rd_T33 l0 x7_1).f4))) = w10 at n0_ n1_ ⊢
         have BK102 := n0_
         have HB := n1_
         clear n0_ n1_
         have n0_ := Aside0.mk (blk_drew BK102.out)
         have n1_ := Aside0.mk (below_drew1 HB.out)
         clear BK102
         clear HB
         have BK102 := n0_
         have HB := n1_
         clear n0_ n1_
         refine start_ (n := 31) (S := fun w' => True) (ds := []) #[false, false, false, false, false, false, false, false, false, false, false, false, false, false, false, false, false, false, false, false, false, false, false, false, false, false, false, false, false, false, false] (by kernel_rfl) rfl rfl trivial (fun hHeld => ?_); refine with_tabW zone_apartZ.tab5 zone_apartZ.bits5 (fun HT_ HW_ => ?_)
         generalize w10.drew = w11 at BK102 HB hHeld ⊢
         refine pure_ (i := 0) (N := some 15) (v := ?_) (a' := ?_) #[true, false, false, false, false, false, false, false, false, false, false, false, false, false, false, false, false, false, false, false, false, false, false, false, false, false, false, false, false, false, false] rfl rfl (any_of HT_.out (by kernel_rfl)) (fun _ _ _ h => h) (Or.inl ⟨by rfl, ?_⟩) ?_ ?_
         rotate_left
         ·intro w'
          go_simp
          with_reducible rfl
         rotate_left
         ·simp only [Act.put, List.setIfInBounds_toArray, List.set_cons_zero, List.set_cons_succ, i64_w, i32_w]
          rfl
         refine pure_ (i := 1) (N := some 16) (v := ?_) (a' := ?_) #[true, true, false, false, false, false, false, false, false, false, false, false, false, false, false, false, false, false, false, false, false, false, false, false, false, false, false, false, false, false, false] rfl rfl (any_of HT_.out (by kernel_rfl)) (fun _ _ _ h => h) (Or.inl ⟨by rfl, ?_⟩) ?_ ?_
         rotate_left
         ·intro w'
          go_simp
          with_reducible rfl
         rotate_left
         ·simp only [Act.put, List.setIfInBounds_toArray, List.set_cons_zero, List.set_cons_succ, i64_w, i32_w]
          rfl
         refine pure_ (i := 2) (N := some 17) (v := ?_) (a' := ?_) #[true, true, true, false, false, false, false, false, false, false, false, false, false, false, false, false, false, false, false, false, false, false, false, false, false, false, false, false, false, false, false] rfl rfl (any_of HT_.out (by kernel_rfl)) (fun _ _ _ h => h) (Or.inl ⟨by rfl, ?_⟩) ?_ ?_
         rotate_left
         ·intro w'
          go_simp
          with_reducible rfl
         rotate_left
         ·simp only [Act.put, List.setIfInBounds_toArray, List.set_cons_zero, List.set_cons_succ, i64_w, i32_w]
          rfl
         refine pure_ (i := 3) (N := some 18) (v := undef) (a' := ?_) #[true, true, true, true, false, false, false, false, false, false, false, false, false, false, false, false, false, false, false, false, false, false, false, false, false, false, false, false, false, false, false] rfl rfl (any_of HT_.out (by kernel_rfl)) (fun _ _ _ h => h) (Or.inr ⟨by rfl, rfl⟩) ?_ ?_
         rotate_left
         ·simp only [Act.put, List.setIfInBounds_toArray, List.set_cons_zero, List.set_cons_succ, i64_w, i32_w]
          rfl
         refine pure_ (i := 4) (N := some 19) (v := undef) (a' := ?_) #[true, true, true, true, true, false, false, false, false, false, false, false, false, false, false, false, false, false, false, false, false, false, false, false, false, false, false, false, false, false, false] rfl rfl (any_of HT_.out (by kernel_rfl)) (fun _ _ _ h => h) (Or.inr ⟨by rfl, rfl⟩) ?_ ?_
         rotate_left
         ·simp only [Act.put, List.setIfInBounds_toArray, List.set_cons_zero, List.set_cons_succ, i64_w, i32_w]
          rfl
         refine pure_ (i := 5) (N := some 20) (v := undef) (a' := ?_) #[true, true, true, true, true, true, false, false, false, false, false, false, false, false, false, false, false, false, false, false, false, false, false, false, false, false, false, false, false, false, false] rfl rfl (any_of HT_.out (by kernel_rfl)) (fun _ _ _ h => h) (Or.inr ⟨by rfl, rfl⟩) ?_ ?_
         rotate_left
         ·simp only [Act.put, List.setIfInBounds_toArray, List.set_cons_zero, List.set_cons_succ, i64_w, i32_w]
          rfl
         refine pure_ (i := 6) (N := some 21) (v := undef) (a' := ?_) #[true, true, true, true, true, true, true, false, false, false, false, false, false, false, false, false, false, false, false, false, false, false, false, false, false, false, false, false, false, false, false] rfl rfl (any_of HT_.out (by kernel_rfl)) (fun _ _ _ h => h) (Or.inr ⟨by rfl, rfl⟩) ?_ ?_
         rotate_left
         ·simp only [Act.put, List.setIfInBounds_toArray, List.set_cons_zero, List.set_cons_succ, i64_w, i32_w]
          rfl
         refine pure_ (i := 7) (N := some 22) (v := undef) (a' := ?_) #[true, true, true, true, true, true, true, true, false, false, false, false, false, false, false, false, false, false, false, false, false, false, false, false, false, false, false, false, false, false, false] rfl rfl (any_of HT_.out (by kernel_rfl)) (fun _ _ _ h => h) (Or.inr ⟨by rfl, rfl⟩) ?_ ?_
         rotate_left
         ·simp only [Act.put, List.setIfInBounds_toArray, List.set_cons_zero, List.set_cons_succ, i64_w, i32_w]
          rfl
         refine pure_ (i := 8) (N := some 23) (v := undef) (a' := ?_) #[true, true, true, true, true, true, true, true, true, false, false, false, false, false, false, false, false, false, false, false, false, false, false, false, false, false, false, false, false, false, false] rfl rfl (any_of HT_.out (by kernel_rfl)) (fun _ _ _ h => h) (Or.inr ⟨by rfl, rfl⟩) ?_ ?_
         rotate_left
         ·simp only [Act.put, List.setIfInBounds_toArray, List.set_cons_zero, List.set_cons_succ, i64_w, i32_w]
          rfl
         refine pure_ (i := 9) (N := some 24) (v := undef) (a' := ?_) #[true, true, true, true, true, true, true, true, true, true, false, false, false, false, false, false, false, false, false, false, false, false, false, false, false, false, false, false, false, false, false] rfl rfl (any_of HT_.out (by kernel_rfl)) (fun _ _ _ h => h) (Or.inr ⟨by rfl, rfl⟩) ?_ ?_
         rotate_left
         ·simp only [Act.put, List.setIfInBounds_toArray, List.set_cons_zero, List.set_cons_succ, i64_w, i32_w]
          rfl
         refine pure_ (i := 10) (N := some 25) (v := undef) (a' := ?_) #[true, true, true, true, true, true, true, true, true, true, true, false, false, false, false, false, false, false, false, false, false, false, false, false, false, false, false, false, false, false, false] rfl rfl (any_of HT_.out (by kernel_rfl)) (fun _ _ _ h => h) (Or.inr ⟨by rfl, rfl⟩) ?_ ?_
         rotate_left
         ·simp only [Act.put, List.setIfInBounds_toArray, List.set_cons_zero, List.set_cons_succ, i64_w, i32_w]
          rfl
         refine pure_ (i := 11) (N := some 26) (v := undef) (a' := ?_) #[true, true, true, true, true, true, true, true, true, true, true, true, false, false, false, false, false, false, false, false, false, false, false, false, false, false, false, false, false, false, false] rfl rfl (any_of HT_.out (by kernel_rfl)) (fun _ _ _ h => h) (Or.inr ⟨by rfl, rfl⟩) ?_ ?_
         rotate_left
         ·simp only [Act.put, List.setIfInBounds_toArray, List.set_cons_zero, List.set_cons_succ, i64_w, i32_w]
          rfl
         refine pure_ (i := 12) (N := some 27) (v := ?_) (a' := ?_) #[true, true, true, true, true, true, true, true, true, true, true, true, true, false, false, false, false, false, false, false, false, false, false, false, false, false, false, false, false, false, false] rfl rfl (any_of HT_.out (by kernel_rfl)) (fun _ _ _ h => h) (Or.inl ⟨by rfl, ?_⟩) ?_ ?_
         rotate_left
         ·intro w'
          go_simp
          with_reducible rfl
         rotate_left
         ·simp only [Act.put, List.setIfInBounds_toArray, List.set_cons_zero, List.set_cons_succ, i64_w, i32_w]
          rfl
         refine pure_ (i := 13) (N := some 28) (v := ?_) (a' := ?_) #[true, true, true, true, true, true, true, true, true, true, true, true, true, true, false, false, false, false, false, false, false, false, false, false, false, false, false, false, false, false, false] rfl rfl (any_of HT_.out (by kernel_rfl)) (fun _ _ _ h => h) (Or.inl ⟨by rfl, ?_⟩) ?_ ?_
         rotate_left
         ·intro w'
          go_simp
          with_reducible rfl
         rotate_left
         ·simp only [Act.put, List.setIfInBounds_toArray, List.set_cons_zero, List.set_cons_succ, i64_w, i32_w]
          rfl
         refine pure_ (i := 14) (N := some 29) (v := ?_) (a' := ?_) #[true, true, true, true, true, true, true, true, true, true, true, true, true, true, true, false, false, false, false, false, false, false, false, false, false, false, false, false, false, false, false] rfl rfl (any_of HT_.out (by kernel_rfl)) (fun _ _ _ h => h) (Or.inl ⟨by rfl, ?_⟩) ?_ ?_
         rotate_left
         ·intro w'
          go_simp
          with_reducible rfl
         rotate_left
         ·simp only [Act.put, List.setIfInBounds_toArray, List.set_cons_zero, List.set_cons_succ, i64_w, i32_w]
          rfl
         refine pure_ (i := 15) (N := some 30) (v := ?_) (a' := ?_) #[true, true, true, true, true, true, true, true, true, true, true, true, true, true, true, true, false, false, false, false, false, false, false, false, false, false, false, false, false, false, false] rfl rfl (any_of HT_.out (by kernel_rfl)) (fun _ _ _ h => h) (Or.inl ⟨by rfl, ?_⟩) ?_ ?_
         rotate_left
         ·intro w'
          go_simp
          with_reducible rfl
         rotate_left
         ·simp only [Act.put, List.setIfInBounds_toArray, List.set_cons_zero, List.set_cons_succ, i64_w, i32_w]
          rfl
         refine pure_ (i := 16) (N := some 31) (v := ?_) (a' := ?_) #[true, true, true, true, true, true, true, true, true, true, true, true, true, true, true, true, true, false, false, false, false, false, false, false, false, false, false, false, false, false, false] rfl rfl (any_of HT_.out (by kernel_rfl)) (fun _ _ _ h => h) (Or.inl ⟨by rfl, ?_⟩) ?_ ?_
         rotate_left
         ·intro w'
          go_simp
          with_reducible rfl
         rotate_left
         ·simp only [Act.put, List.setIfInBounds_toArray, List.set_cons_zero, List.set_cons_succ, i64_w, i32_w]
          rfl
         refine pure_ (i := 17) (N := some 32) (v := ?_) (a' := ?_) #[true, true, true, true, true, true, true, true, true, true, true, true, true, true, true, true, true, true, false, false, false, false, false, false, false, false, false, false, false, false, false] rfl rfl (any_of HT_.out (by kernel_rfl)) (fun _ _ _ h => h) (Or.inl ⟨by rfl, ?_⟩) ?_ ?_
         rotate_left
         ·intro w'
          go_simp
          with_reducible rfl
         rotate_left
         ·simp only [Act.put, List.setIfInBounds_toArray, List.set_cons_zero, List.set_cons_succ, i64_w, i32_w]
          rfl
         refine pure_ (i := 18) (N := some 33) (v := ?_) (a' := ?_) #[true, true, true, true, true, true, true, true, true, true, true, true, true, true, true, true, true, true, true, false, false, false, false, false, false, false, false, false, false, false, false] rfl rfl (any_of HT_.out (by kernel_rfl)) (fun _ _ _ h => h) (Or.inl ⟨by rfl, ?_⟩) ?_ ?_
         rotate_left
         ·intro w'
          go_simp
          with_reducible rfl
         rotate_left
         ·simp only [Act.put, List.setIfInBounds_toArray, List.set_cons_zero, List.set_cons_succ, i64_w, i32_w]
          rfl
         refine pure_ (i := 19) (N := some 34) (v := ?_) (a' := ?_) #[true, true, true, true, true, true, true, true, true, true, true, true, true, true, true, true, true, true, true, true, false, false, false, false, false, false, false, false, false, false, false] rfl rfl (any_of HT_.out (by kernel_rfl)) (fun _ _ _ h => h) (Or.inl ⟨by rfl, ?_⟩) ?_ ?_
         rotate_left
         ·intro w'
          go_simp
          with_reducible rfl
         rotate_left
         ·simp only [Act.put, List.setIfInBounds_toArray, List.set_cons_zero, List.set_cons_succ, i64_w, i32_w]
          rfl
         refine pure_ (i := 20) (N := some 35) (v := undef) (a' := ?_) #[true, true, true, true, true, true, true, true, true, true, true, true, true, true, true, true, true, true, true, true, true, false, false, false, false, false, false, false, false, false, false] rfl rfl (any_of HT_.out (by kernel_rfl)) (fun _ _ _ h => h) (Or.inr ⟨by rfl, rfl⟩) ?_ ?_
         rotate_left
         ·simp only [Act.put, List.setIfInBounds_toArray, List.set_cons_zero, List.set_cons_succ, i64_w, i32_w]
          rfl
         refine pure_ (i := 21) (N := some 36) (v := undef) (a' := ?_) #[true, true, true, true, true, true, true, true, true, true, true, true, true, true, true, true, true, true, true, true, true, true, false, false, false, false, false, false, false, false, false] rfl rfl (any_of HT_.out (by kernel_rfl)) (fun _ _ _ h => h) (Or.inr ⟨by rfl, rfl⟩) ?_ ?_
         rotate_left
         ·simp only [Act.put, List.setIfInBounds_toArray, List.set_cons_zero, List.set_cons_succ, i64_w, i32_w]
          rfl
         refine pure_ (i := 22) (N := some 37) (v := undef) (a' := ?_) #[true, true, true, true, true, true, true, true, true, true, true, true, true, true, true, true, true, true, true, true, true, true, true, false, false, false, false, false, false, false, false] rfl rfl (any_of HT_.out (by kernel_rfl)) (fun _ _ _ h => h) (Or.inr ⟨by rfl, rfl⟩) ?_ ?_
         rotate_left
         ·simp only [Act.put, List.setIfInBounds_toArray, List.set_cons_zero, List.set_cons_succ, i64_w, i32_w]
          rfl
         refine pure_ (i := 23) (N := some 38) (v := undef) (a' := ?_) #[true, true, true, true, true, true, true, true, true, true, true, true, true, true, true, true, true, true, true, true, true, true, true, true, false, false, false, false, false, false, false] rfl rfl (any_of HT_.out (by kernel_rfl)) (fun _ _ _ h => h) (Or.inr ⟨by rfl, rfl⟩) ?_ ?_
         rotate_left
         ·simp only [Act.put, List.setIfInBounds_toArray, List.set_cons_zero, List.set_cons_succ, i64_w, i32_w]
          rfl
         refine pure_ (i := 24) (N := some 39) (v := undef) (a' := ?_) #[true, true, true, true, true, true, true, true, true, true, true, true, true, true, true, true, true, true, true, true, true, true, true, true, true, false, false, false, false, false, false] rfl rfl (any_of HT_.out (by kernel_rfl)) (fun _ _ _ h => h) (Or.inr ⟨by rfl, rfl⟩) ?_ ?_
         rotate_left
         ·simp only [Act.put, List.setIfInBounds_toArray, List.set_cons_zero, List.set_cons_succ, i64_w, i32_w]
          rfl
         refine pure_ (i := 25) (N := some 40) (v := undef) (a' := ?_) #[true, true, true, true, true, true, true, true, true, true, true, true, true, true, true, true, true, true, true, true, true, true, true, true, true, true, false, false, false, false, false] rfl rfl (any_of HT_.out (by kernel_rfl)) (fun _ _ _ h => h) (Or.inr ⟨by rfl, rfl⟩) ?_ ?_
         rotate_left
         ·simp only [Act.put, List.setIfInBounds_toArray, List.set_cons_zero, List.set_cons_succ, i64_w, i32_w]
          rfl
         refine pure_ (i := 26) (N := some 41) (v := undef) (a' := ?_) #[true, true, true, true, true, true, true, true, true, true, true, true, true, true, true, true, true, true, true, true, true, true, true, true, true, true, true, false, false, false, false] rfl rfl (any_of HT_.out (by kernel_rfl)) (fun _ _ _ h => h) (Or.inr ⟨by rfl, rfl⟩) ?_ ?_
         rotate_left
         ·simp only [Act.put, List.setIfInBounds_toArray, List.set_cons_zero, List.set_cons_succ, i64_w, i32_w]
          rfl
         refine pure_ (i := 27) (N := some 42) (v := undef) (a' := ?_) #[true, true, true, true, true, true, true, true, true, true, true, true, true, true, true, true, true, true, true, true, true, true, true, true, true, true, true, true, false, false, false] rfl rfl (any_of HT_.out (by kernel_rfl)) (fun _ _ _ h => h) (Or.inr ⟨by rfl, rfl⟩) ?_ ?_
         rotate_left
         ·simp only [Act.put, List.setIfInBounds_toArray, List.set_cons_zero, List.set_cons_succ, i64_w, i32_w]
          rfl
         refine pure_ (i := 28) (N := some 43) (v := undef) (a' := ?_) #[true, true, true, true, true, true, true, true, true, true, true, true, true, true, true, true, true, true, true, true, true, true, true, true, true, true, true, true, true, false, false] rfl rfl (any_of HT_.out (by kernel_rfl)) (fun _ _ _ h => h) (Or.inr ⟨by rfl, rfl⟩) ?_ ?_
         rotate_left
         ·simp only [Act.put, List.setIfInBounds_toArray, List.set_cons_zero, List.set_cons_succ, i64_w, i32_w]
          rfl
         refine pure_ (i := 29) (N := some 44) (v := ?_) (a' := ?_) #[true, true, true, true, true, true, true, true, true, true, true, true, true, true, true, true, true, true, true, true, true, true, true, true, true, true, true, true, true, true, false] rfl rfl (any_of HT_.out (by kernel_rfl)) (fun _ _ _ h => h) (Or.inl ⟨by rfl, ?_⟩) ?_ ?_
         rotate_left
         ·intro w'
          go_simp
          with_reducible rfl
         rotate_left
         ·simp only [Act.put, List.setIfInBounds_toArray, List.set_cons_zero, List.set_cons_succ, i64_w, i32_w]
          rfl
         refine pure_ (i := 30) (N := some 45) (v := ?_) (a' := ?_) #[true, true, true, true, true, true, true, true, true, true, true, true, true, true, true, true, true, true, true, true, true, true, true, true, true, true, true, true, true, true, true] rfl rfl (any_of HT_.out (by kernel_rfl)) (fun _ _ _ h => h) (Or.inl ⟨by rfl, ?_⟩) ?_ ?_
         rotate_left
         ·intro w'
          go_simp
          with_reducible rfl
         rotate_left
         ·simp only [Act.put, List.setIfInBounds_toArray, List.set_cons_zero, List.set_cons_succ, i64_w, i32_w]
          rfl
         refine done_ (done_of HT_.out (by kernel_rfl)) ?_
         try go_wp2
         go_roundg k1
         case measure => have := HK1.out; omega
         case rel => exact ⟨(wrap64 (x7_1 + 1)), (by first | rfl | (simp; done) | (simp [*]; done)), H', ⟨by have := HK1.out; omega⟩, ⟨by repeat (first | (with_reducible first | exact HB.out | apply below_alloc | apply pw_below_drewN | apply below_drew1 | refine below_set ?_ GE102.out) | exact HB.out)⟩⟩
      ·rw [if_neg c5] at H
       have c5b0 : (((rd_T33 l0 x7_1).f1) == 5) = false := beq_eq_false_iff_ne.mpr c5
       have c5b1 : (((rd_T33 l0 x7_1).f1) != 5) = true := bne_iff_ne.mpr c5
       have H' := Aside0.mk H
       clear H
       have p101 : 0 ≤ (x7_1 : Int) := of_decide_eq_true (by first | (with_reducible assumption) | assumption)
       have q101 : x7_1 < (l0.length : Int) := of_decide_eq_true (by first | (with_reducible assumption) | assumption)
       obtain ⟨ad101, e101, hx101_0, hx101_1, hx101_2, hx101_3, hx101_4⟩ := at_T33 HR0.out x7_1 p101 q101
       cases e101
       replace hx101_0 := (HB.out.cell (World.block_lt_of_cell? w _ hx101_0)).trans hx101_0
       replace hx101_1 := (HB.out.cell (World.block_lt_of_cell? w _ hx101_1)).trans hx101_1
       replace hx101_2 := (HB.out.cell (World.block_lt_of_cell? w _ hx101_2)).trans hx101_2
       replace hx101_3 := (HB.out.cell (World.block_lt_of_cell? w _ hx101_3)).trans hx101_3
       replace hx101_4 := (HB.out.cell (World.block_lt_of_cell? w _ hx101_4)).trans hx101_4
       replace p101 := eq_true p101
       replace q101 := eq_true q101
       go_wp2_with (first | ((with_reducible refine gate_dst (N := 4) rfl ?_); (try (refine gate_guard (by rfl) ?_; dsimp only)); refine box_event ?hg (N := 4) ?hd (cs := #[.string (⟨#[]⟩ : ByteArray), .int .i64 0, .int .i64 0, .int .i64 0, .string (⟨#[]⟩ : ByteArray)]) (t := 33) ?hr ?_; (case hd => rfl); (case hg => rfl); (case hr => first | (go_simp; done) | (go_simp; rfl)); intro gb102 hg w12 hbox hb; have n0_ := Aside0.mk (below_step (by repeat (first | (with_reducible first | exact HB.out | apply below_alloc | apply pw_below_drewN | apply below_drew1) | exact HB.out)) hb); have n1_ := Aside0.mk (hbox); have n2_ := Aside0.mk ((by rw [hg]; exact (below_size (by repeat (first | (with_reducible first | exact HB.out | apply below_alloc | apply pw_below_drewN | apply below_drew1) | exact HB.out))) : w.heap.size ≤ gb102)); have n3_ := Aside0.mk ((by rw [hg]; exact (below_size (by repeat (first | (with_reducible first | exact HB.out | apply below_alloc | apply pw_below_drewN | apply below_drew1) | exact HB.out))) : w.heap.size ≤ gb102)); clear HB; have HB := n0_; have BK102 := n1_; have GW102 := n2_; have GE102 := n3_; clear n0_ n1_ n2_ n3_; clear hb hbox hg; have hcz13_0 : w12.cell? ⟨gb102, 0, none⟩ = some (.string (⟨#[]⟩ : ByteArray)) := (blk_cell BK102.out 0).trans rfl; have hcz13_1 : w12.cell? ⟨gb102, 1, none⟩ = some (.int .i64 0) := (blk_cell BK102.out 1).trans rfl; have hcz13_2 : w12.cell? ⟨gb102, 2, none⟩ = some (.int .i64 0) := (blk_cell BK102.out 2).trans rfl; have hcz13_3 : w12.cell? ⟨gb102, 3, none⟩ = some (.int .i64 0) := (blk_cell BK102.out 3).trans rfl; have hcz13_4 : w12.cell? ⟨gb102, 4, none⟩ = some (.string (⟨#[]⟩ : ByteArray)) := (blk_cell BK102.out 4).trans rfl; have hfz13_0 := blk_frozen BK102.out 0; have hfz13_1 := blk_frozen BK102.out 1; have hfz13_2 := blk_frozen BK102.out 2; have hfz13_3 := blk_frozen BK102.out 3; have hfz13_4 := blk_frozen BK102.out 4))
       go_roundg k1
       case measure => have := HK1.out; omega
       case rel => exact ⟨(wrap64 (x7_1 + 1)), (by first | rfl | (simp; done) | (simp [*]; done)), H', ⟨by have := HK1.out; omega⟩, ⟨by repeat (first | (with_reducible first | exact HB.out | apply below_alloc | apply pw_below_drewN | apply below_drew1 | refine below_set ?_ GE102.out) | exact HB.out)⟩⟩
     ·rw [if_neg c4] at H
      exact absurd H (by simp)
    ·rw [if_neg c3] at H
     exact absurd H (by simp)
   ·rw [if_neg c2] at H
    have c2b0 : decide (x7_1 < (l0.length : Int)) = false := decide_eq_false c2
    clear c2
    obtain rfl := Option.some.inj H
    go_wp2
    go_ret
    exact ⟨by first | rfl | (simp [errW_none, errW_some] <;> rfl) | (simp [*, errW_none, errW_some] <;> rfl), by repeat (first | (with_reducible first | exact HB.out | apply below_alloc | apply pw_below_drewN | apply below_drew1) | exact HB.out)⟩
end Go.Proofs.Ytehdkopjgcoclaa.PZa
namespace Go.Proofs.Ytehdkopjgcoclaa.Given
open Go.RowKit Go.Proofs.YtehdkopjgcoclaaW.PrintWords Go.Proofs.YtehdkopjgcoclaaW.PrintLast Go.Proofs.YtehdkopjgcoclaaW.PrintMore Go.Proofs.Ytehdkopjgcoclaa.PRd Go.Proofs.Ytehdkopjgcoclaa.PRr
set_option linter.unusedVariables false
noncomputable def apart_plain.f (k : Nat) (l0 : List (S33)) : Option (Bool) := PZa.zone_apartZ.f k l0
theorem apart_plain.calls (k : Nat) (A0 : Option Addr) (c0 : Nat) (l0 : List (S33)) (r : Bool) (w : World) (hr0 : Kd.C k33 w A0 l0.length l0) (hc0 : l0.length ≤ c0) (h : apart_plain.f k l0 = some r) :
    Calls Try.prog 30 #[.slice A0 l0.length c0] w fun e w' => e = .returned (.bool r) ∧ Below w.heap.size w w' := PZa.zone_apartZ.calls k A0 c0 l0 r w hr0 hc0 h
end Go.Proofs.Ytehdkopjgcoclaa.Given
namespace Go.Proofs.Ytehdkopjgcoclaa.Rrs
open Go.RowKit Go.Proofs.YtehdkopjgcoclaaW.PrintWords Go.Proofs.YtehdkopjgcoclaaW.PrintLast Go.Proofs.YtehdkopjgcoclaaW.PrintMore Go.Proofs.Ytehdkopjgcoclaa.Given Go.Proofs.Ytehdkopjgcoclaa.PRd Go.Proofs.Ytehdkopjgcoclaa.PRr
set_option linter.unusedVariables false
set_option linter.unusedSimpArgs false
def idxP (pr : RR → Bool) (l : List RR) : Int := match l.findIdx? pr with | some i => (i : Int) | none => -1
set_option maxHeartbeats 8000000 in
set_option maxRecDepth 100000 in
theorem index_any (l : List RR) (pr : RR → Bool) (hn : l.length ≤ 1000000) (F : FuncId) (fn : Func) (cb : Array Value) (hf : Try.prog.funcs[F]? = some fn) (hname : (fn.name == "runtime.NumGoroutine") = false) (hb : fn.body.isSome = true) (A0 : Option Addr) (c0 : Nat) (w : World) (hC : Kd.C kRR w A0 l.length l)
    (hstep : ∀ x ∈ l, ∀ W, Below w.heap.size w W → Calls Try.prog F (#[x.v] ++ cb) W fun e w' => e = .returned (.bool (pr x)) ∧ Below W.heap.size W w') :
    Calls Try.prog 39 #[.slice A0 l.length c0, .func (.func F) #[] cb] w fun e w' => e = .returned (.int .i64 (idxP pr l)) ∧ Below w.heap.size w w' := by
  have hu41 := Try.underlying33
  have HF := Lib.hid hf
  have HNM := Lib.hid hname
  have HBD := Lib.hid hb
  have HR := Lib.hid hC
  have HST := Lib.hid hstep
  obtain ⟨n, hnn⟩ : ∃ n, l.length = n := ⟨_, rfl⟩
  have HN := Lib.hid hnn
  rw [hnn] at hn ⊢
  have HB := Lib.hid (Below.refl w.heap.size w)
  clear hf hname hb hC hstep hnn
  go_enter Try.func39, Try.ntmps39
  go_wp2_with fail
  go_loopg [8] n (fun kx s8 wr => ∃ i : Nat, s8 = .int .i64 (i : Int) ∧ i ≤ n ∧ n - i ≤ kx ∧ Hid (∀ t (ht : t < l.length), t < i → pr l[t] = false) ∧ Hid (Below w.heap.size w wr))
  case atStart => exact ⟨0, rfl, by omega, by omega, Lib.hid (fun t ht h => by omega), Lib.hid HB.out⟩
  case round =>
    clear HB
    obtain ⟨i, rfl, hin, hik, HS, HB⟩ := hrel
    by_cases hlt : i < n
    · have p1 : (0 : Int) ≤ (i : Int) := by omega
      have q1 : (i : Int) < (l.length : Int) := by rw [HN.out]; omega
      obtain ⟨ad, e1, hx0, hx1, hx2, hx3, hx4⟩ := at_T33 HR.out (i : Int) p1 q1
      cases e1
      rw [Int.toNat_natCast] at hx0 hx1 hx2 hx3 hx4
      replace hx0 := (HB.out.cell (World.block_lt_of_cell? w _ hx0)).trans hx0
      replace hx1 := (HB.out.cell (World.block_lt_of_cell? w _ hx1)).trans hx1
      replace hx2 := (HB.out.cell (World.block_lt_of_cell? w _ hx2)).trans hx2
      replace hx3 := (HB.out.cell (World.block_lt_of_cell? w _ hx3)).trans hx3
      replace hx4 := (HB.out.cell (World.block_lt_of_cell? w _ hx4)).trans hx4
      have q2 : (i : Int) < (n : Int) := by omega
      obtain ⟨x, hx⟩ : ∃ x, rdR l (i : Nat) = x := ⟨_, rfl⟩
      rw [show rd_T33 l (i : Int) = x from hx] at hx0 hx1 hx2 hx3 hx4
      have hxl : x = l[i]'(by rw [HN.out]; exact hlt) := by rw [← hx, rdR_get l i (by rw [HN.out]; exact hlt)]
      have hxm : x ∈ l := by rw [hxl]; exact List.getElem_mem _
      have HX := Lib.hid hxl
      have hcall := HST.out x hxm wr HB.out
      have HCALL := Lib.hid hcall
      have hw1 : IntKind.i64.wrap ((i : Int) + 1) = (i : Int) + 1 := by rw [IntKind.wrap_i64]; omega
      clear hcall hxm hxl hx q1
      go_wp2_with fail
      rw [enters_ HF.out HNM.out HBD.out, Oper.upon_enter]
      refine (HCALL.out).mono ?_
      rintro e w4 ⟨rfl, hb4⟩
      have HB4 := Lib.hid (below_then HB.out HB.out.size hb4)
      clear hb4 HB HCALL hx0 hx1 hx2 hx3 hx4
      generalize hd : pr x = d
      have HD := Lib.hid hd
      clear hd
      cases d with
      | true =>
        go_wp2_with fail
        go_ret
        refine ⟨?_, HB4.out⟩
        have hfi : l.findIdx? pr = some i := by
          rw [List.findIdx?_eq_some_iff_getElem]
          refine ⟨by rw [HN.out]; exact hlt, by rw [← HX.out]; exact HD.out, fun j hj => ?_⟩
          rw [HS.out j (by rw [HN.out]; omega) hj]; decide
        unfold idxP
        rw [hfi]
        rfl
      | false =>
        go_wp2_with fail
        go_roundg (n - (i + 1))
        case measure => omega
        case rel => exact ⟨i + 1, by rw [show ((i + 1 : Nat) : Int) = (i : Int) + 1 by omega], by omega, Nat.le_refl _, Lib.hid (fun t ht h => by
          by_cases e : t = i
          · subst e; rw [← HX.out]; exact HD.out
          · exact HS.out t ht (by omega)), HB4⟩
    · obtain rfl : i = n := by omega
      have b1 : ¬ ((i : Int) < (i : Int)) := by omega
      go_wp2_with fail
      go_ret
      refine ⟨?_, HB.out⟩
      have hfi : l.findIdx? pr = none := by
        rw [List.findIdx?_eq_none_iff]
        intro y hy
        obtain ⟨t, ht, rfl⟩ := List.getElem_of_mem hy
        exact HS.out t ht (by rw [← HN.out]; exact ht)
      unfold idxP
      rw [hfi]
      rfl
set_option maxHeartbeats 8000000 in
set_option maxRecDepth 100000 in
theorem contains_any (l : List RR) (pr : RR → Bool) (hn : l.length ≤ 1000000) (F : FuncId) (fn : Func) (cb : Array Value) (hf : Try.prog.funcs[F]? = some fn) (hname : (fn.name == "runtime.NumGoroutine") = false) (hb : fn.body.isSome = true) (A0 : Option Addr) (c0 : Nat) (w : World) (hC : Kd.C kRR w A0 l.length l)
    (hstep : ∀ x ∈ l, ∀ W, Below w.heap.size w W → Calls Try.prog F (#[x.v] ++ cb) W fun e w' => e = .returned (.bool (pr x)) ∧ Below W.heap.size W w') :
    Calls Try.prog 21 #[.slice A0 l.length c0, .func (.func F) #[] cb] w fun e w' => e = .returned (.bool (l.any pr)) ∧ Below w.heap.size w w' := by
  have hi := index_any l pr hn F fn cb hf hname hb A0 c0 w hC hstep
  have he : decide (0 ≤ idxP pr l) = l.any pr := by
    unfold idxP
    cases h : l.findIdx? pr with
    | none =>
      rw [List.findIdx?_eq_none_iff] at h
      have : l.any pr = false := by rw [List.any_eq_false]; intro x hx; rw [h x hx]; decide
      rw [this]; decide
    | some i =>
      obtain ⟨hi, hp, _⟩ := List.findIdx?_eq_some_iff_getElem.mp h
      have : l.any pr = true := List.any_eq_true.mpr ⟨_, List.getElem_mem hi, hp⟩
      rw [this]
      exact decide_eq_true (by simp)
  have HI := Lib.hid hi
  have HE := Lib.hid he
  clear hi he hf hname hb hC hstep hn
  generalize l.length = n at HI ⊢
  generalize hz : idxP pr l = z at HI HE
  clear hz
  go_enter Try.func21, Try.ntmps21
  go_wp2_with fail
  refine (HI.out).mono ?_
  rintro e w1 ⟨rfl, hb1⟩
  have HB := Lib.hid hb1
  clear hb1 HI
  go_wp2_with fail
  go_ret
  exact ⟨by rw [← HE.out]; rfl, HB.out⟩
end Go.Proofs.Ytehdkopjgcoclaa.Rrs
namespace Go.Proofs.Ytehdkopjgcoclaa.Rrs
open Go.RowKit Go.Proofs.YtehdkopjgcoclaaW.PrintWords Go.Proofs.YtehdkopjgcoclaaW.PrintLast Go.Proofs.YtehdkopjgcoclaaW.PrintMore Go.Proofs.Ytehdkopjgcoclaa.Given Go.Proofs.Ytehdkopjgcoclaa.PRd Go.Proofs.Ytehdkopjgcoclaa.PRr
set_option linter.unusedVariables false
set_option linter.unusedSimpArgs false
set_option maxHeartbeats 4000000 in
set_option maxRecDepth 100000 in
theorem new1_step (k : Nat) (x : RR) (b : Bool) (w : World) (h : record_Right.f k x.f0 x.f1 x.f2 x.f3 x.f4 = some b) :
    Calls Try.prog 22 (#[x.v] ++ #[]) w fun e w' => e = .returned (.bool (!b)) ∧ Below w.heap.size w w' := by
  have hu41 := Try.underlying33
  have HB := Aside0.mk (Below.refl w.heap.size w)
  have HA := Lib.hid h
  clear h
  show Calls Try.prog 22 #[.agg #[.string x.f0, .int .i64 x.f1, .int .i64 x.f2, .int .i64 x.f3, .string x.f4]] w _
  go_enter Try.func22, Try.ntmps22
  go_wp2_with (first | ((with_reducible refine gate_dst (N := 1) rfl ?_); refine box_event ?hg (N := 1) ?hd (cs := #[.string x.f0, .int .i64 x.f1, .int .i64 x.f2, .int .i64 x.f3, .string x.f4]) (t := 33) ?hr ?_; (case hd => rfl); (case hg => rfl); (case hr => first | (go_simp; done) | (go_simp; rfl)); intro gb hg w3 hbox hb; have n0_ := Aside0.mk (below_step (HB.out) hb); have n1_ := Aside0.mk (hbox); clear HB; have HB := n0_; have BK := n1_; clear n0_ n1_; clear hb hbox hg; have hcz0 : w3.cell? ⟨gb, 0, none⟩ = some (.string x.f0) := (blk_cell BK.out 0).trans rfl; have hcz1 : w3.cell? ⟨gb, 1, none⟩ = some (.int .i64 x.f1) := (blk_cell BK.out 1).trans rfl; have hcz2 : w3.cell? ⟨gb, 2, none⟩ = some (.int .i64 x.f2) := (blk_cell BK.out 2).trans rfl; have hcz3 : w3.cell? ⟨gb, 3, none⟩ = some (.int .i64 x.f3) := (blk_cell BK.out 3).trans rfl; have hcz4 : w3.cell? ⟨gb, 4, none⟩ = some (.string x.f4) := (blk_cell BK.out 4).trans rfl))
  refine (record_Right.calls k x.f0 x.f1 x.f2 x.f3 x.f4 b w3 HA.out).mono ?_
  rintro e w4 ⟨rfl, hb4⟩
  have HB4 := Lib.hid (below_then HB.out HB.out.size hb4)
  clear hb4 HB
  go_wp2_with fail
  go_ret
  exact ⟨rfl, HB4.out⟩
set_option maxHeartbeats 4000000 in
set_option maxRecDepth 100000 in
theorem new2_step (k : Nat) (x : RR) (n : ByteArray) (b : Bool) (g : Nat) (w : World) (hc : w.cell? ⟨g, 0, none⟩ = some (.string n)) (h : zone_within.f k n x.f0 x.f1 x.f2 x.f3 x.f4 = some b) :
    Calls Try.prog 27 (#[x.v] ++ #[.pointer (some ⟨g, 0, none⟩)]) w fun e w' => e = .returned (.bool (!b)) ∧ Below w.heap.size w w' := by
  have hu41 := Try.underlying33
  have HB := Aside0.mk (Below.refl w.heap.size w)
  have HC := Lib.hid hc
  have HA := Lib.hid h
  clear hc h
  show Calls Try.prog 27 #[.agg #[.string x.f0, .int .i64 x.f1, .int .i64 x.f2, .int .i64 x.f3, .string x.f4], .pointer (some ⟨g, 0, none⟩)] w _
  go_enter Try.func27, Try.ntmps27
  go_wp2_with (first | ((with_reducible refine gate_dst (N := 2) rfl ?_); refine box_event ?hg (N := 2) ?hd (cs := #[.string x.f0, .int .i64 x.f1, .int .i64 x.f2, .int .i64 x.f3, .string x.f4]) (t := 33) ?hr ?_; (case hd => rfl); (case hg => rfl); (case hr => first | (go_simp; done) | (go_simp; rfl)); intro gb hg w3 hbox hb; have n0_ := Aside0.mk (below_step (HB.out) hb); have n1_ := Aside0.mk (hbox); clear HB; have HB := n0_; have BK := n1_; have hc3 : w3.cell? ⟨g, 0, none⟩ = some (.string n) := (HB.out.cell (World.block_lt_of_cell? w _ HC.out)).trans HC.out; clear n0_ n1_; clear hb hbox hg; have hcz0 : w3.cell? ⟨gb, 0, none⟩ = some (.string x.f0) := (blk_cell BK.out 0).trans rfl; have hcz1 : w3.cell? ⟨gb, 1, none⟩ = some (.int .i64 x.f1) := (blk_cell BK.out 1).trans rfl; have hcz2 : w3.cell? ⟨gb, 2, none⟩ = some (.int .i64 x.f2) := (blk_cell BK.out 2).trans rfl; have hcz3 : w3.cell? ⟨gb, 3, none⟩ = some (.int .i64 x.f3) := (blk_cell BK.out 3).trans rfl; have hcz4 : w3.cell? ⟨gb, 4, none⟩ = some (.string x.f4) := (blk_cell BK.out 4).trans rfl))
  refine (zone_within.calls k n x.f0 x.f1 x.f2 x.f3 x.f4 b w3 HA.out).mono ?_
  rintro e w4 ⟨rfl, hb4⟩
  have HB4 := Lib.hid (below_then HB.out HB.out.size hb4)
  clear hb4 HB
  go_wp2_with fail
  go_ret
  exact ⟨rfl, HB4.out⟩
end Go.Proofs.Ytehdkopjgcoclaa.Rrs
namespace Go.Proofs.Ytehdkopjgcoclaa.Given
open Go.RowKit Go.Proofs.YtehdkopjgcoclaaW.PrintWords Go.Proofs.YtehdkopjgcoclaaW.PrintLast Go.Proofs.YtehdkopjgcoclaaW.PrintMore Go.Proofs.Ytehdkopjgcoclaa.PRd Go.Proofs.Ytehdkopjgcoclaa.PRr Go.Proofs.Ytehdkopjgcoclaa.Rrs
set_option linter.unusedVariables false
noncomputable def anyO (p : RR → Option Bool) (l : List RR) : Option Bool := open Classical in if l.length ≤ 1000000 ∧ ∀ x ∈ l, (p x).isSome = true then some (l.any fun x => !(p x).getD false) else none
theorem anyO_some {p : RR → Option Bool} {l : List RR} {r : Bool} (h : anyO p l = some r) : l.length ≤ 1000000 ∧ (∀ x ∈ l, (p x).isSome = true) ∧ r = l.any fun x => !(p x).getD false := by
  unfold anyO at h
  split at h
  · rename_i hn
    injection h with h
    exact ⟨hn.1, hn.2, h.symm⟩
  · cases h
noncomputable def right_any.f (k : Nat) (l0 : List (S33)) (a1 : Int) : Option Bool := anyO (fun x => record_Right.f k x.f0 x.f1 x.f2 x.f3 x.f4) l0
theorem right_any.calls (k : Nat) (A0 : Option Addr) (c0 : Nat) (l0 : List (S33)) (a1 : Int) (r : Bool) (w : World) (hr0 : Kd.C k33 w A0 l0.length l0) (hc0 : l0.length ≤ c0) (h : right_any.f k l0 a1 = some r) :
    Calls Try.prog 21 #[.slice A0 l0.length c0, .func (.func 22) #[] #[]] w fun e w' => e = .returned (.bool r) ∧ Below w.heap.size w w' := by
  obtain ⟨h1, h2, rfl⟩ := anyO_some h
  exact contains_any l0 (fun x => !(record_Right.f k x.f0 x.f1 x.f2 x.f3 x.f4).getD false) h1 22 Try.f22 #[] Try.func22 (by kernel_rfl) rfl A0 c0 w hr0 (fun x hx W _ => by
    obtain ⟨b, hb⟩ := Option.isSome_iff_exists.mp (h2 x hx)
    rw [hb]
    exact new1_step k x b W hb)
noncomputable def within_any.f (k : Nat) (l0 : List (S33)) (a1 : ByteArray) : Option Bool := anyO (fun x => zone_within.f k a1 x.f0 x.f1 x.f2 x.f3 x.f4) l0
theorem within_any.calls (k : Nat) (A0 : Option Addr) (c0 : Nat) (l0 : List (S33)) (a1 : ByteArray) (r : Bool) (w : World) (hr0 : Kd.C k33 w A0 l0.length l0) (hc0 : l0.length ≤ c0) (h : within_any.f k l0 a1 = some r) (g : Nat) (hg : w.cell? ⟨g, 0, none⟩ = some (.string a1)) :
    Calls Try.prog 21 #[.slice A0 l0.length c0, .func (.func 27) #[] #[.pointer (some ⟨g, 0, none⟩)]] w fun e w' => e = .returned (.bool r) ∧ Below w.heap.size w w' := by
  obtain ⟨h1, h2, rfl⟩ := anyO_some h
  exact contains_any l0 (fun x => !(zone_within.f k a1 x.f0 x.f1 x.f2 x.f3 x.f4).getD false) h1 27 Try.f27 #[.pointer (some ⟨g, 0, none⟩)] Try.func27 (by kernel_rfl) rfl A0 c0 w hr0 (fun x hx W hW => by
    obtain ⟨b, hb⟩ := Option.isSome_iff_exists.mp (h2 x hx)
    rw [hb]
    exact new2_step k x a1 b g W ((hW.cell (World.block_lt_of_cell? w _ hg)).trans hg) hb)
end Go.Proofs.Ytehdkopjgcoclaa.Given
namespace Go.Proofs.Ytehdkopjgcoclaa.PZg
open Go.RowKit Go.Proofs.YtehdkopjgcoclaaW.PrintWords Go.Proofs.YtehdkopjgcoclaaW.PrintLast Go.Proofs.YtehdkopjgcoclaaW.PrintMore Go.Proofs.Ytehdkopjgcoclaa.Given Go.Proofs.Ytehdkopjgcoclaa.PRd Go.Proofs.Ytehdkopjgcoclaa.PRr Go.Proofs.Ytehdkopjgcoclaa.PZo
attribute [local go_sem] max2_int min2_int max_two min_two max_three min_three max_four min_four   -- for this text's walks alone
set_option linter.unusedVariables false
set_option linter.unusedSimpArgs false
def errW : Option Int → Value
 | none => .nilIface
 | some c => .iface 0 (.int .i64 c)
theorem errW_none : errW none = .nilIface := rfl
theorem errW_some (c : Int) : errW (some c) = .iface 0 (.int .i64 c) := rfl
end Go.Proofs.Ytehdkopjgcoclaa.PZg
namespace Go.Proofs.Ytehdkopjgcoclaa.PZg
open Go.RowKit Go.Proofs.YtehdkopjgcoclaaW.PrintWords Go.Proofs.YtehdkopjgcoclaaW.PrintLast Go.Proofs.YtehdkopjgcoclaaW.PrintMore Go.Proofs.Ytehdkopjgcoclaa.Given Go.Proofs.Ytehdkopjgcoclaa.PRd Go.Proofs.Ytehdkopjgcoclaa.PRr Go.Proofs.Ytehdkopjgcoclaa.PZo
attribute [local go_sem] max2_int min2_int max_two min_two max_three min_three max_four min_four   -- for this text's walks alone
set_option linter.unusedVariables false
set_option linter.unusedSimpArgs false
noncomputable def zone_New.f (k : Nat) (a0 : ByteArray) (l1 : List (S33)) : Option (ByteArray × (List (S33)) × Int × Int) := (name_Right.f a0).bind fun t105 => (if t105 = true then ((right_any.f k l1 7770022).bind fun t106 => (if t106 = true then (none) else ((rrset_Of.f l1).bind fun t107 => (if (t107.length : Int) > 65536 then (none) else ((rrset_Typed.f t107 6).bind fun t111 => ((zone_Zone_Set.f a0 t107 0 a0 2).bind fun t114 => ((within_any.f k t107 a0).bind fun t117 => (if t117 = true then (none) else (if (t111.length : Int) = 1 then (if 0 < (t111.length : Int) then ((name_Alike.f ((rd_T33 t111 0).f0) a0).bind fun t119 => (if t119 = true then (if (t114.length : Int) = 0 then (none) else ((apart_plain.f k t107).bind fun t120 => (if t120 = true then ((api_RR_31.f k t107 ((rd_T33 t111 0).f0) ((rd_T33 t111 0).f1) ((rd_T33 t111 0).f2) ((rd_T33 t111 0).f3) ((rd_T33 t111 0).f4)).bind fun t122 => (some (a0, t107, t122, 0))) else (none)))) else (none))) else (none)) else (none)))))))))) else (none))
def zone_New.T6 : Bool × List (List Nat × List Nat) := (true, [([], []), ([0], [0]), ([1], [1]), ([], []), ([], []), ([3, 4, 2], [3, 4]), ([2, 5, 0, 1, 2], [2]), ([5, 6, 0, 1, 2, 3, 4, 5, 6], [5])])
def zone_New.B6 : List Nat := [0, 1, 3, 0, 0, 31, 63, 127]
theorem zone_New.tab6 : rtab .any (opsOf Try.f10 6) = zone_New.T6 := by kernel_rfl
theorem zone_New.bits6 : waitsOk zone_New.T6.2 zone_New.B6 = true := by kernel_rfl
def zone_New.T9 : Bool × List (List Nat × List Nat) := (true, [([], []), ([0], [0]), ([1], [1]), ([2], [2]), ([3], [3]), ([4, 3], [3, 4]), ([5, 3], [3, 5]), ([6, 3], [3, 6]), ([3], [3]), ([7, 8, 3, 3], [3, 7, 8]), ([9, 3], [3, 9]), ([3, 10], [3, 10]), ([11, 9], [11]), ([12], [12]), ([13, 12], [12, 13]), ([14, 12], [12, 14]), ([12, 15], [12, 15]), ([16, 12], [16]), ([17], [17]), ([18, 17], [17, 18]), ([19, 17, 17], [17, 19]), ([20, 17], [17, 20]), ([17, 21], [17, 21]), ([22, 20], [22])])
def zone_New.B9 : List Nat := [0, 1, 3, 7, 15, 31, 63, 127, 15, 511, 1023, 2047, 4095, 8191, 16383, 32767, 65535, 131071, 262143, 524287, 1048575, 2097151, 4194303, 8388607]
theorem zone_New.tab9 : rtab .any (opsOf Try.f10 9) = zone_New.T9 := by kernel_rfl
theorem zone_New.bits9 : waitsOk zone_New.T9.2 zone_New.B9 = true := by kernel_rfl
def zone_New.T11 : Bool × List (List Nat × List Nat) := (true, [([], []), ([0], [0]), ([], []), ([2], [2]), ([3], [3]), ([1, 4], [1, 4]), ([0, 1, 2, 3, 4, 5], []), ([6, 5, 5, 0, 1, 2, 3, 4, 5], [5, 6])])
def zone_New.B11 : List Nat := [0, 1, 0, 4, 12, 31, 63, 127]
theorem zone_New.tab11 : rtab .any (opsOf Try.f10 11) = zone_New.T11 := by kernel_rfl
theorem zone_New.bits11 : waitsOk zone_New.T11.2 zone_New.B11 = true := by kernel_rfl
set_option maxHeartbeats 8000000 in
set_option maxRecDepth 100000 in
theorem zone_New.calls (k : Nat) (a0 : ByteArray) (A1 : Option Addr) (c1 : Nat) (l1 : List (S33)) (r1 : ByteArray) (r2 : List (S33)) (r3 : Int) (r4 : Int) (w : World) (hr1 : Kd.C k33 w A1 l1.length l1) (hc1 : l1.length ≤ c1) (h : zone_New.f k a0 l1 = some (r1, r2, r3, r4)) :
  Calls Try.prog 10 #[.string a0, .slice A1 l1.length c1] w fun e w' => ∃ v1_ : Value, e = .returned (.tuple #[.agg #[.string r1, v1_, .int .i64 r3], .int .i64 r4]) ∧ Kd.R k33 33 w' w.heap.size (fun _ => True) v1_ r2 ∧ Below w.heap.size w w' := by
 have hu27 := Try.underlying27
 have hu33 := Try.underlying33
 have HR1 := Aside0.mk hr1
 have HC1 := Aside0.mk hc1
 clear hr1 hc1
 have HB := Aside0.mk (Below.refl w.heap.size w)
 have H : ((name_Right.f a0).bind fun t105 => (if t105 = true then ((right_any.f k l1 7770022).bind fun t106 => (if t106 = true then (none) else ((rrset_Of.f l1).bind fun t107 => (if (t107.length : Int) > 65536 then (none) else ((rrset_Typed.f t107 6).bind fun t111 => ((zone_Zone_Set.f a0 t107 0 a0 2).bind fun t114 => ((within_any.f k t107 a0).bind fun t117 => (if t117 = true then (none) else (if (t111.length : Int) = 1 then (if 0 < (t111.length : Int) then ((name_Alike.f ((rd_T33 t111 0).f0) a0).bind fun t119 => (if t119 = true then (if (t114.length : Int) = 0 then (none) else ((apart_plain.f k t107).bind fun t120 => (if t120 = true then ((api_RR_31.f k t107 ((rd_T33 t111 0).f0) ((rd_T33 t111 0).f1) ((rd_T33 t111 0).f2) ((rd_T33 t111 0).f3) ((rd_T33 t111 0).f4)).bind fun t122 => (some (a0, t107, t122, 0))) else (none)))) else (none))) else (none)) else (none)))))))))) else (none))) = some (r1, r2, r3, r4) := h
 clear h
 replace H := Option.bind_eq_some_iff.mp H
 obtain ⟨t105, A30, H⟩ := H
 replace H : (if t105 = true then ((right_any.f k l1 7770022).bind fun t106 => (if t106 = true then (none) else ((rrset_Of.f l1).bind fun t107 => (if (t107.length : Int) > 65536 then (none) else ((rrset_Typed.f t107 6).bind fun t111 => ((zone_Zone_Set.f a0 t107 0 a0 2).bind fun t114 => ((within_any.f k t107 a0).bind fun t117 => (if t117 = true then (none) else (if (t111.length : Int) = 1 then (if 0 < (t111.length : Int) then ((name_Alike.f ((rd_T33 t111 0).f0) a0).bind fun t119 => (if t119 = true then (if (t114.length : Int) = 0 then (none) else ((apart_plain.f k t107).bind fun t120 => (if t120 = true then ((api_RR_31.f k t107 ((rd_T33 t111 0).f0) ((rd_T33 t111 0).f1) ((rd_T33 t111 0).f2) ((rd_T33 t111 0).f3) ((rd_T33 t111 0).f4)).bind fun t122 => (some (a0, t107, t122, 0))) else (none)))) else (none))) else (none)) else (none)))))))))) else (none)) = some (r1, r2, r3, r4) := H
 have A3 := Aside0.mk A30
 clear A30
 by_cases c4 : t105 = true
 ·subst c4
  have H1 : ((right_any.f k l1 7770022).bind fun t106 => (if t106 = true then (none) else ((rrset_Of.f l1).bind fun t107 => (if (t107.length : Int) > 65536 then (none) else ((rrset_Typed.f t107 6).bind fun t111 => ((zone_Zone_Set.f a0 t107 0 a0 2).bind fun t114 => ((within_any.f k t107 a0).bind fun t117 => (if t117 = true then (none) else (if (t111.length : Int) = 1 then (if 0 < (t111.length : Int) then ((name_Alike.f ((rd_T33 t111 0).f0) a0).bind fun t119 => (if t119 = true then (if (t114.length : Int) = 0 then (none) else ((apart_plain.f k t107).bind fun t120 => (if t120 = true then ((api_RR_31.f k t107 ((rd_T33 t111 0).f0) ((rd_T33 t111 0).f1) ((rd_T33 t111 0).f2) ((rd_T33 t111 0).f3) ((rd_T33 t111 0).f4)).bind fun t122 => (some (a0, t107, t122, 0))) else (none)))) else (none))) else (none)) else (none)))))))))) = some (r1, r2, r3, r4) := by rw [if_pos rfl] at H; exact H
  clear H
  have H := H1
  clear H1
  replace H := Option.bind_eq_some_iff.mp H
  obtain ⟨t106, A50, H⟩ := H
  replace H : (if t106 = true then (none) else ((rrset_Of.f l1).bind fun t107 => (if (t107.length : Int) > 65536 then (none) else ((rrset_Typed.f t107 6).bind fun t111 => ((zone_Zone_Set.f a0 t107 0 a0 2).bind fun t114 => ((within_any.f k t107 a0).bind fun t117 => (if t117 = true then (none) else (if (t111.length : Int) = 1 then (if 0 < (t111.length : Int) then ((name_Alike.f ((rd_T33 t111 0).f0) a0).bind fun t119 => (if t119 = true then (if (t114.length : Int) = 0 then (none) else ((apart_plain.f k t107).bind fun t120 => (if t120 = true then ((api_RR_31.f k t107 ((rd_T33 t111 0).f0) ((rd_T33 t111 0).f1) ((rd_T33 t111 0).f2) ((rd_T33 t111 0).f3) ((rd_T33 t111 0).f4)).bind fun t122 => (some (a0, t107, t122, 0))) else (none)))) else (none))) else (none)) else (none))))))))) = some (r1, r2, r3, r4) := H
  have A5 := Aside0.mk A50
  clear A50
  by_cases c6 : t106 = true
  ·subst c6
   have H1 : (none) = some (r1, r2, r3, r4) := by rw [if_pos rfl] at H; exact H
   clear H
   have H := H1
   clear H1
   exact absurd H (by simp)
  ·replace c6 := Bool.eq_false_iff.mpr c6
   subst c6
   have H1 : ((rrset_Of.f l1).bind fun t107 => (if (t107.length : Int) > 65536 then (none) else ((rrset_Typed.f t107 6).bind fun t111 => ((zone_Zone_Set.f a0 t107 0 a0 2).bind fun t114 => ((within_any.f k t107 a0).bind fun t117 => (if t117 = true then (none) else (if (t111.length : Int) = 1 then (if 0 < (t111.length : Int) then ((name_Alike.f ((rd_T33 t111 0).f0) a0).bind fun t119 => (if t119 = true then (if (t114.length : Int) = 0 then (none) else ((apart_plain.f k t107).bind fun t120 => (if t120 = true then ((api_RR_31.f k t107 ((rd_T33 t111 0).f0) ((rd_T33 t111 0).f1) ((rd_T33 t111 0).f2) ((rd_T33 t111 0).f3) ((rd_T33 t111 0).f4)).bind fun t122 => (some (a0, t107, t122, 0))) else (none)))) else (none))) else (none)) else (none)))))))) = some (r1, r2, r3, r4) := by rw [if_neg (show ¬ (false = true) by decide)] at H; exact H
   clear H
   have H := H1
   clear H1
   replace H := Option.bind_eq_some_iff.mp H
   obtain ⟨t107, A70, H⟩ := H
   replace H : (if (t107.length : Int) > 65536 then (none) else ((rrset_Typed.f t107 6).bind fun t111 => ((zone_Zone_Set.f a0 t107 0 a0 2).bind fun t114 => ((within_any.f k t107 a0).bind fun t117 => (if t117 = true then (none) else (if (t111.length : Int) = 1 then (if 0 < (t111.length : Int) then ((name_Alike.f ((rd_T33 t111 0).f0) a0).bind fun t119 => (if t119 = true then (if (t114.length : Int) = 0 then (none) else ((apart_plain.f k t107).bind fun t120 => (if t120 = true then ((api_RR_31.f k t107 ((rd_T33 t111 0).f0) ((rd_T33 t111 0).f1) ((rd_T33 t111 0).f2) ((rd_T33 t111 0).f3) ((rd_T33 t111 0).f4)).bind fun t122 => (some (a0, t107, t122, 0))) else (none)))) else (none))) else (none)) else (none))))))) = some (r1, r2, r3, r4) := H
   have A7 := Aside0.mk A70
   clear A70
   by_cases c8 : (t107.length : Int) > 65536
   ·rw [if_pos c8] at H
    exact absurd H (by simp)
   ·rw [if_neg c8] at H
    have c8b0 : decide (65536 < (t107.length : Int)) = false := decide_eq_false c8
    have c8b1 : decide (65536 < t107.length) = false := decide_eq_false (by omega)
    clear c8
    replace H := Option.bind_eq_some_iff.mp H
    obtain ⟨t111, A90, H⟩ := H
    replace H : ((zone_Zone_Set.f a0 t107 0 a0 2).bind fun t114 => ((within_any.f k t107 a0).bind fun t117 => (if t117 = true then (none) else (if (t111.length : Int) = 1 then (if 0 < (t111.length : Int) then ((name_Alike.f ((rd_T33 t111 0).f0) a0).bind fun t119 => (if t119 = true then (if (t114.length : Int) = 0 then (none) else ((apart_plain.f k t107).bind fun t120 => (if t120 = true then ((api_RR_31.f k t107 ((rd_T33 t111 0).f0) ((rd_T33 t111 0).f1) ((rd_T33 t111 0).f2) ((rd_T33 t111 0).f3) ((rd_T33 t111 0).f4)).bind fun t122 => (some (a0, t107, t122, 0))) else (none)))) else (none))) else (none)) else (none))))) = some (r1, r2, r3, r4) := H
    have A9 := Aside0.mk A90
    clear A90
    replace H := Option.bind_eq_some_iff.mp H
    obtain ⟨t114, A100, H⟩ := H
    replace H : ((within_any.f k t107 a0).bind fun t117 => (if t117 = true then (none) else (if (t111.length : Int) = 1 then (if 0 < (t111.length : Int) then ((name_Alike.f ((rd_T33 t111 0).f0) a0).bind fun t119 => (if t119 = true then (if (t114.length : Int) = 0 then (none) else ((apart_plain.f k t107).bind fun t120 => (if t120 = true then ((api_RR_31.f k t107 ((rd_T33 t111 0).f0) ((rd_T33 t111 0).f1) ((rd_T33 t111 0).f2) ((rd_T33 t111 0).f3) ((rd_T33 t111 0).f4)).bind fun t122 => (some (a0, t107, t122, 0))) else (none)))) else (none))) else (none)) else (none)))) = some (r1, r2, r3, r4) := H
    have A10 := Aside0.mk A100
    clear A100
    replace H := Option.bind_eq_some_iff.mp H
    obtain ⟨t117, A110, H⟩ := H
    replace H : (if t117 = true then (none) else (if (t111.length : Int) = 1 then (if 0 < (t111.length : Int) then ((name_Alike.f ((rd_T33 t111 0).f0) a0).bind fun t119 => (if t119 = true then (if (t114.length : Int) = 0 then (none) else ((apart_plain.f k t107).bind fun t120 => (if t120 = true then ((api_RR_31.f k t107 ((rd_T33 t111 0).f0) ((rd_T33 t111 0).f1) ((rd_T33 t111 0).f2) ((rd_T33 t111 0).f3) ((rd_T33 t111 0).f4)).bind fun t122 => (some (a0, t107, t122, 0))) else (none)))) else (none))) else (none)) else (none))) = some (r1, r2, r3, r4) := H
    have A11 := Aside0.mk A110
    clear A110
    by_cases c12 : t117 = true
    ·subst c12
     have H1 : (none) = some (r1, r2, r3, r4) := by rw [if_pos rfl] at H; exact H
     clear H
     have H := H1
     clear H1
     exact absurd H (by simp)
    ·replace c12 := Bool.eq_false_iff.mpr c12
     subst c12
     have H1 : (if (t111.length : Int) = 1 then (if 0 < (t111.length : Int) then ((name_Alike.f ((rd_T33 t111 0).f0) a0).bind fun t119 => (if t119 = true then (if (t114.length : Int) = 0 then (none) else ((apart_plain.f k t107).bind fun t120 => (if t120 = true then ((api_RR_31.f k t107 ((rd_T33 t111 0).f0) ((rd_T33 t111 0).f1) ((rd_T33 t111 0).f2) ((rd_T33 t111 0).f3) ((rd_T33 t111 0).f4)).bind fun t122 => (some (a0, t107, t122, 0))) else (none)))) else (none))) else (none)) else (none)) = some (r1, r2, r3, r4) := by rw [if_neg (show ¬ (false = true) by decide)] at H; exact H
     clear H
     have H := H1
     clear H1
     by_cases c13 : (t111.length : Int) = 1
     ·rw [if_pos c13] at H
      have c13b0 : ((t111.length : Int) == 1) = true := beq_iff_eq.mpr c13
      have c13b1 : ((t111.length : Int) != 1) = false := bne_eq_false_iff_eq.mpr c13
      clear c13
      by_cases c14 : 0 < (t111.length : Int)
      ·rw [if_pos c14] at H
       have c14b0 : decide (0 < (t111.length : Int)) = true := decide_eq_true c14
       have c14b1 : decide (0 < t111.length) = true := decide_eq_true (by omega)
       clear c14
       replace H := Option.bind_eq_some_iff.mp H
       obtain ⟨t119, A150, H⟩ := H
       replace H : (if t119 = true then (if (t114.length : Int) = 0 then (none) else ((apart_plain.f k t107).bind fun t120 => (if t120 = true then ((api_RR_31.f k t107 ((rd_T33 t111 0).f0) ((rd_T33 t111 0).f1) ((rd_T33 t111 0).f2) ((rd_T33 t111 0).f3) ((rd_T33 t111 0).f4)).bind fun t122 => (some (a0, t107, t122, 0))) else (none)))) else (none)) = some (r1, r2, r3, r4) := H
       have A15 := Aside0.mk A150
       clear A150
       by_cases c16 : t119 = true
       ·subst c16
        have H1 : (if (t114.length : Int) = 0 then (none) else ((apart_plain.f k t107).bind fun t120 => (if t120 = true then ((api_RR_31.f k t107 ((rd_T33 t111 0).f0) ((rd_T33 t111 0).f1) ((rd_T33 t111 0).f2) ((rd_T33 t111 0).f3) ((rd_T33 t111 0).f4)).bind fun t122 => (some (a0, t107, t122, 0))) else (none)))) = some (r1, r2, r3, r4) := by rw [if_pos rfl] at H; exact H
        clear H
        have H := H1
        clear H1
        by_cases c17 : (t114.length : Int) = 0
        ·rw [if_pos c17] at H
         exact absurd H (by simp)
        ·rw [if_neg c17] at H
         have c17b0 : ((t114.length : Int) == 0) = false := beq_eq_false_iff_ne.mpr c17
         have c17b1 : ((t114.length : Int) != 0) = true := bne_iff_ne.mpr c17
         have c17b2 : ¬ (t114 = []) := fun h_ => c17 (by rw [h_]; rfl)
         replace H := Option.bind_eq_some_iff.mp H
         obtain ⟨t120, A180, H⟩ := H
         replace H : (if t120 = true then ((api_RR_31.f k t107 ((rd_T33 t111 0).f0) ((rd_T33 t111 0).f1) ((rd_T33 t111 0).f2) ((rd_T33 t111 0).f3) ((rd_T33 t111 0).f4)).bind fun t122 => (some (a0, t107, t122, 0))) else (none)) = some (r1, r2, r3, r4) := H
         have A18 := Aside0.mk A180
         clear A180
         by_cases c19 : t120 = true
         ·subst c19
          have H1 : ((api_RR_31.f k t107 ((rd_T33 t111 0).f0) ((rd_T33 t111 0).f1) ((rd_T33 t111 0).f2) ((rd_T33 t111 0).f3) ((rd_T33 t111 0).f4)).bind fun t122 => (some (a0, t107, t122, 0))) = some (r1, r2, r3, r4) := by rw [if_pos rfl] at H; exact H
          clear H
          have H := H1
          clear H1
          replace H := Option.bind_eq_some_iff.mp H
          obtain ⟨t122, A200, H⟩ := H
          replace H : (some (a0, t107, t122, 0)) = some (r1, r2, r3, r4) := H
          have A20 := Aside0.mk A200
          clear A200
          simp only [Option.some.injEq, Prod.mk.injEq] at H
          obtain ⟨rfl, rfl, rfl, rfl⟩ := H
          go_enter Try.func10, Try.ntmps10
          try go_wp2_with (first | ((with_reducible refine gate_dst (N := 2) rfl ?_); (try (refine gate_guard (by rfl) ?_; dsimp only)); refine box_event ?hg (N := 2) ?hd (cs := #[.string a0]) (t := 9) ?hr ?_; (case hd => rfl); (case hg => rfl); (case hr => first | (go_simp; done) | (go_simp; rfl)); intro gb103 hg w21 hbox hb; have n0_ := Aside0.mk (below_step (by repeat (first | (with_reducible first | exact HB.out | apply below_alloc | apply pw_below_drewN | apply below_drew1) | exact HB.out)) hb); have n1_ := Aside0.mk (hbox); have n2_ := Aside0.mk ((by rw [hg]; exact (below_size (by repeat (first | (with_reducible first | exact HB.out | apply below_alloc | apply pw_below_drewN | apply below_drew1) | exact HB.out))) : w.heap.size ≤ gb103)); have n3_ := Aside0.mk ((by rw [hg]; exact (below_size (by repeat (first | (with_reducible first | exact HB.out | apply below_alloc | apply pw_below_drewN | apply below_drew1) | exact HB.out))) : w.heap.size ≤ gb103)); clear HB; have HB := n0_; have BK103 := n1_; have GW103 := n2_; have GE103 := n3_; clear n0_ n1_ n2_ n3_; clear hb hbox hg) | ((with_reducible refine gate_dst (N := 4) rfl ?_); (try (refine gate_guard (by rfl) ?_; dsimp only)); refine box_event ?hg (N := 4) ?hd (cs := #[.string (⟨#[]⟩ : ByteArray), .slice none 0 0, .int .i64 0]) (t := 27) ?hr ?_; (case hd => rfl); (case hg => rfl); (case hr => first | (go_simp; done) | (go_simp; rfl)); intro gb104 hg w22 hbox hb; have n0_ := Aside0.mk (blk_below (g := gb103) (o := .cells #[.string a0] 9 (0, 0)) (by (with_reducible repeat (first | refine blk_drewN ?_ _ | refine blk_drew ?_ | refine blk_alloc ?_ _)); exact BK103.out) hb); have n1_ := Aside0.mk (below_step (by repeat (first | (with_reducible first | exact HB.out | apply below_alloc | apply pw_below_drewN | apply below_drew1 | refine below_set ?_ GE103.out) | exact HB.out)) hb); have n2_ := Aside0.mk (hbox); have n3_ := Aside0.mk ((by rw [hg]; exact (below_size (by repeat (first | (with_reducible first | exact HB.out | apply below_alloc | apply pw_below_drewN | apply below_drew1 | refine below_set ?_ GE103.out) | exact HB.out))) : w.heap.size ≤ gb104)); have n4_ := Aside0.mk ((by rw [hg]; exact (below_size (by repeat (first | (with_reducible first | exact HB.out | apply below_alloc | apply pw_below_drewN | apply below_drew1 | refine below_set ?_ GE103.out) | exact HB.out))) : w.heap.size ≤ gb104)); have n5_ := Aside0.mk ((by rw [hg]; exact Nat.ne_of_lt (blk_lt (g := gb103) (o := .cells #[.string a0] 9 (0, 0)) (by (with_reducible repeat (first | refine blk_drewN ?_ _ | refine blk_drew ?_ | refine blk_alloc ?_ _)); exact BK103.out)) : gb103 ≠ gb104)); have n6_ := Aside0.mk ((by rw [hg]; exact Nat.ne_of_gt (blk_lt (g := gb103) (o := .cells #[.string a0] 9 (0, 0)) (by (with_reducible repeat (first | refine blk_drewN ?_ _ | refine blk_drew ?_ | refine blk_alloc ?_ _)); exact BK103.out)) : gb104 ≠ gb103)); clear BK103; clear HB; have BK103 := n0_; have HB := n1_; have BK104 := n2_; have GW104 := n3_; have GE104 := n4_; have NB103_104 := n5_; have NB104_103 := n6_; clear n0_ n1_ n2_ n3_ n4_ n5_ n6_; clear hb hbox hg; have hnb23 := NB103_104.out; have hnc23 := NB104_103.out; have hcz24_0 : w22.cell? ⟨gb103, 0, none⟩ = some (.string a0) := (blk_cell BK103.out 0).trans rfl; have hfz24_0 := blk_frozen BK103.out 0) | ((with_reducible refine gate_callee (f := 20) rfl ?_); refine goesL_ (some 10) rfl rfl Try.func20 (by kernel_rfl) rfl #[.string a0] rfl (by (try simp only [List.map_toArray, List.map_cons, List.map_nil]); first | done | rfl | (simp only [List.length_drop, List.length_take]; rfl)) ?_; (with_reducible refine (name_Right.calls a0 true _ A3.out).mono ?_); rintro e w25 ⟨rfl, hb⟩; refine ⟨_, rfl, ?_⟩; have n0_ := Aside0.mk (blk_below (g := gb103) (o := .cells #[.string a0] 9 (0, 0)) (by (with_reducible repeat (first | refine blk_drewN ?_ _ | refine blk_drew ?_ | refine blk_alloc ?_ _)); exact BK103.out) hb); have n1_ := Aside0.mk (blk_below (g := gb104) (o := .cells #[.string (⟨#[]⟩ : ByteArray), .slice none 0 0, .int .i64 0] 27 (0, 0)) (by (with_reducible repeat (first | refine blk_drewN ?_ _ | refine blk_drew ?_ | refine blk_alloc ?_ _)); exact BK104.out) hb); have n2_ := Aside0.mk (below_step (by repeat (first | (with_reducible first | exact HB.out | apply below_alloc | apply pw_below_drewN | apply below_drew1 | refine below_set ?_ GE103.out | refine below_set ?_ GE104.out) | exact HB.out)) hb); clear BK103; clear BK104; clear HB; have BK103 := n0_; have BK104 := n1_; have HB := n2_; clear n0_ n1_ n2_; (try clear hb); (try clear hb2); (try clear hk); (try clear hi)) | (go_at_call 21; (with_reducible refine (right_any.calls k _ _ l1 7770022 false _ ?side1 ?side2 A5.out).mono ?_); (case side1 => repeat (first | exact (Kd.C_below HR1.out HB.out) | (with_reducible refine Kd.C_alloc ?_ _) | (with_reducible refine Kd.C_drewN ?_ _) | (with_reducible refine Kd.C_drew ?_))); (case side2 => exact HC1.out); rintro e w26 ⟨rfl, hb⟩; have n0_ := Aside0.mk (blk_below (g := gb103) (o := .cells #[.string a0] 9 (0, 0)) (by (with_reducible repeat (first | refine blk_drewN ?_ _ | refine blk_drew ?_ | refine blk_alloc ?_ _)); exact BK103.out) hb); have n1_ := Aside0.mk (blk_below (g := gb104) (o := .cells #[.string (⟨#[]⟩ : ByteArray), .slice none 0 0, .int .i64 0] 27 (0, 0)) (by (with_reducible repeat (first | refine blk_drewN ?_ _ | refine blk_drew ?_ | refine blk_alloc ?_ _)); exact BK104.out) hb); have n2_ := Aside0.mk (below_step (by repeat (first | (with_reducible first | exact HB.out | apply below_alloc | apply pw_below_drewN | apply below_drew1 | refine below_set ?_ GE103.out | refine below_set ?_ GE104.out) | exact HB.out)) hb); clear BK103; clear BK104; clear HB; have BK103 := n0_; have BK104 := n1_; have HB := n2_; clear n0_ n1_ n2_; (try clear hb); (try clear hb2); (try clear hk); (try clear hi)))
          have n0_ := Aside0.mk (blk_drew BK103.out)
          have n1_ := Aside0.mk (blk_drew BK104.out)
          have n2_ := Aside0.mk (below_drew1 HB.out)
          clear BK103
          clear BK104
          clear HB
          have BK103 := n0_
          have BK104 := n1_
          have HB := n2_
          clear n0_ n1_ n2_
          refine start_ (n := 6) (S := fun w' => w'.cell? ⟨gb103, 0, none⟩ = some (.string a0)) (ds := []) #[false, false, false, false, false, false] (by kernel_rfl) rfl rfl ((blk_cell BK103.out 0).trans rfl) (fun hHeld => ?_)
          generalize w26.drew = w27 at BK103 BK104 HB hHeld ⊢
          refine pure_ (i := 1) (N := some 18) (v := ?_) (a' := ?_) #[false, true, false, false, false, false] rfl rfl (by kernel_rfl) (fun _ _ _ h => h) (Or.inl ⟨by rfl, ?_⟩) ?_ ?_
          rotate_left
          ·intro w'
           go_simp
           with_reducible rfl
          rotate_left
          ·simp only [Act.put, List.setIfInBounds_toArray, List.set_cons_zero, List.set_cons_succ, i64_w, i32_w]
           rfl
          refine take_ (i := 0) (N := some 17) (v := ?_) (a' := ?_) #[true, true, false, false, false, false] rfl rfl (by kernel_rfl) (fun _ _ _ h => h) (Or.inl ⟨by rfl, ?_⟩) hHeld ?_ ?_
          rotate_left
          ·intro w' s0
           go_simp
           with_reducible rfl
          rotate_left
          ·simp only [Act.put, List.setIfInBounds_toArray, List.set_cons_zero, List.set_cons_succ, i64_w, i32_w]
           rfl
          refine join_ (σ := Value × Nat) 1 #[true, true, true, true, true, false] (fun s_ => [(19, s_.1), (6, .pointer (some ⟨s_.2, 0, none⟩)), (20, .agg #[.string a0, s_.1, .int .i64 0])]) (fun s_ w' => (w'.cell? ⟨gb103, 0, none⟩ = some (.string a0)) ∧ (Kd.R k33 33 w' w.heap.size (fun _ => True) s_.1 t107) ∧ (w'.heap[gb103]? = some (.cells #[.string a0] 9 (0, 0))) ∧ (w'.heap[gb104]? = some (.cells #[.string (⟨#[]⟩ : ByteArray), .slice none 0 0, .int .i64 0] 27 (0, 0))) ∧ (w'.heap[s_.2]? = some (.cells #[.string (⟨#[]⟩ : ByteArray), .slice none 0 0, .int .i64 0] 27 (0, 0))) ∧ (w.heap.size ≤ s_.2) ∧ (w.heap.size ≤ s_.2) ∧ (gb103 ≠ s_.2) ∧ (s_.2 ≠ gb103) ∧ (gb104 ≠ s_.2) ∧ (s_.2 ≠ gb104) ∧ (Below w.heap.size w w')) ?_ ?_
          rotate_left
          ·intro hCont
           refine two_ (i := 2) (j := 4) (Ni := some 19) (Nj := some 6) #[true, true, true, false, false, false] #[true, true, false, false, true, false] rfl rfl rfl rfl (by kernel_rfl) (by decide) (by decide) (fun K hK => ?_) (fun K hK => ?_)
           ·skip
            refine goes_ Try.func24 (by kernel_rfl) rfl #[.slice A1 l1.length c1] (by rfl) rfl rfl (by (try simp only [List.map_toArray, List.map_cons, List.map_nil]); first | done | rfl | (simp only [List.length_drop, List.length_take]; rfl)) ?_
            with_reducible refine (rrset_Of.calls _ _ l1 t107 _ ?side1 ?side2 A7.out).mono ?_
            (case side1 => repeat (first | exact (Kd.C_below HR1.out HB.out) | (with_reducible refine Kd.C_alloc ?_ _) | (with_reducible refine Kd.C_drewN ?_ _) | (with_reducible refine Kd.C_drew ?_)))
            (case side2 => exact HC1.out)
            rintro e w28 ⟨v108, rfl, ho0, hb⟩
            refine ⟨_, rfl, ?_⟩
            have n0_ := Aside0.mk (Kd.R_lower ho0 (below_size (by repeat (first | (with_reducible first | exact HB.out | apply below_alloc | apply pw_below_drewN | apply below_drew1 | refine below_set ?_ GE103.out | refine below_set ?_ GE104.out) | exact HB.out))))
            have n1_ := Aside0.mk (blk_below (g := gb103) (o := .cells #[.string a0] 9 (0, 0)) (by (with_reducible repeat (first | refine blk_drewN ?_ _ | refine blk_drew ?_ | refine blk_alloc ?_ _)); exact BK103.out) hb)
            have n2_ := Aside0.mk (blk_below (g := gb104) (o := .cells #[.string (⟨#[]⟩ : ByteArray), .slice none 0 0, .int .i64 0] 27 (0, 0)) (by (with_reducible repeat (first | refine blk_drewN ?_ _ | refine blk_drew ?_ | refine blk_alloc ?_ _)); exact BK104.out) hb)
            have n3_ := Aside0.mk (below_step (by repeat (first | (with_reducible first | exact HB.out | apply below_alloc | apply pw_below_drewN | apply below_drew1 | refine below_set ?_ GE103.out | refine below_set ?_ GE104.out) | exact HB.out)) hb)
            clear BK103
            clear BK104
            clear HB
            have HO109 := n0_
            have BK103 := n1_
            have BK104 := n2_
            have HB := n3_
            clear n0_ n1_ n2_ n3_
            (try clear hb)
            (try clear hb2)
            (try clear hk)
            (try clear hi)
            (try clear ho0)
            obtain ⟨Ao29, co29, eo29⟩ := Kd.R_slice HO109.out
            (first | subst eo29 | (injection eo29 with f1_ f2_ f3_; have f4_ := f1_.symm; have f5_ := f3_.symm; clear f1_ f2_ f3_; subst f4_; subst f5_))
            refine hK.out _ _ ((blk_cell BK103.out 0).trans rfl) (fun hHeld => ?_)
            clear hK K
            refine norm_ (a' := ?_) ?_ ?_
            rotate_left
            ·show Act.put _ (some 19) _ = _
             simp only [Act.put, List.setIfInBounds_toArray, List.set_cons_zero, List.set_cons_succ, i64_w, i32_w]
             rfl
            refine pure_ (i := 3) (N := some 20) (v := ?_) (a' := ?_) #[true, true, true, true, false, false] rfl rfl (by kernel_rfl) (fun _ _ _ h => h) (Or.inl ⟨by rfl, ?_⟩) ?_ ?_
            rotate_left
            ·intro w'
             go_simp
             with_reducible rfl
            rotate_left
            ·simp only [Act.put, List.setIfInBounds_toArray, List.set_cons_zero, List.set_cons_succ, i64_w, i32_w]
             rfl
            refine one_ (i := 4) (N := some 6) #[true, true, true, true, true, false] rfl rfl (by kernel_rfl) (by decide) (fun K hK => ?_)
            refine box_step ?hg (N := 6) ?hd (cs := #[.string (⟨#[]⟩ : ByteArray), .slice none 0 0, .int .i64 0]) (t := 27) ?hr ?_; (case hd => rfl); (case hg => rfl); (case hr => first | (go_simp; done) | (go_simp; rfl))
            intro gb110 hg w30 hbox hb
            have n0_ := Aside0.mk (Kd.R_below (by (with_reducible repeat (first | apply Kd.R_alloc | apply Kd.R_drewN | apply Kd.R_drew)); exact HO109.out) hb)
            have n1_ := Aside0.mk (blk_below (g := gb103) (o := .cells #[.string a0] 9 (0, 0)) (by (with_reducible repeat (first | refine blk_drewN ?_ _ | refine blk_drew ?_ | refine blk_alloc ?_ _)); exact BK103.out) hb)
            have n2_ := Aside0.mk (blk_below (g := gb104) (o := .cells #[.string (⟨#[]⟩ : ByteArray), .slice none 0 0, .int .i64 0] 27 (0, 0)) (by (with_reducible repeat (first | refine blk_drewN ?_ _ | refine blk_drew ?_ | refine blk_alloc ?_ _)); exact BK104.out) hb)
            have n3_ := Aside0.mk (below_step (by repeat (first | (with_reducible first | exact HB.out | apply below_alloc | apply pw_below_drewN | apply below_drew1 | refine below_set ?_ GE103.out | refine below_set ?_ GE104.out) | exact HB.out)) hb)
            have n4_ := Aside0.mk (hbox)
            have n5_ := Aside0.mk ((by rw [hg]; exact (below_size (by repeat (first | (with_reducible first | exact HB.out | apply below_alloc | apply pw_below_drewN | apply below_drew1 | refine below_set ?_ GE103.out | refine below_set ?_ GE104.out) | exact HB.out))) : w.heap.size ≤ gb110))
            have n6_ := Aside0.mk ((by rw [hg]; exact (below_size (by repeat (first | (with_reducible first | exact HB.out | apply below_alloc | apply pw_below_drewN | apply below_drew1 | refine below_set ?_ GE103.out | refine below_set ?_ GE104.out) | exact HB.out))) : w.heap.size ≤ gb110))
            have n7_ := Aside0.mk ((by rw [hg]; exact Nat.ne_of_lt (blk_lt (g := gb103) (o := .cells #[.string a0] 9 (0, 0)) (by (with_reducible repeat (first | refine blk_drewN ?_ _ | refine blk_drew ?_ | refine blk_alloc ?_ _)); exact BK103.out)) : gb103 ≠ gb110))
            have n8_ := Aside0.mk ((by rw [hg]; exact Nat.ne_of_gt (blk_lt (g := gb103) (o := .cells #[.string a0] 9 (0, 0)) (by (with_reducible repeat (first | refine blk_drewN ?_ _ | refine blk_drew ?_ | refine blk_alloc ?_ _)); exact BK103.out)) : gb110 ≠ gb103))
            have n9_ := Aside0.mk ((by rw [hg]; exact Nat.ne_of_lt (blk_lt (g := gb104) (o := .cells #[.string (⟨#[]⟩ : ByteArray), .slice none 0 0, .int .i64 0] 27 (0, 0)) (by (with_reducible repeat (first | refine blk_drewN ?_ _ | refine blk_drew ?_ | refine blk_alloc ?_ _)); exact BK104.out)) : gb104 ≠ gb110))
            have n10_ := Aside0.mk ((by rw [hg]; exact Nat.ne_of_gt (blk_lt (g := gb104) (o := .cells #[.string (⟨#[]⟩ : ByteArray), .slice none 0 0, .int .i64 0] 27 (0, 0)) (by (with_reducible repeat (first | refine blk_drewN ?_ _ | refine blk_drew ?_ | refine blk_alloc ?_ _)); exact BK104.out)) : gb110 ≠ gb104))
            clear HO109
            clear BK103
            clear BK104
            clear HB
            have HO109 := n0_
            have BK103 := n1_
            have BK104 := n2_
            have HB := n3_
            have BK110 := n4_
            have GW110 := n5_
            have GE110 := n6_
            have NB103_110 := n7_
            have NB110_103 := n8_
            have NB104_110 := n9_
            have NB110_104 := n10_
            clear n0_ n1_ n2_ n3_ n4_ n5_ n6_ n7_ n8_ n9_ n10_
            clear hb hbox hg
            refine hK.out _ _ ((blk_cell BK103.out 0).trans rfl) (fun hHeld => ?_)
            clear hK K
            refine norm_ (a' := ?_) ?_ ?_
            rotate_left
            ·show Act.put _ (some 6) _ = _
             simp only [Act.put, List.setIfInBounds_toArray, List.set_cons_zero, List.set_cons_succ, i64_w, i32_w]
             rfl
            exact norm_ (by simp only [putAll, Act.put, List.setIfInBounds_toArray, List.set_cons_zero, List.set_cons_succ]) (hCont (.slice Ao29 t107.length co29, gb110) _ ⟨hHeld, (by (with_reducible repeat (first | apply Kd.R_alloc | apply Kd.R_drewN | apply Kd.R_drew)); exact HO109.out), (by (with_reducible repeat (first | refine blk_drewN ?_ _ | refine blk_drew ?_ | refine blk_alloc ?_ _)); exact BK103.out), (by (with_reducible repeat (first | refine blk_drewN ?_ _ | refine blk_drew ?_ | refine blk_alloc ?_ _)); exact BK104.out), (by (with_reducible repeat (first | refine blk_drewN ?_ _ | refine blk_drew ?_ | refine blk_alloc ?_ _)); exact BK110.out), GW110.out, GE110.out, NB103_110.out, NB110_103.out, NB104_110.out, NB110_104.out, (by repeat (first | (with_reducible first | exact HB.out | apply below_alloc | apply pw_below_drewN | apply below_drew1 | refine below_set ?_ GE103.out | refine below_set ?_ GE104.out | refine below_set ?_ GE110.out) | exact HB.out))⟩)
           ·skip
            refine box_step ?hg (N := 6) ?hd (cs := #[.string (⟨#[]⟩ : ByteArray), .slice none 0 0, .int .i64 0]) (t := 27) ?hr ?_; (case hd => rfl); (case hg => rfl); (case hr => first | (go_simp; done) | (go_simp; rfl))
            intro gb110 hg w28 hbox hb
            have n0_ := Aside0.mk (blk_below (g := gb103) (o := .cells #[.string a0] 9 (0, 0)) (by (with_reducible repeat (first | refine blk_drewN ?_ _ | refine blk_drew ?_ | refine blk_alloc ?_ _)); exact BK103.out) hb)
            have n1_ := Aside0.mk (blk_below (g := gb104) (o := .cells #[.string (⟨#[]⟩ : ByteArray), .slice none 0 0, .int .i64 0] 27 (0, 0)) (by (with_reducible repeat (first | refine blk_drewN ?_ _ | refine blk_drew ?_ | refine blk_alloc ?_ _)); exact BK104.out) hb)
            have n2_ := Aside0.mk (below_step (by repeat (first | (with_reducible first | exact HB.out | apply below_alloc | apply pw_below_drewN | apply below_drew1 | refine below_set ?_ GE103.out | refine below_set ?_ GE104.out) | exact HB.out)) hb)
            have n3_ := Aside0.mk (hbox)
            have n4_ := Aside0.mk ((by rw [hg]; exact (below_size (by repeat (first | (with_reducible first | exact HB.out | apply below_alloc | apply pw_below_drewN | apply below_drew1 | refine below_set ?_ GE103.out | refine below_set ?_ GE104.out) | exact HB.out))) : w.heap.size ≤ gb110))
            have n5_ := Aside0.mk ((by rw [hg]; exact (below_size (by repeat (first | (with_reducible first | exact HB.out | apply below_alloc | apply pw_below_drewN | apply below_drew1 | refine below_set ?_ GE103.out | refine below_set ?_ GE104.out) | exact HB.out))) : w.heap.size ≤ gb110))
            have n6_ := Aside0.mk ((by rw [hg]; exact Nat.ne_of_lt (blk_lt (g := gb103) (o := .cells #[.string a0] 9 (0, 0)) (by (with_reducible repeat (first | refine blk_drewN ?_ _ | refine blk_drew ?_ | refine blk_alloc ?_ _)); exact BK103.out)) : gb103 ≠ gb110))
            have n7_ := Aside0.mk ((by rw [hg]; exact Nat.ne_of_gt (blk_lt (g := gb103) (o := .cells #[.string a0] 9 (0, 0)) (by (with_reducible repeat (first | refine blk_drewN ?_ _ | refine blk_drew ?_ | refine blk_alloc ?_ _)); exact BK103.out)) : gb110 ≠ gb103))
            have n8_ := Aside0.mk ((by rw [hg]; exact Nat.ne_of_lt (blk_lt (g := gb104) (o := .cells #[.string (⟨#[]⟩ : ByteArray), .slice none 0 0, .int .i64 0] 27 (0, 0)) (by (with_reducible repeat (first | refine blk_drewN ?_ _ | refine blk_drew ?_ | refine blk_alloc ?_ _)); exact BK104.out)) : gb104 ≠ gb110))
            have n9_ := Aside0.mk ((by rw [hg]; exact Nat.ne_of_gt (blk_lt (g := gb104) (o := .cells #[.string (⟨#[]⟩ : ByteArray), .slice none 0 0, .int .i64 0] 27 (0, 0)) (by (with_reducible repeat (first | refine blk_drewN ?_ _ | refine blk_drew ?_ | refine blk_alloc ?_ _)); exact BK104.out)) : gb110 ≠ gb104))
            clear BK103
            clear BK104
            clear HB
            have BK103 := n0_
            have BK104 := n1_
            have HB := n2_
            have BK110 := n3_
            have GW110 := n4_
            have GE110 := n5_
            have NB103_110 := n6_
            have NB110_103 := n7_
            have NB104_110 := n8_
            have NB110_104 := n9_
            clear n0_ n1_ n2_ n3_ n4_ n5_ n6_ n7_ n8_ n9_
            clear hb hbox hg
            refine hK.out _ _ ((blk_cell BK103.out 0).trans rfl) (fun hHeld => ?_)
            clear hK K
            refine norm_ (a' := ?_) ?_ ?_
            rotate_left
            ·show Act.put _ (some 6) _ = _
             simp only [Act.put, List.setIfInBounds_toArray, List.set_cons_zero, List.set_cons_succ, i64_w, i32_w]
             rfl
            refine one_ (i := 2) (N := some 19) #[true, true, true, false, true, false] rfl rfl (by kernel_rfl) (by decide) (fun K hK => ?_)
            refine goes_ Try.func24 (by kernel_rfl) rfl #[.slice A1 l1.length c1] (by rfl) rfl rfl (by (try simp only [List.map_toArray, List.map_cons, List.map_nil]); first | done | rfl | (simp only [List.length_drop, List.length_take]; rfl)) ?_
            with_reducible refine (rrset_Of.calls _ _ l1 t107 _ ?side1 ?side2 A7.out).mono ?_
            (case side1 => repeat (first | exact (Kd.C_below HR1.out HB.out) | (with_reducible refine Kd.C_alloc ?_ _) | (with_reducible refine Kd.C_drewN ?_ _) | (with_reducible refine Kd.C_drew ?_)))
            (case side2 => exact HC1.out)
            rintro e w29 ⟨v108, rfl, ho0, hb⟩
            refine ⟨_, rfl, ?_⟩
            have n0_ := Aside0.mk (Kd.R_lower ho0 (below_size (by repeat (first | (with_reducible first | exact HB.out | apply below_alloc | apply pw_below_drewN | apply below_drew1 | refine below_set ?_ GE103.out | refine below_set ?_ GE104.out | refine below_set ?_ GE110.out) | exact HB.out))))
            have n1_ := Aside0.mk (blk_below (g := gb103) (o := .cells #[.string a0] 9 (0, 0)) (by (with_reducible repeat (first | refine blk_drewN ?_ _ | refine blk_drew ?_ | refine blk_alloc ?_ _)); exact BK103.out) hb)
            have n2_ := Aside0.mk (blk_below (g := gb104) (o := .cells #[.string (⟨#[]⟩ : ByteArray), .slice none 0 0, .int .i64 0] 27 (0, 0)) (by (with_reducible repeat (first | refine blk_drewN ?_ _ | refine blk_drew ?_ | refine blk_alloc ?_ _)); exact BK104.out) hb)
            have n3_ := Aside0.mk (blk_below (g := gb110) (o := .cells #[.string (⟨#[]⟩ : ByteArray), .slice none 0 0, .int .i64 0] 27 (0, 0)) (by (with_reducible repeat (first | refine blk_drewN ?_ _ | refine blk_drew ?_ | refine blk_alloc ?_ _)); exact BK110.out) hb)
            have n4_ := Aside0.mk (below_step (by repeat (first | (with_reducible first | exact HB.out | apply below_alloc | apply pw_below_drewN | apply below_drew1 | refine below_set ?_ GE103.out | refine below_set ?_ GE104.out | refine below_set ?_ GE110.out) | exact HB.out)) hb)
            clear BK103
            clear BK104
            clear BK110
            clear HB
            have HO109 := n0_
            have BK103 := n1_
            have BK104 := n2_
            have BK110 := n3_
            have HB := n4_
            clear n0_ n1_ n2_ n3_ n4_
            (try clear hb)
            (try clear hb2)
            (try clear hk)
            (try clear hi)
            (try clear ho0)
            obtain ⟨Ao30, co30, eo30⟩ := Kd.R_slice HO109.out
            (first | subst eo30 | (injection eo30 with f1_ f2_ f3_; have f4_ := f1_.symm; have f5_ := f3_.symm; clear f1_ f2_ f3_; subst f4_; subst f5_))
            refine hK.out _ _ ((blk_cell BK103.out 0).trans rfl) (fun hHeld => ?_)
            clear hK K
            refine norm_ (a' := ?_) ?_ ?_
            rotate_left
            ·show Act.put _ (some 19) _ = _
             simp only [Act.put, List.setIfInBounds_toArray, List.set_cons_zero, List.set_cons_succ, i64_w, i32_w]
             rfl
            refine pure_ (i := 3) (N := some 20) (v := ?_) (a' := ?_) #[true, true, true, true, true, false] rfl rfl (by kernel_rfl) (fun _ _ _ h => h) (Or.inl ⟨by rfl, ?_⟩) ?_ ?_
            rotate_left
            ·intro w'
             go_simp
             with_reducible rfl
            rotate_left
            ·simp only [Act.put, List.setIfInBounds_toArray, List.set_cons_zero, List.set_cons_succ, i64_w, i32_w]
             rfl
            exact norm_ (by simp only [putAll, Act.put, List.setIfInBounds_toArray, List.set_cons_zero, List.set_cons_succ]) (hCont (.slice Ao30 t107.length co30, gb110) _ ⟨hHeld, (by (with_reducible repeat (first | apply Kd.R_alloc | apply Kd.R_drewN | apply Kd.R_drew)); exact HO109.out), (by (with_reducible repeat (first | refine blk_drewN ?_ _ | refine blk_drew ?_ | refine blk_alloc ?_ _)); exact BK103.out), (by (with_reducible repeat (first | refine blk_drewN ?_ _ | refine blk_drew ?_ | refine blk_alloc ?_ _)); exact BK104.out), (by (with_reducible repeat (first | refine blk_drewN ?_ _ | refine blk_drew ?_ | refine blk_alloc ?_ _)); exact BK110.out), GW110.out, GE110.out, NB103_110.out, NB110_103.out, NB104_110.out, NB110_104.out, (by repeat (first | (with_reducible first | exact HB.out | apply below_alloc | apply pw_below_drewN | apply below_drew1 | refine below_set ?_ GE103.out | refine below_set ?_ GE104.out | refine below_set ?_ GE110.out) | exact HB.out))⟩)
          rintro ⟨v108, gb110⟩ w31 ⟨hS_, h0_, h1_, h2_, h3_, h4_, h5_, h6_, h7_, h8_, h9_, h10_⟩
          have n0_ : Aside0 (Kd.R k33 33 w31 w.heap.size (fun _ => True) v108 t107) := ⟨h0_⟩
          have n1_ : Aside0 (w31.heap[gb103]? = some (.cells #[.string a0] 9 (0, 0))) := ⟨h1_⟩
          have n2_ : Aside0 (w31.heap[gb104]? = some (.cells #[.string (⟨#[]⟩ : ByteArray), .slice none 0 0, .int .i64 0] 27 (0, 0))) := ⟨h2_⟩
          have n3_ : Aside0 (w31.heap[gb110]? = some (.cells #[.string (⟨#[]⟩ : ByteArray), .slice none 0 0, .int .i64 0] 27 (0, 0))) := ⟨h3_⟩
          have n4_ : Aside0 (w.heap.size ≤ gb110) := ⟨h4_⟩
          have n5_ : Aside0 (w.heap.size ≤ gb110) := ⟨h5_⟩
          have n6_ : Aside0 (gb103 ≠ gb110) := ⟨h6_⟩
          have n7_ : Aside0 (gb110 ≠ gb103) := ⟨h7_⟩
          have n8_ : Aside0 (gb104 ≠ gb110) := ⟨h8_⟩
          have n9_ : Aside0 (gb110 ≠ gb104) := ⟨h9_⟩
          have n10_ : Aside0 (Below w.heap.size w w31) := ⟨h10_⟩
          clear BK103
          clear BK104
          clear HB
          clear h0_ h1_ h2_ h3_ h4_ h5_ h6_ h7_ h8_ h9_ h10_
          have HO109 := n0_
          have BK103 := n1_
          have BK104 := n2_
          have BK110 := n3_
          have GW110 := n4_
          have GE110 := n5_
          have NB103_110 := n6_
          have NB110_103 := n7_
          have NB104_110 := n8_
          have NB110_104 := n9_
          have HB := n10_
          clear n0_ n1_ n2_ n3_ n4_ n5_ n6_ n7_ n8_ n9_ n10_
          have hHeld : w31.cell? ⟨gb103, 0, none⟩ = some (.string a0) := hS_
          obtain ⟨Ao32, co32, eo32⟩ := Kd.R_slice HO109.out
          (first | subst eo32 | (injection eo32 with f1_ f2_ f3_; have f4_ := f1_.symm; have f5_ := f3_.symm; clear f1_ f2_ f3_; subst f4_; subst f5_))
          refine norm_ (a' := ?_) ?_ ?_
          rotate_left
          ·simp only [putAll, Act.put, List.setIfInBounds_toArray, List.set_cons_zero, List.set_cons_succ]
           rfl
          refine one_ (i := 5) (N := none) #[true, true, true, true, true, true] rfl rfl (by kernel_rfl) (by decide) (fun K hK => ?_)
          have hs33 : w31.cell? ⟨gb110, 0, none⟩ = some (.string (⟨#[]⟩ : ByteArray)) := (blk_cell BK110.out 0).trans rfl
          have hfs33 := blk_frozen BK110.out 0
          have hns33_0 := NB103_110.out
          have hns33_1 := NB104_110.out
          have hms33_0 := NB110_103.out
          have hms33_1 := NB110_104.out
          have hs34 : w31.cell? ⟨gb110, 1, none⟩ = some (.slice none 0 0) := (blk_cell BK110.out 1).trans rfl
          have hfs34 := blk_frozen BK110.out 1
          have hns34_0 := NB103_110.out
          have hns34_1 := NB104_110.out
          have hms34_0 := NB110_103.out
          have hms34_1 := NB110_104.out
          have hs35 : w31.cell? ⟨gb110, 2, none⟩ = some (.int .i64 0) := (blk_cell BK110.out 2).trans rfl
          have hfs35 := blk_frozen BK110.out 2
          have hns35_0 := NB103_110.out
          have hns35_1 := NB104_110.out
          have hms35_0 := NB110_103.out
          have hms35_1 := NB110_104.out
          refine skip_ (w1 := ?_) (by rfl) rfl ?_ ?_
          rotate_left
          ·go_simp
           rfl
          refine hK.out _ _ (((cell_far (p := ⟨gb110, _, none⟩) NB103_110.out _).trans (((cell_far (p := ⟨gb110, _, none⟩) NB103_110.out _).trans (((cell_far (p := ⟨gb110, _, none⟩) NB103_110.out _).trans (hHeld))))))) (fun hHeld => ?_)
          clear hK K
          refine done_ (by kernel_rfl) ?_
          have hnb36 := NB110_103.out
          have hnc36 := NB103_110.out
          have hnb37 := NB110_104.out
          have hnc37 := NB104_110.out
          have hcz38_0 : w31.cell? ⟨gb110, 0, none⟩ = some (.string (⟨#[]⟩ : ByteArray)) := (blk_cell BK110.out 0).trans rfl
          have hcz38_1 : w31.cell? ⟨gb110, 1, none⟩ = some (.slice none 0 0) := (blk_cell BK110.out 1).trans rfl
          have hcz38_2 : w31.cell? ⟨gb110, 2, none⟩ = some (.int .i64 0) := (blk_cell BK110.out 2).trans rfl
          have hfz38_0 := blk_frozen BK110.out 0
          have hfz38_1 := blk_frozen BK110.out 1
          have hfz38_2 := blk_frozen BK110.out 2
          try go_wp2
          have n0_ : Aside0 (Kd.R k33 33 (((w31.setCell ⟨gb110, 0, none⟩ (.string a0)).setCell ⟨gb110, 1, none⟩ (.slice Ao32 t107.length co32)).setCell ⟨gb110, 2, none⟩ (.int .i64 0)) w.heap.size (fun _ => True) (.slice Ao32 t107.length co32) t107) := ⟨by (with_reducible repeat (first | apply Kd.R_alloc | apply Kd.R_drewN | apply Kd.R_drew)); exact Kd.R_mono (Kd.R_far (p := ⟨gb110, 2, none⟩) (Kd.R_far (p := ⟨gb110, 1, none⟩) (Kd.R_far (p := ⟨gb110, 0, none⟩) (Kd.R_types HO109.out BK110.out (by decide)) (fun _ hk => hk.2) (.string a0)) (fun _ hk => hk.2) (.slice Ao32 t107.length co32)) (fun _ hk => hk.2) (.int .i64 0)) (fun _ hk => trivial)⟩
          have n1_ : Aside0 ((((w31.setCell ⟨gb110, 0, none⟩ (.string a0)).setCell ⟨gb110, 1, none⟩ (.slice Ao32 t107.length co32)).setCell ⟨gb110, 2, none⟩ (.int .i64 0)).heap[gb103]? = some (.cells #[.string a0] 9 (0, 0))) := ⟨by (with_reducible repeat (first | refine blk_drewN ?_ _ | refine blk_drew ?_ | refine blk_alloc ?_ _)); refine blk_far ?_ NB103_110.out _; (with_reducible repeat (first | refine blk_drewN ?_ _ | refine blk_drew ?_ | refine blk_alloc ?_ _)); refine blk_far ?_ NB103_110.out _; (with_reducible repeat (first | refine blk_drewN ?_ _ | refine blk_drew ?_ | refine blk_alloc ?_ _)); refine blk_far ?_ NB103_110.out _; (with_reducible repeat (first | refine blk_drewN ?_ _ | refine blk_drew ?_ | refine blk_alloc ?_ _)); exact BK103.out⟩
          have n2_ : Aside0 ((((w31.setCell ⟨gb110, 0, none⟩ (.string a0)).setCell ⟨gb110, 1, none⟩ (.slice Ao32 t107.length co32)).setCell ⟨gb110, 2, none⟩ (.int .i64 0)).heap[gb104]? = some (.cells #[.string (⟨#[]⟩ : ByteArray), .slice none 0 0, .int .i64 0] 27 (0, 0))) := ⟨by (with_reducible repeat (first | refine blk_drewN ?_ _ | refine blk_drew ?_ | refine blk_alloc ?_ _)); refine blk_far ?_ NB104_110.out _; (with_reducible repeat (first | refine blk_drewN ?_ _ | refine blk_drew ?_ | refine blk_alloc ?_ _)); refine blk_far ?_ NB104_110.out _; (with_reducible repeat (first | refine blk_drewN ?_ _ | refine blk_drew ?_ | refine blk_alloc ?_ _)); refine blk_far ?_ NB104_110.out _; (with_reducible repeat (first | refine blk_drewN ?_ _ | refine blk_drew ?_ | refine blk_alloc ?_ _)); exact BK104.out⟩
          have n3_ : Aside0 ((((w31.setCell ⟨gb110, 0, none⟩ (.string a0)).setCell ⟨gb110, 1, none⟩ (.slice Ao32 t107.length co32)).setCell ⟨gb110, 2, none⟩ (.int .i64 0)).heap[gb110]? = some (.cells #[.string a0, .slice Ao32 t107.length co32, .int .i64 0] 27 (0, 0))) := ⟨by (with_reducible repeat (first | refine blk_drewN ?_ _ | refine blk_drew ?_ | refine blk_alloc ?_ _)); refine blk_put (cs := #[.string a0, .slice Ao32 t107.length co32, .int .i64 0]) ?_ 2 _ rfl; (with_reducible repeat (first | refine blk_drewN ?_ _ | refine blk_drew ?_ | refine blk_alloc ?_ _)); refine blk_put (cs := #[.string a0, .slice none 0 0, .int .i64 0]) ?_ 1 _ rfl; (with_reducible repeat (first | refine blk_drewN ?_ _ | refine blk_drew ?_ | refine blk_alloc ?_ _)); refine blk_put (cs := #[.string (⟨#[]⟩ : ByteArray), .slice none 0 0, .int .i64 0]) ?_ 0 _ rfl; (with_reducible repeat (first | refine blk_drewN ?_ _ | refine blk_drew ?_ | refine blk_alloc ?_ _)); exact BK110.out⟩
          have n4_ : Aside0 (Below w.heap.size w (((w31.setCell ⟨gb110, 0, none⟩ (.string a0)).setCell ⟨gb110, 1, none⟩ (.slice Ao32 t107.length co32)).setCell ⟨gb110, 2, none⟩ (.int .i64 0))) := ⟨by repeat (first | (with_reducible first | exact HB.out | apply below_alloc | apply pw_below_drewN | apply below_drew1 | refine below_set ?_ GE103.out | refine below_set ?_ GE104.out | refine below_set ?_ GE110.out) | exact HB.out)⟩
          (try clear HO109)
          (try clear BK103)
          (try clear BK104)
          (try clear BK110)
          (try clear HB)
          generalize (((w31.setCell ⟨gb110, 0, none⟩ (.string a0)).setCell ⟨gb110, 1, none⟩ (.slice Ao32 t107.length co32)).setCell ⟨gb110, 2, none⟩ (.int .i64 0)) = w39 at n0_ n1_ n2_ n3_ n4_ ⊢
          have HO109 := n0_
          have BK103 := n1_
          have BK104 := n2_
          have BK110 := n3_
          have HB := n4_
          clear n0_ n1_ n2_ n3_ n4_
          have n0_ := Aside0.mk (Kd.R_drew HO109.out)
          have n1_ := Aside0.mk (blk_drew BK103.out)
          have n2_ := Aside0.mk (blk_drew BK104.out)
          have n3_ := Aside0.mk (blk_drew BK110.out)
          have n4_ := Aside0.mk (below_drew1 HB.out)
          clear HO109
          clear BK103
          clear BK104
          clear BK110
          clear HB
          have HO109 := n0_
          have BK103 := n1_
          have BK104 := n2_
          have BK110 := n3_
          have HB := n4_
          clear n0_ n1_ n2_ n3_ n4_
          refine start_ (n := 8) (S := fun w' => w'.cell? ⟨gb110, 0, none⟩ = some (.string a0) ∧ w'.cell? ⟨gb110, 1, none⟩ = some (.slice Ao32 t107.length co32) ∧ w'.cell? ⟨gb110, 2, none⟩ = some (.int .i64 0) ∧ w'.cell? ⟨gb103, 0, none⟩ = some (.string a0)) (ds := []) #[false, false, false, false, false, false, false, false] (by kernel_rfl) rfl rfl ⟨(blk_cell BK110.out 0).trans rfl, (blk_cell BK110.out 1).trans rfl, (blk_cell BK110.out 2).trans rfl, (blk_cell BK103.out 0).trans rfl⟩ (fun hHeld => ?_); refine with_tabW zone_New.tab6 zone_New.bits6 (fun HT_ HW_ => ?_)
          generalize w39.drew = w40 at HO109 BK103 BK104 BK110 HB hHeld ⊢
          refine pure_ (i := 0) (N := some 26) (v := ?_) (a' := ?_) #[true, false, false, false, false, false, false, false] rfl rfl (any_of HT_.out (by kernel_rfl)) (fun _ _ _ h => h) (Or.inl ⟨by rfl, ?_⟩) ?_ ?_
          rotate_left
          ·intro w'
           go_simp
           with_reducible rfl
          rotate_left
          ·simp only [Act.put, List.setIfInBounds_toArray, List.set_cons_zero, List.set_cons_succ, i64_w, i32_w]
           rfl
          refine take_ (i := 1) (N := some 27) (v := ?_) (a' := ?_) #[true, true, false, false, false, false, false, false] rfl rfl (take_ofW HT_.out HW_.out (by kernel_rfl)) (fun _ _ _ h => h) (Or.inl ⟨by rfl, ?_⟩) hHeld ?_ ?_
          rotate_left
          ·rintro w' ⟨s0, s1, s2, s3⟩
           go_simp
           with_reducible rfl
          rotate_left
          ·simp only [Act.put, List.setIfInBounds_toArray, List.set_cons_zero, List.set_cons_succ, i64_w, i32_w]
           rfl
          refine take_ (i := 3) (N := some 29) (v := ?_) (a' := ?_) #[true, true, false, true, false, false, false, false] rfl rfl (take_ofW HT_.out HW_.out (by kernel_rfl)) (fun _ _ _ h => h) (Or.inl ⟨by rfl, ?_⟩) hHeld ?_ ?_
          rotate_left
          ·rintro w' ⟨s0, s1, s2, s3⟩
           go_simp
           with_reducible rfl
          rotate_left
          ·simp only [Act.put, List.setIfInBounds_toArray, List.set_cons_zero, List.set_cons_succ, i64_w, i32_w]
           rfl
          refine take_ (i := 4) (N := some 30) (v := ?_) (a' := ?_) #[true, true, false, true, true, false, false, false] rfl rfl (take_ofW HT_.out HW_.out (by kernel_rfl)) (fun _ _ _ h => h) (Or.inl ⟨by rfl, ?_⟩) hHeld ?_ ?_
          rotate_left
          ·rintro w' ⟨s0, s1, s2, s3⟩
           go_simp
           with_reducible rfl
          rotate_left
          ·simp only [Act.put, List.setIfInBounds_toArray, List.set_cons_zero, List.set_cons_succ, i64_w, i32_w]
           rfl
          refine one_ (i := 2) (N := some 28) #[true, true, true, true, true, false, false, false] rfl rfl (one_of HT_.out (by kernel_rfl)) (by decide) (fun K hK => ?_)
          refine goes_ Try.func25 (by kernel_rfl) rfl #[.slice Ao32 t107.length co32, .int .i64 6] (by rfl) rfl rfl (by (try simp only [List.map_toArray, List.map_cons, List.map_nil]); first | done | rfl | (simp only [List.length_drop, List.length_take]; rfl)) ?_
          with_reducible refine (rrset_Typed.calls _ _ t107 6 t111 _ ?side1 ?side2 A9.out).mono ?_
          (case side1 => repeat (first | exact (Kd.R_reads' HO109.out).2.2 | (with_reducible refine Kd.C_alloc ?_ _) | (with_reducible refine Kd.C_drewN ?_ _) | (with_reducible refine Kd.C_drew ?_)))
          (case side2 => exact (Kd.R_reads' HO109.out).2.1)
          rintro e w41 ⟨v112, rfl, ho0, hb⟩
          refine ⟨_, rfl, ?_⟩
          have n0_ := Aside0.mk (Kd.R_elder' (by (with_reducible repeat (first | apply Kd.R_alloc | apply Kd.R_drewN | apply Kd.R_drew)); exact HO109.out) (Kd.R_base ho0) hb)
          have n1_ := Aside0.mk (Kd.R_lower (Kd.R_new' ho0 (Kd.R_lt (by (with_reducible repeat (first | apply Kd.R_alloc | apply Kd.R_drewN | apply Kd.R_drew)); exact HO109.out))) (below_size (by repeat (first | (with_reducible first | exact HB.out | apply below_alloc | apply pw_below_drewN | apply below_drew1 | refine below_set ?_ GE103.out | refine below_set ?_ GE104.out | refine below_set ?_ GE110.out) | exact HB.out))))
          have n2_ := Aside0.mk (blk_below (g := gb103) (o := .cells #[.string a0] 9 (0, 0)) (by (with_reducible repeat (first | refine blk_drewN ?_ _ | refine blk_drew ?_ | refine blk_alloc ?_ _)); exact BK103.out) hb)
          have n3_ := Aside0.mk (blk_below (g := gb104) (o := .cells #[.string (⟨#[]⟩ : ByteArray), .slice none 0 0, .int .i64 0] 27 (0, 0)) (by (with_reducible repeat (first | refine blk_drewN ?_ _ | refine blk_drew ?_ | refine blk_alloc ?_ _)); exact BK104.out) hb)
          have n4_ := Aside0.mk (blk_below (g := gb110) (o := .cells #[.string a0, .slice Ao32 t107.length co32, .int .i64 0] 27 (0, 0)) (by (with_reducible repeat (first | refine blk_drewN ?_ _ | refine blk_drew ?_ | refine blk_alloc ?_ _)); exact BK110.out) hb)
          have n5_ := Aside0.mk (below_step (by repeat (first | (with_reducible first | exact HB.out | apply below_alloc | apply pw_below_drewN | apply below_drew1 | refine below_set ?_ GE103.out | refine below_set ?_ GE104.out | refine below_set ?_ GE110.out) | exact HB.out)) hb)
          clear HO109
          clear BK103
          clear BK104
          clear BK110
          clear HB
          have HO109 := n0_
          have HO113 := n1_
          have BK103 := n2_
          have BK104 := n3_
          have BK110 := n4_
          have HB := n5_
          clear n0_ n1_ n2_ n3_ n4_ n5_
          (try clear hb)
          (try clear hb2)
          (try clear hk)
          (try clear hi)
          (try clear ho0)
          refine hK.out _ _ ⟨(blk_cell BK110.out 0).trans rfl, (blk_cell BK110.out 1).trans rfl, (blk_cell BK110.out 2).trans rfl, (blk_cell BK103.out 0).trans rfl⟩ (fun hHeld => ?_)
          clear hK K
          refine norm_ (a' := ?_) ?_ ?_
          rotate_left
          ·show Act.put _ (some 28) _ = _
           simp only [Act.put, List.setIfInBounds_toArray, List.set_cons_zero, List.set_cons_succ, i64_w, i32_w]
           rfl
          refine one_ (i := 5) (N := some 31) #[true, true, true, true, true, true, false, false] rfl rfl (one_of HT_.out (by kernel_rfl)) (by decide) (fun K hK => ?_)
          refine goes_ Try.func26 (by kernel_rfl) rfl #[.agg #[.string a0, .slice Ao32 t107.length co32, .int .i64 0], .string a0, .int .i64 2] (by rfl) rfl rfl (by (try simp only [List.map_toArray, List.map_cons, List.map_nil]); first | done | rfl | (simp only [List.length_drop, List.length_take]; rfl)) ?_
          with_reducible refine (zone_Zone_Set.calls a0 _ _ t107 0 a0 2 t114 _ ?side1 ?side2 A10.out).mono ?_
          (case side1 => repeat (first | exact (Kd.R_reads' HO109.out).2.2 | (with_reducible refine Kd.C_alloc ?_ _) | (with_reducible refine Kd.C_drewN ?_ _) | (with_reducible refine Kd.C_drew ?_)))
          (case side2 => exact (Kd.R_reads' HO109.out).2.1)
          rintro e w42 ⟨v115, rfl, ho0, hb⟩
          refine ⟨_, rfl, ?_⟩
          have n0_ := Aside0.mk (Kd.R_elder' (by (with_reducible repeat (first | apply Kd.R_alloc | apply Kd.R_drewN | apply Kd.R_drew)); exact HO109.out) (Kd.R_base ho0) hb)
          have n1_ := Aside0.mk (Kd.R_elder' (by (with_reducible repeat (first | apply Kd.R_alloc | apply Kd.R_drewN | apply Kd.R_drew)); exact HO113.out) (Kd.R_base ho0) hb)
          have n2_ := Aside0.mk (Kd.R_lower (Kd.R_new' (Kd.R_new' ho0 (Kd.R_lt (by (with_reducible repeat (first | apply Kd.R_alloc | apply Kd.R_drewN | apply Kd.R_drew)); exact HO109.out))) (Kd.R_lt (by (with_reducible repeat (first | apply Kd.R_alloc | apply Kd.R_drewN | apply Kd.R_drew)); exact HO113.out))) (below_size (by repeat (first | (with_reducible first | exact HB.out | apply below_alloc | apply pw_below_drewN | apply below_drew1 | refine below_set ?_ GE103.out | refine below_set ?_ GE104.out | refine below_set ?_ GE110.out) | exact HB.out))))
          have n3_ := Aside0.mk (blk_below (g := gb103) (o := .cells #[.string a0] 9 (0, 0)) (by (with_reducible repeat (first | refine blk_drewN ?_ _ | refine blk_drew ?_ | refine blk_alloc ?_ _)); exact BK103.out) hb)
          have n4_ := Aside0.mk (blk_below (g := gb104) (o := .cells #[.string (⟨#[]⟩ : ByteArray), .slice none 0 0, .int .i64 0] 27 (0, 0)) (by (with_reducible repeat (first | refine blk_drewN ?_ _ | refine blk_drew ?_ | refine blk_alloc ?_ _)); exact BK104.out) hb)
          have n5_ := Aside0.mk (blk_below (g := gb110) (o := .cells #[.string a0, .slice Ao32 t107.length co32, .int .i64 0] 27 (0, 0)) (by (with_reducible repeat (first | refine blk_drewN ?_ _ | refine blk_drew ?_ | refine blk_alloc ?_ _)); exact BK110.out) hb)
          have n6_ := Aside0.mk (below_step (by repeat (first | (with_reducible first | exact HB.out | apply below_alloc | apply pw_below_drewN | apply below_drew1 | refine below_set ?_ GE103.out | refine below_set ?_ GE104.out | refine below_set ?_ GE110.out) | exact HB.out)) hb)
          clear HO109
          clear HO113
          clear BK103
          clear BK104
          clear BK110
          clear HB
          have HO109 := n0_
          have HO113 := n1_
          have HO116 := n2_
          have BK103 := n3_
          have BK104 := n4_
          have BK110 := n5_
          have HB := n6_
          clear n0_ n1_ n2_ n3_ n4_ n5_ n6_
          (try clear hb)
          (try clear hb2)
          (try clear hk)
          (try clear hi)
          (try clear ho0)
          refine hK.out _ _ ⟨(blk_cell BK110.out 0).trans rfl, (blk_cell BK110.out 1).trans rfl, (blk_cell BK110.out 2).trans rfl, (blk_cell BK103.out 0).trans rfl⟩ (fun hHeld => ?_)
          clear hK K
          refine norm_ (a' := ?_) ?_ ?_
          rotate_left
          ·show Act.put _ (some 31) _ = _
           simp only [Act.put, List.setIfInBounds_toArray, List.set_cons_zero, List.set_cons_succ, i64_w, i32_w]
           rfl
          refine pure_ (i := 6) (N := some 7) (v := ?_) (a' := ?_) #[true, true, true, true, true, true, true, false] rfl rfl (any_of HT_.out (by kernel_rfl)) (fun _ _ _ h => h) (Or.inl ⟨by rfl, ?_⟩) ?_ ?_
          rotate_left
          ·intro w'
           go_simp
           with_reducible rfl
          rotate_left
          ·simp only [Act.put, List.setIfInBounds_toArray, List.set_cons_zero, List.set_cons_succ, i64_w, i32_w]
           rfl
          refine pure_ (i := 7) (N := some 8) (v := ?_) (a' := ?_) #[true, true, true, true, true, true, true, true] rfl rfl (any_of HT_.out (by kernel_rfl)) (fun _ _ _ h => h) (Or.inl ⟨by rfl, ?_⟩) ?_ ?_
          rotate_left
          ·intro w'
           go_simp
           with_reducible rfl
          rotate_left
          ·simp only [Act.put, List.setIfInBounds_toArray, List.set_cons_zero, List.set_cons_succ, i64_w, i32_w]
           rfl
          refine done_ (done_of HT_.out (by kernel_rfl)) ?_
          have hcz43_0 : w42.cell? ⟨gb110, 0, none⟩ = some (.string a0) := (blk_cell BK110.out 0).trans rfl
          have hcz43_1 : w42.cell? ⟨gb110, 1, none⟩ = some (.slice Ao32 t107.length co32) := (blk_cell BK110.out 1).trans rfl
          have hcz43_2 : w42.cell? ⟨gb110, 2, none⟩ = some (.int .i64 0) := (blk_cell BK110.out 2).trans rfl
          have hfz43_0 := blk_frozen BK110.out 0
          have hfz43_1 := blk_frozen BK110.out 1
          have hfz43_2 := blk_frozen BK110.out 2
          have hcz44_0 : w42.cell? ⟨gb103, 0, none⟩ = some (.string a0) := (blk_cell BK103.out 0).trans rfl
          have hfz44_0 := blk_frozen BK103.out 0
          try go_wp2_with (first | (go_at_call 21; (with_reducible refine (within_any.calls k _ _ t107 a0 false _ ?side1 ?side2 A11.out gb103 ?side3).mono ?_); (case side1 => repeat (first | exact (Kd.R_reads' HO109.out).2.2 | (with_reducible refine Kd.C_alloc ?_ _) | (with_reducible refine Kd.C_drewN ?_ _) | (with_reducible refine Kd.C_drew ?_))); (case side2 => exact (Kd.R_reads' HO109.out).2.1); (case side3 => first | exact (blk_cell BK103.out 0).trans rfl | assumption); rintro e w45 ⟨rfl, hb⟩; have n0_ := Aside0.mk (Kd.R_below (by (with_reducible repeat (first | apply Kd.R_alloc | apply Kd.R_drewN | apply Kd.R_drew)); exact HO109.out) hb); have n1_ := Aside0.mk (Kd.R_below (by (with_reducible repeat (first | apply Kd.R_alloc | apply Kd.R_drewN | apply Kd.R_drew)); exact HO113.out) hb); have n2_ := Aside0.mk (Kd.R_below (by (with_reducible repeat (first | apply Kd.R_alloc | apply Kd.R_drewN | apply Kd.R_drew)); exact HO116.out) hb); have n3_ := Aside0.mk (blk_below (g := gb103) (o := .cells #[.string a0] 9 (0, 0)) (by (with_reducible repeat (first | refine blk_drewN ?_ _ | refine blk_drew ?_ | refine blk_alloc ?_ _)); exact BK103.out) hb); have n4_ := Aside0.mk (blk_below (g := gb104) (o := .cells #[.string (⟨#[]⟩ : ByteArray), .slice none 0 0, .int .i64 0] 27 (0, 0)) (by (with_reducible repeat (first | refine blk_drewN ?_ _ | refine blk_drew ?_ | refine blk_alloc ?_ _)); exact BK104.out) hb); have n5_ := Aside0.mk (blk_below (g := gb110) (o := .cells #[.string a0, .slice Ao32 t107.length co32, .int .i64 0] 27 (0, 0)) (by (with_reducible repeat (first | refine blk_drewN ?_ _ | refine blk_drew ?_ | refine blk_alloc ?_ _)); exact BK110.out) hb); have n6_ := Aside0.mk (below_step (by repeat (first | (with_reducible first | exact HB.out | apply below_alloc | apply pw_below_drewN | apply below_drew1 | refine below_set ?_ GE103.out | refine below_set ?_ GE104.out | refine below_set ?_ GE110.out) | exact HB.out)) hb); clear HO109; clear HO113; clear HO116; clear BK103; clear BK104; clear BK110; clear HB; have HO109 := n0_; have HO113 := n1_; have HO116 := n2_; have BK103 := n3_; have BK104 := n4_; have BK110 := n5_; have HB := n6_; clear n0_ n1_ n2_ n3_ n4_ n5_ n6_; (try clear hb); (try clear hb2); (try clear hk); (try clear hi)))
          have n0_ := Aside0.mk (Kd.R_drew HO109.out)
          have n1_ := Aside0.mk (Kd.R_drew HO113.out)
          have n2_ := Aside0.mk (Kd.R_drew HO116.out)
          have n3_ := Aside0.mk (blk_drew BK103.out)
          have n4_ := Aside0.mk (blk_drew BK104.out)
          have n5_ := Aside0.mk (blk_drew BK110.out)
          have n6_ := Aside0.mk (below_drew1 HB.out)
          clear HO109
          clear HO113
          clear HO116
          clear BK103
          clear BK104
          clear BK110
          clear HB
          have HO109 := n0_
          have HO113 := n1_
          have HO116 := n2_
          have BK103 := n3_
          have BK104 := n4_
          have BK110 := n5_
          have HB := n6_
          clear n0_ n1_ n2_ n3_ n4_ n5_ n6_
          obtain ⟨Ao47, co47, eo47⟩ := Kd.R_slice HO113.out
          (first | subst eo47 | (injection eo47 with f1_ f2_ f3_; have f4_ := f1_.symm; have f5_ := f3_.symm; clear f1_ f2_ f3_; subst f4_; subst f5_))
          have p118 : 0 ≤ (0 : Int) := (by omega)
          have q118 : 0 < (t111.length : Int) := of_decide_eq_true (by first | (with_reducible assumption) | assumption)
          obtain ⟨ad118, e118, hx118_0, hx118_1, hx118_2, hx118_3, hx118_4⟩ := at_T33 (Kd.R_reads' HO113.out).2.2 0 p118 q118
          cases e118
          have qi118 : (0 < t111.length) = True := eq_true (by omega)
          (try rw [show ((0 : Int)).toNat = 0 from rfl] at hx118_0)
          (try rw [show 0 * 5 = 0 from rfl] at hx118_0)
          (try rw [Addr.add_zero'] at hx118_0)
          (try rw [show ((0 : Int)).toNat = 0 from rfl] at hx118_1)
          (try rw [show 0 * 5 = 0 from rfl] at hx118_1)
          (try rw [Addr.add_zero'] at hx118_1)
          (try rw [show ((0 : Int)).toNat = 0 from rfl] at hx118_2)
          (try rw [show 0 * 5 = 0 from rfl] at hx118_2)
          (try rw [Addr.add_zero'] at hx118_2)
          (try rw [show ((0 : Int)).toNat = 0 from rfl] at hx118_3)
          (try rw [show 0 * 5 = 0 from rfl] at hx118_3)
          (try rw [Addr.add_zero'] at hx118_3)
          (try rw [show ((0 : Int)).toNat = 0 from rfl] at hx118_4)
          (try rw [show 0 * 5 = 0 from rfl] at hx118_4)
          (try rw [Addr.add_zero'] at hx118_4)
          replace p118 := eq_true p118
          replace q118 := eq_true q118
          refine start_ (n := 24) (S := fun w' => w'.cell? ⟨gb103, 0, none⟩ = some (.string a0) ∧ w'.cell? ⟨gb110, 0, none⟩ = some (.string a0) ∧ w'.cell? ⟨gb110, 1, none⟩ = some (.slice Ao32 t107.length co32) ∧ w'.cell? ⟨gb110, 2, none⟩ = some (.int .i64 0) ∧ w'.cell? ad118 = some (.string ((rd_T33 t111 0).f0)) ∧ w'.cell? ⟨ad118.block, ad118.off + 1, none⟩ = some (.int .i64 ((rd_T33 t111 0).f1)) ∧ w'.cell? ⟨ad118.block, ad118.off + 2, none⟩ = some (.int .i64 ((rd_T33 t111 0).f2)) ∧ w'.cell? ⟨ad118.block, ad118.off + 3, none⟩ = some (.int .i64 ((rd_T33 t111 0).f3)) ∧ w'.cell? ⟨ad118.block, ad118.off + 4, none⟩ = some (.string ((rd_T33 t111 0).f4))) (ds := []) #[false, false, false, false, false, false, false, false, false, false, false, false, false, false, false, false, false, false, false, false, false, false, false, false] (by kernel_rfl) rfl rfl ⟨(blk_cell BK103.out 0).trans rfl, (blk_cell BK110.out 0).trans rfl, (blk_cell BK110.out 1).trans rfl, (blk_cell BK110.out 2).trans rfl, hx118_0, hx118_1, hx118_2, hx118_3, hx118_4⟩ (fun hHeld => ?_); refine with_tabW zone_New.tab9 zone_New.bits9 (fun HT_ HW_ => ?_)
          generalize w45.drew = w46 at HO109 HO113 HO116 BK103 BK104 BK110 HB hx118_0 hx118_1 hx118_2 hx118_3 hx118_4 hHeld ⊢
          refine pure_ (i := 0) (N := some 39) (v := ?_) (a' := ?_) #[true, false, false, false, false, false, false, false, false, false, false, false, false, false, false, false, false, false, false, false, false, false, false, false] rfl rfl (any_of HT_.out (by kernel_rfl)) (fun _ _ _ h => h) (Or.inl ⟨by rfl, ?_⟩) ?_ ?_
          rotate_left
          ·intro w'
           go_simp
           with_reducible rfl
          rotate_left
          ·simp only [Act.put, List.setIfInBounds_toArray, List.set_cons_zero, List.set_cons_succ, i64_w, i32_w]
           rfl
          refine pure_ (i := 1) (N := some 40) (v := ?_) (a' := ?_) #[true, true, false, false, false, false, false, false, false, false, false, false, false, false, false, false, false, false, false, false, false, false, false, false] rfl rfl (any_of HT_.out (by kernel_rfl)) (fun _ _ _ h => h) (Or.inl ⟨by rfl, ?_⟩) ?_ ?_
          rotate_left
          ·intro w'
           go_simp
           with_reducible rfl
          rotate_left
          ·simp only [Act.put, List.setIfInBounds_toArray, List.set_cons_zero, List.set_cons_succ, i64_w, i32_w]
           rfl
          refine pure_ (i := 2) (N := some 41) (v := ?_) (a' := ?_) #[true, true, true, false, false, false, false, false, false, false, false, false, false, false, false, false, false, false, false, false, false, false, false, false] rfl rfl (any_of HT_.out (by kernel_rfl)) (fun _ _ _ h => h) (Or.inl ⟨by rfl, ?_⟩) ?_ ?_
          rotate_left
          ·intro w'
           go_simp
           with_reducible rfl
          rotate_left
          ·simp only [Act.put, List.setIfInBounds_toArray, List.set_cons_zero, List.set_cons_succ, i64_w, i32_w]
           rfl
          refine pure_ (i := 3) (N := some 42) (v := ?_) (a' := ?_) #[true, true, true, true, false, false, false, false, false, false, false, false, false, false, false, false, false, false, false, false, false, false, false, false] rfl rfl (any_of HT_.out (by kernel_rfl)) (fun _ _ _ h => h) (Or.inl ⟨by rfl, ?_⟩) ?_ ?_
          rotate_left
          ·intro w'
           go_simp
           with_reducible rfl
          rotate_left
          ·simp only [Act.put, List.setIfInBounds_toArray, List.set_cons_zero, List.set_cons_succ, i64_w, i32_w]
           rfl
          refine pure_ (i := 4) (N := some 43) (v := ?_) (a' := ?_) #[true, true, true, true, true, false, false, false, false, false, false, false, false, false, false, false, false, false, false, false, false, false, false, false] rfl rfl (any_of HT_.out (by kernel_rfl)) (fun _ _ _ h => h) (Or.inl ⟨by rfl, ?_⟩) ?_ ?_
          rotate_left
          ·intro w'
           go_simp
           with_reducible rfl
          rotate_left
          ·simp only [Act.put, List.setIfInBounds_toArray, List.set_cons_zero, List.set_cons_succ, i64_w, i32_w]
           rfl
          refine pure_ (i := 5) (N := some 44) (v := ?_) (a' := ?_) #[true, true, true, true, true, true, false, false, false, false, false, false, false, false, false, false, false, false, false, false, false, false, false, false] rfl rfl (any_of HT_.out (by kernel_rfl)) (fun _ _ _ h => h) (Or.inl ⟨by rfl, ?_⟩) ?_ ?_
          rotate_left
          ·intro w'
           go_simp
           with_reducible rfl
          rotate_left
          ·simp only [Act.put, List.setIfInBounds_toArray, List.set_cons_zero, List.set_cons_succ, i64_w, i32_w]
           rfl
          refine pure_ (i := 6) (N := some 45) (v := ?_) (a' := ?_) #[true, true, true, true, true, true, true, false, false, false, false, false, false, false, false, false, false, false, false, false, false, false, false, false] rfl rfl (any_of HT_.out (by kernel_rfl)) (fun _ _ _ h => h) (Or.inl ⟨by rfl, ?_⟩) ?_ ?_
          rotate_left
          ·intro w'
           go_simp
           with_reducible rfl
          rotate_left
          ·simp only [Act.put, List.setIfInBounds_toArray, List.set_cons_zero, List.set_cons_succ, i64_w, i32_w]
           rfl
          refine take_ (i := 7) (N := some 46) (v := ?_) (a' := ?_) #[true, true, true, true, true, true, true, true, false, false, false, false, false, false, false, false, false, false, false, false, false, false, false, false] rfl rfl (take_ofW HT_.out HW_.out (by kernel_rfl)) (fun _ _ _ h => h) (Or.inl ⟨by rfl, ?_⟩) hHeld ?_ ?_
          rotate_left
          ·rintro w' ⟨s0, s1, s2, s3, s4, s5, s6, s7, s8⟩
           go_simp
           with_reducible rfl
          rotate_left
          ·simp only [Act.put, List.setIfInBounds_toArray, List.set_cons_zero, List.set_cons_succ, i64_w, i32_w]
           rfl
          refine take_ (i := 8) (N := some 47) (v := ?_) (a' := ?_) #[true, true, true, true, true, true, true, true, true, false, false, false, false, false, false, false, false, false, false, false, false, false, false, false] rfl rfl (take_ofW HT_.out HW_.out (by kernel_rfl)) (fun _ _ _ h => h) (Or.inl ⟨by rfl, ?_⟩) hHeld ?_ ?_
          rotate_left
          ·rintro w' ⟨s0, s1, s2, s3, s4, s5, s6, s7, s8⟩
           go_simp
           with_reducible rfl
          rotate_left
          ·simp only [Act.put, List.setIfInBounds_toArray, List.set_cons_zero, List.set_cons_succ, i64_w, i32_w]
           rfl
          refine one_ (i := 9) (N := some 48) #[true, true, true, true, true, true, true, true, true, true, false, false, false, false, false, false, false, false, false, false, false, false, false, false] rfl rfl (one_of HT_.out (by kernel_rfl)) (by decide) (fun K hK => ?_)
          refine goes_ Try.func29 (by kernel_rfl) rfl #[.string ((rd_T33 t111 0).f0), .string a0] (by rfl) rfl rfl (by (try simp only [List.map_toArray, List.map_cons, List.map_nil]); first | done | rfl | (simp only [List.length_drop, List.length_take]; rfl)) ?_
          with_reducible refine (name_Alike.calls ((rd_T33 t111 0).f0) a0 true _ A15.out).mono ?_
          rintro e w48 ⟨rfl, hb⟩
          have HS4_ := (hb.cell (World.block_lt_of_cell? _ _ (hHeld.2.2.2.2.1))).trans (hHeld.2.2.2.2.1)
          have HS5_ := (hb.cell (World.block_lt_of_cell? _ _ (hHeld.2.2.2.2.2.1))).trans (hHeld.2.2.2.2.2.1)
          have HS6_ := (hb.cell (World.block_lt_of_cell? _ _ (hHeld.2.2.2.2.2.2.1))).trans (hHeld.2.2.2.2.2.2.1)
          have HS7_ := (hb.cell (World.block_lt_of_cell? _ _ (hHeld.2.2.2.2.2.2.2.1))).trans (hHeld.2.2.2.2.2.2.2.1)
          have HS8_ := (hb.cell (World.block_lt_of_cell? _ _ (hHeld.2.2.2.2.2.2.2.2))).trans (hHeld.2.2.2.2.2.2.2.2)
          refine ⟨_, rfl, ?_⟩
          have n0_ := Aside0.mk (Kd.R_below (by (with_reducible repeat (first | apply Kd.R_alloc | apply Kd.R_drewN | apply Kd.R_drew)); exact HO109.out) hb)
          have n1_ := Aside0.mk (Kd.R_below (by (with_reducible repeat (first | apply Kd.R_alloc | apply Kd.R_drewN | apply Kd.R_drew)); exact HO113.out) hb)
          have n2_ := Aside0.mk (Kd.R_below (by (with_reducible repeat (first | apply Kd.R_alloc | apply Kd.R_drewN | apply Kd.R_drew)); exact HO116.out) hb)
          have n3_ := Aside0.mk (blk_below (g := gb103) (o := .cells #[.string a0] 9 (0, 0)) (by (with_reducible repeat (first | refine blk_drewN ?_ _ | refine blk_drew ?_ | refine blk_alloc ?_ _)); exact BK103.out) hb)
          have n4_ := Aside0.mk (blk_below (g := gb104) (o := .cells #[.string (⟨#[]⟩ : ByteArray), .slice none 0 0, .int .i64 0] 27 (0, 0)) (by (with_reducible repeat (first | refine blk_drewN ?_ _ | refine blk_drew ?_ | refine blk_alloc ?_ _)); exact BK104.out) hb)
          have n5_ := Aside0.mk (blk_below (g := gb110) (o := .cells #[.string a0, .slice Ao32 t107.length co32, .int .i64 0] 27 (0, 0)) (by (with_reducible repeat (first | refine blk_drewN ?_ _ | refine blk_drew ?_ | refine blk_alloc ?_ _)); exact BK110.out) hb)
          have n6_ := Aside0.mk (below_step (by repeat (first | (with_reducible first | exact HB.out | apply below_alloc | apply pw_below_drewN | apply below_drew1 | refine below_set ?_ GE103.out | refine below_set ?_ GE104.out | refine below_set ?_ GE110.out) | exact HB.out)) hb)
          clear HO109
          clear HO113
          clear HO116
          clear BK103
          clear BK104
          clear BK110
          clear HB
          have HO109 := n0_
          have HO113 := n1_
          have HO116 := n2_
          have BK103 := n3_
          have BK104 := n4_
          have BK110 := n5_
          have HB := n6_
          clear n0_ n1_ n2_ n3_ n4_ n5_ n6_
          (try clear hb)
          (try clear hb2)
          (try clear hk)
          (try clear hi)
          obtain ⟨Ao49, co49, eo49⟩ := Kd.R_slice HO116.out
          (first | subst eo49 | (injection eo49 with f1_ f2_ f3_; have f4_ := f1_.symm; have f5_ := f3_.symm; clear f1_ f2_ f3_; subst f4_; subst f5_))
          refine hK.out _ _ ⟨(blk_cell BK103.out 0).trans rfl, (blk_cell BK110.out 0).trans rfl, (blk_cell BK110.out 1).trans rfl, (blk_cell BK110.out 2).trans rfl, HS4_, HS5_, HS6_, HS7_, HS8_⟩ (fun hHeld => ?_)
          clear hK K
          refine norm_ (a' := ?_) ?_ ?_
          rotate_left
          ·show Act.put _ (some 48) _ = _
           simp only [Act.put, List.setIfInBounds_toArray, List.set_cons_zero, List.set_cons_succ, i64_w, i32_w]
           rfl
          refine pure_ (i := 10) (N := some 49) (v := ?_) (a' := ?_) #[true, true, true, true, true, true, true, true, true, true, true, false, false, false, false, false, false, false, false, false, false, false, false, false] rfl rfl (any_of HT_.out (by kernel_rfl)) (fun _ _ _ h => h) (Or.inl ⟨by rfl, ?_⟩) ?_ ?_
          rotate_left
          ·intro w'
           go_simp
           with_reducible rfl
          rotate_left
          ·simp only [Act.put, List.setIfInBounds_toArray, List.set_cons_zero, List.set_cons_succ, i64_w, i32_w]
           rfl
          refine pure_ (i := 11) (N := some 50) (v := ?_) (a' := ?_) #[true, true, true, true, true, true, true, true, true, true, true, true, false, false, false, false, false, false, false, false, false, false, false, false] rfl rfl (any_of HT_.out (by kernel_rfl)) (fun _ _ _ h => h) (Or.inl ⟨by rfl, ?_⟩) ?_ ?_
          rotate_left
          ·intro w'
           go_simp
           with_reducible rfl
          rotate_left
          ·simp only [Act.put, List.setIfInBounds_toArray, List.set_cons_zero, List.set_cons_succ, i64_w, i32_w]
           rfl
          refine pure_ (i := 12) (N := some 51) (v := ?_) (a' := ?_) #[true, true, true, true, true, true, true, true, true, true, true, true, true, false, false, false, false, false, false, false, false, false, false, false] rfl rfl (any_of HT_.out (by kernel_rfl)) (fun _ _ _ h => h) (Or.inl ⟨by rfl, ?_⟩) ?_ ?_
          rotate_left
          ·intro w'
           go_simp
           with_reducible rfl
          rotate_left
          ·simp only [Act.put, List.setIfInBounds_toArray, List.set_cons_zero, List.set_cons_succ, i64_w, i32_w]
           rfl
          refine pure_ (i := 13) (N := some 52) (v := ?_) (a' := ?_) #[true, true, true, true, true, true, true, true, true, true, true, true, true, true, false, false, false, false, false, false, false, false, false, false] rfl rfl (any_of HT_.out (by kernel_rfl)) (fun _ _ _ h => h) (Or.inl ⟨by rfl, ?_⟩) ?_ ?_
          rotate_left
          ·intro w'
           go_simp
           with_reducible rfl
          rotate_left
          ·simp only [Act.put, List.setIfInBounds_toArray, List.set_cons_zero, List.set_cons_succ, i64_w, i32_w]
           rfl
          refine pure_ (i := 14) (N := some 53) (v := ?_) (a' := ?_) #[true, true, true, true, true, true, true, true, true, true, true, true, true, true, true, false, false, false, false, false, false, false, false, false] rfl rfl (any_of HT_.out (by kernel_rfl)) (fun _ _ _ h => h) (Or.inl ⟨by rfl, ?_⟩) ?_ ?_
          rotate_left
          ·intro w'
           go_simp
           with_reducible rfl
          rotate_left
          ·simp only [Act.put, List.setIfInBounds_toArray, List.set_cons_zero, List.set_cons_succ, i64_w, i32_w]
           rfl
          refine pure_ (i := 15) (N := some 54) (v := ?_) (a' := ?_) #[true, true, true, true, true, true, true, true, true, true, true, true, true, true, true, true, false, false, false, false, false, false, false, false] rfl rfl (any_of HT_.out (by kernel_rfl)) (fun _ _ _ h => h) (Or.inl ⟨by rfl, ?_⟩) ?_ ?_
          rotate_left
          ·intro w'
           go_simp
           with_reducible rfl
          rotate_left
          ·simp only [Act.put, List.setIfInBounds_toArray, List.set_cons_zero, List.set_cons_succ, i64_w, i32_w]
           rfl
          refine pure_ (i := 16) (N := some 55) (v := ?_) (a' := ?_) #[true, true, true, true, true, true, true, true, true, true, true, true, true, true, true, true, true, false, false, false, false, false, false, false] rfl rfl (any_of HT_.out (by kernel_rfl)) (fun _ _ _ h => h) (Or.inl ⟨by rfl, ?_⟩) ?_ ?_
          rotate_left
          ·intro w'
           go_simp
           with_reducible rfl
          rotate_left
          ·simp only [Act.put, List.setIfInBounds_toArray, List.set_cons_zero, List.set_cons_succ, i64_w, i32_w]
           rfl
          refine pure_ (i := 17) (N := some 56) (v := ?_) (a' := ?_) #[true, true, true, true, true, true, true, true, true, true, true, true, true, true, true, true, true, true, false, false, false, false, false, false] rfl rfl (any_of HT_.out (by kernel_rfl)) (fun _ _ _ h => h) (Or.inl ⟨by rfl, ?_⟩) ?_ ?_
          rotate_left
          ·intro w'
           go_simp
           with_reducible rfl
          rotate_left
          ·simp only [Act.put, List.setIfInBounds_toArray, List.set_cons_zero, List.set_cons_succ, i64_w, i32_w]
           rfl
          refine pure_ (i := 18) (N := some 57) (v := ?_) (a' := ?_) #[true, true, true, true, true, true, true, true, true, true, true, true, true, true, true, true, true, true, true, false, false, false, false, false] rfl rfl (any_of HT_.out (by kernel_rfl)) (fun _ _ _ h => h) (Or.inl ⟨by rfl, ?_⟩) ?_ ?_
          rotate_left
          ·intro w'
           go_simp
           with_reducible rfl
          rotate_left
          ·simp only [Act.put, List.setIfInBounds_toArray, List.set_cons_zero, List.set_cons_succ, i64_w, i32_w]
           rfl
          refine take_ (i := 19) (N := some 58) (v := ?_) (a' := ?_) #[true, true, true, true, true, true, true, true, true, true, true, true, true, true, true, true, true, true, true, true, false, false, false, false] rfl rfl (take_ofW HT_.out HW_.out (by kernel_rfl)) (fun _ _ _ h => h) (Or.inl ⟨by rfl, ?_⟩) hHeld ?_ ?_
          rotate_left
          ·rintro w' ⟨s0, s1, s2, s3, s4, s5, s6, s7, s8⟩
           go_simp
           with_reducible rfl
          rotate_left
          ·simp only [Act.put, List.setIfInBounds_toArray, List.set_cons_zero, List.set_cons_succ, i64_w, i32_w]
           rfl
          refine one_ (i := 20) (N := some 59) #[true, true, true, true, true, true, true, true, true, true, true, true, true, true, true, true, true, true, true, true, true, false, false, false] rfl rfl (one_of HT_.out (by kernel_rfl)) (by decide) (fun K hK => ?_)
          refine goes_ Try.func30 (by kernel_rfl) rfl #[.slice Ao32 t107.length co32] (by rfl) rfl rfl (by (try simp only [List.map_toArray, List.map_cons, List.map_nil]); first | done | rfl | (simp only [List.length_drop, List.length_take]; rfl)) ?_
          with_reducible refine (apart_plain.calls k _ _ t107 true _ ?side1 ?side2 A18.out).mono ?_
          (case side1 => repeat (first | exact (Kd.R_reads' HO109.out).2.2 | (with_reducible refine Kd.C_alloc ?_ _) | (with_reducible refine Kd.C_drewN ?_ _) | (with_reducible refine Kd.C_drew ?_)))
          (case side2 => exact (Kd.R_reads' HO109.out).2.1)
          rintro e w50 ⟨rfl, hb⟩
          have HS4_ := (hb.cell (World.block_lt_of_cell? _ _ (hHeld.2.2.2.2.1))).trans (hHeld.2.2.2.2.1)
          have HS5_ := (hb.cell (World.block_lt_of_cell? _ _ (hHeld.2.2.2.2.2.1))).trans (hHeld.2.2.2.2.2.1)
          have HS6_ := (hb.cell (World.block_lt_of_cell? _ _ (hHeld.2.2.2.2.2.2.1))).trans (hHeld.2.2.2.2.2.2.1)
          have HS7_ := (hb.cell (World.block_lt_of_cell? _ _ (hHeld.2.2.2.2.2.2.2.1))).trans (hHeld.2.2.2.2.2.2.2.1)
          have HS8_ := (hb.cell (World.block_lt_of_cell? _ _ (hHeld.2.2.2.2.2.2.2.2))).trans (hHeld.2.2.2.2.2.2.2.2)
          refine ⟨_, rfl, ?_⟩
          have n0_ := Aside0.mk (Kd.R_below (by (with_reducible repeat (first | apply Kd.R_alloc | apply Kd.R_drewN | apply Kd.R_drew)); exact HO109.out) hb)
          have n1_ := Aside0.mk (Kd.R_below (by (with_reducible repeat (first | apply Kd.R_alloc | apply Kd.R_drewN | apply Kd.R_drew)); exact HO113.out) hb)
          have n2_ := Aside0.mk (Kd.R_below (by (with_reducible repeat (first | apply Kd.R_alloc | apply Kd.R_drewN | apply Kd.R_drew)); exact HO116.out) hb)
          have n3_ := Aside0.mk (blk_below (g := gb103) (o := .cells #[.string a0] 9 (0, 0)) (by (with_reducible repeat (first | refine blk_drewN ?_ _ | refine blk_drew ?_ | refine blk_alloc ?_ _)); exact BK103.out) hb)
          have n4_ := Aside0.mk (blk_below (g := gb104) (o := .cells #[.string (⟨#[]⟩ : ByteArray), .slice none 0 0, .int .i64 0] 27 (0, 0)) (by (with_reducible repeat (first | refine blk_drewN ?_ _ | refine blk_drew ?_ | refine blk_alloc ?_ _)); exact BK104.out) hb)
          have n5_ := Aside0.mk (blk_below (g := gb110) (o := .cells #[.string a0, .slice Ao32 t107.length co32, .int .i64 0] 27 (0, 0)) (by (with_reducible repeat (first | refine blk_drewN ?_ _ | refine blk_drew ?_ | refine blk_alloc ?_ _)); exact BK110.out) hb)
          have n6_ := Aside0.mk (below_step (by repeat (first | (with_reducible first | exact HB.out | apply below_alloc | apply pw_below_drewN | apply below_drew1 | refine below_set ?_ GE103.out | refine below_set ?_ GE104.out | refine below_set ?_ GE110.out) | exact HB.out)) hb)
          clear HO109
          clear HO113
          clear HO116
          clear BK103
          clear BK104
          clear BK110
          clear HB
          have HO109 := n0_
          have HO113 := n1_
          have HO116 := n2_
          have BK103 := n3_
          have BK104 := n4_
          have BK110 := n5_
          have HB := n6_
          clear n0_ n1_ n2_ n3_ n4_ n5_ n6_
          (try clear hb)
          (try clear hb2)
          (try clear hk)
          (try clear hi)
          refine hK.out _ _ ⟨(blk_cell BK103.out 0).trans rfl, (blk_cell BK110.out 0).trans rfl, (blk_cell BK110.out 1).trans rfl, (blk_cell BK110.out 2).trans rfl, HS4_, HS5_, HS6_, HS7_, HS8_⟩ (fun hHeld => ?_)
          clear hK K
          refine norm_ (a' := ?_) ?_ ?_
          rotate_left
          ·show Act.put _ (some 59) _ = _
           simp only [Act.put, List.setIfInBounds_toArray, List.set_cons_zero, List.set_cons_succ, i64_w, i32_w]
           rfl
          refine pure_ (i := 21) (N := some 60) (v := ?_) (a' := ?_) #[true, true, true, true, true, true, true, true, true, true, true, true, true, true, true, true, true, true, true, true, true, true, false, false] rfl rfl (any_of HT_.out (by kernel_rfl)) (fun _ _ _ h => h) (Or.inl ⟨by rfl, ?_⟩) ?_ ?_
          rotate_left
          ·intro w'
           go_simp
           with_reducible rfl
          rotate_left
          ·simp only [Act.put, List.setIfInBounds_toArray, List.set_cons_zero, List.set_cons_succ, i64_w, i32_w]
           rfl
          refine pure_ (i := 22) (N := some 61) (v := ?_) (a' := ?_) #[true, true, true, true, true, true, true, true, true, true, true, true, true, true, true, true, true, true, true, true, true, true, true, false] rfl rfl (any_of HT_.out (by kernel_rfl)) (fun _ _ _ h => h) (Or.inl ⟨by rfl, ?_⟩) ?_ ?_
          rotate_left
          ·intro w'
           go_simp
           with_reducible rfl
          rotate_left
          ·simp only [Act.put, List.setIfInBounds_toArray, List.set_cons_zero, List.set_cons_succ, i64_w, i32_w]
           rfl
          refine pure_ (i := 23) (N := some 38) (v := ?_) (a' := ?_) #[true, true, true, true, true, true, true, true, true, true, true, true, true, true, true, true, true, true, true, true, true, true, true, true] rfl rfl (any_of HT_.out (by kernel_rfl)) (fun _ _ _ h => h) (Or.inl ⟨by rfl, ?_⟩) ?_ ?_
          rotate_left
          ·intro w'
           go_simp
           with_reducible rfl
          rotate_left
          ·simp only [Act.put, List.setIfInBounds_toArray, List.set_cons_zero, List.set_cons_succ, i64_w, i32_w]
           rfl
          refine done_ (done_of HT_.out (by kernel_rfl)) ?_
          try go_wp2
          have n0_ := Aside0.mk (Kd.R_drew HO109.out)
          have n1_ := Aside0.mk (Kd.R_drew HO113.out)
          have n2_ := Aside0.mk (Kd.R_drew HO116.out)
          have n3_ := Aside0.mk (blk_drew BK103.out)
          have n4_ := Aside0.mk (blk_drew BK104.out)
          have n5_ := Aside0.mk (blk_drew BK110.out)
          have n6_ := Aside0.mk (below_drew1 HB.out)
          clear HO109
          clear HO113
          clear HO116
          clear BK103
          clear BK104
          clear BK110
          clear HB
          have HO109 := n0_
          have HO113 := n1_
          have HO116 := n2_
          have BK103 := n3_
          have BK104 := n4_
          have BK110 := n5_
          have HB := n6_
          clear n0_ n1_ n2_ n3_ n4_ n5_ n6_
          have p121 : 0 ≤ (0 : Int) := (by omega)
          have q121 : 0 < (t111.length : Int) := of_decide_eq_true (by first | (with_reducible assumption) | assumption)
          obtain ⟨ad121, e121, hx121_0, hx121_1, hx121_2, hx121_3, hx121_4⟩ := at_T33 (Kd.R_reads' HO113.out).2.2 0 p121 q121
          obtain rfl : ad118 = ad121 := (by injection e121)
          have qi121 : (0 < t111.length) = True := eq_true (by omega)
          (try rw [show ((0 : Int)).toNat = 0 from rfl] at hx121_0)
          (try rw [show 0 * 5 = 0 from rfl] at hx121_0)
          (try rw [Addr.add_zero'] at hx121_0)
          (try rw [show ((0 : Int)).toNat = 0 from rfl] at hx121_1)
          (try rw [show 0 * 5 = 0 from rfl] at hx121_1)
          (try rw [Addr.add_zero'] at hx121_1)
          (try rw [show ((0 : Int)).toNat = 0 from rfl] at hx121_2)
          (try rw [show 0 * 5 = 0 from rfl] at hx121_2)
          (try rw [Addr.add_zero'] at hx121_2)
          (try rw [show ((0 : Int)).toNat = 0 from rfl] at hx121_3)
          (try rw [show 0 * 5 = 0 from rfl] at hx121_3)
          (try rw [Addr.add_zero'] at hx121_3)
          (try rw [show ((0 : Int)).toNat = 0 from rfl] at hx121_4)
          (try rw [show 0 * 5 = 0 from rfl] at hx121_4)
          (try rw [Addr.add_zero'] at hx121_4)
          replace p121 := eq_true p121
          replace q121 := eq_true q121
          refine start_ (n := 8) (S := fun w' => w'.cell? ⟨gb110, 0, none⟩ = some (.string a0) ∧ w'.cell? ⟨gb110, 1, none⟩ = some (.slice Ao32 t107.length co32) ∧ w'.cell? ⟨gb110, 2, none⟩ = some (.int .i64 0) ∧ w'.cell? ad118 = some (.string ((rd_T33 t111 0).f0)) ∧ w'.cell? ⟨ad118.block, ad118.off + 1, none⟩ = some (.int .i64 ((rd_T33 t111 0).f1)) ∧ w'.cell? ⟨ad118.block, ad118.off + 2, none⟩ = some (.int .i64 ((rd_T33 t111 0).f2)) ∧ w'.cell? ⟨ad118.block, ad118.off + 3, none⟩ = some (.int .i64 ((rd_T33 t111 0).f3)) ∧ w'.cell? ⟨ad118.block, ad118.off + 4, none⟩ = some (.string ((rd_T33 t111 0).f4))) (ds := [7]) #[false, false, false, false, false, false, false, false] (by kernel_rfl) rfl rfl ⟨(blk_cell BK110.out 0).trans rfl, (blk_cell BK110.out 1).trans rfl, (blk_cell BK110.out 2).trans rfl, hx121_0, hx121_1, hx121_2, hx121_3, hx121_4⟩ (fun hHeld => ?_); refine with_tabW zone_New.tab11 zone_New.bits11 (fun HT_ HW_ => ?_)
          generalize w50.drew = w51 at HO109 HO113 HO116 BK103 BK104 BK110 HB hx121_0 hx121_1 hx121_2 hx121_3 hx121_4 hHeld ⊢
          refine pure_ (i := 0) (N := some 63) (v := ?_) (a' := ?_) #[true, false, false, false, false, false, false, false] rfl rfl (any_of HT_.out (by kernel_rfl)) (fun _ _ _ h => h) (Or.inl ⟨by rfl, ?_⟩) ?_ ?_
          rotate_left
          ·intro w'
           go_simp
           with_reducible rfl
          rotate_left
          ·simp only [Act.put, List.setIfInBounds_toArray, List.set_cons_zero, List.set_cons_succ, i64_w, i32_w]
           rfl
          refine pure_ (i := 2) (N := some 65) (v := ?_) (a' := ?_) #[true, false, true, false, false, false, false, false] rfl rfl (any_of HT_.out (by kernel_rfl)) (fun _ _ _ h => h) (Or.inl ⟨by rfl, ?_⟩) ?_ ?_
          rotate_left
          ·intro w'
           go_simp
           with_reducible rfl
          rotate_left
          ·simp only [Act.put, List.setIfInBounds_toArray, List.set_cons_zero, List.set_cons_succ, i64_w, i32_w]
           rfl
          refine pure_ (i := 3) (N := some 66) (v := ?_) (a' := ?_) #[true, false, true, true, false, false, false, false] rfl rfl (any_of HT_.out (by kernel_rfl)) (fun _ _ _ h => h) (Or.inl ⟨by rfl, ?_⟩) ?_ ?_
          rotate_left
          ·intro w'
           go_simp
           with_reducible rfl
          rotate_left
          ·simp only [Act.put, List.setIfInBounds_toArray, List.set_cons_zero, List.set_cons_succ, i64_w, i32_w]
           rfl
          refine take_ (i := 1) (N := some 64) (v := ?_) (a' := ?_) #[true, true, true, true, false, false, false, false] rfl rfl (take_ofW HT_.out HW_.out (by kernel_rfl)) (fun _ _ _ h => h) (Or.inl ⟨by rfl, ?_⟩) hHeld ?_ ?_
          rotate_left
          ·rintro w' ⟨s0, s1, s2, s3, s4, s5, s6, s7⟩
           go_simp
           with_reducible rfl
          rotate_left
          ·simp only [Act.put, List.setIfInBounds_toArray, List.set_cons_zero, List.set_cons_succ, i64_w, i32_w]
           rfl
          refine take_ (i := 4) (N := some 67) (v := ?_) (a' := ?_) #[true, true, true, true, true, false, false, false] rfl rfl (take_ofW HT_.out HW_.out (by kernel_rfl)) (fun _ _ _ h => h) (Or.inl ⟨by rfl, ?_⟩) hHeld ?_ ?_
          rotate_left
          ·rintro w' ⟨s0, s1, s2, s3, s4, s5, s6, s7⟩
           go_simp
           with_reducible rfl
          rotate_left
          ·simp only [Act.put, List.setIfInBounds_toArray, List.set_cons_zero, List.set_cons_succ, i64_w, i32_w]
           rfl
          refine one_ (i := 5) (N := some 68) #[true, true, true, true, true, true, false, false] rfl rfl (one_of HT_.out (by kernel_rfl)) (by decide) (fun K hK => ?_)
          refine goes_ Try.func31 (by kernel_rfl) rfl #[.slice Ao32 t107.length co32, .agg #[.string ((rd_T33 t111 0).f0), .int .i64 ((rd_T33 t111 0).f1), .int .i64 ((rd_T33 t111 0).f2), .int .i64 ((rd_T33 t111 0).f3), .string ((rd_T33 t111 0).f4)]] (by rfl) rfl rfl (by (try simp only [List.map_toArray, List.map_cons, List.map_nil]); first | done | rfl | (simp only [List.length_drop, List.length_take]; rfl)) ?_
          with_reducible refine (api_RR_31.calls k _ _ t107 ((rd_T33 t111 0).f0) ((rd_T33 t111 0).f1) ((rd_T33 t111 0).f2) ((rd_T33 t111 0).f3) ((rd_T33 t111 0).f4) t122 _ ?side1 ?side2 A20.out).mono ?_
          (case side1 => repeat (first | exact (Kd.R_reads' HO109.out).2.2 | (with_reducible refine Kd.C_alloc ?_ _) | (with_reducible refine Kd.C_drewN ?_ _) | (with_reducible refine Kd.C_drew ?_)))
          (case side2 => exact (Kd.R_reads' HO109.out).2.1)
          rintro e w52 ⟨rfl, hb⟩
          have HS3_ := (hb.cell (World.block_lt_of_cell? _ _ (hHeld.2.2.2.1))).trans (hHeld.2.2.2.1)
          have HS4_ := (hb.cell (World.block_lt_of_cell? _ _ (hHeld.2.2.2.2.1))).trans (hHeld.2.2.2.2.1)
          have HS5_ := (hb.cell (World.block_lt_of_cell? _ _ (hHeld.2.2.2.2.2.1))).trans (hHeld.2.2.2.2.2.1)
          have HS6_ := (hb.cell (World.block_lt_of_cell? _ _ (hHeld.2.2.2.2.2.2.1))).trans (hHeld.2.2.2.2.2.2.1)
          have HS7_ := (hb.cell (World.block_lt_of_cell? _ _ (hHeld.2.2.2.2.2.2.2))).trans (hHeld.2.2.2.2.2.2.2)
          refine ⟨_, rfl, ?_⟩
          have n0_ := Aside0.mk (Kd.R_below (by (with_reducible repeat (first | apply Kd.R_alloc | apply Kd.R_drewN | apply Kd.R_drew)); exact HO109.out) hb)
          have n1_ := Aside0.mk (Kd.R_below (by (with_reducible repeat (first | apply Kd.R_alloc | apply Kd.R_drewN | apply Kd.R_drew)); exact HO113.out) hb)
          have n2_ := Aside0.mk (Kd.R_below (by (with_reducible repeat (first | apply Kd.R_alloc | apply Kd.R_drewN | apply Kd.R_drew)); exact HO116.out) hb)
          have n3_ := Aside0.mk (blk_below (g := gb103) (o := .cells #[.string a0] 9 (0, 0)) (by (with_reducible repeat (first | refine blk_drewN ?_ _ | refine blk_drew ?_ | refine blk_alloc ?_ _)); exact BK103.out) hb)
          have n4_ := Aside0.mk (blk_below (g := gb104) (o := .cells #[.string (⟨#[]⟩ : ByteArray), .slice none 0 0, .int .i64 0] 27 (0, 0)) (by (with_reducible repeat (first | refine blk_drewN ?_ _ | refine blk_drew ?_ | refine blk_alloc ?_ _)); exact BK104.out) hb)
          have n5_ := Aside0.mk (blk_below (g := gb110) (o := .cells #[.string a0, .slice Ao32 t107.length co32, .int .i64 0] 27 (0, 0)) (by (with_reducible repeat (first | refine blk_drewN ?_ _ | refine blk_drew ?_ | refine blk_alloc ?_ _)); exact BK110.out) hb)
          have n6_ := Aside0.mk (below_step (by repeat (first | (with_reducible first | exact HB.out | apply below_alloc | apply pw_below_drewN | apply below_drew1 | refine below_set ?_ GE103.out | refine below_set ?_ GE104.out | refine below_set ?_ GE110.out) | exact HB.out)) hb)
          clear HO109
          clear HO113
          clear HO116
          clear BK103
          clear BK104
          clear BK110
          clear HB
          have HO109 := n0_
          have HO113 := n1_
          have HO116 := n2_
          have BK103 := n3_
          have BK104 := n4_
          have BK110 := n5_
          have HB := n6_
          clear n0_ n1_ n2_ n3_ n4_ n5_ n6_
          (try clear hb)
          (try clear hb2)
          (try clear hk)
          (try clear hi)
          refine hK.out _ _ ⟨(blk_cell BK110.out 0).trans rfl, (blk_cell BK110.out 1).trans rfl, (blk_cell BK110.out 2).trans rfl, HS3_, HS4_, HS5_, HS6_, HS7_⟩ (fun hHeld => ?_)
          clear hK K
          refine norm_ (a' := ?_) ?_ ?_
          rotate_left
          ·show Act.put _ (some 68) _ = _
           simp only [Act.put, List.setIfInBounds_toArray, List.set_cons_zero, List.set_cons_succ, i64_w, i32_w]
           rfl
          refine pure_ (i := 6) (N := some 69) (v := ?_) (a' := ?_) #[true, true, true, true, true, true, true, false] rfl rfl (any_of HT_.out (by kernel_rfl)) (fun _ _ _ h => h) (Or.inl ⟨by rfl, ?_⟩) ?_ ?_
          rotate_left
          ·intro w'
           go_simp
           with_reducible rfl
          rotate_left
          ·simp only [Act.put, List.setIfInBounds_toArray, List.set_cons_zero, List.set_cons_succ, i64_w, i32_w]
           rfl
          refine last_ (i := 7) (N := none) #[true, true, true, true, true, true, true, true] rfl rfl (one_of HT_.out (by kernel_rfl)) (by decide) (fun K hK => ?_)
          have hs53 : w52.cell? ⟨gb110, 2, none⟩ = some (.int .i64 0) := (blk_cell BK110.out 2).trans rfl
          have hfs53 := blk_frozen BK110.out 2
          have hns53_0 := NB103_110.out
          have hns53_1 := NB104_110.out
          have hms53_0 := NB110_103.out
          have hms53_1 := NB110_104.out
          refine skip_ (w1 := ?_) (by rfl) rfl ?_ ?_
          rotate_left
          ·go_simp
           rfl
          refine hK.out _ _ ?_
          clear hK K
          refine done_ (done_of HT_.out (by kernel_rfl)) ?_
          have hcz54_0 : w52.cell? ⟨gb110, 0, none⟩ = some (.string a0) := (blk_cell BK110.out 0).trans rfl
          have hcz54_1 : w52.cell? ⟨gb110, 1, none⟩ = some (.slice Ao32 t107.length co32) := (blk_cell BK110.out 1).trans rfl
          have hcz54_2 : w52.cell? ⟨gb110, 2, none⟩ = some (.int .i64 0) := (blk_cell BK110.out 2).trans rfl
          have hfz54_0 := blk_frozen BK110.out 0
          have hfz54_1 := blk_frozen BK110.out 1
          have hfz54_2 := blk_frozen BK110.out 2
          have hcz55_0 : w52.cell? ⟨gb104, 0, none⟩ = some (.string (⟨#[]⟩ : ByteArray)) := (blk_cell BK104.out 0).trans rfl
          have hcz55_1 : w52.cell? ⟨gb104, 1, none⟩ = some (.slice none 0 0) := (blk_cell BK104.out 1).trans rfl
          have hcz55_2 : w52.cell? ⟨gb104, 2, none⟩ = some (.int .i64 0) := (blk_cell BK104.out 2).trans rfl
          have hfz55_0 := blk_frozen BK104.out 0
          have hfz55_1 := blk_frozen BK104.out 1
          have hfz55_2 := blk_frozen BK104.out 2
          try go_wp2
          refine bodyPost_ret (results_ct rfl _ _ gb104 27 #[.string a0, .slice Ao32 t107.length co32, .int .i64 t122] (0, 0) _ rfl (by (with_reducible repeat (first | refine blk_drewN ?_ _ | refine blk_drew ?_ | refine blk_alloc ?_ _)); refine blk_put (cs := #[.string a0, .slice Ao32 t107.length co32, .int .i64 0]) ?_ 2 _ rfl; (with_reducible repeat (first | refine blk_drewN ?_ _ | refine blk_drew ?_ | refine blk_alloc ?_ _)); refine blk_put (cs := #[.string a0, .slice none 0 0, .int .i64 0]) ?_ 1 _ rfl; (with_reducible repeat (first | refine blk_drewN ?_ _ | refine blk_drew ?_ | refine blk_alloc ?_ _)); refine blk_put (cs := #[.string (⟨#[]⟩ : ByteArray), .slice none 0 0, .int .i64 0]) ?_ 0 _ rfl; (with_reducible repeat (first | refine blk_drewN ?_ _ | refine blk_drew ?_ | refine blk_alloc ?_ _)); refine blk_far ?_ NB104_110.out _; (with_reducible repeat (first | refine blk_drewN ?_ _ | refine blk_drew ?_ | refine blk_alloc ?_ _)); exact BK104.out) Try.underlying27 rfl (by kernel_rfl)) rfl ?_
          exact ⟨_, by first | rfl | (simp [errW_none, errW_some] <;> rfl) | (simp [*, errW_none, errW_some] <;> rfl), by (with_reducible repeat (first | apply Kd.R_alloc | apply Kd.R_drewN | apply Kd.R_drew)); exact Kd.R_mono (Kd.R_far (p := ⟨gb104, 2, none⟩) (Kd.R_far (p := ⟨gb104, 1, none⟩) (Kd.R_far (p := ⟨gb104, 0, none⟩) (Kd.R_far (p := ⟨gb110, 2, none⟩) (Kd.R_types (Kd.R_types HO109.out BK110.out (by decide)) BK104.out (by decide)) (fun _ hk => hk.1.2) (.int .i64 t122)) (fun _ hk => hk.2) (.string a0)) (fun _ hk => hk.2) (.slice Ao32 t107.length co32)) (fun _ hk => hk.2) (.int .i64 t122)) (fun _ hk => trivial), by repeat (first | (with_reducible first | exact HB.out | apply below_alloc | apply pw_below_drewN | apply below_drew1 | refine below_set ?_ GE103.out | refine below_set ?_ GE104.out | refine below_set ?_ GE110.out) | exact HB.out)⟩
         ·replace c19 := Bool.eq_false_iff.mpr c19
          subst c19
          have H1 : (none) = some (r1, r2, r3, r4) := by rw [if_neg (show ¬ (false = true) by decide)] at H; exact H
          clear H
          have H := H1
          clear H1
          exact absurd H (by simp)
       ·replace c16 := Bool.eq_false_iff.mpr c16
        subst c16
        have H1 : (none) = some (r1, r2, r3, r4) := by rw [if_neg (show ¬ (false = true) by decide)] at H; exact H
        clear H
        have H := H1
        clear H1
        exact absurd H (by simp)
      ·rw [if_neg c14] at H
       exact absurd H (by simp)
     ·rw [if_neg c13] at H
      exact absurd H (by simp)
 ·replace c4 := Bool.eq_false_iff.mpr c4
  subst c4
  have H1 : (none) = some (r1, r2, r3, r4) := by rw [if_neg (show ¬ (false = true) by decide)] at H; exact H
  clear H
  have H := H1
  clear H1
  exact absurd H (by simp)
end Go.Proofs.Ytehdkopjgcoclaa.PZg
namespace Go.Proofs.Ytehdkopjgcoclaa.Rrs
open Go.RowKit Go.Proofs.YtehdkopjgcoclaaW.PrintWords Go.Proofs.YtehdkopjgcoclaaW.PrintLast Go.Proofs.YtehdkopjgcoclaaW.PrintMore Go.Proofs.Ytehdkopjgcoclaa.Given Go.Proofs.Ytehdkopjgcoclaa.PRd Go.Proofs.Ytehdkopjgcoclaa.PRr
set_option linter.unusedVariables false
set_option linter.unusedSimpArgs false
set_option maxHeartbeats 4000000 in
set_option maxRecDepth 100000 in
theorem there_step (x : RR) (n : ByteArray) (b : Bool) (g : Nat) (w : World) (hc : w.cell? ⟨g, 0, none⟩ = some (.string n)) (h : name_Alike.f x.f0 n = some b) :
    Calls Try.prog 37 (#[x.v] ++ #[.pointer (some ⟨g, 0, none⟩)]) w fun e w' => e = .returned (.bool b) ∧ Below w.heap.size w w' := by
  have hu41 := Try.underlying33
  have HB := Aside0.mk (Below.refl w.heap.size w)
  have HC := Lib.hid hc
  have HA := Lib.hid h
  clear hc h
  show Calls Try.prog 37 #[.agg #[.string x.f0, .int .i64 x.f1, .int .i64 x.f2, .int .i64 x.f3, .string x.f4], .pointer (some ⟨g, 0, none⟩)] w _
  go_enter Try.func37, Try.ntmps37
  go_wp2_with (first | ((with_reducible refine gate_dst (N := 2) rfl ?_); refine box_event ?hg (N := 2) ?hd (cs := #[.string x.f0, .int .i64 x.f1, .int .i64 x.f2, .int .i64 x.f3, .string x.f4]) (t := 33) ?hr ?_; (case hd => rfl); (case hg => rfl); (case hr => first | (go_simp; done) | (go_simp; rfl)); intro gb hg w3 hbox hb; have n0_ := Aside0.mk (below_step (HB.out) hb); have n1_ := Aside0.mk (hbox); clear HB; have HB := n0_; have BK := n1_; have hc3 : w3.cell? ⟨g, 0, none⟩ = some (.string n) := (HB.out.cell (World.block_lt_of_cell? w _ HC.out)).trans HC.out; clear n0_ n1_; clear hb hbox hg; have hcz0 : w3.cell? ⟨gb, 0, none⟩ = some (.string x.f0) := (blk_cell BK.out 0).trans rfl))
  refine (name_Alike.calls x.f0 n b w3 HA.out).mono ?_
  rintro e w4 ⟨rfl, hb4⟩
  have HB4 := Lib.hid (below_then HB.out HB.out.size hb4)
  clear hb4 HB
  go_wp2_with fail
  go_ret
  exact ⟨rfl, HB4.out⟩
end Go.Proofs.Ytehdkopjgcoclaa.Rrs
namespace Go.Proofs.Ytehdkopjgcoclaa.Given
open Go.RowKit Go.Proofs.YtehdkopjgcoclaaW.PrintWords Go.Proofs.YtehdkopjgcoclaaW.PrintLast Go.Proofs.YtehdkopjgcoclaaW.PrintMore Go.Proofs.Ytehdkopjgcoclaa.PRd Go.Proofs.Ytehdkopjgcoclaa.PRr Go.Proofs.Ytehdkopjgcoclaa.Rrs
set_option linter.unusedVariables false
open Classical in
noncomputable def zone_Zone_There.f (a0_0 : ByteArray) (l0_1 : List (S33)) (a0_2 : Int) (a1 : ByteArray) : Option Bool := if l0_1.length ≤ 1000000 ∧ ∀ x ∈ l0_1, (name_Alike.f x.f0 a1).isSome = true then some (l0_1.any fun x => (name_Alike.f x.f0 a1).getD false) else none
set_option maxHeartbeats 4000000 in
set_option maxRecDepth 100000 in
theorem zone_Zone_There.calls (a0_0 : ByteArray) (A0_1 : Option Addr) (c0_1 : Nat) (l0_1 : List (S33)) (a0_2 : Int) (a1 : ByteArray) (r : Bool) (w : World) (hr0_1 : Kd.C k33 w A0_1 l0_1.length l0_1) (hc0_1 : l0_1.length ≤ c0_1) (h : zone_Zone_There.f a0_0 l0_1 a0_2 a1 = some r) :
    Calls Try.prog 19 #[.agg #[.string a0_0, .slice A0_1 l0_1.length c0_1, .int .i64 a0_2], .string a1] w fun e w' => e = .returned (.bool r) ∧ Below w.heap.size w w' := by
  unfold zone_Zone_There.f at h
  have hn : l0_1.length ≤ 1000000 ∧ ∀ x ∈ l0_1, (name_Alike.f x.f0 a1).isSome = true := Classical.byContradiction fun hn => by rw [if_neg hn] at h; cases h
  rw [if_pos hn] at h
  injection h with h
  subst h
  have HR := Lib.hid hr0_1
  have HA := Lib.hid hn.2
  replace hn := hn.1
  have HB := Aside0.mk (Below.refl w.heap.size w)
  have hu27 := Try.underlying27
  clear hr0_1 hc0_1
  go_enter Try.func19, Try.ntmps19
  go_wp2_with (first | ((with_reducible refine gate_dst (N := 2) rfl ?_); refine box_event ?hg (N := 2) ?hd (cs := #[.string a0_0, .slice A0_1 l0_1.length c0_1, .int .i64 a0_2]) (t := 27) ?hr ?_; (case hd => rfl); (case hg => rfl); (case hr => first | (go_simp; done) | (go_simp; rfl)); intro gb hg w3 hbox hb; have n0_ := Aside0.mk (below_step (HB.out) hb); have n1_ := Aside0.mk (hbox); clear HB; have HB := n0_; have BK := n1_; clear n0_ n1_; clear hb hbox hg) | ((with_reducible refine gate_dst (N := 3) rfl ?_); refine box_event ?hg (N := 3) ?hd (cs := #[.string a1]) (t := 9) ?hr ?_; (case hd => rfl); (case hg => rfl); (case hr => first | (go_simp; done) | (go_simp; rfl)); intro ga hg w4 hbox hb; have n0_ := Aside0.mk (below_step (HB.out) hb); have n1_ := Aside0.mk (hbox); have n2_ := Aside0.mk (blk_below BK.out hb); clear HB BK; have HB := n0_; have BA := n1_; have BK := n2_; clear n0_ n1_ n2_; clear hb hbox hg; have hcz0 : w4.cell? ⟨gb, 0, none⟩ = some (.string a0_0) := (blk_cell BK.out 0).trans rfl; have hcz1 : w4.cell? ⟨gb, 1, none⟩ = some (.slice A0_1 l0_1.length c0_1) := (blk_cell BK.out 1).trans rfl; have hcz2 : w4.cell? ⟨gb, 2, none⟩ = some (.int .i64 a0_2) := (blk_cell BK.out 2).trans rfl; have hcza : w4.cell? ⟨ga, 0, none⟩ = some (.string a1) := (blk_cell BA.out 0).trans rfl))
  have HC4 := Lib.hid hcza
  refine (contains_any l0_1 (fun x => (name_Alike.f x.f0 a1).getD false) hn 37 Try.f37 _ Try.func37 (by kernel_rfl) rfl A0_1 c0_1 w4 (Kd.C_below HR.out HB.out) (fun x hx W hW => there_step x a1 _ ga W ((hW.cell (World.block_lt_of_cell? w4 _ HC4.out)).trans HC4.out) (by
    obtain ⟨b, hb⟩ := Option.isSome_iff_exists.mp (HA.out x hx)
    rw [hb]; rfl))).mono ?_
  rintro e w5 ⟨rfl, hb5⟩
  have HB5 := Lib.hid (below_then HB.out HB.out.size hb5)
  clear hb5 HB
  go_wp2_with fail
  go_ret
  exact ⟨rfl, HB5.out⟩
end Go.Proofs.Ytehdkopjgcoclaa.Given
namespace Go.Proofs.Ytehdkopjgcoclaa.PZt
open Go.RowKit Go.Proofs.YtehdkopjgcoclaaW.PrintWords Go.Proofs.YtehdkopjgcoclaaW.PrintLast Go.Proofs.YtehdkopjgcoclaaW.PrintMore Go.Proofs.Ytehdkopjgcoclaa.Given Go.Proofs.Ytehdkopjgcoclaa.PRd Go.Proofs.Ytehdkopjgcoclaa.PRr Go.Proofs.Ytehdkopjgcoclaa.PZo Go.Proofs.Ytehdkopjgcoclaa.PZg
attribute [local go_sem] max2_int min2_int max_two min_two max_three min_three max_four min_four   -- for this text's walks alone
set_option linter.unusedVariables false
set_option linter.unusedSimpArgs false
def errW : Option Int → Value
 | none => .nilIface
 | some c => .iface 0 (.int .i64 c)
theorem errW_none : errW none = .nilIface := rfl
theorem errW_some (c : Int) : errW (some c) = .iface 0 (.int .i64 c) := rfl
end Go.Proofs.Ytehdkopjgcoclaa.PZt
namespace Go.Proofs.Ytehdkopjgcoclaa.PZt
open Go.RowKit Go.Proofs.YtehdkopjgcoclaaW.PrintWords Go.Proofs.YtehdkopjgcoclaaW.PrintLast Go.Proofs.YtehdkopjgcoclaaW.PrintMore Go.Proofs.Ytehdkopjgcoclaa.Given Go.Proofs.Ytehdkopjgcoclaa.PRd Go.Proofs.Ytehdkopjgcoclaa.PRr Go.Proofs.Ytehdkopjgcoclaa.PZo Go.Proofs.Ytehdkopjgcoclaa.PZg
attribute [local go_sem] max2_int min2_int max_two min_two max_three min_three max_four min_four   -- for this text's walks alone
set_option linter.unusedVariables false
set_option linter.unusedSimpArgs false
noncomputable def beadrolllaw14_Least.f  : Option ((List (S33))) := some (([(⟨(⟨#[1, 97, 0]⟩ : ByteArray), 2, 1, 0, (⟨#[1, 110, 1, 97, 0]⟩ : ByteArray)⟩ : S33), (⟨(⟨#[1, 97, 0]⟩ : ByteArray), 6, 1, 0, (⟨#[1, 110, 1, 97, 0, 0, 0, 0, 0, 1, 0, 0, 0, 2, 0, 0, 0, 3, 0, 0, 0, 4, 0, 0, 0, 5]⟩ : ByteArray)⟩ : S33)] : List (S33)))
set_option maxHeartbeats 8000000 in
set_option maxRecDepth 100000 in
theorem beadrolllaw14_Least.calls  (r : List (S33)) (w : World) (h : beadrolllaw14_Least.f  = some r) :
  Calls Try.prog 17 #[] w fun e w' => ∃ v0_ : Value, e = .returned (v0_) ∧ Kd.R k33 33 w' w.heap.size (fun _ => True) v0_ r ∧ Below w.heap.size w w' := by
 have hu33 := Try.underlying33
 have HB := Aside0.mk (Below.refl w.heap.size w)
 have H : (some (([(⟨(⟨#[1, 97, 0]⟩ : ByteArray), 2, 1, 0, (⟨#[1, 110, 1, 97, 0]⟩ : ByteArray)⟩ : S33), (⟨(⟨#[1, 97, 0]⟩ : ByteArray), 6, 1, 0, (⟨#[1, 110, 1, 97, 0, 0, 0, 0, 0, 1, 0, 0, 0, 2, 0, 0, 0, 3, 0, 0, 0, 4, 0, 0, 0, 5]⟩ : ByteArray)⟩ : S33)] : List (S33)))) = some r := h
 clear h
 obtain ⟨y101, hy101⟩ : ∃ y_ : List (S33), y_ = (([(⟨(⟨#[1, 97, 0]⟩ : ByteArray), 2, 1, 0, (⟨#[1, 110, 1, 97, 0]⟩ : ByteArray)⟩ : S33), (⟨(⟨#[1, 97, 0]⟩ : ByteArray), 6, 1, 0, (⟨#[1, 110, 1, 97, 0, 0, 0, 0, 0, 1, 0, 0, 0, 2, 0, 0, 0, 3, 0, 0, 0, 4, 0, 0, 0, 5]⟩ : ByteArray)⟩ : S33)] : List (S33))) := ⟨_, rfl⟩
 replace H : (some y101) = some r := by first | (rw [hy101]; with_reducible exact H) | (have H2_ := (Option.bind_some _ _).symm.trans H; rw [hy101]; with_reducible exact H2_) | (have H2_ := (Option.bind_some _ _).symm.trans H; with_reducible exact H2_) | with_reducible exact H | (rw [hy101]; exact H) | exact H
 have Ny101 := Aside0.mk hy101
 clear hy101
 obtain rfl := Option.some.inj H
 go_enter Try.func17, Try.ntmps17
 go_wp2_with (first | ((with_reducible refine gate_dst (N := 3) rfl ?_); refine Kd.R_lit k33 _ 33 ?hg (N := 3) ?hd (xs := ([(⟨(⟨#[1, 97, 0]⟩ : ByteArray), 2, 1, 0, (⟨#[1, 110, 1, 97, 0]⟩ : ByteArray)⟩ : S33), (⟨(⟨#[1, 97, 0]⟩ : ByteArray), 6, 1, 0, (⟨#[1, 110, 1, 97, 0, 0, 0, 0, 0, 1, 0, 0, 0, 2, 0, 0, 0, 3, 0, 0, 0, 4, 0, 0, 0, 5]⟩ : ByteArray)⟩ : S33)] : List (S33))) (inner := [.string (⟨#[1, 97, 0]⟩ : ByteArray), .int .i64 2, .int .i64 1, .int .i64 0, .string (⟨#[1, 110, 1, 97, 0]⟩ : ByteArray), .string (⟨#[1, 97, 0]⟩ : ByteArray), .int .i64 6, .int .i64 1, .int .i64 0, .string (⟨#[1, 110, 1, 97, 0, 0, 0, 0, 0, 1, 0, 0, 0, 2, 0, 0, 0, 3, 0, 0, 0, 4, 0, 0, 0, 5]⟩ : ByteArray)]) (ok := fun _ => True) (okp := fun _ => True) ?hr ?hp (fun _ hk => hk) trivial (Below.refl _ _) (Nat.le_refl _) (by simp) ?_; (case hd => rfl); (case hg => rfl); (case hr => first | (go_simp; done) | (go_simp; rfl)); (case hp => exact (Reps.c5 (show Kd.M k33 _ _ _ (⟨(⟨#[1, 97, 0]⟩ : ByteArray), 2, 1, 0, (⟨#[1, 110, 1, 97, 0]⟩ : ByteArray)⟩ : S33) [.string (⟨#[1, 97, 0]⟩ : ByteArray), .int .i64 2, .int .i64 1, .int .i64 0, .string (⟨#[1, 110, 1, 97, 0]⟩ : ByteArray)] from (k33_mkM _ _ _ (⟨(⟨#[1, 97, 0]⟩ : ByteArray), 2, 1, 0, (⟨#[1, 110, 1, 97, 0]⟩ : ByteArray)⟩ : S33) )) (Reps.c5 (show Kd.M k33 _ _ _ (⟨(⟨#[1, 97, 0]⟩ : ByteArray), 6, 1, 0, (⟨#[1, 110, 1, 97, 0, 0, 0, 0, 0, 1, 0, 0, 0, 2, 0, 0, 0, 3, 0, 0, 0, 4, 0, 0, 0, 5]⟩ : ByteArray)⟩ : S33) [.string (⟨#[1, 97, 0]⟩ : ByteArray), .int .i64 6, .int .i64 1, .int .i64 0, .string (⟨#[1, 110, 1, 97, 0, 0, 0, 0, 0, 1, 0, 0, 0, 2, 0, 0, 0, 3, 0, 0, 0, 4, 0, 0, 0, 5]⟩ : ByteArray)] from (k33_mkM _ _ _ (⟨(⟨#[1, 97, 0]⟩ : ByteArray), 6, 1, 0, (⟨#[1, 110, 1, 97, 0, 0, 0, 0, 0, 1, 0, 0, 0, 2, 0, 0, 0, 3, 0, 0, 0, 4, 0, 0, 0, 5]⟩ : ByteArray)⟩ : S33) )) (Reps.none _ _)))); intro v102 w1 ho2 hb hg_ hnew_; clear hg_ hnew_; (first | rw [← Ny101.out] at ho2 | (simp only [Int.reduceToNat] at ho2; rw [← Ny101.out] at ho2)); have n0_ := Aside0.mk (Kd.R_lower ho2 (below_size (by repeat (first | (with_reducible first | exact HB.out | apply below_alloc | apply pw_below_drewN | apply below_drew1) | exact HB.out)))); have n1_ := Aside0.mk (below_step (by repeat (first | (with_reducible first | exact HB.out | apply below_alloc | apply pw_below_drewN | apply below_drew1) | exact HB.out)) hb); clear HB; have HO103 := n0_; have HB := n1_; clear n0_ n1_; clear hb ho2))
 go_ret
 exact ⟨_, by first | rfl | (simp [errW_none, errW_some] <;> rfl) | (simp [*, errW_none, errW_some] <;> rfl), by (with_reducible repeat (first | apply Kd.R_alloc | apply Kd.R_drewN | apply Kd.R_drew)); exact HO103.out, by repeat (first | (with_reducible first | exact HB.out | apply below_alloc | apply pw_below_drewN | apply below_drew1) | exact HB.out)⟩
noncomputable def zone_Zone_Apex.f (a0_0 : ByteArray) (l0_1 : List (S33)) (a0_2 : Int) : Option (ByteArray) := some a0_0
set_option maxHeartbeats 8000000 in
set_option maxRecDepth 100000 in
theorem zone_Zone_Apex.calls (a0_0 : ByteArray) (A0_1 : Option Addr) (c0_1 : Nat) (l0_1 : List (S33)) (a0_2 : Int) (r : ByteArray) (w : World) (hr0_1 : Kd.C k33 w A0_1 l0_1.length l0_1) (hc0_1 : l0_1.length ≤ c0_1) (h : zone_Zone_Apex.f a0_0 l0_1 a0_2 = some r) :
  Calls Try.prog 18 #[.agg #[.string a0_0, .slice A0_1 l0_1.length c0_1, .int .i64 a0_2]] w fun e w' => e = .returned (.string r) ∧ Below w.heap.size w w' := by
 have hu27 := Try.underlying27
 have HR0_1 := Aside0.mk hr0_1
 have HC0_1 := Aside0.mk hc0_1
 clear hr0_1 hc0_1
 have HB := Aside0.mk (Below.refl w.heap.size w)
 have H : (some a0_0) = some r := h
 clear h
 obtain rfl := Option.some.inj H
 go_enter Try.func18, Try.ntmps18
 go_wp2_with (first | ((with_reducible refine gate_dst (N := 1) rfl ?_); refine box_event ?hg (N := 1) ?hd (cs := #[.string a0_0, .slice A0_1 l0_1.length c0_1, .int .i64 a0_2]) (t := 27) ?hr ?_; (case hd => rfl); (case hg => rfl); (case hr => first | (go_simp; done) | (go_simp; rfl)); intro gb104 hg w2 hbox hb; have n0_ := Aside0.mk (below_step (by repeat (first | (with_reducible first | exact HB.out | apply below_alloc | apply pw_below_drewN | apply below_drew1) | exact HB.out)) hb); have n1_ := Aside0.mk (hbox); have n2_ := Aside0.mk ((by rw [hg]; exact (below_size (by repeat (first | (with_reducible first | exact HB.out | apply below_alloc | apply pw_below_drewN | apply below_drew1) | exact HB.out))) : w.heap.size ≤ gb104)); have n3_ := Aside0.mk ((by rw [hg]; exact (below_size (by repeat (first | (with_reducible first | exact HB.out | apply below_alloc | apply pw_below_drewN | apply below_drew1) | exact HB.out))) : w.heap.size ≤ gb104)); clear HB; have HB := n0_; have BK104 := n1_; have GW104 := n2_; have GE104 := n3_; clear n0_ n1_ n2_ n3_; clear hb hbox hg; have hcz3_0 : w2.cell? ⟨gb104, 0, none⟩ = some (.string a0_0) := (blk_cell BK104.out 0).trans rfl; have hcz3_1 : w2.cell? ⟨gb104, 1, none⟩ = some (.slice A0_1 l0_1.length c0_1) := (blk_cell BK104.out 1).trans rfl; have hcz3_2 : w2.cell? ⟨gb104, 2, none⟩ = some (.int .i64 a0_2) := (blk_cell BK104.out 2).trans rfl; have hfz3_0 := blk_frozen BK104.out 0; have hfz3_1 := blk_frozen BK104.out 1; have hfz3_2 := blk_frozen BK104.out 2))
 go_ret
 exact ⟨by first | rfl | (simp [errW_none, errW_some] <;> rfl) | (simp [*, errW_none, errW_some] <;> rfl), by repeat (first | (with_reducible first | exact HB.out | apply below_alloc | apply pw_below_drewN | apply below_drew1 | refine below_set ?_ GE104.out) | exact HB.out)⟩
noncomputable def beadrolllaw14_awake.f (k : Nat)  : Option (Bool) := (beadrolllaw14_Least.f).bind fun t105 => ((zone_New.f k (⟨#[1, 97, 0]⟩ : ByteArray) t105).bind fun bt108 => (if bt108.2.2.2 = 0 then ((zone_Zone_Apex.f bt108.1 bt108.2.1 bt108.2.2.1).bind fun t115 => (if t115.toList = ([1, 97, 0] : List UInt8) then ((zone_Zone_All.f bt108.1 bt108.2.1 bt108.2.2.1).bind fun t116 => (if (t116.length : Int) = 2 then ((zone_Zone_There.f bt108.1 bt108.2.1 bt108.2.2.1 (⟨#[1, 65, 0]⟩ : ByteArray)).bind fun t119 => (some t119)) else (none))) else (none))) else (none)))
set_option maxHeartbeats 8000000 in
set_option maxRecDepth 100000 in
theorem beadrolllaw14_awake.calls (k : Nat)  (r : Bool) (w : World) (h : beadrolllaw14_awake.f k  = some r) :
  Calls Try.prog 6 #[] w fun e w' => e = .returned (.bool r) ∧ Below w.heap.size w w' := by
 have hu27 := Try.underlying27
 have HB := Aside0.mk (Below.refl w.heap.size w)
 have H : ((beadrolllaw14_Least.f).bind fun t105 => ((zone_New.f k (⟨#[1, 97, 0]⟩ : ByteArray) t105).bind fun bt108 => (if bt108.2.2.2 = 0 then ((zone_Zone_Apex.f bt108.1 bt108.2.1 bt108.2.2.1).bind fun t115 => (if t115.toList = ([1, 97, 0] : List UInt8) then ((zone_Zone_All.f bt108.1 bt108.2.1 bt108.2.2.1).bind fun t116 => (if (t116.length : Int) = 2 then ((zone_Zone_There.f bt108.1 bt108.2.1 bt108.2.2.1 (⟨#[1, 65, 0]⟩ : ByteArray)).bind fun t119 => (some t119)) else (none))) else (none))) else (none)))) = some r := h
 clear h
 replace H := Option.bind_eq_some_iff.mp H
 obtain ⟨t105, A10, H⟩ := H
 replace H : ((zone_New.f k (⟨#[1, 97, 0]⟩ : ByteArray) t105).bind fun bt108 => (if bt108.2.2.2 = 0 then ((zone_Zone_Apex.f bt108.1 bt108.2.1 bt108.2.2.1).bind fun t115 => (if t115.toList = ([1, 97, 0] : List UInt8) then ((zone_Zone_All.f bt108.1 bt108.2.1 bt108.2.2.1).bind fun t116 => (if (t116.length : Int) = 2 then ((zone_Zone_There.f bt108.1 bt108.2.1 bt108.2.2.1 (⟨#[1, 65, 0]⟩ : ByteArray)).bind fun t119 => (some t119)) else (none))) else (none))) else (none))) = some r := H
 have A1 := Aside0.mk A10
 clear A10
 replace H := Option.bind_eq_some_iff.mp H
 obtain ⟨⟨t108, t109, t112, t113⟩, A20, H⟩ := H
 replace H : (if t113 = 0 then ((zone_Zone_Apex.f t108 t109 t112).bind fun t115 => (if t115.toList = ([1, 97, 0] : List UInt8) then ((zone_Zone_All.f t108 t109 t112).bind fun t116 => (if (t116.length : Int) = 2 then ((zone_Zone_There.f t108 t109 t112 (⟨#[1, 65, 0]⟩ : ByteArray)).bind fun t119 => (some t119)) else (none))) else (none))) else (none)) = some r := H
 have A2 := Aside0.mk A20
 clear A20
 by_cases c3 : t113 = 0
 ·rw [if_pos c3] at H
  have c3b0 : (t113 == 0) = true := beq_iff_eq.mpr c3
  have c3b1 : (t113 != 0) = false := bne_eq_false_iff_eq.mpr c3
  clear c3
  replace H := Option.bind_eq_some_iff.mp H
  obtain ⟨t115, A40, H⟩ := H
  replace H : (if t115.toList = ([1, 97, 0] : List UInt8) then ((zone_Zone_All.f t108 t109 t112).bind fun t116 => (if (t116.length : Int) = 2 then ((zone_Zone_There.f t108 t109 t112 (⟨#[1, 65, 0]⟩ : ByteArray)).bind fun t119 => (some t119)) else (none))) else (none)) = some r := H
  have A4 := Aside0.mk A40
  clear A40
  by_cases c5 : t115.toList = ([1, 97, 0] : List UInt8)
  ·rw [if_pos c5] at H
   have c5b0 : (t115.toList == ([1, 97, 0] : List UInt8)) = true := beq_iff_eq.mpr c5
   have c5b1 : (t115.toList != ([1, 97, 0] : List UInt8)) = false := bne_eq_false_iff_eq.mpr c5
   clear c5
   replace H := Option.bind_eq_some_iff.mp H
   obtain ⟨t116, A60, H⟩ := H
   replace H : (if (t116.length : Int) = 2 then ((zone_Zone_There.f t108 t109 t112 (⟨#[1, 65, 0]⟩ : ByteArray)).bind fun t119 => (some t119)) else (none)) = some r := H
   have A6 := Aside0.mk A60
   clear A60
   by_cases c7 : (t116.length : Int) = 2
   ·rw [if_pos c7] at H
    have c7b0 : ((t116.length : Int) == 2) = true := beq_iff_eq.mpr c7
    have c7b1 : ((t116.length : Int) != 2) = false := bne_eq_false_iff_eq.mpr c7
    clear c7
    replace H := Option.bind_eq_some_iff.mp H
    obtain ⟨t119, A80, H⟩ := H
    replace H : (some t119) = some r := H
    have A8 := Aside0.mk A80
    clear A80
    obtain rfl := Option.some.inj H
    go_enter Try.func6, Try.ntmps6
    go_wp2_with (first | ((with_reducible refine gate_callee (f := 17) rfl ?_); refine goesL_ (some 4) rfl rfl Try.func17 (by kernel_rfl) rfl #[] rfl (by (try simp only [List.map_toArray, List.map_cons, List.map_nil]); first | done | rfl | (simp only [List.length_drop, List.length_take]; rfl)) ?_; (with_reducible refine (beadrolllaw14_Least.calls  t105 _ A1.out).mono ?_); rintro e w9 ⟨v106, rfl, ho0, hb⟩; refine ⟨_, rfl, ?_⟩; have n0_ := Aside0.mk (Kd.R_lower ho0 (below_size (by repeat (first | (with_reducible first | exact HB.out | apply below_alloc | apply pw_below_drewN | apply below_drew1) | exact HB.out)))); have n1_ := Aside0.mk (below_step (by repeat (first | (with_reducible first | exact HB.out | apply below_alloc | apply pw_below_drewN | apply below_drew1) | exact HB.out)) hb); clear HB; have HO107 := n0_; have HB := n1_; clear n0_ n1_; (try clear hb); (try clear hb2); (try clear hk); (try clear hi); (try clear ho0); obtain ⟨Ao10, co10, eo10⟩ := Kd.R_slice HO107.out; subst eo10) | ((with_reducible refine gate_callee (f := 10) rfl ?_); refine goesL_ (some 5) rfl rfl Try.func10 (by kernel_rfl) rfl #[.string (⟨#[1, 97, 0]⟩ : ByteArray), .slice Ao10 t105.length co10] rfl (by (try simp only [List.map_toArray, List.map_cons, List.map_nil]); first | done | rfl | (simp only [List.length_drop, List.length_take]; rfl)) ?_; (with_reducible refine (zone_New.calls k (⟨#[1, 97, 0]⟩ : ByteArray) _ _ t105 t108 t109 t112 t113 _ ?side1 ?side2 A2.out).mono ?_); (case side1 => repeat (first | exact (Kd.R_reads' HO107.out).2.2 | (with_reducible refine Kd.C_alloc ?_ _) | (with_reducible refine Kd.C_drewN ?_ _) | (with_reducible refine Kd.C_drew ?_))); (case side2 => exact (Kd.R_reads' HO107.out).2.1); rintro e w11 ⟨v110, rfl, ho0, hb⟩; refine ⟨_, rfl, ?_⟩; have n0_ := Aside0.mk (Kd.R_elder' (by (with_reducible repeat (first | apply Kd.R_alloc | apply Kd.R_drewN | apply Kd.R_drew)); exact HO107.out) (Kd.R_base ho0) hb); have n1_ := Aside0.mk (Kd.R_lower (Kd.R_new' ho0 (Kd.R_lt (by (with_reducible repeat (first | apply Kd.R_alloc | apply Kd.R_drewN | apply Kd.R_drew)); exact HO107.out))) (below_size (by repeat (first | (with_reducible first | exact HB.out | apply below_alloc | apply pw_below_drewN | apply below_drew1) | exact HB.out)))); have n2_ := Aside0.mk (below_step (by repeat (first | (with_reducible first | exact HB.out | apply below_alloc | apply pw_below_drewN | apply below_drew1) | exact HB.out)) hb); clear HO107; clear HB; have HO107 := n0_; have HO111 := n1_; have HB := n2_; clear n0_ n1_ n2_; (try clear hb); (try clear hb2); (try clear hk); (try clear hi); (try clear ho0)) | ((with_reducible refine gate_dst (N := 1) rfl ?_); (try (refine gate_guard (by rfl) ?_; dsimp only)); refine box_event ?hg (N := 1) ?hd (cs := #[.string (⟨#[]⟩ : ByteArray), .slice none 0 0, .int .i64 0]) (t := 27) ?hr ?_; (case hd => rfl); (case hg => rfl); (case hr => first | (go_simp; done) | (go_simp; rfl)); intro gb114 hg w12 hbox hb; have n0_ := Aside0.mk (Kd.R_below (by (with_reducible repeat (first | apply Kd.R_alloc | apply Kd.R_drewN | apply Kd.R_drew)); exact HO107.out) hb); have n1_ := Aside0.mk (Kd.R_below (by (with_reducible repeat (first | apply Kd.R_alloc | apply Kd.R_drewN | apply Kd.R_drew)); exact HO111.out) hb); have n2_ := Aside0.mk (below_step (by repeat (first | (with_reducible first | exact HB.out | apply below_alloc | apply pw_below_drewN | apply below_drew1) | exact HB.out)) hb); have n3_ := Aside0.mk (hbox); have n4_ := Aside0.mk ((by rw [hg]; exact (below_size (by repeat (first | (with_reducible first | exact HB.out | apply below_alloc | apply pw_below_drewN | apply below_drew1) | exact HB.out))) : w.heap.size ≤ gb114)); have n5_ := Aside0.mk ((by rw [hg]; exact (below_size (by repeat (first | (with_reducible first | exact HB.out | apply below_alloc | apply pw_below_drewN | apply below_drew1) | exact HB.out))) : w.heap.size ≤ gb114)); clear HO107; clear HO111; clear HB; have HO107 := n0_; have HO111 := n1_; have HB := n2_; have BK114 := n3_; have GW114 := n4_; have GE114 := n5_; clear n0_ n1_ n2_ n3_ n4_ n5_; clear hb hbox hg; have hcz13_0 : w12.cell? ⟨gb114, 0, none⟩ = some (.string (⟨#[]⟩ : ByteArray)) := (blk_cell BK114.out 0).trans rfl; have hcz13_1 : w12.cell? ⟨gb114, 1, none⟩ = some (.slice none 0 0) := (blk_cell BK114.out 1).trans rfl; have hcz13_2 : w12.cell? ⟨gb114, 2, none⟩ = some (.int .i64 0) := (blk_cell BK114.out 2).trans rfl; have hfz13_0 := blk_frozen BK114.out 0; have hfz13_1 := blk_frozen BK114.out 1; have hfz13_2 := blk_frozen BK114.out 2; obtain ⟨Ao14, co14, eo14⟩ := Kd.R_slice HO111.out; subst eo14) | (go_at_call 18; (with_reducible refine (zone_Zone_Apex.calls t108 _ _ t109 t112 t115 _ ?side1 ?side2 A4.out).mono ?_); (case side1 => refine (Kd.R_reads' (e := 33) (base := w.heap.size) (ok := fun k_ => (True ∧ some k_ ≠ (.slice Ao10 t105.length co10 : Value).ownBlock)) (n := t109.length) (c := co14) ?_).2.2; exact (by (with_reducible repeat (first | apply Kd.R_alloc | apply Kd.R_drewN | apply Kd.R_drew)); exact (Kd.R_mono (Kd.R_far (p := ⟨gb114, 2, none⟩) (Kd.R_far (p := ⟨gb114, 1, none⟩) (Kd.R_far (p := ⟨gb114, 0, none⟩) (Kd.R_types HO111.out BK114.out (by decide)) (fun _ hk => hk.2) (.string t108)) (fun _ hk => hk.2) (.slice Ao14 t109.length co14)) (fun _ hk => hk.2) (.int .i64 t112)) (fun _ h_ => h_.1)))); (case side2 => exact (Kd.R_reads' HO111.out).2.1); rintro e w15 ⟨rfl, hb⟩; have n0_ := Aside0.mk (Kd.R_below (by (with_reducible repeat (first | apply Kd.R_alloc | apply Kd.R_drewN | apply Kd.R_drew)); exact (Kd.R_mono (Kd.R_far (p := ⟨gb114, 2, none⟩) (Kd.R_far (p := ⟨gb114, 1, none⟩) (Kd.R_far (p := ⟨gb114, 0, none⟩) (Kd.R_types HO107.out BK114.out (by decide)) (fun _ hk => hk.2) (.string t108)) (fun _ hk => hk.2) (.slice Ao14 t109.length co14)) (fun _ hk => hk.2) (.int .i64 t112)) (fun _ h_ => h_.1))) hb); have n1_ := Aside0.mk (Kd.R_below (by (with_reducible repeat (first | apply Kd.R_alloc | apply Kd.R_drewN | apply Kd.R_drew)); exact (Kd.R_mono (Kd.R_far (p := ⟨gb114, 2, none⟩) (Kd.R_far (p := ⟨gb114, 1, none⟩) (Kd.R_far (p := ⟨gb114, 0, none⟩) (Kd.R_types HO111.out BK114.out (by decide)) (fun _ hk => hk.2) (.string t108)) (fun _ hk => hk.2) (.slice Ao14 t109.length co14)) (fun _ hk => hk.2) (.int .i64 t112)) (fun _ h_ => h_.1))) hb); have n2_ := Aside0.mk (blk_below (g := gb114) (o := .cells #[.string t108, .slice Ao14 t109.length co14, .int .i64 t112] 27 (0, 0)) (by (with_reducible repeat (first | refine blk_drewN ?_ _ | refine blk_drew ?_ | refine blk_alloc ?_ _)); refine blk_put (cs := #[.string t108, .slice Ao14 t109.length co14, .int .i64 0]) ?_ 2 _ rfl; (with_reducible repeat (first | refine blk_drewN ?_ _ | refine blk_drew ?_ | refine blk_alloc ?_ _)); refine blk_put (cs := #[.string t108, .slice none 0 0, .int .i64 0]) ?_ 1 _ rfl; (with_reducible repeat (first | refine blk_drewN ?_ _ | refine blk_drew ?_ | refine blk_alloc ?_ _)); refine blk_put (cs := #[.string (⟨#[]⟩ : ByteArray), .slice none 0 0, .int .i64 0]) ?_ 0 _ rfl; (with_reducible repeat (first | refine blk_drewN ?_ _ | refine blk_drew ?_ | refine blk_alloc ?_ _)); exact BK114.out) hb); have n3_ := Aside0.mk (below_step (by repeat (first | (with_reducible first | exact HB.out | apply below_alloc | apply pw_below_drewN | apply below_drew1 | refine below_set ?_ GE114.out) | exact HB.out)) hb); clear HO107; clear HO111; clear BK114; clear HB; have HO107 := n0_; have HO111 := n1_; have BK114 := n2_; have HB := n3_; clear n0_ n1_ n2_ n3_; (try clear hb); (try clear hb2); (try clear hk); (try clear hi); have hcz16_0 : w15.cell? ⟨gb114, 0, none⟩ = some (.string t108) := (blk_cell BK114.out 0).trans rfl; have hcz16_1 : w15.cell? ⟨gb114, 1, none⟩ = some (.slice Ao14 t109.length co14) := (blk_cell BK114.out 1).trans rfl; have hcz16_2 : w15.cell? ⟨gb114, 2, none⟩ = some (.int .i64 t112) := (blk_cell BK114.out 2).trans rfl; have hfz16_0 := blk_frozen BK114.out 0; have hfz16_1 := blk_frozen BK114.out 1; have hfz16_2 := blk_frozen BK114.out 2) | (go_at_call 11; (with_reducible refine (zone_Zone_All.calls t108 _ _ t109 t112 t116 _ ?side1 ?side2 A6.out).mono ?_); (case side1 => repeat (first | exact (Kd.R_reads' HO111.out).2.2 | (with_reducible refine Kd.C_alloc ?_ _) | (with_reducible refine Kd.C_drewN ?_ _) | (with_reducible refine Kd.C_drew ?_))); (case side2 => exact (Kd.R_reads' HO111.out).2.1); rintro e w17 ⟨v117, rfl, ho0, hb⟩; have n0_ := Aside0.mk (Kd.R_elder' (by (with_reducible repeat (first | apply Kd.R_alloc | apply Kd.R_drewN | apply Kd.R_drew)); exact HO107.out) (Kd.R_base ho0) hb); have n1_ := Aside0.mk (Kd.R_elder' (by (with_reducible repeat (first | apply Kd.R_alloc | apply Kd.R_drewN | apply Kd.R_drew)); exact HO111.out) (Kd.R_base ho0) hb); have n2_ := Aside0.mk (Kd.R_lower (Kd.R_new' (Kd.R_new' ho0 (Kd.R_lt (by (with_reducible repeat (first | apply Kd.R_alloc | apply Kd.R_drewN | apply Kd.R_drew)); exact HO107.out))) (Kd.R_lt (by (with_reducible repeat (first | apply Kd.R_alloc | apply Kd.R_drewN | apply Kd.R_drew)); exact HO111.out))) (below_size (by repeat (first | (with_reducible first | exact HB.out | apply below_alloc | apply pw_below_drewN | apply below_drew1 | refine below_set ?_ GE114.out) | exact HB.out)))); have n3_ := Aside0.mk (blk_below (g := gb114) (o := .cells #[.string t108, .slice Ao14 t109.length co14, .int .i64 t112] 27 (0, 0)) (by (with_reducible repeat (first | refine blk_drewN ?_ _ | refine blk_drew ?_ | refine blk_alloc ?_ _)); exact BK114.out) hb); have n4_ := Aside0.mk (below_step (by repeat (first | (with_reducible first | exact HB.out | apply below_alloc | apply pw_below_drewN | apply below_drew1 | refine below_set ?_ GE114.out) | exact HB.out)) hb); clear HO107; clear HO111; clear BK114; clear HB; have HO107 := n0_; have HO111 := n1_; have HO118 := n2_; have BK114 := n3_; have HB := n4_; clear n0_ n1_ n2_ n3_ n4_; (try clear hb); (try clear hb2); (try clear hk); (try clear hi); (try clear ho0); obtain ⟨Ao18, co18, eo18⟩ := Kd.R_slice HO118.out; subst eo18; have hcz19_0 : w17.cell? ⟨gb114, 0, none⟩ = some (.string t108) := (blk_cell BK114.out 0).trans rfl; have hcz19_1 : w17.cell? ⟨gb114, 1, none⟩ = some (.slice Ao14 t109.length co14) := (blk_cell BK114.out 1).trans rfl; have hcz19_2 : w17.cell? ⟨gb114, 2, none⟩ = some (.int .i64 t112) := (blk_cell BK114.out 2).trans rfl; have hfz19_0 := blk_frozen BK114.out 0; have hfz19_1 := blk_frozen BK114.out 1; have hfz19_2 := blk_frozen BK114.out 2) | (go_at_call 19; (with_reducible refine (zone_Zone_There.calls t108 _ _ t109 t112 (⟨#[1, 65, 0]⟩ : ByteArray) t119 _ ?side1 ?side2 A8.out).mono ?_); (case side1 => repeat (first | exact (Kd.R_reads' HO111.out).2.2 | (with_reducible refine Kd.C_alloc ?_ _) | (with_reducible refine Kd.C_drewN ?_ _) | (with_reducible refine Kd.C_drew ?_))); (case side2 => exact (Kd.R_reads' HO111.out).2.1); rintro e w20 ⟨rfl, hb⟩; have n0_ := Aside0.mk (Kd.R_below (by (with_reducible repeat (first | apply Kd.R_alloc | apply Kd.R_drewN | apply Kd.R_drew)); exact HO107.out) hb); have n1_ := Aside0.mk (Kd.R_below (by (with_reducible repeat (first | apply Kd.R_alloc | apply Kd.R_drewN | apply Kd.R_drew)); exact HO111.out) hb); have n2_ := Aside0.mk (Kd.R_below (by (with_reducible repeat (first | apply Kd.R_alloc | apply Kd.R_drewN | apply Kd.R_drew)); exact HO118.out) hb); have n3_ := Aside0.mk (blk_below (g := gb114) (o := .cells #[.string t108, .slice Ao14 t109.length co14, .int .i64 t112] 27 (0, 0)) (by (with_reducible repeat (first | refine blk_drewN ?_ _ | refine blk_drew ?_ | refine blk_alloc ?_ _)); exact BK114.out) hb); have n4_ := Aside0.mk (below_step (by repeat (first | (with_reducible first | exact HB.out | apply below_alloc | apply pw_below_drewN | apply below_drew1 | refine below_set ?_ GE114.out) | exact HB.out)) hb); clear HO107; clear HO111; clear HO118; clear BK114; clear HB; have HO107 := n0_; have HO111 := n1_; have HO118 := n2_; have BK114 := n3_; have HB := n4_; clear n0_ n1_ n2_ n3_ n4_; (try clear hb); (try clear hb2); (try clear hk); (try clear hi)))
    go_ret
    exact ⟨by first | rfl | (simp [errW_none, errW_some] <;> rfl) | (simp [*, errW_none, errW_some] <;> rfl), by repeat (first | (with_reducible first | exact HB.out | apply below_alloc | apply pw_below_drewN | apply below_drew1 | refine below_set ?_ GE114.out) | exact HB.out)⟩
   ·rw [if_neg c7] at H
    exact absurd H (by simp)
  ·rw [if_neg c5] at H
   exact absurd H (by simp)
 ·rw [if_neg c3] at H
  exact absurd H (by simp)
noncomputable def beadrollref14_DataType.f (a0 : Int) : Option (Bool) := if a0 ≥ 1 then (if a0 ≤ 65535 then (if a0 = 41 then (some false) else (if a0 < 128 then (some true) else (some (decide (a0 > 255))))) else (some false)) else (some false)
set_option maxHeartbeats 8000000 in
set_option maxRecDepth 100000 in
theorem beadrollref14_DataType.calls (a0 : Int) (r : Bool) (w : World) (h : beadrollref14_DataType.f a0 = some r) :
  Calls Try.prog 8 #[.int .i64 a0] w fun e w' => e = .returned (.bool r) ∧ Drawn0 w w' := by
 have H : (if a0 ≥ 1 then (if a0 ≤ 65535 then (if a0 = 41 then (some false) else (if a0 < 128 then (some true) else (some (decide (a0 > 255))))) else (some false)) else (some false)) = some r := h
 clear h
 by_cases c2 : a0 ≥ 1
 ·rw [if_pos c2] at H
  have c2b0 : decide (1 ≤ a0) = true := decide_eq_true c2
  clear c2
  by_cases c3 : a0 ≤ 65535
  ·rw [if_pos c3] at H
   have c3b0 : decide (a0 ≤ 65535) = true := decide_eq_true c3
   clear c3
   by_cases c4 : a0 = 41
   ·rw [if_pos c4] at H
    have c4b0 : (a0 == 41) = true := beq_iff_eq.mpr c4
    have c4b1 : (a0 != 41) = false := bne_eq_false_iff_eq.mpr c4
    clear c4
    obtain rfl := Option.some.inj H
    go_enter Try.func8, Try.ntmps8
    go_wp2
    go_ret
    exact ⟨by first | rfl | (simp; done) | (simp [*]; done), by repeat (first | exact Drawn0.refl _ | apply Drawn0.step)⟩
   ·rw [if_neg c4] at H
    have c4b0 : (a0 == 41) = false := beq_eq_false_iff_ne.mpr c4
    have c4b1 : (a0 != 41) = true := bne_iff_ne.mpr c4
    by_cases c5 : a0 < 128
    ·rw [if_pos c5] at H
     have c5b0 : decide (a0 < 128) = true := decide_eq_true c5
     clear c5
     obtain rfl := Option.some.inj H
     go_enter Try.func8, Try.ntmps8
     go_wp2
     go_ret
     exact ⟨by first | rfl | (simp; done) | (simp [*]; done), by repeat (first | exact Drawn0.refl _ | apply Drawn0.step)⟩
    ·rw [if_neg c5] at H
     have c5b0 : decide (a0 < 128) = false := decide_eq_false c5
     clear c5
     obtain rfl := Option.some.inj H
     go_enter Try.func8, Try.ntmps8
     go_wp2
     go_ret
     exact ⟨by first | rfl | (simp; done) | (simp [*]; done), by repeat (first | exact Drawn0.refl _ | apply Drawn0.step)⟩
  ·rw [if_neg c3] at H
   have c3b0 : decide (a0 ≤ 65535) = false := decide_eq_false c3
   clear c3
   obtain rfl := Option.some.inj H
   go_enter Try.func8, Try.ntmps8
   go_wp2
   go_ret
   exact ⟨by first | rfl | (simp; done) | (simp [*]; done), by repeat (first | exact Drawn0.refl _ | apply Drawn0.step)⟩
 ·rw [if_neg c2] at H
  have c2b0 : decide (1 ≤ a0) = false := decide_eq_false c2
  clear c2
  obtain rfl := Option.some.inj H
  go_enter Try.func8, Try.ntmps8
  go_wp2
  go_ret
  exact ⟨by first | rfl | (simp; done) | (simp [*]; done), by repeat (first | exact Drawn0.refl _ | apply Drawn0.step)⟩
noncomputable def beadrolllaw14_ZoneTypes.f (k : Nat) (a0 : Int) : Option (Bool) := (beadrolllaw14_awake.f k).bind fun t120 => (if t120 = true then ((zone_DataType.f a0).bind fun t121 => ((beadrollref14_DataType.f a0).bind fun t122 => (some (t121 == t122)))) else (none))
set_option maxHeartbeats 8000000 in
set_option maxRecDepth 100000 in
theorem beadrolllaw14_ZoneTypes.calls (k : Nat) (a0 : Int) (r : Bool) (w : World) (h : beadrolllaw14_ZoneTypes.f k a0 = some r) :
  Calls Try.prog 3 #[.int .i64 a0] w fun e w' => e = .returned (.bool r) ∧ Below w.heap.size w w' := by
 have HB := Aside0.mk (Below.refl w.heap.size w)
 have H : ((beadrolllaw14_awake.f k).bind fun t120 => (if t120 = true then ((zone_DataType.f a0).bind fun t121 => ((beadrollref14_DataType.f a0).bind fun t122 => (some (t121 == t122)))) else (none))) = some r := h
 clear h
 replace H := Option.bind_eq_some_iff.mp H
 obtain ⟨t120, A20, H⟩ := H
 replace H : (if t120 = true then ((zone_DataType.f a0).bind fun t121 => ((beadrollref14_DataType.f a0).bind fun t122 => (some (t121 == t122)))) else (none)) = some r := H
 have A2 := Aside0.mk A20
 clear A20
 by_cases c3 : t120 = true
 ·subst c3
  have H1 : ((zone_DataType.f a0).bind fun t121 => ((beadrollref14_DataType.f a0).bind fun t122 => (some (t121 == t122)))) = some r := by rw [if_pos rfl] at H; exact H
  clear H
  have H := H1
  clear H1
  replace H := Option.bind_eq_some_iff.mp H
  obtain ⟨t121, A40, H⟩ := H
  replace H : ((beadrollref14_DataType.f a0).bind fun t122 => (some (t121 == t122))) = some r := H
  have A4 := Aside0.mk A40
  clear A40
  replace H := Option.bind_eq_some_iff.mp H
  obtain ⟨t122, A50, H⟩ := H
  replace H : (some (t121 == t122)) = some r := H
  have A5 := Aside0.mk A50
  clear A50
  obtain rfl := Option.some.inj H
  go_enter Try.func3, Try.ntmps3
  go_wp2_with (first | ((with_reducible refine gate_callee (f := 6) rfl ?_); refine goesL_ (some 3) rfl rfl Try.func6 (by kernel_rfl) rfl #[] rfl (by (try simp only [List.map_toArray, List.map_cons, List.map_nil]); first | done | rfl | (simp only [List.length_drop, List.length_take]; rfl)) ?_; (with_reducible refine (beadrolllaw14_awake.calls k  true _ A2.out).mono ?_); rintro e w6 ⟨rfl, hb⟩; refine ⟨_, rfl, ?_⟩; have n0_ := Aside0.mk (below_step (by repeat (first | (with_reducible first | exact HB.out | apply below_alloc | apply pw_below_drewN | apply below_drew1) | exact HB.out)) hb); clear HB; have HB := n0_; clear n0_; (try clear hb); (try clear hb2); (try clear hk); (try clear hi)) | (go_at_call 7; (with_reducible refine (zone_DataType.calls a0 t121 _ A4.out).mono ?_); rintro e w' ⟨rfl, ⟨nd, rfl⟩⟩) | (go_at_call 8; (with_reducible refine (beadrollref14_DataType.calls a0 t122 _ A5.out).mono ?_); rintro e w' ⟨rfl, ⟨nd, rfl⟩⟩))
  go_ret
  exact ⟨by first | rfl | (simp [errW_none, errW_some] <;> rfl) | (simp [*, errW_none, errW_some] <;> rfl), by repeat (first | (with_reducible first | exact HB.out | apply below_alloc | apply pw_below_drewN | apply below_drew1) | exact HB.out)⟩
 ·replace c3 := Bool.eq_false_iff.mpr c3
  subst c3
  have H1 : (none) = some r := by rw [if_neg (show ¬ (false = true) by decide)] at H; exact H
  clear H
  have H := H1
  clear H1
  exact absurd H (by simp)
def beadrolllaw14_ZoneTypes.Pure : Prop := ∀ (a0 : Int), (Lit.int .i64 a0).wf = true → ∃ k, beadrolllaw14_ZoneTypes.f k a0 = some true
theorem beadrolllaw14_ZoneTypes.walk (P : beadrolllaw14_ZoneTypes.Pure) (a0 : Int) (w : World) (w0 : (Lit.int .i64 a0).wf = true) :
  Calls Try.prog 3 #[.int .i64 a0] w fun e w' => e = .returned (.bool true) ∧ Below w.heap.size w w' := by
 obtain ⟨k, h⟩ := P a0 w0
 refine (beadrolllaw14_ZoneTypes.calls k a0 true w h).mono ?_
 rintro e w' ⟨rfl, hd⟩
 exact ⟨rfl, hd⟩
end Go.Proofs.Ytehdkopjgcoclaa.PZt
namespace Go.Proofs.Ytehdkopjgcoclaa.Pure
open Go.RowKit Go.Proofs.Ytehdkopjgcoclaa.PZt Go.Proofs.Ytehdkopjgcoclaa.PZg Go.Proofs.Ytehdkopjgcoclaa.PZo Go.Proofs.Ytehdkopjgcoclaa.PRd Go.Proofs.Ytehdkopjgcoclaa.PRr Go.Proofs.Ytehdkopjgcoclaa.Given Go.Proofs.Ytehdkopjgcoclaa.Rrs Go.Proofs.Ytehdkopjgcoclaa.NameFacts Go.Proofs.Ytehdkopjgcoclaa.SetLaw Go.Proofs.YtehdkopjgcoclaaW.PrintWords Go.Proofs.YtehdkopjgcoclaaW.PrintLast
set_option linter.unusedVariables false
abbrev lr0 : RR := ⟨(⟨#[1, 97, 0]⟩ : ByteArray), 2, 1, 0, (⟨#[1, 110, 1, 97, 0]⟩ : ByteArray)⟩
abbrev lr1 : RR := ⟨(⟨#[1, 97, 0]⟩ : ByteArray), 6, 1, 0, (⟨#[1, 110, 1, 97, 0, 0, 0, 0, 0, 1, 0, 0, 0, 2, 0, 0, 0, 3, 0, 0, 0, 4, 0, 0, 0, 5]⟩ : ByteArray)⟩
theorem l1 : name_Right.f (⟨#[1, 97, 0]⟩ : ByteArray) = some true := by kernel_rfl
theorem l2 : record_Right.f 20 lr0.f0 lr0.f1 lr0.f2 lr0.f3 lr0.f4 = some true := by kernel_rfl
theorem l3 : record_Right.f 20 lr1.f0 lr1.f1 lr1.f2 lr1.f3 lr1.f4 = some true := by kernel_rfl
theorem l4 : name_Alike.f (⟨#[1, 97, 0]⟩ : ByteArray) (⟨#[1, 97, 0]⟩ : ByteArray) = some true := by kernel_rfl
theorem l5 : name_Alike.f (⟨#[1, 97, 0]⟩ : ByteArray) (⟨#[1, 65, 0]⟩ : ByteArray) = some true := by kernel_rfl
theorem l6 : zone_within.f 20 (⟨#[1, 97, 0]⟩ : ByteArray) lr0.f0 lr0.f1 lr0.f2 lr0.f3 lr0.f4 = some true := by kernel_rfl
theorem l7 : zone_within.f 20 (⟨#[1, 97, 0]⟩ : ByteArray) lr1.f0 lr1.f1 lr1.f2 lr1.f3 lr1.f4 = some true := by kernel_rfl
theorem l8 : apart_plain.f 20 [lr0, lr1] = some true := by kernel_rfl
theorem l9 : api_RR_31.f 20 [lr0, lr1] lr1.f0 lr1.f1 lr1.f2 lr1.f3 lr1.f4 = some 1 := by kernel_rfl
theorem lof : rrset_Of.f [lr0, lr1] = some [lr0, lr1] := by
  rw [of_f (by
    intro y hy
    rcases List.mem_cons.mp hy with rfl | hy
    · exact ⟨by kernel_rfl, by decide⟩
    · rcases List.mem_singleton.mp hy with rfl
      exact ⟨by kernel_rfl, by decide⟩) (by simp)]
  congr 1
  have h : cmpRR lr1 lr0 = 1 := by
    have hn : nameK lr1 = nameK lr0 := rfl
    unfold cmpRR thenC
    simp only [hn]
    rw [if_pos (cmpL_ord.self _)]
    decide
  show put cmpRR (put cmpRR [] lr0) lr1 = _
  rw [put, put, if_neg (by omega), if_neg (by omega), put]
theorem both {p : RR → Prop} (h0 : p lr0) (h1 : p lr1) : ∀ x ∈ [lr0, lr1], p x := fun x hx => by
  rcases List.mem_cons.mp hx with rfl | hx
  · exact h0
  · rcases List.mem_singleton.mp hx with rfl
    exact h1
theorem any_no {p : RR → Option Bool} (h0 : p lr0 = some true) (h1 : p lr1 = some true) : anyO p [lr0, lr1] = some false := by
  unfold anyO
  rw [if_pos ⟨by simp, both (by rw [h0]; rfl) (by rw [h1]; rfl)⟩]
  simp only [List.any_cons, List.any_nil, h0, h1]
  rfl
theorem lright (z : Int) : right_any.f 20 [lr0, lr1] z = some false := any_no l2 l3
theorem lwithin : within_any.f 20 [lr0, lr1] (⟨#[1, 97, 0]⟩ : ByteArray) = some false := any_no l6 l7
theorem ltyped (l : List RR) (t : Int) (h : l.length ≤ 1000000) : rrset_Typed.f l t = some (l.filter fun x => x.f1 == t) := by
  unfold rrset_Typed.f; rw [if_pos h]
theorem lat : rrset_At.f [lr0, lr1] (⟨#[1, 97, 0]⟩ : ByteArray) = some [lr0, lr1] := by
  unfold rrset_At.f
  rw [if_pos ⟨by simp, both (p := fun x => (name_Alike.f x.f0 (⟨#[1, 97, 0]⟩ : ByteArray)).isSome = true) (by show (name_Alike.f (⟨#[1, 97, 0]⟩ : ByteArray) _).isSome = true; rw [l4]; rfl) (by show (name_Alike.f (⟨#[1, 97, 0]⟩ : ByteArray) _).isSome = true; rw [l4]; rfl)⟩]
  simp only [List.filter_cons, List.filter_nil, l4]
  rfl
theorem lthere (a : ByteArray) (s : Int) : zone_Zone_There.f a [lr0, lr1] s (⟨#[1, 65, 0]⟩ : ByteArray) = some true := by
  unfold zone_Zone_There.f
  rw [if_pos ⟨by simp, both (p := fun x => (name_Alike.f x.f0 (⟨#[1, 65, 0]⟩ : ByteArray)).isSome = true) (by show (name_Alike.f (⟨#[1, 97, 0]⟩ : ByteArray) _).isSome = true; rw [l5]; rfl) (by show (name_Alike.f (⟨#[1, 97, 0]⟩ : ByteArray) _).isSome = true; rw [l5]; rfl)⟩]
  simp only [List.any_cons, List.any_nil, l5]
  rfl
theorem lset (s : Int) : zone_Zone_Set.f (⟨#[1, 97, 0]⟩ : ByteArray) [lr0, lr1] s (⟨#[1, 97, 0]⟩ : ByteArray) 2 = some [lr0] := by
  unfold zone_Zone_Set.f zone_Zone_At.f
  simp only [lat, Option.bind_some, ltyped [lr0, lr1] 2 (by simp)]
  rfl
theorem lnew : zone_New.f 20 (⟨#[1, 97, 0]⟩ : ByteArray) [lr0, lr1] = some ((⟨#[1, 97, 0]⟩ : ByteArray), [lr0, lr1], 1, 0) := by
  have hf : [lr0, lr1].filter (fun x => x.f1 == 6) = [lr1] := rfl
  have h9 : api_RR_31.f 20 [lr0, lr1] (rd_T33 [lr1] 0).f0 (rd_T33 [lr1] 0).f1 (rd_T33 [lr1] 0).f2 (rd_T33 [lr1] 0).f3 (rd_T33 [lr1] 0).f4 = some 1 := l9
  have h4 : name_Alike.f (rd_T33 [lr1] 0).f0 (⟨#[1, 97, 0]⟩ : ByteArray) = some true := l4
  unfold zone_New.f
  rw [l1, Option.bind_some, if_pos rfl, lright, Option.bind_some, if_neg (by decide), lof, Option.bind_some, if_neg (by decide), ltyped [lr0, lr1] 6 (by simp), hf, Option.bind_some, lset, Option.bind_some, lwithin, Option.bind_some, if_neg (by decide), if_pos (by decide), if_pos (by decide), h4, Option.bind_some, if_pos rfl, if_neg (by decide), l8, Option.bind_some, if_pos rfl, h9, Option.bind_some]
theorem awake20 : beadrolllaw14_awake.f 20 = some true := by
  unfold beadrolllaw14_awake.f beadrolllaw14_Least.f
  rw [Option.bind_some, lnew, Option.bind_some]
  rw [if_pos rfl]
  unfold zone_Zone_Apex.f
  rw [Option.bind_some, if_pos (by kernel_rfl)]
  unfold zone_Zone_All.f
  have hc : slices_Clone.f [lr0, lr1] = some [lr0, lr1] := by unfold slices_Clone.f; rw [if_pos (by simp)]
  simp only [hc, Option.bind_some]
  rw [if_pos (by decide), lthere, Option.bind_some]
theorem ZoneTypes : beadrolllaw14_ZoneTypes.Pure := by
  intro a0 _
  refine ⟨20, ?_⟩
  unfold beadrolllaw14_ZoneTypes.f
  rw [awake20, Option.bind_some, if_pos rfl]
  have e : zone_DataType.f a0 = beadrollref14_DataType.f a0 := rfl
  rw [e]
  unfold beadrollref14_DataType.f
  repeat' split
  all_goals simp
end Go.Proofs.Ytehdkopjgcoclaa.Pure
