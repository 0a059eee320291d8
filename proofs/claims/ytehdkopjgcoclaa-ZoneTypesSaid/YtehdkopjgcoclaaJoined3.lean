/- Joined out of this session's own texts: contracts and facts that the claim's row is drawn from, each with its own conditions. -/
import Derived.Test.YtehdkopjgcoclaaJoined2
import Derived.Test.YtehdkopjgcoclaaProg
import Derived.Below
import Derived.Deep.Draws
import Derived.Deep.AppendLies
import Derived.Maps.AppendAt
import Derived.OwnWalk
import Derived.Laws.BytesArg
import Derived.Laws.MakeOwn
import Derived.Laws.OwnMore
import Derived.Deep.OwnRows
import Derived.Tactics
import Derived.Lib.ConvBytes
import Derived.Laws.Slices
import Derived.WalkKit
import Derived.KernelRfl
import Derived.RowKit3
import Derived.Deep.LoopGhost
import Derived.Deep.QuietTactic
import Derived.BigQuiet
import Derived.WideLaws
import Derived.Deep.DeepCutAuto
import Derived.Deep.CutBlock
import Derived.Deep.RegionHeld3
import Derived.Laws.Rows
import Derived.Lib.AppendStr
import Derived.ArgAppend
import Derived.Laws.IdiomCopy
import Derived.OrdersHeld
import Derived.Laws.BitsLemmas
import Derived.RowKit
namespace Go.Proofs.Ytehdkopjgcoclaa.Rrs
open Go.RowKit Go.Proofs.YtehdkopjgcoclaaW.PrintWords Go.Proofs.YtehdkopjgcoclaaW.PrintLast Go.Proofs.YtehdkopjgcoclaaW.PrintMore Go.Proofs.Ytehdkopjgcoclaa.Given Go.Proofs.Ytehdkopjgcoclaa.PRd Go.Proofs.Ytehdkopjgcoclaa.PRr Go.Proofs.Ytehdkopjgcoclaa.Oct Go.Proofs.Ytehdkopjgcoclaa.Name Go.Proofs.Ytehdkopjgcoclaa.Cmp Go.Proofs.Ytehdkopjgcoclaa.NameFacts Go.Proofs.Ytehdkopjgcoclaa.RdataFacts Go.Proofs.Ytehdkopjgcoclaa.SetLaw
set_option linter.unusedVariables false
def or4 (a b c d : Int) : Int := if a = 0 then if b = 0 then if c = 0 then d else c else b else a
theorem or_f (a b c d : Int) (k : Nat) (hk : 5 ≤ k) : cmp_Or_int.f k [a, b, c, d] = some (or4 a b c d) := by
  obtain ⟨k, rfl⟩ : ∃ m, k = m + 5 := ⟨k - 5, by omega⟩
  have w1 : wrap64 (0 + 1) = 1 := by unfold wrap64; omega
  have w2 : wrap64 (1 + 1) = 2 := by unfold wrap64; omega
  have w3 : wrap64 (2 + 1) = 3 := by unfold wrap64; omega
  have w4 : wrap64 (3 + 1) = 4 := by unfold wrap64; omega
  have r0 : rd [a, b, c, d] 0 = a := rfl
  have r1 : rd [a, b, c, d] 1 = b := rfl
  have r2 : rd [a, b, c, d] 2 = c := rfl
  have r3 : rd [a, b, c, d] 3 = d := rfl
  have l4 : (([a, b, c, d] : List Int).length : Int) = 4 := rfl
  show cmp_Or_int.l0 (k + 5) 0 [a, b, c, d] (([a, b, c, d] : List Int).length : Int) 0 = _
  rw [l4]
  unfold or4
  simp only [cmp_Or_int.l0, l4, r0, r1, r2, r3, w1, w2, w3, w4, show ((0 : Int) < 4) = True by simp, show ((1 : Int) < 4) = True by simp, show ((2 : Int) < 4) = True by simp, show ((3 : Int) < 4) = True by simp, show ((4 : Int) < 4) = False by simp, show ((0 : Int) ≤ 0) = True by simp, show ((0 : Int) ≤ 1) = True by simp, show ((0 : Int) ≤ 2) = True by simp, show ((0 : Int) ≤ 3) = True by simp, if_true, if_false]
  repeat' split
  all_goals first | rfl | (simp_all; done)
theorem cmpi_f (a b : Int) : cmp_Compare_int.f a b = some (cmpI a b) := by
  unfold cmp_Compare_int.f cmp_isNaN_int.f cmpI
  simp only [bne_self_eq_false, Option.bind_some]
  repeat' split
  all_goals first | rfl | (simp_all; done)
open Classical in
noncomputable def nameK (x : RR) : List ByteArray := if h : ∃ l, good l ∧ (nameB l).size ≤ 255 ∧ x.f0 = nameB l then ((Classical.choose h).map lowS).reverse else []
def saidR (x : RR) : ByteArray := if rightD x.f1 x.f4 = true then foldD x.f1 x.f4 else x.f4
noncomputable def cmpRR : RR → RR → Int := thenC (fun a b => cmpL (nameK a) (nameK b)) (thenC (fun a b => cmpI a.f1 b.f1) (thenC (fun a b => cmpI a.f2 b.f2) (fun a b => cmpB (saidR a).toList (saidR b).toList)))
theorem ordRR : POrd cmpRR := (POrd.pull cmpL_ord nameK).thenC ((POrd.pull cmpI_ord (·.f1)).thenC ((POrd.pull cmpI_ord (·.f2)).thenC (POrd.pull cmp_ord fun x => (saidR x).toList)))
theorem said_f (x : RR) (hx : x.f4.size ≤ 100000) : record_Said.f x.f0 x.f1 x.f2 x.f3 x.f4 = some (saidR x) := by
  unfold record_Said.f rdata_Right.f rdata_Fold.f saidR
  rw [if_pos (by omega), if_pos (by omega)]
  simp only [Option.bind_some]
  split <;> rfl
theorem nameK_eq (x : RR) (hx : rightB x.f0 = true) : ∃ l, good l ∧ (nameB l).size ≤ 255 ∧ x.f0 = nameB l ∧ nameK x = (l.map lowS).reverse := by
  have hd : ∃ l, good l ∧ (nameB l).size ≤ 255 ∧ x.f0 = nameB l := by
    obtain ⟨l, h1, h2, h3⟩ := (right_iff x.f0).mp hx
    exact ⟨l, h1, h3, h2⟩
  have hs := Classical.choose_spec hd
  exact ⟨Classical.choose hd, hs.1, hs.2.1, hs.2.2, by unfold nameK; rw [dif_pos hd]⟩
theorem cmpO_eq (x y : RR) (hx : rightB x.f0 = true) (hy : rightB y.f0 = true) (sx : x.f4.size ≤ 100000) (sy : y.f4.size ≤ 100000) (k : Nat) (hk : 1000 ≤ k) : cmpO k x y = some (cmpRR x y) := by
  obtain ⟨l, gl, sl, el, kl⟩ := nameK_eq x hx
  obtain ⟨m, gm, sm, em, km⟩ := nameK_eq y hy
  unfold cmpO record_Compare.f
  rw [said_f x sx, said_f y sy, cmpi_f, cmpi_f, el, em, compare_f l m gl gm sl sm k (by omega)]
  simp only [Option.bind_some]
  rw [show cmp_Compare_string.f (saidR x) (saidR y) = some (cmpB (saidR x).toList (saidR y).toList) from rfl]
  simp only [Option.bind_some]
  rw [or_f _ _ _ _ k (by omega), Option.bind_some]
  unfold or4 cmpRR thenC
  simp only [kl, km]
  rfl
end Go.Proofs.Ytehdkopjgcoclaa.Rrs
namespace Go.Proofs.Ytehdkopjgcoclaa.Rrs
open Go.RowKit Go.Proofs.YtehdkopjgcoclaaW.PrintWords Go.Proofs.YtehdkopjgcoclaaW.PrintLast Go.Proofs.YtehdkopjgcoclaaW.PrintMore Go.Proofs.Ytehdkopjgcoclaa.Given Go.Proofs.Ytehdkopjgcoclaa.PRd Go.Proofs.Ytehdkopjgcoclaa.PRr Go.Proofs.Ytehdkopjgcoclaa.Oct Go.Proofs.Ytehdkopjgcoclaa.Name Go.Proofs.Ytehdkopjgcoclaa.Cmp Go.Proofs.Ytehdkopjgcoclaa.NameFacts Go.Proofs.Ytehdkopjgcoclaa.RdataFacts Go.Proofs.Ytehdkopjgcoclaa.SetLaw
set_option linter.unusedVariables false
def fine (x : RR) : Prop := rightB x.f0 = true ∧ x.f4.size ≤ 100000
theorem ev_cmp (x y : RR) (hx : fine x) (hy : fine y) : Ev (fun k => cmpO k x y) (cmpRR x y) := ⟨1000, fun k hk => cmpO_eq x y hx.1 hy.1 hx.2 hy.2 k hk⟩
end Go.Proofs.Ytehdkopjgcoclaa.Rrs
namespace Go.Proofs.Ytehdkopjgcoclaa.SetLaw
set_option linter.unusedVariables false
variable {α : Type} {c : α → α → Int}
theorem cls_comm (O : POrd c) (a b : List α) (h : ∀ x ∈ a, ∀ y ∈ b, ¬ c x y = 0) (z : α) : cls c (a ++ b) z = cls c (b ++ a) z := by
  rw [cls_append, cls_append]
  by_cases ha : ∃ x ∈ a, c z x = 0
  · obtain ⟨x, hx, h0⟩ := ha
    have : cls c b z = [] := cls_none fun y hy h1 => h x hx y hy (by rw [← O.cong z x y h0]; exact h1)
    rw [this]; simp
  · have : cls c a z = [] := cls_none fun y hy h1 => ha ⟨y, hy, h1⟩
    rw [this]; simp
theorem StableOf.refl_of {l : List α} (h : Sorted c l) : StableOf c l l := ⟨h, fun _ => rfl⟩
theorem StableOf.mem (O : POrd c) {l m : List α} (h : StableOf c l m) {y : α} (hy : y ∈ m) : y ∈ l := mem_of_cls O h.2 hy
theorem sorted_append {l m : List α} (hl : Sorted c l) (hm : Sorted c m) (h : ∀ x ∈ l, ∀ y ∈ m, c x y ≤ 0) : Sorted c (l ++ m) := List.pairwise_append.mpr ⟨hl, hm, h⟩
theorem sorted_left {l m : List α} (h : Sorted c (l ++ m)) : Sorted c l := (List.pairwise_append.mp h).1
theorem sorted_right {l m : List α} (h : Sorted c (l ++ m)) : Sorted c m := (List.pairwise_append.mp h).2.1
theorem sorted_between {l m : List α} (h : Sorted c (l ++ m)) : ∀ x ∈ l, ∀ y ∈ m, c x y ≤ 0 := (List.pairwise_append.mp h).2.2
theorem stable_insert (O : POrd c) {l1 l2 : List α} {x : α} (hs : Sorted c (l1 ++ l2)) (h1 : ∀ y ∈ l1, c y x ≤ 0) (h2 : ∀ y ∈ l2, c x y < 0) : StableOf c (l1 ++ l2 ++ [x]) (l1 ++ x :: l2) := by
  refine ⟨?_, fun z => ?_⟩
  · refine sorted_append (sorted_left hs) (List.pairwise_cons.mpr ⟨fun y hy => by have := h2 y hy; omega, sorted_right hs⟩) fun a ha b hb => ?_
    rcases List.mem_cons.mp hb with rfl | hb
    · exact h1 a ha
    · exact sorted_between hs a ha b hb
  · have e := cls_comm O [x] l2 (fun a ha b hb => by
      rw [List.mem_singleton] at ha
      subst ha
      have := h2 b hb
      omega) z
    rw [cls_append, show x :: l2 = [x] ++ l2 from rfl, e, List.append_assoc, cls_append c l1]
theorem stable_front (O : POrd c) {r1 r2 : List α} {x : α} (hs : Sorted c (r1 ++ r2)) (h1 : ∀ y ∈ r1, c y x < 0) (h2 : ∀ y ∈ r2, 0 ≤ c y x) : StableOf c ([x] ++ (r1 ++ r2)) (r1 ++ x :: r2) := by
  refine ⟨?_, fun z => ?_⟩
  · refine sorted_append (sorted_left hs) (List.pairwise_cons.mpr ⟨fun y hy => by have := h2 y hy; have := O.flip y x; omega, sorted_right hs⟩) fun a ha b hb => ?_
    rcases List.mem_cons.mp hb with rfl | hb
    · have := h1 a ha; omega
    · exact sorted_between hs a ha b hb
  · have e := cls_comm O r1 [x] (fun a ha b hb => by
      rw [List.mem_singleton] at hb
      subst hb
      have := h1 a ha
      omega) z
    rw [show r1 ++ x :: r2 = r1 ++ [x] ++ r2 by simp, cls_append, e, ← cls_append, List.append_assoc]
theorem stable_halves (O : POrd c) {l1 l2 r1 r2 m1 m2 : List α} (hl : Sorted c (l1 ++ l2)) (hr : Sorted c (r1 ++ r2)) (h1 : ∀ x ∈ l1, ∀ y ∈ r2, c x y ≤ 0) (h2 : ∀ y ∈ r1, ∀ x ∈ l2, c y x < 0)
    (s1 : StableOf c (l1 ++ r1) m1) (s2 : StableOf c (l2 ++ r2) m2) : StableOf c ((l1 ++ l2) ++ (r1 ++ r2)) (m1 ++ m2) := by
  refine ⟨sorted_append s1.1 s2.1 fun x hx y hy => ?_, fun z => ?_⟩
  · have hx' := s1.mem O hx
    have hy' := s2.mem O hy
    rcases List.mem_append.mp hx' with hx' | hx' <;> rcases List.mem_append.mp hy' with hy' | hy'
    · exact sorted_between hl x hx' y hy'
    · exact h1 x hx' y hy'
    · have := h2 x hx' y hy'; omega
    · exact sorted_between hr x hx' y hy'
  · have e := cls_comm O r1 l2 (fun a ha b hb => by have := h2 a ha b hb; omega) z
    rw [cls_append, s1.2, s2.2, ← cls_append, show l1 ++ r1 ++ (l2 ++ r2) = l1 ++ (r1 ++ l2) ++ r2 by simp, cls_append, cls_append c l1, e, ← cls_append, ← cls_append]
    simp
def Blocks (c : α → α → Int) (s : Nat) (l : List α) : Prop := ∀ k, Sorted c ((l.drop (k * s)).take s)
theorem blocks_nil (s : Nat) : Blocks c s [] := fun k => by simp [Sorted]
theorem blocks_snoc {s t : Nat} {p q : List α} (hp : Blocks c s p) (ht : p.length = t * s) (hq : Sorted c q) (hs : q.length ≤ s) : Blocks c s (p ++ q) := by
  intro k
  rw [List.drop_append]
  by_cases h : k < t
  · have h1 : (k + 1) * s ≤ t * s := Nat.mul_le_mul_right s h
    rw [Nat.add_mul, Nat.one_mul] at h1
    rw [Nat.sub_eq_zero_of_le (show k * s ≤ p.length by omega), List.drop_zero, List.take_append_of_le_length (by rw [List.length_drop]; omega)]
    exact hp k
  · have h1 : t * s ≤ k * s := Nat.mul_le_mul_right s (by omega)
    rw [List.drop_of_length_le (by omega), List.nil_append]
    exact (hq.sublist (List.drop_sublist _ _)).sublist (List.take_sublist _ _)
theorem blocks_all {s : Nat} {l : List α} (h : Blocks c s l) (hs : l.length ≤ s) : Sorted c l := by
  have := h 0
  rw [Nat.zero_mul, List.drop_zero, List.take_of_length_le hs] at this
  exact this
theorem set_at (p s : List α) (x y : α) : (p ++ x :: s).set p.length y = p ++ y :: s := by
  rw [List.set_append_right _ _ (Nat.le_refl _), Nat.sub_self, List.set_cons_zero]
theorem sw_adj (p s : List α) (x y : α) (i : Nat) (hi : i = p.length) : ((p ++ x :: y :: s).set (i + 1) x).set i y = p ++ y :: x :: s := by
  subst hi
  rw [show p ++ x :: y :: s = (p ++ [x]) ++ y :: s by simp, show p.length + 1 = (p ++ [x]).length by simp, set_at, show p ++ [x] ++ x :: s = p ++ x :: (x :: s) by simp, set_at]
theorem sw_adj2 (p s : List α) (x y : α) (i : Nat) (hi : i = p.length) : ((p ++ x :: y :: s).set i y).set (i + 1) x = p ++ y :: x :: s := by
  subst hi
  rw [set_at, show p ++ y :: y :: s = (p ++ [y]) ++ y :: s by simp, show p.length + 1 = (p ++ [y]).length by simp, set_at]
  simp
def sw (l : List α) (i j : Nat) : List α := match l[i]?, l[j]? with
  | some x, some y => (l.set i y).set j x
  | _, _ => l
theorem sw_length (l : List α) (i j : Nat) : (sw l i j).length = l.length := by unfold sw; split <;> simp
theorem sw_get (l : List α) (i j : Nat) (hi : i < l.length) (hj : j < l.length) (t : Nat) : (sw l i j)[t]? = if t = j then l[i]? else if t = i then l[j]? else l[t]? := by
  unfold sw
  rw [List.getElem?_eq_getElem hi, List.getElem?_eq_getElem hj]
  simp only [List.getElem?_set, List.length_set]
  by_cases h1 : t = j
  · subst h1
    simp [hj]
  · rw [if_neg (fun e => h1 e.symm), if_neg h1]
    by_cases h2 : t = i
    · subst h2
      simp [hi]
    · rw [if_neg (fun e => h2 e.symm), if_neg h2]
def swR (l : List α) (a b : Nat) : Nat → List α
  | 0 => l
  | n + 1 => sw (swR l a b n) (a + n) (b + n)
theorem swR_length (l : List α) (a b n : Nat) : (swR l a b n).length = l.length := by
  induction n with
  | zero => rfl
  | succ n ih => rw [swR, sw_length, ih]
theorem swR_get (l : List α) (a b : Nat) : ∀ n, a + n ≤ b → b + n ≤ l.length → ∀ t, (swR l a b n)[t]? = if a ≤ t ∧ t < a + n then l[t + (b - a)]? else if b ≤ t ∧ t < b + n then l[t - (b - a)]? else l[t]? := by
  intro n
  induction n with
  | zero =>
    intro h1 h2 t
    rw [swR, if_neg (by omega), if_neg (by omega)]
  | succ n ih =>
    intro h1 h2 t
    have ih' := ih (by omega) (by omega)
    rw [swR, sw_get _ _ _ (by rw [swR_length]; omega) (by rw [swR_length]; omega), ih', ih', ih']
    by_cases e1 : t = b + n
    · subst e1
      rw [if_pos rfl, if_neg (by omega), if_neg (by omega), if_neg (by omega), if_pos (by omega)]
      congr 1; omega
    · rw [if_neg e1]
      by_cases e2 : t = a + n
      · subst e2
        rw [if_pos rfl, if_neg (by omega), if_neg (by omega), if_pos (by omega)]
        congr 1; omega
      · rw [if_neg e2]
        by_cases e3 : a ≤ t ∧ t < a + n
        · rw [if_pos e3, if_pos (by omega)]
        · rw [if_neg e3, if_neg (show ¬ (a ≤ t ∧ t < a + (n + 1)) by omega)]
          by_cases e4 : b ≤ t ∧ t < b + n
          · rw [if_pos e4, if_pos (by omega)]
          · rw [if_neg e4, if_neg (by omega)]
def Rot (l l' : List α) (m i j : Nat) : Prop := l'.length = l.length ∧ ∀ t, l'[t]? = if m - i ≤ t ∧ t < m - i + j then l[t + i]? else if m - i + j ≤ t ∧ t < m + j then l[t - j]? else l[t]?
theorem rot_same (l : List α) (m i : Nat) (hi : i ≤ m) (hm : m + i ≤ l.length) : Rot l (swR l (m - i) m i) m i i := by
  refine ⟨swR_length _ _ _ _, fun t => ?_⟩
  rw [swR_get l (m - i) m i (by omega) (by omega)]
  have e : m - (m - i) = i := by omega
  rw [e]
  by_cases h1 : m - i ≤ t ∧ t < m - i + i
  · rw [if_pos h1, if_pos h1]
  · rw [if_neg h1, if_neg h1]
    by_cases h2 : m ≤ t ∧ t < m + i
    · rw [if_pos h2, if_pos (by omega)]
    · rw [if_neg h2, if_neg (by omega)]
theorem rot_left {l l' : List α} {m i j : Nat} (hj : j < i) (hi : i ≤ m) (hm : m + j ≤ l.length) (h : Rot (swR l (m - i) m j) l' m (i - j) j) : Rot l l' m i j := by
  refine ⟨h.1.trans (swR_length _ _ _ _), fun t => ?_⟩
  have g := swR_get l (m - i) m j (by omega) (by omega)
  rw [h.2 t]
  simp only [g]
  repeat' split
  all_goals first | rfl | (exfalso; omega) | (refine congrArg (fun k => l[k]?) ?_; omega)
theorem rot_right {l l' : List α} {m i j : Nat} (hj : i < j) (hi : i ≤ m) (hm : m + j ≤ l.length) (h : Rot (swR l (m - i) (m + j - i) i) l' m i (j - i)) : Rot l l' m i j := by
  refine ⟨h.1.trans (swR_length _ _ _ _), fun t => ?_⟩
  have g := swR_get l (m - i) (m + j - i) i (by omega) (by omega)
  rw [h.2 t]
  simp only [g]
  repeat' split
  all_goals first | rfl | (exfalso; omega) | (refine congrArg (fun k => l[k]?) ?_; omega)
theorem rot_lists {p u v s l' : List α} (h : Rot (p ++ (u ++ (v ++ s))) l' (p.length + u.length) u.length v.length) : l' = p ++ (v ++ (u ++ s)) := by
  refine List.ext_getElem? fun t => ?_
  rw [h.2 t]
  have e : p.length + u.length - u.length = p.length := by omega
  rw [e]
  by_cases h1 : p.length ≤ t ∧ t < p.length + v.length
  · rw [if_pos h1]
    rw [List.getElem?_append_right (by omega), List.getElem?_append_right (by omega), List.getElem?_append_left (by omega), List.getElem?_append_right (by omega), List.getElem?_append_left (by omega)]
    congr 1; omega
  · rw [if_neg h1]
    by_cases h2 : p.length + v.length ≤ t ∧ t < p.length + u.length + v.length
    · rw [if_pos h2]
      rw [List.getElem?_append_right (by omega), List.getElem?_append_left (by omega), List.getElem?_append_right (by omega), List.getElem?_append_right (by omega), List.getElem?_append_left (by omega)]
      congr 1; omega
    · rw [if_neg h2]
      by_cases h3 : t < p.length
      · rw [List.getElem?_append_left h3, List.getElem?_append_left h3]
      · rw [List.getElem?_append_right (by omega), List.getElem?_append_right (by omega), List.getElem?_append_right (by omega), List.getElem?_append_right (by omega), List.getElem?_append_right (by omega), List.getElem?_append_right (by omega)]
        congr 1; omega
end Go.Proofs.Ytehdkopjgcoclaa.SetLaw
namespace Go.Proofs.Ytehdkopjgcoclaa.PSo
open Go.RowKit Go.Proofs.YtehdkopjgcoclaaW.PrintWords Go.Proofs.YtehdkopjgcoclaaW.PrintLast Go.Proofs.YtehdkopjgcoclaaW.PrintMore Go.Proofs.Ytehdkopjgcoclaa.Given Go.Proofs.Ytehdkopjgcoclaa.PRd Go.Proofs.Ytehdkopjgcoclaa.PRr
attribute [local go_sem] max2_int min2_int max_two min_two max_three min_three max_four min_four   -- for this text's walks alone
set_option linter.unusedVariables false
set_option linter.unusedSimpArgs false
def errW : Option Int → Value
 | none => .nilIface
 | some c => .iface 0 (.int .i64 c)
theorem errW_none : errW none = .nilIface := rfl
theorem errW_some (c : Int) : errW (some c) = .iface 0 (.int .i64 c) := rfl
end Go.Proofs.Ytehdkopjgcoclaa.PSo
namespace Go.Proofs.Ytehdkopjgcoclaa.PSo
open Go.RowKit Go.Proofs.YtehdkopjgcoclaaW.PrintWords Go.Proofs.YtehdkopjgcoclaaW.PrintLast Go.Proofs.YtehdkopjgcoclaaW.PrintMore Go.Proofs.Ytehdkopjgcoclaa.Given Go.Proofs.Ytehdkopjgcoclaa.PRd Go.Proofs.Ytehdkopjgcoclaa.PRr
attribute [local go_sem] max2_int min2_int max_two min_two max_three min_three max_four min_four   -- for this text's walks alone
set_option linter.unusedVariables false
set_option linter.unusedSimpArgs false
def api_RR_42.l0 : Nat → List (S33) → Int → Int → Option ((List (S33)))
 | 0, _, _, _ => none
 | k + 1, x0, x2, x3 => if x2 < x3 then (if 0 ≤ x3 then (if x3 < (x0.length : Int) then (if 0 ≤ x2 then (if x2 < (x0.length : Int) then (api_RR_42.l0 k ((x0.set (x2 : Int).toNat (⟨(rd_T33 x0 x3).f0, (rd_T33 x0 x3).f1, (rd_T33 x0 x3).f2, (rd_T33 x0 x3).f3, (rd_T33 x0 x3).f4⟩ : S33)).set (x3 : Int).toNat (⟨(rd_T33 x0 x2).f0, (rd_T33 x0 x2).f1, (rd_T33 x0 x2).f2, (rd_T33 x0 x2).f3, (rd_T33 x0 x2).f4⟩ : S33)) (wrap64 (x2 + 1)) (wrap64 (x3 - 1))) else (none)) else (none)) else (none)) else (none)) else (some x0)
def api_RR_42.f (k : Nat) (l0 : List (S33)) : Option ((List (S33))) := api_RR_42.l0 k l0 0 (wrap64 ((l0.length : Int) - 1))
def api_RR_42.T3 : Bool × List (List Nat × List Nat) := (true, [([], []), ([], []), ([], []), ([], []), ([], []), ([], []), ([4, 5], [4, 5]), ([6], [6]), ([], []), ([], []), ([8, 9], [8, 9]), ([10], [10]), ([0, 1, 0, 1, 4, 5, 6, 7, 11], [0, 1]), ([12, 7, 0, 1, 4, 5, 6, 7, 11], [7, 12]), ([2, 3, 0, 1, 2, 3, 4, 5, 6, 7, 8, 9, 10, 11, 12, 13], [2, 3]), ([14, 11, 13, 0, 1, 2, 3, 4, 5, 6, 7, 8, 9, 10, 11, 12, 13], [11, 14])])
def api_RR_42.B3 : List Nat := [0, 0, 0, 0, 0, 0, 48, 112, 0, 0, 768, 1792, 4083, 8179, 16383, 32767]
theorem api_RR_42.tab3 : rtab .any (opsOf Try.f42 3) = api_RR_42.T3 := by kernel_rfl
theorem api_RR_42.bits3 : waitsOk api_RR_42.T3.2 api_RR_42.B3 = true := by kernel_rfl
set_option maxHeartbeats 8000000 in
set_option maxRecDepth 100000 in
theorem api_RR_42.calls (k : Nat) (P0_ : Nat → Prop) (u9000_ : Value) (l0 : List (S33)) (r : List (S33)) (w0 w : World) (hB : Below w0.heap.size w0 w) (ho0 : Kd.R k33 33 w w0.heap.size P0_ u9000_ l0) (h : api_RR_42.f k l0 = some r) :
  Calls Try.prog 42 #[u9000_] w fun e w' => e = .returned (.tuple #[]) ∧ Kd.R k33 33 w' w0.heap.size (fun k_ => (P0_ k_ ∨ w.heap.size ≤ k_)) u9000_ r ∧ Below w0.heap.size w0 w' ∧ Kept w w' (fun k_ => P0_ k_) := by
 have hu33 := Try.underlying33
 have HO0 := Aside0.mk (show Kd.R k33 33 w w0.heap.size (fun k_ => (P0_ k_ ∨ w.heap.size ≤ k_)) u9000_ l0 from Kd.R_mono ho0 (fun k_ hk => (.inl hk)))
 have HK := Aside0.mk (Kept.refl w (fun k_ => P0_ k_))
 have HW0 := Aside0.mk hB.size
 have HB := Aside0.mk hB
 clear hB
 have H : (api_RR_42.l0 k l0 0 (wrap64 ((l0.length : Int) - 1))) = some r := h
 clear h
 have H' := Aside0.mk H
 clear H
 obtain ⟨Ao2, co2, eo2⟩ := Kd.R_slice HO0.out
 subst eo2
 go_enter Try.func42, Try.ntmps42
 go_wp2
 go_loopg [2, 3] k (fun kq v2 v3 w' => ∃ (x0_1 : List (S33)) (x2_1 : Int) (x3_1 : Int), v2 = .int .i64 x2_1 ∧ v3 = .int .i64 x3_1 ∧ Aside0 (api_RR_42.l0 kq x0_1 x2_1 x3_1 = some r) ∧ Aside0 (kq ≤ k) ∧ Aside0 (Kd.R k33 33 w' w0.heap.size (fun k_ => (P0_ k_ ∨ w.heap.size ≤ k_)) (.slice Ao2 l0.length co2) x0_1) ∧ Aside0 (Kept w w' (fun k_ => P0_ k_)) ∧ Aside0 (Below w0.heap.size w0 w'))
 case atStart => exact ⟨(l0), (0), (wrap64 ((l0.length : Int) - 1)), (by rfl), (by rfl), H', ⟨Nat.le_refl _⟩, ⟨by (with_reducible repeat ((apply Kd.R_alloc))); exact HO0.out⟩, ⟨by repeat ((with_reducible (exact HK.out)))⟩, ⟨by repeat ((with_reducible (exact HB.out)))⟩⟩
 case round =>
  clear H'
  obtain ⟨x0_1, x2_1, x3_1, rfl, rfl, HA, HK1, HO_0, HK, HB⟩ := hrel
  have hl0_1 := (Kd.R_reads' HO_0.out).1
  rw [hl0_1] at HO_0
  (try simp only [hl0_1])
  cases gk with
  | zero => exact absurd HA.out (by simp [api_RR_42.l0])
  | succ k1 =>
   have H := HA.out
   clear HA
   simp only [api_RR_42.l0] at H
   by_cases c3 : x2_1 < x3_1
   ·rw [if_pos c3] at H
    have c3b0 : decide (x2_1 < x3_1) = true := decide_eq_true c3
    clear c3
    by_cases c4 : 0 ≤ x3_1
    ·rw [if_pos c4] at H
     have c4b0 : decide (0 ≤ x3_1) = true := decide_eq_true c4
     clear c4
     by_cases c5 : x3_1 < (x0_1.length : Int)
     ·rw [if_pos c5] at H
      have c5b0 : decide (x3_1 < (x0_1.length : Int)) = true := decide_eq_true c5
      clear c5
      by_cases c6 : 0 ≤ x2_1
      ·rw [if_pos c6] at H
       have c6b0 : decide (0 ≤ x2_1) = true := decide_eq_true c6
       clear c6
       by_cases c7 : x2_1 < (x0_1.length : Int)
       ·rw [if_pos c7] at H
        have c7b0 : decide (x2_1 < (x0_1.length : Int)) = true := decide_eq_true c7
        clear c7
        obtain ⟨y103, hy103⟩ : ∃ y_ : List (S33), y_ = (x0_1.set (x2_1 : Int).toNat (⟨(rd_T33 x0_1 x3_1).f0, (rd_T33 x0_1 x3_1).f1, (rd_T33 x0_1 x3_1).f2, (rd_T33 x0_1 x3_1).f3, (rd_T33 x0_1 x3_1).f4⟩ : S33)) := ⟨_, rfl⟩
        replace H : (api_RR_42.l0 k1 (y103.set (x3_1 : Int).toNat (⟨(rd_T33 x0_1 x2_1).f0, (rd_T33 x0_1 x2_1).f1, (rd_T33 x0_1 x2_1).f2, (rd_T33 x0_1 x2_1).f3, (rd_T33 x0_1 x2_1).f4⟩ : S33)) (wrap64 (x2_1 + 1)) (wrap64 (x3_1 - 1))) = some r := by (rw [hy103]; with_reducible exact H)
        have Ny103 := Aside0.mk hy103
        clear hy103
        obtain ⟨y104, hy104⟩ : ∃ y_ : List (S33), y_ = (y103.set (x3_1 : Int).toNat (⟨(rd_T33 x0_1 x2_1).f0, (rd_T33 x0_1 x2_1).f1, (rd_T33 x0_1 x2_1).f2, (rd_T33 x0_1 x2_1).f3, (rd_T33 x0_1 x2_1).f4⟩ : S33)) := ⟨_, rfl⟩
        replace H : (api_RR_42.l0 k1 y104 (wrap64 (x2_1 + 1)) (wrap64 (x3_1 - 1))) = some r := by (rw [hy104]; with_reducible exact H)
        have Ny104 := Aside0.mk hy104
        clear hy104
        have H' := Aside0.mk H
        clear H
        (try go_wp2)
        have n0_ := Aside0.mk (Kd.R_drew HO_0.out)
        have n1_ := Aside0.mk (Kept.drew HK.out)
        have n2_ := Aside0.mk (below_drew1 HB.out)
        clear HO_0
        clear HK
        clear HB
        have HO_0 := n0_
        have HK := n1_
        have HB := n2_
        clear n0_ n1_ n2_
        have p101 : 0 ≤ (x3_1 : Int) := of_decide_eq_true (by (with_reducible assumption))
        have q101 : x3_1 < (x0_1.length : Int) := of_decide_eq_true (by (with_reducible assumption))
        obtain ⟨ad101, e101, hx101_0, hx101_1, hx101_2, hx101_3, hx101_4⟩ := at_T33 (Kd.R_reads' HO_0.out).2.2 x3_1 p101 q101
        cases e101
        replace p101 := eq_true p101
        replace q101 := eq_true q101
        have p102 : 0 ≤ (x2_1 : Int) := of_decide_eq_true (by (with_reducible assumption))
        have q102 : x2_1 < (x0_1.length : Int) := of_decide_eq_true (by (with_reducible assumption))
        obtain ⟨ad102, e102, hx102_0, hx102_1, hx102_2, hx102_3, hx102_4⟩ := at_T33 (Kd.R_reads' HO_0.out).2.2 x2_1 p102 q102
        obtain rfl : ad101 = ad102 := (by injection e102)
        replace p102 := eq_true p102
        replace q102 := eq_true q102
        have p8 : 0 ≤ (x2_1 : Int) := of_decide_eq_true (by (with_reducible assumption))
        have q8 : (x2_1 : Int) < ((x0_1.length : Int) : Int) := of_decide_eq_true (by (with_reducible assumption))
        obtain ⟨go8, co8, eo8, gb8, gl8, cl8, HG8⟩ := Kd.R_form HO_0.out (by omega)
        ((cases eo8))
        have GB8 := Aside0.mk gb8
        have GG8 := Aside0.mk HG8
        clear gb8 gl8 HG8
        have HMgo8 := Aside0.mk (show (P0_ go8 ∨ w.heap.size ≤ go8) from (HO_0.out.1 _ rfl))
        ((simp only [add_plain] at hx101_0))
        ((simp only [add_plain] at hx101_1))
        ((simp only [add_plain] at hx101_2))
        ((simp only [add_plain] at hx101_3))
        ((simp only [add_plain] at hx101_4))
        ((simp only [add_plain] at hx102_0))
        ((simp only [add_plain] at hx102_1))
        ((simp only [add_plain] at hx102_2))
        ((simp only [add_plain] at hx102_3))
        ((simp only [add_plain] at hx102_4))
        obtain ⟨ce8, hcl8, hM8, hcc8, hfr8⟩ := Kd.R_elem HO_0.out z33 (x2_1 : Int) p8 q8
        obtain rfl := k33_openM hM8
        have hx8_0 : World.cell? _ ⟨go8, (x2_1 : Int).toNat * 5, none⟩ = some (.string ((rd_T33 x0_1 x2_1).f0)) := hcc8 0 _ rfl
        have hx8_1 : World.cell? _ ⟨go8, (x2_1 : Int).toNat * 5 + 1, none⟩ = some (.int .i64 ((rd_T33 x0_1 x2_1).f1)) := hcc8 1 _ rfl
        have hx8_2 : World.cell? _ ⟨go8, (x2_1 : Int).toNat * 5 + 2, none⟩ = some (.int .i64 ((rd_T33 x0_1 x2_1).f2)) := hcc8 2 _ rfl
        have hx8_3 : World.cell? _ ⟨go8, (x2_1 : Int).toNat * 5 + 3, none⟩ = some (.int .i64 ((rd_T33 x0_1 x2_1).f3)) := hcc8 3 _ rfl
        have hx8_4 : World.cell? _ ⟨go8, (x2_1 : Int).toNat * 5 + 4, none⟩ = some (.string ((rd_T33 x0_1 x2_1).f4)) := hcc8 4 _ rfl
        have hf8_0 : World.frozen? _ ⟨go8, (x2_1 : Int).toNat * 5, none⟩ = false := hfr8 0
        have hf8_1 : World.frozen? _ ⟨go8, (x2_1 : Int).toNat * 5 + 1, none⟩ = false := hfr8 1
        have hf8_2 : World.frozen? _ ⟨go8, (x2_1 : Int).toNat * 5 + 2, none⟩ = false := hfr8 2
        have hf8_3 : World.frozen? _ ⟨go8, (x2_1 : Int).toNat * 5 + 3, none⟩ = false := hfr8 3
        have hf8_4 : World.frozen? _ ⟨go8, (x2_1 : Int).toNat * 5 + 4, none⟩ = false := hfr8 4
        clear hcl8 hcc8 hfr8 hM8
        replace p8 := eq_true p8
        replace q8 := eq_true q8
        obtain ⟨ce11, hcl11, hM11, hcc11, hfr11⟩ := Kd.R_elem HO_0.out z33 (x2_1 : Int) (of_decide_eq_true (by (with_reducible assumption))) (by have h_ : (x2_1 : Int) < ((x0_1.length : Int) : Int) := of_decide_eq_true (by (with_reducible assumption)); (exact h_))
        obtain rfl := k33_openM hM11
        have HP11 := (Kd.R_seg HO_0.out (x2_1 : Int) (of_decide_eq_true (by (with_reducible assumption))) (by have h_ : (x2_1 : Int) < ((x0_1.length : Int) : Int) := of_decide_eq_true (by (with_reducible assumption)); (exact h_)) (seg := [.string ((rd_T33 x0_1 x3_1).f0), .int .i64 ((rd_T33 x0_1 x3_1).f1), .int .i64 ((rd_T33 x0_1 x3_1).f2), .int .i64 ((rd_T33 x0_1 x3_1).f3), .string ((rd_T33 x0_1 x3_1).f4)]) (j := 0) hcl11 hcc11 (show 5 ≤ 5 from by decide) (x' := (⟨(rd_T33 x0_1 x3_1).f0, (rd_T33 x0_1 x3_1).f1, (rd_T33 x0_1 x3_1).f2, (rd_T33 x0_1 x3_1).f3, (rd_T33 x0_1 x3_1).f4⟩ : S33)) (k33_mkM _ _ _ (⟨(rd_T33 x0_1 x3_1).f0, (rd_T33 x0_1 x3_1).f1, (rd_T33 x0_1 x3_1).f2, (rd_T33 x0_1 x3_1).f3, (rd_T33 x0_1 x3_1).f4⟩ : S33) ) (fun _ hk => hk)).1
        rw [← Ny103.out] at HP11
        have HQ11 := Aside0.mk HP11
        clear hcl11 hcc11 hfr11 hM11 HP11
        have p9 : 0 ≤ (x3_1 : Int) := of_decide_eq_true (by (with_reducible assumption))
        have q9 : (x3_1 : Int) < ((x0_1.length : Int) : Int) := of_decide_eq_true (by (with_reducible assumption))
        obtain ⟨ce9, hcl9, hM9, hcc9, hfr9⟩ := Kd.R_elem HQ11.out z33 (x3_1 : Int) p9 q9
        obtain rfl := k33_openM hM9
        have hx9_0 : World.cell? _ ⟨go8, (x3_1 : Int).toNat * 5, none⟩ = some (.string ((rd_T33 y103 x3_1).f0)) := hcc9 0 _ rfl
        have hx9_1 : World.cell? _ ⟨go8, (x3_1 : Int).toNat * 5 + 1, none⟩ = some (.int .i64 ((rd_T33 y103 x3_1).f1)) := hcc9 1 _ rfl
        have hx9_2 : World.cell? _ ⟨go8, (x3_1 : Int).toNat * 5 + 2, none⟩ = some (.int .i64 ((rd_T33 y103 x3_1).f2)) := hcc9 2 _ rfl
        have hx9_3 : World.cell? _ ⟨go8, (x3_1 : Int).toNat * 5 + 3, none⟩ = some (.int .i64 ((rd_T33 y103 x3_1).f3)) := hcc9 3 _ rfl
        have hx9_4 : World.cell? _ ⟨go8, (x3_1 : Int).toNat * 5 + 4, none⟩ = some (.string ((rd_T33 y103 x3_1).f4)) := hcc9 4 _ rfl
        have hf9_0 : World.frozen? _ ⟨go8, (x3_1 : Int).toNat * 5, none⟩ = false := hfr9 0
        have hf9_1 : World.frozen? _ ⟨go8, (x3_1 : Int).toNat * 5 + 1, none⟩ = false := hfr9 1
        have hf9_2 : World.frozen? _ ⟨go8, (x3_1 : Int).toNat * 5 + 2, none⟩ = false := hfr9 2
        have hf9_3 : World.frozen? _ ⟨go8, (x3_1 : Int).toNat * 5 + 3, none⟩ = false := hfr9 3
        have hf9_4 : World.frozen? _ ⟨go8, (x3_1 : Int).toNat * 5 + 4, none⟩ = false := hfr9 4
        clear hcl9 hcc9 hfr9 hM9
        replace p9 := eq_true p9
        replace q9 := eq_true q9
        obtain ⟨ce12, hcl12, hM12, hcc12, hfr12⟩ := Kd.R_elem HQ11.out z33 (x3_1 : Int) (of_decide_eq_true (by (with_reducible assumption))) (by have h_ : (x3_1 : Int) < ((x0_1.length : Int) : Int) := of_decide_eq_true (by (with_reducible assumption)); (exact h_))
        obtain rfl := k33_openM hM12
        have HP12 := (Kd.R_seg HQ11.out (x3_1 : Int) (of_decide_eq_true (by (with_reducible assumption))) (by have h_ : (x3_1 : Int) < ((x0_1.length : Int) : Int) := of_decide_eq_true (by (with_reducible assumption)); (exact h_)) (seg := [.string ((rd_T33 x0_1 x2_1).f0), .int .i64 ((rd_T33 x0_1 x2_1).f1), .int .i64 ((rd_T33 x0_1 x2_1).f2), .int .i64 ((rd_T33 x0_1 x2_1).f3), .string ((rd_T33 x0_1 x2_1).f4)]) (j := 0) hcl12 hcc12 (show 5 ≤ 5 from by decide) (x' := (⟨(rd_T33 x0_1 x2_1).f0, (rd_T33 x0_1 x2_1).f1, (rd_T33 x0_1 x2_1).f2, (rd_T33 x0_1 x2_1).f3, (rd_T33 x0_1 x2_1).f4⟩ : S33)) (k33_mkM _ _ _ (⟨(rd_T33 x0_1 x2_1).f0, (rd_T33 x0_1 x2_1).f1, (rd_T33 x0_1 x2_1).f2, (rd_T33 x0_1 x2_1).f3, (rd_T33 x0_1 x2_1).f4⟩ : S33) ) (fun _ hk => hk)).1
        rw [← Ny104.out] at HP12
        have HQ12 := Aside0.mk HP12
        clear hcl12 hcc12 hfr12 hM12 HP12
        refine start_ (n := 16) (S := fun w' => w'.cell? ⟨go8, ((x3_1).toNat * 5), none⟩ = some (.string ((rd_T33 x0_1 x3_1).f0)) ∧ w'.cell? ⟨go8, ((x3_1).toNat * 5) + 1, none⟩ = some (.int .i64 ((rd_T33 x0_1 x3_1).f1)) ∧ w'.cell? ⟨go8, ((x3_1).toNat * 5) + 2, none⟩ = some (.int .i64 ((rd_T33 x0_1 x3_1).f2)) ∧ w'.cell? ⟨go8, ((x3_1).toNat * 5) + 3, none⟩ = some (.int .i64 ((rd_T33 x0_1 x3_1).f3)) ∧ w'.cell? ⟨go8, ((x3_1).toNat * 5) + 4, none⟩ = some (.string ((rd_T33 x0_1 x3_1).f4)) ∧ w'.cell? ⟨go8, ((x2_1).toNat * 5), none⟩ = some (.string ((rd_T33 x0_1 x2_1).f0)) ∧ w'.cell? ⟨go8, ((x2_1).toNat * 5) + 1, none⟩ = some (.int .i64 ((rd_T33 x0_1 x2_1).f1)) ∧ w'.cell? ⟨go8, ((x2_1).toNat * 5) + 2, none⟩ = some (.int .i64 ((rd_T33 x0_1 x2_1).f2)) ∧ w'.cell? ⟨go8, ((x2_1).toNat * 5) + 3, none⟩ = some (.int .i64 ((rd_T33 x0_1 x2_1).f3)) ∧ w'.cell? ⟨go8, ((x2_1).toNat * 5) + 4, none⟩ = some (.string ((rd_T33 x0_1 x2_1).f4))) (ds := [13, 15]) #[false, false, false, false, false, false, false, false, false, false, false, false, false, false, false, false] (by kernel_rfl) rfl rfl ⟨hx101_0, hx101_1, hx101_2, hx101_3, hx101_4, hx102_0, hx102_1, hx102_2, hx102_3, hx102_4⟩ (fun hHeld => ?_); refine with_tabW api_RR_42.tab3 api_RR_42.bits3 (fun HT_ HW_ => ?_)
        generalize wr.drew = w10 at HO_0 HK HB GG8 HQ11 HQ12 hf8_0 hf8_1 hf8_2 hf8_3 hf8_4 hf9_0 hf9_1 hf9_2 hf9_3 hf9_4 hx101_0 hx101_1 hx101_2 hx101_3 hx101_4 hx102_0 hx102_1 hx102_2 hx102_3 hx102_4 hx8_0 hx8_1 hx8_2 hx8_3 hx8_4 hx9_0 hx9_1 hx9_2 hx9_3 hx9_4 hHeld ⊢
        (try simp [go_sem, World.setCells, (show k33.sz = 5 from rfl)] at hf9_0 hf9_1 hf9_2 hf9_3 hf9_4 hx9_0 hx9_1 hx9_2 hx9_3 hx9_4)
        refine pure_ (i := 0) (N := some 14) (v := ?_) (a' := ?_) #[true, false, false, false, false, false, false, false, false, false, false, false, false, false, false, false] rfl rfl (any_of HT_.out (by kernel_rfl)) (fun _ _ _ h => h) (Or.inl ⟨by rfl, ?_⟩) ?_ ?_
        rotate_left
        ·intro w'
         go_simp
         with_reducible rfl
        rotate_left
        ·simp only [Act.put, List.setIfInBounds_toArray, List.set_cons_zero, List.set_cons_succ, i64_w, i32_w]
         rfl
        refine pure_ (i := 1) (N := some 15) (v := ?_) (a' := ?_) #[true, true, false, false, false, false, false, false, false, false, false, false, false, false, false, false] rfl rfl (any_of HT_.out (by kernel_rfl)) (fun _ _ _ h => h) (Or.inl ⟨by rfl, ?_⟩) ?_ ?_
        rotate_left
        ·intro w'
         go_simp
         with_reducible rfl
        rotate_left
        ·simp only [Act.put, List.setIfInBounds_toArray, List.set_cons_zero, List.set_cons_succ, i64_w, i32_w]
         rfl
        refine pure_ (i := 2) (N := some 16) (v := ?_) (a' := ?_) #[true, true, true, false, false, false, false, false, false, false, false, false, false, false, false, false] rfl rfl (any_of HT_.out (by kernel_rfl)) (fun _ _ _ h => h) (Or.inl ⟨by rfl, ?_⟩) ?_ ?_
        rotate_left
        ·intro w'
         go_simp
         with_reducible rfl
        rotate_left
        ·simp only [Act.put, List.setIfInBounds_toArray, List.set_cons_zero, List.set_cons_succ, i64_w, i32_w]
         rfl
        refine pure_ (i := 3) (N := some 17) (v := ?_) (a' := ?_) #[true, true, true, true, false, false, false, false, false, false, false, false, false, false, false, false] rfl rfl (any_of HT_.out (by kernel_rfl)) (fun _ _ _ h => h) (Or.inl ⟨by rfl, ?_⟩) ?_ ?_
        rotate_left
        ·intro w'
         go_simp
         with_reducible rfl
        rotate_left
        ·simp only [Act.put, List.setIfInBounds_toArray, List.set_cons_zero, List.set_cons_succ, i64_w, i32_w]
         rfl
        refine pure_ (i := 4) (N := some 18) (v := ?_) (a' := ?_) #[true, true, true, true, true, false, false, false, false, false, false, false, false, false, false, false] rfl rfl (any_of HT_.out (by kernel_rfl)) (fun _ _ _ h => h) (Or.inl ⟨by rfl, ?_⟩) ?_ ?_
        rotate_left
        ·intro w'
         go_simp
         with_reducible rfl
        rotate_left
        ·simp only [Act.put, List.setIfInBounds_toArray, List.set_cons_zero, List.set_cons_succ, i64_w, i32_w]
         rfl
        refine pure_ (i := 5) (N := some 19) (v := ?_) (a' := ?_) #[true, true, true, true, true, true, false, false, false, false, false, false, false, false, false, false] rfl rfl (any_of HT_.out (by kernel_rfl)) (fun _ _ _ h => h) (Or.inl ⟨by rfl, ?_⟩) ?_ ?_
        rotate_left
        ·intro w'
         go_simp
         with_reducible rfl
        rotate_left
        ·simp only [Act.put, List.setIfInBounds_toArray, List.set_cons_zero, List.set_cons_succ, i64_w, i32_w]
         rfl
        refine pure_ (i := 6) (N := some 20) (v := ?_) (a' := ?_) #[true, true, true, true, true, true, true, false, false, false, false, false, false, false, false, false] rfl rfl (any_of HT_.out (by kernel_rfl)) (fun _ _ _ h => h) (Or.inl ⟨by rfl, ?_⟩) ?_ ?_
        rotate_left
        ·intro w'
         go_simp
         with_reducible rfl
        rotate_left
        ·simp only [Act.put, List.setIfInBounds_toArray, List.set_cons_zero, List.set_cons_succ, i64_w, i32_w]
         rfl
        refine pure_ (i := 8) (N := some 22) (v := ?_) (a' := ?_) #[true, true, true, true, true, true, true, false, true, false, false, false, false, false, false, false] rfl rfl (any_of HT_.out (by kernel_rfl)) (fun _ _ _ h => h) (Or.inl ⟨by rfl, ?_⟩) ?_ ?_
        rotate_left
        ·intro w'
         go_simp
         with_reducible rfl
        rotate_left
        ·simp only [Act.put, List.setIfInBounds_toArray, List.set_cons_zero, List.set_cons_succ, i64_w, i32_w]
         rfl
        refine pure_ (i := 9) (N := some 23) (v := ?_) (a' := ?_) #[true, true, true, true, true, true, true, false, true, true, false, false, false, false, false, false] rfl rfl (any_of HT_.out (by kernel_rfl)) (fun _ _ _ h => h) (Or.inl ⟨by rfl, ?_⟩) ?_ ?_
        rotate_left
        ·intro w'
         go_simp
         with_reducible rfl
        rotate_left
        ·simp only [Act.put, List.setIfInBounds_toArray, List.set_cons_zero, List.set_cons_succ, i64_w, i32_w]
         rfl
        refine pure_ (i := 10) (N := some 24) (v := ?_) (a' := ?_) #[true, true, true, true, true, true, true, false, true, true, true, false, false, false, false, false] rfl rfl (any_of HT_.out (by kernel_rfl)) (fun _ _ _ h => h) (Or.inl ⟨by rfl, ?_⟩) ?_ ?_
        rotate_left
        ·intro w'
         go_simp
         with_reducible rfl
        rotate_left
        ·simp only [Act.put, List.setIfInBounds_toArray, List.set_cons_zero, List.set_cons_succ, i64_w, i32_w]
         rfl
        refine take_ (i := 7) (N := some 21) (v := ?_) (a' := ?_) #[true, true, true, true, true, true, true, true, true, true, true, false, false, false, false, false] rfl rfl (take_ofW HT_.out HW_.out (by kernel_rfl)) (fun _ _ _ h => h) (Or.inl ⟨by rfl, ?_⟩) hHeld ?_ ?_
        rotate_left
        ·rintro w' ⟨s0, s1, s2, s3, s4, s5, s6, s7, s8, s9⟩
         go_simp
         with_reducible rfl
        rotate_left
        ·simp only [Act.put, List.setIfInBounds_toArray, List.set_cons_zero, List.set_cons_succ, i64_w, i32_w]
         rfl
        refine take_ (i := 11) (N := some 25) (v := ?_) (a' := ?_) #[true, true, true, true, true, true, true, true, true, true, true, true, false, false, false, false] rfl rfl (take_ofW HT_.out HW_.out (by kernel_rfl)) (fun _ _ _ h => h) (Or.inl ⟨by rfl, ?_⟩) hHeld ?_ ?_
        rotate_left
        ·rintro w' ⟨s0, s1, s2, s3, s4, s5, s6, s7, s8, s9⟩
         go_simp
         with_reducible rfl
        rotate_left
        ·simp only [Act.put, List.setIfInBounds_toArray, List.set_cons_zero, List.set_cons_succ, i64_w, i32_w]
         rfl
        refine pure_ (i := 12) (N := some 26) (v := ?_) (a' := ?_) #[true, true, true, true, true, true, true, true, true, true, true, true, true, false, false, false] rfl rfl (any_of HT_.out (by kernel_rfl)) (fun _ _ _ h => h) (Or.inl ⟨by rfl, ?_⟩) ?_ ?_
        rotate_left
        ·intro w'
         go_simp
         with_reducible rfl
        rotate_left
        ·simp only [Act.put, List.setIfInBounds_toArray, List.set_cons_zero, List.set_cons_succ, i64_w, i32_w]
         rfl
        refine last_ (i := 13) (N := none) #[true, true, true, true, true, true, true, true, true, true, true, true, true, true, false, false] rfl rfl (one_of HT_.out (by kernel_rfl)) (by decide) (fun K hK => ?_)
        refine skip_ (w1 := ?_) (by rfl) rfl ?_ ?_
        rotate_left
        ·go_simp
         rfl
        refine hK.out _ _ ?_
        clear hK K
        refine pure_ (i := 14) (N := some 27) (v := ?_) (a' := ?_) #[true, true, true, true, true, true, true, true, true, true, true, true, true, true, true, false] rfl rfl (any_of HT_.out (by kernel_rfl)) (fun _ _ _ h => h) (Or.inl ⟨by rfl, ?_⟩) ?_ ?_
        rotate_left
        ·intro w'
         go_simp
         with_reducible rfl
        rotate_left
        ·simp only [Act.put, List.setIfInBounds_toArray, List.set_cons_zero, List.set_cons_succ, i64_w, i32_w]
         rfl
        refine last_ (i := 15) (N := none) #[true, true, true, true, true, true, true, true, true, true, true, true, true, true, true, true] rfl rfl (one_of HT_.out (by kernel_rfl)) (by decide) (fun K hK => ?_)
        refine skip_ (w1 := ?_) (by rfl) rfl ?_ ?_
        rotate_left
        ·go_simp
         rfl
        refine hK.out _ _ ?_
        clear hK K
        refine done_ (done_of HT_.out (by kernel_rfl)) ?_
        (try go_wp2)
        (try simp only [← hl0_1])
        go_roundg k1
        case measure => have := HK1.out; omega
        case rel => exact ⟨(y104), (wrap64 (x2_1 + 1)), (wrap64 (x3_1 - 1)), (by rfl), (by rfl), H', ⟨by have := HK1.out; omega⟩, ⟨by (try simp only [hl0_1]); (with_reducible repeat ((apply Kd.R_alloc))); exact HQ12.out⟩, ⟨by repeat ((with_reducible first | exact HK.out | refine Kept.setCell ?_ HMgo8.out _))⟩, ⟨by repeat ((with_reducible first | exact HB.out | refine below_set ?_ GB8.out))⟩⟩
       ·rw [if_neg c7] at H
        exact absurd H (by simp)
      ·rw [if_neg c6] at H
       exact absurd H (by simp)
     ·rw [if_neg c5] at H
      exact absurd H (by simp)
    ·rw [if_neg c4] at H
     exact absurd H (by simp)
   ·rw [if_neg c3] at H
    have c3b0 : decide (x2_1 < x3_1) = false := decide_eq_false c3
    clear c3
    obtain rfl := Option.some.inj H
    go_wp2
    go_end0
    exact ⟨by rfl, (by (exact (by (with_reducible repeat ((apply Kd.R_alloc))); exact HO_0.out))), by repeat ((with_reducible (exact HB.out))), by repeat ((with_reducible (exact HK.out)))⟩
end Go.Proofs.Ytehdkopjgcoclaa.PSo
namespace Go.Proofs.Ytehdkopjgcoclaa.PSo
open Go.RowKit Go.Proofs.YtehdkopjgcoclaaW.PrintWords Go.Proofs.YtehdkopjgcoclaaW.PrintLast Go.Proofs.YtehdkopjgcoclaaW.PrintMore Go.Proofs.Ytehdkopjgcoclaa.Given Go.Proofs.Ytehdkopjgcoclaa.PRd Go.Proofs.Ytehdkopjgcoclaa.PRr
attribute [local go_sem] max2_int min2_int max_two min_two max_three min_three max_four min_four   -- for this text's walks alone
set_option linter.unusedVariables false
set_option linter.unusedSimpArgs false
mutual
def api_RR_78.l0 : Nat → List (S33) → Int → Int → Int → Option ((List (S33)))
 | 0, _, _, _, _ => none
 | k + 1, x0, x1, x2, x8 => if x8 < x2 then (api_RR_78.l1 k x0 x1 x2 x8 x8) else (some x0)
def api_RR_78.l1 : Nat → List (S33) → Int → Int → Int → Int → Option ((List (S33)))
 | 0, _, _, _, _, _ => none
 | k + 1, x0, x1, x2, x8, x9 => if x9 > x1 then (if 0 ≤ x9 then (if x9 < (x0.length : Int) then (if 0 ≤ (wrap64 (x9 - 1)) then (if (wrap64 (x9 - 1)) < (x0.length : Int) then ((record_Compare.f k ((rd_T33 x0 x9).f0) ((rd_T33 x0 x9).f1) ((rd_T33 x0 x9).f2) ((rd_T33 x0 x9).f3) ((rd_T33 x0 x9).f4) ((rd_T33 x0 (wrap64 (x9 - 1))).f0) ((rd_T33 x0 (wrap64 (x9 - 1))).f1) ((rd_T33 x0 (wrap64 (x9 - 1))).f2) ((rd_T33 x0 (wrap64 (x9 - 1))).f3) ((rd_T33 x0 (wrap64 (x9 - 1))).f4)).bind fun t107 => (if t107 < 0 then (api_RR_78.l1 k ((x0.set (x9 : Int).toNat (⟨(rd_T33 x0 (wrap64 (x9 - 1))).f0, (rd_T33 x0 (wrap64 (x9 - 1))).f1, (rd_T33 x0 (wrap64 (x9 - 1))).f2, (rd_T33 x0 (wrap64 (x9 - 1))).f3, (rd_T33 x0 (wrap64 (x9 - 1))).f4⟩ : S33)).set ((wrap64 (x9 - 1)) : Int).toNat (⟨(rd_T33 x0 x9).f0, (rd_T33 x0 x9).f1, (rd_T33 x0 x9).f2, (rd_T33 x0 x9).f3, (rd_T33 x0 x9).f4⟩ : S33)) x1 x2 x8 (wrap64 (x9 - 1))) else (api_RR_78.l0 k x0 x1 x2 (wrap64 (x8 + 1))))) else (none)) else (none)) else (none)) else (none)) else (api_RR_78.l0 k x0 x1 x2 (wrap64 (x8 + 1)))
end
def api_RR_78.f (k : Nat) (l0 : List (S33)) (a1 : Int) (a2 : Int) (a3 : Int) : Option ((List (S33))) := api_RR_78.l0 k l0 a1 a2 (wrap64 (a1 + 1))
def api_RR_78.T4 : Bool × List (List Nat × List Nat) := (true, [([], []), ([], []), ([0, 1], [0, 1]), ([2], [2]), ([3], [3]), ([3], [3]), ([3], [3]), ([5, 6, 3], [3, 5, 6]), ([7, 3], [3, 7]), ([3], [3]), ([3], [3]), ([10, 3], [3, 10]), ([9, 11, 3], [3, 9, 11]), ([12, 3], [3, 12]), ([4, 8, 13, 3, 3], [3, 4, 8, 13]), ([14, 3], [3, 14]), ([3, 15], [3, 15])])
def api_RR_78.B4 : List Nat := [0, 0, 3, 7, 15, 15, 15, 111, 239, 15, 15, 1039, 3599, 7695, 16383, 32767, 65535]
theorem api_RR_78.tab4 : rtab .any (opsOf Try.f78 4) = api_RR_78.T4 := by kernel_rfl
theorem api_RR_78.bits4 : waitsOk api_RR_78.T4.2 api_RR_78.B4 = true := by kernel_rfl
def api_RR_78.T6 : Bool × List (List Nat × List Nat) := (true, [([], []), ([], []), ([], []), ([], []), ([3], [3]), ([], []), ([], []), ([6], [6]), ([5, 7], [5, 7]), ([8], [8]), ([], []), ([], []), ([10, 11], [10, 11]), ([12], [12]), ([0, 1, 0, 1, 5, 6, 7, 8, 9, 13], [0, 1]), ([14, 9, 0, 1, 5, 6, 7, 8, 9, 13], [9, 14]), ([2, 4, 0, 1, 2, 3, 4, 5, 6, 7, 8, 9, 10, 11, 12, 13, 14, 15], [2, 4]), ([16, 13, 15, 0, 1, 2, 3, 4, 5, 6, 7, 8, 9, 10, 11, 12, 13, 14, 15], [13, 16])])
def api_RR_78.B6 : List Nat := [0, 0, 0, 0, 8, 0, 0, 64, 224, 480, 0, 0, 3072, 7168, 16355, 32739, 65535, 131071]
theorem api_RR_78.tab6 : rtab .any (opsOf Try.f78 6) = api_RR_78.T6 := by kernel_rfl
theorem api_RR_78.bits6 : waitsOk api_RR_78.T6.2 api_RR_78.B6 = true := by kernel_rfl
set_option maxHeartbeats 8000000 in
set_option maxRecDepth 100000 in
theorem api_RR_78.calls (k : Nat) (P0_ : Nat → Prop) (u9000_ : Value) (l0 : List (S33)) (a1 : Int) (a2 : Int) (a3 : Int) (r : List (S33)) (w0 w : World) (hB : Below w0.heap.size w0 w) (ho0 : Kd.R k33 33 w w0.heap.size P0_ u9000_ l0) (h : api_RR_78.f k l0 a1 a2 a3 = some r) :
  Calls Try.prog 78 #[u9000_, .int .i64 a1, .int .i64 a2, .func (.func 44) #[] #[]] w fun e w' => e = .returned (.tuple #[]) ∧ Kd.R k33 33 w' w0.heap.size (fun k_ => (P0_ k_ ∨ w.heap.size ≤ k_)) u9000_ r ∧ Below w0.heap.size w0 w' ∧ Kept w w' (fun k_ => P0_ k_) := by
 have hu33 := Try.underlying33
 have HO0 := Aside0.mk (show Kd.R k33 33 w w0.heap.size (fun k_ => (P0_ k_ ∨ w.heap.size ≤ k_)) u9000_ l0 from Kd.R_mono ho0 (fun k_ hk => (.inl hk)))
 have HK := Aside0.mk (Kept.refl w (fun k_ => P0_ k_))
 have HW0 := Aside0.mk hB.size
 have HB := Aside0.mk hB
 clear hB
 have H : (api_RR_78.l0 k l0 a1 a2 (wrap64 (a1 + 1))) = some r := h
 clear h
 have H' := Aside0.mk H
 clear H
 go_enter Try.func78, Try.ntmps78
 go_wp2
 go_loopg [8] k (fun kq v8 w' => ∃ (x0_1 : List (S33)) (x8_1 : Int), v8 = .int .i64 x8_1 ∧ Aside0 (api_RR_78.l0 kq x0_1 a1 a2 x8_1 = some r) ∧ Aside0 (kq ≤ k) ∧ Aside0 (Kd.R k33 33 w' w0.heap.size (fun k_ => (P0_ k_ ∨ w.heap.size ≤ k_)) u9000_ x0_1) ∧ Aside0 (Kept w w' (fun k_ => P0_ k_)) ∧ Aside0 (Below w0.heap.size w0 w'))
 case atStart => exact ⟨(l0), (wrap64 (a1 + 1)), (by rfl), H', ⟨Nat.le_refl _⟩, ⟨by (with_reducible repeat ((apply Kd.R_alloc))); exact HO0.out⟩, ⟨by repeat ((with_reducible (exact HK.out)))⟩, ⟨by repeat ((with_reducible (exact HB.out)))⟩⟩
 case round =>
  clear H'
  obtain ⟨x0_1, x8_1, rfl, HA, HK1, HO_0, HK, HB⟩ := hrel
  cases gk with
  | zero => exact absurd HA.out (by simp [api_RR_78.l0])
  | succ k1 =>
   have H := HA.out
   clear HA
   simp only [api_RR_78.l0] at H
   by_cases c5 : x8_1 < a2
   ·rw [if_pos c5] at H
    have c5b0 : decide (x8_1 < a2) = true := decide_eq_true c5
    clear c5
    have H' := Aside0.mk H
    clear H
    go_wp2
    go_loopg [9] k1 (fun kq v9 w' => ∃ (x0_2 : List (S33)) (x9_2 : Int), v9 = .int .i64 x9_2 ∧ Aside0 (api_RR_78.l1 kq x0_2 a1 a2 x8_1 x9_2 = some r) ∧ Aside0 (kq ≤ k1) ∧ Aside0 (Kd.R k33 33 w' w0.heap.size (fun k_ => (P0_ k_ ∨ w.heap.size ≤ k_)) u9000_ x0_2) ∧ Aside0 (Kept w w' (fun k_ => P0_ k_)) ∧ Aside0 (Below w0.heap.size w0 w'))
    case atStart => exact ⟨(x0_1), (x8_1), (by rfl), H', ⟨Nat.le_refl _⟩, ⟨by (with_reducible repeat ((apply Kd.R_alloc))); exact HO_0.out⟩, ⟨by repeat ((with_reducible (exact HK.out)))⟩, ⟨by repeat ((with_reducible (exact HB.out)))⟩⟩
    case round =>
     clear H'
     (try clear c5b0)
     obtain ⟨x0_2, x9_2, rfl, HA, HK2, HO_0, HK, HB⟩ := hrel
     cases gk with
     | zero => exact absurd HA.out (by simp [api_RR_78.l1])
     | succ k2 =>
      have H := HA.out
      clear HA
      simp only [api_RR_78.l1] at H
      by_cases c6 : x9_2 > a1
      ·rw [if_pos c6] at H
       have c6b0 : decide (a1 < x9_2) = true := decide_eq_true c6
       clear c6
       by_cases c7 : 0 ≤ x9_2
       ·rw [if_pos c7] at H
        have c7b0 : decide (0 ≤ x9_2) = true := decide_eq_true c7
        clear c7
        by_cases c8 : x9_2 < (x0_2.length : Int)
        ·rw [if_pos c8] at H
         have c8b0 : decide (x9_2 < (x0_2.length : Int)) = true := decide_eq_true c8
         clear c8
         obtain ⟨ji9, hji9⟩ : ∃ j_ : Int, (wrap64 (x9_2 - 1)) = j_ := ⟨_, rfl⟩
         replace H : (if 0 ≤ (ji9) then (if (ji9) < (x0_2.length : Int) then ((record_Compare.f k2 ((rd_T33 x0_2 x9_2).f0) ((rd_T33 x0_2 x9_2).f1) ((rd_T33 x0_2 x9_2).f2) ((rd_T33 x0_2 x9_2).f3) ((rd_T33 x0_2 x9_2).f4) ((rd_T33 x0_2 (ji9)).f0) ((rd_T33 x0_2 (ji9)).f1) ((rd_T33 x0_2 (ji9)).f2) ((rd_T33 x0_2 (ji9)).f3) ((rd_T33 x0_2 (ji9)).f4)).bind fun t107 => (if t107 < 0 then (api_RR_78.l1 k2 ((x0_2.set (x9_2 : Int).toNat (⟨(rd_T33 x0_2 (ji9)).f0, (rd_T33 x0_2 (ji9)).f1, (rd_T33 x0_2 (ji9)).f2, (rd_T33 x0_2 (ji9)).f3, (rd_T33 x0_2 (ji9)).f4⟩ : S33)).set ((ji9) : Int).toNat (⟨(rd_T33 x0_2 x9_2).f0, (rd_T33 x0_2 x9_2).f1, (rd_T33 x0_2 x9_2).f2, (rd_T33 x0_2 x9_2).f3, (rd_T33 x0_2 x9_2).f4⟩ : S33)) a1 a2 x8_1 ji9) else (api_RR_78.l0 k2 x0_2 a1 a2 (wrap64 (x8_1 + 1))))) else (none)) else (none)) = some r := by (rw [hji9] at H; exact H)
         have hji9w : (IntKind.i64.wrap (x9_2 - 1)) = ji9 := (i64_w _).trans hji9
         by_cases c10 : 0 ≤ (ji9)
         ·rw [if_pos c10] at H
          have c10b0 : decide (0 ≤ (ji9)) = true := decide_eq_true c10
          clear c10
          by_cases c11 : (ji9) < (x0_2.length : Int)
          ·rw [if_pos c11] at H
           have c11b0 : decide ((ji9) < (x0_2.length : Int)) = true := decide_eq_true c11
           clear c11
           replace H := Option.bind_eq_some_iff.mp H
           obtain ⟨t107, A120, H⟩ := H
           replace H : (if t107 < 0 then (api_RR_78.l1 k2 ((x0_2.set (x9_2 : Int).toNat (⟨(rd_T33 x0_2 (ji9)).f0, (rd_T33 x0_2 (ji9)).f1, (rd_T33 x0_2 (ji9)).f2, (rd_T33 x0_2 (ji9)).f3, (rd_T33 x0_2 (ji9)).f4⟩ : S33)).set ((ji9) : Int).toNat (⟨(rd_T33 x0_2 x9_2).f0, (rd_T33 x0_2 x9_2).f1, (rd_T33 x0_2 x9_2).f2, (rd_T33 x0_2 x9_2).f3, (rd_T33 x0_2 x9_2).f4⟩ : S33)) a1 a2 x8_1 ji9) else (api_RR_78.l0 k2 x0_2 a1 a2 (wrap64 (x8_1 + 1)))) = some r := H
           have A12 := Aside0.mk A120
           clear A120
           by_cases c13 : t107 < 0
           ·rw [if_pos c13] at H
            have c13b0 : decide (t107 < 0) = true := decide_eq_true c13
            clear c13
            obtain ⟨y110, hy110⟩ : ∃ y_ : List (S33), y_ = (x0_2.set (x9_2 : Int).toNat (⟨(rd_T33 x0_2 (ji9)).f0, (rd_T33 x0_2 (ji9)).f1, (rd_T33 x0_2 (ji9)).f2, (rd_T33 x0_2 (ji9)).f3, (rd_T33 x0_2 (ji9)).f4⟩ : S33)) := ⟨_, rfl⟩
            replace H : (api_RR_78.l1 k2 (y110.set ((ji9) : Int).toNat (⟨(rd_T33 x0_2 x9_2).f0, (rd_T33 x0_2 x9_2).f1, (rd_T33 x0_2 x9_2).f2, (rd_T33 x0_2 x9_2).f3, (rd_T33 x0_2 x9_2).f4⟩ : S33)) a1 a2 x8_1 ji9) = some r := by (rw [hy110]; with_reducible exact H)
            have Ny110 := Aside0.mk hy110
            clear hy110
            obtain ⟨y111, hy111⟩ : ∃ y_ : List (S33), y_ = (y110.set ((ji9) : Int).toNat (⟨(rd_T33 x0_2 x9_2).f0, (rd_T33 x0_2 x9_2).f1, (rd_T33 x0_2 x9_2).f2, (rd_T33 x0_2 x9_2).f3, (rd_T33 x0_2 x9_2).f4⟩ : S33)) := ⟨_, rfl⟩
            replace H : (api_RR_78.l1 k2 y111 a1 a2 x8_1 ji9) = some r := by (rw [hy111]; with_reducible exact H)
            have Ny111 := Aside0.mk hy111
            clear hy111
            have H' := Aside0.mk H
            clear H
            (try go_wp2)
            have n0_ := Aside0.mk (Kd.R_drew HO_0.out)
            have n1_ := Aside0.mk (Kept.drew HK.out)
            have n2_ := Aside0.mk (below_drew1 HB.out)
            clear HO_0
            clear HK
            clear HB
            have HO_0 := n0_
            have HK := n1_
            have HB := n2_
            clear n0_ n1_ n2_
            obtain ⟨Ao17, co17, eo17⟩ := Kd.R_slice HO_0.out
            ((subst eo17))
            have p105 : 0 ≤ (x9_2 : Int) := of_decide_eq_true (by (with_reducible assumption))
            have q105 : x9_2 < (x0_2.length : Int) := of_decide_eq_true (by (with_reducible assumption))
            obtain ⟨ad105, e105, hx105_0, hx105_1, hx105_2, hx105_3, hx105_4⟩ := at_T33 (Kd.R_reads' HO_0.out).2.2 x9_2 p105 q105
            cases e105
            replace p105 := eq_true p105
            replace q105 := eq_true q105
            have p106 : 0 ≤ ((ji9) : Int) := of_decide_eq_true (by (with_reducible assumption))
            have q106 : (ji9) < (x0_2.length : Int) := of_decide_eq_true (by (with_reducible assumption))
            obtain ⟨ad106, e106, hx106_0, hx106_1, hx106_2, hx106_3, hx106_4⟩ := at_T33 (Kd.R_reads' HO_0.out).2.2 (ji9) p106 q106
            obtain rfl : ad105 = ad106 := (by injection e106)
            replace p106 := eq_true p106
            replace q106 := eq_true q106
            refine start_ (n := 17) (S := fun w' => w'.cell? (ad105.add ((x9_2).toNat * 5)) = some (.string ((rd_T33 x0_2 x9_2).f0)) ∧ w'.cell? ⟨(ad105.add ((x9_2).toNat * 5)).block, (ad105.add ((x9_2).toNat * 5)).off + 1, none⟩ = some (.int .i64 ((rd_T33 x0_2 x9_2).f1)) ∧ w'.cell? ⟨(ad105.add ((x9_2).toNat * 5)).block, (ad105.add ((x9_2).toNat * 5)).off + 2, none⟩ = some (.int .i64 ((rd_T33 x0_2 x9_2).f2)) ∧ w'.cell? ⟨(ad105.add ((x9_2).toNat * 5)).block, (ad105.add ((x9_2).toNat * 5)).off + 3, none⟩ = some (.int .i64 ((rd_T33 x0_2 x9_2).f3)) ∧ w'.cell? ⟨(ad105.add ((x9_2).toNat * 5)).block, (ad105.add ((x9_2).toNat * 5)).off + 4, none⟩ = some (.string ((rd_T33 x0_2 x9_2).f4)) ∧ w'.cell? (ad105.add (((ji9)).toNat * 5)) = some (.string ((rd_T33 x0_2 (ji9)).f0)) ∧ w'.cell? ⟨(ad105.add (((ji9)).toNat * 5)).block, (ad105.add (((ji9)).toNat * 5)).off + 1, none⟩ = some (.int .i64 ((rd_T33 x0_2 (ji9)).f1)) ∧ w'.cell? ⟨(ad105.add (((ji9)).toNat * 5)).block, (ad105.add (((ji9)).toNat * 5)).off + 2, none⟩ = some (.int .i64 ((rd_T33 x0_2 (ji9)).f2)) ∧ w'.cell? ⟨(ad105.add (((ji9)).toNat * 5)).block, (ad105.add (((ji9)).toNat * 5)).off + 3, none⟩ = some (.int .i64 ((rd_T33 x0_2 (ji9)).f3)) ∧ w'.cell? ⟨(ad105.add (((ji9)).toNat * 5)).block, (ad105.add (((ji9)).toNat * 5)).off + 4, none⟩ = some (.string ((rd_T33 x0_2 (ji9)).f4))) (ds := []) #[false, false, false, false, false, false, false, false, false, false, false, false, false, false, false, false, false] (by kernel_rfl) rfl rfl ⟨hx105_0, hx105_1, hx105_2, hx105_3, hx105_4, hx106_0, hx106_1, hx106_2, hx106_3, hx106_4⟩ (fun hHeld => ?_); refine with_tabW api_RR_78.tab4 api_RR_78.bits4 (fun HT_ HW_ => ?_)
            generalize wr.drew = w16 at HO_0 HK HB hx105_0 hx105_1 hx105_2 hx105_3 hx105_4 hx106_0 hx106_1 hx106_2 hx106_3 hx106_4 hHeld ⊢
            refine pure_ (i := 0) (N := some 18) (v := ?_) (a' := ?_) #[true, false, false, false, false, false, false, false, false, false, false, false, false, false, false, false, false] rfl rfl (any_of HT_.out (by kernel_rfl)) (fun _ _ _ h => h) (Or.inl ⟨by rfl, ?_⟩) ?_ ?_
            rotate_left
            ·intro w'
             go_simp
             with_reducible rfl
            rotate_left
            ·simp only [Act.put, List.setIfInBounds_toArray, List.set_cons_zero, List.set_cons_succ, i64_w, i32_w]
             rfl
            refine pure_ (i := 1) (N := some 19) (v := ?_) (a' := ?_) #[true, true, false, false, false, false, false, false, false, false, false, false, false, false, false, false, false] rfl rfl (any_of HT_.out (by kernel_rfl)) (fun _ _ _ h => h) (Or.inl ⟨by rfl, ?_⟩) ?_ ?_
            rotate_left
            ·intro w'
             go_simp
             with_reducible rfl
            rotate_left
            ·simp only [Act.put, List.setIfInBounds_toArray, List.set_cons_zero, List.set_cons_succ, i64_w, i32_w]
             rfl
            refine pure_ (i := 2) (N := some 20) (v := ?_) (a' := ?_) #[true, true, true, false, false, false, false, false, false, false, false, false, false, false, false, false, false] rfl rfl (any_of HT_.out (by kernel_rfl)) (fun _ _ _ h => h) (Or.inl ⟨by rfl, ?_⟩) ?_ ?_
            rotate_left
            ·intro w'
             go_simp
             with_reducible rfl
            rotate_left
            ·simp only [Act.put, List.setIfInBounds_toArray, List.set_cons_zero, List.set_cons_succ, i64_w, i32_w]
             rfl
            refine pure_ (i := 3) (N := some 21) (v := ?_) (a' := ?_) #[true, true, true, true, false, false, false, false, false, false, false, false, false, false, false, false, false] rfl rfl (any_of HT_.out (by kernel_rfl)) (fun _ _ _ h => h) (Or.inl ⟨by rfl, ?_⟩) ?_ ?_
            rotate_left
            ·intro w'
             go_simp
             with_reducible rfl
            rotate_left
            ·simp only [Act.put, List.setIfInBounds_toArray, List.set_cons_zero, List.set_cons_succ, i64_w, i32_w]
             rfl
            refine pure_ (i := 4) (N := some 22) (v := ?_) (a' := ?_) #[true, true, true, true, true, false, false, false, false, false, false, false, false, false, false, false, false] rfl rfl (any_of HT_.out (by kernel_rfl)) (fun _ _ _ h => h) (Or.inl ⟨by rfl, ?_⟩) ?_ ?_
            rotate_left
            ·intro w'
             go_simp
             with_reducible rfl
            rotate_left
            ·simp only [Act.put, List.setIfInBounds_toArray, List.set_cons_zero, List.set_cons_succ, i64_w, i32_w]
             rfl
            refine pure_ (i := 5) (N := some 23) (v := ?_) (a' := ?_) #[true, true, true, true, true, true, false, false, false, false, false, false, false, false, false, false, false] rfl rfl (any_of HT_.out (by kernel_rfl)) (fun _ _ _ h => h) (Or.inl ⟨by rfl, ?_⟩) ?_ ?_
            rotate_left
            ·intro w'
             go_simp
             with_reducible rfl
            rotate_left
            ·simp only [Act.put, List.setIfInBounds_toArray, List.set_cons_zero, List.set_cons_succ, i64_w, i32_w]
             rfl
            refine pure_ (i := 6) (N := some 24) (v := ?_) (a' := ?_) #[true, true, true, true, true, true, true, false, false, false, false, false, false, false, false, false, false] rfl rfl (any_of HT_.out (by kernel_rfl)) (fun _ _ _ h => h) (Or.inl ⟨by rfl, ?_⟩) ?_ ?_
            rotate_left
            ·intro w'
             go_simp
             with_reducible rfl
            rotate_left
            ·simp only [Act.put, List.setIfInBounds_toArray, List.set_cons_zero, List.set_cons_succ, i64_w, i32_w]
             rfl
            refine pure_ (i := 7) (N := some 25) (v := ?_) (a' := ?_) #[true, true, true, true, true, true, true, true, false, false, false, false, false, false, false, false, false] rfl rfl (any_of HT_.out (by kernel_rfl)) (fun _ _ _ h => h) (Or.inl ⟨by rfl, ?_⟩) ?_ ?_
            rotate_left
            ·intro w'
             go_simp
             with_reducible rfl
            rotate_left
            ·simp only [Act.put, List.setIfInBounds_toArray, List.set_cons_zero, List.set_cons_succ, i64_w, i32_w]
             rfl
            refine pure_ (i := 9) (N := some 27) (v := ?_) (a' := ?_) #[true, true, true, true, true, true, true, true, false, true, false, false, false, false, false, false, false] rfl rfl (any_of HT_.out (by kernel_rfl)) (fun _ _ _ h => h) (Or.inl ⟨by rfl, ?_⟩) ?_ ?_
            rotate_left
            ·intro w'
             go_simp
             with_reducible rfl
            rotate_left
            ·simp only [Act.put, List.setIfInBounds_toArray, List.set_cons_zero, List.set_cons_succ, i64_w, i32_w]
             rfl
            refine pure_ (i := 10) (N := some 28) (v := ?_) (a' := ?_) #[true, true, true, true, true, true, true, true, false, true, true, false, false, false, false, false, false] rfl rfl (any_of HT_.out (by kernel_rfl)) (fun _ _ _ h => h) (Or.inl ⟨by rfl, ?_⟩) ?_ ?_
            rotate_left
            ·intro w'
             go_simp
             with_reducible rfl
            rotate_left
            ·simp only [Act.put, List.setIfInBounds_toArray, List.set_cons_zero, List.set_cons_succ, i64_w, i32_w]
             rfl
            refine pure_ (i := 11) (N := some 29) (v := ?_) (a' := ?_) #[true, true, true, true, true, true, true, true, false, true, true, true, false, false, false, false, false] rfl rfl (any_of HT_.out (by kernel_rfl)) (fun _ _ _ h => h) (Or.inl ⟨by rfl, ?_⟩) ?_ ?_
            rotate_left
            ·intro w'
             go_simp
             with_reducible rfl
            rotate_left
            ·simp only [Act.put, List.setIfInBounds_toArray, List.set_cons_zero, List.set_cons_succ, i64_w, i32_w]
             rfl
            refine pure_ (i := 12) (N := some 30) (v := ?_) (a' := ?_) #[true, true, true, true, true, true, true, true, false, true, true, true, true, false, false, false, false] rfl rfl (any_of HT_.out (by kernel_rfl)) (fun _ _ _ h => h) (Or.inl ⟨by rfl, ?_⟩) ?_ ?_
            rotate_left
            ·intro w'
             go_simp
             with_reducible rfl
            rotate_left
            ·simp only [Act.put, List.setIfInBounds_toArray, List.set_cons_zero, List.set_cons_succ, i64_w, i32_w]
             rfl
            refine take_ (i := 8) (N := some 26) (v := ?_) (a' := ?_) #[true, true, true, true, true, true, true, true, true, true, true, true, true, false, false, false, false] rfl rfl (take_ofW HT_.out HW_.out (by kernel_rfl)) (fun _ _ _ h => h) (Or.inl ⟨by rfl, ?_⟩) hHeld ?_ ?_
            rotate_left
            ·rintro w' ⟨s0, s1, s2, s3, s4, s5, s6, s7, s8, s9⟩
             go_simp
             with_reducible rfl
            rotate_left
            ·simp only [Act.put, List.setIfInBounds_toArray, List.set_cons_zero, List.set_cons_succ, i64_w, i32_w]
             rfl
            refine take_ (i := 13) (N := some 31) (v := ?_) (a' := ?_) #[true, true, true, true, true, true, true, true, true, true, true, true, true, true, false, false, false] rfl rfl (take_ofW HT_.out HW_.out (by kernel_rfl)) (fun _ _ _ h => h) (Or.inl ⟨by rfl, ?_⟩) hHeld ?_ ?_
            rotate_left
            ·rintro w' ⟨s0, s1, s2, s3, s4, s5, s6, s7, s8, s9⟩
             go_simp
             with_reducible rfl
            rotate_left
            ·simp only [Act.put, List.setIfInBounds_toArray, List.set_cons_zero, List.set_cons_succ, i64_w, i32_w]
             rfl
            refine one_ (i := 14) (N := some 32) #[true, true, true, true, true, true, true, true, true, true, true, true, true, true, true, false, false] rfl rfl (one_of HT_.out (by kernel_rfl)) (by decide) (fun K hK => ?_)
            refine goesT_ Try.func44 (by kernel_rfl) rfl #[.agg #[.string ((rd_T33 x0_2 x9_2).f0), .int .i64 ((rd_T33 x0_2 x9_2).f1), .int .i64 ((rd_T33 x0_2 x9_2).f2), .int .i64 ((rd_T33 x0_2 x9_2).f3), .string ((rd_T33 x0_2 x9_2).f4)], .agg #[.string ((rd_T33 x0_2 (ji9)).f0), .int .i64 ((rd_T33 x0_2 (ji9)).f1), .int .i64 ((rd_T33 x0_2 (ji9)).f2), .int .i64 ((rd_T33 x0_2 (ji9)).f3), .string ((rd_T33 x0_2 (ji9)).f4)]] (by rfl) rfl rfl rfl (by (try simp only [List.map_toArray, List.map_cons, List.map_nil]); rfl) ?_
            with_reducible refine (record_Compare.calls k2 ((rd_T33 x0_2 x9_2).f0) ((rd_T33 x0_2 x9_2).f1) ((rd_T33 x0_2 x9_2).f2) ((rd_T33 x0_2 x9_2).f3) ((rd_T33 x0_2 x9_2).f4) ((rd_T33 x0_2 (ji9)).f0) ((rd_T33 x0_2 (ji9)).f1) ((rd_T33 x0_2 (ji9)).f2) ((rd_T33 x0_2 (ji9)).f3) ((rd_T33 x0_2 (ji9)).f4) t107 _ A12.out).mono ?_
            rintro e w18 ⟨rfl, hb⟩
            have HS0_ := (hb.cell (World.block_lt_of_cell? _ _ (hHeld.1))).trans (hHeld.1)
            have HS1_ := (hb.cell (World.block_lt_of_cell? _ _ (hHeld.2.1))).trans (hHeld.2.1)
            have HS2_ := (hb.cell (World.block_lt_of_cell? _ _ (hHeld.2.2.1))).trans (hHeld.2.2.1)
            have HS3_ := (hb.cell (World.block_lt_of_cell? _ _ (hHeld.2.2.2.1))).trans (hHeld.2.2.2.1)
            have HS4_ := (hb.cell (World.block_lt_of_cell? _ _ (hHeld.2.2.2.2.1))).trans (hHeld.2.2.2.2.1)
            have HS5_ := (hb.cell (World.block_lt_of_cell? _ _ (hHeld.2.2.2.2.2.1))).trans (hHeld.2.2.2.2.2.1)
            have HS6_ := (hb.cell (World.block_lt_of_cell? _ _ (hHeld.2.2.2.2.2.2.1))).trans (hHeld.2.2.2.2.2.2.1)
            have HS7_ := (hb.cell (World.block_lt_of_cell? _ _ (hHeld.2.2.2.2.2.2.2.1))).trans (hHeld.2.2.2.2.2.2.2.1)
            have HS8_ := (hb.cell (World.block_lt_of_cell? _ _ (hHeld.2.2.2.2.2.2.2.2.1))).trans (hHeld.2.2.2.2.2.2.2.2.1)
            have HS9_ := (hb.cell (World.block_lt_of_cell? _ _ (hHeld.2.2.2.2.2.2.2.2.2))).trans (hHeld.2.2.2.2.2.2.2.2.2)
            refine ⟨_, rfl, ?_⟩
            have n0_ := Aside0.mk (Kd.R_below (by (with_reducible repeat ((apply Kd.R_alloc))); exact HO_0.out) hb)
            have n1_ := Aside0.mk (Kept.below (S := (fun k_ => P0_ k_)) (by repeat ((with_reducible (exact HK.out)))) hb)
            have n2_ := Aside0.mk (below_step (by repeat ((with_reducible (exact HB.out)))) hb)
            clear HO_0
            clear HK
            clear HB
            have HO_0 := n0_
            have HK := n1_
            have HB := n2_
            clear n0_ n1_ n2_
            (try clear hb)
            refine hK.out _ _ ⟨HS0_, HS1_, HS2_, HS3_, HS4_, HS5_, HS6_, HS7_, HS8_, HS9_⟩ (fun hHeld => ?_)
            clear hK K
            refine norm_ (a' := ?_) ?_ ?_
            rotate_left
            ·show Act.put _ (some 32) _ = _
             simp only [Act.put, List.setIfInBounds_toArray, List.set_cons_zero, List.set_cons_succ, i64_w, i32_w]
             rfl
            refine pure_ (i := 15) (N := some 33) (v := ?_) (a' := ?_) #[true, true, true, true, true, true, true, true, true, true, true, true, true, true, true, true, false] rfl rfl (any_of HT_.out (by kernel_rfl)) (fun _ _ _ h => h) (Or.inl ⟨by rfl, ?_⟩) ?_ ?_
            rotate_left
            ·intro w'
             go_simp
             with_reducible rfl
            rotate_left
            ·simp only [Act.put, List.setIfInBounds_toArray, List.set_cons_zero, List.set_cons_succ, i64_w, i32_w]
             rfl
            refine pure_ (i := 16) (N := some 34) (v := ?_) (a' := ?_) #[true, true, true, true, true, true, true, true, true, true, true, true, true, true, true, true, true] rfl rfl (any_of HT_.out (by kernel_rfl)) (fun _ _ _ h => h) (Or.inl ⟨by rfl, ?_⟩) ?_ ?_
            rotate_left
            ·intro w'
             go_simp
             with_reducible rfl
            rotate_left
            ·simp only [Act.put, List.setIfInBounds_toArray, List.set_cons_zero, List.set_cons_succ, i64_w, i32_w]
             rfl
            refine done_ (done_of HT_.out (by kernel_rfl)) ?_
            (try go_wp2)
            have n0_ := Aside0.mk (Kd.R_drew HO_0.out)
            have n1_ := Aside0.mk (Kept.drew HK.out)
            have n2_ := Aside0.mk (below_drew1 HB.out)
            clear HO_0
            clear HK
            clear HB
            have HO_0 := n0_
            have HK := n1_
            have HB := n2_
            clear n0_ n1_ n2_
            have p108 : 0 ≤ ((ji9) : Int) := of_decide_eq_true (by (with_reducible assumption))
            have q108 : (ji9) < (x0_2.length : Int) := of_decide_eq_true (by (with_reducible assumption))
            obtain ⟨ad108, e108, hx108_0, hx108_1, hx108_2, hx108_3, hx108_4⟩ := at_T33 (Kd.R_reads' HO_0.out).2.2 (ji9) p108 q108
            obtain rfl : ad105 = ad108 := (by injection e108)
            replace p108 := eq_true p108
            replace q108 := eq_true q108
            have p109 : 0 ≤ (x9_2 : Int) := of_decide_eq_true (by (with_reducible assumption))
            have q109 : x9_2 < (x0_2.length : Int) := of_decide_eq_true (by (with_reducible assumption))
            obtain ⟨ad109, e109, hx109_0, hx109_1, hx109_2, hx109_3, hx109_4⟩ := at_T33 (Kd.R_reads' HO_0.out).2.2 x9_2 p109 q109
            obtain rfl : ad105 = ad109 := (by injection e109)
            replace p109 := eq_true p109
            replace q109 := eq_true q109
            have p14 : 0 ≤ (x9_2 : Int) := of_decide_eq_true (by (with_reducible assumption))
            have q14 : (x9_2 : Int) < ((x0_2.length : Int) : Int) := of_decide_eq_true (by (with_reducible assumption))
            obtain ⟨go14, co14, eo14, gb14, gl14, cl14, HG14⟩ := Kd.R_form HO_0.out (by omega)
            ((cases eo14))
            have GB14 := Aside0.mk gb14
            have GG14 := Aside0.mk HG14
            clear gb14 gl14 HG14
            have HMgo14 := Aside0.mk (show (P0_ go14 ∨ w.heap.size ≤ go14) from (HO_0.out.1 _ rfl))
            ((simp only [add_plain] at hx105_0))
            ((simp only [add_plain] at hx105_1))
            ((simp only [add_plain] at hx105_2))
            ((simp only [add_plain] at hx105_3))
            ((simp only [add_plain] at hx105_4))
            ((simp only [add_plain] at hx106_0))
            ((simp only [add_plain] at hx106_1))
            ((simp only [add_plain] at hx106_2))
            ((simp only [add_plain] at hx106_3))
            ((simp only [add_plain] at hx106_4))
            ((simp only [add_plain] at hx108_0))
            ((simp only [add_plain] at hx108_1))
            ((simp only [add_plain] at hx108_2))
            ((simp only [add_plain] at hx108_3))
            ((simp only [add_plain] at hx108_4))
            ((simp only [add_plain] at hx109_0))
            ((simp only [add_plain] at hx109_1))
            ((simp only [add_plain] at hx109_2))
            ((simp only [add_plain] at hx109_3))
            ((simp only [add_plain] at hx109_4))
            obtain ⟨ce14, hcl14, hM14, hcc14, hfr14⟩ := Kd.R_elem HO_0.out z33 (x9_2 : Int) p14 q14
            obtain rfl := k33_openM hM14
            have hx14_0 : World.cell? _ ⟨go14, (x9_2 : Int).toNat * 5, none⟩ = some (.string ((rd_T33 x0_2 x9_2).f0)) := hcc14 0 _ rfl
            have hx14_1 : World.cell? _ ⟨go14, (x9_2 : Int).toNat * 5 + 1, none⟩ = some (.int .i64 ((rd_T33 x0_2 x9_2).f1)) := hcc14 1 _ rfl
            have hx14_2 : World.cell? _ ⟨go14, (x9_2 : Int).toNat * 5 + 2, none⟩ = some (.int .i64 ((rd_T33 x0_2 x9_2).f2)) := hcc14 2 _ rfl
            have hx14_3 : World.cell? _ ⟨go14, (x9_2 : Int).toNat * 5 + 3, none⟩ = some (.int .i64 ((rd_T33 x0_2 x9_2).f3)) := hcc14 3 _ rfl
            have hx14_4 : World.cell? _ ⟨go14, (x9_2 : Int).toNat * 5 + 4, none⟩ = some (.string ((rd_T33 x0_2 x9_2).f4)) := hcc14 4 _ rfl
            have hf14_0 : World.frozen? _ ⟨go14, (x9_2 : Int).toNat * 5, none⟩ = false := hfr14 0
            have hf14_1 : World.frozen? _ ⟨go14, (x9_2 : Int).toNat * 5 + 1, none⟩ = false := hfr14 1
            have hf14_2 : World.frozen? _ ⟨go14, (x9_2 : Int).toNat * 5 + 2, none⟩ = false := hfr14 2
            have hf14_3 : World.frozen? _ ⟨go14, (x9_2 : Int).toNat * 5 + 3, none⟩ = false := hfr14 3
            have hf14_4 : World.frozen? _ ⟨go14, (x9_2 : Int).toNat * 5 + 4, none⟩ = false := hfr14 4
            clear hcl14 hcc14 hfr14 hM14
            replace p14 := eq_true p14
            replace q14 := eq_true q14
            obtain ⟨ce20, hcl20, hM20, hcc20, hfr20⟩ := Kd.R_elem HO_0.out z33 (x9_2 : Int) (of_decide_eq_true (by (with_reducible assumption))) (by have h_ : (x9_2 : Int) < ((x0_2.length : Int) : Int) := of_decide_eq_true (by (with_reducible assumption)); (exact h_))
            obtain rfl := k33_openM hM20
            have HP20 := (Kd.R_seg HO_0.out (x9_2 : Int) (of_decide_eq_true (by (with_reducible assumption))) (by have h_ : (x9_2 : Int) < ((x0_2.length : Int) : Int) := of_decide_eq_true (by (with_reducible assumption)); (exact h_)) (seg := [.string ((rd_T33 x0_2 (ji9)).f0), .int .i64 ((rd_T33 x0_2 (ji9)).f1), .int .i64 ((rd_T33 x0_2 (ji9)).f2), .int .i64 ((rd_T33 x0_2 (ji9)).f3), .string ((rd_T33 x0_2 (ji9)).f4)]) (j := 0) hcl20 hcc20 (show 5 ≤ 5 from by decide) (x' := (⟨(rd_T33 x0_2 (ji9)).f0, (rd_T33 x0_2 (ji9)).f1, (rd_T33 x0_2 (ji9)).f2, (rd_T33 x0_2 (ji9)).f3, (rd_T33 x0_2 (ji9)).f4⟩ : S33)) (k33_mkM _ _ _ (⟨(rd_T33 x0_2 (ji9)).f0, (rd_T33 x0_2 (ji9)).f1, (rd_T33 x0_2 (ji9)).f2, (rd_T33 x0_2 (ji9)).f3, (rd_T33 x0_2 (ji9)).f4⟩ : S33) ) (fun _ hk => hk)).1
            rw [← Ny110.out] at HP20
            have HQ20 := Aside0.mk HP20
            clear hcl20 hcc20 hfr20 hM20 HP20
            have p15 : 0 ≤ ((ji9) : Int) := of_decide_eq_true (by (with_reducible assumption))
            have q15 : ((ji9) : Int) < ((x0_2.length : Int) : Int) := of_decide_eq_true (by (with_reducible assumption))
            obtain ⟨ce15, hcl15, hM15, hcc15, hfr15⟩ := Kd.R_elem HQ20.out z33 ((ji9) : Int) p15 q15
            obtain rfl := k33_openM hM15
            have hx15_0 : World.cell? _ ⟨go14, ((ji9) : Int).toNat * 5, none⟩ = some (.string ((rd_T33 y110 (ji9)).f0)) := hcc15 0 _ rfl
            have hx15_1 : World.cell? _ ⟨go14, ((ji9) : Int).toNat * 5 + 1, none⟩ = some (.int .i64 ((rd_T33 y110 (ji9)).f1)) := hcc15 1 _ rfl
            have hx15_2 : World.cell? _ ⟨go14, ((ji9) : Int).toNat * 5 + 2, none⟩ = some (.int .i64 ((rd_T33 y110 (ji9)).f2)) := hcc15 2 _ rfl
            have hx15_3 : World.cell? _ ⟨go14, ((ji9) : Int).toNat * 5 + 3, none⟩ = some (.int .i64 ((rd_T33 y110 (ji9)).f3)) := hcc15 3 _ rfl
            have hx15_4 : World.cell? _ ⟨go14, ((ji9) : Int).toNat * 5 + 4, none⟩ = some (.string ((rd_T33 y110 (ji9)).f4)) := hcc15 4 _ rfl
            have hf15_0 : World.frozen? _ ⟨go14, ((ji9) : Int).toNat * 5, none⟩ = false := hfr15 0
            have hf15_1 : World.frozen? _ ⟨go14, ((ji9) : Int).toNat * 5 + 1, none⟩ = false := hfr15 1
            have hf15_2 : World.frozen? _ ⟨go14, ((ji9) : Int).toNat * 5 + 2, none⟩ = false := hfr15 2
            have hf15_3 : World.frozen? _ ⟨go14, ((ji9) : Int).toNat * 5 + 3, none⟩ = false := hfr15 3
            have hf15_4 : World.frozen? _ ⟨go14, ((ji9) : Int).toNat * 5 + 4, none⟩ = false := hfr15 4
            clear hcl15 hcc15 hfr15 hM15
            replace p15 := eq_true p15
            replace q15 := eq_true q15
            obtain ⟨ce21, hcl21, hM21, hcc21, hfr21⟩ := Kd.R_elem HQ20.out z33 ((ji9) : Int) (of_decide_eq_true (by (with_reducible assumption))) (by have h_ : ((ji9) : Int) < ((x0_2.length : Int) : Int) := of_decide_eq_true (by (with_reducible assumption)); (exact h_))
            obtain rfl := k33_openM hM21
            have HP21 := (Kd.R_seg HQ20.out ((ji9) : Int) (of_decide_eq_true (by (with_reducible assumption))) (by have h_ : ((ji9) : Int) < ((x0_2.length : Int) : Int) := of_decide_eq_true (by (with_reducible assumption)); (exact h_)) (seg := [.string ((rd_T33 x0_2 x9_2).f0), .int .i64 ((rd_T33 x0_2 x9_2).f1), .int .i64 ((rd_T33 x0_2 x9_2).f2), .int .i64 ((rd_T33 x0_2 x9_2).f3), .string ((rd_T33 x0_2 x9_2).f4)]) (j := 0) hcl21 hcc21 (show 5 ≤ 5 from by decide) (x' := (⟨(rd_T33 x0_2 x9_2).f0, (rd_T33 x0_2 x9_2).f1, (rd_T33 x0_2 x9_2).f2, (rd_T33 x0_2 x9_2).f3, (rd_T33 x0_2 x9_2).f4⟩ : S33)) (k33_mkM _ _ _ (⟨(rd_T33 x0_2 x9_2).f0, (rd_T33 x0_2 x9_2).f1, (rd_T33 x0_2 x9_2).f2, (rd_T33 x0_2 x9_2).f3, (rd_T33 x0_2 x9_2).f4⟩ : S33) ) (fun _ hk => hk)).1
            rw [← Ny111.out] at HP21
            have HQ21 := Aside0.mk HP21
            clear hcl21 hcc21 hfr21 hM21 HP21
            refine start_ (n := 18) (S := fun w' => w'.cell? ⟨go14, (((ji9)).toNat * 5), none⟩ = some (.string ((rd_T33 x0_2 (ji9)).f0)) ∧ w'.cell? ⟨go14, (((ji9)).toNat * 5) + 1, none⟩ = some (.int .i64 ((rd_T33 x0_2 (ji9)).f1)) ∧ w'.cell? ⟨go14, (((ji9)).toNat * 5) + 2, none⟩ = some (.int .i64 ((rd_T33 x0_2 (ji9)).f2)) ∧ w'.cell? ⟨go14, (((ji9)).toNat * 5) + 3, none⟩ = some (.int .i64 ((rd_T33 x0_2 (ji9)).f3)) ∧ w'.cell? ⟨go14, (((ji9)).toNat * 5) + 4, none⟩ = some (.string ((rd_T33 x0_2 (ji9)).f4)) ∧ w'.cell? ⟨go14, ((x9_2).toNat * 5), none⟩ = some (.string ((rd_T33 x0_2 x9_2).f0)) ∧ w'.cell? ⟨go14, ((x9_2).toNat * 5) + 1, none⟩ = some (.int .i64 ((rd_T33 x0_2 x9_2).f1)) ∧ w'.cell? ⟨go14, ((x9_2).toNat * 5) + 2, none⟩ = some (.int .i64 ((rd_T33 x0_2 x9_2).f2)) ∧ w'.cell? ⟨go14, ((x9_2).toNat * 5) + 3, none⟩ = some (.int .i64 ((rd_T33 x0_2 x9_2).f3)) ∧ w'.cell? ⟨go14, ((x9_2).toNat * 5) + 4, none⟩ = some (.string ((rd_T33 x0_2 x9_2).f4))) (ds := [15, 17]) #[false, false, false, false, false, false, false, false, false, false, false, false, false, false, false, false, false, false] (by kernel_rfl) rfl rfl ⟨hx108_0, hx108_1, hx108_2, hx108_3, hx108_4, hx109_0, hx109_1, hx109_2, hx109_3, hx109_4⟩ (fun hHeld => ?_); refine with_tabW api_RR_78.tab6 api_RR_78.bits6 (fun HT_ HW_ => ?_)
            generalize w18.drew = w19 at HO_0 HK HB GG14 HQ20 HQ21 hf14_0 hf14_1 hf14_2 hf14_3 hf14_4 hf15_0 hf15_1 hf15_2 hf15_3 hf15_4 hx105_0 hx105_1 hx105_2 hx105_3 hx105_4 hx106_0 hx106_1 hx106_2 hx106_3 hx106_4 hx108_0 hx108_1 hx108_2 hx108_3 hx108_4 hx109_0 hx109_1 hx109_2 hx109_3 hx109_4 hx14_0 hx14_1 hx14_2 hx14_3 hx14_4 hx15_0 hx15_1 hx15_2 hx15_3 hx15_4 hHeld ⊢
            (try simp [go_sem, World.setCells, (show k33.sz = 5 from rfl)] at hf15_0 hf15_1 hf15_2 hf15_3 hf15_4 hx15_0 hx15_1 hx15_2 hx15_3 hx15_4)
            refine pure_ (i := 0) (N := some 37) (v := ?_) (a' := ?_) #[true, false, false, false, false, false, false, false, false, false, false, false, false, false, false, false, false, false] rfl rfl (any_of HT_.out (by kernel_rfl)) (fun _ _ _ h => h) (Or.inl ⟨by rfl, ?_⟩) ?_ ?_
            rotate_left
            ·intro w'
             go_simp
             with_reducible rfl
            rotate_left
            ·simp only [Act.put, List.setIfInBounds_toArray, List.set_cons_zero, List.set_cons_succ, i64_w, i32_w]
             rfl
            refine pure_ (i := 1) (N := some 38) (v := ?_) (a' := ?_) #[true, true, false, false, false, false, false, false, false, false, false, false, false, false, false, false, false, false] rfl rfl (any_of HT_.out (by kernel_rfl)) (fun _ _ _ h => h) (Or.inl ⟨by rfl, ?_⟩) ?_ ?_
            rotate_left
            ·intro w'
             go_simp
             with_reducible rfl
            rotate_left
            ·simp only [Act.put, List.setIfInBounds_toArray, List.set_cons_zero, List.set_cons_succ, i64_w, i32_w]
             rfl
            refine pure_ (i := 2) (N := some 39) (v := ?_) (a' := ?_) #[true, true, true, false, false, false, false, false, false, false, false, false, false, false, false, false, false, false] rfl rfl (any_of HT_.out (by kernel_rfl)) (fun _ _ _ h => h) (Or.inl ⟨by rfl, ?_⟩) ?_ ?_
            rotate_left
            ·intro w'
             go_simp
             with_reducible rfl
            rotate_left
            ·simp only [Act.put, List.setIfInBounds_toArray, List.set_cons_zero, List.set_cons_succ, i64_w, i32_w]
             rfl
            refine pure_ (i := 3) (N := some 40) (v := ?_) (a' := ?_) #[true, true, true, true, false, false, false, false, false, false, false, false, false, false, false, false, false, false] rfl rfl (any_of HT_.out (by kernel_rfl)) (fun _ _ _ h => h) (Or.inl ⟨by rfl, ?_⟩) ?_ ?_
            rotate_left
            ·intro w'
             go_simp
             with_reducible rfl
            rotate_left
            ·simp only [Act.put, List.setIfInBounds_toArray, List.set_cons_zero, List.set_cons_succ, i64_w, i32_w]
             rfl
            refine pure_ (i := 4) (N := some 41) (v := ?_) (a' := ?_) #[true, true, true, true, true, false, false, false, false, false, false, false, false, false, false, false, false, false] rfl rfl (any_of HT_.out (by kernel_rfl)) (fun _ _ _ h => h) (Or.inl ⟨by rfl, ?_⟩) ?_ ?_
            rotate_left
            ·intro w'
             go_simp
             with_reducible rfl
            rotate_left
            ·simp only [Act.put, List.setIfInBounds_toArray, List.set_cons_zero, List.set_cons_succ, i64_w, i32_w]
             rfl
            refine pure_ (i := 5) (N := some 42) (v := ?_) (a' := ?_) #[true, true, true, true, true, true, false, false, false, false, false, false, false, false, false, false, false, false] rfl rfl (any_of HT_.out (by kernel_rfl)) (fun _ _ _ h => h) (Or.inl ⟨by rfl, ?_⟩) ?_ ?_
            rotate_left
            ·intro w'
             go_simp
             with_reducible rfl
            rotate_left
            ·simp only [Act.put, List.setIfInBounds_toArray, List.set_cons_zero, List.set_cons_succ, i64_w, i32_w]
             rfl
            refine pure_ (i := 6) (N := some 43) (v := ?_) (a' := ?_) #[true, true, true, true, true, true, true, false, false, false, false, false, false, false, false, false, false, false] rfl rfl (any_of HT_.out (by kernel_rfl)) (fun _ _ _ h => h) (Or.inl ⟨by rfl, ?_⟩) ?_ ?_
            rotate_left
            ·intro w'
             go_simp
             with_reducible rfl
            rotate_left
            ·simp only [Act.put, List.setIfInBounds_toArray, List.set_cons_zero, List.set_cons_succ, i64_w, i32_w]
             rfl
            refine pure_ (i := 7) (N := some 44) (v := ?_) (a' := ?_) #[true, true, true, true, true, true, true, true, false, false, false, false, false, false, false, false, false, false] rfl rfl (any_of HT_.out (by kernel_rfl)) (fun _ _ _ h => h) (Or.inl ⟨by rfl, ?_⟩) ?_ ?_
            rotate_left
            ·intro w'
             go_simp
             with_reducible rfl
            rotate_left
            ·simp only [Act.put, List.setIfInBounds_toArray, List.set_cons_zero, List.set_cons_succ, i64_w, i32_w]
             rfl
            refine pure_ (i := 8) (N := some 45) (v := ?_) (a' := ?_) #[true, true, true, true, true, true, true, true, true, false, false, false, false, false, false, false, false, false] rfl rfl (any_of HT_.out (by kernel_rfl)) (fun _ _ _ h => h) (Or.inl ⟨by rfl, ?_⟩) ?_ ?_
            rotate_left
            ·intro w'
             go_simp
             with_reducible rfl
            rotate_left
            ·simp only [Act.put, List.setIfInBounds_toArray, List.set_cons_zero, List.set_cons_succ, i64_w, i32_w]
             rfl
            refine pure_ (i := 10) (N := some 47) (v := ?_) (a' := ?_) #[true, true, true, true, true, true, true, true, true, false, true, false, false, false, false, false, false, false] rfl rfl (any_of HT_.out (by kernel_rfl)) (fun _ _ _ h => h) (Or.inl ⟨by rfl, ?_⟩) ?_ ?_
            rotate_left
            ·intro w'
             go_simp
             with_reducible rfl
            rotate_left
            ·simp only [Act.put, List.setIfInBounds_toArray, List.set_cons_zero, List.set_cons_succ, i64_w, i32_w]
             rfl
            refine pure_ (i := 11) (N := some 48) (v := ?_) (a' := ?_) #[true, true, true, true, true, true, true, true, true, false, true, true, false, false, false, false, false, false] rfl rfl (any_of HT_.out (by kernel_rfl)) (fun _ _ _ h => h) (Or.inl ⟨by rfl, ?_⟩) ?_ ?_
            rotate_left
            ·intro w'
             go_simp
             with_reducible rfl
            rotate_left
            ·simp only [Act.put, List.setIfInBounds_toArray, List.set_cons_zero, List.set_cons_succ, i64_w, i32_w]
             rfl
            refine pure_ (i := 12) (N := some 49) (v := ?_) (a' := ?_) #[true, true, true, true, true, true, true, true, true, false, true, true, true, false, false, false, false, false] rfl rfl (any_of HT_.out (by kernel_rfl)) (fun _ _ _ h => h) (Or.inl ⟨by rfl, ?_⟩) ?_ ?_
            rotate_left
            ·intro w'
             go_simp
             with_reducible rfl
            rotate_left
            ·simp only [Act.put, List.setIfInBounds_toArray, List.set_cons_zero, List.set_cons_succ, i64_w, i32_w]
             rfl
            refine take_ (i := 9) (N := some 46) (v := ?_) (a' := ?_) #[true, true, true, true, true, true, true, true, true, true, true, true, true, false, false, false, false, false] rfl rfl (take_ofW HT_.out HW_.out (by kernel_rfl)) (fun _ _ _ h => h) (Or.inl ⟨by rfl, ?_⟩) hHeld ?_ ?_
            rotate_left
            ·rintro w' ⟨s0, s1, s2, s3, s4, s5, s6, s7, s8, s9⟩
             go_simp
             with_reducible rfl
            rotate_left
            ·simp only [Act.put, List.setIfInBounds_toArray, List.set_cons_zero, List.set_cons_succ, i64_w, i32_w]
             rfl
            refine take_ (i := 13) (N := some 50) (v := ?_) (a' := ?_) #[true, true, true, true, true, true, true, true, true, true, true, true, true, true, false, false, false, false] rfl rfl (take_ofW HT_.out HW_.out (by kernel_rfl)) (fun _ _ _ h => h) (Or.inl ⟨by rfl, ?_⟩) hHeld ?_ ?_
            rotate_left
            ·rintro w' ⟨s0, s1, s2, s3, s4, s5, s6, s7, s8, s9⟩
             go_simp
             with_reducible rfl
            rotate_left
            ·simp only [Act.put, List.setIfInBounds_toArray, List.set_cons_zero, List.set_cons_succ, i64_w, i32_w]
             rfl
            refine pure_ (i := 14) (N := some 51) (v := ?_) (a' := ?_) #[true, true, true, true, true, true, true, true, true, true, true, true, true, true, true, false, false, false] rfl rfl (any_of HT_.out (by kernel_rfl)) (fun _ _ _ h => h) (Or.inl ⟨by rfl, ?_⟩) ?_ ?_
            rotate_left
            ·intro w'
             go_simp
             with_reducible rfl
            rotate_left
            ·simp only [Act.put, List.setIfInBounds_toArray, List.set_cons_zero, List.set_cons_succ, i64_w, i32_w]
             rfl
            refine last_ (i := 15) (N := none) #[true, true, true, true, true, true, true, true, true, true, true, true, true, true, true, true, false, false] rfl rfl (one_of HT_.out (by kernel_rfl)) (by decide) (fun K hK => ?_)
            refine skip_ (w1 := ?_) (by rfl) rfl ?_ ?_
            rotate_left
            ·go_simp
             rfl
            refine hK.out _ _ ?_
            clear hK K
            refine pure_ (i := 16) (N := some 52) (v := ?_) (a' := ?_) #[true, true, true, true, true, true, true, true, true, true, true, true, true, true, true, true, true, false] rfl rfl (any_of HT_.out (by kernel_rfl)) (fun _ _ _ h => h) (Or.inl ⟨by rfl, ?_⟩) ?_ ?_
            rotate_left
            ·intro w'
             go_simp
             with_reducible rfl
            rotate_left
            ·simp only [Act.put, List.setIfInBounds_toArray, List.set_cons_zero, List.set_cons_succ, i64_w, i32_w]
             rfl
            refine last_ (i := 17) (N := none) #[true, true, true, true, true, true, true, true, true, true, true, true, true, true, true, true, true, true] rfl rfl (one_of HT_.out (by kernel_rfl)) (by decide) (fun K hK => ?_)
            refine skip_ (w1 := ?_) (by rfl) rfl ?_ ?_
            rotate_left
            ·go_simp
             rfl
            refine hK.out _ _ ?_
            clear hK K
            refine done_ (done_of HT_.out (by kernel_rfl)) ?_
            (try go_wp2)
            go_roundg k2
            case measure => have := HK1.out; have := HK2.out; omega
            case rel => exact ⟨(y111), (ji9), (by rfl), H', ⟨by have := HK1.out; have := HK2.out; omega⟩, ⟨by (with_reducible repeat ((apply Kd.R_alloc))); exact HQ21.out⟩, ⟨by repeat ((with_reducible first | exact HK.out | refine Kept.setCell ?_ HMgo14.out _))⟩, ⟨by repeat ((with_reducible first | exact HB.out | refine below_set ?_ GB14.out))⟩⟩
           ·rw [if_neg c13] at H
            have c13b0 : decide (t107 < 0) = false := decide_eq_false c13
            clear c13
            have H' := Aside0.mk H
            clear H
            (try go_wp2)
            have n0_ := Aside0.mk (Kd.R_drew HO_0.out)
            have n1_ := Aside0.mk (Kept.drew HK.out)
            have n2_ := Aside0.mk (below_drew1 HB.out)
            clear HO_0
            clear HK
            clear HB
            have HO_0 := n0_
            have HK := n1_
            have HB := n2_
            clear n0_ n1_ n2_
            obtain ⟨Ao23, co23, eo23⟩ := Kd.R_slice HO_0.out
            ((subst eo23))
            have p105 : 0 ≤ (x9_2 : Int) := of_decide_eq_true (by (with_reducible assumption))
            have q105 : x9_2 < (x0_2.length : Int) := of_decide_eq_true (by (with_reducible assumption))
            obtain ⟨ad105, e105, hx105_0, hx105_1, hx105_2, hx105_3, hx105_4⟩ := at_T33 (Kd.R_reads' HO_0.out).2.2 x9_2 p105 q105
            cases e105
            replace p105 := eq_true p105
            replace q105 := eq_true q105
            have p106 : 0 ≤ ((ji9) : Int) := of_decide_eq_true (by (with_reducible assumption))
            have q106 : (ji9) < (x0_2.length : Int) := of_decide_eq_true (by (with_reducible assumption))
            obtain ⟨ad106, e106, hx106_0, hx106_1, hx106_2, hx106_3, hx106_4⟩ := at_T33 (Kd.R_reads' HO_0.out).2.2 (ji9) p106 q106
            obtain rfl : ad105 = ad106 := (by injection e106)
            replace p106 := eq_true p106
            replace q106 := eq_true q106
            refine start_ (n := 17) (S := fun w' => w'.cell? (ad105.add ((x9_2).toNat * 5)) = some (.string ((rd_T33 x0_2 x9_2).f0)) ∧ w'.cell? ⟨(ad105.add ((x9_2).toNat * 5)).block, (ad105.add ((x9_2).toNat * 5)).off + 1, none⟩ = some (.int .i64 ((rd_T33 x0_2 x9_2).f1)) ∧ w'.cell? ⟨(ad105.add ((x9_2).toNat * 5)).block, (ad105.add ((x9_2).toNat * 5)).off + 2, none⟩ = some (.int .i64 ((rd_T33 x0_2 x9_2).f2)) ∧ w'.cell? ⟨(ad105.add ((x9_2).toNat * 5)).block, (ad105.add ((x9_2).toNat * 5)).off + 3, none⟩ = some (.int .i64 ((rd_T33 x0_2 x9_2).f3)) ∧ w'.cell? ⟨(ad105.add ((x9_2).toNat * 5)).block, (ad105.add ((x9_2).toNat * 5)).off + 4, none⟩ = some (.string ((rd_T33 x0_2 x9_2).f4)) ∧ w'.cell? (ad105.add (((ji9)).toNat * 5)) = some (.string ((rd_T33 x0_2 (ji9)).f0)) ∧ w'.cell? ⟨(ad105.add (((ji9)).toNat * 5)).block, (ad105.add (((ji9)).toNat * 5)).off + 1, none⟩ = some (.int .i64 ((rd_T33 x0_2 (ji9)).f1)) ∧ w'.cell? ⟨(ad105.add (((ji9)).toNat * 5)).block, (ad105.add (((ji9)).toNat * 5)).off + 2, none⟩ = some (.int .i64 ((rd_T33 x0_2 (ji9)).f2)) ∧ w'.cell? ⟨(ad105.add (((ji9)).toNat * 5)).block, (ad105.add (((ji9)).toNat * 5)).off + 3, none⟩ = some (.int .i64 ((rd_T33 x0_2 (ji9)).f3)) ∧ w'.cell? ⟨(ad105.add (((ji9)).toNat * 5)).block, (ad105.add (((ji9)).toNat * 5)).off + 4, none⟩ = some (.string ((rd_T33 x0_2 (ji9)).f4))) (ds := []) #[false, false, false, false, false, false, false, false, false, false, false, false, false, false, false, false, false] (by kernel_rfl) rfl rfl ⟨hx105_0, hx105_1, hx105_2, hx105_3, hx105_4, hx106_0, hx106_1, hx106_2, hx106_3, hx106_4⟩ (fun hHeld => ?_); refine with_tabW api_RR_78.tab4 api_RR_78.bits4 (fun HT_ HW_ => ?_)
            generalize wr.drew = w22 at HO_0 HK HB hx105_0 hx105_1 hx105_2 hx105_3 hx105_4 hx106_0 hx106_1 hx106_2 hx106_3 hx106_4 hHeld ⊢
            refine pure_ (i := 0) (N := some 18) (v := ?_) (a' := ?_) #[true, false, false, false, false, false, false, false, false, false, false, false, false, false, false, false, false] rfl rfl (any_of HT_.out (by kernel_rfl)) (fun _ _ _ h => h) (Or.inl ⟨by rfl, ?_⟩) ?_ ?_
            rotate_left
            ·intro w'
             go_simp
             with_reducible rfl
            rotate_left
            ·simp only [Act.put, List.setIfInBounds_toArray, List.set_cons_zero, List.set_cons_succ, i64_w, i32_w]
             rfl
            refine pure_ (i := 1) (N := some 19) (v := ?_) (a' := ?_) #[true, true, false, false, false, false, false, false, false, false, false, false, false, false, false, false, false] rfl rfl (any_of HT_.out (by kernel_rfl)) (fun _ _ _ h => h) (Or.inl ⟨by rfl, ?_⟩) ?_ ?_
            rotate_left
            ·intro w'
             go_simp
             with_reducible rfl
            rotate_left
            ·simp only [Act.put, List.setIfInBounds_toArray, List.set_cons_zero, List.set_cons_succ, i64_w, i32_w]
             rfl
            refine pure_ (i := 2) (N := some 20) (v := ?_) (a' := ?_) #[true, true, true, false, false, false, false, false, false, false, false, false, false, false, false, false, false] rfl rfl (any_of HT_.out (by kernel_rfl)) (fun _ _ _ h => h) (Or.inl ⟨by rfl, ?_⟩) ?_ ?_
            rotate_left
            ·intro w'
             go_simp
             with_reducible rfl
            rotate_left
            ·simp only [Act.put, List.setIfInBounds_toArray, List.set_cons_zero, List.set_cons_succ, i64_w, i32_w]
             rfl
            refine pure_ (i := 3) (N := some 21) (v := ?_) (a' := ?_) #[true, true, true, true, false, false, false, false, false, false, false, false, false, false, false, false, false] rfl rfl (any_of HT_.out (by kernel_rfl)) (fun _ _ _ h => h) (Or.inl ⟨by rfl, ?_⟩) ?_ ?_
            rotate_left
            ·intro w'
             go_simp
             with_reducible rfl
            rotate_left
            ·simp only [Act.put, List.setIfInBounds_toArray, List.set_cons_zero, List.set_cons_succ, i64_w, i32_w]
             rfl
            refine pure_ (i := 4) (N := some 22) (v := ?_) (a' := ?_) #[true, true, true, true, true, false, false, false, false, false, false, false, false, false, false, false, false] rfl rfl (any_of HT_.out (by kernel_rfl)) (fun _ _ _ h => h) (Or.inl ⟨by rfl, ?_⟩) ?_ ?_
            rotate_left
            ·intro w'
             go_simp
             with_reducible rfl
            rotate_left
            ·simp only [Act.put, List.setIfInBounds_toArray, List.set_cons_zero, List.set_cons_succ, i64_w, i32_w]
             rfl
            refine pure_ (i := 5) (N := some 23) (v := ?_) (a' := ?_) #[true, true, true, true, true, true, false, false, false, false, false, false, false, false, false, false, false] rfl rfl (any_of HT_.out (by kernel_rfl)) (fun _ _ _ h => h) (Or.inl ⟨by rfl, ?_⟩) ?_ ?_
            rotate_left
            ·intro w'
             go_simp
             with_reducible rfl
            rotate_left
            ·simp only [Act.put, List.setIfInBounds_toArray, List.set_cons_zero, List.set_cons_succ, i64_w, i32_w]
             rfl
            refine pure_ (i := 6) (N := some 24) (v := ?_) (a' := ?_) #[true, true, true, true, true, true, true, false, false, false, false, false, false, false, false, false, false] rfl rfl (any_of HT_.out (by kernel_rfl)) (fun _ _ _ h => h) (Or.inl ⟨by rfl, ?_⟩) ?_ ?_
            rotate_left
            ·intro w'
             go_simp
             with_reducible rfl
            rotate_left
            ·simp only [Act.put, List.setIfInBounds_toArray, List.set_cons_zero, List.set_cons_succ, i64_w, i32_w]
             rfl
            refine pure_ (i := 7) (N := some 25) (v := ?_) (a' := ?_) #[true, true, true, true, true, true, true, true, false, false, false, false, false, false, false, false, false] rfl rfl (any_of HT_.out (by kernel_rfl)) (fun _ _ _ h => h) (Or.inl ⟨by rfl, ?_⟩) ?_ ?_
            rotate_left
            ·intro w'
             go_simp
             with_reducible rfl
            rotate_left
            ·simp only [Act.put, List.setIfInBounds_toArray, List.set_cons_zero, List.set_cons_succ, i64_w, i32_w]
             rfl
            refine pure_ (i := 9) (N := some 27) (v := ?_) (a' := ?_) #[true, true, true, true, true, true, true, true, false, true, false, false, false, false, false, false, false] rfl rfl (any_of HT_.out (by kernel_rfl)) (fun _ _ _ h => h) (Or.inl ⟨by rfl, ?_⟩) ?_ ?_
            rotate_left
            ·intro w'
             go_simp
             with_reducible rfl
            rotate_left
            ·simp only [Act.put, List.setIfInBounds_toArray, List.set_cons_zero, List.set_cons_succ, i64_w, i32_w]
             rfl
            refine pure_ (i := 10) (N := some 28) (v := ?_) (a' := ?_) #[true, true, true, true, true, true, true, true, false, true, true, false, false, false, false, false, false] rfl rfl (any_of HT_.out (by kernel_rfl)) (fun _ _ _ h => h) (Or.inl ⟨by rfl, ?_⟩) ?_ ?_
            rotate_left
            ·intro w'
             go_simp
             with_reducible rfl
            rotate_left
            ·simp only [Act.put, List.setIfInBounds_toArray, List.set_cons_zero, List.set_cons_succ, i64_w, i32_w]
             rfl
            refine pure_ (i := 11) (N := some 29) (v := ?_) (a' := ?_) #[true, true, true, true, true, true, true, true, false, true, true, true, false, false, false, false, false] rfl rfl (any_of HT_.out (by kernel_rfl)) (fun _ _ _ h => h) (Or.inl ⟨by rfl, ?_⟩) ?_ ?_
            rotate_left
            ·intro w'
             go_simp
             with_reducible rfl
            rotate_left
            ·simp only [Act.put, List.setIfInBounds_toArray, List.set_cons_zero, List.set_cons_succ, i64_w, i32_w]
             rfl
            refine pure_ (i := 12) (N := some 30) (v := ?_) (a' := ?_) #[true, true, true, true, true, true, true, true, false, true, true, true, true, false, false, false, false] rfl rfl (any_of HT_.out (by kernel_rfl)) (fun _ _ _ h => h) (Or.inl ⟨by rfl, ?_⟩) ?_ ?_
            rotate_left
            ·intro w'
             go_simp
             with_reducible rfl
            rotate_left
            ·simp only [Act.put, List.setIfInBounds_toArray, List.set_cons_zero, List.set_cons_succ, i64_w, i32_w]
             rfl
            refine take_ (i := 8) (N := some 26) (v := ?_) (a' := ?_) #[true, true, true, true, true, true, true, true, true, true, true, true, true, false, false, false, false] rfl rfl (take_ofW HT_.out HW_.out (by kernel_rfl)) (fun _ _ _ h => h) (Or.inl ⟨by rfl, ?_⟩) hHeld ?_ ?_
            rotate_left
            ·rintro w' ⟨s0, s1, s2, s3, s4, s5, s6, s7, s8, s9⟩
             go_simp
             with_reducible rfl
            rotate_left
            ·simp only [Act.put, List.setIfInBounds_toArray, List.set_cons_zero, List.set_cons_succ, i64_w, i32_w]
             rfl
            refine take_ (i := 13) (N := some 31) (v := ?_) (a' := ?_) #[true, true, true, true, true, true, true, true, true, true, true, true, true, true, false, false, false] rfl rfl (take_ofW HT_.out HW_.out (by kernel_rfl)) (fun _ _ _ h => h) (Or.inl ⟨by rfl, ?_⟩) hHeld ?_ ?_
            rotate_left
            ·rintro w' ⟨s0, s1, s2, s3, s4, s5, s6, s7, s8, s9⟩
             go_simp
             with_reducible rfl
            rotate_left
            ·simp only [Act.put, List.setIfInBounds_toArray, List.set_cons_zero, List.set_cons_succ, i64_w, i32_w]
             rfl
            refine one_ (i := 14) (N := some 32) #[true, true, true, true, true, true, true, true, true, true, true, true, true, true, true, false, false] rfl rfl (one_of HT_.out (by kernel_rfl)) (by decide) (fun K hK => ?_)
            refine goesT_ Try.func44 (by kernel_rfl) rfl #[.agg #[.string ((rd_T33 x0_2 x9_2).f0), .int .i64 ((rd_T33 x0_2 x9_2).f1), .int .i64 ((rd_T33 x0_2 x9_2).f2), .int .i64 ((rd_T33 x0_2 x9_2).f3), .string ((rd_T33 x0_2 x9_2).f4)], .agg #[.string ((rd_T33 x0_2 (ji9)).f0), .int .i64 ((rd_T33 x0_2 (ji9)).f1), .int .i64 ((rd_T33 x0_2 (ji9)).f2), .int .i64 ((rd_T33 x0_2 (ji9)).f3), .string ((rd_T33 x0_2 (ji9)).f4)]] (by rfl) rfl rfl rfl (by (try simp only [List.map_toArray, List.map_cons, List.map_nil]); rfl) ?_
            with_reducible refine (record_Compare.calls k2 ((rd_T33 x0_2 x9_2).f0) ((rd_T33 x0_2 x9_2).f1) ((rd_T33 x0_2 x9_2).f2) ((rd_T33 x0_2 x9_2).f3) ((rd_T33 x0_2 x9_2).f4) ((rd_T33 x0_2 (ji9)).f0) ((rd_T33 x0_2 (ji9)).f1) ((rd_T33 x0_2 (ji9)).f2) ((rd_T33 x0_2 (ji9)).f3) ((rd_T33 x0_2 (ji9)).f4) t107 _ A12.out).mono ?_
            rintro e w24 ⟨rfl, hb⟩
            have HS0_ := (hb.cell (World.block_lt_of_cell? _ _ (hHeld.1))).trans (hHeld.1)
            have HS1_ := (hb.cell (World.block_lt_of_cell? _ _ (hHeld.2.1))).trans (hHeld.2.1)
            have HS2_ := (hb.cell (World.block_lt_of_cell? _ _ (hHeld.2.2.1))).trans (hHeld.2.2.1)
            have HS3_ := (hb.cell (World.block_lt_of_cell? _ _ (hHeld.2.2.2.1))).trans (hHeld.2.2.2.1)
            have HS4_ := (hb.cell (World.block_lt_of_cell? _ _ (hHeld.2.2.2.2.1))).trans (hHeld.2.2.2.2.1)
            have HS5_ := (hb.cell (World.block_lt_of_cell? _ _ (hHeld.2.2.2.2.2.1))).trans (hHeld.2.2.2.2.2.1)
            have HS6_ := (hb.cell (World.block_lt_of_cell? _ _ (hHeld.2.2.2.2.2.2.1))).trans (hHeld.2.2.2.2.2.2.1)
            have HS7_ := (hb.cell (World.block_lt_of_cell? _ _ (hHeld.2.2.2.2.2.2.2.1))).trans (hHeld.2.2.2.2.2.2.2.1)
            have HS8_ := (hb.cell (World.block_lt_of_cell? _ _ (hHeld.2.2.2.2.2.2.2.2.1))).trans (hHeld.2.2.2.2.2.2.2.2.1)
            have HS9_ := (hb.cell (World.block_lt_of_cell? _ _ (hHeld.2.2.2.2.2.2.2.2.2))).trans (hHeld.2.2.2.2.2.2.2.2.2)
            refine ⟨_, rfl, ?_⟩
            have n0_ := Aside0.mk (Kd.R_below (by (with_reducible repeat ((apply Kd.R_alloc))); exact HO_0.out) hb)
            have n1_ := Aside0.mk (Kept.below (S := (fun k_ => P0_ k_)) (by repeat ((with_reducible (exact HK.out)))) hb)
            have n2_ := Aside0.mk (below_step (by repeat ((with_reducible (exact HB.out)))) hb)
            clear HO_0
            clear HK
            clear HB
            have HO_0 := n0_
            have HK := n1_
            have HB := n2_
            clear n0_ n1_ n2_
            (try clear hb)
            refine hK.out _ _ ⟨HS0_, HS1_, HS2_, HS3_, HS4_, HS5_, HS6_, HS7_, HS8_, HS9_⟩ (fun hHeld => ?_)
            clear hK K
            refine norm_ (a' := ?_) ?_ ?_
            rotate_left
            ·show Act.put _ (some 32) _ = _
             simp only [Act.put, List.setIfInBounds_toArray, List.set_cons_zero, List.set_cons_succ, i64_w, i32_w]
             rfl
            refine pure_ (i := 15) (N := some 33) (v := ?_) (a' := ?_) #[true, true, true, true, true, true, true, true, true, true, true, true, true, true, true, true, false] rfl rfl (any_of HT_.out (by kernel_rfl)) (fun _ _ _ h => h) (Or.inl ⟨by rfl, ?_⟩) ?_ ?_
            rotate_left
            ·intro w'
             go_simp
             with_reducible rfl
            rotate_left
            ·simp only [Act.put, List.setIfInBounds_toArray, List.set_cons_zero, List.set_cons_succ, i64_w, i32_w]
             rfl
            refine pure_ (i := 16) (N := some 34) (v := ?_) (a' := ?_) #[true, true, true, true, true, true, true, true, true, true, true, true, true, true, true, true, true] rfl rfl (any_of HT_.out (by kernel_rfl)) (fun _ _ _ h => h) (Or.inl ⟨by rfl, ?_⟩) ?_ ?_
            rotate_left
            ·intro w'
             go_simp
             with_reducible rfl
            rotate_left
            ·simp only [Act.put, List.setIfInBounds_toArray, List.set_cons_zero, List.set_cons_succ, i64_w, i32_w]
             rfl
            refine done_ (done_of HT_.out (by kernel_rfl)) ?_
            (try go_wp2)
            go_roundg k2
            case measure => have := HK1.out; have := HK2.out; omega
            case rel => exact ⟨(x0_2), (wrap64 (x8_1 + 1)), (by rfl), H', ⟨by have := HK1.out; have := HK2.out; omega⟩, ⟨by (with_reducible repeat ((apply Kd.R_alloc))); exact HO_0.out⟩, ⟨by repeat ((with_reducible (exact HK.out)))⟩, ⟨by repeat ((with_reducible (exact HB.out)))⟩⟩
          ·rw [if_neg c11] at H
           exact absurd H (by simp)
         ·rw [if_neg c10] at H
          exact absurd H (by simp)
        ·rw [if_neg c8] at H
         exact absurd H (by simp)
       ·rw [if_neg c7] at H
        exact absurd H (by simp)
      ·rw [if_neg c6] at H
       have c6b0 : decide (a1 < x9_2) = false := decide_eq_false c6
       clear c6
       have H' := Aside0.mk H
       clear H
       (try go_wp2)
       have n0_ := Aside0.mk (Kd.R_drew HO_0.out)
       have n1_ := Aside0.mk (Kept.drew HK.out)
       have n2_ := Aside0.mk (below_drew1 HB.out)
       clear HO_0
       clear HK
       clear HB
       have HO_0 := n0_
       have HK := n1_
       have HB := n2_
       clear n0_ n1_ n2_
       refine start_ (n := 17) (S := fun w' => True) (ds := []) #[false, false, false, false, false, false, false, false, false, false, false, false, false, false, false, false, false] (by kernel_rfl) rfl rfl trivial (fun hHeld => ?_); refine with_tabW api_RR_78.tab4 api_RR_78.bits4 (fun HT_ HW_ => ?_)
       generalize wr.drew = w25 at HO_0 HK HB hHeld ⊢
       refine pure_ (i := 0) (N := some 18) (v := ?_) (a' := ?_) #[true, false, false, false, false, false, false, false, false, false, false, false, false, false, false, false, false] rfl rfl (any_of HT_.out (by kernel_rfl)) (fun _ _ _ h => h) (Or.inl ⟨by rfl, ?_⟩) ?_ ?_
       rotate_left
       ·intro w'
        go_simp
        with_reducible rfl
       rotate_left
       ·simp only [Act.put, List.setIfInBounds_toArray, List.set_cons_zero, List.set_cons_succ, i64_w, i32_w]
        rfl
       refine pure_ (i := 1) (N := some 19) (v := ?_) (a' := ?_) #[true, true, false, false, false, false, false, false, false, false, false, false, false, false, false, false, false] rfl rfl (any_of HT_.out (by kernel_rfl)) (fun _ _ _ h => h) (Or.inl ⟨by rfl, ?_⟩) ?_ ?_
       rotate_left
       ·intro w'
        go_simp
        with_reducible rfl
       rotate_left
       ·simp only [Act.put, List.setIfInBounds_toArray, List.set_cons_zero, List.set_cons_succ, i64_w, i32_w]
        rfl
       refine pure_ (i := 2) (N := some 20) (v := ?_) (a' := ?_) #[true, true, true, false, false, false, false, false, false, false, false, false, false, false, false, false, false] rfl rfl (any_of HT_.out (by kernel_rfl)) (fun _ _ _ h => h) (Or.inl ⟨by rfl, ?_⟩) ?_ ?_
       rotate_left
       ·intro w'
        go_simp
        with_reducible rfl
       rotate_left
       ·simp only [Act.put, List.setIfInBounds_toArray, List.set_cons_zero, List.set_cons_succ, i64_w, i32_w]
        rfl
       refine pure_ (i := 3) (N := some 21) (v := ?_) (a' := ?_) #[true, true, true, true, false, false, false, false, false, false, false, false, false, false, false, false, false] rfl rfl (any_of HT_.out (by kernel_rfl)) (fun _ _ _ h => h) (Or.inl ⟨by rfl, ?_⟩) ?_ ?_
       rotate_left
       ·intro w'
        go_simp
        with_reducible rfl
       rotate_left
       ·simp only [Act.put, List.setIfInBounds_toArray, List.set_cons_zero, List.set_cons_succ, i64_w, i32_w]
        rfl
       refine pure_ (i := 4) (N := some 22) (v := undef) (a' := ?_) #[true, true, true, true, true, false, false, false, false, false, false, false, false, false, false, false, false] rfl rfl (any_of HT_.out (by kernel_rfl)) (fun _ _ _ h => h) (Or.inr ⟨by rfl, rfl⟩) ?_ ?_
       rotate_left
       ·simp only [Act.put, List.setIfInBounds_toArray, List.set_cons_zero, List.set_cons_succ, i64_w, i32_w]
        rfl
       refine pure_ (i := 5) (N := some 23) (v := undef) (a' := ?_) #[true, true, true, true, true, true, false, false, false, false, false, false, false, false, false, false, false] rfl rfl (any_of HT_.out (by kernel_rfl)) (fun _ _ _ h => h) (Or.inr ⟨by rfl, rfl⟩) ?_ ?_
       rotate_left
       ·simp only [Act.put, List.setIfInBounds_toArray, List.set_cons_zero, List.set_cons_succ, i64_w, i32_w]
        rfl
       refine pure_ (i := 6) (N := some 24) (v := undef) (a' := ?_) #[true, true, true, true, true, true, true, false, false, false, false, false, false, false, false, false, false] rfl rfl (any_of HT_.out (by kernel_rfl)) (fun _ _ _ h => h) (Or.inr ⟨by rfl, rfl⟩) ?_ ?_
       rotate_left
       ·simp only [Act.put, List.setIfInBounds_toArray, List.set_cons_zero, List.set_cons_succ, i64_w, i32_w]
        rfl
       refine pure_ (i := 7) (N := some 25) (v := undef) (a' := ?_) #[true, true, true, true, true, true, true, true, false, false, false, false, false, false, false, false, false] rfl rfl (any_of HT_.out (by kernel_rfl)) (fun _ _ _ h => h) (Or.inr ⟨by rfl, rfl⟩) ?_ ?_
       rotate_left
       ·simp only [Act.put, List.setIfInBounds_toArray, List.set_cons_zero, List.set_cons_succ, i64_w, i32_w]
        rfl
       refine pure_ (i := 8) (N := some 26) (v := undef) (a' := ?_) #[true, true, true, true, true, true, true, true, true, false, false, false, false, false, false, false, false] rfl rfl (any_of HT_.out (by kernel_rfl)) (fun _ _ _ h => h) (Or.inr ⟨by rfl, rfl⟩) ?_ ?_
       rotate_left
       ·simp only [Act.put, List.setIfInBounds_toArray, List.set_cons_zero, List.set_cons_succ, i64_w, i32_w]
        rfl
       refine pure_ (i := 9) (N := some 27) (v := undef) (a' := ?_) #[true, true, true, true, true, true, true, true, true, true, false, false, false, false, false, false, false] rfl rfl (any_of HT_.out (by kernel_rfl)) (fun _ _ _ h => h) (Or.inr ⟨by rfl, rfl⟩) ?_ ?_
       rotate_left
       ·simp only [Act.put, List.setIfInBounds_toArray, List.set_cons_zero, List.set_cons_succ, i64_w, i32_w]
        rfl
       refine pure_ (i := 10) (N := some 28) (v := undef) (a' := ?_) #[true, true, true, true, true, true, true, true, true, true, true, false, false, false, false, false, false] rfl rfl (any_of HT_.out (by kernel_rfl)) (fun _ _ _ h => h) (Or.inr ⟨by rfl, rfl⟩) ?_ ?_
       rotate_left
       ·simp only [Act.put, List.setIfInBounds_toArray, List.set_cons_zero, List.set_cons_succ, i64_w, i32_w]
        rfl
       refine pure_ (i := 11) (N := some 29) (v := undef) (a' := ?_) #[true, true, true, true, true, true, true, true, true, true, true, true, false, false, false, false, false] rfl rfl (any_of HT_.out (by kernel_rfl)) (fun _ _ _ h => h) (Or.inr ⟨by rfl, rfl⟩) ?_ ?_
       rotate_left
       ·simp only [Act.put, List.setIfInBounds_toArray, List.set_cons_zero, List.set_cons_succ, i64_w, i32_w]
        rfl
       refine pure_ (i := 12) (N := some 30) (v := undef) (a' := ?_) #[true, true, true, true, true, true, true, true, true, true, true, true, true, false, false, false, false] rfl rfl (any_of HT_.out (by kernel_rfl)) (fun _ _ _ h => h) (Or.inr ⟨by rfl, rfl⟩) ?_ ?_
       rotate_left
       ·simp only [Act.put, List.setIfInBounds_toArray, List.set_cons_zero, List.set_cons_succ, i64_w, i32_w]
        rfl
       refine pure_ (i := 13) (N := some 31) (v := undef) (a' := ?_) #[true, true, true, true, true, true, true, true, true, true, true, true, true, true, false, false, false] rfl rfl (any_of HT_.out (by kernel_rfl)) (fun _ _ _ h => h) (Or.inr ⟨by rfl, rfl⟩) ?_ ?_
       rotate_left
       ·simp only [Act.put, List.setIfInBounds_toArray, List.set_cons_zero, List.set_cons_succ, i64_w, i32_w]
        rfl
       refine pure_ (i := 14) (N := some 32) (v := undef) (a' := ?_) #[true, true, true, true, true, true, true, true, true, true, true, true, true, true, true, false, false] rfl rfl (any_of HT_.out (by kernel_rfl)) (fun _ _ _ h => h) (Or.inr ⟨by rfl, rfl⟩) ?_ ?_
       rotate_left
       ·simp only [Act.put, List.setIfInBounds_toArray, List.set_cons_zero, List.set_cons_succ, i64_w, i32_w]
        rfl
       refine pure_ (i := 15) (N := some 33) (v := undef) (a' := ?_) #[true, true, true, true, true, true, true, true, true, true, true, true, true, true, true, true, false] rfl rfl (any_of HT_.out (by kernel_rfl)) (fun _ _ _ h => h) (Or.inr ⟨by rfl, rfl⟩) ?_ ?_
       rotate_left
       ·simp only [Act.put, List.setIfInBounds_toArray, List.set_cons_zero, List.set_cons_succ, i64_w, i32_w]
        rfl
       refine pure_ (i := 16) (N := some 34) (v := ?_) (a' := ?_) #[true, true, true, true, true, true, true, true, true, true, true, true, true, true, true, true, true] rfl rfl (any_of HT_.out (by kernel_rfl)) (fun _ _ _ h => h) (Or.inl ⟨by rfl, ?_⟩) ?_ ?_
       rotate_left
       ·intro w'
        go_simp
        with_reducible rfl
       rotate_left
       ·simp only [Act.put, List.setIfInBounds_toArray, List.set_cons_zero, List.set_cons_succ, i64_w, i32_w]
        rfl
       refine done_ (done_of HT_.out (by kernel_rfl)) ?_
       (try go_wp2)
       go_roundg k2
       case measure => have := HK1.out; have := HK2.out; omega
       case rel => exact ⟨(x0_2), (wrap64 (x8_1 + 1)), (by rfl), H', ⟨by have := HK1.out; have := HK2.out; omega⟩, ⟨by (with_reducible repeat ((apply Kd.R_alloc))); exact HO_0.out⟩, ⟨by repeat ((with_reducible (exact HK.out)))⟩, ⟨by repeat ((with_reducible (exact HB.out)))⟩⟩
   ·rw [if_neg c5] at H
    have c5b0 : decide (x8_1 < a2) = false := decide_eq_false c5
    clear c5
    obtain rfl := Option.some.inj H
    go_wp2
    go_end0
    exact ⟨by rfl, by (with_reducible repeat ((apply Kd.R_alloc))); exact HO_0.out, by repeat ((with_reducible (exact HB.out))), by repeat ((with_reducible (exact HK.out)))⟩
end Go.Proofs.Ytehdkopjgcoclaa.PSo
namespace Go.Proofs.Ytehdkopjgcoclaa.PSo
open Go.RowKit Go.Proofs.YtehdkopjgcoclaaW.PrintWords Go.Proofs.YtehdkopjgcoclaaW.PrintLast Go.Proofs.YtehdkopjgcoclaaW.PrintMore Go.Proofs.Ytehdkopjgcoclaa.Given Go.Proofs.Ytehdkopjgcoclaa.PRd Go.Proofs.Ytehdkopjgcoclaa.PRr
attribute [local go_sem] max2_int min2_int max_two min_two max_three min_three max_four min_four   -- for this text's walks alone
set_option linter.unusedVariables false
set_option linter.unusedSimpArgs false
def api_RR_98.l0 : Nat → List (S33) → Int → Int → Int → Int → Option ((List (S33)))
 | 0, _, _, _, _, _ => none
 | k + 1, x0, x1, x2, x3, x10 => if x10 < x3 then (if 0 ≤ (wrap64 (x2 + x10)) then (if (wrap64 (x2 + x10)) < (x0.length : Int) then (if 0 ≤ (wrap64 (x1 + x10)) then (if (wrap64 (x1 + x10)) < (x0.length : Int) then (api_RR_98.l0 k ((x0.set ((wrap64 (x1 + x10)) : Int).toNat (⟨(rd_T33 x0 (wrap64 (x2 + x10))).f0, (rd_T33 x0 (wrap64 (x2 + x10))).f1, (rd_T33 x0 (wrap64 (x2 + x10))).f2, (rd_T33 x0 (wrap64 (x2 + x10))).f3, (rd_T33 x0 (wrap64 (x2 + x10))).f4⟩ : S33)).set ((wrap64 (x2 + x10)) : Int).toNat (⟨(rd_T33 x0 (wrap64 (x1 + x10))).f0, (rd_T33 x0 (wrap64 (x1 + x10))).f1, (rd_T33 x0 (wrap64 (x1 + x10))).f2, (rd_T33 x0 (wrap64 (x1 + x10))).f3, (rd_T33 x0 (wrap64 (x1 + x10))).f4⟩ : S33)) x1 x2 x3 (wrap64 (x10 + 1))) else (none)) else (none)) else (none)) else (none)) else (some x0)
def api_RR_98.f (k : Nat) (l0 : List (S33)) (a1 : Int) (a2 : Int) (a3 : Int) (a4 : Int) : Option ((List (S33))) := api_RR_98.l0 k l0 a1 a2 a3 0
def api_RR_98.T3 : Bool × List (List Nat × List Nat) := (true, [([], []), ([], []), ([], []), ([1, 2], [1, 2]), ([], []), ([], []), ([], []), ([5, 6], [5, 6]), ([], []), ([], []), ([], []), ([9, 10], [9, 10]), ([8, 11], [8, 11]), ([12], [12]), ([], []), ([], []), ([], []), ([15, 16], [15, 16]), ([14, 17], [14, 17]), ([18], [18]), ([0, 3, 0, 1, 2, 3, 8, 9, 10, 11, 12, 13, 19], [0, 3]), ([20, 13, 0, 1, 2, 3, 8, 9, 10, 11, 12, 13, 19], [13, 20]), ([4, 7, 0, 1, 2, 3, 4, 5, 6, 7, 8, 9, 10, 11, 12, 13, 14, 15, 16, 17, 18, 19, 20, 21], [4, 7]), ([22, 19, 21, 0, 1, 2, 3, 4, 5, 6, 7, 8, 9, 10, 11, 12, 13, 14, 15, 16, 17, 18, 19, 20, 21], [19, 22])])
def api_RR_98.B3 : List Nat := [0, 0, 0, 6, 0, 0, 0, 96, 0, 0, 0, 1536, 3840, 7936, 0, 0, 0, 98304, 245760, 507904, 1048335, 2096911, 4194303, 8388607]
theorem api_RR_98.tab3 : rtab .any (opsOf Try.f98 3) = api_RR_98.T3 := by kernel_rfl
theorem api_RR_98.bits3 : waitsOk api_RR_98.T3.2 api_RR_98.B3 = true := by kernel_rfl
set_option maxHeartbeats 8000000 in
set_option maxRecDepth 100000 in
theorem api_RR_98.calls (k : Nat) (P0_ : Nat → Prop) (u9000_ : Value) (l0 : List (S33)) (a1 : Int) (a2 : Int) (a3 : Int) (a4 : Int) (r : List (S33)) (w0 w : World) (hB : Below w0.heap.size w0 w) (ho0 : Kd.R k33 33 w w0.heap.size P0_ u9000_ l0) (h : api_RR_98.f k l0 a1 a2 a3 a4 = some r) :
  Calls Try.prog 98 #[u9000_, .int .i64 a1, .int .i64 a2, .int .i64 a3, .func (.func 44) #[] #[]] w fun e w' => e = .returned (.tuple #[]) ∧ Kd.R k33 33 w' w0.heap.size (fun k_ => (P0_ k_ ∨ w.heap.size ≤ k_)) u9000_ r ∧ Below w0.heap.size w0 w' ∧ Kept w w' (fun k_ => P0_ k_) := by
 have hu33 := Try.underlying33
 have HO0 := Aside0.mk (show Kd.R k33 33 w w0.heap.size (fun k_ => (P0_ k_ ∨ w.heap.size ≤ k_)) u9000_ l0 from Kd.R_mono ho0 (fun k_ hk => (.inl hk)))
 have HK := Aside0.mk (Kept.refl w (fun k_ => P0_ k_))
 have HW0 := Aside0.mk hB.size
 have HB := Aside0.mk hB
 clear hB
 have H : (api_RR_98.l0 k l0 a1 a2 a3 0) = some r := h
 clear h
 have H' := Aside0.mk H
 clear H
 go_enter Try.func98, Try.ntmps98
 go_wp2
 go_loopg [10] k (fun kq v10 w' => ∃ (x0_1 : List (S33)) (x10_1 : Int), v10 = .int .i64 x10_1 ∧ Aside0 (api_RR_98.l0 kq x0_1 a1 a2 a3 x10_1 = some r) ∧ Aside0 (kq ≤ k) ∧ Aside0 (Kd.R k33 33 w' w0.heap.size (fun k_ => (P0_ k_ ∨ w.heap.size ≤ k_)) u9000_ x0_1) ∧ Aside0 (Kept w w' (fun k_ => P0_ k_)) ∧ Aside0 (Below w0.heap.size w0 w'))
 case atStart => exact ⟨(l0), (0), (by rfl), H', ⟨Nat.le_refl _⟩, ⟨by (with_reducible repeat ((apply Kd.R_alloc))); exact HO0.out⟩, ⟨by repeat ((with_reducible (exact HK.out)))⟩, ⟨by repeat ((with_reducible (exact HB.out)))⟩⟩
 case round =>
  clear H'
  obtain ⟨x0_1, x10_1, rfl, HA, HK1, HO_0, HK, HB⟩ := hrel
  cases gk with
  | zero => exact absurd HA.out (by simp [api_RR_98.l0])
  | succ k1 =>
   have H := HA.out
   clear HA
   simp only [api_RR_98.l0] at H
   by_cases c6 : x10_1 < a3
   ·rw [if_pos c6] at H
    have c6b0 : decide (x10_1 < a3) = true := decide_eq_true c6
    clear c6
    obtain ⟨ji7, hji7⟩ : ∃ j_ : Int, (wrap64 (a2 + x10_1)) = j_ := ⟨_, rfl⟩
    replace H : (if 0 ≤ (ji7) then (if (ji7) < (x0_1.length : Int) then (if 0 ≤ (wrap64 (a1 + x10_1)) then (if (wrap64 (a1 + x10_1)) < (x0_1.length : Int) then (api_RR_98.l0 k1 ((x0_1.set ((wrap64 (a1 + x10_1)) : Int).toNat (⟨(rd_T33 x0_1 (ji7)).f0, (rd_T33 x0_1 (ji7)).f1, (rd_T33 x0_1 (ji7)).f2, (rd_T33 x0_1 (ji7)).f3, (rd_T33 x0_1 (ji7)).f4⟩ : S33)).set ((ji7) : Int).toNat (⟨(rd_T33 x0_1 (wrap64 (a1 + x10_1))).f0, (rd_T33 x0_1 (wrap64 (a1 + x10_1))).f1, (rd_T33 x0_1 (wrap64 (a1 + x10_1))).f2, (rd_T33 x0_1 (wrap64 (a1 + x10_1))).f3, (rd_T33 x0_1 (wrap64 (a1 + x10_1))).f4⟩ : S33)) a1 a2 a3 (wrap64 (x10_1 + 1))) else (none)) else (none)) else (none)) else (none)) = some r := by (rw [hji7] at H; exact H)
    have hji7w : (IntKind.i64.wrap (a2 + x10_1)) = ji7 := (i64_w _).trans hji7
    by_cases c8 : 0 ≤ (ji7)
    ·rw [if_pos c8] at H
     have c8b0 : decide (0 ≤ (ji7)) = true := decide_eq_true c8
     clear c8
     by_cases c9 : (ji7) < (x0_1.length : Int)
     ·rw [if_pos c9] at H
      have c9b0 : decide ((ji7) < (x0_1.length : Int)) = true := decide_eq_true c9
      clear c9
      obtain ⟨ji10, hji10⟩ : ∃ j_ : Int, (wrap64 (a1 + x10_1)) = j_ := ⟨_, rfl⟩
      replace H : (if 0 ≤ (ji10) then (if (ji10) < (x0_1.length : Int) then (api_RR_98.l0 k1 ((x0_1.set ((ji10) : Int).toNat (⟨(rd_T33 x0_1 (ji7)).f0, (rd_T33 x0_1 (ji7)).f1, (rd_T33 x0_1 (ji7)).f2, (rd_T33 x0_1 (ji7)).f3, (rd_T33 x0_1 (ji7)).f4⟩ : S33)).set ((ji7) : Int).toNat (⟨(rd_T33 x0_1 (ji10)).f0, (rd_T33 x0_1 (ji10)).f1, (rd_T33 x0_1 (ji10)).f2, (rd_T33 x0_1 (ji10)).f3, (rd_T33 x0_1 (ji10)).f4⟩ : S33)) a1 a2 a3 (wrap64 (x10_1 + 1))) else (none)) else (none)) = some r := by (rw [hji10] at H; exact H)
      have hji10w : (IntKind.i64.wrap (a1 + x10_1)) = ji10 := (i64_w _).trans hji10
      by_cases c11 : 0 ≤ (ji10)
      ·rw [if_pos c11] at H
       have c11b0 : decide (0 ≤ (ji10)) = true := decide_eq_true c11
       clear c11
       by_cases c12 : (ji10) < (x0_1.length : Int)
       ·rw [if_pos c12] at H
        have c12b0 : decide ((ji10) < (x0_1.length : Int)) = true := decide_eq_true c12
        clear c12
        obtain ⟨y114, hy114⟩ : ∃ y_ : List (S33), y_ = (x0_1.set ((ji10) : Int).toNat (⟨(rd_T33 x0_1 (ji7)).f0, (rd_T33 x0_1 (ji7)).f1, (rd_T33 x0_1 (ji7)).f2, (rd_T33 x0_1 (ji7)).f3, (rd_T33 x0_1 (ji7)).f4⟩ : S33)) := ⟨_, rfl⟩
        replace H : (api_RR_98.l0 k1 (y114.set ((ji7) : Int).toNat (⟨(rd_T33 x0_1 (ji10)).f0, (rd_T33 x0_1 (ji10)).f1, (rd_T33 x0_1 (ji10)).f2, (rd_T33 x0_1 (ji10)).f3, (rd_T33 x0_1 (ji10)).f4⟩ : S33)) a1 a2 a3 (wrap64 (x10_1 + 1))) = some r := by (rw [hy114]; with_reducible exact H)
        have Ny114 := Aside0.mk hy114
        clear hy114
        obtain ⟨y115, hy115⟩ : ∃ y_ : List (S33), y_ = (y114.set ((ji7) : Int).toNat (⟨(rd_T33 x0_1 (ji10)).f0, (rd_T33 x0_1 (ji10)).f1, (rd_T33 x0_1 (ji10)).f2, (rd_T33 x0_1 (ji10)).f3, (rd_T33 x0_1 (ji10)).f4⟩ : S33)) := ⟨_, rfl⟩
        replace H : (api_RR_98.l0 k1 y115 a1 a2 a3 (wrap64 (x10_1 + 1))) = some r := by (rw [hy115]; with_reducible exact H)
        have Ny115 := Aside0.mk hy115
        clear hy115
        have H' := Aside0.mk H
        clear H
        (try go_wp2)
        have n0_ := Aside0.mk (Kd.R_drew HO_0.out)
        have n1_ := Aside0.mk (Kept.drew HK.out)
        have n2_ := Aside0.mk (below_drew1 HB.out)
        clear HO_0
        clear HK
        clear HB
        have HO_0 := n0_
        have HK := n1_
        have HB := n2_
        clear n0_ n1_ n2_
        obtain ⟨Ao16, co16, eo16⟩ := Kd.R_slice HO_0.out
        ((subst eo16))
        have p112 : 0 ≤ ((ji7) : Int) := of_decide_eq_true (by (with_reducible assumption))
        have q112 : (ji7) < (x0_1.length : Int) := of_decide_eq_true (by (with_reducible assumption))
        obtain ⟨ad112, e112, hx112_0, hx112_1, hx112_2, hx112_3, hx112_4⟩ := at_T33 (Kd.R_reads' HO_0.out).2.2 (ji7) p112 q112
        cases e112
        replace p112 := eq_true p112
        replace q112 := eq_true q112
        have p113 : 0 ≤ ((ji10) : Int) := of_decide_eq_true (by (with_reducible assumption))
        have q113 : (ji10) < (x0_1.length : Int) := of_decide_eq_true (by (with_reducible assumption))
        obtain ⟨ad113, e113, hx113_0, hx113_1, hx113_2, hx113_3, hx113_4⟩ := at_T33 (Kd.R_reads' HO_0.out).2.2 (ji10) p113 q113
        obtain rfl : ad112 = ad113 := (by injection e113)
        replace p113 := eq_true p113
        replace q113 := eq_true q113
        have p13 : 0 ≤ ((ji10) : Int) := of_decide_eq_true (by (with_reducible assumption))
        have q13 : ((ji10) : Int) < ((x0_1.length : Int) : Int) := of_decide_eq_true (by (with_reducible assumption))
        obtain ⟨go13, co13, eo13, gb13, gl13, cl13, HG13⟩ := Kd.R_form HO_0.out (by omega)
        ((cases eo13))
        have GB13 := Aside0.mk gb13
        have GG13 := Aside0.mk HG13
        clear gb13 gl13 HG13
        have HMgo13 := Aside0.mk (show (P0_ go13 ∨ w.heap.size ≤ go13) from (HO_0.out.1 _ rfl))
        ((simp only [add_plain] at hx112_0))
        ((simp only [add_plain] at hx112_1))
        ((simp only [add_plain] at hx112_2))
        ((simp only [add_plain] at hx112_3))
        ((simp only [add_plain] at hx112_4))
        ((simp only [add_plain] at hx113_0))
        ((simp only [add_plain] at hx113_1))
        ((simp only [add_plain] at hx113_2))
        ((simp only [add_plain] at hx113_3))
        ((simp only [add_plain] at hx113_4))
        obtain ⟨ce13, hcl13, hM13, hcc13, hfr13⟩ := Kd.R_elem HO_0.out z33 ((ji10) : Int) p13 q13
        obtain rfl := k33_openM hM13
        have hx13_0 : World.cell? _ ⟨go13, ((ji10) : Int).toNat * 5, none⟩ = some (.string ((rd_T33 x0_1 (ji10)).f0)) := hcc13 0 _ rfl
        have hx13_1 : World.cell? _ ⟨go13, ((ji10) : Int).toNat * 5 + 1, none⟩ = some (.int .i64 ((rd_T33 x0_1 (ji10)).f1)) := hcc13 1 _ rfl
        have hx13_2 : World.cell? _ ⟨go13, ((ji10) : Int).toNat * 5 + 2, none⟩ = some (.int .i64 ((rd_T33 x0_1 (ji10)).f2)) := hcc13 2 _ rfl
        have hx13_3 : World.cell? _ ⟨go13, ((ji10) : Int).toNat * 5 + 3, none⟩ = some (.int .i64 ((rd_T33 x0_1 (ji10)).f3)) := hcc13 3 _ rfl
        have hx13_4 : World.cell? _ ⟨go13, ((ji10) : Int).toNat * 5 + 4, none⟩ = some (.string ((rd_T33 x0_1 (ji10)).f4)) := hcc13 4 _ rfl
        have hf13_0 : World.frozen? _ ⟨go13, ((ji10) : Int).toNat * 5, none⟩ = false := hfr13 0
        have hf13_1 : World.frozen? _ ⟨go13, ((ji10) : Int).toNat * 5 + 1, none⟩ = false := hfr13 1
        have hf13_2 : World.frozen? _ ⟨go13, ((ji10) : Int).toNat * 5 + 2, none⟩ = false := hfr13 2
        have hf13_3 : World.frozen? _ ⟨go13, ((ji10) : Int).toNat * 5 + 3, none⟩ = false := hfr13 3
        have hf13_4 : World.frozen? _ ⟨go13, ((ji10) : Int).toNat * 5 + 4, none⟩ = false := hfr13 4
        clear hcl13 hcc13 hfr13 hM13
        replace p13 := eq_true p13
        replace q13 := eq_true q13
        obtain ⟨ce17, hcl17, hM17, hcc17, hfr17⟩ := Kd.R_elem HO_0.out z33 ((ji10) : Int) (of_decide_eq_true (by (with_reducible assumption))) (by have h_ : ((ji10) : Int) < ((x0_1.length : Int) : Int) := of_decide_eq_true (by (with_reducible assumption)); (exact h_))
        obtain rfl := k33_openM hM17
        have HP17 := (Kd.R_seg HO_0.out ((ji10) : Int) (of_decide_eq_true (by (with_reducible assumption))) (by have h_ : ((ji10) : Int) < ((x0_1.length : Int) : Int) := of_decide_eq_true (by (with_reducible assumption)); (exact h_)) (seg := [.string ((rd_T33 x0_1 (ji7)).f0), .int .i64 ((rd_T33 x0_1 (ji7)).f1), .int .i64 ((rd_T33 x0_1 (ji7)).f2), .int .i64 ((rd_T33 x0_1 (ji7)).f3), .string ((rd_T33 x0_1 (ji7)).f4)]) (j := 0) hcl17 hcc17 (show 5 ≤ 5 from by decide) (x' := (⟨(rd_T33 x0_1 (ji7)).f0, (rd_T33 x0_1 (ji7)).f1, (rd_T33 x0_1 (ji7)).f2, (rd_T33 x0_1 (ji7)).f3, (rd_T33 x0_1 (ji7)).f4⟩ : S33)) (k33_mkM _ _ _ (⟨(rd_T33 x0_1 (ji7)).f0, (rd_T33 x0_1 (ji7)).f1, (rd_T33 x0_1 (ji7)).f2, (rd_T33 x0_1 (ji7)).f3, (rd_T33 x0_1 (ji7)).f4⟩ : S33) ) (fun _ hk => hk)).1
        rw [← Ny114.out] at HP17
        have HQ17 := Aside0.mk HP17
        clear hcl17 hcc17 hfr17 hM17 HP17
        have p14 : 0 ≤ ((ji7) : Int) := of_decide_eq_true (by (with_reducible assumption))
        have q14 : ((ji7) : Int) < ((x0_1.length : Int) : Int) := of_decide_eq_true (by (with_reducible assumption))
        obtain ⟨ce14, hcl14, hM14, hcc14, hfr14⟩ := Kd.R_elem HQ17.out z33 ((ji7) : Int) p14 q14
        obtain rfl := k33_openM hM14
        have hx14_0 : World.cell? _ ⟨go13, ((ji7) : Int).toNat * 5, none⟩ = some (.string ((rd_T33 y114 (ji7)).f0)) := hcc14 0 _ rfl
        have hx14_1 : World.cell? _ ⟨go13, ((ji7) : Int).toNat * 5 + 1, none⟩ = some (.int .i64 ((rd_T33 y114 (ji7)).f1)) := hcc14 1 _ rfl
        have hx14_2 : World.cell? _ ⟨go13, ((ji7) : Int).toNat * 5 + 2, none⟩ = some (.int .i64 ((rd_T33 y114 (ji7)).f2)) := hcc14 2 _ rfl
        have hx14_3 : World.cell? _ ⟨go13, ((ji7) : Int).toNat * 5 + 3, none⟩ = some (.int .i64 ((rd_T33 y114 (ji7)).f3)) := hcc14 3 _ rfl
        have hx14_4 : World.cell? _ ⟨go13, ((ji7) : Int).toNat * 5 + 4, none⟩ = some (.string ((rd_T33 y114 (ji7)).f4)) := hcc14 4 _ rfl
        have hf14_0 : World.frozen? _ ⟨go13, ((ji7) : Int).toNat * 5, none⟩ = false := hfr14 0
        have hf14_1 : World.frozen? _ ⟨go13, ((ji7) : Int).toNat * 5 + 1, none⟩ = false := hfr14 1
        have hf14_2 : World.frozen? _ ⟨go13, ((ji7) : Int).toNat * 5 + 2, none⟩ = false := hfr14 2
        have hf14_3 : World.frozen? _ ⟨go13, ((ji7) : Int).toNat * 5 + 3, none⟩ = false := hfr14 3
        have hf14_4 : World.frozen? _ ⟨go13, ((ji7) : Int).toNat * 5 + 4, none⟩ = false := hfr14 4
        clear hcl14 hcc14 hfr14 hM14
        replace p14 := eq_true p14
        replace q14 := eq_true q14
        obtain ⟨ce18, hcl18, hM18, hcc18, hfr18⟩ := Kd.R_elem HQ17.out z33 ((ji7) : Int) (of_decide_eq_true (by (with_reducible assumption))) (by have h_ : ((ji7) : Int) < ((x0_1.length : Int) : Int) := of_decide_eq_true (by (with_reducible assumption)); (exact h_))
        obtain rfl := k33_openM hM18
        have HP18 := (Kd.R_seg HQ17.out ((ji7) : Int) (of_decide_eq_true (by (with_reducible assumption))) (by have h_ : ((ji7) : Int) < ((x0_1.length : Int) : Int) := of_decide_eq_true (by (with_reducible assumption)); (exact h_)) (seg := [.string ((rd_T33 x0_1 (ji10)).f0), .int .i64 ((rd_T33 x0_1 (ji10)).f1), .int .i64 ((rd_T33 x0_1 (ji10)).f2), .int .i64 ((rd_T33 x0_1 (ji10)).f3), .string ((rd_T33 x0_1 (ji10)).f4)]) (j := 0) hcl18 hcc18 (show 5 ≤ 5 from by decide) (x' := (⟨(rd_T33 x0_1 (ji10)).f0, (rd_T33 x0_1 (ji10)).f1, (rd_T33 x0_1 (ji10)).f2, (rd_T33 x0_1 (ji10)).f3, (rd_T33 x0_1 (ji10)).f4⟩ : S33)) (k33_mkM _ _ _ (⟨(rd_T33 x0_1 (ji10)).f0, (rd_T33 x0_1 (ji10)).f1, (rd_T33 x0_1 (ji10)).f2, (rd_T33 x0_1 (ji10)).f3, (rd_T33 x0_1 (ji10)).f4⟩ : S33) ) (fun _ hk => hk)).1
        rw [← Ny115.out] at HP18
        have HQ18 := Aside0.mk HP18
        clear hcl18 hcc18 hfr18 hM18 HP18
        refine start_ (n := 24) (S := fun w' => w'.cell? ⟨go13, (((ji7)).toNat * 5), none⟩ = some (.string ((rd_T33 x0_1 (ji7)).f0)) ∧ w'.cell? ⟨go13, (((ji7)).toNat * 5) + 1, none⟩ = some (.int .i64 ((rd_T33 x0_1 (ji7)).f1)) ∧ w'.cell? ⟨go13, (((ji7)).toNat * 5) + 2, none⟩ = some (.int .i64 ((rd_T33 x0_1 (ji7)).f2)) ∧ w'.cell? ⟨go13, (((ji7)).toNat * 5) + 3, none⟩ = some (.int .i64 ((rd_T33 x0_1 (ji7)).f3)) ∧ w'.cell? ⟨go13, (((ji7)).toNat * 5) + 4, none⟩ = some (.string ((rd_T33 x0_1 (ji7)).f4)) ∧ w'.cell? ⟨go13, (((ji10)).toNat * 5), none⟩ = some (.string ((rd_T33 x0_1 (ji10)).f0)) ∧ w'.cell? ⟨go13, (((ji10)).toNat * 5) + 1, none⟩ = some (.int .i64 ((rd_T33 x0_1 (ji10)).f1)) ∧ w'.cell? ⟨go13, (((ji10)).toNat * 5) + 2, none⟩ = some (.int .i64 ((rd_T33 x0_1 (ji10)).f2)) ∧ w'.cell? ⟨go13, (((ji10)).toNat * 5) + 3, none⟩ = some (.int .i64 ((rd_T33 x0_1 (ji10)).f3)) ∧ w'.cell? ⟨go13, (((ji10)).toNat * 5) + 4, none⟩ = some (.string ((rd_T33 x0_1 (ji10)).f4))) (ds := [21, 23]) #[false, false, false, false, false, false, false, false, false, false, false, false, false, false, false, false, false, false, false, false, false, false, false, false] (by kernel_rfl) rfl rfl ⟨hx112_0, hx112_1, hx112_2, hx112_3, hx112_4, hx113_0, hx113_1, hx113_2, hx113_3, hx113_4⟩ (fun hHeld => ?_); refine with_tabW api_RR_98.tab3 api_RR_98.bits3 (fun HT_ HW_ => ?_)
        generalize wr.drew = w15 at HO_0 HK HB GG13 HQ17 HQ18 hf13_0 hf13_1 hf13_2 hf13_3 hf13_4 hf14_0 hf14_1 hf14_2 hf14_3 hf14_4 hx112_0 hx112_1 hx112_2 hx112_3 hx112_4 hx113_0 hx113_1 hx113_2 hx113_3 hx113_4 hx13_0 hx13_1 hx13_2 hx13_3 hx13_4 hx14_0 hx14_1 hx14_2 hx14_3 hx14_4 hHeld ⊢
        (try simp [go_sem, World.setCells, (show k33.sz = 5 from rfl)] at hf14_0 hf14_1 hf14_2 hf14_3 hf14_4 hx14_0 hx14_1 hx14_2 hx14_3 hx14_4)
        refine pure_ (i := 0) (N := some 16) (v := ?_) (a' := ?_) #[true, false, false, false, false, false, false, false, false, false, false, false, false, false, false, false, false, false, false, false, false, false, false, false] rfl rfl (any_of HT_.out (by kernel_rfl)) (fun _ _ _ h => h) (Or.inl ⟨by rfl, ?_⟩) ?_ ?_
        rotate_left
        ·intro w'
         go_simp
         with_reducible rfl
        rotate_left
        ·simp only [Act.put, List.setIfInBounds_toArray, List.set_cons_zero, List.set_cons_succ, i64_w, i32_w]
         rfl
        refine pure_ (i := 1) (N := some 17) (v := ?_) (a' := ?_) #[true, true, false, false, false, false, false, false, false, false, false, false, false, false, false, false, false, false, false, false, false, false, false, false] rfl rfl (any_of HT_.out (by kernel_rfl)) (fun _ _ _ h => h) (Or.inl ⟨by rfl, ?_⟩) ?_ ?_
        rotate_left
        ·intro w'
         go_simp
         with_reducible rfl
        rotate_left
        ·simp only [Act.put, List.setIfInBounds_toArray, List.set_cons_zero, List.set_cons_succ, i64_w, i32_w]
         rfl
        refine pure_ (i := 2) (N := some 18) (v := ?_) (a' := ?_) #[true, true, true, false, false, false, false, false, false, false, false, false, false, false, false, false, false, false, false, false, false, false, false, false] rfl rfl (any_of HT_.out (by kernel_rfl)) (fun _ _ _ h => h) (Or.inl ⟨by rfl, ?_⟩) ?_ ?_
        rotate_left
        ·intro w'
         go_simp
         with_reducible rfl
        rotate_left
        ·simp only [Act.put, List.setIfInBounds_toArray, List.set_cons_zero, List.set_cons_succ, i64_w, i32_w]
         rfl
        refine pure_ (i := 3) (N := some 19) (v := ?_) (a' := ?_) #[true, true, true, true, false, false, false, false, false, false, false, false, false, false, false, false, false, false, false, false, false, false, false, false] rfl rfl (any_of HT_.out (by kernel_rfl)) (fun _ _ _ h => h) (Or.inl ⟨by rfl, ?_⟩) ?_ ?_
        rotate_left
        ·intro w'
         go_simp
         with_reducible rfl
        rotate_left
        ·simp only [Act.put, List.setIfInBounds_toArray, List.set_cons_zero, List.set_cons_succ, i64_w, i32_w]
         rfl
        refine pure_ (i := 4) (N := some 20) (v := ?_) (a' := ?_) #[true, true, true, true, true, false, false, false, false, false, false, false, false, false, false, false, false, false, false, false, false, false, false, false] rfl rfl (any_of HT_.out (by kernel_rfl)) (fun _ _ _ h => h) (Or.inl ⟨by rfl, ?_⟩) ?_ ?_
        rotate_left
        ·intro w'
         go_simp
         with_reducible rfl
        rotate_left
        ·simp only [Act.put, List.setIfInBounds_toArray, List.set_cons_zero, List.set_cons_succ, i64_w, i32_w]
         rfl
        refine pure_ (i := 5) (N := some 21) (v := ?_) (a' := ?_) #[true, true, true, true, true, true, false, false, false, false, false, false, false, false, false, false, false, false, false, false, false, false, false, false] rfl rfl (any_of HT_.out (by kernel_rfl)) (fun _ _ _ h => h) (Or.inl ⟨by rfl, ?_⟩) ?_ ?_
        rotate_left
        ·intro w'
         go_simp
         with_reducible rfl
        rotate_left
        ·simp only [Act.put, List.setIfInBounds_toArray, List.set_cons_zero, List.set_cons_succ, i64_w, i32_w]
         rfl
        refine pure_ (i := 6) (N := some 22) (v := ?_) (a' := ?_) #[true, true, true, true, true, true, true, false, false, false, false, false, false, false, false, false, false, false, false, false, false, false, false, false] rfl rfl (any_of HT_.out (by kernel_rfl)) (fun _ _ _ h => h) (Or.inl ⟨by rfl, ?_⟩) ?_ ?_
        rotate_left
        ·intro w'
         go_simp
         with_reducible rfl
        rotate_left
        ·simp only [Act.put, List.setIfInBounds_toArray, List.set_cons_zero, List.set_cons_succ, i64_w, i32_w]
         rfl
        refine pure_ (i := 7) (N := some 23) (v := ?_) (a' := ?_) #[true, true, true, true, true, true, true, true, false, false, false, false, false, false, false, false, false, false, false, false, false, false, false, false] rfl rfl (any_of HT_.out (by kernel_rfl)) (fun _ _ _ h => h) (Or.inl ⟨by rfl, ?_⟩) ?_ ?_
        rotate_left
        ·intro w'
         go_simp
         with_reducible rfl
        rotate_left
        ·simp only [Act.put, List.setIfInBounds_toArray, List.set_cons_zero, List.set_cons_succ, i64_w, i32_w]
         rfl
        refine pure_ (i := 8) (N := some 24) (v := ?_) (a' := ?_) #[true, true, true, true, true, true, true, true, true, false, false, false, false, false, false, false, false, false, false, false, false, false, false, false] rfl rfl (any_of HT_.out (by kernel_rfl)) (fun _ _ _ h => h) (Or.inl ⟨by rfl, ?_⟩) ?_ ?_
        rotate_left
        ·intro w'
         go_simp
         with_reducible rfl
        rotate_left
        ·simp only [Act.put, List.setIfInBounds_toArray, List.set_cons_zero, List.set_cons_succ, i64_w, i32_w]
         rfl
        refine pure_ (i := 9) (N := some 25) (v := ?_) (a' := ?_) #[true, true, true, true, true, true, true, true, true, true, false, false, false, false, false, false, false, false, false, false, false, false, false, false] rfl rfl (any_of HT_.out (by kernel_rfl)) (fun _ _ _ h => h) (Or.inl ⟨by rfl, ?_⟩) ?_ ?_
        rotate_left
        ·intro w'
         go_simp
         with_reducible rfl
        rotate_left
        ·simp only [Act.put, List.setIfInBounds_toArray, List.set_cons_zero, List.set_cons_succ, i64_w, i32_w]
         rfl
        refine pure_ (i := 10) (N := some 26) (v := ?_) (a' := ?_) #[true, true, true, true, true, true, true, true, true, true, true, false, false, false, false, false, false, false, false, false, false, false, false, false] rfl rfl (any_of HT_.out (by kernel_rfl)) (fun _ _ _ h => h) (Or.inl ⟨by rfl, ?_⟩) ?_ ?_
        rotate_left
        ·intro w'
         go_simp
         with_reducible rfl
        rotate_left
        ·simp only [Act.put, List.setIfInBounds_toArray, List.set_cons_zero, List.set_cons_succ, i64_w, i32_w]
         rfl
        refine pure_ (i := 11) (N := some 27) (v := ?_) (a' := ?_) #[true, true, true, true, true, true, true, true, true, true, true, true, false, false, false, false, false, false, false, false, false, false, false, false] rfl rfl (any_of HT_.out (by kernel_rfl)) (fun _ _ _ h => h) (Or.inl ⟨by rfl, ?_⟩) ?_ ?_
        rotate_left
        ·intro w'
         go_simp
         with_reducible rfl
        rotate_left
        ·simp only [Act.put, List.setIfInBounds_toArray, List.set_cons_zero, List.set_cons_succ, i64_w, i32_w]
         rfl
        refine pure_ (i := 12) (N := some 28) (v := ?_) (a' := ?_) #[true, true, true, true, true, true, true, true, true, true, true, true, true, false, false, false, false, false, false, false, false, false, false, false] rfl rfl (any_of HT_.out (by kernel_rfl)) (fun _ _ _ h => h) (Or.inl ⟨by rfl, ?_⟩) ?_ ?_
        rotate_left
        ·intro w'
         go_simp
         with_reducible rfl
        rotate_left
        ·simp only [Act.put, List.setIfInBounds_toArray, List.set_cons_zero, List.set_cons_succ, i64_w, i32_w]
         rfl
        refine pure_ (i := 14) (N := some 30) (v := ?_) (a' := ?_) #[true, true, true, true, true, true, true, true, true, true, true, true, true, false, true, false, false, false, false, false, false, false, false, false] rfl rfl (any_of HT_.out (by kernel_rfl)) (fun _ _ _ h => h) (Or.inl ⟨by rfl, ?_⟩) ?_ ?_
        rotate_left
        ·intro w'
         go_simp
         with_reducible rfl
        rotate_left
        ·simp only [Act.put, List.setIfInBounds_toArray, List.set_cons_zero, List.set_cons_succ, i64_w, i32_w]
         rfl
        refine pure_ (i := 15) (N := some 31) (v := ?_) (a' := ?_) #[true, true, true, true, true, true, true, true, true, true, true, true, true, false, true, true, false, false, false, false, false, false, false, false] rfl rfl (any_of HT_.out (by kernel_rfl)) (fun _ _ _ h => h) (Or.inl ⟨by rfl, ?_⟩) ?_ ?_
        rotate_left
        ·intro w'
         go_simp
         with_reducible rfl
        rotate_left
        ·simp only [Act.put, List.setIfInBounds_toArray, List.set_cons_zero, List.set_cons_succ, i64_w, i32_w]
         rfl
        refine pure_ (i := 16) (N := some 32) (v := ?_) (a' := ?_) #[true, true, true, true, true, true, true, true, true, true, true, true, true, false, true, true, true, false, false, false, false, false, false, false] rfl rfl (any_of HT_.out (by kernel_rfl)) (fun _ _ _ h => h) (Or.inl ⟨by rfl, ?_⟩) ?_ ?_
        rotate_left
        ·intro w'
         go_simp
         with_reducible rfl
        rotate_left
        ·simp only [Act.put, List.setIfInBounds_toArray, List.set_cons_zero, List.set_cons_succ, i64_w, i32_w]
         rfl
        refine pure_ (i := 17) (N := some 33) (v := ?_) (a' := ?_) #[true, true, true, true, true, true, true, true, true, true, true, true, true, false, true, true, true, true, false, false, false, false, false, false] rfl rfl (any_of HT_.out (by kernel_rfl)) (fun _ _ _ h => h) (Or.inl ⟨by rfl, ?_⟩) ?_ ?_
        rotate_left
        ·intro w'
         go_simp
         with_reducible rfl
        rotate_left
        ·simp only [Act.put, List.setIfInBounds_toArray, List.set_cons_zero, List.set_cons_succ, i64_w, i32_w]
         rfl
        refine pure_ (i := 18) (N := some 34) (v := ?_) (a' := ?_) #[true, true, true, true, true, true, true, true, true, true, true, true, true, false, true, true, true, true, true, false, false, false, false, false] rfl rfl (any_of HT_.out (by kernel_rfl)) (fun _ _ _ h => h) (Or.inl ⟨by rfl, ?_⟩) ?_ ?_
        rotate_left
        ·intro w'
         go_simp
         with_reducible rfl
        rotate_left
        ·simp only [Act.put, List.setIfInBounds_toArray, List.set_cons_zero, List.set_cons_succ, i64_w, i32_w]
         rfl
        refine take_ (i := 13) (N := some 29) (v := ?_) (a' := ?_) #[true, true, true, true, true, true, true, true, true, true, true, true, true, true, true, true, true, true, true, false, false, false, false, false] rfl rfl (take_ofW HT_.out HW_.out (by kernel_rfl)) (fun _ _ _ h => h) (Or.inl ⟨by rfl, ?_⟩) hHeld ?_ ?_
        rotate_left
        ·rintro w' ⟨s0, s1, s2, s3, s4, s5, s6, s7, s8, s9⟩
         go_simp
         with_reducible rfl
        rotate_left
        ·simp only [Act.put, List.setIfInBounds_toArray, List.set_cons_zero, List.set_cons_succ, i64_w, i32_w]
         rfl
        refine take_ (i := 19) (N := some 35) (v := ?_) (a' := ?_) #[true, true, true, true, true, true, true, true, true, true, true, true, true, true, true, true, true, true, true, true, false, false, false, false] rfl rfl (take_ofW HT_.out HW_.out (by kernel_rfl)) (fun _ _ _ h => h) (Or.inl ⟨by rfl, ?_⟩) hHeld ?_ ?_
        rotate_left
        ·rintro w' ⟨s0, s1, s2, s3, s4, s5, s6, s7, s8, s9⟩
         go_simp
         with_reducible rfl
        rotate_left
        ·simp only [Act.put, List.setIfInBounds_toArray, List.set_cons_zero, List.set_cons_succ, i64_w, i32_w]
         rfl
        refine pure_ (i := 20) (N := some 36) (v := ?_) (a' := ?_) #[true, true, true, true, true, true, true, true, true, true, true, true, true, true, true, true, true, true, true, true, true, false, false, false] rfl rfl (any_of HT_.out (by kernel_rfl)) (fun _ _ _ h => h) (Or.inl ⟨by rfl, ?_⟩) ?_ ?_
        rotate_left
        ·intro w'
         go_simp
         with_reducible rfl
        rotate_left
        ·simp only [Act.put, List.setIfInBounds_toArray, List.set_cons_zero, List.set_cons_succ, i64_w, i32_w]
         rfl
        refine last_ (i := 21) (N := none) #[true, true, true, true, true, true, true, true, true, true, true, true, true, true, true, true, true, true, true, true, true, true, false, false] rfl rfl (one_of HT_.out (by kernel_rfl)) (by decide) (fun K hK => ?_)
        refine skip_ (w1 := ?_) (by rfl) rfl ?_ ?_
        rotate_left
        ·go_simp
         rfl
        refine hK.out _ _ ?_
        clear hK K
        refine pure_ (i := 22) (N := some 37) (v := ?_) (a' := ?_) #[true, true, true, true, true, true, true, true, true, true, true, true, true, true, true, true, true, true, true, true, true, true, true, false] rfl rfl (any_of HT_.out (by kernel_rfl)) (fun _ _ _ h => h) (Or.inl ⟨by rfl, ?_⟩) ?_ ?_
        rotate_left
        ·intro w'
         go_simp
         with_reducible rfl
        rotate_left
        ·simp only [Act.put, List.setIfInBounds_toArray, List.set_cons_zero, List.set_cons_succ, i64_w, i32_w]
         rfl
        refine last_ (i := 23) (N := none) #[true, true, true, true, true, true, true, true, true, true, true, true, true, true, true, true, true, true, true, true, true, true, true, true] rfl rfl (one_of HT_.out (by kernel_rfl)) (by decide) (fun K hK => ?_)
        refine skip_ (w1 := ?_) (by rfl) rfl ?_ ?_
        rotate_left
        ·go_simp
         rfl
        refine hK.out _ _ ?_
        clear hK K
        refine done_ (done_of HT_.out (by kernel_rfl)) ?_
        (try go_wp2)
        go_roundg k1
        case measure => have := HK1.out; omega
        case rel => exact ⟨(y115), (wrap64 (x10_1 + 1)), (by rfl), H', ⟨by have := HK1.out; omega⟩, ⟨by (with_reducible repeat ((apply Kd.R_alloc))); exact HQ18.out⟩, ⟨by repeat ((with_reducible first | exact HK.out | refine Kept.setCell ?_ HMgo13.out _))⟩, ⟨by repeat ((with_reducible first | exact HB.out | refine below_set ?_ GB13.out))⟩⟩
       ·rw [if_neg c12] at H
        exact absurd H (by simp)
      ·rw [if_neg c11] at H
       exact absurd H (by simp)
     ·rw [if_neg c9] at H
      exact absurd H (by simp)
    ·rw [if_neg c8] at H
     exact absurd H (by simp)
   ·rw [if_neg c6] at H
    have c6b0 : decide (x10_1 < a3) = false := decide_eq_false c6
    clear c6
    obtain rfl := Option.some.inj H
    go_wp2
    go_end0
    exact ⟨by rfl, by (with_reducible repeat ((apply Kd.R_alloc))); exact HO_0.out, by repeat ((with_reducible (exact HB.out))), by repeat ((with_reducible (exact HK.out)))⟩
def api_RR_92.l0 : Nat → List (S33) → Int → Int → Int → Int → Option ((List (S33)))
 | 0, _, _, _, _, _ => none
 | k + 1, x0, x2, x4, x10, x11 => if x10 = x11 then ((api_RR_98.f k x0 (wrap64 (x2 - x10)) x2 x10 x4).bind fun t116 => (some t116)) else (if x10 > x11 then ((api_RR_98.f k x0 (wrap64 (x2 - x10)) x2 x11 x4).bind fun t117 => (api_RR_92.l0 k t117 x2 x4 (wrap64 (x10 - x11)) x11)) else ((api_RR_98.f k x0 (wrap64 (x2 - x10)) (wrap64 ((wrap64 (x2 + x11)) - x10)) x10 x4).bind fun t118 => (api_RR_92.l0 k t118 x2 x4 x10 (wrap64 (x11 - x10)))))
def api_RR_92.f (k : Nat) (l0 : List (S33)) (a1 : Int) (a2 : Int) (a3 : Int) (a4 : Int) : Option ((List (S33))) := api_RR_92.l0 k l0 a2 a4 (wrap64 (a2 - a1)) (wrap64 (a3 - a2))
set_option maxHeartbeats 8000000 in
set_option maxRecDepth 100000 in
theorem api_RR_92.calls (k : Nat) (P0_ : Nat → Prop) (u9000_ : Value) (l0 : List (S33)) (a1 : Int) (a2 : Int) (a3 : Int) (a4 : Int) (r : List (S33)) (w0 w : World) (hB : Below w0.heap.size w0 w) (ho0 : Kd.R k33 33 w w0.heap.size P0_ u9000_ l0) (h : api_RR_92.f k l0 a1 a2 a3 a4 = some r) :
  Calls Try.prog 92 #[u9000_, .int .i64 a1, .int .i64 a2, .int .i64 a3, .func (.func 44) #[] #[]] w fun e w' => e = .returned (.tuple #[]) ∧ Kd.R k33 33 w' w0.heap.size (fun k_ => (P0_ k_ ∨ w.heap.size ≤ k_)) u9000_ r ∧ Below w0.heap.size w0 w' ∧ Kept w w' (fun k_ => P0_ k_) := by
 have HO0 := Aside0.mk (show Kd.R k33 33 w w0.heap.size (fun k_ => (P0_ k_ ∨ w.heap.size ≤ k_)) u9000_ l0 from Kd.R_mono ho0 (fun k_ hk => (.inl hk)))
 have HK := Aside0.mk (Kept.refl w (fun k_ => P0_ k_))
 have HW0 := Aside0.mk hB.size
 have HB := Aside0.mk hB
 clear hB
 have H : (api_RR_92.l0 k l0 a2 a4 (wrap64 (a2 - a1)) (wrap64 (a3 - a2))) = some r := h
 clear h
 have H' := Aside0.mk H
 clear H
 go_enter Try.func92, Try.ntmps92
 go_wp2
 go_loopg [10, 11] k (fun kq v10 v11 w' => ∃ (x0_1 : List (S33)) (x10_1 : Int) (x11_1 : Int), v10 = .int .i64 x10_1 ∧ v11 = .int .i64 x11_1 ∧ Aside0 (api_RR_92.l0 kq x0_1 a2 a4 x10_1 x11_1 = some r) ∧ Aside0 (kq ≤ k) ∧ Aside0 (Kd.R k33 33 w' w0.heap.size (fun k_ => (P0_ k_ ∨ w.heap.size ≤ k_)) u9000_ x0_1) ∧ Aside0 (Kept w w' (fun k_ => P0_ k_)) ∧ Aside0 (Below w0.heap.size w0 w'))
 case atStart => exact ⟨(l0), (wrap64 (a2 - a1)), (wrap64 (a3 - a2)), (by rfl), (by rfl), H', ⟨Nat.le_refl _⟩, ⟨by (with_reducible repeat ((apply Kd.R_alloc))); exact HO0.out⟩, ⟨by repeat ((with_reducible (exact HK.out)))⟩, ⟨by repeat ((with_reducible (exact HB.out)))⟩⟩
 case round =>
  clear H'
  obtain ⟨x0_1, x10_1, x11_1, rfl, rfl, HA, HK1, HO_0, HK, HB⟩ := hrel
  cases gk with
  | zero => exact absurd HA.out (by simp [api_RR_92.l0])
  | succ k1 =>
   have H := HA.out
   clear HA
   simp only [api_RR_92.l0] at H
   by_cases c6 : x10_1 = x11_1
   ·rw [if_pos c6] at H
    have c6b0 : (x10_1 == x11_1) = true := beq_iff_eq.mpr c6
    have c6b1 : (x10_1 != x11_1) = false := bne_eq_false_iff_eq.mpr c6
    clear c6
    replace H := Option.bind_eq_some_iff.mp H
    obtain ⟨t116, A70, H⟩ := H
    replace H : (some t116) = some r := H
    have A7 := Aside0.mk A70
    clear A70
    obtain rfl := Option.some.inj H
    obtain ⟨Ao8, co8, eo8⟩ := Kd.R_slice HO_0.out
    subst eo8
    go_wp2_with ((((with_reducible refine gate_callee (f := 98) rfl ?_); refine goesL_ (some 57) rfl rfl Try.func98 (by kernel_rfl) rfl #[.slice Ao8 x0_1.length co8, .int .i64 (wrap64 (a2 - x10_1)), .int .i64 a2, .int .i64 x10_1, .func (.func 44) #[] #[]] rfl (by (try simp only [List.map_toArray, List.map_cons, List.map_nil]); rfl) ?_; (with_reducible refine (api_RR_98.calls k1 (fun k_ => some k_ = (.slice Ao8 x0_1.length co8 : Value).ownBlock) (.slice Ao8 x0_1.length co8) x0_1 (wrap64 (a2 - x10_1)) a2 x10_1 a4 t116 w0 _ ?side1 ?side2 A7.out).mono ?_); (case side1 => repeat ((with_reducible (exact HB.out)))); (case side2 => exact Kd.R_tight rfl HO_0.out); rintro e w9 ⟨rfl, hy0, hb, hkp⟩; refine ⟨_, rfl, ?_⟩; have n0_ := Aside0.mk (Kd.R_reok rfl hy0 (fun k_ e_ => HO_0.out.1 k_ e_)); have n1_ := Aside0.mk (Kept.then_ (S := (fun k_ => P0_ k_)) (by repeat ((with_reducible (exact HK.out)))) hkp (fun k_ hs_ => (fun e_ => (HO_0.out.1 k_ e_.symm)) hs_)); have n2_ := Aside0.mk (hb); clear HO_0; clear HK; clear HB; have HO_0 := n0_; have HK := n1_; have HB := n2_; clear n0_ n1_ n2_; (try clear hb); (try clear hkp); (try clear hy0))))
    go_end0
    exact ⟨by rfl, by (with_reducible repeat ((apply Kd.R_alloc))); exact HO_0.out, by repeat ((with_reducible (exact HB.out))), by repeat ((with_reducible (exact HK.out)))⟩
   ·rw [if_neg c6] at H
    have c6b0 : (x10_1 == x11_1) = false := beq_eq_false_iff_ne.mpr c6
    have c6b1 : (x10_1 != x11_1) = true := bne_iff_ne.mpr c6
    by_cases c10 : x10_1 > x11_1
    ·rw [if_pos c10] at H
     have c10b0 : decide (x11_1 < x10_1) = true := decide_eq_true c10
     clear c10
     replace H := Option.bind_eq_some_iff.mp H
     obtain ⟨t117, A110, H⟩ := H
     replace H : (api_RR_92.l0 k1 t117 a2 a4 (wrap64 (x10_1 - x11_1)) x11_1) = some r := H
     have A11 := Aside0.mk A110
     clear A110
     have H' := Aside0.mk H
     clear H
     obtain ⟨Ao12, co12, eo12⟩ := Kd.R_slice HO_0.out
     subst eo12
     go_wp2_with ((((with_reducible refine gate_callee (f := 98) rfl ?_); refine goesL_ (some 31) rfl rfl Try.func98 (by kernel_rfl) rfl #[.slice Ao12 x0_1.length co12, .int .i64 (wrap64 (a2 - x10_1)), .int .i64 a2, .int .i64 x11_1, .func (.func 44) #[] #[]] rfl (by (try simp only [List.map_toArray, List.map_cons, List.map_nil]); rfl) ?_; (with_reducible refine (api_RR_98.calls k1 (fun k_ => some k_ = (.slice Ao12 x0_1.length co12 : Value).ownBlock) (.slice Ao12 x0_1.length co12) x0_1 (wrap64 (a2 - x10_1)) a2 x11_1 a4 t117 w0 _ ?side1 ?side2 A11.out).mono ?_); (case side1 => repeat ((with_reducible (exact HB.out)))); (case side2 => exact Kd.R_tight rfl HO_0.out); rintro e w13 ⟨rfl, hy0, hb, hkp⟩; refine ⟨_, rfl, ?_⟩; have n0_ := Aside0.mk (Kd.R_reok rfl hy0 (fun k_ e_ => HO_0.out.1 k_ e_)); have n1_ := Aside0.mk (Kept.then_ (S := (fun k_ => P0_ k_)) (by repeat ((with_reducible (exact HK.out)))) hkp (fun k_ hs_ => (fun e_ => (HO_0.out.1 k_ e_.symm)) hs_)); have n2_ := Aside0.mk (hb); clear HO_0; clear HK; clear HB; have HO_0 := n0_; have HK := n1_; have HB := n2_; clear n0_ n1_ n2_; (try clear hb); (try clear hkp); (try clear hy0))))
     go_roundg k1
     case measure => have := HK1.out; omega
     case rel => exact ⟨(t117), (wrap64 (x10_1 - x11_1)), (x11_1), (by rfl), (by rfl), H', ⟨by have := HK1.out; omega⟩, ⟨by (with_reducible repeat ((apply Kd.R_alloc))); exact HO_0.out⟩, ⟨by repeat ((with_reducible (exact HK.out)))⟩, ⟨by repeat ((with_reducible (exact HB.out)))⟩⟩
    ·rw [if_neg c10] at H
     have c10b0 : decide (x11_1 < x10_1) = false := decide_eq_false c10
     clear c10
     replace H := Option.bind_eq_some_iff.mp H
     obtain ⟨t118, A140, H⟩ := H
     replace H : (api_RR_92.l0 k1 t118 a2 a4 x10_1 (wrap64 (x11_1 - x10_1))) = some r := H
     have A14 := Aside0.mk A140
     clear A140
     have H' := Aside0.mk H
     clear H
     obtain ⟨Ao15, co15, eo15⟩ := Kd.R_slice HO_0.out
     subst eo15
     go_wp2_with ((((with_reducible refine gate_callee (f := 98) rfl ?_); refine goesL_ (some 46) rfl rfl Try.func98 (by kernel_rfl) rfl #[.slice Ao15 x0_1.length co15, .int .i64 (wrap64 (a2 - x10_1)), .int .i64 (wrap64 ((wrap64 (a2 + x11_1)) - x10_1)), .int .i64 x10_1, .func (.func 44) #[] #[]] rfl (by (try simp only [List.map_toArray, List.map_cons, List.map_nil]); rfl) ?_; (with_reducible refine (api_RR_98.calls k1 (fun k_ => some k_ = (.slice Ao15 x0_1.length co15 : Value).ownBlock) (.slice Ao15 x0_1.length co15) x0_1 (wrap64 (a2 - x10_1)) (wrap64 ((wrap64 (a2 + x11_1)) - x10_1)) x10_1 a4 t118 w0 _ ?side1 ?side2 A14.out).mono ?_); (case side1 => repeat ((with_reducible (exact HB.out)))); (case side2 => exact Kd.R_tight rfl HO_0.out); rintro e w16 ⟨rfl, hy0, hb, hkp⟩; refine ⟨_, rfl, ?_⟩; have n0_ := Aside0.mk (Kd.R_reok rfl hy0 (fun k_ e_ => HO_0.out.1 k_ e_)); have n1_ := Aside0.mk (Kept.then_ (S := (fun k_ => P0_ k_)) (by repeat ((with_reducible (exact HK.out)))) hkp (fun k_ hs_ => (fun e_ => (HO_0.out.1 k_ e_.symm)) hs_)); have n2_ := Aside0.mk (hb); clear HO_0; clear HK; clear HB; have HO_0 := n0_; have HK := n1_; have HB := n2_; clear n0_ n1_ n2_; (try clear hb); (try clear hkp); (try clear hy0))))
     go_roundg k1
     case measure => have := HK1.out; omega
     case rel => exact ⟨(t118), (x10_1), (wrap64 (x11_1 - x10_1)), (by rfl), (by rfl), H', ⟨by have := HK1.out; omega⟩, ⟨by (with_reducible repeat ((apply Kd.R_alloc))); exact HO_0.out⟩, ⟨by repeat ((with_reducible (exact HK.out)))⟩, ⟨by repeat ((with_reducible (exact HB.out)))⟩⟩
end Go.Proofs.Ytehdkopjgcoclaa.PSo
