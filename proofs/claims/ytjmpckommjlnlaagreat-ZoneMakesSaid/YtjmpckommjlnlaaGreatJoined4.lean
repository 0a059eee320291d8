/- Contracts and facts that the claim's row is drawn from, each with its own conditions. -/
import Derived.Test.YtjmpckommjlnlaaGreatJoined3
import Derived.Deep.QuietTactic
import Derived.BigQuiet
import Derived.BigRegion
import Derived.StillTailTactics
import Derived.Deep.LoopGhost
import Derived.Outline
set_option linter.unusedSimpArgs false
set_option linter.unusedVariables false
set_option maxHeartbeats 8000000
set_option maxRecDepth 100000
open Go.Proofs Go.RowKit
namespace Go.Y.Rrs
open Go.Proofs.aj.aD Go.Proofs.aj.aQ Go.Proofs.aj.aW Go.Y.Given Go.Y.PRd Go.Y.PRr Go.Y.Oct Go.Y.Name Go.Y.Cmp Go.Y.gL Go.Y.dY Go.Y.eU
def fK (a b : ByteArray) : Bool := (dH.f a b).getD false
def mJ (a b : ByteArray) : Bool := (bM.f 300 a b).getD false
theorem oP (a b : ByteArray) : (∃ l m, good l ∧ good m ∧ (bN l).size ≤ 255 ∧ (bN m).size ≤ 255 ∧ a = bN l ∧ b = bN m) ∨ (bJ a = false ∨ bJ b = false) := by
 cases ha : bJ a
 ·exact .inr (.inl rfl)
 cases hb : bJ b
 ·exact .inr (.inr rfl)
 obtain ⟨l, h1, h2, h3⟩ := (lM a).mp ha
 obtain ⟨m, k1, k2, k3⟩ := (lM b).mp hb
 exact .inl ⟨l, m, h1, k1, h3, k3, h2, k2⟩
theorem mY (a b : ByteArray) : dH.f a b = some (fK a b) := by
 unfold fK
 rcases oP a b with ⟨l, m, gl, gm, sl, sm, rfl, rfl⟩ | h
 ·rw [tK l m gl gm sl sm]; rfl
 ·rw [zq a b h]; rfl
theorem uz {l m : List ByteArray} (gl : good l) (gm : good m) (sl : (bN l).size ≤ 255) (sm : (bN m).size ≤ 255) : fK (bN l) (bN m) = decide (l.map eP = m.map eP) := by
 unfold fK; rw [tK l m gl gm sl sm]; rfl
theorem DK {a b : ByteArray} (h : bJ a = false ∨ bJ b = false) : fK a b = false := by
 unfold fK; rw [zq a b h]; rfl
theorem Gt (a b : ByteArray) (k : Nat) (hk : 300 ≤ k) : bM.f k a b = some (mJ a b) := by
 unfold mJ
 rcases oP a b with ⟨l, m, gl, gm, sl, sm, rfl, rfl⟩ | h
 ·rw [wQ l m gl gm sl sm k hk, wQ l m gl gm sl sm 300 (Nat.le_refl _)]; rfl
 ·rw [uY a b h k (by omega), uY a b h 300 (by omega)]; rfl
theorem Ak {l m : List ByteArray} (gl : good l) (gm : good m) (sl : (bN l).size ≤ 255) (sm : (bN m).size ≤ 255) : mJ (bN l) (bN m) = mO m l := by
 unfold mJ; rw [wQ l m gl gm sl sm 300 (Nat.le_refl _)]; rfl
theorem Ep {a b : ByteArray} (h : bJ a = false ∨ bJ b = false) : mJ a b = false := by
 unfold mJ; rw [uY a b h 300 (by omega)]; rfl
theorem yu (a b : ByteArray) : Ev (fun k => dK.f k a b) (fK a b) := ⟨700, fun k hk => by
 rcases oP a b with ⟨l, m, gl, gm, sl, sm, rfl, rfl⟩ | h
 ·show dK.f k _ _ = _
  rw [Dc l m gl gm sl sm k hk, uz gl gm sl sm]
 ·show dK.f k _ _ = _
  rw [Em a b h k hk, DK h]⟩
theorem EO (a b : ByteArray) : Ev (fun k => aU.f k a b) (mJ a b) := ⟨1000, fun k hk => by
 rcases oP a b with ⟨l, m, gl, gm, sl, sm, rfl, rfl⟩ | h
 ·show aU.f k _ _ = _
  rw [Df l m gl gm sl sm k hk, Ak gl gm sl sm]
 ·show aU.f k _ _ = _
  rw [DY a b h k hk, Ep h]⟩
theorem xV {x y : RR} (hx : bJ x.f0 = true) (hy : bJ y.f0 = true) : fK x.f0 y.f0 = true ↔ je x = je y := by
 obtain ⟨l, gl, sl, el, kl⟩ := nS x hx
 obtain ⟨m, gm, sm, em, km⟩ := nS y hy
 rw [kl, km, el, em, uz gl gm sl sm, decide_eq_true_eq, List.reverse_inj]
theorem wh {a : ByteArray} (ha : bJ a = true) : fK a a = true := (xV (x := ⟨a, 0, 0, 0, a⟩) (y := ⟨a, 0, 0, 0, a⟩) ha ha).mpr rfl
theorem Hg (x : RR) : jP.f x.f0 x.f1 x.f2 x.f3 x.f4 = some (mP x.f2 x.f4) := by
 unfold jP.f mP
 repeat' split
 all_goals rfl
theorem Cg (b : Bool) (x : RR) (h : b = false → x.f4.size ≤ 1000000) : Ev (fun k => bE.j0 k b x.f0 x.f1 x.f2 x.f3 x.f4) (!b && (!mP x.f2 x.f4 || fZ x.f1 x.f4)) := by
 have hs : ∀ k, bE.j0 (k + 1) b x.f0 x.f1 x.f2 x.f3 x.f4 = if b = true then some false else (jP.f x.f0 x.f1 x.f2 x.f3 x.f4).bind fun t => if t = true then (iP.f x.f1 x.f4).bind fun u => some u else some true := fun k => by
  simp only [bE.j0]
 refine Ev.step hs ?_
 cases b
 ·simp only [Hg, Option.bind_some, Bool.false_eq_true, if_false]
  cases ht : mP x.f2 x.f4
  ·simp only [Bool.false_eq_true, if_false]
   exact Ev.now _
  ·simp only [if_true]
   refine Ev.const ?_
   have := h rfl
   unfold iP.f
   rw [if_pos (by omega)]
   rfl
 ·simp only [if_true]
  exact Ev.now _
theorem uP (x : RR) : Ev (fun k => bE.f k x.f0 x.f1 x.f2 x.f3 x.f4) (gF x) := by
 have hs : ∀ k, bE.f k x.f0 x.f1 x.f2 x.f3 x.f4 = bE.j0 k (!(bJ x.f0 && (decide (0 ≤ x.f1) && (decide (x.f1 ≤ 65535) && (decide (0 ≤ x.f2) && (decide (x.f2 ≤ 65535) && (decide (0 ≤ x.f3) && (decide (x.f3 ≤ 2147483647) && decide (x.f4.size ≤ 65535))))))))) x.f0 x.f1 x.f2 x.f3 x.f4 := fun k => by
  unfold bE.f
  rw [kI, Option.bind_some]
  by_cases h1 : x.f1 < 0
  ·simp [h1, show ¬ (0 ≤ x.f1) by omega]
  by_cases h2 : x.f1 > 65535
  ·simp [h1, h2, show ¬ (x.f1 ≤ 65535) by omega]
  by_cases h3 : x.f2 < 0
  ·simp [h1, h2, h3, show ¬ (0 ≤ x.f2) by omega]
  by_cases h4 : x.f2 > 65535
  ·simp [h1, h2, h3, h4, show ¬ (x.f2 ≤ 65535) by omega]
  by_cases h5 : x.f3 < 0
  ·simp [h1, h2, h3, h4, h5, show ¬ (0 ≤ x.f3) by omega]
  by_cases h6 : x.f3 > 2147483647
  ·simp [h1, h2, h3, h4, h5, h6, show ¬ (x.f3 ≤ 2147483647) by omega]
  have e7 : decide ((x.f4.size : Int) > 65535) = !decide (x.f4.size ≤ 65535) := by
   by_cases h7 : x.f4.size ≤ 65535
   ·rw [decide_eq_true h7, decide_eq_false (by omega)]; rfl
   ·rw [decide_eq_false h7, decide_eq_true (by omega)]; rfl
  rw [if_neg h1, if_neg h2, if_neg h3, if_neg h4, if_neg h5, if_neg h6, e7]
  cases bJ x.f0
  ·simp
  ·simp [show 0 ≤ x.f1 by omega, show x.f1 ≤ 65535 by omega, show 0 ≤ x.f2 by omega, show x.f2 ≤ 65535 by omega, show 0 ≤ x.f3 by omega, show x.f3 ≤ 2147483647 by omega]
 refine Ev.congr hs ?_
 refine (?_ : (!(!(bJ x.f0 && _)) && _) = gF x) ▸ Cg _ x ?_
 ·unfold gF
  simp only [Bool.not_not, Bool.and_assoc]
 ·intro h
  simp only [Bool.not_eq_false', Bool.and_eq_true, decide_eq_true_eq] at h
  omega
def qc (t : Int) : Bool := (iN.f t).getD false
theorem Kg (t : Int) : iN.f t = some (qc t) := by
 unfold qc iN.f
 repeat' split
 all_goals rfl
def kH (a : ByteArray) (x : RR) : Bool := decide (x.f2 = 1) && (qc x.f1 && mJ x.f0 a)
theorem uK (a : ByteArray) (x : RR) (k : Nat) (hk : 300 ≤ k) : gP.f k a x.f0 x.f1 x.f2 x.f3 x.f4 = some (kH a x) := by
 unfold gP.f kH
 rw [Kg, Gt _ _ k hk]
 by_cases h : x.f2 = 1
 ·rw [if_pos h, decide_eq_true h, Option.bind_some]
  cases qc x.f1 <;> rfl
 ·rw [if_neg h, decide_eq_false h]; rfl
def atL (l : List RR) (n : ByteArray) : List RR := l.filter fun x => fK x.f0 n
def fD (l : List RR) (t : Int) : List RR := l.filter fun x => x.f1 == t
def nI (l : List RR) (n : ByteArray) (t : Int) : List RR := fD (atL l n) t
theorem IB (l : List RR) (n : ByteArray) (h : l.length ≤ 1000000) : lS.f l n = some (atL l n) := by
 unfold lS.f
 rw [if_pos ⟨h, fun x _ => by rw [mY]; rfl⟩]
 rfl
theorem zu (l : List RR) (t : Int) (h : l.length ≤ 1000000) : jm.f l t = some (fD l t) := by
 unfold jm.f
 rw [if_pos h]; rfl
theorem Bv (l : List RR) (n : ByteArray) : (atL l n).length ≤ l.length := List.length_filter_le _ _
theorem Gu (l : List RR) (n : ByteArray) (hn : l.length ≤ 1000000) : ∀ (d i : Nat) (out : List RR), l.length ≤ i + d → i ≤ l.length → out.length ≤ i → Ev (fun k => bU.l0 k l n out (i : Int)) (out ++ atL (l.drop i) n) := by
 have hend : ∀ (i : Nat) (out : List RR), l.length ≤ i → Ev (fun k => bU.l0 k l n out (i : Int)) (out ++ atL (l.drop i) n) := by
  intro i out hd
  refine Ev.step (f := fun _ => some out) (fun k => by rw [bU.l0]; rw [if_neg (by omega)]) ?_
  rw [List.drop_of_length_le hd]
  show Ev _ (out ++ [])
  rw [List.append_nil]
  exact Ev.now _
 intro d
 induction d with
 | zero => exact fun i out hd hi0 ho => hend i out (by omega)
 | succ d ih =>
  intro i out hd hi0 ho
  by_cases hi : i < l.length
  ·have e1 : wrap64 ((i : Int) + 1) = ((i + 1 : Nat) : Int) := by unfold wrap64; omega
   have hr := fA l i hi
   have hs : ∀ k, bU.l0 (k + 1) l n out (i : Int) = (dK.f k (rdR l (i : Int)).f0 n).bind fun t => if t = true then bU.l0 k l n (out ++ [rdR l (i : Int)]) ((i + 1 : Nat) : Int) else bU.l0 k l n out ((i + 1 : Nat) : Int) := fun k => by
    rw [bU.l0, e1]
    rw [if_pos (by omega), if_pos (by omega)]
    congr 1
    funext t
    rw [if_pos (show out.length < _ by omega)]
   rw [hr] at hs
   refine Ev.step hs (Ev.bind (yu _ _) ?_)
   rw [List.drop_eq_getElem_cons hi]
   unfold atL
   rw [List.filter_cons]
   cases fK l[i].f0 n
   ·simp only [Bool.false_eq_true, if_false]
    exact ih (i + 1) out (by omega) (by omega) (by omega)
   ·simp only [if_true]
    have := ih (i + 1) (out ++ [l[i]]) (by omega) (by omega) (by rw [List.length_append, List.length_singleton]; omega)
    rw [List.append_assoc, List.singleton_append] at this
    exact this
  ·exact hend i out (by omega)
theorem DI (l : List RR) (n : ByteArray) (hn : l.length ≤ 1000000) : Ev (fun k => bU.f k l n) (atL l n) := by
 have := Gu l n hn l.length 0 [] (by omega) (Nat.zero_le _) (Nat.le_refl _)
 rw [List.drop_zero, List.nil_append] at this
 exact this
theorem GN (l : List RR) (t : Int) (hn : l.length ≤ 1000000) : ∀ (d i : Nat) (out : List RR), l.length ≤ i + d → i ≤ l.length → out.length ≤ i → Ev (fun k => bK.l0 k l t out (i : Int)) (out ++ fD (l.drop i) t) := by
 have hend : ∀ (i : Nat) (out : List RR), l.length ≤ i → Ev (fun k => bK.l0 k l t out (i : Int)) (out ++ fD (l.drop i) t) := by
  intro i out hd
  refine Ev.step (f := fun _ => some out) (fun k => by rw [bK.l0]; rw [if_neg (by omega)]) ?_
  rw [List.drop_of_length_le hd]
  show Ev _ (out ++ [])
  rw [List.append_nil]
  exact Ev.now _
 intro d
 induction d with
 | zero => exact fun i out hd hi0 ho => hend i out (by omega)
 | succ d ih =>
  intro i out hd hi0 ho
  by_cases hi : i < l.length
  ·have e1 : wrap64 ((i : Int) + 1) = ((i + 1 : Nat) : Int) := by unfold wrap64; omega
   have hr := fA l i hi
   have hs : ∀ k, bK.l0 (k + 1) l t out (i : Int) = if (rdR l (i : Int)).f1 = t then bK.l0 k l t (out ++ [rdR l (i : Int)]) ((i + 1 : Nat) : Int) else bK.l0 k l t out ((i + 1 : Nat) : Int) := fun k => by
    rw [bK.l0, e1]
    rw [if_pos (by omega), if_pos (by omega), if_pos (show out.length < _ by omega)]
   rw [hr] at hs
   refine Ev.step hs ?_
   rw [List.drop_eq_getElem_cons hi]
   unfold fD
   rw [List.filter_cons]
   by_cases h : l[i].f1 = t
   ·simp only [h, beq_self_eq_true, if_true]
    have := ih (i + 1) (out ++ [l[i]]) (by omega) (by omega) (by rw [List.length_append, List.length_singleton]; omega)
    rw [List.append_assoc, List.singleton_append] at this
    exact this
   ·simp only [h, beq_eq_false_iff_ne.mpr h, Bool.false_eq_true, if_false]
    exact ih (i + 1) out (by omega) (by omega) (by omega)
  ·exact hend i out (by omega)
theorem rT (l : List RR) (t : Int) (hn : l.length ≤ 1000000) : Ev (fun k => bK.f k l t) (fD l t) := by
 have := GN l t hn l.length 0 [] (by omega) (Nat.zero_le _) (Nat.le_refl _)
 rw [List.drop_zero, List.nil_append] at this
 exact this
def nC (l : List RR) (i : Nat) : Bool := !((rdR l (i : Int)).f1 == 5 && ((decide (0 < i) && fK (rdR l ((i - 1 : Nat) : Int)).f0 (rdR l (i : Int)).f0) || (decide (i + 1 < l.length) && fK (rdR l ((i + 1 : Nat) : Int)).f0 (rdR l (i : Int)).f0)))
def kZ (l : List RR) : Nat → Nat → Bool
 | 0, _ => true
 | d + 1, i => if i < l.length then nC l i && kZ l d (i + 1) else true
def pR (l : List RR) : Bool := kZ l l.length 0
theorem Dp (l : List RR) (hn : l.length ≤ 1000000) : ∀ (d i : Nat), l.length ≤ i + d → i ≤ l.length → Ev (fun k => bV.l0 k l l (l.length : Int) (i : Int)) (kZ l d i) := by
 intro d
 induction d with
 | zero =>
  intro i hd hi0
  exact Ev.step (f := fun _ => some true) (fun k => by rw [bV.l0]; rw [if_neg (by omega)]) (Ev.now _)
 | succ d ih =>
  intro i hd hi0
  by_cases hi : i < l.length
  ·rw [kZ, if_pos hi]
   have e1 : wrap64 ((i : Int) + 1) = ((i + 1 : Nat) : Int) := by unfold wrap64; omega
   have ihn := ih (i + 1) (by omega) (by omega)
   have hnext : Ev (fun k => if ((i + 1 : Nat) : Int) < (l.length : Int) then (if 0 ≤ ((i + 1 : Nat) : Int) then ((dH.f (rdR l ((i + 1 : Nat) : Int)).f0 (rdR l (i : Int)).f0).bind fun t => if t = true then some false else bV.l0 k l l (l.length : Int) ((i + 1 : Nat) : Int)) else none) else bV.l0 k l l (l.length : Int) ((i + 1 : Nat) : Int))
     (!(decide (i + 1 < l.length) && fK (rdR l ((i + 1 : Nat) : Int)).f0 (rdR l (i : Int)).f0) && kZ l d (i + 1)) := by
    by_cases h : i + 1 < l.length
    ·simp only [show (((i + 1 : Nat) : Int) < (l.length : Int)) = True from eq_true (by omega), show (0 ≤ ((i + 1 : Nat) : Int)) = True from eq_true (by omega), if_true, mY, Option.bind_some, decide_eq_true h, Bool.true_and]
     cases fK (rdR l ((i + 1 : Nat) : Int)).f0 (rdR l (i : Int)).f0
     ·simp only [Bool.false_eq_true, if_false, Bool.not_false, Bool.true_and]; exact ihn
     ·simp only [if_true, Bool.not_true, Bool.false_and]; exact Ev.now _
    ·simp only [show (((i + 1 : Nat) : Int) < (l.length : Int)) = False from eq_false (by omega), if_false, decide_eq_false h, Bool.false_and, Bool.not_false, Bool.true_and]
     exact ihn
   have hs : ∀ k, bV.l0 (k + 1) l l (l.length : Int) (i : Int) = if (rdR l (i : Int)).f1 = 5 then (if (i : Int) > 0 then (if 0 ≤ wrap64 ((i : Int) - 1) then (if wrap64 ((i : Int) - 1) < (l.length : Int) then ((dH.f (rdR l (wrap64 ((i : Int) - 1))).f0 (rdR l (i : Int)).f0).bind fun t => if t = true then some false else if ((i + 1 : Nat) : Int) < (l.length : Int) then (if 0 ≤ ((i + 1 : Nat) : Int) then ((dH.f (rdR l ((i + 1 : Nat) : Int)).f0 (rdR l (i : Int)).f0).bind fun t => if t = true then some false else bV.l0 k l l (l.length : Int) ((i + 1 : Nat) : Int)) else none) else bV.l0 k l l (l.length : Int) ((i + 1 : Nat) : Int)) else none) else none)
     else if ((i + 1 : Nat) : Int) < (l.length : Int) then (if 0 ≤ ((i + 1 : Nat) : Int) then ((dH.f (rdR l ((i + 1 : Nat) : Int)).f0 (rdR l (i : Int)).f0).bind fun t => if t = true then some false else bV.l0 k l l (l.length : Int) ((i + 1 : Nat) : Int)) else none) else bV.l0 k l l (l.length : Int) ((i + 1 : Nat) : Int)) else bV.l0 k l l (l.length : Int) ((i + 1 : Nat) : Int) := fun k => by
    rw [bV.l0, e1]; rw [if_pos (by omega), if_pos (by omega), if_pos (by omega)]
   refine Ev.step hs ?_
   unfold nC
   by_cases h5 : (rdR l (i : Int)).f1 = 5
   ·simp only [h5, if_true, beq_self_eq_true, Bool.true_and]
    by_cases h0 : 0 < i
    ·have e2 : wrap64 ((i : Int) - 1) = ((i - 1 : Nat) : Int) := by unfold wrap64; omega
     simp only [e2, show ((i : Int) > 0) = True from eq_true (by omega), show (0 ≤ ((i - 1 : Nat) : Int)) = True from eq_true (by omega), show (((i - 1 : Nat) : Int) < (l.length : Int)) = True from eq_true (by omega), if_true, mY, Option.bind_some, decide_eq_true h0, Bool.true_and]
     simp only [mY, Option.bind_some] at hnext
     cases fK (rdR l ((i - 1 : Nat) : Int)).f0 (rdR l (i : Int)).f0
     ·simp only [Bool.false_eq_true, if_false, Bool.false_or]; exact hnext
     ·simp only [if_true, Bool.true_or, Bool.not_true, Bool.false_and]; exact Ev.now _
    ·simp only [show ((i : Int) > 0) = False from eq_false (by omega), if_false, decide_eq_false h0, Bool.false_and, Bool.false_or]
     exact hnext
   ·have h5' : ((rdR l (i : Int)).f1 == 5) = false := beq_eq_false_iff_ne.mpr h5
    simp only [h5, if_false, h5', Bool.false_and, Bool.not_false, Bool.true_and]
    exact ihn
  ·rw [kZ, if_neg hi]
   exact Ev.step (f := fun _ => some true) (fun k => by rw [bV.l0]; rw [if_neg (by omega)]) (Ev.now _)
theorem Gr (l : List RR) (hn : l.length ≤ 1000000) : Ev (fun k => bV.f k l) (pR l) := Dp l hn l.length 0 (by omega) (Nat.zero_le _)
theorem yQ (l : List RR) : ∀ (d i : Nat), l.length ≤ i + d → (kZ l d i = true ↔ ∀ j, i ≤ j → j < l.length → nC l j = true) := by
 intro d
 induction d with
 | zero => intro i hd; exact ⟨fun _ j h1 h2 => by omega, fun _ => rfl⟩
 | succ d ih =>
  intro i hd
  rw [kZ]
  split
  ·rename_i hi
   rw [Bool.and_eq_true, ih (i + 1) (by omega)]
   constructor
   ·rintro ⟨h1, h2⟩ j hj hl
    by_cases e : j = i
    ·rw [e]; exact h1
    ·exact h2 j (by omega) hl
   ·exact fun h => ⟨h i (Nat.le_refl _) hi, fun j hj hl => h j (by omega) hl⟩
  ·rename_i hi
   exact ⟨fun _ j h1 h2 => by omega, fun _ => rfl⟩
theorem vv (l : List RR) : pR l = true ↔ ∀ j, j < l.length → nC l j = true := by
 unfold pR
 rw [yQ l _ 0 (by omega)]
 exact ⟨fun h j hj => h j (Nat.zero_le _) hj, fun h j _ hj => h j hj⟩
end Go.Y.Rrs
namespace Go.Y.eU
variable {α : Type} {c : α → α → Int}
theorem uX (O : fM c) (a b : List α) (h : ∀ x ∈ a, ∀ y ∈ b, ¬ c x y = 0) (z : α) : cls c (a ++ b) z = cls c (b ++ a) z := by
 rw [gq, gq]
 by_cases ha : ∃ x ∈ a, c z x = 0
 ·obtain ⟨x, hx, h0⟩ := ha
  have : cls c b z = [] := mZ fun y hy h1 => h x hx y hy (by rw [← O.cong z x y h0]; exact h1)
  rw [this]; simp
 ·have : cls c a z = [] := mZ fun y hy h1 => ha ⟨y, hy, h1⟩
  rw [this]; simp
theorem dR.qI {l : List α} (h : Sorted c l) : dR c l l := ⟨h, fun _ => rfl⟩
theorem dR.mem (O : fM c) {l m : List α} (h : dR c l m) {y : α} (hy : y ∈ m) : y ∈ l := vZ O h.2 hy
theorem oH {l m : List α} (hl : Sorted c l) (hm : Sorted c m) (h : ∀ x ∈ l, ∀ y ∈ m, c x y ≤ 0) : Sorted c (l ++ m) := List.pairwise_append.mpr ⟨hl, hm, h⟩
theorem qw {l m : List α} (h : Sorted c (l ++ m)) : Sorted c l := (List.pairwise_append.mp h).1
theorem rV {l m : List α} (h : Sorted c (l ++ m)) : Sorted c m := (List.pairwise_append.mp h).2.1
theorem kV {l m : List α} (h : Sorted c (l ++ m)) : ∀ x ∈ l, ∀ y ∈ m, c x y ≤ 0 := (List.pairwise_append.mp h).2.2
theorem rE (O : fM c) {l1 l2 : List α} {x : α} (hs : Sorted c (l1 ++ l2)) (h1 : ∀ y ∈ l1, c y x ≤ 0) (h2 : ∀ y ∈ l2, c x y < 0) : dR c (l1 ++ l2 ++ [x]) (l1 ++ x :: l2) := by
 refine ⟨?_, fun z => ?_⟩
 ·refine oH (qw hs) (List.pairwise_cons.mpr ⟨fun y hy => by have := h2 y hy; omega, rV hs⟩) fun a ha b hb => ?_
  rcases List.mem_cons.mp hb with rfl | hb
  ·exact h1 a ha
  ·exact kV hs a ha b hb
 ·have e := uX O [x] l2 (fun a ha b hb => by
   rw [List.mem_singleton] at ha
   subst ha
   have := h2 b hb
   omega) z
  rw [gq, show x :: l2 = [x] ++ l2 from rfl, e, List.append_assoc, gq c l1]
theorem zT (O : fM c) {r1 r2 : List α} {x : α} (hs : Sorted c (r1 ++ r2)) (h1 : ∀ y ∈ r1, c y x < 0) (h2 : ∀ y ∈ r2, 0 ≤ c y x) : dR c ([x] ++ (r1 ++ r2)) (r1 ++ x :: r2) := by
 refine ⟨?_, fun z => ?_⟩
 ·refine oH (qw hs) (List.pairwise_cons.mpr ⟨fun y hy => by have := h2 y hy; have := O.flip y x; omega, rV hs⟩) fun a ha b hb => ?_
  rcases List.mem_cons.mp hb with rfl | hb
  ·have := h1 a ha; omega
  ·exact kV hs a ha b hb
 ·have e := uX O r1 [x] (fun a ha b hb => by
   rw [List.mem_singleton] at hb
   subst hb
   have := h1 a ha
   omega) z
  rw [show r1 ++ x :: r2 = r1 ++ [x] ++ r2 by simp, gq, e, ← gq, List.append_assoc]
theorem yJ (O : fM c) {l1 l2 r1 r2 m1 m2 : List α} (hl : Sorted c (l1 ++ l2)) (hr : Sorted c (r1 ++ r2)) (h1 : ∀ x ∈ l1, ∀ y ∈ r2, c x y ≤ 0) (h2 : ∀ y ∈ r1, ∀ x ∈ l2, c y x < 0)
  (s1 : dR c (l1 ++ r1) m1) (s2 : dR c (l2 ++ r2) m2) : dR c ((l1 ++ l2) ++ (r1 ++ r2)) (m1 ++ m2) := by
 refine ⟨oH s1.1 s2.1 fun x hx y hy => ?_, fun z => ?_⟩
 ·have hx' := s1.mem O hx
  have hy' := s2.mem O hy
  rcases List.mem_append.mp hx' with hx' | hx' <;> rcases List.mem_append.mp hy' with hy' | hy'
  ·exact kV hl x hx' y hy'
  ·exact h1 x hx' y hy'
  ·have := h2 x hx' y hy'; omega
  ·exact kV hr x hx' y hy'
 ·have e := uX O r1 l2 (fun a ha b hb => by have := h2 a ha b hb; omega) z
  rw [gq, s1.2, s2.2, ← gq, show l1 ++ r1 ++ (l2 ++ r2) = l1 ++ (r1 ++ l2) ++ r2 by simp, gq, gq c l1, e, ← gq, ← gq]
  simp
def Blocks (c : α → α → Int) (s : Nat) (l : List α) : Prop := ∀ k, Sorted c ((l.drop (k * s)).take s)
theorem CF (s : Nat) : Blocks c s [] := fun k => by simp [Sorted]
theorem uE {s t : Nat} {p q : List α} (hp : Blocks c s p) (ht : p.length = t * s) (hq : Sorted c q) (hs : q.length ≤ s) : Blocks c s (p ++ q) := by
 intro k
 rw [List.drop_append]
 by_cases h : k < t
 ·have h1 : (k + 1) * s ≤ t * s := Nat.mul_le_mul_right s h
  rw [Nat.add_mul, Nat.one_mul] at h1
  rw [Nat.sub_eq_zero_of_le (show k * s ≤ p.length by omega), List.drop_zero, List.take_append_of_le_length (by rw [List.length_drop]; omega)]
  exact hp k
 ·have h1 : t * s ≤ k * s := Nat.mul_le_mul_right s (by omega)
  rw [List.drop_of_length_le (by omega), List.nil_append]
  exact (hq.sublist (List.drop_sublist _ _)).sublist (List.take_sublist _ _)
theorem Ci {s : Nat} {l : List α} (h : Blocks c s l) (hs : l.length ≤ s) : Sorted c l := by
 have := h 0
 rw [Nat.zero_mul, List.drop_zero, List.take_of_length_le hs] at this
 exact this
theorem vF (p s : List α) (x y : α) : (p ++ x :: s).set p.length y = p ++ y :: s := by
 rw [List.set_append_right _ _ (Nat.le_refl _), Nat.sub_self, List.set_cons_zero]
theorem get_at (p s : List α) (x : α) : (p ++ x :: s)[p.length]? = some x := by
 rw [List.getElem?_append_right (Nat.le_refl _), Nat.sub_self]; rfl
theorem EB (p s : List α) (x y : α) (i : Nat) (hi : i = p.length) : ((p ++ x :: y :: s).set (i + 1) x).set i y = p ++ y :: x :: s := by
 subst hi
 rw [show p ++ x :: y :: s = (p ++ [x]) ++ y :: s by simp, show p.length + 1 = (p ++ [x]).length by simp, vF, show p ++ [x] ++ x :: s = p ++ x :: (x :: s) by simp, vF]
theorem Ji (p s : List α) (x y : α) (i : Nat) (hi : i = p.length) : ((p ++ x :: y :: s).set i y).set (i + 1) x = p ++ y :: x :: s := by
 subst hi
 rw [vF, show p ++ y :: y :: s = (p ++ [y]) ++ y :: s by simp, show p.length + 1 = (p ++ [y]).length by simp, vF]
 simp
def sw (l : List α) (i j : Nat) : List α := match l[i]?, l[j]? with
 | some x, some y => (l.set i y).set j x
 | _, _ => l
theorem xJ (l : List α) (i j : Nat) : (sw l i j).length = l.length := by unfold sw; split <;> simp
theorem DL (l : List α) (i j : Nat) (hi : i < l.length) (hj : j < l.length) (t : Nat) : (sw l i j)[t]? = if t = j then l[i]? else if t = i then l[j]? else l[t]? := by
 unfold sw
 rw [List.getElem?_eq_getElem hi, List.getElem?_eq_getElem hj]
 simp only [List.getElem?_set, List.length_set]
 by_cases h1 : t = j
 ·subst h1
  simp [hj]
 ·rw [if_neg (fun e => h1 e.symm), if_neg h1]
  by_cases h2 : t = i
  ·subst h2
   simp [hi]
  ·rw [if_neg (fun e => h2 e.symm), if_neg h2]
def swR (l : List α) (a b : Nat) : Nat → List α
 | 0 => l
 | n + 1 => sw (swR l a b n) (a + n) (b + n)
theorem kK (l : List α) (a b n : Nat) : (swR l a b n).length = l.length := by
 induction n with
 | zero => rfl
 | succ n ih => rw [swR, xJ, ih]
theorem wX (l : List α) (a b : Nat) : ∀ n, a + n ≤ b → b + n ≤ l.length → ∀ t, (swR l a b n)[t]? = if a ≤ t ∧ t < a + n then l[t + (b - a)]? else if b ≤ t ∧ t < b + n then l[t - (b - a)]? else l[t]? := by
 intro n
 induction n with
 | zero =>
  intro h1 h2 t
  rw [swR, if_neg (by omega), if_neg (by omega)]
 | succ n ih =>
  intro h1 h2 t
  have ih' := ih (by omega) (by omega)
  rw [swR, DL _ _ _ (by rw [kK]; omega) (by rw [kK]; omega), ih', ih', ih']
  by_cases e1 : t = b + n
  ·subst e1
   rw [if_pos rfl, if_neg (by omega), if_neg (by omega), if_neg (by omega), if_pos (by omega)]
   congr 1; omega
  ·rw [if_neg e1]
   by_cases e2 : t = a + n
   ·subst e2
    rw [if_pos rfl, if_neg (by omega), if_neg (by omega), if_pos (by omega)]
    congr 1; omega
   ·rw [if_neg e2]
    by_cases e3 : a ≤ t ∧ t < a + n
    ·rw [if_pos e3, if_pos (by omega)]
    ·rw [if_neg e3, if_neg (show ¬ (a ≤ t ∧ t < a + (n + 1)) by omega)]
     by_cases e4 : b ≤ t ∧ t < b + n
     ·rw [if_pos e4, if_pos (by omega)]
     ·rw [if_neg e4, if_neg (by omega)]
def Rot (l l' : List α) (m i j : Nat) : Prop := l'.length = l.length ∧ ∀ t, l'[t]? = if m - i ≤ t ∧ t < m - i + j then l[t + i]? else if m - i + j ≤ t ∧ t < m + j then l[t - j]? else l[t]?
theorem GJ (l : List α) (m i : Nat) (hi : i ≤ m) (hm : m + i ≤ l.length) : Rot l (swR l (m - i) m i) m i i := by
 refine ⟨kK _ _ _ _, fun t => ?_⟩
 rw [wX l (m - i) m i (by omega) (by omega)]
 have e : m - (m - i) = i := by omega
 rw [e]
 by_cases h1 : m - i ≤ t ∧ t < m - i + i
 ·rw [if_pos h1, if_pos h1]
 ·rw [if_neg h1, if_neg h1]
  by_cases h2 : m ≤ t ∧ t < m + i
  ·rw [if_pos h2, if_pos (by omega)]
  ·rw [if_neg h2, if_neg (by omega)]
theorem FY {l l' : List α} {m i j : Nat} (hj : j < i) (hi : i ≤ m) (hm : m + j ≤ l.length) (h : Rot (swR l (m - i) m j) l' m (i - j) j) : Rot l l' m i j := by
 refine ⟨h.1.trans (kK _ _ _ _), fun t => ?_⟩
 have g := wX l (m - i) m j (by omega) (by omega)
 rw [h.2 t]
 simp only [g]
 repeat' split
 all_goals first | rfl | (exfalso; omega) | (refine congrArg (fun k => l[k]?) ?_; omega)
theorem Fu {l l' : List α} {m i j : Nat} (hj : i < j) (hi : i ≤ m) (hm : m + j ≤ l.length) (h : Rot (swR l (m - i) (m + j - i) i) l' m i (j - i)) : Rot l l' m i j := by
 refine ⟨h.1.trans (kK _ _ _ _), fun t => ?_⟩
 have g := wX l (m - i) (m + j - i) i (by omega) (by omega)
 rw [h.2 t]
 simp only [g]
 repeat' split
 all_goals first | rfl | (exfalso; omega) | (refine congrArg (fun k => l[k]?) ?_; omega)
theorem EH {p u v s l' : List α} (h : Rot (p ++ (u ++ (v ++ s))) l' (p.length + u.length) u.length v.length) : l' = p ++ (v ++ (u ++ s)) := by
 refine List.ext_getElem? fun t => ?_
 rw [h.2 t]
 have e : p.length + u.length - u.length = p.length := by omega
 rw [e]
 by_cases h1 : p.length ≤ t ∧ t < p.length + v.length
 ·rw [if_pos h1]
  rw [List.getElem?_append_right (by omega), List.getElem?_append_right (by omega), List.getElem?_append_left (by omega), List.getElem?_append_right (by omega), List.getElem?_append_left (by omega)]
  congr 1; omega
 ·rw [if_neg h1]
  by_cases h2 : p.length + v.length ≤ t ∧ t < p.length + u.length + v.length
  ·rw [if_pos h2]
   rw [List.getElem?_append_right (by omega), List.getElem?_append_left (by omega), List.getElem?_append_right (by omega), List.getElem?_append_right (by omega), List.getElem?_append_left (by omega)]
   congr 1; omega
  ·rw [if_neg h2]
   by_cases h3 : t < p.length
   ·rw [List.getElem?_append_left h3, List.getElem?_append_left h3]
   ·rw [List.getElem?_append_right (by omega), List.getElem?_append_right (by omega), List.getElem?_append_right (by omega), List.getElem?_append_right (by omega), List.getElem?_append_right (by omega), List.getElem?_append_right (by omega)]
    congr 1; omega
end Go.Y.eU
namespace Go.Y.eU
variable {α : Type} {c : α → α → Int}
theorem fM.lt_of_le_of_lt (O : fM c) {a b e : α} (h : c a b ≤ 0) (h' : c b e < 0) : c a e < 0 := by
 by_cases k : c a b = 0
 ·exact O.lt_of_eq_of_lt k h'
 ·exact O.trans a b e (by omega) h'
theorem fM.lt_of_lt_of_le (O : fM c) {a b e : α} (h : c a b < 0) (h' : c b e ≤ 0) : c a e < 0 := by
 by_cases k : c b e = 0
 ·exact O.lt_of_lt_of_eq h k
 ·exact O.trans a b e h (by omega)
def Cut (P : Nat → Prop) (lo hi i j : Nat) : Prop := lo ≤ i ∧ i ≤ j ∧ j ≤ hi ∧ (∀ t, lo ≤ t → t < i → P t) ∧ ∀ t, j ≤ t → t < hi → ¬ P t
def wG (P : Nat → Prop) (lo hi : Nat) : Prop := ∀ t t', lo ≤ t → t < t' → t' < hi → P t' → P t
theorem Cut.start {P : Nat → Prop} {lo hi : Nat} (h : lo ≤ hi) : Cut P lo hi lo hi := ⟨Nat.le_refl _, h, Nat.le_refl _, fun t a b => by omega, fun t a b => by omega⟩
theorem Cut.yes {P : Nat → Prop} {lo hi i j m : Nat} (M : wG P lo hi) (h : Cut P lo hi i j) (h1 : i ≤ m) (h2 : m < j) (hp : P m) : Cut P lo hi (m + 1) j := by
 obtain ⟨a, b, e, f, g⟩ := h
 refine ⟨by omega, by omega, e, fun t x y => ?_, g⟩
 by_cases k : t = m
 ·rw [k]; exact hp
 ·exact M t m x (by omega) (by omega) hp
theorem Cut.no {P : Nat → Prop} {lo hi i j m : Nat} (M : wG P lo hi) (h : Cut P lo hi i j) (h1 : i ≤ m) (h2 : m < j) (hp : ¬ P m) : Cut P lo hi i m := by
 obtain ⟨a, b, e, f, g⟩ := h
 refine ⟨a, h1, by omega, f, fun t x y k => ?_⟩
 by_cases q : t = m
 ·exact hp (q ▸ k)
 ·exact hp (M m t (by omega) (by omega) y k)
theorem lu (l : List α) (d : α) {t : Nat} (h : t < l.length) : l.getD t d = l[t] := by simp [List.getD, h]
theorem mW {l : List α} (d : α) {i : Nat} {y : α} (h : y ∈ l.take i) : ∃ t, t < i ∧ t < l.length ∧ l.getD t d = y := by
 obtain ⟨t, ht, rfl⟩ := List.getElem_of_mem h
 rw [List.length_take] at ht
 exact ⟨t, by omega, by omega, by rw [lu l d (by omega), List.getElem_take]⟩
theorem mU {l : List α} (d : α) {i : Nat} {y : α} (h : y ∈ l.drop i) : ∃ t, i ≤ t ∧ t < l.length ∧ l.getD t d = y := by
 obtain ⟨t, ht, rfl⟩ := List.getElem_of_mem h
 rw [List.length_drop] at ht
 exact ⟨i + t, by omega, by omega, by rw [lu l d (by omega), List.getElem_drop]⟩
theorem jZ {l : List α} (O : fM c) (h : Sorted c l) (d : α) {i j : Nat} (hij : i ≤ j) (hj : j < l.length) : c (l.getD i d) (l.getD j d) ≤ 0 := by
 by_cases e : i = j
 ·subst e; rw [O.refl]; omega
 ·rw [lu l d (by omega), lu l d hj]; exact List.pairwise_iff_getElem.mp h i j (by omega) hj (by omega)
theorem Ij (O : fM c) (d x : α) {r : List α} (h : Sorted c r) : wG (fun t => c (r.getD t d) x < 0) 0 r.length := fun t t' _ h1 h2 h3 => O.lt_of_le_of_lt (jZ O h d (by omega) h2) h3
theorem Ej (O : fM c) (d y : α) {l : List α} (h : Sorted c l) : wG (fun t => 0 ≤ c y (l.getD t d)) 0 l.length := fun t t' _ h1 h2 h3 => Int.not_lt.mp fun k => Int.not_lt.mpr h3 (O.lt_of_lt_of_le k (jZ O h d (by omega) h2))
theorem Gs (O : fM c) (d x : α) {r : List α} (h : Sorted c r) {i : Nat} (C : Cut (fun t => c (r.getD t d) x < 0) 0 r.length i i) : dR c ([x] ++ r) (r.take i ++ x :: r.drop i) := by
 have := zT O (r1 := r.take i) (r2 := r.drop i) (x := x) (by rw [List.take_append_drop]; exact h) (fun y hy => by
  obtain ⟨t, h1, h2, rfl⟩ := mW d hy
  exact C.2.2.2.1 t (Nat.zero_le _) h1) (fun y hy => by
  obtain ⟨t, h1, h2, rfl⟩ := mU d hy
  exact Int.not_lt.mp (C.2.2.2.2 t h1 h2))
 rwa [List.take_append_drop] at this
theorem Fq (O : fM c) (d y : α) {l : List α} (h : Sorted c l) {i : Nat} (C : Cut (fun t => 0 ≤ c y (l.getD t d)) 0 l.length i i) : dR c (l ++ [y]) (l.take i ++ y :: l.drop i) := by
 have := rE O (l1 := l.take i) (l2 := l.drop i) (x := y) (by rw [List.take_append_drop]; exact h) (fun z hz => by
  obtain ⟨t, h1, h2, rfl⟩ := mW d hz
  have h3 := C.2.2.2.1 t (Nat.zero_le _) h1
  have := O.flip y (l.getD t d)
  omega) (fun z hz => by
  obtain ⟨t, h1, h2, rfl⟩ := mU d hz
  exact Int.not_le.mp (C.2.2.2.2 t h1 h2))
 rwa [List.take_append_drop] at this
theorem DX (O : fM c) (d : α) {l r : List α} (hl : Sorted c l) (hr : Sorted c r) {H lo hi : Nat} (h1 : hi ≤ H) (h2 : hi ≤ l.length) (h3 : H ≤ lo + r.length) : wG (fun t => 0 ≤ c (r.getD (H - 1 - t) d) (l.getD t d)) lo hi := fun t t' a b e f => Int.not_lt.mp fun k =>
 Int.not_lt.mpr f (O.lt_of_lt_of_le (O.lt_of_le_of_lt (jZ O hr d (by omega) (by omega)) k) (jZ O hl d (by omega) (by omega)))
theorem FR (O : fM c) (d : α) {l r m1 m2 : List α} (hl : Sorted c l) (hr : Sorted c r) {H lo hi u : Nat} (h1 : hi ≤ H) (h2 : hi ≤ l.length) (h3 : H ≤ lo + r.length) (h4 : lo = 0 ∨ lo + r.length = H) (h5 : hi = H ∨ hi = l.length)
  (C : Cut (fun t => 0 ≤ c (r.getD (H - 1 - t) d) (l.getD t d)) lo hi u u) (s1 : dR c (l.take u ++ r.take (H - u)) m1) (s2 : dR c (l.drop u ++ r.drop (H - u)) m2) : dR c (l ++ r) (m1 ++ m2) := by
 obtain ⟨a, _, b, e, f⟩ := C
 have := yJ O (l1 := l.take u) (l2 := l.drop u) (r1 := r.take (H - u)) (r2 := r.drop (H - u)) (by rw [List.take_append_drop]; exact hl) (by rw [List.take_append_drop]; exact hr) (fun x hx y hy => by
  obtain ⟨t, k1, k2, rfl⟩ := mW d hx
  obtain ⟨j, k3, k4, rfl⟩ := mU d hy
  have h := e (u - 1) (by omega) (by omega)
  have g := O.flip (r.getD (H - 1 - (u - 1)) d) (l.getD (u - 1) d)
  exact O.le_trans (O.le_trans (jZ O hl d (i := t) (j := u - 1) (by omega) (by omega)) (show c _ (r.getD (H - 1 - (u - 1)) d) ≤ 0 by omega)) (jZ O hr d (by omega) k4)) (fun y hy x hx => by
  obtain ⟨t, k1, k2, rfl⟩ := mW d hy
  obtain ⟨j, k3, k4, rfl⟩ := mU d hx
  have h := Int.not_le.mp (f u (Nat.le_refl _) (by omega))
  exact O.lt_of_lt_of_le (O.lt_of_le_of_lt (jZ O hr d (i := t) (j := H - 1 - u) (by omega) (by omega)) h) (jZ O hl d (by omega) k4)) s1 s2
 rwa [List.take_append_drop, List.take_append_drop] at this
theorem uf (d : α) (p l s : List α) {t : Nat} (h : t < l.length) {i : Nat} (hi : i = p.length + t) : (p ++ (l ++ s))[i]? = some (l.getD t d) := by
 subst hi
 rw [List.getElem?_append_right (by omega), Nat.add_sub_cancel_left, List.getElem?_append_left h, lu l d h, List.getElem?_eq_getElem h]
theorem uH (p v z : List α) (x : α) {q : Nat} (hq : q < v.length) : p ++ (v.take q ++ x :: (v.drop q ++ z)) = (p ++ v.take q) ++ x :: v[q] :: (v.drop (q + 1) ++ z) ∧ p ++ (v.take (q + 1) ++ x :: (v.drop (q + 1) ++ z)) = (p ++ v.take q) ++ v[q] :: x :: (v.drop (q + 1) ++ z) ∧ (p ++ v.take q).length = p.length + q := by
 have h1 : v.drop q = v[q] :: v.drop (q + 1) := List.drop_eq_getElem_cons hq
 have h2 : v.take (q + 1) = v.take q ++ [v[q]] := List.take_succ_eq_append_getElem hq
 refine ⟨by rw [h1]; simp only [List.append_assoc, List.cons_append], by rw [h2]; simp only [List.append_assoc, List.cons_append, List.nil_append], by rw [List.length_append, List.length_take]; omega⟩
theorem BD (p s : List α) (x y : α) : (p ++ x :: y :: s)[p.length + 1]? = some y := by
 have := get_at (p ++ [x]) s y
 simpa only [List.append_assoc, List.cons_append, List.nil_append, List.length_append, List.length_cons, List.length_nil, Nat.zero_add] using this
theorem GA (p v z : List α) (x : α) {k q : Nat} (hq : q < v.length) (hk : p.length + q = k) : ∃ y, (p ++ (v.take q ++ x :: (v.drop q ++ z)))[k]? = some x ∧ (p ++ (v.take q ++ x :: (v.drop q ++ z)))[k + 1]? = some y ∧ ((p ++ (v.take q ++ x :: (v.drop q ++ z))).set k y).set (k + 1) x = p ++ (v.take (q + 1) ++ x :: (v.drop (q + 1) ++ z)) := by
 obtain ⟨e1, e2, e3⟩ := uH p v z x hq
 rw [hk] at e3
 rw [e1, e2, ← e3]
 exact ⟨_, get_at _ _ _, BD _ _ _ _, Ji _ _ _ _ _ rfl⟩
theorem Cb (p v z : List α) (x : α) {k q : Nat} (hq : q < v.length) (hk : p.length + q = k) : ∃ y, (p ++ (v.take (q + 1) ++ x :: (v.drop (q + 1) ++ z)))[k]? = some y ∧ (p ++ (v.take (q + 1) ++ x :: (v.drop (q + 1) ++ z)))[k + 1]? = some x ∧ ((p ++ (v.take (q + 1) ++ x :: (v.drop (q + 1) ++ z))).set (k + 1) y).set k x = p ++ (v.take q ++ x :: (v.drop q ++ z)) := by
 obtain ⟨e1, e2, e3⟩ := uH p v z x hq
 rw [hk] at e3
 rw [e1, e2, ← e3]
 exact ⟨_, get_at _ _ _, BD _ _ _ _, EB _ _ _ _ _ rfl⟩
end Go.Y.eU
namespace Go.Y.Rrs
open Go.Proofs.aj.aD Go.Proofs.aj.aQ Go.Proofs.aj.aW Go.Y.Given Go.Y.PRd Go.Y.PRr Go.Y.eU
theorem Row.below {w w' : World} {base g cap : Nat} {l : List RR} {rest : List Value} (h : Row w base g cap l rest) (hb : Below w.heap.size w w') : Row w' base g cap l rest := ⟨aC h.blk hb, h.lo, h.fits, h.len⟩
theorem Row.drew {w : World} {base g cap : Nat} {l : List RR} {rest : List Value} (h : Row w base g cap l rest) : Row w.drew base g cap l rest := ⟨eG h.blk, h.lo, h.fits, h.len⟩
def Own (w0 : World) (base g c : Nat) (rest : List Value) (w : World) (l : List RR) : Prop := Row w base g c l rest ∧ Below base w0 w
section
variable {w0 w : World} {base g c : Nat} {rest : List Value} {l : List RR}
theorem Own.drew (h : Own w0 base g c rest w l) : Own w0 base g c rest w.drew l := ⟨h.1.drew, eu h.2⟩
theorem Own.below (h : Own w0 base g c rest w l) {w' : World} (hb : Below w.heap.size w w') : Own w0 base g c rest w' l := ⟨h.1.below hb, eZ h.2 (Nat.le_trans h.1.lo (Nat.le_of_lt (eY h.1.blk))) hb⟩
theorem qD {i : Nat} {x : RR} (h : l[i]? = some x) (k : Nat) (hk : k < 5) : (flat l)[i * 5 + k]? = (lX x)[k]? := by
 obtain ⟨hi, e⟩ := List.getElem?_eq_some_iff.1 h
 rw [← List.getElem?_drop, xU l i (by omega), List.drop_eq_getElem_cons hi, e, flat, List.getElem?_append_left (by rw [mQ]; exact hk)]
theorem Own.at5 (h : Own w0 base g c rest w l) {i : Nat} {x : RR} (hx : l[i]? = some x) : w.cell? ⟨g, i * 5, none⟩ = some (.string x.f0) ∧ w.cell? ⟨g, i * 5 + 1, none⟩ = some (.int .i64 x.f1) ∧ w.cell? ⟨g, i * 5 + 2, none⟩ = some (.int .i64 x.f2) ∧ w.cell? ⟨g, i * 5 + 3, none⟩ = some (.int .i64 x.f3) ∧ w.cell? ⟨g, i * 5 + 4, none⟩ = some (.string x.f4) ∧
  w.frozen? ⟨g, i * 5, none⟩ = false ∧ w.frozen? ⟨g, i * 5 + 1, none⟩ = false ∧ w.frozen? ⟨g, i * 5 + 2, none⟩ = false ∧ w.frozen? ⟨g, i * 5 + 3, none⟩ = false ∧ w.frozen? ⟨g, i * 5 + 4, none⟩ = false :=
 have f := fun p => aI h.1.blk p
 ⟨h.1.cell _ _ (qD hx 0 (by decide)), h.1.cell _ _ (qD hx 1 (by decide)), h.1.cell _ _ (qD hx 2 (by decide)), h.1.cell _ _ (qD hx 3 (by decide)), h.1.cell _ _ (qD hx 4 (by decide)), f _, f _, f _, f _, f _⟩
abbrev Cx (w : World) (g p : Nat) (x : RR) : World := ((((w.setCell ⟨g, p, none⟩ (.string x.f0)).setCell ⟨g, p + 1, none⟩ (.int .i64 x.f1)).setCell ⟨g, p + 2, none⟩ (.int .i64 x.f2)).setCell ⟨g, p + 3, none⟩ (.int .i64 x.f3)).setCell ⟨g, p + 4, none⟩ (.string x.f4)
theorem Own.put (h : Own w0 base g c rest w l) (x : RR) (p : Nat) (hp : p < l.length) : Own w0 base g c rest (Cx w g (p * 5) x) (l.set p x) :=
 ⟨h.1.put x p hp _ _ _ _ _ rfl, ((((h.2.setCell (p := ⟨g, p * 5, none⟩) h.1.lo _).setCell (p := ⟨g, p * 5 + 1, none⟩) h.1.lo _).setCell (p := ⟨g, p * 5 + 2, none⟩) h.1.lo _).setCell (p := ⟨g, p * 5 + 3, none⟩) h.1.lo _).setCell (p := ⟨g, p * 5 + 4, none⟩) h.1.lo _⟩
theorem Own.next (h : Own w0 base g c rest w l) {i j : Nat} {x : RR} (y : RR) (hi : i < l.length) (hx : l[j]? = some x) (hn : i ≠ j) : Own w0 base g c rest (Cx w g (i * 5) y) (l.set i y) ∧ (l.set i y)[j]? = some x := ⟨h.put y i hi, by rw [List.getElem?_set_ne hn]; exact hx⟩
theorem Own.swap (h : Own w0 base g c rest w l) {i j : Nat} {x y : RR} (hx : l[i]? = some x) (hy : l[j]? = some y) : Own w0 base g c rest (Cx (Cx w g (i * 5) y) g (j * 5) x) ((l.set i y).set j x) :=
 (h.put y i (List.getElem?_eq_some_iff.1 hx).1).put x j (by rw [List.length_set]; exact (List.getElem?_eq_some_iff.1 hy).1)
end
abbrev oJ : Value := .func (.func 107) #[] #[]
theorem qM {x y : RR} (hx : fine x) (hy : fine y) (w : World) : Calls Tryz.prog 107 #[x.v, y.v] w fun e w' => e = .returned (.int .i64 (bF x y)) ∧ Below w.heap.size w w' :=
 EI 1000 x y _ w (Bt x y hx.1 hy.1 hx.2 hy.2 1000 (Nat.le_refl _))
theorem iQ {x : Int} {n : Nat} (h : x = (n : Int)) (hn : n ≤ 9223372036854775807) : IntKind.i64.wrap x = (n : Int) := by rw [h, IntKind.wrap_i64]; omega
theorem qK {α : Type} {l : List α} {i : Nat} (h : i < l.length) : ∃ x, l[i]? = some x := ⟨_, List.getElem?_eq_getElem h⟩
end Go.Y.Rrs
namespace Go.Y.Rrs
open Go.Proofs.aj.aD Go.Proofs.aj.aQ Go.Proofs.aj.aW Go.Y.Given Go.Y.PRd Go.Y.PRr Go.Y.eU
abbrev zR : RR := ⟨⟨#[]⟩, 0, 0, 0, ⟨#[]⟩⟩
theorem yY (i j : Nat) (hb : i + j ≤ 4000000) : ∃ k h : Nat, IntKind.i64.wrap ((i : Int) + (j : Int)) = (k : Int) ∧ IntKind.u64.wrap (k : Int) = (k : Int) ∧ (k : Int) / 2 = (h : Int) ∧ IntKind.i64.wrap (h : Int) = (h : Int) ∧ IntKind.i64.wrap ((h : Int) + 1) = ((h + 1 : Nat) : Int) ∧ 2 * h ≤ i + j ∧ i + j ≤ 2 * h + 1 := by
 refine ⟨i + j, (i + j) / 2, iQ (by omega) (by omega), ?_, by omega, iQ rfl (by omega), iQ (by omega) (by omega), by omega, by omega⟩
 have e2 : ((i + j : Nat) : Int) % 2 ^ 64 = ((i + j : Nat) : Int) := by omega
 simp only [IntKind.wrap, IntKind.bits, IntKind.signed, e2]; rw [if_neg (by simp)]
theorem IJ {w0 : World} {base g c : Nat} {rest : List Value} (p r s : List RR) (x : RR) (hr0 : 0 < r.length) (hs : Sorted bF r) (hfx : fine x) (hf : ∀ y ∈ r, fine y) {N a m b : Nat} (hn : N ≤ 1000000) (hN : (p ++ ([x] ++ (r ++ s))).length = N) (ha : p.length = a) (hm : a + 1 = m) (hb : m + r.length = b) (w : World) (HO : Own w0 base g c rest w (p ++ ([x] ++ (r ++ s)))) :
  Calls Tryz.prog 187 #[.slice (some ⟨g, 0, none⟩) N c, .int .i64 (a : Int), .int .i64 (m : Int), .int .i64 (b : Int), oJ] w fun e w' => e = .returned (.tuple #[]) ∧ ∃ mm, dR bF ([x] ++ r) mm ∧ mm.length = 1 + r.length ∧ Own w0 base g c rest w' (p ++ (mm ++ s)) := by
 have hu22 := Tryz.underlying22
 have hu41 := Tryz.underlying35
 have hl : (p ++ ([x] ++ (r ++ s))).length = p.length + 1 + r.length + s.length := by simp; omega
 rw [hN] at hl
 obtain ⟨R, hR⟩ : ∃ R, r.length = R := ⟨_, rfl⟩
 have HR := Lib.hid HO
 have HF := Lib.hid hf
 have HM := Lib.hid (Ij jE zR x hs)
 have HFX := Lib.hid hfx
 have HS := Lib.hid hs
 have HL := Lib.hid hR
 have HA := Lib.hid ha
 have h1 : a + 1 ≤ m ∧ m ≤ a + 1 := by omega
 have h2 : m + R ≤ b ∧ b ≤ m + R ∧ b ≤ N ∧ 0 < R := by omega
 have e1 : IntKind.i64.wrap ((m : Int) - (a : Int)) = 1 := iQ (n := 1) (by omega) (by omega)
 have hcx : (p ++ ([x] ++ (r ++ s)))[a]? = some x := by rw [← ha]; exact eU.get_at _ _ _
 have HCX := Lib.hid hcx
 have hrd : ∀ t h, t < R → m + t = h → (p ++ ([x] ++ (r ++ s)))[h]? = some (r.getD t zR) := fun t h ht e => by
  have := uf zR (p ++ [x]) r s (t := t) (by omega) (i := h) (by simp; omega)
  rwa [List.append_assoc] at this
 have HRD := Lib.hid hrd
 clear HO hf hfx hs hN hl ha hm hb hcx hrd hR hr0
 go_enter Tryz.func187, Tryz.ntmps187
 go_wp2_with fail
 go_loopg [10, 11] R (fun kx si sj wr => ∃ (i j u v : Nat), si = .int .i64 (i : Int) ∧ sj = .int .i64 (j : Int) ∧ i ≤ m + u ∧ m + u ≤ i ∧ j ≤ m + v ∧ m + v ≤ j ∧ u ≤ v ∧ v ≤ R ∧ v - u ≤ kx ∧ Hid (Cut (fun t => bF (r.getD t zR) x < 0) 0 r.length u v) ∧ Hid (Own w0 base g c rest wr (p ++ ([x] ++ (r ++ s)))))
 case atStart => exact ⟨m, b, 0, R, rfl, rfl, by omega, by omega, by omega, by omega, by omega, by omega, by omega, Lib.hid (by rw [← HL.out]; exact Cut.start (Nat.zero_le _)), HR⟩
 case round =>
  clear HR
  obtain ⟨i, j, u, v, rfl, rfl, i1, i2, j1, j2, huv, hv, hk, HC, HR⟩ := hrel
  by_cases hlt : u < v
  ·obtain ⟨k, h, k1, k2, k3, k4, k5, k6, k7⟩ := yY i j (by omega)
   have hltz : (i : Int) < (j : Int) := by omega
   obtain ⟨q, hq⟩ : ∃ q, h - m = q := ⟨_, rfl⟩
   have q1 : m + q = h := by omega
   have q2 : u ≤ q ∧ q < v := by omega
   obtain ⟨y, hy⟩ : ∃ y, r.getD q zR = y := ⟨_, rfl⟩
   have hcy := HRD.out q h (by omega) q1
   rw [hy] at hcy
   have hfy : fine y := by rw [← hy, lu r zR (by rw [HL.out]; omega)]; exact HF.out _ (List.getElem_mem _)
   obtain ⟨y0, y1, y2, y3, y4, y5, y6, y7, y8, y9⟩ := HR.out.at5 hcy
   obtain ⟨x0, x1, x2, x3, x4, x5, x6, x7, x8, x9⟩ := HR.out.at5 HCX.out
   have HY := Lib.hid hy
   have HQ := Lib.hid q1
   have p0 : (0 : Int) ≤ (h : Int) := by omega
   have p1 : (h : Int) < (N : Int) := by omega
   have p2 : (0 : Int) ≤ (a : Int) := by omega
   have p3 : (a : Int) < (N : Int) := by omega
   clear hq q1 hy hcy
   go_wp2_with fail
   go_still_tail 9, (by kernel_rfl)
   change wpList _ _ _ _ _ wr.drew
   clear x0 x1 x2 x3 x4 x5 x6 x7 x8 x9 y0 y1 y2 y3 y4 y5 y6 y7 y8 y9
   have HR1 := Lib.hid HR.out.drew
   have hcall := qM hfy HFX.out wr.drew
   clear HR hfy
   generalize wr.drew = wd at HR1 hcall
   have HCALL := Lib.hid hcall
   clear hcall
   go_wp2_with fail
   refine (HCALL.out).mono ?_
   rintro en w4 ⟨rfl, hb4⟩
   have HR := Lib.hid (HR1.out.below hb4)
   clear hb4 HR1 HCALL
   obtain ⟨o, ho⟩ : ∃ o, bF y x = o := ⟨_, rfl⟩
   rw [ho]
   have HO := Lib.hid ho
   clear ho
   by_cases hlv : o < 0
   ·obtain ⟨h1', hh1⟩ : ∃ h1', h + 1 = h1' := ⟨_, rfl⟩
    rw [hh1] at k5
    have hh2 : h + 1 ≤ h1' ∧ h1' ≤ h + 1 := by omega
    have HC2 := Lib.hid (HC.out.yes (HM.out) q2.1 q2.2 (by rw [HY.out, HO.out]; exact hlv))
    clear hh1
    go_wp2_with fail
    go_roundg (v - (q + 1))
    case measure => omega
    case rel => exact ⟨h1', j, q + 1, v, rfl, rfl, by have := HQ.out; omega, by have := HQ.out; omega, j1, j2, by omega, hv, Nat.le_refl _, HC2, HR⟩
   ·have HC2 := Lib.hid (HC.out.no (HM.out) q2.1 q2.2 (by rw [HY.out, HO.out]; exact hlv))
    go_wp2_with fail
    go_roundg (q - u)
    case measure => omega
    case rel => exact ⟨i, h, u, q, rfl, rfl, i1, i2, by have := HQ.out; omega, by have := HQ.out; omega, q2.1, by omega, Nat.le_refl _, HC2, HR⟩
  ·have hltz : ¬ (i : Int) < (j : Int) := by omega
   obtain rfl : u = v := by omega
   have HD := Lib.hid (Gs jE zR x HS.out (i := u) HC.out)
   have hul : u ≤ r.length := by rw [HL.out]; exact hv
   obtain ⟨z, hz⟩ : ∃ z, r.drop u ++ s = z := ⟨_, rfl⟩
   have hcur : p ++ ([x] ++ (r ++ s)) = p ++ ([] ++ x :: (r.take u ++ z)) := by rw [← hz, ← List.append_assoc (r.take u), List.take_append_drop]; simp
   rw [hcur] at HR
   have hfin : p ++ ((r.take u ++ x :: r.drop u) ++ s) = p ++ (r.take u ++ x :: z) := by rw [← hz]; simp
   have HFIN := Lib.hid hfin
   obtain ⟨v1, hv1⟩ : ∃ v1, r.take u = v1 := ⟨_, rfl⟩
   have hvl : v1.length = u := by rw [← hv1, List.length_take]; omega
   rw [hv1] at HR HFIN HD
   have HVL := Lib.hid hvl
   obtain ⟨i0, hi0⟩ : ∃ i0, a + u = i0 := ⟨_, rfl⟩
   have ei : IntKind.i64.wrap ((i : Int) - 1) = (i0 : Int) := iQ (by omega) (by omega)
   have i3 : i0 ≤ a + u ∧ a + u ≤ i0 := by omega
   have HRL : Hid (v1.length + (r.drop u).length = r.length) := Lib.hid (by rw [hvl, List.length_drop]; omega)
   clear HC hcur hz hfin hv1 hvl hi0 hul HM HF HRD HCX HS
   go_wp2_with fail
   go_loopg [13] u (fun kx sk wr => ∃ (k q : Nat), sk = .int .i64 (k : Int) ∧ k ≤ a + q ∧ a + q ≤ k ∧ q ≤ u ∧ u - q ≤ kx ∧ Hid (Own w0 base g c rest wr (p ++ (v1.take q ++ x :: (v1.drop q ++ z)))))
   case atStart => exact ⟨a, 0, rfl, by omega, by omega, by omega, by omega, by rw [List.take_zero, List.drop_zero]; exact HR⟩
   case round =>
    clear HR
    obtain ⟨k, q, rfl, k1, k2, hq, hkq, HR⟩ := hrel
    by_cases hlt : q < u
    ·obtain ⟨y, hx, hy, hs⟩ := GA p v1 z x (k := k) (q := q) (by rw [HVL.out]; exact hlt) (by rw [HA.out]; omega)
     obtain ⟨k', hk'⟩ : ∃ k', k + 1 = k' := ⟨_, rfl⟩
     have ek : IntKind.i64.wrap ((k : Int) + 1) = (k' : Int) := iQ (by omega) (by omega)
     obtain ⟨cur, hc⟩ : ∃ cur, p ++ (v1.take q ++ x :: (v1.drop q ++ z)) = cur := ⟨_, rfl⟩
     rw [hk'] at hy hs
     rw [hc] at hx hy hs HR
     have HS2 := Lib.hid (HR.out.swap hx hy).drew
     rw [hs] at HS2
     obtain ⟨D2, hy2⟩ := HR.out.next y (List.getElem?_eq_some_iff.1 hx).1 hy (show k ≠ k' by omega)
     obtain ⟨x0, x1, x2, x3, x4, x5, x6, x7, x8, x9⟩ := HR.out.at5 hx
     obtain ⟨y0, y1, y2, y3, y4, y5, y6, y7, y8, y9⟩ := HR.out.at5 hy
     obtain ⟨z0, z1, z2, z3, z4, z5, z6, z7, z8, z9⟩ := D2.at5 hy2
     have hltz : (k : Int) < (i0 : Int) := by omega
     have p0 : (0 : Int) ≤ (k : Int) := by omega
     have p1 : (k : Int) < (N : Int) := by omega
     have p2 : (0 : Int) ≤ (k' : Int) := by omega
     have p3 : (k' : Int) < (N : Int) := by omega
     have k3 : k' ≤ a + (q + 1) ∧ a + (q + 1) ≤ k' := by omega
     clear HR D2 hy2 hx hy hs hc hk'
     go_wp2_with fail
     go_big_region
     all_goals go_wp2
     go_roundg (u - (q + 1))
     case measure => omega
     case rel => exact ⟨k', q + 1, rfl, k3.1, k3.2, hlt, Nat.le_refl _, HS2⟩
    ·have hltz : ¬ (k : Int) < (i0 : Int) := by omega
     obtain rfl : q = u := by omega
     have hr := HR.out
     rw [List.take_of_length_le (by rw [HVL.out]; exact Nat.le_refl _), List.drop_of_length_le (by rw [HVL.out]; exact Nat.le_refl _), List.nil_append, ← HFIN.out] at hr
     have HR2 := Lib.hid hr
     clear hr HR
     go_wp2_with fail
     refine bodyPost_ret (results_none rfl _ _ _) rfl ?_
     exact ⟨rfl, _, HD.out, by have := HRL.out; simp at this ⊢; omega, HR2.out⟩
end Go.Y.Rrs
namespace Go.Y.Rrs
open Go.Proofs.aj.aD Go.Proofs.aj.aQ Go.Proofs.aj.aW Go.Y.Given Go.Y.PRd Go.Y.PRr Go.Y.eU
theorem IW {w0 : World} {base g c : Nat} {rest : List Value} (p l s : List RR) (y : RR) (hl0 : 1 < l.length) (hs : Sorted bF l) (hfy : fine y) (hf : ∀ x ∈ l, fine x) {N a m b : Nat} (hn : N ≤ 1000000) (hN : (p ++ (l ++ ([y] ++ s))).length = N) (ha : p.length = a) (hm : a + l.length = m) (hb : m + 1 = b) (w : World) (HO : Own w0 base g c rest w (p ++ (l ++ ([y] ++ s)))) :
  Calls Tryz.prog 187 #[.slice (some ⟨g, 0, none⟩) N c, .int .i64 (a : Int), .int .i64 (m : Int), .int .i64 (b : Int), oJ] w fun e w' => e = .returned (.tuple #[]) ∧ ∃ mm, dR bF (l ++ [y]) mm ∧ mm.length = l.length + 1 ∧ Own w0 base g c rest w' (p ++ (mm ++ s)) := by
 have hu22 := Tryz.underlying22
 have hu41 := Tryz.underlying35
 have hl : (p ++ (l ++ ([y] ++ s))).length = p.length + l.length + 1 + s.length := by simp; omega
 rw [hN] at hl
 obtain ⟨A, hA⟩ : ∃ A, l.length = A := ⟨_, rfl⟩
 have HR := Lib.hid HO
 have HF := Lib.hid hf
 have HM := Lib.hid (Ej jE zR y hs)
 have HFY := Lib.hid hfy
 have HS := Lib.hid hs
 have HL := Lib.hid hA
 have HA := Lib.hid ha
 have h1 : b ≤ m + 1 ∧ m + 1 ≤ b ∧ b ≤ N ∧ 1 < A := by omega
 have h2 : m ≤ a + A ∧ a + A ≤ m := by omega
 have e1 : IntKind.i64.wrap ((m : Int) - (a : Int)) = (A : Int) := iQ (by omega) (by omega)
 have e2 : IntKind.i64.wrap ((b : Int) - (m : Int)) = 1 := iQ (n := 1) (by omega) (by omega)
 have e3 : ((A : Int) == 1) = false := beq_false_of_ne (by omega)
 have hcy : (p ++ (l ++ ([y] ++ s)))[m]? = some y := by
  have := eU.get_at (p ++ l) s y
  rw [List.length_append, ha, hA, show a + A = m by omega] at this
  simpa using this
 have HCY := Lib.hid hcy
 have hrd : ∀ t h, t < A → a + t = h → (p ++ (l ++ ([y] ++ s)))[h]? = some (l.getD t zR) := fun t h ht e => uf zR p l ([y] ++ s) (t := t) (by omega) (i := h) (by omega)
 have HRD := Lib.hid hrd
 clear HO hf hfy hs hN hl ha hm hb hcy hrd hA hl0
 go_enter Tryz.func187, Tryz.ntmps187
 go_wp2_with fail
 go_loopg [14, 15] A (fun kx si sj wr => ∃ (i j u v : Nat), si = .int .i64 (i : Int) ∧ sj = .int .i64 (j : Int) ∧ i ≤ a + u ∧ a + u ≤ i ∧ j ≤ a + v ∧ a + v ≤ j ∧ u ≤ v ∧ v ≤ A ∧ v - u ≤ kx ∧ Hid (Cut (fun t => 0 ≤ bF y (l.getD t zR)) 0 l.length u v) ∧ Hid (Own w0 base g c rest wr (p ++ (l ++ ([y] ++ s)))))
 case atStart => exact ⟨a, m, 0, A, rfl, rfl, by omega, by omega, by omega, by omega, by omega, by omega, by omega, Lib.hid (by rw [← HL.out]; exact Cut.start (Nat.zero_le _)), HR⟩
 case round =>
  clear HR
  obtain ⟨i, j, u, v, rfl, rfl, i1, i2, j1, j2, huv, hv, hk, HC, HR⟩ := hrel
  by_cases hlt : u < v
  ·obtain ⟨k, h, k1, k2, k3, k4, k5, k6, k7⟩ := yY i j (by omega)
   have hltz : (i : Int) < (j : Int) := by omega
   obtain ⟨q, hq⟩ : ∃ q, h - a = q := ⟨_, rfl⟩
   have q1 : a + q = h := by omega
   have q2 : u ≤ q ∧ q < v := by omega
   obtain ⟨x, hx⟩ : ∃ x, l.getD q zR = x := ⟨_, rfl⟩
   have hcx := HRD.out q h (by omega) q1
   rw [hx] at hcx
   have hfx : fine x := by rw [← hx, lu l zR (by rw [HL.out]; omega)]; exact HF.out _ (List.getElem_mem _)
   obtain ⟨y0, y1, y2, y3, y4, y5, y6, y7, y8, y9⟩ := HR.out.at5 HCY.out
   obtain ⟨x0, x1, x2, x3, x4, x5, x6, x7, x8, x9⟩ := HR.out.at5 hcx
   have HX := Lib.hid hx
   have HQ := Lib.hid q1
   have p0 : (0 : Int) ≤ (h : Int) := by omega
   have p1 : (h : Int) < (N : Int) := by omega
   have p2 : (0 : Int) ≤ (m : Int) := by omega
   have p3 : (m : Int) < (N : Int) := by omega
   clear hq q1 hx hcx
   go_wp2_with fail
   go_still_tail 9, (by kernel_rfl)
   change wpList _ _ _ _ _ wr.drew
   clear x0 x1 x2 x3 x4 x5 x6 x7 x8 x9 y0 y1 y2 y3 y4 y5 y6 y7 y8 y9
   have HR1 := Lib.hid HR.out.drew
   have hcall := qM HFY.out hfx wr.drew
   clear HR hfx
   generalize wr.drew = wd at HR1 hcall
   have HCALL := Lib.hid hcall
   clear hcall
   go_wp2_with fail
   refine (HCALL.out).mono ?_
   rintro en w4 ⟨rfl, hb4⟩
   have HR := Lib.hid (HR1.out.below hb4)
   clear hb4 HR1 HCALL
   obtain ⟨o, ho⟩ : ∃ o, bF y x = o := ⟨_, rfl⟩
   rw [ho]
   have HO := Lib.hid ho
   clear ho
   by_cases hlv : o < 0
   ·have HC2 := Lib.hid (HC.out.no (HM.out) q2.1 q2.2 (by rw [HX.out, HO.out]; omega))
    go_wp2_with fail
    go_roundg (q - u)
    case measure => omega
    case rel => exact ⟨i, h, u, q, rfl, rfl, i1, i2, by have := HQ.out; omega, by have := HQ.out; omega, q2.1, by omega, Nat.le_refl _, HC2, HR⟩
   ·obtain ⟨h1', hh1⟩ : ∃ h1', h + 1 = h1' := ⟨_, rfl⟩
    rw [hh1] at k5
    have hh2 : h + 1 ≤ h1' ∧ h1' ≤ h + 1 := by omega
    have HC2 := Lib.hid (HC.out.yes (HM.out) q2.1 q2.2 (by rw [HX.out, HO.out]; omega))
    have hlv' : decide (o < 0) = false := decide_eq_false hlv
    clear hh1
    go_wp2_with fail
    go_roundg (v - (q + 1))
    case measure => omega
    case rel => exact ⟨h1', j, q + 1, v, rfl, rfl, by have := HQ.out; omega, by have := HQ.out; omega, j1, j2, by omega, hv, Nat.le_refl _, HC2, HR⟩
  ·have hltz : ¬ (i : Int) < (j : Int) := by omega
   obtain rfl : u = v := by omega
   have HD := Lib.hid (Fq jE zR y HS.out (i := u) HC.out)
   obtain ⟨p1, hp1⟩ : ∃ p1, p ++ l.take u = p1 := ⟨_, rfl⟩
   obtain ⟨v1, hv1⟩ : ∃ v1, l.drop u = v1 := ⟨_, rfl⟩
   have hul : u ≤ l.length := by rw [HL.out]; exact hv
   have hvl : v1.length = A - u := by rw [← hv1, List.length_drop, HL.out]
   have HPL : Hid (p1.length = a + u) := Lib.hid (by rw [← hp1, List.length_append, List.length_take, HA.out]; omega)
   have hcur : p ++ (l ++ ([y] ++ s)) = p1 ++ (v1.take (A - u) ++ y :: (v1.drop (A - u) ++ s)) := by
    rw [List.take_of_length_le (by omega), List.drop_of_length_le (by omega), ← hp1, ← hv1, List.nil_append, List.append_assoc, ← List.append_assoc (l.take u), List.take_append_drop]; rfl
   rw [hcur] at HR
   have HFIN : Hid (p ++ ((l.take u ++ y :: v1) ++ s) = p1 ++ (y :: (v1 ++ s))) := Lib.hid (by rw [← hp1]; simp)
   rw [hv1] at HD
   have HVL := Lib.hid hvl
   have HLL : Hid ((l.take u).length + v1.length = l.length) := Lib.hid (by rw [hvl, List.length_take, HL.out]; omega)
   have hAu : a + u + (A - u) ≤ m ∧ m ≤ a + u + (A - u) := by omega
   obtain ⟨B, hB⟩ : ∃ B, A - u = B := ⟨_, rfl⟩
   rw [hB] at HR hAu HVL
   clear HC hcur hp1 hv1 hvl hul HM HF HRD HCY HS hB HA
   go_wp2_with fail
   go_loopg [17] B (fun kx sk wr => ∃ (k q : Nat), sk = .int .i64 (k : Int) ∧ k ≤ a + u + q ∧ a + u + q ≤ k ∧ q ≤ B ∧ q ≤ kx ∧ Hid (Own w0 base g c rest wr (p1 ++ (v1.take q ++ y :: (v1.drop q ++ s)))))
   case atStart => exact ⟨m, B, rfl, by omega, by omega, by omega, by omega, HR⟩
   case round =>
    clear HR
    obtain ⟨k, q, rfl, k1, k2, hq, hkq, HR⟩ := hrel
    by_cases hlt : 0 < q
    ·obtain ⟨q, rfl⟩ : ∃ q', q = q' + 1 := ⟨q - 1, by omega⟩
     obtain ⟨k', rfl⟩ : ∃ k', k = k' + 1 := ⟨k - 1, by omega⟩
     obtain ⟨x, hx, hy, hs⟩ := Cb p1 v1 s y (k := k') (q := q) (by rw [HVL.out]; exact hq) (by rw [HPL.out]; omega)
     obtain ⟨k, hk'⟩ : ∃ k, k' + 1 = k := ⟨_, rfl⟩
     have ek : IntKind.i64.wrap ((k : Int) - 1) = (k' : Int) := iQ (by omega) (by omega)
     obtain ⟨cur, hc⟩ : ∃ cur, p1 ++ (v1.take (q + 1) ++ y :: (v1.drop (q + 1) ++ s)) = cur := ⟨_, rfl⟩
     rw [hk'] at hy hs k1 k2 ⊢
     rw [hc] at hx hy hs HR
     have HS2 := Lib.hid (HR.out.swap hy hx).drew
     rw [hs] at HS2
     obtain ⟨D2, hy2⟩ := HR.out.next x (List.getElem?_eq_some_iff.1 hy).1 hx (show k ≠ k' by omega)
     obtain ⟨x0, x1, x2, x3, x4, x5, x6, x7, x8, x9⟩ := HR.out.at5 hx
     obtain ⟨y0, y1, y2, y3, y4, y5, y6, y7, y8, y9⟩ := HR.out.at5 hy
     obtain ⟨z0, z1, z2, z3, z4, z5, z6, z7, z8, z9⟩ := D2.at5 hy2
     have hltz : (i : Int) < (k : Int) := by omega
     have p0 : (0 : Int) ≤ (k : Int) := by omega
     have p1 : (k : Int) < (N : Int) := by omega
     have p2 : (0 : Int) ≤ (k' : Int) := by omega
     have p3 : (k' : Int) < (N : Int) := by omega
     have k3 : k' ≤ a + u + q ∧ a + u + q ≤ k' := by omega
     clear HR D2 hy2 hx hy hs hc hk'
     go_wp2_with fail
     go_big_region
     all_goals go_wp2
     go_roundg q
     case measure => omega
     case rel => exact ⟨k', q, rfl, k3.1, k3.2, by omega, Nat.le_refl _, HS2⟩
    ·have hltz : ¬ (i : Int) < (k : Int) := by omega
     obtain rfl : q = 0 := by omega
     have hr := HR.out
     rw [List.take_zero, List.drop_zero, List.nil_append, ← HFIN.out] at hr
     have HR2 := Lib.hid hr
     clear hr HR
     go_wp2_with fail
     refine bodyPost_ret (results_none rfl _ _ _) rfl ?_
     exact ⟨rfl, _, HD.out, by have := HLL.out; simp at this ⊢; omega, HR2.out⟩
end Go.Y.Rrs
namespace Go.Y.Rrs
open Go.Proofs.aj.aD Go.Proofs.aj.aQ Go.Proofs.aj.aW Go.Y.Given Go.Y.PRd Go.Y.PRr Go.Y.eU
theorem Gx {w0 : World} {base g c : Nat} {rest : List Value} (l : List RR) (hn : l.length ≤ 1000000) (a b n : Nat) (h1 : a + n ≤ b) (h2 : b + n ≤ l.length) (w : World) (HO : Own w0 base g c rest w l) :
  Calls Tryz.prog 229 #[.slice (some ⟨g, 0, none⟩) l.length c, .int .i64 (a : Int), .int .i64 (b : Int), .int .i64 (n : Int), oJ] w fun e w' => e = .returned (.tuple #[]) ∧ Own w0 base g c rest w' (swR l a b n) := by
 have hu22 := Tryz.underlying22
 have hu41 := Tryz.underlying35
 have HR := Lib.hid HO
 obtain ⟨N, hN⟩ : ∃ N, l.length = N := ⟨_, rfl⟩
 have HN := Lib.hid hN
 rw [hN] at hn h2 ⊢
 clear HO hN
 go_enter Tryz.func229, Tryz.ntmps229
 go_wp2_with fail
 go_loopg [10] n (fun kx s wr => ∃ i : Nat, s = .int .i64 (i : Int) ∧ i ≤ n ∧ n - i ≤ kx ∧ Hid (Own w0 base g c rest wr (swR l a b i)))
 case atStart => exact ⟨0, rfl, by omega, by omega, HR⟩
 case round =>
  clear HR
  obtain ⟨i, rfl, hi, hk, HR⟩ := hrel
  by_cases hlt : i < n
  ·obtain ⟨cur, hc⟩ : ∃ cur, swR l a b i = cur := ⟨_, rfl⟩
   rw [hc] at HR
   have hl : cur.length = N := by rw [← hc, kK, HN.out]
   obtain ⟨x, hx⟩ := qK (show a + i < cur.length by omega)
   obtain ⟨y, hy⟩ := qK (show b + i < cur.length by omega)
   have eA : IntKind.i64.wrap ((a : Int) + (i : Int)) = ((a + i : Nat) : Int) := iQ (by omega) (by omega)
   have eB : IntKind.i64.wrap ((b : Int) + (i : Int)) = ((b + i : Nat) : Int) := iQ (by omega) (by omega)
   obtain ⟨p, hp⟩ : ∃ p, a + i = p := ⟨_, rfl⟩
   obtain ⟨q, hq⟩ : ∃ q, b + i = q := ⟨_, rfl⟩
   rw [hp] at eA hx
   rw [hq] at eB hy
   have hs : (cur.set p y).set q x = swR l a b (i + 1) := by rw [swR, hp, hq, hc]; unfold sw; rw [hx, hy]
   have HS := Lib.hid (HR.out.swap hx hy).drew
   rw [hs] at HS
   obtain ⟨D2, hy2⟩ := HR.out.next y (by omega) hy (show p ≠ q by omega)
   obtain ⟨x0, x1, x2, x3, x4, x5, x6, x7, x8, x9⟩ := HR.out.at5 hx
   obtain ⟨y0, y1, y2, y3, y4, y5, y6, y7, y8, y9⟩ := HR.out.at5 hy
   obtain ⟨z0, z1, z2, z3, z4, z5, z6, z7, z8, z9⟩ := D2.at5 hy2
   clear HR hc hx hy D2 hy2 hs
   have p1 : (p : Int) < (N : Int) := by omega
   have q1 : (q : Int) < (N : Int) := by omega
   have hltz : (i : Int) < (n : Int) := by omega
   have p0 : (0 : Int) ≤ (p : Int) := by omega
   have q0 : (0 : Int) ≤ (q : Int) := by omega
   go_wp2_with fail
   go_big_region
   all_goals go_wp2
   go_roundg (n - (i + 1))
   case measure => omega
   case rel => exact ⟨i + 1, by first | rfl | go_num, by omega, Nat.le_refl _, HS⟩
  ·go_wp2_with fail
   go_end0
   obtain rfl : i = n := by omega
   exact ⟨rfl, HR.out⟩
end Go.Y.Rrs
namespace Go.Y.Rrs
open Go.Proofs.aj.aD Go.Proofs.aj.aQ Go.Proofs.aj.aW Go.Y.Given Go.Y.PRd Go.Y.PRr Go.Y.eU
theorem Gv {w0 : World} {base g c : Nat} {rest : List Value} (p u v s : List RR) (hu : 0 < u.length) (hv : 0 < v.length) (hn : (p ++ (u ++ (v ++ s))).length ≤ 1000000) {N a m b : Nat} (hN : (p ++ (u ++ (v ++ s))).length = N) (ha : p.length = a) (hm : p.length + u.length = m) (hb : m + v.length = b) (w : World) (HO : Own w0 base g c rest w (p ++ (u ++ (v ++ s)))) :
  Calls Tryz.prog 217 #[.slice (some ⟨g, 0, none⟩) N c, .int .i64 (a : Int), .int .i64 (m : Int), .int .i64 (b : Int), oJ] w fun e w' => e = .returned (.tuple #[]) ∧ Own w0 base g c rest w' (p ++ (v ++ (u ++ s))) := by
 have hl : (p ++ (u ++ (v ++ s))).length = p.length + u.length + v.length + s.length := by simp; omega
 have HR := Lib.hid HO
 have HF := Lib.hid (fun l' => EH (p := p) (u := u) (v := v) (s := s) (l' := l'))
 rw [hm] at HF
 obtain ⟨l, hL⟩ : ∃ l, p ++ (u ++ (v ++ s)) = l := ⟨_, rfl⟩
 rw [hN] at hl hn
 rw [hL] at HR HF hN
 have e1 : IntKind.i64.wrap ((m : Int) - (a : Int)) = (u.length : Int) := iQ (by omega) (by omega)
 have e2 : IntKind.i64.wrap ((b : Int) - (m : Int)) = (v.length : Int) := iQ (by omega) (by omega)
 obtain ⟨A, hA⟩ : ∃ A, u.length = A := ⟨_, rfl⟩
 obtain ⟨B, hB⟩ : ∃ B, v.length = B := ⟨_, rfl⟩
 rw [hA] at e1 HF hu hm
 rw [hB] at e2 HF hv hb
 have hmb : A ≤ m ∧ m + B ≤ N ∧ N ≤ 1000000 := by omega
 have HL := Lib.hid hN
 clear HO hL ha hA hB hN hl
 go_enter Tryz.func217, Tryz.ntmps217
 go_wp2_with fail
 go_loopg [10, 11] (A + B) (fun kx si sj wr => ∃ (i j : Nat) (cur : List RR), si = .int .i64 (i : Int) ∧ sj = .int .i64 (j : Int) ∧ 0 < i ∧ 0 < j ∧ i ≤ m ∧ m + j ≤ N ∧ i + j ≤ kx ∧ Hid (cur.length = N) ∧ Hid (∀ l', Rot cur l' m i j → Rot l l' m A B) ∧ Hid (Own w0 base g c rest wr cur))
 case atStart => exact ⟨A, B, l, rfl, rfl, hu, hv, hmb.1, hmb.2.1, Nat.le_refl _, HL, Lib.hid (fun l' h => h), HR⟩
 case round =>
  clear HR HL
  obtain ⟨i, j, cur, rfl, rfl, hi, hj, him, hjn, hk, HL, HT, HR⟩ := hrel
  have e3 : IntKind.i64.wrap ((m : Int) - (i : Int)) = ((m - i : Nat) : Int) := iQ (by omega) (by omega)
  have hln : cur.length ≤ 1000000 := by rw [HL.out]; omega
  have hs := fun x y z w h1 h2 h => Gx (w0 := w0) (base := base) (g := g) (c := c) (rest := rest) cur hln x y z h1 h2 w h
  rw [HL.out] at hs
  have HS := Lib.hid hs
  clear hs hln
  by_cases h0 : i = j
  ·subst h0
   go_wp2_with fail
   refine (HS.out (m - i) m i wr (by omega) (by omega) HR.out).mono ?_
   rintro e w' ⟨rfl, hw⟩
   rw [HF.out _ (HT.out _ (GJ cur m i him (by rw [HL.out]; exact hjn)))] at hw
   have HW := Lib.hid hw
   clear hw
   go_wp2_with fail
   go_end0
   exact ⟨rfl, HW.out⟩
  ·have h0z : ¬ ((i : Int) = (j : Int)) := by omega
   by_cases h1 : j < i
   ·have h1z : (j : Int) < (i : Int) := by omega
    have e4 : IntKind.i64.wrap ((i : Int) - (j : Int)) = ((i - j : Nat) : Int) := iQ (by omega) (by omega)
    go_wp2_with fail
    refine (HS.out (m - i) m j wr (by omega) (by omega) HR.out).mono ?_
    rintro e w' ⟨rfl, hw⟩
    have HW := Lib.hid hw
    clear hw
    go_wp2_with fail
    go_roundg (i - j + j)
    case measure => omega
    case rel => exact ⟨i - j, j, _, rfl, rfl, by omega, hj, by omega, hjn, Nat.le_refl _, Lib.hid ((kK _ _ _ _).trans HL.out), Lib.hid (fun l' h => HT.out _ (FY h1 him (by rw [HL.out]; exact hjn) h)), HW⟩
   ·have h1z : ¬ (j : Int) < (i : Int) := by omega
    have e4 : IntKind.i64.wrap ((j : Int) - (i : Int)) = ((j - i : Nat) : Int) := iQ (by omega) (by omega)
    have e5 : IntKind.i64.wrap ((m : Int) + (j : Int)) = ((m + j : Nat) : Int) := iQ (by omega) (by omega)
    have e6 : IntKind.i64.wrap (((m + j : Nat) : Int) - (i : Int)) = ((m + j - i : Nat) : Int) := iQ (by omega) (by omega)
    obtain ⟨q, hq⟩ : ∃ q, m + j = q := ⟨_, rfl⟩
    rw [hq] at e5 e6
    go_wp2_with fail
    refine (HS.out (m - i) (q - i) i wr (by omega) (by omega) HR.out).mono ?_
    rintro e w' ⟨rfl, hw⟩
    have HW := Lib.hid hw
    clear hw
    go_wp2_with fail
    go_roundg (i + (j - i))
    case measure => omega
    case rel => exact ⟨i, j - i, _, rfl, rfl, hi, by omega, him, by omega, Nat.le_refl _, Lib.hid ((kK _ _ _ _).trans HL.out), Lib.hid (fun l' h => HT.out _ (Fu (by omega) him (by rw [HL.out]; exact hjn) (by rw [hq]; exact h))), HW⟩
end Go.Y.Rrs
