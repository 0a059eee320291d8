/- Joined out of this session's own texts: contracts and facts that the claim's row is drawn from, each with its own conditions. -/
import Derived.Test.YtehdkopjgcoclaaGreatJoined3
import Derived.Deep.QuietTactic
import Derived.BigQuiet
import Derived.StillTailTactics
import Derived.Deep.LoopGhost
import Derived.Outline
import Derived.Test.YtehdkopjgcoclaaGreatProg
import Derived.Below
import Derived.Deep.Draws
import Derived.Deep.AppendLies
import Derived.Maps.AppendAt
import Derived.OwnWalk
import Derived.Laws.BytesArg
import Derived.Laws.MakeOwn
import Derived.Laws.OwnMore
import Derived.Deep.OwnRows
import Derived.Tactics
import Derived.Lib.ConvBytes
import Derived.Laws.Slices
import Derived.WalkKit
import Derived.KernelRfl
import Derived.RowKit3
import Derived.WideLaws
import Derived.Deep.DeepCutAuto
import Derived.Deep.CutBlock
import Derived.Deep.RegionHeld3
import Derived.Laws.Rows
import Derived.Lib.AppendStr
import Derived.ArgAppend
import Derived.Laws.IdiomCopy
import Derived.OrdersHeld
import Derived.Laws.BitsLemmas
import Derived.RowKit
set_option linter.unusedSimpArgs false
set_option linter.unusedVariables false
set_option maxHeartbeats 40000000
set_option maxRecDepth 100000
open Go.Proofs
namespace Go.Y.Rrs
open Go.RowKit Go.V.aD Go.V.aN Go.V.aR Go.Y.Given Go.Y.PRd Go.Y.PRr Go.Y.PSo Go.Y.fC Go.Y.gI
theorem mO {l p s : List RR} {x : RR} {i : Nat} (e : l = p ++ x :: s) (hi : i = p.length) : rdR l (i : Nat) = x := by
 subst e
 subst hi
 rw [eT _ _ (by simp)]
 simp
theorem w64 {x : Int} {n : Nat} (h : x = (n : Int)) (hn : n ≤ 9223372036854775807) : wrap64 x = (n : Int) := by rw [h]; unfold wrap64; omega
theorem half (i j : Nat) (h : i + j ≤ 4000000) : wrap64 ((IntKind.u64.wrap (wrap64 ((i : Int) + (j : Int)))) / 2) = (((i + j) / 2 : Nat) : Int) := by
 have e1 : wrap64 ((i : Int) + (j : Int)) = ((i + j : Nat) : Int) := w64 (by omega) (by omega)
 have e2 : ((i + j : Nat) : Int) % 2 ^ 64 = ((i + j : Nat) : Int) := by omega
 have e3 : IntKind.u64.wrap ((i + j : Nat) : Int) = ((i + j : Nat) : Int) := by
  simp only [IntKind.wrap, IntKind.bits, IntKind.signed, e2]; rw [if_neg (by simp)]
 rw [e1, e3]
 exact w64 (by omega) (by omega)
theorem CY (l : List RR) (i j : Nat) (hi : i < l.length) (hj : j < l.length) : (l.set i (rdR l (j : Nat))).set j (rdR l (i : Nat)) = sw l i j := by
 unfold sw
 rw [List.getElem?_eq_getElem hi, List.getElem?_eq_getElem hj, eT l i hi, eT l j hj]
theorem og (l : List RR) (hl : ∀ y ∈ l, fine y) (i j : Nat) (hi : i < l.length) (hj : j < l.length) : Ev (fun k => qB k (rdR l (i : Nat)) (rdR l (j : Nat))) (aW (rdR l (i : Nat)) (rdR l (j : Nat))) := by
 rw [eT l i hi, eT l j hj]
 exact yE _ _ (hl _ (List.getElem_mem _)) (hl _ (List.getElem_mem _))
theorem Ez (l : List RR) (hn : l.length ≤ 1000000) (a b n : Nat) (z : Int) (h1 : a + n ≤ b) (h2 : b + n ≤ l.length) : ∀ (d i : Nat), i + d = n → Ev (fun k => dB.l0 k (swR l a b i) (a : Int) (b : Int) (n : Int) (i : Int)) (swR l a b n) := by
 intro d
 induction d with
 | zero =>
  intro i hi
  obtain rfl : i = n := by omega
  exact Ev.step (f := fun _ => some (swR l a b i)) (fun k => by simp only [dB.l0]; rw [if_neg (by omega)]) (Ev.now _)
 | succ d ih =>
  intro i hi
  have hl := jo l a b i
  have ea : wrap64 ((a : Int) + (i : Int)) = ((a + i : Nat) : Int) := w64 (by omega) (by omega)
  have eb : wrap64 ((b : Int) + (i : Int)) = ((b + i : Nat) : Int) := w64 (by omega) (by omega)
  have ei : wrap64 ((i : Int) + 1) = ((i + 1 : Nat) : Int) := w64 (by omega) (by omega)
  have hs := CY (swR l a b i) (a + i) (b + i) (by omega) (by omega)
  refine Ev.step (f := fun k => dB.l0 k (swR l a b (i + 1)) (a : Int) (b : Int) (n : Int) ((i + 1 : Nat) : Int)) (fun k => ?_) (ih (i + 1) (by omega))
  simp only [dB.l0, ea, eb, ei]
  rw [if_pos (by omega), if_pos (by omega), if_pos (by rw [hl]; omega), if_pos (by omega), if_pos (by rw [hl]; omega)]
  rw [swR, ← hs]
  rfl
theorem xQ (l : List RR) (hn : l.length ≤ 1000000) (a b n : Nat) (z : Int) (h1 : a + n ≤ b) (h2 : b + n ≤ l.length) : Ev (fun k => dB.f k l (a : Int) (b : Int) (n : Int) z) (swR l a b n) :=
 Ez l hn a b n z h1 h2 n 0 (by omega)
theorem EN (m : Nat) (z : Int) : ∀ (s i j : Nat) (l : List RR), i + j ≤ s → 0 < i → 0 < j → i ≤ m → m + j ≤ l.length → l.length ≤ 1000000 → ∃ l', Rot l l' m i j ∧ Ev (fun k => fq.l0 k l (m : Int) z (i : Int) (j : Int)) l' := by
 intro s
 induction s with
 | zero => intro i j l h; omega
 | succ s ih =>
  intro i j l hs hi hj him hm hn
  have e1 : wrap64 ((m : Int) - (i : Int)) = ((m - i : Nat) : Int) := w64 (by omega) (by omega)
  by_cases h0 : i = j
  ·subst h0
   refine ⟨_, Fv l m i him hm, Ev.step (f := fun k => (dB.f k l ((m - i : Nat) : Int) (m : Int) (i : Int) z).bind fun t => some t) (fun k => by simp only [fq.l0, e1]; rw [if_pos trivial]) ?_⟩
   exact Ev.bind (xQ l hn (m - i) m i z (by omega) (by omega)) (Ev.now _)
  ·by_cases h1 : j < i
   ·have e2 : wrap64 ((i : Int) - (j : Int)) = ((i - j : Nat) : Int) := w64 (by omega) (by omega)
    obtain ⟨l', hr, he⟩ := ih (i - j) j (swR l (m - i) m j) (by omega) (by omega) hj (by omega) (by rw [jo]; omega) (by rw [jo]; omega)
    refine ⟨l', FM h1 him hm hr, Ev.step (f := fun k => (dB.f k l ((m - i : Nat) : Int) (m : Int) (j : Int) z).bind fun t => fq.l0 k t (m : Int) z ((i - j : Nat) : Int) (j : Int)) (fun k => by simp only [fq.l0, e1, e2]; rw [if_neg (by omega), if_pos (by omega)]) ?_⟩
    exact Ev.bind (xQ l hn (m - i) m j z (by omega) (by omega)) he
   ·have e2 : wrap64 ((j : Int) - (i : Int)) = ((j - i : Nat) : Int) := w64 (by omega) (by omega)
    have e3 : wrap64 (wrap64 ((m : Int) + (j : Int)) - (i : Int)) = ((m + j - i : Nat) : Int) := by
     rw [show wrap64 ((m : Int) + (j : Int)) = ((m + j : Nat) : Int) from w64 (by omega) (by omega)]
     exact w64 (by omega) (by omega)
    obtain ⟨l', hr, he⟩ := ih i (j - i) (swR l (m - i) (m + j - i) i) (by omega) hi (by omega) him (by rw [jo]; omega) (by rw [jo]; omega)
    refine ⟨l', BZ (by omega) him hm hr, Ev.step (f := fun k => (dB.f k l ((m - i : Nat) : Int) ((m + j - i : Nat) : Int) (i : Int) z).bind fun t => fq.l0 k t (m : Int) z (i : Int) ((j - i : Nat) : Int)) (fun k => by simp only [fq.l0, e1, e2, e3]; rw [if_neg (by omega), if_neg (by omega)]) ?_⟩
    exact Ev.bind (xQ l hn (m - i) (m + j - i) i z (by omega) (by omega)) he
theorem Iz (p u v s : List RR) (z : Int) (hu : 0 < u.length) (hv : 0 < v.length) (hn : (p ++ (u ++ (v ++ s))).length ≤ 1000000) :
  Ev (fun k => fq.f k (p ++ (u ++ (v ++ s))) (p.length : Int) ((p.length + u.length : Nat) : Int) ((p.length + u.length + v.length : Nat) : Int) z) (p ++ (v ++ (u ++ s))) := by
 have hl : (p ++ (u ++ (v ++ s))).length = p.length + u.length + v.length + s.length := by simp; omega
 have e1 : wrap64 (((p.length + u.length : Nat) : Int) - (p.length : Int)) = (u.length : Int) := w64 (by omega) (by omega)
 have e2 : wrap64 (((p.length + u.length + v.length : Nat) : Int) - ((p.length + u.length : Nat) : Int)) = (v.length : Int) := w64 (by omega) (by omega)
 obtain ⟨l', hr, he⟩ := EN (p.length + u.length) z (u.length + v.length) u.length v.length _ (Nat.le_refl _) hu hv (by omega) (by omega) hn
 rw [DF hr] at he
 refine Ev.congr (fun k => ?_) he
 unfold fq.f
 rw [e1, e2]
theorem II (a b i : Nat) (z : Int) (p t : List RR) (x : RR) (hp : p.length = a) : ∀ (n : Nat) (m1 m2 : List RR), m1.length = n → Sorted aW (m1 ++ m2) → (∀ y ∈ m2, aW x y < 0) → (∀ y ∈ p ++ ((m1 ++ x :: m2) ++ t), fine y) →
  (p ++ ((m1 ++ x :: m2) ++ t)).length ≤ 1000000 → i ≤ 1000000 → ∃ m', eG aW ((m1 ++ m2) ++ [x]) m' ∧ m'.length = m1.length + m2.length + 1 ∧ (∀ y ∈ m', y ∈ m1 ++ x :: m2) ∧
   ∀ r, Ev (fun k => aZ.l0 k (p ++ (m' ++ t)) (a : Int) (b : Int) ((i + 1 : Nat) : Int)) r → Ev (fun k => aZ.l1 k (p ++ ((m1 ++ x :: m2) ++ t)) (a : Int) (b : Int) (i : Int) ((a + m1.length : Nat) : Int)) r := by
 intro n
 induction n with
 | zero =>
  intro m1 m2 h0 hs h2 hf hn hi
  obtain rfl := List.length_eq_zero_iff.mp h0
  have e1 : wrap64 ((i : Int) + 1) = ((i + 1 : Nat) : Int) := w64 (by omega) (by omega)
  refine ⟨[] ++ x :: m2, nQ eZ hs (fun y hy => by cases hy) h2, by simp, fun y hy => hy, fun r hr => ?_⟩
  refine Ev.step (f := fun k => aZ.l0 k (p ++ (([] ++ x :: m2) ++ t)) (a : Int) (b : Int) ((i + 1 : Nat) : Int)) (fun k => by simp only [aZ.l1, e1]; rw [if_neg (by simp)]) hr
 | succ n ih =>
  intro m1 m2 h0 hs h2 hf hn hi
  obtain ⟨m0, y, rfl⟩ : ∃ m0 y, m1 = m0 ++ [y] := ⟨m1.dropLast, m1.getLast (by intro e; rw [e] at h0; cases h0), (List.dropLast_concat_getLast (by intro e; rw [e] at h0; cases h0)).symm⟩
  have hm0 : m0.length = n := by simpa using h0
  have hlen : (p ++ (((m0 ++ [y]) ++ x :: m2) ++ t)).length = a + n + 1 + 1 + m2.length + t.length := by simp [hp, hm0]; omega
  have e1 : wrap64 ((i : Int) + 1) = ((i + 1 : Nat) : Int) := w64 (by omega) (by omega)
  have ej : wrap64 (((a + (m0 ++ [y]).length : Nat) : Int) - 1) = ((a + n : Nat) : Int) := w64 (by simp [hm0]; omega) (by omega)
  have el : p ++ (((m0 ++ [y]) ++ x :: m2) ++ t) = (p ++ m0) ++ y :: x :: (m2 ++ t) := by simp
  have hpm : (p ++ m0).length = a + n := by simp [hp, hm0]
  have ry : rdR (p ++ (((m0 ++ [y]) ++ x :: m2) ++ t)) ((a + n : Nat) : Int) = y := mO el hpm.symm
  have rx : rdR (p ++ (((m0 ++ [y]) ++ x :: m2) ++ t)) ((a + (m0 ++ [y]).length : Nat) : Int) = x := mO (p := (p ++ m0) ++ [y]) (s := m2 ++ t) (by rw [el]; simp) (by simp [hp, hm0])
  have hj : a + (m0 ++ [y]).length = a + n + 1 := by simp [hm0]; omega
  have hfx : fine x := hf x (by simp)
  have hfy : fine y := hf y (by simp)
  have hsw : ((p ++ (((m0 ++ [y]) ++ x :: m2) ++ t)).set (a + n + 1) y).set (a + n) x = p ++ ((m0 ++ x :: (y :: m2)) ++ t) := by
   rw [el, CS (p ++ m0) (m2 ++ t) y x (a + n) hpm.symm]; simp
  have hstep : ∀ k, aZ.l1 (k + 1) (p ++ (((m0 ++ [y]) ++ x :: m2) ++ t)) (a : Int) (b : Int) (i : Int) ((a + (m0 ++ [y]).length : Nat) : Int) =
    (qB k x y).bind fun c => if c < 0 then aZ.l1 k (p ++ ((m0 ++ x :: (y :: m2)) ++ t)) (a : Int) (b : Int) (i : Int) ((a + m0.length : Nat) : Int) else aZ.l0 k (p ++ (((m0 ++ [y]) ++ x :: m2) ++ t)) (a : Int) (b : Int) ((i + 1 : Nat) : Int) := fun k => by
   simp only [aZ.l1, ej, e1]
   rw [if_pos (by omega), if_pos (by omega), if_pos (by omega), if_pos (by omega), if_pos (by omega)]
   have hset : ((p ++ (((m0 ++ [y]) ++ x :: m2) ++ t)).set ((a + (m0 ++ [y]).length : Nat) : Int).toNat (rdR (p ++ (((m0 ++ [y]) ++ x :: m2) ++ t)) ((a + n : Nat) : Int))).set ((a + n : Nat) : Int).toNat (rdR (p ++ (((m0 ++ [y]) ++ x :: m2) ++ t)) ((a + (m0 ++ [y]).length : Nat) : Int)) = p ++ ((m0 ++ x :: (y :: m2)) ++ t) := by
    rw [ry, rx, Int.toNat_natCast, Int.toNat_natCast, hj, hsw]
   show ((qB k (rdR (p ++ (((m0 ++ [y]) ++ x :: m2) ++ t)) ((a + (m0 ++ [y]).length : Nat) : Int)) (rdR (p ++ (((m0 ++ [y]) ++ x :: m2) ++ t)) ((a + n : Nat) : Int))).bind fun c => if c < 0 then aZ.l1 k (((p ++ (((m0 ++ [y]) ++ x :: m2) ++ t)).set ((a + (m0 ++ [y]).length : Nat) : Int).toNat (rdR (p ++ (((m0 ++ [y]) ++ x :: m2) ++ t)) ((a + n : Nat) : Int))).set ((a + n : Nat) : Int).toNat (rdR (p ++ (((m0 ++ [y]) ++ x :: m2) ++ t)) ((a + (m0 ++ [y]).length : Nat) : Int))) (a : Int) (b : Int) (i : Int) ((a + n : Nat) : Int) else _) = _
   rw [hset, ry, rx, hm0]
  by_cases hc : aW x y < 0
  ·obtain ⟨m', h3, h4, h5, h6⟩ := ih m0 (y :: m2) hm0 (by simpa using hs) (fun w hw => by
    rcases List.mem_cons.mp hw with rfl | hw
    ·exact hc
    ·exact h2 w hw) (fun w hw => hf w (by simp at hw ⊢; rcases hw with h | h | h | h | h | h <;> simp [h])) (by simp at hn ⊢; omega) hi
   refine ⟨m', by simpa using h3, by rw [h4]; simp; omega, fun w hw => ?_, fun r hr => Ev.step hstep (Ev.bind (yE x y hfx hfy) ?_)⟩
   ·have := h5 w hw
    simp at this ⊢
    rcases this with h | h | h | h <;> simp [h]
   ·simp only [hc, if_true]
    exact h6 r hr
  ·refine ⟨(m0 ++ [y]) ++ x :: m2, nQ eZ hs (fun w hw => ?_) h2, by simp; omega, fun w hw => hw, fun r hr => Ev.step hstep (Ev.bind (yE x y hfx hfy) ?_)⟩
   ·have h7 : aW y x ≤ 0 := by have := eZ.flip x y; omega
    rcases List.mem_append.mp hw with hw | hw
    ·have h8 : Sorted aW (m0 ++ [y]) := lM hs
     exact eZ.le_trans (kg h8 w hw y (by simp)) h7
    ·rw [List.mem_singleton] at hw
     rw [hw]; exact h7
   ·simp only [hc, if_false]
    exact hr
theorem GN (a b : Nat) (z : Int) (p s : List RR) (hp : p.length = a) : ∀ (n : Nat) (m r : List RR), r.length = n → a + m.length + n = b → 0 < m.length → Sorted aW m → (∀ y ∈ p ++ ((m ++ r) ++ s), fine y) → (p ++ ((m ++ r) ++ s)).length ≤ 1000000 →
  ∃ m', eG aW (m ++ r) m' ∧ m'.length = m.length + n ∧ Ev (fun k => aZ.l0 k (p ++ ((m ++ r) ++ s)) (a : Int) (b : Int) ((a + m.length : Nat) : Int)) (p ++ (m' ++ s)) := by
 intro n
 induction n with
 | zero =>
  intro m r h0 hb hm hs hf hn
  obtain rfl := List.length_eq_zero_iff.mp h0
  rw [List.append_nil]
  exact ⟨m, eG.sj hs, by omega, Ev.step (f := fun _ => some (p ++ (m ++ s))) (fun k => by simp only [aZ.l0]; rw [if_neg (by omega)]) (Ev.now _)⟩
 | succ n ih =>
  intro m r h0 hb hm hs hf hn
  obtain ⟨x, r, rfl⟩ : ∃ x r', r = x :: r' := by cases r with | nil => cases h0 | cons x r => exact ⟨x, r, rfl⟩
  have h0' : r.length = n := by simpa using h0
  have hl : (p ++ ((m ++ x :: r) ++ s)).length = a + m.length + 1 + n + s.length := by simp [hp, h0']; omega
  obtain ⟨m', h3, h4, h5, h6⟩ := II a b (a + m.length) z p (r ++ s) x hp m.length m [] rfl (by simpa using hs) (fun y hy => by cases hy) (by simpa using hf) (by simpa using hn) (by omega)
  rw [List.append_nil] at h3
  have hperm : ∀ y ∈ m', y ∈ p ++ ((m ++ x :: r) ++ s) := fun y hy => by
   have := h5 y hy
   simp at this ⊢
   rcases this with h | h <;> simp [h]
  obtain ⟨m'', g1, g2, g3⟩ := ih m' r h0' (by simp at h4; omega) (by omega) h3.1 (fun y hy => by
   rcases List.mem_append.mp hy with hy | hy
   ·exact hf y (by simp [hy])
   ·rcases List.mem_append.mp hy with hy | hy
    ·rcases List.mem_append.mp hy with hy | hy
     ·exact hf y (hperm y hy)
     ·exact hf y (by simp [hy])
    ·exact hf y (by simp [hy])) (by simp [hp, h4, h0'] at hn ⊢; omega)
  refine ⟨m'', ⟨g1.1, fun w => ?_⟩, by simp at h4; omega, ?_⟩
  ·rw [g1.2, dX, h3.2, ← dX]; simp
  ·have e : p ++ ((m ++ x :: r) ++ s) = p ++ ((m ++ x :: []) ++ (r ++ s)) := by simp
   refine Ev.step (f := fun k => aZ.l1 k (p ++ ((m ++ x :: []) ++ (r ++ s))) (a : Int) (b : Int) ((a + m.length : Nat) : Int) ((a + m.length : Nat) : Int)) (fun k => by simp only [aZ.l0]; rw [if_pos (by omega), e]) (h6 _ ?_)
   have e2 : p ++ (m' ++ (r ++ s)) = p ++ ((m' ++ r) ++ s) := by simp
   have e3 : a + m.length + 1 = a + m'.length := by simp at h4; omega
   rw [e2, e3]
   exact g3
theorem zn (p l s : List RR) (z : Int) (hf : ∀ y ∈ p ++ (l ++ s), fine y) (hn : (p ++ (l ++ s)).length ≤ 1000000) :
  ∃ m, eG aW l m ∧ m.length = l.length ∧ Ev (fun k => aZ.f k (p ++ (l ++ s)) (p.length : Int) ((p.length + l.length : Nat) : Int) z) (p ++ (m ++ s)) := by
 have hl : (p ++ (l ++ s)).length = p.length + l.length + s.length := by simp; omega
 have e1 : wrap64 ((p.length : Int) + 1) = ((p.length + 1 : Nat) : Int) := w64 (by omega) (by omega)
 cases l with
 | nil =>
  refine ⟨[], eG.sj List.Pairwise.nil, rfl, ?_⟩
  refine Ev.congr (f := fun k => aZ.l0 k (p ++ ([] ++ s)) (p.length : Int) ((p.length + [].length : Nat) : Int) ((p.length + 1 : Nat) : Int)) (fun k => by unfold aZ.f; rw [e1]) ?_
  exact Ev.step (f := fun _ => some (p ++ ([] ++ s))) (fun k => by simp only [aZ.l0]; rw [if_neg (by simp; omega)]) (Ev.now _)
 | cons x l =>
  obtain ⟨m, h1, h2, h3⟩ := GN p.length (p.length + (x :: l).length) z p s rfl l.length [x] l rfl (by simp; omega) (by simp) (List.pairwise_singleton _ _) (by simpa using hf) (by simpa using hn)
  refine ⟨m, by simpa using h1, by rw [h2]; simp; omega, ?_⟩
  refine Ev.congr (f := fun k => aZ.l0 k (p ++ (([x] ++ l) ++ s)) (p.length : Int) ((p.length + (x :: l).length : Nat) : Int) ((p.length + [x].length : Nat) : Int)) (fun k => by unfold aZ.f; rw [e1]; rfl) h3
theorem xI (p l s : List RR) (t : Nat) (ht : t < l.length) : rdR (p ++ (l ++ s)) ((p.length + t : Nat) : Int) = l[t] := by
 refine mO (p := p ++ l.take t) (s := l.drop (t + 1) ++ s) ?_ (by rw [List.length_append, List.length_take]; omega)
 have e : l = l.take t ++ l[t] :: l.drop (t + 1) := by rw [← List.drop_eq_getElem_cons ht, List.take_append_drop]
 calc p ++ (l ++ s) = p ++ ((l.take t ++ l[t] :: l.drop (t + 1)) ++ s) := by rw [← e]
  _ = _ := by simp only [List.append_assoc, List.cons_append]
theorem El (x : RR) (t : List RR) : ∀ (v q : List RR) (i : Nat), i = q.length + v.length + 1 → (q ++ x :: (v ++ t)).length ≤ 1000000 → Ev (fun k => av.l1 k (q ++ x :: (v ++ t)) (i : Int) (q.length : Int)) (q ++ (v ++ x :: t)) := by
 intro v
 induction v with
 | nil =>
  intro q i hi hn
  have e1 : wrap64 ((i : Int) - 1) = (q.length : Int) := w64 (by simp at hi; omega) (by simp at hn; omega)
  exact Ev.step (f := fun _ => some (q ++ ([] ++ x :: t))) (fun k => by simp only [av.l1, e1]; rw [if_neg (by omega)]; rfl) (Ev.now _)
 | cons y v ih =>
  intro q i hi hn
  have hl : (q ++ x :: ((y :: v) ++ t)).length = q.length + v.length + t.length + 2 := by simp; omega
  have e1 : wrap64 ((i : Int) - 1) = ((q.length + v.length + 1 : Nat) : Int) := w64 (by simp at hi; omega) (by omega)
  have e2 : wrap64 ((q.length : Int) + 1) = ((q.length + 1 : Nat) : Int) := w64 (by omega) (by omega)
  have rx : rdR (q ++ x :: ((y :: v) ++ t)) (q.length : Int) = x := mO (i := q.length) rfl rfl
  have ry : rdR (q ++ x :: ((y :: v) ++ t)) ((q.length + 1 : Nat) : Int) = y := mO (p := q ++ [x]) (s := v ++ t) (by simp) (by simp)
  have hsw : ((q ++ x :: ((y :: v) ++ t)).set q.length y).set (q.length + 1) x = (q ++ [y]) ++ x :: (v ++ t) := by
   rw [show q ++ x :: ((y :: v) ++ t) = q ++ x :: y :: (v ++ t) by simp, Gn q (v ++ t) x y q.length rfl]; simp
  have h := ih (q ++ [y]) i (by simp at hi ⊢; omega) (by simp at hn ⊢; omega)
  refine Ev.step (f := fun k => av.l1 k ((q ++ [y]) ++ x :: (v ++ t)) (i : Int) ((q ++ [y]).length : Int)) (fun k => ?_) ?_
  ·simp only [av.l1, e1, e2]
   rw [if_pos (by omega), if_pos (by omega), if_pos (by omega), if_pos (by omega), if_pos (by omega)]
   show av.l1 k (((q ++ x :: ((y :: v) ++ t)).set (q.length : Int).toNat (rdR (q ++ x :: ((y :: v) ++ t)) ((q.length + 1 : Nat) : Int))).set ((q.length + 1 : Nat) : Int).toNat (rdR (q ++ x :: ((y :: v) ++ t)) (q.length : Int))) (i : Int) ((q.length + 1 : Nat) : Int) = _
   rw [rx, ry, Int.toNat_natCast, Int.toNat_natCast, hsw]
   simp
  ·have e : q ++ ((y :: v) ++ x :: t) = (q ++ [y]) ++ (v ++ x :: t) := by simp
   rw [e]; exact h
theorem FY (y : RR) : ∀ (n : Nat) (v q t : List RR), v.length = n → (q ++ (v ++ y :: t)).length ≤ 1000000 → Ev (fun k => av.l3 k (q ++ (v ++ y :: t)) (q.length : Int) ((q.length + v.length : Nat) : Int)) (q ++ y :: (v ++ t)) := by
 intro n
 induction n with
 | zero =>
  intro v q t hv hn
  obtain rfl := List.length_eq_zero_iff.mp hv
  exact Ev.step (f := fun _ => some (q ++ ([] ++ y :: t))) (fun k => by simp only [av.l3]; rw [if_neg (by simp)]) (Ev.now _)
 | succ n ih =>
  intro v q t hv hn
  obtain ⟨v, w, rfl⟩ : ∃ v0 w, v = v0 ++ [w] := ⟨v.dropLast, v.getLast (by intro e; rw [e] at hv; cases hv), (List.dropLast_concat_getLast (by intro e; rw [e] at hv; cases hv)).symm⟩
  have hv' : v.length = n := by simpa using hv
  have hl : (q ++ ((v ++ [w]) ++ y :: t)).length = q.length + n + t.length + 2 := by simp [hv']; omega
  have hj : q.length + (v ++ [w]).length = q.length + n + 1 := by simp [hv']; omega
  have e1 : wrap64 (((q.length + (v ++ [w]).length : Nat) : Int) - 1) = ((q.length + n : Nat) : Int) := w64 (by omega) (by omega)
  have el : q ++ ((v ++ [w]) ++ y :: t) = (q ++ v) ++ w :: y :: t := by simp
  have hqv : (q ++ v).length = q.length + n := by simp [hv']
  have rw_ : rdR (q ++ ((v ++ [w]) ++ y :: t)) ((q.length + n : Nat) : Int) = w := mO el hqv.symm
  have ry : rdR (q ++ ((v ++ [w]) ++ y :: t)) ((q.length + (v ++ [w]).length : Nat) : Int) = y := mO (p := (q ++ v) ++ [w]) (s := t) (by rw [el]; simp) (by simp [hv'])
  have hsw : ((q ++ ((v ++ [w]) ++ y :: t)).set (q.length + n + 1) w).set (q.length + n) y = q ++ (v ++ y :: (w :: t)) := by
   rw [el, CS (q ++ v) t w y (q.length + n) hqv.symm]; simp
  have h := ih v q (w :: t) hv' (by simp at hn ⊢; omega)
  refine Ev.step (f := fun k => av.l3 k (q ++ (v ++ y :: (w :: t))) (q.length : Int) ((q.length + v.length : Nat) : Int)) (fun k => ?_) ?_
  ·simp only [av.l3, e1]
   rw [if_pos (by omega), if_pos (by omega), if_pos (by omega), if_pos (by omega), if_pos (by omega)]
   show av.l3 k (((q ++ ((v ++ [w]) ++ y :: t)).set ((q.length + (v ++ [w]).length : Nat) : Int).toNat (rdR (q ++ ((v ++ [w]) ++ y :: t)) ((q.length + n : Nat) : Int))).set ((q.length + n : Nat) : Int).toNat (rdR (q ++ ((v ++ [w]) ++ y :: t)) ((q.length + (v ++ [w]).length : Nat) : Int))) (q.length : Int) ((q.length + n : Nat) : Int) = _
   rw [rw_, ry, Int.toNat_natCast, Int.toNat_natCast, hj, hsw, hv']
  ·have e : q ++ y :: ((v ++ [w]) ++ t) = q ++ y :: (v ++ (w :: t)) := by simp
   rw [e]; exact h
theorem EK (l : List RR) (hn : l.length ≤ 1000000) (a i j h k : Nat) (hh : (i + j) / 2 = h) (hij : i < j) (hj : j ≤ l.length) (ha : a < l.length) : av.l0 (k + 1) l (a : Int) (i : Int) (j : Int) = (qB k (rdR l (h : Nat)) (rdR l (a : Nat))).bind fun c => if c < 0 then av.l0 k l (a : Int) ((h + 1 : Nat) : Int) (j : Int) else av.l0 k l (a : Int) (i : Int) (h : Int) := by
 have h1 : h < l.length := by omega
 have c1 : (i : Int) < (j : Int) := by omega
 have c2 : (0 : Int) ≤ (h : Int) := by omega
 have c3 : (h : Int) < (l.length : Int) := by omega
 have c4 : (0 : Int) ≤ (a : Int) := by omega
 have c5 : (a : Int) < (l.length : Int) := by omega
 have e2 : wrap64 ((h : Int) + 1) = ((h + 1 : Nat) : Int) := w64 (by omega) (by omega)
 have e1 := half i j (by omega)
 rw [hh] at e1
 simp only [av.l0, e1, e2]
 rw [if_pos c1, if_pos c2, if_pos c3, if_pos c4, if_pos c5]
 rfl
theorem Dt (l : List RR) (hn : l.length ≤ 1000000) (m i j h k : Nat) (hh : (i + j) / 2 = h) (hij : i < j) (hj : j ≤ l.length) (ha : m < l.length) : av.l2 (k + 1) l (m : Int) (i : Int) (j : Int) = (qB k (rdR l (m : Nat)) (rdR l (h : Nat))).bind fun c => if c < 0 then av.l2 k l (m : Int) (i : Int) (h : Int) else av.l2 k l (m : Int) ((h + 1 : Nat) : Int) (j : Int) := by
 have h1 : h < l.length := by omega
 have c1 : (i : Int) < (j : Int) := by omega
 have c2 : (0 : Int) ≤ (h : Int) := by omega
 have c3 : (h : Int) < (l.length : Int) := by omega
 have c4 : (0 : Int) ≤ (m : Int) := by omega
 have c5 : (m : Int) < (l.length : Int) := by omega
 have e2 : wrap64 ((h : Int) + 1) = ((h + 1 : Nat) : Int) := w64 (by omega) (by omega)
 have e1 := half i j (by omega)
 rw [hh] at e1
 simp only [av.l2, e1, e2]
 rw [if_pos c1, if_pos c4, if_pos c5, if_pos c2, if_pos c3]
 rfl
theorem EJ (l : List RR) (hl : ∀ y ∈ l, fine y) (hn : l.length ≤ 1000000) (a m b : Nat) (ha : a < l.length) (hb : b ≤ l.length) (hmono : ∀ t t', m ≤ t → t < t' → t' < b → aW (rdR l (t' : Nat)) (rdR l (a : Nat)) < 0 → aW (rdR l (t : Nat)) (rdR l (a : Nat)) < 0) :
  ∀ (d i j : Nat), j - i ≤ d → m ≤ i → i ≤ j → j ≤ b → (∀ t, m ≤ t → t < i → aW (rdR l (t : Nat)) (rdR l (a : Nat)) < 0) → (∀ t, j ≤ t → t < b → 0 ≤ aW (rdR l (t : Nat)) (rdR l (a : Nat))) →
  ∃ i' : Nat, m ≤ i' ∧ i' ≤ b ∧ (∀ t, m ≤ t → t < i' → aW (rdR l (t : Nat)) (rdR l (a : Nat)) < 0) ∧ (∀ t, i' ≤ t → t < b → 0 ≤ aW (rdR l (t : Nat)) (rdR l (a : Nat))) ∧
   ∀ r, Ev (fun k => av.l1 k l (i' : Int) (a : Int)) r → Ev (fun k => av.l0 k l (a : Int) (i : Int) (j : Int)) r := by
 intro d
 induction d with
 | zero =>
  intro i j hd h1 h2 h3 h4 h5
  obtain rfl : i = j := by omega
  exact ⟨i, h1, h3, h4, h5, fun r hr => Ev.step (fun k => by simp only [av.l0]; rw [if_neg (by omega)]) hr⟩
 | succ d ih =>
  intro i j hd h1 h2 h3 h4 h5
  by_cases hij : i < j
  ·obtain ⟨h, hh⟩ : ∃ h, (i + j) / 2 = h := ⟨_, rfl⟩
   have hs := fun k => EK l hn a i j h k hh hij (by omega) ha
   by_cases hc : aW (rdR l (h : Nat)) (rdR l (a : Nat)) < 0
   ·obtain ⟨i', g1, g2, g3, g4, g5⟩ := ih (h + 1) j (by omega) (by omega) (by omega) h3 (fun t ht1 ht2 => by
     by_cases e : t = h
     ·rw [e]; exact hc
     ·exact hmono t h ht1 (by omega) (by omega) hc) h5
    refine ⟨i', g1, g2, g3, g4, fun r hr => Ev.step hs (Ev.bind (og l hl h a (by omega) ha) ?_)⟩
    simp only [hc, if_true]
    exact g5 r hr
   ·obtain ⟨i', g1, g2, g3, g4, g5⟩ := ih i h (by omega) h1 (by omega) (by omega) h4 (fun t ht1 ht2 => by
     by_cases e : t = h
     ·rw [e]; omega
     ·exact Int.not_lt.mp fun hh => hc (hmono h t (by omega) (by omega) ht2 hh))
    refine ⟨i', g1, g2, g3, g4, fun r hr => Ev.step hs (Ev.bind (og l hl h a (by omega) ha) ?_)⟩
    simp only [hc, if_false]
    exact g5 r hr
  ·obtain rfl : i = j := by omega
   exact ⟨i, h1, h3, h4, h5, fun r hr => Ev.step (fun k => by simp only [av.l0]; rw [if_neg (by omega)]) hr⟩
theorem Dm (l : List RR) (hl : ∀ y ∈ l, fine y) (hn : l.length ≤ 1000000) (a m : Nat) (hm : m < l.length) (hmono : ∀ t t', a ≤ t → t < t' → t' < m → aW (rdR l (m : Nat)) (rdR l (t : Nat)) < 0 → aW (rdR l (m : Nat)) (rdR l (t' : Nat)) < 0) :
  ∀ (d i j : Nat), j - i ≤ d → a ≤ i → i ≤ j → j ≤ m → (∀ t, a ≤ t → t < i → 0 ≤ aW (rdR l (m : Nat)) (rdR l (t : Nat))) → (∀ t, j ≤ t → t < m → aW (rdR l (m : Nat)) (rdR l (t : Nat)) < 0) →
  ∃ i' : Nat, a ≤ i' ∧ i' ≤ m ∧ (∀ t, a ≤ t → t < i' → 0 ≤ aW (rdR l (m : Nat)) (rdR l (t : Nat))) ∧ (∀ t, i' ≤ t → t < m → aW (rdR l (m : Nat)) (rdR l (t : Nat)) < 0) ∧
   ∀ r, Ev (fun k => av.l3 k l (i' : Int) (m : Int)) r → Ev (fun k => av.l2 k l (m : Int) (i : Int) (j : Int)) r := by
 intro d
 induction d with
 | zero =>
  intro i j hd h1 h2 h3 h4 h5
  obtain rfl : i = j := by omega
  exact ⟨i, h1, h3, h4, h5, fun r hr => Ev.step (fun k => by simp only [av.l2]; rw [if_neg (by omega)]) hr⟩
 | succ d ih =>
  intro i j hd h1 h2 h3 h4 h5
  by_cases hij : i < j
  ·obtain ⟨h, hh⟩ : ∃ h, (i + j) / 2 = h := ⟨_, rfl⟩
   have hs := fun k => Dt l hn m i j h k hh hij (by omega) hm
   by_cases hc : aW (rdR l (m : Nat)) (rdR l (h : Nat)) < 0
   ·obtain ⟨i', g1, g2, g3, g4, g5⟩ := ih i h (by omega) h1 (by omega) (by omega) h4 (fun t ht1 ht2 => by
     by_cases e : t = h
     ·rw [e]; exact hc
     ·exact hmono h t (by omega) (by omega) ht2 hc)
    refine ⟨i', g1, g2, g3, g4, fun r hr => Ev.step hs (Ev.bind (og l hl m h hm (by omega)) ?_)⟩
    simp only [hc, if_true]
    exact g5 r hr
   ·obtain ⟨i', g1, g2, g3, g4, g5⟩ := ih (h + 1) j (by omega) (by omega) (by omega) h3 (fun t ht1 ht2 => by
     by_cases e : t = h
     ·rw [e]; omega
     ·exact Int.not_lt.mp fun hh => hc (hmono t h ht1 (by omega) (by omega) hh)) h5
    refine ⟨i', g1, g2, g3, g4, fun r hr => Ev.step hs (Ev.bind (og l hl m h hm (by omega)) ?_)⟩
    simp only [hc, if_false]
    exact g5 r hr
  ·obtain rfl : i = j := by omega
   exact ⟨i, h1, h3, h4, h5, fun r hr => Ev.step (fun k => by simp only [av.l2]; rw [if_neg (by omega)]) hr⟩
theorem jQ {l : List RR} (h : Sorted aW l) (i j : Nat) (hij : i < j) (hj : j < l.length) : aW (l[i]'(by omega)) l[j] ≤ 0 := List.pairwise_iff_getElem.mp h i j (by omega) hj hij
theorem Gq (z : Int) (p r s : List RR) (x : RR) (hr : 0 < r.length) (hs : Sorted aW r) (hf : ∀ y ∈ p ++ ([x] ++ (r ++ s)), fine y) (hn : (p ++ ([x] ++ (r ++ s))).length ≤ 1000000) :
  ∃ m, eG aW ([x] ++ r) m ∧ m.length = 1 + r.length ∧ Ev (fun k => av.f k (p ++ ([x] ++ (r ++ s))) (p.length : Int) ((p.length + 1 : Nat) : Int) ((p.length + 1 + r.length : Nat) : Int) z) (p ++ (m ++ s)) := by
 have hl : (p ++ ([x] ++ (r ++ s))).length = p.length + 1 + r.length + s.length := by simp; omega
 have e0 : p ++ ([x] ++ (r ++ s)) = (p ++ [x]) ++ (r ++ s) := by simp
 have hp1 : (p ++ [x]).length = p.length + 1 := by simp
 have rx : rdR (p ++ ([x] ++ (r ++ s))) (p.length : Int) = x := mO (i := p.length) (s := r ++ s) rfl rfl
 have rr : ∀ t (ht : t < r.length), rdR (p ++ ([x] ++ (r ++ s))) ((p.length + 1 + t : Nat) : Int) = r[t] := fun t ht => by
  rw [e0, ← hp1]; exact xI (p ++ [x]) r s t ht
 have e1 : wrap64 (((p.length + 1 : Nat) : Int) - (p.length : Int)) = 1 := w64 (n := 1) (by omega) (by omega)
 obtain ⟨i, g1, g2, g3, g4, g5⟩ := EJ _ hf hn p.length (p.length + 1) (p.length + 1 + r.length) (by omega) (by omega) (fun t t' h1 h2 h3 h4 => by
  obtain ⟨u, rfl⟩ : ∃ u, t = p.length + 1 + u := ⟨t - (p.length + 1), by omega⟩
  obtain ⟨u', rfl⟩ : ∃ u, t' = p.length + 1 + u := ⟨t' - (p.length + 1), by omega⟩
  rw [rr u (by omega)]
  rw [rr u' (by omega)] at h4
  have := jQ hs u u' (by omega) (by omega)
  by_cases e : aW r[u] r[u'] = 0
  ·rw [eZ.cong _ _ _ e]; exact h4
  ·exact eZ.trans _ _ _ (by omega) h4) r.length (p.length + 1) (p.length + 1 + r.length) (by omega) (Nat.le_refl _) (by omega) (Nat.le_refl _) (fun t h1 h2 => by omega) (fun t h1 h2 => by omega)
 obtain ⟨q, rfl⟩ : ∃ q, i = p.length + 1 + q := ⟨i - (p.length + 1), by omega⟩
 have hq : q ≤ r.length := by omega
 have hlt : (r.take q).length = q := by rw [List.length_take]; omega
 refine ⟨r.take q ++ x :: r.drop q, ?_, by simp; omega, ?_⟩
 ·have := yO eZ (r1 := r.take q) (r2 := r.drop q) (x := x) (by rw [List.take_append_drop]; exact hs) (fun y hy => by
   obtain ⟨t, ht, rfl⟩ := List.getElem_of_mem hy
   rw [hlt] at ht
   have := g3 (p.length + 1 + t) (by omega) (by omega)
   rw [rr t (by omega), rx] at this
   rw [List.getElem_take]; exact this) (fun y hy => by
   obtain ⟨t, ht, rfl⟩ := List.getElem_of_mem hy
   rw [List.length_drop] at ht
   have := g4 (p.length + 1 + (q + t)) (by omega) (by omega)
   rw [rr (q + t) (by omega), rx] at this
   rw [List.getElem_drop]; exact this)
  rw [List.take_append_drop] at this
  exact this
 ·have h := El x (r.drop q ++ s) (r.take q) p (p.length + 1 + q) (by rw [hlt]; omega) (by simp at hn ⊢; omega)
  have e2 : p ++ x :: (r.take q ++ (r.drop q ++ s)) = p ++ ([x] ++ (r ++ s)) := by
   rw [← List.append_assoc (r.take q), List.take_append_drop]; rfl
  have e3 : p ++ (r.take q ++ x :: (r.drop q ++ s)) = p ++ ((r.take q ++ x :: r.drop q) ++ s) := by simp
  rw [e2, e3] at h
  exact Ev.step (f := fun k => av.l0 k (p ++ ([x] ++ (r ++ s))) (p.length : Int) ((p.length + 1 : Nat) : Int) ((p.length + 1 + r.length : Nat) : Int)) (fun k => by simp only [av.f, e1]; rw [if_pos trivial]) (g5 _ h)
theorem Gd (z : Int) (p l s : List RR) (y : RR) (hl1 : 1 < l.length) (hs : Sorted aW l) (hf : ∀ w ∈ p ++ (l ++ ([y] ++ s)), fine w) (hn : (p ++ (l ++ ([y] ++ s))).length ≤ 1000000) :
  ∃ m, eG aW (l ++ [y]) m ∧ m.length = l.length + 1 ∧ Ev (fun k => av.f k (p ++ (l ++ ([y] ++ s))) (p.length : Int) ((p.length + l.length : Nat) : Int) ((p.length + l.length + 1 : Nat) : Int) z) (p ++ (m ++ s)) := by
 have hl : (p ++ (l ++ ([y] ++ s))).length = p.length + l.length + 1 + s.length := by simp; omega
 have ry : rdR (p ++ (l ++ ([y] ++ s))) ((p.length + l.length : Nat) : Int) = y := mO (p := p ++ l) (s := s) (by simp) (by simp)
 have rl : ∀ t (ht : t < l.length), rdR (p ++ (l ++ ([y] ++ s))) ((p.length + t : Nat) : Int) = l[t] := fun t ht => xI p l _ t ht
 have e1 : wrap64 (((p.length + l.length : Nat) : Int) - (p.length : Int)) = (l.length : Int) := w64 (by omega) (by omega)
 have e2 : wrap64 (((p.length + l.length + 1 : Nat) : Int) - ((p.length + l.length : Nat) : Int)) = 1 := w64 (n := 1) (by omega) (by omega)
 obtain ⟨i, g1, g2, g3, g4, g5⟩ := Dm _ hf hn p.length (p.length + l.length) (by omega) (fun t t' h1 h2 h3 h4 => by
  obtain ⟨u, rfl⟩ : ∃ u, t = p.length + u := ⟨t - p.length, by omega⟩
  obtain ⟨u', rfl⟩ : ∃ u, t' = p.length + u := ⟨t' - p.length, by omega⟩
  rw [rl u' (by omega)]
  rw [rl u (by omega)] at h4
  have := jQ hs u u' (by omega) (by omega)
  by_cases e : aW l[u] l[u'] = 0
  ·rw [← eZ.congr _ _ _ e]; exact h4
  ·exact eZ.trans _ _ _ h4 (by omega)) l.length p.length (p.length + l.length) (by omega) (Nat.le_refl _) (by omega) (Nat.le_refl _) (fun t h1 h2 => by omega) (fun t h1 h2 => by omega)
 obtain ⟨q, rfl⟩ : ∃ q, i = p.length + q := ⟨i - p.length, by omega⟩
 have hq : q ≤ l.length := by omega
 have hlt : (l.take q).length = q := by rw [List.length_take]; omega
 refine ⟨l.take q ++ y :: l.drop q, ?_, by simp; omega, ?_⟩
 ·have := nQ eZ (l1 := l.take q) (l2 := l.drop q) (x := y) (by rw [List.take_append_drop]; exact hs) (fun w hw => by
   obtain ⟨t, ht, rfl⟩ := List.getElem_of_mem hw
   rw [hlt] at ht
   have := g3 (p.length + t) (by omega) (by omega)
   rw [rl t (by omega), ry] at this
   rw [List.getElem_take]
   have := eZ.flip y l[t]
   omega) (fun w hw => by
   obtain ⟨t, ht, rfl⟩ := List.getElem_of_mem hw
   rw [List.length_drop] at ht
   have := g4 (p.length + (q + t)) (by omega) (by omega)
   rw [rl (q + t) (by omega), ry] at this
   rw [List.getElem_drop]; exact this)
  rw [List.take_append_drop] at this
  exact this
 ·have h := FY y (l.drop q).length (l.drop q) (p ++ l.take q) s rfl (by simp at hn ⊢; omega)
  have e3 : (p ++ l.take q) ++ (l.drop q ++ y :: s) = p ++ (l ++ ([y] ++ s)) := by
   rw [List.append_assoc, ← List.append_assoc (l.take q), List.take_append_drop]; rfl
  have e4 : (p ++ l.take q) ++ y :: (l.drop q ++ s) = p ++ ((l.take q ++ y :: l.drop q) ++ s) := by simp
  have e5 : (p ++ l.take q).length = p.length + q := by simp; omega
  have e6 : p.length + q + (l.drop q).length = p.length + l.length := by rw [List.length_drop]; omega
  rw [e3, e4, e5, e6] at h
  exact Ev.step (f := fun k => av.l2 k (p ++ (l ++ ([y] ++ s))) ((p.length + l.length : Nat) : Int) (p.length : Int) ((p.length + l.length : Nat) : Int)) (fun k => by simp only [av.f, e1, e2]; rw [if_neg (by omega), if_pos trivial]) (g5 _ h)
theorem Dh (l : List RR) (hn : l.length ≤ 1000000) (a m b : Int) (z mid n : Int) (st r h pp k : Nat) (hh : (st + r) / 2 = h) (hij : st < r) (h2 : h ≤ pp) (h3 : pp - h < l.length) (h4 : h < l.length) : av.l4 (k + 1) l a m b z mid n (st : Int) (r : Int) (pp : Int) =
  (qB k (rdR l ((pp - h : Nat) : Int)) (rdR l (h : Nat))).bind fun c => if c < 0 then av.l4 k l a m b z mid n (st : Int) (h : Int) (pp : Int) else av.l4 k l a m b z mid n ((h + 1 : Nat) : Int) (r : Int) (pp : Int) := by
 have c1 : (st : Int) < (r : Int) := by omega
 have c2 : (0 : Int) ≤ ((pp - h : Nat) : Int) := by omega
 have c3 : ((pp - h : Nat) : Int) < (l.length : Int) := by omega
 have c4 : (0 : Int) ≤ (h : Int) := by omega
 have c5 : (h : Int) < (l.length : Int) := by omega
 have e2 : wrap64 ((h : Int) + 1) = ((h + 1 : Nat) : Int) := w64 (by omega) (by omega)
 have e3 : wrap64 ((pp : Int) - (h : Int)) = ((pp - h : Nat) : Int) := w64 (by omega) (by omega)
 have hr : st + r ≤ 4000000 := by omega
 have e1 := half st r hr
 rw [hh] at e1
 simp only [av.l4, e1, e2, e3]
 rw [if_pos c1, if_pos c2, if_pos c3, if_pos c4, if_pos c5]
 rfl
theorem CQ (l : List RR) (hl : ∀ y ∈ l, fine y) (hn : l.length ≤ 1000000) (a m b : Int) (z mid n : Int) (lo hi pp : Nat) (hlo : lo ≤ hi) (hpp : hi ≤ pp + 1) (hh1 : hi ≤ l.length) (hh2 : ∀ c, lo ≤ c → c < hi → pp - c < l.length)
  (hmono : ∀ c c', lo ≤ c → c < c' → c' < hi → aW (rdR l ((pp - c : Nat) : Int)) (rdR l (c : Nat)) < 0 → aW (rdR l ((pp - c' : Nat) : Int)) (rdR l (c' : Nat)) < 0) :
  ∀ (d st r : Nat), r - st ≤ d → lo ≤ st → st ≤ r → r ≤ hi → (∀ c, lo ≤ c → c < st → 0 ≤ aW (rdR l ((pp - c : Nat) : Int)) (rdR l (c : Nat))) → (∀ c, r ≤ c → c < hi → aW (rdR l ((pp - c : Nat) : Int)) (rdR l (c : Nat)) < 0) →
  ∃ s' : Nat, lo ≤ s' ∧ s' ≤ hi ∧ (∀ c, lo ≤ c → c < s' → 0 ≤ aW (rdR l ((pp - c : Nat) : Int)) (rdR l (c : Nat))) ∧ (∀ c, s' ≤ c → c < hi → aW (rdR l ((pp - c : Nat) : Int)) (rdR l (c : Nat)) < 0) ∧
   ∀ res, Ev (fun k => if (s' : Int) < m then av.j6 k l a m b z mid (s' : Int) (wrap64 (n - (s' : Int))) (decide (m < wrap64 (n - (s' : Int)))) else av.j6 k l a m b z mid (s' : Int) (wrap64 (n - (s' : Int))) false) res →
    Ev (fun k => av.l4 k l a m b z mid n (st : Int) (r : Int) (pp : Int)) res := by
 intro d
 induction d with
 | zero =>
  intro st r hd h1 h2 h3 h4 h5
  obtain rfl : st = r := by omega
  exact ⟨st, h1, h3, h4, h5, fun res hr => Ev.step (fun k => by simp only [av.l4]; rw [if_neg (by omega)]) hr⟩
 | succ d ih =>
  intro st r hd h1 h2 h3 h4 h5
  by_cases hij : st < r
  ·obtain ⟨h, hh⟩ : ∃ h, (st + r) / 2 = h := ⟨_, rfl⟩
   have k1 : lo ≤ h := by omega
   have k2 : h < hi := by omega
   have k3 : pp - h < l.length := hh2 h k1 k2
   have k4 : h < l.length := by omega
   have hs := fun k => Dh l hn a m b z mid n st r h pp k hh hij (by omega) k3 k4
   by_cases hc : aW (rdR l ((pp - h : Nat) : Int)) (rdR l (h : Nat)) < 0
   ·obtain ⟨i', g1, g2, g3, g4, g5⟩ := ih st h (by omega) h1 (by omega) (by omega) h4 (fun t ht1 ht2 => by
     by_cases e : t = h
     ·rw [e]; exact hc
     ·exact hmono h t k1 (by omega) ht2 hc)
    refine ⟨i', g1, g2, g3, g4, fun r hr => Ev.step hs (Ev.bind (og l hl _ h k3 k4) ?_)⟩
    simp only [hc, if_true]
    exact g5 r hr
   ·obtain ⟨i', g1, g2, g3, g4, g5⟩ := ih (h + 1) r (by omega) (by omega) (by omega) h3 (fun t ht1 ht2 => by
     by_cases e : t = h
     ·rw [e]; omega
     ·exact Int.not_lt.mp fun hh => hc (hmono t h ht1 (by omega) k2 hh)) h5
    refine ⟨i', g1, g2, g3, g4, fun r hr => Ev.step hs (Ev.bind (og l hl _ h k3 k4) ?_)⟩
    simp only [hc, if_false]
    exact g5 r hr
  ·obtain rfl : st = r := by omega
   exact ⟨st, h1, h3, h4, h5, fun res hr => Ev.step (fun k => by simp only [av.l4]; rw [if_neg (by omega)]) hr⟩
def AZ (z : Int) (n : Nat) : Prop := ∀ (p l r s : List RR), l.length + r.length < n → 0 < l.length → 0 < r.length → Sorted aW l → Sorted aW r → (∀ y ∈ p ++ (l ++ (r ++ s)), fine y) → (p ++ (l ++ (r ++ s))).length ≤ 1000000 →
  ∃ m, eG aW (l ++ r) m ∧ m.length = l.length + r.length ∧ Ev (fun k => av.f k (p ++ (l ++ (r ++ s))) (p.length : Int) ((p.length + l.length : Nat) : Int) ((p.length + l.length + r.length : Nat) : Int) z) (p ++ (m ++ s))
theorem Al (z : Int) (n : Nat) (IH : AZ z n) (p l r s : List RR) (h : l.length + r.length < n) (hl : Sorted aW l) (hr : Sorted aW r) (hf : ∀ y ∈ p ++ (l ++ (r ++ s)), fine y) (hn : (p ++ (l ++ (r ++ s))).length ≤ 1000000) :
  ∃ m, eG aW (l ++ r) m ∧ m.length = l.length + r.length ∧ (0 < l.length → 0 < r.length → Ev (fun k => av.f k (p ++ (l ++ (r ++ s))) (p.length : Int) ((p.length + l.length : Nat) : Int) ((p.length + l.length + r.length : Nat) : Int) z) (p ++ (m ++ s))) ∧
   ((l.length = 0 ∨ r.length = 0) → m = l ++ r) := by
 by_cases h1 : 0 < l.length
 ·by_cases h2 : 0 < r.length
  ·obtain ⟨m, g1, g2, g3⟩ := IH p l r s h h1 h2 hl hr hf hn
   exact ⟨m, g1, g2, fun _ _ => g3, fun e => by omega⟩
  ·obtain rfl := List.length_eq_zero_iff.mp (show r.length = 0 by omega)
   exact ⟨l ++ [], eG.sj (by rw [List.append_nil]; exact hl), by simp, fun _ e => by simp at e, fun _ => rfl⟩
 ·obtain rfl := List.length_eq_zero_iff.mp (show l.length = 0 by omega)
  exact ⟨[] ++ r, eG.sj hr, by simp, fun e => by simp at e, fun _ => rfl⟩
theorem Ey (z : Int) (n : Nat) (IH : AZ z n) (p l1 r1 l2 r2 s : List RR) (h1 : l1.length + r1.length < n) (h2 : l2.length + r2.length < n) (hl1 : Sorted aW l1) (hr1 : Sorted aW r1) (hl2 : Sorted aW l2) (hr2 : Sorted aW r2)
  (hf : ∀ y ∈ p ++ (l1 ++ (r1 ++ (l2 ++ (r2 ++ s)))), fine y) (hn : (p ++ (l1 ++ (r1 ++ (l2 ++ (r2 ++ s))))).length ≤ 1000000) :
  ∃ m1 m2, eG aW (l1 ++ r1) m1 ∧ eG aW (l2 ++ r2) m2 ∧ m1.length = l1.length + r1.length ∧ m2.length = l2.length + r2.length ∧
   Ev (fun k => av.j7 k (p ++ (l1 ++ (r1 ++ (l2 ++ (r2 ++ s))))) (p.length : Int) ((p.length + l1.length + r1.length + l2.length + r2.length : Nat) : Int) z ((p.length + l1.length + r1.length : Nat) : Int) ((p.length + l1.length : Nat) : Int) ((p.length + l1.length + r1.length + l2.length : Nat) : Int)) (p ++ ((m1 ++ m2) ++ s)) := by
 obtain ⟨m1, a1, a2, a3, a4⟩ := Al z n IH p l1 r1 (l2 ++ (r2 ++ s)) h1 hl1 hr1 hf hn
 have hpm : (p ++ m1).length = p.length + l1.length + r1.length := by simp [a2]; omega
 have e1 : (p ++ m1) ++ (l2 ++ (r2 ++ s)) = p ++ (m1 ++ (l2 ++ (r2 ++ s))) := by simp
 have hmem : ∀ y ∈ m1, y ∈ l1 ++ r1 := fun y hy => a1.mem eZ hy
 obtain ⟨m2, b1, b2, b3, b4⟩ := Al z n IH (p ++ m1) l2 r2 s h2 hl2 hr2 (fun y hy => by
   rw [e1] at hy
   rcases List.mem_append.mp hy with hy | hy
   ·exact hf y (by simp [hy])
   ·rcases List.mem_append.mp hy with hy | hy
    ·have := hmem y hy
     rcases List.mem_append.mp this with h | h <;> exact hf y (by simp [h])
    ·exact hf y (by simp at hy ⊢; rcases hy with h | h | h <;> simp [h])) (by rw [e1]; simp [a2] at hn ⊢; omega)
 refine ⟨m1, m2, a1, b1, a2, b2, ?_⟩
 have e2 : (p ++ m1) ++ (m2 ++ s) = p ++ ((m1 ++ m2) ++ s) := by simp
 rw [hpm, e1, e2] at b3
 -- the second merge, over the first one's row
 have second : Ev (fun k => if ((p.length + l1.length + r1.length : Nat) : Int) < ((p.length + l1.length + r1.length + l2.length : Nat) : Int) then (if ((p.length + l1.length + r1.length + l2.length : Nat) : Int) < ((p.length + l1.length + r1.length + l2.length + r2.length : Nat) : Int) then ((av.f k (p ++ (m1 ++ (l2 ++ (r2 ++ s)))) ((p.length + l1.length + r1.length : Nat) : Int) ((p.length + l1.length + r1.length + l2.length : Nat) : Int) ((p.length + l1.length + r1.length + l2.length + r2.length : Nat) : Int) z).bind fun t138 => (some t138)) else (some (p ++ (m1 ++ (l2 ++ (r2 ++ s)))))) else (some (p ++ (m1 ++ (l2 ++ (r2 ++ s)))))) (p ++ ((m1 ++ m2) ++ s)) := by
  by_cases c1 : 0 < l2.length
  ·by_cases c2 : 0 < r2.length
   ·have d1 : ((p.length + l1.length + r1.length : Nat) : Int) < ((p.length + l1.length + r1.length + l2.length : Nat) : Int) := by omega
    have d2 : ((p.length + l1.length + r1.length + l2.length : Nat) : Int) < ((p.length + l1.length + r1.length + l2.length + r2.length : Nat) : Int) := by omega
    simp only [d1, d2, if_true]
    exact Ev.bind (b3 c1 c2) (Ev.now _)
   ·have d1 : ((p.length + l1.length + r1.length : Nat) : Int) < ((p.length + l1.length + r1.length + l2.length : Nat) : Int) := by omega
    have d2 : ¬ ((p.length + l1.length + r1.length + l2.length : Nat) : Int) < ((p.length + l1.length + r1.length + l2.length + r2.length : Nat) : Int) := by omega
    simp only [d1, d2, if_true, if_false]
    have e := b4 (.inr (by omega))
    rw [e]
    have : p ++ (m1 ++ (l2 ++ (r2 ++ s))) = p ++ ((m1 ++ (l2 ++ r2)) ++ s) := by simp
    rw [this]
    exact Ev.now _
  ·have d1 : ¬ ((p.length + l1.length + r1.length : Nat) : Int) < ((p.length + l1.length + r1.length + l2.length : Nat) : Int) := by omega
   simp only [d1, if_false]
   have e := b4 (.inl (by omega))
   rw [e]
   have : p ++ (m1 ++ (l2 ++ (r2 ++ s))) = p ++ ((m1 ++ (l2 ++ r2)) ++ s) := by simp
   rw [this]
   exact Ev.now _
 by_cases c1 : 0 < l1.length
 ·by_cases c2 : 0 < r1.length
  ·have d1 : (p.length : Int) < ((p.length + l1.length : Nat) : Int) := by omega
   have d2 : ((p.length + l1.length : Nat) : Int) < ((p.length + l1.length + r1.length : Nat) : Int) := by omega
   refine Ev.step (f := fun k => av.j8 k (p ++ (l1 ++ (r1 ++ (l2 ++ (r2 ++ s))))) (p.length : Int) ((p.length + l1.length + r1.length + l2.length + r2.length : Nat) : Int) z ((p.length + l1.length + r1.length : Nat) : Int) ((p.length + l1.length : Nat) : Int) ((p.length + l1.length + r1.length + l2.length : Nat) : Int) true) (fun k => by simp only [av.j7, d1, d2, if_true, decide_true]) ?_
   refine Ev.step (fun k => by simp only [av.j8, if_true]; rfl) (Ev.bind (a3 c1 c2) ?_)
   exact second
  ·have d1 : (p.length : Int) < ((p.length + l1.length : Nat) : Int) := by omega
   have d2 : ¬ ((p.length + l1.length : Nat) : Int) < ((p.length + l1.length + r1.length : Nat) : Int) := by omega
   have e := a4 (.inr (by omega))
   have e3 : p ++ (l1 ++ (r1 ++ (l2 ++ (r2 ++ s)))) = p ++ (m1 ++ (l2 ++ (r2 ++ s))) := by rw [e]; simp
   refine Ev.step (f := fun k => av.j8 k (p ++ (l1 ++ (r1 ++ (l2 ++ (r2 ++ s))))) (p.length : Int) ((p.length + l1.length + r1.length + l2.length + r2.length : Nat) : Int) z ((p.length + l1.length + r1.length : Nat) : Int) ((p.length + l1.length : Nat) : Int) ((p.length + l1.length + r1.length + l2.length : Nat) : Int) false) (fun k => by simp only [av.j7, d1, d2, if_true, decide_false]) ?_
   rw [e3]
   exact Ev.step (fun k => by simp only [av.j8, Bool.false_eq_true, if_false]) second
 ·have d1 : ¬ (p.length : Int) < ((p.length + l1.length : Nat) : Int) := by omega
  have e := a4 (.inl (by omega))
  have e3 : p ++ (l1 ++ (r1 ++ (l2 ++ (r2 ++ s)))) = p ++ (m1 ++ (l2 ++ (r2 ++ s))) := by rw [e]; simp
  refine Ev.step (f := fun k => av.j8 k (p ++ (l1 ++ (r1 ++ (l2 ++ (r2 ++ s))))) (p.length : Int) ((p.length + l1.length + r1.length + l2.length + r2.length : Nat) : Int) z ((p.length + l1.length + r1.length : Nat) : Int) ((p.length + l1.length : Nat) : Int) ((p.length + l1.length + r1.length + l2.length : Nat) : Int) false) (fun k => by simp only [av.j7, d1, if_false]) ?_
  rw [e3]
  exact Ev.step (fun k => by simp only [av.j8, Bool.false_eq_true, if_false]) second
theorem Hq (x0 : List RR) (z : Int) (P A B H : Nat) (h0 : 0 < A + B) (ha : ¬ A = 1) (hb : ¬ B = 1) (hH : (A + B) / 2 = H) (hn : P + A + B ≤ 1000000) (hc : A > H) (res : List RR)
  (h : Ev (fun k => av.l4 k x0 (P : Int) ((P + A : Nat) : Int) ((P + A + B : Nat) : Int) z ((P + H : Nat) : Int) ((P + H + (P + A) : Nat) : Int) ((P + H - B : Nat) : Int) ((P + H : Nat) : Int) ((P + H + (P + A) - 1 : Nat) : Int)) res) : Ev (fun k => av.f k x0 (P : Int) ((P + A : Nat) : Int) ((P + A + B : Nat) : Int) z) res := by
 have hmid : (P + (P + A + B)) / 2 = P + H := by omega
 have w1 : wrap64 (((P + A : Nat) : Int) - (P : Int)) = (A : Int) := w64 (by omega) (by omega)
 have w2 : wrap64 (((P + A + B : Nat) : Int) - ((P + A : Nat) : Int)) = (B : Int) := w64 (by omega) (by omega)
 have w4 : wrap64 (((P + H : Nat) : Int) + ((P + A : Nat) : Int)) = ((P + H + (P + A) : Nat) : Int) := w64 (by omega) (by omega)
 have w5 : wrap64 (((P + H + (P + A) : Nat) : Int) - 1) = ((P + H + (P + A) - 1 : Nat) : Int) := w64 (by omega) (by omega)
 have w6 : wrap64 (((P + H + (P + A) : Nat) : Int) - ((P + A + B : Nat) : Int)) = ((P + H - B : Nat) : Int) := w64 (by omega) (by omega)
 have k1 : ¬ ((A : Int) = 1) := by omega
 have k2 : ¬ ((B : Int) = 1) := by omega
 have k3 : ((P + A : Nat) : Int) > ((P + H : Nat) : Int) := by omega
 have w3 := half P (P + A + B) (by omega)
 rw [hmid] at w3
 refine Ev.step (f := fun k => av.j4 k x0 (P : Int) ((P + A : Nat) : Int) ((P + A + B : Nat) : Int) z ((P + H : Nat) : Int) ((P + H + (P + A) : Nat) : Int) ((P + H - B : Nat) : Int) ((P + H : Nat) : Int)) (fun k => by simp only [av.f, w1, w2, w3, w4, w6]; rw [if_neg k1, if_neg k2, if_pos k3]) ?_
 exact Ev.step (fun k => by simp only [av.j4, w5]) h
theorem IC (x0 : List RR) (z : Int) (P A B H : Nat) (h0 : 0 < A + B) (ha : ¬ A = 1) (hb : ¬ B = 1) (hH : (A + B) / 2 = H) (hn : P + A + B ≤ 1000000) (hc : ¬ A > H) (res : List RR)
  (h : Ev (fun k => av.l4 k x0 (P : Int) ((P + A : Nat) : Int) ((P + A + B : Nat) : Int) z ((P + H : Nat) : Int) ((P + H + (P + A) : Nat) : Int) (P : Int) ((P + A : Nat) : Int) ((P + H + (P + A) - 1 : Nat) : Int)) res) : Ev (fun k => av.f k x0 (P : Int) ((P + A : Nat) : Int) ((P + A + B : Nat) : Int) z) res := by
 have hmid : (P + (P + A + B)) / 2 = P + H := by omega
 have w1 : wrap64 (((P + A : Nat) : Int) - (P : Int)) = (A : Int) := w64 (by omega) (by omega)
 have w2 : wrap64 (((P + A + B : Nat) : Int) - ((P + A : Nat) : Int)) = (B : Int) := w64 (by omega) (by omega)
 have w4 : wrap64 (((P + H : Nat) : Int) + ((P + A : Nat) : Int)) = ((P + H + (P + A) : Nat) : Int) := w64 (by omega) (by omega)
 have k1 : ¬ ((A : Int) = 1) := by omega
 have k2 : ¬ ((B : Int) = 1) := by omega
 have k3 : ¬ ((P + A : Nat) : Int) > ((P + H : Nat) : Int) := by omega
 have hpos : 1 ≤ P + H + (P + A) := by omega
 have w5 : wrap64 (((P + H + (P + A) : Nat) : Int) - 1) = ((P + H + (P + A) - 1 : Nat) : Int) := w64 (by omega) (by omega)
 have w3 := half P (P + A + B) (by omega)
 rw [hmid] at w3
 refine Ev.step (f := fun k => av.j4 k x0 (P : Int) ((P + A : Nat) : Int) ((P + A + B : Nat) : Int) z ((P + H : Nat) : Int) ((P + H + (P + A) : Nat) : Int) (P : Int) ((P + A : Nat) : Int)) (fun k => by simp only [av.f, w1, w2, w3, w4]; rw [if_neg k1, if_neg k2, if_neg k3]) ?_
 exact Ev.step (fun k => by simp only [av.j4, w5]) h
theorem DY (z : Int) : ∀ (n : Nat), AZ z n := by
 intro n
 induction n with
 | zero => intro p l r s h; omega
 | succ n ih =>
  intro p l r s h hl0 hr0 hsl hsr hf hn
  by_cases h1 : l.length = 1
  ·obtain ⟨x, rfl⟩ := List.length_eq_one_iff.mp h1
   obtain ⟨m, g1, g2, g3⟩ := Gq z p r s x hr0 hsr hf hn
   exact ⟨m, g1, g2, g3⟩
  by_cases h2 : r.length = 1
  ·obtain ⟨y, rfl⟩ := List.length_eq_one_iff.mp h2
   obtain ⟨m, g1, g2, g3⟩ := Gd z p l s y (by omega) hsl hf hn
   exact ⟨m, g1, g2, g3⟩
  have hl : (p ++ (l ++ (r ++ s))).length = p.length + l.length + r.length + s.length := by simp; omega
  obtain ⟨P, hP⟩ : ∃ P, p.length = P := ⟨_, rfl⟩
  obtain ⟨A, hA⟩ : ∃ A, l.length = A := ⟨_, rfl⟩
  obtain ⟨B, hB⟩ : ∃ B, r.length = B := ⟨_, rfl⟩
  obtain ⟨H, hH⟩ : ∃ H, (A + B) / 2 = H := ⟨_, rfl⟩
  have hmid : (P + (P + A + B)) / 2 = P + H := by omega
  have rl : ∀ t (ht : t < A), rdR (p ++ (l ++ (r ++ s))) ((P + t : Nat) : Int) = l[t]'(by omega) := fun t ht => by
   have ht1 : t < l.length := by omega
   have h := xI p l (r ++ s) t ht1
   rw [hP] at h
   exact h
  have e0 : p ++ (l ++ (r ++ s)) = (p ++ l) ++ (r ++ s) := by simp
  have hpl : (p ++ l).length = P + A := by simp [hP, hA]
  have rr : ∀ t (ht : t < B), rdR (p ++ (l ++ (r ++ s))) ((P + A + t : Nat) : Int) = r[t]'(by omega) := fun t ht => by
   have ht1 : t < r.length := by omega
   have h := xI (p ++ l) r s t ht1
   rw [hpl, ← e0] at h
   exact h
  -- the halves
  obtain ⟨lo, hlo⟩ : ∃ lo, (if A > H then P + H - B else P) = lo := ⟨_, rfl⟩
  obtain ⟨hi, hhi⟩ : ∃ hi, (if A > H then P + H else P + A) = hi := ⟨_, rfl⟩
  have blo : P ≤ lo ∧ (lo = P ∨ lo + B = P + H) ∧ P + H ≤ lo + B := by rw [← hlo]; split <;> omega
  have bhi : hi ≤ P + H ∧ hi ≤ P + A ∧ (hi = P + H ∨ hi = P + A) ∧ lo ≤ hi := by rw [← hhi, ← hlo]; split <;> omega
  have hpp : P + H + (P + A) - 1 = P + H + (P + A) - 1 := rfl
  have key : ∀ c, lo ≤ c → c < hi → ∃ (hu : c - P < A) (hv : P + H - 1 - c < B), rdR (p ++ (l ++ (r ++ s))) ((P + H + (P + A) - 1 - c : Nat) : Int) = r[P + H - 1 - c]'(by omega) ∧ rdR (p ++ (l ++ (r ++ s))) (c : Nat) = l[c - P]'(by omega) := fun c c1 c2 => by
   have hu : c - P < A := by omega
   have hv : P + H - 1 - c < B := by omega
   refine ⟨hu, hv, ?_, ?_⟩
   ·rw [show P + H + (P + A) - 1 - c = P + A + (P + H - 1 - c) by omega]; exact rr _ hv
   ·have := rl (c - P) hu
    rw [show P + (c - P) = c by omega] at this
    exact this
  obtain ⟨q, g1, g2, g3, g4, g5⟩ := CQ _ hf hn (P : Int) ((P + A : Nat) : Int) ((P + A + B : Nat) : Int) z ((P + H : Nat) : Int) ((P + H + (P + A) : Nat) : Int) lo hi (P + H + (P + A) - 1) bhi.2.2.2 (by omega) (by omega) (fun c c1 c2 => by omega)
   (fun c c' k1 k2 k3 k4 => by
    obtain ⟨u1, v1, x1, y1⟩ := key c k1 (by omega)
    obtain ⟨u2, v2, x2, y2⟩ := key c' (by omega) k3
    rw [x1, y1] at k4
    rw [x2, y2]
    have s1 := jQ hsl (c - P) (c' - P) (by omega) (by omega)
    have s2 := jQ hsr (P + H - 1 - c') (P + H - 1 - c) (by omega) (by omega)
    have s3 : aW (r[P + H - 1 - c']'(by omega)) (l[c - P]'(by omega)) < 0 := by
     by_cases e : aW (r[P + H - 1 - c']'(by omega)) (r[P + H - 1 - c]'(by omega)) = 0
     ·exact eZ.lt_of_eq_of_lt e k4
     ·exact eZ.trans _ _ _ (by omega) k4
    by_cases e : aW (l[c - P]'(by omega)) (l[c' - P]'(by omega)) = 0
    ·exact eZ.lt_of_lt_of_eq s3 e
    ·exact eZ.trans _ _ _ s3 (by omega)) (hi - lo) lo hi (Nat.le_refl _) (Nat.le_refl _) bhi.2.2.2 (Nat.le_refl _) (fun c c1 c2 => by omega) (fun c c1 c2 => by omega)
  -- q: where the first half of l ends
  obtain ⟨u, hu⟩ : ∃ u, q = P + u := ⟨q - P, by omega⟩
  have hua : u ≤ A := by omega
  have huh : u ≤ H := by omega
  have hvb : H - u ≤ B := by omega
  have ltake : (l.take u).length = u := by rw [List.length_take]; omega
  have ldrop : (l.drop u).length = A - u := by rw [List.length_drop]; omega
  have rtake : (r.take (H - u)).length = H - u := by rw [List.length_take]; omega
  have rdrop : (r.drop (H - u)).length = B - (H - u) := by rw [List.length_drop]; omega
  have sl : Sorted aW (l.take u ++ l.drop u) := by rw [List.take_append_drop]; exact hsl
  have sr : Sorted aW (r.take (H - u) ++ r.drop (H - u)) := by rw [List.take_append_drop]; exact hsr
  have c1 : ∀ x ∈ l.take u, ∀ y ∈ r.drop (H - u), aW x y ≤ 0 := fun x hx y hy => by
   obtain ⟨i, hi1, rfl⟩ := List.getElem_of_mem hx
   obtain ⟨j, hj1, rfl⟩ := List.getElem_of_mem hy
   rw [ltake] at hi1
   rw [rdrop] at hj1
   rw [List.getElem_take, List.getElem_drop]
   have hq : lo ≤ q - 1 ∧ q - 1 < q := by omega
   obtain ⟨u2, v2, x2, y2⟩ := key (q - 1) hq.1 (by omega)
   have k := g3 (q - 1) hq.1 hq.2
   rw [x2, y2] at k
   have k' := eZ.flip (l[q - 1 - P]'(by omega)) (r[P + H - 1 - (q - 1)]'(by omega))
   have a1 : aW (l[i]'(by omega)) (l[q - 1 - P]'(by omega)) ≤ 0 := by
    by_cases e : i = q - 1 - P
    ·subst e; rw [eZ.refl]; omega
    ·exact jQ hsl i (q - 1 - P) (by omega) (by omega)
   have a2 : aW (r[P + H - 1 - (q - 1)]'(by omega)) (r[H - u + j]'(by omega)) ≤ 0 := by
    by_cases e : P + H - 1 - (q - 1) = H - u + j
    ·simp only [e]; rw [eZ.refl]; omega
    ·exact jQ hsr _ _ (by omega) (by omega)
   exact eZ.le_trans (eZ.le_trans a1 (by omega)) a2
  have c2 : ∀ y ∈ r.take (H - u), ∀ x ∈ l.drop u, aW y x < 0 := fun y hy x hx => by
   obtain ⟨i, hi1, rfl⟩ := List.getElem_of_mem hx
   obtain ⟨j, hj1, rfl⟩ := List.getElem_of_mem hy
   rw [ldrop] at hi1
   rw [rtake] at hj1
   rw [List.getElem_take, List.getElem_drop]
   obtain ⟨u2, v2, x2, y2⟩ := key q g1 (by omega)
   have k := g4 q (Nat.le_refl _) (by omega)
   rw [x2, y2] at k
   have a1 : aW (l[q - P]'(by omega)) (l[u + i]'(by omega)) ≤ 0 := by
    by_cases e : q - P = u + i
    ·simp only [e]; rw [eZ.refl]; omega
    ·exact jQ hsl _ _ (by omega) (by omega)
   have a2 : aW (r[j]'(by omega)) (r[P + H - 1 - q]'(by omega)) ≤ 0 := by
    by_cases e : j = P + H - 1 - q
    ·subst e; rw [eZ.refl]; omega
    ·exact jQ hsr _ _ (by omega) (by omega)
   have a3 : aW (r[j]'(by omega)) (l[q - P]'(by omega)) < 0 := by
    by_cases e : aW (r[j]'(by omega)) (r[P + H - 1 - q]'(by omega)) = 0
    ·exact eZ.lt_of_eq_of_lt e k
    ·exact eZ.trans _ _ _ (by omega) k
   by_cases e : aW (l[q - P]'(by omega)) (l[u + i]'(by omega)) = 0
   ·exact eZ.lt_of_lt_of_eq a3 e
   ·exact eZ.trans _ _ _ a3 (by omega)
  have hturn : (p ++ (l.take u ++ (r.take (H - u) ++ (l.drop u ++ (r.drop (H - u) ++ s))))).length = (p ++ (l ++ (r ++ s))).length := by
   rw [hl]; simp only [List.length_append, ltake, ldrop, rtake, rdrop]; omega
  obtain ⟨m1, m2, b1, b2, b3, b4, b5⟩ := Ey z n ih p (l.take u) (r.take (H - u)) (l.drop u) (r.drop (H - u)) s (by omega) (by omega) (lM sl) (lM sr) (mE sl) (mE sr) (fun y hy => by
    refine hf y ?_
    have q1 : ∀ w, w ∈ l.take u → w ∈ l := fun w => List.mem_of_mem_take
    have q2 : ∀ w, w ∈ l.drop u → w ∈ l := fun w => List.mem_of_mem_drop
    have q3 : ∀ w, w ∈ r.take (H - u) → w ∈ r := fun w => List.mem_of_mem_take
    have q4 : ∀ w, w ∈ r.drop (H - u) → w ∈ r := fun w => List.mem_of_mem_drop
    simp only [List.mem_append] at hy ⊢
    rcases hy with h | h | h | h | h | h
    ·exact .inl h
    ·exact .inr (.inl (q1 _ h))
    ·exact .inr (.inr (.inl (q3 _ h)))
    ·exact .inr (.inl (q2 _ h))
    ·exact .inr (.inr (.inl (q4 _ h)))
    ·exact .inr (.inr (.inr h))) (by rw [hturn]; exact hn)
  have st := xC eZ sl sr c1 c2 b1 b2
  rw [List.take_append_drop, List.take_append_drop] at st
  refine ⟨m1 ++ m2, st, by simp only [List.length_append, b3, b4, ltake, ldrop, rtake, rdrop]; omega, ?_⟩
  rw [ltake, rtake, ldrop, rdrop, hP] at b5
  have n1 : P + u + (H - u) = P + H := by omega
  have n2 : P + H + (A - u) + (B - (H - u)) = P + A + B := by omega
  have n3 : P + H + (A - u) = P + A + (H - u) := by omega
  rw [n1, n2, n3, ← hu] at b5
  have w7 : wrap64 (((P + H + (P + A) : Nat) : Int) - (q : Int)) = ((P + A + (H - u) : Nat) : Int) := w64 (by omega) (by omega)
  -- behind the search
  have hj6 : Ev (fun k => if (q : Int) < ((P + A : Nat) : Int) then av.j6 k (p ++ (l ++ (r ++ s))) (P : Int) ((P + A : Nat) : Int) ((P + A + B : Nat) : Int) z ((P + H : Nat) : Int) (q : Int) (wrap64 (((P + H + (P + A) : Nat) : Int) - (q : Int))) (decide (((P + A : Nat) : Int) < wrap64 (((P + H + (P + A) : Nat) : Int) - (q : Int)))) else av.j6 k (p ++ (l ++ (r ++ s))) (P : Int) ((P + A : Nat) : Int) ((P + A + B : Nat) : Int) z ((P + H : Nat) : Int) (q : Int) (wrap64 (((P + H + (P + A) : Nat) : Int) - (q : Int))) false) (p ++ ((m1 ++ m2) ++ s)) := by
   rw [w7]
   have off : (A ≤ u ∨ H ≤ u) → Ev (fun k => av.j6 k (p ++ (l ++ (r ++ s))) (P : Int) ((P + A : Nat) : Int) ((P + A + B : Nat) : Int) z ((P + H : Nat) : Int) (q : Int) ((P + A + (H - u) : Nat) : Int) false) (p ++ ((m1 ++ m2) ++ s)) := fun ho => by
    have e : p ++ (l ++ (r ++ s)) = p ++ (l.take u ++ (r.take (H - u) ++ (l.drop u ++ (r.drop (H - u) ++ s)))) := by
     rcases ho with ho | ho
     ·rw [List.take_of_length_le (by omega : l.length ≤ u), List.drop_of_length_le (by omega : l.length ≤ u), List.nil_append, ← List.append_assoc (r.take (H - u)), List.take_append_drop]
     ·rw [show H - u = 0 by omega, List.take_zero, List.drop_zero, List.nil_append, ← List.append_assoc (l.take u), List.take_append_drop]
    rw [e]
    exact Ev.step (fun k => by simp only [av.j6, Bool.false_eq_true, if_false]) b5
   by_cases d1 : (q : Int) < ((P + A : Nat) : Int)
   ·simp only [d1, if_true]
    by_cases d2 : ((P + A : Nat) : Int) < ((P + A + (H - u) : Nat) : Int)
    ·rw [decide_eq_true d2]
     have hrot := Iz (p ++ l.take u) (l.drop u) (r.take (H - u)) (r.drop (H - u) ++ s) z (by omega) (by omega) (by
      have e : (p ++ l.take u) ++ (l.drop u ++ (r.take (H - u) ++ (r.drop (H - u) ++ s))) = p ++ (l ++ (r ++ s)) := by
       rw [List.append_assoc, ← List.append_assoc (l.take u), List.take_append_drop, ← List.append_assoc (r.take (H - u)), List.take_append_drop]
      rw [e]; exact hn)
     have e : (p ++ l.take u) ++ (l.drop u ++ (r.take (H - u) ++ (r.drop (H - u) ++ s))) = p ++ (l ++ (r ++ s)) := by
      rw [List.append_assoc, ← List.append_assoc (l.take u), List.take_append_drop, ← List.append_assoc (r.take (H - u)), List.take_append_drop]
     have e' : (p ++ l.take u) ++ (r.take (H - u) ++ (l.drop u ++ (r.drop (H - u) ++ s))) = p ++ (l.take u ++ (r.take (H - u) ++ (l.drop u ++ (r.drop (H - u) ++ s)))) := by simp only [List.append_assoc]
     have f1 : (p ++ l.take u).length = q := by rw [List.length_append, ltake]; omega
     rw [e, e', f1, ldrop, rtake, show q + (A - u) = P + A by omega] at hrot
     exact Ev.step (fun k => by simp only [av.j6, if_true]; rfl) (Ev.bind hrot b5)
    ·rw [decide_eq_false d2]
     exact off (by omega)
   ·simp only [d1, if_false]
    exact off (by omega)
  have hfin := g5 _ hj6
  rw [hP, hA, hB]
  have n1' : ¬ A = 1 := fun e => h1 (by omega)
  have n2' : ¬ B = 1 := fun e => h2 (by omega)
  have nb : P + A + B ≤ 1000000 := by omega
  clear hj6 g5 hf hn key rl rr c1 c2 st b1 b2 ih g3 g4 hsl hsr sl sr b5 w7
  by_cases hc : A > H
  ·rw [if_pos hc] at hlo hhi
   rw [← hhi, ← hlo] at hfin
   exact Hq _ z P A B H (by omega) n1' n2' hH nb hc _ hfin
  ·rw [if_neg hc] at hlo hhi
   rw [← hhi, ← hlo] at hfin
   exact IC _ z P A B H (by omega) n1' n2' hH nb hc _ hfin
theorem qm (q : List RR) (s : Nat) : q = q.take s ++ ((q.drop s).take s ++ q.drop (2 * s)) := by
 conv => lhs; rw [← List.take_append_drop s q, ← List.take_append_drop s (q.drop s), List.drop_drop]
 rw [show s + s = 2 * s by omega]
theorem pass (z : Int) (l : List RR) (s : Nat) (hs : 0 < s) (hs2 : s ≤ 1000000) (hn : l.length ≤ 1000000) (hf : ∀ y ∈ l, fine y) (hB : Blocks aW s l) : ∀ (d t : Nat) (p : List RR), p.length = t * (2 * s) → p.length ≤ l.length → l.length - p.length ≤ d → Blocks aW (2 * s) p →
  (∀ x, cls aW p x = cls aW (l.take p.length) x) → ∃ l', l'.length = l.length ∧ Blocks aW (2 * s) l' ∧ (∀ x, cls aW l' x = cls aW l x) ∧
   ∀ r, Ev (fun k => bL.l1 k l' (l.length : Int) z ((2 * s : Nat) : Int)) r → Ev (fun k => bL.l2 k (p ++ l.drop p.length) (l.length : Int) z (s : Int) (p.length : Int) ((p.length + 2 * s : Nat) : Int)) r := by
 intro d
 induction d with
 | zero =>
  intro t p ht hp hd hbp hc
  have hq : l.drop p.length = [] := List.drop_of_length_le (by omega)
  have e1 : wrap64 ((p.length : Int) + (s : Int)) = ((p.length + s : Nat) : Int) := w64 (by omega) (by omega)
  have e2 : wrap64 ((s : Int) * 2) = ((2 * s : Nat) : Int) := w64 (by omega) (by omega)
  rw [hq, List.append_nil]
  refine ⟨p, by omega, hbp, fun x => by rw [hc, List.take_of_length_le (by omega)], fun r hr => ?_⟩
  exact Ev.step (fun k => by simp only [bL.l2, e1, e2]; rw [if_neg (by omega), if_neg (by omega)]) hr
 | succ d ih =>
  intro t p ht hp hd hbp hc
  obtain ⟨a, ha⟩ : ∃ a, p.length = a := ⟨_, rfl⟩
  obtain ⟨q, hq⟩ : ∃ q, l.drop a = q := ⟨_, rfl⟩
  have hql : q.length = l.length - a := by rw [← hq, List.length_drop]
  have hlq : l = l.take a ++ q := by rw [← hq, List.take_append_drop]
  have hqf : ∀ y ∈ q, fine y := fun y hy => hf y (by rw [hlq]; exact List.mem_append_right _ hy)
  have hpf : ∀ y ∈ p, fine y := fun y hy => by
   have h1 : y ∈ l.take p.length := lD eZ hc hy
   exact hf y (List.mem_of_mem_take h1)
  have e1 : wrap64 ((a : Int) + (s : Int)) = ((a + s : Nat) : Int) := w64 (by omega) (by omega)
  have e2 : wrap64 ((s : Int) * 2) = ((2 * s : Nat) : Int) := w64 (by omega) (by omega)
  have e3 : wrap64 (2 * (s : Int)) = ((2 * s : Nat) : Int) := w64 (by omega) (by omega)
  have e4 : wrap64 (((a + 2 * s : Nat) : Int) + ((2 * s : Nat) : Int)) = ((a + 2 * s + 2 * s : Nat) : Int) := w64 (by omega) (by omega)
  have s1 : Sorted aW (q.take s) := by
   have := hB (2 * t)
   rw [show 2 * t * s = a by rw [← ha, ht]; rw [Nat.mul_comm 2 t, Nat.mul_assoc], hq] at this
   exact this
  have s2 : Sorted aW ((q.drop s).take s) := by
   have := hB (2 * t + 1)
   rw [show (2 * t + 1) * s = a + s by rw [← ha, ht, Nat.add_mul, Nat.one_mul, Nat.mul_comm 2 t, Nat.mul_assoc], ← List.drop_drop, hq] at this
   exact this
  have hpq : (p ++ q).length = l.length := by rw [List.length_append, hql]; omega
  have hfpq : ∀ y ∈ p ++ q, fine y := fun y hy => by
   rcases List.mem_append.mp hy with h | h
   ·exact hpf y h
   ·exact hqf y h
  rw [ha] at hc hp hd ⊢
  rw [hq]
  by_cases hb : a + 2 * s ≤ l.length
  ·have hsym := DY z (s + s + 1) p (q.take s) ((q.drop s).take s) (q.drop (2 * s)) (by simp only [List.length_take, List.length_drop]; omega) (by rw [List.length_take]; omega) (by rw [List.length_take, List.length_drop]; omega) s1 s2
    (by rw [← qm]; exact hfpq) (by rw [← qm, hpq]; exact hn)
   obtain ⟨m, g1, g2, g3⟩ := hsym
   have l1 : (q.take s).length = s := by rw [List.length_take]; omega
   have l2 : ((q.drop s).take s).length = s := by rw [List.length_take, List.length_drop]; omega
   rw [l1, l2] at g2
   rw [← qm, l1, l2, ha] at g3
   have hpm : (p ++ m).length = a + 2 * s := by rw [List.length_append, ha, g2]; omega
   have htk : l.take (a + 2 * s) = l.take a ++ (q.take s ++ (q.drop s).take s) := by
    conv => lhs; rw [hlq]
    rw [List.take_append, List.length_take, List.take_of_length_le (by rw [List.length_take]; omega), Nat.min_eq_left hp, show a + 2 * s - a = s + s by omega, List.take_add]
   obtain ⟨l', k1, k2, k3, k4⟩ := ih (t + 1) (p ++ m) (by rw [hpm, ← ha, ht, Nat.add_mul, Nat.one_mul]) (by omega) (by omega) (lK hbp (by rw [ha] at ht ⊢; exact ht) g1.1 (by omega)) (fun x => by
    rw [hpm, htk, dX, hc, g1.2, dX aW (l.take a)])
   refine ⟨l', k1, k2, k3, fun r hr => ?_⟩
   have := k4 r hr
   rw [hpm, ← List.drop_drop, hq, List.append_assoc] at this
   refine Ev.step (f := fun k => (av.f k (p ++ q) (a : Int) ((a + s : Nat) : Int) ((a + 2 * s : Nat) : Int) z).bind fun t142 => bL.l2 k t142 (l.length : Int) z (s : Int) ((a + 2 * s : Nat) : Int) ((a + 2 * s + 2 * s : Nat) : Int)) (fun k => by simp only [bL.l2, e1, e3, e4]; rw [if_pos (by omega)]) ?_
   rw [show a + s + s = a + 2 * s by omega] at g3
   exact Ev.bind g3 this
  ·by_cases hc2 : a + s < l.length
   ·have hsym := DY z (s + s + 1) p (q.take s) (q.drop s) [] (by simp only [List.length_take, List.length_drop]; omega) (by rw [List.length_take]; omega) (by rw [List.length_drop]; omega) s1
     (by have := s2; rw [List.take_of_length_le (by rw [List.length_drop]; omega)] at this; exact this)
     (by rw [List.append_nil, List.take_append_drop]; exact hfpq) (by rw [List.append_nil, List.take_append_drop, hpq]; exact hn)
    obtain ⟨m, g1, g2, g3⟩ := hsym
    have l1 : (q.take s).length = s := by rw [List.length_take]; omega
    have l2 : (q.drop s).length = l.length - a - s := by rw [List.length_drop]; omega
    rw [List.take_append_drop] at g1
    rw [l1, l2] at g2
    rw [List.append_nil, List.append_nil, List.take_append_drop, l1, l2, ha, show a + s + (l.length - a - s) = l.length by omega] at g3
    refine ⟨p ++ m, by rw [List.length_append, ha, g2]; omega, lK hbp (by rw [ha] at ht ⊢; exact ht) g1.1 (by omega), fun x => ?_, fun r hr => ?_⟩
    ·rw [dX, hc, g1.2, ← dX, ← hlq]
    ·refine Ev.step (f := fun k => (av.f k (p ++ q) (a : Int) ((a + s : Nat) : Int) (l.length : Int) z).bind fun t143 => bL.l1 k t143 (l.length : Int) z ((2 * s : Nat) : Int)) (fun k => by simp only [bL.l2, e1, e2]; rw [if_neg (by omega), if_pos (by omega)]) ?_
     exact Ev.bind g3 hr
   ·refine ⟨p ++ q, hpq, lK hbp (by rw [ha] at ht ⊢; exact ht) (by have := s1; rw [List.take_of_length_le (by omega)] at this; exact this) (by omega), fun x => ?_, fun r hr => ?_⟩
    ·rw [dX, hc, ← dX, ← hlq]
    ·exact Ev.step (fun k => by simp only [bL.l2, e1, e2]; rw [if_neg (by omega), if_neg (by omega)]) hr
theorem Gp (z : Int) (N : Nat) (hN : N ≤ 1000000) (l0 : List RR) : ∀ (d s : Nat) (l : List RR), N - s ≤ d → 0 < s → s ≤ 2000000 → l.length = N → (∀ y ∈ l, fine y) → Blocks aW s l → (∀ x, cls aW l x = cls aW l0 x) →
  ∃ m, eG aW l0 m ∧ m.length = N ∧ Ev (fun k => bL.l1 k l (N : Int) z (s : Int)) m := by
 intro d
 induction d with
 | zero =>
  intro s l hd hs hs2 hl hf hB hc
  exact ⟨l, ⟨uU hB (by omega), hc⟩, hl, Ev.step (f := fun _ => some l) (fun k => by simp only [bL.l1]; rw [if_neg (by omega)]) (Ev.now _)⟩
 | succ d ih =>
  intro s l hd hs hs2 hl hf hB hc
  by_cases h : s < N
  ·have e3 : wrap64 (2 * (s : Int)) = ((2 * s : Nat) : Int) := w64 (by omega) (by omega)
   obtain ⟨l', k1, k2, k3, k4⟩ := pass z l s hs (by omega) (by omega) hf hB l.length 0 [] (by simp) (by simp) (by simp) (vv _) (fun x => by simp)
   obtain ⟨m, g1, g2, g3⟩ := ih (2 * s) l' (by omega) (by omega) (by omega) (by omega) (fun y hy => hf y (lD eZ k3 hy)) k2 (fun x => (k3 x).trans (hc x))
   refine ⟨m, g1, g2, ?_⟩
   have := k4 m (by rw [hl]; exact g3)
   simp only [List.length_nil, List.nil_append, List.drop_zero, Nat.zero_add] at this
   refine Ev.step (fun k => by simp only [bL.l1, e3]; rw [if_pos (by omega)]) ?_
   ·rw [hl] at this
    exact this
  ·exact ⟨l, ⟨uU hB (by omega), hc⟩, hl, Ev.step (f := fun _ => some l) (fun k => by simp only [bL.l1]; rw [if_neg (by omega)]) (Ev.now _)⟩
theorem Gs (z : Int) (l : List RR) (hn : l.length ≤ 1000000) (hf : ∀ y ∈ l, fine y) : ∀ (d t : Nat) (p : List RR), p.length = t * 20 → p.length ≤ l.length → l.length - p.length ≤ d → Blocks aW 20 p →
  (∀ x, cls aW p x = cls aW (l.take p.length) x) → ∃ l', l'.length = l.length ∧ Blocks aW 20 l' ∧ (∀ x, cls aW l' x = cls aW l x) ∧
   ∀ r, Ev (fun k => bL.l1 k l' (l.length : Int) z 20) r → Ev (fun k => bL.l0 k (p ++ l.drop p.length) (l.length : Int) z 20 (p.length : Int) ((p.length + 20 : Nat) : Int)) r := by
 intro d
 induction d with
 | zero =>
  intro t p ht hp hd hbp hc
  have hq : l.drop p.length = [] := List.drop_of_length_le (by omega)
  have hpf : ∀ y ∈ p, fine y := fun y hy => by
   have h1 : y ∈ l.take p.length := lD eZ hc hy
   exact hf y (List.mem_of_mem_take h1)
  obtain ⟨m, g1, g2, g3⟩ := zn p [] [] z (by simpa using hpf) (by simp; omega)
  have hm : m = [] := List.length_eq_zero_iff.mp (by simpa using g2)
  subst hm
  simp only [List.append_nil, List.length_nil, Nat.add_zero] at g3
  rw [hq, List.append_nil]
  refine ⟨p, by omega, hbp, fun x => by rw [hc, List.take_of_length_le (by omega)], fun r hr => ?_⟩
  have hpl : p.length = l.length := by omega
  refine Ev.step (f := fun k => (aZ.f k p (p.length : Int) (p.length : Int) z).bind fun t141 => bL.l1 k t141 (l.length : Int) z 20) (fun k => by simp only [bL.l0]; rw [if_neg (by omega), hpl]) ?_
  exact Ev.bind g3 hr
 | succ d ih =>
  intro t p ht hp hd hbp hc
  obtain ⟨a, ha⟩ : ∃ a, p.length = a := ⟨_, rfl⟩
  obtain ⟨q, hq⟩ : ∃ q, l.drop a = q := ⟨_, rfl⟩
  have hql : q.length = l.length - a := by rw [← hq, List.length_drop]
  have hlq : l = l.take a ++ q := by rw [← hq, List.take_append_drop]
  have hqf : ∀ y ∈ q, fine y := fun y hy => hf y (by rw [hlq]; exact List.mem_append_right _ hy)
  have hpf : ∀ y ∈ p, fine y := fun y hy => by
   have h1 : y ∈ l.take p.length := lD eZ hc hy
   exact hf y (List.mem_of_mem_take h1)
  have hpq : (p ++ q).length = l.length := by rw [List.length_append, hql]; omega
  have hfpq : ∀ y ∈ p ++ q, fine y := fun y hy => by
   rcases List.mem_append.mp hy with h | h
   ·exact hpf y h
   ·exact hqf y h
  rw [ha] at hc hp hd ⊢
  rw [hq]
  by_cases hb : a + 20 ≤ l.length
  ·obtain ⟨m, g1, g2, g3⟩ := zn p (q.take 20) (q.drop 20) z (by rw [List.take_append_drop]; exact hfpq) (by rw [List.take_append_drop, hpq]; exact hn)
   have l1 : (q.take 20).length = 20 := by rw [List.length_take]; omega
   rw [l1] at g2
   rw [List.take_append_drop, l1, ha] at g3
   have hpm : (p ++ m).length = a + 20 := by rw [List.length_append, ha, g2]
   have htk : l.take (a + 20) = l.take a ++ q.take 20 := by
    conv => lhs; rw [hlq]
    rw [List.take_append, List.length_take, List.take_of_length_le (by rw [List.length_take]; omega), Nat.min_eq_left hp, show a + 20 - a = 20 by omega]
   obtain ⟨l', k1, k2, k3, k4⟩ := ih (t + 1) (p ++ m) (by rw [hpm, ← ha, ht]; omega) (by omega) (by omega) (lK hbp (by rw [ha] at ht ⊢; exact ht) g1.1 (by omega)) (fun x => by
    rw [hpm, htk, dX, hc, g1.2, ← dX])
   refine ⟨l', k1, k2, k3, fun r hr => ?_⟩
   have := k4 r hr
   rw [hpm, ← List.drop_drop, hq, List.append_assoc] at this
   have e4 : wrap64 (((a + 20 : Nat) : Int) + 20) = ((a + 20 + 20 : Nat) : Int) := w64 (by omega) (by omega)
   refine Ev.step (f := fun k => (aZ.f k (p ++ q) (a : Int) ((a + 20 : Nat) : Int) z).bind fun t140 => bL.l0 k t140 (l.length : Int) z 20 ((a + 20 : Nat) : Int) ((a + 20 + 20 : Nat) : Int)) (fun k => by simp only [bL.l0, e4]; rw [if_pos (by omega)]) ?_
   exact Ev.bind g3 this
  ·obtain ⟨m, g1, g2, g3⟩ := zn p q [] z (by rw [List.append_nil]; exact hfpq) (by rw [List.append_nil, hpq]; exact hn)
   rw [List.append_nil, List.append_nil, ha, hql, show a + (l.length - a) = l.length by omega] at g3
   refine ⟨p ++ m, by rw [List.length_append, ha, g2]; omega, lK hbp (by rw [ha] at ht ⊢; exact ht) g1.1 (by omega), fun x => ?_, fun r hr => ?_⟩
   ·rw [dX, hc, g1.2, ← dX, ← hlq]
   ·refine Ev.step (f := fun k => (aZ.f k (p ++ q) (a : Int) (l.length : Int) z).bind fun t141 => bL.l1 k t141 (l.length : Int) z 20) (fun k => by simp only [bL.l0]; rw [if_neg (by omega)]) ?_
    exact Ev.bind g3 hr
theorem DT (l : List RR) (z : Int) (hn : l.length ≤ 1000000) (hf : ∀ y ∈ l, fine y) : ∃ m, eG aW l m ∧ m.length = l.length ∧ Ev (fun k => nD.f k l z) m := by
 obtain ⟨l', k1, k2, k3, k4⟩ := Gs z l hn hf l.length 0 [] (by simp) (by simp) (by simp) (vv _) (fun x => by simp)
 obtain ⟨m, g1, g2, g3⟩ := Gp z l.length hn l l.length 20 l' (by omega) (by omega) (by omega) k1 (fun y hy => hf y (lD eZ k3 hy)) k2 k3
 refine ⟨m, g1, g2, ?_⟩
 have := k4 m g3
 simp only [List.length_nil, List.nil_append, List.drop_zero, Nat.zero_add] at this
 unfold nD.f
 refine Ev.bind (a := m) ?_ (Ev.now _)
 exact this
theorem EY (l : List RR) (hn : l.length ≤ 1000000) : ∀ (d i : Nat) (m : List RR), l.length = 2 * i + d → m.length = l.length → (∀ t, m[t]? = if t < i ∨ l.length - i ≤ t ∧ t < l.length then l[l.length - 1 - t]? else l[t]?) →
  Ev (fun k => eu.l0 k m (i : Int) (wrap64 ((l.length : Int) - 1 - (i : Int)))) l.reverse := by
 intro d
 induction d using Nat.strongRecOn with
 | _ d ih =>
  intro i m hd hm hg
  by_cases h : 2 ≤ d
  ·have ej : wrap64 ((l.length : Int) - 1 - (i : Int)) = ((l.length - 1 - i : Nat) : Int) := w64 (by omega) (by omega)
   have e1 : wrap64 ((i : Int) + 1) = ((i + 1 : Nat) : Int) := w64 (by omega) (by omega)
   have e2 : wrap64 (((l.length - 1 - i : Nat) : Int) - 1) = wrap64 ((l.length : Int) - 1 - ((i + 1 : Nat) : Int)) := by congr 1; omega
   have hs := CY m i (l.length - 1 - i) (by omega) (by omega)
   have hgs := BR m i (l.length - 1 - i) (by omega) (by omega)
   refine Ev.step (f := fun k => eu.l0 k (sw m i (l.length - 1 - i)) ((i + 1 : Nat) : Int) (wrap64 ((l.length : Int) - 1 - ((i + 1 : Nat) : Int)))) (fun k => ?_) (ih (d - 2) (by omega) (i + 1) _ (by omega) (by rw [wT]; exact hm) (fun t => ?_))
   ·rw [ej]
    simp only [eu.l0, e1, e2]
    rw [if_pos (by omega), if_pos (by omega), if_pos (by omega), if_pos (by omega), if_pos (by omega), ← hs]
    rfl
   ·rw [hgs, hg, hg, hg]
    repeat' split
    all_goals first | rfl | (exfalso; omega) | (refine congrArg (fun k => l[k]?) ?_; omega)
  ·refine Ev.step (f := fun _ => some m) (fun k => ?_) ?_
   ·have : ¬ (i : Int) < wrap64 ((l.length : Int) - 1 - (i : Int)) := by
     unfold wrap64; omega
    simp only [eu.l0]
    rw [if_neg this]
   ·have : m = l.reverse := List.ext_getElem? fun t => by
     rw [hg]
     by_cases ht : t < l.length
     ·rw [List.getElem?_reverse ht]
      split
      ·rfl
      ·refine congrArg (fun k => l[k]?) ?_; omega
     ·rw [if_neg (by omega), List.getElem?_eq_none (by omega), List.getElem?_eq_none (by rw [List.length_reverse]; omega)]
    rw [this]
    exact Ev.now _
theorem Hu (l : List RR) (hn : l.length ≤ 1000000) : Ev (fun k => eu.f k l) l.reverse := by
 have h := EY l hn l.length 0 l (by omega) rfl (fun t => by
  rw [if_neg (by omega)])
 have e : (l.length : Int) - 1 - ((0 : Nat) : Int) = (l.length : Int) - 1 := by omega
 rw [e] at h
 exact h
end Go.Y.Rrs
namespace Go.Y.Rrs
open Go.RowKit Go.V.aD Go.V.aN Go.V.aR Go.Y.Given Go.Y.PRd Go.Y.PRr Go.Y.PSo
def lG {α : Type} (e : α → α → Bool) : α → List α → List α
 | _, [] => []
 | a, b :: l => if e b a = true then lG e b l else b :: lG e b l
def comp {α : Type} (e : α → α → Bool) : List α → List α
 | [] => []
 | a :: l => a :: lG e a l
theorem uW {α : Type} (e : α → α → Bool) (x : α) : ∀ (l : List α) (a : α), lG e a (l ++ [x]) = lG e a l ++ (if e x (l.getLastD a) = true then [] else [x])
 | [], a => by
  simp only [List.nil_append, lG, List.getLastD_nil]
  rfl
 | b :: l, a => by
  have ih := uW e x l b
  simp only [List.cons_append, lG, List.getLastD_cons]
  rw [ih]
  split <;> simp
theorem rM {α : Type} (e : α → α → Bool) (l : List α) (t : Nat) (ht : t + 1 < l.length) : comp e (l.take (t + 2)) = comp e (l.take (t + 1)) ++ (if e l[t + 1] l[t] = true then [] else [l[t + 1]]) := by
 cases l with
 | nil => simp at ht
 | cons a l =>
  have h1 : t < l.length := by simpa using ht
  have e1 : l.take (t + 1) = l.take t ++ [l[t]] := by rw [List.take_succ_eq_append_getElem h1]
  have e2 : (l.take t).getLastD a = (a :: l)[t]'(by simp; omega) := by
   cases t with
   | zero => rfl
   | succ t =>
    rw [List.take_succ_eq_append_getElem (show t < l.length by omega), List.getLastD_concat]
    rfl
  rw [List.take_succ_cons, List.take_succ_cons, comp, comp, e1, uW, List.cons_append, e2]
  rfl
theorem wX {α : Type} (e : α → α → Bool) (l : List α) : ∀ t, t ≤ l.length → (∀ j (hj : j + 1 < l.length), j + 1 < t → e l[j + 1] l[j] = false) → comp e (l.take t) = l.take t := by
 intro t
 induction t with
 | zero => intro _ _; rw [List.take_zero]; rfl
 | succ t ih =>
  intro ht h
  cases t with
  | zero =>
   cases l with
   | nil => simp at ht
   | cons a l => rfl
  | succ t =>
   rw [rM e l t (by omega), ih (by omega) (fun j hj h1 => h j hj (by omega)), h t (by omega) (by omega)]
   simp only [Bool.false_eq_true, if_false]
   rw [List.take_succ_eq_append_getElem (show t + 1 < l.length by omega)]
theorem FX {α : Type} (p s : List α) (x y : α) : (p ++ x :: s).set p.length y = p ++ y :: s := by
 rw [List.set_append_right _ _ (Nat.le_refl _), Nat.sub_self, List.set_cons_zero]
theorem Row.below {w w' : World} {base g cap : Nat} {l : List RR} {rest : List Value} (h : Row w base g cap l rest) (hb : Below w.heap.size w w') : Row w' base g cap l rest := ⟨ay h.blk hb, h.lo, h.fits, h.len⟩
theorem Row.drew {w : World} {base g cap : Nat} {l : List RR} {rest : List Value} (h : Row w base g cap l rest) : Row w.drew base g cap l rest := ⟨eX h.blk, h.lo, h.fits, h.len⟩
theorem uY (m : Nat) : (Builtin.zeroCells zRR.cells m).toList = flat (List.replicate m (⟨⟨#[]⟩, 0, 0, 0, ⟨#[]⟩⟩ : RR)) := by
 exact qY (R := fun x cs => cs = lJ x) (fun x cs h => h) _ _ (Kd.Bo (z := zRR) (size := 5) (z0 := (⟨⟨#[]⟩, 0, 0, 0, ⟨#[]⟩⟩ : RR)) rfl (by decide) rfl m)
theorem BL (w : World) (ty : TypeId) (g cap q : Nat) (base : Nat) (l : List RR) (rest : List Value) (h : Row w base g cap l rest) (hq : q < l.length) (cc : Nat) :
  ∃ rest', Row (w.setRow g ((flat l ++ rest).take (q * 5) ++ (Builtin.zeroCells zRR.cells (l.length - q)).toList ++ (flat l ++ rest).drop (q * 5 + (Builtin.zeroCells zRR.cells (l.length - q)).toList.length)).toArray) base g cap (l.take q) rest' ∧
  (Builtin.clear_ #[22] ty #[.slice (some ⟨g, q * 5, none⟩) (l.length - q) cc]).run Tryz.prog w = .ok (.tuple #[]) (w.setRow g ((flat l ++ rest).take (q * 5) ++ (Builtin.zeroCells zRR.cells (l.length - q)).toList ++ (flat l ++ rest).drop (q * 5 + (Builtin.zeroCells zRR.cells (l.length - q)).toList.length)).toArray) := by
 obtain ⟨i0, hi0, hz0, hzs, hzb⟩ := xq
 have hu22 := Tryz.underlying22
 obtain ⟨zs, hzz⟩ : ∃ zs, (Builtin.zeroCells zRR.cells (l.length - q)).toList = zs := ⟨_, rfl⟩
 have hzl : zs.length = (l.length - q) * 5 := by rw [← hzz, uY, iy, List.length_replicate]
 have hone : ∀ v ∈ zs, v.oneCell' = true := by rw [← hzz, uY]; exact yh _
 have hfl := iy l
 have hfit : q * 5 + 0 + zs.length ≤ (flat l ++ rest).toArray.size := by rw [List.size_toArray, List.length_append, hfl]; omega
 have hst := run_storeCells_at Tryz.prog g (q * 5) tRR zs 0 (flat l ++ rest).toArray w h.blk hfit hone
 rw [hzz]
 have htk : (flat l ++ rest).take (q * 5) = flat (l.take q) := by rw [List.take_append_of_le_length (by rw [hfl]; omega), CK l q (by omega)]
 refine ⟨zs ++ (flat l ++ rest).drop (q * 5 + zs.length), ⟨?_, h.lo, h.fits, ?_⟩, ?_⟩
 ·rw [setRow_heap _ g _ _ _ _ h.blk, htk, List.append_assoc]
 ·have := h.len
  rw [List.length_take, List.length_append, List.length_drop, List.length_append, hfl]; omega
 ·have hne : ¬ (l.length - q = 0) := by omega
  obtain ⟨m, hm⟩ : ∃ m, l.length - q = m + 1 := ⟨l.length - q - 1, by omega⟩
  rw [hm] at hzz ⊢
  simp only [Nat.add_zero, List.toList_toArray] at hst
  simp [Builtin.clear_, run_underlying hu22, zeroValue, typeInfo, hi0, hz0, hzz, hst]
theorem zi (k : Nat) (y x : RR) (c : Bool) (w : World) (h : kD.f k y.f0 y.f1 y.f2 y.f3 y.f4 x.f0 x.f1 x.f2 x.f3 x.f4 = some c) :
  Calls Tryz.prog 80 #[y.v, x.v] w fun e w' => e = .returned (.bool c) ∧ Below w.heap.size w w' := kD.calls k _ _ _ _ _ _ _ _ _ _ c w h
theorem zG (K : Nat) (l : List RR) (e : RR → RR → Bool) (he : ∀ x ∈ l, ∀ y ∈ l, kD.f K x.f0 x.f1 x.f2 x.f3 x.f4 y.f0 y.f1 y.f2 y.f3 y.f4 = some (e x y)) (hn : l.length ≤ 1000000) (h2 : 2 ≤ l.length) (base : Nat) (ok : Nat → Prop) (w0 w : World) (hB : Below base w0 w) (g c : Nat) (rest : List Value) (HO : Row w base g c l rest) (hok : ok g) :
  Calls Tryz.prog 79 #[.slice (some ⟨g, 0, none⟩) l.length c, .func (.func 80) #[] #[]] w fun en w' => ∃ v', en = .returned v' ∧ Kd.R kRR tRR w' base ok v' (comp e l) ∧ Below base w0 w' := by
 have hu22 := Tryz.underlying22
 have hu41 := Tryz.underlying44
 have HE := Lib.hid he
 have HOK := Lib.hid hok
 have HB := Lib.hid hB
 have HR := Lib.hid HO
 have hcf : c ≤ 9223372036854775807 := by have := HO.fits; unfold maxLen at this; exact this
 have hlc : l.length ≤ c := by have := HO.len; omega
 obtain ⟨n, hnn⟩ : ∃ n, l.length = n := ⟨_, rfl⟩
 have HN := Lib.hid hnn
 rw [hnn] at hn h2 hlc ⊢
 clear he hB HO hok hnn
 go_enter Tryz.func79, Tryz.ntmps79
 have b0 : ¬ ((n : Int) < 2) := by omega
 go_wp2_with fail
 go_loopg [5] n (fun kx s5 wr => ∃ k : Nat, s5 = .int .i64 (k : Int) ∧ 1 ≤ k ∧ k ≤ n ∧ n - k ≤ kx ∧ Hid (∀ j (hj : j + 1 < l.length), j + 1 < k → e l[j + 1] l[j] = false) ∧ Hid (Below base w0 wr) ∧ Hid (Row wr base g c l rest))
 case atStart => exact ⟨1, rfl, by omega, by omega, by omega, Lib.hid (fun j hj h => by omega), Lib.hid HB.out, Lib.hid HR.out⟩
 case round =>
  clear HB HR
  obtain ⟨k, rfl, hk1, hkn, hkx, HS, HB, HR⟩ := hrel
  by_cases hlt : k < n
  ·obtain ⟨j, rfl⟩ : ∃ j, k = j + 1 := ⟨k - 1, by omega⟩
   have p1 : (0 : Int) ≤ ((j + 1 : Nat) : Int) := by omega
   have q1 : ((j + 1 : Nat) : Int) < (l.length : Int) := by rw [HN.out]; omega
   have p2 : (0 : Int) ≤ (j : Int) := by omega
   have q2 : (j : Int) < (l.length : Int) := by rw [HN.out]; omega
   obtain ⟨ad, e1, hx0, hx1, hx2, hx3, hx4⟩ := dU (Kd.aK (HR.out.R (ok := fun _ => True) trivial)).2.2 ((j + 1 : Nat) : Int) p1 q1
   cases e1
   obtain ⟨ad, e1, hy0, hy1, hy2, hy3, hy4⟩ := dU (Kd.aK (HR.out.R (ok := fun _ => True) trivial)).2.2 (j : Int) p2 q2
   cases e1
   rw [Int.toNat_natCast] at hx0 hx1 hx2 hx3 hx4 hy0 hy1 hy2 hy3 hy4
   simp only [Addr.add_lit, Nat.zero_add] at hx0 hx1 hx2 hx3 hx4 hy0 hy1 hy2 hy3 hy4
   have hl1 : rdR l ((j + 1 : Nat) : Int) ∈ l := by rw [eT l _ (by rw [HN.out]; exact hlt)]; exact List.getElem_mem _
   have hl0 : rdR l (j : Nat) ∈ l := by rw [eT l _ (by rw [HN.out]; omega)]; exact List.getElem_mem _
   have hcall := zi K (rdR l ((j + 1 : Nat) : Int)) (rdR l (j : Nat)) (e (rdR l ((j + 1 : Nat) : Int)) (rdR l (j : Nat))) wr.drew (HE.out _ hl1 _ hl0)
   have HCALL := Lib.hid hcall
   clear hcall hl1 hl0 p1 q1 p2 q2
   have g1 : ((j + 1 : Nat) : Int) = (j : Int) + 1 := by omega
   have g2 : (j : Int) + 1 < (n : Int) := by omega
   have g3 : (0 : Int) ≤ (j : Int) := by omega
   have g4 : (j : Int) < (n : Int) := by omega
   have g5 : (0 : Int) ≤ (j : Int) + 1 := by omega
   have g6 : ((j : Int) + 1).toNat = j + 1 := by omega
   have g7 : (j : Int) + 1 - 1 = (j : Int) := by omega
   have hw0 : IntKind.i64.wrap (j : Int) = (j : Int) := by rw [IntKind.wrap_i64]; omega
   have hw1 : IntKind.i64.wrap ((j : Int) + 1) = (j : Int) + 1 := by rw [IntKind.wrap_i64]; omega
   have hw2 : IntKind.i64.wrap ((j : Int) + 1 + 1) = (j : Int) + 1 + 1 := by rw [IntKind.wrap_i64]; omega
   rw [g1]
   clear g1
   go_wp2_with fail
   go_still_tail 10, (by kernel_rfl)
   change wpList _ _ _ _ _ wr.drew
   have HB1 := Lib.hid (dO HB.out)
   have HR1 := Lib.hid (HR.out.drew)
   clear HB HR hx0 hx1 hx2 hx3 hx4 hy0 hy1 hy2 hy3 hy4
   generalize wr.drew = wd at HB1 HR1 HCALL
   go_wp2_with fail
   refine (HCALL.out).mono ?_
   rintro en w4 ⟨rfl, hb4⟩
   have HB4 := Lib.hid (iE HB1.out (Nat.le_trans HR1.out.lo (Nat.le_of_lt (eF HR1.out.blk))) hb4)
   have HR4 := Lib.hid (HR1.out.below hb4)
   clear hb4 HB1 HR1 HCALL
   generalize hd : e (rdR l ((j + 1 : Nat) : Int)) (rdR l (j : Nat)) = d
   have HD := Lib.hid hd
   clear hd
   cases d with
   | false =>
    go_wp2_with fail
    go_roundg (n - (j + 2))
    case measure => omega
    case rel => exact ⟨j + 2, by rw [show ((j + 2 : Nat) : Int) = (j : Int) + 1 + 1 by omega], by omega, by omega, Nat.le_refl _, Lib.hid (fun i hi h1 => by
     by_cases h2 : i = j
     ·subst h2
      have := HD.out
      rw [eT l _ hi, eT l _ (by omega)] at this
      exact this
     ·exact HS.out i hi (by omega)), HB4, HR4⟩
   | true =>
    have hc0 : comp e (l.take (j + 1 + 0 + 1)) = l.take (j + 1) := by
     rw [show j + 1 + 0 + 1 = j + 2 by omega, rM e l j (by rw [HN.out]; omega)]
     have h1 := HD.out
     rw [eT l _ (by rw [HN.out]; omega), eT l _ (by rw [HN.out]; omega)] at h1
     rw [h1, if_pos rfl, List.append_nil]
     exact wX e l (j + 1) (by rw [HN.out]; omega) (fun i hi h1 => HS.out i hi h1)
    have HC0 := Lib.hid hc0
    clear hc0 HD HS hkx hk1 hkn
    go_wp2_with fail
    go_loopg [5, 7] n (fun kx s5 s7 wr => ∃ q t : Nat, s5 = .int .i64 (q : Int) ∧ s7 = .int .i64 ((t : Int) + 1) ∧ j + 1 ≤ q ∧ q ≤ j + 1 + t ∧ j + 1 + t + 1 ≤ n ∧ n - t ≤ kx ∧ Hid ((comp e (l.take (j + 1 + t + 1))).length = q) ∧ Hid (Below base w0 wr) ∧ Hid (Row wr base g c (comp e (l.take (j + 1 + t + 1)) ++ l.drop q) rest))
    case atStart => exact ⟨j + 1, 0, by rw [show ((j + 1 : Nat) : Int) = (j : Int) + 1 by omega], rfl, Nat.le_refl _, by omega, by omega, by omega, Lib.hid (by rw [HC0.out, List.length_take, HN.out]; omega), HB4, Lib.hid (by rw [HC0.out, List.take_append_drop]; exact HR4.out)⟩
    case round =>
     clear HB4 HR4 HC0
     obtain ⟨q, t, rfl, rfl, hq1, hq2, hq3, hkx2, HL, HB, HR⟩ := hrel
     obtain ⟨cur, hcur⟩ : ∃ cur, comp e (l.take (j + 1 + t + 1)) ++ l.drop q = cur := ⟨_, rfl⟩
     have HCU := Lib.hid hcur
     rw [hcur] at HR
     have hcl : cur.length = n := by rw [← hcur, List.length_append, HL.out, List.length_drop, HN.out]; omega
     have HCL := Lib.hid hcl
     have hrd : ∀ i : Nat, q ≤ i → i < n → rdR cur (i : Nat) = rdR l (i : Nat) := fun i h1 h2 => by
      rw [eT cur i (by omega), eT l i (by rw [HN.out]; exact h2)]
      have : cur[i]? = l[i]? := by
       rw [← hcur, List.getElem?_append_right (by rw [HL.out]; exact h1), HL.out, List.getElem?_drop]
       congr 1; omega
      rw [List.getElem?_eq_getElem (by omega), List.getElem?_eq_getElem (by rw [HN.out]; exact h2)] at this
      exact Option.some.inj this
     have HRD := Lib.hid hrd
     clear hcur hcl hrd
     by_cases hlt2 : j + 1 + t + 1 < n
     ·obtain ⟨ad, e1, hx0, hx1, hx2, hx3, hx4⟩ := dU (Kd.aK (HR.out.R (ok := fun _ => True) trivial)).2.2 ((j + 1 + t + 1 : Nat) : Int) (by omega) (by rw [HCL.out]; omega)
      cases e1
      obtain ⟨ad, e1, hy0, hy1, hy2, hy3, hy4⟩ := dU (Kd.aK (HR.out.R (ok := fun _ => True) trivial)).2.2 ((j + 1 + t : Nat) : Int) (by omega) (by rw [HCL.out]; omega)
      cases e1
      have hA : (j + 1 + t + 1) * 5 = (j + 1) * 5 + (t + 1) * 5 := by omega
      have hA2 : (j + 1 + t) * 5 = (j + 1) * 5 + t * 5 := by omega
      have r1 := HRD.out (j + 1 + t + 1) (by omega) hlt2
      have r2 := HRD.out (j + 1 + t) (by omega) (by omega)
      simp only [Int.toNat_natCast, Addr.add_lit, Nat.zero_add] at hx0 hx1 hx2 hx3 hx4 hy0 hy1 hy2 hy3 hy4
      rw [hA] at hx0 hx1 hx2 hx3 hx4
      rw [hA2] at hy0 hy1 hy2 hy3 hy4
      rw [show aj cur ((j + 1 + t + 1 : Nat) : Int) = rdR l ((j + 1 + t + 1 : Nat) : Int) from r1] at hx0 hx1 hx2 hx3 hx4
      rw [show aj cur ((j + 1 + t : Nat) : Int) = rdR l ((j + 1 + t : Nat) : Int) from r2] at hy0 hy1 hy2 hy3 hy4
      have hl1 : rdR l ((j + 1 + t + 1 : Nat) : Int) ∈ l := by rw [eT l _ (by rw [HN.out]; exact hlt2)]; exact List.getElem_mem _
      have hl0 : rdR l ((j + 1 + t : Nat) : Int) ∈ l := by rw [eT l _ (by rw [HN.out]; omega)]; exact List.getElem_mem _
      obtain ⟨x, hxx⟩ : ∃ x, rdR l ((j + 1 + t + 1 : Nat) : Int) = x := ⟨_, rfl⟩
      obtain ⟨y, hyy⟩ : ∃ y, rdR l ((j + 1 + t : Nat) : Int) = y := ⟨_, rfl⟩
      rw [hxx] at hx0 hx1 hx2 hx3 hx4 hl1
      rw [hyy] at hy0 hy1 hy2 hy3 hy4 hl0
      have HX := Lib.hid hxx
      have HY := Lib.hid hyy
      have hcall := zi K x y (e x y) wr.drew (HE.out _ hl1 _ hl0)
      have HCALL := Lib.hid hcall
      clear hcall hl1 hl0 r1 r2 hA hA2 hxx hyy
      have k1 : (t : Int) + 1 < ((n - (j + 1) : Nat) : Int) := by omega
      have k2 : (0 : Int) ≤ (t : Int) := by omega
      have k3 : (t : Int) < ((n - (j + 1) : Nat) : Int) := by omega
      have k4 : (0 : Int) ≤ (t : Int) + 1 := by omega
      have k5 : ((t : Int) + 1).toNat = t + 1 := by omega
      have k6 : (t : Int) + 1 - 1 = (t : Int) := by omega
      have k7 : IntKind.i64.wrap (t : Int) = (t : Int) := by rw [IntKind.wrap_i64]; omega
      have k8 : IntKind.i64.wrap ((t : Int) + 1) = (t : Int) + 1 := by rw [IntKind.wrap_i64]; omega
      have k9 : IntKind.i64.wrap ((t : Int) + 1 + 1) = (t : Int) + 1 + 1 := by rw [IntKind.wrap_i64]; omega
      go_wp2_with fail
      go_still_tail 10, (by kernel_rfl)
      change wpList _ _ _ _ _ wr.drew
      have HB1 := Lib.hid (dO HB.out)
      have HR1 := Lib.hid (HR.out.drew)
      clear HB HR hx0 hx1 hx2 hx3 hx4 hy0 hy1 hy2 hy3 hy4
      generalize wr.drew = wd at HB1 HR1 HCALL
      go_wp2_with fail
      refine (HCALL.out).mono ?_
      rintro en w5 ⟨rfl, hb5⟩
      have HB5 := Lib.hid (iE HB1.out (Nat.le_trans HR1.out.lo (Nat.le_of_lt (eF HR1.out.blk))) hb5)
      have HR5 := Lib.hid (HR1.out.below hb5)
      clear hb5 HB1 HR1 HCALL
      generalize hd : e x y = d
      have HD := Lib.hid hd
      clear hd
      have hct := rM e l (j + 1 + t) (by rw [HN.out]; exact hlt2)
      rw [show l[j + 1 + t + 1]'(by rw [HN.out]; exact hlt2) = x by rw [← HX.out, eT l _ (by rw [HN.out]; exact hlt2)], show l[j + 1 + t]'(by rw [HN.out]; omega) = y by rw [← HY.out, eT l _ (by rw [HN.out]; omega)], HD.out] at hct
      have HCT := Lib.hid hct
      clear hct
      cases d with
      | true =>
       have hc1 : comp e (l.take (j + 1 + (t + 1) + 1)) = comp e (l.take (j + 1 + t + 1)) := by
        rw [show j + 1 + (t + 1) + 1 = j + 1 + t + 2 by omega, HCT.out, if_pos rfl, List.append_nil]
       have HC1 := Lib.hid hc1
       clear hc1
       go_wp2_with fail
       go_roundg (n - (t + 1))
       case measure => omega
       case rel => exact ⟨q, t + 1, rfl, by rw [show ((t + 1 : Nat) : Int) + 1 = (t : Int) + 1 + 1 by omega], hq1, by omega, by omega, Nat.le_refl _, Lib.hid (by rw [HC1.out]; exact HL.out), HB5, Lib.hid (by rw [HC1.out, HCU.out]; exact HR5.out)⟩
      | false =>
       obtain ⟨ad, e1, hx0, hx1, hx2, hx3, hx4⟩ := dU (Kd.aK (HR5.out.R (ok := fun _ => True) trivial)).2.2 ((j + 1 + t + 1 : Nat) : Int) (by omega) (by rw [HCL.out]; omega)
       cases e1
       obtain ⟨ad, e1, hy0, hy1, hy2, hy3, hy4⟩ := dU (Kd.aK (HR5.out.R (ok := fun _ => True) trivial)).2.2 (q : Int) (by omega) (by rw [HCL.out]; omega)
       cases e1
       have hA : (j + 1 + t + 1) * 5 = (j + 1) * 5 + (t + 1) * 5 := by omega
       have r1 := HRD.out (j + 1 + t + 1) (by omega) hlt2
       simp only [Int.toNat_natCast, Addr.add_lit, Nat.zero_add] at hx0 hx1 hx2 hx3 hx4 hy0 hy1 hy2 hy3 hy4
       rw [hA] at hx0 hx1 hx2 hx3 hx4
       rw [show aj cur ((j + 1 + t + 1 : Nat) : Int) = rdR l ((j + 1 + t + 1 : Nat) : Int) from r1, HX.out] at hx0 hx1 hx2 hx3 hx4
       clear hA r1
       have f0 := aH HR5.out.blk (q * 5)
       have f1 := aH HR5.out.blk (q * 5 + 1)
       have f2 := aH HR5.out.blk (q * 5 + 2)
       have f3 := aH HR5.out.blk (q * 5 + 3)
       have f4 := aH HR5.out.blk (q * 5 + 4)
       have m1 : (0 : Int) ≤ (q : Int) := by omega
       have m2 : (q : Int) < (n : Int) := by omega
       have m3 : IntKind.i64.wrap ((q : Int) + 1) = (q : Int) + 1 := by rw [IntKind.wrap_i64]; omega
       have hrow := HR5.out.put x q (by rw [HCL.out]; omega) _ _ _ _ _ rfl
       have hset : cur.set q x = comp e (l.take (j + 1 + (t + 1) + 1)) ++ l.drop (q + 1) := by
        have hd : l.drop q = (l[q]'(by rw [HN.out]; omega)) :: l.drop (q + 1) := List.drop_eq_getElem_cons _
        rw [show j + 1 + (t + 1) + 1 = j + 1 + t + 2 by omega, HCT.out, if_neg (by decide), ← HCU.out, hd]
        have := FX (comp e (l.take (j + 1 + t + 1))) (l.drop (q + 1)) (l[q]'(by rw [HN.out]; omega)) x
        rw [HL.out] at this
        rw [this]; simp
       rw [hset] at hrow
       have hlen : (comp e (l.take (j + 1 + (t + 1) + 1))).length = q + 1 := by
        rw [show j + 1 + (t + 1) + 1 = j + 1 + t + 2 by omega, HCT.out, if_neg (by decide), List.length_append, HL.out]; rfl
       have hge : base ≤ g := HR5.out.lo
       have hBF := ((((HB5.out.setCell (p := ⟨g, q * 5, none⟩) hge (.string x.f0)).setCell (p := ⟨g, q * 5 + 1, none⟩) hge (.int .i64 x.f1)).setCell (p := ⟨g, q * 5 + 2, none⟩) hge (.int .i64 x.f2)).setCell (p := ⟨g, q * 5 + 3, none⟩) hge (.int .i64 x.f3)).setCell (p := ⟨g, q * 5 + 4, none⟩) hge (.string x.f4)
       have HROW := Lib.hid hrow
       have HBF := Lib.hid hBF
       have HLEN := Lib.hid hlen
       clear hrow hBF hlen hset hge
       go_wp2_with fail
       go_roundg (n - (t + 1))
       case measure => omega
       case rel => exact ⟨q + 1, t + 1, by rw [show ((q + 1 : Nat) : Int) = (q : Int) + 1 by omega], by rw [show ((t + 1 : Nat) : Int) + 1 = (t : Int) + 1 + 1 by omega], by omega, by omega, by omega, Nat.le_refl _, HLEN, HBF, HROW⟩
     ·obtain ⟨rest', hrow, hrun⟩ := BL wr 0 g c q base cur rest HR.out (by rw [HCL.out]; omega) (c - q)
      have htk : cur.take q = comp e l := by
       rw [← HCU.out, List.take_append_of_le_length (by rw [HL.out]; exact Nat.le_refl _), List.take_of_length_le (by rw [HL.out]; exact Nat.le_refl _), List.take_of_length_le (by rw [HN.out]; omega)]
      rw [htk, HCL.out] at hrow
      rw [HCL.out] at hrun
      have hql : (comp e l).length = q := by rw [← htk, List.length_take, HCL.out]; omega
      obtain ⟨w6, hw6⟩ : ∃ w6, w6 = (wr.setRow g ((flat cur ++ rest).take (q * 5) ++ (Builtin.zeroCells zRR.cells (n - q)).toList ++ (flat cur ++ rest).drop (q * 5 + (Builtin.zeroCells zRR.cells (n - q)).toList.length)).toArray) := ⟨_, rfl⟩
      rw [← hw6] at hrow hrun
      have hgw : wr.grownBy w6 (some g) := by rw [hw6]; exact ⟨rfl, rfl, rfl, by simp, fun k hk hkg => setRow_other _ _ _ _ (fun e => hkg (by rw [e]))⟩
      have hBF := HB.out.grown hgw (Nat.le_trans HR.out.lo (Nat.le_of_lt (eF HR.out.blk))) (fun k hk => by injection hk with hk; subst hk; exact HR.out.lo)
      have HROW := Lib.hid hrow
      have HBF := Lib.hid hBF
      have HQL := Lib.hid hql
      have HRUN := Lib.hid hrun
      have c1 : ¬ ((t : Int) + 1 < ((n - (j + 1) : Nat) : Int)) := by omega
      have c2 : (0 : Int) ≤ (q : Int) := by omega
      have c3 : (q : Int) ≤ (n : Int) := by omega
      have c4 : ¬ (c = q) := by omega
      have c5 : (q : Int) ≤ (c : Int) := by omega
      have c6 : q ≤ n := by omega
      clear hrow hBF hgw hrun htk hql hw6 HB HR
      go_wp2_with fail
      rw [HRUN.out, Result.andThen_ok, Oper.upon_value]
      rename_i K1 hK1
      first | refine hK1 _ _ ?_ | (rename_i K2 hK2; refine hK2 _ _ ?_)
      simp only [Act.put]
      go_wp2_with fail
      go_ret
      have hR := HROW.out.R HOK.out
      rw [HQL.out] at hR
      exact ⟨_, rfl, hR, HBF.out⟩
  ·obtain rfl : k = n := by omega
   have b1 : ¬ ((k : Int) < (k : Int)) := by omega
   go_wp2_with fail
   go_ret
   have hs := wX e l l.length (Nat.le_refl _) (fun i hi h1 => HS.out i hi (by rw [← HN.out]; exact h1))
   rw [List.take_length] at hs
   rw [hs, ← HN.out]
   exact ⟨_, rfl, HR.out.R HOK.out, HB.out⟩
end Go.Y.Rrs
namespace Go.Y.gI
open Go.Y.Rrs
theorem Bw {α : Type} {c : α → α → Int} (O : gH c) (l : List α) {a b : α} (h : c a b = 0) : lG (fun x y => c x y == 0) b l = lG (fun x y => c x y == 0) a l := by
 cases l with
 | nil => rfl
 | cons x l => rw [lG, lG, O.congr a b x h]
theorem zP {α : Type} {c : α → α → Int} (O : gH c) : ∀ (n : Nat) (l : List α), l.length = n → comp (fun x y => c x y == 0) l = firsts c l := by
 intro n
 induction n with
 | zero => intro l h; obtain rfl := List.length_eq_zero_iff.mp h; rw [firsts, comp]
 | succ n ih =>
  intro l h
  match l, h with
  | [a], _ => rw [firsts, comp, lG]
  | a :: b :: l, h =>
   rw [firsts, comp, lG]
   by_cases h0 : c a b = 0
   ·have h1 : (c b a == 0) = true := by rw [beq_iff_eq]; exact O.symm h0
    rw [if_pos h1, if_pos h0, Bw O l h0, ← ih (a :: l) (by simpa using h), comp]
   ·have h1 : ¬ (c b a == 0) = true := by rw [beq_iff_eq]; exact fun e => h0 (O.symm e)
    rw [if_neg h1, if_neg h0, ← ih (b :: l) (by simpa using h), comp]
end Go.Y.gI
namespace Go.Y.Rrs
open Go.RowKit Go.V.aD Go.V.aN Go.V.aR Go.Y.Given Go.Y.PRd Go.Y.PRr Go.Y.PSo Go.Y.gI
theorem Je (x y : RR) (hx : fine x) (hy : fine y) : kD.f 1000 x.f0 x.f1 x.f2 x.f3 x.f4 y.f0 y.f1 y.f2 y.f3 y.f4 = some (aW x y == 0) := by
 unfold kD.f
 rw [show cB.f 1000 x.f0 x.f1 x.f2 x.f3 x.f4 y.f0 y.f1 y.f2 y.f3 y.f4 = some (aW x y) from Am x y hx.1 hy.1 hx.2 hy.2 1000 (Nat.le_refl _)]
 rfl
theorem compact_all (l : List RR) (hl : ∀ y ∈ l, fine y) (hn : l.length ≤ 1000000) (base : Nat) (ok : Nat → Prop) (w0 w : World) (hB : Below base w0 w) (v : Value) (HO : Kd.R kRR tRR w base ok v l) :
  Calls Tryz.prog 79 #[v, .func (.func 80) #[] #[]] w fun en w' => ∃ v', en = .returned v' ∧ Kd.R kRR tRR w' base ok v' (firsts aW l) ∧ Below base w0 w' := by
 rw [← zP eZ l.length l rfl]
 by_cases h2 : 2 ≤ l.length
 ·rcases Row.Jm HO with ⟨_, rfl⟩ | ⟨g, c, rest, rfl, hg, hr⟩
  ·simp at h2
  ·exact zG 1000 l (fun x y => aW x y == 0) (fun x hx y hy => Je x y (hl x hx) (hl y hy)) hn h2 base ok w0 w hB g c rest hr hg
 ·have hc : comp (fun x y => aW x y == 0) l = l := by
   match l, h2 with
   | [], _ => rfl
   | [a], _ => rfl
   | a :: b :: l, h => simp at h
  rw [hc]
  obtain ⟨A, c, rfl⟩ := Kd.bY HO
  have HR := Lib.hid HO
  have HB := Lib.hid hB
  obtain ⟨n, hnn⟩ : ∃ n, l.length = n := ⟨_, rfl⟩
  rw [hnn] at HR h2 ⊢
  clear HO hB hc hnn hn
  have b0 : (n : Int) < 2 := by omega
  go_enter Tryz.func79, Tryz.ntmps79
  go_wp2_with fail
  go_ret
  exact ⟨_, rfl, HR.out, HB.out⟩
end Go.Y.Rrs
namespace Go.Y.Given
open Go.RowKit Go.V.aD Go.V.aN Go.V.aR Go.Y.PRd Go.Y.PRr Go.Y.PSo Go.Y.Rrs Go.Y.gI
open Classical in
noncomputable def iY.f (l0 : List (S44)) : Option (List (S44)) := if (∀ y ∈ l0, fine y) ∧ l0.length ≤ 1000000 then some (ofL aW l0) else none
theorem FP {l : List RR} (hl : ∀ y ∈ l, fine y) (hn : l.length ≤ 1000000) : iY.f l = some (ofL aW l) := by
 unfold iY.f
 rw [if_pos ⟨hl, hn⟩]
theorem iY.calls (A0 : Option Addr) (c0 : Nat) (l0 : List (S44)) (r : List (S44)) (w : World) (hr0 : Kd.C k44 w A0 l0.length l0) (hc0 : l0.length ≤ c0) (h : iY.f l0 = some r) :
  Calls Tryz.prog 40 #[.slice A0 l0.length c0] w fun e w' => ∃ v0_ : Value, e = .returned (v0_) ∧ Kd.R k44 44 w' w.heap.size (fun _ => True) v0_ r ∧ Below w.heap.size w w' := by
 unfold iY.f at h
 have hS : (∀ y ∈ l0, fine y) ∧ l0.length ≤ 1000000 := Classical.byContradiction fun hn => by rw [if_neg hn] at h; cases h
 rw [if_pos hS] at h
 injection h with h
 obtain ⟨hf, hn⟩ := hS
 have hcl : slices_Clone.f l0 = some l0 := by unfold slices_Clone.f; rw [if_pos hn]
 obtain ⟨K1, hrev⟩ := (Hu l0 hn).rounds
 have hfr : ∀ y ∈ l0.reverse, fine y := fun y hy => hf y (List.mem_reverse.mp hy)
 obtain ⟨m, hst, hml, hev⟩ := DT l0.reverse 0 (by rw [List.length_reverse]; exact hn) hfr
 obtain ⟨K2, hsort⟩ := hev.rounds
 have hfm : ∀ y ∈ m, fine y := fun y hy => hfr y (hst.mem eZ hy)
 have hnm : m.length ≤ 1000000 := by rw [hml, List.length_reverse]; exact hn
 have hof : firsts aW m = r := by rw [Cc eZ hst]; exact h
 have CL := fun W hC => slices_Clone.calls A0 c0 l0 l0 W hC hc0 hcl
 have RV := fun v W hB hR => eu.calls K1 (fun _ => True) v l0 l0.reverse w W hB hR hrev
 have ST := fun P v W hB hR => nD.calls K2 P v l0.reverse _ m w W hB hR hsort
 have CP := fun ok v W hB hR => compact_all m hfm hnm w.heap.size ok w W hB v hR
 have HCL := Lib.hid CL
 have HRV := Lib.hid RV
 have HST := Lib.hid ST
 have HCP := Lib.hid CP
 have HR := Lib.hid hr0
 have HOF := Lib.hid hof
 clear CL RV ST CP hr0 hof hsort hev hrev hcl hst hfm hnm hfr hml h hf
 go_enter Tryz.func40, Tryz.ntmps40
 go_wp2_with fail
 refine (HCL.out w HR.out).mono ?_
 rintro e w1 ⟨v, rfl, hv, hb1⟩
 have HV := Lib.hid hv
 have HB := Lib.hid hb1
 clear hv hb1
 go_wp2_with fail
 refine (HRV.out v w1 HB.out HV.out).mono ?_
 rintro e w2 ⟨rfl, hv2, hb2, _⟩
 have HV2 := Lib.hid hv2
 have HB2 := Lib.hid hb2
 clear hv2 hb2 HV HB
 go_wp2_with fail
 refine (HST.out _ v w2 HB2.out HV2.out).mono ?_
 rintro e w3 ⟨rfl, hv3, hb3, _⟩
 have HV3 := Lib.hid hv3
 have HB3 := Lib.hid hb3
 clear hv3 hb3 HV2 HB2
 go_wp2_with fail
 refine (HCP.out _ v w3 HB3.out HV3.out).mono ?_
 rintro e w4 ⟨v4, rfl, hv4, hb4⟩
 have HV4 := Lib.hid hv4
 have HB4 := Lib.hid hb4
 clear hv4 hb4 HV3 HB3
 go_wp2_with fail
 go_ret
 exact ⟨_, rfl, by rw [← HOF.out]; exact Kd.bN HV4.out (fun _ _ => trivial), HB4.out⟩
end Go.Y.Given
namespace Go.Y.Rrs
open Go.RowKit Go.V.aD Go.V.aN Go.V.aR Go.Y.Given Go.Y.PRd Go.Y.PRr
def vK (pr : RR → Bool) (l : List RR) : Int := match l.findIdx? pr with | some i => (i : Int) | none => -1
theorem DK (l : List RR) (pr : RR → Bool) (hn : l.length ≤ 1000000) (F : FuncId) (fn : Func) (cb : Array Value) (hf : Tryz.prog.funcs[F]? = some fn) (hname : (fn.name == "runtime.NumGoroutine") = false) (hb : fn.body.isSome = true) (A0 : Option Addr) (c0 : Nat) (w : World) (hC : Kd.C kRR w A0 l.length l)
  (hstep : ∀ x ∈ l, ∀ W, Below w.heap.size w W → Calls Tryz.prog F (#[x.v] ++ cb) W fun e w' => e = .returned (.bool (pr x)) ∧ Below W.heap.size W w') :
  Calls Tryz.prog 73 #[.slice A0 l.length c0, .func (.func F) #[] cb] w fun e w' => e = .returned (.int .i64 (vK pr l)) ∧ Below w.heap.size w w' := by
 have hu41 := Tryz.underlying44
 have HF := Lib.hid hf
 have HNM := Lib.hid hname
 have HBD := Lib.hid hb
 have HR := Lib.hid hC
 have HST := Lib.hid hstep
 obtain ⟨n, hnn⟩ : ∃ n, l.length = n := ⟨_, rfl⟩
 have HN := Lib.hid hnn
 rw [hnn] at hn ⊢
 have HB := Lib.hid (Below.refl w.heap.size w)
 clear hf hname hb hC hstep hnn
 go_enter Tryz.func73, Tryz.ntmps73
 go_wp2_with fail
 go_loopg [8] n (fun kx s8 wr => ∃ i : Nat, s8 = .int .i64 (i : Int) ∧ i ≤ n ∧ n - i ≤ kx ∧ Hid (∀ t (ht : t < l.length), t < i → pr l[t] = false) ∧ Hid (Below w.heap.size w wr))
 case atStart => exact ⟨0, rfl, by omega, by omega, Lib.hid (fun t ht h => by omega), Lib.hid HB.out⟩
 case round =>
  clear HB
  obtain ⟨i, rfl, hin, hik, HS, HB⟩ := hrel
  by_cases hlt : i < n
  ·have p1 : (0 : Int) ≤ (i : Int) := by omega
   have q1 : (i : Int) < (l.length : Int) := by rw [HN.out]; omega
   obtain ⟨ad, e1, hx0, hx1, hx2, hx3, hx4⟩ := dU HR.out (i : Int) p1 q1
   cases e1
   rw [Int.toNat_natCast] at hx0 hx1 hx2 hx3 hx4
   replace hx0 := (HB.out.cell (World.block_lt_of_cell? w _ hx0)).trans hx0
   replace hx1 := (HB.out.cell (World.block_lt_of_cell? w _ hx1)).trans hx1
   replace hx2 := (HB.out.cell (World.block_lt_of_cell? w _ hx2)).trans hx2
   replace hx3 := (HB.out.cell (World.block_lt_of_cell? w _ hx3)).trans hx3
   replace hx4 := (HB.out.cell (World.block_lt_of_cell? w _ hx4)).trans hx4
   have q2 : (i : Int) < (n : Int) := by omega
   obtain ⟨x, hx⟩ : ∃ x, rdR l (i : Nat) = x := ⟨_, rfl⟩
   rw [show aj l (i : Int) = x from hx] at hx0 hx1 hx2 hx3 hx4
   have hxl : x = l[i]'(by rw [HN.out]; exact hlt) := by rw [← hx, eT l i (by rw [HN.out]; exact hlt)]
   have hxm : x ∈ l := by rw [hxl]; exact List.getElem_mem _
   have HX := Lib.hid hxl
   have hcall := HST.out x hxm wr HB.out
   have HCALL := Lib.hid hcall
   have hw1 : IntKind.i64.wrap ((i : Int) + 1) = (i : Int) + 1 := by rw [IntKind.wrap_i64]; omega
   clear hcall hxm hxl hx q1
   go_wp2_with fail
   rw [nY HF.out HNM.out HBD.out, Oper.upon_enter]
   refine (HCALL.out).mono ?_
   rintro e w4 ⟨rfl, hb4⟩
   have HB4 := Lib.hid (iE HB.out HB.out.size hb4)
   clear hb4 HB HCALL hx0 hx1 hx2 hx3 hx4
   generalize hd : pr x = d
   have HD := Lib.hid hd
   clear hd
   cases d with
   | true =>
    go_wp2_with fail
    go_ret
    refine ⟨?_, HB4.out⟩
    have hfi : l.findIdx? pr = some i := by
     rw [List.findIdx?_eq_some_iff_getElem]
     refine ⟨by rw [HN.out]; exact hlt, by rw [← HX.out]; exact HD.out, fun j hj => ?_⟩
     rw [HS.out j (by rw [HN.out]; omega) hj]; decide
    unfold vK
    rw [hfi]
    rfl
   | false =>
    go_wp2_with fail
    go_roundg (n - (i + 1))
    case measure => omega
    case rel => exact ⟨i + 1, by rw [show ((i + 1 : Nat) : Int) = (i : Int) + 1 by omega], by omega, Nat.le_refl _, Lib.hid (fun t ht h => by
     by_cases e : t = i
     ·subst e; rw [← HX.out]; exact HD.out
     ·exact HS.out t ht (by omega)), HB4⟩
  ·obtain rfl : i = n := by omega
   have b1 : ¬ ((i : Int) < (i : Int)) := by omega
   go_wp2_with fail
   go_ret
   refine ⟨?_, HB.out⟩
   have hfi : l.findIdx? pr = none := by
    rw [List.findIdx?_eq_none_iff]
    intro y hy
    obtain ⟨t, ht, rfl⟩ := List.getElem_of_mem hy
    exact HS.out t ht (by rw [← HN.out]; exact ht)
   unfold vK
   rw [hfi]
   rfl
theorem oC (l : List RR) (pr : RR → Bool) (hn : l.length ≤ 1000000) (F : FuncId) (fn : Func) (cb : Array Value) (hf : Tryz.prog.funcs[F]? = some fn) (hname : (fn.name == "runtime.NumGoroutine") = false) (hb : fn.body.isSome = true) (A0 : Option Addr) (c0 : Nat) (w : World) (hC : Kd.C kRR w A0 l.length l)
  (hstep : ∀ x ∈ l, ∀ W, Below w.heap.size w W → Calls Tryz.prog F (#[x.v] ++ cb) W fun e w' => e = .returned (.bool (pr x)) ∧ Below W.heap.size W w') :
  Calls Tryz.prog 37 #[.slice A0 l.length c0, .func (.func F) #[] cb] w fun e w' => e = .returned (.bool (l.any pr)) ∧ Below w.heap.size w w' := by
 have hi := DK l pr hn F fn cb hf hname hb A0 c0 w hC hstep
 have he : decide (0 ≤ vK pr l) = l.any pr := by
  unfold vK
  cases h : l.findIdx? pr with
  | none =>
   rw [List.findIdx?_eq_none_iff] at h
   have : l.any pr = false := by rw [List.any_eq_false]; intro x hx; rw [h x hx]; decide
   rw [this]; decide
  | some i =>
   obtain ⟨hi, hp, _⟩ := List.findIdx?_eq_some_iff_getElem.mp h
   have : l.any pr = true := List.any_eq_true.mpr ⟨_, List.getElem_mem hi, hp⟩
   rw [this]
   exact decide_eq_true (by simp)
 have HI := Lib.hid hi
 have HE := Lib.hid he
 clear hi he hf hname hb hC hstep hn
 generalize l.length = n at HI ⊢
 generalize hz : vK pr l = z at HI HE
 clear hz
 go_enter Tryz.func37, Tryz.ntmps37
 go_wp2_with fail
 refine (HI.out).mono ?_
 rintro e w1 ⟨rfl, hb1⟩
 have HB := Lib.hid hb1
 clear hb1 HI
 go_wp2_with fail
 go_ret
 exact ⟨by rw [← HE.out]; rfl, HB.out⟩
end Go.Y.Rrs
namespace Go.Y.Rrs
open Go.RowKit Go.V.aD Go.V.aN Go.V.aR Go.Y.Given Go.Y.PRd Go.Y.PRr
theorem Di (k : Nat) (x : RR) (b : Bool) (w : World) (h : bC.f k x.f0 x.f1 x.f2 x.f3 x.f4 = some b) :
  Calls Tryz.prog 38 (#[x.v] ++ #[]) w fun e w' => e = .returned (.bool (!b)) ∧ Below w.heap.size w w' := by
 have hu41 := Tryz.underlying44
 have HB := ah.mk (Below.refl w.heap.size w)
 have HA := Lib.hid h
 clear h
 show Calls Tryz.prog 38 #[.agg #[.string x.f0, .int .i64 x.f1, .int .i64 x.f2, .int .i64 x.f3, .string x.f4]] w _
 go_enter Tryz.func38, Tryz.ntmps38
 go_wp2_with (first | ((with_reducible refine bB (N := 1) rfl ?_); refine bG ?hg (N := 1) ?hd (cs := #[.string x.f0, .int .i64 x.f1, .int .i64 x.f2, .int .i64 x.f3, .string x.f4]) (t := 44) ?hr ?_; (case hd => rfl); (case hg => rfl); (case hr => first | (go_simp; done) | (go_simp; rfl)); intro gb hg w3 hbox hb; have n0_ := ah.mk (au (HB.out) hb); have n1_ := ah.mk (hbox); clear HB; have HB := n0_; have BK := n1_; clear n0_ n1_; clear hb hbox hg; have hcz0 : w3.cell? ⟨gb, 0, none⟩ = some (.string x.f0) := (aC BK.out 0).trans rfl; have hcz1 : w3.cell? ⟨gb, 1, none⟩ = some (.int .i64 x.f1) := (aC BK.out 1).trans rfl; have hcz2 : w3.cell? ⟨gb, 2, none⟩ = some (.int .i64 x.f2) := (aC BK.out 2).trans rfl; have hcz3 : w3.cell? ⟨gb, 3, none⟩ = some (.int .i64 x.f3) := (aC BK.out 3).trans rfl; have hcz4 : w3.cell? ⟨gb, 4, none⟩ = some (.string x.f4) := (aC BK.out 4).trans rfl))
 refine (bC.calls k x.f0 x.f1 x.f2 x.f3 x.f4 b w3 HA.out).mono ?_
 rintro e w4 ⟨rfl, hb4⟩
 have HB4 := Lib.hid (iE HB.out HB.out.size hb4)
 clear hb4 HB
 go_wp2_with fail
 go_ret
 exact ⟨rfl, HB4.out⟩
theorem Dy (k : Nat) (x : RR) (n : ByteArray) (b : Bool) (g : Nat) (w : World) (hc : w.cell? ⟨g, 0, none⟩ = some (.string n)) (h : fP.f k n x.f0 x.f1 x.f2 x.f3 x.f4 = some b) :
  Calls Tryz.prog 42 (#[x.v] ++ #[.pointer (some ⟨g, 0, none⟩)]) w fun e w' => e = .returned (.bool (!b)) ∧ Below w.heap.size w w' := by
 have hu41 := Tryz.underlying44
 have HB := ah.mk (Below.refl w.heap.size w)
 have HC := Lib.hid hc
 have HA := Lib.hid h
 clear hc h
 show Calls Tryz.prog 42 #[.agg #[.string x.f0, .int .i64 x.f1, .int .i64 x.f2, .int .i64 x.f3, .string x.f4], .pointer (some ⟨g, 0, none⟩)] w _
 go_enter Tryz.func42, Tryz.ntmps42
 go_wp2_with (first | ((with_reducible refine bB (N := 2) rfl ?_); refine bG ?hg (N := 2) ?hd (cs := #[.string x.f0, .int .i64 x.f1, .int .i64 x.f2, .int .i64 x.f3, .string x.f4]) (t := 44) ?hr ?_; (case hd => rfl); (case hg => rfl); (case hr => first | (go_simp; done) | (go_simp; rfl)); intro gb hg w3 hbox hb; have n0_ := ah.mk (au (HB.out) hb); have n1_ := ah.mk (hbox); clear HB; have HB := n0_; have BK := n1_; have hc3 : w3.cell? ⟨g, 0, none⟩ = some (.string n) := (HB.out.cell (World.block_lt_of_cell? w _ HC.out)).trans HC.out; clear n0_ n1_; clear hb hbox hg; have hcz0 : w3.cell? ⟨gb, 0, none⟩ = some (.string x.f0) := (aC BK.out 0).trans rfl; have hcz1 : w3.cell? ⟨gb, 1, none⟩ = some (.int .i64 x.f1) := (aC BK.out 1).trans rfl; have hcz2 : w3.cell? ⟨gb, 2, none⟩ = some (.int .i64 x.f2) := (aC BK.out 2).trans rfl; have hcz3 : w3.cell? ⟨gb, 3, none⟩ = some (.int .i64 x.f3) := (aC BK.out 3).trans rfl; have hcz4 : w3.cell? ⟨gb, 4, none⟩ = some (.string x.f4) := (aC BK.out 4).trans rfl))
 refine (fP.calls k n x.f0 x.f1 x.f2 x.f3 x.f4 b w3 HA.out).mono ?_
 rintro e w4 ⟨rfl, hb4⟩
 have HB4 := Lib.hid (iE HB.out HB.out.size hb4)
 clear hb4 HB
 go_wp2_with fail
 go_ret
 exact ⟨rfl, HB4.out⟩
end Go.Y.Rrs
namespace Go.Y.Given
open Go.RowKit Go.V.aD Go.V.aN Go.V.aR Go.Y.PRd Go.Y.PRr Go.Y.Rrs
noncomputable def tX (p : RR → Option Bool) (l : List RR) : Option Bool := open Classical in if l.length ≤ 1000000 ∧ ∀ x ∈ l, (p x).isSome = true then some (l.any fun x => !(p x).getD false) else none
theorem wH {p : RR → Option Bool} {l : List RR} {r : Bool} (h : tX p l = some r) : l.length ≤ 1000000 ∧ (∀ x ∈ l, (p x).isSome = true) ∧ r = l.any fun x => !(p x).getD false := by
 unfold tX at h
 split at h
 ·rename_i hn
  injection h with h
  exact ⟨hn.1, hn.2, h.symm⟩
 ·cases h
noncomputable def iI.f (k : Nat) (l0 : List (S44)) (a1 : Int) : Option Bool := tX (fun x => bC.f k x.f0 x.f1 x.f2 x.f3 x.f4) l0
theorem iI.calls (k : Nat) (A0 : Option Addr) (c0 : Nat) (l0 : List (S44)) (a1 : Int) (r : Bool) (w : World) (hr0 : Kd.C k44 w A0 l0.length l0) (hc0 : l0.length ≤ c0) (h : iI.f k l0 a1 = some r) :
  Calls Tryz.prog 37 #[.slice A0 l0.length c0, .func (.func 38) #[] #[]] w fun e w' => e = .returned (.bool r) ∧ Below w.heap.size w w' := by
 obtain ⟨h1, h2, rfl⟩ := wH h
 exact oC l0 (fun x => !(bC.f k x.f0 x.f1 x.f2 x.f3 x.f4).getD false) h1 38 Tryz.f38 #[] Tryz.func38 (by kernel_rfl) rfl A0 c0 w hr0 (fun x hx W _ => by
  obtain ⟨b, hb⟩ := Option.isSome_iff_exists.mp (h2 x hx)
  rw [hb]
  exact Di k x b W hb)
noncomputable def lu.f (k : Nat) (l0 : List (S44)) (a1 : ByteArray) : Option Bool := tX (fun x => fP.f k a1 x.f0 x.f1 x.f2 x.f3 x.f4) l0
theorem lu.calls (k : Nat) (A0 : Option Addr) (c0 : Nat) (l0 : List (S44)) (a1 : ByteArray) (r : Bool) (w : World) (hr0 : Kd.C k44 w A0 l0.length l0) (hc0 : l0.length ≤ c0) (h : lu.f k l0 a1 = some r) (g : Nat) (hg : w.cell? ⟨g, 0, none⟩ = some (.string a1)) :
  Calls Tryz.prog 37 #[.slice A0 l0.length c0, .func (.func 42) #[] #[.pointer (some ⟨g, 0, none⟩)]] w fun e w' => e = .returned (.bool r) ∧ Below w.heap.size w w' := by
 obtain ⟨h1, h2, rfl⟩ := wH h
 exact oC l0 (fun x => !(fP.f k a1 x.f0 x.f1 x.f2 x.f3 x.f4).getD false) h1 42 Tryz.f42 #[.pointer (some ⟨g, 0, none⟩)] Tryz.func42 (by kernel_rfl) rfl A0 c0 w hr0 (fun x hx W hW => by
  obtain ⟨b, hb⟩ := Option.isSome_iff_exists.mp (h2 x hx)
  rw [hb]
  exact Dy k x a1 b g W ((hW.cell (World.block_lt_of_cell? w _ hg)).trans hg) hb)
end Go.Y.Given
namespace Go.Y.PZo
open Go.RowKit Go.V.aD Go.V.aN Go.V.aR Go.Y.Given Go.Y.PRd Go.Y.PRr
attribute [local go_sem] dn dh dJ dK bU bT cZ dw   -- for this text's walks alone
def ko : Option Int → Value
 | none => .nilIface
 | some c => .iface 0 (.int .i64 c)
theorem kY : ko none = .nilIface := rfl
theorem kT (c : Int) : ko (some c) = .iface 0 (.int .i64 c) := rfl
end Go.Y.PZo
namespace Go.Y.PZo
open Go.RowKit Go.V.aD Go.V.aN Go.V.aR Go.Y.Given Go.Y.PRd Go.Y.PRr
attribute [local go_sem] dn dh dJ dK bU bT cZ dw   -- for this text's walks alone
theorem FR (d : Nat) (w : World) (x0 y0 : ByteArray) (x1 y1 : Int) (x2 y2 : Int) (x3 y3 : Int) (x4 y4 : ByteArray) :
  (Op.equalIn (d + 2) 44 (.agg #[.string x0, .int .i64 x1, .int .i64 x2, .int .i64 x3, .string x4]) (.agg #[.string y0, .int .i64 y1, .int .i64 y2, .int .i64 y3, .string y4])).run Tryz.prog w = .ok (x0.toList == y0.toList && (x1 == y1 && (x2 == y2 && (x3 == y3 && (x4.toList == y4.toList))))) w := by
 refine Cj Tryz.underlying44 (by kernel_rfl) ?_
 refine kV (by rfl) (by go_simp; rfl) (by go_simp; rfl) (by go_simp) ?_
 refine kV (by rfl) (by go_simp; rfl) (by go_simp; rfl) (by go_simp) ?_
 refine kV (by rfl) (by go_simp; rfl) (by go_simp; rfl) (by go_simp) ?_
 refine kV (by rfl) (by go_simp; rfl) (by go_simp; rfl) (by go_simp) ?_
 exact zo (by rfl) (by go_simp; rfl) (by go_simp; rfl) (by go_simp)
end Go.Y.PZo
namespace Go.Y.PZo
open Go.RowKit Go.V.aD Go.V.aN Go.V.aR Go.Y.Given Go.Y.PRd Go.Y.PRr
attribute [local go_sem] dn dh dJ dK bU bT cZ dw   -- for this text's walks alone
attribute [local go_sem high] FR
noncomputable def fK.l0 : Nat → List (S44) → Int → Int → ByteArray → Int → Int → Int → ByteArray → Option (Int)
 | 0, _, _, _, _, _, _, _, _ => none
 | k + 1, x0, x7, x8, x102000, x102001, x102002, x102003, x102004 => if x8 < x7 then (if 0 ≤ x8 then (if x8 < (x0.length : Int) then (if (x102000.toList == (((aj x0 x8).f0).toList) && (x102001 == ((aj x0 x8).f1) && (x102002 == ((aj x0 x8).f2) && (x102003 == ((aj x0 x8).f3) && (x102004.toList == (((aj x0 x8).f4).toList)))))) = true then (some x8) else (fK.l0 k x0 x7 (wrap64 (x8 + 1)) x102000 x102001 x102002 x102003 x102004)) else (none)) else (none)) else (some (-1))
noncomputable def fK.f (k : Nat) (l0 : List (S44)) (a1_0 : ByteArray) (a1_1 : Int) (a1_2 : Int) (a1_3 : Int) (a1_4 : ByteArray) : Option (Int) := fK.l0 k l0 (l0.length : Int) 0 a1_0 a1_1 a1_2 a1_3 a1_4
theorem fK.calls (k : Nat) (A0 : Option Addr) (c0 : Nat) (l0 : List (S44)) (a1_0 : ByteArray) (a1_1 : Int) (a1_2 : Int) (a1_3 : Int) (a1_4 : ByteArray) (r : Int) (w : World) (hr0 : Kd.C k44 w A0 l0.length l0) (hc0 : l0.length ≤ c0) (h : fK.f k l0 a1_0 a1_1 a1_2 a1_3 a1_4 = some r) :
    Calls Tryz.prog 46 #[.slice A0 l0.length c0, .agg #[.string a1_0, .int .i64 a1_1, .int .i64 a1_2, .int .i64 a1_3, .string a1_4]] w fun e w' => e = .returned (.int .i64 r) ∧ Below w.heap.size w w' := by
  have hu44 := Tryz.underlying44
  have HR0 := ah.mk hr0
  have HC0 := ah.mk hc0
  clear hr0 hc0
  have HB := ah.mk (Below.refl w.heap.size w)
  have H : (fK.l0 k l0 (l0.length : Int) 0 a1_0 a1_1 a1_2 a1_3 a1_4) = some r := h
  clear h
  have H' := ah.mk H
  clear H
  go_enter Tryz.func46, Tryz.ntmps46
  go_wp2_with ((((with_reducible refine bB (N := 3) rfl ?_); refine bG ?hg (N := 3) ?hd (cs := #[.string a1_0, .int .i64 a1_1, .int .i64 a1_2, .int .i64 a1_3, .string a1_4]) (t := 44) ?hr ?_; (case hd => rfl); (case hg => rfl); (case hr => (go_simp; done)); intro gb101 hg w3 hbox hb; have BK101 := ah.mk (hbox); have GW101 := ah.mk (ge_ hg (aA HB.out)); have GE101 := ah.mk (ge_ hg (aA HB.out)); replace HB := ah.mk (au HB.out hb); clear hb hbox hg)))
  repeat (go_quiet ((((with_reducible refine bB (N := 3) rfl ?_); refine bG ?hg (N := 3) ?hd (cs := #[.string a1_0, .int .i64 a1_1, .int .i64 a1_2, .int .i64 a1_3, .string a1_4]) (t := 44) ?hr ?_; (case hd => rfl); (case hg => rfl); (case hr => (go_simp; done)); intro gb101 hg w3 hbox hb; have BK101 := ah.mk (hbox); have GW101 := ah.mk (ge_ hg (aA HB.out)); have GE101 := ah.mk (ge_ hg (aA HB.out)); replace HB := ah.mk (au HB.out hb); clear hb hbox hg))); try go_wp2_with ((((with_reducible refine bB (N := 3) rfl ?_); refine bG ?hg (N := 3) ?hd (cs := #[.string a1_0, .int .i64 a1_1, .int .i64 a1_2, .int .i64 a1_3, .string a1_4]) (t := 44) ?hr ?_; (case hd => rfl); (case hg => rfl); (case hr => (go_simp; done)); intro gb101 hg w3 hbox hb; have BK101 := ah.mk (hbox); have GW101 := ah.mk (ge_ hg (aA HB.out)); have GE101 := ah.mk (ge_ hg (aA HB.out)); replace HB := ah.mk (au HB.out hb); clear hb hbox hg))))
  go_loopg [8] k (fun kq v8 w' => ∃ (x8_1 : Int), v8 = .int .i64 x8_1 ∧ ah (fK.l0 kq l0 (l0.length : Int) x8_1 a1_0 a1_1 a1_2 a1_3 a1_4 = some r) ∧ ah (kq ≤ k) ∧ ah (w'.heap[gb101]? = some (.cells #[.string a1_0, .int .i64 a1_1, .int .i64 a1_2, .int .i64 a1_3, .string a1_4] 44 (0, 0))) ∧ ah (Below w.heap.size w w'))
  case atStart => exact ⟨(0), (by rfl), H', ⟨Nat.le_refl _⟩, ⟨by (with_reducible repeat ((refine ak ?_ _))); exact BK101.out⟩, ⟨HB.out⟩⟩
  case round =>
   clear H'
   obtain ⟨x8_1, rfl, HA, HK1, BK101, HB⟩ := hrel
   cases gk with
   | zero => exact absurd HA.out (by simp [fK.l0])
   | succ k1 =>
    have H := HA.out
    clear HA
    simp only [fK.l0] at H
    by_cases c4 : x8_1 < (l0.length : Int)
    ·rw [if_pos c4] at H
     have c4b0 : decide (x8_1 < (l0.length : Int)) = true := decide_eq_true c4
     clear c4
     obtain ⟨c5b0, H⟩ := dL H
     obtain ⟨c6b0, H⟩ := dL H
     by_cases c7 : (a1_0.toList == (((aj l0 x8_1).f0).toList) && (a1_1 == ((aj l0 x8_1).f1) && (a1_2 == ((aj l0 x8_1).f2) && (a1_3 == ((aj l0 x8_1).f3) && (a1_4.toList == (((aj l0 x8_1).f4).toList)))))) = true
     focus
      rw [if_pos c7] at H
      have c7b0 : (a1_0.toList == (((aj l0 x8_1).f0).toList) && (a1_1 == ((aj l0 x8_1).f1) && (a1_2 == ((aj l0 x8_1).f2) && (a1_3 == ((aj l0 x8_1).f3) && (a1_4.toList == (((aj l0 x8_1).f4).toList)))))) = true := c7
      (try (have c7b1 : decide (a1_0.toList = (((aj l0 x8_1).f0).toList) && (a1_1 == ((aj l0 x8_1).f1) && (a1_2 == ((aj l0 x8_1).f2) && (a1_3 == ((aj l0 x8_1).f3) && (a1_4.toList == (((aj l0 x8_1).f4).toList)))))) = true := by simpa using c7))
      (try (have c7b2 : (a1_0.toList == (((aj l0 x8_1).f0).toList) && (a1_1 == ((aj l0 x8_1).f1) && (a1_2 == ((aj l0 x8_1).f2) && (a1_3 == ((aj l0 x8_1).f3) && (a1_4.toList == (((aj l0 x8_1).f4).toList)))))) = true := by simpa using c7))
      clear c7
      obtain rfl := Option.some.inj H
     rotate_left
     focus
      rw [if_neg c7] at H
      have c7b0 : (a1_0.toList == (((aj l0 x8_1).f0).toList) && (a1_1 == ((aj l0 x8_1).f1) && (a1_2 == ((aj l0 x8_1).f2) && (a1_3 == ((aj l0 x8_1).f3) && (a1_4.toList == (((aj l0 x8_1).f4).toList)))))) = false := by simpa using c7
      (try (have c7b1 : decide (a1_0.toList = (((aj l0 x8_1).f0).toList) && (a1_1 == ((aj l0 x8_1).f1) && (a1_2 == ((aj l0 x8_1).f2) && (a1_3 == ((aj l0 x8_1).f3) && (a1_4.toList == (((aj l0 x8_1).f4).toList)))))) = false := by simpa using c7))
      (try (have c7b2 : (a1_0.toList == (((aj l0 x8_1).f0).toList) && (a1_1 == ((aj l0 x8_1).f1) && (a1_2 == ((aj l0 x8_1).f2) && (a1_3 == ((aj l0 x8_1).f3) && (a1_4.toList == (((aj l0 x8_1).f4).toList)))))) = false := by simpa using c7))
      (try (have c7b3 : ¬ (a1_0.toList = (((aj l0 x8_1).f0).toList) && (a1_1 == ((aj l0 x8_1).f1) && (a1_2 == ((aj l0 x8_1).f2) && (a1_3 == ((aj l0 x8_1).f3) && (a1_4.toList == (((aj l0 x8_1).f4).toList)))))) := by simpa using c7))
      clear c7
      have H' := ah.mk H
      clear H
     rotate_left
     all_goals
      obtain ⟨hcz8_0, hcz8_1, hcz8_2, hcz8_3, hcz8_4, hfz8_0, hfz8_1, hfz8_2, hfz8_3, hfz8_4⟩ := z5_ BK101.out
      have p102 : 0 ≤ (x8_1 : Int) := of_decide_eq_true (by assumption)
      have q102 : x8_1 < (l0.length : Int) := of_decide_eq_true (by assumption)
      obtain ⟨ad102, e102, hx102_0, hx102_1, hx102_2, hx102_3, hx102_4⟩ := dU HR0.out x8_1 p102 q102
      cases e102
      replace hx102_0 := kp_ HB.out hx102_0
      replace hx102_1 := kp_ HB.out hx102_1
      replace hx102_2 := kp_ HB.out hx102_2
      replace hx102_3 := kp_ HB.out hx102_3
      replace hx102_4 := kp_ HB.out hx102_4
      replace p102 := eq_true p102
      replace q102 := eq_true q102
      go_wp2
      repeat (go_quiet (fail); try go_wp2)
     ·go_ret
      exact ⟨by rfl, by repeat ((with_reducible first | exact HB.out | apply cK))⟩
     ·go_roundg k1
      case measure => have := HK1.out; omega
      case rel => exact ⟨(wrap64 (x8_1 + 1)), (by rfl), H', ⟨by have := HK1.out; omega⟩, ⟨by (with_reducible repeat ((refine ak ?_ _))); exact BK101.out⟩, ⟨by repeat ((with_reducible first | exact HB.out | apply cK))⟩⟩
    ·rw [if_neg c4] at H
     have c4b0 : decide (x8_1 < (l0.length : Int)) = false := decide_eq_false c4
     clear c4
     obtain rfl := Option.some.inj H
     go_wp2
     repeat (go_quiet (fail); try go_wp2)
     go_ret
     exact ⟨by rfl, HB.out⟩
noncomputable def jr.f (a0_0 : ByteArray) (l0_1 : List (S44)) (a0_2 : Int) (a1 : ByteArray) : Option ((List (S44))) := (jU.f l0_1 a1).bind fun t104 => (some t104)
theorem jr.calls (a0_0 : ByteArray) (A0_1 : Option Addr) (c0_1 : Nat) (l0_1 : List (S44)) (a0_2 : Int) (a1 : ByteArray) (r : List (S44)) (w : World) (hr0_1 : Kd.C k44 w A0_1 l0_1.length l0_1) (hc0_1 : l0_1.length ≤ c0_1) (h : jr.f a0_0 l0_1 a0_2 a1 = some r) :
  Calls Tryz.prog 16 #[.agg #[.string a0_0, .slice A0_1 l0_1.length c0_1, .int .i64 a0_2], .string a1] w fun e w' => ∃ v0_ : Value, e = .returned (v0_) ∧ Kd.R k44 44 w' w.heap.size (fun _ => True) v0_ r ∧ Below w.heap.size w w' := by
 have hu26 := Tryz.underlying26
 have HR0_1 := ah.mk hr0_1
 have HC0_1 := ah.mk hc0_1
 clear hr0_1 hc0_1
 have HB := ah.mk (Below.refl w.heap.size w)
 have H : ((jU.f l0_1 a1).bind fun t104 => (some t104)) = some r := h
 clear h
 obtain ⟨t104, A3, H⟩ := bR H
 obtain rfl := Option.some.inj H
 go_enter Tryz.func16, Tryz.ntmps16
 go_wp2_with (first | ((with_reducible refine bB (N := 2) rfl ?_); refine bG ?hg (N := 2) ?hd (cs := #[.string a0_0, .slice A0_1 l0_1.length c0_1, .int .i64 a0_2]) (t := 26) ?hr ?_; (case hd => rfl); (case hg => rfl); (case hr => (go_simp; done)); intro gb103 hg w4 hbox hb; have BK103 := ah.mk (hbox); have GW103 := ah.mk (ge_ hg (aA HB.out)); have GE103 := ah.mk (ge_ hg (aA HB.out)); replace HB := ah.mk (au HB.out hb); clear hb hbox hg; obtain ⟨hcz5_0, hcz5_1, hcz5_2, hfz5_0, hfz5_1, hfz5_2⟩ := z3_ BK103.out) | (refine gl_ (some 8) Tryz.func52 #[.slice A0_1 l0_1.length c0_1, .string a1] ?_; (with_reducible refine (jU.calls _ _ l0_1 a1 t104 _ ?side1 ?side2 A3.out).mono ?_); (case side1 => repeat ((exact (Kd.fH HR0_1.out HB.out)))); (case side2 => exact HC0_1.out); rintro e w6 ⟨v105, rfl, ho0, hb⟩; refine ⟨_, rfl, ?_⟩; have HO106 := ah.mk (Kd.bX ho0 (aA HB.out)); replace BK103 := ah.mk (ay (by ((exact BK103.out))) hb); replace HB := ah.mk (au HB.out hb); (try clear hb); (try clear ho0)))
 go_ret
 exact ⟨_, by rfl, by (with_reducible repeat ((apply Kd.aG))); exact HO106.out, HB.out⟩
noncomputable def dZ.f (a0_0 : ByteArray) (l0_1 : List (S44)) (a0_2 : Int) (a1 : ByteArray) (a2 : Int) : Option ((List (S44))) := (jr.f a0_0 l0_1 a0_2 a1).bind fun t108 => ((iA.f t108 a2).bind fun t111 => (some t111))
theorem dZ.calls (a0_0 : ByteArray) (A0_1 : Option Addr) (c0_1 : Nat) (l0_1 : List (S44)) (a0_2 : Int) (a1 : ByteArray) (a2 : Int) (r : List (S44)) (w : World) (hr0_1 : Kd.C k44 w A0_1 l0_1.length l0_1) (hc0_1 : l0_1.length ≤ c0_1) (h : dZ.f a0_0 l0_1 a0_2 a1 a2 = some r) :
  Calls Tryz.prog 14 #[.agg #[.string a0_0, .slice A0_1 l0_1.length c0_1, .int .i64 a0_2], .string a1, .int .i64 a2] w fun e w' => ∃ v0_ : Value, e = .returned (v0_) ∧ Kd.R k44 44 w' w.heap.size (fun _ => True) v0_ r ∧ Below w.heap.size w w' := by
 have hu26 := Tryz.underlying26
 have HR0_1 := ah.mk hr0_1
 have HC0_1 := ah.mk hc0_1
 clear hr0_1 hc0_1
 have HB := ah.mk (Below.refl w.heap.size w)
 have H : ((jr.f a0_0 l0_1 a0_2 a1).bind fun t108 => ((iA.f t108 a2).bind fun t111 => (some t111))) = some r := h
 clear h
 obtain ⟨t108, A4, H⟩ := bR H
 obtain ⟨t111, A5, H⟩ := bR H
 obtain rfl := Option.some.inj H
 go_enter Tryz.func14, Tryz.ntmps14
 go_wp2_with (first | ((with_reducible refine bB (N := 3) rfl ?_); refine bG ?hg (N := 3) ?hd (cs := #[.string a0_0, .slice A0_1 l0_1.length c0_1, .int .i64 a0_2]) (t := 26) ?hr ?_; (case hd => rfl); (case hg => rfl); (case hr => (go_simp; done)); intro gb107 hg w6 hbox hb; have BK107 := ah.mk (hbox); have GW107 := ah.mk (ge_ hg (aA HB.out)); have GE107 := ah.mk (ge_ hg (aA HB.out)); replace HB := ah.mk (au HB.out hb); clear hb hbox hg; obtain ⟨hcz7_0, hcz7_1, hcz7_2, hfz7_0, hfz7_1, hfz7_2⟩ := z3_ BK107.out) | (refine gl_ (some 9) Tryz.func16 #[.agg #[.string a0_0, .slice A0_1 l0_1.length c0_1, .int .i64 a0_2], .string a1] ?_; (with_reducible refine (jr.calls a0_0 _ _ l0_1 a0_2 a1 t108 _ ?side1 ?side2 A4.out).mono ?_); (case side1 => repeat ((exact (Kd.fH HR0_1.out HB.out)))); (case side2 => exact HC0_1.out); rintro e w8 ⟨v109, rfl, ho0, hb⟩; refine ⟨_, rfl, ?_⟩; have HO110 := ah.mk (Kd.bX ho0 (aA HB.out)); replace BK107 := ah.mk (ay (by ((exact BK107.out))) hb); replace HB := ah.mk (au HB.out hb); (try clear hb); (try clear ho0); obtain ⟨Ao9, co9, eo9⟩ := Kd.bY HO110.out; subst eo9) | (refine gl_ (some 11) Tryz.func41 #[.slice Ao9 t108.length co9, .int .i64 a2] ?_; (with_reducible refine (iA.calls _ _ t108 a2 t111 _ ?side1 ?side2 A5.out).mono ?_); (case side1 => exact (Kd.aK HO110.out).2.2); (case side2 => exact (Kd.aK HO110.out).2.1); rintro e w10 ⟨v112, rfl, ho0, hb⟩; refine ⟨_, rfl, ?_⟩; have HO113 := ah.mk (Kd.bX (Kd.eH ho0 (Kd.gW (by ((exact HO110.out))))) (aA HB.out)); replace HO110 := ah.mk (Kd.dI (by ((exact HO110.out))) (Kd.eB ho0) hb); replace BK107 := ah.mk (ay (by ((exact BK107.out))) hb); replace HB := ah.mk (au HB.out hb); (try clear hb); (try clear ho0)))
 go_ret
 exact ⟨_, by rfl, by (with_reducible repeat ((apply Kd.aG))); exact Kd.bN HO113.out (fun _ hk => trivial), HB.out⟩
noncomputable def jg.f (a0_0 : ByteArray) (l0_1 : List (S44)) (a0_2 : Int) : Option ((List (S44))) := (slices_Clone.f l0_1).bind fun t115 => (some t115)
theorem jg.calls (a0_0 : ByteArray) (A0_1 : Option Addr) (c0_1 : Nat) (l0_1 : List (S44)) (a0_2 : Int) (r : List (S44)) (w : World) (hr0_1 : Kd.C k44 w A0_1 l0_1.length l0_1) (hc0_1 : l0_1.length ≤ c0_1) (h : jg.f a0_0 l0_1 a0_2 = some r) :
  Calls Tryz.prog 29 #[.agg #[.string a0_0, .slice A0_1 l0_1.length c0_1, .int .i64 a0_2]] w fun e w' => ∃ v0_ : Value, e = .returned (v0_) ∧ Kd.R k44 44 w' w.heap.size (fun _ => True) v0_ r ∧ Below w.heap.size w w' := by
 have hu26 := Tryz.underlying26
 have HR0_1 := ah.mk hr0_1
 have HC0_1 := ah.mk hc0_1
 clear hr0_1 hc0_1
 have HB := ah.mk (Below.refl w.heap.size w)
 have H : ((slices_Clone.f l0_1).bind fun t115 => (some t115)) = some r := h
 clear h
 obtain ⟨t115, A2, H⟩ := bR H
 obtain rfl := Option.some.inj H
 go_enter Tryz.func29, Tryz.ntmps29
 go_wp2_with (first | ((with_reducible refine bB (N := 1) rfl ?_); refine bG ?hg (N := 1) ?hd (cs := #[.string a0_0, .slice A0_1 l0_1.length c0_1, .int .i64 a0_2]) (t := 26) ?hr ?_; (case hd => rfl); (case hg => rfl); (case hr => (go_simp; done)); intro gb114 hg w3 hbox hb; have BK114 := ah.mk (hbox); have GW114 := ah.mk (ge_ hg (aA HB.out)); have GE114 := ah.mk (ge_ hg (aA HB.out)); replace HB := ah.mk (au HB.out hb); clear hb hbox hg; obtain ⟨hcz4_0, hcz4_1, hcz4_2, hfz4_0, hfz4_1, hfz4_2⟩ := z3_ BK114.out) | (refine gl_ (some 5) Tryz.func64 #[.slice A0_1 l0_1.length c0_1] ?_; (with_reducible refine (slices_Clone.calls _ _ l0_1 t115 _ ?side1 ?side2 A2.out).mono ?_); (case side1 => repeat ((exact (Kd.fH HR0_1.out HB.out)))); (case side2 => exact HC0_1.out); rintro e w5 ⟨v116, rfl, ho0, hb⟩; refine ⟨_, rfl, ?_⟩; have HO117 := ah.mk (Kd.bX ho0 (aA HB.out)); replace BK114 := ah.mk (ay (by ((exact BK114.out))) hb); replace HB := ah.mk (au HB.out hb); (try clear hb); (try clear ho0)))
 go_ret
 exact ⟨_, by rfl, by (with_reducible repeat ((apply Kd.aG))); exact HO117.out, HB.out⟩
end Go.Y.PZo
namespace Go.Y.Rrs
open Go.RowKit Go.V.aD Go.V.aN Go.V.aR Go.Y.Given Go.Y.PRd Go.Y.PRr
theorem Bg (x : RR) (n : ByteArray) (b : Bool) (g : Nat) (w : World) (hc : w.cell? ⟨g, 0, none⟩ = some (.string n)) (h : bW.f x.f0 n = some b) :
  Calls Tryz.prog 54 (#[x.v] ++ #[.pointer (some ⟨g, 0, none⟩)]) w fun e w' => e = .returned (.bool b) ∧ Below w.heap.size w w' := by
 have hu41 := Tryz.underlying44
 have HB := ah.mk (Below.refl w.heap.size w)
 have HC := Lib.hid hc
 have HA := Lib.hid h
 clear hc h
 show Calls Tryz.prog 54 #[.agg #[.string x.f0, .int .i64 x.f1, .int .i64 x.f2, .int .i64 x.f3, .string x.f4], .pointer (some ⟨g, 0, none⟩)] w _
 go_enter Tryz.func54, Tryz.ntmps54
 go_wp2_with (first | ((with_reducible refine bB (N := 2) rfl ?_); refine bG ?hg (N := 2) ?hd (cs := #[.string x.f0, .int .i64 x.f1, .int .i64 x.f2, .int .i64 x.f3, .string x.f4]) (t := 44) ?hr ?_; (case hd => rfl); (case hg => rfl); (case hr => first | (go_simp; done) | (go_simp; rfl)); intro gb hg w3 hbox hb; have n0_ := ah.mk (au (HB.out) hb); have n1_ := ah.mk (hbox); clear HB; have HB := n0_; have BK := n1_; have hc3 : w3.cell? ⟨g, 0, none⟩ = some (.string n) := (HB.out.cell (World.block_lt_of_cell? w _ HC.out)).trans HC.out; clear n0_ n1_; clear hb hbox hg; have hcz0 : w3.cell? ⟨gb, 0, none⟩ = some (.string x.f0) := (aC BK.out 0).trans rfl))
 refine (bW.calls x.f0 n b w3 HA.out).mono ?_
 rintro e w4 ⟨rfl, hb4⟩
 have HB4 := Lib.hid (iE HB.out HB.out.size hb4)
 clear hb4 HB
 go_wp2_with fail
 go_ret
 exact ⟨rfl, HB4.out⟩
end Go.Y.Rrs
namespace Go.Y.Given
open Go.RowKit Go.V.aD Go.V.aN Go.V.aR Go.Y.PRd Go.Y.PRr Go.Y.Rrs
open Classical in
noncomputable def dG.f (a0_0 : ByteArray) (l0_1 : List (S44)) (a0_2 : Int) (a1 : ByteArray) : Option Bool := if l0_1.length ≤ 1000000 ∧ ∀ x ∈ l0_1, (bW.f x.f0 a1).isSome = true then some (l0_1.any fun x => (bW.f x.f0 a1).getD false) else none
theorem dG.calls (a0_0 : ByteArray) (A0_1 : Option Addr) (c0_1 : Nat) (l0_1 : List (S44)) (a0_2 : Int) (a1 : ByteArray) (r : Bool) (w : World) (hr0_1 : Kd.C k44 w A0_1 l0_1.length l0_1) (hc0_1 : l0_1.length ≤ c0_1) (h : dG.f a0_0 l0_1 a0_2 a1 = some r) :
  Calls Tryz.prog 18 #[.agg #[.string a0_0, .slice A0_1 l0_1.length c0_1, .int .i64 a0_2], .string a1] w fun e w' => e = .returned (.bool r) ∧ Below w.heap.size w w' := by
 unfold dG.f at h
 have hn : l0_1.length ≤ 1000000 ∧ ∀ x ∈ l0_1, (bW.f x.f0 a1).isSome = true := Classical.byContradiction fun hn => by rw [if_neg hn] at h; cases h
 rw [if_pos hn] at h
 injection h with h
 subst h
 have HR := Lib.hid hr0_1
 have HA := Lib.hid hn.2
 replace hn := hn.1
 have HB := ah.mk (Below.refl w.heap.size w)
 have hu27 := Tryz.underlying26
 clear hr0_1 hc0_1
 go_enter Tryz.func18, Tryz.ntmps18
 go_wp2_with (first | ((with_reducible refine bB (N := 2) rfl ?_); refine bG ?hg (N := 2) ?hd (cs := #[.string a0_0, .slice A0_1 l0_1.length c0_1, .int .i64 a0_2]) (t := 26) ?hr ?_; (case hd => rfl); (case hg => rfl); (case hr => first | (go_simp; done) | (go_simp; rfl)); intro gb hg w3 hbox hb; have n0_ := ah.mk (au (HB.out) hb); have n1_ := ah.mk (hbox); clear HB; have HB := n0_; have BK := n1_; clear n0_ n1_; clear hb hbox hg) | ((with_reducible refine bB (N := 3) rfl ?_); refine bG ?hg (N := 3) ?hd (cs := #[.string a1]) (t := 9) ?hr ?_; (case hd => rfl); (case hg => rfl); (case hr => first | (go_simp; done) | (go_simp; rfl)); intro ga hg w4 hbox hb; have n0_ := ah.mk (au (HB.out) hb); have n1_ := ah.mk (hbox); have n2_ := ah.mk (ay BK.out hb); clear HB BK; have HB := n0_; have BA := n1_; have BK := n2_; clear n0_ n1_ n2_; clear hb hbox hg; have hcz0 : w4.cell? ⟨gb, 0, none⟩ = some (.string a0_0) := (aC BK.out 0).trans rfl; have hcz1 : w4.cell? ⟨gb, 1, none⟩ = some (.slice A0_1 l0_1.length c0_1) := (aC BK.out 1).trans rfl; have hcz2 : w4.cell? ⟨gb, 2, none⟩ = some (.int .i64 a0_2) := (aC BK.out 2).trans rfl; have hcza : w4.cell? ⟨ga, 0, none⟩ = some (.string a1) := (aC BA.out 0).trans rfl))
 have HC4 := Lib.hid hcza
 refine (oC l0_1 (fun x => (bW.f x.f0 a1).getD false) hn 54 Tryz.f54 _ Tryz.func54 (by kernel_rfl) rfl A0_1 c0_1 w4 (Kd.fH HR.out HB.out) (fun x hx W hW => Bg x a1 _ ga W ((hW.cell (World.block_lt_of_cell? w4 _ HC4.out)).trans HC4.out) (by
  obtain ⟨b, hb⟩ := Option.isSome_iff_exists.mp (HA.out x hx)
  rw [hb]; rfl))).mono ?_
 rintro e w5 ⟨rfl, hb5⟩
 have HB5 := Lib.hid (iE HB.out HB.out.size hb5)
 clear hb5 HB
 go_wp2_with fail
 go_ret
 exact ⟨rfl, HB5.out⟩
end Go.Y.Given
namespace Go.Y.PZf
open Go.RowKit Go.V.aD Go.V.aN Go.V.aR Go.Y.Given Go.Y.PRd Go.Y.PRr Go.Y.PZo
attribute [local go_sem] dn dh dJ dK bU bT cZ dw   -- for this text's walks alone
def ko : Option Int → Value
 | none => .nilIface
 | some c => .iface 0 (.int .i64 c)
theorem kY : ko none = .nilIface := rfl
theorem kT (c : Int) : ko (some c) = .iface 0 (.int .i64 c) := rfl
end Go.Y.PZf
namespace Go.Y.PZf
open Go.RowKit Go.V.aD Go.V.aN Go.V.aR Go.Y.Given Go.Y.PRd Go.Y.PRr Go.Y.PZo
attribute [local go_sem] dn dh dJ dK bU bT cZ dw   -- for this text's walks alone
noncomputable def bM.j0 : Nat → List (S44) → Bool → ByteArray → Option (ByteArray × (List (S44)) × Int × Int)
 | 0, _, _, _ => none
 | k + 1, x1, x15, x104000 => if x15 = true then (some ((⟨#[]⟩ : ByteArray), ([] : List (S44)), 0, 2)) else ((iY.f x1).bind fun t107 => (if (t107.length : Int) > 65536 then (some ((⟨#[]⟩ : ByteArray), ([] : List (S44)), 0, 3)) else ((iA.f t107 6).bind fun t111 => ((dZ.f x104000 t107 0 x104000 2).bind fun t114 => ((lu.f k t107 x104000).bind fun t117 => (if t117 = true then (some ((⟨#[]⟩ : ByteArray), ([] : List (S44)), 0, 9)) else (if (t111.length : Int) = 1 then (if 0 < (t111.length : Int) then ((bW.f ((aj t111 0).f0) x104000).bind fun t119 => (if t119 = true then (if (t114.length : Int) = 0 then (some ((⟨#[]⟩ : ByteArray), ([] : List (S44)), 0, 9)) else ((bK.f k t107).bind fun t120 => (if t120 = true then ((fK.f k t107 ((aj t111 0).f0) ((aj t111 0).f1) ((aj t111 0).f2) ((aj t111 0).f3) ((aj t111 0).f4)).bind fun t122 => (some (x104000, t107, t122, 0))) else (some ((⟨#[]⟩ : ByteArray), ([] : List (S44)), 0, 9))))) else (some ((⟨#[]⟩ : ByteArray), ([] : List (S44)), 0, 9)))) else (none)) else (some ((⟨#[]⟩ : ByteArray), ([] : List (S44)), 0, 9)))))))))
noncomputable def bM.f (k : Nat) (a0 : ByteArray) (l1 : List (S44)) : Option (ByteArray × (List (S44)) × Int × Int) := (dx.f a0).bind fun t105 => (if t105 = true then ((iI.f k l1 7770038).bind fun t106 => (bM.j0 k l1 t106 a0)) else (bM.j0 k l1 true a0))
def bM.T6 : Bool × List (List Nat × List Nat) := (true, [([], []), ([0], [0]), ([1], [1]), ([], []), ([], []), ([3, 4, 2], [3, 4]), ([2, 5, 0, 1, 2], [2]), ([5, 6, 0, 1, 2, 3, 4, 5, 6], [5])])
def bM.B6 : List Nat := [0, 1, 3, 0, 0, 31, 63, 127]
theorem bM.Ec : dP .any (opsOf Tryz.f11 6) = bM.T6 := by kernel_rfl
theorem bM.AA : dS bM.T6.2 bM.B6 = true := by kernel_rfl
def bM.T9 : Bool × List (List Nat × List Nat) := (true, [([], []), ([0], [0]), ([1], [1]), ([2], [2]), ([3], [3]), ([4, 3], [3, 4]), ([5, 3], [3, 5]), ([6, 3], [3, 6]), ([3], [3]), ([7, 8, 3, 3], [3, 7, 8]), ([9, 3], [3, 9]), ([3, 10], [3, 10]), ([11, 9], [11]), ([12], [12]), ([13, 12], [12, 13]), ([14, 12], [12, 14]), ([12, 15], [12, 15]), ([16, 12], [16]), ([17], [17]), ([18, 17], [17, 18]), ([19, 17, 17], [17, 19]), ([20, 17], [17, 20]), ([17, 21], [17, 21]), ([22, 20], [22])])
def bM.B9 : List Nat := [0, 1, 3, 7, 15, 31, 63, 127, 15, 511, 1023, 2047, 4095, 8191, 16383, 32767, 65535, 131071, 262143, 524287, 1048575, 2097151, 4194303, 8388607]
theorem bM.yw : dP .any (opsOf Tryz.f11 9) = bM.T9 := by kernel_rfl
theorem bM.uL : dS bM.T9.2 bM.B9 = true := by kernel_rfl
def bM.T11 : Bool × List (List Nat × List Nat) := (true, [([], []), ([0], [0]), ([], []), ([2], [2]), ([3], [3]), ([1, 4], [1, 4]), ([0, 1, 2, 3, 4, 5], []), ([6, 5, 5, 0, 1, 2, 3, 4, 5], [5, 6])])
def bM.B11 : List Nat := [0, 1, 0, 4, 12, 31, 63, 127]
theorem bM.Bv : dP .any (opsOf Tryz.f11 11) = bM.T11 := by kernel_rfl
theorem bM.zf : dS bM.T11.2 bM.B11 = true := by kernel_rfl
theorem bM.calls (k : Nat) (a0 : ByteArray) (A1 : Option Addr) (c1 : Nat) (l1 : List (S44)) (r1 : ByteArray) (r2 : List (S44)) (r3 : Int) (r4 : Int) (w : World) (hr1 : Kd.C k44 w A1 l1.length l1) (hc1 : l1.length ≤ c1) (h : bM.f k a0 l1 = some (r1, r2, r3, r4)) :
    Calls Tryz.prog 11 #[.string a0, .slice A1 l1.length c1] w fun e w' => ∃ v1_ : Value, e = .returned (.tuple #[.agg #[.string r1, v1_, .int .i64 r3], .int .i64 r4]) ∧ Kd.R k44 44 w' w.heap.size (fun _ => True) v1_ r2 ∧ Below w.heap.size w w' := by
  have hu26 := Tryz.underlying26
  have hu44 := Tryz.underlying44
  have HR1 := ah.mk hr1
  have HC1 := ah.mk hc1
  clear hr1 hc1
  have HB := ah.mk (Below.refl w.heap.size w)
  have H : ((dx.f a0).bind fun t105 => (if t105 = true then ((iI.f k l1 7770038).bind fun t106 => (bM.j0 k l1 t106 a0)) else (bM.j0 k l1 true a0))) = some (r1, r2, r3, r4) := h
  clear h
  have HC3 := ah.mk H
  clear H
  go_enter Tryz.func11, Tryz.ntmps11
  go_upto_region 1 with (first | ((with_reducible refine bB (N := 2) rfl ?_); (try (refine eD (by rfl) ?_; dsimp only)); refine bG ?hg (N := 2) ?hd (cs := #[.string a0]) (t := 9) ?hr ?_; (case hd => rfl); (case hg => rfl); (case hr => (go_simp; done)); intro gb103 hg w4 hbox hb; have BK103 := ah.mk (hbox); have GW103 := ah.mk (ge_ hg (aA HB.out)); have GE103 := ah.mk (ge_ hg (aA HB.out)); replace HB := ah.mk (au HB.out hb); clear hb hbox hg) | ((with_reducible refine bB (N := 4) rfl ?_); (try (refine eD (by rfl) ?_; dsimp only)); refine bG ?hg (N := 4) ?hd (cs := #[.string (⟨#[]⟩ : ByteArray), .slice none 0 0, .int .i64 0]) (t := 26) ?hr ?_; (case hd => rfl); (case hg => rfl); (case hr => (go_simp; done)); intro gb104 hg w5 hbox hb; have BK104 := ah.mk (hbox); have GW104 := ah.mk (ge_ hg (aA HB.out)); have GE104 := ah.mk (ge_ hg (aA HB.out)); have NB103_104 := ah.mk (nl_ hg (by ((exact BK103.out)))); have NB104_103 := ah.mk (nr_ hg (by ((exact BK103.out)))); replace BK103 := ah.mk (ay (by ((exact BK103.out))) hb); replace HB := ah.mk (au HB.out hb); clear hb hbox hg))
  go_cut [15] (fun v15 wc => ∃ (kq : Nat) (x15_2 : Bool), v15 = .bool x15_2 ∧ ah (bM.j0 kq l1 x15_2 a0 = some (r1, r2, r3, r4)) ∧ ah (kq ≤ k) ∧ ah (wc.heap[gb103]? = some (.cells #[.string a0] 9 (0, 0))) ∧ ah (wc.heap[gb104]? = some (.cells #[.string (⟨#[]⟩ : ByteArray), (.slice none 0 0), .int .i64 0] 26 (0, 0))) ∧ ah (Below w.heap.size w wc))
  case first =>
   have H := HC3.out
   clear HC3
   obtain ⟨t105, A6, H⟩ := bR H
   by_cases c7 : t105 = true
   focus
    subst c7
    rw [if_pos rfl] at H
    obtain ⟨t106, A8, H⟩ := bR H
   rotate_left
   focus
    replace c7 := Bool.eq_false_iff.mpr c7
    subst c7
    rw [if_neg ff_] at H
   rotate_left
   all_goals
    have H' := ah.mk H
    clear H
    have hnb9 := NB103_104.out
    have hnc9 := NB104_103.out
    obtain ⟨hcz10_0, hfz10_0⟩ := z1_ BK103.out
   ·go_wp2_with (first | (refine gl_ (some 10) Tryz.func36 #[.string a0] ?_; (with_reducible refine (dx.calls a0 _ _ A6.out).mono ?_); rintro e w11 ⟨rfl, hb⟩; refine ⟨_, rfl, ?_⟩; replace BK103 := ah.mk (ay (by ((exact BK103.out))) hb); replace BK104 := ah.mk (ay (by ((exact BK104.out))) hb); replace HB := ah.mk (au HB.out hb); (try clear hb)) | (go_at_call 37; (with_reducible refine (iI.calls k _ _ l1 7770038 t106 _ ?side1 ?side2 A8.out).mono ?_); (case side1 => repeat ((exact (Kd.fH HR1.out HB.out)))); (case side2 => exact HC1.out); rintro e w12 ⟨rfl, hb⟩; replace BK103 := ah.mk (ay (by ((exact BK103.out))) hb); replace BK104 := ah.mk (ay (by ((exact BK104.out))) hb); replace HB := ah.mk (au HB.out hb); (try clear hb)))
    go_meet
    case rel => exact ⟨_, (t106), (by rfl), H', ⟨by omega⟩, ⟨by (with_reducible repeat ((refine ak ?_ _))); exact BK103.out⟩, ⟨by (with_reducible repeat ((refine ak ?_ _))); exact BK104.out⟩, ⟨HB.out⟩⟩
   ·go_wp2_with (((refine gl_ (some 10) Tryz.func36 #[.string a0] ?_; (with_reducible refine (dx.calls a0 _ _ A6.out).mono ?_); rintro e w15 ⟨rfl, hb⟩; refine ⟨_, rfl, ?_⟩; replace BK103 := ah.mk (ay (by ((exact BK103.out))) hb); replace BK104 := ah.mk (ay (by ((exact BK104.out))) hb); replace HB := ah.mk (au HB.out hb); (try clear hb))))
    go_meet
    case rel => exact ⟨_, (true), (by rfl), H', ⟨by omega⟩, ⟨by (with_reducible repeat ((refine ak ?_ _))); exact BK103.out⟩, ⟨by (with_reducible repeat ((refine ak ?_ _))); exact BK104.out⟩, ⟨HB.out⟩⟩
  case rest =>
   clear HC3
   obtain ⟨kq, x15_2, rfl, HA, HJ2, BK103, BK104, HB⟩ := hcut
   cases kq with
   | zero => exact absurd HA.out (by simp [bM.j0])
   | succ kj2 =>
    have H := HA.out
    clear HA
    simp only [bM.j0] at H
    by_cases c16 : x15_2 = true
    focus
     subst c16
     rw [if_pos rfl] at H
    rotate_left
    focus
     replace c16 := Bool.eq_false_iff.mpr c16
     subst c16
     rw [if_neg ff_] at H
     obtain ⟨t107, A19, H⟩ := bR H
     by_cases c20 : (t107.length : Int) > 65536
     focus
      rw [if_pos c20] at H
      have c20b0 : decide (65536 < (t107.length : Int)) = true := decide_eq_true c20
      have c20b1 : decide (65536 < t107.length) = true := decide_eq_true (by omega)
      clear c20
     rotate_left
     focus
      rw [if_neg c20] at H
      have c20b0 : decide (65536 < (t107.length : Int)) = false := decide_eq_false c20
      have c20b1 : decide (65536 < t107.length) = false := decide_eq_false (by omega)
      clear c20
      obtain ⟨t111, A35, H⟩ := bR H
      obtain ⟨t114, A36, H⟩ := bR H
      obtain ⟨t117, A37, H⟩ := bR H
      by_cases c38 : t117 = true
      focus
       subst c38
       rw [if_pos rfl] at H
      rotate_left
      focus
       replace c38 := Bool.eq_false_iff.mpr c38
       subst c38
       rw [if_neg ff_] at H
       by_cases c60 : (t111.length : Int) = 1
       focus
        rw [if_pos c60] at H
        have c60b0 : ((t111.length : Int) == 1) = true := beq_iff_eq.mpr c60
        have c60b1 : ((t111.length : Int) != 1) = false := bne_eq_false_iff_eq.mpr c60
        clear c60
        obtain ⟨c61, H⟩ := gd_ H
        have c61b0 : decide (0 < (t111.length : Int)) = true := decide_eq_true c61
        have c61b1 : decide (0 < t111.length) = true := decide_eq_true (by omega)
        clear c61
        obtain ⟨t119, A62, H⟩ := bR H
        by_cases c63 : t119 = true
        focus
         subst c63
         rw [if_pos rfl] at H
         by_cases c64 : (t114.length : Int) = 0
         focus
          rw [if_pos c64] at H
          have c64b0 : ((t114.length : Int) == 0) = true := beq_iff_eq.mpr c64
          have c64b1 : ((t114.length : Int) != 0) = false := bne_eq_false_iff_eq.mpr c64
          clear c64
         rotate_left
         focus
          rw [if_neg c64] at H
          have c64b0 : ((t114.length : Int) == 0) = false := beq_eq_false_iff_ne.mpr c64
          have c64b1 : ((t114.length : Int) != 0) = true := bne_iff_ne.mpr c64
          have c64b2 : ¬ (t114 = []) := fun h_ => c64 (by rw [h_]; rfl)
          obtain ⟨t120, A90, H⟩ := bR H
          by_cases c91 : t120 = true
          focus
           subst c91
           rw [if_pos rfl] at H
           obtain ⟨t122, A92, H⟩ := bR H
          rotate_left
          focus
           replace c91 := Bool.eq_false_iff.mpr c91
           subst c91
           rw [if_neg ff_] at H
          rotate_left
         rotate_left 2
        rotate_left 3
        focus
         replace c63 := Bool.eq_false_iff.mpr c63
         subst c63
         rw [if_neg ff_] at H
        rotate_left
       rotate_left 4
       focus
        rw [if_neg c60] at H
        have c60b0 : ((t111.length : Int) == 1) = false := beq_eq_false_iff_ne.mpr c60
        have c60b1 : ((t111.length : Int) != 1) = true := bne_iff_ne.mpr c60
       rotate_left
      rotate_left 5
     rotate_left 6
    rotate_left 7
    all_goals
     simp only [Option.some.injEq, Prod.mk.injEq] at H
     obtain ⟨rfl, rfl, rfl, rfl⟩ := H
    ·have hnb17 := NB104_103.out
     have hnc17 := NB103_104.out
     obtain ⟨hcz18_0, hcz18_1, hcz18_2, hfz18_0, hfz18_1, hfz18_2⟩ := z3_ BK104.out
     go_wp2
     refine bodyPost_ret (iO rfl _ _ gb104 26 #[.string (⟨#[]⟩ : ByteArray), .slice none 0 0, .int .i64 0] (0, 0) _ rfl (by (with_reducible repeat ((refine ak ?_ _))); refine aM (cs := #[.string (⟨#[]⟩ : ByteArray), .slice none 0 0, .int .i64 0]) ?_ 2 _ rfl; (with_reducible repeat ((refine ak ?_ _))); refine aM (cs := #[.string (⟨#[]⟩ : ByteArray), .slice none 0 0, .int .i64 0]) ?_ 1 _ rfl; (with_reducible repeat ((refine ak ?_ _))); refine aM (cs := #[.string (⟨#[]⟩ : ByteArray), .slice none 0 0, .int .i64 0]) ?_ 0 _ rfl; (with_reducible repeat ((refine ak ?_ _))); exact BK104.out) Tryz.underlying26 rfl (by kernel_rfl)) rfl ?_
     exact ⟨_, by rfl, by (exact Kd.gL _ _ _ _ _), by repeat ((with_reducible first | exact HB.out | refine bS ?_ GE104.out))⟩
    all_goals
     (try go_wp2)
     replace BK103 := ah.mk (eX BK103.out)
     replace BK104 := ah.mk (eX BK104.out)
     replace HB := ah.mk (dO HB.out)
     refine fM (n := 6) (S := fun w' => w'.cell? ⟨gb103, 0, none⟩ = some (.string a0)) (ds := []) (ls 6 0) (by kernel_rfl) rfl rfl ((aC BK103.out 0).trans rfl) (fun hHeld => ?_)
     generalize wc.drew = w21 at BK103 BK104 HB hHeld ⊢
     refine oO (i := 1) (N := some 18) (v := ?_) (a' := ?_) (ls 6 2) rfl rfl (by kernel_rfl) (fun _ _ _ h => h) (Or.inl ⟨by rfl, ?_⟩) ?_ ?_
     rotate_left
     ·intro w'
      go_simp
      with_reducible rfl
     rotate_left
     ·simp only [Act.put, sA_, sZ_, sS_, bE, bJ]
      rfl
     refine sF (i := 0) (N := some 17) (v := ?_) (a' := ?_) (ls 6 3) rfl rfl (by kernel_rfl) (fun _ _ _ h => h) (Or.inl ⟨by rfl, ?_⟩) hHeld ?_ ?_
     rotate_left
     ·intro w' s0
      go_simp
      with_reducible rfl
     rotate_left
     ·simp only [Act.put, sA_, sZ_, sS_, bE, bJ]
      rfl
     refine Ja (σ := Value × Nat) 1 (ls 6 31) (fun s_ => [(19, s_.1), (6, .pointer (some ⟨s_.2, 0, none⟩)), (20, .agg #[.string a0, s_.1, .int .i64 0])]) (fun s_ w' => (w'.cell? ⟨gb103, 0, none⟩ = some (.string a0)) ∧ (Kd.R k44 44 w' w.heap.size (fun _ => True) s_.1 t107) ∧ (w'.heap[gb103]? = some (.cells #[.string a0] 9 (0, 0))) ∧ (w'.heap[gb104]? = some (.cells #[.string (⟨#[]⟩ : ByteArray), .slice none 0 0, .int .i64 0] 26 (0, 0))) ∧ (w'.heap[s_.2]? = some (.cells #[.string (⟨#[]⟩ : ByteArray), .slice none 0 0, .int .i64 0] 26 (0, 0))) ∧ (w.heap.size ≤ s_.2) ∧ (w.heap.size ≤ s_.2) ∧ (gb103 ≠ s_.2) ∧ (s_.2 ≠ gb103) ∧ (gb104 ≠ s_.2) ∧ (s_.2 ≠ gb104) ∧ (Below w.heap.size w w')) ?_ ?_
     rotate_left
     ·intro hCont
      refine Js (i := 2) (j := 4) (Ni := some 19) (Nj := some 6) (ls 6 7) (ls 6 19) rfl rfl rfl rfl (by kernel_rfl) (by decide) (by decide) (fun K hK => ?_) (fun K hK => ?_)
      ·skip
       refine gs_ Tryz.func40 #[.slice A1 l1.length c1] ?_
       with_reducible refine (iY.calls _ _ l1 t107 _ ?side1 ?side2 A19.out).mono ?_
       (case side1 => repeat ((exact (Kd.fH HR1.out HB.out))))
       (case side2 => exact HC1.out)
       rintro e w22 ⟨v108, rfl, ho0, hb⟩
       refine ⟨_, rfl, ?_⟩
       have HO109 := ah.mk (Kd.bX ho0 (aA HB.out))
       replace BK103 := ah.mk (ay (by ((exact BK103.out))) hb)
       replace BK104 := ah.mk (ay (by ((exact BK104.out))) hb)
       replace HB := ah.mk (au HB.out hb)
       (try clear hb)
       (try clear ho0)
       obtain ⟨Ao23, co23, eo23⟩ := Kd.bY HO109.out
       ((subst eo23))
       refine hK.out _ _ ((aC BK103.out 0).trans rfl) (fun hHeld => ?_)
       clear hK K
       refine nm_ (N := (some 19)) ?_
       refine oO (i := 3) (N := some 20) (v := ?_) (a' := ?_) (ls 6 15) rfl rfl (by kernel_rfl) (fun _ _ _ h => h) (Or.inl ⟨by rfl, ?_⟩) ?_ ?_
       rotate_left
       ·intro w'
        go_simp
        with_reducible rfl
       rotate_left
       ·simp only [Act.put, sA_, sZ_, sS_, bE, bJ]
        rfl
       refine kE (i := 4) (N := some 6) (ls 6 31) rfl rfl (by kernel_rfl) (by decide) (fun K hK => ?_)
       refine yZ ?hg (N := 6) ?hd (cs := #[.string (⟨#[]⟩ : ByteArray), .slice none 0 0, .int .i64 0]) (t := 26) ?hr ?_; (case hd => rfl); (case hg => rfl); (case hr => (go_simp; done))
       intro gb110 hg w24 hbox hb
       have BK110 := ah.mk (hbox)
       have GW110 := ah.mk (ge_ hg (aA HB.out))
       have GE110 := ah.mk (ge_ hg (aA HB.out))
       have NB103_110 := ah.mk (nl_ hg (by ((exact BK103.out))))
       have NB110_103 := ah.mk (nr_ hg (by ((exact BK103.out))))
       have NB104_110 := ah.mk (nl_ hg (by ((exact BK104.out))))
       have NB110_104 := ah.mk (nr_ hg (by ((exact BK104.out))))
       replace HO109 := ah.mk (Kd.aY (by ((exact HO109.out))) hb)
       replace BK103 := ah.mk (ay (by ((exact BK103.out))) hb)
       replace BK104 := ah.mk (ay (by ((exact BK104.out))) hb)
       replace HB := ah.mk (au HB.out hb)
       clear hb hbox hg
       refine hK.out _ _ ((aC BK103.out 0).trans rfl) (fun hHeld => ?_)
       clear hK K
       refine nm_ (N := (some 6)) ?_
       exact jD (by simp only [qb, Act.put, List.setIfInBounds_toArray, List.set_cons_zero, List.set_cons_succ]) (hCont (.slice Ao23 t107.length co23, gb110) _ ⟨hHeld, (by ((exact HO109.out))), (by ((exact BK103.out))), (by ((exact BK104.out))), (by ((exact BK110.out))), GW110.out, GE110.out, NB103_110.out, NB110_103.out, NB104_110.out, NB110_104.out, HB.out⟩)
      ·skip
       refine yZ ?hg (N := 6) ?hd (cs := #[.string (⟨#[]⟩ : ByteArray), .slice none 0 0, .int .i64 0]) (t := 26) ?hr ?_; (case hd => rfl); (case hg => rfl); (case hr => (go_simp; done))
       intro gb110 hg w22 hbox hb
       have BK110 := ah.mk (hbox)
       have GW110 := ah.mk (ge_ hg (aA HB.out))
       have GE110 := ah.mk (ge_ hg (aA HB.out))
       have NB103_110 := ah.mk (nl_ hg (by ((exact BK103.out))))
       have NB110_103 := ah.mk (nr_ hg (by ((exact BK103.out))))
       have NB104_110 := ah.mk (nl_ hg (by ((exact BK104.out))))
       have NB110_104 := ah.mk (nr_ hg (by ((exact BK104.out))))
       replace BK103 := ah.mk (ay (by ((exact BK103.out))) hb)
       replace BK104 := ah.mk (ay (by ((exact BK104.out))) hb)
       replace HB := ah.mk (au HB.out hb)
       clear hb hbox hg
       refine hK.out _ _ ((aC BK103.out 0).trans rfl) (fun hHeld => ?_)
       clear hK K
       refine nm_ (N := (some 6)) ?_
       refine kE (i := 2) (N := some 19) (ls 6 23) rfl rfl (by kernel_rfl) (by decide) (fun K hK => ?_)
       refine gs_ Tryz.func40 #[.slice A1 l1.length c1] ?_
       with_reducible refine (iY.calls _ _ l1 t107 _ ?side1 ?side2 A19.out).mono ?_
       (case side1 => repeat ((exact (Kd.fH HR1.out HB.out))))
       (case side2 => exact HC1.out)
       rintro e w23 ⟨v108, rfl, ho0, hb⟩
       refine ⟨_, rfl, ?_⟩
       have HO109 := ah.mk (Kd.bX ho0 (aA HB.out))
       replace BK103 := ah.mk (ay (by ((exact BK103.out))) hb)
       replace BK104 := ah.mk (ay (by ((exact BK104.out))) hb)
       replace BK110 := ah.mk (ay (by ((exact BK110.out))) hb)
       replace HB := ah.mk (au HB.out hb)
       (try clear hb)
       (try clear ho0)
       obtain ⟨Ao24, co24, eo24⟩ := Kd.bY HO109.out
       ((subst eo24))
       refine hK.out _ _ ((aC BK103.out 0).trans rfl) (fun hHeld => ?_)
       clear hK K
       refine nm_ (N := (some 19)) ?_
       refine oO (i := 3) (N := some 20) (v := ?_) (a' := ?_) (ls 6 31) rfl rfl (by kernel_rfl) (fun _ _ _ h => h) (Or.inl ⟨by rfl, ?_⟩) ?_ ?_
       rotate_left
       ·intro w'
        go_simp
        with_reducible rfl
       rotate_left
       ·simp only [Act.put, sA_, sZ_, sS_, bE, bJ]
        rfl
       exact jD (by simp only [qb, Act.put, List.setIfInBounds_toArray, List.set_cons_zero, List.set_cons_succ]) (hCont (.slice Ao24 t107.length co24, gb110) _ ⟨hHeld, (by ((exact HO109.out))), (by ((exact BK103.out))), (by ((exact BK104.out))), (by ((exact BK110.out))), GW110.out, GE110.out, NB103_110.out, NB110_103.out, NB104_110.out, NB110_104.out, HB.out⟩)
     rintro ⟨v108, gb110⟩ w25 ⟨hS_, h0_, h1_, h2_, h3_, h4_, h5_, h6_, h7_, h8_, h9_, h10_⟩
     have n0_ : ah (Kd.R k44 44 w25 w.heap.size (fun _ => True) v108 t107) := ⟨h0_⟩
     have n1_ : ah (w25.heap[gb103]? = some (.cells #[.string a0] 9 (0, 0))) := ⟨h1_⟩
     have n2_ : ah (w25.heap[gb104]? = some (.cells #[.string (⟨#[]⟩ : ByteArray), .slice none 0 0, .int .i64 0] 26 (0, 0))) := ⟨h2_⟩
     have n3_ : ah (w25.heap[gb110]? = some (.cells #[.string (⟨#[]⟩ : ByteArray), .slice none 0 0, .int .i64 0] 26 (0, 0))) := ⟨h3_⟩
     have n4_ : ah (w.heap.size ≤ gb110) := ⟨h4_⟩
     have n5_ : ah (w.heap.size ≤ gb110) := ⟨h5_⟩
     have n6_ : ah (gb103 ≠ gb110) := ⟨h6_⟩
     have n7_ : ah (gb110 ≠ gb103) := ⟨h7_⟩
     have n8_ : ah (gb104 ≠ gb110) := ⟨h8_⟩
     have n9_ : ah (gb110 ≠ gb104) := ⟨h9_⟩
     have n10_ : ah (Below w.heap.size w w25) := ⟨h10_⟩
     clear BK103
     clear BK104
     clear HB
     clear h0_ h1_ h2_ h3_ h4_ h5_ h6_ h7_ h8_ h9_ h10_
     have HO109 := n0_
     have BK103 := n1_
     have BK104 := n2_
     have BK110 := n3_
     have GW110 := n4_
     have GE110 := n5_
     have NB103_110 := n6_
     have NB110_103 := n7_
     have NB104_110 := n8_
     have NB110_104 := n9_
     have HB := n10_
     clear n0_ n1_ n2_ n3_ n4_ n5_ n6_ n7_ n8_ n9_ n10_
     have hHeld : w25.cell? ⟨gb103, 0, none⟩ = some (.string a0) := hS_
     obtain ⟨Ao26, co26, eo26⟩ := Kd.bY HO109.out
     ((subst eo26))
     refine jD (a' := ?_) ?_ ?_
     rotate_left
     ·simp only [qb, Act.put, List.setIfInBounds_toArray, List.set_cons_zero, List.set_cons_succ]
      rfl
     refine kE (i := 5) (N := none) (ls 6 63) rfl rfl (by kernel_rfl) (by decide) (fun K hK => ?_)
     have hs27 : w25.cell? ⟨gb110, 0, none⟩ = some (.string (⟨#[]⟩ : ByteArray)) := (aC BK110.out 0).trans rfl
     have hfs27 := aH BK110.out 0
     have hns27_0 := NB103_110.out
     have hns27_1 := NB104_110.out
     have hms27_0 := NB110_103.out
     have hms27_1 := NB110_104.out
     have hs28 : w25.cell? ⟨gb110, 1, none⟩ = some (.slice none 0 0) := (aC BK110.out 1).trans rfl
     have hfs28 := aH BK110.out 1
     have hns28_0 := NB103_110.out
     have hns28_1 := NB104_110.out
     have hms28_0 := NB110_103.out
     have hms28_1 := NB110_104.out
     have hs29 : w25.cell? ⟨gb110, 2, none⟩ = some (.int .i64 0) := (aC BK110.out 2).trans rfl
     have hfs29 := aH BK110.out 2
     have hns29_0 := NB103_110.out
     have hns29_1 := NB104_110.out
     have hms29_0 := NB110_103.out
     have hms29_1 := NB110_104.out
     refine kN (w1 := ?_) (by rfl) rfl ?_ ?_
     rotate_left
     ·go_simp
      rfl
     refine hK.out _ _ (((cell_far (p := ⟨gb110, _, none⟩) NB103_110.out _).trans (((cell_far (p := ⟨gb110, _, none⟩) NB103_110.out _).trans (((cell_far (p := ⟨gb110, _, none⟩) NB103_110.out _).trans (hHeld))))))) (fun hHeld => ?_)
     clear hK K
     refine jy (by kernel_rfl) ?_
     have hnb30 := NB110_103.out
     have hnc30 := NB103_110.out
     have hnb31 := NB110_104.out
     have hnc31 := NB104_110.out
     obtain ⟨hcz32_0, hcz32_1, hcz32_2, hfz32_0, hfz32_1, hfz32_2⟩ := z3_ BK110.out
    ·have hnb33 := NB104_103.out
     have hnc33 := NB103_104.out
     obtain ⟨hcz34_0, hcz34_1, hcz34_2, hfz34_0, hfz34_1, hfz34_2⟩ := z3_ BK104.out
     (try go_wp2)
     refine bodyPost_ret (iO rfl _ _ gb104 26 #[.string (⟨#[]⟩ : ByteArray), .slice none 0 0, .int .i64 0] (0, 0) _ rfl (by (with_reducible repeat ((refine ak ?_ _))); refine aM (cs := #[.string (⟨#[]⟩ : ByteArray), .slice none 0 0, .int .i64 0]) ?_ 2 _ rfl; (with_reducible repeat ((refine ak ?_ _))); refine aM (cs := #[.string (⟨#[]⟩ : ByteArray), .slice none 0 0, .int .i64 0]) ?_ 1 _ rfl; (with_reducible repeat ((refine ak ?_ _))); refine aM (cs := #[.string (⟨#[]⟩ : ByteArray), .slice none 0 0, .int .i64 0]) ?_ 0 _ rfl; (with_reducible repeat ((refine ak ?_ _))); refine aT ?_ NB104_110.out _; (with_reducible repeat ((refine ak ?_ _))); refine aT ?_ NB104_110.out _; (with_reducible repeat ((refine ak ?_ _))); refine aT ?_ NB104_110.out _; (with_reducible repeat ((refine ak ?_ _))); exact BK104.out) Tryz.underlying26 rfl (by kernel_rfl)) rfl ?_
     exact ⟨_, by rfl, by (exact Kd.gL _ _ _ _ _), by repeat ((with_reducible first | exact HB.out | refine bS ?_ GE104.out | refine bS ?_ GE110.out))⟩
    all_goals
     (try go_wp2)
     have n0_ : ah (Kd.R k44 44 (((w25.setCell ⟨gb110, 0, none⟩ (.string a0)).setCell ⟨gb110, 1, none⟩ (.slice Ao26 t107.length co26)).setCell ⟨gb110, 2, none⟩ (.int .i64 0)) w.heap.size (fun _ => True) (.slice Ao26 t107.length co26) t107) := ⟨by (with_reducible repeat ((apply Kd.aG))); exact Kd.bN (Kd.bV (p := ⟨gb110, 2, none⟩) (Kd.bV (p := ⟨gb110, 1, none⟩) (Kd.bV (p := ⟨gb110, 0, none⟩) (Kd.lq HO109.out BK110.out (by decide)) (fun _ hk => hk.2) (.string a0)) (fun _ hk => hk.2) (.slice Ao26 t107.length co26)) (fun _ hk => hk.2) (.int .i64 0)) (fun _ hk => trivial)⟩
     have n1_ : ah ((((w25.setCell ⟨gb110, 0, none⟩ (.string a0)).setCell ⟨gb110, 1, none⟩ (.slice Ao26 t107.length co26)).setCell ⟨gb110, 2, none⟩ (.int .i64 0)).heap[gb103]? = some (.cells #[.string a0] 9 (0, 0))) := ⟨by (with_reducible repeat ((refine ak ?_ _))); refine aT ?_ NB103_110.out _; (with_reducible repeat ((refine ak ?_ _))); refine aT ?_ NB103_110.out _; (with_reducible repeat ((refine ak ?_ _))); refine aT ?_ NB103_110.out _; (with_reducible repeat ((refine ak ?_ _))); exact BK103.out⟩
     have n2_ : ah ((((w25.setCell ⟨gb110, 0, none⟩ (.string a0)).setCell ⟨gb110, 1, none⟩ (.slice Ao26 t107.length co26)).setCell ⟨gb110, 2, none⟩ (.int .i64 0)).heap[gb104]? = some (.cells #[.string (⟨#[]⟩ : ByteArray), .slice none 0 0, .int .i64 0] 26 (0, 0))) := ⟨by (with_reducible repeat ((refine ak ?_ _))); refine aT ?_ NB104_110.out _; (with_reducible repeat ((refine ak ?_ _))); refine aT ?_ NB104_110.out _; (with_reducible repeat ((refine ak ?_ _))); refine aT ?_ NB104_110.out _; (with_reducible repeat ((refine ak ?_ _))); exact BK104.out⟩
     have n3_ : ah ((((w25.setCell ⟨gb110, 0, none⟩ (.string a0)).setCell ⟨gb110, 1, none⟩ (.slice Ao26 t107.length co26)).setCell ⟨gb110, 2, none⟩ (.int .i64 0)).heap[gb110]? = some (.cells #[.string a0, .slice Ao26 t107.length co26, .int .i64 0] 26 (0, 0))) := ⟨by (with_reducible repeat ((refine ak ?_ _))); refine aM (cs := #[.string a0, .slice Ao26 t107.length co26, .int .i64 0]) ?_ 2 _ rfl; (with_reducible repeat ((refine ak ?_ _))); refine aM (cs := #[.string a0, .slice none 0 0, .int .i64 0]) ?_ 1 _ rfl; (with_reducible repeat ((refine ak ?_ _))); refine aM (cs := #[.string (⟨#[]⟩ : ByteArray), .slice none 0 0, .int .i64 0]) ?_ 0 _ rfl; (with_reducible repeat ((refine ak ?_ _))); exact BK110.out⟩
     have n4_ : ah (Below w.heap.size w (((w25.setCell ⟨gb110, 0, none⟩ (.string a0)).setCell ⟨gb110, 1, none⟩ (.slice Ao26 t107.length co26)).setCell ⟨gb110, 2, none⟩ (.int .i64 0))) := ⟨by repeat ((with_reducible first | exact HB.out | refine bS ?_ GE110.out))⟩
     (try clear HO109)
     (try clear BK103)
     (try clear BK104)
     (try clear BK110)
     (try clear HB)
     generalize (((w25.setCell ⟨gb110, 0, none⟩ (.string a0)).setCell ⟨gb110, 1, none⟩ (.slice Ao26 t107.length co26)).setCell ⟨gb110, 2, none⟩ (.int .i64 0)) = w51 at n0_ n1_ n2_ n3_ n4_ ⊢
     have HO109 := n0_
     have BK103 := n1_
     have BK104 := n2_
     have BK110 := n3_
     have HB := n4_
     clear n0_ n1_ n2_ n3_ n4_
     replace HO109 := ah.mk (Kd.iq HO109.out)
     replace BK103 := ah.mk (eX BK103.out)
     replace BK104 := ah.mk (eX BK104.out)
     replace BK110 := ah.mk (eX BK110.out)
     replace HB := ah.mk (dO HB.out)
     refine fM (n := 8) (ds := []) (ls 8 0) (by kernel_rfl) rfl rfl (c3_ BK110.out (d1_ BK103.out)) (fun hHeld => ?_); refine dW bM.Ec bM.AA (fun HT_ HW_ => ?_)
     generalize w51.drew = w52 at HO109 BK103 BK104 BK110 HB hHeld ⊢
     refine td_ [(0, 26)] ?_
     refine pm_ HT_ ?_
     refine dn_ ?_
     refine td_ [(1, 27), (3, 29), (4, 30)] ?_
     iterate 3 (refine tm_ HT_ HW_ hHeld ?_)
     refine dn_ ?_
     refine lI HT_ (i := 2) (N := some 28) (ls 8 31) (fun K hK => ?_)
     refine gs_ Tryz.func41 #[.slice Ao26 t107.length co26, .int .i64 6] ?_
     with_reducible refine (iA.calls _ _ t107 6 t111 _ ?side1 ?side2 A35.out).mono ?_
     (case side1 => exact (Kd.aK HO109.out).2.2)
     (case side2 => exact (Kd.aK HO109.out).2.1)
     rintro e w53 ⟨v112, rfl, ho0, hb⟩
     refine ⟨_, rfl, ?_⟩
     have HO113 := ah.mk (Kd.bX (Kd.eH ho0 (Kd.gW (by ((exact HO109.out))))) (aA HB.out))
     replace HO109 := ah.mk (Kd.dI (by ((exact HO109.out))) (Kd.eB ho0) hb)
     replace BK103 := ah.mk (ay (by ((exact BK103.out))) hb)
     replace BK104 := ah.mk (ay (by ((exact BK104.out))) hb)
     replace BK110 := ah.mk (ay (by ((exact BK110.out))) hb)
     replace HB := ah.mk (au HB.out hb)
     (try clear hb)
     (try clear ho0)
     refine hK.out _ _ (c3_ BK110.out (d1_ BK103.out)) (fun hHeld => ?_)
     clear hK K
     refine nm_ (N := (some 28)) ?_
     refine lI HT_ (i := 5) (N := some 31) (ls 8 63) (fun K hK => ?_)
     refine gs_ Tryz.func14 #[.agg #[.string a0, .slice Ao26 t107.length co26, .int .i64 0], .string a0, .int .i64 2] ?_
     with_reducible refine (dZ.calls a0 _ _ t107 0 a0 2 t114 _ ?side1 ?side2 A36.out).mono ?_
     (case side1 => exact (Kd.aK HO109.out).2.2)
     (case side2 => exact (Kd.aK HO109.out).2.1)
     rintro e w54 ⟨v115, rfl, ho0, hb⟩
     refine ⟨_, rfl, ?_⟩
     have HO116 := ah.mk (Kd.bX (Kd.eH (Kd.eH ho0 (Kd.gW (by ((exact HO109.out))))) (Kd.gW (by ((exact HO113.out))))) (aA HB.out))
     replace HO109 := ah.mk (Kd.dI (by ((exact HO109.out))) (Kd.eB ho0) hb)
     replace HO113 := ah.mk (Kd.dI (by ((exact HO113.out))) (Kd.eB ho0) hb)
     replace BK103 := ah.mk (ay (by ((exact BK103.out))) hb)
     replace BK104 := ah.mk (ay (by ((exact BK104.out))) hb)
     replace BK110 := ah.mk (ay (by ((exact BK110.out))) hb)
     replace HB := ah.mk (au HB.out hb)
     (try clear hb)
     (try clear ho0)
     refine hK.out _ _ (c3_ BK110.out (d1_ BK103.out)) (fun hHeld => ?_)
     clear hK K
     refine nm_ (N := (some 31)) ?_
     refine td_ [(6, 7), (7, 8)] ?_
     iterate 2 (refine pm_ HT_ ?_)
     refine dn_ ?_
     refine jy (iK HT_.out (by kernel_rfl)) ?_
     obtain ⟨hcz55_0, hcz55_1, hcz55_2, hfz55_0, hfz55_1, hfz55_2⟩ := z3_ BK110.out
     have hnb56 := NB103_104.out
     have hnc56 := NB104_103.out
     obtain ⟨hcz57_0, hfz57_0⟩ := z1_ BK103.out
    ·(try go_wp2_with (((go_at_call 37; (with_reducible refine (lu.calls kj2 _ _ t107 a0 true _ ?side1 ?side2 A37.out gb103 ?side3).mono ?_); (case side1 => exact (Kd.aK HO109.out).2.2); (case side2 => exact (Kd.aK HO109.out).2.1); (case side3 => (exact (aC BK103.out 0).trans rfl)); rintro e w58 ⟨rfl, hb⟩; replace HO109 := ah.mk (Kd.aY (by ((exact HO109.out))) hb); replace HO113 := ah.mk (Kd.aY (by ((exact HO113.out))) hb); replace HO116 := ah.mk (Kd.aY (by ((exact HO116.out))) hb); replace BK103 := ah.mk (ay (by ((exact BK103.out))) hb); replace BK104 := ah.mk (ay (by ((exact BK104.out))) hb); replace BK110 := ah.mk (ay (by ((exact BK110.out))) hb); replace HB := ah.mk (au HB.out hb); (try clear hb); obtain ⟨hcz59_0, hcz59_1, hcz59_2, hfz59_0, hfz59_1, hfz59_2⟩ := z3_ BK104.out))))
     refine bodyPost_ret (iO rfl _ _ gb104 26 #[.string (⟨#[]⟩ : ByteArray), .slice none 0 0, .int .i64 0] (0, 0) _ rfl (by (with_reducible repeat ((refine ak ?_ _))); refine aM (cs := #[.string (⟨#[]⟩ : ByteArray), .slice none 0 0, .int .i64 0]) ?_ 2 _ rfl; (with_reducible repeat ((refine ak ?_ _))); refine aM (cs := #[.string (⟨#[]⟩ : ByteArray), .slice none 0 0, .int .i64 0]) ?_ 1 _ rfl; (with_reducible repeat ((refine ak ?_ _))); refine aM (cs := #[.string (⟨#[]⟩ : ByteArray), .slice none 0 0, .int .i64 0]) ?_ 0 _ rfl; (with_reducible repeat ((refine ak ?_ _))); exact BK104.out) Tryz.underlying26 rfl (by kernel_rfl)) rfl ?_
     exact ⟨_, by rfl, by (exact Kd.gL _ _ _ _ _), by repeat ((with_reducible first | exact HB.out | refine bS ?_ GE104.out))⟩
    all_goals
     (try go_wp2_with (((go_at_call 37; (with_reducible refine (lu.calls kj2 _ _ t107 a0 false _ ?side1 ?side2 A37.out gb103 ?side3).mono ?_); (case side1 => exact (Kd.aK HO109.out).2.2); (case side2 => exact (Kd.aK HO109.out).2.1); (case side3 => (exact (aC BK103.out 0).trans rfl)); rintro e w84 ⟨rfl, hb⟩; replace HO109 := ah.mk (Kd.aY (by ((exact HO109.out))) hb); replace HO113 := ah.mk (Kd.aY (by ((exact HO113.out))) hb); replace HO116 := ah.mk (Kd.aY (by ((exact HO116.out))) hb); replace BK103 := ah.mk (ay (by ((exact BK103.out))) hb); replace BK104 := ah.mk (ay (by ((exact BK104.out))) hb); replace BK110 := ah.mk (ay (by ((exact BK110.out))) hb); replace HB := ah.mk (au HB.out hb); (try clear hb)))))
     replace HO109 := ah.mk (Kd.iq HO109.out)
     replace HO113 := ah.mk (Kd.iq HO113.out)
     replace HO116 := ah.mk (Kd.iq HO116.out)
     replace BK103 := ah.mk (eX BK103.out)
     replace BK104 := ah.mk (eX BK104.out)
     replace BK110 := ah.mk (eX BK110.out)
     replace HB := ah.mk (dO HB.out)
     obtain ⟨Ao86, co86, eo86⟩ := Kd.bY HO113.out
     ((subst eo86))
    iterate 4
     focus
      have p118 : 0 ≤ (0 : Int) := (by omega)
      have q118 : 0 < (t111.length : Int) := of_decide_eq_true (by assumption)
      obtain ⟨ad118, e118, hx118_0, hx118_1, hx118_2, hx118_3, hx118_4⟩ := dU (Kd.aK HO113.out).2.2 0 p118 q118
      cases e118
      have qi118 : (0 < t111.length) = True := eq_true (by omega)
      (try rw [show ((0 : Int)).toNat = 0 from rfl] at hx118_0)
      (try rw [show 0 * 5 = 0 from rfl] at hx118_0)
      (try rw [Addr.add_zero'] at hx118_0)
      (try rw [show ((0 : Int)).toNat = 0 from rfl] at hx118_1)
      (try rw [show 0 * 5 = 0 from rfl] at hx118_1)
      (try rw [Addr.add_zero'] at hx118_1)
      (try rw [show ((0 : Int)).toNat = 0 from rfl] at hx118_2)
      (try rw [show 0 * 5 = 0 from rfl] at hx118_2)
      (try rw [Addr.add_zero'] at hx118_2)
      (try rw [show ((0 : Int)).toNat = 0 from rfl] at hx118_3)
      (try rw [show 0 * 5 = 0 from rfl] at hx118_3)
      (try rw [Addr.add_zero'] at hx118_3)
      (try rw [show ((0 : Int)).toNat = 0 from rfl] at hx118_4)
      (try rw [show 0 * 5 = 0 from rfl] at hx118_4)
      (try rw [Addr.add_zero'] at hx118_4)
      replace p118 := eq_true p118
      replace q118 := eq_true q118
     rotate_left
    rotate_left
    focus
     refine fM (n := 24) (ds := []) (ls 24 0) (by kernel_rfl) rfl rfl (c1_ BK103.out (ec_ hx118_0 (ec_ hx118_1 (ec_ hx118_2 (ec_ hx118_3 (ed_ hx118_4)))))) (fun hHeld => ?_); refine dW bM.yw bM.uL (fun HT_ HW_ => ?_)
    rotate_left
    iterate 2
     focus
      refine fM (n := 24) (ds := []) (ls 24 0) (by kernel_rfl) rfl rfl (c1_ BK103.out (c3_ BK110.out (ec_ hx118_0 (ec_ hx118_1 (ec_ hx118_2 (ec_ hx118_3 (ed_ hx118_4))))))) (fun hHeld => ?_); refine dW bM.yw bM.uL (fun HT_ HW_ => ?_)
     rotate_left
    focus
     refine fM (n := 24) (ds := []) (ls 24 0) (by kernel_rfl) rfl rfl (c1_ BK103.out (ec_ hx118_0 (ec_ hx118_1 (ec_ hx118_2 (ec_ hx118_3 (ed_ hx118_4)))))) (fun hHeld => ?_); refine dW bM.yw bM.uL (fun HT_ HW_ => ?_)
    rotate_left
    rotate_left
    iterate 4
     focus
      generalize w84.drew = w85 at HO109 HO113 HO116 BK103 BK104 BK110 HB hx118_0 hx118_1 hx118_2 hx118_3 hx118_4 hHeld ⊢
      refine td_ [(0, 39), (1, 40), (2, 41), (3, 42), (4, 43), (5, 44), (6, 45)] ?_
      iterate 7 (refine pm_ HT_ ?_)
      refine dn_ ?_
      refine td_ [(7, 46), (8, 47)] ?_
     rotate_left
    rotate_left
    focus
     iterate 2 (refine tm_ HT_ HW_ hHeld ?_)
    rotate_left
    iterate 2
     focus
      iterate 2 (refine tm_ HT_ HW_ hHeld ?_)
     rotate_left
    focus
     iterate 2 (refine tm_ HT_ HW_ hHeld ?_)
    rotate_left
    rotate_left
    iterate 4
     focus
      refine dn_ ?_
      refine lI HT_ (i := 9) (N := some 48) (ls 24 1023) (fun K hK => ?_)
      refine gs_ Tryz.func44 #[.string ((aj t111 0).f0), .string a0] ?_
      with_reducible refine (bW.calls ((aj t111 0).f0) a0 _ _ A62.out).mono ?_
      rintro e w87 ⟨rfl, hb⟩
     rotate_left
    rotate_left
    focus
     have HS1_ := kp_ hb hHeld.2.1
     have HS2_ := kp_ hb hHeld.2.2.1
     have HS3_ := kp_ hb hHeld.2.2.2.1
     have HS4_ := kp_ hb hHeld.2.2.2.2.1
     have HS5_ := kp_ hb hHeld.2.2.2.2.2
    rotate_left
    iterate 2
     focus
      have HS4_ := kp_ hb hHeld.2.2.2.2.1
      have HS5_ := kp_ hb hHeld.2.2.2.2.2.1
      have HS6_ := kp_ hb hHeld.2.2.2.2.2.2.1
      have HS7_ := kp_ hb hHeld.2.2.2.2.2.2.2.1
      have HS8_ := kp_ hb hHeld.2.2.2.2.2.2.2.2
     rotate_left
    focus
     have HS1_ := kp_ hb hHeld.2.1
     have HS2_ := kp_ hb hHeld.2.2.1
     have HS3_ := kp_ hb hHeld.2.2.2.1
     have HS4_ := kp_ hb hHeld.2.2.2.2.1
     have HS5_ := kp_ hb hHeld.2.2.2.2.2
    rotate_left
    rotate_left
    iterate 4
     focus
      refine ⟨_, rfl, ?_⟩
      replace HO109 := ah.mk (Kd.aY (by ((exact HO109.out))) hb)
      replace HO113 := ah.mk (Kd.aY (by ((exact HO113.out))) hb)
      replace HO116 := ah.mk (Kd.aY (by ((exact HO116.out))) hb)
      replace BK103 := ah.mk (ay (by ((exact BK103.out))) hb)
      replace BK104 := ah.mk (ay (by ((exact BK104.out))) hb)
      replace BK110 := ah.mk (ay (by ((exact BK110.out))) hb)
      replace HB := ah.mk (au HB.out hb)
      (try clear hb)
     rotate_left
    rotate_left
    iterate 3
     focus
      obtain ⟨Ao88, co88, eo88⟩ := Kd.bY HO116.out
      ((subst eo88))
     rotate_left
    rotate_left 2
    focus
     refine hK.out _ _ (c1_ BK103.out (ec_ HS1_ (ec_ HS2_ (ec_ HS3_ (ec_ HS4_ (ed_ HS5_)))))) (fun hHeld => ?_)
    rotate_left
    iterate 2
     focus
      refine hK.out _ _ (c1_ BK103.out (c3_ BK110.out (ec_ HS4_ (ec_ HS5_ (ec_ HS6_ (ec_ HS7_ (ed_ HS8_))))))) (fun hHeld => ?_)
     rotate_left
    focus
     refine hK.out _ _ (c1_ BK103.out (ec_ HS1_ (ec_ HS2_ (ec_ HS3_ (ec_ HS4_ (ed_ HS5_)))))) (fun hHeld => ?_)
    rotate_left
    rotate_left
    iterate 4
     focus
      clear hK K
      refine nm_ (N := (some 48)) ?_
     rotate_left
    rotate_left
    focus
     refine td_ [(10, 49), (11, 50), (12, 51), (13, 52), (14, 53), (15, 54), (16, 55), (17, 56)] ?_
     iterate 8 (refine pm_ HT_ ?_)
     refine dn_ ?_
     refine td_ [(18, 57), (19, 58), (20, 59), (21, 60)] ?_
     iterate 4 (refine om_ HT_ ?_)
     refine dn_ ?_
     refine td_ [(22, 61), (23, 38)] ?_
     iterate 2 (refine pm_ HT_ ?_)
    rotate_left
    iterate 2
     focus
      refine td_ [(10, 49), (11, 50), (12, 51), (13, 52), (14, 53), (15, 54), (16, 55), (17, 56), (18, 57)] ?_
      iterate 9 (refine pm_ HT_ ?_)
      refine dn_ ?_
      refine td_ [(19, 58)] ?_
      refine tm_ HT_ HW_ hHeld ?_
      refine dn_ ?_
      refine lI HT_ (i := 20) (N := some 59) (ls 24 2097151) (fun K hK => ?_)
      refine gs_ Tryz.func45 #[.slice Ao26 t107.length co26] ?_
      with_reducible refine (bK.calls kj2 _ _ t107 _ _ ?side1 ?side2 A90.out).mono ?_
      (case side1 => exact (Kd.aK HO109.out).2.2)
      (case side2 => exact (Kd.aK HO109.out).2.1)
      rintro e w117 ⟨rfl, hb⟩
      have HS4_ := kp_ hb hHeld.2.2.2.2.1
      have HS5_ := kp_ hb hHeld.2.2.2.2.2.1
      have HS6_ := kp_ hb hHeld.2.2.2.2.2.2.1
      have HS7_ := kp_ hb hHeld.2.2.2.2.2.2.2.1
      have HS8_ := kp_ hb hHeld.2.2.2.2.2.2.2.2
      refine ⟨_, rfl, ?_⟩
      replace HO109 := ah.mk (Kd.aY (by ((exact HO109.out))) hb)
      replace HO113 := ah.mk (Kd.aY (by ((exact HO113.out))) hb)
      replace HO116 := ah.mk (Kd.aY (by ((exact HO116.out))) hb)
      replace BK103 := ah.mk (ay (by ((exact BK103.out))) hb)
      replace BK104 := ah.mk (ay (by ((exact BK104.out))) hb)
      replace BK110 := ah.mk (ay (by ((exact BK110.out))) hb)
      replace HB := ah.mk (au HB.out hb)
      (try clear hb)
      refine hK.out _ _ (c1_ BK103.out (c3_ BK110.out (ec_ HS4_ (ec_ HS5_ (ec_ HS6_ (ec_ HS7_ (ed_ HS8_))))))) (fun hHeld => ?_)
      clear hK K
      refine nm_ (N := (some 59)) ?_
      refine td_ [(21, 60), (22, 61), (23, 38)] ?_
      iterate 3 (refine pm_ HT_ ?_)
     rotate_left
    focus
     refine td_ [(10, 49), (11, 50), (12, 51)] ?_
     iterate 3 (refine pm_ HT_ ?_)
     refine dn_ ?_
     refine td_ [(13, 52), (14, 53), (15, 54)] ?_
     iterate 3 (refine om_ HT_ ?_)
     refine dn_ ?_
     refine td_ [(16, 55), (17, 56)] ?_
     iterate 2 (refine pm_ HT_ ?_)
     refine dn_ ?_
     refine td_ [(18, 57), (19, 58), (20, 59), (21, 60)] ?_
     iterate 4 (refine om_ HT_ ?_)
     refine dn_ ?_
     refine td_ [(22, 61), (23, 38)] ?_
     iterate 2 (refine pm_ HT_ ?_)
    rotate_left
    focus
     refine fM (n := 24) (S := fun w' => True) (ds := []) (ls 24 0) (by kernel_rfl) rfl rfl trivial (fun hHeld => ?_); refine dW bM.yw bM.uL (fun HT_ HW_ => ?_)
     generalize w84.drew = w193 at HO109 HO113 HO116 BK103 BK104 BK110 HB hHeld ⊢
     refine td_ [(0, 39), (1, 40), (2, 41), (3, 42)] ?_
     iterate 4 (refine pm_ HT_ ?_)
     refine dn_ ?_
     refine td_ [(4, 43), (5, 44), (6, 45), (7, 46), (8, 47), (9, 48), (10, 49)] ?_
     iterate 7 (refine om_ HT_ ?_)
     refine dn_ ?_
     refine td_ [(11, 50), (12, 51)] ?_
     iterate 2 (refine pm_ HT_ ?_)
     refine dn_ ?_
     refine td_ [(13, 52), (14, 53), (15, 54)] ?_
     iterate 3 (refine om_ HT_ ?_)
     refine dn_ ?_
     refine td_ [(16, 55), (17, 56)] ?_
     iterate 2 (refine pm_ HT_ ?_)
     refine dn_ ?_
     refine td_ [(18, 57), (19, 58), (20, 59), (21, 60)] ?_
     iterate 4 (refine om_ HT_ ?_)
     refine dn_ ?_
     refine td_ [(22, 61), (23, 38)] ?_
     iterate 2 (refine pm_ HT_ ?_)
    rotate_left
    all_goals
     refine dn_ ?_
     refine jy (iK HT_.out (by kernel_rfl)) ?_
    focus
     obtain ⟨hcz89_0, hcz89_1, hcz89_2⟩ := d3_ BK104.out
    rotate_left
    focus
     (try go_wp2)
     replace HO109 := ah.mk (Kd.iq HO109.out)
     replace HO113 := ah.mk (Kd.iq HO113.out)
     replace HO116 := ah.mk (Kd.iq HO116.out)
     replace BK103 := ah.mk (eX BK103.out)
     replace BK104 := ah.mk (eX BK104.out)
     replace BK110 := ah.mk (eX BK110.out)
     replace HB := ah.mk (dO HB.out)
     have p121 : 0 ≤ (0 : Int) := (by omega)
     have q121 : 0 < (t111.length : Int) := of_decide_eq_true (by assumption)
     obtain ⟨ad121, e121, hx121_0, hx121_1, hx121_2, hx121_3, hx121_4⟩ := dU (Kd.aK HO113.out).2.2 0 p121 q121
     obtain rfl : ad118 = ad121 := (by injection e121)
     have qi121 : (0 < t111.length) = True := eq_true (by omega)
     (try rw [show ((0 : Int)).toNat = 0 from rfl] at hx121_0)
     (try rw [show 0 * 5 = 0 from rfl] at hx121_0)
     (try rw [Addr.add_zero'] at hx121_0)
     (try rw [show ((0 : Int)).toNat = 0 from rfl] at hx121_1)
     (try rw [show 0 * 5 = 0 from rfl] at hx121_1)
     (try rw [Addr.add_zero'] at hx121_1)
     (try rw [show ((0 : Int)).toNat = 0 from rfl] at hx121_2)
     (try rw [show 0 * 5 = 0 from rfl] at hx121_2)
     (try rw [Addr.add_zero'] at hx121_2)
     (try rw [show ((0 : Int)).toNat = 0 from rfl] at hx121_3)
     (try rw [show 0 * 5 = 0 from rfl] at hx121_3)
     (try rw [Addr.add_zero'] at hx121_3)
     (try rw [show ((0 : Int)).toNat = 0 from rfl] at hx121_4)
     (try rw [show 0 * 5 = 0 from rfl] at hx121_4)
     (try rw [Addr.add_zero'] at hx121_4)
     replace p121 := eq_true p121
     replace q121 := eq_true q121
     refine fM (n := 8) (ds := [7]) (ls 8 0) (by kernel_rfl) rfl rfl (c3_ BK110.out (ec_ hx121_0 (ec_ hx121_1 (ec_ hx121_2 (ec_ hx121_3 (ed_ hx121_4)))))) (fun hHeld => ?_); refine dW bM.Bv bM.zf (fun HT_ HW_ => ?_)
     generalize w117.drew = w118 at HO109 HO113 HO116 BK103 BK104 BK110 HB hx121_0 hx121_1 hx121_2 hx121_3 hx121_4 hHeld ⊢
     refine td_ [(0, 63), (2, 65), (3, 66)] ?_
     iterate 3 (refine pm_ HT_ ?_)
     refine dn_ ?_
     refine td_ [(1, 64), (4, 67)] ?_
     iterate 2 (refine tm_ HT_ HW_ hHeld ?_)
     refine dn_ ?_
     refine lI HT_ (i := 5) (N := some 68) (ls 8 63) (fun K hK => ?_)
     refine gs_ Tryz.func46 #[.slice Ao26 t107.length co26, .agg #[.string ((aj t111 0).f0), .int .i64 ((aj t111 0).f1), .int .i64 ((aj t111 0).f2), .int .i64 ((aj t111 0).f3), .string ((aj t111 0).f4)]] ?_
     with_reducible refine (fK.calls kj2 _ _ t107 ((aj t111 0).f0) ((aj t111 0).f1) ((aj t111 0).f2) ((aj t111 0).f3) ((aj t111 0).f4) t122 _ ?side1 ?side2 A92.out).mono ?_
     (case side1 => exact (Kd.aK HO109.out).2.2)
     (case side2 => exact (Kd.aK HO109.out).2.1)
     rintro e w119 ⟨rfl, hb⟩
     have HS3_ := kp_ hb hHeld.2.2.2.1
     have HS4_ := kp_ hb hHeld.2.2.2.2.1
     have HS5_ := kp_ hb hHeld.2.2.2.2.2.1
     have HS6_ := kp_ hb hHeld.2.2.2.2.2.2.1
     have HS7_ := kp_ hb hHeld.2.2.2.2.2.2.2
     refine ⟨_, rfl, ?_⟩
     replace HO109 := ah.mk (Kd.aY (by ((exact HO109.out))) hb)
     replace HO113 := ah.mk (Kd.aY (by ((exact HO113.out))) hb)
     replace HO116 := ah.mk (Kd.aY (by ((exact HO116.out))) hb)
     replace BK103 := ah.mk (ay (by ((exact BK103.out))) hb)
     replace BK104 := ah.mk (ay (by ((exact BK104.out))) hb)
     replace BK110 := ah.mk (ay (by ((exact BK110.out))) hb)
     replace HB := ah.mk (au HB.out hb)
     (try clear hb)
     refine hK.out _ _ (c3_ BK110.out (ec_ HS3_ (ec_ HS4_ (ec_ HS5_ (ec_ HS6_ (ed_ HS7_)))))) (fun hHeld => ?_)
     clear hK K
     refine nm_ (N := (some 68)) ?_
     refine td_ [(6, 69)] ?_
     refine pm_ HT_ ?_
     refine dn_ ?_
     refine lF (i := 7) (N := none) (ls 8 255) rfl rfl (gD HT_.out (by kernel_rfl)) (by decide) (fun K hK => ?_)
     have hs120 : w119.cell? ⟨gb110, 2, none⟩ = some (.int .i64 0) := (aC BK110.out 2).trans rfl
     have hfs120 := aH BK110.out 2
     have hns120_0 := NB103_110.out
     have hns120_1 := NB104_110.out
     have hms120_0 := NB110_103.out
     have hms120_1 := NB110_104.out
     refine kN (w1 := ?_) (by rfl) rfl ?_ ?_
     rotate_left
     ·go_simp
      rfl
     refine hK.out _ _ ?_
     clear hK K
     refine jy (iK HT_.out (by kernel_rfl)) ?_
     obtain ⟨hcz121_0, hcz121_1, hcz121_2, hfz121_0, hfz121_1, hfz121_2⟩ := z3_ BK110.out
     obtain ⟨hcz122_0, hcz122_1, hcz122_2⟩ := d3_ BK104.out
    rotate_left
    focus
     obtain ⟨hcz148_0, hcz148_1, hcz148_2⟩ := d3_ BK104.out
    rotate_left
    focus
     obtain ⟨hcz172_0, hcz172_1, hcz172_2⟩ := d3_ BK104.out
    rotate_left
    focus
     obtain ⟨hcz195_0, hcz195_1, hcz195_2⟩ := d3_ BK104.out
    rotate_left
    all_goals
     have hfz89_0 := aH BK104.out 0
     have hfz89_1 := aH BK104.out 1
     have hfz89_2 := aH BK104.out 2
     (try go_wp2)
    ·refine bodyPost_ret (iO rfl _ _ gb104 26 #[.string (⟨#[]⟩ : ByteArray), .slice none 0 0, .int .i64 0] (0, 0) _ rfl (by (with_reducible repeat ((refine ak ?_ _))); refine aM (cs := #[.string (⟨#[]⟩ : ByteArray), .slice none 0 0, .int .i64 0]) ?_ 2 _ rfl; (with_reducible repeat ((refine ak ?_ _))); refine aM (cs := #[.string (⟨#[]⟩ : ByteArray), .slice none 0 0, .int .i64 0]) ?_ 1 _ rfl; (with_reducible repeat ((refine ak ?_ _))); refine aM (cs := #[.string (⟨#[]⟩ : ByteArray), .slice none 0 0, .int .i64 0]) ?_ 0 _ rfl; (with_reducible repeat ((refine ak ?_ _))); exact BK104.out) Tryz.underlying26 rfl (by kernel_rfl)) rfl ?_
     exact ⟨_, by rfl, by (exact Kd.gL _ _ _ _ _), by repeat ((with_reducible first | exact HB.out | refine bS ?_ GE104.out))⟩
    ·refine bodyPost_ret (iO rfl _ _ gb104 26 #[.string a0, .slice Ao26 t107.length co26, .int .i64 t122] (0, 0) _ rfl (by (with_reducible repeat ((refine ak ?_ _))); refine aM (cs := #[.string a0, .slice Ao26 t107.length co26, .int .i64 0]) ?_ 2 _ rfl; (with_reducible repeat ((refine ak ?_ _))); refine aM (cs := #[.string a0, .slice none 0 0, .int .i64 0]) ?_ 1 _ rfl; (with_reducible repeat ((refine ak ?_ _))); refine aM (cs := #[.string (⟨#[]⟩ : ByteArray), .slice none 0 0, .int .i64 0]) ?_ 0 _ rfl; (with_reducible repeat ((refine ak ?_ _))); refine aT ?_ NB104_110.out _; (with_reducible repeat ((refine ak ?_ _))); exact BK104.out) Tryz.underlying26 rfl (by kernel_rfl)) rfl ?_
     exact ⟨_, by rfl, by (with_reducible repeat ((apply Kd.aG))); exact Kd.bN (Kd.bV (p := ⟨gb104, 2, none⟩) (Kd.bV (p := ⟨gb104, 1, none⟩) (Kd.bV (p := ⟨gb104, 0, none⟩) (Kd.bV (p := ⟨gb110, 2, none⟩) (Kd.lq (Kd.lq HO109.out BK110.out (by decide)) BK104.out (by decide)) (fun _ hk => hk.1.2) (.int .i64 t122)) (fun _ hk => hk.2) (.string a0)) (fun _ hk => hk.2) (.slice Ao26 t107.length co26)) (fun _ hk => hk.2) (.int .i64 t122)) (fun _ hk => trivial), by repeat ((with_reducible first | exact HB.out | refine bS ?_ GE104.out | refine bS ?_ GE110.out))⟩
    ·refine bodyPost_ret (iO rfl _ _ gb104 26 #[.string (⟨#[]⟩ : ByteArray), .slice none 0 0, .int .i64 0] (0, 0) _ rfl (by (with_reducible repeat ((refine ak ?_ _))); refine aM (cs := #[.string (⟨#[]⟩ : ByteArray), .slice none 0 0, .int .i64 0]) ?_ 2 _ rfl; (with_reducible repeat ((refine ak ?_ _))); refine aM (cs := #[.string (⟨#[]⟩ : ByteArray), .slice none 0 0, .int .i64 0]) ?_ 1 _ rfl; (with_reducible repeat ((refine ak ?_ _))); refine aM (cs := #[.string (⟨#[]⟩ : ByteArray), .slice none 0 0, .int .i64 0]) ?_ 0 _ rfl; (with_reducible repeat ((refine ak ?_ _))); exact BK104.out) Tryz.underlying26 rfl (by kernel_rfl)) rfl ?_
     exact ⟨_, by rfl, by (exact Kd.gL _ _ _ _ _), by repeat ((with_reducible first | exact HB.out | refine bS ?_ GE104.out))⟩
    ·refine bodyPost_ret (iO rfl _ _ gb104 26 #[.string (⟨#[]⟩ : ByteArray), .slice none 0 0, .int .i64 0] (0, 0) _ rfl (by (with_reducible repeat ((refine ak ?_ _))); refine aM (cs := #[.string (⟨#[]⟩ : ByteArray), .slice none 0 0, .int .i64 0]) ?_ 2 _ rfl; (with_reducible repeat ((refine ak ?_ _))); refine aM (cs := #[.string (⟨#[]⟩ : ByteArray), .slice none 0 0, .int .i64 0]) ?_ 1 _ rfl; (with_reducible repeat ((refine ak ?_ _))); refine aM (cs := #[.string (⟨#[]⟩ : ByteArray), .slice none 0 0, .int .i64 0]) ?_ 0 _ rfl; (with_reducible repeat ((refine ak ?_ _))); exact BK104.out) Tryz.underlying26 rfl (by kernel_rfl)) rfl ?_
     exact ⟨_, by rfl, by (exact Kd.gL _ _ _ _ _), by repeat ((with_reducible first | exact HB.out | refine bS ?_ GE104.out))⟩
    ·refine bodyPost_ret (iO rfl _ _ gb104 26 #[.string (⟨#[]⟩ : ByteArray), .slice none 0 0, .int .i64 0] (0, 0) _ rfl (by (with_reducible repeat ((refine ak ?_ _))); refine aM (cs := #[.string (⟨#[]⟩ : ByteArray), .slice none 0 0, .int .i64 0]) ?_ 2 _ rfl; (with_reducible repeat ((refine ak ?_ _))); refine aM (cs := #[.string (⟨#[]⟩ : ByteArray), .slice none 0 0, .int .i64 0]) ?_ 1 _ rfl; (with_reducible repeat ((refine ak ?_ _))); refine aM (cs := #[.string (⟨#[]⟩ : ByteArray), .slice none 0 0, .int .i64 0]) ?_ 0 _ rfl; (with_reducible repeat ((refine ak ?_ _))); exact BK104.out) Tryz.underlying26 rfl (by kernel_rfl)) rfl ?_
     exact ⟨_, by rfl, by (exact Kd.gL _ _ _ _ _), by repeat ((with_reducible first | exact HB.out | refine bS ?_ GE104.out))⟩
end Go.Y.PZf
namespace Go.Y.PZe
open Go.RowKit Go.V.aD Go.V.aN Go.V.aR Go.Y.Given Go.Y.PRd Go.Y.PRr Go.Y.PZo
attribute [local go_sem] dn dh dJ dK bU bT cZ dw   -- for this text's walks alone
def ko : Option Int → Value
 | none => .nilIface
 | some c => .iface 0 (.int .i64 c)
theorem kY : ko none = .nilIface := rfl
theorem kT (c : Int) : ko (some c) = .iface 0 (.int .i64 c) := rfl
end Go.Y.PZe
namespace Go.Y.PZh
open Go.RowKit Go.V.aD Go.V.aN Go.V.aR Go.Y.Given Go.Y.PRd Go.Y.PRr Go.Y.PZo Go.Y.PZf Go.Y.PZe
attribute [local go_sem] dn dh dJ dK bU bT cZ dw   -- for this text's walks alone
def ko : Option Int → Value
 | none => .nilIface
 | some c => .iface 0 (.int .i64 c)
theorem kY : ko none = .nilIface := rfl
theorem kT (c : Int) : ko (some c) = .iface 0 (.int .i64 c) := rfl
end Go.Y.PZh
namespace Go.Y.PZh
open Go.RowKit Go.V.aD Go.V.aN Go.V.aR Go.Y.Given Go.Y.PRd Go.Y.PRr Go.Y.PZo Go.Y.PZf Go.Y.PZe
attribute [local go_sem] dn dh dJ dK bU bT cZ dw   -- for this text's walks alone
noncomputable def jE.f (a0_0 : ByteArray) (l0_1 : List (S44)) (a0_2 : Int) : Option (ByteArray) := some a0_0
theorem jE.calls (a0_0 : ByteArray) (A0_1 : Option Addr) (c0_1 : Nat) (l0_1 : List (S44)) (a0_2 : Int) (r : ByteArray) (w : World) (hr0_1 : Kd.C k44 w A0_1 l0_1.length l0_1) (hc0_1 : l0_1.length ≤ c0_1) (h : jE.f a0_0 l0_1 a0_2 = some r) :
  Calls Tryz.prog 28 #[.agg #[.string a0_0, .slice A0_1 l0_1.length c0_1, .int .i64 a0_2]] w fun e w' => e = .returned (.string r) ∧ Below w.heap.size w w' := by
 have hu26 := Tryz.underlying26
 have HR0_1 := ah.mk hr0_1
 have HC0_1 := ah.mk hc0_1
 clear hr0_1 hc0_1
 have HB := ah.mk (Below.refl w.heap.size w)
 have H : (some a0_0) = some r := h
 clear h
 obtain rfl := Option.some.inj H
 go_enter Tryz.func28, Tryz.ntmps28
 go_wp2_with ((((with_reducible refine bB (N := 1) rfl ?_); refine bG ?hg (N := 1) ?hd (cs := #[.string a0_0, .slice A0_1 l0_1.length c0_1, .int .i64 a0_2]) (t := 26) ?hr ?_; (case hd => rfl); (case hg => rfl); (case hr => (go_simp; done)); intro gb101 hg w2 hbox hb; have BK101 := ah.mk (hbox); have GW101 := ah.mk (ge_ hg (aA HB.out)); have GE101 := ah.mk (ge_ hg (aA HB.out)); replace HB := ah.mk (au HB.out hb); clear hb hbox hg; obtain ⟨hcz3_0, hcz3_1, hcz3_2, hfz3_0, hfz3_1, hfz3_2⟩ := z3_ BK101.out)))
 go_ret
 exact ⟨by rfl, HB.out⟩
noncomputable def iJ.f  : Option ((List (S44))) := some (([(⟨(⟨#[1, 97, 0]⟩ : ByteArray), 2, 1, 0, (⟨#[1, 110, 1, 97, 0]⟩ : ByteArray)⟩ : S44), (⟨(⟨#[1, 97, 0]⟩ : ByteArray), 6, 1, 0, (⟨#[1, 110, 1, 97, 0, 0, 0, 0, 0, 1, 0, 0, 0, 2, 0, 0, 0, 3, 0, 0, 0, 4, 0, 0, 0, 5]⟩ : ByteArray)⟩ : S44)] : List (S44)))
theorem iJ.calls  (r : List (S44)) (w : World) (h : iJ.f  = some r) :
  Calls Tryz.prog 35 #[] w fun e w' => ∃ v0_ : Value, e = .returned (v0_) ∧ Kd.R k44 44 w' w.heap.size (fun _ => True) v0_ r ∧ Below w.heap.size w w' := by
 have hu44 := Tryz.underlying44
 have HB := ah.mk (Below.refl w.heap.size w)
 have H : (some (([(⟨(⟨#[1, 97, 0]⟩ : ByteArray), 2, 1, 0, (⟨#[1, 110, 1, 97, 0]⟩ : ByteArray)⟩ : S44), (⟨(⟨#[1, 97, 0]⟩ : ByteArray), 6, 1, 0, (⟨#[1, 110, 1, 97, 0, 0, 0, 0, 0, 1, 0, 0, 0, 2, 0, 0, 0, 3, 0, 0, 0, 4, 0, 0, 0, 5]⟩ : ByteArray)⟩ : S44)] : List (S44)))) = some r := h
 clear h
 obtain ⟨y102, hy102⟩ : ∃ y_ : List (S44), y_ = (([(⟨(⟨#[1, 97, 0]⟩ : ByteArray), 2, 1, 0, (⟨#[1, 110, 1, 97, 0]⟩ : ByteArray)⟩ : S44), (⟨(⟨#[1, 97, 0]⟩ : ByteArray), 6, 1, 0, (⟨#[1, 110, 1, 97, 0, 0, 0, 0, 0, 1, 0, 0, 0, 2, 0, 0, 0, 3, 0, 0, 0, 4, 0, 0, 0, 5]⟩ : ByteArray)⟩ : S44)] : List (S44))) := ⟨_, rfl⟩
 replace H : (some y102) = some r := by (rw [hy102]; with_reducible exact H)
 have Ny102 := ah.mk hy102
 clear hy102
 obtain rfl := Option.some.inj H
 go_enter Tryz.func35, Tryz.ntmps35
 go_wp2_with ((((with_reducible refine bB (N := 3) rfl ?_); refine Kd.kM k44 _ 44 ?hg (N := 3) ?hd (xs := ([(⟨(⟨#[1, 97, 0]⟩ : ByteArray), 2, 1, 0, (⟨#[1, 110, 1, 97, 0]⟩ : ByteArray)⟩ : S44), (⟨(⟨#[1, 97, 0]⟩ : ByteArray), 6, 1, 0, (⟨#[1, 110, 1, 97, 0, 0, 0, 0, 0, 1, 0, 0, 0, 2, 0, 0, 0, 3, 0, 0, 0, 4, 0, 0, 0, 5]⟩ : ByteArray)⟩ : S44)] : List (S44))) (inner := [.string (⟨#[1, 97, 0]⟩ : ByteArray), .int .i64 2, .int .i64 1, .int .i64 0, .string (⟨#[1, 110, 1, 97, 0]⟩ : ByteArray), .string (⟨#[1, 97, 0]⟩ : ByteArray), .int .i64 6, .int .i64 1, .int .i64 0, .string (⟨#[1, 110, 1, 97, 0, 0, 0, 0, 0, 1, 0, 0, 0, 2, 0, 0, 0, 3, 0, 0, 0, 4, 0, 0, 0, 5]⟩ : ByteArray)]) (ok := fun _ => True) (okp := fun _ => True) ?hr ?hp (fun _ hk => hk) trivial (Below.refl _ _) (Nat.le_refl _) (by simp) ?_; (case hd => rfl); (case hg => rfl); (case hr => (go_simp; done)); (case hp => exact (bI.c5 (show Kd.M k44 _ _ _ (⟨(⟨#[1, 97, 0]⟩ : ByteArray), 2, 1, 0, (⟨#[1, 110, 1, 97, 0]⟩ : ByteArray)⟩ : S44) [.string (⟨#[1, 97, 0]⟩ : ByteArray), .int .i64 2, .int .i64 1, .int .i64 0, .string (⟨#[1, 110, 1, 97, 0]⟩ : ByteArray)] from (gQ _ _ _ (⟨(⟨#[1, 97, 0]⟩ : ByteArray), 2, 1, 0, (⟨#[1, 110, 1, 97, 0]⟩ : ByteArray)⟩ : S44) )) (bI.c5 (show Kd.M k44 _ _ _ (⟨(⟨#[1, 97, 0]⟩ : ByteArray), 6, 1, 0, (⟨#[1, 110, 1, 97, 0, 0, 0, 0, 0, 1, 0, 0, 0, 2, 0, 0, 0, 3, 0, 0, 0, 4, 0, 0, 0, 5]⟩ : ByteArray)⟩ : S44) [.string (⟨#[1, 97, 0]⟩ : ByteArray), .int .i64 6, .int .i64 1, .int .i64 0, .string (⟨#[1, 110, 1, 97, 0, 0, 0, 0, 0, 1, 0, 0, 0, 2, 0, 0, 0, 3, 0, 0, 0, 4, 0, 0, 0, 5]⟩ : ByteArray)] from (gQ _ _ _ (⟨(⟨#[1, 97, 0]⟩ : ByteArray), 6, 1, 0, (⟨#[1, 110, 1, 97, 0, 0, 0, 0, 0, 1, 0, 0, 0, 2, 0, 0, 0, 3, 0, 0, 0, 4, 0, 0, 0, 5]⟩ : ByteArray)⟩ : S44) )) (bI.none _ _)))); intro v103 w1 ho2 hb hg_ hnew_; clear hg_ hnew_; ((rw [← Ny102.out] at ho2)); have HO104 := ah.mk (Kd.bX ho2 (aA HB.out)); replace HB := ah.mk (au HB.out hb); clear hb ho2)))
 go_ret
 exact ⟨_, by rfl, by (with_reducible repeat ((apply Kd.aG))); exact HO104.out, HB.out⟩
mutual
noncomputable def bD.l0 : Nat → List (S44) → Int → Option (Bool)
 | 0, _, _ => none
 | k + 1, x0, x3 => if x3 < (x0.length : Int) then (bD.j1 k x0 x3 (decide (x3 < 40))) else (bD.j1 k x0 x3 false)
noncomputable def bD.j1 : Nat → List (S44) → Int → Bool → Option (Bool)
 | 0, _, _, _ => none
 | k + 1, x0, x3, x11 => if x11 = true then (if 0 ≤ x3 then (if x3 < (x0.length : Int) then (if (((aj x0 x3).f4).size : Int) > 2000 then (some false) else (if (((aj x0 x3).f0).size : Int) > 600 then (some false) else (bD.l0 k x0 (wrap64 (x3 + 1))))) else (none)) else (none)) else (some (decide ((x0.length : Int) ≤ 30)))
end
noncomputable def bD.f (k : Nat) (l0 : List (S44)) : Option (Bool) := bD.l0 k l0 0
theorem bD.calls (k : Nat) (A0 : Option Addr) (c0 : Nat) (l0 : List (S44)) (r : Bool) (w : World) (hr0 : Kd.C k44 w A0 l0.length l0) (hc0 : l0.length ≤ c0) (h : bD.f k l0 = some r) :
    Calls Tryz.prog 10 #[.slice A0 l0.length c0] w fun e w' => e = .returned (.bool r) ∧ bf w w' := by
  have HR0 := ah.mk hr0
  have HC0 := ah.mk hc0
  clear hr0 hc0
  have H : (bD.l0 k l0 0) = some r := h
  clear h
  have H' := ah.mk H
  clear H
  go_enter Tryz.func10, Tryz.ntmps10
  go_wp2
  go_loopg [3] k (fun kq v3 w' => ∃ (x3_1 : Int), v3 = .int .i64 x3_1 ∧ ah (bD.l0 kq l0 x3_1 = some r) ∧ ah (kq ≤ k) ∧ bf w w')
  case atStart => exact ⟨(0), (by rfl), H', ⟨Nat.le_refl _⟩, by repeat ((exact bf.refl _))⟩
  case round =>
   clear H'
   obtain ⟨x3_1, rfl, HA, HK1, ⟨m1, rfl⟩⟩ := hrel
   cases gk with
   | zero => exact absurd HA.out (by simp [bD.l0])
   | succ k1 =>
    have H := HA.out
    clear HA
    simp only [bD.l0] at H
    have HC2 := ah.mk H
    clear H
    go_upto_region 2 with (fail)
    go_cut [11] (fun v11 wc => ∃ (kq : Nat) (x11_1 : Bool), v11 = .bool x11_1 ∧ ah (bD.j1 kq l0 x3_1 x11_1 = some r) ∧ ah (kq ≤ k1) ∧ bf w wc)
    case first =>
     have H := HC2.out
     clear HC2
     by_cases c3 : x3_1 < (l0.length : Int)
     focus
      rw [if_pos c3] at H
      have c3b0 : decide (x3_1 < (l0.length : Int)) = true := decide_eq_true c3
     rotate_left
     focus
      rw [if_neg c3] at H
      have c3b0 : decide (x3_1 < (l0.length : Int)) = false := decide_eq_false c3
     rotate_left
     all_goals
      clear c3
      (skip)
      have H' := ah.mk H
      clear H
      go_wp2
      go_meet
     ·case rel => exact ⟨_, (decide (x3_1 < 40)), (by rfl), H', ⟨by have := HK1.out; omega⟩, by repeat (first | exact bf.refl _ | apply bf.step)⟩
     ·case rel => exact ⟨_, (false), (by rfl), H', ⟨by have := HK1.out; omega⟩, by repeat (first | exact bf.refl _ | apply bf.step)⟩
    case rest =>
     clear HC2
     obtain ⟨kq, x11_1, rfl, HA, HJ1, ⟨mc1, rfl⟩⟩ := hcut
     cases kq with
     | zero => exact absurd HA.out (by simp [bD.j1])
     | succ kj1 =>
      have H := HA.out
      clear HA
      simp only [bD.j1] at H
      by_cases c4 : x11_1 = true
      ·subst c4
       rw [if_pos rfl] at H
       obtain ⟨c5b0, H⟩ := dL H
       obtain ⟨c6b0, H⟩ := dL H
       by_cases c7 : (((aj l0 x3_1).f4).size : Int) > 2000
       focus
        rw [if_pos c7] at H
        have c7b0 : decide (2000 < (((aj l0 x3_1).f4).size : Int)) = true := decide_eq_true c7
        have c7b1 : decide (2000 < ((aj l0 x3_1).f4).size) = true := decide_eq_true (by omega)
        clear c7
        obtain rfl := Option.some.inj H
       rotate_left
       focus
        rw [if_neg c7] at H
        have c7b0 : decide (2000 < (((aj l0 x3_1).f4).size : Int)) = false := decide_eq_false c7
        have c7b1 : decide (2000 < ((aj l0 x3_1).f4).size) = false := decide_eq_false (by omega)
        clear c7
        by_cases c8 : (((aj l0 x3_1).f0).size : Int) > 600
        focus
         rw [if_pos c8] at H
         have c8b0 : decide (600 < (((aj l0 x3_1).f0).size : Int)) = true := decide_eq_true c8
         have c8b1 : decide (600 < ((aj l0 x3_1).f0).size) = true := decide_eq_true (by omega)
         clear c8
         obtain rfl := Option.some.inj H
        rotate_left
        focus
         rw [if_neg c8] at H
         have c8b0 : decide (600 < (((aj l0 x3_1).f0).size : Int)) = false := decide_eq_false c8
         have c8b1 : decide (600 < ((aj l0 x3_1).f0).size) = false := decide_eq_false (by omega)
         clear c8
         have H' := ah.mk H
         clear H
        rotate_left
       rotate_left 2
       all_goals
        have p120 : 0 ≤ (x3_1 : Int) := of_decide_eq_true (by assumption)
        have q120 : x3_1 < (l0.length : Int) := of_decide_eq_true (by assumption)
        obtain ⟨ad120, e120, hx120_0, hx120_1, hx120_2, hx120_3, hx120_4⟩ := dU HR0.out x3_1 p120 q120
        cases e120
        replace p120 := eq_true p120
        replace q120 := eq_true q120
       ·go_wp2
        go_ret
        exact ⟨by rfl, by repeat (first | exact bf.refl _ | apply bf.step)⟩
       all_goals
        have p121 : 0 ≤ (x3_1 : Int) := of_decide_eq_true (by assumption)
        have q121 : x3_1 < (l0.length : Int) := of_decide_eq_true (by assumption)
        obtain ⟨ad121, e121, hx121_0, hx121_1, hx121_2, hx121_3, hx121_4⟩ := dU HR0.out x3_1 p121 q121
        obtain rfl : ad120 = ad121 := (by injection e121)
        replace p121 := eq_true p121
        replace q121 := eq_true q121
        go_wp2
       ·go_ret
        exact ⟨by rfl, by repeat (first | exact bf.refl _ | apply bf.step)⟩
       ·go_roundg kj1
        case measure => have := HK1.out; have := HJ1.out; omega
        case rel => exact ⟨(wrap64 (x3_1 + 1)), (by rfl), H', ⟨by have := HK1.out; have := HJ1.out; omega⟩, by repeat (first | exact bf.refl _ | apply bf.step)⟩
      ·replace c4 := Bool.eq_false_iff.mpr c4
       subst c4
       rw [if_neg ff_] at H
       obtain rfl := Option.some.inj H
       go_wp2
       go_ret
       exact ⟨by rfl, by repeat (first | exact bf.refl _ | apply bf.step)⟩
end Go.Y.PZh
namespace Go.Y.Rrs
open Go.RowKit Go.V.aD Go.V.aN Go.V.aR Go.Y.Given Go.Y.PRd Go.Y.PRr Go.Y.PZh Go.Y.Oct Go.Y.Name Go.Y.Cmp Go.Y.fC Go.Y.fu Go.Y.gI
def CO (a : ByteArray) (s : List RR) (x : RR) : Bool := lZ a x && ((!(x.f1 == 6) || fT x.f0 a) && (!(x.f1 == 5) || (atL s x.f0).length == 1))
def DI (a : ByteArray) (s : List RR) : Bool := (fU s 6).length == 1 && decide (0 < (gN s a 2).length)
def pW (a : ByteArray) (s : List RR) : Bool := s.all (CO a s) && DI a s
noncomputable def newR (a : ByteArray) (l : List RR) : ByteArray × List RR × Int :=
 if (bQ a && l.all gP) = true then (if pW a (ofL aW l) = true then (a, ofL aW l, 0) else ((⟨#[]⟩ : ByteArray), [], 9)) else ((⟨#[]⟩ : ByteArray), [], 2)
theorem filter_one {l : List RR} {p : RR → Bool} {i : Nat} (hi : i < l.length) (hp : p l[i] = true) (h : ∀ (j : Nat) (hj : j < l.length), j ≠ i → p l[j] = false) : l.filter p = [l[i]] := by
 have e : l = l.take i ++ l[i] :: l.drop (i + 1) := by rw [← List.drop_eq_getElem_cons hi, List.take_append_drop]
 have h1 : (l.take i).filter p = [] := by
  rw [List.filter_eq_nil_iff]
  intro x hx
  obtain ⟨j, hj, rfl⟩ := List.getElem_of_mem hx
  rw [List.length_take] at hj
  rw [List.getElem_take, h j (by omega) (by omega)]; exact Bool.false_ne_true
 have h2 : (l.drop (i + 1)).filter p = [] := by
  rw [List.filter_eq_nil_iff]
  intro x hx
  obtain ⟨j, hj, rfl⟩ := List.getElem_of_mem hx
  rw [List.length_drop] at hj
  rw [List.getElem_drop, h _ (by omega) (by omega)]; exact Bool.false_ne_true
 have e2 : l.filter p = (l.take i ++ l[i] :: l.drop (i + 1)).filter p := congrArg (List.filter p) e
 rw [e2, List.filter_append, h1, List.filter_cons, if_pos hp, h2]; rfl
theorem CF {l : List RR} {p : RR → Bool} {i : Nat} (hi : i + 1 < l.length) (h1 : p l[i] = true) (h2 : p l[i + 1] = true) : 2 ≤ (l.filter p).length := by
 have hs : [l[i], l[i + 1]].Sublist l := by
  refine List.Sublist.trans ?_ (List.drop_sublist i l)
  rw [EW l i hi]
  exact ((List.nil_sublist _).cons_cons _).cons_cons _
 have := (hs.filter p).length_le
 rw [List.filter_cons, if_pos h1, List.filter_cons, if_pos h2] at this
 exact Nat.le_trans (by simp) this
theorem Ho {x y : RR} (h : aW x y < 0) : cmpL (iP x) (iP y) ≤ 0 := by
 unfold aW at h
 unfold jT at h
 split at h
 ·rename_i e; simp only [] at e; omega
 ·simp only [] at h; omega
theorem yA {s : List RR} (h : mK s) {i j : Nat} (hij : i ≤ j) (hj : j < s.length) : cmpL (iP s[i]) (iP s[j]) ≤ 0 := by
 by_cases e : i = j
 ·subst e; rw [mV.self]; omega
 ·exact Ho (List.pairwise_iff_getElem.mp h.set i j (by omega) hj (by omega))
theorem tH {s : List RR} (h : mK s) {i m j : Nat} (him : i ≤ m) (hmj : m ≤ j) (hj : j < s.length) (e : iP s[i] = iP s[j]) : iP s[m] = iP s[i] := by
 have h1 := yA h him (by omega)
 have h2 := yA h hmj hj
 rw [← e] at h2
 have h3 := mV.flip (iP s[i]) (iP s[m])
 exact (mV.zero _ _ (by omega))
theorem rF {s : List RR} (h : mK s) {i j : Nat} (hi : i < s.length) (hj : j < s.length) : fT s[i].f0 s[j].f0 = true ↔ iP s[i] = iP s[j] := rD (h.all _ (List.getElem_mem hi)).1 (h.all _ (List.getElem_mem hj)).1
theorem zq {s : List RR} (h : mK s) {i : Nat} (hi : i < s.length) (h5 : s[i].f1 = 5) : lW s i = true ↔ (atL s s[i].f0).length = 1 := by
 have hself : fT s[i].f0 s[i].f0 = true := uM (h.all _ (List.getElem_mem hi)).1
 unfold lW
 rw [eT s i hi, h5, beq_self_eq_true, Bool.true_and]
 constructor
 ·intro hn
  rw [Bool.not_eq_true', Bool.or_eq_false_iff] at hn
  have hall : ∀ (j : Nat) (hj : j < s.length), j ≠ i → fT s[j].f0 s[i].f0 = false := by
   intro j hj hne
   cases hc : fT s[j].f0 s[i].f0
   ·rfl
   ·exfalso
    have e := (rF h hj hi).mp hc
    by_cases hlt : j < i
    ·have h1 := tH h (show j ≤ i - 1 by omega) (show i - 1 ≤ i by omega) hi e
     have h2 := (rF h (show i - 1 < s.length by omega) hi).mpr (h1.trans e)
     have h3 := hn.1
     rw [decide_eq_true (show 0 < i by omega), Bool.true_and, eT s (i - 1) (by omega), h2] at h3
     cases h3
    ·have h1 := tH h (show i ≤ i + 1 by omega) (show i + 1 ≤ j by omega) hj e.symm
     have h2 := (rF h (show i + 1 < s.length by omega) hi).mpr h1
     have h3 := hn.2
     rw [decide_eq_true (show i + 1 < s.length by omega), Bool.true_and, eT s (i + 1) (by omega), h2] at h3
     cases h3
  unfold atL
  rw [filter_one hi hself hall]; rfl
 ·intro hl
  rw [Bool.not_eq_true', Bool.or_eq_false_iff]
  constructor
  ·by_cases h0 : 0 < i
   ·rw [decide_eq_true h0, Bool.true_and, eT s (i - 1) (by omega)]
    cases hc : fT s[i - 1].f0 s[i].f0
    ·rfl
    ·obtain ⟨m, rfl⟩ : ∃ m, i = m + 1 := ⟨i - 1, by omega⟩
     have := CF (l := s) (p := fun x => fT x.f0 s[m + 1].f0) (i := m) hi hc hself
     unfold atL at hl; omega
   ·rw [decide_eq_false h0]; rfl
  ·by_cases h0 : i + 1 < s.length
   ·rw [decide_eq_true h0, Bool.true_and, eT s (i + 1) h0]
    cases hc : fT s[i + 1].f0 s[i].f0
    ·rfl
    ·have := CF (l := s) (p := fun x => fT x.f0 s[i].f0) (i := i) h0 hself hc
     unfold atL at hl; omega
   ·rw [decide_eq_false h0]; rfl
theorem Cn {s : List RR} (h : mK s) : oq s = true ↔ ∀ x ∈ s, x.f1 = 5 → (atL s x.f0).length = 1 := by
 rw [vG]
 constructor
 ·intro ha x hx h5
  obtain ⟨i, hi, rfl⟩ := List.getElem_of_mem hx
  exact (zq h hi h5).mp (ha i hi)
 ·intro ha i hi
  by_cases h5 : s[i].f1 = 5
  ·exact (zq h hi h5).mpr (ha _ (List.getElem_mem hi) h5)
  ·unfold lW
   rw [eT s i hi, beq_eq_false_iff_ne.mpr h5]; rfl
def sH (a : ByteArray) (s : List RR) : Bool := s.all (lZ a) && ((fU s 6).length == 1 && (fT (rdR (fU s 6) 0).f0 a && (!(gN s a 2).isEmpty && oq s)))
theorem zV {s : List RR} (h1 : (fU s 6).length = 1) : ∃ y, fU s 6 = [y] ∧ y ∈ s ∧ y.f1 = 6 := by
 obtain ⟨y, e⟩ := List.length_eq_one_iff.mp h1
 have hm : y ∈ fU s 6 := by rw [e]; exact List.mem_singleton.mpr rfl
 unfold fU at hm
 exact ⟨y, e, (List.mem_filter.mp hm).1, beq_iff_eq.mp (List.mem_filter.mp hm).2⟩
theorem Gt {a : ByteArray} {s : List RR} (h : mK s) : sH a s = pW a s := by
 rw [Bool.eq_iff_iff]
 unfold sH pW DI
 simp only [Bool.and_eq_true, beq_iff_eq, decide_eq_true_eq, Cn h, List.all_eq_true, Bool.not_eq_true']
 have hne : (gN s a 2).isEmpty = false ↔ 0 < (gN s a 2).length := by
  cases gN s a 2 <;> simp
 rw [hne]
 unfold CO
 simp only [Bool.and_eq_true, Bool.or_eq_true, Bool.not_eq_true', beq_eq_false_iff_ne, beq_iff_eq]
 constructor
 ·rintro ⟨hw, h6, ha, h2, hc⟩
  obtain ⟨y, ey, hy, hy6⟩ := zV h6
  rw [ey] at ha
  refine ⟨fun x hx => ⟨hw x hx, ?_, ?_⟩, h6, h2⟩
  ·by_cases e : x.f1 = 6
   ·have : x ∈ fU s 6 := by unfold fU; exact List.mem_filter.mpr ⟨hx, by rw [e]; rfl⟩
    rw [ey] at this
    rw [List.mem_singleton.mp this]
    exact .inr ha
   ·exact .inl e
  ·by_cases e : x.f1 = 5
   ·exact .inr (hc x hx e)
   ·exact .inl e
 ·rintro ⟨ho, h6, h2⟩
  obtain ⟨y, ey, hy, hy6⟩ := zV h6
  refine ⟨fun x hx => (ho x hx).1, h6, ?_, h2, fun x hx h5 => ?_⟩
  ·rw [ey]
   rcases (ho y hy).2.1 with e | e
   ·exact absurd hy6 e
   ·exact e
  ·rcases (ho x hx).2.2 with e | e
   ·exact absurd h5 e
   ·exact e
theorem FB (l : List RR) (hn : l.length ≤ 9223372036854775807) : ∀ (d i : Nat), d + i = 40 → i ≤ l.length → ∃ b, Ev (fun k => bD.l0 k l (i : Int)) b ∧ (b = true → l.length ≤ 30) := by
 have hdone : ∀ i : Nat, Ev (fun k => bD.j1 k l (i : Int) false) (decide ((l.length : Int) ≤ 30)) := fun i => Ev.step (f := fun _ => some (decide ((l.length : Int) ≤ 30))) (fun k => by rw [bD.j1, if_neg (by decide)]) (Ev.now _)
 have hok : decide ((l.length : Int) ≤ 30) = true → l.length ≤ 30 := fun e => by have := of_decide_eq_true e; omega
 intro d
 induction d with
 | zero =>
  intro i hd hi0
  refine ⟨_, Ev.step (f := fun k => bD.j1 k l (i : Int) false) (fun k => ?_) (hdone i), hok⟩
  rw [bD.l0, decide_eq_false (show ¬ (i : Int) < 40 by omega)]
  split <;> rfl
 | succ d ih =>
  intro i hd hi0
  by_cases hi : i < l.length
  ·have e1 : wrap64 ((i : Int) + 1) = ((i + 1 : Nat) : Int) := by unfold wrap64; omega
   have hs : ∀ k, bD.l0 (k + 1) l (i : Int) = bD.j1 k l (i : Int) true := fun k => by
    rw [bD.l0, decide_eq_true (show (i : Int) < 40 by omega), if_pos (by omega)]
   have hj : ∀ k, bD.j1 (k + 1) l (i : Int) true = if ((rdR l (i : Int)).f4.size : Int) > 2000 then some false else if ((rdR l (i : Int)).f0.size : Int) > 600 then some false else bD.l0 k l ((i + 1 : Nat) : Int) := fun k => by
    rw [bD.j1, e1, if_pos rfl, if_pos (by omega), if_pos (by omega)]
   obtain ⟨b, hb, hb1⟩ := ih (i + 1) (by omega) (by omega)
   by_cases h4 : ((rdR l (i : Int)).f4.size : Int) > 2000
   ·refine ⟨false, Ev.step hs (Ev.step hj ?_), fun e => by cases e⟩
    simp only [h4, if_true]; exact Ev.now _
   ·by_cases h0 : ((rdR l (i : Int)).f0.size : Int) > 600
    ·refine ⟨false, Ev.step hs (Ev.step hj ?_), fun e => by cases e⟩
     simp only [h4, h0, if_true, if_false]; exact Ev.now _
    ·refine ⟨b, Ev.step hs (Ev.step hj ?_), hb1⟩
     simp only [h4, h0, if_false]; exact hb
  ·refine ⟨_, Ev.step (f := fun k => bD.j1 k l (i : Int) false) (fun k => ?_) (hdone i), hok⟩
   rw [bD.l0, if_neg (by omega)]
theorem IV (l : List RR) (hn : l.length ≤ 9223372036854775807) : ∃ b, Ev (fun k => bD.f k l) b ∧ (b = true → l.length ≤ 30) := FB l hn 40 0 (by omega) (Nat.zero_le _)
def jc (s : List RR) (n : ByteArray) : Bool := s.any fun x => fT x.f0 n
end Go.Y.Rrs
namespace Go.Y.Rrs
open Go.RowKit Go.V.aD Go.V.aN Go.V.aR Go.Y.Given Go.Y.PRd Go.Y.PRr Go.Y.PZo Go.Y.PZf Go.Y.Oct Go.Y.Name Go.Y.Cmp Go.Y.fC Go.Y.fu Go.Y.gI
theorem Iq {p : Nat → RR → Option Bool} {b : RR → Bool} : ∀ (l : List RR), (∀ x ∈ l, Ev (fun k => p k x) (b x)) → ∃ K, ∀ k, K ≤ k → ∀ x ∈ l, p k x = some (b x) := by
 intro l
 induction l with
 | nil => exact fun _ => ⟨0, fun k _ x hx => by cases hx⟩
 | cons y l ih =>
  intro h
  obtain ⟨K1, h1⟩ := h y (List.mem_cons_self ..)
  obtain ⟨K2, h2⟩ := ih fun x hx => h x (List.mem_cons_of_mem _ hx)
  refine ⟨max K1 K2, fun k hk x hx => ?_⟩
  rcases List.mem_cons.mp hx with rfl | hx
  ·exact h1 k (by omega)
  ·exact h2 k (by omega) x hx
theorem Cm {p : Nat → RR → Option Bool} {b : RR → Bool} (l : List RR) (hn : l.length ≤ 1000000) (h : ∀ x ∈ l, Ev (fun k => p k x) (b x)) : Ev (fun k => tX (p k) l) (l.any fun x => !b x) := by
 obtain ⟨K, hK⟩ := Iq l h
 refine ⟨K, fun k hk => ?_⟩
 have hk := hK k hk
 show tX (p k) l = _
 unfold tX
 rw [if_pos ⟨hn, fun x hx => by rw [hk x hx]; rfl⟩]
 congr 1
 rw [Bool.eq_iff_iff, List.any_eq_true, List.any_eq_true]
 exact ⟨fun ⟨x, hm, h⟩ => ⟨x, hm, by rw [hk x hm] at h; exact h⟩, fun ⟨x, hm, h⟩ => ⟨x, hm, by rw [hk x hm]; exact h⟩⟩
theorem Ag (l : List RR) (b : RR → Bool) : (l.any fun x => !b x) = !l.all b := by
 induction l with
 | nil => rfl
 | cons x l ih => rw [List.any_cons, List.all_cons, ih, Bool.not_and]
def idxFrom (s : List RR) (x : RR) : Nat → Nat → Int
 | 0, _ => -1
 | d + 1, i => if i < s.length then (if eqR x (rdR s (i : Int)) = true then (i : Int) else idxFrom s x d (i + 1)) else -1
def Iu (s : List RR) (x : RR) : Int := idxFrom s x s.length 0
theorem FN (s : List RR) (x : RR) (hn : s.length ≤ 1000000) : ∀ (d i : Nat), s.length ≤ i + d → i ≤ s.length → Ev (fun k => fK.l0 k s (s.length : Int) (i : Int) x.f0 x.f1 x.f2 x.f3 x.f4) (idxFrom s x d i) := by
 intro d
 induction d with
 | zero =>
  intro i hd hi0
  exact Ev.step (f := fun _ => some (-1)) (fun k => by rw [fK.l0]; rw [if_neg (by omega)]) (Ev.now _)
 | succ d ih =>
  intro i hd hi0
  rw [idxFrom]
  by_cases hi : i < s.length
  ·rw [if_pos hi]
   have e1 : wrap64 ((i : Int) + 1) = ((i + 1 : Nat) : Int) := by unfold wrap64; omega
   have hs : ∀ k, fK.l0 (k + 1) s (s.length : Int) (i : Int) x.f0 x.f1 x.f2 x.f3 x.f4 = if eqR x (rdR s (i : Int)) = true then some (i : Int) else fK.l0 k s (s.length : Int) ((i + 1 : Nat) : Int) x.f0 x.f1 x.f2 x.f3 x.f4 := fun k => by
    rw [fK.l0, e1]
    rw [if_pos (by omega), if_pos (by omega), if_pos (by omega)]
    rfl
   refine Ev.step hs ?_
   cases eqR x (rdR s (i : Int))
   ·simp only [Bool.false_eq_true, if_false]; exact ih (i + 1) (by omega) (by omega)
   ·simp only [if_true]; exact Ev.now _
  ·rw [if_neg hi]
   exact Ev.step (f := fun _ => some (-1)) (fun k => by rw [fK.l0]; rw [if_neg (by omega)]) (Ev.now _)
theorem IJ (s : List RR) (x : RR) (hn : s.length ≤ 1000000) : Ev (fun k => fK.f k s x.f0 x.f1 x.f2 x.f3 x.f4) (Iu s x) := FN s x hn s.length 0 (by omega) (Nat.zero_le _)
def yP (s : List RR) : Int := Iu s (rdR (fU s 6) 0)
theorem xH (a : ByteArray) (s : List RR) (z : Int) (n : ByteArray) (t : Int) (hn : s.length ≤ 1000000) : dZ.f a s z n t = some (gN s n t) := by
 unfold dZ.f jr.f
 rw [AY s n hn, Option.bind_some, Option.bind_some, tQ _ t (Nat.le_trans (vS s n) hn)]; rfl
noncomputable def newP (a : ByteArray) (l : List RR) : ByteArray × List RR × Int × Int :=
 if (bQ a && l.all gP) = true then (if sH a (ofL aW l) = true then (a, ofL aW l, yP (ofL aW l), 0) else ((⟨#[]⟩ : ByteArray), [], 0, 9)) else ((⟨#[]⟩ : ByteArray), [], 0, 2)
theorem BU (a : ByteArray) (l : List RR) (hn : l.length ≤ 65536) : Ev (fun k => bM.f k a l) (newP a l) := by
 have hbad : Ev (fun k => bM.j0 k l true a) ((⟨#[]⟩ : ByteArray), [], 0, 2) := Ev.step (f := fun _ => some ((⟨#[]⟩ : ByteArray), [], 0, 2)) (fun k => by rw [bM.j0, if_pos rfl]) (Ev.now _)
 unfold bM.f newP
 simp only [jN, Option.bind_some]
 cases hr : bQ a
 ·simp only [Bool.false_eq_true, if_false, Bool.false_and]
  exact hbad
 ·simp only [if_true, Bool.true_and]
  refine Ev.bind (Cm (p := fun k x => bC.f k x.f0 x.f1 x.f2 x.f3 x.f4) (b := gP) l (by omega) (fun x _ => uy x)) ?_
  rw [Ag]
  cases hall : l.all gP
  ·simp only [Bool.not_false, Bool.false_eq_true, if_false]
   exact hbad
  ·simp only [Bool.not_true, if_true]
   have hf : ∀ y ∈ l, fine y := fun y hy => mM (List.all_eq_true.mp hall y hy)
   have hS := qH hf (by omega)
   have hlen : (ofL aW l).length ≤ l.length := by have := sO l [] List.Pairwise.nil; unfold ofL; simpa using this
   obtain ⟨s, hs⟩ : ∃ s, ofL aW l = s := ⟨_, rfl⟩
   rw [hs] at hS hlen ⊢
   have hst : ∀ k, bM.j0 (k + 1) l false a = (lu.f k s a).bind fun t => if t = true then some ((⟨#[]⟩ : ByteArray), [], 0, 9) else if ((fU s 6).length : Int) = 1 then (if 0 < ((fU s 6).length : Int) then (if fT (rdR (fU s 6) 0).f0 a = true then (if ((gN s a 2).length : Int) = 0 then some ((⟨#[]⟩ : ByteArray), [], 0, 9) else (bK.f k s).bind fun t => if t = true then ((fK.f k s (rdR (fU s 6) 0).f0 (rdR (fU s 6) 0).f1 (rdR (fU s 6) 0).f2 (rdR (fU s 6) 0).f3 (rdR (fU s 6) 0).f4).bind fun u => some (a, s, u, 0)) else some ((⟨#[]⟩ : ByteArray), [], 0, 9)) else some ((⟨#[]⟩ : ByteArray), [], 0, 9)) else none) else some ((⟨#[]⟩ : ByteArray), [], 0, 9) := fun k => by
    rw [bM.j0]
    rw [if_neg (by decide), FP hf (by omega), hs, Option.bind_some, if_neg (by omega), tQ s 6 (by omega), Option.bind_some, xH a s 0 a 2 (by omega), Option.bind_some]
    simp only [kR, Option.bind_some]
   refine Ev.step hst (Ev.bind (Cm (p := fun k x => fP.f k a x.f0 x.f1 x.f2 x.f3 x.f4) (b := lZ a) s (by omega) (fun x _ => ⟨300, fun k hk => uj a x k hk⟩)) ?_)
   rw [Ag]
   unfold sH
   cases s.all (lZ a)
   ·simp only [Bool.not_false, if_true, Bool.false_and, Bool.false_eq_true, if_false]
    exact Ev.now _
   ·simp only [Bool.not_true, Bool.false_eq_true, if_false, Bool.true_and]
    by_cases h1 : (fU s 6).length = 1
    ·simp only [show (((fU s 6).length : Int) = 1) = True from eq_true (by omega), show (0 < ((fU s 6).length : Int)) = True from eq_true (by omega), if_true]
     rw [show ((fU s 6).length == 1) = true from by rw [h1]; rfl, Bool.true_and]
     cases fT (rdR (fU s 6) 0).f0 a
     ·simp only [Bool.false_eq_true, if_false, Bool.false_and]; exact Ev.now _
     ·simp only [if_true, Bool.true_and]
      by_cases h2 : gN s a 2 = []
      ·simp only [h2, List.length_nil, show ((((0 : Nat) : Int)) = 0) = True from eq_true rfl, if_true, List.isEmpty_nil, Bool.not_true, Bool.false_and, Bool.false_eq_true, if_false]
       exact Ev.now _
      ·have h3 : 0 < (gN s a 2).length := List.length_pos_iff.mpr h2
       simp only [show (((gN s a 2).length : Int) = 0) = False from eq_false (by omega), if_false]
       rw [show (gN s a 2).isEmpty = false from by rw [Bool.eq_false_iff]; exact fun e => h2 (List.isEmpty_iff.mp e), Bool.not_false, Bool.true_and]
       refine Ev.bind (Fp s (by omega)) ?_
       cases oq s
       ·simp only [Bool.false_eq_true, if_false]; exact Ev.now _
       ·simp only [if_true]
        refine Ev.bind (IJ s _ (by omega)) ?_
        exact Ev.now _
    ·simp only [show (((fU s 6).length : Int) = 1) = False from eq_false (by omega), if_false]
     rw [beq_eq_false_iff_ne.mpr h1]
     simp only [Bool.false_and, Bool.false_eq_true, if_false]
     exact Ev.now _
structure DC (a : ByteArray) (s : List RR) : Prop where
 set : mK s
 small : s.length ≤ 65536
 zone : pW a s = true
 right : ∀ y ∈ s, gP y = true
 apex : bQ a = true
theorem EI (a : ByteArray) (l : List RR) (hn : l.length ≤ 65536) : (∃ s, DC a s ∧ s.length ≤ l.length ∧ newP a l = (a, s, yP s, 0) ∧ newR a l = (a, s, 0) ∧ ofL aW l = s) ∨ (∃ e, e ≠ 0 ∧ newP a l = ((⟨#[]⟩ : ByteArray), [], 0, e) ∧ newR a l = ((⟨#[]⟩ : ByteArray), [], e)) := by
 unfold newP newR
 by_cases h : (bQ a && l.all gP) = true
 ·rw [if_pos h, if_pos h]
  rw [Bool.and_eq_true] at h
  have hf : ∀ y ∈ l, fine y := fun y hy => mM (List.all_eq_true.mp h.2 y hy)
  have hS := qH hf (by omega)
  have hlen : (ofL aW l).length ≤ l.length := by have := sO l [] List.Pairwise.nil; unfold ofL; simpa using this
  rw [Gt hS]
  by_cases hz : pW a (ofL aW l) = true
  ·rw [if_pos hz, if_pos hz]
   refine .inl ⟨_, ⟨hS, by omega, hz, fun y hy => ?_, h.1⟩, hlen, rfl, rfl, rfl⟩
   rcases Ac l [] hy with e | e
   ·cases e
   ·exact List.all_eq_true.mp h.2 y e
  ·rw [if_neg hz, if_neg hz]
   exact .inr ⟨9, by decide, rfl, rfl⟩
 ·rw [if_neg h, if_neg h]
  exact .inr ⟨2, by decide, rfl, rfl⟩
end Go.Y.Rrs
namespace Go.Y.Rrs
open Go.RowKit Go.V.aD Go.V.aN Go.V.aR Go.Y.Given Go.Y.PRd Go.Y.PRr Go.Y.PZo Go.Y.PZf Go.Y.PZh Go.Y.Name Go.Y.fC Go.Y.gI
theorem Jh (a : ByteArray) (s : List RR) (z : Int) (hn : s.length ≤ 1000000) : jg.f a s z = some s := by
 unfold jg.f
 have hc : slices_Clone.f s = some s := by unfold slices_Clone.f; rw [if_pos (by omega)]
 rw [hc]; rfl
theorem zY (a : ByteArray) (s : List RR) (z : Int) (n : ByteArray) (hn : s.length ≤ 1000000) : dG.f a s z n = some (jc s n) := by
 unfold dG.f
 rw [if_pos ⟨hn, fun x _ => by rw [kR]; rfl⟩]
 rfl
theorem Hr (a : ByteArray) (s : List RR) (z : Int) (n : ByteArray) (hn : s.length ≤ 1000000) : jr.f a s z n = some (atL s n) := by
 unfold jr.f
 rw [AY s n hn]; rfl
abbrev lr0 : RR := ⟨(⟨#[1, 97, 0]⟩ : ByteArray), 2, 1, 0, (⟨#[1, 110, 1, 97, 0]⟩ : ByteArray)⟩
abbrev lr1 : RR := ⟨(⟨#[1, 97, 0]⟩ : ByteArray), 6, 1, 0, (⟨#[1, 110, 1, 97, 0, 0, 0, 0, 0, 1, 0, 0, 0, 2, 0, 0, 0, 3, 0, 0, 0, 4, 0, 0, 0, 5]⟩ : ByteArray)⟩
abbrev lra : ByteArray := ⟨#[1, 97, 0]⟩
theorem Ee : ofL aW [lr0, lr1] = [lr0, lr1] := by
 have h : aW lr1 lr0 = 1 := by
  have hn : iP lr1 = iP lr0 := rfl
  unfold aW jT
  simp only [hn]
  rw [if_pos (mV.self _)]
  decide
 show put aW (put aW [] lr0) lr1 = _
 rw [put, put, if_neg (by omega), if_neg (by omega), put]
theorem Dp : gP lr0 = true := Ev.unique (uy lr0) (Ev.of (fun k => bC.mono _ _ _ _ _ k) (k := 20) (by kernel_rfl))
theorem DR : gP lr1 = true := Ev.unique (uy lr1) (Ev.of (fun k => bC.mono _ _ _ _ _ k) (k := 20) (by kernel_rfl))
theorem GQ : lZ lra lr0 = true := by
 have h := uj lra lr0 300 (Nat.le_refl _)
 have h2 := oI (fun k => fP.mono lra lr0.f0 lr0.f1 lr0.f2 lr0.f3 lr0.f4 k) (show 20 ≤ 300 by omega) (r := true) (by kernel_rfl)
 rw [h2] at h; exact (Option.some.inj h).symm
theorem Gr : lZ lra lr1 = true := by
 have h := uj lra lr1 300 (Nat.le_refl _)
 have h2 := oI (fun k => fP.mono lra lr1.f0 lr1.f1 lr1.f2 lr1.f3 lr1.f4 k) (show 20 ≤ 300 by omega) (r := true) (by kernel_rfl)
 rw [h2] at h; exact (Option.some.inj h).symm
theorem vY : fT lra lra = true := uM (by kernel_rfl)
theorem Bq : sH lra [lr0, lr1] = true := by
 have ht : fU [lr0, lr1] 6 = [lr1] := rfl
 have ha : atL [lr0, lr1] lra = [lr0, lr1] := by
  unfold atL
  rw [List.filter_cons, List.filter_cons]
  rw [if_pos vY, if_pos vY]; rfl
 have hs : gN [lr0, lr1] lra 2 = [lr0] := by unfold gN; rw [ha]; rfl
 have hp : oq [lr0, lr1] = true := by
  rw [vG]
  intro j hj
  unfold lW
  rw [eT _ j hj]
  match j, hj with
  | 0, _ => rfl
  | 1, _ => rfl
 unfold sH
 rw [ht, hs, hp, List.all_cons, List.all_cons, GQ, Gr]
 show ((true && (true && true)) && ((1 == 1) && (fT lra lra && (true && true)))) = true
 rw [vY]; rfl
theorem Cx : newP lra [lr0, lr1] = (lra, [lr0, lr1], yP [lr0, lr1], 0) := by
 unfold newP
 rw [List.all_cons, List.all_cons, Dp, DR, Ee]
 rw [if_pos (by show (bQ lra && _) = true; rw [show bQ lra = true from by kernel_rfl]; rfl), if_pos Bq]
theorem EA : Ev (fun k => bM.f k lra [lr0, lr1]) (lra, [lr0, lr1], yP [lr0, lr1], 0) := by
 rw [← Cx]; exact BU _ _ (by simp)
end Go.Y.Rrs
namespace Go.Y.PZh
open Go.RowKit Go.V.aD Go.V.aN Go.V.aR Go.Y.Given Go.Y.PRd Go.Y.PRr Go.Y.PZo Go.Y.PZf Go.Y.PZe
attribute [local go_sem] dn dh dJ dK bU bT cZ dw   -- for this text's walks alone
noncomputable def eU.f (a0_0 : ByteArray) (l0_1 : List (S44)) (a0_2 : Int) (a1_0 : ByteArray) (a1_1 : Int) (a1_2 : Int) (a1_3 : Int) (a1_4 : ByteArray) : Option (Bool × Bool) := (dG.f a0_0 l0_1 a0_2 a1_0).bind fun t206 => ((dZ.f a0_0 l0_1 a0_2 a1_0 a1_1).bind fun t207 => (some (!t206, ((t207.length : Int) == 0))))
def eU.T1 : Bool × List (List Nat × List Nat) := (true, [([], []), ([], []), ([1], [1]), ([0, 2], [0, 2]), ([3], [3]), ([], []), ([], []), ([6], [6]), ([], []), ([8], [8]), ([5, 7, 9, 3], [5, 7, 9]), ([10], [10]), ([11], [11]), ([4, 10, 0, 1, 2, 3, 4], [4]), ([12, 13, 0, 1, 2, 3, 4, 5, 6, 7, 8, 9, 10, 11, 12, 13], [12])])
def eU.B1 : List Nat := [0, 0, 2, 7, 15, 0, 0, 64, 0, 256, 1007, 2031, 4079, 2047, 16383]
theorem eU.tY : dP .any (opsOf Tryz.f91 1) = eU.T1 := by kernel_rfl
theorem eU.qI : dS eU.T1.2 eU.B1 = true := by kernel_rfl
theorem eU.calls (a0_0 : ByteArray) (A0_1 : Option Addr) (c0_1 : Nat) (l0_1 : List (S44)) (a0_2 : Int) (a1_0 : ByteArray) (a1_1 : Int) (a1_2 : Int) (a1_3 : Int) (a1_4 : ByteArray) (r1 : Bool) (r2 : Bool) (w : World) (hr0_1 : Kd.C k44 w A0_1 l0_1.length l0_1) (hc0_1 : l0_1.length ≤ c0_1) (h : eU.f a0_0 l0_1 a0_2 a1_0 a1_1 a1_2 a1_3 a1_4 = some (r1, r2)) :
    Calls Tryz.prog 91 #[.agg #[.string a0_0, .slice A0_1 l0_1.length c0_1, .int .i64 a0_2], .agg #[.string a1_0, .int .i64 a1_1, .int .i64 a1_2, .int .i64 a1_3, .string a1_4]] w fun e w' => e = .returned (.tuple #[.bool r1, .bool r2]) ∧ Below w.heap.size w w' := by
  have hu26 := Tryz.underlying26
  have hu44 := Tryz.underlying44
  have HR0_1 := ah.mk hr0_1
  have HC0_1 := ah.mk hc0_1
  clear hr0_1 hc0_1
  have HB := ah.mk (Below.refl w.heap.size w)
  have H : ((dG.f a0_0 l0_1 a0_2 a1_0).bind fun t206 => ((dZ.f a0_0 l0_1 a0_2 a1_0 a1_1).bind fun t207 => (some (!t206, ((t207.length : Int) == 0))))) = some (r1, r2) := h
  clear h
  obtain ⟨t206, A3, H⟩ := bR H
  obtain ⟨t207, A4, H⟩ := bR H
  simp only [Option.some.injEq, Prod.mk.injEq] at H
  obtain ⟨rfl, rfl⟩ := H
  go_enter Tryz.func91, Tryz.ntmps91
  (try go_wp2_with (first | ((with_reducible refine bB (N := 2) rfl ?_); refine bG ?hg (N := 2) ?hd (cs := #[.string a0_0, .slice A0_1 l0_1.length c0_1, .int .i64 a0_2]) (t := 26) ?hr ?_; (case hd => rfl); (case hg => rfl); (case hr => (go_simp; done)); intro gb204 hg w5 hbox hb; have BK204 := ah.mk (hbox); have GW204 := ah.mk (ge_ hg (aA HB.out)); have GE204 := ah.mk (ge_ hg (aA HB.out)); replace HB := ah.mk (au HB.out hb); clear hb hbox hg) | ((with_reducible refine bB (N := 3) rfl ?_); refine bG ?hg (N := 3) ?hd (cs := #[.string a1_0, .int .i64 a1_1, .int .i64 a1_2, .int .i64 a1_3, .string a1_4]) (t := 44) ?hr ?_; (case hd => rfl); (case hg => rfl); (case hr => (go_simp; done)); intro gb205 hg w6 hbox hb; have BK205 := ah.mk (hbox); have GW205 := ah.mk (ge_ hg (aA HB.out)); have GE205 := ah.mk (ge_ hg (aA HB.out)); have NB204_205 := ah.mk (nl_ hg (by ((exact BK204.out)))); have NB205_204 := ah.mk (nr_ hg (by ((exact BK204.out)))); replace BK204 := ah.mk (ay (by ((exact BK204.out))) hb); replace HB := ah.mk (au HB.out hb); clear hb hbox hg)))
  replace BK204 := ah.mk (eX BK204.out)
  replace BK205 := ah.mk (eX BK205.out)
  replace HB := ah.mk (dO HB.out)
  refine fM (n := 15) (ds := []) (ls 15 0) (by kernel_rfl) rfl rfl (c3_ BK204.out (d5_ BK205.out)) (fun hHeld => ?_); refine dW eU.tY eU.qI (fun HT_ HW_ => ?_)
  generalize w6.drew = w7 at BK204 BK205 HB hHeld ⊢
  refine td_ [(1, 7), (6, 12), (8, 14)] ?_
  iterate 3 (refine pn_ (v := ?_) (a' := ?_) HT_ rfl rfl (by kernel_rfl) rfl (fun _ _ _ h => h) (fun w' => ?_) ?_ ?_; rotate_left 2; (focus go_simp; with_reducible rfl); (focus simp only [Act.put, sA_, sZ_, sS_, bE, bJ]; rfl))
  refine dn_ ?_
  refine td_ [(0, 6), (2, 8), (5, 11), (7, 13), (9, 15)] ?_
  iterate 5 (refine tn_ (v := ?_) (a' := ?_) HT_ HW_ rfl rfl (by kernel_rfl) rfl (fun _ _ _ h => h) hHeld ?_ ?_ ?_; rotate_left 2; (focus rintro w' ⟨s0, s1, s2, s3, s4, s5, s6, s7⟩; go_simp; with_reducible rfl); (focus simp only [Act.put, sA_, sZ_, sS_, bE, bJ]; rfl))
  refine dn_ ?_
  refine kE (i := 3) (N := some 9) (ls 15 1007) rfl rfl (gD HT_.out (by kernel_rfl)) (by decide) (fun K hK => ?_)
  refine jX Tryz.func18 (by kernel_rfl) rfl #[.agg #[.string a0_0, .slice A0_1 l0_1.length c0_1, .int .i64 a0_2], .string a1_0] (by rfl) rfl rfl (by (try simp only [mA_, mC_, mN_]); rfl) ?_
  with_reducible refine (dG.calls a0_0 _ _ l0_1 a0_2 a1_0 t206 _ ?side1 ?side2 A3.out).mono ?_
  (case side1 => repeat ((exact (Kd.fH HR0_1.out HB.out))))
  (case side2 => exact HC0_1.out)
  rintro e w8 ⟨rfl, hb⟩
  refine ⟨_, rfl, ?_⟩
  replace BK204 := ah.mk (ay (by ((exact BK204.out))) hb)
  replace BK205 := ah.mk (ay (by ((exact BK205.out))) hb)
  replace HB := ah.mk (au HB.out hb)
  (try clear hb)
  refine hK.out _ _ (c3_ BK204.out (d5_ BK205.out)) (fun hHeld => ?_)
  clear hK K
  refine jD (a' := ?_) ?_ ?_
  rotate_left
  ·show Act.put _ (some 9) _ = _
   simp only [Act.put, sA_, sZ_, sS_, bE, bJ]
   rfl
  refine td_ [(4, 10)] ?_
  iterate 1 (refine pn_ (v := ?_) (a' := ?_) HT_ rfl rfl (by kernel_rfl) rfl (fun _ _ _ h => h) (fun w' => ?_) ?_ ?_; rotate_left 2; (focus go_simp; with_reducible rfl); (focus simp only [Act.put, sA_, sZ_, sS_, bE, bJ]; rfl))
  refine dn_ ?_
  refine kE (i := 10) (N := some 16) (ls 15 2047) rfl rfl (gD HT_.out (by kernel_rfl)) (by decide) (fun K hK => ?_)
  refine jX Tryz.func14 (by kernel_rfl) rfl #[.agg #[.string a0_0, .slice A0_1 l0_1.length c0_1, .int .i64 a0_2], .string a1_0, .int .i64 a1_1] (by rfl) rfl rfl (by (try simp only [mA_, mC_, mN_]); rfl) ?_
  with_reducible refine (dZ.calls a0_0 _ _ l0_1 a0_2 a1_0 a1_1 t207 _ ?side1 ?side2 A4.out).mono ?_
  (case side1 => repeat ((exact (Kd.fH HR0_1.out HB.out))))
  (case side2 => exact HC0_1.out)
  rintro e w9 ⟨v208, rfl, ho0, hb⟩
  refine ⟨_, rfl, ?_⟩
  have HO209 := ah.mk (Kd.bX (Kd.jl ho0 (g := gb205) (o := .cells #[.string a1_0, .int .i64 a1_1, .int .i64 a1_2, .int .i64 a1_3, .string a1_4] 44 (0, 0)) (by ((exact BK205.out)))) (aA HB.out))
  replace BK204 := ah.mk (ay (by ((exact BK204.out))) hb)
  replace BK205 := ah.mk (ay (by ((exact BK205.out))) hb)
  replace HB := ah.mk (au HB.out hb)
  (try clear hb)
  (try clear ho0)
  obtain ⟨Ao10, co10, eo10⟩ := Kd.bY HO209.out
  ((subst eo10))
  refine hK.out _ _ (c3_ BK204.out (d5_ BK205.out)) (fun hHeld => ?_)
  clear hK K
  refine jD (a' := ?_) ?_ ?_
  rotate_left
  ·show Act.put _ (some 16) _ = _
   simp only [Act.put, sA_, sZ_, sS_, bE, bJ]
   rfl
  refine td_ [(11, 17), (12, 18), (13, 4), (14, 5)] ?_
  iterate 4 (refine pn_ (v := ?_) (a' := ?_) HT_ rfl rfl (by kernel_rfl) rfl (fun _ _ _ h => h) (fun w' => ?_) ?_ ?_; rotate_left 2; (focus go_simp; with_reducible rfl); (focus simp only [Act.put, sA_, sZ_, sS_, bE, bJ]; rfl))
  refine dn_ ?_
  refine jy (iK HT_.out (by kernel_rfl)) ?_
  (try go_wp2)
  go_ret2
  exact ⟨by rfl, HB.out⟩
noncomputable def fB.f (a0 : Bool) (a1 : Int) : Option (Int) := if a0 = true then (some a1) else (some 0)
theorem fB.calls (a0 : Bool) (a1 : Int) (r : Int) (w : World) (h : fB.f a0 a1 = some r) :
  Calls Tryz.prog 92 #[.bool a0, .int .i64 a1] w fun e w' => e = .returned (.int .i64 r) ∧ bf w w' := by
 have H : (if a0 = true then (some a1) else (some 0)) = some r := h
 clear h
 by_cases c3 : a0 = true
 ·subst c3
  rw [if_pos rfl] at H
  obtain rfl := Option.some.inj H
  go_enter Tryz.func92, Tryz.ntmps92
  go_wp2
  go_ret
  exact ⟨by rfl, by repeat ((exact bf.refl _))⟩
 ·replace c3 := Bool.eq_false_iff.mpr c3
  subst c3
  rw [if_neg ff_] at H
  obtain rfl := Option.some.inj H
  go_enter Tryz.func92, Tryz.ntmps92
  go_wp2
  go_ret
  exact ⟨by rfl, by repeat ((exact bf.refl _))⟩
end Go.Y.PZh
namespace Go.Y.PZh
open Go.RowKit Go.V.aD Go.V.aN Go.V.aR Go.Y.Given Go.Y.PRd Go.Y.PRr Go.Y.PZo Go.Y.PZf Go.Y.PZe
attribute [local go_sem] dn dh dJ dK bU bT cZ dw   -- for this text's walks alone
mutual
noncomputable def dF.j0 : Nat → Bool → Bool → Bool → ByteArray → Int → Int → Int → ByteArray → Option (Int)
 | 0, _, _, _, _, _, _, _, _ => none
 | k + 1, x5, x6, x33, x212000, x212001, x212002, x212003, x212004 => if x33 = true then (if x212004.toList = ([] : List UInt8) then (if x212002 = 255 then (dF.j1 k x5 x6 (x212001 == 255) x212000 x212001 x212002 x212003 x212004) else (dF.j1 k x5 x6 false x212000 x212001 x212002 x212003 x212004)) else (some 1)) else (some 1)
noncomputable def dF.j1 : Nat → Bool → Bool → Bool → ByteArray → Int → Int → Int → ByteArray → Option (Int)
 | 0, _, _, _, _, _, _, _, _ => none
 | k + 1, x5, x6, x39, x212000, x212001, x212002, x212003, x212004 => if x39 = true then ((fB.f x5 3).bind fun t218 => (some t218)) else (if x212002 = 255 then ((fB.f x6 8).bind fun t219 => (some t219)) else (if x212001 = 255 then ((fB.f (!x5) 6).bind fun t220 => (some t220)) else ((fB.f (!x6) 7).bind fun t221 => (some t221))))
end
noncomputable def dF.f (k : Nat) (a0_0 : ByteArray) (l0_1 : List (S44)) (a0_2 : Int) (a1_0 : ByteArray) (a1_1 : Int) (a1_2 : Int) (a1_3 : Int) (a1_4 : ByteArray) : Option (Int) := if a1_3 = 0 then ((jE.f a0_0 l0_1 a0_2).bind fun t212 => ((bq.f k a1_0 t212).bind fun t213 => (if t213 = true then ((eU.f a0_0 l0_1 a0_2 a1_0 a1_1 a1_2 a1_3 a1_4).bind fun bt214 => (if a1_2 = 1 then ((fI.f a1_1).bind fun t216 => ((fB.f (!t216) 1).bind fun t217 => (some t217))) else (if a1_2 = 255 then (dF.j0 k bt214.1 bt214.2 (a1_2 == 255) a1_0 a1_1 a1_2 a1_3 a1_4) else (dF.j0 k bt214.1 bt214.2 (a1_2 == 254) a1_0 a1_1 a1_2 a1_3 a1_4)))) else (some 10)))) else (some 1)
theorem dF.calls (k : Nat) (a0_0 : ByteArray) (A0_1 : Option Addr) (c0_1 : Nat) (l0_1 : List (S44)) (a0_2 : Int) (a1_0 : ByteArray) (a1_1 : Int) (a1_2 : Int) (a1_3 : Int) (a1_4 : ByteArray) (r : Int) (w : World) (hr0_1 : Kd.C k44 w A0_1 l0_1.length l0_1) (hc0_1 : l0_1.length ≤ c0_1) (h : dF.f k a0_0 l0_1 a0_2 a1_0 a1_1 a1_2 a1_3 a1_4 = some r) :
    Calls Tryz.prog 58 #[.agg #[.string a0_0, .slice A0_1 l0_1.length c0_1, .int .i64 a0_2], .agg #[.string a1_0, .int .i64 a1_1, .int .i64 a1_2, .int .i64 a1_3, .string a1_4]] w fun e w' => e = .returned (.int .i64 r) ∧ Below w.heap.size w w' := by
  have hu26 := Tryz.underlying26
  have hu44 := Tryz.underlying44
  have HR0_1 := ah.mk hr0_1
  have HC0_1 := ah.mk hc0_1
  clear hr0_1 hc0_1
  have HB := ah.mk (Below.refl w.heap.size w)
  have H : (if a1_3 = 0 then ((jE.f a0_0 l0_1 a0_2).bind fun t212 => ((bq.f k a1_0 t212).bind fun t213 => (if t213 = true then ((eU.f a0_0 l0_1 a0_2 a1_0 a1_1 a1_2 a1_3 a1_4).bind fun bt214 => (if a1_2 = 1 then ((fI.f a1_1).bind fun t216 => ((fB.f (!t216) 1).bind fun t217 => (some t217))) else (if a1_2 = 255 then (dF.j0 k bt214.1 bt214.2 (a1_2 == 255) a1_0 a1_1 a1_2 a1_3 a1_4) else (dF.j0 k bt214.1 bt214.2 (a1_2 == 254) a1_0 a1_1 a1_2 a1_3 a1_4)))) else (some 10)))) else (some 1)) = some r := h
  clear h
  by_cases c3 : a1_3 = 0
  ·rw [if_pos c3] at H
   have c3b0 : (a1_3 == 0) = true := beq_iff_eq.mpr c3
   have c3b1 : (a1_3 != 0) = false := bne_eq_false_iff_eq.mpr c3
   clear c3
   obtain ⟨t212, A4, H⟩ := bR H
   obtain ⟨t213, A5, H⟩ := bR H
   by_cases c6 : t213 = true
   focus
    subst c6
    rw [if_pos rfl] at H
    replace H := Option.bind_eq_some_iff.mp H
    obtain ⟨⟨t214, t215⟩, A70, H⟩ := H
    replace H : (if a1_2 = 1 then ((fI.f a1_1).bind fun t216 => ((fB.f (!t216) 1).bind fun t217 => (some t217))) else (if a1_2 = 255 then (dF.j0 k t214 t215 (a1_2 == 255) a1_0 a1_1 a1_2 a1_3 a1_4) else (dF.j0 k t214 t215 (a1_2 == 254) a1_0 a1_1 a1_2 a1_3 a1_4))) = some r := H
    have A7 := ah.mk A70
    clear A70
    by_cases c8 : a1_2 = 1
    focus
     rw [if_pos c8] at H
     have c8b0 : (a1_2 == 1) = true := beq_iff_eq.mpr c8
     have c8b1 : (a1_2 != 1) = false := bne_eq_false_iff_eq.mpr c8
     clear c8
     obtain ⟨t216, A9, H⟩ := bR H
     obtain ⟨t217, A10, H⟩ := bR H
     obtain rfl := Option.some.inj H
     go_enter Tryz.func58, Tryz.ntmps58
     (try go_wp2_with (first | ((with_reducible refine bB (N := 2) rfl ?_); refine bG ?hg (N := 2) ?hd (cs := #[.string a0_0, .slice A0_1 l0_1.length c0_1, .int .i64 a0_2]) (t := 26) ?hr ?_; (case hd => rfl); (case hg => rfl); (case hr => (go_simp; done)); intro gb210 hg w11 hbox hb; have BK210 := ah.mk (hbox); have GW210 := ah.mk (ge_ hg (aA HB.out)); have GE210 := ah.mk (ge_ hg (aA HB.out)); replace HB := ah.mk (au HB.out hb); clear hb hbox hg) | ((with_reducible refine bB (N := 3) rfl ?_); refine bG ?hg (N := 3) ?hd (cs := #[.string a1_0, .int .i64 a1_1, .int .i64 a1_2, .int .i64 a1_3, .string a1_4]) (t := 44) ?hr ?_; (case hd => rfl); (case hg => rfl); (case hr => (go_simp; done)); intro gb211 hg w12 hbox hb; have BK211 := ah.mk (hbox); have GW211 := ah.mk (ge_ hg (aA HB.out)); have GE211 := ah.mk (ge_ hg (aA HB.out)); have NB210_211 := ah.mk (nl_ hg (by ((exact BK210.out)))); have NB211_210 := ah.mk (nr_ hg (by ((exact BK210.out)))); replace BK210 := ah.mk (ay (by ((exact BK210.out))) hb); replace HB := ah.mk (au HB.out hb); clear hb hbox hg; have hnb13 := NB211_210.out; have hnc13 := NB210_211.out; obtain ⟨hcz14_0, hcz14_1, hcz14_2, hcz14_3, hcz14_4, hfz14_0, hfz14_1, hfz14_2, hfz14_3, hfz14_4⟩ := z5_ BK211.out)))
    rotate_left
    focus
     rw [if_neg c8] at H
     have c8b0 : (a1_2 == 1) = false := beq_eq_false_iff_ne.mpr c8
     have c8b1 : (a1_2 != 1) = true := bne_iff_ne.mpr c8
     have HC22 := ah.mk H
     clear H
     go_enter Tryz.func58, Tryz.ntmps58
     (try go_wp2_with (first | ((with_reducible refine bB (N := 2) rfl ?_); refine bG ?hg (N := 2) ?hd (cs := #[.string a0_0, .slice A0_1 l0_1.length c0_1, .int .i64 a0_2]) (t := 26) ?hr ?_; (case hd => rfl); (case hg => rfl); (case hr => (go_simp; done)); intro gb210 hg w23 hbox hb; have BK210 := ah.mk (hbox); have GW210 := ah.mk (ge_ hg (aA HB.out)); have GE210 := ah.mk (ge_ hg (aA HB.out)); replace HB := ah.mk (au HB.out hb); clear hb hbox hg) | ((with_reducible refine bB (N := 3) rfl ?_); refine bG ?hg (N := 3) ?hd (cs := #[.string a1_0, .int .i64 a1_1, .int .i64 a1_2, .int .i64 a1_3, .string a1_4]) (t := 44) ?hr ?_; (case hd => rfl); (case hg => rfl); (case hr => (go_simp; done)); intro gb211 hg w12 hbox hb; have BK211 := ah.mk (hbox); have GW211 := ah.mk (ge_ hg (aA HB.out)); have GE211 := ah.mk (ge_ hg (aA HB.out)); have NB210_211 := ah.mk (nl_ hg (by ((exact BK210.out)))); have NB211_210 := ah.mk (nr_ hg (by ((exact BK210.out)))); replace BK210 := ah.mk (ay (by ((exact BK210.out))) hb); replace HB := ah.mk (au HB.out hb); clear hb hbox hg; have hnb25 := NB211_210.out; have hnc25 := NB210_211.out; obtain ⟨hcz26_0, hcz26_1, hcz26_2, hcz26_3, hcz26_4, hfz26_0, hfz26_1, hfz26_2, hfz26_3, hfz26_4⟩ := z5_ BK211.out)))
    rotate_left
   rotate_left 2
   focus
    replace c6 := Bool.eq_false_iff.mpr c6
    subst c6
    rw [if_neg ff_] at H
    obtain rfl := Option.some.inj H
    go_enter Tryz.func58, Tryz.ntmps58
    (try go_wp2_with (first | ((with_reducible refine bB (N := 2) rfl ?_); refine bG ?hg (N := 2) ?hd (cs := #[.string a0_0, .slice A0_1 l0_1.length c0_1, .int .i64 a0_2]) (t := 26) ?hr ?_; (case hd => rfl); (case hg => rfl); (case hr => (go_simp; done)); intro gb210 hg w60 hbox hb; have BK210 := ah.mk (hbox); have GW210 := ah.mk (ge_ hg (aA HB.out)); have GE210 := ah.mk (ge_ hg (aA HB.out)); replace HB := ah.mk (au HB.out hb); clear hb hbox hg) | ((with_reducible refine bB (N := 3) rfl ?_); refine bG ?hg (N := 3) ?hd (cs := #[.string a1_0, .int .i64 a1_1, .int .i64 a1_2, .int .i64 a1_3, .string a1_4]) (t := 44) ?hr ?_; (case hd => rfl); (case hg => rfl); (case hr => (go_simp; done)); intro gb211 hg w12 hbox hb; have BK211 := ah.mk (hbox); have GW211 := ah.mk (ge_ hg (aA HB.out)); have GE211 := ah.mk (ge_ hg (aA HB.out)); have NB210_211 := ah.mk (nl_ hg (by ((exact BK210.out)))); have NB211_210 := ah.mk (nr_ hg (by ((exact BK210.out)))); replace BK210 := ah.mk (ay (by ((exact BK210.out))) hb); replace HB := ah.mk (au HB.out hb); clear hb hbox hg; have hnb62 := NB211_210.out; have hnc62 := NB210_211.out; obtain ⟨hcz63_0, hcz63_1, hcz63_2, hcz63_3, hcz63_4, hfz63_0, hfz63_1, hfz63_2, hfz63_3, hfz63_4⟩ := z5_ BK211.out)))
   rotate_left
   all_goals
    replace BK210 := ah.mk (eX BK210.out)
    replace BK211 := ah.mk (eX BK211.out)
    replace HB := ah.mk (dO HB.out)
    refine fM (n := 7) (ds := []) (ls 7 0) (by kernel_rfl) rfl rfl (c5_ BK211.out (d3_ BK210.out)) (fun hHeld => ?_)
    generalize w12.drew = w15 at BK210 BK211 HB hHeld ⊢
    refine oO (i := 0) (N := some 12) (v := ?_) (a' := ?_) (ls 7 1) rfl rfl (by kernel_rfl) (fun _ _ _ h => h) (Or.inl ⟨by rfl, ?_⟩) ?_ ?_
    rotate_left
    ·intro w'
     go_simp
     with_reducible rfl
    rotate_left
    ·simp only [Act.put, sA_, sZ_, sS_, bE, bJ]
     rfl
    refine sF (i := 1) (N := some 13) (v := ?_) (a' := ?_) (ls 7 3) rfl rfl (by kernel_rfl) (fun _ _ _ h => h) (Or.inl ⟨by rfl, ?_⟩) hHeld ?_ ?_
    rotate_left
    ·rintro w' ⟨s0, s1, s2, s3, s4, s5, s6, s7⟩
     go_simp
     with_reducible rfl
    rotate_left
    ·simp only [Act.put, sA_, sZ_, sS_, bE, bJ]
     rfl
    refine sF (i := 2) (N := some 14) (v := ?_) (a' := ?_) (ls 7 7) rfl rfl (by kernel_rfl) (fun _ _ _ h => h) (Or.inl ⟨by rfl, ?_⟩) hHeld ?_ ?_
    rotate_left
    ·rintro w' ⟨s0, s1, s2, s3, s4, s5, s6, s7⟩
     go_simp
     with_reducible rfl
    rotate_left
    ·simp only [Act.put, sA_, sZ_, sS_, bE, bJ]
     rfl
    refine kE (i := 3) (N := some 15) (ls 7 15) rfl rfl (by kernel_rfl) (by decide) (fun K hK => ?_)
    refine jX Tryz.func28 (by kernel_rfl) rfl #[.agg #[.string a0_0, .slice A0_1 l0_1.length c0_1, .int .i64 a0_2]] (by rfl) rfl rfl (by (try simp only [mA_, mC_, mN_]); rfl) ?_
    with_reducible refine (jE.calls a0_0 _ _ l0_1 a0_2 t212 _ ?side1 ?side2 A4.out).mono ?_
    (case side1 => repeat ((exact (Kd.fH HR0_1.out HB.out))))
    (case side2 => exact HC0_1.out)
    rintro e w16 ⟨rfl, hb⟩
    refine ⟨_, rfl, ?_⟩
    replace BK210 := ah.mk (ay (by ((exact BK210.out))) hb)
    replace BK211 := ah.mk (ay (by ((exact BK211.out))) hb)
    replace HB := ah.mk (au HB.out hb)
    (try clear hb)
    refine hK.out _ _ (c5_ BK211.out (d3_ BK210.out)) (fun hHeld => ?_)
    clear hK K
    refine jD (a' := ?_) ?_ ?_
    rotate_left
    ·show Act.put _ (some 15) _ = _
     simp only [Act.put, sA_, sZ_, sS_, bE, bJ]
     rfl
    refine kE (i := 4) (N := some 16) (ls 7 31) rfl rfl (by kernel_rfl) (by decide) (fun K hK => ?_)
    refine jX Tryz.func56 (by kernel_rfl) rfl #[.string a1_0, .string t212] (by rfl) rfl rfl (by (try simp only [mA_, mC_, mN_]); rfl) ?_
    with_reducible refine (bq.calls k a1_0 t212 _ _ A5.out).mono ?_
    rintro e w17 ⟨rfl, hb⟩
    refine ⟨_, rfl, ?_⟩
    replace BK210 := ah.mk (ay (by ((exact BK210.out))) hb)
    replace BK211 := ah.mk (ay (by ((exact BK211.out))) hb)
    replace HB := ah.mk (au HB.out hb)
    (try clear hb)
    refine hK.out _ _ (c5_ BK211.out (d3_ BK210.out)) (fun hHeld => ?_)
    clear hK K
    refine jD (a' := ?_) ?_ ?_
    rotate_left
    ·show Act.put _ (some 16) _ = _
     simp only [Act.put, sA_, sZ_, sS_, bE, bJ]
     rfl
    refine oO (i := 5) (N := some 17) (v := ?_) (a' := ?_) (ls 7 63) rfl rfl (by kernel_rfl) (fun _ _ _ h => h) (Or.inl ⟨by rfl, ?_⟩) ?_ ?_
    rotate_left
    ·intro w'
     go_simp
     with_reducible rfl
    rotate_left
    ·simp only [Act.put, sA_, sZ_, sS_, bE, bJ]
     rfl
    refine oO (i := 6) (N := some 11) (v := ?_) (a' := ?_) (ls 7 127) rfl rfl (by kernel_rfl) (fun _ _ _ h => h) (Or.inl ⟨by rfl, ?_⟩) ?_ ?_
    rotate_left
    ·intro w'
     go_simp
     with_reducible rfl
    rotate_left
    ·simp only [Act.put, sA_, sZ_, sS_, bE, bJ]
     rfl
    refine jy (by kernel_rfl) ?_
   ·obtain ⟨hcz18_0, hcz18_1, hcz18_2, hfz18_0, hfz18_1, hfz18_2⟩ := z3_ BK210.out
    obtain ⟨hcz19_0, hcz19_1, hcz19_2, hcz19_3, hcz19_4, hfz19_0, hfz19_1, hfz19_2, hfz19_3, hfz19_4⟩ := z5_ BK211.out
    (try go_wp2_with (first | ((with_reducible refine bF (f := 91) rfl ?_); refine dM (some 21) rfl rfl Tryz.func91 (by kernel_rfl) rfl #[.agg #[.string a0_0, .slice A0_1 l0_1.length c0_1, .int .i64 a0_2], .agg #[.string a1_0, .int .i64 a1_1, .int .i64 a1_2, .int .i64 a1_3, .string a1_4]] rfl (by (try simp only [mA_, mC_, mN_]); rfl) ?_; (with_reducible refine (eU.calls a0_0 _ _ l0_1 a0_2 a1_0 a1_1 a1_2 a1_3 a1_4 t214 t215 _ ?side1 ?side2 A7.out).mono ?_); (case side1 => repeat ((exact (Kd.fH HR0_1.out HB.out)))); (case side2 => exact HC0_1.out); rintro e w20 ⟨rfl, hb⟩; refine ⟨_, rfl, ?_⟩; replace BK210 := ah.mk (ay (by ((exact BK210.out))) hb); replace BK211 := ah.mk (ay (by ((exact BK211.out))) hb); replace HB := ah.mk (au HB.out hb); (try clear hb); obtain ⟨hcz21_0, hcz21_1, hcz21_2, hcz21_3, hcz21_4, hfz21_0, hfz21_1, hfz21_2, hfz21_3, hfz21_4⟩ := z5_ BK211.out) | ((with_reducible refine bF (f := 83) rfl ?_); refine dM (some 30) rfl rfl Tryz.func83 (by kernel_rfl) rfl #[.int .i64 a1_1] rfl (by (try simp only [mA_, mC_, mN_]); rfl) ?_; (with_reducible refine (fI.calls a1_1 t216 _ A9.out).mono ?_); rintro e w' ⟨rfl, ⟨nd, rfl⟩⟩; refine ⟨_, rfl, ?_⟩) | ((with_reducible refine bF (f := 92) rfl ?_); refine dM (some 32) rfl rfl Tryz.func92 (by kernel_rfl) rfl #[.bool (!t216), .int .i64 1] rfl (by (try simp only [mA_, mC_, mN_]); rfl) ?_; (with_reducible refine (fB.calls (!t216) 1 t217 _ A10.out).mono ?_); rintro e w' ⟨rfl, ⟨nd, rfl⟩⟩; refine ⟨_, rfl, ?_⟩)))
    go_ret
    exact ⟨by rfl, by repeat ((with_reducible first | exact HB.out | apply cK))⟩
   ·obtain ⟨hcz30_0, hcz30_1, hcz30_2, hfz30_0, hfz30_1, hfz30_2⟩ := z3_ BK210.out
    obtain ⟨hcz31_0, hcz31_1, hcz31_2, hcz31_3, hcz31_4, hfz31_0, hfz31_1, hfz31_2, hfz31_3, hfz31_4⟩ := z5_ BK211.out
    go_upto_if 33 with ((((with_reducible refine bF (f := 91) rfl ?_); refine dM (some 21) rfl rfl Tryz.func91 (by kernel_rfl) rfl #[.agg #[.string a0_0, .slice A0_1 l0_1.length c0_1, .int .i64 a0_2], .agg #[.string a1_0, .int .i64 a1_1, .int .i64 a1_2, .int .i64 a1_3, .string a1_4]] rfl (by (try simp only [mA_, mC_, mN_]); rfl) ?_; (with_reducible refine (eU.calls a0_0 _ _ l0_1 a0_2 a1_0 a1_1 a1_2 a1_3 a1_4 t214 t215 _ ?side1 ?side2 A7.out).mono ?_); (case side1 => repeat ((exact (Kd.fH HR0_1.out HB.out)))); (case side2 => exact HC0_1.out); rintro e w32 ⟨rfl, hb⟩; refine ⟨_, rfl, ?_⟩; replace BK210 := ah.mk (ay (by ((exact BK210.out))) hb); replace BK211 := ah.mk (ay (by ((exact BK211.out))) hb); replace HB := ah.mk (au HB.out hb); (try clear hb); obtain ⟨hcz33_0, hcz33_1, hcz33_2, hcz33_3, hcz33_4, hfz33_0, hfz33_1, hfz33_2, hfz33_3, hfz33_4⟩ := z5_ BK211.out)))
    go_cut [33] (fun v33 wc => ∃ (kq : Nat) (x33_21 : Bool), v33 = .bool x33_21 ∧ ah (dF.j0 kq t214 t215 x33_21 a1_0 a1_1 a1_2 a1_3 a1_4 = some r) ∧ ah (kq ≤ k) ∧ ah (wc.heap[gb210]? = some (.cells #[.string a0_0, (.slice A0_1 l0_1.length c0_1), .int .i64 a0_2] 26 (0, 0))) ∧ ah (wc.heap[gb211]? = some (.cells #[.string a1_0, .int .i64 a1_1, .int .i64 a1_2, .int .i64 a1_3, .string a1_4] 44 (0, 0))) ∧ ah (Below w.heap.size w wc))
    case first =>
     have H := HC22.out
     clear HC22
     by_cases c34 : a1_2 = 255
     focus
      rw [if_pos c34] at H
      have c34b0 : (a1_2 == 255) = true := beq_iff_eq.mpr c34
      have c34b1 : (a1_2 != 255) = false := bne_eq_false_iff_eq.mpr c34
      clear c34
     rotate_left
     focus
      rw [if_neg c34] at H
      have c34b0 : (a1_2 == 255) = false := beq_eq_false_iff_ne.mpr c34
      have c34b1 : (a1_2 != 255) = true := bne_iff_ne.mpr c34
     rotate_left
     all_goals
      ((rw [c34b0]))
      have H' := ah.mk H
      clear H
      go_wp2
      go_meet
     ·case rel => exact ⟨_, ((a1_2 == 255)), (by (simp [*]; done)), H', ⟨by omega⟩, ⟨by (with_reducible repeat ((refine ak ?_ _))); exact BK210.out⟩, ⟨by (with_reducible repeat ((refine ak ?_ _))); exact BK211.out⟩, ⟨HB.out⟩⟩
     ·case rel => exact ⟨_, ((a1_2 == 254)), (by rfl), H', ⟨by omega⟩, ⟨by (with_reducible repeat ((refine ak ?_ _))); exact BK210.out⟩, ⟨by (with_reducible repeat ((refine ak ?_ _))); exact BK211.out⟩, ⟨HB.out⟩⟩
    case rest =>
     clear HC22
     (try clear c3b0)
     (try clear c3b1)
     (try clear c8)
     (try clear c8b0)
     (try clear c8b1)
     (try clear hcz26_0)
     (try clear hcz26_1)
     (try clear hcz26_2)
     (try clear hcz26_3)
     (try clear hcz26_4)
     (try clear hcz30_0)
     (try clear hcz30_1)
     (try clear hcz30_2)
     (try clear hcz31_0)
     (try clear hcz31_1)
     (try clear hcz31_2)
     (try clear hcz31_3)
     (try clear hcz31_4)
     (try clear hcz33_0)
     (try clear hcz33_1)
     (try clear hcz33_2)
     (try clear hcz33_3)
     (try clear hcz33_4)
     (try clear hfz26_0)
     (try clear hfz26_1)
     (try clear hfz26_2)
     (try clear hfz26_3)
     (try clear hfz26_4)
     (try clear hfz30_0)
     (try clear hfz30_1)
     (try clear hfz30_2)
     (try clear hfz31_0)
     (try clear hfz31_1)
     (try clear hfz31_2)
     (try clear hfz31_3)
     (try clear hfz31_4)
     (try clear hfz33_0)
     (try clear hfz33_1)
     (try clear hfz33_2)
     (try clear hfz33_3)
     (try clear hfz33_4)
     obtain ⟨kq, x33_21, rfl, HA, HJ21, BK210, BK211, HB⟩ := hcut
     cases kq with
     | zero => exact absurd HA.out (by simp [dF.j0])
     | succ kj21 =>
      have H := HA.out
      clear HA
      simp only [dF.j0] at H
      by_cases c35 : x33_21 = true
      ·subst c35
       rw [if_pos rfl] at H
       by_cases c36 : a1_4.toList = ([] : List UInt8)
       focus
        rw [if_pos c36] at H
        have c36b0 : a1_4.toList.isEmpty = true := List.isEmpty_iff.mpr c36
        have c36b1 : (!a1_4.toList.isEmpty) = false := by rw [List.isEmpty_iff.mpr c36]; rfl
        clear c36
        have HC37 := ah.mk H
        clear H
       rotate_left
       focus
        rw [if_neg c36] at H
        have c36b0 : a1_4.toList.isEmpty = false := Bool.eq_false_iff.mpr (fun h_ => c36 (List.isEmpty_iff.mp h_))
        have c36b1 : (!a1_4.toList.isEmpty) = true := by rw [Bool.eq_false_iff.mpr (fun h_ => c36 (List.isEmpty_iff.mp h_))]; rfl
        obtain rfl := Option.some.inj H
       rotate_left
       all_goals
        have hnb38 := NB211_210.out
        have hnc38 := NB210_211.out
        obtain ⟨hcz39_0, hcz39_1, hcz39_2, hcz39_3, hcz39_4, hfz39_0, hfz39_1, hfz39_2, hfz39_3, hfz39_4⟩ := z5_ BK211.out
       ·go_upto_region 14 with (fail)
        go_cut [39] (fun v39 wc => ∃ (kq : Nat) (x39_36 : Bool), v39 = .bool x39_36 ∧ ah (dF.j1 kq t214 t215 x39_36 a1_0 a1_1 a1_2 a1_3 a1_4 = some r) ∧ ah (kq ≤ kj21) ∧ ah (wc.heap[gb210]? = some (.cells #[.string a0_0, (.slice A0_1 l0_1.length c0_1), .int .i64 a0_2] 26 (0, 0))) ∧ ah (wc.heap[gb211]? = some (.cells #[.string a1_0, .int .i64 a1_1, .int .i64 a1_2, .int .i64 a1_3, .string a1_4] 44 (0, 0))) ∧ ah (Below w.heap.size w wc))
        case first =>
         have H := HC37.out
         clear HC37
         by_cases c40 : a1_2 = 255
         focus
          rw [if_pos c40] at H
          have c40b0 : (a1_2 == 255) = true := beq_iff_eq.mpr c40
          have c40b1 : (a1_2 != 255) = false := bne_eq_false_iff_eq.mpr c40
          clear c40
         rotate_left
         focus
          rw [if_neg c40] at H
          have c40b0 : (a1_2 == 255) = false := beq_eq_false_iff_ne.mpr c40
          have c40b1 : (a1_2 != 255) = true := bne_iff_ne.mpr c40
         rotate_left
         all_goals
          (skip)
          have H' := ah.mk H
          clear H
          have hnb41 := NB211_210.out
          have hnc41 := NB210_211.out
          obtain ⟨hcz42_0, hcz42_1, hcz42_2, hcz42_3, hcz42_4, hfz42_0, hfz42_1, hfz42_2, hfz42_3, hfz42_4⟩ := z5_ BK211.out
          go_wp2
          go_meet
         ·case rel => exact ⟨_, ((a1_1 == 255)), (by rfl), H', ⟨by have := HJ21.out; omega⟩, ⟨by (with_reducible repeat ((refine ak ?_ _))); exact BK210.out⟩, ⟨by (with_reducible repeat ((refine ak ?_ _))); exact BK211.out⟩, ⟨HB.out⟩⟩
         ·case rel => exact ⟨_, (false), (by rfl), H', ⟨by have := HJ21.out; omega⟩, ⟨by (with_reducible repeat ((refine ak ?_ _))); exact BK210.out⟩, ⟨by (with_reducible repeat ((refine ak ?_ _))); exact BK211.out⟩, ⟨HB.out⟩⟩
        case rest =>
         clear HC37
         (try clear c36b0)
         (try clear c36b1)
         (try clear hcz39_0)
         (try clear hcz39_1)
         (try clear hcz39_2)
         (try clear hcz39_3)
         (try clear hcz39_4)
         (try clear hfz39_0)
         (try clear hfz39_1)
         (try clear hfz39_2)
         (try clear hfz39_3)
         (try clear hfz39_4)
         obtain ⟨kq, x39_36, rfl, HA, HJ36, BK210, BK211, HB⟩ := hcut
         cases kq with
         | zero => exact absurd HA.out (by simp [dF.j1])
         | succ kj36 =>
          have H := HA.out
          clear HA
          simp only [dF.j1] at H
          by_cases c45 : x39_36 = true
          focus
           subst c45
           rw [if_pos rfl] at H
          rotate_left
          focus
           replace c45 := Bool.eq_false_iff.mpr c45
           subst c45
           rw [if_neg ff_] at H
           by_cases c47 : a1_2 = 255
           focus
            rw [if_pos c47] at H
            have c47b0 : (a1_2 == 255) = true := beq_iff_eq.mpr c47
            have c47b1 : (a1_2 != 255) = false := bne_eq_false_iff_eq.mpr c47
            clear c47
           rotate_left
           focus
            rw [if_neg c47] at H
            have c47b0 : (a1_2 == 255) = false := beq_eq_false_iff_ne.mpr c47
            have c47b1 : (a1_2 != 255) = true := bne_iff_ne.mpr c47
            by_cases c51 : a1_1 = 255
            focus
             rw [if_pos c51] at H
             have c51b0 : (a1_1 == 255) = true := beq_iff_eq.mpr c51
             have c51b1 : (a1_1 != 255) = false := bne_eq_false_iff_eq.mpr c51
             clear c51
            rotate_left
            focus
             rw [if_neg c51] at H
             have c51b0 : (a1_1 == 255) = false := beq_eq_false_iff_ne.mpr c51
             have c51b1 : (a1_1 != 255) = true := bne_iff_ne.mpr c51
            rotate_left
           rotate_left 2
          rotate_left 3
          all_goals
           obtain ⟨t218, A46, H⟩ := bR H
           obtain rfl := Option.some.inj H
          focus
           go_wp2_with ((((with_reducible refine bF (f := 92) rfl ?_); refine dM (some 49) rfl rfl Tryz.func92 (by kernel_rfl) rfl #[.bool t214, .int .i64 3] rfl (by (try simp only [mA_, mC_, mN_]); rfl) ?_; (with_reducible refine (fB.calls t214 3 t218 _ A46.out).mono ?_); rintro e w' ⟨rfl, ⟨nd, rfl⟩⟩; refine ⟨_, rfl, ?_⟩)))
          rotate_left
          iterate 3
           focus
            have hnb49 := NB211_210.out
            have hnc49 := NB210_211.out
            obtain ⟨hcz50_0, hcz50_1, hcz50_2, hcz50_3, hcz50_4, hfz50_0, hfz50_1, hfz50_2, hfz50_3, hfz50_4⟩ := z5_ BK211.out
           rotate_left
          rotate_left
          focus
           go_wp2_with ((((with_reducible refine bF (f := 92) rfl ?_); refine dM (some 55) rfl rfl Tryz.func92 (by kernel_rfl) rfl #[.bool t215, .int .i64 8] rfl (by (try simp only [mA_, mC_, mN_]); rfl) ?_; (with_reducible refine (fB.calls t215 8 t218 _ A46.out).mono ?_); rintro e w' ⟨rfl, ⟨nd, rfl⟩⟩; refine ⟨_, rfl, ?_⟩)))
          rotate_left
          focus
           go_wp2_with ((((with_reducible refine bF (f := 92) rfl ?_); refine dM (some 62) rfl rfl Tryz.func92 (by kernel_rfl) rfl #[.bool (!t214), .int .i64 6] rfl (by (try simp only [mA_, mC_, mN_]); rfl) ?_; (with_reducible refine (fB.calls (!t214) 6 t218 _ A46.out).mono ?_); rintro e w' ⟨rfl, ⟨nd, rfl⟩⟩; refine ⟨_, rfl, ?_⟩)))
          rotate_left
          focus
           go_wp2_with ((((with_reducible refine bF (f := 92) rfl ?_); refine dM (some 65) rfl rfl Tryz.func92 (by kernel_rfl) rfl #[.bool (!t215), .int .i64 7] rfl (by (try simp only [mA_, mC_, mN_]); rfl) ?_; (with_reducible refine (fB.calls (!t215) 7 t218 _ A46.out).mono ?_); rintro e w' ⟨rfl, ⟨nd, rfl⟩⟩; refine ⟨_, rfl, ?_⟩)))
          rotate_left
          all_goals
           go_ret
           exact ⟨by rfl, by repeat ((with_reducible first | exact HB.out | apply cK))⟩
       ·go_wp2
        go_ret
        exact ⟨by rfl, HB.out⟩
      ·replace c35 := Bool.eq_false_iff.mpr c35
       subst c35
       rw [if_neg ff_] at H
       obtain rfl := Option.some.inj H
       go_wp2
       go_ret
       exact ⟨by rfl, HB.out⟩
   ·try go_wp2
    go_ret
    exact ⟨by rfl, HB.out⟩
  ·rw [if_neg c3] at H
   have c3b0 : (a1_3 == 0) = false := beq_eq_false_iff_ne.mpr c3
   have c3b1 : (a1_3 != 0) = true := bne_iff_ne.mpr c3
   obtain rfl := Option.some.inj H
   go_enter Tryz.func58, Tryz.ntmps58
   go_wp2_with (first | ((with_reducible refine bB (N := 2) rfl ?_); refine bG ?hg (N := 2) ?hd (cs := #[.string a0_0, .slice A0_1 l0_1.length c0_1, .int .i64 a0_2]) (t := 26) ?hr ?_; (case hd => rfl); (case hg => rfl); (case hr => (go_simp; done)); intro gb210 hg w67 hbox hb; have BK210 := ah.mk (hbox); have GW210 := ah.mk (ge_ hg (aA HB.out)); have GE210 := ah.mk (ge_ hg (aA HB.out)); replace HB := ah.mk (au HB.out hb); clear hb hbox hg) | ((with_reducible refine bB (N := 3) rfl ?_); refine bG ?hg (N := 3) ?hd (cs := #[.string a1_0, .int .i64 a1_1, .int .i64 a1_2, .int .i64 a1_3, .string a1_4]) (t := 44) ?hr ?_; (case hd => rfl); (case hg => rfl); (case hr => (go_simp; done)); intro gb211 hg w68 hbox hb; have BK211 := ah.mk (hbox); have GW211 := ah.mk (ge_ hg (aA HB.out)); have GE211 := ah.mk (ge_ hg (aA HB.out)); have NB210_211 := ah.mk (nl_ hg (by ((exact BK210.out)))); have NB211_210 := ah.mk (nr_ hg (by ((exact BK210.out)))); replace BK210 := ah.mk (ay (by ((exact BK210.out))) hb); replace HB := ah.mk (au HB.out hb); clear hb hbox hg; have hnb69 := NB211_210.out; have hnc69 := NB210_211.out; obtain ⟨hcz70_0, hcz70_1, hcz70_2, hcz70_3, hcz70_4, hfz70_0, hfz70_1, hfz70_2, hfz70_3, hfz70_4⟩ := z5_ BK211.out))
   go_ret
   exact ⟨by rfl, HB.out⟩
end Go.Y.PZh
namespace Go.Y.PZh
open Go.RowKit Go.V.aD Go.V.aN Go.V.aR Go.Y.Given Go.Y.PRd Go.Y.PRr Go.Y.PZo Go.Y.PZf Go.Y.PZe
attribute [local go_sem] dn dh dJ dK bU bT cZ dw   -- for this text's walks alone
noncomputable def iV.l0 : Nat → List (S44) → List (S44) → Int → Int → Option (Bool)
 | 0, _, _, _, _ => none
 | k + 1, x1, x15, x16, x17 => if x17 < x16 then (if 0 ≤ x17 then (if x17 < (x15.length : Int) then (if x17 < (x1.length : Int) then ((gq.f ((aj x15 x17).f0) ((aj x15 x17).f1) ((aj x15 x17).f2) ((aj x15 x17).f3) ((aj x15 x17).f4) ((aj x1 x17).f0) ((aj x1 x17).f1) ((aj x1 x17).f2) ((aj x1 x17).f3) ((aj x1 x17).f4)).bind fun t226 => (if t226 = true then (iV.l0 k x1 x15 x16 (wrap64 (x17 + 1))) else (some false))) else (none)) else (none)) else (none)) else (some true)
noncomputable def iV.f (k : Nat) (l0 : List (S44)) (l1 : List (S44)) (a2 : Int) : Option (Bool) := if (l0.length : Int) = (l1.length : Int) then (iV.l0 k l1 l0 (l0.length : Int) 0) else (some false)
theorem iV.calls (k : Nat) (A0 : Option Addr) (c0 : Nat) (l0 : List (S44)) (A1 : Option Addr) (c1 : Nat) (l1 : List (S44)) (a2 : Int) (r : Bool) (w : World) (hr0 : Kd.C k44 w A0 l0.length l0) (hc0 : l0.length ≤ c0) (hr1 : Kd.C k44 w A1 l1.length l1) (hc1 : l1.length ≤ c1) (h : iV.f k l0 l1 a2 = some r) :
    Calls Tryz.prog 93 #[.slice A0 l0.length c0, .slice A1 l1.length c1, .func (.func 94) #[] #[]] w fun e w' => e = .returned (.bool r) ∧ Below w.heap.size w w' := by
  have hu44 := Tryz.underlying44
  have HR0 := ah.mk hr0
  have HC0 := ah.mk hc0
  clear hr0 hc0
  have HR1 := ah.mk hr1
  have HC1 := ah.mk hc1
  clear hr1 hc1
  have HB := ah.mk (Below.refl w.heap.size w)
  have H : (if (l0.length : Int) = (l1.length : Int) then (iV.l0 k l1 l0 (l0.length : Int) 0) else (some false)) = some r := h
  clear h
  by_cases c4 : (l0.length : Int) = (l1.length : Int)
  ·rw [if_pos c4] at H
   have c4b0 : ((l0.length : Int) == (l1.length : Int)) = true := beq_iff_eq.mpr c4
   have c4b1 : ((l0.length : Int) != (l1.length : Int)) = false := bne_eq_false_iff_eq.mpr c4
   have c4b2 : (l0.length == l1.length) = true := by (simp at c4 ⊢; omega)
   clear c4
   have H' := ah.mk H
   clear H
   go_enter Tryz.func93, Tryz.ntmps93
   go_wp2
   go_loopg [17] k (fun kq v17 w' => ∃ (x17_1 : Int), v17 = .int .i64 x17_1 ∧ ah (iV.l0 kq l1 l0 (l0.length : Int) x17_1 = some r) ∧ ah (kq ≤ k) ∧ ah (Below w.heap.size w w'))
   case atStart => exact ⟨(0), (by rfl), H', ⟨Nat.le_refl _⟩, ⟨HB.out⟩⟩
   case round =>
    clear H'
    (try clear c4b0)
    (try clear c4b1)
    (try clear c4b2)
    obtain ⟨x17_1, rfl, HA, HK1, HB⟩ := hrel
    cases gk with
    | zero => exact absurd HA.out (by simp [iV.l0])
    | succ k1 =>
     have H := HA.out
     clear HA
     simp only [iV.l0] at H
     by_cases c5 : x17_1 < (l0.length : Int)
     ·rw [if_pos c5] at H
      have c5b0 : decide (x17_1 < (l0.length : Int)) = true := decide_eq_true c5
      clear c5
      obtain ⟨c6b0, H⟩ := dL H
      obtain ⟨c7b0, H⟩ := dL H
      obtain ⟨c8b0, H⟩ := dL H
      obtain ⟨t226, A9, H⟩ := bR H
      by_cases c10 : t226 = true
      focus
       subst c10
       rw [if_pos rfl] at H
       have H' := ah.mk H
       clear H
      rotate_left
      focus
       replace c10 := Bool.eq_false_iff.mpr c10
       subst c10
       rw [if_neg ff_] at H
       obtain rfl := Option.some.inj H
      rotate_left
      all_goals
       have p222 : 0 ≤ (x17_1 : Int) := of_decide_eq_true (by assumption)
       have q222 : x17_1 < (l0.length : Int) := of_decide_eq_true (by assumption)
       obtain ⟨ad222, e222, hx222_0, hx222_1, hx222_2, hx222_3, hx222_4⟩ := dU HR0.out x17_1 p222 q222
       cases e222
       replace hx222_0 := kp_ HB.out hx222_0
       replace hx222_1 := kp_ HB.out hx222_1
       replace hx222_2 := kp_ HB.out hx222_2
       replace hx222_3 := kp_ HB.out hx222_3
       replace hx222_4 := kp_ HB.out hx222_4
       replace p222 := eq_true p222
       replace q222 := eq_true q222
       go_wp2_with (first | ((with_reducible refine bB (N := 8) rfl ?_); refine bG ?hg (N := 8) ?hd (cs := #[.string (⟨#[]⟩ : ByteArray), .int .i64 0, .int .i64 0, .int .i64 0, .string (⟨#[]⟩ : ByteArray)]) (t := 44) ?hr ?_; (case hd => rfl); (case hg => rfl); (case hr => (go_simp; done)); intro gb223 hg w11 hbox hb; have BK223 := ah.mk (hbox); have GW223 := ah.mk (ge_ hg (aA HB.out)); have GE223 := ah.mk (ge_ hg (aA HB.out)); replace HB := ah.mk (au HB.out hb); clear hb hbox hg; obtain ⟨hcz12_0, hcz12_1, hcz12_2, hcz12_3, hcz12_4, hfz12_0, hfz12_1, hfz12_2, hfz12_3, hfz12_4⟩ := z5_ BK223.out; have p224 : 0 ≤ (x17_1 : Int) := of_decide_eq_true (by assumption); have q224 : x17_1 < (l1.length : Int) := of_decide_eq_true (by assumption); obtain ⟨ad224, e224, hx224_0, hx224_1, hx224_2, hx224_3, hx224_4⟩ := dU HR1.out x17_1 p224 q224; cases e224; have hn224_0 : ad224.block ≠ gb223 := Nat.ne_of_lt (Nat.lt_of_lt_of_le (by have := World.block_lt_of_cell? _ _ hx224_0; (rwa [add_block] at this)) GW223.out); have hn224_1 : ad224.block ≠ gb223 := Nat.ne_of_lt (Nat.lt_of_lt_of_le (by have := World.block_lt_of_cell? _ _ hx224_0; (rwa [add_block] at this)) GW223.out); have hn224_2 : ad224.block ≠ gb223 := Nat.ne_of_lt (Nat.lt_of_lt_of_le (by have := World.block_lt_of_cell? _ _ hx224_0; (rwa [add_block] at this)) GW223.out); have hn224_3 : ad224.block ≠ gb223 := Nat.ne_of_lt (Nat.lt_of_lt_of_le (by have := World.block_lt_of_cell? _ _ hx224_0; (rwa [add_block] at this)) GW223.out); have hn224_4 : ad224.block ≠ gb223 := Nat.ne_of_lt (Nat.lt_of_lt_of_le (by have := World.block_lt_of_cell? _ _ hx224_0; (rwa [add_block] at this)) GW223.out); replace hx224_0 := kp_ HB.out hx224_0; replace hx224_1 := kp_ HB.out hx224_1; replace hx224_2 := kp_ HB.out hx224_2; replace hx224_3 := kp_ HB.out hx224_3; replace hx224_4 := kp_ HB.out hx224_4; replace hx224_0 := (cell_far (p := ⟨gb223, 0, none⟩) (by (rw [add_block]; exact hn224_0)) (.string ((aj l0 x17_1).f0))).trans hx224_0; replace hx224_1 := (cell_far (p := ⟨gb223, 0, none⟩) (by (rw [add_block]; exact hn224_0)) (.string ((aj l0 x17_1).f0))).trans hx224_1; replace hx224_2 := (cell_far (p := ⟨gb223, 0, none⟩) (by (rw [add_block]; exact hn224_0)) (.string ((aj l0 x17_1).f0))).trans hx224_2; replace hx224_3 := (cell_far (p := ⟨gb223, 0, none⟩) (by (rw [add_block]; exact hn224_0)) (.string ((aj l0 x17_1).f0))).trans hx224_3; replace hx224_4 := (cell_far (p := ⟨gb223, 0, none⟩) (by (rw [add_block]; exact hn224_0)) (.string ((aj l0 x17_1).f0))).trans hx224_4; replace hx224_0 := (cell_far (p := ⟨gb223, 1, none⟩) (by (rw [add_block]; exact hn224_1)) (.int .i64 ((aj l0 x17_1).f1))).trans hx224_0; replace hx224_1 := (cell_far (p := ⟨gb223, 1, none⟩) (by (rw [add_block]; exact hn224_1)) (.int .i64 ((aj l0 x17_1).f1))).trans hx224_1; replace hx224_2 := (cell_far (p := ⟨gb223, 1, none⟩) (by (rw [add_block]; exact hn224_1)) (.int .i64 ((aj l0 x17_1).f1))).trans hx224_2; replace hx224_3 := (cell_far (p := ⟨gb223, 1, none⟩) (by (rw [add_block]; exact hn224_1)) (.int .i64 ((aj l0 x17_1).f1))).trans hx224_3; replace hx224_4 := (cell_far (p := ⟨gb223, 1, none⟩) (by (rw [add_block]; exact hn224_1)) (.int .i64 ((aj l0 x17_1).f1))).trans hx224_4; replace hx224_0 := (cell_far (p := ⟨gb223, 2, none⟩) (by (rw [add_block]; exact hn224_2)) (.int .i64 ((aj l0 x17_1).f2))).trans hx224_0; replace hx224_1 := (cell_far (p := ⟨gb223, 2, none⟩) (by (rw [add_block]; exact hn224_2)) (.int .i64 ((aj l0 x17_1).f2))).trans hx224_1; replace hx224_2 := (cell_far (p := ⟨gb223, 2, none⟩) (by (rw [add_block]; exact hn224_2)) (.int .i64 ((aj l0 x17_1).f2))).trans hx224_2; replace hx224_3 := (cell_far (p := ⟨gb223, 2, none⟩) (by (rw [add_block]; exact hn224_2)) (.int .i64 ((aj l0 x17_1).f2))).trans hx224_3; replace hx224_4 := (cell_far (p := ⟨gb223, 2, none⟩) (by (rw [add_block]; exact hn224_2)) (.int .i64 ((aj l0 x17_1).f2))).trans hx224_4; replace hx224_0 := (cell_far (p := ⟨gb223, 3, none⟩) (by (rw [add_block]; exact hn224_3)) (.int .i64 ((aj l0 x17_1).f3))).trans hx224_0; replace hx224_1 := (cell_far (p := ⟨gb223, 3, none⟩) (by (rw [add_block]; exact hn224_3)) (.int .i64 ((aj l0 x17_1).f3))).trans hx224_1; replace hx224_2 := (cell_far (p := ⟨gb223, 3, none⟩) (by (rw [add_block]; exact hn224_3)) (.int .i64 ((aj l0 x17_1).f3))).trans hx224_2; replace hx224_3 := (cell_far (p := ⟨gb223, 3, none⟩) (by (rw [add_block]; exact hn224_3)) (.int .i64 ((aj l0 x17_1).f3))).trans hx224_3; replace hx224_4 := (cell_far (p := ⟨gb223, 3, none⟩) (by (rw [add_block]; exact hn224_3)) (.int .i64 ((aj l0 x17_1).f3))).trans hx224_4; replace hx224_0 := (cell_far (p := ⟨gb223, 4, none⟩) (by (rw [add_block]; exact hn224_4)) (.string ((aj l0 x17_1).f4))).trans hx224_0; replace hx224_1 := (cell_far (p := ⟨gb223, 4, none⟩) (by (rw [add_block]; exact hn224_4)) (.string ((aj l0 x17_1).f4))).trans hx224_1; replace hx224_2 := (cell_far (p := ⟨gb223, 4, none⟩) (by (rw [add_block]; exact hn224_4)) (.string ((aj l0 x17_1).f4))).trans hx224_2; replace hx224_3 := (cell_far (p := ⟨gb223, 4, none⟩) (by (rw [add_block]; exact hn224_4)) (.string ((aj l0 x17_1).f4))).trans hx224_3; replace hx224_4 := (cell_far (p := ⟨gb223, 4, none⟩) (by (rw [add_block]; exact hn224_4)) (.string ((aj l0 x17_1).f4))).trans hx224_4; clear hn224_0; clear hn224_1; clear hn224_2; clear hn224_3; clear hn224_4; replace p224 := eq_true p224; replace q224 := eq_true q224) | ((with_reducible refine bB (N := 9) rfl ?_); refine bG ?hg (N := 9) ?hd (cs := #[.string (⟨#[]⟩ : ByteArray), .int .i64 0, .int .i64 0, .int .i64 0, .string (⟨#[]⟩ : ByteArray)]) (t := 44) ?hr ?_; (case hd => rfl); (case hg => rfl); (case hr => (go_simp; done)); intro gb225 hg w13 hbox hb; have BK225 := ah.mk (hbox); have GW225 := ah.mk ((by rw [hg]; exact (aA (by repeat ((with_reducible first | exact HB.out | refine bS ?_ GE223.out)))) : w.heap.size ≤ gb225)); have GE225 := ah.mk ((by rw [hg]; exact (aA (by repeat ((with_reducible first | exact HB.out | refine bS ?_ GE223.out)))) : w.heap.size ≤ gb225)); have NB223_225 := ah.mk ((by rw [hg]; exact Nat.ne_of_lt (eF (g := gb223) (o := .cells #[.string ((aj l0 x17_1).f0), .int .i64 ((aj l0 x17_1).f1), .int .i64 ((aj l0 x17_1).f2), .int .i64 ((aj l0 x17_1).f3), .string ((aj l0 x17_1).f4)] 44 (0, 0)) (by (with_reducible repeat ((refine ak ?_ _))); refine aM (cs := #[.string ((aj l0 x17_1).f0), .int .i64 ((aj l0 x17_1).f1), .int .i64 ((aj l0 x17_1).f2), .int .i64 ((aj l0 x17_1).f3), .string (⟨#[]⟩ : ByteArray)]) ?_ 4 _ rfl; (with_reducible repeat ((refine ak ?_ _))); refine aM (cs := #[.string ((aj l0 x17_1).f0), .int .i64 ((aj l0 x17_1).f1), .int .i64 ((aj l0 x17_1).f2), .int .i64 0, .string (⟨#[]⟩ : ByteArray)]) ?_ 3 _ rfl; (with_reducible repeat ((refine ak ?_ _))); refine aM (cs := #[.string ((aj l0 x17_1).f0), .int .i64 ((aj l0 x17_1).f1), .int .i64 0, .int .i64 0, .string (⟨#[]⟩ : ByteArray)]) ?_ 2 _ rfl; (with_reducible repeat ((refine ak ?_ _))); refine aM (cs := #[.string ((aj l0 x17_1).f0), .int .i64 0, .int .i64 0, .int .i64 0, .string (⟨#[]⟩ : ByteArray)]) ?_ 1 _ rfl; (with_reducible repeat ((refine ak ?_ _))); refine aM (cs := #[.string (⟨#[]⟩ : ByteArray), .int .i64 0, .int .i64 0, .int .i64 0, .string (⟨#[]⟩ : ByteArray)]) ?_ 0 _ rfl; (with_reducible repeat ((refine ak ?_ _))); exact BK223.out)) : gb223 ≠ gb225)); have NB225_223 := ah.mk ((by rw [hg]; exact Nat.ne_of_gt (eF (g := gb223) (o := .cells #[.string ((aj l0 x17_1).f0), .int .i64 ((aj l0 x17_1).f1), .int .i64 ((aj l0 x17_1).f2), .int .i64 ((aj l0 x17_1).f3), .string ((aj l0 x17_1).f4)] 44 (0, 0)) (by (with_reducible repeat ((refine ak ?_ _))); refine aM (cs := #[.string ((aj l0 x17_1).f0), .int .i64 ((aj l0 x17_1).f1), .int .i64 ((aj l0 x17_1).f2), .int .i64 ((aj l0 x17_1).f3), .string (⟨#[]⟩ : ByteArray)]) ?_ 4 _ rfl; (with_reducible repeat ((refine ak ?_ _))); refine aM (cs := #[.string ((aj l0 x17_1).f0), .int .i64 ((aj l0 x17_1).f1), .int .i64 ((aj l0 x17_1).f2), .int .i64 0, .string (⟨#[]⟩ : ByteArray)]) ?_ 3 _ rfl; (with_reducible repeat ((refine ak ?_ _))); refine aM (cs := #[.string ((aj l0 x17_1).f0), .int .i64 ((aj l0 x17_1).f1), .int .i64 0, .int .i64 0, .string (⟨#[]⟩ : ByteArray)]) ?_ 2 _ rfl; (with_reducible repeat ((refine ak ?_ _))); refine aM (cs := #[.string ((aj l0 x17_1).f0), .int .i64 0, .int .i64 0, .int .i64 0, .string (⟨#[]⟩ : ByteArray)]) ?_ 1 _ rfl; (with_reducible repeat ((refine ak ?_ _))); refine aM (cs := #[.string (⟨#[]⟩ : ByteArray), .int .i64 0, .int .i64 0, .int .i64 0, .string (⟨#[]⟩ : ByteArray)]) ?_ 0 _ rfl; (with_reducible repeat ((refine ak ?_ _))); exact BK223.out)) : gb225 ≠ gb223)); replace BK223 := ah.mk (ay (g := gb223) (o := .cells #[.string ((aj l0 x17_1).f0), .int .i64 ((aj l0 x17_1).f1), .int .i64 ((aj l0 x17_1).f2), .int .i64 ((aj l0 x17_1).f3), .string ((aj l0 x17_1).f4)] 44 (0, 0)) (by (with_reducible repeat ((refine ak ?_ _))); refine aM (cs := #[.string ((aj l0 x17_1).f0), .int .i64 ((aj l0 x17_1).f1), .int .i64 ((aj l0 x17_1).f2), .int .i64 ((aj l0 x17_1).f3), .string (⟨#[]⟩ : ByteArray)]) ?_ 4 _ rfl; (with_reducible repeat ((refine ak ?_ _))); refine aM (cs := #[.string ((aj l0 x17_1).f0), .int .i64 ((aj l0 x17_1).f1), .int .i64 ((aj l0 x17_1).f2), .int .i64 0, .string (⟨#[]⟩ : ByteArray)]) ?_ 3 _ rfl; (with_reducible repeat ((refine ak ?_ _))); refine aM (cs := #[.string ((aj l0 x17_1).f0), .int .i64 ((aj l0 x17_1).f1), .int .i64 0, .int .i64 0, .string (⟨#[]⟩ : ByteArray)]) ?_ 2 _ rfl; (with_reducible repeat ((refine ak ?_ _))); refine aM (cs := #[.string ((aj l0 x17_1).f0), .int .i64 0, .int .i64 0, .int .i64 0, .string (⟨#[]⟩ : ByteArray)]) ?_ 1 _ rfl; (with_reducible repeat ((refine ak ?_ _))); refine aM (cs := #[.string (⟨#[]⟩ : ByteArray), .int .i64 0, .int .i64 0, .int .i64 0, .string (⟨#[]⟩ : ByteArray)]) ?_ 0 _ rfl; (with_reducible repeat ((refine ak ?_ _))); exact BK223.out) hb); replace HB := ah.mk (au (by repeat ((with_reducible first | exact HB.out | refine bS ?_ GE223.out))) hb); clear hb hbox hg; have hnb14 := NB225_223.out; have hnc14 := NB223_225.out; obtain ⟨hcz15_0, hcz15_1, hcz15_2, hcz15_3, hcz15_4, hfz15_0, hfz15_1, hfz15_2, hfz15_3, hfz15_4⟩ := z5_ BK225.out; obtain ⟨hcz16_0, hcz16_1, hcz16_2, hcz16_3, hcz16_4, hfz16_0, hfz16_1, hfz16_2, hfz16_3, hfz16_4⟩ := z5_ BK223.out) | ((with_reducible refine yY rfl ?_); refine Gx (some 29) rfl rfl Tryz.func94 (by kernel_rfl) rfl #[.agg #[.string ((aj l0 x17_1).f0), .int .i64 ((aj l0 x17_1).f1), .int .i64 ((aj l0 x17_1).f2), .int .i64 ((aj l0 x17_1).f3), .string ((aj l0 x17_1).f4)], .agg #[.string ((aj l1 x17_1).f0), .int .i64 ((aj l1 x17_1).f1), .int .i64 ((aj l1 x17_1).f2), .int .i64 ((aj l1 x17_1).f3), .string ((aj l1 x17_1).f4)]] rfl rfl (by (try simp only [mA_, mC_, mN_]); rfl) ?_; (with_reducible refine (gq.calls ((aj l0 x17_1).f0) ((aj l0 x17_1).f1) ((aj l0 x17_1).f2) ((aj l0 x17_1).f3) ((aj l0 x17_1).f4) ((aj l1 x17_1).f0) ((aj l1 x17_1).f1) ((aj l1 x17_1).f2) ((aj l1 x17_1).f3) ((aj l1 x17_1).f4) _ _ A9.out).mono ?_); rintro e w17 ⟨rfl, hb⟩; refine ⟨_, rfl, ?_⟩; replace BK223 := ah.mk (ay (g := gb223) (o := .cells #[.string ((aj l0 x17_1).f0), .int .i64 ((aj l0 x17_1).f1), .int .i64 ((aj l0 x17_1).f2), .int .i64 ((aj l0 x17_1).f3), .string ((aj l0 x17_1).f4)] 44 (0, 0)) (by (with_reducible repeat ((refine ak ?_ _))); refine aT ?_ NB223_225.out _; (with_reducible repeat ((refine ak ?_ _))); refine aT ?_ NB223_225.out _; (with_reducible repeat ((refine ak ?_ _))); refine aT ?_ NB223_225.out _; (with_reducible repeat ((refine ak ?_ _))); refine aT ?_ NB223_225.out _; (with_reducible repeat ((refine ak ?_ _))); refine aT ?_ NB223_225.out _; (with_reducible repeat ((refine ak ?_ _))); exact BK223.out) hb); replace BK225 := ah.mk (ay (g := gb225) (o := .cells #[.string ((aj l1 x17_1).f0), .int .i64 ((aj l1 x17_1).f1), .int .i64 ((aj l1 x17_1).f2), .int .i64 ((aj l1 x17_1).f3), .string ((aj l1 x17_1).f4)] 44 (0, 0)) (by (with_reducible repeat ((refine ak ?_ _))); refine aM (cs := #[.string ((aj l1 x17_1).f0), .int .i64 ((aj l1 x17_1).f1), .int .i64 ((aj l1 x17_1).f2), .int .i64 ((aj l1 x17_1).f3), .string (⟨#[]⟩ : ByteArray)]) ?_ 4 _ rfl; (with_reducible repeat ((refine ak ?_ _))); refine aM (cs := #[.string ((aj l1 x17_1).f0), .int .i64 ((aj l1 x17_1).f1), .int .i64 ((aj l1 x17_1).f2), .int .i64 0, .string (⟨#[]⟩ : ByteArray)]) ?_ 3 _ rfl; (with_reducible repeat ((refine ak ?_ _))); refine aM (cs := #[.string ((aj l1 x17_1).f0), .int .i64 ((aj l1 x17_1).f1), .int .i64 0, .int .i64 0, .string (⟨#[]⟩ : ByteArray)]) ?_ 2 _ rfl; (with_reducible repeat ((refine ak ?_ _))); refine aM (cs := #[.string ((aj l1 x17_1).f0), .int .i64 0, .int .i64 0, .int .i64 0, .string (⟨#[]⟩ : ByteArray)]) ?_ 1 _ rfl; (with_reducible repeat ((refine ak ?_ _))); refine aM (cs := #[.string (⟨#[]⟩ : ByteArray), .int .i64 0, .int .i64 0, .int .i64 0, .string (⟨#[]⟩ : ByteArray)]) ?_ 0 _ rfl; (with_reducible repeat ((refine ak ?_ _))); exact BK225.out) hb); replace HB := ah.mk (au (by repeat ((with_reducible first | exact HB.out | refine bS ?_ GE225.out))) hb); (try clear hb)))
      ·go_roundg k1
       case measure => have := HK1.out; omega
       case rel => exact ⟨(wrap64 (x17_1 + 1)), (by rfl), H', ⟨by have := HK1.out; omega⟩, ⟨HB.out⟩⟩
      ·go_ret
       exact ⟨by rfl, HB.out⟩
     ·rw [if_neg c5] at H
      have c5b0 : decide (x17_1 < (l0.length : Int)) = false := decide_eq_false c5
      clear c5
      obtain rfl := Option.some.inj H
      go_wp2
      go_ret
      exact ⟨by rfl, HB.out⟩
  ·rw [if_neg c4] at H
   have c4b0 : ((l0.length : Int) == (l1.length : Int)) = false := beq_eq_false_iff_ne.mpr c4
   have c4b1 : ((l0.length : Int) != (l1.length : Int)) = true := bne_iff_ne.mpr c4
   have c4b2 : (l0.length == l1.length) = false := by (simp at c4 ⊢; omega)
   obtain rfl := Option.some.inj H
   go_enter Tryz.func93, Tryz.ntmps93
   go_wp2
   go_ret
   exact ⟨by rfl, HB.out⟩
noncomputable def jH.f (k : Nat) (l0 : List (S44)) (l1 : List (S44)) : Option (Bool) := (iY.f l0).bind fun t227 => ((iY.f l1).bind fun t230 => ((iV.f k t227 t230 7770094).bind fun t233 => (some t233)))
theorem jH.calls (k : Nat) (A0 : Option Addr) (c0 : Nat) (l0 : List (S44)) (A1 : Option Addr) (c1 : Nat) (l1 : List (S44)) (r : Bool) (w : World) (hr0 : Kd.C k44 w A0 l0.length l0) (hc0 : l0.length ≤ c0) (hr1 : Kd.C k44 w A1 l1.length l1) (hc1 : l1.length ≤ c1) (h : jH.f k l0 l1 = some r) :
  Calls Tryz.prog 59 #[.slice A0 l0.length c0, .slice A1 l1.length c1] w fun e w' => e = .returned (.bool r) ∧ Below w.heap.size w w' := by
 have HR0 := ah.mk hr0
 have HC0 := ah.mk hc0
 clear hr0 hc0
 have HR1 := ah.mk hr1
 have HC1 := ah.mk hc1
 clear hr1 hc1
 have HB := ah.mk (Below.refl w.heap.size w)
 have H : ((iY.f l0).bind fun t227 => ((iY.f l1).bind fun t230 => ((iV.f k t227 t230 7770094).bind fun t233 => (some t233)))) = some r := h
 clear h
 obtain ⟨t227, A3, H⟩ := bR H
 obtain ⟨t230, A4, H⟩ := bR H
 obtain ⟨t233, A5, H⟩ := bR H
 obtain rfl := Option.some.inj H
 go_enter Tryz.func59, Tryz.ntmps59
 go_wp2_with (first | ((with_reducible refine bF (f := 40) rfl ?_); refine dM (some 6) rfl rfl Tryz.func40 (by kernel_rfl) rfl #[.slice A0 l0.length c0] rfl (by (try simp only [mA_, mC_, mN_]); rfl) ?_; (with_reducible refine (iY.calls _ _ l0 t227 _ ?side1 ?side2 A3.out).mono ?_); (case side1 => repeat ((exact HR0.out))); (case side2 => exact HC0.out); rintro e w6 ⟨v228, rfl, ho0, hb⟩; refine ⟨_, rfl, ?_⟩; have HO229 := ah.mk (Kd.bX ho0 (aA HB.out)); replace HB := ah.mk (au HB.out hb); (try clear hb); (try clear ho0)) | ((with_reducible refine bF (f := 40) rfl ?_); refine dM (some 8) rfl rfl Tryz.func40 (by kernel_rfl) rfl #[.slice A1 l1.length c1] rfl (by (try simp only [mA_, mC_, mN_]); rfl) ?_; (with_reducible refine (iY.calls _ _ l1 t230 _ ?side1 ?side2 A4.out).mono ?_); (case side1 => repeat ((exact (Kd.fH HR1.out HB.out)))); (case side2 => exact HC1.out); rintro e w7 ⟨v231, rfl, ho0, hb⟩; refine ⟨_, rfl, ?_⟩; have HO232 := ah.mk (Kd.bX (Kd.eH ho0 (Kd.gW (by ((exact HO229.out))))) (aA HB.out)); replace HO229 := ah.mk (Kd.dI (by ((exact HO229.out))) (Kd.eB ho0) hb); replace HB := ah.mk (au HB.out hb); (try clear hb); (try clear ho0); obtain ⟨Ao8, co8, eo8⟩ := Kd.bY HO229.out; subst eo8; obtain ⟨Ao9, co9, eo9⟩ := Kd.bY HO232.out; subst eo9) | ((with_reducible refine bF (f := 93) rfl ?_); refine dM (some 9) rfl rfl Tryz.func93 (by kernel_rfl) rfl #[.slice Ao8 t227.length co8, .slice Ao9 t230.length co9, .func (.func 94) #[] #[]] rfl (by (try simp only [mA_, mC_, mN_]); rfl) ?_; (with_reducible refine (iV.calls k _ _ t227 _ _ t230 7770094 t233 _ ?side1 ?side2 ?side3 ?side4 A5.out).mono ?_); (case side1 => repeat ((exact (Kd.aK HO229.out).2.2))); (case side2 => exact (Kd.aK HO229.out).2.1); (case side3 => repeat ((exact (Kd.aK HO232.out).2.2))); (case side4 => exact (Kd.aK HO232.out).2.1); rintro e w10 ⟨rfl, hb⟩; refine ⟨_, rfl, ?_⟩; replace HO229 := ah.mk (Kd.aY (by ((exact HO229.out))) hb); replace HO232 := ah.mk (Kd.aY (by ((exact HO232.out))) hb); replace HB := ah.mk (au HB.out hb); (try clear hb)))
 go_ret
 exact ⟨by rfl, HB.out⟩
end Go.Y.PZh
