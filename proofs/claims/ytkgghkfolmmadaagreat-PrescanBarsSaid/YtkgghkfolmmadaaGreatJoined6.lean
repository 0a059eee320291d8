/- Contracts and facts that the claim's row is drawn from, each with its own conditions. -/
import Derived.Test.YtkgghkfolmmadaaGreatJoined5
import Derived.Deep.Slices
import Derived.Deep.Fields
import Derived.ProofKit
set_option linter.unusedSimpArgs false
set_option linter.unusedVariables false
set_option maxHeartbeats 8000000
set_option maxRecDepth 100000
open Go.Proofs Go.RowKit
namespace Go.Y.Rrs
open Go.Proofs.aj.aA Go.Proofs.aj.aM Go.Proofs.aj.aN Go.Y.Given Go.Y.PRd Go.Y.PRr Go.Y.PZo Go.Y.PZf Go.Y.PZh Go.Y.PPo Go.Y.PPs Go.Y.Oct Go.Y.Name Go.Y.dX Go.Y.dL Go.Y.dh
def iT (a : ByteArray) (r : RR) : Int :=
 if ji r.f0 a = true then (if r.f2 = 255 then (if r.f4.toList = [] then (if r.f3 = 0 then (if (nH r.f1 || r.f1 == 255) = true then 0 else 1) else 1) else 1)
  else if r.f2 = 254 then (if r.f3 = 0 then (if nH r.f1 = true then 0 else 1) else 1) else if r.f2 = 1 then (if nH r.f1 = true then 0 else 1) else 1) else 10
theorem zn (b : Bool) (r : RR) : Ev (fun k => dO.j0 k b r.f0 r.f1 r.f2 r.f3 r.f4) (if r.f3 = 0 then (if b = true then 0 else 1) else 1) := by
 refine Ev.step (f := fun _ => if r.f3 = 0 then (if b = true then some 0 else some 1) else some 1) (fun k => by rw [dO.j0]) ?_
 by_cases h : r.f3 = 0
 ·simp only [if_pos h]
  cases b
  ·exact Ev.now _
  ·exact Ev.now _
 ·simp only [if_neg h]; exact Ev.now _
theorem AJ (a : ByteArray) (s : List RR) (z : Int) (r : RR) : Ev (fun k => dO.f k a s z r.f0 r.f1 r.f2 r.f3 r.f4) (iT a r) := by
 unfold dO.f iT PPo.gX.f
 simp only [Option.bind_some]
 refine Ev.bind (Fq _ _) ?_
 cases ji r.f0 a
 ·simp only [Bool.false_eq_true, if_false]; exact Ev.now _
 ·simp only [if_true, Ao, Option.bind_some]
  by_cases h1 : r.f2 = 255
  ·simp only [if_pos h1]
   by_cases h2 : r.f4.toList = []
   ·simp only [if_pos h2]
    cases nH r.f1
    ·simp only [Bool.false_eq_true, if_false, Bool.false_or]; exact zn _ r
    ·simp only [if_true, Bool.true_or]; exact zn true r
   ·simp only [if_neg h2]; exact Ev.now _
  ·simp only [if_neg h1]
   by_cases h2 : r.f2 = 254
   ·simp only [if_pos h2]; exact zn _ r
   ·simp only [if_neg h2]
    by_cases h3 : r.f2 = 1
    ·simp only [if_pos h3]
     cases nH r.f1
     ·exact Ev.now _
     ·exact Ev.now _
    ·simp only [if_neg h3]; exact Ev.now _
theorem Em {a : ByteArray} {r : RR} (h : iT a r = 0) : bB r.f0 = true ∧ ji r.f0 a = true := by
 unfold iT at h
 split at h
 ·rename_i hu
  refine ⟨?_, hu⟩
  cases hr : bB r.f0
  ·rw [wR (.inl hr)] at hu; cases hu
  ·rfl
 ·omega
def mO (a : ByteArray) : List RR → Int
 | [] => 0
 | r :: l => if iT a r = 0 then mO a l else iT a r
theorem Ah (a : ByteArray) (s : List RR) (z : Int) (l : List RR) (hn : l.length ≤ 1000000) : ∀ (d i : Nat), l.length ≤ i + d → i ≤ l.length → Ev (fun k => bU.l0 k l (l.length : Int) (i : Int) a s z) (mO a (l.drop i)) := by
 have hend : ∀ i : Nat, l.length ≤ i → Ev (fun k => bU.l0 k l (l.length : Int) (i : Int) a s z) (mO a (l.drop i)) := by
  intro i hd
  rw [List.drop_of_length_le hd]
  exact Ev.step (f := fun _ => some 0) (fun k => by rw [bU.l0]; rw [if_neg (by omega)]) (Ev.now _)
 intro d
 induction d with
 | zero => exact fun i hd hi => hend i (by omega)
 | succ d ih =>
  intro i hd hi0
  by_cases hi : i < l.length
  ·have e1 : wrap64 ((i : Int) + 1) = ((i + 1 : Nat) : Int) := by unfold wrap64; omega
   have hs : ∀ k, bU.l0 (k + 1) l (l.length : Int) (i : Int) a s z = (dO.f k a s z (rdR l (i : Int)).f0 (rdR l (i : Int)).f1 (rdR l (i : Int)).f2 (rdR l (i : Int)).f3 (rdR l (i : Int)).f4).bind fun t => if t = 0 then bU.l0 k l (l.length : Int) ((i + 1 : Nat) : Int) a s z else some t := fun k => by
    rw [bU.l0, e1]; rw [if_pos (by omega), if_pos (by omega), if_pos (by omega)]
   rw [fB l i hi] at hs
   refine Ev.step hs (Ev.bind (AJ _ _ _ _) ?_)
   rw [List.drop_eq_getElem_cons hi, mO]
   by_cases h0 : iT a l[i] = 0
   ·simp only [if_pos h0]; exact ih (i + 1) (by omega) (by omega)
   ·simp only [if_neg h0]; exact Ev.now _
  ·exact hend i (by omega)
theorem xw (a : ByteArray) (s : List RR) (z : Int) (l : List RR) (hn : l.length ≤ 1000000) : Ev (fun k => bU.f k a s z l) (mO a l) := by
 have := Ah a s z l hn l.length 0 (by omega) (Nat.zero_le _)
 rw [List.drop_zero] at this
 exact this
def EM (a : ByteArray) (l : List RR) : List ByteArray := (l.filter fun x => iT a x == 0).map fun x => gF x.f0
noncomputable def zF (a : ByteArray) (l : List RR) : List ByteArray := oK (EM a l)
theorem AP {p : Nat → RR → Option Int} {b : RR → Int} : ∀ (l : List RR), (∀ x ∈ l, Ev (fun k => p k x) (b x)) → ∃ K, ∀ k, K ≤ k → ∀ x ∈ l, p k x = some (b x)
 | [], _ => ⟨0, fun k _ x hx => by cases hx⟩
 | y :: l, h => by
  obtain ⟨K, hK⟩ := AP l fun x hx => h x (List.mem_cons_of_mem _ hx)
  obtain ⟨K', hK'⟩ := h y (List.mem_cons_self ..)
  refine ⟨max K K', fun k hk x hx => ?_⟩
  rcases List.mem_cons.mp hx with rfl | hx
  ·exact hK' k (by omega)
  ·exact hK k (by omega) x hx
theorem Cq (a : ByteArray) (s : List RR) (z : Int) (l : List RR) (hn : l.length ≤ 1000000) : Ev (fun k => bQ.f k a s z l) (zF a l) := by
 obtain ⟨K, hK⟩ := AP (p := fun k x => dO.f k a s z x.f0 x.f1 x.f2 x.f3 x.f4) (b := iT a) l fun x _ => AJ a s z x
 refine ⟨K, fun k hk => ?_⟩
 have hm : CK k a s z l := ⟨hn, fun x hx => ⟨iT a x, hK k hk x hx, fun h0 => (Em h0).1⟩⟩
 have hl : lV k a s z l = l.filter fun x => iT a x == 0 := by
  unfold lV
  exact List.filter_congr fun x hx => by rw [hK k hk x hx]; rfl
 show bQ.f k a s z l = _
 unfold bQ.f
 rw [if_pos hm, hl]
 rfl
abbrev lrp : RR := ⟨(⟨#[1, 98, 1, 97, 0]⟩ : ByteArray), 255, 1, 0, (⟨#[]⟩ : ByteArray)⟩
theorem Bt : mO lra [lrp] = 1 := by
 have hu : ji lrp.f0 lra = true := by
  have h := um lrp.f0 lra 300 (Nat.le_refl _)
  have h2 := oG (fun k => bf.mono lrp.f0 lra k) (show 20 ≤ 300 by omega) (r := true) (by kernel_rfl)
  rw [h2] at h; exact (Option.some.inj h).symm
 have h1 : iT lra lrp = 1 := by
  unfold iT
  rw [if_pos hu, if_neg (by decide), if_neg (by decide), if_pos rfl]
  decide
 rw [mO, h1]; rfl
theorem uT : Ev (fun k => dU.f k) true := by
 unfold dU.f PPs.eO.f
 simp only [Option.bind_some]
 refine Ev.bind Gb ?_
 simp only [if_true]
 rw [JY _ _ _ (by simp)]
 simp only [Option.bind_some]
 have hc := xw lra [lr0, lr1] (qF [lr0, lr1]) [lrp] (by simp)
 rw [Bt] at hc
 have hl : ((([lr0, lr1] : List RR).length : Int) = 2) = True := eq_true rfl
 simp only [hl, if_true]
 exact Ev.bind hc (Ev.now _)
end Go.Y.Rrs
namespace Go.Y.jV
open Go.ChangeShapes Go.WideShapes Go.Deep Go.Proofs.aj.aA
section
variable {H : Type} {enc : TypeId × Value → H} {P : Program} {W : World} {base : Nat} {spare : Nat → Bool} {held : Bool}
theorem fields_of {e : TypeId} {fs : Array Field} {fuel : Nat} {cs : List Value} {x : DataW H × List MemPlace} (he : P.underlying e = some (.struct fs)) (hone : oneCellFields P fs = true) (hC : P.cellsOf e = fs.size)
  (h : DataW.trod enc P W base spare held fuel e cs = some x) : cs.length = fs.size ∧ ∃ n, ∀ (j : Nat) (f : Field), fs[j]? = some f → ∃ v y, cs[j]? = some v ∧ DataW.trod enc P W base spare held n f.type [v] = some y := by
 obtain ⟨ys, n, _, _, hl, hyl, hf⟩ := DataW.trod_struct he h
 refine ⟨hl.trans hC, n, fun j f hj => ?_⟩
 obtain ⟨ho, hk⟩ := hone_of hone j f hj
 have hjl : j < fs.size := (Array.getElem?_eq_some_iff.1 hj).1
 have hcl : j < cs.length := by omega
 have hyj : j < ys.length := by omega
 have h1 := hf j f hj
 rw [ho, hk, List.drop_eq_getElem_cons hcl, List.take_succ_cons, List.take_zero] at h1
 exact ⟨cs[j], ys[j], List.getElem?_eq_getElem hcl, h1.trans (List.getElem?_eq_getElem hyj)⟩
theorem Jg {S : Type} (n : Nat) (R : Nat → S → Prop) (h : ∀ i, i < n → ∃ s, R i s) : ∃ l : List S, l.length = n ∧ ∀ i s, l[i]? = some s → R i s := by
 induction n with
 | zero => exact ⟨[], rfl, fun i s hs => by simp at hs⟩
 | succ n ih =>
  obtain ⟨l, hl, hr⟩ := ih fun i hi => h i (by omega)
  obtain ⟨s, hs⟩ := h n (by omega)
  refine ⟨l ++ [s], by simp [hl], fun i t ht => ?_⟩
  by_cases hi : i < n
  ·rw [List.getElem?_append_left (by omega)] at ht; exact hr i t ht
  ·rw [List.getElem?_append_right (by omega)] at ht
   by_cases e : i = n
   ·subst e; rw [hl, Nat.sub_self] at ht; simp at ht; subst ht; exact hs
   ·rw [List.getElem?_eq_none (by simp; omega)] at ht; cases ht
theorem BO {S : Type} (k : Kd S) (good : S → Prop) {t e : TypeId} {a : Option Addr} {len cap : Nat} {d : DataW H} {ps : List MemPlace} (hu : P.underlying t = some (.slice e)) (hC : P.cellsOf e = k.sz) (hpos : 0 < k.sz)
  (open1 : ∀ fuel cs x, DataW.trod enc P W base spare held fuel e cs = some x → ∃ s, k.K W s cs ∧ good s) (h : DataW.Trod enc P W base spare held t (.slice a len cap) d ps) :
  ∃ l : List S, len = l.length ∧ Kd.C k W a l.length l ∧ l.length ≤ cap ∧ l.length ≤ maxLen ∧ ∀ s ∈ l, good s := by
 obtain ⟨fuel, hf⟩ := h
 rcases open_slice hu hf with ⟨hcs, _⟩ | ⟨x, l, c, m, n, D, Pl, hcs, _, hl, hm, hmm, _, hi⟩
 ·simp [Value.cells] at hcs
  obtain ⟨rfl, rfl, rfl⟩ := hcs
  exact ⟨[], rfl, Kd.Kl _ _, Nat.le_refl _, Nat.zero_le _, by simp⟩
 ·simp [Value.cells] at hcs
  obtain ⟨rfl, rfl, rfl⟩ := hcs
  have hlm : len ≤ m := by rw [hmm]; split <;> omega
  obtain ⟨L, hL, hR⟩ := Jg len (fun i s => good s ∧ ∃ cs', k.K W s cs' ∧ cs'.length = k.sz ∧ ∀ j u, cs'[j]? = some u → W.cell? (x.add (i * k.sz + j)) = some u) (fun i hi' => by
   obtain ⟨cs', hc, ht⟩ := hi i (by omega)
   obtain ⟨s, hs, hg⟩ := open1 _ _ _ ht
   rw [hC] at hc
   obtain ⟨_, hcl, hat⟩ := World.cells?_some hc
   refine ⟨s, hg, cs', hs, hcl, fun j u hj => ?_⟩
   have hjl : j < k.sz := by rw [← hcl]; exact (List.getElem?_eq_some_iff.1 hj).1
   have := hat j hjl
   rw [← Go.Deep.add_add]; rw [this]; exact hj)
  refine ⟨L, hL.symm, ⟨rfl, by unfold maxLen at hm; omega, fun _ => ⟨x, rfl, fun j p hp => ?_⟩⟩, by omega, by omega, fun s hs => ?_⟩
  ·obtain ⟨_, c, h1, h2, h3⟩ := hR j p hp
   exact ⟨c, h2, h1, h3⟩
  ·obtain ⟨i, hi', he⟩ := List.getElem_of_mem hs
   exact (hR i s (by rw [List.getElem?_eq_getElem hi', he])).1
end
end Go.Y.jV
namespace Go.Y.jV
open Go.ChangeShapes Go.WideShapes Go.Deep Go.Proofs.aj.aA Go.Y.PRd Go.Y.PRr
structure pR (s : S28) : Prop where
 n0 : s.f0.size ≤ maxLen
 n4 : s.f4.size ≤ maxLen
 i1 : (Lit.int .i64 s.f1).wf = true
 i2 : (Lit.int .i64 s.f2).wf = true
 i3 : (Lit.int .i64 s.f3).wf = true
section
variable {H : Type} {enc : TypeId × Value → H} {W : World} {base : Nat} {spare : Nat → Bool} {held : Bool}
theorem Hl {fuel : Nat} {cs : List Value} {x : DataW H × List MemPlace} (h : DataW.trod enc Tryz.prog W base spare held fuel 28 cs = some x) : ∃ s : S28, cs = [.string s.f0, .int .i64 s.f1, .int .i64 s.f2, .int .i64 s.f3, .string s.f4] ∧ pR s := by
 obtain ⟨hl, n, hf⟩ := fields_of Tryz.underlying28 (by kernel_rfl) (by kernel_rfl) h
 obtain ⟨v0, y0, c0, h0⟩ := hf 0 _ rfl
 obtain ⟨v1, y1, c1, h1⟩ := hf 1 _ rfl
 obtain ⟨v2, y2, c2, h2⟩ := hf 2 _ rfl
 obtain ⟨v3, y3, c3, h3⟩ := hf 3 _ rfl
 obtain ⟨v4, y4, c4, h4⟩ := hf 4 _ rfl
 obtain ⟨s, e0, _, g0⟩ := DataW.trod_string Tryz.underlying9 h0
 obtain ⟨a, e1, _, g1⟩ := DataW.trod_int Tryz.underlying3 h1
 obtain ⟨b, e2, _, g2⟩ := DataW.trod_int Tryz.underlying3 h2
 obtain ⟨c, e3, _, g3⟩ := DataW.trod_int Tryz.underlying3 h3
 obtain ⟨d, e4, _, g4⟩ := DataW.trod_string Tryz.underlying9 h4
 obtain rfl : v0 = .string s := by simpa using e0
 obtain rfl : v1 = .int .i64 a := by simpa using e1
 obtain rfl : v2 = .int .i64 b := by simpa using e2
 obtain rfl : v3 = .int .i64 c := by simpa using e3
 obtain rfl : v4 = .string d := by simpa using e4
 have : cs = [.string s, .int .i64 a, .int .i64 b, .int .i64 c, .string d] := by
  match cs, hl with
  | [p, q, r, t, u], _ => simp at c0 c1 c2 c3 c4; rw [c0, c1, c2, c3, c4]
 exact ⟨⟨s, a, b, c, d⟩, this, ⟨g0, g4, g1, g2, g3⟩⟩
theorem JH {t : TypeId} {a : Option Addr} {len cap : Nat} {d : DataW H} {ps : List MemPlace} (hu : Tryz.prog.underlying t = some (.slice 28)) (h : DataW.Trod enc Tryz.prog W base spare held t (.slice a len cap) d ps) :
  ∃ l : List S28, len = l.length ∧ Kd.C k28 W a l.length l ∧ l.length ≤ cap ∧ l.length ≤ maxLen ∧ ∀ s ∈ l, pR s :=
 BO k28 pR hu (by kernel_rfl) (by decide) (fun _ _ _ h => by
  obtain ⟨s, rfl, hg⟩ := Hl h
  exact ⟨s, Jt W s, hg⟩) h
theorem JJ {r : Reach} {b0 : Nat} {v : Value} {d : DataW H} {ps : List MemPlace} (hv : Value.okWide Tryz.prog W r b0 28 v) (h : DataW.Trod enc Tryz.prog W base spare held 28 v d ps) :
  ∃ s : S28, v = .agg #[.string s.f0, .int .i64 s.f1, .int .i64 s.f2, .int .i64 s.f3, .string s.f4] ∧ pR s := by
 obtain ⟨cs, rfl, _⟩ := okWide_struct Tryz.underlying28 hv
 obtain ⟨fuel, hf⟩ := h
 obtain ⟨s, e, hg⟩ := Hl hf
 refine ⟨s, ?_, hg⟩
 congr 1
 have e' : cs.toList = [.string s.f0, .int .i64 s.f1, .int .i64 s.f2, .int .i64 s.f3, .string s.f4] := by simpa [Value.cells] using e
 rw [← Array.toArray_toList (xs := cs), e']
end
end Go.Y.jV
namespace Go.Y.Pure
open Go.Proofs.aj.aA Go.Y.Given Go.Y.PRd Go.Y.PRr Go.Y.PZo Go.Y.PZf Go.Y.PZh Go.Y.PPo Go.Y.PPs Go.Y.Rrs Go.Y.jV Go.Y.dL Go.Y.Oct Go.Y.Name Go.Y.dX Go.Y.dh
abbrev exA : ByteArray := ⟨#[2, 101, 120, 0]⟩
end Go.Y.Pure
namespace Go.Y.PPs
open Go.Proofs.aj.aA Go.Proofs.aj.aM Go.Proofs.aj.aN Go.Y.Given Go.Y.PRd Go.Y.PRr Go.Y.PZo Go.Y.PZf Go.Y.PZe Go.Y.PZh Go.Y.PPo
attribute [local go_sem] dF dD dR dQ cB cK dH dG
noncomputable def bD.j0 : Nat → List (S28) → Bool → ByteArray → Int → Int → Int → ByteArray → Option (Bool)
 | 0, _, _, _, _, _, _, _ => none
 | k + 1, x0, x20, x217000, x217001, x217002, x217003, x217004 => if x20 = true then ((dU.f k).bind fun t223 => (some t223)) else ((bE.f k (⟨#[2, 101, 120, 0]⟩ : ByteArray) x0).bind fun bt224 => (if bt224.2.2.2 = 0 then ((bU.f k bt224.1 bt224.2.1 bt224.2.2.1 (([(⟨x217000, x217001, x217002, x217003, x217004⟩ : S28)] : List (S28)))).bind fun t234 => ((aH.f k x217000 (⟨#[2, 101, 120, 0]⟩ : ByteArray)).bind fun t235 => (if t235 = true then (if x217002 = 1 then ((bQ.f k bt224.1 bt224.2.1 bt224.2.2.1 (([(⟨x217000, x217001, x217002, x217003, x217004⟩ : S28)] : List (S28)))).bind fun t239 => (if ((t234 == 0) == ((t239.length : Int) == 1)) = true then (if t234 = 0 then (some true) else (some (t234 == 1))) else (some false))) else (if x217002 = 254 then ((bQ.f k bt224.1 bt224.2.1 bt224.2.2.1 (([(⟨x217000, x217001, x217002, x217003, x217004⟩ : S28)] : List (S28)))).bind fun t245 => (if ((t234 == 0) == ((t245.length : Int) == 1)) = true then (if t234 = 0 then (some true) else (some (t234 == 1))) else (some false))) else (if x217002 = 255 then ((bQ.f k bt224.1 bt224.2.1 bt224.2.2.1 (([(⟨x217000, x217001, x217002, x217003, x217004⟩ : S28)] : List (S28)))).bind fun t251 => (if ((t234 == 0) == ((t251.length : Int) == 1)) = true then (if t234 = 0 then (some true) else (some (t234 == 1))) else (some false))) else (some (t234 == 1))))) else (if t234 = 10 then ((bQ.f k bt224.1 bt224.2.1 bt224.2.2.1 (([(⟨x217000, x217001, x217002, x217003, x217004⟩ : S28)] : List (S28)))).bind fun t257 => (some ((t257.length : Int) == 0))) else (some false))))) else (some true)))
noncomputable def bD.f (k : Nat) (l0 : List (S28)) (a1_0 : ByteArray) (a1_1 : Int) (a1_2 : Int) (a1_3 : Int) (a1_4 : ByteArray) : Option (Bool) := (dU.f k).bind fun t217 => (if t217 = true then ((bg.f k l0).bind fun t218 => (if t218 = true then ((aT.f k (([(⟨a1_0, a1_1, a1_2, a1_3, a1_4⟩ : S28)] : List (S28)))).bind fun t222 => (bD.j0 k l0 (!t222) a1_0 a1_1 a1_2 a1_3 a1_4)) else (bD.j0 k l0 true a1_0 a1_1 a1_2 a1_3 a1_4))) else (bD.j0 k l0 true a1_0 a1_1 a1_2 a1_3 a1_4))
theorem bD.calls (k : Nat) (A0 : Option Addr) (c0 : Nat) (l0 : List (S28)) (a1_0 : ByteArray) (a1_1 : Int) (a1_2 : Int) (a1_3 : Int) (a1_4 : ByteArray) (r : Bool) (w : World) (hr0 : Kd.C k28 w A0 l0.length l0) (hc0 : l0.length ≤ c0) (h : bD.f k l0 a1_0 a1_1 a1_2 a1_3 a1_4 = some r) :
    Calls Tryz.prog 7 #[.slice A0 l0.length c0, .agg #[.string a1_0, .int .i64 a1_1, .int .i64 a1_2, .int .i64 a1_3, .string a1_4]] w fun e w' => e = .returned (.bool r) ∧ Below w.heap.size w w' := by
  have hu28 := Tryz.underlying28
  have hu31 := Tryz.underlying31
  have HR0 := ah.mk hr0
  have HC0 := ah.mk hc0
  clear hr0 hc0
  have HB := ah.mk (Below.refl w.heap.size w)
  have H : ((dU.f k).bind fun t217 => (if t217 = true then ((bg.f k l0).bind fun t218 => (if t218 = true then ((aT.f k (([(⟨a1_0, a1_1, a1_2, a1_3, a1_4⟩ : S28)] : List (S28)))).bind fun t222 => (bD.j0 k l0 (!t222) a1_0 a1_1 a1_2 a1_3 a1_4)) else (bD.j0 k l0 true a1_0 a1_1 a1_2 a1_3 a1_4))) else (bD.j0 k l0 true a1_0 a1_1 a1_2 a1_3 a1_4))) = some r := h
  clear h
  have HC3 := ah.mk H
  clear H
  go_enter Tryz.func7, Tryz.ntmps7
  go_upto_region 1 with (((((refine be_ (N := 3) (cs := #[.string a1_0, .int .i64 a1_1, .int .i64 a1_2, .int .i64 a1_3, .string a1_4]) (t := 28) ?_)); intro gb216 hg w4 hbox hb; have BK216 := ah.mk (hbox); have GW216 := ah.mk (ge_ hg (av HB.out)); have GE216 := ah.mk (ge_ hg (av HB.out)); replace HB := ah.mk (ak HB.out hb); clear hb hbox hg)))
  go_cut [20] (fun v20 wc => ∃ (kq : Nat) (x20_2 : Bool), v20 = .bool x20_2 ∧ ah (bD.j0 kq l0 x20_2 a1_0 a1_1 a1_2 a1_3 a1_4 = some r) ∧ ah (kq ≤ k) ∧ ah (wc.heap[gb216]? = some (.cells #[.string a1_0, .int .i64 a1_1, .int .i64 a1_2, .int .i64 a1_3, .string a1_4] 28 (0, 0))) ∧ ah (Below w.heap.size w wc))
  case first =>
   have H := HC3.out
   clear HC3
   obtain ⟨t217, A5, H⟩ := cZ H
   by_cases c6 : t217 = true
   ·subst c6
    rw [if_pos rfl] at H
    obtain ⟨t218, A7, H⟩ := cZ H
    by_cases c8 : t218 = true
    ·subst c8
     rw [if_pos rfl] at H
     obtain ⟨y219, hy219⟩ : ∃ y_ : List (S28), y_ = (([(⟨a1_0, a1_1, a1_2, a1_3, a1_4⟩ : S28)] : List (S28))) := ⟨_, rfl⟩
     replace H : ((aT.f k y219).bind fun t222 => (bD.j0 k l0 (!t222) a1_0 a1_1 a1_2 a1_3 a1_4)) = some r := by (rw [hy219]; with_reducible exact H)
     have Ny219 := ah.mk hy219
     clear hy219
     obtain ⟨t222, A9, H⟩ := cZ H
     have H' := ah.mk H
     clear H
     go_wp2_with (first | ((with_reducible refine gP (f := 18) rfl ?_); refine jK (some 8) rfl rfl Tryz.func18 (by kernel_rfl) rfl #[] rfl (by (try simp only [List.map_toArray, List.map_cons, List.map_nil]); done) ?_; (with_reducible refine (dU.calls k  _ _ A5.out).mono ?_); rintro e w10 ⟨rfl, hb⟩; refine ⟨_, rfl, ?_⟩; replace BK216 := ah.mk (ay (by ((exact BK216.out))) hb); replace HB := ah.mk (ak HB.out hb); (try clear hb)) | (go_at_call 19; (with_reducible refine (bg.calls k _ _ l0 _ _ ?side1 ?side2 A7.out).mono ?_); (case side1 => repeat ((exact (Kd.fA HR0.out HB.out)))); (case side2 => exact HC0.out); rintro e w' ⟨rfl, ⟨nd, rfl⟩⟩; obtain ⟨hcz11_0, hcz11_1, hcz11_2, hcz11_3, hcz11_4, hfz11_0, hfz11_1, hfz11_2, hfz11_3, hfz11_4⟩ := z5_ BK216.out) | ((with_reducible refine bK (N := 17) rfl ?_); (try (refine dA (by rfl) ?_; dsimp only)); refine Kd.iC k28 _ 28 ?hg (N := 17) ?hd (xs := ([(⟨a1_0, a1_1, a1_2, a1_3, a1_4⟩ : S28)] : List (S28))) (inner := [.string a1_0, .int .i64 a1_1, .int .i64 a1_2, .int .i64 a1_3, .string a1_4]) (ok := fun _ => True) (okp := fun _ => True) ?hr ?hp (fun _ hk => hk) trivial (Below.refl _ _) (Nat.le_refl _) (by simp) ?_; (case hd => rfl); (case hg => rfl); (case hr => (go_simp; done)); (case hp => exact (aY.c5 (show Kd.M k28 _ _ _ (⟨a1_0, a1_1, a1_2, a1_3, a1_4⟩ : S28) [.string a1_0, .int .i64 a1_1, .int .i64 a1_2, .int .i64 a1_3, .string a1_4] from (gY _ _ _ (⟨a1_0, a1_1, a1_2, a1_3, a1_4⟩ : S28) )) (aY.none _ _))); intro v220 w12 ho13 hb hg_ hnew_; clear hg_ hnew_; ((rw [← Ny219.out] at ho13)); have HO221 := ah.mk (Kd.bC (Kd.iP ho13 (g := gb216) (o := .cells #[.string a1_0, .int .i64 a1_1, .int .i64 a1_2, .int .i64 a1_3, .string a1_4] 28 (0, 0)) (by ((exact BK216.out)))) (av (by repeat ((with_reducible first | exact HB.out | apply aV))))); replace BK216 := ah.mk (ay (by ((exact BK216.out))) hb); replace HB := ah.mk (ak (by repeat ((with_reducible first | exact HB.out | apply aV))) hb); clear hb ho13; obtain ⟨Ao14, co14, eo14⟩ := Kd.bS HO221.out; subst eo14) | (go_at_call 20; (with_reducible refine (aT.calls k _ _ y219 t222 _ ?side1 ?side2 A9.out).mono ?_); (case side1 => exact (Kd.aI HO221.out).2.2); (case side2 => exact (Kd.aI HO221.out).2.1); rintro e w15 ⟨rfl, hb⟩; replace HO221 := ah.mk (Kd.aU (by ((exact HO221.out))) hb); replace BK216 := ah.mk (ay (by ((exact BK216.out))) hb); replace HB := ah.mk (ak HB.out hb); (try clear hb)))
     go_meet
     case rel => exact ⟨_, (!t222), (by rfl), H', ⟨by omega⟩, ⟨by (with_reducible repeat ((refine au ?_ _))); exact BK216.out⟩, ⟨HB.out⟩⟩
    ·replace c8 := Bool.eq_false_iff.mpr c8
     subst c8
     rw [if_neg ff_] at H
     have H' := ah.mk H
     clear H
     go_wp2_with (first | ((with_reducible refine gP (f := 18) rfl ?_); refine jK (some 8) rfl rfl Tryz.func18 (by kernel_rfl) rfl #[] rfl (by (try simp only [List.map_toArray, List.map_cons, List.map_nil]); done) ?_; (with_reducible refine (dU.calls k  _ _ A5.out).mono ?_); rintro e w16 ⟨rfl, hb⟩; refine ⟨_, rfl, ?_⟩; replace BK216 := ah.mk (ay (by ((exact BK216.out))) hb); replace HB := ah.mk (ak HB.out hb); (try clear hb)) | (go_at_call 19; (with_reducible refine (bg.calls k _ _ l0 _ _ ?side1 ?side2 A7.out).mono ?_); (case side1 => repeat ((exact (Kd.fA HR0.out HB.out)))); (case side2 => exact HC0.out); rintro e w' ⟨rfl, ⟨nd, rfl⟩⟩))
     go_meet
     case rel => exact ⟨_, (true), (by rfl), H', ⟨by omega⟩, ⟨by (with_reducible repeat ((refine au ?_ _))); exact BK216.out⟩, ⟨by repeat ((with_reducible first | exact HB.out | apply aV))⟩⟩
   ·replace c6 := Bool.eq_false_iff.mpr c6
    subst c6
    rw [if_neg ff_] at H
    have H' := ah.mk H
    clear H
    go_wp2_with ((((with_reducible refine gP (f := 18) rfl ?_); refine jK (some 8) rfl rfl Tryz.func18 (by kernel_rfl) rfl #[] rfl (by (try simp only [List.map_toArray, List.map_cons, List.map_nil]); done) ?_; (with_reducible refine (dU.calls k  _ _ A5.out).mono ?_); rintro e w17 ⟨rfl, hb⟩; refine ⟨_, rfl, ?_⟩; replace BK216 := ah.mk (ay (by ((exact BK216.out))) hb); replace HB := ah.mk (ak HB.out hb); (try clear hb))))
    go_meet
    case rel => exact ⟨_, (true), (by rfl), H', ⟨by omega⟩, ⟨by (with_reducible repeat ((refine au ?_ _))); exact BK216.out⟩, ⟨HB.out⟩⟩
  case rest =>
   clear HC3
   obtain ⟨kq, x20_2, rfl, HA, HJ2, BK216, HB⟩ := hcut
   cases kq with
   | zero => exact absurd HA.out (by simp [bD.j0])
   | succ kj2 =>
    have H := HA.out
    clear HA
    simp only [bD.j0] at H
    by_cases c18 : x20_2 = true
    ·subst c18
     rw [if_pos rfl] at H
     obtain ⟨t223, A19, H⟩ := cZ H
     obtain rfl := Option.some.inj H
     go_wp2_with ((((with_reducible refine gP (f := 18) rfl ?_); refine jK (some 21) rfl rfl Tryz.func18 (by kernel_rfl) rfl #[] rfl (by (try simp only [List.map_toArray, List.map_cons, List.map_nil]); done) ?_; (with_reducible refine (dU.calls kj2  t223 _ A19.out).mono ?_); rintro e w20 ⟨rfl, hb⟩; refine ⟨_, rfl, ?_⟩; replace BK216 := ah.mk (ay (by ((exact BK216.out))) hb); replace HB := ah.mk (ak HB.out hb); (try clear hb))))
     go_ret
     exact ⟨by rfl, HB.out⟩
    ·replace c18 := Bool.eq_false_iff.mpr c18
     subst c18
     rw [if_neg ff_] at H
     replace H := Option.bind_eq_some_iff.mp H
     obtain ⟨⟨t224, t225, t228, t229⟩, A210, H⟩ := H
     replace H : (if t229 = 0 then ((bU.f kj2 t224 t225 t228 (([(⟨a1_0, a1_1, a1_2, a1_3, a1_4⟩ : S28)] : List (S28)))).bind fun t234 => ((aH.f kj2 a1_0 (⟨#[2, 101, 120, 0]⟩ : ByteArray)).bind fun t235 => (if t235 = true then (if a1_2 = 1 then ((bQ.f kj2 t224 t225 t228 (([(⟨a1_0, a1_1, a1_2, a1_3, a1_4⟩ : S28)] : List (S28)))).bind fun t239 => (if ((t234 == 0) == ((t239.length : Int) == 1)) = true then (if t234 = 0 then (some true) else (some (t234 == 1))) else (some false))) else (if a1_2 = 254 then ((bQ.f kj2 t224 t225 t228 (([(⟨a1_0, a1_1, a1_2, a1_3, a1_4⟩ : S28)] : List (S28)))).bind fun t245 => (if ((t234 == 0) == ((t245.length : Int) == 1)) = true then (if t234 = 0 then (some true) else (some (t234 == 1))) else (some false))) else (if a1_2 = 255 then ((bQ.f kj2 t224 t225 t228 (([(⟨a1_0, a1_1, a1_2, a1_3, a1_4⟩ : S28)] : List (S28)))).bind fun t251 => (if ((t234 == 0) == ((t251.length : Int) == 1)) = true then (if t234 = 0 then (some true) else (some (t234 == 1))) else (some false))) else (some (t234 == 1))))) else (if t234 = 10 then ((bQ.f kj2 t224 t225 t228 (([(⟨a1_0, a1_1, a1_2, a1_3, a1_4⟩ : S28)] : List (S28)))).bind fun t257 => (some ((t257.length : Int) == 0))) else (some false))))) else (some true)) = some r := H
     have A21 := ah.mk A210
     clear A210
     by_cases c22 : t229 = 0
     focus
      rw [if_pos c22] at H
      have c22b0 : (t229 == 0) = true := beq_iff_eq.mpr c22
      have c22b1 : (t229 != 0) = false := bne_eq_false_iff_eq.mpr c22
      clear c22
      obtain ⟨y231, hy231⟩ : ∃ y_ : List (S28), y_ = (([(⟨a1_0, a1_1, a1_2, a1_3, a1_4⟩ : S28)] : List (S28))) := ⟨_, rfl⟩
      replace H : ((bU.f kj2 t224 t225 t228 y231).bind fun t234 => ((aH.f kj2 a1_0 (⟨#[2, 101, 120, 0]⟩ : ByteArray)).bind fun t235 => (if t235 = true then (if a1_2 = 1 then ((bQ.f kj2 t224 t225 t228 (([(⟨a1_0, a1_1, a1_2, a1_3, a1_4⟩ : S28)] : List (S28)))).bind fun t239 => (if ((t234 == 0) == ((t239.length : Int) == 1)) = true then (if t234 = 0 then (some true) else (some (t234 == 1))) else (some false))) else (if a1_2 = 254 then ((bQ.f kj2 t224 t225 t228 (([(⟨a1_0, a1_1, a1_2, a1_3, a1_4⟩ : S28)] : List (S28)))).bind fun t245 => (if ((t234 == 0) == ((t245.length : Int) == 1)) = true then (if t234 = 0 then (some true) else (some (t234 == 1))) else (some false))) else (if a1_2 = 255 then ((bQ.f kj2 t224 t225 t228 (([(⟨a1_0, a1_1, a1_2, a1_3, a1_4⟩ : S28)] : List (S28)))).bind fun t251 => (if ((t234 == 0) == ((t251.length : Int) == 1)) = true then (if t234 = 0 then (some true) else (some (t234 == 1))) else (some false))) else (some (t234 == 1))))) else (if t234 = 10 then ((bQ.f kj2 t224 t225 t228 (([(⟨a1_0, a1_1, a1_2, a1_3, a1_4⟩ : S28)] : List (S28)))).bind fun t257 => (some ((t257.length : Int) == 0))) else (some false))))) = some r := by (rw [hy231]; with_reducible exact H)
      have Ny231 := ah.mk hy231
      clear hy231
      obtain ⟨t234, A23, H⟩ := cZ H
      obtain ⟨t235, A24, H⟩ := cZ H
      by_cases c25 : t235 = true
      focus
       subst c25
       rw [if_pos rfl] at H
       by_cases c26 : a1_2 = 1
       focus
        rw [if_pos c26] at H
        have c26b0 : (a1_2 == 1) = true := beq_iff_eq.mpr c26
        have c26b1 : (a1_2 != 1) = false := bne_eq_false_iff_eq.mpr c26
        clear c26
        obtain ⟨y236, hy236⟩ : ∃ y_ : List (S28), y_ = (([(⟨a1_0, a1_1, a1_2, a1_3, a1_4⟩ : S28)] : List (S28))) := ⟨_, rfl⟩
        replace H : ((bQ.f kj2 t224 t225 t228 y236).bind fun t239 => (if ((t234 == 0) == ((t239.length : Int) == 1)) = true then (if t234 = 0 then (some true) else (some (t234 == 1))) else (some false))) = some r := by (rw [hy236]; with_reducible exact H)
        have Ny236 := ah.mk hy236
        clear hy236
        obtain ⟨t239, A27, H⟩ := cZ H
        by_cases c28 : ((t234 == 0) == ((t239.length : Int) == 1)) = true
        focus
         rw [if_pos c28] at H
         have c28b0 : ((t234 == 0) == ((t239.length : Int) == 1)) = true := c28
         (try (have c28b1 : decide ((t234 == 0) = ((t239.length : Int) == 1)) = true := by simpa using c28))
         (try (have c28b2 : ((t234 == 0) == ((t239.length : Int) == 1)) = true := by simpa using c28))
         clear c28
         by_cases c29 : t234 = 0
         focus
          rw [if_pos c29] at H
          have c29b0 : (t234 == 0) = true := beq_iff_eq.mpr c29
          have c29b0z : ((t239.length : Int) == 1) = true := by have h_ := c28b0; rw [c29b0] at h_; simpa using h_
          have c29b1 : (t234 != 0) = false := bne_eq_false_iff_eq.mpr c29
          clear c29
         rotate_left
         focus
          rw [if_neg c29] at H
          have c29b0 : (t234 == 0) = false := beq_eq_false_iff_ne.mpr c29
          have c29b0z : ((t239.length : Int) == 1) = false := by have h_ := c28b0; rw [c29b0] at h_; simpa using h_
          have c29b1 : (t234 != 0) = true := bne_iff_ne.mpr c29
         rotate_left
        rotate_left 2
        focus
         rw [if_neg c28] at H
         have c28b0 : ((t234 == 0) == ((t239.length : Int) == 1)) = false := by simpa using c28
         (try (have c28b1 : decide ((t234 == 0) = ((t239.length : Int) == 1)) = false := by simpa using c28))
         (try (have c28b2 : ((t234 == 0) == ((t239.length : Int) == 1)) = false := by simpa using c28))
         (try (have c28b3 : ¬ ((t234 == 0) = ((t239.length : Int) == 1)) := by simpa using c28))
         clear c28
        rotate_left
        all_goals
         obtain rfl := Option.some.inj H
         go_wp2_with (first | (refine gl_ (some 24) Tryz.func21 #[.string (⟨#[2, 101, 120, 0]⟩ : ByteArray), .slice A0 l0.length c0] ?_; (with_reducible refine (bE.calls kj2 (⟨#[2, 101, 120, 0]⟩ : ByteArray) _ _ l0 t224 t225 t228 t229 _ ?side1 ?side2 A21.out).mono ?_); (case side1 => repeat ((exact (Kd.fA HR0.out HB.out)))); (case side2 => exact HC0.out); rintro e w30 ⟨v226, rfl, ho0, hb⟩; refine ⟨_, rfl, ?_⟩; have HO227 := ah.mk (Kd.bC (Kd.iP ho0 (g := gb216) (o := .cells #[.string a1_0, .int .i64 a1_1, .int .i64 a1_2, .int .i64 a1_3, .string a1_4] 28 (0, 0)) (by ((exact BK216.out)))) (av HB.out)); replace BK216 := ah.mk (ay (by ((exact BK216.out))) hb); replace HB := ah.mk (ak HB.out hb); (try clear hb); (try clear ho0)) | ((((refine be_ (N := 5) (cs := #[.string (⟨#[]⟩ : ByteArray), .slice none 0 0, .int .i64 0]) (t := 31) ?_))); intro gb230 hg w31 hbox hb; have BK230 := ah.mk (hbox); have GW230 := ah.mk (ge_ hg (av HB.out)); have GE230 := ah.mk (ge_ hg (av HB.out)); have NB216_230 := ah.mk (nl_ hg (by ((exact BK216.out)))); have NB230_216 := ah.mk (nr_ hg (by ((exact BK216.out)))); replace HO227 := ah.mk (Kd.aU (by ((exact HO227.out))) hb); replace BK216 := ah.mk (ay (by ((exact BK216.out))) hb); replace HB := ah.mk (ak HB.out hb); clear hb hbox hg; have hnb32 := NB230_216.out; have hnc32 := NB216_230.out; obtain ⟨hcz33_0, hcz33_1, hcz33_2, hfz33_0, hfz33_1, hfz33_2⟩ := z3_ BK230.out; obtain ⟨Ao34, co34, eo34⟩ := Kd.bS HO227.out; subst eo34; obtain ⟨hcz35_0, hcz35_1, hcz35_2, hcz35_3, hcz35_4, hfz35_0, hfz35_1, hfz35_2, hfz35_3, hfz35_4⟩ := z5_ BK216.out) | ((with_reducible refine bK (N := 31) rfl ?_); (try (refine dA (by rfl) ?_; dsimp only)); refine Kd.iC k28 _ 28 ?hg (N := 31) ?hd (xs := ([(⟨a1_0, a1_1, a1_2, a1_3, a1_4⟩ : S28)] : List (S28))) (inner := [.string a1_0, .int .i64 a1_1, .int .i64 a1_2, .int .i64 a1_3, .string a1_4]) (ok := fun _ => True) (okp := fun _ => True) ?hr ?hp (fun _ hk => hk) trivial (Below.refl _ _) (Nat.le_refl _) (by simp) ?_; (case hd => rfl); (case hg => rfl); (case hr => (go_simp; done)); (case hp => exact (aY.c5 (show Kd.M k28 _ _ _ (⟨a1_0, a1_1, a1_2, a1_3, a1_4⟩ : S28) [.string a1_0, .int .i64 a1_1, .int .i64 a1_2, .int .i64 a1_3, .string a1_4] from (gY _ _ _ (⟨a1_0, a1_1, a1_2, a1_3, a1_4⟩ : S28) )) (aY.none _ _))); intro v232 w36 ho37 hb hg_ hnew_; clear hg_ hnew_; ((rw [← Ny231.out] at ho37)); have HO233 := ah.mk (Kd.bC (Kd.iP (Kd.fM ho37 (Kd.iQ (by (with_reducible repeat ((apply Kd.bJ))); exact (Kd.dw (Kd.dB (p := ⟨gb230, 2, none⟩) (Kd.dB (p := ⟨gb230, 1, none⟩) (Kd.dB (p := ⟨gb230, 0, none⟩) (Kd.gI HO227.out BK230.out (by decide)) (fun _ hk => hk.2) (.string t224)) (fun _ hk => hk.2) (.slice Ao34 t225.length co34)) (fun _ hk => hk.2) (.int .i64 t228)) (fun _ h_ => h_.1))))) (g := gb216) (o := .cells #[.string a1_0, .int .i64 a1_1, .int .i64 a1_2, .int .i64 a1_3, .string a1_4] 28 (0, 0)) (by (with_reducible repeat ((refine au ?_ _))); refine bL ?_ NB216_230.out _; (with_reducible repeat ((refine au ?_ _))); refine bL ?_ NB216_230.out _; (with_reducible repeat ((refine au ?_ _))); refine bL ?_ NB216_230.out _; (with_reducible repeat ((refine au ?_ _))); exact BK216.out)) (av (by repeat ((with_reducible first | exact HB.out | refine bT ?_ GE230.out))))); replace HO227 := ah.mk (Kd.dY (by (with_reducible repeat ((apply Kd.bJ))); exact (Kd.dw (Kd.dB (p := ⟨gb230, 2, none⟩) (Kd.dB (p := ⟨gb230, 1, none⟩) (Kd.dB (p := ⟨gb230, 0, none⟩) (Kd.gI HO227.out BK230.out (by decide)) (fun _ hk => hk.2) (.string t224)) (fun _ hk => hk.2) (.slice Ao34 t225.length co34)) (fun _ hk => hk.2) (.int .i64 t228)) (fun _ h_ => h_.1))) (Kd.fH ho37) hb); replace BK216 := ah.mk (ay (g := gb216) (o := .cells #[.string a1_0, .int .i64 a1_1, .int .i64 a1_2, .int .i64 a1_3, .string a1_4] 28 (0, 0)) (by (with_reducible repeat ((refine au ?_ _))); refine bL ?_ NB216_230.out _; (with_reducible repeat ((refine au ?_ _))); refine bL ?_ NB216_230.out _; (with_reducible repeat ((refine au ?_ _))); refine bL ?_ NB216_230.out _; (with_reducible repeat ((refine au ?_ _))); exact BK216.out) hb); replace BK230 := ah.mk (ay (g := gb230) (o := .cells #[.string t224, .slice Ao34 t225.length co34, .int .i64 t228] 31 (0, 0)) (by (with_reducible repeat ((refine au ?_ _))); refine bA (cs := #[.string t224, .slice Ao34 t225.length co34, .int .i64 0]) ?_ 2 _ rfl; (with_reducible repeat ((refine au ?_ _))); refine bA (cs := #[.string t224, .slice none 0 0, .int .i64 0]) ?_ 1 _ rfl; (with_reducible repeat ((refine au ?_ _))); refine bA (cs := #[.string (⟨#[]⟩ : ByteArray), .slice none 0 0, .int .i64 0]) ?_ 0 _ rfl; (with_reducible repeat ((refine au ?_ _))); exact BK230.out) hb); replace HB := ah.mk (ak (by repeat ((with_reducible first | exact HB.out | refine bT ?_ GE230.out))) hb); clear hb ho37; obtain ⟨Ao38, co38, eo38⟩ := Kd.bS HO233.out; subst eo38) | (refine gl_ (some 32) Tryz.func23 #[.agg #[.string t224, .slice Ao34 t225.length co34, .int .i64 t228], .slice Ao38 y231.length co38] ?_; (with_reducible refine (bU.calls kj2 t224 _ _ t225 t228 _ _ y231 t234 _ ?side1 ?side2 ?side3 ?side4 A23.out).mono ?_); (case side1 => exact (Kd.aI HO227.out).2.2); (case side2 => exact (Kd.aI HO227.out).2.1); (case side3 => exact (Kd.aI HO233.out).2.2); (case side4 => exact (Kd.aI HO233.out).2.1); rintro e w39 ⟨rfl, hb⟩; refine ⟨_, rfl, ?_⟩; replace HO227 := ah.mk (Kd.aU (by ((exact HO227.out))) hb); replace HO233 := ah.mk (Kd.aU (by ((exact HO233.out))) hb); replace BK216 := ah.mk (ay (by ((exact BK216.out))) hb); replace BK230 := ah.mk (ay (by ((exact BK230.out))) hb); replace HB := ah.mk (ak HB.out hb); (try clear hb); obtain ⟨hcz40_0, hcz40_1, hcz40_2, hcz40_3, hcz40_4, hfz40_0, hfz40_1, hfz40_2, hfz40_3, hfz40_4⟩ := z5_ BK216.out) | (refine gl_ (some 35) Tryz.func28 #[.string a1_0, .string (⟨#[2, 101, 120, 0]⟩ : ByteArray)] ?_; (with_reducible refine (aH.calls kj2 a1_0 (⟨#[2, 101, 120, 0]⟩ : ByteArray) _ _ A24.out).mono ?_); rintro e w41 ⟨rfl, hb⟩; refine ⟨_, rfl, ?_⟩; replace HO227 := ah.mk (Kd.aU (by ((exact HO227.out))) hb); replace HO233 := ah.mk (Kd.aU (by ((exact HO233.out))) hb); replace BK216 := ah.mk (ay (by ((exact BK216.out))) hb); replace BK230 := ah.mk (ay (by ((exact BK230.out))) hb); replace HB := ah.mk (ak HB.out hb); (try clear hb); obtain ⟨hcz42_0, hcz42_1, hcz42_2, hcz42_3, hcz42_4, hfz42_0, hfz42_1, hfz42_2, hfz42_3, hfz42_4⟩ := z5_ BK216.out; obtain ⟨hcz43_0, hcz43_1, hcz43_2, hfz43_0, hfz43_1, hfz43_2⟩ := z3_ BK230.out) | ((with_reducible refine bK (N := 66) rfl ?_); (try (refine dA (by rfl) ?_; dsimp only)); refine Kd.iC k28 _ 28 ?hg (N := 66) ?hd (xs := ([(⟨a1_0, a1_1, a1_2, a1_3, a1_4⟩ : S28)] : List (S28))) (inner := [.string a1_0, .int .i64 a1_1, .int .i64 a1_2, .int .i64 a1_3, .string a1_4]) (ok := fun _ => True) (okp := fun _ => True) ?hr ?hp (fun _ hk => hk) trivial (Below.refl _ _) (Nat.le_refl _) (by simp) ?_; (case hd => rfl); (case hg => rfl); (case hr => (go_simp; done)); (case hp => exact (aY.c5 (show Kd.M k28 _ _ _ (⟨a1_0, a1_1, a1_2, a1_3, a1_4⟩ : S28) [.string a1_0, .int .i64 a1_1, .int .i64 a1_2, .int .i64 a1_3, .string a1_4] from (gY _ _ _ (⟨a1_0, a1_1, a1_2, a1_3, a1_4⟩ : S28) )) (aY.none _ _))); intro v237 w44 ho45 hb hg_ hnew_; clear hg_ hnew_; ((rw [← Ny236.out] at ho45)); have HO238 := ah.mk (Kd.bC (Kd.iP (Kd.fM (Kd.fM ho45 (Kd.iQ (by ((exact HO227.out))))) (Kd.iQ (by ((exact HO233.out))))) (g := gb216) (o := .cells #[.string a1_0, .int .i64 a1_1, .int .i64 a1_2, .int .i64 a1_3, .string a1_4] 28 (0, 0)) (by ((exact BK216.out)))) (av HB.out)); replace HO227 := ah.mk (Kd.dY (by ((exact HO227.out))) (Kd.fH ho45) hb); replace HO233 := ah.mk (Kd.dY (by ((exact HO233.out))) (Kd.fH ho45) hb); replace BK216 := ah.mk (ay (by ((exact BK216.out))) hb); replace BK230 := ah.mk (ay (by ((exact BK230.out))) hb); replace HB := ah.mk (ak HB.out hb); clear hb ho45; obtain ⟨Ao46, co46, eo46⟩ := Kd.bS HO238.out; subst eo46) | (refine gl_ (some 67) Tryz.func26 #[.agg #[.string t224, .slice Ao34 t225.length co34, .int .i64 t228], .slice Ao46 y236.length co46] ?_; (with_reducible refine (bQ.calls kj2 t224 _ _ t225 t228 _ _ y236 t239 _ ?side1 ?side2 ?side3 ?side4 A27.out).mono ?_); (case side1 => exact (Kd.aI HO227.out).2.2); (case side2 => exact (Kd.aI HO227.out).2.1); (case side3 => exact (Kd.aI HO238.out).2.2); (case side4 => exact (Kd.aI HO238.out).2.1); rintro e w47 ⟨v240, rfl, ho0, hb⟩; refine ⟨_, rfl, ?_⟩; have HO241 := ah.mk (Kd.bC ho0 (av HB.out)); replace HO227 := ah.mk (Kd.aU (by ((exact HO227.out))) hb); replace HO233 := ah.mk (Kd.aU (by ((exact HO233.out))) hb); replace HO238 := ah.mk (Kd.aU (by ((exact HO238.out))) hb); replace BK216 := ah.mk (ay (by ((exact BK216.out))) hb); replace BK230 := ah.mk (ay (by ((exact BK230.out))) hb); replace HB := ah.mk (ak HB.out hb); (try clear hb); (try clear ho0); obtain ⟨Ao48, co48, eo48⟩ := Kd.bS HO241.out; subst eo48))
       rotate_left 3
       focus
        rw [if_neg c26] at H
        have c26b0 : (a1_2 == 1) = false := beq_eq_false_iff_ne.mpr c26
        have c26b1 : (a1_2 != 1) = true := bne_iff_ne.mpr c26
        by_cases c87 : a1_2 = 254
        focus
         rw [if_pos c87] at H
         have c87b0 : (a1_2 == 254) = true := beq_iff_eq.mpr c87
         have c87b1 : (a1_2 != 254) = false := bne_eq_false_iff_eq.mpr c87
         clear c87
         obtain ⟨y242, hy242⟩ : ∃ y_ : List (S28), y_ = (([(⟨a1_0, a1_1, a1_2, a1_3, a1_4⟩ : S28)] : List (S28))) := ⟨_, rfl⟩
         replace H : ((bQ.f kj2 t224 t225 t228 y242).bind fun t245 => (if ((t234 == 0) == ((t245.length : Int) == 1)) = true then (if t234 = 0 then (some true) else (some (t234 == 1))) else (some false))) = some r := by (rw [hy242]; with_reducible exact H)
         have Ny242 := ah.mk hy242
         clear hy242
         obtain ⟨t245, A88, H⟩ := cZ H
         by_cases c89 : ((t234 == 0) == ((t245.length : Int) == 1)) = true
         focus
          rw [if_pos c89] at H
          have c89b0 : ((t234 == 0) == ((t245.length : Int) == 1)) = true := c89
          (try (have c89b1 : decide ((t234 == 0) = ((t245.length : Int) == 1)) = true := by simpa using c89))
          (try (have c89b2 : ((t234 == 0) == ((t245.length : Int) == 1)) = true := by simpa using c89))
          clear c89
          by_cases c90 : t234 = 0
          focus
           rw [if_pos c90] at H
           have c90b0 : (t234 == 0) = true := beq_iff_eq.mpr c90
           have c90b0z : ((t245.length : Int) == 1) = true := by have h_ := c89b0; rw [c90b0] at h_; simpa using h_
           have c90b1 : (t234 != 0) = false := bne_eq_false_iff_eq.mpr c90
           clear c90
          rotate_left
          focus
           rw [if_neg c90] at H
           have c90b0 : (t234 == 0) = false := beq_eq_false_iff_ne.mpr c90
           have c90b0z : ((t245.length : Int) == 1) = false := by have h_ := c89b0; rw [c90b0] at h_; simpa using h_
           have c90b1 : (t234 != 0) = true := bne_iff_ne.mpr c90
          rotate_left
         rotate_left 2
         focus
          rw [if_neg c89] at H
          have c89b0 : ((t234 == 0) == ((t245.length : Int) == 1)) = false := by simpa using c89
          (try (have c89b1 : decide ((t234 == 0) = ((t245.length : Int) == 1)) = false := by simpa using c89))
          (try (have c89b2 : ((t234 == 0) == ((t245.length : Int) == 1)) = false := by simpa using c89))
          (try (have c89b3 : ¬ ((t234 == 0) = ((t245.length : Int) == 1)) := by simpa using c89))
          clear c89
         rotate_left
         all_goals
          obtain rfl := Option.some.inj H
          go_wp2_with (first | (refine gl_ (some 24) Tryz.func21 #[.string (⟨#[2, 101, 120, 0]⟩ : ByteArray), .slice A0 l0.length c0] ?_; (with_reducible refine (bE.calls kj2 (⟨#[2, 101, 120, 0]⟩ : ByteArray) _ _ l0 t224 t225 t228 t229 _ ?side1 ?side2 A21.out).mono ?_); (case side1 => repeat ((exact (Kd.fA HR0.out HB.out)))); (case side2 => exact HC0.out); rintro e w91 ⟨v226, rfl, ho0, hb⟩; refine ⟨_, rfl, ?_⟩; have HO227 := ah.mk (Kd.bC (Kd.iP ho0 (g := gb216) (o := .cells #[.string a1_0, .int .i64 a1_1, .int .i64 a1_2, .int .i64 a1_3, .string a1_4] 28 (0, 0)) (by ((exact BK216.out)))) (av HB.out)); replace BK216 := ah.mk (ay (by ((exact BK216.out))) hb); replace HB := ah.mk (ak HB.out hb); (try clear hb); (try clear ho0)) | ((((refine be_ (N := 5) (cs := #[.string (⟨#[]⟩ : ByteArray), .slice none 0 0, .int .i64 0]) (t := 31) ?_))); intro gb230 hg w92 hbox hb; have BK230 := ah.mk (hbox); have GW230 := ah.mk (ge_ hg (av HB.out)); have GE230 := ah.mk (ge_ hg (av HB.out)); have NB216_230 := ah.mk (nl_ hg (by ((exact BK216.out)))); have NB230_216 := ah.mk (nr_ hg (by ((exact BK216.out)))); replace HO227 := ah.mk (Kd.aU (by ((exact HO227.out))) hb); replace BK216 := ah.mk (ay (by ((exact BK216.out))) hb); replace HB := ah.mk (ak HB.out hb); clear hb hbox hg; have hnb93 := NB230_216.out; have hnc93 := NB216_230.out; obtain ⟨hcz94_0, hcz94_1, hcz94_2, hfz94_0, hfz94_1, hfz94_2⟩ := z3_ BK230.out; obtain ⟨Ao95, co95, eo95⟩ := Kd.bS HO227.out; subst eo95; obtain ⟨hcz96_0, hcz96_1, hcz96_2, hcz96_3, hcz96_4, hfz96_0, hfz96_1, hfz96_2, hfz96_3, hfz96_4⟩ := z5_ BK216.out) | ((with_reducible refine bK (N := 31) rfl ?_); (try (refine dA (by rfl) ?_; dsimp only)); refine Kd.iC k28 _ 28 ?hg (N := 31) ?hd (xs := ([(⟨a1_0, a1_1, a1_2, a1_3, a1_4⟩ : S28)] : List (S28))) (inner := [.string a1_0, .int .i64 a1_1, .int .i64 a1_2, .int .i64 a1_3, .string a1_4]) (ok := fun _ => True) (okp := fun _ => True) ?hr ?hp (fun _ hk => hk) trivial (Below.refl _ _) (Nat.le_refl _) (by simp) ?_; (case hd => rfl); (case hg => rfl); (case hr => (go_simp; done)); (case hp => exact (aY.c5 (show Kd.M k28 _ _ _ (⟨a1_0, a1_1, a1_2, a1_3, a1_4⟩ : S28) [.string a1_0, .int .i64 a1_1, .int .i64 a1_2, .int .i64 a1_3, .string a1_4] from (gY _ _ _ (⟨a1_0, a1_1, a1_2, a1_3, a1_4⟩ : S28) )) (aY.none _ _))); intro v232 w97 ho98 hb hg_ hnew_; clear hg_ hnew_; ((rw [← Ny231.out] at ho98)); have HO233 := ah.mk (Kd.bC (Kd.iP (Kd.fM ho98 (Kd.iQ (by (with_reducible repeat ((apply Kd.bJ))); exact (Kd.dw (Kd.dB (p := ⟨gb230, 2, none⟩) (Kd.dB (p := ⟨gb230, 1, none⟩) (Kd.dB (p := ⟨gb230, 0, none⟩) (Kd.gI HO227.out BK230.out (by decide)) (fun _ hk => hk.2) (.string t224)) (fun _ hk => hk.2) (.slice Ao95 t225.length co95)) (fun _ hk => hk.2) (.int .i64 t228)) (fun _ h_ => h_.1))))) (g := gb216) (o := .cells #[.string a1_0, .int .i64 a1_1, .int .i64 a1_2, .int .i64 a1_3, .string a1_4] 28 (0, 0)) (by (with_reducible repeat ((refine au ?_ _))); refine bL ?_ NB216_230.out _; (with_reducible repeat ((refine au ?_ _))); refine bL ?_ NB216_230.out _; (with_reducible repeat ((refine au ?_ _))); refine bL ?_ NB216_230.out _; (with_reducible repeat ((refine au ?_ _))); exact BK216.out)) (av (by repeat ((with_reducible first | exact HB.out | refine bT ?_ GE230.out))))); replace HO227 := ah.mk (Kd.dY (by (with_reducible repeat ((apply Kd.bJ))); exact (Kd.dw (Kd.dB (p := ⟨gb230, 2, none⟩) (Kd.dB (p := ⟨gb230, 1, none⟩) (Kd.dB (p := ⟨gb230, 0, none⟩) (Kd.gI HO227.out BK230.out (by decide)) (fun _ hk => hk.2) (.string t224)) (fun _ hk => hk.2) (.slice Ao95 t225.length co95)) (fun _ hk => hk.2) (.int .i64 t228)) (fun _ h_ => h_.1))) (Kd.fH ho98) hb); replace BK216 := ah.mk (ay (g := gb216) (o := .cells #[.string a1_0, .int .i64 a1_1, .int .i64 a1_2, .int .i64 a1_3, .string a1_4] 28 (0, 0)) (by (with_reducible repeat ((refine au ?_ _))); refine bL ?_ NB216_230.out _; (with_reducible repeat ((refine au ?_ _))); refine bL ?_ NB216_230.out _; (with_reducible repeat ((refine au ?_ _))); refine bL ?_ NB216_230.out _; (with_reducible repeat ((refine au ?_ _))); exact BK216.out) hb); replace BK230 := ah.mk (ay (g := gb230) (o := .cells #[.string t224, .slice Ao95 t225.length co95, .int .i64 t228] 31 (0, 0)) (by (with_reducible repeat ((refine au ?_ _))); refine bA (cs := #[.string t224, .slice Ao95 t225.length co95, .int .i64 0]) ?_ 2 _ rfl; (with_reducible repeat ((refine au ?_ _))); refine bA (cs := #[.string t224, .slice none 0 0, .int .i64 0]) ?_ 1 _ rfl; (with_reducible repeat ((refine au ?_ _))); refine bA (cs := #[.string (⟨#[]⟩ : ByteArray), .slice none 0 0, .int .i64 0]) ?_ 0 _ rfl; (with_reducible repeat ((refine au ?_ _))); exact BK230.out) hb); replace HB := ah.mk (ak (by repeat ((with_reducible first | exact HB.out | refine bT ?_ GE230.out))) hb); clear hb ho98; obtain ⟨Ao99, co99, eo99⟩ := Kd.bS HO233.out; subst eo99) | (refine gl_ (some 32) Tryz.func23 #[.agg #[.string t224, .slice Ao95 t225.length co95, .int .i64 t228], .slice Ao99 y231.length co99] ?_; (with_reducible refine (bU.calls kj2 t224 _ _ t225 t228 _ _ y231 t234 _ ?side1 ?side2 ?side3 ?side4 A23.out).mono ?_); (case side1 => exact (Kd.aI HO227.out).2.2); (case side2 => exact (Kd.aI HO227.out).2.1); (case side3 => exact (Kd.aI HO233.out).2.2); (case side4 => exact (Kd.aI HO233.out).2.1); rintro e w100 ⟨rfl, hb⟩; refine ⟨_, rfl, ?_⟩; replace HO227 := ah.mk (Kd.aU (by ((exact HO227.out))) hb); replace HO233 := ah.mk (Kd.aU (by ((exact HO233.out))) hb); replace BK216 := ah.mk (ay (by ((exact BK216.out))) hb); replace BK230 := ah.mk (ay (by ((exact BK230.out))) hb); replace HB := ah.mk (ak HB.out hb); (try clear hb); obtain ⟨hcz101_0, hcz101_1, hcz101_2, hcz101_3, hcz101_4, hfz101_0, hfz101_1, hfz101_2, hfz101_3, hfz101_4⟩ := z5_ BK216.out) | (refine gl_ (some 35) Tryz.func28 #[.string a1_0, .string (⟨#[2, 101, 120, 0]⟩ : ByteArray)] ?_; (with_reducible refine (aH.calls kj2 a1_0 (⟨#[2, 101, 120, 0]⟩ : ByteArray) _ _ A24.out).mono ?_); rintro e w102 ⟨rfl, hb⟩; refine ⟨_, rfl, ?_⟩; replace HO227 := ah.mk (Kd.aU (by ((exact HO227.out))) hb); replace HO233 := ah.mk (Kd.aU (by ((exact HO233.out))) hb); replace BK216 := ah.mk (ay (by ((exact BK216.out))) hb); replace BK230 := ah.mk (ay (by ((exact BK230.out))) hb); replace HB := ah.mk (ak HB.out hb); (try clear hb); obtain ⟨hcz103_0, hcz103_1, hcz103_2, hcz103_3, hcz103_4, hfz103_0, hfz103_1, hfz103_2, hfz103_3, hfz103_4⟩ := z5_ BK216.out; obtain ⟨hcz104_0, hcz104_1, hcz104_2, hfz104_0, hfz104_1, hfz104_2⟩ := z3_ BK230.out) | ((with_reducible refine bK (N := 66) rfl ?_); (try (refine dA (by rfl) ?_; dsimp only)); refine Kd.iC k28 _ 28 ?hg (N := 66) ?hd (xs := ([(⟨a1_0, a1_1, a1_2, a1_3, a1_4⟩ : S28)] : List (S28))) (inner := [.string a1_0, .int .i64 a1_1, .int .i64 a1_2, .int .i64 a1_3, .string a1_4]) (ok := fun _ => True) (okp := fun _ => True) ?hr ?hp (fun _ hk => hk) trivial (Below.refl _ _) (Nat.le_refl _) (by simp) ?_; (case hd => rfl); (case hg => rfl); (case hr => (go_simp; done)); (case hp => exact (aY.c5 (show Kd.M k28 _ _ _ (⟨a1_0, a1_1, a1_2, a1_3, a1_4⟩ : S28) [.string a1_0, .int .i64 a1_1, .int .i64 a1_2, .int .i64 a1_3, .string a1_4] from (gY _ _ _ (⟨a1_0, a1_1, a1_2, a1_3, a1_4⟩ : S28) )) (aY.none _ _))); intro v243 w105 ho106 hb hg_ hnew_; clear hg_ hnew_; ((rw [← Ny242.out] at ho106)); have HO244 := ah.mk (Kd.bC (Kd.iP (Kd.fM (Kd.fM ho106 (Kd.iQ (by ((exact HO227.out))))) (Kd.iQ (by ((exact HO233.out))))) (g := gb216) (o := .cells #[.string a1_0, .int .i64 a1_1, .int .i64 a1_2, .int .i64 a1_3, .string a1_4] 28 (0, 0)) (by ((exact BK216.out)))) (av HB.out)); replace HO227 := ah.mk (Kd.dY (by ((exact HO227.out))) (Kd.fH ho106) hb); replace HO233 := ah.mk (Kd.dY (by ((exact HO233.out))) (Kd.fH ho106) hb); replace BK216 := ah.mk (ay (by ((exact BK216.out))) hb); replace BK230 := ah.mk (ay (by ((exact BK230.out))) hb); replace HB := ah.mk (ak HB.out hb); clear hb ho106; obtain ⟨Ao107, co107, eo107⟩ := Kd.bS HO244.out; subst eo107) | (refine gl_ (some 67) Tryz.func26 #[.agg #[.string t224, .slice Ao95 t225.length co95, .int .i64 t228], .slice Ao107 y242.length co107] ?_; (with_reducible refine (bQ.calls kj2 t224 _ _ t225 t228 _ _ y242 t245 _ ?side1 ?side2 ?side3 ?side4 A88.out).mono ?_); (case side1 => exact (Kd.aI HO227.out).2.2); (case side2 => exact (Kd.aI HO227.out).2.1); (case side3 => exact (Kd.aI HO244.out).2.2); (case side4 => exact (Kd.aI HO244.out).2.1); rintro e w108 ⟨v246, rfl, ho0, hb⟩; refine ⟨_, rfl, ?_⟩; have HO247 := ah.mk (Kd.bC ho0 (av HB.out)); replace HO227 := ah.mk (Kd.aU (by ((exact HO227.out))) hb); replace HO233 := ah.mk (Kd.aU (by ((exact HO233.out))) hb); replace HO244 := ah.mk (Kd.aU (by ((exact HO244.out))) hb); replace BK216 := ah.mk (ay (by ((exact BK216.out))) hb); replace BK230 := ah.mk (ay (by ((exact BK230.out))) hb); replace HB := ah.mk (ak HB.out hb); (try clear hb); (try clear ho0); obtain ⟨Ao109, co109, eo109⟩ := Kd.bS HO247.out; subst eo109))
        rotate_left 3
        focus
         rw [if_neg c87] at H
         have c87b0 : (a1_2 == 254) = false := beq_eq_false_iff_ne.mpr c87
         have c87b1 : (a1_2 != 254) = true := bne_iff_ne.mpr c87
         by_cases c148 : a1_2 = 255
         focus
          rw [if_pos c148] at H
          have c148b0 : (a1_2 == 255) = true := beq_iff_eq.mpr c148
          have c148b1 : (a1_2 != 255) = false := bne_eq_false_iff_eq.mpr c148
          clear c148
          obtain ⟨y248, hy248⟩ : ∃ y_ : List (S28), y_ = (([(⟨a1_0, a1_1, a1_2, a1_3, a1_4⟩ : S28)] : List (S28))) := ⟨_, rfl⟩
          replace H : ((bQ.f kj2 t224 t225 t228 y248).bind fun t251 => (if ((t234 == 0) == ((t251.length : Int) == 1)) = true then (if t234 = 0 then (some true) else (some (t234 == 1))) else (some false))) = some r := by (rw [hy248]; with_reducible exact H)
          have Ny248 := ah.mk hy248
          clear hy248
          obtain ⟨t251, A149, H⟩ := cZ H
          by_cases c150 : ((t234 == 0) == ((t251.length : Int) == 1)) = true
          focus
           rw [if_pos c150] at H
           have c150b0 : ((t234 == 0) == ((t251.length : Int) == 1)) = true := c150
           (try (have c150b1 : decide ((t234 == 0) = ((t251.length : Int) == 1)) = true := by simpa using c150))
           (try (have c150b2 : ((t234 == 0) == ((t251.length : Int) == 1)) = true := by simpa using c150))
           clear c150
           by_cases c151 : t234 = 0
           focus
            rw [if_pos c151] at H
            have c151b0 : (t234 == 0) = true := beq_iff_eq.mpr c151
            have c151b0z : ((t251.length : Int) == 1) = true := by have h_ := c150b0; rw [c151b0] at h_; simpa using h_
            have c151b1 : (t234 != 0) = false := bne_eq_false_iff_eq.mpr c151
            clear c151
           rotate_left
           focus
            rw [if_neg c151] at H
            have c151b0 : (t234 == 0) = false := beq_eq_false_iff_ne.mpr c151
            have c151b0z : ((t251.length : Int) == 1) = false := by have h_ := c150b0; rw [c151b0] at h_; simpa using h_
            have c151b1 : (t234 != 0) = true := bne_iff_ne.mpr c151
           rotate_left
          rotate_left 2
          focus
           rw [if_neg c150] at H
           have c150b0 : ((t234 == 0) == ((t251.length : Int) == 1)) = false := by simpa using c150
           (try (have c150b1 : decide ((t234 == 0) = ((t251.length : Int) == 1)) = false := by simpa using c150))
           (try (have c150b2 : ((t234 == 0) == ((t251.length : Int) == 1)) = false := by simpa using c150))
           (try (have c150b3 : ¬ ((t234 == 0) = ((t251.length : Int) == 1)) := by simpa using c150))
           clear c150
          rotate_left
          all_goals
           obtain rfl := Option.some.inj H
           go_wp2_with (first | (refine gl_ (some 24) Tryz.func21 #[.string (⟨#[2, 101, 120, 0]⟩ : ByteArray), .slice A0 l0.length c0] ?_; (with_reducible refine (bE.calls kj2 (⟨#[2, 101, 120, 0]⟩ : ByteArray) _ _ l0 t224 t225 t228 t229 _ ?side1 ?side2 A21.out).mono ?_); (case side1 => repeat ((exact (Kd.fA HR0.out HB.out)))); (case side2 => exact HC0.out); rintro e w152 ⟨v226, rfl, ho0, hb⟩; refine ⟨_, rfl, ?_⟩; have HO227 := ah.mk (Kd.bC (Kd.iP ho0 (g := gb216) (o := .cells #[.string a1_0, .int .i64 a1_1, .int .i64 a1_2, .int .i64 a1_3, .string a1_4] 28 (0, 0)) (by ((exact BK216.out)))) (av HB.out)); replace BK216 := ah.mk (ay (by ((exact BK216.out))) hb); replace HB := ah.mk (ak HB.out hb); (try clear hb); (try clear ho0)) | ((((refine be_ (N := 5) (cs := #[.string (⟨#[]⟩ : ByteArray), .slice none 0 0, .int .i64 0]) (t := 31) ?_))); intro gb230 hg w153 hbox hb; have BK230 := ah.mk (hbox); have GW230 := ah.mk (ge_ hg (av HB.out)); have GE230 := ah.mk (ge_ hg (av HB.out)); have NB216_230 := ah.mk (nl_ hg (by ((exact BK216.out)))); have NB230_216 := ah.mk (nr_ hg (by ((exact BK216.out)))); replace HO227 := ah.mk (Kd.aU (by ((exact HO227.out))) hb); replace BK216 := ah.mk (ay (by ((exact BK216.out))) hb); replace HB := ah.mk (ak HB.out hb); clear hb hbox hg; have hnb154 := NB230_216.out; have hnc154 := NB216_230.out; obtain ⟨hcz155_0, hcz155_1, hcz155_2, hfz155_0, hfz155_1, hfz155_2⟩ := z3_ BK230.out; obtain ⟨Ao156, co156, eo156⟩ := Kd.bS HO227.out; subst eo156; obtain ⟨hcz157_0, hcz157_1, hcz157_2, hcz157_3, hcz157_4, hfz157_0, hfz157_1, hfz157_2, hfz157_3, hfz157_4⟩ := z5_ BK216.out) | ((with_reducible refine bK (N := 31) rfl ?_); (try (refine dA (by rfl) ?_; dsimp only)); refine Kd.iC k28 _ 28 ?hg (N := 31) ?hd (xs := ([(⟨a1_0, a1_1, a1_2, a1_3, a1_4⟩ : S28)] : List (S28))) (inner := [.string a1_0, .int .i64 a1_1, .int .i64 a1_2, .int .i64 a1_3, .string a1_4]) (ok := fun _ => True) (okp := fun _ => True) ?hr ?hp (fun _ hk => hk) trivial (Below.refl _ _) (Nat.le_refl _) (by simp) ?_; (case hd => rfl); (case hg => rfl); (case hr => (go_simp; done)); (case hp => exact (aY.c5 (show Kd.M k28 _ _ _ (⟨a1_0, a1_1, a1_2, a1_3, a1_4⟩ : S28) [.string a1_0, .int .i64 a1_1, .int .i64 a1_2, .int .i64 a1_3, .string a1_4] from (gY _ _ _ (⟨a1_0, a1_1, a1_2, a1_3, a1_4⟩ : S28) )) (aY.none _ _))); intro v232 w158 ho159 hb hg_ hnew_; clear hg_ hnew_; ((rw [← Ny231.out] at ho159)); have HO233 := ah.mk (Kd.bC (Kd.iP (Kd.fM ho159 (Kd.iQ (by (with_reducible repeat ((apply Kd.bJ))); exact (Kd.dw (Kd.dB (p := ⟨gb230, 2, none⟩) (Kd.dB (p := ⟨gb230, 1, none⟩) (Kd.dB (p := ⟨gb230, 0, none⟩) (Kd.gI HO227.out BK230.out (by decide)) (fun _ hk => hk.2) (.string t224)) (fun _ hk => hk.2) (.slice Ao156 t225.length co156)) (fun _ hk => hk.2) (.int .i64 t228)) (fun _ h_ => h_.1))))) (g := gb216) (o := .cells #[.string a1_0, .int .i64 a1_1, .int .i64 a1_2, .int .i64 a1_3, .string a1_4] 28 (0, 0)) (by (with_reducible repeat ((refine au ?_ _))); refine bL ?_ NB216_230.out _; (with_reducible repeat ((refine au ?_ _))); refine bL ?_ NB216_230.out _; (with_reducible repeat ((refine au ?_ _))); refine bL ?_ NB216_230.out _; (with_reducible repeat ((refine au ?_ _))); exact BK216.out)) (av (by repeat ((with_reducible first | exact HB.out | refine bT ?_ GE230.out))))); replace HO227 := ah.mk (Kd.dY (by (with_reducible repeat ((apply Kd.bJ))); exact (Kd.dw (Kd.dB (p := ⟨gb230, 2, none⟩) (Kd.dB (p := ⟨gb230, 1, none⟩) (Kd.dB (p := ⟨gb230, 0, none⟩) (Kd.gI HO227.out BK230.out (by decide)) (fun _ hk => hk.2) (.string t224)) (fun _ hk => hk.2) (.slice Ao156 t225.length co156)) (fun _ hk => hk.2) (.int .i64 t228)) (fun _ h_ => h_.1))) (Kd.fH ho159) hb); replace BK216 := ah.mk (ay (g := gb216) (o := .cells #[.string a1_0, .int .i64 a1_1, .int .i64 a1_2, .int .i64 a1_3, .string a1_4] 28 (0, 0)) (by (with_reducible repeat ((refine au ?_ _))); refine bL ?_ NB216_230.out _; (with_reducible repeat ((refine au ?_ _))); refine bL ?_ NB216_230.out _; (with_reducible repeat ((refine au ?_ _))); refine bL ?_ NB216_230.out _; (with_reducible repeat ((refine au ?_ _))); exact BK216.out) hb); replace BK230 := ah.mk (ay (g := gb230) (o := .cells #[.string t224, .slice Ao156 t225.length co156, .int .i64 t228] 31 (0, 0)) (by (with_reducible repeat ((refine au ?_ _))); refine bA (cs := #[.string t224, .slice Ao156 t225.length co156, .int .i64 0]) ?_ 2 _ rfl; (with_reducible repeat ((refine au ?_ _))); refine bA (cs := #[.string t224, .slice none 0 0, .int .i64 0]) ?_ 1 _ rfl; (with_reducible repeat ((refine au ?_ _))); refine bA (cs := #[.string (⟨#[]⟩ : ByteArray), .slice none 0 0, .int .i64 0]) ?_ 0 _ rfl; (with_reducible repeat ((refine au ?_ _))); exact BK230.out) hb); replace HB := ah.mk (ak (by repeat ((with_reducible first | exact HB.out | refine bT ?_ GE230.out))) hb); clear hb ho159; obtain ⟨Ao160, co160, eo160⟩ := Kd.bS HO233.out; subst eo160) | (refine gl_ (some 32) Tryz.func23 #[.agg #[.string t224, .slice Ao156 t225.length co156, .int .i64 t228], .slice Ao160 y231.length co160] ?_; (with_reducible refine (bU.calls kj2 t224 _ _ t225 t228 _ _ y231 t234 _ ?side1 ?side2 ?side3 ?side4 A23.out).mono ?_); (case side1 => exact (Kd.aI HO227.out).2.2); (case side2 => exact (Kd.aI HO227.out).2.1); (case side3 => exact (Kd.aI HO233.out).2.2); (case side4 => exact (Kd.aI HO233.out).2.1); rintro e w161 ⟨rfl, hb⟩; refine ⟨_, rfl, ?_⟩; replace HO227 := ah.mk (Kd.aU (by ((exact HO227.out))) hb); replace HO233 := ah.mk (Kd.aU (by ((exact HO233.out))) hb); replace BK216 := ah.mk (ay (by ((exact BK216.out))) hb); replace BK230 := ah.mk (ay (by ((exact BK230.out))) hb); replace HB := ah.mk (ak HB.out hb); (try clear hb); obtain ⟨hcz162_0, hcz162_1, hcz162_2, hcz162_3, hcz162_4, hfz162_0, hfz162_1, hfz162_2, hfz162_3, hfz162_4⟩ := z5_ BK216.out) | (refine gl_ (some 35) Tryz.func28 #[.string a1_0, .string (⟨#[2, 101, 120, 0]⟩ : ByteArray)] ?_; (with_reducible refine (aH.calls kj2 a1_0 (⟨#[2, 101, 120, 0]⟩ : ByteArray) _ _ A24.out).mono ?_); rintro e w163 ⟨rfl, hb⟩; refine ⟨_, rfl, ?_⟩; replace HO227 := ah.mk (Kd.aU (by ((exact HO227.out))) hb); replace HO233 := ah.mk (Kd.aU (by ((exact HO233.out))) hb); replace BK216 := ah.mk (ay (by ((exact BK216.out))) hb); replace BK230 := ah.mk (ay (by ((exact BK230.out))) hb); replace HB := ah.mk (ak HB.out hb); (try clear hb); obtain ⟨hcz164_0, hcz164_1, hcz164_2, hcz164_3, hcz164_4, hfz164_0, hfz164_1, hfz164_2, hfz164_3, hfz164_4⟩ := z5_ BK216.out; obtain ⟨hcz165_0, hcz165_1, hcz165_2, hfz165_0, hfz165_1, hfz165_2⟩ := z3_ BK230.out) | ((with_reducible refine bK (N := 66) rfl ?_); (try (refine dA (by rfl) ?_; dsimp only)); refine Kd.iC k28 _ 28 ?hg (N := 66) ?hd (xs := ([(⟨a1_0, a1_1, a1_2, a1_3, a1_4⟩ : S28)] : List (S28))) (inner := [.string a1_0, .int .i64 a1_1, .int .i64 a1_2, .int .i64 a1_3, .string a1_4]) (ok := fun _ => True) (okp := fun _ => True) ?hr ?hp (fun _ hk => hk) trivial (Below.refl _ _) (Nat.le_refl _) (by simp) ?_; (case hd => rfl); (case hg => rfl); (case hr => (go_simp; done)); (case hp => exact (aY.c5 (show Kd.M k28 _ _ _ (⟨a1_0, a1_1, a1_2, a1_3, a1_4⟩ : S28) [.string a1_0, .int .i64 a1_1, .int .i64 a1_2, .int .i64 a1_3, .string a1_4] from (gY _ _ _ (⟨a1_0, a1_1, a1_2, a1_3, a1_4⟩ : S28) )) (aY.none _ _))); intro v249 w166 ho167 hb hg_ hnew_; clear hg_ hnew_; ((rw [← Ny248.out] at ho167)); have HO250 := ah.mk (Kd.bC (Kd.iP (Kd.fM (Kd.fM ho167 (Kd.iQ (by ((exact HO227.out))))) (Kd.iQ (by ((exact HO233.out))))) (g := gb216) (o := .cells #[.string a1_0, .int .i64 a1_1, .int .i64 a1_2, .int .i64 a1_3, .string a1_4] 28 (0, 0)) (by ((exact BK216.out)))) (av HB.out)); replace HO227 := ah.mk (Kd.dY (by ((exact HO227.out))) (Kd.fH ho167) hb); replace HO233 := ah.mk (Kd.dY (by ((exact HO233.out))) (Kd.fH ho167) hb); replace BK216 := ah.mk (ay (by ((exact BK216.out))) hb); replace BK230 := ah.mk (ay (by ((exact BK230.out))) hb); replace HB := ah.mk (ak HB.out hb); clear hb ho167; obtain ⟨Ao168, co168, eo168⟩ := Kd.bS HO250.out; subst eo168) | (refine gl_ (some 67) Tryz.func26 #[.agg #[.string t224, .slice Ao156 t225.length co156, .int .i64 t228], .slice Ao168 y248.length co168] ?_; (with_reducible refine (bQ.calls kj2 t224 _ _ t225 t228 _ _ y248 t251 _ ?side1 ?side2 ?side3 ?side4 A149.out).mono ?_); (case side1 => exact (Kd.aI HO227.out).2.2); (case side2 => exact (Kd.aI HO227.out).2.1); (case side3 => exact (Kd.aI HO250.out).2.2); (case side4 => exact (Kd.aI HO250.out).2.1); rintro e w169 ⟨v252, rfl, ho0, hb⟩; refine ⟨_, rfl, ?_⟩; have HO253 := ah.mk (Kd.bC ho0 (av HB.out)); replace HO227 := ah.mk (Kd.aU (by ((exact HO227.out))) hb); replace HO233 := ah.mk (Kd.aU (by ((exact HO233.out))) hb); replace HO250 := ah.mk (Kd.aU (by ((exact HO250.out))) hb); replace BK216 := ah.mk (ay (by ((exact BK216.out))) hb); replace BK230 := ah.mk (ay (by ((exact BK230.out))) hb); replace HB := ah.mk (ak HB.out hb); (try clear hb); (try clear ho0); obtain ⟨Ao170, co170, eo170⟩ := Kd.bS HO253.out; subst eo170))
         rotate_left 3
         focus
          rw [if_neg c148] at H
          have c148b0 : (a1_2 == 255) = false := beq_eq_false_iff_ne.mpr c148
          have c148b1 : (a1_2 != 255) = true := bne_iff_ne.mpr c148
          obtain rfl := Option.some.inj H
          go_wp2_with (first | (refine gl_ (some 24) Tryz.func21 #[.string (⟨#[2, 101, 120, 0]⟩ : ByteArray), .slice A0 l0.length c0] ?_; (with_reducible refine (bE.calls kj2 (⟨#[2, 101, 120, 0]⟩ : ByteArray) _ _ l0 t224 t225 t228 t229 _ ?side1 ?side2 A21.out).mono ?_); (case side1 => repeat ((exact (Kd.fA HR0.out HB.out)))); (case side2 => exact HC0.out); rintro e w209 ⟨v226, rfl, ho0, hb⟩; refine ⟨_, rfl, ?_⟩; have HO227 := ah.mk (Kd.bC (Kd.iP ho0 (g := gb216) (o := .cells #[.string a1_0, .int .i64 a1_1, .int .i64 a1_2, .int .i64 a1_3, .string a1_4] 28 (0, 0)) (by ((exact BK216.out)))) (av HB.out)); replace BK216 := ah.mk (ay (by ((exact BK216.out))) hb); replace HB := ah.mk (ak HB.out hb); (try clear hb); (try clear ho0)) | ((((refine be_ (N := 5) (cs := #[.string (⟨#[]⟩ : ByteArray), .slice none 0 0, .int .i64 0]) (t := 31) ?_))); intro gb230 hg w210 hbox hb; have BK230 := ah.mk (hbox); have GW230 := ah.mk (ge_ hg (av HB.out)); have GE230 := ah.mk (ge_ hg (av HB.out)); have NB216_230 := ah.mk (nl_ hg (by ((exact BK216.out)))); have NB230_216 := ah.mk (nr_ hg (by ((exact BK216.out)))); replace HO227 := ah.mk (Kd.aU (by ((exact HO227.out))) hb); replace BK216 := ah.mk (ay (by ((exact BK216.out))) hb); replace HB := ah.mk (ak HB.out hb); clear hb hbox hg; have hnb211 := NB230_216.out; have hnc211 := NB216_230.out; obtain ⟨hcz212_0, hcz212_1, hcz212_2, hfz212_0, hfz212_1, hfz212_2⟩ := z3_ BK230.out; obtain ⟨Ao213, co213, eo213⟩ := Kd.bS HO227.out; subst eo213; obtain ⟨hcz214_0, hcz214_1, hcz214_2, hcz214_3, hcz214_4, hfz214_0, hfz214_1, hfz214_2, hfz214_3, hfz214_4⟩ := z5_ BK216.out) | ((with_reducible refine bK (N := 31) rfl ?_); (try (refine dA (by rfl) ?_; dsimp only)); refine Kd.iC k28 _ 28 ?hg (N := 31) ?hd (xs := ([(⟨a1_0, a1_1, a1_2, a1_3, a1_4⟩ : S28)] : List (S28))) (inner := [.string a1_0, .int .i64 a1_1, .int .i64 a1_2, .int .i64 a1_3, .string a1_4]) (ok := fun _ => True) (okp := fun _ => True) ?hr ?hp (fun _ hk => hk) trivial (Below.refl _ _) (Nat.le_refl _) (by simp) ?_; (case hd => rfl); (case hg => rfl); (case hr => (go_simp; done)); (case hp => exact (aY.c5 (show Kd.M k28 _ _ _ (⟨a1_0, a1_1, a1_2, a1_3, a1_4⟩ : S28) [.string a1_0, .int .i64 a1_1, .int .i64 a1_2, .int .i64 a1_3, .string a1_4] from (gY _ _ _ (⟨a1_0, a1_1, a1_2, a1_3, a1_4⟩ : S28) )) (aY.none _ _))); intro v232 w215 ho216 hb hg_ hnew_; clear hg_ hnew_; ((rw [← Ny231.out] at ho216)); have HO233 := ah.mk (Kd.bC (Kd.iP (Kd.fM ho216 (Kd.iQ (by (with_reducible repeat ((apply Kd.bJ))); exact (Kd.dw (Kd.dB (p := ⟨gb230, 2, none⟩) (Kd.dB (p := ⟨gb230, 1, none⟩) (Kd.dB (p := ⟨gb230, 0, none⟩) (Kd.gI HO227.out BK230.out (by decide)) (fun _ hk => hk.2) (.string t224)) (fun _ hk => hk.2) (.slice Ao213 t225.length co213)) (fun _ hk => hk.2) (.int .i64 t228)) (fun _ h_ => h_.1))))) (g := gb216) (o := .cells #[.string a1_0, .int .i64 a1_1, .int .i64 a1_2, .int .i64 a1_3, .string a1_4] 28 (0, 0)) (by (with_reducible repeat ((refine au ?_ _))); refine bL ?_ NB216_230.out _; (with_reducible repeat ((refine au ?_ _))); refine bL ?_ NB216_230.out _; (with_reducible repeat ((refine au ?_ _))); refine bL ?_ NB216_230.out _; (with_reducible repeat ((refine au ?_ _))); exact BK216.out)) (av (by repeat ((with_reducible first | exact HB.out | refine bT ?_ GE230.out))))); replace HO227 := ah.mk (Kd.dY (by (with_reducible repeat ((apply Kd.bJ))); exact (Kd.dw (Kd.dB (p := ⟨gb230, 2, none⟩) (Kd.dB (p := ⟨gb230, 1, none⟩) (Kd.dB (p := ⟨gb230, 0, none⟩) (Kd.gI HO227.out BK230.out (by decide)) (fun _ hk => hk.2) (.string t224)) (fun _ hk => hk.2) (.slice Ao213 t225.length co213)) (fun _ hk => hk.2) (.int .i64 t228)) (fun _ h_ => h_.1))) (Kd.fH ho216) hb); replace BK216 := ah.mk (ay (g := gb216) (o := .cells #[.string a1_0, .int .i64 a1_1, .int .i64 a1_2, .int .i64 a1_3, .string a1_4] 28 (0, 0)) (by (with_reducible repeat ((refine au ?_ _))); refine bL ?_ NB216_230.out _; (with_reducible repeat ((refine au ?_ _))); refine bL ?_ NB216_230.out _; (with_reducible repeat ((refine au ?_ _))); refine bL ?_ NB216_230.out _; (with_reducible repeat ((refine au ?_ _))); exact BK216.out) hb); replace BK230 := ah.mk (ay (g := gb230) (o := .cells #[.string t224, .slice Ao213 t225.length co213, .int .i64 t228] 31 (0, 0)) (by (with_reducible repeat ((refine au ?_ _))); refine bA (cs := #[.string t224, .slice Ao213 t225.length co213, .int .i64 0]) ?_ 2 _ rfl; (with_reducible repeat ((refine au ?_ _))); refine bA (cs := #[.string t224, .slice none 0 0, .int .i64 0]) ?_ 1 _ rfl; (with_reducible repeat ((refine au ?_ _))); refine bA (cs := #[.string (⟨#[]⟩ : ByteArray), .slice none 0 0, .int .i64 0]) ?_ 0 _ rfl; (with_reducible repeat ((refine au ?_ _))); exact BK230.out) hb); replace HB := ah.mk (ak (by repeat ((with_reducible first | exact HB.out | refine bT ?_ GE230.out))) hb); clear hb ho216; obtain ⟨Ao217, co217, eo217⟩ := Kd.bS HO233.out; subst eo217) | (refine gl_ (some 32) Tryz.func23 #[.agg #[.string t224, .slice Ao213 t225.length co213, .int .i64 t228], .slice Ao217 y231.length co217] ?_; (with_reducible refine (bU.calls kj2 t224 _ _ t225 t228 _ _ y231 t234 _ ?side1 ?side2 ?side3 ?side4 A23.out).mono ?_); (case side1 => exact (Kd.aI HO227.out).2.2); (case side2 => exact (Kd.aI HO227.out).2.1); (case side3 => exact (Kd.aI HO233.out).2.2); (case side4 => exact (Kd.aI HO233.out).2.1); rintro e w218 ⟨rfl, hb⟩; refine ⟨_, rfl, ?_⟩; replace HO227 := ah.mk (Kd.aU (by ((exact HO227.out))) hb); replace HO233 := ah.mk (Kd.aU (by ((exact HO233.out))) hb); replace BK216 := ah.mk (ay (by ((exact BK216.out))) hb); replace BK230 := ah.mk (ay (by ((exact BK230.out))) hb); replace HB := ah.mk (ak HB.out hb); (try clear hb); obtain ⟨hcz219_0, hcz219_1, hcz219_2, hcz219_3, hcz219_4, hfz219_0, hfz219_1, hfz219_2, hfz219_3, hfz219_4⟩ := z5_ BK216.out) | (refine gl_ (some 35) Tryz.func28 #[.string a1_0, .string (⟨#[2, 101, 120, 0]⟩ : ByteArray)] ?_; (with_reducible refine (aH.calls kj2 a1_0 (⟨#[2, 101, 120, 0]⟩ : ByteArray) _ _ A24.out).mono ?_); rintro e w220 ⟨rfl, hb⟩; refine ⟨_, rfl, ?_⟩; replace HO227 := ah.mk (Kd.aU (by ((exact HO227.out))) hb); replace HO233 := ah.mk (Kd.aU (by ((exact HO233.out))) hb); replace BK216 := ah.mk (ay (by ((exact BK216.out))) hb); replace BK230 := ah.mk (ay (by ((exact BK230.out))) hb); replace HB := ah.mk (ak HB.out hb); (try clear hb); obtain ⟨hcz221_0, hcz221_1, hcz221_2, hcz221_3, hcz221_4, hfz221_0, hfz221_1, hfz221_2, hfz221_3, hfz221_4⟩ := z5_ BK216.out))
         rotate_left
        rotate_left 4
       rotate_left 7
      rotate_left 10
      focus
       replace c25 := Bool.eq_false_iff.mpr c25
       subst c25
       rw [if_neg ff_] at H
       by_cases c222 : t234 = 10
       focus
        rw [if_pos c222] at H
        have c222b0 : (t234 == 10) = true := beq_iff_eq.mpr c222
        have c222b1 : (t234 != 10) = false := bne_eq_false_iff_eq.mpr c222
        clear c222
        obtain ⟨y254, hy254⟩ : ∃ y_ : List (S28), y_ = (([(⟨a1_0, a1_1, a1_2, a1_3, a1_4⟩ : S28)] : List (S28))) := ⟨_, rfl⟩
        replace H : ((bQ.f kj2 t224 t225 t228 y254).bind fun t257 => (some ((t257.length : Int) == 0))) = some r := by (rw [hy254]; with_reducible exact H)
        have Ny254 := ah.mk hy254
        clear hy254
        obtain ⟨t257, A223, H⟩ := cZ H
        obtain rfl := Option.some.inj H
        go_wp2_with (first | (refine gl_ (some 24) Tryz.func21 #[.string (⟨#[2, 101, 120, 0]⟩ : ByteArray), .slice A0 l0.length c0] ?_; (with_reducible refine (bE.calls kj2 (⟨#[2, 101, 120, 0]⟩ : ByteArray) _ _ l0 t224 t225 t228 t229 _ ?side1 ?side2 A21.out).mono ?_); (case side1 => repeat ((exact (Kd.fA HR0.out HB.out)))); (case side2 => exact HC0.out); rintro e w224 ⟨v226, rfl, ho0, hb⟩; refine ⟨_, rfl, ?_⟩; have HO227 := ah.mk (Kd.bC (Kd.iP ho0 (g := gb216) (o := .cells #[.string a1_0, .int .i64 a1_1, .int .i64 a1_2, .int .i64 a1_3, .string a1_4] 28 (0, 0)) (by ((exact BK216.out)))) (av HB.out)); replace BK216 := ah.mk (ay (by ((exact BK216.out))) hb); replace HB := ah.mk (ak HB.out hb); (try clear hb); (try clear ho0)) | ((((refine be_ (N := 5) (cs := #[.string (⟨#[]⟩ : ByteArray), .slice none 0 0, .int .i64 0]) (t := 31) ?_))); intro gb230 hg w225 hbox hb; have BK230 := ah.mk (hbox); have GW230 := ah.mk (ge_ hg (av HB.out)); have GE230 := ah.mk (ge_ hg (av HB.out)); have NB216_230 := ah.mk (nl_ hg (by ((exact BK216.out)))); have NB230_216 := ah.mk (nr_ hg (by ((exact BK216.out)))); replace HO227 := ah.mk (Kd.aU (by ((exact HO227.out))) hb); replace BK216 := ah.mk (ay (by ((exact BK216.out))) hb); replace HB := ah.mk (ak HB.out hb); clear hb hbox hg; have hnb226 := NB230_216.out; have hnc226 := NB216_230.out; obtain ⟨hcz227_0, hcz227_1, hcz227_2, hfz227_0, hfz227_1, hfz227_2⟩ := z3_ BK230.out; obtain ⟨Ao228, co228, eo228⟩ := Kd.bS HO227.out; subst eo228; obtain ⟨hcz229_0, hcz229_1, hcz229_2, hcz229_3, hcz229_4, hfz229_0, hfz229_1, hfz229_2, hfz229_3, hfz229_4⟩ := z5_ BK216.out) | ((with_reducible refine bK (N := 31) rfl ?_); (try (refine dA (by rfl) ?_; dsimp only)); refine Kd.iC k28 _ 28 ?hg (N := 31) ?hd (xs := ([(⟨a1_0, a1_1, a1_2, a1_3, a1_4⟩ : S28)] : List (S28))) (inner := [.string a1_0, .int .i64 a1_1, .int .i64 a1_2, .int .i64 a1_3, .string a1_4]) (ok := fun _ => True) (okp := fun _ => True) ?hr ?hp (fun _ hk => hk) trivial (Below.refl _ _) (Nat.le_refl _) (by simp) ?_; (case hd => rfl); (case hg => rfl); (case hr => (go_simp; done)); (case hp => exact (aY.c5 (show Kd.M k28 _ _ _ (⟨a1_0, a1_1, a1_2, a1_3, a1_4⟩ : S28) [.string a1_0, .int .i64 a1_1, .int .i64 a1_2, .int .i64 a1_3, .string a1_4] from (gY _ _ _ (⟨a1_0, a1_1, a1_2, a1_3, a1_4⟩ : S28) )) (aY.none _ _))); intro v232 w230 ho231 hb hg_ hnew_; clear hg_ hnew_; ((rw [← Ny231.out] at ho231)); have HO233 := ah.mk (Kd.bC (Kd.iP (Kd.fM ho231 (Kd.iQ (by (with_reducible repeat ((apply Kd.bJ))); exact (Kd.dw (Kd.dB (p := ⟨gb230, 2, none⟩) (Kd.dB (p := ⟨gb230, 1, none⟩) (Kd.dB (p := ⟨gb230, 0, none⟩) (Kd.gI HO227.out BK230.out (by decide)) (fun _ hk => hk.2) (.string t224)) (fun _ hk => hk.2) (.slice Ao228 t225.length co228)) (fun _ hk => hk.2) (.int .i64 t228)) (fun _ h_ => h_.1))))) (g := gb216) (o := .cells #[.string a1_0, .int .i64 a1_1, .int .i64 a1_2, .int .i64 a1_3, .string a1_4] 28 (0, 0)) (by (with_reducible repeat ((refine au ?_ _))); refine bL ?_ NB216_230.out _; (with_reducible repeat ((refine au ?_ _))); refine bL ?_ NB216_230.out _; (with_reducible repeat ((refine au ?_ _))); refine bL ?_ NB216_230.out _; (with_reducible repeat ((refine au ?_ _))); exact BK216.out)) (av (by repeat ((with_reducible first | exact HB.out | refine bT ?_ GE230.out))))); replace HO227 := ah.mk (Kd.dY (by (with_reducible repeat ((apply Kd.bJ))); exact (Kd.dw (Kd.dB (p := ⟨gb230, 2, none⟩) (Kd.dB (p := ⟨gb230, 1, none⟩) (Kd.dB (p := ⟨gb230, 0, none⟩) (Kd.gI HO227.out BK230.out (by decide)) (fun _ hk => hk.2) (.string t224)) (fun _ hk => hk.2) (.slice Ao228 t225.length co228)) (fun _ hk => hk.2) (.int .i64 t228)) (fun _ h_ => h_.1))) (Kd.fH ho231) hb); replace BK216 := ah.mk (ay (g := gb216) (o := .cells #[.string a1_0, .int .i64 a1_1, .int .i64 a1_2, .int .i64 a1_3, .string a1_4] 28 (0, 0)) (by (with_reducible repeat ((refine au ?_ _))); refine bL ?_ NB216_230.out _; (with_reducible repeat ((refine au ?_ _))); refine bL ?_ NB216_230.out _; (with_reducible repeat ((refine au ?_ _))); refine bL ?_ NB216_230.out _; (with_reducible repeat ((refine au ?_ _))); exact BK216.out) hb); replace BK230 := ah.mk (ay (g := gb230) (o := .cells #[.string t224, .slice Ao228 t225.length co228, .int .i64 t228] 31 (0, 0)) (by (with_reducible repeat ((refine au ?_ _))); refine bA (cs := #[.string t224, .slice Ao228 t225.length co228, .int .i64 0]) ?_ 2 _ rfl; (with_reducible repeat ((refine au ?_ _))); refine bA (cs := #[.string t224, .slice none 0 0, .int .i64 0]) ?_ 1 _ rfl; (with_reducible repeat ((refine au ?_ _))); refine bA (cs := #[.string (⟨#[]⟩ : ByteArray), .slice none 0 0, .int .i64 0]) ?_ 0 _ rfl; (with_reducible repeat ((refine au ?_ _))); exact BK230.out) hb); replace HB := ah.mk (ak (by repeat ((with_reducible first | exact HB.out | refine bT ?_ GE230.out))) hb); clear hb ho231; obtain ⟨Ao232, co232, eo232⟩ := Kd.bS HO233.out; subst eo232) | (refine gl_ (some 32) Tryz.func23 #[.agg #[.string t224, .slice Ao228 t225.length co228, .int .i64 t228], .slice Ao232 y231.length co232] ?_; (with_reducible refine (bU.calls kj2 t224 _ _ t225 t228 _ _ y231 t234 _ ?side1 ?side2 ?side3 ?side4 A23.out).mono ?_); (case side1 => exact (Kd.aI HO227.out).2.2); (case side2 => exact (Kd.aI HO227.out).2.1); (case side3 => exact (Kd.aI HO233.out).2.2); (case side4 => exact (Kd.aI HO233.out).2.1); rintro e w233 ⟨rfl, hb⟩; refine ⟨_, rfl, ?_⟩; replace HO227 := ah.mk (Kd.aU (by ((exact HO227.out))) hb); replace HO233 := ah.mk (Kd.aU (by ((exact HO233.out))) hb); replace BK216 := ah.mk (ay (by ((exact BK216.out))) hb); replace BK230 := ah.mk (ay (by ((exact BK230.out))) hb); replace HB := ah.mk (ak HB.out hb); (try clear hb); obtain ⟨hcz234_0, hcz234_1, hcz234_2, hcz234_3, hcz234_4, hfz234_0, hfz234_1, hfz234_2, hfz234_3, hfz234_4⟩ := z5_ BK216.out) | (refine gl_ (some 35) Tryz.func28 #[.string a1_0, .string (⟨#[2, 101, 120, 0]⟩ : ByteArray)] ?_; (with_reducible refine (aH.calls kj2 a1_0 (⟨#[2, 101, 120, 0]⟩ : ByteArray) _ _ A24.out).mono ?_); rintro e w235 ⟨rfl, hb⟩; refine ⟨_, rfl, ?_⟩; replace HO227 := ah.mk (Kd.aU (by ((exact HO227.out))) hb); replace HO233 := ah.mk (Kd.aU (by ((exact HO233.out))) hb); replace BK216 := ah.mk (ay (by ((exact BK216.out))) hb); replace BK230 := ah.mk (ay (by ((exact BK230.out))) hb); replace HB := ah.mk (ak HB.out hb); (try clear hb); obtain ⟨hcz236_0, hcz236_1, hcz236_2, hfz236_0, hfz236_1, hfz236_2⟩ := z3_ BK230.out; obtain ⟨hcz237_0, hcz237_1, hcz237_2, hcz237_3, hcz237_4, hfz237_0, hfz237_1, hfz237_2, hfz237_3, hfz237_4⟩ := z5_ BK216.out) | ((with_reducible refine bK (N := 42) rfl ?_); (try (refine dA (by rfl) ?_; dsimp only)); refine Kd.iC k28 _ 28 ?hg (N := 42) ?hd (xs := ([(⟨a1_0, a1_1, a1_2, a1_3, a1_4⟩ : S28)] : List (S28))) (inner := [.string a1_0, .int .i64 a1_1, .int .i64 a1_2, .int .i64 a1_3, .string a1_4]) (ok := fun _ => True) (okp := fun _ => True) ?hr ?hp (fun _ hk => hk) trivial (Below.refl _ _) (Nat.le_refl _) (by simp) ?_; (case hd => rfl); (case hg => rfl); (case hr => (go_simp; done)); (case hp => exact (aY.c5 (show Kd.M k28 _ _ _ (⟨a1_0, a1_1, a1_2, a1_3, a1_4⟩ : S28) [.string a1_0, .int .i64 a1_1, .int .i64 a1_2, .int .i64 a1_3, .string a1_4] from (gY _ _ _ (⟨a1_0, a1_1, a1_2, a1_3, a1_4⟩ : S28) )) (aY.none _ _))); intro v255 w238 ho239 hb hg_ hnew_; clear hg_ hnew_; ((rw [← Ny254.out] at ho239)); have HO256 := ah.mk (Kd.bC (Kd.iP (Kd.fM (Kd.fM ho239 (Kd.iQ (by ((exact HO227.out))))) (Kd.iQ (by ((exact HO233.out))))) (g := gb216) (o := .cells #[.string a1_0, .int .i64 a1_1, .int .i64 a1_2, .int .i64 a1_3, .string a1_4] 28 (0, 0)) (by ((exact BK216.out)))) (av HB.out)); replace HO227 := ah.mk (Kd.dY (by ((exact HO227.out))) (Kd.fH ho239) hb); replace HO233 := ah.mk (Kd.dY (by ((exact HO233.out))) (Kd.fH ho239) hb); replace BK216 := ah.mk (ay (by ((exact BK216.out))) hb); replace BK230 := ah.mk (ay (by ((exact BK230.out))) hb); replace HB := ah.mk (ak HB.out hb); clear hb ho239; obtain ⟨Ao240, co240, eo240⟩ := Kd.bS HO256.out; subst eo240) | (go_at_call 26; (with_reducible refine (bQ.calls kj2 t224 _ _ t225 t228 _ _ y254 t257 _ ?side1 ?side2 ?side3 ?side4 A223.out).mono ?_); (case side1 => exact (Kd.aI HO227.out).2.2); (case side2 => exact (Kd.aI HO227.out).2.1); (case side3 => exact (Kd.aI HO256.out).2.2); (case side4 => exact (Kd.aI HO256.out).2.1); rintro e w241 ⟨v258, rfl, ho0, hb⟩; have HO259 := ah.mk (Kd.bC ho0 (av HB.out)); replace HO227 := ah.mk (Kd.aU (by ((exact HO227.out))) hb); replace HO233 := ah.mk (Kd.aU (by ((exact HO233.out))) hb); replace HO256 := ah.mk (Kd.aU (by ((exact HO256.out))) hb); replace BK216 := ah.mk (ay (by ((exact BK216.out))) hb); replace BK230 := ah.mk (ay (by ((exact BK230.out))) hb); replace HB := ah.mk (ak HB.out hb); (try clear hb); (try clear ho0); obtain ⟨Ao242, co242, eo242⟩ := Kd.bS HO259.out; subst eo242))
       rotate_left
       focus
        rw [if_neg c222] at H
        have c222b0 : (t234 == 10) = false := beq_eq_false_iff_ne.mpr c222
        have c222b1 : (t234 != 10) = true := bne_iff_ne.mpr c222
        obtain rfl := Option.some.inj H
        go_wp2_with (first | (refine gl_ (some 24) Tryz.func21 #[.string (⟨#[2, 101, 120, 0]⟩ : ByteArray), .slice A0 l0.length c0] ?_; (with_reducible refine (bE.calls kj2 (⟨#[2, 101, 120, 0]⟩ : ByteArray) _ _ l0 t224 t225 t228 t229 _ ?side1 ?side2 A21.out).mono ?_); (case side1 => repeat ((exact (Kd.fA HR0.out HB.out)))); (case side2 => exact HC0.out); rintro e w243 ⟨v226, rfl, ho0, hb⟩; refine ⟨_, rfl, ?_⟩; have HO227 := ah.mk (Kd.bC (Kd.iP ho0 (g := gb216) (o := .cells #[.string a1_0, .int .i64 a1_1, .int .i64 a1_2, .int .i64 a1_3, .string a1_4] 28 (0, 0)) (by ((exact BK216.out)))) (av HB.out)); replace BK216 := ah.mk (ay (by ((exact BK216.out))) hb); replace HB := ah.mk (ak HB.out hb); (try clear hb); (try clear ho0)) | ((((refine be_ (N := 5) (cs := #[.string (⟨#[]⟩ : ByteArray), .slice none 0 0, .int .i64 0]) (t := 31) ?_))); intro gb230 hg w244 hbox hb; have BK230 := ah.mk (hbox); have GW230 := ah.mk (ge_ hg (av HB.out)); have GE230 := ah.mk (ge_ hg (av HB.out)); have NB216_230 := ah.mk (nl_ hg (by ((exact BK216.out)))); have NB230_216 := ah.mk (nr_ hg (by ((exact BK216.out)))); replace HO227 := ah.mk (Kd.aU (by ((exact HO227.out))) hb); replace BK216 := ah.mk (ay (by ((exact BK216.out))) hb); replace HB := ah.mk (ak HB.out hb); clear hb hbox hg; have hnb245 := NB230_216.out; have hnc245 := NB216_230.out; obtain ⟨hcz246_0, hcz246_1, hcz246_2, hfz246_0, hfz246_1, hfz246_2⟩ := z3_ BK230.out; obtain ⟨Ao247, co247, eo247⟩ := Kd.bS HO227.out; subst eo247; obtain ⟨hcz248_0, hcz248_1, hcz248_2, hcz248_3, hcz248_4, hfz248_0, hfz248_1, hfz248_2, hfz248_3, hfz248_4⟩ := z5_ BK216.out) | ((with_reducible refine bK (N := 31) rfl ?_); (try (refine dA (by rfl) ?_; dsimp only)); refine Kd.iC k28 _ 28 ?hg (N := 31) ?hd (xs := ([(⟨a1_0, a1_1, a1_2, a1_3, a1_4⟩ : S28)] : List (S28))) (inner := [.string a1_0, .int .i64 a1_1, .int .i64 a1_2, .int .i64 a1_3, .string a1_4]) (ok := fun _ => True) (okp := fun _ => True) ?hr ?hp (fun _ hk => hk) trivial (Below.refl _ _) (Nat.le_refl _) (by simp) ?_; (case hd => rfl); (case hg => rfl); (case hr => (go_simp; done)); (case hp => exact (aY.c5 (show Kd.M k28 _ _ _ (⟨a1_0, a1_1, a1_2, a1_3, a1_4⟩ : S28) [.string a1_0, .int .i64 a1_1, .int .i64 a1_2, .int .i64 a1_3, .string a1_4] from (gY _ _ _ (⟨a1_0, a1_1, a1_2, a1_3, a1_4⟩ : S28) )) (aY.none _ _))); intro v232 w249 ho250 hb hg_ hnew_; clear hg_ hnew_; ((rw [← Ny231.out] at ho250)); have HO233 := ah.mk (Kd.bC (Kd.iP (Kd.fM ho250 (Kd.iQ (by (with_reducible repeat ((apply Kd.bJ))); exact (Kd.dw (Kd.dB (p := ⟨gb230, 2, none⟩) (Kd.dB (p := ⟨gb230, 1, none⟩) (Kd.dB (p := ⟨gb230, 0, none⟩) (Kd.gI HO227.out BK230.out (by decide)) (fun _ hk => hk.2) (.string t224)) (fun _ hk => hk.2) (.slice Ao247 t225.length co247)) (fun _ hk => hk.2) (.int .i64 t228)) (fun _ h_ => h_.1))))) (g := gb216) (o := .cells #[.string a1_0, .int .i64 a1_1, .int .i64 a1_2, .int .i64 a1_3, .string a1_4] 28 (0, 0)) (by (with_reducible repeat ((refine au ?_ _))); refine bL ?_ NB216_230.out _; (with_reducible repeat ((refine au ?_ _))); refine bL ?_ NB216_230.out _; (with_reducible repeat ((refine au ?_ _))); refine bL ?_ NB216_230.out _; (with_reducible repeat ((refine au ?_ _))); exact BK216.out)) (av (by repeat ((with_reducible first | exact HB.out | refine bT ?_ GE230.out))))); replace HO227 := ah.mk (Kd.dY (by (with_reducible repeat ((apply Kd.bJ))); exact (Kd.dw (Kd.dB (p := ⟨gb230, 2, none⟩) (Kd.dB (p := ⟨gb230, 1, none⟩) (Kd.dB (p := ⟨gb230, 0, none⟩) (Kd.gI HO227.out BK230.out (by decide)) (fun _ hk => hk.2) (.string t224)) (fun _ hk => hk.2) (.slice Ao247 t225.length co247)) (fun _ hk => hk.2) (.int .i64 t228)) (fun _ h_ => h_.1))) (Kd.fH ho250) hb); replace BK216 := ah.mk (ay (g := gb216) (o := .cells #[.string a1_0, .int .i64 a1_1, .int .i64 a1_2, .int .i64 a1_3, .string a1_4] 28 (0, 0)) (by (with_reducible repeat ((refine au ?_ _))); refine bL ?_ NB216_230.out _; (with_reducible repeat ((refine au ?_ _))); refine bL ?_ NB216_230.out _; (with_reducible repeat ((refine au ?_ _))); refine bL ?_ NB216_230.out _; (with_reducible repeat ((refine au ?_ _))); exact BK216.out) hb); replace BK230 := ah.mk (ay (g := gb230) (o := .cells #[.string t224, .slice Ao247 t225.length co247, .int .i64 t228] 31 (0, 0)) (by (with_reducible repeat ((refine au ?_ _))); refine bA (cs := #[.string t224, .slice Ao247 t225.length co247, .int .i64 0]) ?_ 2 _ rfl; (with_reducible repeat ((refine au ?_ _))); refine bA (cs := #[.string t224, .slice none 0 0, .int .i64 0]) ?_ 1 _ rfl; (with_reducible repeat ((refine au ?_ _))); refine bA (cs := #[.string (⟨#[]⟩ : ByteArray), .slice none 0 0, .int .i64 0]) ?_ 0 _ rfl; (with_reducible repeat ((refine au ?_ _))); exact BK230.out) hb); replace HB := ah.mk (ak (by repeat ((with_reducible first | exact HB.out | refine bT ?_ GE230.out))) hb); clear hb ho250; obtain ⟨Ao251, co251, eo251⟩ := Kd.bS HO233.out; subst eo251) | (refine gl_ (some 32) Tryz.func23 #[.agg #[.string t224, .slice Ao247 t225.length co247, .int .i64 t228], .slice Ao251 y231.length co251] ?_; (with_reducible refine (bU.calls kj2 t224 _ _ t225 t228 _ _ y231 t234 _ ?side1 ?side2 ?side3 ?side4 A23.out).mono ?_); (case side1 => exact (Kd.aI HO227.out).2.2); (case side2 => exact (Kd.aI HO227.out).2.1); (case side3 => exact (Kd.aI HO233.out).2.2); (case side4 => exact (Kd.aI HO233.out).2.1); rintro e w252 ⟨rfl, hb⟩; refine ⟨_, rfl, ?_⟩; replace HO227 := ah.mk (Kd.aU (by ((exact HO227.out))) hb); replace HO233 := ah.mk (Kd.aU (by ((exact HO233.out))) hb); replace BK216 := ah.mk (ay (by ((exact BK216.out))) hb); replace BK230 := ah.mk (ay (by ((exact BK230.out))) hb); replace HB := ah.mk (ak HB.out hb); (try clear hb); obtain ⟨hcz253_0, hcz253_1, hcz253_2, hcz253_3, hcz253_4, hfz253_0, hfz253_1, hfz253_2, hfz253_3, hfz253_4⟩ := z5_ BK216.out) | (refine gl_ (some 35) Tryz.func28 #[.string a1_0, .string (⟨#[2, 101, 120, 0]⟩ : ByteArray)] ?_; (with_reducible refine (aH.calls kj2 a1_0 (⟨#[2, 101, 120, 0]⟩ : ByteArray) _ _ A24.out).mono ?_); rintro e w254 ⟨rfl, hb⟩; refine ⟨_, rfl, ?_⟩; replace HO227 := ah.mk (Kd.aU (by ((exact HO227.out))) hb); replace HO233 := ah.mk (Kd.aU (by ((exact HO233.out))) hb); replace BK216 := ah.mk (ay (by ((exact BK216.out))) hb); replace BK230 := ah.mk (ay (by ((exact BK230.out))) hb); replace HB := ah.mk (ak HB.out hb); (try clear hb)))
       rotate_left
      rotate_left 2
     rotate_left 12
     focus
      rw [if_neg c22] at H
      have c22b0 : (t229 == 0) = false := beq_eq_false_iff_ne.mpr c22
      have c22b1 : (t229 != 0) = true := bne_iff_ne.mpr c22
      obtain rfl := Option.some.inj H
      go_wp2_with (first | (refine gl_ (some 24) Tryz.func21 #[.string (⟨#[2, 101, 120, 0]⟩ : ByteArray), .slice A0 l0.length c0] ?_; (with_reducible refine (bE.calls kj2 (⟨#[2, 101, 120, 0]⟩ : ByteArray) _ _ l0 t224 t225 t228 t229 _ ?side1 ?side2 A21.out).mono ?_); (case side1 => repeat ((exact (Kd.fA HR0.out HB.out)))); (case side2 => exact HC0.out); rintro e w255 ⟨v226, rfl, ho0, hb⟩; refine ⟨_, rfl, ?_⟩; have HO227 := ah.mk (Kd.bC (Kd.iP ho0 (g := gb216) (o := .cells #[.string a1_0, .int .i64 a1_1, .int .i64 a1_2, .int .i64 a1_3, .string a1_4] 28 (0, 0)) (by ((exact BK216.out)))) (av HB.out)); replace BK216 := ah.mk (ay (by ((exact BK216.out))) hb); replace HB := ah.mk (ak HB.out hb); (try clear hb); (try clear ho0)) | ((((refine be_ (N := 5) (cs := #[.string (⟨#[]⟩ : ByteArray), .slice none 0 0, .int .i64 0]) (t := 31) ?_))); intro gb230 hg w256 hbox hb; have BK230 := ah.mk (hbox); have GW230 := ah.mk (ge_ hg (av HB.out)); have GE230 := ah.mk (ge_ hg (av HB.out)); have NB216_230 := ah.mk (nl_ hg (by ((exact BK216.out)))); have NB230_216 := ah.mk (nr_ hg (by ((exact BK216.out)))); replace HO227 := ah.mk (Kd.aU (by ((exact HO227.out))) hb); replace BK216 := ah.mk (ay (by ((exact BK216.out))) hb); replace HB := ah.mk (ak HB.out hb); clear hb hbox hg; have hnb257 := NB230_216.out; have hnc257 := NB216_230.out; obtain ⟨hcz258_0, hcz258_1, hcz258_2, hfz258_0, hfz258_1, hfz258_2⟩ := z3_ BK230.out; obtain ⟨Ao259, co259, eo259⟩ := Kd.bS HO227.out; subst eo259))
     rotate_left
     all_goals
      go_ret
      exact ⟨by rfl, by repeat ((with_reducible first | exact HB.out | refine bT ?_ GE230.out))⟩
end Go.Y.PPs
namespace Go.Y.Pure
open Go.Proofs.aj.aA Go.Y.Given Go.Y.PRd Go.Y.PRr Go.Y.PZo Go.Y.PZf Go.Y.PZh Go.Y.PPo Go.Y.PPs Go.Y.Rrs Go.Y.jV Go.Y.dL Go.Y.Oct Go.Y.Name Go.Y.dX Go.Y.dh
theorem GR (a : ByteArray) (r : RR) : mO a [r] = iT a r := by
 rw [mO, mO]
 split
 ·rename_i h; exact h.symm
 ·rfl
theorem FZ (n : ByteArray) : oK [n] = [n] := rfl
theorem CU (a : ByteArray) (r : RR) : zF a [r] = if iT a r = 0 then [gF r.f0] else [] := by
 unfold zF EM
 by_cases h : iT a r = 0
 ·rw [if_pos h, List.filter_cons, if_pos (by rw [h]; rfl)]
  exact FZ _
 ·rw [if_neg h, List.filter_cons, if_neg (by simpa using h)]
  rfl
theorem PrescanBars (l : List RR) (r : RR) (hm : l.length ≤ maxLen) (hs : ∀ s ∈ l, pR s) (hr : pR r) : ∃ k, bD.f k l r.f0 r.f1 r.f2 r.f3 r.f4 = some true := by
 refine Ev.rounds ?_
 unfold maxLen at hm
 have hoff : Ev (fun k => bD.j0 k l true r.f0 r.f1 r.f2 r.f3 r.f4) true := Ev.step (f := fun k => (dU.f k).bind fun t => some t) (fun k => by rw [bD.j0, if_pos rfl]) (Ev.bind uT (Ev.now _))
 unfold bD.f
 refine Ev.bind uT ?_
 simp only [if_true]
 obtain ⟨b, hb, hl⟩ := JU l (by omega)
 refine Ev.bind hb ?_
 cases b
 ·simp only [Bool.false_eq_true, if_false]; exact hoff
 ·simp only [if_true]
  have hl := hl rfl
  obtain ⟨b, hb, _⟩ := zH [r] (by simp)
  refine Ev.bind hb ?_
  cases b
  ·exact hoff
  ·refine Ev.step (fun k => by rw [bD.j0, if_neg (by decide)]) (Ev.bind (EW exA l (by omega)) ?_)
   rcases Gn exA l (by omega) with ⟨s, hS, hsl, e1, e2, _⟩ | ⟨e, he, e1, e2⟩
   ·rw [e1]
    simp only [if_true]
    have hsc := xw exA s (qF s) [r] (by simp)
    rw [GR] at hsc
    have ht := Cq exA s (qF s) [r] (by simp)
    rw [CU] at ht
    refine Ev.bind hsc (Ev.bind (Dy _ _) ?_)
    have hcls : ¬ r.f2 = 255 → ¬ r.f2 = 254 → ¬ r.f2 = 1 → ji r.f0 exA = true → iT exA r = 1 := fun a1 a2 a3 hu => by
     unfold iT
     rw [if_pos hu, if_neg a1, if_neg a2, if_neg a3]
    have h01 : ji r.f0 exA = true → iT exA r = 0 ∨ iT exA r = 1 := fun hu => by
     unfold iT
     rw [if_pos hu]
     repeat' split
     all_goals first | exact .inl rfl | exact .inr rfl
    cases hu : ji r.f0 exA
    ·have h10 : iT exA r = 10 := by unfold iT; rw [hu, if_neg (by decide)]
     simp only [h10, Bool.false_eq_true, if_false, if_true]
     rw [h10, if_neg (by decide)] at ht
     refine Ev.bind ht ?_
     exact Ev.now _
    ·simp only [if_true]
     have hend : Ev (fun k => (bQ.f k exA s (qF s) [r]).bind fun t => if ((iT exA r == 0) == ((t.length : Int) == 1)) = true then (if iT exA r = 0 then some true else some (iT exA r == 1)) else some false) true := by
      refine Ev.bind ht ?_
      rcases h01 hu with h0 | h0
      ·simp only [h0, if_true]
       exact Ev.const (by simp)
      ·simp only [h0]
       exact Ev.const (by simp)
     by_cases a3 : r.f2 = 1
     ·simp only [if_pos a3]; exact hend
     ·simp only [if_neg a3]
      by_cases a2 : r.f2 = 254
      ·simp only [if_pos a2]; exact hend
      ·simp only [if_neg a2]
       by_cases a1 : r.f2 = 255
       ·simp only [if_pos a1]; exact hend
       ·simp only [if_neg a1, hcls a1 a2 a3 hu]
        exact Ev.now _
   ·rw [e1]
    simp only [he, if_false]
    exact Ev.now _
end Go.Y.Pure
