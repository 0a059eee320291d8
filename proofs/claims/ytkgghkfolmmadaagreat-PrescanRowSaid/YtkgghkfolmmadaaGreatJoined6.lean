/- Contracts and facts that the claim's row is drawn from, each with its own conditions. -/
import Derived.Test.YtkgghkfolmmadaaGreatJoined5
import Derived.Deep.Slices
import Derived.Deep.Fields
import Derived.ProofKit
set_option linter.unusedSimpArgs false
set_option linter.unusedVariables false
set_option maxHeartbeats 8000000
set_option maxRecDepth 100000
open Go.Proofs Go.RowKit
namespace Go.Y.Rrs
open Go.Proofs.ah.av Go.Proofs.ah.aT Go.Proofs.ah.aU Go.Y.Given Go.Y.PRd Go.Y.PRr Go.Y.PZo Go.Y.PZf Go.Y.PZh Go.Y.PPo Go.Y.PPs Go.Y.Oct Go.Y.Name Go.Y.dY Go.Y.dK Go.Y.bY
def mq (a : ByteArray) (r : RR) : Int :=
 if jc r.f0 a = true then (if r.f2 = 255 then (if r.f4.toList = [] then (if r.f3 = 0 then (if (nT r.f1 || r.f1 == 255) = true then 0 else 1) else 1) else 1)
  else if r.f2 = 254 then (if r.f3 = 0 then (if nT r.f1 = true then 0 else 1) else 1) else if r.f2 = 1 then (if nT r.f1 = true then 0 else 1) else 1) else 10
theorem zh (b : Bool) (r : RR) : Ev (fun k => dO.j0 k b r.f0 r.f1 r.f2 r.f3 r.f4) (if r.f3 = 0 then (if b = true then 0 else 1) else 1) := by
 refine Ev.step (f := fun _ => if r.f3 = 0 then (if b = true then some 0 else some 1) else some 1) (fun k => by rw [dO.j0]) ?_
 by_cases h : r.f3 = 0
 ·simp only [if_pos h]
  cases b
  ·exact Ev.now _
  ·exact Ev.now _
 ·simp only [if_neg h]; exact Ev.now _
theorem Bv (a : ByteArray) (s : List RR) (z : Int) (r : RR) : Ev (fun k => dO.f k a s z r.f0 r.f1 r.f2 r.f3 r.f4) (mq a r) := by
 unfold dO.f mq PPo.gZ.f
 simp only [Option.bind_some]
 refine Ev.bind (Gc _ _) ?_
 cases jc r.f0 a
 ·simp only [Bool.false_eq_true, if_false]; exact Ev.now _
 ·simp only [if_true, Bw, Option.bind_some]
  by_cases h1 : r.f2 = 255
  ·simp only [if_pos h1]
   by_cases h2 : r.f4.toList = []
   ·simp only [if_pos h2]
    cases nT r.f1
    ·simp only [Bool.false_eq_true, if_false, Bool.false_or]; exact zh _ r
    ·simp only [if_true, Bool.true_or]; exact zh true r
   ·simp only [if_neg h2]; exact Ev.now _
  ·simp only [if_neg h1]
   by_cases h2 : r.f2 = 254
   ·simp only [if_pos h2]; exact zh _ r
   ·simp only [if_neg h2]
    by_cases h3 : r.f2 = 1
    ·simp only [if_pos h3]
     cases nT r.f1
     ·exact Ev.now _
     ·exact Ev.now _
    ·simp only [if_neg h3]; exact Ev.now _
theorem sP {a : ByteArray} {r : RR} (h : mq a r = 0) : bC r.f0 = true ∧ jc r.f0 a = true := by
 unfold mq at h
 split at h
 ·rename_i hu
  refine ⟨?_, hu⟩
  cases hr : bC r.f0
  ·rw [rZ (.inl hr)] at hu; cases hu
  ·rfl
 ·omega
def jJ (a : ByteArray) : List RR → Int
 | [] => 0
 | r :: l => if mq a r = 0 then jJ a l else mq a r
theorem Am (a : ByteArray) (s : List RR) (z : Int) (l : List RR) (hn : l.length ≤ 1000000) : ∀ (d i : Nat), l.length ≤ i + d → i ≤ l.length → Ev (fun k => bK.l0 k l (l.length : Int) (i : Int) a s z) (jJ a (l.drop i)) := by
 have hend : ∀ i : Nat, l.length ≤ i → Ev (fun k => bK.l0 k l (l.length : Int) (i : Int) a s z) (jJ a (l.drop i)) := by
  intro i hd
  rw [List.drop_of_length_le hd]
  exact Ev.step (f := fun _ => some 0) (fun k => by rw [bK.l0]; rw [if_neg (by omega)]) (Ev.now _)
 intro d
 induction d with
 | zero => exact fun i hd hi => hend i (by omega)
 | succ d ih =>
  intro i hd hi0
  by_cases hi : i < l.length
  ·have e1 : wrap64 ((i : Int) + 1) = ((i + 1 : Nat) : Int) := by unfold wrap64; omega
   have hs : ∀ k, bK.l0 (k + 1) l (l.length : Int) (i : Int) a s z = (dO.f k a s z (rdR l (i : Int)).f0 (rdR l (i : Int)).f1 (rdR l (i : Int)).f2 (rdR l (i : Int)).f3 (rdR l (i : Int)).f4).bind fun t => if t = 0 then bK.l0 k l (l.length : Int) ((i + 1 : Nat) : Int) a s z else some t := fun k => by
    rw [bK.l0, e1]; rw [if_pos (by omega), if_pos (by omega), if_pos (by omega)]
   rw [fE l i hi] at hs
   refine Ev.step hs (Ev.bind (Bv _ _ _ _) ?_)
   rw [List.drop_eq_getElem_cons hi, jJ]
   by_cases h0 : mq a l[i] = 0
   ·simp only [if_pos h0]; exact ih (i + 1) (by omega) (by omega)
   ·simp only [if_neg h0]; exact Ev.now _
  ·exact hend i (by omega)
theorem oQ (a : ByteArray) (s : List RR) (z : Int) (l : List RR) (hn : l.length ≤ 1000000) : Ev (fun k => bK.f k a s z l) (jJ a l) := by
 have := Am a s z l hn l.length 0 (by omega) (Nat.zero_le _)
 rw [List.drop_zero] at this
 exact this
def jV (a : ByteArray) (l : List RR) : List ByteArray := (l.filter fun x => mq a x == 0).map fun x => gL x.f0
noncomputable def iW (a : ByteArray) (l : List RR) : List ByteArray := pQ (jV a l)
theorem om {a : ByteArray} {l : List RR} : ∀ y ∈ jV a l, folded y := fun y hy => by
 obtain ⟨x, hx, rfl⟩ := List.mem_map.mp hy
 exact uj (sP (beq_iff_eq.mp (List.mem_filter.mp hx).2)).1
theorem BA {p : Nat → RR → Option Int} {b : RR → Int} : ∀ (l : List RR), (∀ x ∈ l, Ev (fun k => p k x) (b x)) → ∃ K, ∀ k, K ≤ k → ∀ x ∈ l, p k x = some (b x)
 | [], _ => ⟨0, fun k _ x hx => by cases hx⟩
 | y :: l, h => by
  obtain ⟨K, hK⟩ := BA l fun x hx => h x (List.mem_cons_of_mem _ hx)
  obtain ⟨K', hK'⟩ := h y (List.mem_cons_self ..)
  refine ⟨max K K', fun k hk x hx => ?_⟩
  rcases List.mem_cons.mp hx with rfl | hx
  ·exact hK' k (by omega)
  ·exact hK k (by omega) x hx
theorem qy (a : ByteArray) (s : List RR) (z : Int) (l : List RR) (hn : l.length ≤ 1000000) : Ev (fun k => dS.f k a s z l) (iW a l) := by
 obtain ⟨K, hK⟩ := BA (p := fun k x => dO.f k a s z x.f0 x.f1 x.f2 x.f3 x.f4) (b := mq a) l fun x _ => Bv a s z x
 refine ⟨K, fun k hk => ?_⟩
 have hm : Dt k a s z l := ⟨hn, fun x hx => ⟨mq a x, hK k hk x hx, fun h0 => (sP h0).1⟩⟩
 have hl : mH k a s z l = l.filter fun x => mq a x == 0 := by
  unfold mH
  exact List.filter_congr fun x hx => by rw [hK k hk x hx]; rfl
 show dS.f k a s z l = _
 unfold dS.f
 rw [if_pos hm, hl]
 rfl
abbrev lrp : RR := ⟨(⟨#[1, 98, 1, 97, 0]⟩ : ByteArray), 255, 1, 0, (⟨#[]⟩ : ByteArray)⟩
theorem Db : jJ lra [lrp] = 1 := by
 have hu : jc lrp.f0 lra = true := by
  have h := uR lrp.f0 lra 300 (Nat.le_refl _)
  have h2 := oK (fun k => bn.mono lrp.f0 lra k) (show 20 ≤ 300 by omega) (r := true) (by kernel_rfl)
  rw [h2] at h; exact (Option.some.inj h).symm
 have h1 : mq lra lrp = 1 := by
  unfold mq
  rw [if_pos hu, if_neg (by decide), if_neg (by decide), if_pos rfl]
  decide
 rw [jJ, h1]; rfl
theorem vM : Ev (fun k => dN.f k) true := by
 unfold dN.f PPs.eX.f
 simp only [Option.bind_some]
 refine Ev.bind Gm ?_
 simp only [if_true]
 rw [KD _ _ _ (by simp)]
 simp only [Option.bind_some]
 have hc := oQ lra [lr0, lr1] (ru [lr0, lr1]) [lrp] (by simp)
 rw [Db] at hc
 have hl : ((([lr0, lr1] : List RR).length : Int) = 2) = True := eq_true rfl
 simp only [hl, if_true]
 exact Ev.bind hc (Ev.now _)
end Go.Y.Rrs
namespace Go.Y.Rrs
open Go.Proofs.ah.av Go.Proofs.ah.aT Go.Proofs.ah.aU Go.Y.Given Go.Y.PRd Go.Y.PRr Go.Y.PZo Go.Y.PZf Go.Y.PZh Go.Y.PPo Go.Y.PPs Go.Y.Oct Go.Y.Name Go.Y.dY Go.Y.dK Go.Y.bY
theorem FT {x y : ByteArray} (hx : bC x = true) (hy : bC y = true) : Ev (fun k => aM.f k x y) (iq x y) := by
 obtain ⟨l, gl, sl, el, kl⟩ := nX hx
 obtain ⟨m, gm, sm, em, km⟩ := nX hy
 have : iq x y = Ga l m := by unfold iq; rw [kl, km]; rfl
 rw [this]
 exact ⟨1000, fun k hk => by show aM.f k x y = _; rw [el, em]; exact zZ l m gl gm sl sm k hk⟩
section
variable (a : ByteArray) (s l : List RR) (i : Nat) (n : ByteArray) (out : List ByteArray) (hn : folded n) (ho : ∀ y ∈ out, folded y) (hl : out.length ≤ 1000000)
include hn ho hl
end
theorem zT (l : List ByteArray) (x : ByteArray) : (put iq l x).length ≤ l.length + 1 := by
 induction l with
 | nil => simp [put]
 | cons y l ih =>
  rw [put]
  split
  ·simp
  ·split
   ·simp
   ·simp; omega
end Go.Y.Rrs
namespace Go.Y.jN
open Go.ChangeShapes Go.WideShapes Go.Deep Go.Proofs.ah.av
section
variable {H : Type} {enc : TypeId × Value → H} {P : Program} {W : World} {base : Nat} {spare : Nat → Bool} {held : Bool}
theorem fields_of {e : TypeId} {fs : Array Field} {fuel : Nat} {cs : List Value} {x : DataW H × List MemPlace} (he : P.underlying e = some (.struct fs)) (hone : oneCellFields P fs = true) (hC : P.cellsOf e = fs.size)
  (h : DataW.trod enc P W base spare held fuel e cs = some x) : cs.length = fs.size ∧ ∃ n, ∀ (j : Nat) (f : Field), fs[j]? = some f → ∃ v y, cs[j]? = some v ∧ DataW.trod enc P W base spare held n f.type [v] = some y := by
 obtain ⟨ys, n, _, _, hl, hyl, hf⟩ := DataW.trod_struct he h
 refine ⟨hl.trans hC, n, fun j f hj => ?_⟩
 obtain ⟨ho, hk⟩ := hone_of hone j f hj
 have hjl : j < fs.size := (Array.getElem?_eq_some_iff.1 hj).1
 have hcl : j < cs.length := by omega
 have hyj : j < ys.length := by omega
 have h1 := hf j f hj
 rw [ho, hk, List.drop_eq_getElem_cons hcl, List.take_succ_cons, List.take_zero] at h1
 exact ⟨cs[j], ys[j], List.getElem?_eq_getElem hcl, h1.trans (List.getElem?_eq_getElem hyj)⟩
theorem Jc {S : Type} (n : Nat) (R : Nat → S → Prop) (h : ∀ i, i < n → ∃ s, R i s) : ∃ l : List S, l.length = n ∧ ∀ i s, l[i]? = some s → R i s := by
 induction n with
 | zero => exact ⟨[], rfl, fun i s hs => by simp at hs⟩
 | succ n ih =>
  obtain ⟨l, hl, hr⟩ := ih fun i hi => h i (by omega)
  obtain ⟨s, hs⟩ := h n (by omega)
  refine ⟨l ++ [s], by simp [hl], fun i t ht => ?_⟩
  by_cases hi : i < n
  ·rw [List.getElem?_append_left (by omega)] at ht; exact hr i t ht
  ·rw [List.getElem?_append_right (by omega)] at ht
   by_cases e : i = n
   ·subst e; rw [hl, Nat.sub_self] at ht; simp at ht; subst ht; exact hs
   ·rw [List.getElem?_eq_none (by simp; omega)] at ht; cases ht
theorem CX {S : Type} (k : Kd S) (good : S → Prop) {t e : TypeId} {a : Option Addr} {len cap : Nat} {d : DataW H} {ps : List MemPlace} (hu : P.underlying t = some (.slice e)) (hC : P.cellsOf e = k.sz) (hpos : 0 < k.sz)
  (open1 : ∀ fuel cs x, DataW.trod enc P W base spare held fuel e cs = some x → ∃ s, k.K W s cs ∧ good s) (h : DataW.Trod enc P W base spare held t (.slice a len cap) d ps) :
  ∃ l : List S, len = l.length ∧ Kd.C k W a l.length l ∧ l.length ≤ cap ∧ l.length ≤ maxLen ∧ ∀ s ∈ l, good s := by
 obtain ⟨fuel, hf⟩ := h
 rcases open_slice hu hf with ⟨hcs, _⟩ | ⟨x, l, c, m, n, D, Pl, hcs, _, hl, hm, hmm, _, hi⟩
 ·simp [Value.cells] at hcs
  obtain ⟨rfl, rfl, rfl⟩ := hcs
  exact ⟨[], rfl, Kd.KJ _ _, Nat.le_refl _, Nat.zero_le _, by simp⟩
 ·simp [Value.cells] at hcs
  obtain ⟨rfl, rfl, rfl⟩ := hcs
  have hlm : len ≤ m := by rw [hmm]; split <;> omega
  obtain ⟨L, hL, hR⟩ := Jc len (fun i s => good s ∧ ∃ cs', k.K W s cs' ∧ cs'.length = k.sz ∧ ∀ j u, cs'[j]? = some u → W.cell? (x.add (i * k.sz + j)) = some u) (fun i hi' => by
   obtain ⟨cs', hc, ht⟩ := hi i (by omega)
   obtain ⟨s, hs, hg⟩ := open1 _ _ _ ht
   rw [hC] at hc
   obtain ⟨_, hcl, hat⟩ := World.cells?_some hc
   refine ⟨s, hg, cs', hs, hcl, fun j u hj => ?_⟩
   have hjl : j < k.sz := by rw [← hcl]; exact (List.getElem?_eq_some_iff.1 hj).1
   have := hat j hjl
   rw [← Go.Deep.add_add]; rw [this]; exact hj)
  refine ⟨L, hL.symm, ⟨rfl, by unfold maxLen at hm; omega, fun _ => ⟨x, rfl, fun j p hp => ?_⟩⟩, by omega, by omega, fun s hs => ?_⟩
  ·obtain ⟨_, c, h1, h2, h3⟩ := hR j p hp
   exact ⟨c, h2, h1, h3⟩
  ·obtain ⟨i, hi', he⟩ := List.getElem_of_mem hs
   exact (hR i s (by rw [List.getElem?_eq_getElem hi', he])).1
end
end Go.Y.jN
namespace Go.Y.jN
open Go.ChangeShapes Go.WideShapes Go.Deep Go.Proofs.ah.av Go.Y.PRd Go.Y.PRr
structure pV (s : S28) : Prop where
 n0 : s.f0.size ≤ maxLen
 n4 : s.f4.size ≤ maxLen
 i1 : (Lit.int .i64 s.f1).wf = true
 i2 : (Lit.int .i64 s.f2).wf = true
 i3 : (Lit.int .i64 s.f3).wf = true
section
variable {H : Type} {enc : TypeId × Value → H} {W : World} {base : Nat} {spare : Nat → Bool} {held : Bool}
theorem KQ {fuel : Nat} {cs : List Value} {x : DataW H × List MemPlace} (h : DataW.trod enc Tryz.prog W base spare held fuel 28 cs = some x) : ∃ s : S28, cs = [.string s.f0, .int .i64 s.f1, .int .i64 s.f2, .int .i64 s.f3, .string s.f4] ∧ pV s := by
 obtain ⟨hl, n, hf⟩ := fields_of Tryz.underlying28 (by kernel_rfl) (by kernel_rfl) h
 obtain ⟨v0, y0, c0, h0⟩ := hf 0 _ rfl
 obtain ⟨v1, y1, c1, h1⟩ := hf 1 _ rfl
 obtain ⟨v2, y2, c2, h2⟩ := hf 2 _ rfl
 obtain ⟨v3, y3, c3, h3⟩ := hf 3 _ rfl
 obtain ⟨v4, y4, c4, h4⟩ := hf 4 _ rfl
 obtain ⟨s, e0, _, g0⟩ := DataW.trod_string Tryz.underlying9 h0
 obtain ⟨a, e1, _, g1⟩ := DataW.trod_int Tryz.underlying3 h1
 obtain ⟨b, e2, _, g2⟩ := DataW.trod_int Tryz.underlying3 h2
 obtain ⟨c, e3, _, g3⟩ := DataW.trod_int Tryz.underlying3 h3
 obtain ⟨d, e4, _, g4⟩ := DataW.trod_string Tryz.underlying9 h4
 obtain rfl : v0 = .string s := by simpa using e0
 obtain rfl : v1 = .int .i64 a := by simpa using e1
 obtain rfl : v2 = .int .i64 b := by simpa using e2
 obtain rfl : v3 = .int .i64 c := by simpa using e3
 obtain rfl : v4 = .string d := by simpa using e4
 have : cs = [.string s, .int .i64 a, .int .i64 b, .int .i64 c, .string d] := by
  match cs, hl with
  | [p, q, r, t, u], _ => simp at c0 c1 c2 c3 c4; rw [c0, c1, c2, c3, c4]
 exact ⟨⟨s, a, b, c, d⟩, this, ⟨g0, g4, g1, g2, g3⟩⟩
theorem zq {t : TypeId} {a : Option Addr} {len cap : Nat} {d : DataW H} {ps : List MemPlace} (hu : Tryz.prog.underlying t = some (.slice 28)) (h : DataW.Trod enc Tryz.prog W base spare held t (.slice a len cap) d ps) :
  ∃ l : List S28, len = l.length ∧ Kd.C k28 W a l.length l ∧ l.length ≤ cap ∧ l.length ≤ maxLen ∧ ∀ s ∈ l, pV s :=
 CX k28 pV hu (by kernel_rfl) (by decide) (fun _ _ _ h => by
  obtain ⟨s, rfl, hg⟩ := KQ h
  exact ⟨s, Kz W s, hg⟩) h
end
end Go.Y.jN
namespace Go.Y.Pure
open Go.Proofs.ah.av Go.Y.Given Go.Y.PRd Go.Y.PRr Go.Y.PZo Go.Y.PZf Go.Y.PZh Go.Y.PPo Go.Y.PPs Go.Y.Rrs Go.Y.jN Go.Y.dK Go.Y.Oct Go.Y.Name Go.Y.dY Go.Y.bY
abbrev exA : ByteArray := ⟨#[2, 101, 120, 0]⟩
theorem rQ (a : ByteArray) (l : List RR) : (iW a l).length ≤ l.length := by
 have h : ∀ (l m : List ByteArray), (l.foldl (bY.put iq) m).length ≤ m.length + l.length := by
  intro l
  induction l with
  | nil => intro m; simp
  | cons x l ih =>
   intro m
   rw [List.foldl_cons]
   have h1 := ih (bY.put iq m x)
   have h2 := zT m x
   rw [List.length_cons]
   omega
 have h1 := h (jV a l) []
 have h2 : (jV a l).length ≤ l.length := by unfold jV; rw [List.length_map]; exact List.length_filter_le _ _
 unfold iW pQ bY.ofL
 simp only [List.length_nil, Nat.zero_add] at h1
 omega
end Go.Y.Pure
namespace Go.Y.PPs
open Go.Proofs.ah.av Go.Proofs.ah.aT Go.Proofs.ah.aU Go.Y.Given Go.Y.PRd Go.Y.PRr Go.Y.PZo Go.Y.PZf Go.Y.PZe Go.Y.PZh Go.Y.PPo
attribute [local go_sem] dB dD dQ dP cK cB dA dF
mutual
noncomputable def ak.j0 : Nat → List (S28) → List (S28) → List (S28) → Bool → Option (Bool)
 | 0, _, _, _, _ => none
 | k + 1, x0, x1, x2, x35 => if x35 = true then ((dN.f k).bind fun t179 => (some t179)) else ((bL.f k (⟨#[2, 101, 120, 0]⟩ : ByteArray) x0).bind fun bt180 => (if bt180.2.2.2 = 0 then ((some (([] : List (S28)) : List (S28))).bind fun y187 => (if y187.length + x1.length < 2513169434916 then ((some (y187 ++ x1 : List (S28))).bind fun y190 => (if y190.length + x2.length < 2513169434916 then ((some (y190 ++ x2 : List (S28))).bind fun y193 => ((bK.f k bt180.1 bt180.2.1 bt180.2.2.1 x1).bind fun t196 => (if t196 = 0 then ((bK.f k bt180.1 bt180.2.1 bt180.2.2.1 x2).bind fun t197 => (ak.j1 k x1 x2 y193 t197 bt180.1 bt180.2.1 bt180.2.2.1)) else (ak.j1 k x1 x2 y193 t196 bt180.1 bt180.2.1 bt180.2.2.1)))) else (none))) else (none))) else (some true)))
noncomputable def ak.j1 : Nat → List (S28) → List (S28) → List (S28) → Int → ByteArray → List (S28) → Int → Option (Bool)
 | 0, _, _, _, _, _, _, _ => none
 | k + 1, x1, x2, x9, x10, x187000, x187001, x187002 => (dS.f k x187000 x187001 x187002 x1).bind fun t198 => ((dS.f k x187000 x187001 x187002 x2).bind fun t201 => ((dS.f k x187000 x187001 x187002 x9).bind fun t204 => (ak.l0 k x9 x10 t198 t201 t204 0 x187000 x187001 x187002)))
noncomputable def ak.l0 : Nat → List (S28) → Int → List ByteArray → List ByteArray → List ByteArray → Int → ByteArray → List (S28) → Int → Option (Bool)
 | 0, _, _, _, _, _, _, _, _, _ => none
 | k + 1, x9, x10, x11, x12, x13, x14, x187000, x187001, x187002 => if x14 < (wrap64 ((x11.length : Int) + (x12.length : Int))) then (if x14 < (x11.length : Int) then (if 0 ≤ x14 then (ak.j3 k x9 x10 x11 x12 x13 x14 (bH ByteArray.empty x11 x14) x187000 x187001 x187002) else (none)) else (if 0 ≤ (wrap64 (x14 - (x11.length : Int))) then (if (wrap64 (x14 - (x11.length : Int))) < (x12.length : Int) then (ak.j3 k x9 x10 x11 x12 x13 x14 (bH ByteArray.empty x12 (wrap64 (x14 - (x11.length : Int)))) x187000 x187001 x187002) else (none)) else (none))) else (ak.l2 k x9 x10 x11 x12 x13 0 x187000 x187001 x187002)
noncomputable def ak.j3 : Nat → List (S28) → Int → List ByteArray → List ByteArray → List ByteArray → Int → ByteArray → ByteArray → List (S28) → Int → Option (Bool)
 | 0, _, _, _, _, _, _, _, _, _, _ => none
 | k + 1, x9, x10, x11, x12, x13, x14, x15, x187000, x187001, x187002 => ak.l1 k x9 x10 x11 x12 x13 x14 x15 false 0 x187000 x187001 x187002
noncomputable def ak.l1 : Nat → List (S28) → Int → List ByteArray → List ByteArray → List ByteArray → Int → ByteArray → Bool → Int → ByteArray → List (S28) → Int → Option (Bool)
 | 0, _, _, _, _, _, _, _, _, _, _, _, _ => none
 | k + 1, x9, x10, x11, x12, x13, x14, x15, x16, x17, x187000, x187001, x187002 => if x17 < (x13.length : Int) then (if x16 = true then (ak.l1 k x9 x10 x11 x12 x13 x14 x15 true (wrap64 (x17 + 1)) x187000 x187001 x187002) else (if 0 ≤ x17 then (ak.l1 k x9 x10 x11 x12 x13 x14 x15 ((bH ByteArray.empty x13 x17).toList == x15.toList) (wrap64 (x17 + 1)) x187000 x187001 x187002) else (none))) else (if x16 = true then (ak.l0 k x9 x10 x11 x12 x13 (wrap64 (x14 + 1)) x187000 x187001 x187002) else (some false))
noncomputable def ak.l2 : Nat → List (S28) → Int → List ByteArray → List ByteArray → List ByteArray → Int → ByteArray → List (S28) → Int → Option (Bool)
 | 0, _, _, _, _, _, _, _, _, _ => none
 | k + 1, x9, x10, x11, x12, x13, x18, x187000, x187001, x187002 => if x18 < (x13.length : Int) then (if 0 ≤ x18 then ((aK.f k (bH ByteArray.empty x13 x18) (⟨#[2, 101, 120, 0]⟩ : ByteArray)).bind fun t212 => (if t212 = true then (if x18 > 0 then (if 0 ≤ (wrap64 (x18 - 1)) then (if (wrap64 (x18 - 1)) < (x13.length : Int) then ((aM.f k (bH ByteArray.empty x13 (wrap64 (x18 - 1))) (bH ByteArray.empty x13 x18)).bind fun t215 => (if t215 ≥ 0 then (some false) else (ak.l2 k x9 x10 x11 x12 x13 (wrap64 (x18 + 1)) x187000 x187001 x187002))) else (none)) else (none)) else (ak.l2 k x9 x10 x11 x12 x13 (wrap64 (x18 + 1)) x187000 x187001 x187002)) else (some false))) else (none)) else ((bK.f k x187000 x187001 x187002 x9).bind fun t210 => (if t210 = x10 then (some (decide ((x13.length : Int) ≤ (wrap64 ((x11.length : Int) + (x12.length : Int)))))) else (some false)))
end
noncomputable def ak.f (k : Nat) (l0 : List (S28)) (l1 : List (S28)) (l2 : List (S28)) : Option (Bool) := (dN.f k).bind fun t175 => (if t175 = true then ((bg.f k l0).bind fun t176 => (if t176 = true then ((aV.f k l1).bind fun t177 => (if t177 = true then ((aV.f k l2).bind fun t178 => (ak.j0 k l0 l1 l2 (!t178))) else (ak.j0 k l0 l1 l2 true))) else (ak.j0 k l0 l1 l2 true))) else (ak.j0 k l0 l1 l2 true))
def ak.T10 : Bool × List (List Nat × List Nat) := (true, [([], []), ([], []), ([0, 1], [0, 1]), ([], []), ([], []), ([3, 4, 2], [3, 4]), ([], []), ([], []), ([6, 7, 5], [6, 7]), ([2, 8, 0, 1, 2], [2]), ([5, 9, 0, 1, 2, 3, 4, 5, 9], [5]), ([8, 10, 0, 1, 2, 3, 4, 5, 6, 7, 8, 9, 10], [8])])
def ak.B10 : List Nat := [0, 0, 3, 0, 0, 31, 0, 0, 255, 511, 1023, 2047]
theorem ak.KG : gF .any (opsOf Tryz.f6 10) = ak.T10 := by kernel_rfl
theorem ak.Kh : iO ak.T10.2 ak.B10 = true := by kernel_rfl
def ak.T28 : Bool × List (List Nat × List Nat) := (true, [([], []), ([], []), ([0, 1], [0, 1]), ([2], [2]), ([3], [3]), ([4], [4]), ([5, 4], [5]), ([6], [6]), ([7, 6], [6, 7]), ([8, 6, 6], [6, 8]), ([9], [9]), ([9], [9]), ([11, 9], [9, 11]), ([10, 12, 9], [9, 10, 12]), ([13, 9], [9, 13]), ([9], [9]), ([9], [9]), ([15, 16, 9], [9, 15, 16]), ([17, 9], [9, 17]), ([14, 18, 9, 9], [9, 14, 18]), ([19, 9], [9, 19]), ([9, 20, 6], [6, 9, 20]), ([6, 21], [6, 21])])
def ak.B28 : List Nat := [0, 0, 3, 7, 15, 31, 63, 127, 255, 511, 1023, 1023, 3071, 8191, 16383, 1023, 1023, 99327, 230399, 524287, 1048575, 2097151, 4194303]
theorem ak.Cj : gF .any (opsOf Tryz.f6 28) = ak.T28 := by kernel_rfl
theorem ak.Ac : iO ak.T28.2 ak.B28 = true := by kernel_rfl
theorem ak.calls (k : Nat) (A0 : Option Addr) (c0 : Nat) (l0 : List (S28)) (A1 : Option Addr) (c1 : Nat) (l1 : List (S28)) (A2 : Option Addr) (c2 : Nat) (l2 : List (S28)) (r : Bool) (w : World) (hr0 : Kd.C k28 w A0 l0.length l0) (hc0 : l0.length ≤ c0) (hr1 : Kd.C k28 w A1 l1.length l1) (hc1 : l1.length ≤ c1) (hr2 : Kd.C k28 w A2 l2.length l2) (hc2 : l2.length ≤ c2) (h : ak.f k l0 l1 l2 = some r) :
    Calls Tryz.prog 6 #[.slice A0 l0.length c0, .slice A1 l1.length c1, .slice A2 l2.length c2] w fun e w' => e = .returned (.bool r) ∧ Below w.heap.size w w' := by
  have hu31 := Tryz.underlying31
  have HR0 := aj.mk hr0
  have HC0 := aj.mk hc0
  clear hr0 hc0
  have HR1 := aj.mk hr1
  have HC1 := aj.mk hc1
  clear hr1 hc1
  have HR2 := aj.mk hr2
  have HC2 := aj.mk hc2
  clear hr2 hc2
  have HB := aj.mk (Below.refl w.heap.size w)
  have H : ((dN.f k).bind fun t175 => (if t175 = true then ((bg.f k l0).bind fun t176 => (if t176 = true then ((aV.f k l1).bind fun t177 => (if t177 = true then ((aV.f k l2).bind fun t178 => (ak.j0 k l0 l1 l2 (!t178))) else (ak.j0 k l0 l1 l2 true))) else (ak.j0 k l0 l1 l2 true))) else (ak.j0 k l0 l1 l2 true))) = some r := h
  clear h
  have HC4 := aj.mk H
  clear H
  go_enter Tryz.func6, Tryz.ntmps6
  go_upto_region 1 with (fail)
  go_cut [35] (fun v35 wc => ∃ (kq : Nat) (x35_3 : Bool), v35 = .bool x35_3 ∧ aj (ak.j0 kq l0 l1 l2 x35_3 = some r) ∧ aj (kq ≤ k) ∧ aj (Below w.heap.size w wc))
  case first =>
   have H := HC4.out
   clear HC4
   obtain ⟨t175, A5, H⟩ := cu H
   by_cases c6 : t175 = true
   ·subst c6
    rw [if_pos rfl] at H
    obtain ⟨t176, A7, H⟩ := cu H
    by_cases c8 : t176 = true
    ·subst c8
     rw [if_pos rfl] at H
     obtain ⟨t177, A9, H⟩ := cu H
     by_cases c10 : t177 = true
     ·subst c10
      rw [if_pos rfl] at H
      obtain ⟨t178, A11, H⟩ := cu H
      have H' := aj.mk H
      clear H
      go_wp2_with (first | ((with_reducible refine eG (f := 18) rfl ?_); refine iK (some 19) rfl rfl Tryz.func18 (by kernel_rfl) rfl #[] rfl (by (try simp only [List.map_toArray, List.map_cons, List.map_nil]); done) ?_; (with_reducible refine (dN.calls k  _ _ A5.out).mono ?_); rintro e w12 ⟨rfl, hb⟩; refine ⟨_, rfl, ?_⟩; replace HB := aj.mk (au HB.out hb); (try clear hb)) | (go_at_call 19; (with_reducible refine (bg.calls k _ _ l0 _ _ ?side1 ?side2 A7.out).mono ?_); (case side1 => repeat ((exact (Kd.eF HR0.out HB.out)))); (case side2 => exact HC0.out); rintro e w' ⟨rfl, ⟨nd, rfl⟩⟩) | (go_at_call 20; (with_reducible refine (aV.calls k _ _ l1 _ _ ?side1 ?side2 A9.out).mono ?_); (case side1 => repeat ((exact (Kd.eF HR1.out (by repeat ((with_reducible first | exact HB.out | apply aW))))))); (case side2 => exact HC1.out); rintro e w13 ⟨rfl, hb⟩; replace HB := aj.mk (au (by repeat ((with_reducible first | exact HB.out | apply aW))) hb); (try clear hb)) | (go_at_call 20; (with_reducible refine (aV.calls k _ _ l2 t178 _ ?side1 ?side2 A11.out).mono ?_); (case side1 => repeat ((exact (Kd.eF HR2.out HB.out)))); (case side2 => exact HC2.out); rintro e w14 ⟨rfl, hb⟩; replace HB := aj.mk (au HB.out hb); (try clear hb)))
      go_meet
      case rel => exact ⟨_, (!t178), (by rfl), H', ⟨by omega⟩, ⟨HB.out⟩⟩
     ·replace c10 := Bool.eq_false_iff.mpr c10
      subst c10
      rw [if_neg ff_] at H
      have H' := aj.mk H
      clear H
      go_wp2_with (first | ((with_reducible refine eG (f := 18) rfl ?_); refine iK (some 19) rfl rfl Tryz.func18 (by kernel_rfl) rfl #[] rfl (by (try simp only [List.map_toArray, List.map_cons, List.map_nil]); done) ?_; (with_reducible refine (dN.calls k  _ _ A5.out).mono ?_); rintro e w15 ⟨rfl, hb⟩; refine ⟨_, rfl, ?_⟩; replace HB := aj.mk (au HB.out hb); (try clear hb)) | (go_at_call 19; (with_reducible refine (bg.calls k _ _ l0 _ _ ?side1 ?side2 A7.out).mono ?_); (case side1 => repeat ((exact (Kd.eF HR0.out HB.out)))); (case side2 => exact HC0.out); rintro e w' ⟨rfl, ⟨nd, rfl⟩⟩) | (go_at_call 20; (with_reducible refine (aV.calls k _ _ l1 _ _ ?side1 ?side2 A9.out).mono ?_); (case side1 => repeat ((exact (Kd.eF HR1.out (by repeat ((with_reducible first | exact HB.out | apply aW))))))); (case side2 => exact HC1.out); rintro e w16 ⟨rfl, hb⟩; replace HB := aj.mk (au (by repeat ((with_reducible first | exact HB.out | apply aW))) hb); (try clear hb)))
      go_meet
      case rel => exact ⟨_, (true), (by rfl), H', ⟨by omega⟩, ⟨HB.out⟩⟩
    ·replace c8 := Bool.eq_false_iff.mpr c8
     subst c8
     rw [if_neg ff_] at H
     have H' := aj.mk H
     clear H
     go_wp2_with (first | ((with_reducible refine eG (f := 18) rfl ?_); refine iK (some 19) rfl rfl Tryz.func18 (by kernel_rfl) rfl #[] rfl (by (try simp only [List.map_toArray, List.map_cons, List.map_nil]); done) ?_; (with_reducible refine (dN.calls k  _ _ A5.out).mono ?_); rintro e w17 ⟨rfl, hb⟩; refine ⟨_, rfl, ?_⟩; replace HB := aj.mk (au HB.out hb); (try clear hb)) | (go_at_call 19; (with_reducible refine (bg.calls k _ _ l0 _ _ ?side1 ?side2 A7.out).mono ?_); (case side1 => repeat ((exact (Kd.eF HR0.out HB.out)))); (case side2 => exact HC0.out); rintro e w' ⟨rfl, ⟨nd, rfl⟩⟩))
     go_meet
     case rel => exact ⟨_, (true), (by rfl), H', ⟨by omega⟩, ⟨by repeat ((with_reducible first | exact HB.out | apply aW))⟩⟩
   ·replace c6 := Bool.eq_false_iff.mpr c6
    subst c6
    rw [if_neg ff_] at H
    have H' := aj.mk H
    clear H
    go_wp2_with ((((with_reducible refine eG (f := 18) rfl ?_); refine iK (some 19) rfl rfl Tryz.func18 (by kernel_rfl) rfl #[] rfl (by (try simp only [List.map_toArray, List.map_cons, List.map_nil]); done) ?_; (with_reducible refine (dN.calls k  _ _ A5.out).mono ?_); rintro e w18 ⟨rfl, hb⟩; refine ⟨_, rfl, ?_⟩; replace HB := aj.mk (au HB.out hb); (try clear hb))))
    go_meet
    case rel => exact ⟨_, (true), (by rfl), H', ⟨by omega⟩, ⟨HB.out⟩⟩
  case rest =>
   clear HC4
   obtain ⟨kq, x35_3, rfl, HA, HJ3, HB⟩ := hcut
   cases kq with
   | zero => exact absurd HA.out (by simp [ak.j0])
   | succ kj3 =>
    have H := HA.out
    clear HA
    simp only [ak.j0] at H
    by_cases c19 : x35_3 = true
    ·subst c19
     rw [if_pos rfl] at H
     obtain ⟨t179, A20, H⟩ := cu H
     obtain rfl := Option.some.inj H
     go_wp2_with ((((with_reducible refine eG (f := 18) rfl ?_); refine iK (some 36) rfl rfl Tryz.func18 (by kernel_rfl) rfl #[] rfl (by (try simp only [List.map_toArray, List.map_cons, List.map_nil]); done) ?_; (with_reducible refine (dN.calls kj3  t179 _ A20.out).mono ?_); rintro e w21 ⟨rfl, hb⟩; refine ⟨_, rfl, ?_⟩; replace HB := aj.mk (au HB.out hb); (try clear hb))))
     go_ret
     exact ⟨by rfl, HB.out⟩
    ·replace c19 := Bool.eq_false_iff.mpr c19
     subst c19
     rw [if_neg ff_] at H
     replace H := Option.bind_eq_some_iff.mp H
     obtain ⟨⟨t180, t181, t184, t185⟩, A220, H⟩ := H
     replace H : (if t185 = 0 then ((some (([] : List (S28)) : List (S28))).bind fun y187 => (if y187.length + l1.length < 2513169434916 then ((some (y187 ++ l1 : List (S28))).bind fun y190 => (if y190.length + l2.length < 2513169434916 then ((some (y190 ++ l2 : List (S28))).bind fun y193 => ((bK.f kj3 t180 t181 t184 l1).bind fun t196 => (if t196 = 0 then ((bK.f kj3 t180 t181 t184 l2).bind fun t197 => (ak.j1 kj3 l1 l2 y193 t197 t180 t181 t184)) else (ak.j1 kj3 l1 l2 y193 t196 t180 t181 t184)))) else (none))) else (none))) else (some true)) = some r := H
     have A22 := aj.mk A220
     clear A220
     by_cases c23 : t185 = 0
     ·rw [if_pos c23] at H
      have c23b0 : (t185 == 0) = true := beq_iff_eq.mpr c23
      have c23b1 : (t185 != 0) = false := bne_eq_false_iff_eq.mpr c23
      clear c23
      obtain ⟨y187, hy187⟩ : ∃ y_ : List (S28), y_ = (([] : List (S28))) := ⟨_, rfl⟩
      replace H : (if y187.length + l1.length < 2513169434916 then ((some (y187 ++ l1 : List (S28))).bind fun y190 => (if y190.length + l2.length < 2513169434916 then ((some (y190 ++ l2 : List (S28))).bind fun y193 => ((bK.f kj3 t180 t181 t184 l1).bind fun t196 => (if t196 = 0 then ((bK.f kj3 t180 t181 t184 l2).bind fun t197 => (ak.j1 kj3 l1 l2 y193 t197 t180 t181 t184)) else (ak.j1 kj3 l1 l2 y193 t196 t180 t181 t184)))) else (none))) else (none)) = some r := by (have H2_ := (Option.bind_some _ _).symm.trans H; rw [hy187]; with_reducible exact H2_)
      have Ny187 := aj.mk hy187
      clear hy187
      obtain ⟨c24, H⟩ := gd_ H
      have LMc24 := aj.mk c24
      clear c24
      obtain ⟨y190, hy190⟩ : ∃ y_ : List (S28), y_ = (y187 ++ l1) := ⟨_, rfl⟩
      replace H : (if y190.length + l2.length < 2513169434916 then ((some (y190 ++ l2 : List (S28))).bind fun y193 => ((bK.f kj3 t180 t181 t184 l1).bind fun t196 => (if t196 = 0 then ((bK.f kj3 t180 t181 t184 l2).bind fun t197 => (ak.j1 kj3 l1 l2 y193 t197 t180 t181 t184)) else (ak.j1 kj3 l1 l2 y193 t196 t180 t181 t184)))) else (none)) = some r := by (have H2_ := (Option.bind_some _ _).symm.trans H; rw [hy190]; with_reducible exact H2_)
      have Ny190 := aj.mk hy190
      clear hy190
      obtain ⟨c25, H⟩ := gd_ H
      have LMc25 := aj.mk c25
      clear c25
      obtain ⟨y193, hy193⟩ : ∃ y_ : List (S28), y_ = (y190 ++ l2) := ⟨_, rfl⟩
      replace H : ((bK.f kj3 t180 t181 t184 l1).bind fun t196 => (if t196 = 0 then ((bK.f kj3 t180 t181 t184 l2).bind fun t197 => (ak.j1 kj3 l1 l2 y193 t197 t180 t181 t184)) else (ak.j1 kj3 l1 l2 y193 t196 t180 t181 t184))) = some r := by (have H2_ := (Option.bind_some _ _).symm.trans H; rw [hy193]; with_reducible exact H2_)
      have Ny193 := aj.mk hy193
      clear hy193
      obtain ⟨t196, A26, H⟩ := cu H
      have HC27 := aj.mk H
      clear H
      go_upto_if 53 with (first | ((with_reducible refine eG (f := 21) rfl ?_); refine iK (some 39) rfl rfl Tryz.func21 (by kernel_rfl) rfl #[.string (⟨#[2, 101, 120, 0]⟩ : ByteArray), .slice A0 l0.length c0] rfl (by (try simp only [mA_, mC_, mN_]); rfl) ?_; (with_reducible refine (bL.calls kj3 (⟨#[2, 101, 120, 0]⟩ : ByteArray) _ _ l0 t180 t181 t184 t185 _ ?side1 ?side2 A22.out).mono ?_); (case side1 => repeat ((exact (Kd.eF HR0.out HB.out)))); (case side2 => exact HC0.out); rintro e w28 ⟨v182, rfl, ho0, hb⟩; refine ⟨_, rfl, ?_⟩; have HO183 := aj.mk (Kd.bS ho0 (ay HB.out)); replace HB := aj.mk (au HB.out hb); (try clear hb); (try clear ho0)) | ((((refine be_ (N := 7) (cs := #[.string (⟨#[]⟩ : ByteArray), .slice none 0 0, .int .i64 0]) (t := 31) ?_))); intro gb186 hg w29 hbox hb; have BK186 := aj.mk (hbox); have GW186 := aj.mk (ge_ hg (ay HB.out)); have GE186 := aj.mk (ge_ hg (ay HB.out)); replace HO183 := aj.mk (Kd.bD (by ((exact HO183.out))) hb); replace HB := aj.mk (au HB.out hb); clear hb hbox hg; obtain ⟨hcz30_0, hcz30_1, hcz30_2, hfz30_0, hfz30_1, hfz30_2⟩ := z3_ BK186.out; obtain ⟨Ao31, co31, eo31⟩ := Kd.cO HO183.out; subst eo31) | ((with_reducible refine bU (N := 44) rfl ?_); (try (refine dZ (by rfl) ?_; dsimp only)); refine Kd.kE k28 _ 28 ?hg (N := 44) ?hd (xs := ([] : List (S28))) (inner := []) (ok := fun _ => True) (okp := fun _ => True) ?hr ?hp (fun _ hk => hk) trivial (Below.refl _ _) (Nat.le_refl _) (by simp) ?_; (case hd => rfl); (case hg => rfl); (case hr => (go_simp; done)); (case hp => exact (bF.none _ _)); intro v188 w32 ho33 hb hg_ hnew_; clear hg_ hnew_; ((rw [← Ny187.out] at ho33)); have HO189 := aj.mk (Kd.bS (Kd.iU ho33 (Kd.jS (by (with_reducible repeat ((apply Kd.aN))); exact (Kd.dn (Kd.gP (p := ⟨gb186, 2, none⟩) (Kd.gP (p := ⟨gb186, 1, none⟩) (Kd.gP (p := ⟨gb186, 0, none⟩) (Kd.kJ HO183.out BK186.out (by decide)) (fun _ hk => hk.2) (.string t180)) (fun _ hk => hk.2) (.slice Ao31 t181.length co31)) (fun _ hk => hk.2) (.int .i64 t184)) (fun _ h_ => h_.1))))) (ay (by repeat ((with_reducible first | exact HB.out | refine dG ?_ GE186.out))))); replace HO183 := aj.mk (Kd.gK (by (with_reducible repeat ((apply Kd.aN))); exact (Kd.dn (Kd.gP (p := ⟨gb186, 2, none⟩) (Kd.gP (p := ⟨gb186, 1, none⟩) (Kd.gP (p := ⟨gb186, 0, none⟩) (Kd.kJ HO183.out BK186.out (by decide)) (fun _ hk => hk.2) (.string t180)) (fun _ hk => hk.2) (.slice Ao31 t181.length co31)) (fun _ hk => hk.2) (.int .i64 t184)) (fun _ h_ => h_.1))) (Kd.iV ho33) hb); replace BK186 := aj.mk (aI (g := gb186) (o := .cells #[.string t180, .slice Ao31 t181.length co31, .int .i64 t184] 31 (0, 0)) (by (with_reducible repeat ((refine aA ?_ _))); refine bM (cs := #[.string t180, .slice Ao31 t181.length co31, .int .i64 0]) ?_ 2 _ rfl; (with_reducible repeat ((refine aA ?_ _))); refine bM (cs := #[.string t180, .slice none 0 0, .int .i64 0]) ?_ 1 _ rfl; (with_reducible repeat ((refine aA ?_ _))); refine bM (cs := #[.string (⟨#[]⟩ : ByteArray), .slice none 0 0, .int .i64 0]) ?_ 0 _ rfl; (with_reducible repeat ((refine aA ?_ _))); exact BK186.out) hb); replace HB := aj.mk (au (by repeat ((with_reducible first | exact HB.out | refine dG ?_ GE186.out))) hb); clear hb ho33) | ((with_reducible refine eO (b := .append) (xs := #[.tmp 44, .tmp 45]) rfl ?_); (try (refine dZ (by rfl) ?_; dsimp only)); at_builtin; refine Kd.nO k28 (w0 := w) w.heap.size rfl (.tmp 44) (.tmp 45) 22 28 (.agg #[(.string ⟨#[]⟩), (.int .i64 0), (.int .i64 0), (.int .i64 0), (.string ⟨#[]⟩)]) 56 rfl Tryz.underlying22 wm rfl (by decide) (by omega) v188 y187 l1 _ _ _ (fun k_ => some k_ ≠ (.slice Ao31 t181.length co31 : Value).ownBlock) (fun _ => False) rfl rfl ?aO ?aR (fun _ _ h => h) (fun _ h => h.elim) ?aF ?aB ?aS ?aL ?_; (case aR => repeat ((exact (Kd.eF HR1.out HB.out)))); (case aB => exact HB.out); (case aF => exact (fun k_ hk => Kd.fresh' (Kd.jS (by ((exact HO183.out)))) k_ hk)); (case aO => exact (by (with_reducible repeat ((apply Kd.aN))); exact Kd.dn HO189.out (fun _ hk => hk.2))); (case aS => exact (ay HB.out)); (case aL => have := LMc24.out; omega); intro v191 w34 ho hb hg hat; rw [← Ny190.out] at ho; have n0_ := aj.mk (Kd.BI (ok := (fun _ => True)) (by ((exact HO183.out))) hg hat); have n1_ := aj.mk (jf (g := gb186) (o := .cells #[.string t180, .slice Ao31 t181.length co31, .int .i64 t184] 31 (0, 0)) (by ((exact BK186.out))) hg (Kd.JM HO189.out BK186.out (by decide))); have n2_ := aj.mk (hb); have n3_ := aj.mk (ho); clear HO183; clear BK186; clear HB; clear HO189; have HO183 := n0_; have BK186 := n1_; have HB := n2_; have HO192 := n3_; clear n0_ n1_ n2_ n3_; clear ho hb hg hat) | ((with_reducible refine eO (b := .append) (xs := #[.tmp 46, .tmp 47]) rfl ?_); (try (refine dZ (by rfl) ?_; dsimp only)); at_builtin; refine Kd.nO k28 (w0 := w) w.heap.size rfl (.tmp 46) (.tmp 47) 22 28 (.agg #[(.string ⟨#[]⟩), (.int .i64 0), (.int .i64 0), (.int .i64 0), (.string ⟨#[]⟩)]) 56 rfl Tryz.underlying22 wm rfl (by decide) (by omega) v191 y190 l2 _ _ _ (fun k_ => some k_ ≠ (.slice Ao31 t181.length co31 : Value).ownBlock) (fun _ => False) rfl rfl ?aO ?aR (fun _ _ h => h) (fun _ h => h.elim) ?aF ?aB ?aS ?aL ?_; (case aR => repeat ((exact (Kd.eF HR2.out HB.out)))); (case aB => exact HB.out); (case aF => exact (fun k_ hk => Kd.fresh' (Kd.jS (by ((exact HO183.out)))) k_ hk)); (case aO => exact (by ((exact HO192.out)))); (case aS => exact (ay HB.out)); (case aL => have := LMc25.out; omega); intro v194 w35 ho hb hg hat; rw [← Ny193.out] at ho; have n0_ := aj.mk (Kd.BI (ok := (fun _ => True)) (by ((exact HO183.out))) hg hat); have n1_ := aj.mk (jf (g := gb186) (o := .cells #[.string t180, .slice Ao31 t181.length co31, .int .i64 t184] 31 (0, 0)) (by ((exact BK186.out))) hg (Kd.JM HO192.out BK186.out (by decide))); have n2_ := aj.mk (hb); have n3_ := aj.mk (ho); clear HO183; clear BK186; clear HB; clear HO192; have HO183 := n0_; have BK186 := n1_; have HB := n2_; have HO195 := n3_; clear n0_ n1_ n2_ n3_; clear ho hb hg hat; obtain ⟨hcz36_0, hcz36_1, hcz36_2, hfz36_0, hfz36_1, hfz36_2⟩ := z3_ BK186.out) | ((with_reducible refine eG (f := 23) rfl ?_); refine iK (some 51) rfl rfl Tryz.func23 (by kernel_rfl) rfl #[.agg #[.string t180, .slice Ao31 t181.length co31, .int .i64 t184], .slice A1 l1.length c1] rfl (by (try simp only [mA_, mC_, mN_]); rfl) ?_; (with_reducible refine (bK.calls kj3 t180 _ _ t181 t184 _ _ l1 t196 _ ?side1 ?side2 ?side3 ?side4 A26.out).mono ?_); (case side1 => repeat ((exact (Kd.aX HO183.out).2.2))); (case side2 => exact (Kd.aX HO183.out).2.1); (case side3 => repeat ((exact (Kd.eF HR1.out HB.out)))); (case side4 => exact HC1.out); rintro e w37 ⟨rfl, hb⟩; refine ⟨_, rfl, ?_⟩; replace HO183 := aj.mk (Kd.bD (by ((exact HO183.out))) hb); replace HO195 := aj.mk (Kd.bD (by ((exact HO195.out))) hb); replace BK186 := aj.mk (aI (by ((exact BK186.out))) hb); replace HB := aj.mk (au HB.out hb); (try clear hb)))
      go_cut [10] (fun v10 wc => ∃ (kq : Nat) (x10_26 : Int), v10 = .int .i64 x10_26 ∧ aj (ak.j1 kq l1 l2 y193 x10_26 t180 t181 t184 = some r) ∧ aj (kq ≤ kj3) ∧ aj (Kd.R k28 28 wc w.heap.size (fun k_ => some k_ ≠ ((.slice Ao31 t181.length co31) : Value).ownBlock) v194 y193) ∧ aj (Kd.R k28 28 wc w.heap.size (fun k_ => some k_ ≠ (v194 : Value).ownBlock) (.slice Ao31 t181.length co31) t181) ∧ aj (wc.heap[gb186]? = some (.cells #[.string t180, (.slice Ao31 t181.length co31), .int .i64 t184] 31 (0, 0))) ∧ aj (Below w.heap.size w wc))
      case first =>
       have H := HC27.out
       clear HC27
       by_cases c38 : t196 = 0
       focus
        rw [if_pos c38] at H
        have c38b0 : (t196 == 0) = true := beq_iff_eq.mpr c38
        have c38b1 : (t196 != 0) = false := bne_eq_false_iff_eq.mpr c38
        clear c38
       rotate_left
       focus
        rw [if_neg c38] at H
        have c38b0 : (t196 == 0) = false := beq_eq_false_iff_ne.mpr c38
        have c38b1 : (t196 != 0) = true := bne_iff_ne.mpr c38
       rotate_left
       all_goals
        ((rw [c38b0]))
       ·obtain ⟨t197, A39, H⟩ := cu H
        have H' := aj.mk H
        clear H
        obtain ⟨hcz40_0, hcz40_1, hcz40_2, hfz40_0, hfz40_1, hfz40_2⟩ := z3_ BK186.out
        go_wp2_with ((((with_reducible refine eG (f := 23) rfl ?_); refine iK (some 56) rfl rfl Tryz.func23 (by kernel_rfl) rfl #[.agg #[.string t180, .slice Ao31 t181.length co31, .int .i64 t184], .slice A2 l2.length c2] rfl (by (try simp only [mA_, mC_, mN_]); rfl) ?_; (with_reducible refine (bK.calls kj3 t180 _ _ t181 t184 _ _ l2 t197 _ ?side1 ?side2 ?side3 ?side4 A39.out).mono ?_); (case side1 => repeat ((exact (Kd.aX HO183.out).2.2))); (case side2 => exact (Kd.aX HO183.out).2.1); (case side3 => repeat ((exact (Kd.eF HR2.out HB.out)))); (case side4 => exact HC2.out); rintro e w41 ⟨rfl, hb⟩; refine ⟨_, rfl, ?_⟩; replace HO183 := aj.mk (Kd.bD (by ((exact HO183.out))) hb); replace HO195 := aj.mk (Kd.bD (by ((exact HO195.out))) hb); replace BK186 := aj.mk (aI (by ((exact BK186.out))) hb); replace HB := aj.mk (au HB.out hb); (try clear hb))))
        go_meet
        case rel => exact ⟨_, (t197), (by rfl), H', ⟨by have := HJ3.out; omega⟩, ⟨by (with_reducible repeat ((apply Kd.aN))); exact HO195.out⟩, ⟨by (with_reducible repeat ((apply Kd.aN))); exact Kd.dn HO183.out (fun _ hk => hk.2)⟩, ⟨by (with_reducible repeat ((refine aA ?_ _))); exact BK186.out⟩, ⟨HB.out⟩⟩
       ·have H' := aj.mk H
        clear H
        go_wp2
        go_meet
        case rel => exact ⟨_, (t196), (by rfl), H', ⟨by have := HJ3.out; omega⟩, ⟨by (with_reducible repeat ((apply Kd.aN))); exact HO195.out⟩, ⟨by (with_reducible repeat ((apply Kd.aN))); exact Kd.dn HO183.out (fun _ hk => hk.2)⟩, ⟨by (with_reducible repeat ((refine aA ?_ _))); exact BK186.out⟩, ⟨HB.out⟩⟩
      case rest =>
       clear HC27
       (try clear c23b0)
       (try clear c23b1)
       (try clear hcz30_0)
       (try clear hcz30_1)
       (try clear hcz30_2)
       (try clear hcz36_0)
       (try clear hcz36_1)
       (try clear hcz36_2)
       (try clear hfz30_0)
       (try clear hfz30_1)
       (try clear hfz30_2)
       (try clear hfz36_0)
       (try clear hfz36_1)
       (try clear hfz36_2)
       obtain ⟨kq, x10_26, rfl, HA, HJ26, HO_9, HO_187001, BK186, HB⟩ := hcut
       cases kq with
       | zero => exact absurd HA.out (by simp [ak.j1])
       | succ kj26 =>
        have H := HA.out
        clear HA
        simp only [ak.j1] at H
        obtain ⟨t198, A42, H⟩ := cu H
        obtain ⟨t201, A43, H⟩ := cu H
        obtain ⟨t204, A44, H⟩ := cu H
        have H' := aj.mk H
        clear H
        (try go_wp2)
        replace HO_9 := aj.mk (Kd.iF HO_9.out)
        replace HO_187001 := aj.mk (Kd.iF HO_187001.out)
        replace BK186 := aj.mk (eP BK186.out)
        replace HB := aj.mk (dz HB.out)
        refine iH (n := 12) (ds := []) (ls 12 0) (by kernel_rfl) rfl rfl (d3_ BK186.out) (fun hHeld => ?_); refine fF ak.KG ak.Kh (fun HT_ HW_ => ?_)
        generalize wc.drew = w45 at HO_9 HO_187001 BK186 HB hHeld ⊢
        refine td_ [(1, 58), (4, 61), (7, 64)] ?_
        iterate 3 (refine pn_ (v := ?_) (a' := ?_) HT_ rfl rfl (by kernel_rfl) rfl (fun _ _ _ h => h) (fun w' => ?_) ?_ ?_; rotate_left 2; (focus go_simp; with_reducible rfl); (focus simp only [Act.put, sA_, sZ_, sS_, dU, fA]; rfl))
        refine dn_ ?_
        refine td_ [(0, 57), (3, 60), (6, 63)] ?_
        iterate 3 (refine tn_ (v := ?_) (a' := ?_) HT_ HW_ rfl rfl (by kernel_rfl) rfl (fun _ _ _ h => h) hHeld ?_ ?_ ?_; rotate_left 2; (focus rintro w' ⟨s0, s1, s2⟩; go_simp; with_reducible rfl); (focus simp only [Act.put, sA_, sZ_, sS_, dU, fA]; rfl))
        refine dn_ ?_
        refine oI (i := 2) (N := some 59) (ls 12 223) rfl rfl (lY HT_.out (by kernel_rfl)) (by decide) (fun K hK => ?_)
        refine oZ Tryz.func26 (by kernel_rfl) rfl #[.agg #[.string t180, .slice Ao31 t181.length co31, .int .i64 t184], .slice A1 l1.length c1] (by rfl) rfl rfl (by (try simp only [mA_, mC_, mN_]); rfl) ?_
        with_reducible refine (dS.calls kj26 t180 _ _ t181 t184 _ _ l1 t198 _ ?side1 ?side2 ?side3 ?side4 A42.out).mono ?_
        (case side1 => repeat ((exact (Kd.aX HO_187001.out).2.2)))
        (case side2 => exact (Kd.aX HO_187001.out).2.1)
        (case side3 => repeat ((exact (Kd.eF HR1.out HB.out))))
        (case side4 => exact HC1.out)
        rintro e w46 ⟨v199, rfl, ho0, hb⟩
        refine ⟨_, rfl, ?_⟩
        have HO200 := aj.mk (Kd.bS ho0 (ay HB.out))
        replace HO_9 := aj.mk (Kd.bD (by ((exact HO_9.out))) hb)
        replace HO_187001 := aj.mk (Kd.bD (by ((exact HO_187001.out))) hb)
        replace BK186 := aj.mk (aI (by ((exact BK186.out))) hb)
        replace HB := aj.mk (au HB.out hb)
        (try clear hb)
        (try clear ho0)
        refine hK.out _ _ (d3_ BK186.out) (fun hHeld => ?_)
        clear hK K
        refine lC (a' := ?_) ?_ ?_
        rotate_left
        ·show Act.put _ (some 59) _ = _
         simp only [Act.put, sA_, sZ_, sS_, dU, fA]
         rfl
        refine oI (i := 5) (N := some 62) (ls 12 255) rfl rfl (lY HT_.out (by kernel_rfl)) (by decide) (fun K hK => ?_)
        refine oZ Tryz.func26 (by kernel_rfl) rfl #[.agg #[.string t180, .slice Ao31 t181.length co31, .int .i64 t184], .slice A2 l2.length c2] (by rfl) rfl rfl (by (try simp only [mA_, mC_, mN_]); rfl) ?_
        with_reducible refine (dS.calls kj26 t180 _ _ t181 t184 _ _ l2 t201 _ ?side1 ?side2 ?side3 ?side4 A43.out).mono ?_
        (case side1 => repeat ((exact (Kd.aX HO_187001.out).2.2)))
        (case side2 => exact (Kd.aX HO_187001.out).2.1)
        (case side3 => repeat ((exact (Kd.eF HR2.out HB.out))))
        (case side4 => exact HC2.out)
        rintro e w47 ⟨v202, rfl, ho0, hb⟩
        refine ⟨_, rfl, ?_⟩
        have HO203 := aj.mk (Kd.bS (Kd.iU ho0 (Kd.jS (by ((exact HO200.out))))) (ay HB.out))
        replace HO_9 := aj.mk (Kd.bD (by ((exact HO_9.out))) hb)
        replace HO_187001 := aj.mk (Kd.bD (by ((exact HO_187001.out))) hb)
        replace HO200 := aj.mk (Kd.gK (by ((exact HO200.out))) (Kd.iV ho0) hb)
        replace BK186 := aj.mk (aI (by ((exact BK186.out))) hb)
        replace HB := aj.mk (au HB.out hb)
        (try clear hb)
        (try clear ho0)
        obtain ⟨Ao48, co48, eo48⟩ := Kd.cO HO_9.out
        ((subst eo48))
        refine hK.out _ _ (d3_ BK186.out) (fun hHeld => ?_)
        clear hK K
        refine lC (a' := ?_) ?_ ?_
        rotate_left
        ·show Act.put _ (some 62) _ = _
         simp only [Act.put, sA_, sZ_, sS_, dU, fA]
         rfl
        refine oI (i := 8) (N := some 65) (ls 12 511) rfl rfl (lY HT_.out (by kernel_rfl)) (by decide) (fun K hK => ?_)
        refine oZ Tryz.func26 (by kernel_rfl) rfl #[.agg #[.string t180, .slice Ao31 t181.length co31, .int .i64 t184], .slice Ao48 y193.length co48] (by rfl) rfl rfl (by (try simp only [mA_, mC_, mN_]); rfl) ?_
        with_reducible refine (dS.calls kj26 t180 _ _ t181 t184 _ _ y193 t204 _ ?side1 ?side2 ?side3 ?side4 A44.out).mono ?_
        (case side1 => repeat ((exact (Kd.aX HO_187001.out).2.2)))
        (case side2 => exact (Kd.aX HO_187001.out).2.1)
        (case side3 => repeat ((exact (Kd.aX HO_9.out).2.2)))
        (case side4 => exact (Kd.aX HO_9.out).2.1)
        rintro e w49 ⟨v205, rfl, ho0, hb⟩
        refine ⟨_, rfl, ?_⟩
        have HO206 := aj.mk (Kd.bS (Kd.iU (Kd.iU ho0 (Kd.jS (by ((exact HO200.out))))) (Kd.jS (by ((exact HO203.out))))) (ay HB.out))
        replace HO_9 := aj.mk (Kd.bD (by ((exact HO_9.out))) hb)
        replace HO_187001 := aj.mk (Kd.bD (by ((exact HO_187001.out))) hb)
        replace HO200 := aj.mk (Kd.gK (by ((exact HO200.out))) (Kd.iV ho0) hb)
        replace HO203 := aj.mk (Kd.gK (by ((exact HO203.out))) (Kd.iV ho0) hb)
        replace BK186 := aj.mk (aI (by ((exact BK186.out))) hb)
        replace HB := aj.mk (au HB.out hb)
        (try clear hb)
        (try clear ho0)
        refine hK.out _ _ (d3_ BK186.out) (fun hHeld => ?_)
        clear hK K
        refine lC (a' := ?_) ?_ ?_
        rotate_left
        ·show Act.put _ (some 65) _ = _
         simp only [Act.put, sA_, sZ_, sS_, dU, fA]
         rfl
        refine td_ [(9, 11), (10, 12), (11, 13)] ?_
        iterate 3 (refine pn_ (v := ?_) (a' := ?_) HT_ rfl rfl (by kernel_rfl) rfl (fun _ _ _ h => h) (fun w' => ?_) ?_ ?_; rotate_left 2; (focus go_simp; with_reducible rfl); (focus simp only [Act.put, sA_, sZ_, sS_, dU, fA]; rfl))
        refine dn_ ?_
        refine mJ (kY HT_.out (by kernel_rfl)) ?_
        (try go_wp2)
        go_loopg [14] kj26 (fun kq v14 w' => ∃ (x14_3 : Int), v14 = .int .i64 x14_3 ∧ aj (ak.l0 kq y193 x10_26 t198 t201 t204 x14_3 t180 t181 t184 = some r) ∧ aj (kq ≤ kj26) ∧ aj (Kd.R k28 28 w' w.heap.size (fun k_ => some k_ ≠ ((.slice Ao31 t181.length co31) : Value).ownBlock) (.slice Ao48 y193.length co48) y193) ∧ aj (Kd.R Kd.string 9 w' w.heap.size (fun k_ => some k_ ≠ (v202 : Value).ownBlock ∧ some k_ ≠ (v205 : Value).ownBlock) v199 t198) ∧ aj (Kd.R Kd.string 9 w' w.heap.size (fun k_ => some k_ ≠ (v199 : Value).ownBlock ∧ some k_ ≠ (v205 : Value).ownBlock) v202 t201) ∧ aj (Kd.R Kd.string 9 w' w.heap.size (fun k_ => some k_ ≠ (v199 : Value).ownBlock ∧ some k_ ≠ (v202 : Value).ownBlock) v205 t204) ∧ aj (Kd.R k28 28 w' w.heap.size (fun k_ => some k_ ≠ ((.slice Ao48 y193.length co48) : Value).ownBlock) (.slice Ao31 t181.length co31) t181) ∧ aj (w'.heap[gb186]? = some (.cells #[.string t180, (.slice Ao31 t181.length co31), .int .i64 t184] 31 (0, 0))) ∧ aj (Below w.heap.size w w'))
        case atStart => exact ⟨(0), (by rfl), H', ⟨Nat.le_refl _⟩, ⟨by (with_reducible repeat ((apply Kd.aN))); exact HO_9.out⟩, ⟨by (with_reducible repeat ((apply Kd.aN))); exact Kd.dn HO200.out (fun _ hk => ⟨hk.1.2, hk.2⟩)⟩, ⟨by (with_reducible repeat ((apply Kd.aN))); exact Kd.dn HO203.out (fun _ hk => ⟨hk.1.2, hk.2⟩)⟩, ⟨by (with_reducible repeat ((apply Kd.aN))); exact Kd.dn HO206.out (fun _ hk => ⟨hk.1.2, hk.2⟩)⟩, ⟨by (with_reducible repeat ((apply Kd.aN))); exact HO_187001.out⟩, ⟨by (with_reducible repeat ((refine aA ?_ _))); exact BK186.out⟩, ⟨HB.out⟩⟩
        case round =>
         clear H'
         obtain ⟨x14_3, rfl, HA, HK3, HO_9, HO_11, HO_12, HO_13, HO_187001, BK186, HB⟩ := hrel
         cases gk with
         | zero => exact absurd HA.out (by simp [ak.l0])
         | succ k3 =>
          have H := HA.out
          clear HA
          simp only [ak.l0] at H
          by_cases c50 : x14_3 < (wrap64 ((t198.length : Int) + (t201.length : Int)))
          focus
           rw [if_pos c50] at H
           have c50b0 : decide (x14_3 < (wrap64 ((t198.length : Int) + (t201.length : Int)))) = true := decide_eq_true c50
           clear c50
           have HC51 := aj.mk H
          rotate_left
          focus
           rw [if_neg c50] at H
           have c50b0 : decide (x14_3 < (wrap64 ((t198.length : Int) + (t201.length : Int)))) = false := decide_eq_false c50
           clear c50
           have H' := aj.mk H
          rotate_left
          all_goals
           clear H
           obtain ⟨Ao52, co52, eo52⟩ := Kd.cO HO_11.out
           subst eo52
           obtain ⟨Ao53, co53, eo53⟩ := Kd.cO HO_12.out
           subst eo53
          ·go_upto_if 78 with (fail)
           go_cut [15] (fun v15 wc => ∃ (kq : Nat) (x15_50 : ByteArray), v15 = .string x15_50 ∧ aj (ak.j3 kq y193 x10_26 t198 t201 t204 x14_3 x15_50 t180 t181 t184 = some r) ∧ aj (kq ≤ k3) ∧ aj (Kd.R k28 28 wc w.heap.size (fun k_ => some k_ ≠ ((.slice Ao31 t181.length co31) : Value).ownBlock) (.slice Ao48 y193.length co48) y193) ∧ aj (Kd.R Kd.string 9 wc w.heap.size (fun k_ => some k_ ≠ ((.slice Ao53 t201.length co53) : Value).ownBlock ∧ some k_ ≠ (v205 : Value).ownBlock) (.slice Ao52 t198.length co52) t198) ∧ aj (Kd.R Kd.string 9 wc w.heap.size (fun k_ => some k_ ≠ ((.slice Ao52 t198.length co52) : Value).ownBlock ∧ some k_ ≠ (v205 : Value).ownBlock) (.slice Ao53 t201.length co53) t201) ∧ aj (Kd.R Kd.string 9 wc w.heap.size (fun k_ => some k_ ≠ ((.slice Ao52 t198.length co52) : Value).ownBlock ∧ some k_ ≠ ((.slice Ao53 t201.length co53) : Value).ownBlock) v205 t204) ∧ aj (Kd.R k28 28 wc w.heap.size (fun k_ => some k_ ≠ ((.slice Ao48 y193.length co48) : Value).ownBlock) (.slice Ao31 t181.length co31) t181) ∧ aj (wc.heap[gb186]? = some (.cells #[.string t180, (.slice Ao31 t181.length co31), .int .i64 t184] 31 (0, 0))) ∧ aj (Below w.heap.size w wc))
           case first =>
            have H := HC51.out
            clear HC51
            by_cases c54 : x14_3 < (t198.length : Int)
            focus
             rw [if_pos c54] at H
             have c54b0 : decide (x14_3 < (t198.length : Int)) = true := decide_eq_true c54
            rotate_left
            focus
             rw [if_neg c54] at H
             have c54b0 : decide (x14_3 < (t198.length : Int)) = false := decide_eq_false c54
            rotate_left
            all_goals
             clear c54
             ((rw [c54b0]))
            focus
             obtain ⟨c55b0, H⟩ := dX H
             have H' := aj.mk H
             clear H
             have p207 : 0 ≤ (x14_3 : Int) := of_decide_eq_true (by assumption)
             have q207 : x14_3 < (t198.length : Int) := of_decide_eq_true (by assumption)
             obtain ⟨ad207, e207, hx207_0⟩ := Kd.fZ (Kd.aX HO_11.out).2.2 x14_3 p207 q207
            rotate_left
            focus
             obtain ⟨ji56, hji56⟩ : ∃ j_ : Int, (wrap64 (x14_3 - (t198.length : Int))) = j_ := ⟨_, rfl⟩
             rw [hji56] at H
             have hji56w : (IntKind.i64.wrap (x14_3 - (t198.length : Int))) = ji56 := (dU _).trans hji56
             obtain ⟨c57b0, H⟩ := dX H
             obtain ⟨c58b0, H⟩ := dX H
             have H' := aj.mk H
             clear H
             have p207 : 0 ≤ ((ji56) : Int) := of_decide_eq_true (by assumption)
             have q207 : (ji56) < (t201.length : Int) := of_decide_eq_true (by assumption)
             obtain ⟨ad208, e207, hx208_0⟩ := Kd.fZ (Kd.aX HO_12.out).2.2 (ji56) p207 q207
            rotate_left
            all_goals
             cases e207
             replace p207 := eq_true p207
             replace q207 := eq_true q207
             go_wp2
             go_meet
            ·case rel => exact ⟨_, (bH ByteArray.empty t198 x14_3), (by rfl), H', ⟨by have := HJ3.out; have := HJ26.out; have := HK3.out; omega⟩, ⟨by (with_reducible repeat ((apply Kd.aN))); exact HO_9.out⟩, ⟨by (with_reducible repeat ((apply Kd.aN))); exact HO_11.out⟩, ⟨by (with_reducible repeat ((apply Kd.aN))); exact HO_12.out⟩, ⟨by (with_reducible repeat ((apply Kd.aN))); exact HO_13.out⟩, ⟨by (with_reducible repeat ((apply Kd.aN))); exact HO_187001.out⟩, ⟨by (with_reducible repeat ((refine aA ?_ _))); exact BK186.out⟩, ⟨HB.out⟩⟩
            ·case rel => exact ⟨_, (bH ByteArray.empty t201 (ji56)), (by rfl), H', ⟨by have := HJ3.out; have := HJ26.out; have := HK3.out; omega⟩, ⟨by (with_reducible repeat ((apply Kd.aN))); exact HO_9.out⟩, ⟨by (with_reducible repeat ((apply Kd.aN))); exact HO_11.out⟩, ⟨by (with_reducible repeat ((apply Kd.aN))); exact HO_12.out⟩, ⟨by (with_reducible repeat ((apply Kd.aN))); exact HO_13.out⟩, ⟨by (with_reducible repeat ((apply Kd.aN))); exact HO_187001.out⟩, ⟨by (with_reducible repeat ((refine aA ?_ _))); exact BK186.out⟩, ⟨HB.out⟩⟩
           case rest =>
            clear HC51
            (try clear c50b0)
            obtain ⟨kq, x15_50, rfl, HA, HJ50, HO_9, HO_11, HO_12, HO_13, HO_187001, BK186, HB⟩ := hcut
            cases kq with
            | zero => exact absurd HA.out (by simp [ak.j3])
            | succ kj50 =>
             have H := HA.out
             clear HA
             simp only [ak.j3] at H
             have H' := aj.mk H
             clear H
             go_wp2
             go_loopg [16, 17] kj50 (fun kq v16 v17 w' => ∃ (x16_5 : Bool) (x17_5 : Int), v16 = .bool x16_5 ∧ v17 = .int .i64 x17_5 ∧ aj (ak.l1 kq y193 x10_26 t198 t201 t204 x14_3 x15_50 x16_5 x17_5 t180 t181 t184 = some r) ∧ aj (kq ≤ kj50) ∧ aj (Kd.R k28 28 w' w.heap.size (fun k_ => some k_ ≠ ((.slice Ao31 t181.length co31) : Value).ownBlock) (.slice Ao48 y193.length co48) y193) ∧ aj (Kd.R Kd.string 9 w' w.heap.size (fun k_ => some k_ ≠ ((.slice Ao53 t201.length co53) : Value).ownBlock ∧ some k_ ≠ (v205 : Value).ownBlock) (.slice Ao52 t198.length co52) t198) ∧ aj (Kd.R Kd.string 9 w' w.heap.size (fun k_ => some k_ ≠ ((.slice Ao52 t198.length co52) : Value).ownBlock ∧ some k_ ≠ (v205 : Value).ownBlock) (.slice Ao53 t201.length co53) t201) ∧ aj (Kd.R Kd.string 9 w' w.heap.size (fun k_ => some k_ ≠ ((.slice Ao52 t198.length co52) : Value).ownBlock ∧ some k_ ≠ ((.slice Ao53 t201.length co53) : Value).ownBlock) v205 t204) ∧ aj (Kd.R k28 28 w' w.heap.size (fun k_ => some k_ ≠ ((.slice Ao48 y193.length co48) : Value).ownBlock) (.slice Ao31 t181.length co31) t181) ∧ aj (w'.heap[gb186]? = some (.cells #[.string t180, (.slice Ao31 t181.length co31), .int .i64 t184] 31 (0, 0))) ∧ aj (Below w.heap.size w w'))
             case atStart => exact ⟨(false), (0), (by rfl), (by rfl), H', ⟨Nat.le_refl _⟩, ⟨by (with_reducible repeat ((apply Kd.aN))); exact HO_9.out⟩, ⟨by (with_reducible repeat ((apply Kd.aN))); exact HO_11.out⟩, ⟨by (with_reducible repeat ((apply Kd.aN))); exact HO_12.out⟩, ⟨by (with_reducible repeat ((apply Kd.aN))); exact HO_13.out⟩, ⟨by (with_reducible repeat ((apply Kd.aN))); exact HO_187001.out⟩, ⟨by (with_reducible repeat ((refine aA ?_ _))); exact BK186.out⟩, ⟨HB.out⟩⟩
             case round =>
              clear H'
              obtain ⟨x16_5, x17_5, rfl, rfl, HA, HK5, HO_9, HO_11, HO_12, HO_13, HO_187001, BK186, HB⟩ := hrel
              cases gk with
              | zero => exact absurd HA.out (by simp [ak.l1])
              | succ k5 =>
               have H := HA.out
               clear HA
               simp only [ak.l1] at H
               by_cases c59 : x17_5 < (t204.length : Int)
               focus
                rw [if_pos c59] at H
                have c59b0 : decide (x17_5 < (t204.length : Int)) = true := decide_eq_true c59
                clear c59
                by_cases c60 : x16_5 = true
                focus
                 subst c60
                 rw [if_pos rfl] at H
                rotate_left
                focus
                 replace c60 := Bool.eq_false_iff.mpr c60
                 subst c60
                 rw [if_neg ff_] at H
                 obtain ⟨c62b0, H⟩ := dX H
                rotate_left
                all_goals
                 have H' := aj.mk H
                 clear H
               rotate_left 2
               focus
                rw [if_neg c59] at H
                have c59b0 : decide (x17_5 < (t204.length : Int)) = false := decide_eq_false c59
                clear c59
                by_cases c64 : x16_5 = true
                focus
                 subst c64
                 rw [if_pos rfl] at H
                 have H' := aj.mk H
                 clear H
                rotate_left
                focus
                 replace c64 := Bool.eq_false_iff.mpr c64
                 subst c64
                 rw [if_neg ff_] at H
                 obtain rfl := Option.some.inj H
                rotate_left
               rotate_left 2
               all_goals
                obtain ⟨Ao61, co61, eo61⟩ := Kd.cO HO_13.out
                subst eo61
               rotate_left
               focus
                have p209 : 0 ≤ (x17_5 : Int) := of_decide_eq_true (by assumption)
                have q209 : x17_5 < (t204.length : Int) := of_decide_eq_true (by assumption)
                obtain ⟨ad209, e209, hx209_0⟩ := Kd.fZ (Kd.aX HO_13.out).2.2 x17_5 p209 q209
                cases e209
                replace p209 := eq_true p209
                replace q209 := eq_true q209
               rotate_left
               rotate_left 2
               iterate 2
                focus
                 go_wp2
                 go_roundg k5
                 case measure => have := HJ3.out; have := HJ26.out; have := HK3.out; have := HJ50.out; have := HK5.out; omega
                rotate_left
               rotate_left 2
               ·case rel => exact ⟨(true), (wrap64 (x17_5 + 1)), (by rfl), (by rfl), H', ⟨by have := HJ3.out; have := HJ26.out; have := HK3.out; have := HJ50.out; have := HK5.out; omega⟩, ⟨by (with_reducible repeat ((apply Kd.aN))); exact HO_9.out⟩, ⟨by (with_reducible repeat ((apply Kd.aN))); exact HO_11.out⟩, ⟨by (with_reducible repeat ((apply Kd.aN))); exact HO_12.out⟩, ⟨by (with_reducible repeat ((apply Kd.aN))); exact HO_13.out⟩, ⟨by (with_reducible repeat ((apply Kd.aN))); exact HO_187001.out⟩, ⟨by (with_reducible repeat ((refine aA ?_ _))); exact BK186.out⟩, ⟨HB.out⟩⟩
               ·case rel => exact ⟨(((bH ByteArray.empty t204 x17_5).toList == x15_50.toList)), (wrap64 (x17_5 + 1)), (by rfl), (by rfl), H', ⟨by have := HJ3.out; have := HJ26.out; have := HK3.out; have := HJ50.out; have := HK5.out; omega⟩, ⟨by (with_reducible repeat ((apply Kd.aN))); exact HO_9.out⟩, ⟨by (with_reducible repeat ((apply Kd.aN))); exact HO_11.out⟩, ⟨by (with_reducible repeat ((apply Kd.aN))); exact HO_12.out⟩, ⟨by (with_reducible repeat ((apply Kd.aN))); exact HO_13.out⟩, ⟨by (with_reducible repeat ((apply Kd.aN))); exact HO_187001.out⟩, ⟨by (with_reducible repeat ((refine aA ?_ _))); exact BK186.out⟩, ⟨HB.out⟩⟩
               all_goals
                go_wp2
               ·go_roundg k5
                case measure => have := HJ3.out; have := HJ26.out; have := HK3.out; have := HJ50.out; have := HK5.out; omega
                case rel => exact ⟨(wrap64 (x14_3 + 1)), (by rfl), H', ⟨by have := HJ3.out; have := HJ26.out; have := HK3.out; have := HJ50.out; have := HK5.out; omega⟩, ⟨by (with_reducible repeat ((apply Kd.aN))); exact HO_9.out⟩, ⟨by (with_reducible repeat ((apply Kd.aN))); exact HO_11.out⟩, ⟨by (with_reducible repeat ((apply Kd.aN))); exact HO_12.out⟩, ⟨by (with_reducible repeat ((apply Kd.aN))); exact HO_13.out⟩, ⟨by (with_reducible repeat ((apply Kd.aN))); exact HO_187001.out⟩, ⟨by (with_reducible repeat ((refine aA ?_ _))); exact BK186.out⟩, ⟨HB.out⟩⟩
               ·go_ret
                exact ⟨by rfl, HB.out⟩
          ·go_wp2
           go_loopg [18] k3 (fun kq v18 w' => ∃ (x18_4 : Int), v18 = .int .i64 x18_4 ∧ aj (ak.l2 kq y193 x10_26 t198 t201 t204 x18_4 t180 t181 t184 = some r) ∧ aj (kq ≤ k3) ∧ aj (Kd.R k28 28 w' w.heap.size (fun k_ => some k_ ≠ ((.slice Ao31 t181.length co31) : Value).ownBlock) (.slice Ao48 y193.length co48) y193) ∧ aj (Kd.R Kd.string 9 w' w.heap.size (fun k_ => some k_ ≠ ((.slice Ao53 t201.length co53) : Value).ownBlock ∧ some k_ ≠ (v205 : Value).ownBlock) (.slice Ao52 t198.length co52) t198) ∧ aj (Kd.R Kd.string 9 w' w.heap.size (fun k_ => some k_ ≠ ((.slice Ao52 t198.length co52) : Value).ownBlock ∧ some k_ ≠ (v205 : Value).ownBlock) (.slice Ao53 t201.length co53) t201) ∧ aj (Kd.R Kd.string 9 w' w.heap.size (fun k_ => some k_ ≠ ((.slice Ao52 t198.length co52) : Value).ownBlock ∧ some k_ ≠ ((.slice Ao53 t201.length co53) : Value).ownBlock) v205 t204) ∧ aj (Kd.R k28 28 w' w.heap.size (fun k_ => some k_ ≠ ((.slice Ao48 y193.length co48) : Value).ownBlock) (.slice Ao31 t181.length co31) t181) ∧ aj (w'.heap[gb186]? = some (.cells #[.string t180, (.slice Ao31 t181.length co31), .int .i64 t184] 31 (0, 0))) ∧ aj (Below w.heap.size w w'))
           case atStart => exact ⟨(0), (by rfl), H', ⟨Nat.le_refl _⟩, ⟨by (with_reducible repeat ((apply Kd.aN))); exact HO_9.out⟩, ⟨by (with_reducible repeat ((apply Kd.aN))); exact HO_11.out⟩, ⟨by (with_reducible repeat ((apply Kd.aN))); exact HO_12.out⟩, ⟨by (with_reducible repeat ((apply Kd.aN))); exact HO_13.out⟩, ⟨by (with_reducible repeat ((apply Kd.aN))); exact HO_187001.out⟩, ⟨by (with_reducible repeat ((refine aA ?_ _))); exact BK186.out⟩, ⟨HB.out⟩⟩
           case round =>
            clear H'
            (try clear c50b0)
            obtain ⟨x18_4, rfl, HA, HK4, HO_9, HO_11, HO_12, HO_13, HO_187001, BK186, HB⟩ := hrel
            cases gk with
            | zero => exact absurd HA.out (by simp [ak.l2])
            | succ k4 =>
             have H := HA.out
             clear HA
             simp only [ak.l2] at H
             by_cases c69 : x18_4 < (t204.length : Int)
             focus
              rw [if_pos c69] at H
              have c69b0 : decide (x18_4 < (t204.length : Int)) = true := decide_eq_true c69
              clear c69
              obtain ⟨c70b0, H⟩ := dX H
              obtain ⟨t212, A71, H⟩ := cu H
              by_cases c72 : t212 = true
              focus
               subst c72
               rw [if_pos rfl] at H
               by_cases c73 : x18_4 > 0
               focus
                rw [if_pos c73] at H
                have c73b0 : decide (0 < x18_4) = true := decide_eq_true c73
                clear c73
                obtain ⟨ji74, hji74⟩ : ∃ j_ : Int, (wrap64 (x18_4 - 1)) = j_ := ⟨_, rfl⟩
                rw [hji74] at H
                have hji74w : (IntKind.i64.wrap (x18_4 - 1)) = ji74 := (dU _).trans hji74
                obtain ⟨c75b0, H⟩ := dX H
                obtain ⟨c76b0, H⟩ := dX H
                obtain ⟨t215, A77, H⟩ := cu H
                by_cases c78 : t215 ≥ 0
                focus
                 rw [if_pos c78] at H
                 have c78b0 : decide (0 ≤ t215) = true := decide_eq_true c78
                 clear c78
                 obtain rfl := Option.some.inj H
                rotate_left
                focus
                 rw [if_neg c78] at H
                 have c78b0 : decide (0 ≤ t215) = false := decide_eq_false c78
                 clear c78
                 have H' := aj.mk H
                 clear H
                rotate_left
               rotate_left 2
               focus
                rw [if_neg c73] at H
                have c73b0 : decide (0 < x18_4) = false := decide_eq_false c73
                clear c73
                have H' := aj.mk H
                clear H
               rotate_left
              rotate_left 3
              focus
               replace c72 := Bool.eq_false_iff.mpr c72
               subst c72
               rw [if_neg ff_] at H
               obtain rfl := Option.some.inj H
              rotate_left
             rotate_left 4
             focus
              rw [if_neg c69] at H
              have c69b0 : decide (x18_4 < (t204.length : Int)) = false := decide_eq_false c69
              clear c69
              obtain ⟨t210, A93, H⟩ := cu H
              by_cases c94 : t210 = x10_26
              focus
               rw [if_pos c94] at H
               have c94b0 : (t210 == x10_26) = true := beq_iff_eq.mpr c94
               have c94b1 : (t210 != x10_26) = false := bne_eq_false_iff_eq.mpr c94
               clear c94
              rotate_left
              focus
               rw [if_neg c94] at H
               have c94b0 : (t210 == x10_26) = false := beq_eq_false_iff_ne.mpr c94
               have c94b1 : (t210 != x10_26) = true := bne_iff_ne.mpr c94
              rotate_left
              all_goals
               obtain rfl := Option.some.inj H
             rotate_left 2
             all_goals
              obtain ⟨Ao79, co79, eo79⟩ := Kd.cO HO_13.out
              subst eo79
             iterate 4
              focus
               (try go_wp2)
               replace HO_9 := aj.mk (Kd.iF HO_9.out)
               replace HO_11 := aj.mk (Kd.iF HO_11.out)
               replace HO_12 := aj.mk (Kd.iF HO_12.out)
               replace HO_13 := aj.mk (Kd.iF HO_13.out)
               replace HO_187001 := aj.mk (Kd.iF HO_187001.out)
               replace BK186 := aj.mk (eP BK186.out)
               replace HB := aj.mk (dz HB.out)
               have p211 : 0 ≤ (x18_4 : Int) := of_decide_eq_true (by assumption)
               have q211 : x18_4 < (t204.length : Int) := of_decide_eq_true (by assumption)
               obtain ⟨ad211, e211, hx211_0⟩ := Kd.fZ (Kd.aX HO_13.out).2.2 x18_4 p211 q211
               cases e211
               replace p211 := eq_true p211
               replace q211 := eq_true q211
              rotate_left
             rotate_left 2
             iterate 2
              focus
               have p213 : 0 ≤ ((ji74) : Int) := of_decide_eq_true (by assumption)
               have q213 : (ji74) < (t204.length : Int) := of_decide_eq_true (by assumption)
               obtain ⟨ad213, e213, hx213_0⟩ := Kd.fZ (Kd.aX HO_13.out).2.2 (ji74) p213 q213
               obtain rfl : ad211 = ad213 := (by injection e213)
               replace p213 := eq_true p213
               replace q213 := eq_true q213
               have p214 : 0 ≤ (x18_4 : Int) := of_decide_eq_true (by assumption)
               have q214 : x18_4 < (t204.length : Int) := of_decide_eq_true (by assumption)
               obtain ⟨ad214, e214, hx214_0⟩ := Kd.fZ (Kd.aX HO_13.out).2.2 x18_4 p214 q214
               obtain rfl : ad211 = ad214 := (by injection e214)
               replace p214 := eq_true p214
               replace q214 := eq_true q214
               refine iH (n := 23) (S := fun w' => w'.cell? (ad211.add (x18_4).toNat) = some (.string (bH ByteArray.empty t204 x18_4)) ∧ w'.cell? (ad211.add ((ji74)).toNat) = some (.string (bH ByteArray.empty t204 (ji74))) ∧ w'.cell? (ad211.add (x18_4).toNat) = some (.string (bH ByteArray.empty t204 x18_4))) (ds := []) (ls 23 0) (by kernel_rfl) rfl rfl ⟨hx211_0, hx213_0, hx214_0⟩ (fun hHeld => ?_); refine fF ak.Cj ak.Ac (fun HT_ HW_ => ?_)
               generalize wr.drew = w80 at HO_9 HO_11 HO_12 HO_13 HO_187001 BK186 HB hx211_0 hx213_0 hx214_0 hHeld ⊢
              rotate_left
             focus
              refine iH (n := 23) (S := fun w' => w'.cell? (ad211.add (x18_4).toNat) = some (.string (bH ByteArray.empty t204 x18_4))) (ds := []) (ls 23 0) (by kernel_rfl) rfl rfl (hx211_0) (fun hHeld => ?_); refine fF ak.Cj ak.Ac (fun HT_ HW_ => ?_)
              generalize wr.drew = w88 at HO_9 HO_11 HO_12 HO_13 HO_187001 BK186 HB hx211_0 hHeld ⊢
             rotate_left
             focus
              refine iH (n := 23) (S := fun w' => w'.cell? (ad211.add (x18_4).toNat) = some (.string (bH ByteArray.empty t204 x18_4))) (ds := []) (ls 23 0) (by kernel_rfl) rfl rfl (hx211_0) (fun hHeld => ?_); refine fF ak.Cj ak.Ac (fun HT_ HW_ => ?_)
              generalize wr.drew = w91 at HO_9 HO_11 HO_12 HO_13 HO_187001 BK186 HB hx211_0 hHeld ⊢
             rotate_left
             rotate_left 2
             iterate 4
              focus
               refine td_ [(0, 113), (1, 114), (2, 115)] ?_
               iterate 3 (refine pn_ (v := ?_) (a' := ?_) HT_ rfl rfl (by kernel_rfl) rfl (fun _ _ _ h => h) (fun w' => ?_) ?_ ?_; rotate_left 2; (focus go_simp; with_reducible rfl); (focus simp only [Act.put, sA_, sZ_, sS_, dU, fA]; rfl))
               refine dn_ ?_
               refine td_ [(3, 116)] ?_
              rotate_left
             rotate_left 2
             iterate 2
              focus
               iterate 1 (refine tn_ (v := ?_) (a' := ?_) HT_ HW_ rfl rfl (by kernel_rfl) rfl (fun _ _ _ h => h) hHeld ?_ ?_ ?_; rotate_left 2; (focus rintro w' ⟨s0, s1, s2⟩; go_simp; with_reducible rfl); (focus simp only [Act.put, sA_, sZ_, sS_, dU, fA]; rfl))
              rotate_left
             focus
              iterate 1 (refine tn_ (v := ?_) (a' := ?_) HT_ HW_ rfl rfl (by kernel_rfl) rfl (fun _ _ _ h => h) hHeld ?_ ?_ ?_; rotate_left 2; (focus rintro w' s0; go_simp; with_reducible rfl); (focus simp only [Act.put, sA_, sZ_, sS_, dU, fA]; rfl))
             rotate_left
             focus
              iterate 1 (refine tn_ (v := ?_) (a' := ?_) HT_ HW_ rfl rfl (by kernel_rfl) rfl (fun _ _ _ h => h) hHeld ?_ ?_ ?_; rotate_left 2; (focus rintro w' s0; go_simp; with_reducible rfl); (focus simp only [Act.put, sA_, sZ_, sS_, dU, fA]; rfl))
             rotate_left
             rotate_left 2
             iterate 4
              focus
               refine dn_ ?_
               refine oI (i := 4) (N := some 117) (ls 23 31) rfl rfl (lY HT_.out (by kernel_rfl)) (by decide) (fun K hK => ?_)
               refine oZ Tryz.func28 (by kernel_rfl) rfl #[.string (bH ByteArray.empty t204 x18_4), .string (⟨#[2, 101, 120, 0]⟩ : ByteArray)] (by rfl) rfl rfl (by (try simp only [mA_, mC_, mN_]); rfl) ?_
               with_reducible refine (aK.calls k4 (bH ByteArray.empty t204 x18_4) (⟨#[2, 101, 120, 0]⟩ : ByteArray) _ _ A71.out).mono ?_
               rintro e w81 ⟨rfl, hb⟩
              rotate_left
             rotate_left 2
             iterate 2
              focus
               have HS0_ := kp_ hb hHeld.1
               have HS1_ := kp_ hb hHeld.2.1
               have HS2_ := kp_ hb hHeld.2.2
              rotate_left
             focus
              have HS0_ := kp_ hb hHeld
             rotate_left
             focus
              have HS0_ := kp_ hb hHeld
             rotate_left
             rotate_left 2
             iterate 4
              focus
               refine ⟨_, rfl, ?_⟩
               replace HO_9 := aj.mk (Kd.bD (by ((exact HO_9.out))) hb)
               replace HO_11 := aj.mk (Kd.bD (by ((exact HO_11.out))) hb)
               replace HO_12 := aj.mk (Kd.bD (by ((exact HO_12.out))) hb)
               replace HO_13 := aj.mk (Kd.bD (by ((exact HO_13.out))) hb)
               replace HO_187001 := aj.mk (Kd.bD (by ((exact HO_187001.out))) hb)
               replace BK186 := aj.mk (aI (by ((exact BK186.out))) hb)
               replace HB := aj.mk (au HB.out hb)
               (try clear hb)
              rotate_left
             rotate_left 2
             iterate 2
              focus
               refine hK.out _ _ ⟨HS0_, HS1_, HS2_⟩ (fun hHeld => ?_)
              rotate_left
             focus
              refine hK.out _ _ (HS0_) (fun hHeld => ?_)
             rotate_left
             focus
              refine hK.out _ _ (HS0_) (fun hHeld => ?_)
             rotate_left
             rotate_left 2
             iterate 4
              focus
               clear hK K
               refine lC (a' := ?_) ?_ ?_
               rotate_left
               ·show Act.put _ (some 117) _ = _
                simp only [Act.put, sA_, sZ_, sS_, dU, fA]
                rfl
              rotate_left
             rotate_left 2
             iterate 2
              focus
               refine td_ [(5, 118), (6, 119), (7, 120), (8, 121), (9, 122), (10, 123), (11, 124), (12, 125), (13, 126), (15, 128), (16, 129), (17, 130)] ?_
               iterate 12 (refine pn_ (v := ?_) (a' := ?_) HT_ rfl rfl (by kernel_rfl) rfl (fun _ _ _ h => h) (fun w' => ?_) ?_ ?_; rotate_left 2; (focus go_simp; with_reducible rfl); (focus simp only [Act.put, sA_, sZ_, sS_, dU, fA]; rfl))
               refine dn_ ?_
               refine td_ [(14, 127), (18, 131)] ?_
               iterate 2 (refine tn_ (v := ?_) (a' := ?_) HT_ HW_ rfl rfl (by kernel_rfl) rfl (fun _ _ _ h => h) hHeld ?_ ?_ ?_; rotate_left 2; (focus rintro w' ⟨s0, s1, s2⟩; go_simp; with_reducible rfl); (focus simp only [Act.put, sA_, sZ_, sS_, dU, fA]; rfl))
               refine dn_ ?_
               refine oI (i := 19) (N := some 132) (ls 23 1048575) rfl rfl (lY HT_.out (by kernel_rfl)) (by decide) (fun K hK => ?_)
               refine oZ Tryz.func29 (by kernel_rfl) rfl #[.string (bH ByteArray.empty t204 (ji74)), .string (bH ByteArray.empty t204 x18_4)] (by rfl) rfl rfl (by (try simp only [mA_, mC_, mN_]); rfl) ?_
               with_reducible refine (aM.calls k4 (bH ByteArray.empty t204 (ji74)) (bH ByteArray.empty t204 x18_4) t215 _ A77.out).mono ?_
               rintro e w82 ⟨rfl, hb⟩
               have HS0_ := kp_ hb hHeld.1
               have HS1_ := kp_ hb hHeld.2.1
               have HS2_ := kp_ hb hHeld.2.2
               refine ⟨_, rfl, ?_⟩
               replace HO_9 := aj.mk (Kd.bD (by ((exact HO_9.out))) hb)
               replace HO_11 := aj.mk (Kd.bD (by ((exact HO_11.out))) hb)
               replace HO_12 := aj.mk (Kd.bD (by ((exact HO_12.out))) hb)
               replace HO_13 := aj.mk (Kd.bD (by ((exact HO_13.out))) hb)
               replace HO_187001 := aj.mk (Kd.bD (by ((exact HO_187001.out))) hb)
               replace BK186 := aj.mk (aI (by ((exact BK186.out))) hb)
               replace HB := aj.mk (au HB.out hb)
               (try clear hb)
               refine hK.out _ _ ⟨HS0_, HS1_, HS2_⟩ (fun hHeld => ?_)
               clear hK K
               refine lC (a' := ?_) ?_ ?_
               rotate_left
               ·show Act.put _ (some 132) _ = _
                simp only [Act.put, sA_, sZ_, sS_, dU, fA]
                rfl
               refine td_ [(20, 133), (21, 134), (22, 135)] ?_
               iterate 3 (refine pn_ (v := ?_) (a' := ?_) HT_ rfl rfl (by kernel_rfl) rfl (fun _ _ _ h => h) (fun w' => ?_) ?_ ?_; rotate_left 2; (focus go_simp; with_reducible rfl); (focus simp only [Act.put, sA_, sZ_, sS_, dU, fA]; rfl))
              rotate_left
             focus
              refine td_ [(5, 118), (6, 119), (7, 120), (8, 121), (9, 122)] ?_
              iterate 5 (refine pn_ (v := ?_) (a' := ?_) HT_ rfl rfl (by kernel_rfl) rfl (fun _ _ _ h => h) (fun w' => ?_) ?_ ?_; rotate_left 2; (focus go_simp; with_reducible rfl); (focus simp only [Act.put, sA_, sZ_, sS_, dU, fA]; rfl))
              refine dn_ ?_
              refine td_ [(10, 123), (11, 124), (12, 125), (13, 126), (14, 127), (15, 128), (16, 129), (17, 130), (18, 131), (19, 132), (20, 133)] ?_
              iterate 11 (refine on_ (a' := ?_) HT_ rfl rfl (by kernel_rfl) rfl (fun _ _ _ h => h) ?_ ?_; rotate_left; (focus simp only [Act.put, sA_, sZ_, sS_, dU, fA]; rfl))
              refine dn_ ?_
              refine td_ [(21, 134), (22, 135)] ?_
              iterate 2 (refine pn_ (v := ?_) (a' := ?_) HT_ rfl rfl (by kernel_rfl) rfl (fun _ _ _ h => h) (fun w' => ?_) ?_ ?_; rotate_left 2; (focus go_simp; with_reducible rfl); (focus simp only [Act.put, sA_, sZ_, sS_, dU, fA]; rfl))
             rotate_left
             focus
              refine td_ [(5, 118), (6, 119)] ?_
              iterate 2 (refine pn_ (v := ?_) (a' := ?_) HT_ rfl rfl (by kernel_rfl) rfl (fun _ _ _ h => h) (fun w' => ?_) ?_ ?_; rotate_left 2; (focus go_simp; with_reducible rfl); (focus simp only [Act.put, sA_, sZ_, sS_, dU, fA]; rfl))
              refine dn_ ?_
              refine td_ [(7, 120), (8, 121), (9, 122), (10, 123), (11, 124), (12, 125), (13, 126), (14, 127), (15, 128), (16, 129), (17, 130), (18, 131), (19, 132), (20, 133), (21, 134)] ?_
              iterate 15 (refine on_ (a' := ?_) HT_ rfl rfl (by kernel_rfl) rfl (fun _ _ _ h => h) ?_ ?_; rotate_left; (focus simp only [Act.put, sA_, sZ_, sS_, dU, fA]; rfl))
              refine dn_ ?_
              refine td_ [(22, 135)] ?_
              iterate 1 (refine pn_ (v := ?_) (a' := ?_) HT_ rfl rfl (by kernel_rfl) rfl (fun _ _ _ h => h) (fun w' => ?_) ?_ ?_; rotate_left 2; (focus go_simp; with_reducible rfl); (focus simp only [Act.put, sA_, sZ_, sS_, dU, fA]; rfl))
             rotate_left
             rotate_left 2
             iterate 4
              focus
               refine dn_ ?_
               refine mJ (kY HT_.out (by kernel_rfl)) ?_
               (try go_wp2)
              rotate_left
             rotate_left 2
             ·go_ret
              exact ⟨by rfl, HB.out⟩
             ·go_roundg k4
              case measure => have := HJ3.out; have := HJ26.out; have := HK3.out; have := HK4.out; omega
              case rel => exact ⟨(wrap64 (x18_4 + 1)), (by rfl), H', ⟨by have := HJ3.out; have := HJ26.out; have := HK3.out; have := HK4.out; omega⟩, ⟨by (with_reducible repeat ((apply Kd.aN))); exact HO_9.out⟩, ⟨by (with_reducible repeat ((apply Kd.aN))); exact HO_11.out⟩, ⟨by (with_reducible repeat ((apply Kd.aN))); exact HO_12.out⟩, ⟨by (with_reducible repeat ((apply Kd.aN))); exact HO_13.out⟩, ⟨by (with_reducible repeat ((apply Kd.aN))); exact HO_187001.out⟩, ⟨by (with_reducible repeat ((refine aA ?_ _))); exact BK186.out⟩, ⟨HB.out⟩⟩
             ·go_roundg k4
              case measure => have := HJ3.out; have := HJ26.out; have := HK3.out; have := HK4.out; omega
              case rel => exact ⟨(wrap64 (x18_4 + 1)), (by rfl), H', ⟨by have := HJ3.out; have := HJ26.out; have := HK3.out; have := HK4.out; omega⟩, ⟨by (with_reducible repeat ((apply Kd.aN))); exact HO_9.out⟩, ⟨by (with_reducible repeat ((apply Kd.aN))); exact HO_11.out⟩, ⟨by (with_reducible repeat ((apply Kd.aN))); exact HO_12.out⟩, ⟨by (with_reducible repeat ((apply Kd.aN))); exact HO_13.out⟩, ⟨by (with_reducible repeat ((apply Kd.aN))); exact HO_187001.out⟩, ⟨by (with_reducible repeat ((refine aA ?_ _))); exact BK186.out⟩, ⟨HB.out⟩⟩
             ·go_ret
              exact ⟨by rfl, HB.out⟩
             all_goals
              obtain ⟨hcz96_0, hcz96_1, hcz96_2, hfz96_0, hfz96_1, hfz96_2⟩ := z3_ BK186.out
              go_wp2_with ((((with_reducible refine eG (f := 23) rfl ?_); refine iK (some 138) rfl rfl Tryz.func23 (by kernel_rfl) rfl #[.agg #[.string t180, .slice Ao31 t181.length co31, .int .i64 t184], .slice Ao48 y193.length co48] rfl (by (try simp only [mA_, mC_, mN_]); rfl) ?_; (with_reducible refine (bK.calls k4 t180 _ _ t181 t184 _ _ y193 t210 _ ?side1 ?side2 ?side3 ?side4 A93.out).mono ?_); (case side1 => repeat ((exact (Kd.aX HO_187001.out).2.2))); (case side2 => exact (Kd.aX HO_187001.out).2.1); (case side3 => repeat ((exact (Kd.aX HO_9.out).2.2))); (case side4 => exact (Kd.aX HO_9.out).2.1); rintro e w97 ⟨rfl, hb⟩; refine ⟨_, rfl, ?_⟩; replace HO_9 := aj.mk (Kd.bD (by ((exact HO_9.out))) hb); replace HO_11 := aj.mk (Kd.bD (by ((exact HO_11.out))) hb); replace HO_12 := aj.mk (Kd.bD (by ((exact HO_12.out))) hb); replace HO_13 := aj.mk (Kd.bD (by ((exact HO_13.out))) hb); replace HO_187001 := aj.mk (Kd.bD (by ((exact HO_187001.out))) hb); replace BK186 := aj.mk (aI (by ((exact BK186.out))) hb); replace HB := aj.mk (au HB.out hb); (try clear hb))))
              go_ret
              exact ⟨by rfl, HB.out⟩
     ·rw [if_neg c23] at H
      have c23b0 : (t185 == 0) = false := beq_eq_false_iff_ne.mpr c23
      have c23b1 : (t185 != 0) = true := bne_iff_ne.mpr c23
      obtain rfl := Option.some.inj H
      go_wp2_with (first | ((with_reducible refine eG (f := 21) rfl ?_); refine iK (some 39) rfl rfl Tryz.func21 (by kernel_rfl) rfl #[.string (⟨#[2, 101, 120, 0]⟩ : ByteArray), .slice A0 l0.length c0] rfl (by (try simp only [mA_, mC_, mN_]); rfl) ?_; (with_reducible refine (bL.calls kj3 (⟨#[2, 101, 120, 0]⟩ : ByteArray) _ _ l0 t180 t181 t184 t185 _ ?side1 ?side2 A22.out).mono ?_); (case side1 => repeat ((exact (Kd.eF HR0.out HB.out)))); (case side2 => exact HC0.out); rintro e w101 ⟨v182, rfl, ho0, hb⟩; refine ⟨_, rfl, ?_⟩; have HO183 := aj.mk (Kd.bS ho0 (ay HB.out)); replace HB := aj.mk (au HB.out hb); (try clear hb); (try clear ho0)) | ((((refine be_ (N := 7) (cs := #[.string (⟨#[]⟩ : ByteArray), .slice none 0 0, .int .i64 0]) (t := 31) ?_))); intro gb186 hg w102 hbox hb; have BK186 := aj.mk (hbox); have GW186 := aj.mk (ge_ hg (ay HB.out)); have GE186 := aj.mk (ge_ hg (ay HB.out)); replace HO183 := aj.mk (Kd.bD (by ((exact HO183.out))) hb); replace HB := aj.mk (au HB.out hb); clear hb hbox hg; obtain ⟨hcz103_0, hcz103_1, hcz103_2, hfz103_0, hfz103_1, hfz103_2⟩ := z3_ BK186.out; obtain ⟨Ao104, co104, eo104⟩ := Kd.cO HO183.out; subst eo104))
      go_ret
      exact ⟨by rfl, by repeat ((with_reducible first | exact HB.out | refine dG ?_ GE186.out))⟩
end Go.Y.PPs
namespace Go.Y.Pure
open Go.Proofs.ah.av Go.Y.Given Go.Y.PRd Go.Y.PRr Go.Y.PZo Go.Y.PZf Go.Y.PZh Go.Y.PPo Go.Y.PPs Go.Y.Rrs Go.Y.jN Go.Y.dK Go.Y.Oct Go.Y.Name Go.Y.dY Go.Y.bY
theorem zK (a : ByteArray) : ∀ A B : List RR, jJ a (A ++ B) = if jJ a A = 0 then jJ a B else jJ a A
 | [], B => by rw [List.nil_append, jJ, if_pos rfl]
 | r :: A, B => by
  rw [List.cons_append, jJ, jJ, zK a A B]
  by_cases h : mq a r = 0
  ·rw [if_pos h, if_pos h]
  ·rw [if_neg h, if_neg h, if_neg h]
theorem rF (a : ByteArray) (A B : List RR) : jV a (A ++ B) = jV a A ++ jV a B := by unfold jV; rw [List.filter_append, List.map_append]
theorem jW {a : ByteArray} {l : List RR} (y : ByteArray) : y ∈ iW a l ↔ y ∈ jV a l := qF om y
theorem xS : ∀ (l m : List ByteArray), (l.foldl (bY.put iq) m).length ≤ m.length + l.length
 | [], m => by simp
 | x :: l, m => by
  rw [List.foldl_cons]
  have h1 := xS l (bY.put iq m x)
  have h2 := zT m x
  rw [List.length_cons]
  omega
theorem CS (a : ByteArray) (A B : List RR) : (iW a (A ++ B)).length ≤ (iW a A).length + (iW a B).length := by
 have hf : ∀ l : List RR, ∀ y ∈ iW a l, folded y := fun l y hy => om y ((jW y).mp hy)
 have hA : gG iq (iW a A) := lN jB _
 have e : iW a (A ++ B) = (iW a B).foldl (bY.put iq) (iW a A) := by
  refine uP jB (lN jB _) (foldl_set jB _ _ hA) fun y => ?_
  rw [qU (P := folded) jB (fun x y hx hy => oW hx hy) _ _ hA (hf B) (hf A)]
  show y ∈ iW a (A ++ B) ↔ _
  rw [jW, jW, jW, rF, List.mem_append]
  exact Or.comm
 rw [e]
 exact xS _ _
theorem vV (m : List ByteArray) : ∀ l : List ByteArray, jL m (l.map dH) = jL m l
 | [] => rfl
 | s :: t => by
  have e : ((s :: t).map dH).map dH = (s :: t).map dH := by rw [List.map_map]; exact List.map_congr_left fun x _ => rD x
  have ih := vV m t
  rw [List.map_cons] at e ⊢
  rw [jL, jL, ih, e]
  rfl
theorem Cb {n a : ByteArray} (h : jc n a = true) : jc (gL n) a = true := by
 rcases nW n a with ⟨l, m, gl, gm, sl, sm, rfl, rfl⟩ | hn
 ·rw [pR gl gm sl sm] at h
  rw [mF gl sl, pR (uE gl) gm (by rw [size_map]; exact sl) sm, vV]
  exact h
 ·rw [rZ hn] at h; cases h
theorem Ai {a : ByteArray} {l : List RR} {y : ByteArray} (h : y ∈ iW a l) : jc y a = true := by
 rw [jW] at h
 unfold jV at h
 obtain ⟨x, hx, rfl⟩ := List.mem_map.mp h
 exact Cb (sP (of_decide_eq_true (List.mem_filter.mp hx).2)).2
theorem rdB (l : List ByteArray) (i : Nat) (hi : i < l.length) : bH ByteArray.empty l (i : Int) = l[i] := by
 unfold bH
 rw [Int.toNat_natCast, List.getD_eq_getElem?_getD, List.getElem?_eq_getElem hi]; rfl
section
variable (C : List RR) (u : Int) (X Y N : List ByteArray) (a : ByteArray) (s : List RR) (z : Int) (hX : X.length ≤ 1000000) (hY : Y.length ≤ 1000000) (hN : N.length ≤ 1000000)
include hN in
theorem row_in (i : Nat) (y : ByteArray) (hnext : Ev (fun k => ak.l0 k C u X Y N (wrap64 ((i : Int) + 1)) a s z) true) : ∀ (d j : Nat) (has : Bool), N.length ≤ j + d → j ≤ N.length → (has = true ∨ y ∈ N.drop j) → Ev (fun k => ak.l1 k C u X Y N (i : Int) y has (j : Int) a s z) true := by
 have hend : ∀ (j : Nat) (has : Bool), N.length ≤ j → (has = true ∨ y ∈ N.drop j) → Ev (fun k => ak.l1 k C u X Y N (i : Int) y has (j : Int) a s z) true := by
  intro j has hd h
  have h : has = true := by
   rcases h with h | h
   ·exact h
   ·rw [List.drop_of_length_le hd] at h; cases h
  subst h
  exact Ev.step (fun k => by rw [ak.l1]; rw [if_neg (by omega), if_pos rfl]) hnext
 intro d
 induction d with
 | zero => exact fun j has hd _ h => hend j has (by omega) h
 | succ d ih =>
  intro j has hd hj0 h
  by_cases hj : j < N.length
  ·have e1 : wrap64 ((j : Int) + 1) = ((j + 1 : Nat) : Int) := by unfold wrap64; omega
   cases has
   ·refine Ev.step (f := fun k => ak.l1 k C u X Y N (i : Int) y (N[j].toList == y.toList) ((j + 1 : Nat) : Int) a s z) (fun k => by rw [ak.l1, e1]; rw [if_pos (by omega), if_neg (by decide), if_pos (by omega), rdB N j hj]) ?_
    refine ih (j + 1) _ (by omega) (by omega) ?_
    rcases h with h | h
    ·cases h
    ·rw [List.drop_eq_getElem_cons hj] at h
     rcases List.mem_cons.mp h with h | h
     ·left; rw [h]; exact beq_self_eq_true _
     ·exact .inr h
   ·refine Ev.step (f := fun k => ak.l1 k C u X Y N (i : Int) y true ((j + 1 : Nat) : Int) a s z) (fun k => by rw [ak.l1, e1]; rw [if_pos (by omega), if_pos rfl]) ?_
    exact ih (j + 1) _ (by omega) (by omega) (.inl rfl)
  ·exact hend j has (by omega) h
include hX hY hN in
theorem Jz (hx : ∀ y ∈ X, y ∈ N) (hy : ∀ y ∈ Y, y ∈ N) (hnext : Ev (fun k => ak.l2 k C u X Y N 0 a s z) true) : ∀ (d i : Nat), X.length + Y.length ≤ i + d → i ≤ X.length + Y.length → Ev (fun k => ak.l0 k C u X Y N (i : Int) a s z) true := by
 have e0 : wrap64 ((X.length : Int) + (Y.length : Int)) = (X.length : Int) + (Y.length : Int) := by unfold wrap64; omega
 have hend : ∀ i : Nat, X.length + Y.length ≤ i → Ev (fun k => ak.l0 k C u X Y N (i : Int) a s z) true := fun i hd =>
  Ev.step (fun k => by rw [ak.l0, e0]; rw [if_neg (by omega)]) hnext
 intro d
 induction d with
 | zero => exact fun i hd _ => hend i (by omega)
 | succ d ih =>
  intro i hd hi0
  by_cases hi : i < X.length + Y.length
  ·have e1 : wrap64 ((i : Int) + 1) = ((i + 1 : Nat) : Int) := by unfold wrap64; omega
   have hgo : ∀ y, y ∈ N → Ev (fun k => ak.j3 k C u X Y N (i : Int) y a s z) true := fun y hm => by
    refine Ev.step (f := fun k => ak.l1 k C u X Y N (i : Int) y false 0 a s z) (fun k => by rw [ak.j3]) ?_
    refine row_in C u X Y N a s z hN i y ?_ N.length 0 false (by omega) (Nat.zero_le _) (.inr hm)
    rw [e1]
    exact ih (i + 1) (by omega) (by omega)
   by_cases h : i < X.length
   ·refine Ev.step (f := fun k => ak.j3 k C u X Y N (i : Int) X[i] a s z) (fun k => by rw [ak.l0, e0]; rw [if_pos (by omega), if_pos (by omega), if_pos (by omega), rdB X i h]) (hgo _ (hx _ (List.getElem_mem _)))
   ·have e2 : wrap64 ((i : Int) - (X.length : Int)) = ((i - X.length : Nat) : Int) := by unfold wrap64; omega
    have hj : i - X.length < Y.length := by omega
    refine Ev.step (f := fun k => ak.j3 k C u X Y N (i : Int) Y[i - X.length] a s z) (fun k => by rw [ak.l0, e0, e2]; rw [if_pos (by omega), if_neg (by omega), if_pos (by omega), if_pos (by omega), rdB Y _ hj]) (hgo _ (hy _ (List.getElem_mem _)))
  ·exact hend i (by omega)
include hX hY hN in
theorem Jq (hs : Ev (fun k => bK.f k a s z C) u) (hlen : N.length ≤ X.length + Y.length) (hset : gG iq N) (hf : ∀ y ∈ N, folded y) (hu : ∀ y ∈ N, jc y exA = true) : ∀ (d i : Nat), N.length ≤ i + d → i ≤ N.length → Ev (fun k => ak.l2 k C u X Y N (i : Int) a s z) true := by
 have e0 : wrap64 ((X.length : Int) + (Y.length : Int)) = (X.length : Int) + (Y.length : Int) := by unfold wrap64; omega
 have hend : ∀ i : Nat, N.length ≤ i → Ev (fun k => ak.l2 k C u X Y N (i : Int) a s z) true := by
  intro i hd
  refine Ev.step (f := fun k => (bK.f k a s z C).bind fun t => if t = u then some (decide ((N.length : Int) ≤ wrap64 ((X.length : Int) + (Y.length : Int)))) else some false) (fun k => by rw [ak.l2]; rw [if_neg (by omega)]) (Ev.bind hs ?_)
  simp only [if_true]
  rw [e0, decide_eq_true (by omega)]
  exact Ev.now _
 intro d
 induction d with
 | zero => exact fun i hd _ => hend i (by omega)
 | succ d ih =>
  intro i hd hi0
  by_cases hi : i < N.length
  ·have e1 : wrap64 ((i : Int) + 1) = ((i + 1 : Nat) : Int) := by unfold wrap64; omega
   have hi1 := ih (i + 1) (by omega) (by omega)
   have hN_i : N[i] ∈ N := List.getElem_mem _
   by_cases h0 : i = 0
   ·refine Ev.step (f := fun k => (aK.f k N[i] exA).bind fun t => if t = true then ak.l2 k C u X Y N ((i + 1 : Nat) : Int) a s z else some false) (fun k => by
     rw [ak.l2, e1]; rw [if_pos (by omega), if_pos (by omega), if_neg (show ¬ (i : Int) > 0 by omega)]
     rw [rdB N i hi]) (Ev.bind (xY _ _) ?_)
    rw [hu _ hN_i]
    simp only [if_true]
    exact hi1
   ·have e2 : wrap64 ((i : Int) - 1) = ((i - 1 : Nat) : Int) := by unfold wrap64; omega
    have hj : i - 1 < N.length := by omega
    have hlt : iq N[i - 1] N[i] < 0 := List.pairwise_iff_getElem.mp hset (i - 1) i hj hi (by omega)
    refine Ev.step (f := fun k => (aK.f k N[i] exA).bind fun t => if t = true then ((aM.f k N[i - 1] N[i]).bind fun t => if t ≥ 0 then some false else ak.l2 k C u X Y N ((i + 1 : Nat) : Int) a s z) else some false) (fun k => by
     rw [ak.l2, e1, e2]; rw [if_pos (by omega), if_pos (by omega), rdB N i hi, rdB N _ hj]
     rw [if_pos (show (i : Int) > 0 by omega), if_pos (by omega), if_pos (by omega)]) (Ev.bind (xY _ _) ?_)
    rw [hu _ hN_i]
    simp only [if_true]
    refine Ev.bind (FT (hf _ (List.getElem_mem _)).1 (hf _ hN_i).1) ?_
    simp only [if_neg (show ¬ iq N[i - 1] N[i] ≥ 0 by omega)]
    exact hi1
  ·exact hend i (by omega)
end
theorem JV (A B : List RR) (s : List RR) (z : Int) (hA : A.length ≤ 1000) (hB : B.length ≤ 1000) : Ev (fun k => ak.j1 k A B (A ++ B) (jJ exA (A ++ B)) exA s z) true := by
 have hlen : (A ++ B).length = A.length + B.length := List.length_append
 have l1 := rQ exA A
 have l2 := rQ exA B
 have l3 := rQ exA (A ++ B)
 refine Ev.step (f := fun k => (dS.f k exA s z A).bind fun x => (dS.f k exA s z B).bind fun y => (dS.f k exA s z (A ++ B)).bind fun n => ak.l0 k (A ++ B) (jJ exA (A ++ B)) x y n 0 exA s z) (fun k => by rw [ak.j1]) ?_
 refine Ev.bind (qy exA s z A (by omega)) (Ev.bind (qy exA s z B (by omega)) (Ev.bind (qy exA s z (A ++ B) (by omega)) ?_))
 have hf : ∀ y ∈ iW exA (A ++ B), folded y := fun y hy => om y ((jW y).mp hy)
 have hset : gG iq (iW exA (A ++ B)) := lN jB _
 have hin : ∀ l : List RR, (∀ y ∈ jV exA l, y ∈ jV exA (A ++ B)) → ∀ y ∈ iW exA l, y ∈ iW exA (A ++ B) := fun l h y hy => (jW y).mpr (h y ((jW y).mp hy))
 refine Jz (A ++ B) _ _ _ _ exA s z (by omega) (by omega) (by omega) (hin A fun y hy => by rw [rF]; exact List.mem_append_left _ hy) (hin B fun y hy => by rw [rF]; exact List.mem_append_right _ hy) ?_ _ 0 (Nat.le_of_eq (Nat.zero_add _).symm) (Nat.zero_le _)
 exact Jq (A ++ B) _ _ _ _ exA s z (by omega) (by omega) (by omega) (oQ exA s z (A ++ B) (by omega)) (CS exA A B) hset hf (fun y hy => Ai hy) _ 0 (Nat.le_of_eq (Nat.zero_add _).symm) (Nat.zero_le _)
theorem PrescanRow (l A B : List RR) (hm : l.length ≤ maxLen) (hs : ∀ s ∈ l, pV s) (hm2 : A.length ≤ maxLen) (hs2 : ∀ s ∈ A, pV s) (hm3 : B.length ≤ maxLen) (hs3 : ∀ s ∈ B, pV s) : ∃ k, ak.f k l A B = some true := by
 refine Ev.rounds ?_
 unfold maxLen at hm hm2 hm3
 have hoff : Ev (fun k => ak.j0 k l A B true) true := Ev.step (f := fun k => (dN.f k).bind fun t => some t) (fun k => by rw [ak.j0, if_pos rfl]) (Ev.bind vM (Ev.now _))
 unfold ak.f
 refine Ev.bind vM ?_
 simp only [if_true]
 obtain ⟨b, hb, hl⟩ := JY l (by omega)
 refine Ev.bind hb ?_
 cases b
 ·simp only [Bool.false_eq_true, if_false]; exact hoff
 have hl := hl rfl
 simp only [if_true]
 obtain ⟨b, hb, hA⟩ := rH A (by omega)
 refine Ev.bind hb ?_
 cases b
 ·simp only [Bool.false_eq_true, if_false]; exact hoff
 have hA := (hA rfl).1
 simp only [if_true]
 obtain ⟨b, hb, hB⟩ := rH B (by omega)
 refine Ev.bind hb ?_
 cases b
 ·exact hoff
 have hB := (hB rfl).1
 refine Ev.step (fun k => by rw [ak.j0, if_neg (by decide)]) (Ev.bind (Dw exA l (by omega)) ?_)
 rcases GD exA l (by omega) with ⟨s, hS, hsl, e1, e2, _⟩ | ⟨e, he, e1, e2⟩
 ·rw [e1]
  simp only [if_true, Option.bind_some, List.nil_append, List.length_nil, Nat.zero_add]
  simp only [if_pos (show A.length < 2513169434916 by omega), if_pos (show A.length + B.length < 2513169434916 by omega)]
  refine Ev.bind (oQ exA s (ru s) A (by omega)) ?_
  have hj := JV A B s (ru s) (by omega) (by omega)
  rw [zK] at hj
  by_cases h0 : jJ exA A = 0
  ·rw [if_pos h0] at hj
   simp only [h0, if_true]
   refine Ev.bind (oQ exA s (ru s) B (by omega)) ?_
   exact hj
  ·rw [if_neg h0] at hj
   simp only [if_neg h0]
   exact hj
 ·rw [e1]
  simp only [if_neg he]
  exact Ev.now _
end Go.Y.Pure
