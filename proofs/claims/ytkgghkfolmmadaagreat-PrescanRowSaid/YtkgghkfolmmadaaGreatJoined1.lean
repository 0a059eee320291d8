/- Contracts and facts that the claim's row is drawn from, each with its own conditions. -/
import Derived.Test.YtkgghkfolmmadaaGreatJoined0
import Derived.RangeFuncFrom
import Derived.RangeFuncLeaves
import Derived.RangeFuncCalls
import Derived.Shelf.Abstract
import Derived.WalkKit
import Derived.OwnWalkIn
import Derived.TacticsInMore
import Derived.LoopNIn
import Derived.LoopIn
import Derived.Test.YtkgghkfolmmadaaGreatProg
import Derived.Outline
import Derived.Lib.Hide
import Derived.Laws.BitsAllLaws
import Derived.WalkSpells
import Derived.WalkLawsBesides
import Derived.Lib.ConvBytes
import Derived.Defers
import Derived.Recover
import Derived.Laws.Pointers
import Derived.Laws.Strings
import Derived.RangeFuncBox
import Derived.Maps.AppendAt
import Derived.Tactics
import Derived.KernelRfl
import Derived.Deep.RegionLaw
import Derived.Deep.RegionWith
import Derived.Deep.DrawnRows
import Derived.Deep.LoopGhost
import Derived.Laws.Closers25b
import Derived.Below
import Derived.Deep.Draws
import Derived.Deep.AppendLies
import Derived.OwnWalk
import Derived.Laws.BytesArg
import Derived.Laws.MakeOwn
import Derived.Laws.OwnMore
import Derived.Deep.OwnRows
import Derived.Laws.Slices
import Derived.RowKit3
import Derived.Deep.QuietTactic
import Derived.BigQuiet
import Derived.WideLaws
import Derived.Deep.DeepCutAuto
import Derived.Deep.CutBlock
import Derived.Deep.RegionHeld3
import Derived.Laws.Rows
import Derived.Lib.AppendStr
import Derived.ArgAppend
import Derived.Laws.IdiomCopy
import Derived.OrdersHeld
import Derived.Laws.BitsLemmas
import Derived.RowKit
set_option linter.unusedSimpArgs false
set_option linter.unusedVariables false
set_option maxHeartbeats 8000000
set_option maxRecDepth 100000
open Go.Proofs Go.RowKit
namespace Go.Y.Box
open Go.RowKit
def Stops {α : Type} (P : Program) (n gf : Nat) (lb : Array Value) (encs : α → Array Value) (Bn : Nat) (L : List α) (w : World) : Prop :=
 ∀ (l : Nat) (J Jx : List α → World → Prop) (W : World), W.heap[Bn]? = w.heap[Bn]? →
  (∀ s A B row, J s A → A.grownBy B row → (row = none ∨ row = some Bn) → J s B) →
  (∀ pre x W1, J pre W1 → pre ++ [x] <+: L → YieldAt Fence.wide (n - 1) P l (encs x) W1 fun e W' =>
   (e = .returned (.bool true) ∧ J (pre ++ [x]) W' ∧ W'.heap[Bn]? = W1.heap[Bn]?) ∨ (e = .returned (.bool false) ∧ Jx (pre ++ [x]) W')) →
  J [] W →
  CallsIn Fence.wide n P gf (#[.func (.yield l) #[] #[]] ++ lb) W fun e W' => (∃ v, e = .returned v) ∧ (J L W' ∨ ∃ pre, pre <+: L ∧ Jx pre W')
def Left {α : Type} (Bn : Nat) (I : List α → World → Prop) (Ix : Code → List α → World → Prop) (xs : List α) (W : World) : Exit → Act → World → Prop
 | .normal, _, W' => KeepsOthers W W' ∧ W'.heap[Bn]? = W.heap[Bn]? ∧ I xs W'
 | .ret, _, W' => KeepsOthers W W' ∧ Ix .ret xs W'
 | .exit id, _, W' => KeepsOthers W W' ∧ Ix (.exit id) xs W'
 | .goto t, _, W' => KeepsOthers W W' ∧ Ix (.goto t) xs W'
 | .panic _, _, _ => False
 | .outgrown, _, _ => False
def lH {β : Type} (n0 Bn : Nat) (I : β → World → Prop) : Prop :=
 ∀ s A B row, I s A → A.grownBy B row → (∀ r, row = some r → r = Bn ∨ (n0 ≤ r ∧ ∃ o : Obj, A.heap[r]? = some o ∧ o.isCells = false)) → I s B
theorem lH.put {β : Type} {n0 Bn : Nat} {I : β → World → Prop} (h : lH n0 Bn I) {s : β} {W : World} {l : Nat} {o o' : Obj} (hs : I s W) (hl : n0 ≤ l) (ho : W.heap[l]? = some o) (hc : o.isCells = false) : I s (W.putObj l o') :=
 h s W _ (some l) hs (grownBy_putObj' W l o') (fun r e => by cases e; exact .inr ⟨hl, o, ho, hc⟩)
theorem lH.alloc {β : Type} {n0 Bn : Nat} {I : β → World → Prop} (h : lH n0 Bn I) {s : β} {W : World} (o : Obj) (hs : I s W) : I s (W.alloc o) :=
 h s W _ none hs (World.grownBy_alloc W o none) (fun r e => by cases e)
theorem rangeFunc {α : Type} {P : Program} {n : Nat} {g : Operand} {ps : Array Tmp} {assign body : Code} {Q : Exit → Act → World → Prop} {a : Act} {w : World} {gf : Nat} {lb : Array Value}
  (hg : a.eval g = .func (.func gf) #[] lb) (eg : ∀ args w, (callFunc gf args).run P w = .ok (.enter gf args) w)
  {encs : α → Array Value} (hps : ∀ x, (encs x).size = ps.size) {Bn : Nat} (hBn : Bn < w.heap.size) {L : List α} (hseq : Stops P (n - 1) gf lb encs Bn L w)
  (I : List α → World → Prop) (Ix : Code → List α → World → Prop) (hI : lH w.heap.size Bn I) (hIx : ∀ c, lH w.heap.size Bn (Ix c)) (h0 : I [] w) (a₁ : α → Act)
  (hassign : ∀ (l : Nat) (x : α) (W : World) (K : Act → World → Prop), K (a₁ x) W →
   assign.wpIn (Fence.wide.inRound l) (n - 1 - 1) P (Exit.then K (fun _ _ _ => False)) { tmps := (ps.zip (encs x)).foldl (fun t (p, v) => t.setIfInBounds p v) a.tmps, defers := [] } W)
  (hbody : ∀ (l : Nat) (pre : List α) (x : α) (W : World), I pre W → pre ++ [x] <+: L → body.wpIn (Fence.wide.inRound l) (n - 1 - 1) P (Left Bn I Ix (pre ++ [x]) W) (a₁ x) W)
  (hdone : ∀ (D : Nat) (W : World), w.heap.size ≤ D → I L W → W.heap[D]? = some (.deferred (some [])) → Q .normal { a with defers := { target := .collected D, args := #[] } :: a.defers } W)
  (hstop : ∀ (D : Nat) (c : Code) (pre : List α) (W : World), w.heap.size ≤ D → pre <+: L → Ix c pre W → W.heap[D]? = some (.deferred (some [])) → c.wpIn Fence.wide n P Q { a with defers := { target := .collected D, args := #[] } :: a.defers } W) :
  (Code.rangeFunc g ps assign body).wpIn Fence.wide n P Q a w := by
 refine wpIn_rangeFunc ?_
 intro fn hfn
 let rc : LoopState → Option Code → Obj := fun st pe => .loop { state := st, pending := pe, fn, tmps := a.tmps, params := ps, assign, body, defers := w.heap.size }
 have hrc : rc = fun st pe => .loop { state := st, pending := pe, fn, tmps := a.tmps, params := ps, assign, body, defers := w.heap.size } := rfl
 clear_value rc
 obtain ⟨V, hV⟩ : ∃ V, (w.alloc (.deferred (some []))).alloc (rc .ready none) = V := ⟨_, rfl⟩
 have v1 : V.heap[w.heap.size + 1]? = some (rc .ready none) := by
  rw [← hV]; have := World.alloc_heap_new (w.alloc (.deferred (some []))) (rc .ready none); rwa [World.size_alloc] at this
 have v2 : V.heap[w.heap.size]? = some (.deferred (some [])) := by
  rw [← hV]; exact (Below.heap_alloc _ _ _ (by simp)).trans (World.alloc_heap_new w _)
 have v3 : I [] V := by rw [← hV]; exact hI.alloc _ (hI.alloc _ h0)
 have v4 : V.heap[Bn]? = w.heap[Bn]? := by
  rw [← hV]; exact (Below.heap_alloc _ _ _ (by simp; omega)).trans (Below.heap_alloc _ _ _ hBn)
 refine ⟨w.heap.size + 1, [{ target := .collected w.heap.size, args := #[] }], V, { target := .fn (.func gf) lb, args := #[.func (.yield (w.heap.size + 1)) #[] #[]] }, V, gf,
  #[.func (.yield (w.heap.size + 1)) #[] #[]] ++ lb, V, ?_, ?_, ?_, ?_, fun h => absurd h (by simp [Fence.wide]), ?_⟩
 ·rw [← hV, hrc]; exact run_enterLoop_outer _ _ _ _ _
 ·simp only [resolve, hg]
  simp [go_sem]
 ·intro f' _; trivial
 ·simp [invoke, go_sem, eg]
 ·have keep : ∀ {A B : World} {row : Option Nat} {k : Nat}, A.grownBy B row → (row = none ∨ row = some Bn) → w.heap.size ≤ k → k < A.heap.size → B.heap[k]? = A.heap[k]? := fun hg' hr hk hlt =>
   hg'.block _ hlt (fun e => by rcases hr with h | h <;> rw [h] at e <;> cases e; omega)
  have lt_of : ∀ {A : World} {k : Nat} {o : Obj}, A.heap[k]? = some o → k < A.heap.size := fun h => (Array.getElem?_eq_some_iff.1 h).1
  refine (hseq (w.heap.size + 1)
   (fun pre W => I pre W ∧ W.heap[w.heap.size + 1]? = some (rc .ready none) ∧ W.heap[w.heap.size]? = some (.deferred (some [])))
   (fun pre W => ∃ c, Ix c pre W ∧ W.heap[w.heap.size + 1]? = some (rc .done (some c)) ∧ W.heap[w.heap.size]? = some (.deferred (some [])))
   V v4
   (fun s A B row hs hg' hr => ⟨hI s A B row hs.1 hg' (fun r e => by rcases hr with h | h <;> rw [h] at e <;> cases e; exact .inl rfl), (keep hg' hr (by omega) (lt_of hs.2.1)).trans hs.2.1, (keep hg' hr (by omega) (lt_of hs.2.2)).trans hs.2.2⟩)
   ?_ ⟨v3, v1, v2⟩).mono ?_
  ·rintro pre x W ⟨hi, hl, hk⟩ hpre
   have hl' := hl
   rw [hrc] at hl'
   refine ⟨fn, _, assign, body, run_yield (P := P) (args := encs x) hl' (hps x), roundIn_of_wpIn hfn (hassign _ x W _ ⟨_, run_beginRound hl' rfl, ?_⟩)⟩
   obtain ⟨U, hU⟩ : ∃ U, W.putObj (w.heap.size + 1) (rc .busy none) = U := ⟨_, rfl⟩
   have u1 : U.heap[w.heap.size + 1]? = some (rc .busy none) := by rw [← hU]; exact World.putObj_heap_same (lt_of hl)
   have u2 : U.heap[w.heap.size]? = some (.deferred (some [])) := by rw [← hU]; exact (World.putObj_heap_other (by omega)).trans hk
   have u3 : I pre U := by rw [← hU]; exact hI.put hi (by omega) hl (by rw [hrc]; rfl)
   have u4 : U.heap[Bn]? = W.heap[Bn]? := by rw [← hU]; exact World.putObj_heap_other (by omega)
   have hU' : W.putObj (w.heap.size + 1) (.loop { state := .busy, pending := none, fn, tmps := a.tmps, params := ps, assign, body, defers := w.heap.size }) = U := by rw [← hU, hrc]
   show body.wpIn _ _ _ _ _ (W.putObj (w.heap.size + 1) (.loop { state := .busy, pending := none, fn, tmps := a.tmps, params := ps, assign, body, defers := w.heap.size }))
   rw [hU']
   refine wpIn_mono (hbody _ pre x U u3 hpre) ?_
   have fin : ∀ (jump : Option Code) (W3 : World), KeepsOthers U W3 → ∃ W4, (Instr.endRound (w.heap.size + 1) jump).run P W3 = .ok (.bool jump.isNone) W4 ∧ W4 = W3.putObj (w.heap.size + 1) (rc (if jump.isNone then .ready else .done) jump) ∧
     W3.heap[w.heap.size + 1]? = some (rc .busy none) ∧ W4.heap[w.heap.size + 1]? = some (rc (if jump.isNone then .ready else .done) jump) ∧ W4.heap[w.heap.size]? = some (.deferred (some [])) ∧ W4.heap[Bn]? = W3.heap[Bn]? := fun jump W3 hk3 => by
    have hl3 := hk3.same _ _ u1 (by rw [hrc]; rfl)
    have hl4 := hl3
    rw [hrc] at hl4
    refine ⟨_, run_endRound (P := P) jump hl4, by rw [hrc], hl3, ?_, ?_, World.putObj_heap_other (by omega)⟩
    ·rw [World.putObj_heap_same (lt_of hl3), hrc]
    ·exact (World.putObj_heap_other (by omega)).trans (hk3.same _ _ u2 rfl)
   rintro e a3 W3 hp
   cases e with
   | normal =>
    obtain ⟨hk3, hkp3, hi3⟩ := hp
    obtain ⟨W4, hr, e4, hl3, hl4, hk4, hb4⟩ := fin none W3 hk3
    exact ⟨_, _, hr, .inl ⟨rfl, ⟨by rw [e4]; exact hI.put hi3 (by omega) hl3 (by rw [hrc]; rfl), hl4, hk4⟩, hb4.trans (hkp3.trans u4)⟩⟩
   | ret =>
    obtain ⟨hk3, hi3⟩ := hp
    obtain ⟨W4, hr, e4, hl3, hl4, hk4, hb4⟩ := fin (some .ret) W3 hk3
    exact ⟨_, _, hr, .inr ⟨rfl, .ret, by rw [e4]; exact (hIx _).put hi3 (by omega) hl3 (by rw [hrc]; rfl), hl4, hk4⟩⟩
   | exit id =>
    obtain ⟨hk3, hi3⟩ := hp
    obtain ⟨W4, hr, e4, hl3, hl4, hk4, hb4⟩ := fin (some (.exit id)) W3 hk3
    exact ⟨_, _, hr, .inr ⟨rfl, .exit id, by rw [e4]; exact (hIx _).put hi3 (by omega) hl3 (by rw [hrc]; rfl), hl4, hk4⟩⟩
   | goto t =>
    obtain ⟨hk3, hi3⟩ := hp
    obtain ⟨W4, hr, e4, hl3, hl4, hk4, hb4⟩ := fin (some (.goto t)) W3 hk3
    exact ⟨_, _, hr, .inr ⟨rfl, .goto t, by rw [e4]; exact (hIx _).put hi3 (by omega) hl3 (by rw [hrc]; rfl), hl4, hk4⟩⟩
   | panic ch => exact hp.elim
   | outgrown => exact hp.elim
  ·rintro e W2 ⟨⟨v, rfl⟩, (⟨hi, hl, hk⟩ | ⟨pre, hpre, c, hi, hl, hk⟩)⟩
   ·have hl' := hl
    rw [hrc] at hl'
    exact ⟨none, _, run_endLoop (P := P) hl' (by simp), hdone _ _ (Nat.le_refl _) (hI.put hi (by omega) hl (by rw [hrc]; rfl)) ((World.putObj_heap_other (by omega)).trans hk)⟩
   ·have hl' := hl
    rw [hrc] at hl'
    exact ⟨some c, _, run_endLoop (P := P) hl' (by simp), hstop _ c pre _ (Nat.le_refl _) hpre ((hIx c).put hi (by omega) hl (by rw [hrc]; rfl)) ((World.putObj_heap_other (by omega)).trans hk)⟩
end Go.Y.Box
namespace Go.Y.jO
open Go.Proofs.ah.av
structure Upd (S : Nat → Prop) (w w' : World) : Prop where
 os : w'.os = w.os
 tape : w'.tape = w.tape
 output : w'.output = w.output
 size : w.heap.size ≤ w'.heap.size
 block : ∀ k, k < w.heap.size → ¬ S k → w'.heap[k]? = w.heap[k]?
theorem Upd.refl (S : Nat → Prop) (w : World) : Upd S w w := ⟨rfl, rfl, rfl, Nat.le_refl _, fun _ _ _ => rfl⟩
theorem Upd.trans {S S' : Nat → Prop} {a b c : World} (h : Upd S a b) (k : Upd S' b c) (hs : ∀ i, S' i → S i ∨ a.heap.size ≤ i) : Upd S a c :=
 ⟨k.os.trans h.os, k.tape.trans h.tape, k.output.trans h.output, Nat.le_trans h.size k.size, fun i hi hn => (k.block i (Nat.lt_of_lt_of_le hi h.size) (fun h' => (hs i h').elim hn (fun h2 => by omega))).trans (h.block i hi hn)⟩
theorem Upd.mono {S S' : Nat → Prop} {a b : World} (h : Upd S a b) (hs : ∀ i, S i → S' i ∨ a.heap.size ≤ i) : Upd S' a b :=
 ⟨h.os, h.tape, h.output, h.size, fun i hi hn => h.block i hi (fun h' => (hs i h').elim hn (fun h2 => by omega))⟩
theorem Upd.of_below {S : Nat → Prop} {a b : World} (h : Below a.heap.size a b) : Upd S a b := ⟨h.os, h.tape, h.output, h.size, fun i hi _ => h.block i hi⟩
theorem Upd.below {S : Nat → Prop} {B : Nat} {a b c : World} (h : Below B a b) (k : Upd S b c) (hB : B ≤ b.heap.size) (hs : ∀ i, S i → B ≤ i) : Below B a c :=
 ⟨k.os.trans h.os, k.tape.trans h.tape, k.output.trans h.output, Nat.le_trans h.size k.size, fun i hi => (k.block i (by omega) (fun h' => by have := hs i h'; omega)).trans (h.block i hi)⟩
theorem Upd.alloc {S : Nat → Prop} {a b : World} (h : Upd S a b) (o : Obj) : Upd S a (b.alloc o) :=
 h.trans (S' := fun _ => False) (Upd.of_below (bI (Below.refl _ _) o)) (fun _ h => h.elim)
theorem Upd.drew {S : Nat → Prop} {a b : World} (h : Upd S a b) : Upd S a b.drew := ⟨h.os, h.tape, h.output, h.size, h.block⟩
theorem Upd.drewN {S : Nat → Prop} {a b : World} (h : Upd S a b) (n : Nat) : Upd S a (b.drewN n) := ⟨h.os, h.tape, h.output, h.size, h.block⟩
theorem Upd.set {S : Nat → Prop} {a b : World} (h : Upd S a b) (g j : Nat) (v : Value) (hg : S g ∨ a.heap.size ≤ g) : Upd S a (b.setCell ⟨g, j, none⟩ v) := by
 refine ⟨h.os, h.tape, h.output, by simpa using h.size, fun i hi hn => ?_⟩
 rw [Below.heap_setCell b ⟨g, j, none⟩ v i (fun e => hg.elim (fun h' => hn (e ▸ h')) (fun h' => by simp at e; omega))]
 exact h.block i hi hn
theorem Upd.heap {S : Nat → Prop} {a b : World} {g : Nat} {o : Obj} (h : Upd S a b) (hb : a.heap[g]? = some o) (hn : ¬ S g) : b.heap[g]? = some o := (h.block g (eU hb) hn).trans hb
theorem alloc_old {w : World} {g : Nat} {o o' : Obj} (h : w.heap[g]? = some o) : (w.alloc o').heap[g]? = some o := by
 rw [heap_alloc_old (h := eU h)]; exact h
theorem Upd.grown {S : Nat → Prop} {a b c : World} {row : Option Nat} (h : Upd S a b) (hg : b.grownBy c row) (hr : ∀ k, row = some k → S k ∨ a.heap.size ≤ k) : Upd S a c :=
 ⟨hg.os.trans h.os, hg.tape.trans h.tape, hg.output.trans h.output, Nat.le_trans h.size hg.size, fun i hi hn => (hg.block i (Nat.lt_of_lt_of_le hi h.size) (fun e => (hr i e.symm).elim hn (fun h2 => by omega))).trans (h.block i hi hn)⟩
end Go.Y.jO
namespace Go.Y.Oct
open Go.Proofs.ah.av Go.Y.jO
def short : List PanicEntry := [{ v := .iface 160 (.agg #[]), recovered := false }]
def Rd (w : World) (g : Nat) (b : ByteArray) : Prop := w.heap[g]? = some (.cells #[.string b] 162 (0, 0))
theorem Rd.cell {w : World} {g : Nat} {b : ByteArray} (h : Rd w g b) : w.cell? ⟨g, 0, none⟩ = some (.string b) := aG h 0
theorem Rd.free {w : World} {g : Nat} {b : ByteArray} (h : Rd w g b) : w.frozen? ⟨g, 0, none⟩ = false := bB h 0
theorem Ba (g : Nat) (b : ByteArray) (n : Int) (w : World) (hb : Rd w g b) (h0 : 0 ≤ n) (h1 : n ≤ b.size) (_hs : b.size ≤ maxLen) :
  Calls Tryz.prog 168 #[.pointer (some ⟨g, 0, none⟩), .int .i64 n] w fun e w' => e = .returned (.string (b.extract 0 n.toNat)) ∧ Rd w' g (b.extract n.toNat b.size) ∧ Upd (· = g) w w' := by
 have hc := hb.cell
 have hf := hb.free
 have hd : decide ((b.size : Int) < n) = false := decide_eq_false (by omega)
 go_enter Tryz.func168, Tryz.ntmps168
 go_wp2_with fail
 go_ret
 exact ⟨rfl, iB hb 0 _, (Upd.refl _ _).set g 0 _ (.inl rfl)⟩
theorem Dj (g : Nat) (b : ByteArray) (n : Int) (w : World) (hb : Rd w g b) (h1 : (b.size : Int) < n) :
  Calls Tryz.prog 168 #[.pointer (some ⟨g, 0, none⟩), .int .i64 n] w fun e w' => e = .panicked short ∧ Upd (· = g) w w' := by
 have hc := hb.cell
 have hd : decide ((b.size : Int) < n) = true := decide_eq_true (by omega)
 go_enter Tryz.func168, Tryz.ntmps168
 go_wp2_with fail
 exact ⟨rfl, rfl, Upd.refl _ _⟩
def beN (l : List UInt8) : Nat := l.foldl (fun v c => v * 256 + c.toNat) 0
theorem oC (l : List UInt8) (c : UInt8) : beN (l ++ [c]) = beN l * 256 + c.toNat := by unfold beN; rw [List.foldl_append]; rfl
theorem vR (l : List UInt8) : beN l < 256 ^ l.length := by
 have h : ∀ n, ∀ l : List UInt8, l.length = n → beN l < 256 ^ n := by
  intro n
  induction n with
  | zero => intro l hl; obtain rfl := List.eq_nil_of_length_eq_zero hl; simp [beN]
  | succ n ih =>
   intro l hl
   have hne : l ≠ [] := fun h => by subst h; simp at hl
   rw [← List.dropLast_concat_getLast hne, oC]
   have h1 := ih l.dropLast (by simp [hl])
   have h2 := UInt8.toNat_lt (l.getLast hne)
   rw [Nat.pow_succ]; omega
 exact h _ l rfl
theorem Jt (v c : Nat) (hv : v < 2 ^ 56) (hc : c < 256) : Go.bits .or .u64 (IntKind.u64.wrap ((v : Int) * 256)) (c : Int) = ((v * 256 + c : Nat) : Int) := by
 have e : IntKind.u64.wrap ((v : Int) * 256) = ((v * 256 : Nat) : Int) := by rw [IntKind.wrap_u64]; omega
 rw [e, Go.u64_or_nat _ _ (by omega) (by omega)]
 congr 1
 have := Nat.two_pow_add_eq_or_of_lt (i := 8) (b := c) (by omega) v
 rw [Nat.mul_comm v 256, ← this]
theorem ext_size (b : ByteArray) (m : Nat) (h : m ≤ b.size) : (b.extract 0 m).size = m := by rw [ByteArray.size_extract]; omega
theorem ext_list (b : ByteArray) (m : Nat) : (b.extract 0 m).data.toList = b.data.toList.take m := by
 simp [ByteArray.data_extract]
theorem bytes_at (b : ByteArray) (m k : Nat) (h : m ≤ b.size) (hk : k < m) : (bytesOf (b.extract 0 m))[k]?.getD 0 = (((b.data.toList.getD k 0).toNat : Nat) : Int) := by
 have hl : b.data.toList.length = b.size := lD b
 unfold bytesOf
 rw [ext_list, List.getElem?_map, List.getElem?_take, if_pos hk, List.getD_eq_getElem?_getD, List.getElem?_eq_getElem (by omega)]
 rfl
theorem Gr (l : List UInt8) (k : Nat) (hk : k < l.length) (h8 : k < 8) : Go.bits .or .u64 (IntKind.u64.wrap ((beN (l.take k) : Int) * 256)) (IntKind.u64.wrap (((l.getD k 0).toNat : Nat) : Int)) = ((beN (l.take (k + 1)) : Nat) : Int) := by
 have hc := UInt8.toNat_lt (l.getD k 0)
 rw [show IntKind.u64.wrap (((l.getD k 0).toNat : Nat) : Int) = (((l.getD k 0).toNat : Nat) : Int) from by rw [IntKind.wrap_u64]; omega]
 have h1 := vR (l.take k)
 have h2 : 256 ^ (l.take k).length ≤ 256 ^ 7 := Nat.pow_le_pow_right (by omega) (by rw [List.length_take]; omega)
 rw [Jt _ _ (by omega) (UInt8.toNat_lt _), List.take_succ_eq_append_getElem hk, oC, List.getD_eq_getElem?_getD, List.getElem?_eq_getElem hk]
 rfl
theorem FJ (b : ByteArray) (k : Nat) (hk : k < b.size) (h8 : k < 8) : Go.bits .or .u64 (IntKind.u64.wrap ((beN (b.data.toList.take k) : Int) * 256)) (IntKind.u64.wrap (((b.data[k]?.getD 0).toNat : Nat) : Int)) = ((beN (b.data.toList.take (k + 1)) : Nat) : Int) := by
 have h := Gr b.data.toList k (by rw [lD]; exact hk) h8
 rw [List.getD_eq_getElem?_getD, Array.getElem?_toList] at h
 exact h
theorem qX (g : Nat) (b : ByteArray) (n : Int) (w : World) (hb : Rd w g b) (h0 : 0 ≤ n) (h8 : n ≤ 8) (h1 : n ≤ b.size) (hs : b.size ≤ maxLen) :
  Calls Tryz.prog 167 #[.pointer (some ⟨g, 0, none⟩), .int .i64 n] w fun e w' => e = .returned (.int .u64 (beN (b.data.toList.take n.toNat))) ∧ Rd w' g (b.extract n.toNat b.size) ∧ Upd (· = g) w w' := by
 obtain ⟨m, rfl⟩ := Int.eq_ofNat_of_zero_le h0
 have hl : b.data.toList.length = b.size := lD b
 have HL := Lib.hid hl; clear hl
 rw [Int.toNat_natCast]
 have hm8 : m ≤ 8 := by omega
 have hmb : m ≤ b.size := by omega
 have kb := fun W => tZ (P := Tryz.prog) 9 101 5 Tryz.underlying9 Tryz.underlying101 Tryz.underlying5 (b.extract 0 m) W
 rw [ext_size b m hmb] at kb
 go_enter Tryz.func167, Tryz.ntmps167
 go_wp2_with fail
 refine (Ba g b m w hb h0 h1 hs).mono ?_
 rw [Int.toNat_natCast]
 rintro e w1 ⟨rfl, hb1, hu1⟩
 go_wp2_with fail
 have hlt1 := eU hb1
 go_loop [5, 13] (fun v i => ∃ k : Nat, k ≤ m ∧ i = .int .i64 k ∧ v = .int .u64 (beN (b.data.toList.take k))) (fun _ i => m - (intOf i).toNat)
 case atStart => exact ⟨0, Nat.zero_le _, rfl, rfl⟩
 case round =>
  obtain ⟨k, hk, rfl, rfl⟩ := hrel
  by_cases hlt : k < m
  ·have hc := (uo w1 5 (b.extract 0 m) (by rw [ext_size b m hmb]; omega)).2.2
   rw [ext_size b m hmb] at hc
   obtain ⟨ad, e, hc⟩ := hc (by omega)
   obtain rfl := Option.some.inj e
   clear e
   have hc2 := hc k hlt
   clear hc
   rw [add_plain, List.getD_eq_getElem?_getD, bytes_at b m k hmb hlt] at hc2
   have HN := Lib.hid (FJ b k (by omega) (by omega))
   go_wp2_with fail
   exact ⟨⟨k + 1, by omega, by go_num, by rw [HN.out]⟩, by simp [intOf]; omega⟩
  ·obtain rfl : k = m := by omega
   go_wp2_with fail
   go_ret
   exact ⟨rfl, (Lib.bytesWorld_at_old _ _ _ _ hlt1).trans hb1, hu1.trans (Upd.of_below (S := fun _ => False) (tV (Below.refl _ _) (Nat.le_refl _) _ _)) (fun _ h => h.elim)⟩
theorem su (g : Nat) (b : ByteArray) (n : Int) (w : World) (hb : Rd w g b) (h1 : (b.size : Int) < n) :
  Calls Tryz.prog 167 #[.pointer (some ⟨g, 0, none⟩), .int .i64 n] w fun e w' => e = .panicked short ∧ Upd (· = g) w w' := by
 go_enter Tryz.func167, Tryz.ntmps167
 go_wp2_with fail
 refine (Dj g b n w hb h1).mono ?_
 rintro e w1 ⟨rfl, hu1⟩
 go_wp2_with fail
 exact ⟨rfl, rfl, hu1⟩
def eu (b : ByteArray) (m : Nat) : Option (ByteArray × ByteArray) :=
 if m ≤ b.size then
  if beN (b.data.toList.take m) ≤ b.size - m then some (b.extract m (m + beN (b.data.toList.take m)), b.extract (m + beN (b.data.toList.take m)) b.size) else none
 else none
theorem Bl (b : ByteArray) (m k : Nat) (hm : m ≤ b.size) (hk : k ≤ b.size - m) : (b.extract m b.size).extract 0 k = b.extract m (m + k) ∧ (b.extract m b.size).extract k (b.size - m) = b.extract (m + k) b.size := by
 constructor
 ·apply ByteArray.ext
  simp only [ByteArray.data_extract, Array.extract_extract]
  congr 1
  have : b.data.size = b.size := rfl
  omega
 ·apply ByteArray.ext
  simp only [ByteArray.data_extract, Array.extract_extract]
  congr 1
  have : b.data.size = b.size := rfl
  omega
theorem gI (b : ByteArray) (m : Nat) : (b.extract m b.size).size = b.size - m := by rw [ByteArray.size_extract]; omega
theorem EA (g : Nat) (b : ByteArray) (n : Int) (w : World) (s r : ByteArray) (hb : Rd w g b) (h0 : 0 ≤ n) (h8 : n ≤ 4) (hs : b.size ≤ maxLen) (h : eu b n.toNat = some (s, r)) :
  Calls Tryz.prog 150 #[.pointer (some ⟨g, 0, none⟩), .int .i64 n] w fun e w' => e = .returned (.string s) ∧ Rd w' g r ∧ Upd (· = g) w w' := by
 obtain ⟨m, rfl⟩ := Int.eq_ofNat_of_zero_le h0
 rw [Int.toNat_natCast] at h
 unfold eu at h
 by_cases h1 : m ≤ b.size
 ·rw [if_pos h1] at h
  by_cases h2 : beN (b.data.toList.take m) ≤ b.size - m
  ·rw [if_pos h2] at h
   simp only [Option.some.injEq, Prod.mk.injEq] at h
   obtain ⟨rfl, rfl⟩ := h
   have h3 := Lib.hid h2
   have hd := gI b m
   have HD := Lib.hid hd; clear hd
   have HE := Lib.hid (Bl b m _ h1 h2)
   have hz : decide (IntKind.u64.wrap ((b.size - m : Nat) : Int) < (beN (b.data.toList.take m) : Int)) = false := by
    unfold maxLen at hs
    rw [IntKind.wrap_u64]; exact decide_eq_false (by omega)
   have hq : (beN (b.data.toList.take m) : Int) ≤ 9223372036854775807 := by unfold maxLen at hs; omega
   go_enter Tryz.func150, Tryz.ntmps150
   go_wp2_with fail
   refine (qX g b m w hb h0 (by omega) (by omega) hs).mono ?_
   rw [Int.toNat_natCast]
   rintro e w1 ⟨rfl, hb1, hu1⟩
   have hc := hb1.cell
   go_wp2_with fail
   refine (Ba g (b.extract m b.size) _ w1 hb1 (by omega) (by rw [HD.out]; have := h3.out; omega) (by rw [HD.out]; unfold maxLen at hs ⊢; omega)).mono ?_
   rw [Int.toNat_natCast]
   rintro e w2 ⟨rfl, hb2, hu2⟩
   rw [HD.out, HE.out.2] at hb2
   go_wp2_with fail
   go_ret
   exact ⟨by rw [HE.out.1]; rfl, hb2, hu1.trans hu2 (fun _ h => .inl h)⟩
  ·rw [if_neg h2] at h; cases h
 ·rw [if_neg h1] at h; cases h
theorem xP (g : Nat) (b : ByteArray) (n : Int) (w : World) (hb : Rd w g b) (h0 : 0 ≤ n) (h8 : n ≤ 4) (hs : b.size ≤ maxLen) (h : eu b n.toNat = none) :
  Calls Tryz.prog 150 #[.pointer (some ⟨g, 0, none⟩), .int .i64 n] w fun e w' => e = .panicked short ∧ Upd (· = g) w w' := by
 obtain ⟨m, rfl⟩ := Int.eq_ofNat_of_zero_le h0
 rw [Int.toNat_natCast] at h
 unfold eu at h
 by_cases h1 : m ≤ b.size
 ·rw [if_pos h1] at h
  by_cases h2 : beN (b.data.toList.take m) ≤ b.size - m
  ·rw [if_pos h2] at h; cases h
  ·have h3 := Lib.hid h2
   have hd := gI b m
   have HD := Lib.hid hd; clear hd
   have hz : decide (IntKind.u64.wrap ((b.size - m : Nat) : Int) < (beN (b.data.toList.take m) : Int)) = true := by
    unfold maxLen at hs
    rw [IntKind.wrap_u64]; exact decide_eq_true (by omega)
   go_enter Tryz.func150, Tryz.ntmps150
   go_wp2_with fail
   refine (qX g b m w hb h0 (by omega) (by omega) hs).mono ?_
   rw [Int.toNat_natCast]
   rintro e w1 ⟨rfl, hb1, hu1⟩
   have hc := hb1.cell
   go_wp2_with fail
   exact ⟨rfl, rfl, hu1⟩
 ·go_enter Tryz.func150, Tryz.ntmps150
  go_wp2_with fail
  refine (su g b m w hb (by omega)).mono ?_
  rintro e w1 ⟨rfl, hu1⟩
  go_wp2_with fail
  exact ⟨rfl, rfl, hu1⟩
end Go.Y.Oct
namespace Go.Y.Oct
open Go.Proofs.ah.av
def beB : Nat → Nat → List UInt8
 | 0, _ => []
 | n + 1, v => beB n (v / 256) ++ [UInt8.ofNat (v % 256)]
theorem mR : ∀ n v, (beB n v).length = n
 | 0, _ => rfl
 | n + 1, v => by rw [beB, List.length_append, mR n]; rfl
theorem uJ (v : Nat) : (UInt8.ofNat (v % 256)).toNat = v % 256 := by simp
theorem AZ : ∀ n v, beN (beB n v) = v % 256 ^ n
 | 0, v => by simp [beB, beN, Nat.mod_one]
 | n + 1, v => by
  rw [beB, oC, AZ n, uJ, Nat.pow_succ, Nat.mul_comm (256 ^ n) 256, Nat.mod_mul]
  omega
theorem KM (c : UInt8) : UInt8.ofNat (c.toNat % 256) = c := by
 apply UInt8.toNat_inj.mp; simp
theorem Ja : ∀ (n : Nat) (l : List UInt8), l.length = n → beB n (beN l) = l := by
 intro n
 induction n with
 | zero => intro l h; cases l with | nil => rfl | cons _ _ => simp at h
 | succ n ih =>
  intro l h
  have h0 : l ≠ [] := by intro h'; rw [h'] at h; simp at h
  have hd := List.dropLast_concat_getLast h0
  generalize l.getLast h0 = c at hd
  generalize hm : l.dropLast = m at hd
  have hl : m.length = n := by rw [← hm, List.length_dropLast]; omega
  rw [← hd, oC, beB]
  have := UInt8.toNat_lt c
  rw [show (beN m * 256 + c.toNat) / 256 = beN m from by omega, ih m hl, show (beN m * 256 + c.toNat) % 256 = c.toNat % 256 from by omega, KM]
def arr (l : List UInt8) : ByteArray := ⟨l.toArray⟩
theorem GQ (l : List UInt8) : (arr l).size = l.length := by simp [arr, ByteArray.size]
theorem mV (l : List UInt8) : (arr l).data.toList = l := by simp [arr]
theorem wh (b : ByteArray) : arr b.data.toList = b := by apply ByteArray.ext; simp [arr]
theorem IZ {l m : List UInt8} (h : arr l = arr m) : l = m := by rw [← mV l, h, mV]
theorem fO {a b : ByteArray} (h : a.data.toList = b.data.toList) : a = b := by rw [← wh a, h, wh]
theorem iy (a b : ByteArray) : (a ++ b).data.toList = a.data.toList ++ b.data.toList := by rw [ByteArray.data_append, Array.toList_append]
theorem bR (b : ByteArray) : b.data.toList.length = b.size := by simp
theorem jZ (b : ByteArray) (m : Nat) : (b.extract m b.size).data.toList = b.data.toList.drop m := by
 rw [ByteArray.data_extract, Array.toList_extract, List.extract_eq_take_drop]
 rw [List.take_of_length_le (by rw [List.length_drop, bR]; omega)]
theorem jk (b : ByteArray) (m k : Nat) : (b.extract m (m + k)).data.toList = (b.data.toList.drop m).take k := by
 rw [ByteArray.data_extract, Array.toList_extract, List.extract_eq_take_drop]
 rw [show m + k - m = k from by omega]
def ji (l : List UInt8) : List Int := l.map fun c => (c.toNat : Int)
theorem sN (l : List UInt8) : strOfNums (ji l) = arr l := by
 unfold strOfNums ji arr
 rw [List.map_map]
 congr 2
 have : (fun n : Int => UInt8.ofNat n.toNat) ∘ (fun c : UInt8 => (c.toNat : Int)) = id := by
  funext c; simp
 rw [this, List.map_id]
theorem rJ (l m : List UInt8) : ji (l ++ m) = ji l ++ ji m := by simp [ji]
theorem EL (l : List UInt8) : (ji l).length = l.length := by simp [ji]
theorem take_size (b : ByteArray) (m : Nat) (h : m ≤ b.size) : (b.data.toList.take m).length = m := by rw [List.length_take, bR]; omega
def jl (m : Nat) (s : ByteArray) : ByteArray := arr (beB m s.size) ++ s
theorem mK (m : Nat) (s : ByteArray) : (jl m s).data.toList = beB m s.size ++ s.data.toList := by unfold jl; rw [iy, mV]
theorem Ed (m : Nat) (s r : ByteArray) (h : s.size < 256 ^ m) : eu (jl m s ++ r) m = some (s, r) := by
 have h0 : (jl m s ++ r).data.toList = beB m s.size ++ (s.data.toList ++ r.data.toList) := by rw [iy, mK, List.append_assoc]
 have hs : (jl m s ++ r).size = m + s.size + r.size := by rw [← bR, h0]; simp only [List.length_append, mR, bR]; omega
 have ht : (jl m s ++ r).data.toList.take m = beB m s.size := by rw [h0, List.take_left' (mR _ _)]
 unfold eu
 rw [if_pos (by omega), ht, AZ, Nat.mod_eq_of_lt h, if_pos (by omega)]
 congr 2
 ·apply fO
  rw [jk, h0, List.drop_left' (mR _ _), List.take_left' (bR _)]
 ·apply fO
  rw [jZ, h0, List.drop_append, mR, List.drop_of_length_le (by rw [mR]; omega), List.nil_append, List.drop_append, bR, List.drop_of_length_le (by rw [bR]; omega), List.nil_append, show m + s.size - m - s.size = 0 from by omega, List.drop_zero]
end Go.Y.Oct
namespace Go.Y.Oct
open Go.Proofs.ah.av Go.Y.jO
theorem pO (p q : Nat) (x : ByteArray) (y : Int) (older : List PanicEntry) (w : World) (hpq : p ≠ q) (hc : w.heap[p]? = some (.cells #[.string x] 9 (0, 0))) (hd : w.heap[q]? = some (.cells #[.int .i64 y] 32 (0, 0))) :
  CallsD Tryz.prog 166 #[.pointer (some ⟨p, 0, none⟩), .pointer (some ⟨q, 0, none⟩)] (.panicking ({ v := .iface 160 (.agg #[]), recovered := false } :: older)) w fun e u' w' =>
   e = .returned (.tuple #[]) ∧ u' = .panicking ({ v := .iface 160 (.agg #[]), recovered := true } :: older) ∧ w'.heap[p]? = some (.cells #[.string ⟨#[]⟩] 9 (0, 0)) ∧ w'.heap[q]? = some (.cells #[.int .i64 2] 32 (0, 0)) ∧ Upd (fun k => k = p ∨ k = q) w w' := by
 have ha := alloc_old (o' := .cells #[] 160 (0, 0)) hc
 have hb := alloc_old (o' := .cells #[] 160 (0, 0)) hd
 have hb2 := eD hb (p := ⟨p, 0, none⟩) (by show q ≠ p; exact Ne.symm hpq) (.string ⟨#[]⟩)
 have c1 : (w.alloc (.cells #[] 160 (0, 0))).cell? ⟨p, 0, none⟩ = some (.string x) := aG ha 0
 have f1 := bB ha 0
 have c2 : ((w.alloc (.cells #[] 160 (0, 0))).setCell ⟨p, 0, none⟩ (.string ⟨#[]⟩)).cell? ⟨q, 0, none⟩ = some (.int .i64 y) := aG hb2 0
 have f2 := bB hb 0
 have e1 := iB ha 0 (.string ⟨#[]⟩)
 have e2 := eD e1 (p := ⟨q, 0, none⟩) (by show p ≠ q; exact hpq) (.int .i64 2)
 have e3 := iB hb2 0 (.int .i64 2)
 have E2 := Lib.hid e2
 have E3 := Lib.hid e3
 clear e1 e2 e3 hb2 ha hb
 have hta : ∀ W : World, (Instr.typeAssert (.iface 160 (.agg #[])) 20 160 true).run Tryz.prog W = .ok (.tuple #[.agg #[], .bool true]) W := fun W => by rfl
 have hz : ∀ W : World, (zeroValue 160).run Tryz.prog W = .ok (.agg #[]) W := fun W => by rfl
 refine callsD_of_wpS Tryz.func166 rfl fun c₀ cs hu => ?_
 apply wpS_seq
 apply wpS_region
 simp [wpOpsS, go_sem, recoverD, hu, Tryz.ntmps166, Exit.thenS]
 apply wpS_of_wp
 go_wp2_with fail
 exact ⟨rfl, _, rfl, .tuple #[], by simp [results, Tryz.results166, go_sem], rfl, rfl, E2.out, E3.out, (((Upd.refl _ _).alloc _).set p 0 _ (.inl (.inl rfl))).set q 0 _ (.inl (.inr rfl))⟩
theorem qx (p q : Nat) (w : World) :
  CallsD Tryz.prog 166 #[.pointer (some ⟨p, 0, none⟩), .pointer (some ⟨q, 0, none⟩)] .returning w fun e u' w' => e = .returned (.tuple #[]) ∧ u' = .returning ∧ w = w' := by
 refine callsD_of_wpS Tryz.func166 rfl fun c₀ cs hu => ?_
 apply wpS_seq
 apply wpS_region
 simp [wpOpsS, go_sem, recoverD, hu, Tryz.ntmps166, Exit.thenS]
 apply wpS_of_wp
 go_wp2_with fail
 exact ⟨rfl, _, by rw [← hu], .tuple #[], by simp [results, Tryz.results166, go_sem], rfl, rfl, rfl⟩
theorem three {w : World} (o1 o2 o3 : Obj) : (((w.alloc o1).alloc o2).alloc o3).heap[w.heap.size]? = some o1 ∧ (((w.alloc o1).alloc o2).alloc o3).heap[w.heap.size + 1]? = some o2 ∧ (((w.alloc o1).alloc o2).alloc o3).heap[w.heap.size + 2]? = some o3 := by
 have h1 : (w.alloc o1).heap[w.heap.size]? = some o1 := heap_alloc_new _ _
 have h2 := heap_alloc2_new w o1 o2
 have h3 := heap_alloc2_new (w.alloc o1) o2 o3
 exact ⟨alloc_old (alloc_old h1), alloc_old h2, by simpa using h3⟩
theorem AX {w : World} {a : Addr} {v : Value} (o1 o2 o3 : Obj) (h : w.cell? a = some v) : (((w.alloc o1).alloc o2).alloc o3).cell? a = some v := by
 have hl := World.block_lt_of_cell? w a h
 rw [World.cell?_alloc_lt _ _ _ (by simp; omega), World.cell?_alloc_lt _ _ _ (by simp; omega), World.cell?_alloc_lt _ _ _ hl, h]
theorem wO {S : Nat → Prop} {Q : World → Prop} {w w1 : World} {v0 v1 : Value} {t1 t2 : TypeId} (x y : Value) (h1 : w1.heap[w.heap.size]? = some (.cells #[v0] t1 (0, 0))) (h2 : (w1.setCell ⟨w.heap.size, 0, none⟩ x).heap[w.heap.size + 1]? = some (.cells #[v1] t2 (0, 0)))
  (hq : Q w1) (hQ : ∀ a b, Upd (fun k => k = w.heap.size ∨ k = w.heap.size + 1) a b → Q a → Q b) (hu : Upd S w w1) :
  ((w1.setCell ⟨w.heap.size, 0, none⟩ x).setCell ⟨w.heap.size + 1, 0, none⟩ y).cell? ⟨w.heap.size, 0, none⟩ = some x ∧ ((w1.setCell ⟨w.heap.size, 0, none⟩ x).setCell ⟨w.heap.size + 1, 0, none⟩ y).cell? ⟨w.heap.size + 1, 0, none⟩ = some y ∧
  Q ((w1.setCell ⟨w.heap.size, 0, none⟩ x).setCell ⟨w.heap.size + 1, 0, none⟩ y) ∧ Upd S w ((w1.setCell ⟨w.heap.size, 0, none⟩ x).setCell ⟨w.heap.size + 1, 0, none⟩ y) := by
 refine ⟨?_, ?_, hQ _ _ (((Upd.refl _ _).set _ 0 _ (.inl (.inl rfl))).set _ 0 _ (.inl (.inr rfl))) hq, (hu.set _ 0 _ (.inr (Nat.le_refl _))).set _ 0 _ (.inr (by omega))⟩
 ·rw [World.cell?_setCell_other _ _ _ _ (fun e => by have := congrArg Addr.block e; simp at this)]
  exact aG (iB h1 0 x) 0
 ·exact aG (iB h2 0 y) 0
def W3 (w : World) (b : ByteArray) : World := ((w.alloc (.cells #[.string ⟨#[]⟩] 9 (0, 0))).alloc (.cells #[.int .i64 0] 32 (0, 0))).alloc (.cells #[.string b] 162 (0, 0))
theorem nE (w : World) (b : ByteArray) (S : Nat → Prop) : Upd S w (W3 w b) := (((Upd.refl _ _).alloc _).alloc _).alloc _
theorem qw {w : World} (b : ByteArray) {g : Nat} {o : Obj} (h : w.heap[g]? = some o) : (W3 w b).heap[g]? = some o := alloc_old (alloc_old (alloc_old h))
theorem Br {w : World} (b : ByteArray) {a : Addr} {v : Value} (h : w.cell? a = some v) : (W3 w b).cell? a = some v := AX _ _ _ h
theorem yN (w : World) (b : ByteArray) : Rd (W3 w b) (w.heap.size + 1 + 1) b := (three _ _ _).2.2
theorem BU {w : World} (o1 o2 : Obj) : ((w.alloc o1).alloc o2).heap[w.heap.size]? = some o1 ∧ ((w.alloc o1).alloc o2).heap[w.heap.size + 1]? = some o2 := ⟨alloc_old (heap_alloc_new _ _), heap_alloc2_new _ _ _⟩
theorem xk (w : World) (b : ByteArray) : (W3 w b).heap.size = w.heap.size + 3 := by unfold W3; simp
end Go.Y.Oct
namespace Go.Y.Oct
open Go.Proofs.ah.av Go.Y.jO
theorem IQ (g gn gs : Nat) (b s r x : ByteArray) (n : Int) (w : World) (hb : Rd w g b) (hn : w.cell? ⟨gn, 0, none⟩ = some (.int .i64 n)) (hx : w.heap[gs]? = some (.cells #[.string x] 9 (0, 0))) (hg : g ≠ gs) (h0 : 0 ≤ n) (h8 : n ≤ 4) (hs : b.size ≤ maxLen) (h : eu b n.toNat = some (s, r)) :
  Calls Tryz.prog 149 #[.pointer (some ⟨g, 0, none⟩), .pointer (some ⟨gn, 0, none⟩), .pointer (some ⟨gs, 0, none⟩)] w fun e w' => e = .returned (.tuple #[]) ∧ Rd w' g r ∧ w'.heap[gs]? = some (.cells #[.string s] 9 (0, 0)) ∧ Upd (fun k => k = g ∨ k = gs) w w' := by
 have H := Lib.hid h; clear h
 go_enter Tryz.func149, Tryz.ntmps149
 go_wp2_with fail
 refine (EA g b n w s r hb h0 h8 hs H.out).mono ?_
 rintro e w1 ⟨rfl, hb1, hu1⟩
 have hx1 := hu1.heap hx (fun e => hg e.symm)
 have c1 : w1.cell? ⟨gs, 0, none⟩ = some (.string x) := aG hx1 0
 have f1 := bB hx1 0
 go_wp2_with fail
 go_end0
 exact ⟨rfl, eD hb1 (by show g ≠ gs; exact hg) _, iB hx1 0 _, (hu1.mono (fun i h => .inl (.inl h))).set gs 0 _ (.inl (.inr rfl))⟩
theorem Di (g gn gs : Nat) (b : ByteArray) (n : Int) (w : World) (hb : Rd w g b) (hn : w.cell? ⟨gn, 0, none⟩ = some (.int .i64 n)) (h0 : 0 ≤ n) (h8 : n ≤ 4) (hs : b.size ≤ maxLen) (h : eu b n.toNat = none) :
  Calls Tryz.prog 149 #[.pointer (some ⟨g, 0, none⟩), .pointer (some ⟨gn, 0, none⟩), .pointer (some ⟨gs, 0, none⟩)] w fun e w' => e = .panicked short ∧ Upd (fun k => k = g ∨ k = gs) w w' := by
 have H := Lib.hid h; clear h
 go_enter Tryz.func149, Tryz.ntmps149
 go_wp2_with fail
 refine (xP g b n w hb h0 h8 hs H.out).mono ?_
 rintro e w1 ⟨rfl, hu1⟩
 go_wp2_with fail
 exact ⟨rfl, rfl, hu1.mono (fun i h => .inl (.inl h))⟩
theorem wU (c1 c2 : Value) (b r : ByteArray) (S : Nat → Prop) (Q : World → Prop) (w : World) (hS : ∀ k, S k → k < w.heap.size) (hQ : ∀ a b, Upd (fun k => k = w.heap.size ∨ k = w.heap.size + 1) a b → Q a → Q b)
  (hcl : Hid (Calls Tryz.prog 149 #[.pointer (some ⟨w.heap.size + 1 + 1, 0, none⟩), c1, c2] (W3 w b) fun e w' => e = .returned (.tuple #[]) ∧ Rd w' (w.heap.size + 1 + 1) r ∧ Q w' ∧ Upd (fun k => k = w.heap.size + 1 + 1 ∨ S k) (W3 w b) w')) :
  Calls Tryz.prog 148 #[.string b, .func (.func 149) #[] #[c1, c2]] w fun e w' => e = .returned (.tuple #[.string r, .int .i64 0]) ∧ Q w' ∧ Upd S w w' := by
 have hmf : ∀ (fn : Fn) (first cap : Array Value) (w : World), (Instr.makeFunc fn first cap).run Tryz.prog w = .ok (.func fn first cap) w := fun _ _ _ _ => rfl
 have HS := Lib.hid hS; clear hS
 have HQ := Lib.hid hQ; clear hQ
 go_enter_defers Tryz.func148, Tryz.ntmps148
 go_wp2_with fail
 refine hcl.out.mono ?_
 rintro e w1 ⟨rfl, hb1, hq1, hu1⟩
 have s1 := hu1.heap (three _ _ _).1 (fun h => h.elim (fun h => by omega) (fun h => by have := HS.out _ h; omega))
 have s2 := hu1.heap (three _ _ _).2.1 (fun h => h.elim (fun h => by omega) (fun h => by have := HS.out _ h; omega))
 have c1 : w1.cell? ⟨w.heap.size + 1 + 1, 0, none⟩ = some (.string r) := hb1.cell
 have c2 : w1.cell? ⟨w.heap.size, 0, none⟩ = some (.string ⟨#[]⟩) := aG s1 0
 have f2 := bB s1 0
 have s3 := eD s2 (p := ⟨w.heap.size, 0, none⟩) (by show w.heap.size + 1 ≠ w.heap.size; omega) (.string r)
 have c3 : (w1.setCell ⟨w.heap.size, 0, none⟩ (.string r)).cell? ⟨w.heap.size + 1, 0, none⟩ = some (.int .i64 0) := aG s3 0
 have f3 := bB s2 0
 have S1 := Lib.hid s1; clear s1
 have S3 := Lib.hid s3; clear s3
 clear s2
 have HX := Lib.hid hq1; clear hq1
 have HU := Lib.hid ((nE w b S).trans hu1 (fun i h => h.elim (fun h => .inr (by omega)) .inl)); clear hu1
 go_wp2_with fail
 have hr := wO (v0 := .string ⟨#[]⟩) (v1 := .int .i64 0) (.string r) (.int .i64 0) S1.out S3.out HX.out HQ.out HU.out
 generalize (w1.setCell ⟨w.heap.size, 0, none⟩ (.string r)).setCell ⟨w.heap.size + 1, 0, none⟩ (.int .i64 0) = W at hr
 obtain ⟨r1, r2, r3, r4⟩ := hr
 refine leaves_cons (f := 166) (args := #[.pointer (some ⟨w.heap.size, 0, none⟩), .pointer (some ⟨w.heap.size + 1, 0, none⟩)]) (by simp) (by simp [go_sem]) ?_
 refine (qx _ _ _).mono ?_
 rintro e u' w'' ⟨rfl, rfl, rfl⟩
 have R3 := Lib.hid r3
 clear r3
 simp [Leaves, settle, results, Tryz.results148, go_sem, r1, r2]
 exact ⟨R3.out, r4⟩
theorem tT (c1 c2 : Value) (b : ByteArray) (S : Nat → Prop) (w : World) (hS : ∀ k, S k → k < w.heap.size)
  (hcl : Hid (Calls Tryz.prog 149 #[.pointer (some ⟨w.heap.size + 1 + 1, 0, none⟩), c1, c2] (W3 w b) fun e w' => e = .panicked short ∧ Upd (fun k => k = w.heap.size + 1 + 1 ∨ S k) (W3 w b) w')) :
  Calls Tryz.prog 148 #[.string b, .func (.func 149) #[] #[c1, c2]] w fun e w' => e = .returned (.tuple #[.string ⟨#[]⟩, .int .i64 2]) ∧ Upd S w w' := by
 have hmf : ∀ (fn : Fn) (first cap : Array Value) (w : World), (Instr.makeFunc fn first cap).run Tryz.prog w = .ok (.func fn first cap) w := fun _ _ _ _ => rfl
 have HS := Lib.hid hS; clear hS
 go_enter_defers Tryz.func148, Tryz.ntmps148
 go_wp2_with fail
 refine hcl.out.mono ?_
 rintro e w1 ⟨rfl, hu1⟩
 have s1 := hu1.heap (three _ _ _).1 (fun h => h.elim (fun h => by omega) (fun h => by have := HS.out _ h; omega))
 have s2 := hu1.heap (three _ _ _).2.1 (fun h => h.elim (fun h => by omega) (fun h => by have := HS.out _ h; omega))
 have S1 := Lib.hid s1; clear s1
 have S2 := Lib.hid s2; clear s2
 have HU := Lib.hid ((nE w b S).trans hu1 (fun i h => h.elim (fun h => .inr (by omega)) .inl)); clear hu1
 go_wp2_with fail
 refine leaves_cons (f := 166) (args := #[.pointer (some ⟨w.heap.size, 0, none⟩), .pointer (some ⟨w.heap.size + 1, 0, none⟩)]) (by simp) (by simp [go_sem]) ?_
 refine (pO w.heap.size (w.heap.size + 1) ⟨#[]⟩ 0 [] w1 (by omega) S1.out S2.out).mono ?_
 rintro e u' w2 ⟨rfl, rfl, r1, r2, r4⟩
 have r1 : w2.cell? ⟨w.heap.size, 0, none⟩ = some (.string ⟨#[]⟩) := aG r1 0
 have r2 : w2.cell? ⟨w.heap.size + 1, 0, none⟩ = some (.int .i64 2) := aG r2 0
 have R4 := Lib.hid (HU.out.trans r4 (fun i h => .inr (by omega))); clear r4
 simp [Leaves, settle, results, Tryz.results148, go_sem, r1, r2]
 exact R4.out
theorem lU (n : Int) (w : World) (x : Bool) (h : decide (n = 1 ∨ n = 2 ∨ n = 4) = x) : Calls Tryz.prog 147 #[.int .i64 n] w fun e w' => e = .returned (.bool x) ∧ w = w' := by
 subst h
 by_cases h1 : n = 1
 ·subst h1; go_enter Tryz.func147, Tryz.ntmps147; go_wp2; go_ret; exact ⟨by simp, rfl⟩
 by_cases h2 : n = 2
 ·subst h2; go_enter Tryz.func147, Tryz.ntmps147; go_wp2; go_ret; exact ⟨by simp, rfl⟩
 by_cases h4 : n = 4
 ·subst h4; go_enter Tryz.func147, Tryz.ntmps147; go_wp2; go_ret; exact ⟨by simp, rfl⟩
 have e1 : (n == 1) = false := beq_eq_false_iff_ne.mpr h1
 have e2 : (n == 2) = false := beq_eq_false_iff_ne.mpr h2
 have e4 : (n == 4) = false := beq_eq_false_iff_ne.mpr h4
 go_enter Tryz.func147, Tryz.ntmps147
 go_wp2
 go_ret
 exact ⟨by simp [h1, h2, h4], rfl⟩
theorem JC (b : ByteArray) (n : Int) (w : World) (h : decide (n = 1 ∨ n = 2 ∨ n = 4) = false) :
  Calls Tryz.prog 117 #[.string b, .int .i64 n] w fun e w' => e = .returned (.tuple #[.string ⟨#[]⟩, .string ⟨#[]⟩, .int .i64 1]) ∧ Below w.heap.size w w' := by
 have H := Lib.hid h; clear h
 go_enter Tryz.func117, Tryz.ntmps117
 go_wp2_with fail
 refine (lU n _ false H.out).mono ?_
 rintro e w1 ⟨rfl, rfl⟩
 go_wp2_with fail
 go_ret3
 exact ⟨rfl, bI (Below.refl _ _) _⟩
theorem Fw (b : ByteArray) (n : Int) (w : World) (h : decide (n = 1 ∨ n = 2 ∨ n = 4) = true) (hs : b.size ≤ maxLen) (hc : eu b n.toNat = none) :
  Calls Tryz.prog 117 #[.string b, .int .i64 n] w fun e w' => e = .returned (.tuple #[.string ⟨#[]⟩, .string ⟨#[]⟩, .int .i64 2]) ∧ Below w.heap.size w w' := by
 have hmf : ∀ (fn : Fn) (first cap : Array Value) (w : World), (Instr.makeFunc fn first cap).run Tryz.prog w = .ok (.func fn first cap) w := fun _ _ _ _ => rfl
 have hn : 0 ≤ n ∧ n ≤ 4 := by have := of_decide_eq_true h; omega
 obtain ⟨n0, n4⟩ := hn
 have H := Lib.hid h; clear h
 have HC := Lib.hid hc; clear hc
 go_enter Tryz.func117, Tryz.ntmps117
 go_wp2_with fail
 refine (lU n _ true H.out).mono ?_
 rintro e w1 ⟨rfl, rfl⟩
 go_wp2_with fail
 obtain ⟨t1, t2⟩ := BU (w := w) (.cells #[.int .i64 n] 3 (0, 0)) (.cells #[.string ⟨#[]⟩] 9 (0, 0))
 have hcl := Di ((w.heap.size + 2) + 1 + 1) w.heap.size (w.heap.size + 1) b n (W3 ((w.alloc (.cells #[.int .i64 n] 3 (0, 0))).alloc (.cells #[.string ⟨#[]⟩] 9 (0, 0))) b) (by have := yN ((w.alloc (.cells #[.int .i64 n] 3 (0, 0))).alloc (.cells #[.string ⟨#[]⟩] 9 (0, 0))) b; simpa using this) (Br b (aG t1 0)) n0 n4 hs HC.out
 refine (tT _ _ b (· = w.heap.size + 1) _ (fun k hk => by simp; omega) (Lib.hid (by simpa using hcl))).mono ?_
 rintro e w2 ⟨rfl, hu⟩
 have hbl : Below w.heap.size w w2 := hu.below (bI (bI (Below.refl _ _) _) _) (by simp; omega) (fun i h => by omega)
 go_wp2_with fail
 go_ret3
 exact ⟨rfl, hbl⟩
theorem JX (b s r : ByteArray) (n : Int) (w : World) (h : decide (n = 1 ∨ n = 2 ∨ n = 4) = true) (hs : b.size ≤ maxLen) (hc : eu b n.toNat = some (s, r)) :
  Calls Tryz.prog 117 #[.string b, .int .i64 n] w fun e w' => e = .returned (.tuple #[.string s, .string r, .int .i64 0]) ∧ Below w.heap.size w w' := by
 have hmf : ∀ (fn : Fn) (first cap : Array Value) (w : World), (Instr.makeFunc fn first cap).run Tryz.prog w = .ok (.func fn first cap) w := fun _ _ _ _ => rfl
 have hn : 0 ≤ n ∧ n ≤ 4 := by have := of_decide_eq_true h; omega
 obtain ⟨n0, n4⟩ := hn
 have H := Lib.hid h; clear h
 have HC := Lib.hid hc; clear hc
 go_enter Tryz.func117, Tryz.ntmps117
 go_wp2_with fail
 refine (lU n _ true H.out).mono ?_
 rintro e w1 ⟨rfl, rfl⟩
 go_wp2_with fail
 obtain ⟨t1, t2⟩ := BU (w := w) (.cells #[.int .i64 n] 3 (0, 0)) (.cells #[.string ⟨#[]⟩] 9 (0, 0))
 have hcl := IQ ((w.heap.size + 2) + 1 + 1) w.heap.size (w.heap.size + 1) b s r ⟨#[]⟩ n (W3 ((w.alloc (.cells #[.int .i64 n] 3 (0, 0))).alloc (.cells #[.string ⟨#[]⟩] 9 (0, 0))) b) (by have := yN ((w.alloc (.cells #[.int .i64 n] 3 (0, 0))).alloc (.cells #[.string ⟨#[]⟩] 9 (0, 0))) b; simpa using this) (Br b (aG t1 0)) (qw b t2) (by omega) n0 n4 hs HC.out
 refine (wU _ _ b r (· = w.heap.size + 1) (fun W => W.heap[w.heap.size + 1]? = some (.cells #[.string s] 9 (0, 0))) _ (fun k hk => by simp; omega) (fun A B hab hA => hab.heap hA (by simp)) (Lib.hid (by simpa using hcl))).mono ?_
 rintro e w2 ⟨rfl, hq, hu⟩
 have hbl : Below w.heap.size w w2 := hu.below (bI (bI (Below.refl _ _) _) _) (by simp; omega) (fun i h => by omega)
 have cq : w2.cell? ⟨w.heap.size + 1, 0, none⟩ = some (.string s) := aG hq 0
 clear hq
 go_wp2_with fail
 go_ret3
 exact ⟨rfl, hbl⟩
end Go.Y.Oct
namespace Go.Y.Given
open Go.Proofs.ah.av Go.Y.Oct
def gD.f (a0 : ByteArray) (a1 : Int) : Option (ByteArray × ByteArray × Int) :=
 if a0.size ≤ 9223372036854775807 then
  if a1 = 1 ∨ a1 = 2 ∨ a1 = 4 then
   match eu a0 a1.toNat with
   | some (s, r) => some (s, r, 0)
   | none => some (⟨#[]⟩, ⟨#[]⟩, 2)
  else some (⟨#[]⟩, ⟨#[]⟩, 1)
 else none
theorem gD.calls (a0 : ByteArray) (a1 : Int) (r1 r2 : ByteArray) (r3 : Int) (w : World) (h : gD.f a0 a1 = some (r1, r2, r3)) :
  Calls Tryz.prog 117 #[.string a0, .int .i64 a1] w fun e w' => e = .returned (.tuple #[.string r1, .string r2, .int .i64 r3]) ∧ Below w.heap.size w w' := by
 unfold gD.f at h
 by_cases hs : a0.size ≤ 9223372036854775807
 ·rw [if_pos hs] at h
  by_cases hw : a1 = 1 ∨ a1 = 2 ∨ a1 = 4
  ·rw [if_pos hw] at h
   cases hc : eu a0 a1.toNat with
   | none =>
    rw [hc] at h
    simp only [Option.some.injEq, Prod.mk.injEq] at h
    obtain ⟨rfl, rfl, rfl⟩ := h
    exact Fw a0 a1 w (decide_eq_true hw) hs hc
   | some x =>
    obtain ⟨s, r⟩ := x
    rw [hc] at h
    simp only [Option.some.injEq, Prod.mk.injEq] at h
    obtain ⟨rfl, rfl, rfl⟩ := h
    exact JX a0 s r a1 w (decide_eq_true hw) hs hc
  ·rw [if_neg hw] at h
   simp only [Option.some.injEq, Prod.mk.injEq] at h
   obtain ⟨rfl, rfl, rfl⟩ := h
   exact JC a0 a1 w (decide_eq_false hw)
 ·rw [if_neg hs] at h; cases h
end Go.Y.Given
namespace Go.Y.Name
open Go.Shelf Go.Proofs.ah.av Go.Y.Oct Go.Y.jO Go.Y.Given Go.Y.Box
attribute [local go_sem] Oper.semAt_some
def fT : ByteArray := ⟨#[0]⟩
def eH : Nat → ByteArray → List (ByteArray × ByteArray)
 | 0, _ => []
 | k + 1, n => if n = fT then [] else
  match eu n 1 with
  | some (s, r) => if s.size = 0 ∨ 63 < s.size then [] else (s, r) :: eH k r
  | none => []
theorem qM {n s r : ByteArray} (h : eu n 1 = some (s, r)) : r.size < n.size := by
 unfold eu at h
 split at h
 ·split at h
  ·simp only [Option.some.injEq, Prod.mk.injEq] at h
   obtain ⟨_, rfl⟩ := h
   rw [gI]; omega
  ·exact absurd h (by simp)
 ·exact absurd h (by simp)
theorem xU : ∀ (k : Nat) (n : ByteArray), n.size ≤ k → eH (k + 1) n = eH k n
 | 0, n, h => by
  rw [eH, eH]
  split
  ·rfl
  ·unfold eu; rw [if_neg (by omega)]
 | k + 1, n, h => by
  rw [eH, eH]
  split
  ·rfl
  ·cases hc : eu n 1 with
   | none => rfl
   | some x =>
    obtain ⟨s, r⟩ := x
    have := qM hc
    simp only []
    rw [xU k r (by omega)]
theorem Bu (n : ByteArray) : ∀ j, eH (n.size + j) n = eH n.size n
 | 0 => rfl
 | j + 1 => by rw [← Nat.add_assoc, xU _ n (by omega), Bu n j]
theorem sZ (n : ByteArray) (k : Nat) (h : n.size ≤ k) : eH k n = eH n.size n := by
 have := Bu n (k - n.size)
 rwa [show n.size + (k - n.size) = k from by omega] at this
theorem oO {n s r : ByteArray} (hn : ¬ n = fT) (hc : eu n 1 = some (s, r)) (hs : ¬ (s.size = 0 ∨ 63 < s.size)) : eH n.size n = (s, r) :: eH r.size r := by
 have := qM hc
 rw [← sZ n (n.size - 1 + 1) (by omega), eH, if_neg hn, hc]
 simp only []
 rw [if_neg hs, sZ r _ (by omega)]
theorem rU {n : ByteArray} (hn : n = fT) : eH n.size n = [] := by
 subst hn; rfl
theorem pF {n : ByteArray} (hc : eu n 1 = none) : eH n.size n = [] := by
 rw [← sZ n (n.size + 1) (by omega), eH]
 split
 ·rfl
 ·rw [hc]
theorem oH {n s r : ByteArray} (hc : eu n 1 = some (s, r)) (hs : s.size = 0 ∨ 63 < s.size) : eH n.size n = [] := by
 rw [← sZ n (n.size + 1) (by omega), eH]
 split
 ·rfl
 ·rw [hc]; simp only []; rw [if_pos hs]
theorem tF {n : ByteArray} {l : List UInt8} (h : ¬ n = ⟨l.toArray⟩) : (n.toList == l) = false := by
 rw [beq_eq_false_iff_ne, ByteArray.toList_eq]
 exact fun e => h (by apply fO; rw [e])
def zi (Bn : Nat) (w : World) : Nat := match w.cell? ⟨Bn, 0, none⟩ with | some (.string s) => s.size | _ => 0
theorem xK {Bn : Nat} {w : World} {n : ByteArray} (h : w.cell? ⟨Bn, 0, none⟩ = some (.string n)) : zi Bn w = n.size := by unfold zi; rw [h]
theorem below_grown {w w' : World} (h : Below w.heap.size w w') : w.grownBy w' none := ⟨h.os, h.tape, h.output, h.size, fun k hk _ => h.block k hk⟩
theorem uM {n : ByteArray} (hs : n.size ≤ 9223372036854775807) (hc : eu n 1 = none) : gD.f n 1 = some (⟨#[]⟩, ⟨#[]⟩, 2) := by
 unfold gD.f; rw [if_pos hs, if_pos (.inl rfl)]
 show (match eu n 1 with | some (s, r) => some (s, r, (0 : Int)) | none => some (⟨#[]⟩, ⟨#[]⟩, 2)) = _
 rw [hc]
theorem zl {n s r : ByteArray} (hs : n.size ≤ 9223372036854775807) (hc : eu n 1 = some (s, r)) : gD.f n 1 = some (s, r, 0) := by
 unfold gD.f; rw [if_pos hs, if_pos (.inl rfl)]
 show (match eu n 1 with | some (s, r) => some (s, r, (0 : Int)) | none => some (⟨#[]⟩, ⟨#[]⟩, 2)) = _
 rw [hc]
theorem JI (l Bn : Nat) (n0 : ByteArray) (J Jx : List (ByteArray × ByteArray) → World → Prop)
  (hJ : ∀ s A B row, J s A → A.grownBy B row → (row = none ∨ row = some Bn) → J s B)
  (hY : ∀ pre x W1, J pre W1 → pre ++ [x] <+: eH n0.size n0 → YieldAt Fence.wide 1 Tryz.prog l #[.string x.1, .string x.2] W1 fun e W' =>
   (e = .returned (.bool true) ∧ J (pre ++ [x]) W' ∧ W'.heap[Bn]? = W1.heap[Bn]?) ∨ (e = .returned (.bool false) ∧ Jx (pre ++ [x]) W'))
  (W : World) (hBn : W.heap[Bn]? = some (.cells #[.string n0] 9 (0, 0))) (hs : n0.size ≤ maxLen) (h0 : J [] W) :
  CallsIn Fence.wide 2 Tryz.prog 116 #[.func (.yield l) #[] #[], .pointer (some ⟨Bn, 0, none⟩)] W fun e W' => (∃ v, e = .returned v) ∧
   (J (eH n0.size n0) W' ∨ ∃ pre, pre <+: eH n0.size n0 ∧ Jx pre W') := by
 refine callsIn_of_wp Tryz.func116 rfl trivial ?_ rfl
 simp only [Tryz.ntmps116, List.size_toArray, List.length_cons, List.length_nil, Nat.reduceAdd, Nat.reduceSub, Array.replicate_succ, Array.replicate_zero, List.push_toArray, List.append_toArray, List.nil_append, List.cons_append]
 gi_wp2
 gi_loopw [] (fun wr => ∃ (pre : List (ByteArray × ByteArray)) (n : ByteArray), wr.heap[Bn]? = some (.cells #[.string n] 9 (0, 0)) ∧ n.size ≤ maxLen ∧ eH n0.size n0 = pre ++ eH n.size n ∧ J pre wr)
  (fun wr => zi Bn wr)
 case atStart => exact ⟨[], n0, hBn, hs, rfl, h0⟩
 case round =>
  obtain ⟨pre, n, hb, hns, hL, hJs⟩ := hrel
  have hc : wr.cell? ⟨Bn, 0, none⟩ = some (.string n) := aG hb 0
  have hf := bB hb 0
  by_cases hr : n = fT
  ·subst hr
   unfold fT at hc
   gi_wp2
   go_end0
   refine ⟨⟨_, rfl⟩, .inl ?_⟩
   rw [hL, rU rfl, List.append_nil]; exact hJs
  ·have t1 : (n.toList == [0]) = false := tF hr
   cases hcut : eu n 1 with
   | none =>
    have hq := uM hns hcut
    gi_wp2_with (refine ⟨trivial, ?_⟩; gi_at_call 117; refine (callsIn_wide.2 (gD.calls n 1 _ _ _ _ hq)).mono ?_; rintro e w' ⟨rfl, hb1⟩)
    refine bodyPost_ret (results_none rfl _ _ _) rfl ?_
    refine ⟨⟨_, rfl⟩, .inl ?_⟩
    rw [hL, pF hcut, List.append_nil]; exact hJ _ _ _ _ hJs (below_grown hb1) (.inl rfl)
   | some x =>
    obtain ⟨s, r⟩ := x
    have hq := zl hns hcut
    by_cases hbad : s.size = 0 ∨ 63 < s.size
    ·by_cases hz : s.size = 0
     ·have t2 : (s.toList == []) = true := by rw [ByteArray.toList_eq, List.length_eq_zero_iff.mp ((bR s).trans hz)]; rfl
      gi_wp2_with (refine ⟨trivial, ?_⟩; gi_at_call 117; refine (callsIn_wide.2 (gD.calls n 1 _ _ _ _ hq)).mono ?_; rintro e w' ⟨rfl, hb1⟩)
      refine bodyPost_ret (results_none rfl _ _ _) rfl ?_
      refine ⟨⟨_, rfl⟩, .inl ?_⟩
      rw [hL, oH hcut hbad, List.append_nil]; exact hJ _ _ _ _ hJs (below_grown hb1) (.inl rfl)
     ·have t2 : (s.toList == []) = false := tF (l := []) (fun h => hz (by rw [h]; rfl))
      have t3 : decide (63 < (s.size : Int)) = true := decide_eq_true (by omega)
      have t4 : decide (63 < s.size) = true := decide_eq_true (by omega)
      gi_wp2_with (refine ⟨trivial, ?_⟩; gi_at_call 117; refine (callsIn_wide.2 (gD.calls n 1 _ _ _ _ hq)).mono ?_; rintro e w' ⟨rfl, hb1⟩)
      refine bodyPost_ret (results_none rfl _ _ _) rfl ?_
      refine ⟨⟨_, rfl⟩, .inl ?_⟩
      rw [hL, oH hcut hbad, List.append_nil]; exact hJ _ _ _ _ hJs (below_grown hb1) (.inl rfl)
    ·have t2 : (s.toList == []) = false := tF (l := []) (fun h => hbad (.inl (by rw [h]; rfl)))
     have t3 : decide (63 < (s.size : Int)) = false := decide_eq_false (by omega)
     have t4 : decide (63 < s.size) = false := decide_eq_false (by omega)
     have hl := oO hr hcut hbad
     have hless := qM hcut
     gi_wp2_with (refine ⟨trivial, ?_⟩; gi_at_call 117; refine (callsIn_wide.2 (gD.calls n 1 _ _ _ _ hq)).mono ?_; rintro e w' ⟨rfl, hb1⟩; have hb2 := (hb1.block Bn (eU hb)).trans hb; have hc2 : w'.cell? ⟨Bn, 0, none⟩ = some (.string n) := aG hb2 0; have hf2 := bB hb2 0; have hb3 := iB hb2 0 (.string r); have hJ2 := hJ _ _ _ (some Bn) (hJ _ _ _ _ hJs (below_grown hb1) (.inl rfl)) (grownBy_setCell' w' Bn (.string r)) (.inr rfl); obtain ⟨fn, tmps, assign, body, hy, hR⟩ := hY pre (s, r) (w'.setCell ⟨Bn, 0, none⟩ (.string r)) hJ2 ⟨eH r.size r, by rw [hL, hl, List.append_assoc]; rfl⟩; dsimp only at hy; have hc3 : (w'.setCell ⟨Bn, 0, none⟩ (.string r)).cell? ⟨Bn, 0, none⟩ = some (.string r) := aG hb3 0)
     refine hR.mono ?_
     rintro e W3 (⟨rfl, hJ3, hk3⟩ | ⟨rfl, hJx3⟩)
     ·have hb4 := hk3.trans hb3
      gi_wp2
      go_roundw
      case rel => exact ⟨pre ++ [(s, r)], r, hb4, by omega, by rw [hL, hl, List.append_assoc]; rfl, hJ3⟩
      case measure => rw [xK (aG hb4 0), xK hc]; exact hless
     ·gi_wp2
      refine bodyPost_ret (results_none rfl _ _ _) rfl ?_
      exact ⟨⟨_, rfl⟩, .inr ⟨pre ++ [(s, r)], ⟨eH r.size r, by rw [hL, hl, List.append_assoc]; rfl⟩, hJx3⟩⟩
theorem stops (Bn : Nat) (n0 : ByteArray) (w : World) (hBn : w.heap[Bn]? = some (.cells #[.string n0] 9 (0, 0))) (hs : n0.size ≤ maxLen) :
  Stops Tryz.prog 2 116 #[.pointer (some ⟨Bn, 0, none⟩)] (fun x : ByteArray × ByteArray => #[.string x.1, .string x.2]) Bn (eH n0.size n0) w :=
 fun l J Jx W hW hJ hY h0 => JI l Bn n0 J Jx hJ hY W (hW.trans hBn) hs h0
theorem sO (n : ByteArray) (w : World) :
  CallsIn Fence.wide 2 Tryz.prog 83 #[.string n] w fun e w' => e = .returned (.func (.func 116) #[] #[.pointer (some ⟨w.heap.size, 0, none⟩)]) ∧ w' = w.alloc (.cells #[.string n] 9) := by
 refine callsIn_of_wp Tryz.func83 rfl trivial ?_ rfl
 simp only [Tryz.ntmps83, List.size_toArray, List.length_cons, List.length_nil, Nat.reduceAdd, Nat.reduceSub, Array.replicate_succ, Array.replicate_zero, List.push_toArray, List.append_toArray, List.nil_append, List.cons_append]
 gi_wp2
 go_ret
 exact ⟨rfl, rfl⟩
def iQ (n : ByteArray) (pre : List (ByteArray × ByteArray)) : ByteArray := match pre.getLast? with | some x => x.2 | none => n
theorem vC (n : ByteArray) (pre : List (ByteArray × ByteArray)) (x : ByteArray × ByteArray) : iQ n (pre ++ [x]) = x.2 := by unfold iQ; simp
theorem nC {n0 Bn g : Nat} {f : List (ByteArray × ByteArray) → Value} {t : TypeId} (hg : g ≠ Bn) : lH n0 Bn (fun pre W => W.heap[g]? = some (.cells #[f pre] t (0, 0))) := fun s A B row hs hgr hr =>
 (hgr.block g (eU hs) (fun e => by rcases hr g e.symm with h | ⟨_, o, ho, hc⟩; exact hg h; rw [hs] at ho; cases ho; cases hc)).trans hs
theorem ni {n0 Bn B : Nat} {w : World} (hB : B ≤ w.heap.size) (h0 : B ≤ n0) (hBn : B ≤ Bn) : lH n0 Bn (fun (_ : List (ByteArray × ByteArray)) W => Below B w W) := fun s A _ row hs hgr hr =>
 hs.grown hgr (Nat.le_trans hB hs.size) (fun k e => by rcases hr k e with h | ⟨h, _⟩ <;> omega)
theorem jI {β : Type} {n0 Bn : Nat} {I I' : β → World → Prop} (h : lH n0 Bn I) (h' : lH n0 Bn I') : lH n0 Bn (fun s W => I s W ∧ I' s W) := fun s A B row hs hg hr => ⟨h s A B row hs.1 hg hr, h' s A B row hs.2 hg hr⟩
theorem AV (n : ByteArray) (w : World) (hs : n.size ≤ 255) (b : Bool) (hb : ((iQ n (eH n.size n)).toList == [0]) = b) :
  Calls Tryz.prog 47 #[.string n] w fun e w' => e = .returned (.bool b) ∧ Below w.heap.size w w' := by
 refine (callsIn_wide (n := 3)).1 ?_
 have t1 : decide (255 < (n.size : Int)) = false := decide_eq_false (by omega)
 have t2 : decide (255 < n.size) = false := decide_eq_false (by omega)
 refine callsIn_of_wp_marks Tryz.func47 rfl trivial ?_ rfl
 simp only [Tryz.ntmps47, List.size_toArray, List.length_cons, List.length_nil, Nat.reduceAdd, Nat.reduceSub, Array.replicate_succ, Array.replicate_zero, List.push_toArray, List.append_toArray, List.nil_append, List.cons_append]
 gi_wp2_with (refine ⟨trivial, ?_⟩; gi_at_call 83; refine (sO n _).mono ?_; rintro e w' ⟨rfl, rfl⟩)
 have hB0 : Below w.heap.size w ((w.alloc (.cells #[.string n] 9)).alloc (.cells #[.string n] 9)) := ((Below.refl _ w).alloc (Nat.le_refl _) _).alloc (by simp) _
 have b1 : ((w.alloc (.cells #[.string n] 9)).alloc (.cells #[.string n] 9)).heap[w.heap.size]? = some (.cells #[.string n] 9 (0, 0)) := gU (jU w _) _
 have b2 : ((w.alloc (.cells #[.string n] 9)).alloc (.cells #[.string n] 9)).heap[w.heap.size + 1]? = some (.cells #[.string n] 9 (0, 0)) := by
  have := jU (w.alloc (.cells #[.string n] 9)) (.cells #[.string n] 9); rwa [World.size_alloc] at this
 refine Box.rangeFunc (gf := 116) (lb := #[.pointer (some ⟨w.heap.size + 1, 0, none⟩)]) rfl (enters_of Tryz.func116 (by kernel_rfl) rfl) (fun _ => rfl) (Bn := w.heap.size + 1) (by simp)
  (stops (w.heap.size + 1) n _ b2 (by unfold maxLen; omega))
  (fun pre W => W.heap[w.heap.size]? = some (.cells #[.string (iQ n pre)] 9 (0, 0)) ∧ Below w.heap.size w W)
  (fun _ _ _ => False)
  (jI (nC (f := fun pre => .string (iQ n pre)) (by omega)) (ni (Nat.le_refl _) (by simp; omega) (by omega)))
  (fun _ _ _ _ _ hs _ _ => hs.elim)
  ⟨b1, hB0⟩
  (fun x => { tmps := #[.string n, undef, .bool false, .pointer (some ⟨w.heap.size, 0, none⟩), undef, .string x.2, .string n, .int .i64 (n.size : Int), .bool false, .string n, .string n, .func (.func 116) #[] #[.pointer (some ⟨w.heap.size + 1, 0, none⟩)], .string x.1, .string x.2, undef, undef, undef], defers := [] }) ?assign ?body ?done ?stop
 case assign =>
  intro l x W K hK
  gi_wp2
  exact hK
 case body =>
  rintro l pre x W ⟨hb1, hB⟩ hpre
  have hc : W.cell? ⟨w.heap.size, 0, none⟩ = some (.string (iQ n pre)) := aG hb1 0
  have hf := bB hb1 0
  gi_wp2
  refine ⟨KeepsOthers.setCell _ _ _, Below.heap_setCell _ _ _ _ (by simp), ?_, hB.setCell (p := ⟨w.heap.size, 0, none⟩) (Nat.le_refl _) _⟩
  rw [vC]; exact iB hb1 0 _
 case done =>
  rintro D W hD ⟨hb1, hB⟩ hK
  have hc : W.cell? ⟨w.heap.size, 0, none⟩ = some (.string (iQ n (eH n.size n))) := aG hb1 0
  gi_wp2
  refine ⟨by simp, .inl ⟨_, _, rfl, run_takeDeferred hK, ?_⟩⟩
  exact ⟨_, results_tmp rfl _ _ _, rfl, hB.trans (belowK_b (w := w) (Nat.le_refl _) W D _ _ (by simp at hD; omega) hK rfl rfl)⟩
 case stop =>
  rintro D c pre W _ _ h _
  exact h.elim
theorem Dp (n : ByteArray) (w : World) (hs : 255 < n.size) : Calls Tryz.prog 47 #[.string n] w fun e w' => e = .returned (.bool false) ∧ w = w' := by
 have t1 : decide (255 < (n.size : Int)) = true := decide_eq_true (by omega)
 have t2 : decide (255 < n.size) = true := decide_eq_true (by omega)
 go_enter Tryz.func47, Tryz.ntmps47
 go_wp2
 go_ret
 exact ⟨rfl, rfl⟩
def bC (n : ByteArray) : Bool := decide (n.size ≤ 255) && ((iQ n (eH n.size n)).toList == [0])
theorem iA (n : ByteArray) (w : World) : Calls Tryz.prog 47 #[.string n] w fun e w' => e = .returned (.bool (bC n)) ∧ Below w.heap.size w w' := by
 by_cases hs : n.size ≤ 255
 ·refine AV n w hs _ ?_
  unfold bC; rw [decide_eq_true hs, Bool.true_and]
 ·refine (Dp n w (by omega)).mono fun e w' ⟨he, hw⟩ => ⟨?_, by rw [← hw]; exact Below.refl _ _⟩
  rw [he]; unfold bC; rw [decide_eq_false hs, Bool.false_and]
end Go.Y.Name
namespace Go.Y.Name
open Go.Shelf Go.Proofs.ah.av Go.Y.Oct Go.Y.jO Go.Y.Given Go.Y.Box
attribute [local go_sem] Oper.semAt_some
theorem Fg (n : ByteArray) (w : World) (hr : bC n = false) :
  Calls Tryz.prog 121 #[.string n] w fun e w' => e = .returned (.tuple #[.string ⟨#[]⟩, .bool false]) ∧ Below w.heap.size w w' := by
 have hq := fun W => iA n W
 rw [hr] at hq
 go_enter Tryz.func121, Tryz.ntmps121
 go_wp2_with fail
 refine (hq _).mono ?_
 rintro e w1 ⟨rfl, hb1⟩
 have c1 : w1.heap[w.heap.size]? = some (.cells #[.string ⟨#[]⟩] 9 (0, 0)) := aI (gU (jU w _) _) hb1
 have c2 : w1.heap[w.heap.size + 1]? = some (.cells #[.bool false] 4 (0, 0)) := aI (by have := jU (w.alloc (.cells #[.string ⟨#[]⟩] 9)) (.cells #[.bool false] 4); rwa [World.size_alloc] at this) hb1
 have d1 : w1.cell? ⟨w.heap.size, 0, none⟩ = some (.string ⟨#[]⟩) := aG c1 0
 have d2 : w1.cell? ⟨w.heap.size + 1, 0, none⟩ = some (.bool false) := aG c2 0
 have f1 := bB c1 0
 have f2 := bB c2 0
 go_wp2_with fail
 have s1 := iB c1 0 (.string ⟨#[]⟩)
 have s2 := eD c2 (p := ⟨w.heap.size, 0, none⟩) (by show w.heap.size + 1 ≠ w.heap.size; omega) (.string ⟨#[]⟩)
 have s3 := eD s1 (p := ⟨w.heap.size + 1, 0, none⟩) (by show w.heap.size ≠ w.heap.size + 1; omega) (.bool false)
 have s4 := iB s2 0 (.bool false)
 have g1 := aG s3 0
 have g2 := aG s4 0
 refine bodyPost_ret (v := .tuple #[.string ⟨#[]⟩, .bool false]) ?_ rfl ⟨rfl, ?_⟩
 ·simp [results, Tryz.f121, go_sem, g1, g2]
 ·have h0 : Below w.heap.size w ((w.alloc (.cells #[.string ⟨#[]⟩] 9)).alloc (.cells #[.bool false] 4)) := ((Below.refl _ w).alloc (Nat.le_refl _) _).alloc (by simp) _
  exact ((h0.trans (hb1.mono (by simp; omega))).setCell (p := ⟨w.heap.size, 0, none⟩) (Nat.le_refl _) _).setCell (p := ⟨w.heap.size + 1, 0, none⟩) (by simp) _
theorem CG (n : ByteArray) (R : ByteArray × Bool) (w : World) (hr : bC n = true) (hs : n.size ≤ maxLen) (hL : (match eH n.size n with | x :: _ => (x.2, true) | [] => (⟨#[]⟩, false)) = R) :
  Calls Tryz.prog 121 #[.string n] w fun e w' => e = .returned (.tuple #[.string R.1, .bool R.2]) ∧ Below w.heap.size w w' := by
 have hq := fun W => iA n W
 rw [hr] at hq
 refine (callsIn_wide (n := 3)).1 ?_
 refine callsIn_of_wp_marks Tryz.func121 rfl trivial ?_ rfl
 simp only [Tryz.ntmps121, List.size_toArray, List.length_cons, List.length_nil, Nat.reduceAdd, Nat.reduceSub, Array.replicate_succ, Array.replicate_zero, List.push_toArray, List.append_toArray, List.nil_append, List.cons_append]
 gi_wp2_with (first | (refine ⟨trivial, ?_⟩; gi_at_call 47; refine (callsIn_wide.2 (hq _)).mono ?_; rintro e w1 ⟨rfl, hb1⟩) | (refine ⟨trivial, ?_⟩; gi_at_call 83; refine (sO n _).mono ?_; rintro e w' ⟨rfl, rfl⟩))
 have hz : w.heap.size + 1 + 1 ≤ w1.heap.size := by have := hb1.size; simp at this; omega
 have h0 : Below w.heap.size w ((w.alloc (.cells #[.string ⟨#[]⟩] 9)).alloc (.cells #[.bool false] 4)) := ((Below.refl _ w).alloc (Nat.le_refl _) _).alloc (by simp) _
 have hB0 : Below w.heap.size w (w1.alloc (.cells #[.string n] 9)) := (h0.trans (hb1.mono (by simp; omega))).alloc (by omega) _
 have c1 : (w1.alloc (.cells #[.string n] 9)).heap[w.heap.size]? = some (.cells #[.string ⟨#[]⟩] 9 (0, 0)) := gU (aI (gU (jU w _) _) hb1) _
 have c2 : (w1.alloc (.cells #[.string n] 9)).heap[w.heap.size + 1]? = some (.cells #[.bool false] 4 (0, 0)) := gU (aI (by have := jU (w.alloc (.cells #[.string ⟨#[]⟩] 9)) (.cells #[.bool false] 4); rwa [World.size_alloc] at this) hb1) _
 have b2 : (w1.alloc (.cells #[.string n] 9)).heap[w1.heap.size]? = some (.cells #[.string n] 9 (0, 0)) := jU w1 _
 refine Box.rangeFunc (gf := 116) (lb := #[.pointer (some ⟨w1.heap.size, 0, none⟩)]) rfl (enters_of Tryz.func116 (by kernel_rfl) rfl) (fun _ => rfl) (Bn := w1.heap.size) (by simp)
  (stops w1.heap.size n _ b2 hs)
  (fun pre W => (W.heap[w.heap.size]? = some (.cells #[.string ⟨#[]⟩] 9 (0, 0)) ∧ W.heap[w.heap.size + 1]? = some (.cells #[.bool false] 4 (0, 0)) ∧ Below w.heap.size w W) ∧ pre = [])
  (fun c pre W => (W.heap[w.heap.size]? = some (.cells #[.string (iQ n pre)] 9 (0, 0)) ∧ W.heap[w.heap.size + 1]? = some (.cells #[.bool true] 4 (0, 0)) ∧ Below w.heap.size w W) ∧ c = .ret ∧ ∃ x, pre = [x])
  (jI (jI (nC (f := fun _ => .string ⟨#[]⟩) (by omega)) (jI (nC (f := fun _ => .bool false) (by omega)) (ni (Nat.le_refl _) (by simp; omega) (by omega)))) (fun _ _ _ _ h _ _ => h))
  (fun c => jI (jI (nC (f := fun pre => .string (iQ n pre)) (by omega)) (jI (nC (f := fun _ => .bool true) (by omega)) (ni (Nat.le_refl _) (by simp; omega) (by omega)))) (fun _ _ _ _ h _ _ => h))
  ⟨⟨c1, c2, hB0⟩, rfl⟩
  (fun x => { tmps := #[.string n, undef, .pointer (some ⟨w.heap.size, 0, none⟩), .pointer (some ⟨w.heap.size + 1, 0, none⟩), undef, .string x.2, .string n, .bool true, .bool false, .string n, .func (.func 116) #[] #[.pointer (some ⟨w1.heap.size, 0, none⟩)], .string x.1, .string x.2, undef], defers := [] }) ?assign ?body ?done ?stop
 case assign =>
  intro l x W K hK
  gi_wp2
  exact hK
 case body =>
  rintro l pre x W ⟨⟨e1, e2, hB⟩, rfl⟩ hpre
  have d1 : W.cell? ⟨w.heap.size, 0, none⟩ = some (.string ⟨#[]⟩) := aG e1 0
  have d2 : W.cell? ⟨w.heap.size + 1, 0, none⟩ = some (.bool false) := aG e2 0
  have f1 := bB e1 0
  have f2 := bB e2 0
  gi_wp2
  refine ⟨(KeepsOthers.setCell _ _ _).trans (KeepsOthers.setCell _ _ _), ⟨?_, ?_, (hB.setCell (p := ⟨w.heap.size, 0, none⟩) (Nat.le_refl _) _).setCell (p := ⟨w.heap.size + 1, 0, none⟩) (by simp) _⟩, rfl, x, rfl⟩
  ·rw [vC]; exact eD (iB e1 0 _) (p := ⟨w.heap.size + 1, 0, none⟩) (by show w.heap.size ≠ w.heap.size + 1; omega) _
  ·exact iB (eD e2 (p := ⟨w.heap.size, 0, none⟩) (by show w.heap.size + 1 ≠ w.heap.size; omega) _) 0 _
 case done =>
  rintro D W hD ⟨⟨e1, e2, hB⟩, hnil⟩ hK
  rw [hnil] at hL
  subst hL
  have d1 : W.cell? ⟨w.heap.size, 0, none⟩ = some (.string ⟨#[]⟩) := aG e1 0
  have d2 : W.cell? ⟨w.heap.size + 1, 0, none⟩ = some (.bool false) := aG e2 0
  have f1 := bB e1 0
  have f2 := bB e2 0
  gi_wp2
  have hne1 : D ≠ w.heap.size := fun h => by rw [h, e1] at hK; cases hK
  have hne2 : D ≠ w.heap.size + 1 := fun h => by rw [h, e2] at hK; cases hK
  have s1 := iB e1 0 (.string ⟨#[]⟩)
  have s2 := eD e2 (p := ⟨w.heap.size, 0, none⟩) (by show w.heap.size + 1 ≠ w.heap.size; omega) (.string ⟨#[]⟩)
  have s3 := eD s1 (p := ⟨w.heap.size + 1, 0, none⟩) (by show w.heap.size ≠ w.heap.size + 1; omega) (.bool false)
  have s4 := iB s2 0 (.bool false)
  have hK' := ((KeepsOthers.setCell W ⟨w.heap.size, 0, none⟩ (.string ⟨#[]⟩)).trans (KeepsOthers.setCell _ ⟨w.heap.size + 1, 0, none⟩ (.bool false))).same D _ hK rfl
  refine ⟨by simp, .inl ⟨_, _, rfl, run_takeDeferred hK', ?_⟩⟩
  have g1 := aG ((World.putObj_heap_other (w := (W.setCell ⟨w.heap.size, 0, none⟩ (.string ⟨#[]⟩)).setCell ⟨w.heap.size + 1, 0, none⟩ (.bool false)) (r := D) (o := .deferred none) (by omega)).trans s3) 0
  have g2 := aG ((World.putObj_heap_other (w := (W.setCell ⟨w.heap.size, 0, none⟩ (.string ⟨#[]⟩)).setCell ⟨w.heap.size + 1, 0, none⟩ (.bool false)) (r := D) (o := .deferred none) (by omega)).trans s4) 0
  refine ⟨.tuple #[.string ⟨#[]⟩, .bool false], ?_, rfl, ((hB.setCell (p := ⟨w.heap.size, 0, none⟩) (Nat.le_refl _) _).setCell (p := ⟨w.heap.size + 1, 0, none⟩) (by simp) _).trans (belowK_b (w := w) (Nat.le_refl _) _ D _ _ (by simp at hD; omega) hK' rfl rfl)⟩
  simp [results, Tryz.f121, go_sem, g1, g2]
 case stop =>
  rintro D c pre W hD hpre ⟨⟨e1, e2, hB⟩, rfl, x, rfl⟩ hK
  obtain ⟨t, ht⟩ := hpre
  rw [← ht] at hL
  simp only [List.cons_append, List.nil_append] at hL
  subst hL
  gi_wp2
  refine ⟨by simp, .inl ⟨_, _, rfl, run_takeDeferred hK, ?_⟩⟩
  have hne1 : D ≠ w.heap.size := fun h => by rw [h, e1] at hK; cases hK
  have hne2 : D ≠ w.heap.size + 1 := fun h => by rw [h, e2] at hK; cases hK
  have g1 := aG ((World.putObj_heap_other (w := W) (r := D) (o := .deferred none) (by omega)).trans e1) 0
  have g2 := aG ((World.putObj_heap_other (w := W) (r := D) (o := .deferred none) (by omega)).trans e2) 0
  refine ⟨_, ?_, rfl, hB.trans (belowK_b (w := w) (Nat.le_refl _) W D _ _ (by simp at hD; omega) hK rfl rfl)⟩
  simp [results, Tryz.f121, go_sem, g1, g2, iQ]
def nZ (n : ByteArray) : ByteArray × Bool := if bC n = true then (match eH n.size n with | x :: _ => (x.2, true) | [] => (⟨#[]⟩, false)) else (⟨#[]⟩, false)
theorem CO (n : ByteArray) (w : World) : Calls Tryz.prog 121 #[.string n] w fun e w' => e = .returned (.tuple #[.string (nZ n).1, .bool (nZ n).2]) ∧ Below w.heap.size w w' := by
 by_cases hr : bC n = true
 ·have hs : n.size ≤ maxLen := by
   unfold bC at hr
   have := of_decide_eq_true (Bool.and_eq_true_iff.mp hr).1
   unfold maxLen; omega
  refine CG n _ w hr hs ?_
  unfold nZ; rw [if_pos hr]
 ·have := Fg n w (Bool.eq_false_iff.mpr hr)
  unfold nZ; rw [if_neg hr]; exact this
end Go.Y.Name
namespace Go.Y.Name
open Go.Shelf Go.Proofs.ah.av Go.Y.Oct Go.Y.jO Go.Y.Given Go.Y.Box
attribute [local go_sem] Oper.semAt_some
theorem yY : ∀ (k : Nat) (n : ByteArray), (eH k n).length ≤ k
 | 0, n => Nat.le_refl _
 | k + 1, n => by
  rw [eH]
  split
  ·simp
  ·cases hc : eu n 1 with
   | none => simp
   | some x =>
    obtain ⟨s, r⟩ := x
    simp only []
    split
    ·simp
    ·have := yY k r
     simp only [List.length_cons]; omega
def strs (pre : List (ByteArray × ByteArray)) : List Value := pre.map fun x => .string x.1
theorem JN : (Tryz.prog.info? 9).map (fun i => (i.zero, i.size, i.bytes)) = some (some (.string ⟨#[]⟩), 1, 16) := by kernel_rfl
def Held (G b : Nat) (pre : List (ByteArray × ByteArray)) (W : World) : Prop :=
 ∃ v, W.heap[G]? = some (.cells #[v] 43 (0, 0)) ∧ W.ownsRow b 9 1 v pre.length (strs pre)
theorem CV {n0 Bn G b : Nat} (hG : G ≠ Bn) (hb : Bn < b) : lH n0 Bn (Held G b) := by
 rintro s A B row ⟨v, h1, h2⟩ hgr hr
 refine ⟨v, (hgr.block G (eU h1) (fun e => ?_)).trans h1, h2.kept hgr ?_⟩
 ·rcases hr G e.symm with h | ⟨_, o, ho, hc⟩
  ·exact hG h
  ·rw [h1] at ho; cases ho; cases hc
 ·rcases h2.2 with ⟨rfl, _⟩ | ⟨g, cap, cur, rfl, hbg, hgb, _⟩
  ·exact .inl rfl
  ·refine .inr fun e => ?_
   rcases hr g (by simpa [Value.ownBlock] using e.symm) with h | ⟨_, o, ho, hc⟩
   ·omega
   ·rw [hgb] at ho; cases ho; cases hc
theorem Ho {W : World} {b b' e k : Nat} {v : Value} {xs : List Value} (h : W.ownsRow b e 1 v k xs) (hb : b' ≤ b) : W.ownsRow b' e 1 v k xs := by
 refine ⟨h.1, ?_⟩
 rcases h.2 with h' | ⟨g, cap, cur, e1, e2, e3⟩
 ·exact .inl h'
 ·exact .inr ⟨g, cap, cur, e1, Nat.le_trans hb e2, e3⟩
theorem nG {W : World} {b e k : Nat} {v : Value} {xs : List Value} (h : W.ownsRow b e 1 v k xs) {g : Nat} (hg : v.ownBlock = some g) : b ≤ g ∧ ∃ cur, W.heap[g]? = some (.cells cur e (0, 0)) := by
 rcases h.2 with ⟨rfl, _⟩ | ⟨g', cap, cur, rfl, hbg, hgb, _⟩
 ·simp [Value.ownBlock] at hg
 ·obtain rfl : g' = g := by simpa [Value.ownBlock] using hg
  exact ⟨hbg, cur, hgb⟩
theorem Eh (n : ByteArray) (w : World) (hr : bC n = false) :
  Calls Tryz.prog 101 #[.string n] w fun e w' => e = .returned (.tuple #[.slice none 0 0, .int .i64 2]) ∧ Below w.heap.size w w' := by
 have hq := fun W => iA n W
 rw [hr] at hq
 go_enter Tryz.func101, Tryz.ntmps101
 go_wp2_with fail
 refine (hq _).mono ?_
 rintro e w1 ⟨rfl, hb1⟩
 go_wp2_with fail
 go_ret2
 exact ⟨rfl, hb1⟩
theorem Dr (n : ByteArray) (w : World) (hr : bC n = true) (hs : n.size ≤ 255) :
  Calls Tryz.prog 101 #[.string n] w fun e w' => ∃ v, e = .returned (.tuple #[v, .int .i64 0]) ∧ w'.ownsRow w.heap.size 9 1 v (eH n.size n).length (strs (eH n.size n)) ∧ Below w.heap.size w w' := by
 have hq := fun W => iA n W
 rw [hr] at hq
 obtain ⟨i0, hi, hz0, hz1, hz2⟩ := info_parts JN
 refine (callsIn_wide (n := 3)).1 ?_
 refine callsIn_of_wp_marks Tryz.func101 rfl trivial ?_ rfl
 simp only [Tryz.ntmps101, List.size_toArray, List.length_cons, List.length_nil, Nat.reduceAdd, Nat.reduceSub, Array.replicate_succ, Array.replicate_zero, List.push_toArray, List.append_toArray, List.nil_append, List.cons_append]
 gi_wp2_with (first | (refine ⟨trivial, ?_⟩; gi_at_call 47; refine (callsIn_wide.2 (hq _)).mono ?_; rintro e w1 ⟨rfl, hb1⟩) | (refine ⟨trivial, ?_⟩; gi_at_call 83; refine (sO n _).mono ?_; rintro e w' ⟨rfl, rfl⟩))
 obtain ⟨G, hG⟩ : ∃ G, w1.heap.size = G := ⟨_, rfl⟩
 have hz : w.heap.size ≤ G := hG ▸ hb1.size
 rw [hG]
 have hB0 : Below w.heap.size w ((w1.alloc (.cells #[.slice none 0 0] 43)).alloc (.cells #[.string n] 9)) := (hb1.alloc (by omega) _).alloc (by simp; omega) _
 have c1 : ((w1.alloc (.cells #[.slice none 0 0] 43)).alloc (.cells #[.string n] 9)).heap[G]? = some (.cells #[.slice none 0 0] 43 (0, 0)) := by rw [← hG]; exact gU (jU w1 _) _
 have b2 : ((w1.alloc (.cells #[.slice none 0 0] 43)).alloc (.cells #[.string n] 9)).heap[G + 1]? = some (.cells #[.string n] 9 (0, 0)) := by
  have := jU (w1.alloc (.cells #[.slice none 0 0] 43)) (.cells #[.string n] 9); rw [World.size_alloc, hG] at this; exact this
 refine Box.rangeFunc (gf := 116) (lb := #[.pointer (some ⟨G + 1, 0, none⟩)]) rfl (enters_of Tryz.func116 (by kernel_rfl) rfl) (fun _ => rfl) (Bn := G + 1) (by simp; omega)
  (stops (G + 1) n _ b2 (by unfold maxLen; omega))
  (fun pre W => Held G (G + 1 + 1) pre W ∧ Below w.heap.size w W ∧ G + 1 + 1 ≤ W.heap.size)
  (fun _ _ _ => False)
  (jI (CV (by omega) (by omega)) (jI (ni (Nat.le_refl _) (by simp; omega) (by omega)) (fun _ _ _ _ h hg _ => Nat.le_trans h hg.size)))
  (fun _ _ _ _ _ hs _ _ => hs.elim)
  ⟨⟨_, c1, World.ownsRow_nil _ _ _ _⟩, hB0, by simp; omega⟩
  (fun x => { tmps := #[.string n, undef, .slice none 0 0, .int .i64 0, .pointer (some ⟨G, 0, none⟩), .string x.1, .string n, .bool true, .bool false, .string n, .func (.func 116) #[] #[.pointer (some ⟨G + 1, 0, none⟩)], .string x.1, .string x.2, undef, undef, undef, undef, undef], defers := [] }) ?assign ?body ?done ?stop
 case assign =>
  intro l x W K hK
  gi_wp2
  exact hK
 case body =>
  rintro l pre x W ⟨⟨v, hb2, hrow⟩, hB, hsz⟩ hpre
  have hc : W.cell? ⟨G, 0, none⟩ = some v := aG hb2 0
  have hlen : pre.length < 256 := by
   have h1 := hpre.length_le
   have h2 := yY n.size n
   simp only [List.length_append, List.length_cons, List.length_nil] at h1
   omega
  gi_wp2_with (gi_at_builtin; refine wpListIn_append_own _ rfl _ _ 43 rfl (G + 1 + 1) 9 i0 (.string ⟨#[]⟩) 1 16 Tryz.underlying43 hi hz0 hz1 hz2 rfl (by decide) _ _ _ rfl (hrow.alloc _) ⟨W.heap.size, 0, none⟩ 1 1 [.string x.1] rfl rfl (cell_one_new _ _ _) (by simp [Value.oneCell']) (by unfold maxLen; omega) (by omega) (by simp; omega) ?_; intro v' w2 hown' hgrow _; obtain ⟨g', cap', rfl⟩ := ownsRow_succ hown'; have hb3 : w2.heap[G]? = some (.cells #[v] 43 (0, 0)) := jf (gU hb2 _) hgrow (fun e => by have := (nG hrow e.symm).1; omega); have hc3 : w2.cell? ⟨G, 0, none⟩ = some v := aG hb3 0; have hf3 := bB hb3 0)
  have hbn : G + 1 < W.heap.size := by omega
  refine ⟨((KeepsOthers.alloc W _).trans (KeepsOthers.of_grownBy hgrow fun j o ej hj => ?_)).trans (KeepsOthers.setCell _ _ _), ?_, ⟨_, iB hb3 0 _, ?_⟩, ?_, ?_⟩
  ·obtain ⟨cur, hcur⟩ := (nG (hrow.alloc _) ej).2
   rw [hcur] at hj; cases hj; rfl
  ·rw [Below.heap_setCell _ _ _ _ (by simp), hgrow.block (G + 1) (by simp; omega) (fun e => by have := (nG hrow e.symm).1; omega)]
   exact Below.heap_alloc W _ (G + 1) hbn
  ·have hk := hown'.kept (grownBy_setCell' w2 G (.slice (some ⟨g', 0, none⟩) (pre.length + 1) cap')) (.inr (fun e => by have := (nG hown' e).1; omega))
   have e1 : strs (pre ++ [x]) = strs pre ++ [.string x.1] := by unfold strs; simp
   rw [e1, List.length_append]; exact hk
  ·refine ((hB.alloc hB.size _).grown hgrow (by simp; omega) fun j ej => ?_).setCell (p := ⟨G, 0, none⟩) hz _
   have := (nG hrow ej).1; omega
  ·have := hgrow.size; simp at this ⊢; omega
 case done =>
  rintro D W hD ⟨⟨v, hb2, hrow⟩, hB, hsz⟩ hK
  have hc : W.cell? ⟨G, 0, none⟩ = some v := aG hb2 0
  gi_wp2
  refine ⟨by simp, .inl ⟨_, _, rfl, run_takeDeferred hK, ?_⟩⟩
  exact ⟨_, results_tmp2 rfl _ _ _, v, rfl, Ho (ownsRow_putObj hrow _ hK rfl) (by omega), hB.trans (belowK_b (w := w) (Nat.le_refl _) W D _ _ (by simp at hD; omega) hK rfl rfl)⟩
 case stop =>
  rintro D c pre W _ _ h _
  exact h.elim
end Go.Y.Name
namespace Go.Y.Given
open Go.Proofs.ah.av Go.Y.Name
def bX.f (a0 : ByteArray) : Option Bool := some (bC a0)
theorem bX.calls (a0 : ByteArray) (r : Bool) (w : World) (h : bX.f a0 = some r) :
  Calls Tryz.prog 47 #[.string a0] w fun e w' => e = .returned (.bool r) ∧ Below w.heap.size w w' := by
 obtain rfl := Option.some.inj h
 exact iA a0 w
def kK.f (a0 : ByteArray) : Option (ByteArray × Bool) := some (nZ a0)
theorem kK.calls (a0 : ByteArray) (r1 : ByteArray) (r2 : Bool) (w : World) (h : kK.f a0 = some (r1, r2)) :
  Calls Tryz.prog 121 #[.string a0] w fun e w' => e = .returned (.tuple #[.string r1, .bool r2]) ∧ Below w.heap.size w w' := by
 have e := Option.some.inj h
 have := CO a0 w
 rw [e] at this
 exact this
def iC.f (a0 : ByteArray) : Option (List ByteArray × Int) := some (if bC a0 = true then ((eH a0.size a0).map (·.1), 0) else ([], 2))
theorem iC.calls (a0 : ByteArray) (r1 : List ByteArray) (r2 : Int) (w : World) (h : iC.f a0 = some (r1, r2)) :
  Calls Tryz.prog 101 #[.string a0] w fun e w' => ∃ v0_ : Value, e = .returned (.tuple #[v0_, .int .i64 r2]) ∧ Kd.R Kd.string 9 w' w.heap.size (fun _ => True) v0_ r1 ∧ Below w.heap.size w w' := by
 have e := Option.some.inj h
 by_cases hr : bC a0 = true
 ·rw [if_pos hr] at e
  obtain ⟨rfl, rfl⟩ := Prod.mk.inj e
  have hs : a0.size ≤ 255 := by
   unfold bC at hr
   exact of_decide_eq_true (Bool.and_eq_true_iff.mp hr).1
  refine (Dr a0 w hr hs).mono ?_
  rintro e w' ⟨v, rfl, hv, hb⟩
  refine ⟨v, rfl, Kd.uO ?_ (fun _ _ => trivial), hb⟩
  rw [List.length_map]
  have e2 : encs Value.string ((eH a0.size a0).map (·.1)) = strs (eH a0.size a0) := by unfold strs encs; rw [List.map_map]; rfl
  rw [e2]; exact hv
 ·rw [if_neg hr] at e
  obtain ⟨rfl, rfl⟩ := Prod.mk.inj e
  refine (Eh a0 w (Bool.eq_false_iff.mpr hr)).mono ?_
  rintro e w' ⟨rfl, hb⟩
  exact ⟨_, rfl, Kd.fU _ _ _ _ _, hb⟩
end Go.Y.Given
namespace Go.Y.vH
open Go.Proofs.ah.av
theorem xg {W : World} {g n : Nat} {xs : List Int} (h : fu W .u8 (some ⟨g, 0, none⟩) n xs) (j : Nat) (hj : j < n) : W.cell? ⟨g, j, none⟩ = some (.int .u8 (xs.getD j 0)) := by
 obtain ⟨ad, e, hc⟩ := h.2.2 (by omega)
 obtain rfl := Option.some.inj e
 have := hc j hj
 rwa [add_plain] at this
theorem DZ {W : World} {g n : Nat} {xs : List Int} (h : fu W .u8 (some ⟨g, 0, none⟩) n xs) (j : Nat) (x : Int) : fu (W.setCell ⟨g, j, none⟩ (.int .u8 x)) .u8 (some ⟨g, 0, none⟩) n (xs.set j x) := by
 have hx := h.1
 refine ⟨by simpa using h.1, h.2.1, fun _ => ⟨_, rfl, fun i hi => ?_⟩⟩
 rw [add_plain]
 have hci := xg h i hi
 by_cases hij : i = j
 ·subst hij
  rw [World.cell?_setCell_same _ _ _ hci]
  simp [List.getD_eq_getElem?_getD, show i < xs.length from by omega]
 ·rw [World.cell?_setCell_other _ _ _ _ (fun hc => hij (by cases hc; rfl)), hci]
  simp [List.getD_eq_getElem?_getD, Ne.symm hij]
theorem FL (w : World) (e : TypeId) (s : ByteArray) (j : Nat) (hj : j < s.size) : (Lib.bytesWorld w e s).frozen? ⟨w.heap.size, j, none⟩ = false := by
 have h := Lib.bytesWorld_at_new w e s
 have hc := Lib.bytesWorld_cell w e s j hj
 have hs : j < (Lib.bytesCells w e s).size := by
  by_cases hlt : j < (Lib.bytesCells w e s).size
  ·exact hlt
  ·exfalso
   simp [World.cell?, h, Array.getElem?_eq_none (Nat.le_of_not_lt hlt)] at hc
 simp [World.frozen?, h]
 omega
end Go.Y.vH
namespace Go.Y.Name
open Go.Proofs.ah.av Go.Y.Oct Go.Y.vH
def low (c : UInt8) : UInt8 := if 65 ≤ c.toNat ∧ c.toNat ≤ 90 then UInt8.ofNat (c.toNat + 32) else c
def part (l : List UInt8) (k : Nat) : List UInt8 := (l.take k).map low ++ l.drop k
theorem EJ (l : List UInt8) : part l 0 = l := rfl
theorem GJ (l : List UInt8) : part l l.length = l.map low := by unfold part; rw [List.take_length, List.drop_length, List.append_nil]
theorem zL (l : List UInt8) (k : Nat) : (part l k).length = l.length := by unfold part; simp only [List.length_append, List.length_map, List.length_take, List.length_drop]; omega
theorem Bf (l : List UInt8) (k : Nat) (h : k < l.length) : (part l k)[k]'(by rw [zL]; exact h) = l[k] := by
 unfold part
 rw [List.getElem_append_right (by simp; omega)]
 simp only [List.length_map, List.length_take, List.getElem_drop]
 congr 1; omega
theorem yC (l : List UInt8) (k : Nat) (h : k < l.length) : part l (k + 1) = (part l k).set k (low l[k]) := by
 unfold part
 rw [List.set_append_right _ _ (by simp; omega), List.drop_eq_getElem_cons h, List.take_succ_eq_append_getElem h, List.map_append]
 have e : k - (List.map low (List.take k l)).length = 0 := by simp; omega
 rw [e, List.set_cons_zero]
 simp
theorem DV (l : List UInt8) (k : Nat) (h : k < l.length) (hl : low l[k] = l[k]) : part l (k + 1) = part l k := by
 rw [yC l k h, hl, ← Bf l k h, List.set_getElem_self]
theorem Hr (l : List UInt8) (k : Nat) (c : UInt8) : (ji l).set k (c.toNat : Int) = ji (l.set k c) := by unfold ji; rw [List.map_set]
theorem Jl (l : List UInt8) (k : Nat) (h : k < l.length) : (ji l).getD k 0 = (l[k].toNat : Int) := by unfold ji; rw [List.getD_eq_getElem?_getD, List.getElem?_map, List.getElem?_eq_getElem h]; rfl
theorem Dm (s : ByteArray) (w : World) (hs : s.size ≤ 1000000) :
  Calls Tryz.prog 92 #[.string s] w fun e w' => e = .returned (.string (arr (s.data.toList.map low))) ∧ Below w.heap.size w w' := by
 have kb := fun W => tZ (P := Tryz.prog) 9 101 5 Tryz.underlying9 Tryz.underlying101 Tryz.underlying5 s W
 go_enter Tryz.func92, Tryz.ntmps92
 have hr0 := Lib.hid (uo w 5 s (by omega))
 have hf0 : Hid (∀ j, j < s.size → (Lib.bytesWorld w 5 s).frozen? ⟨w.heap.size, j, none⟩ = false) := Lib.hid (FL w 5 s)
 have hb0 := Lib.hid (tV (Below.refl w.heap.size w) (Nat.le_refl _) 5 s)
 go_wp2_with fail
 obtain ⟨g, hg⟩ : ∃ g, w.heap.size = g := ⟨_, rfl⟩
 rw [hg] at hr0 hf0 hb0
 rw [hg]
 go_loopw [10] (fun v wr => ∃ k : Nat, k ≤ s.size ∧ v = .int .i64 k ∧ Hid (fu wr .u8 (some ⟨g, 0, none⟩) s.size (ji (part s.data.toList k))) ∧ Hid (∀ j, j < s.size → wr.frozen? ⟨g, j, none⟩ = false) ∧ Hid (Below g w wr)) (fun v _ => s.size - (intOf v).toNat)
 case atStart => exact ⟨0, Nat.zero_le _, rfl, by rw [EJ]; exact hr0, hf0, hb0⟩
 case round =>
  obtain ⟨k, hk, rfl, hr, hf, hb⟩ := hrel
  have hsz : s.data.toList.length = s.size := bR s
  by_cases hlt : k < s.size
  ·have hkl : k < s.data.toList.length := by omega
   have t0 : decide ((k : Int) < (s.size : Int)) = true := decide_eq_true (by omega)
   have hc : wr.cell? ⟨g, k, none⟩ = some (.int .u8 ((s.data.toList[k].toNat : Nat) : Int)) := by
    rw [xg hr.out k hlt, Jl _ k (by rw [zL]; exact hkl), Bf _ k hkl]
   have hfk := hf.out k hlt
   have hx := UInt8.toNat_lt s.data.toList[k]
   have hnext := Lib.hid (yC s.data.toList k hkl)
   have hsame := Lib.hid (DV s.data.toList k hkl)
   generalize hcc : s.data.toList[k] = c at hc hx hnext hsame
   by_cases h1 : 65 ≤ c.toNat
   ·have t1 : decide ((65 : Int) ≤ ((c.toNat : Nat) : Int)) = true := decide_eq_true (by omega)
    by_cases h2 : c.toNat ≤ 90
    ·have t2 : decide (((c.toNat : Nat) : Int) ≤ 90) = true := decide_eq_true (by omega)
     have hlow : (((low c).toNat : Nat) : Int) = (c.toNat : Int) - 65 + 97 := by
      unfold low; rw [if_pos ⟨h1, h2⟩, UInt8.toNat_ofNat']; omega
     have HL := Lib.hid hlow
     clear hlow
     go_wp2_with fail
     refine ⟨⟨k + 1, by omega, by simp, Lib.hid ?_, Lib.hid ?_, Lib.hid (hb.out.setCell (p := ⟨g, k, none⟩) (Nat.le_refl _) _)⟩, by simp [intOf]; omega⟩
     ·have := DZ hr.out k ((low c).toNat : Int)
      rw [Hr, ← hnext.out, HL.out] at this
      exact this
     ·intro j hj; rw [World.frozen?_setCell]; exact hf.out j hj
    ·have t2 : decide (((c.toNat : Nat) : Int) ≤ 90) = false := decide_eq_false (by omega)
     have hp := Lib.hid (hsame.out (by unfold low; rw [if_neg (by omega)]))
     go_wp2_with fail
     refine ⟨⟨k + 1, by omega, by simp, ?_, hf, hb⟩, by simp [intOf]; omega⟩
     rw [hp.out]; exact hr
   ·have t1 : decide ((65 : Int) ≤ ((c.toNat : Nat) : Int)) = false := decide_eq_false (by omega)
    have hp := Lib.hid (hsame.out (by unfold low; rw [if_neg (by omega)]))
    go_wp2_with fail
    refine ⟨⟨k + 1, by omega, by simp, ?_, hf, hb⟩, by simp [intOf]; omega⟩
    rw [hp.out]; exact hr
  ·obtain rfl : k = s.size := by omega
   have t0 : decide ((s.size : Int) < (s.size : Int)) = false := decide_eq_false (by omega)
   have kc := vO (P := Tryz.prog) (c := grownCap w s.size 0 5) Tryz.underlying101 Tryz.underlying5 Tryz.underlying9 hr.out
   rw [← hsz, GJ, hsz, sN] at kc
   go_wp2_with fail
   go_ret
   exact ⟨rfl, by rw [hg]; exact hb.out⟩
end Go.Y.Name
namespace Go.Y.Given
open Go.Proofs.ah.av Go.Y.Name Go.Y.Oct
def fQ.f (a0 : ByteArray) : Option ByteArray := if a0.size ≤ 1000000 then some (arr (a0.data.toList.map low)) else none
theorem fQ.calls (a0 : ByteArray) (r : ByteArray) (w : World) (h : fQ.f a0 = some r) :
  Calls Tryz.prog 92 #[.string a0] w fun e w' => e = .returned (.string r) ∧ Below w.heap.size w w' := by
 unfold fQ.f at h
 by_cases hs : a0.size ≤ 1000000
 ·rw [if_pos hs] at h
  obtain rfl := Option.some.inj h
  exact Dm a0 w hs
 ·rw [if_neg hs] at h; exact absurd h (by simp)
end Go.Y.Given
namespace Go.Y.Name
open Go.Proofs.ah.av Go.Y.Oct
theorem toList_inj {a b : ByteArray} : a.toList = b.toList ↔ a = b := by
 rw [ByteArray.toList_eq, ByteArray.toList_eq]
 exact ⟨fO, fun h => by rw [h]⟩
def good (l : List ByteArray) : Prop := ∀ s ∈ l, 1 ≤ s.size ∧ s.size ≤ 63
def bE : List ByteArray → ByteArray
 | [] => fT
 | s :: l => jl 1 s ++ bE l
theorem pI (s : ByteArray) : (jl 1 s).size = 1 + s.size := by rw [← bR, mK, List.length_append, mR, bR]
theorem lT (s : ByteArray) (l : List ByteArray) : (bE (s :: l)).size = 1 + s.size + (bE l).size := by rw [bE, ByteArray.size_append, pI]
theorem Gy : ∀ l, 1 ≤ (bE l).size
 | [] => Nat.le_refl _
 | s :: l => by rw [lT]; omega
theorem GR (s : ByteArray) (l : List ByteArray) (hs : s.size ≤ 63) : eu (bE (s :: l)) 1 = some (s, bE l) := Ed 1 s (bE l) (by show s.size < 256; omega)
theorem DJ {s : ByteArray} {l : List ByteArray} : ¬ bE (s :: l) = fT := by
 intro h
 have h1 := congrArg ByteArray.size h
 have h2 := Gy l
 rw [lT, show fT.size = 1 from rfl] at h1
 omega
def pairs : List ByteArray → List (ByteArray × ByteArray)
 | [] => []
 | s :: l => (s, bE l) :: pairs l
theorem nD : ∀ l, (pairs l).map (·.1) = l
 | [] => rfl
 | s :: l => by rw [pairs, List.map_cons, nD l]
theorem kR : ∀ (l : List ByteArray), good l → eH (bE l).size (bE l) = pairs l
 | [], _ => rU rfl
 | s :: l, h => by
  have hs := h s (by simp)
  rw [oO DJ (GR s l hs.2) (by omega), kR l (fun s h' => h s (by simp [h'])), pairs]
theorem zQ : ∀ (l : List ByteArray) (n : ByteArray), l ≠ [] → iQ n (pairs l) = fT
 | [], _, h => absurd rfl h
 | [s], n, _ => rfl
 | s :: t :: l, n, _ => by
  have h1 : iQ n (pairs (s :: t :: l)) = iQ n (pairs (t :: l)) := by
   unfold iQ
   rw [pairs, pairs, List.getLast?_cons_cons]
  rw [h1, zQ (t :: l) n (by simp)]
theorem zH (l : List ByteArray) (h : good l) : iQ (bE l) (eH (bE l).size (bE l)) = fT := by
 rw [kR l h]
 cases l with
 | nil => rfl
 | cons s l => exact zQ _ _ (by simp)
theorem Hf {n s r : ByteArray} (h : eu n 1 = some (s, r)) : n = jl 1 s ++ r ∧ s.size < 256 := by
 unfold eu at h
 by_cases h1 : 1 ≤ n.size
 ·rw [if_pos h1] at h
  split at h
  ·rename_i h2
   simp only [Option.some.injEq, Prod.mk.injEq] at h
   obtain ⟨rfl, rfl⟩ := h
   have hz : (n.extract 1 (1 + beN (n.data.toList.take 1))).size = beN (n.data.toList.take 1) := by rw [ByteArray.size_extract]; omega
   have hb : beB 1 (beN (n.data.toList.take 1)) = n.data.toList.take 1 := Ja 1 _ (take_size n 1 h1)
   have hl := vR (n.data.toList.take 1)
   rw [take_size n 1 h1] at hl
   refine ⟨?_, by rw [hz]; exact hl⟩
   apply fO
   rw [iy, mK, hz, hb, jk, jZ, List.append_assoc]
   conv => lhs; rw [← List.take_append_drop 1 n.data.toList]
   congr 1
   rw [← List.drop_drop, List.take_append_drop]
  ·exact absurd h (by simp)
 ·rw [if_neg h1] at h; exact absurd h (by simp)
theorem Ce : ∀ (k : Nat) (n : ByteArray), n.size ≤ k → iQ n (eH n.size n) = fT → ∃ l, good l ∧ n = bE l := by
 intro k
 induction k with
 | zero =>
  intro n hn h
  have : eH n.size n = [] := by rw [show n.size = 0 from by omega]; rfl
  rw [this] at h
  exact ⟨[], by simp [good], h⟩
 | succ k ih =>
  intro n hn h
  by_cases hr : n = fT
  ·exact ⟨[], by simp [good], hr⟩
  ·cases hc : eu n 1 with
   | none => rw [pF hc] at h; exact absurd h hr
   | some x =>
    obtain ⟨s, r⟩ := x
    by_cases hb : s.size = 0 ∨ 63 < s.size
    ·rw [oH hc hb] at h; exact absurd h hr
    ·have hless := qM hc
     have e : iQ r (eH r.size r) = fT := by
      rw [oO hr hc hb] at h
      unfold iQ at h ⊢
      cases hl : eH r.size r with
      | nil => rw [hl] at h; exact h
      | cons y t => rw [hl, List.getLast?_cons_cons] at h; exact h
     obtain ⟨l, hg, rfl⟩ := ih r (by omega) e
     refine ⟨s :: l, ?_, (Hf hc).1⟩
     intro y hy
     rcases List.mem_cons.mp hy with rfl | hy
     ·omega
     ·exact hg y hy
theorem jX (n : ByteArray) : bC n = true ↔ ∃ l, good l ∧ n = bE l ∧ (bE l).size ≤ 255 := by
 unfold bC
 rw [Bool.and_eq_true_iff, decide_eq_true_iff, beq_iff_eq]
 rw [show ([0] : List UInt8) = fT.toList from by rw [ByteArray.toList_eq]; rfl, toList_inj]
 constructor
 ·rintro ⟨h1, h2⟩
  obtain ⟨l, hg, rfl⟩ := Ce n.size n (Nat.le_refl _) h2
  exact ⟨l, hg, rfl, h1⟩
 ·rintro ⟨l, hg, rfl, h1⟩
  exact ⟨h1, zH l hg⟩
theorem Gq : ∀ {l m : List ByteArray}, good l → good m → bE l = bE m → l = m
 | l, m, hl, hm, h => by
  have h1 := kR l hl
  have h2 := kR m hm
  rw [h] at h1
  rw [← nD l, ← nD m, ← h1, ← h2]
theorem kD {l : List ByteArray} (h : good l) (hs : (bE l).size ≤ 255) : bC (bE l) = true := (jX _).mpr ⟨l, h, rfl, hs⟩
theorem ku : ∀ (l : List ByteArray), good l → 2 * l.length + 1 ≤ (bE l).size
 | [], _ => Nat.le_refl _
 | s :: l, h => by
  have := h s (by simp)
  have := ku l (fun s h' => h s (by simp [h']))
  rw [lT, List.length_cons]; omega
def dH (s : ByteArray) : ByteArray := arr (s.data.toList.map low)
theorem kL (s : ByteArray) : (dH s).size = s.size := by unfold dH; rw [GQ, List.length_map, bR]
theorem rW (s : ByteArray) : (dH s).data.toList = s.data.toList.map low := mV _
theorem EW (c : UInt8) (h : c.toNat < 65) : low c = c := by unfold low; rw [if_neg (by omega)]
theorem IL (c : UInt8) : low (low c) = low c := by
 by_cases h : 65 ≤ c.toNat ∧ c.toNat ≤ 90
 ·have e : low c = UInt8.ofNat (c.toNat + 32) := by unfold low; rw [if_pos h]
  have : (low c).toNat = c.toNat + 32 := by rw [e, UInt8.toNat_ofNat']; omega
  unfold low; rw [if_neg (by rw [show (if 65 ≤ c.toNat ∧ c.toNat ≤ 90 then UInt8.ofNat (c.toNat + 32) else c) = low c from rfl]; omega)]
 ·have e : low c = c := by unfold low; rw [if_neg h]
  rw [e, e]
theorem rD (s : ByteArray) : dH (dH s) = dH s := by
 apply fO; rw [rW, rW, List.map_map]
 congr 1; funext c; exact IL c
theorem oP : ∀ (l : List ByteArray), good l → arr ((bE l).data.toList.map low) = bE (l.map dH)
 | [], _ => rfl
 | s :: l, h => by
  have hs := h s (by simp)
  have ih := oP l (fun s h' => h s (by simp [h']))
  apply fO
  rw [mV, bE, iy, mK, List.map_append, List.map_append, List.map_cons, bE, iy, mK, rW, kL, ← ih, mV]
  congr 2
  rw [beB, beB, List.nil_append, List.map_cons, List.map_nil, EW _ (by rw [uJ]; omega)]
theorem ko {l : List ByteArray} (h : good l) : good (l.map dH) := by
 intro s hs
 obtain ⟨t, ht, rfl⟩ := List.mem_map.mp hs
 rw [kL]; exact h t ht
theorem size_map : ∀ (l : List ByteArray), (bE (l.map dH)).size = (bE l).size
 | [] => rfl
 | s :: l => by rw [List.map_cons, lT, lT, kL, size_map l]
theorem map_map (l : List ByteArray) : (l.map dH).map dH = l.map dH := by
 rw [List.map_map]; congr 1; funext s; exact rD s
end Go.Y.Name
namespace Go.Y.Cmp
open Go.Proofs.ah.av
theorem isnan (a : ByteArray) (w : World) : Calls Tryz.prog 110 #[.string a] w fun e w' => e = .returned (.bool false) ∧ w = w' := by
 have t0 : (a.toList == a.toList) = true := by simp
 go_enter Tryz.func110, Tryz.ntmps110
 go_wp2
 go_ret
 exact ⟨by simp, rfl⟩
def jD (a b : List UInt8) : Int := if Op.bytesLess a b = true then -1 else if (a == b) = true then 0 else 1
theorem Aj (a b : ByteArray) (x y : Bool) (w : World) (hx : Op.bytesLess a.toList b.toList = x) (hy : (a.toList == b.toList) = y) (r : Int) (hr : (if x = true then -1 else if y = true then 0 else 1) = r) :
  Calls Tryz.prog 74 #[.string a, .string b] w fun e w' => e = .returned (.int .i64 r) ∧ w = w' := by
 go_enter Tryz.func74, Tryz.ntmps74
 go_wp2_with fail
 refine (isnan a _).mono ?_
 rintro e w' ⟨rfl, rfl⟩
 go_wp2_with fail
 refine (isnan b _).mono ?_
 rintro e w' ⟨rfl, rfl⟩
 cases x with
 | true =>
  rw [if_pos rfl] at hr
  subst hr
  go_wp2_with fail
  go_ret
  exact ⟨rfl, rfl⟩
 | false =>
  rw [if_neg (by decide)] at hr
  cases y with
  | true =>
   rw [if_pos rfl] at hr
   subst hr
   go_wp2_with fail
   go_ret
   exact ⟨rfl, rfl⟩
  | false =>
   rw [if_neg (by decide)] at hr
   subst hr
   go_wp2_with fail
   go_ret
   exact ⟨rfl, rfl⟩
end Go.Y.Cmp
namespace Go.Y.Given
open Go.Proofs.ah.av Go.Y.Cmp
def gy.f (a0 : ByteArray) (a1 : ByteArray) : Option Int := some (jD a0.toList a1.toList)
theorem gy.calls (a0 : ByteArray) (a1 : ByteArray) (r : Int) (w : World) (h : gy.f a0 a1 = some r) :
  Calls Tryz.prog 74 #[.string a0, .string a1] w fun e w' => e = .returned (.int .i64 r) ∧ Below w.heap.size w w' := by
 refine (Aj a0 a1 _ _ w rfl rfl r (Option.some.inj h)).mono ?_
 rintro e w' ⟨rfl, rfl⟩
 exact ⟨rfl, Below.refl _ _⟩
end Go.Y.Given
namespace Go.Y.Given
open Go.Proofs.ah.av Go.Proofs.ah.aT Go.Proofs.ah.aU
theorem cu {α β : Type} {x : Option α} {f : α → Option β} {r : β} (h : x.bind f = some r) : ∃ a, aj (x = some a) ∧ f a = some r := by
 obtain ⟨a, h1, h2⟩ := Option.bind_eq_some_iff.mp h
 exact ⟨a, ⟨h1⟩, h2⟩
theorem ff_ : ¬ (false = true) := by decide
theorem sA_ {α : Type} (l : List α) (i : Nat) (a : α) : (⟨l⟩ : Array α).setIfInBounds i a = ⟨l.set i a⟩ := List.setIfInBounds_toArray l i a
theorem sZ_ {α : Type} {a b : α} {l : List α} : (a :: l).set 0 b = b :: l := rfl
theorem sS_ {α : Type} {a b : α} {l : List α} {n : Nat} : (a :: l).set (n + 1) b = a :: l.set n b := rfl
theorem mA_ {α β : Type} (f : α → β) (l : List α) : (⟨l⟩ : Array α).map f = ⟨l.map f⟩ := List.map_toArray
theorem mC_ {α β : Type} (f : α → β) (a : α) (l : List α) : (a :: l).map f = f a :: l.map f := rfl
theorem mN_ {α β : Type} (f : α → β) : ([] : List α).map f = [] := rfl
theorem kp_ {w w' : World} (hb : Below w.heap.size w w') {p : Addr} {v : Value} (h : w.cell? p = some v) : w'.cell? p = some v := (hb.cell (World.block_lt_of_cell? _ _ h)).trans h
theorem gd_ {α : Type} {c : Prop} [Decidable c] {x : Option α} {r : α} (h : (if c then x else none) = some r) : c ∧ x = some r := by
 by_cases hc : c
 ·rw [if_pos hc] at h; exact ⟨hc, h⟩
 ·rw [if_neg hc] at h; cases h
theorem dX {α : Type} {c : Prop} [Decidable c] {x : Option α} {r : α} (h : (if c then x else none) = some r) : decide c = true ∧ x = some r := ⟨decide_eq_true (gd_ h).1, (gd_ h).2⟩
abbrev CD1 (g : Nat) (a0 : Value) (w : World) : Prop := w.cell? ⟨g, 0, none⟩ = some a0
abbrev CC1 (g : Nat) (a0 : Value) (q : World → Prop) (w : World) : Prop := w.cell? ⟨g, 0, none⟩ = some a0 ∧ q w
theorem d1_ {g : Nat} {t : TypeId} {a0 : Value} {w : World} (h : w.heap[g]? = some (.cells #[a0] t (0, 0))) : CD1 g a0 w := (aG h 0).trans rfl
theorem c1_ {g : Nat} {t : TypeId} {a0 : Value} {q : World → Prop} {w : World} (h : w.heap[g]? = some (.cells #[a0] t (0, 0))) (k : q w) : CC1 g a0 q w := ⟨(aG h 0).trans rfl, k⟩
theorem z1_ {g : Nat} {t : TypeId} {a0 : Value} {w : World} (h : w.heap[g]? = some (.cells #[a0] t (0, 0))) : w.cell? ⟨g, 0, none⟩ = some a0 ∧ w.frozen? ⟨g, 0, none⟩ = false := ⟨(aG h 0).trans rfl, bB h 0⟩
abbrev CD3 (g : Nat) (a0 a1 a2 : Value) (w : World) : Prop := w.cell? ⟨g, 0, none⟩ = some a0 ∧ w.cell? ⟨g, 1, none⟩ = some a1 ∧ w.cell? ⟨g, 2, none⟩ = some a2
abbrev CC3 (g : Nat) (a0 a1 a2 : Value) (q : World → Prop) (w : World) : Prop := w.cell? ⟨g, 0, none⟩ = some a0 ∧ w.cell? ⟨g, 1, none⟩ = some a1 ∧ w.cell? ⟨g, 2, none⟩ = some a2 ∧ q w
theorem d3_ {g : Nat} {t : TypeId} {a0 a1 a2 : Value} {w : World} (h : w.heap[g]? = some (.cells #[a0, a1, a2] t (0, 0))) : CD3 g a0 a1 a2 w := ⟨(aG h 0).trans rfl, (aG h 1).trans rfl, (aG h 2).trans rfl⟩
theorem c3_ {g : Nat} {t : TypeId} {a0 a1 a2 : Value} {q : World → Prop} {w : World} (h : w.heap[g]? = some (.cells #[a0, a1, a2] t (0, 0))) (k : q w) : CC3 g a0 a1 a2 q w := ⟨(aG h 0).trans rfl, (aG h 1).trans rfl, (aG h 2).trans rfl, k⟩
theorem z3_ {g : Nat} {t : TypeId} {a0 a1 a2 : Value} {w : World} (h : w.heap[g]? = some (.cells #[a0, a1, a2] t (0, 0))) : w.cell? ⟨g, 0, none⟩ = some a0 ∧ w.cell? ⟨g, 1, none⟩ = some a1 ∧ w.cell? ⟨g, 2, none⟩ = some a2 ∧ w.frozen? ⟨g, 0, none⟩ = false ∧ w.frozen? ⟨g, 1, none⟩ = false ∧ w.frozen? ⟨g, 2, none⟩ = false := ⟨(aG h 0).trans rfl, (aG h 1).trans rfl, (aG h 2).trans rfl, bB h 0, bB h 1, bB h 2⟩
abbrev CD5 (g : Nat) (a0 a1 a2 a3 a4 : Value) (w : World) : Prop := w.cell? ⟨g, 0, none⟩ = some a0 ∧ w.cell? ⟨g, 1, none⟩ = some a1 ∧ w.cell? ⟨g, 2, none⟩ = some a2 ∧ w.cell? ⟨g, 3, none⟩ = some a3 ∧ w.cell? ⟨g, 4, none⟩ = some a4
abbrev CC5 (g : Nat) (a0 a1 a2 a3 a4 : Value) (q : World → Prop) (w : World) : Prop := w.cell? ⟨g, 0, none⟩ = some a0 ∧ w.cell? ⟨g, 1, none⟩ = some a1 ∧ w.cell? ⟨g, 2, none⟩ = some a2 ∧ w.cell? ⟨g, 3, none⟩ = some a3 ∧ w.cell? ⟨g, 4, none⟩ = some a4 ∧ q w
theorem d5_ {g : Nat} {t : TypeId} {a0 a1 a2 a3 a4 : Value} {w : World} (h : w.heap[g]? = some (.cells #[a0, a1, a2, a3, a4] t (0, 0))) : CD5 g a0 a1 a2 a3 a4 w := ⟨(aG h 0).trans rfl, (aG h 1).trans rfl, (aG h 2).trans rfl, (aG h 3).trans rfl, (aG h 4).trans rfl⟩
theorem c5_ {g : Nat} {t : TypeId} {a0 a1 a2 a3 a4 : Value} {q : World → Prop} {w : World} (h : w.heap[g]? = some (.cells #[a0, a1, a2, a3, a4] t (0, 0))) (k : q w) : CC5 g a0 a1 a2 a3 a4 q w := ⟨(aG h 0).trans rfl, (aG h 1).trans rfl, (aG h 2).trans rfl, (aG h 3).trans rfl, (aG h 4).trans rfl, k⟩
theorem z5_ {g : Nat} {t : TypeId} {a0 a1 a2 a3 a4 : Value} {w : World} (h : w.heap[g]? = some (.cells #[a0, a1, a2, a3, a4] t (0, 0))) : w.cell? ⟨g, 0, none⟩ = some a0 ∧ w.cell? ⟨g, 1, none⟩ = some a1 ∧ w.cell? ⟨g, 2, none⟩ = some a2 ∧ w.cell? ⟨g, 3, none⟩ = some a3 ∧ w.cell? ⟨g, 4, none⟩ = some a4 ∧ w.frozen? ⟨g, 0, none⟩ = false ∧ w.frozen? ⟨g, 1, none⟩ = false ∧ w.frozen? ⟨g, 2, none⟩ = false ∧ w.frozen? ⟨g, 3, none⟩ = false ∧ w.frozen? ⟨g, 4, none⟩ = false := ⟨(aG h 0).trans rfl, (aG h 1).trans rfl, (aG h 2).trans rfl, (aG h 3).trans rfl, (aG h 4).trans rfl, bB h 0, bB h 1, bB h 2, bB h 3, bB h 4⟩
abbrev ED (p : Addr) (v : Value) (w : World) : Prop := w.cell? p = some v
abbrev EC (p : Addr) (v : Value) (q : World → Prop) (w : World) : Prop := w.cell? p = some v ∧ q w
theorem ed_ {p : Addr} {v : Value} {w : World} (h : w.cell? p = some v) : ED p v w := h
theorem ec_ {p : Addr} {v : Value} {q : World → Prop} {w : World} (h : w.cell? p = some v) (k : q w) : EC p v q w := ⟨h, k⟩
theorem ge_ {g n m : Nat} (h : g = n) (k : m ≤ n) : m ≤ g := h ▸ k
theorem nl_ {g g' : Nat} {w : World} {o : Obj} (h : g' = w.heap.size) (k : w.heap[g]? = some o) : g ≠ g' := h ▸ Nat.ne_of_lt (eU k)
theorem nr_ {g g' : Nat} {w : World} {o : Obj} (h : g' = w.heap.size) (k : w.heap[g]? = some o) : g' ≠ g := h ▸ Nat.ne_of_gt (eU k)
def ls (n b : Nat) : Array Bool := ⟨(List.range n).map b.testBit⟩
@[reducible] def mh {α : Type} (_ : List α) (p : Prop) : Prop := p
theorem td_ {α : Type} {p : Prop} (l : List α) (h : mh l p) : p := h
theorem dn_ {α : Type} {p : Prop} (h : p) : mh ([] : List α) p := h
section
variable {P : Program} {ops : Array Oper} {Q : Exit → Act → World → Prop} {md : Region.Mode} {S : World → Prop} {ds : List Nat} {T : Bool × List (List Nat × List Nat)} {B : List Nat}
theorem pn_ (hT : aj (gF md ops = T)) {i : Nat} {N : Tmp} {is : List (Nat × Tmp)} {oi : Oper} {v : Value} {fuel : Nat} {l : Array Bool} {a a' : Act} {w : World} (hi : ops[i]? = some oi) (hN : oi.dst = some N) (hc : wD T l.toList (l.toList.set i true) i = true)
  (hw : Region.wanted oi (yielded ops a.tmps) = true) (hQ : ∀ c a w, Q (.panic c) (a.put oi.dst v) w → Q (.panic c) a w) (hy : ∀ w, (execOp a.eval oi).run P w = .ok (.value v) w) (ha : a.put (some N) v = a')
  (h : mh is (bG P md ops Q S ds fuel ⟨l.toList.set i true⟩ a' w)) : mh ((i, N) :: is) (bG P md ops Q S ds (fuel + 1) l a w) :=
 qE _ hi hN (EG hT.out hc) hQ (Or.inl ⟨hw, hy⟩) ha h
theorem on_ (hT : aj (gF md ops = T)) {i : Nat} {N : Tmp} {is : List (Nat × Tmp)} {oi : Oper} {fuel : Nat} {l : Array Bool} {a a' : Act} {w : World} (hi : ops[i]? = some oi) (hN : oi.dst = some N) (hc : wD T l.toList (l.toList.set i true) i = true)
  (hw : Region.wanted oi (yielded ops a.tmps) = false) (hQ : ∀ c a w, Q (.panic c) (a.put oi.dst undef) w → Q (.panic c) a w) (ha : a.put (some N) undef = a')
  (h : mh is (bG P md ops Q S ds fuel ⟨l.toList.set i true⟩ a' w)) : mh ((i, N) :: is) (bG P md ops Q S ds (fuel + 1) l a w) :=
 qE _ hi hN (EG hT.out hc) hQ (Or.inr ⟨hw, rfl⟩) ha h
theorem tn_ (hT : aj (gF md ops = T)) (hW : aj (iO T.2 B = true)) {i : Nat} {N : Tmp} {is : List (Nat × Tmp)} {oi : Oper} {v : Value} {fuel : Nat} {l : Array Bool} {a a' : Act} {w : World} (hi : ops[i]? = some oi) (hN : oi.dst = some N) (hc : yO T B ds l.toList (l.toList.set i true) i = true)
  (hw : Region.wanted oi (yielded ops a.tmps) = true) (hQ : ∀ c a w, Q (.panic c) (a.put oi.dst v) w → Q (.panic c) a w) (hS : S w) (hy : ∀ w, S w → (execOp a.eval oi).run P w = .ok (.value v) w) (ha : a.put (some N) v = a')
  (h : mh is (bG P md ops Q S ds fuel ⟨l.toList.set i true⟩ a' w)) : mh ((i, N) :: is) (bG P md ops Q S ds (fuel + 1) l a w) :=
 tH _ hi hN (Gg hT.out hW.out hc) hQ (Or.inl ⟨hw, hy⟩) hS ha h
end
end Go.Y.Given
namespace Go.Y.Given
open Go.Proofs.ah.av Go.Proofs.ah.aT Go.Proofs.ah.aU
section
variable {P : Program} {ops : Array Oper} {Q : Exit → Act → World → Prop} {md : Region.Mode} {S : World → Prop} {ds : List Nat} {T : Bool × List (List Nat × List Nat)} {B : List Nat}
theorem pm_ (hT : aj (gF md ops = T)) {i : Nat} {N : Tmp} {is : List (Nat × Tmp)} {oi : Oper} {v : Value} {fuel : Nat} {l : Array Bool} {a a' : Act} {w : World}
  (h : mh is (bG P md ops Q S ds fuel ⟨l.toList.set i true⟩ a' w))
  (hi : ops[i]? = some oi := by rfl) (hN : oi.dst = some N := by rfl) (hc : wD T l.toList (l.toList.set i true) i = true := by kernel_rfl)
  (hw : Region.wanted oi (yielded ops a.tmps) = true := by rfl) (hQ : ∀ c a w, Q (.panic c) (a.put oi.dst v) w → Q (.panic c) a w := by exact fun _ _ _ h => h)
  (hy : ∀ w, (execOp a.eval oi).run P w = .ok (.value v) w := by intro w'; go_simp; with_reducible rfl) (ha : a.put (some N) v = a' := by simp only [Act.put, sA_, sZ_, sS_, dU, fA]; rfl) :
  mh ((i, N) :: is) (bG P md ops Q S ds (fuel + 1) l a w) := pn_ hT hi hN hc hw hQ hy ha h
theorem om_ (hT : aj (gF md ops = T)) {i : Nat} {N : Tmp} {is : List (Nat × Tmp)} {oi : Oper} {fuel : Nat} {l : Array Bool} {a a' : Act} {w : World}
  (h : mh is (bG P md ops Q S ds fuel ⟨l.toList.set i true⟩ a' w))
  (hi : ops[i]? = some oi := by rfl) (hN : oi.dst = some N := by rfl) (hc : wD T l.toList (l.toList.set i true) i = true := by kernel_rfl)
  (hw : Region.wanted oi (yielded ops a.tmps) = false := by rfl) (hQ : ∀ c a w, Q (.panic c) (a.put oi.dst undef) w → Q (.panic c) a w := by exact fun _ _ _ h => h)
  (ha : a.put (some N) undef = a' := by simp only [Act.put, sA_, sZ_, sS_, dU, fA]; rfl) :
  mh ((i, N) :: is) (bG P md ops Q S ds (fuel + 1) l a w) := on_ hT hi hN hc hw hQ ha h
theorem tm_ (hT : aj (gF md ops = T)) (hW : aj (iO T.2 B = true)) {w : World} (hS : S w) {i : Nat} {N : Tmp} {is : List (Nat × Tmp)} {oi : Oper} {v : Value} {fuel : Nat} {l : Array Bool} {a a' : Act}
  (h : mh is (bG P md ops Q S ds fuel ⟨l.toList.set i true⟩ a' w))
  (hi : ops[i]? = some oi := by rfl) (hN : oi.dst = some N := by rfl) (hc : yO T B ds l.toList (l.toList.set i true) i = true := by kernel_rfl)
  (hw : Region.wanted oi (yielded ops a.tmps) = true := by rfl) (hQ : ∀ c a w, Q (.panic c) (a.put oi.dst v) w → Q (.panic c) a w := by exact fun _ _ _ h => h)
  (hy : ∀ w, S w → (execOp a.eval oi).run P w = .ok (.value v) w := by intro w' hs_; repeat (have s_ := hs_.1; replace hs_ := hs_.2); go_simp; with_reducible rfl)
  (ha : a.put (some N) v = a' := by simp only [Act.put, sA_, sZ_, sS_, dU, fA]; rfl) :
  mh ((i, N) :: is) (bG P md ops Q S ds (fuel + 1) l a w) := tn_ hT hW hi hN hc hw hQ hS hy ha h
theorem nm_ {fuel : Nat} {l : Array Bool} {a a' : Act} {w : World} {N : Option Tmp} {v : Value} (h : bG P md ops Q S ds fuel l a' w) (ha : a.put N v = a' := by simp only [Act.put, sA_, sZ_, sS_, dU, fA]; rfl) :
  bG P md ops Q S ds fuel l (a.put N v) w := lC ha h
theorem jR (hT : aj (gF md ops = T)) {i : Nat} {N : Option Tmp} {oi : Oper} {fuel : Nat} {l : Array Bool} {a : Act} {w : World} (l' : Array Bool)
  (h : ∀ K : Act → World → Prop, Shut (∀ a' w', S w' → (S w' → bG P md ops Q S ds fuel l' a' w') → K a' w') → if Region.wanted oi (yielded ops a.tmps) = true then Oper.wp P oi a w K Q else K (a.put N undef) w)
  (hi : ops[i]? = some oi := by rfl) (hN : oi.dst = N := by rfl) (hc : (ow T.2 l.toList == [i] && l.toList.set i true == l'.toList) = true := by kernel_rfl) (hd : i ∉ ds := by decide) :
  bG P md ops Q S ds (fuel + 1) l a w := oI l' hi hN (lY hT.out hc) hd h
theorem gl_ {rest : List Oper} {oi : Oper} {a : Act} {w : World} (N : Option Tmp) {f : FuncId} {fn : Func} (hf : P.funcs[f]? = some fn) {xs : Array Operand} {ts : Array TypeId} (args : Array Value)
  (h : Calls P f args w fun e w' => ∃ v, e = .returned v ∧ wpList P ops Q rest (a.put N v) w')
  (hd : oi.dst = N := by with_reducible rfl) (hop : oi.op = .call { callee := .value (.func f), args := xs, argTypes := ts } := by rfl) (hg : oi.guard = none := by rfl)
  (hname : (fn.name == "runtime.NumGoroutine") = false := by kernel_rfl) (hb : fn.body.isSome = true := by rfl) (hargs : xs.map a.eval = args := by (try simp only [mA_, mC_, mN_]); rfl) : wpList P ops Q (oi :: rest) a w :=
 iK N hd hg hf hname hb args hop hargs h
theorem gs_ {oi : Oper} {N : Option Tmp} {a : Act} {w : World} {K : Act → World → Prop} {f : FuncId} {fn : Func} (hf : P.funcs[f]? = some fn) {xs : Array Operand} {ts : Array TypeId} (args : Array Value)
  (h : Calls P f args w fun e w' => ∃ v, e = .returned v ∧ K (a.put N v) w')
  (hname : (fn.name == "runtime.NumGoroutine") = false := by kernel_rfl) (hb : fn.body.isSome = true := by rfl)
  (hw : Region.wanted oi (yielded ops a.tmps) = true := by rfl) (hN : oi.dst = N := by rfl) (hop : oi.op = .call { callee := .value (.func f), args := xs, argTypes := ts } := by rfl)
  (hargs : xs.map a.eval = args := by (try simp only [mA_, mC_, mN_]); rfl) : if Region.wanted oi (yielded ops a.tmps) = true then Oper.wp P oi a w K Q else K (a.put N undef) w :=
 oZ hf hname hb args hw hN hop hargs h
theorem be_ {rest : List Oper} {o : Oper} {a : Act} {W : World} {N : Tmp} {cs : Array Value} {t : TypeId}
  (h : ∀ g, g = W.heap.size → ∀ w1, w1.heap[g]? = some (.cells cs t (0, 0)) → Below W.heap.size W w1 → wpList P ops Q rest (a.put o.dst (.pointer (some ⟨g, 0, none⟩))) w1)
  (hd : o.dst = some N := by with_reducible rfl) (hgd : o.guard = none := by rfl)
  (hrun : (execOp a.eval o).run P W = .ok (.value (.pointer (some ⟨W.heap.size, 0, none⟩))) (W.alloc (.cells cs t (0, 0))) := by go_simp; done) : wpList P ops Q (o :: rest) a W :=
 dw hgd hd hrun h
end
end Go.Y.Given
namespace Go.Y.Oct
open Go.Proofs.ah.av Go.Proofs.ah.aT Go.Y.jO
def iT : ByteArray → List Int → List Int → Option (List Int × ByteArray)
 | b, [], acc => some (acc, b)
 | b, n :: ws, acc => if n.toNat ≤ b.size then iT (b.extract n.toNat b.size) ws (acc ++ [(beN (b.data.toList.take n.toNat) : Int)]) else none
theorem sQ {S ok : Nat → Prop} {α : Type} {d : Kd α} {e base : Nat} {W W' : World} {v : Value} {xs : List α} (h : d.R e W base ok v xs) (hu : Upd S W W') (hs : ∀ k, ok k → ¬ S k) : d.R e W' base ok v xs :=
 Kd.sF h (fun k ho hlt => hu.block k hlt (hs k ho))
theorem Gf : (Tryz.prog.info? 125).map (fun i => (i.zero, i.size, i.bytes)) = some (some (.int .u64 0), 1, 8) := by kernel_rfl
structure Round (B N g go : Nat) (w0 wr : World) (b : ByteArray) (v : Value) (xs : List Int) : Prop where
 rd : Rd wr g b
 out : wr.heap[go]? = some (.cells #[v] 175 (0, 0))
 own : (Kd.int .u64).R 125 wr B (fun k => k ≠ g ∧ k ≠ go ∧ N ≤ k) v xs
 below : Below B w0 wr
def qC (B g go : Nat) (w0 w : World) (T : Option (List Int × ByteArray)) (e : Ending) (w' : World) : Prop :=
 Upd (fun k => k = g ∨ k = go) w w' ∧ match T with
  | some (xs, r) => e = .returned (.tuple #[]) ∧ ∃ v', Round B w.heap.size g go w0 w' r v' xs
  | none => e = .panicked short
theorem Cn {B N g go : Nat} {w0 w2 w3 : World} {b2 : ByteArray} {v1 : Value} {ys : List Int} {A : Option Addr} {m c : Nat} (hb2 : Rd w2 g b2) (ho2 : w2.heap[go]? = some (.cells #[v1] 175 (0, 0)))
  (own3 : (Kd.int .u64).R 125 w3 B (fun k => k ≠ g ∧ k ≠ go ∧ N ≤ k) (.slice A m c) ys) (hb3 : Below B w0 w3) (hg3 : w2.grownBy w3 v1.ownBlock) (hv1 : ∀ k, v1.ownBlock = some k → k ≠ g ∧ k ≠ go ∧ N ≤ k) (hgo : g ≠ go) (hB : B ≤ go) :
  Round B N g go w0 (w3.setCell ⟨go, 0, none⟩ (.slice A m c)) b2 (.slice A m c) ys := by
 refine ⟨eD (jf hb2 hg3 (fun e => (hv1 g e.symm).1 rfl)) (by show g ≠ go; exact hgo) _, iB (jf ho2 hg3 (fun e => (hv1 go e.symm).2.1 rfl)) 0 _, sQ own3 ((Upd.refl (· = go) w3).set go 0 _ (.inl rfl)) (fun k h e => h.2.1 e), ?_⟩
 exact Below.setCell hb3 (by show B ≤ go; exact hB) _
theorem Ag {g go : Nat} {w wr w2 w3 : World} {v1 x : Value} (h : Upd (fun k => k = g ∨ k = go) w wr) (h2 : Upd (· = g) wr w2) (hg3 : w2.grownBy w3 v1.ownBlock) (hv1 : ∀ k, v1.ownBlock = some k → w.heap.size ≤ k) : Upd (fun k => k = g ∨ k = go) w (w3.setCell ⟨go, 0, none⟩ x) :=
 ((h.trans h2 (fun _ e => .inl (.inl e))).grown hg3 (fun k e => .inr (hv1 k e))).set go 0 _ (.inl (.inr rfl))
theorem Dn {b1 : ByteArray} {n : Int} {ws xs : List Int} {T : Option (List Int × ByteArray)} (h : iT b1 (n :: ws) xs = T) (hn : n.toNat ≤ b1.size) : iT (b1.extract n.toNat b1.size) ws (xs ++ [(beN (b1.data.toList.take n.toNat) : Int)]) = T := by
 rw [iT, if_pos hn] at h; exact h
theorem wo {B g go : Nat} {w0 w w' : World} {T : Option (List Int × ByteArray)} (hT : T = none) (h : Upd (fun k => k = g ∨ k = go) w w') : qC B g go w0 w T (.panicked short) w' := by
 subst hT; exact ⟨h, rfl⟩
theorem zN {B g go : Nat} {w0 w w' : World} {T : Option (List Int × ByteArray)} {b1 : ByteArray} {xs : List Int} {v : Value} (hT : iT b1 [] xs = T) (hr : Round B w.heap.size g go w0 w' b1 v xs) (h : Upd (fun k => k = g ∨ k = go) w w') : qC B g go w0 w T (.returned (.tuple #[])) w' := by
 subst hT; exact ⟨h, rfl, v, hr⟩
theorem vw {p : Prop} (h : p) (w : World) (_ : wpAny Tryz.prog .any #[] (fun _ _ _ => True) 0 #[] { tmps := #[], defers := [] } w) : p := h
theorem JE (b : ByteArray) (n : Nat) (h : b.size ≤ maxLen) : (b.extract n b.size).size ≤ maxLen := by rw [gI]; omega
attribute [local go_sem ↓] Go.wp_at_zero Go.wp_at_succ
theorem Ku (B g gw go : Nat) (b : ByteArray) (A : Option Addr) (c : Nat) (l : List Int) (v : Value) (w0 w : World) (T : Option (List Int × ByteArray)) (hT : iT b l [] = T)
  (hr : Round B w.heap.size g go w0 w b v []) (hgw : w.cell? ⟨gw, 0, none⟩ = some (.slice A l.length c)) (hgo : g ≠ go) (hB : B ≤ g) (hB2 : B ≤ go)
  (hl : ∀ W, Upd (fun k => k = g ∨ k = go) w W → (Kd.int .i64).C W A l.length l) (hw : ∀ n ∈ l, 0 ≤ n ∧ n ≤ 8) (hlen : l.length < 17592186044416) (hs : b.size ≤ maxLen) :
  Calls Tryz.prog 181 #[.pointer (some ⟨g, 0, none⟩), .pointer (some ⟨gw, 0, none⟩), .pointer (some ⟨go, 0, none⟩)] w fun e w' =>
   qC B g go w0 w T e w' := by
 have HT := Lib.hid hT; clear hT
 have HR := Lib.hid hr; clear hr
 have HL := Lib.hid hl; clear hl
 have HW := Lib.hid hw; clear hw
 go_enter Tryz.func181, Tryz.ntmps181
 go_wp2_with fail
 go_loopw [8] (fun i wr => ∃ (k : Nat) (b1 : ByteArray) (v1 : Value) (xs : List Int), k ≤ l.length ∧ i = .int .i64 k ∧ Hid (xs.length = k ∧ b1.size ≤ maxLen ∧ iT b1 (l.drop k) xs = T) ∧ Hid (Round B w.heap.size g go w0 wr b1 v1 xs) ∧ Hid (Upd (fun k => k = g ∨ k = go) w wr)) (fun i _ => l.length - (intOf i).toNat)
 case atStart => exact ⟨0, b, v, [], Nat.zero_le _, rfl, Lib.hid ⟨rfl, hs, HT.out⟩, HR, Lib.hid (Upd.refl _ _)⟩
 case round =>
  obtain ⟨k, b1, v1, xs, hk, rfl, H1, H2, H3⟩ := hrel
  by_cases hlt : k < l.length
  ·obtain ⟨ad, rfl, hc0⟩ := Kd.oF (HL.out _ H3.out) (k : Int) (by omega) (by omega)
   have hr : rd l (k : Int) = l[k] := by simp [rd, hlt]
   rw [hr] at hc0
   have hc : wr.cell? (ad.add k) = some (.int .i64 l[k]) := hc0
   clear hc0 hr
   have hn := HW.out l[k] (List.getElem_mem hlt)
   obtain ⟨n0, n8⟩ := hn
   have c1 : wr.cell? ⟨go, 0, none⟩ = some v1 := aG H2.out.out 0
   have f1 := bB H2.out.out 0
   have HD := Lib.hid (List.drop_eq_getElem_cons hlt)
   generalize l[k] = n at hc n0 n8 HD
   by_cases hfit : n ≤ b1.size
   ·go_wp2_with fail
    have hbd : Rd wr.drew g b1 := H2.out.rd
    have hod : wr.drew.heap[go]? = some (.cells #[v1] 175 (0, 0)) := H2.out.out
    have hwd : (Kd.int .u64).R 125 wr.drew B (fun k => k ≠ g ∧ k ≠ go ∧ w.heap.size ≤ k) v1 xs := Kd.iF H2.out.own
    have hld : Below B w0 wr.drew := qK H2.out.below
    have hxl := H1.out.1
    have hsz : w.heap.size ≤ wr.drew.heap.size := H3.out.size
    have HS := Lib.hid hsz; clear hsz
    have HB := Lib.hid hbd; clear hbd
    have HO := Lib.hid hod; clear hod
    have HV := Lib.hid hwd; clear hwd
    have HE := Lib.hid hld; clear hld
    have HX := Lib.hid hxl; clear hxl
    go_region_law (first | (refine oZ Tryz.func167 (by kernel_rfl) rfl #[.pointer (some ⟨g, 0, none⟩), .int .i64 n] (by rfl) (by rfl) (by rfl) (by (try simp only [List.map_toArray, List.map_cons, List.map_nil]); first | done | rfl) ?_; refine (qX g b1 n _ HB.out n0 n8 hfit H1.out.2.1).mono ?_; rintro e w2 ⟨rfl, hb2, hu2⟩; refine ⟨_, rfl, ?_⟩; have c2 : w2.cell? ⟨go, 0, none⟩ = some v1 := aG (hu2.heap HO.out (by omega)) 0; have c4 : (w2.alloc (.cells #[.int .u64 (beN (b1.data.toList.take n.toNat) : Int)] 125)).cell? ⟨go, 0, none⟩ = some v1 := aG (alloc_old (hu2.heap HO.out (by omega))) 0) | (refine Kd.qV (Kd.int .u64) (w0 := w0) (W := w2) B (by simp [Region.wanted]) (.tmp 12) (.tmp 16) 175 125 (.int .u64 0) 8 (by rfl) Tryz.underlying175 Gf (by rfl) (by decide) (by omega) v1 xs (beN (b1.data.toList.take n.toNat) : Int) [.int .u64 (beN (b1.data.toList.take n.toNat) : Int)] (fun k => k ≠ g ∧ k ≠ go ∧ w.heap.size ≤ k) (fun _ => False) (by rfl) (by rfl) (by rfl) (fun _ h => h.elim) (fun k hk => ⟨by have := eU hb2; omega, by have := eU (hu2.heap HO.out (by omega)); omega, Nat.le_trans HS.out (Nat.le_trans hu2.size hk)⟩) (sQ HV.out hu2 (fun k h => h.1)) (hu2.below HE.out (Nat.le_trans hB (Nat.le_of_lt (eU HB.out))) (fun i h => by omega)) (Nat.le_trans hB (Nat.le_of_lt (eU hb2))) (by have := HX.out; omega) ?_; intro v2 w3 ho3 hb3 hg3 hat3; obtain ⟨A2, c2', rfl⟩ := Kd.cO ho3; rw [List.length_append, List.length_singleton] at ho3; have f3 : w3.frozen? ⟨go, 0, none⟩ = false := bB (jf (hu2.heap HO.out (by omega)) hg3 (fun e => (HV.out.1 go e.symm).2.1 rfl)) 0; have c3 : w3.cell? ⟨go, 0, none⟩ = some v1 := aG (jf (hu2.heap HO.out (by omega)) hg3 (fun e => (HV.out.1 go e.symm).2.1 rfl)) 0; have HO3 := Lib.hid ho3; clear ho3; have HB3 := Lib.hid hb3; clear hb3; have HG3 := Lib.hid hg3))
    all_goals
     go_wp2_with fail
     exact ⟨⟨k + 1, b1.extract n.toNat b1.size, _, xs ++ [(beN (b1.data.toList.take n.toNat) : Int)], by omega, by go_num, Lib.hid ⟨by rw [List.length_append, HX.out]; rfl, JE _ _ H1.out.2.1, Dn (by rw [← HD.out]; exact H1.out.2.2) (by omega)⟩, Lib.hid (Cn hb2 (hu2.heap HO.out (by omega)) HO3.out HB3.out HG3.out HV.out.1 hgo hB2), Lib.hid (Ag (H3.out.drew) hu2 HG3.out (fun k e => (HV.out.1 k e).2.2))⟩, by simp [intOf]; omega⟩
   ·have hbd : Rd wr.drew g b1 := H2.out.rd
    have HB := Lib.hid hbd; clear hbd
    have HF : Hid (T = none) := Lib.hid (by rw [← H1.out.2.2, HD.out, iT, if_neg (by omega)])
    have H3d : Hid (Upd (fun k => k = g ∨ k = go) w wr.drew) := Lib.hid H3.out.drew
    go_wp2_with fail
    go_region_with (go_at_call 167; refine (su g b1 n _ HB.out (by omega)).mono ?_; rintro e w2 ⟨rfl, hu2⟩; refine vw ⟨rfl, wo HF.out (H3d.out.trans hu2 (fun _ e => .inl (.inl e)))⟩ w2 ?_)
    all_goals trivial
  ·obtain rfl : k = l.length := by omega
   go_wp2_with fail
   go_end0
   exact zN (by have := H1.out.2.2; rw [List.drop_of_length_le (Nat.le_refl _)] at this; exact this) H2.out H3.out
end Go.Y.Oct
namespace Go.Y.Oct
open Go.Proofs.ah.av Go.Proofs.ah.aT Go.Y.jO
theorem uw (c1 c2 : Value) (b r : ByteArray) (S : Nat → Prop) (Q : World → Prop) (w : World) (hS : ∀ k, S k → k < w.heap.size) (hQ : ∀ a b, Upd (fun k => k = w.heap.size ∨ k = w.heap.size + 1) a b → Q a → Q b)
  (hcl : Hid (Calls Tryz.prog 181 #[.pointer (some ⟨w.heap.size + 1 + 1, 0, none⟩), c1, c2] (W3 w b) fun e w' => e = .returned (.tuple #[]) ∧ Rd w' (w.heap.size + 1 + 1) r ∧ Q w' ∧ Upd (fun k => k = w.heap.size + 1 + 1 ∨ S k) (W3 w b) w')) :
  Calls Tryz.prog 148 #[.string b, .func (.func 181) #[] #[c1, c2]] w fun e w' => e = .returned (.tuple #[.string r, .int .i64 0]) ∧ Q w' ∧ Upd S w w' := by
 have hmf : ∀ (fn : Fn) (first cap : Array Value) (w : World), (Instr.makeFunc fn first cap).run Tryz.prog w = .ok (.func fn first cap) w := fun _ _ _ _ => rfl
 have HS := Lib.hid hS; clear hS
 have HQ := Lib.hid hQ; clear hQ
 go_enter_defers Tryz.func148, Tryz.ntmps148
 go_wp2_with fail
 refine hcl.out.mono ?_
 rintro e w1 ⟨rfl, hb1, hq1, hu1⟩
 have s1 := hu1.heap (three _ _ _).1 (fun h => h.elim (fun h => by omega) (fun h => by have := HS.out _ h; omega))
 have s2 := hu1.heap (three _ _ _).2.1 (fun h => h.elim (fun h => by omega) (fun h => by have := HS.out _ h; omega))
 have c1 : w1.cell? ⟨w.heap.size + 1 + 1, 0, none⟩ = some (.string r) := hb1.cell
 have c2 : w1.cell? ⟨w.heap.size, 0, none⟩ = some (.string ⟨#[]⟩) := aG s1 0
 have f2 := bB s1 0
 have s3 := eD s2 (p := ⟨w.heap.size, 0, none⟩) (by show w.heap.size + 1 ≠ w.heap.size; omega) (.string r)
 have c3 : (w1.setCell ⟨w.heap.size, 0, none⟩ (.string r)).cell? ⟨w.heap.size + 1, 0, none⟩ = some (.int .i64 0) := aG s3 0
 have f3 := bB s2 0
 have S1 := Lib.hid s1; clear s1
 have S3 := Lib.hid s3; clear s3
 clear s2
 have HX := Lib.hid hq1; clear hq1
 have HU := Lib.hid ((nE w b S).trans hu1 (fun i h => h.elim (fun h => .inr (by omega)) .inl)); clear hu1
 go_wp2_with fail
 have hr := wO (v0 := .string ⟨#[]⟩) (v1 := .int .i64 0) (.string r) (.int .i64 0) S1.out S3.out HX.out HQ.out HU.out
 generalize (w1.setCell ⟨w.heap.size, 0, none⟩ (.string r)).setCell ⟨w.heap.size + 1, 0, none⟩ (.int .i64 0) = W at hr
 obtain ⟨r1, r2, r3, r4⟩ := hr
 refine leaves_cons (f := 166) (args := #[.pointer (some ⟨w.heap.size, 0, none⟩), .pointer (some ⟨w.heap.size + 1, 0, none⟩)]) (by simp) (by simp [go_sem]) ?_
 refine (qx _ _ _).mono ?_
 rintro e u' w'' ⟨rfl, rfl, rfl⟩
 have R3 := Lib.hid r3
 clear r3
 simp [Leaves, settle, results, Tryz.results148, go_sem, r1, r2]
 exact ⟨R3.out, r4⟩
theorem qW (c1 c2 : Value) (b : ByteArray) (S : Nat → Prop) (w : World) (hS : ∀ k, S k → k < w.heap.size)
  (hcl : Hid (Calls Tryz.prog 181 #[.pointer (some ⟨w.heap.size + 1 + 1, 0, none⟩), c1, c2] (W3 w b) fun e w' => e = .panicked short ∧ Upd (fun k => k = w.heap.size + 1 + 1 ∨ S k) (W3 w b) w')) :
  Calls Tryz.prog 148 #[.string b, .func (.func 181) #[] #[c1, c2]] w fun e w' => e = .returned (.tuple #[.string ⟨#[]⟩, .int .i64 2]) ∧ Upd S w w' := by
 have hmf : ∀ (fn : Fn) (first cap : Array Value) (w : World), (Instr.makeFunc fn first cap).run Tryz.prog w = .ok (.func fn first cap) w := fun _ _ _ _ => rfl
 have HS := Lib.hid hS; clear hS
 go_enter_defers Tryz.func148, Tryz.ntmps148
 go_wp2_with fail
 refine hcl.out.mono ?_
 rintro e w1 ⟨rfl, hu1⟩
 have s1 := hu1.heap (three _ _ _).1 (fun h => h.elim (fun h => by omega) (fun h => by have := HS.out _ h; omega))
 have s2 := hu1.heap (three _ _ _).2.1 (fun h => h.elim (fun h => by omega) (fun h => by have := HS.out _ h; omega))
 have S1 := Lib.hid s1; clear s1
 have S2 := Lib.hid s2; clear s2
 have HU := Lib.hid ((nE w b S).trans hu1 (fun i h => h.elim (fun h => .inr (by omega)) .inl)); clear hu1
 go_wp2_with fail
 refine leaves_cons (f := 166) (args := #[.pointer (some ⟨w.heap.size, 0, none⟩), .pointer (some ⟨w.heap.size + 1, 0, none⟩)]) (by simp) (by simp [go_sem]) ?_
 refine (pO w.heap.size (w.heap.size + 1) ⟨#[]⟩ 0 [] w1 (by omega) S1.out S2.out).mono ?_
 rintro e u' w2 ⟨rfl, rfl, r1, r2, r4⟩
 have r1 : w2.cell? ⟨w.heap.size, 0, none⟩ = some (.string ⟨#[]⟩) := aG r1 0
 have r2 : w2.cell? ⟨w.heap.size + 1, 0, none⟩ = some (.int .i64 2) := aG r2 0
 have R4 := Lib.hid (HU.out.trans r4 (fun i h => .inr (by omega))); clear r4
 simp [Leaves, settle, results, Tryz.results148, go_sem, r1, r2]
 exact R4.out
def gX (n : Int) : Bool := decide (n = 1 ∨ n = 2 ∨ n = 4 ∨ n = 8)
theorem yw (n : Int) (w : World) (x : Bool) (h : gX n = x) : Calls Tryz.prog 182 #[.int .i64 n] w fun e w' => e = .returned (.bool x) ∧ w = w' := by
 unfold gX at h
 by_cases h1 : n = 1
 ·subst h h1; go_enter Tryz.func182, Tryz.ntmps182; go_wp2; go_ret; exact ⟨by simp, rfl⟩
 by_cases h2 : n = 2
 ·subst h h2; go_enter Tryz.func182, Tryz.ntmps182; go_wp2; go_ret; exact ⟨by simp, rfl⟩
 by_cases h4 : n = 4
 ·subst h h4; go_enter Tryz.func182, Tryz.ntmps182; go_wp2; go_ret; exact ⟨by simp, rfl⟩
 by_cases h8 : n = 8
 ·subst h h8; go_enter Tryz.func182, Tryz.ntmps182; go_wp2; go_ret; exact ⟨by simp, rfl⟩
 subst h
 have e1 : (n == 1) = false := beq_eq_false_iff_ne.mpr h1
 have e2 : (n == 2) = false := beq_eq_false_iff_ne.mpr h2
 have e4 : (n == 4) = false := beq_eq_false_iff_ne.mpr h4
 have e8 : (n == 8) = false := beq_eq_false_iff_ne.mpr h8
 go_enter Tryz.func182, Tryz.ntmps182
 go_wp2
 go_ret
 exact ⟨by simp [h1, h2, h4, h8], rfl⟩
theorem rE (A : Option Addr) (c : Nat) (l : List Int) (w : World) (x : Bool) (hr : (Kd.int .i64).C w A l.length l) (h : l.all gX = x) :
  Calls Tryz.prog 180 #[.slice A l.length c] w fun e w' => e = .returned (.bool x) ∧ w = w' := by
 have hmax := Kd.KR hr
 have H := Lib.hid h; clear h
 go_enter Tryz.func180, Tryz.ntmps180
 go_wp2_with fail
 go_loop [7] (fun i => ∃ k : Nat, k ≤ l.length ∧ i = .int .i64 k ∧ Hid ((l.take k).all gX = true)) (fun i => l.length - (intOf i).toNat)
 case atStart => exact ⟨0, Nat.zero_le _, rfl, Lib.hid rfl⟩
 case round =>
  obtain ⟨k, hk, rfl, H1⟩ := hrel
  by_cases hlt : k < l.length
  ·obtain ⟨ad, rfl, hc0⟩ := Kd.oF hr (k : Int) (by omega) (by omega)
   have hrd : rd l (k : Int) = l[k] := by simp [rd, hlt]
   rw [hrd] at hc0
   have hc : w.cell? (ad.add k) = some (.int .i64 l[k]) := hc0
   clear hc0 hrd
   have H2 : Hid (l.take (k + 1) = l.take k ++ [l[k]]) := Lib.hid (List.take_succ_eq_append_getElem hlt)
   have H3 : Hid (l[k] ∈ l) := Lib.hid (List.getElem_mem hlt)
   generalize l[k] = n at hc H2 H3
   cases hw : gX n with
   | true =>
    have HW := Lib.hid hw; clear hw
    go_wp2_with fail
    refine (yw n _ true HW.out).mono ?_
    rintro e w' ⟨rfl, rfl⟩
    go_wp2_with fail
    exact ⟨⟨k + 1, by omega, by go_num, Lib.hid (by rw [H2.out, List.all_append, H1.out]; simp [HW.out])⟩, by simp [intOf]; omega⟩
   | false =>
    have HW := Lib.hid hw; clear hw
    have HX : Hid (x = false) := Lib.hid (by
     rw [← H.out, Bool.eq_false_iff]
     intro ha
     rw [List.all_eq_true] at ha
     rw [ha n H3.out] at HW
     exact absurd HW.out (by simp))
    go_wp2_with fail
    refine (yw n _ false HW.out).mono ?_
    rintro e w' ⟨rfl, rfl⟩
    go_wp2_with fail
    go_ret
    exact ⟨by rw [HX.out]; rfl, rfl⟩
  ·obtain rfl : k = l.length := by omega
   have HX : Hid (x = true) := Lib.hid (by rw [← H.out, ← H1.out, List.take_of_length_le (Nat.le_refl _)])
   go_wp2_with fail
   go_ret
   exact ⟨by rw [HX.out]; rfl, rfl⟩
theorem EK (b : ByteArray) (A : Option Addr) (c : Nat) (l : List Int) (w : World) (hr : (Kd.int .i64).C w A l.length l) (h : l.all gX = false) :
  Calls Tryz.prog 179 #[.string b, .slice A l.length c] w fun e w' => e = .returned (.tuple #[.slice none 0 0, .string ⟨#[]⟩, .int .i64 1]) ∧ Below w.heap.size w w' := by
 have H := Lib.hid h; clear h
 go_enter Tryz.func179, Tryz.ntmps179
 go_wp2_with fail
 refine (rE A c l _ false (Kd.wI hr _) H.out).mono ?_
 rintro e w1 ⟨rfl, rfl⟩
 go_wp2_with fail
 go_ret3
 exact ⟨rfl, bI (Below.refl _ _) _⟩
theorem xQ {l : List Int} (h : l.all gX = true) : ∀ n ∈ l, 0 ≤ n ∧ n ≤ 8 := by
 intro n hn
 have := List.all_eq_true.mp h n hn
 unfold gX at this
 have := of_decide_eq_true this
 omega
theorem xC (b : ByteArray) (A : Option Addr) (c : Nat) (l : List Int) (w : World) (T : Option (List Int × ByteArray)) (hT : iT b l [] = T) (hr : (Kd.int .i64).C w A l.length l) (hw : ∀ n ∈ l, 0 ≤ n ∧ n ≤ 8) (hlen : l.length < 17592186044416) (hs : b.size ≤ maxLen) :
  Calls Tryz.prog 181 #[.pointer (some ⟨((w.alloc (.cells #[.slice A l.length c] 106 (0, 0))).alloc (.cells #[.slice none 0 0] 175 (0, 0))).heap.size + 1 + 1, 0, none⟩), .pointer (some ⟨w.heap.size, 0, none⟩), .pointer (some ⟨w.heap.size + 1, 0, none⟩)] (W3 ((w.alloc (.cells #[.slice A l.length c] 106 (0, 0))).alloc (.cells #[.slice none 0 0] 175 (0, 0))) b) fun e w' =>
   qC w.heap.size (w.heap.size + 2 + 1 + 1) (w.heap.size + 1) w (W3 ((w.alloc (.cells #[.slice A l.length c] 106 (0, 0))).alloc (.cells #[.slice none 0 0] 175 (0, 0))) b) T e w' := by
 obtain ⟨t1, t2⟩ := BU (w := w) (.cells #[.slice A l.length c] 106 (0, 0)) (.cells #[.slice none 0 0] 175 (0, 0))
 have hb2 : Below w.heap.size w ((w.alloc (.cells #[.slice A l.length c] 106 (0, 0))).alloc (.cells #[.slice none 0 0] 175 (0, 0))) := bI (bI (Below.refl _ _) _) _
 have hsz : ((w.alloc (.cells #[.slice A l.length c] 106 (0, 0))).alloc (.cells #[.slice none 0 0] 175 (0, 0))).heap.size = w.heap.size + 2 := by simp
 generalize ((w.alloc (.cells #[.slice A l.length c] 106 (0, 0))).alloc (.cells #[.slice none 0 0] 175 (0, 0))) = W at t1 t2 hb2 hsz
 have hbW : Below w.heap.size w (W3 W b) := Upd.below hb2 (nE W b (fun _ => False)) (by omega) (fun _ h => h.elim)
 have hrd := yN W b
 rw [hsz] at hrd ⊢
 exact Ku w.heap.size (w.heap.size + 2 + 1 + 1) w.heap.size (w.heap.size + 1) b A c l (.slice none 0 0) w (W3 W b) T hT
  ⟨hrd, qw b t2, Kd.fU _ _ _ _ _, hbW⟩ (aG (qw b t1) 0) (by omega) (by omega) (by omega)
  (fun V hV => Kd.eF hr (Upd.below hbW hV (by rw [xk]; omega) (fun i h => by omega))) hw hlen hs
theorem Ar (b : ByteArray) (A : Option Addr) (c : Nat) (l : List Int) (w : World) (hr : (Kd.int .i64).C w A l.length l) (h : l.all gX = true) (hlen : l.length < 17592186044416) (hs : b.size ≤ maxLen) (hT : iT b l [] = none) :
  Calls Tryz.prog 179 #[.string b, .slice A l.length c] w fun e w' => e = .returned (.tuple #[.slice none 0 0, .string ⟨#[]⟩, .int .i64 2]) ∧ Below w.heap.size w w' := by
 have hmf : ∀ (fn : Fn) (first cap : Array Value) (w : World), (Instr.makeFunc fn first cap).run Tryz.prog w = .ok (.func fn first cap) w := fun _ _ _ _ => rfl
 have H := Lib.hid h; clear h
 have HT := Lib.hid hT; clear hT
 go_enter Tryz.func179, Tryz.ntmps179
 go_wp2_with fail
 refine (rE A c l _ true (Kd.wI hr _) H.out).mono ?_
 rintro e w1 ⟨rfl, rfl⟩
 go_wp2_with fail
 have hcl := (xC b A c l w none HT.out hr (xQ H.out) hlen hs).mono (R' := fun e w' => e = .panicked short ∧ Upd (fun k => k = ((w.alloc (.cells #[.slice A l.length c] 106 (0, 0))).alloc (.cells #[.slice none 0 0] 175 (0, 0))).heap.size + 1 + 1 ∨ k = w.heap.size + 1) (W3 ((w.alloc (.cells #[.slice A l.length c] 106 (0, 0))).alloc (.cells #[.slice none 0 0] 175 (0, 0))) b) w') (fun e w' ⟨hu, he⟩ => ⟨he, by simpa using hu⟩)
 refine (qW _ _ b (· = w.heap.size + 1) _ (fun k hk => by simp; omega) (Lib.hid hcl)).mono ?_
 rintro e w2 ⟨rfl, hu⟩
 have hbl : Below w.heap.size w w2 := hu.below (bI (bI (Below.refl _ _) _) _) (by simp; omega) (fun i h => by omega)
 go_wp2_with fail
 go_ret3
 exact ⟨rfl, hbl⟩
def tL (w : World) (xs : List Int) (W : World) : Prop := ∃ v, W.heap[w.heap.size + 1]? = some (.cells #[v] 175 (0, 0)) ∧ (Kd.int .u64).R 125 W w.heap.size (fun k => w.heap.size + 5 ≤ k) v xs
theorem tL.keep {w : World} {xs : List Int} {a b : World} (h : Upd (fun k => k = w.heap.size + 2 ∨ k = w.heap.size + 2 + 1) a b) (ha : tL w xs a) : tL w xs b := by
 obtain ⟨v, h1, h2⟩ := ha
 exact ⟨v, h.heap h1 (by omega), sQ h2 h (fun k hk => by omega)⟩
theorem Gp (b r : ByteArray) (A : Option Addr) (c : Nat) (l xs : List Int) (w : World) (hr : (Kd.int .i64).C w A l.length l) (h : l.all gX = true) (hlen : l.length < 17592186044416) (hs : b.size ≤ maxLen) (hT : iT b l [] = some (xs, r)) :
  Calls Tryz.prog 179 #[.string b, .slice A l.length c] w fun e w' => ∃ v : Value, e = .returned (.tuple #[v, .string r, .int .i64 0]) ∧ (Kd.int .u64).R 125 w' w.heap.size (fun _ => True) v xs ∧ Below w.heap.size w w' := by
 have hmf : ∀ (fn : Fn) (first cap : Array Value) (w : World), (Instr.makeFunc fn first cap).run Tryz.prog w = .ok (.func fn first cap) w := fun _ _ _ _ => rfl
 have H := Lib.hid h; clear h
 have HT := Lib.hid hT; clear hT
 go_enter Tryz.func179, Tryz.ntmps179
 go_wp2_with fail
 refine (rE A c l _ true (Kd.wI hr _) H.out).mono ?_
 rintro e w1 ⟨rfl, rfl⟩
 go_wp2_with fail
 have hcl := (xC b A c l w (some (xs, r)) HT.out hr (xQ H.out) hlen hs).mono (R' := fun e w' => e = .returned (.tuple #[]) ∧ Rd w' (((w.alloc (.cells #[.slice A l.length c] 106 (0, 0))).alloc (.cells #[.slice none 0 0] 175 (0, 0))).heap.size + 1 + 1) r ∧ tL w xs w' ∧ Upd (fun k => k = ((w.alloc (.cells #[.slice A l.length c] 106 (0, 0))).alloc (.cells #[.slice none 0 0] 175 (0, 0))).heap.size + 1 + 1 ∨ k = w.heap.size + 1) (W3 ((w.alloc (.cells #[.slice A l.length c] 106 (0, 0))).alloc (.cells #[.slice none 0 0] 175 (0, 0))) b) w') (fun e w' ⟨hu, he, v', hv⟩ =>
   ⟨he, by simpa using hv.rd, ⟨v', hv.out, Kd.dn hv.own (fun k hk => by have := hk.2.2; rw [xk] at this; simp at this; omega)⟩, by simpa using hu⟩)
 refine (uw _ _ b r (· = w.heap.size + 1) (tL w xs) _ (fun k hk => by simp; omega) (fun x y hxy hx => tL.keep (by simpa using hxy) hx) (Lib.hid hcl)).mono ?_
 rintro e w2 ⟨rfl, ⟨v, hq, hv⟩, hu⟩
 have hbl : Below w.heap.size w w2 := hu.below (bI (bI (Below.refl _ _) _) _) (by simp; omega) (fun i h => by omega)
 have cq : w2.cell? ⟨w.heap.size + 1, 0, none⟩ = some v := aG hq 0
 clear hq
 go_wp2_with fail
 go_ret3
 exact ⟨v, rfl, Kd.dn hv (fun _ _ => trivial), hbl⟩
end Go.Y.Oct
namespace Go.Y.Given
open Go.Proofs.ah.av Go.Y.Oct
def gT.f (a0 : ByteArray) (l1 : List Int) : Option (List Int × ByteArray × Int) :=
 if a0.size ≤ 9223372036854775807 ∧ l1.length < 17592186044416 then
  if l1.all gX = true then
   match iT a0 l1 [] with
   | some (xs, r) => some (xs, r, 0)
   | none => some ([], ⟨#[]⟩, 2)
  else some ([], ⟨#[]⟩, 1)
 else none
theorem gT.calls (a0 : ByteArray) (A1 : Option Addr) (c1 : Nat) (l1 : List Int) (r1 : List Int) (r2 : ByteArray) (r3 : Int) (w : World) (hr1 : Kd.C (Kd.int .i64) w A1 l1.length l1) (_hc1 : l1.length ≤ c1) (h : gT.f a0 l1 = some (r1, r2, r3)) :
  Calls Tryz.prog 179 #[.string a0, .slice A1 l1.length c1] w fun e w' => ∃ v0_ : Value, e = .returned (.tuple #[v0_, .string r2, .int .i64 r3]) ∧ Kd.R (Kd.int .u64) 125 w' w.heap.size (fun _ => True) v0_ r1 ∧ Below w.heap.size w w' := by
 unfold gT.f at h
 by_cases hs : a0.size ≤ 9223372036854775807 ∧ l1.length < 17592186044416
 ·rw [if_pos hs] at h
  by_cases hw : l1.all gX = true
  ·rw [if_pos hw] at h
   cases hc : iT a0 l1 [] with
   | none =>
    rw [hc] at h
    simp only [Option.some.injEq, Prod.mk.injEq] at h
    obtain ⟨rfl, rfl, rfl⟩ := h
    exact (Ar a0 A1 c1 l1 w hr1 hw hs.2 hs.1 hc).mono fun e w' ⟨he, hb⟩ => ⟨_, he, Kd.fU _ _ _ _ _, hb⟩
   | some x =>
    obtain ⟨xs, r⟩ := x
    rw [hc] at h
    simp only [Option.some.injEq, Prod.mk.injEq] at h
    obtain ⟨rfl, rfl, rfl⟩ := h
    exact Gp a0 r A1 c1 l1 xs w hr1 hw hs.2 hs.1 hc
  ·rw [if_neg hw] at h
   simp only [Option.some.injEq, Prod.mk.injEq] at h
   obtain ⟨rfl, rfl, rfl⟩ := h
   exact (EK a0 A1 c1 l1 w hr1 (Bool.eq_false_iff.mpr hw)).mono fun e w' ⟨he, hb⟩ => ⟨_, he, Kd.fU _ _ _ _ _, hb⟩
 ·rw [if_neg hs] at h; cases h
end Go.Y.Given
namespace Go.Y.Oct
open Go.Proofs.ah.av Go.Proofs.ah.aT Go.Y.jO
theorem vE {b s r : ByteArray} {m : Nat} (h : eu b m = some (s, r)) : r.size + m ≤ b.size ∧ s.size ≤ b.size := by
 unfold eu at h
 split at h
 ·split at h
  ·simp only [Option.some.injEq, Prod.mk.injEq] at h
   obtain ⟨rfl, rfl⟩ := h
   rw [ByteArray.size_extract, ByteArray.size_extract]; omega
  ·cases h
 ·cases h
def iG (m : Nat) : Nat → ByteArray → List ByteArray → Option (List ByteArray)
 | 0, b, acc => if b.size = 0 then some acc else none
 | k + 1, b, acc => if b.size = 0 then some acc else
  match eu b m with
  | some (s, r) => iG m k r (acc ++ [s])
  | none => none
theorem Gj : (Tryz.prog.info? 9).map (fun i => (i.zero, i.size, i.bytes)) = some (some (.string ⟨#[]⟩), 1, 16) := by kernel_rfl
structure sM (B N g go : Nat) (w0 wr : World) (b : ByteArray) (v : Value) (xs : List ByteArray) : Prop where
 rd : Rd wr g b
 out : wr.heap[go]? = some (.cells #[v] 43 (0, 0))
 own : Kd.string.R 9 wr B (fun k => k ≠ g ∧ k ≠ go ∧ N ≤ k) v xs
 below : Below B w0 wr
def oJ (B g go : Nat) (w0 w : World) (T : Option (List ByteArray)) (e : Ending) (w' : World) : Prop :=
 Upd (fun k => k = g ∨ k = go) w w' ∧ match T with
  | some xs => e = .returned (.tuple #[]) ∧ ∃ v' r, sM B w.heap.size g go w0 w' r v' xs
  | none => e = .panicked short
theorem Ap {B N g go : Nat} {w0 w2 w3 : World} {b2 : ByteArray} {v1 : Value} {ys : List ByteArray} {A : Option Addr} {m c : Nat} (hb2 : Rd w2 g b2) (ho2 : w2.heap[go]? = some (.cells #[v1] 43 (0, 0)))
  (own3 : Kd.string.R 9 w3 B (fun k => k ≠ g ∧ k ≠ go ∧ N ≤ k) (.slice A m c) ys) (hb3 : Below B w0 w3) (hg3 : w2.grownBy w3 v1.ownBlock) (hv1 : ∀ k, v1.ownBlock = some k → k ≠ g ∧ k ≠ go ∧ N ≤ k) (hgo : g ≠ go) (hB : B ≤ go) :
  sM B N g go w0 (w3.setCell ⟨go, 0, none⟩ (.slice A m c)) b2 (.slice A m c) ys := by
 refine ⟨eD (jf hb2 hg3 (fun e => (hv1 g e.symm).1 rfl)) (by show g ≠ go; exact hgo) _, iB (jf ho2 hg3 (fun e => (hv1 go e.symm).2.1 rfl)) 0 _, sQ own3 ((Upd.refl (· = go) w3).set go 0 _ (.inl rfl)) (fun k h e => h.2.1 e), ?_⟩
 exact Below.setCell hb3 (by show B ≤ go; exact hB) _
theorem tO {B g go : Nat} {w0 w w' : World} {T : Option (List ByteArray)} (hT : T = none) (h : Upd (fun k => k = g ∨ k = go) w w') : oJ B g go w0 w T (.panicked short) w' := by
 subst hT; exact ⟨h, rfl⟩
theorem wV {B g go : Nat} {w0 w w' : World} {T : Option (List ByteArray)} {b1 : ByteArray} {xs : List ByteArray} {v : Value} (hT : some xs = T) (hr : sM B w.heap.size g go w0 w' b1 v xs) (h : Upd (fun k => k = g ∨ k = go) w w') : oJ B g go w0 w T (.returned (.tuple #[])) w' := by
 subst hT; exact ⟨h, rfl, v, b1, hr⟩
theorem IJ (B g gn go : Nat) (b : ByteArray) (n : Int) (v : Value) (w0 w : World) (T : Option (List ByteArray)) (hT : iG n.toNat b.size b [] = T)
  (hr : sM B w.heap.size g go w0 w b v []) (hgn : w.cell? ⟨gn, 0, none⟩ = some (.int .i64 n)) (hgg : gn ≠ g) (hgg2 : gn ≠ go) (hgo : g ≠ go) (hB : B ≤ g) (hB2 : B ≤ go)
  (h1 : 1 ≤ n) (h4 : n ≤ 4) (hs : b.size < 8796093022208) :
  Calls Tryz.prog 177 #[.pointer (some ⟨g, 0, none⟩), .pointer (some ⟨go, 0, none⟩), .pointer (some ⟨gn, 0, none⟩)] w fun e w' =>
   oJ B g go w0 w T e w' := by
 have HT := Lib.hid hT; clear hT
 have HR := Lib.hid hr; clear hr
 go_enter Tryz.func177, Tryz.ntmps177
 go_wp2_with fail
 go_loopg [] b.size (fun k wr => ∃ (b1 : ByteArray) (v1 : Value) (xs : List ByteArray), Hid (b1.size ≤ k ∧ xs.length + b1.size ≤ b.size ∧ iG n.toNat k b1 xs = T) ∧ Hid (sM B w.heap.size g go w0 wr b1 v1 xs) ∧ Hid (Upd (fun k => k = g ∨ k = go) w wr))
 case atStart => exact ⟨b, v, [], Lib.hid ⟨Nat.le_refl _, by simp, HT.out⟩, HR, Lib.hid (Upd.refl _ _)⟩
 case round =>
  obtain ⟨b1, v1, xs, H1, H2, H3⟩ := hrel
  have c0 := H2.out.rd.cell
  have c1 : wr.cell? ⟨go, 0, none⟩ = some v1 := aG H2.out.out 0
  have cn : wr.cell? ⟨gn, 0, none⟩ = some (.int .i64 n) := by
   have h := H3.out.block gn (World.block_lt_of_cell? w _ hgn) (fun h => h.elim hgg hgg2)
   have hc : wr.cell? ⟨gn, 0, none⟩ = w.cell? ⟨gn, 0, none⟩ := by simp [World.cell?, h]
   rw [hc]; exact hgn
  by_cases hz : b1.size = 0
  ·have he : b1 = ⟨#[]⟩ := by
    have h : b1.data = #[] := Array.eq_empty_of_size_eq_zero hz
    cases b1; simp at h; subst h; rfl
   subst he
   have HF : Hid (some xs = T) := Lib.hid (by
    have := H1.out.2.2
    cases gk with
    | zero => rw [iG, if_pos hz] at this; exact this
    | succ k => rw [iG, if_pos hz] at this; exact this)
   go_wp2_with fail
   go_end0
   exact wV HF.out H2.out H3.out
  ·have hne : ¬ b1.toList = [] := fun h => hz (by rw [(toList_nil_iff_emptyBytes b1).mp h]; rfl)
   have hne2 : (!b1.toList.isEmpty) = true := by simp [hne]
   obtain ⟨k, rfl⟩ : ∃ k, gk = k + 1 := ⟨gk - 1, by have := H1.out.1; omega⟩
   have hbd : Rd wr.drew g b1 := H2.out.rd
   have hod : wr.drew.heap[go]? = some (.cells #[v1] 43 (0, 0)) := H2.out.out
   have hwd : Kd.string.R 9 wr.drew B (fun k => k ≠ g ∧ k ≠ go ∧ w.heap.size ≤ k) v1 xs := Kd.iF H2.out.own
   have hld : Below B w0 wr.drew := qK H2.out.below
   have hsz : w.heap.size ≤ wr.drew.heap.size := H3.out.size
   have HS := Lib.hid hsz; clear hsz
   have HB := Lib.hid hbd; clear hbd
   have HO := Lib.hid hod; clear hod
   have HV := Lib.hid hwd; clear hwd
   have HE := Lib.hid hld; clear hld
   cases hc : eu b1 n.toNat with
   | none =>
    have HC := Lib.hid hc; clear hc
    have HF : Hid (T = none) := Lib.hid (by rw [← H1.out.2.2, iG, if_neg hz, HC.out])
    have H3d : Hid (Upd (fun k => k = g ∨ k = go) w wr.drew) := Lib.hid H3.out.drew
    go_wp2_with fail
    go_region_with (go_at_call 150; refine (xP g b1 n _ HB.out (by omega) h4 (by unfold maxLen; have := H1.out; omega) HC.out).mono ?_; rintro e w2 ⟨rfl, hu2⟩; refine vw ⟨rfl, tO HF.out (H3d.out.trans hu2 (fun _ e => .inl (.inl e)))⟩ w2 ?_)
    all_goals trivial
   | some x =>
    obtain ⟨s, r⟩ := x
    have HC := Lib.hid hc; clear hc
    have HSZ := Lib.hid (vE HC.out)
    go_wp2_with fail
    go_region_law (first | (refine oZ Tryz.func150 (by kernel_rfl) rfl #[.pointer (some ⟨g, 0, none⟩), .int .i64 n] (by rfl) (by rfl) (by rfl) (by (try simp only [List.map_toArray, List.map_cons, List.map_nil]); first | done | rfl) ?_; refine (EA g b1 n _ s r HB.out (by omega) h4 (by unfold maxLen; have := H1.out; omega) HC.out).mono ?_; rintro e w2 ⟨rfl, hb2, hu2⟩; refine ⟨_, rfl, ?_⟩; have c2 : w2.cell? ⟨go, 0, none⟩ = some v1 := aG (hu2.heap HO.out (by omega)) 0; have c4 : (w2.alloc (.cells #[.string s] 9)).cell? ⟨go, 0, none⟩ = some v1 := aG (alloc_old (hu2.heap HO.out (by omega))) 0) | (refine Kd.qV Kd.string (w0 := w0) (W := w2) B (by simp [Region.wanted]) (.tmp 9) (.tmp 13) 43 9 (.string ⟨#[]⟩) 16 (by rfl) Tryz.underlying43 Gj (by rfl) (by decide) (by omega) v1 xs s [.string s] (fun k => k ≠ g ∧ k ≠ go ∧ w.heap.size ≤ k) (fun _ => False) (by rfl) (by rfl) (by rfl) (fun _ h => h.elim) (fun k hk => ⟨by have := eU hb2; omega, by have := eU (hu2.heap HO.out (by omega)); omega, Nat.le_trans HS.out (Nat.le_trans hu2.size hk)⟩) (sQ HV.out hu2 (fun k h => h.1)) (hu2.below HE.out (Nat.le_trans hB (Nat.le_of_lt (eU HB.out))) (fun i h => by omega)) (Nat.le_trans hB (Nat.le_of_lt (eU hb2))) (by have := H1.out; omega) ?_; intro v2 w3 ho3 hb3 hg3 hat3; obtain ⟨A2, c2', rfl⟩ := Kd.cO ho3; rw [List.length_append, List.length_singleton] at ho3; have f3 : w3.frozen? ⟨go, 0, none⟩ = false := bB (jf (hu2.heap HO.out (by omega)) hg3 (fun e => (HV.out.1 go e.symm).2.1 rfl)) 0; have c3 : w3.cell? ⟨go, 0, none⟩ = some v1 := aG (jf (hu2.heap HO.out (by omega)) hg3 (fun e => (HV.out.1 go e.symm).2.1 rfl)) 0; have HO3 := Lib.hid ho3; clear ho3; have HB3 := Lib.hid hb3; clear hb3; have HG3 := Lib.hid hg3))
    all_goals
     go_wp2_with fail
     go_roundg k
     case measure => omega
     case rel => exact ⟨r, _, xs ++ [s], Lib.hid ⟨by have := H1.out.1; have := HSZ.out.1; omega, by rw [List.length_append, List.length_singleton]; have := H1.out.2.1; have := HSZ.out.1; omega, by have := H1.out.2.2; rw [iG, if_neg hz, HC.out] at this; exact this⟩, Lib.hid (Ap hb2 (hu2.heap HO.out (by omega)) HO3.out HB3.out HG3.out HV.out.1 hgo hB2), Lib.hid (Ag (H3.out.drew) hu2 HG3.out (fun k e => (HV.out.1 k e).2.2))⟩
theorem tN (c1 c2 : Value) (b : ByteArray) (S : Nat → Prop) (Q : World → Prop) (w : World) (hS : ∀ k, S k → k < w.heap.size) (hQ : ∀ a b, Upd (fun k => k = w.heap.size ∨ k = w.heap.size + 1) a b → Q a → Q b)
  (hcl : Hid (Calls Tryz.prog 177 #[.pointer (some ⟨w.heap.size + 1 + 1, 0, none⟩), c1, c2] (W3 w b) fun e w' => e = .returned (.tuple #[]) ∧ (∃ r, Rd w' (w.heap.size + 1 + 1) r) ∧ Q w' ∧ Upd (fun k => k = w.heap.size + 1 + 1 ∨ S k) (W3 w b) w')) :
  Calls Tryz.prog 148 #[.string b, .func (.func 177) #[] #[c1, c2]] w fun e w' => (∃ r : ByteArray, e = .returned (.tuple #[.string r, .int .i64 0])) ∧ Q w' ∧ Upd S w w' := by
 have hmf : ∀ (fn : Fn) (first cap : Array Value) (w : World), (Instr.makeFunc fn first cap).run Tryz.prog w = .ok (.func fn first cap) w := fun _ _ _ _ => rfl
 have HS := Lib.hid hS; clear hS
 have HQ := Lib.hid hQ; clear hQ
 go_enter_defers Tryz.func148, Tryz.ntmps148
 go_wp2_with fail
 refine hcl.out.mono ?_
 rintro e w1 ⟨rfl, ⟨r, hb1⟩, hq1, hu1⟩
 have s1 := hu1.heap (three _ _ _).1 (fun h => h.elim (fun h => by omega) (fun h => by have := HS.out _ h; omega))
 have s2 := hu1.heap (three _ _ _).2.1 (fun h => h.elim (fun h => by omega) (fun h => by have := HS.out _ h; omega))
 have c1 : w1.cell? ⟨w.heap.size + 1 + 1, 0, none⟩ = some (.string r) := hb1.cell
 have c2 : w1.cell? ⟨w.heap.size, 0, none⟩ = some (.string ⟨#[]⟩) := aG s1 0
 have f2 := bB s1 0
 have s3 := eD s2 (p := ⟨w.heap.size, 0, none⟩) (by show w.heap.size + 1 ≠ w.heap.size; omega) (.string r)
 have c3 : (w1.setCell ⟨w.heap.size, 0, none⟩ (.string r)).cell? ⟨w.heap.size + 1, 0, none⟩ = some (.int .i64 0) := aG s3 0
 have f3 := bB s2 0
 have S1 := Lib.hid s1; clear s1
 have S3 := Lib.hid s3; clear s3
 clear s2
 have HX := Lib.hid hq1; clear hq1
 have HU := Lib.hid ((nE w b S).trans hu1 (fun i h => h.elim (fun h => .inr (by omega)) .inl)); clear hu1
 go_wp2_with fail
 have hr := wO (v0 := .string ⟨#[]⟩) (v1 := .int .i64 0) (.string r) (.int .i64 0) S1.out S3.out HX.out HQ.out HU.out
 generalize (w1.setCell ⟨w.heap.size, 0, none⟩ (.string r)).setCell ⟨w.heap.size + 1, 0, none⟩ (.int .i64 0) = W at hr
 obtain ⟨r1, r2, r3, r4⟩ := hr
 refine leaves_cons (f := 166) (args := #[.pointer (some ⟨w.heap.size, 0, none⟩), .pointer (some ⟨w.heap.size + 1, 0, none⟩)]) (by simp) (by simp [go_sem]) ?_
 refine (qx _ _ _).mono ?_
 rintro e u' w'' ⟨rfl, rfl, rfl⟩
 have R3 := Lib.hid r3
 clear r3
 simp [Leaves, settle, results, Tryz.results148, go_sem, r1, r2]
 exact ⟨R3.out, r4⟩
theorem qJ (c1 c2 : Value) (b : ByteArray) (S : Nat → Prop) (w : World) (hS : ∀ k, S k → k < w.heap.size)
  (hcl : Hid (Calls Tryz.prog 177 #[.pointer (some ⟨w.heap.size + 1 + 1, 0, none⟩), c1, c2] (W3 w b) fun e w' => e = .panicked short ∧ Upd (fun k => k = w.heap.size + 1 + 1 ∨ S k) (W3 w b) w')) :
  Calls Tryz.prog 148 #[.string b, .func (.func 177) #[] #[c1, c2]] w fun e w' => e = .returned (.tuple #[.string ⟨#[]⟩, .int .i64 2]) ∧ Upd S w w' := by
 have hmf : ∀ (fn : Fn) (first cap : Array Value) (w : World), (Instr.makeFunc fn first cap).run Tryz.prog w = .ok (.func fn first cap) w := fun _ _ _ _ => rfl
 have HS := Lib.hid hS; clear hS
 go_enter_defers Tryz.func148, Tryz.ntmps148
 go_wp2_with fail
 refine hcl.out.mono ?_
 rintro e w1 ⟨rfl, hu1⟩
 have s1 := hu1.heap (three _ _ _).1 (fun h => h.elim (fun h => by omega) (fun h => by have := HS.out _ h; omega))
 have s2 := hu1.heap (three _ _ _).2.1 (fun h => h.elim (fun h => by omega) (fun h => by have := HS.out _ h; omega))
 have S1 := Lib.hid s1; clear s1
 have S2 := Lib.hid s2; clear s2
 have HU := Lib.hid ((nE w b S).trans hu1 (fun i h => h.elim (fun h => .inr (by omega)) .inl)); clear hu1
 go_wp2_with fail
 refine leaves_cons (f := 166) (args := #[.pointer (some ⟨w.heap.size, 0, none⟩), .pointer (some ⟨w.heap.size + 1, 0, none⟩)]) (by simp) (by simp [go_sem]) ?_
 refine (pO w.heap.size (w.heap.size + 1) ⟨#[]⟩ 0 [] w1 (by omega) S1.out S2.out).mono ?_
 rintro e u' w2 ⟨rfl, rfl, r1, r2, r4⟩
 have r1 : w2.cell? ⟨w.heap.size, 0, none⟩ = some (.string ⟨#[]⟩) := aG r1 0
 have r2 : w2.cell? ⟨w.heap.size + 1, 0, none⟩ = some (.int .i64 2) := aG r2 0
 have R4 := Lib.hid (HU.out.trans r4 (fun i h => .inr (by omega))); clear r4
 simp [Leaves, settle, results, Tryz.results148, go_sem, r1, r2]
 exact R4.out
theorem CF (b : ByteArray) (n : Int) (w : World) (h : decide (n = 1 ∨ n = 2 ∨ n = 4) = false) :
  Calls Tryz.prog 170 #[.string b, .int .i64 n] w fun e w' => e = .returned (.tuple #[.slice none 0 0, .int .i64 1]) ∧ Below w.heap.size w w' := by
 have H := Lib.hid h; clear h
 go_enter Tryz.func170, Tryz.ntmps170
 go_wp2_with fail
 refine (lU n _ false H.out).mono ?_
 rintro e w1 ⟨rfl, rfl⟩
 go_wp2_with fail
 go_ret2
 exact ⟨rfl, bI (Below.refl _ _) _⟩
theorem vN (b : ByteArray) (n : Int) (w : World) (T : Option (List ByteArray)) (hT : iG n.toNat b.size b [] = T) (h1 : 1 ≤ n) (h4 : n ≤ 4) (hs : b.size < 8796093022208) :
  Calls Tryz.prog 177 #[.pointer (some ⟨((w.alloc (.cells #[.int .i64 n] 3 (0, 0))).alloc (.cells #[.slice none 0 0] 43 (0, 0))).heap.size + 1 + 1, 0, none⟩), .pointer (some ⟨w.heap.size + 1, 0, none⟩), .pointer (some ⟨w.heap.size, 0, none⟩)] (W3 ((w.alloc (.cells #[.int .i64 n] 3 (0, 0))).alloc (.cells #[.slice none 0 0] 43 (0, 0))) b) fun e w' =>
   oJ w.heap.size (w.heap.size + 2 + 1 + 1) (w.heap.size + 1) w (W3 ((w.alloc (.cells #[.int .i64 n] 3 (0, 0))).alloc (.cells #[.slice none 0 0] 43 (0, 0))) b) T e w' := by
 obtain ⟨t1, t2⟩ := BU (w := w) (.cells #[.int .i64 n] 3 (0, 0)) (.cells #[.slice none 0 0] 43 (0, 0))
 have hb2 : Below w.heap.size w ((w.alloc (.cells #[.int .i64 n] 3 (0, 0))).alloc (.cells #[.slice none 0 0] 43 (0, 0))) := bI (bI (Below.refl _ _) _) _
 have hsz : ((w.alloc (.cells #[.int .i64 n] 3 (0, 0))).alloc (.cells #[.slice none 0 0] 43 (0, 0))).heap.size = w.heap.size + 2 := by simp
 generalize ((w.alloc (.cells #[.int .i64 n] 3 (0, 0))).alloc (.cells #[.slice none 0 0] 43 (0, 0))) = W at t1 t2 hb2 hsz
 have hbW : Below w.heap.size w (W3 W b) := Upd.below hb2 (nE W b (fun _ => False)) (by omega) (fun _ h => h.elim)
 have hrd := yN W b
 rw [hsz] at hrd ⊢
 exact IJ w.heap.size (w.heap.size + 2 + 1 + 1) w.heap.size (w.heap.size + 1) b n (.slice none 0 0) w (W3 W b) T hT
  ⟨hrd, qw b t2, Kd.fU _ _ _ _ _, hbW⟩ (aG (qw b t1) 0) (by omega) (by omega) (by omega) (by omega) (by omega) h1 h4 hs
theorem Ae (b : ByteArray) (n : Int) (w : World) (h : decide (n = 1 ∨ n = 2 ∨ n = 4) = true) (hs : b.size < 8796093022208) (hT : iG n.toNat b.size b [] = none) :
  Calls Tryz.prog 170 #[.string b, .int .i64 n] w fun e w' => e = .returned (.tuple #[.slice none 0 0, .int .i64 2]) ∧ Below w.heap.size w w' := by
 have hmf : ∀ (fn : Fn) (first cap : Array Value) (w : World), (Instr.makeFunc fn first cap).run Tryz.prog w = .ok (.func fn first cap) w := fun _ _ _ _ => rfl
 have hn : 1 ≤ n ∧ n ≤ 4 := by have := of_decide_eq_true h; omega
 obtain ⟨n0, n4⟩ := hn
 have H := Lib.hid h; clear h
 have HT := Lib.hid hT; clear hT
 go_enter Tryz.func170, Tryz.ntmps170
 go_wp2_with fail
 refine (lU n _ true H.out).mono ?_
 rintro e w1 ⟨rfl, rfl⟩
 go_wp2_with fail
 have hcl := (vN b n w none HT.out n0 n4 hs).mono (R' := fun e w' => e = .panicked short ∧ Upd (fun k => k = ((w.alloc (.cells #[.int .i64 n] 3 (0, 0))).alloc (.cells #[.slice none 0 0] 43 (0, 0))).heap.size + 1 + 1 ∨ k = w.heap.size + 1) (W3 ((w.alloc (.cells #[.int .i64 n] 3 (0, 0))).alloc (.cells #[.slice none 0 0] 43 (0, 0))) b) w') (fun e w' ⟨hu, he⟩ => ⟨he, by simpa using hu⟩)
 refine (qJ _ _ b (· = w.heap.size + 1) _ (fun k hk => by simp; omega) (Lib.hid hcl)).mono ?_
 rintro e w2 ⟨rfl, hu⟩
 have hbl : Below w.heap.size w w2 := hu.below (bI (bI (Below.refl _ _) _) _) (by simp; omega) (fun i h => by omega)
 go_wp2_with fail
 go_ret2
 exact ⟨rfl, hbl⟩
def qh (w : World) (xs : List ByteArray) (W : World) : Prop := ∃ v, W.heap[w.heap.size + 1]? = some (.cells #[v] 43 (0, 0)) ∧ Kd.string.R 9 W w.heap.size (fun k => w.heap.size + 5 ≤ k) v xs
theorem qh.keep {w : World} {xs : List ByteArray} {a b : World} (h : Upd (fun k => k = w.heap.size + 2 ∨ k = w.heap.size + 2 + 1) a b) (ha : qh w xs a) : qh w xs b := by
 obtain ⟨v, h1, h2⟩ := ha
 exact ⟨v, h.heap h1 (by omega), sQ h2 h (fun k hk => by omega)⟩
theorem Ez (b : ByteArray) (n : Int) (xs : List ByteArray) (w : World) (h : decide (n = 1 ∨ n = 2 ∨ n = 4) = true) (hs : b.size < 8796093022208) (hT : iG n.toNat b.size b [] = some xs) :
  Calls Tryz.prog 170 #[.string b, .int .i64 n] w fun e w' => ∃ v : Value, e = .returned (.tuple #[v, .int .i64 0]) ∧ Kd.string.R 9 w' w.heap.size (fun _ => True) v xs ∧ Below w.heap.size w w' := by
 have hmf : ∀ (fn : Fn) (first cap : Array Value) (w : World), (Instr.makeFunc fn first cap).run Tryz.prog w = .ok (.func fn first cap) w := fun _ _ _ _ => rfl
 have hn : 1 ≤ n ∧ n ≤ 4 := by have := of_decide_eq_true h; omega
 obtain ⟨n0, n4⟩ := hn
 have H := Lib.hid h; clear h
 have HT := Lib.hid hT; clear hT
 go_enter Tryz.func170, Tryz.ntmps170
 go_wp2_with fail
 refine (lU n _ true H.out).mono ?_
 rintro e w1 ⟨rfl, rfl⟩
 go_wp2_with fail
 have hcl := (vN b n w (some xs) HT.out n0 n4 hs).mono (R' := fun e w' => e = .returned (.tuple #[]) ∧ (∃ r, Rd w' (((w.alloc (.cells #[.int .i64 n] 3 (0, 0))).alloc (.cells #[.slice none 0 0] 43 (0, 0))).heap.size + 1 + 1) r) ∧ qh w xs w' ∧ Upd (fun k => k = ((w.alloc (.cells #[.int .i64 n] 3 (0, 0))).alloc (.cells #[.slice none 0 0] 43 (0, 0))).heap.size + 1 + 1 ∨ k = w.heap.size + 1) (W3 ((w.alloc (.cells #[.int .i64 n] 3 (0, 0))).alloc (.cells #[.slice none 0 0] 43 (0, 0))) b) w') (fun e w' ⟨hu, he, v', r, hv⟩ =>
   ⟨he, ⟨r, by simpa using hv.rd⟩, ⟨v', hv.out, Kd.dn hv.own (fun k hk => by have := hk.2.2; rw [xk] at this; simp at this; omega)⟩, by simpa using hu⟩)
 refine (tN _ _ b (· = w.heap.size + 1) (qh w xs) _ (fun k hk => by simp; omega) (fun x y hxy hx => qh.keep (by simpa using hxy) hx) (Lib.hid hcl)).mono ?_
 rintro e w2 ⟨⟨r, rfl⟩, ⟨v, hq, hv⟩, hu⟩
 have hbl : Below w.heap.size w w2 := hu.below (bI (bI (Below.refl _ _) _) _) (by simp; omega) (fun i h => by omega)
 have cq : w2.cell? ⟨w.heap.size + 1, 0, none⟩ = some v := aG hq 0
 clear hq
 go_wp2_with fail
 go_ret2
 exact ⟨v, rfl, Kd.dn hv (fun _ _ => trivial), hbl⟩
end Go.Y.Oct
namespace Go.Y.Given
open Go.Proofs.ah.av Go.Y.Oct
def fK.f (a0 : ByteArray) (a1 : Int) : Option (List ByteArray × Int) :=
 if a0.size < 8796093022208 then
  if a1 = 1 ∨ a1 = 2 ∨ a1 = 4 then
   match iG a1.toNat a0.size a0 [] with
   | some xs => some (xs, 0)
   | none => some ([], 2)
  else some ([], 1)
 else none
theorem fK.calls (a0 : ByteArray) (a1 : Int) (r1 : List ByteArray) (r2 : Int) (w : World) (h : fK.f a0 a1 = some (r1, r2)) :
  Calls Tryz.prog 170 #[.string a0, .int .i64 a1] w fun e w' => ∃ v0_ : Value, e = .returned (.tuple #[v0_, .int .i64 r2]) ∧ Kd.R Kd.string 9 w' w.heap.size (fun _ => True) v0_ r1 ∧ Below w.heap.size w w' := by
 unfold fK.f at h
 by_cases hs : a0.size < 8796093022208
 ·rw [if_pos hs] at h
  by_cases hw : a1 = 1 ∨ a1 = 2 ∨ a1 = 4
  ·rw [if_pos hw] at h
   cases hc : iG a1.toNat a0.size a0 [] with
   | none =>
    rw [hc] at h
    simp only [Option.some.injEq, Prod.mk.injEq] at h
    obtain ⟨rfl, rfl⟩ := h
    exact (Ae a0 a1 w (decide_eq_true hw) hs hc).mono fun e w' ⟨he, hb⟩ => ⟨_, he, Kd.fU _ _ _ _ _, hb⟩
   | some xs =>
    rw [hc] at h
    simp only [Option.some.injEq, Prod.mk.injEq] at h
    obtain ⟨rfl, rfl⟩ := h
    exact Ez a0 a1 xs w (decide_eq_true hw) hs hc
  ·rw [if_neg hw] at h
   simp only [Option.some.injEq, Prod.mk.injEq] at h
   obtain ⟨rfl, rfl⟩ := h
   exact (CF a0 a1 w (decide_eq_false hw)).mono fun e w' ⟨he, hb⟩ => ⟨_, he, Kd.fU _ _ _ _ _, hb⟩
 ·rw [if_neg hs] at h; cases h
end Go.Y.Given
namespace Go.Y.Given
theorem xM : ∀ x : List UInt8, Op.bytesLess x x = false
 | [] => rfl
 | a :: x => by
  rw [Op.bytesLess, xM x]
  simp
theorem BF {x y : List UInt8} (h : Op.bytesLess x y = true) : (y == x) = false := by
 rw [beq_eq_false_iff_ne]
 rintro rfl
 rw [xM] at h; exact absurd h (by decide)
theorem Bo : ∀ {x y : List UInt8}, Op.bytesLess y x = false → Op.bytesLess x y = false → (y == x) = true
  | [], [], _, _ => rfl
  | [], _ :: _, _, h => by rw [Op.bytesLess] at h; exact absurd h (by decide)
  | _ :: _, [], h, _ => by rw [Op.bytesLess] at h; exact absurd h (by decide)
  | a :: x, b :: y, h1, h2 => by
    rw [Op.bytesLess, Bool.or_eq_false_iff, Bool.and_eq_false_iff] at h1 h2
    have e : a = b := by
      have n1 : ¬ b < a := by simpa using h1.1
      have n2 : ¬ a < b := by simpa using h2.1
      exact UInt8.toNat_inj.mp (by rw [UInt8.lt_iff_toNat_lt] at n1 n2; omega)
    subst e
    have k1 : Op.bytesLess y x = false := by rcases h1.2 with h | h; · simp at h
                                             · exact h
    have k2 : Op.bytesLess x y = false := by rcases h2.2 with h | h; · simp at h
                                             · exact h
    have := Bo k1 k2
    rw [beq_iff_eq] at this ⊢
    rw [this]
end Go.Y.Given
namespace Go.Y.PRd
open Go.Proofs.ah.av Go.Proofs.ah.aT Go.Proofs.ah.aU Go.Y.Given
attribute [local go_sem] dB dD dQ dP cK cB dA dF
def je : Option Int → Value
 | none => .nilIface
 | some c => .iface 0 (.int .i64 c)
theorem iZ : je none = .nilIface := rfl
theorem jd (c : Int) : je (some c) = .iface 0 (.int .i64 c) := rfl
theorem info5 : (Tryz.prog.info? 5).map (fun i => (i.zero, i.size, i.bytes)) = some (some (.int .u8 0), 1, 1) := by kernel_rfl
theorem nA : (Tryz.prog.info? 9).map (fun i => (i.zero, i.size, i.bytes)) = some (some (.string ⟨#[]⟩), 1, 16) := by kernel_rfl
end Go.Y.PRd
namespace Go.Y.PRd
open Go.Proofs.ah.av Go.Proofs.ah.aT Go.Proofs.ah.aU Go.Y.Given
attribute [local go_sem] dB dD dQ dP cK cB dA dF
def gB.j0 : Nat → ByteArray → Int → ByteArray → Bool → Option (ByteArray × Int × Int × Bool)
 | 0, _, _, _, _ => none
 | k + 1, x0, x1, x7, x27 => if x27 = true then (if 0 ≤ x1 then (if x1 ≤ (wrap64 ((x0.size : Int) - (x7.size : Int))) then (if (wrap64 ((x0.size : Int) - (x7.size : Int))) ≤ (x0.size : Int) then (some (x0.extract (x1 : Int).toNat ((wrap64 ((x0.size : Int) - (x7.size : Int))) : Int).toNat, (-1), wrap64 ((x0.size : Int) - (x7.size : Int)), true)) else (none)) else (none)) else (none)) else (if 0 ≤ x1 then (if x1 ≤ (x0.size : Int) then ((gT.f (x0.extract (x1 : Int).toNat x0.size) (([2] : List Int))).bind fun bt108 => (if bt108.2.2 = 0 then (if 0 < (bt108.1.length : Int) then (if (rd bt108.1 0) < 49152 then (some ((⟨#[]⟩ : ByteArray), 0, 0, false)) else (some ((⟨#[]⟩ : ByteArray), wrap64 (IntKind.u64.wrap ((rd bt108.1 0) - 49152)), wrap64 (x1 + 2), true))) else (none)) else (some ((⟨#[]⟩ : ByteArray), 0, 0, false)))) else (none)) else (none))
def gB.f (k : Nat) (a0 : ByteArray) (a1 : Int) : Option (ByteArray × Int × Int × Bool) := if 0 ≤ a1 then (if a1 ≤ (a0.size : Int) then ((gD.f (a0.extract (a1 : Int).toNat a0.size) 1).bind fun bt102 => (if bt102.2.2 = 0 then (gB.j0 k a0 a1 bt102.2.1 (decide ((bt102.1.size : Int) ≤ 63))) else (gB.j0 k a0 a1 bt102.2.1 false))) else (none)) else (none)
theorem gB.calls (k : Nat) (a0 : ByteArray) (a1 : Int) (r1 : ByteArray) (r2 : Int) (r3 : Int) (r4 : Bool) (w : World) (h : gB.f k a0 a1 = some (r1, r2, r3, r4)) :
    Calls Tryz.prog 176 #[.string a0, .int .i64 a1] w fun e w' => e = .returned (.tuple #[.agg #[.string r1, .int .i64 r2, .int .i64 r3], .bool r4]) ∧ Below w.heap.size w w' := by
  have hu171 := Tryz.underlying171
  have HB := aj.mk (Below.refl w.heap.size w)
  have H : (if 0 ≤ a1 then (if a1 ≤ (a0.size : Int) then ((gD.f (a0.extract (a1 : Int).toNat a0.size) 1).bind fun bt102 => (if bt102.2.2 = 0 then (gB.j0 k a0 a1 bt102.2.1 (decide ((bt102.1.size : Int) ≤ 63))) else (gB.j0 k a0 a1 bt102.2.1 false))) else (none)) else (none)) = some (r1, r2, r3, r4) := h
  clear h
  obtain ⟨c3, H⟩ := gd_ H
  have c3b0 := eq_true c3
  have c3b1 : decide (0 ≤ a1) = true := decide_eq_true c3
  clear c3
  obtain ⟨c4, H⟩ := gd_ H
  have c4b0 := eq_true c4
  have c4b1 : decide (a1 ≤ (a0.size : Int)) = true := decide_eq_true c4
  clear c4
  replace H := Option.bind_eq_some_iff.mp H
  obtain ⟨⟨t102, t103, t104⟩, A50, H⟩ := H
  replace H : (if t104 = 0 then (gB.j0 k a0 a1 t103 (decide ((t102.size : Int) ≤ 63))) else (gB.j0 k a0 a1 t103 false)) = some (r1, r2, r3, r4) := H
  have A5 := aj.mk A50
  clear A50
  have HC6 := aj.mk H
  clear H
  go_enter Tryz.func176, Tryz.ntmps176
  go_upto_region 2 with (first | ((with_reducible refine bU (N := 4) rfl ?_); (try (refine dZ (by rfl) ?_; dsimp only)); refine dw ?hg (N := 4) ?hd (cs := #[.string (⟨#[]⟩ : ByteArray), .int .i64 0, .int .i64 0]) (t := 171) ?hr ?_; (case hd => rfl); (case hg => rfl); (case hr => (go_simp; done)); intro gb101 hg w7 hbox hb; have BK101 := aj.mk (hbox); have GW101 := aj.mk (ge_ hg (ay HB.out)); have GE101 := aj.mk (ge_ hg (ay HB.out)); replace HB := aj.mk (au HB.out hb); clear hb hbox hg) | (refine gl_ (some 17) Tryz.func117 #[.string (a0.extract (a1 : Int).toNat a0.size), .int .i64 1] ?_; (with_reducible refine (gD.calls (a0.extract (a1 : Int).toNat a0.size) 1 t102 t103 t104 _ A5.out).mono ?_); rintro e w8 ⟨rfl, hb⟩; refine ⟨_, rfl, ?_⟩; replace BK101 := aj.mk (aI (by ((exact BK101.out))) hb); replace HB := aj.mk (au HB.out hb); (try clear hb)))
  go_cut [27] (fun v27 wc => ∃ (kq : Nat) (x27_5 : Bool), v27 = .bool x27_5 ∧ aj (gB.j0 kq a0 a1 t103 x27_5 = some (r1, r2, r3, r4)) ∧ aj (kq ≤ k) ∧ aj (wc.heap[gb101]? = some (.cells #[.string (⟨#[]⟩ : ByteArray), .int .i64 0, .int .i64 0] 171 (0, 0))) ∧ aj (Below w.heap.size w wc))
  case first =>
   have H := HC6.out
   clear HC6
   by_cases c9 : t104 = 0
   focus
    rw [if_pos c9] at H
    have c9b0 : (t104 == 0) = true := beq_iff_eq.mpr c9
    have c9b1 : (t104 != 0) = false := bne_eq_false_iff_eq.mpr c9
    clear c9
   rotate_left
   focus
    rw [if_neg c9] at H
    have c9b0 : (t104 == 0) = false := beq_eq_false_iff_ne.mpr c9
    have c9b1 : (t104 != 0) = true := bne_iff_ne.mpr c9
   rotate_left
   all_goals
    (skip)
    have H' := aj.mk H
    clear H
    go_wp2
    go_meet
   ·case rel => exact ⟨_, (decide ((t102.size : Int) ≤ 63)), (by rfl), H', ⟨by omega⟩, ⟨by (with_reducible repeat ((refine aA ?_ _))); exact BK101.out⟩, ⟨HB.out⟩⟩
   ·case rel => exact ⟨_, (false), (by rfl), H', ⟨by omega⟩, ⟨by (with_reducible repeat ((refine aA ?_ _))); exact BK101.out⟩, ⟨HB.out⟩⟩
  case rest =>
   clear HC6
   (try clear c3b0)
   (try clear c3b1)
   (try clear c4b0)
   (try clear c4b1)
   obtain ⟨kq, x27_5, rfl, HA, HJ5, BK101, HB⟩ := hcut
   cases kq with
   | zero => exact absurd HA.out (by simp [gB.j0])
   | succ kj5 =>
    have H := HA.out
    clear HA
    simp only [gB.j0] at H
    by_cases c10 : x27_5 = true
    focus
     subst c10
     rw [if_pos rfl] at H
    rotate_left
    focus
     replace c10 := Bool.eq_false_iff.mpr c10
     subst c10
     rw [if_neg ff_] at H
    rotate_left
    all_goals
     obtain ⟨c11, H⟩ := gd_ H
     have c11b0 := eq_true c11
     have c11b1 : decide (0 ≤ a1) = true := decide_eq_true c11
     clear c11
     obtain ⟨c12, H⟩ := gd_ H
     have c12b0 := eq_true c12
    focus
     have c12b1 : decide (a1 ≤ (wrap64 ((a0.size : Int) - (t103.size : Int)))) = true := decide_eq_true c12
     clear c12
     obtain ⟨c13, H⟩ := gd_ H
     have c13b0 := eq_true c13
     have c13b1 : decide ((wrap64 ((a0.size : Int) - (t103.size : Int))) ≤ (a0.size : Int)) = true := decide_eq_true c13
     clear c13
    rotate_left
    focus
     have c16b1 : decide (a1 ≤ (a0.size : Int)) = true := decide_eq_true c12
     clear c12
     obtain ⟨y105, hy105⟩ : ∃ y_ : List Int, y_ = (([2] : List Int)) := ⟨_, rfl⟩
     replace H : ((gT.f (a0.extract (a1 : Int).toNat a0.size) y105).bind fun bt108 => (if bt108.2.2 = 0 then (if 0 < (bt108.1.length : Int) then (if (rd bt108.1 0) < 49152 then (some ((⟨#[]⟩ : ByteArray), 0, 0, false)) else (some ((⟨#[]⟩ : ByteArray), wrap64 (IntKind.u64.wrap ((rd bt108.1 0) - 49152)), wrap64 (a1 + 2), true))) else (none)) else (some ((⟨#[]⟩ : ByteArray), 0, 0, false)))) = some (r1, r2, r3, r4) := by (rw [hy105]; with_reducible exact H)
     have Ny105 := aj.mk hy105
     clear hy105
     replace H := Option.bind_eq_some_iff.mp H
     obtain ⟨⟨t108, t109, t110⟩, A170, H⟩ := H
     replace H : (if t110 = 0 then (if 0 < (t108.length : Int) then (if (rd t108 0) < 49152 then (some ((⟨#[]⟩ : ByteArray), 0, 0, false)) else (some ((⟨#[]⟩ : ByteArray), wrap64 (IntKind.u64.wrap ((rd t108 0) - 49152)), wrap64 (a1 + 2), true))) else (none)) else (some ((⟨#[]⟩ : ByteArray), 0, 0, false))) = some (r1, r2, r3, r4) := H
     have A17 := aj.mk A170
     clear A170
     by_cases c18 : t110 = 0
     focus
      rw [if_pos c18] at H
      have c18b0 : (t110 == 0) = true := beq_iff_eq.mpr c18
      have c18b1 : (t110 != 0) = false := bne_eq_false_iff_eq.mpr c18
      clear c18
      obtain ⟨c19, H⟩ := gd_ H
      have c19b0 : decide (0 < (t108.length : Int)) = true := decide_eq_true c19
      have c19b1 : decide (0 < t108.length) = true := decide_eq_true (by omega)
      clear c19
      by_cases c20 : (rd t108 0) < 49152
      focus
       rw [if_pos c20] at H
       have c20b0 : decide ((rd t108 0) < 49152) = true := decide_eq_true c20
      rotate_left
      focus
       rw [if_neg c20] at H
       have c20b0 : decide ((rd t108 0) < 49152) = false := decide_eq_false c20
      rotate_left
      all_goals
       clear c20
     rotate_left 2
     focus
      rw [if_neg c18] at H
      have c18b0 : (t110 == 0) = false := beq_eq_false_iff_ne.mpr c18
      have c18b1 : (t110 != 0) = true := bne_iff_ne.mpr c18
     rotate_left
    rotate_left 3
    all_goals
     simp only [Option.some.injEq, Prod.mk.injEq] at H
     obtain ⟨rfl, rfl, rfl, rfl⟩ := H
    focus
     obtain ⟨hcz14_0, hcz14_1, hcz14_2, hfz14_0, hfz14_1, hfz14_2⟩ := z3_ BK101.out
     go_wp2
     refine bodyPost_ret (iE rfl _ _ gb101 171 #[.string (a0.extract (a1 : Int).toNat ((wrap64 ((a0.size : Int) - (t103.size : Int))) : Int).toNat), .int .i64 (-1), .int .i64 (wrap64 ((a0.size : Int) - (t103.size : Int)))] (0, 0) _ rfl (by (with_reducible repeat ((refine aA ?_ _))); refine bM (cs := #[.string (a0.extract (a1 : Int).toNat ((wrap64 ((a0.size : Int) - (t103.size : Int))) : Int).toNat), .int .i64 (-1), .int .i64 0]) ?_ 2 _ rfl; (with_reducible repeat ((refine aA ?_ _))); refine bM (cs := #[.string (a0.extract (a1 : Int).toNat ((wrap64 ((a0.size : Int) - (t103.size : Int))) : Int).toNat), .int .i64 0, .int .i64 0]) ?_ 1 _ rfl; (with_reducible repeat ((refine aA ?_ _))); refine bM (cs := #[.string (⟨#[]⟩ : ByteArray), .int .i64 0, .int .i64 0]) ?_ 0 _ rfl; (with_reducible repeat ((refine aA ?_ _))); exact BK101.out) Tryz.underlying171 rfl (by kernel_rfl)) rfl ?_
    rotate_left
    focus
     go_wp2_with (first | ((with_reducible refine bU (N := 43) rfl ?_); (try (refine dZ (by rfl) ?_; dsimp only)); refine Kd.kE (Kd.int .i64) _ 3 ?hg (N := 43) ?hd (xs := ([2] : List Int)) (inner := [.int .i64 2]) (ok := fun _ => True) (okp := fun _ => True) ?hr ?hp (fun _ hk => hk) trivial (Below.refl _ _) (Nat.le_refl _) (by simp) ?_; (case hd => rfl); (case hg => rfl); (case hr => (go_simp; done)); (case hp => exact (bF.one (show Kd.M (Kd.int .i64) _ _ _ 2 [.int .i64 2] from rfl) (bF.none _ _))); intro v106 w21 ho22 hb hg_ hnew_; clear hg_ hnew_; ((rw [← Ny105.out] at ho22)); have HO107 := aj.mk (Kd.bS ho22 (ay HB.out)); replace BK101 := aj.mk (aI (by ((exact BK101.out))) hb); replace HB := aj.mk (au HB.out hb); clear hb ho22; obtain ⟨Ao23, co23, eo23⟩ := Kd.cO HO107.out; subst eo23) | (refine gl_ (some 44) Tryz.func179 #[.string (a0.extract (a1 : Int).toNat a0.size), .slice Ao23 y105.length co23] ?_; (with_reducible refine (gT.calls (a0.extract (a1 : Int).toNat a0.size) _ _ y105 t108 t109 t110 _ ?side1 ?side2 A17.out).mono ?_); (case side1 => exact (Kd.aX HO107.out).2.2); (case side2 => exact (Kd.aX HO107.out).2.1); rintro e w24 ⟨v111, rfl, ho0, hb⟩; refine ⟨_, rfl, ?_⟩; replace HO107 := aj.mk (Kd.bD (by ((exact HO107.out))) hb); have HO112 := aj.mk (Kd.bS ho0 (ay HB.out)); replace BK101 := aj.mk (aI (by ((exact BK101.out))) hb); replace HB := aj.mk (au HB.out hb); (try clear hb); (try clear ho0); obtain ⟨Ao25, co25, eo25⟩ := Kd.cO HO112.out; subst eo25; have p113 : 0 ≤ (0 : Int) := (by omega); have q113 : 0 < (t108.length : Int) := of_decide_eq_true (by assumption); obtain ⟨ad113, e113, hx113_0⟩ := Kd.oF (Kd.aX HO112.out).2.2 0 p113 q113; cases e113; have qi113 : (0 < t108.length) = True := eq_true (by omega); (try rw [show ((0 : Int)).toNat = 0 from rfl] at hx113_0); (try rw [Addr.add_zero'] at hx113_0); replace p113 := eq_true p113; replace q113 := eq_true q113; obtain ⟨hcz26_0, hcz26_1, hcz26_2, hfz26_0, hfz26_1, hfz26_2⟩ := z3_ BK101.out))
     refine bodyPost_ret (iE rfl _ _ gb101 171 #[.string (⟨#[]⟩ : ByteArray), .int .i64 0, .int .i64 0] (0, 0) _ rfl (by (with_reducible repeat ((refine aA ?_ _))); refine bM (cs := #[.string (⟨#[]⟩ : ByteArray), .int .i64 0, .int .i64 0]) ?_ 2 _ rfl; (with_reducible repeat ((refine aA ?_ _))); refine bM (cs := #[.string (⟨#[]⟩ : ByteArray), .int .i64 0, .int .i64 0]) ?_ 1 _ rfl; (with_reducible repeat ((refine aA ?_ _))); refine bM (cs := #[.string (⟨#[]⟩ : ByteArray), .int .i64 0, .int .i64 0]) ?_ 0 _ rfl; (with_reducible repeat ((refine aA ?_ _))); exact BK101.out) Tryz.underlying171 rfl (by kernel_rfl)) rfl ?_
    rotate_left
    focus
     go_wp2_with (first | ((with_reducible refine bU (N := 43) rfl ?_); (try (refine dZ (by rfl) ?_; dsimp only)); refine Kd.kE (Kd.int .i64) _ 3 ?hg (N := 43) ?hd (xs := ([2] : List Int)) (inner := [.int .i64 2]) (ok := fun _ => True) (okp := fun _ => True) ?hr ?hp (fun _ hk => hk) trivial (Below.refl _ _) (Nat.le_refl _) (by simp) ?_; (case hd => rfl); (case hg => rfl); (case hr => (go_simp; done)); (case hp => exact (bF.one (show Kd.M (Kd.int .i64) _ _ _ 2 [.int .i64 2] from rfl) (bF.none _ _))); intro v106 w27 ho28 hb hg_ hnew_; clear hg_ hnew_; ((rw [← Ny105.out] at ho28)); have HO107 := aj.mk (Kd.bS ho28 (ay HB.out)); replace BK101 := aj.mk (aI (by ((exact BK101.out))) hb); replace HB := aj.mk (au HB.out hb); clear hb ho28; obtain ⟨Ao29, co29, eo29⟩ := Kd.cO HO107.out; subst eo29) | (refine gl_ (some 44) Tryz.func179 #[.string (a0.extract (a1 : Int).toNat a0.size), .slice Ao29 y105.length co29] ?_; (with_reducible refine (gT.calls (a0.extract (a1 : Int).toNat a0.size) _ _ y105 t108 t109 t110 _ ?side1 ?side2 A17.out).mono ?_); (case side1 => exact (Kd.aX HO107.out).2.2); (case side2 => exact (Kd.aX HO107.out).2.1); rintro e w30 ⟨v111, rfl, ho0, hb⟩; refine ⟨_, rfl, ?_⟩; replace HO107 := aj.mk (Kd.bD (by ((exact HO107.out))) hb); have HO112 := aj.mk (Kd.bS ho0 (ay HB.out)); replace BK101 := aj.mk (aI (by ((exact BK101.out))) hb); replace HB := aj.mk (au HB.out hb); (try clear hb); (try clear ho0); obtain ⟨Ao31, co31, eo31⟩ := Kd.cO HO112.out; subst eo31; have p113 : 0 ≤ (0 : Int) := (by omega); have q113 : 0 < (t108.length : Int) := of_decide_eq_true (by assumption); obtain ⟨ad113, e113, hx113_0⟩ := Kd.oF (Kd.aX HO112.out).2.2 0 p113 q113; cases e113; have qi113 : (0 < t108.length) = True := eq_true (by omega); (try rw [show ((0 : Int)).toNat = 0 from rfl] at hx113_0); (try rw [Addr.add_zero'] at hx113_0); replace p113 := eq_true p113; replace q113 := eq_true q113; have p114 : 0 ≤ (0 : Int) := (by omega); have q114 : 0 < (t108.length : Int) := of_decide_eq_true (by assumption); obtain ⟨ad114, e114, hx114_0⟩ := Kd.oF (Kd.aX HO112.out).2.2 0 p114 q114; obtain rfl : ad113 = ad114 := (by injection e114); have qi114 : (0 < t108.length) = True := eq_true (by omega); (try rw [show ((0 : Int)).toNat = 0 from rfl] at hx114_0); (try rw [Addr.add_zero'] at hx114_0); replace p114 := eq_true p114; replace q114 := eq_true q114; obtain ⟨hcz32_0, hcz32_1, hcz32_2, hfz32_0, hfz32_1, hfz32_2⟩ := z3_ BK101.out))
     refine bodyPost_ret (iE rfl _ _ gb101 171 #[.string (⟨#[]⟩ : ByteArray), .int .i64 (wrap64 (IntKind.u64.wrap ((rd t108 0) - 49152))), .int .i64 (wrap64 (a1 + 2))] (0, 0) _ rfl (by (with_reducible repeat ((refine aA ?_ _))); refine bM (cs := #[.string (⟨#[]⟩ : ByteArray), .int .i64 (wrap64 (IntKind.u64.wrap ((rd t108 0) - 49152))), .int .i64 0]) ?_ 2 _ rfl; (with_reducible repeat ((refine aA ?_ _))); refine bM (cs := #[.string (⟨#[]⟩ : ByteArray), .int .i64 0, .int .i64 0]) ?_ 1 _ rfl; (with_reducible repeat ((refine aA ?_ _))); refine bM (cs := #[.string (⟨#[]⟩ : ByteArray), .int .i64 0, .int .i64 0]) ?_ 0 _ rfl; (with_reducible repeat ((refine aA ?_ _))); exact BK101.out) Tryz.underlying171 rfl (by kernel_rfl)) rfl ?_
    rotate_left
    focus
     go_wp2_with (first | ((with_reducible refine bU (N := 43) rfl ?_); (try (refine dZ (by rfl) ?_; dsimp only)); refine Kd.kE (Kd.int .i64) _ 3 ?hg (N := 43) ?hd (xs := ([2] : List Int)) (inner := [.int .i64 2]) (ok := fun _ => True) (okp := fun _ => True) ?hr ?hp (fun _ hk => hk) trivial (Below.refl _ _) (Nat.le_refl _) (by simp) ?_; (case hd => rfl); (case hg => rfl); (case hr => (go_simp; done)); (case hp => exact (bF.one (show Kd.M (Kd.int .i64) _ _ _ 2 [.int .i64 2] from rfl) (bF.none _ _))); intro v106 w33 ho34 hb hg_ hnew_; clear hg_ hnew_; ((rw [← Ny105.out] at ho34)); have HO107 := aj.mk (Kd.bS ho34 (ay HB.out)); replace BK101 := aj.mk (aI (by ((exact BK101.out))) hb); replace HB := aj.mk (au HB.out hb); clear hb ho34; obtain ⟨Ao35, co35, eo35⟩ := Kd.cO HO107.out; subst eo35) | (refine gl_ (some 44) Tryz.func179 #[.string (a0.extract (a1 : Int).toNat a0.size), .slice Ao35 y105.length co35] ?_; (with_reducible refine (gT.calls (a0.extract (a1 : Int).toNat a0.size) _ _ y105 t108 t109 t110 _ ?side1 ?side2 A17.out).mono ?_); (case side1 => exact (Kd.aX HO107.out).2.2); (case side2 => exact (Kd.aX HO107.out).2.1); rintro e w36 ⟨v111, rfl, ho0, hb⟩; refine ⟨_, rfl, ?_⟩; replace HO107 := aj.mk (Kd.bD (by ((exact HO107.out))) hb); have HO112 := aj.mk (Kd.bS ho0 (ay HB.out)); replace BK101 := aj.mk (aI (by ((exact BK101.out))) hb); replace HB := aj.mk (au HB.out hb); (try clear hb); (try clear ho0); obtain ⟨hcz37_0, hcz37_1, hcz37_2, hfz37_0, hfz37_1, hfz37_2⟩ := z3_ BK101.out))
     refine bodyPost_ret (iE rfl _ _ gb101 171 #[.string (⟨#[]⟩ : ByteArray), .int .i64 0, .int .i64 0] (0, 0) _ rfl (by (with_reducible repeat ((refine aA ?_ _))); refine bM (cs := #[.string (⟨#[]⟩ : ByteArray), .int .i64 0, .int .i64 0]) ?_ 2 _ rfl; (with_reducible repeat ((refine aA ?_ _))); refine bM (cs := #[.string (⟨#[]⟩ : ByteArray), .int .i64 0, .int .i64 0]) ?_ 1 _ rfl; (with_reducible repeat ((refine aA ?_ _))); refine bM (cs := #[.string (⟨#[]⟩ : ByteArray), .int .i64 0, .int .i64 0]) ?_ 0 _ rfl; (with_reducible repeat ((refine aA ?_ _))); exact BK101.out) Tryz.underlying171 rfl (by kernel_rfl)) rfl ?_
    rotate_left
    all_goals
     exact ⟨by rfl, by repeat ((with_reducible first | exact HB.out | refine dG ?_ GE101.out))⟩
mutual
def bQ.j0 : Nat → ByteArray → Int → Bool → Option (ByteArray × Int × Int)
 | 0, _, _, _ => none
 | k + 1, x0, x1, x19 => if x19 = true then (some ((⟨#[]⟩ : ByteArray), 0, 1)) else (bQ.l0 k x0 x1 (⟨#[]⟩ : ByteArray) (-1) x1)
def bQ.j3 : Nat → Int → ByteArray → Int → Option (ByteArray × Int × Int)
 | 0, _, _, _ => none
 | k + 1, x1, x7, x8 => (bX.f x7).bind fun t120 => (if t120 = true then (if x8 < 0 then (some (x7, x1, 0)) else (some (x7, x8, 0))) else (some ((⟨#[]⟩ : ByteArray), 0, 2)))
def bQ.l0 : Nat → ByteArray → Int → ByteArray → Int → Int → Option (ByteArray × Int × Int)
 | 0, _, _, _, _, _ => none
 | k + 1, x0, x1, x7, x8, x9 => if (x7.size : Int) ≤ 255 then ((gB.f k x0 x1).bind fun bt115 => (if bt115.2.2.2 = true then (bQ.j2 k x0 x7 x8 x9 (decide (bt115.2.1 ≥ x9)) bt115.1 bt115.2.1 bt115.2.2.1) else (bQ.j2 k x0 x7 x8 x9 true bt115.1 bt115.2.1 bt115.2.2.1))) else (bQ.j3 k x1 x7 x8)
def bQ.j2 : Nat → ByteArray → ByteArray → Int → Int → Bool → ByteArray → Int → Int → Option (ByteArray × Int × Int)
 | 0, _, _, _, _, _, _, _, _ => none
 | k + 1, x0, x7, x8, x9, x30, x120000, x120001, x120002 => if x30 = true then (some ((⟨#[]⟩ : ByteArray), 0, 2)) else (if x120001 ≥ 0 then (if x8 < 0 then (bQ.l0 k x0 x120001 x7 x120002 x120001) else (bQ.l0 k x0 x120001 x7 x8 x120001)) else (if x7.size + x120000.size ≤ 9223372036854775807 then (if x120000.toList = ([0] : List UInt8) then (bQ.j3 k x120002 (x7 ++ x120000) x8) else (bQ.l0 k x0 x120002 (x7 ++ x120000) x8 x9)) else (none)))
end
def bQ.f (k : Nat) (a0 : ByteArray) (a1 : Int) : Option (ByteArray × Int × Int) := if a1 < 0 then (bQ.j0 k a0 a1 true) else (bQ.j0 k a0 a1 (decide (a1 > (a0.size : Int))))
theorem bQ.calls (k : Nat) (a0 : ByteArray) (a1 : Int) (r1 : ByteArray) (r2 : Int) (r3 : Int) (w : World) (h : bQ.f k a0 a1 = some (r1, r2, r3)) :
    Calls Tryz.prog 169 #[.string a0, .int .i64 a1] w fun e w' => e = .returned (.tuple #[.string r1, .int .i64 r2, .int .i64 r3]) ∧ Below w.heap.size w w' := by
  have hu171 := Tryz.underlying171
  have HB := aj.mk (Below.refl w.heap.size w)
  have H : (if a1 < 0 then (bQ.j0 k a0 a1 true) else (bQ.j0 k a0 a1 (decide (a1 > (a0.size : Int))))) = some (r1, r2, r3) := h
  clear h
  have HC3 := aj.mk H
  clear H
  go_enter Tryz.func169, Tryz.ntmps169
  (try go_wp2)
  go_step3
  go_upto_region 1 with (fail)
  repeat (go_quiet (fail); go_upto_region 1 with (fail))
  go_cut [19] (fun v19 wc => ∃ (kq : Nat) (x19_2 : Bool), v19 = .bool x19_2 ∧ aj (bQ.j0 kq a0 a1 x19_2 = some (r1, r2, r3)) ∧ aj (kq ≤ k) ∧ aj (Below w.heap.size w wc))
  case first =>
   have H := HC3.out
   clear HC3
   by_cases c4 : a1 < 0
   focus
    rw [if_pos c4] at H
    have c4b0 : decide (a1 < 0) = true := decide_eq_true c4
   rotate_left
   focus
    rw [if_neg c4] at H
    have c4b0 : decide (a1 < 0) = false := decide_eq_false c4
   rotate_left
   all_goals
    clear c4
    (skip)
    have H' := aj.mk H
    clear H
    go_wp2
    repeat (go_quiet (fail); try go_wp2)
    go_meet
   ·case rel => exact ⟨_, (true), (by rfl), H', ⟨by omega⟩, ⟨HB.out⟩⟩
   ·case rel => exact ⟨_, (decide (a1 > (a0.size : Int))), (by rfl), H', ⟨by omega⟩, ⟨HB.out⟩⟩
  case rest =>
   clear HC3
   obtain ⟨kq, x19_2, rfl, HA, HJ2, HB⟩ := hcut
   cases kq with
   | zero => exact absurd HA.out (by simp [bQ.j0])
   | succ kj2 =>
    have H := HA.out
    clear HA
    simp only [bQ.j0] at H
    by_cases c5 : x19_2 = true
    ·subst c5
     rw [if_pos rfl] at H
     simp only [Option.some.injEq, Prod.mk.injEq] at H
     obtain ⟨rfl, rfl, rfl⟩ := H
     go_wp2
     repeat (go_quiet (fail); try go_wp2)
     (try rw [Exit.noGoto_ret])
     go_ret3
     exact ⟨by rfl, HB.out⟩
    ·replace c5 := Bool.eq_false_iff.mpr c5
     subst c5
     rw [if_neg ff_] at H
     have HC6 := aj.mk H
     clear H
     (try go_wp2)
     go_step3
     go_upto_block 0 with (fail)
     repeat (go_quiet (fail); go_upto_block 0 with (fail))
     go_cut [1, 7, 8] (fun v1 v7 v8 wc => ∃ (kq : Nat) (x1_5 : Int) (x7_5 : ByteArray) (x8_5 : Int), v1 = .int .i64 x1_5 ∧ v7 = .string x7_5 ∧ v8 = .int .i64 x8_5 ∧ aj (bQ.j3 kq x1_5 x7_5 x8_5 = some (r1, r2, r3)) ∧ aj (kq ≤ kj2) ∧ aj (Below w.heap.size w wc))
     case first =>
      have H := HC6.out
      clear HC6
      have H' := aj.mk H
      clear H
      go_wp2
      repeat (go_quiet (fail); try go_wp2)
      go_loopg [1, 7, 8, 9] kj2 (fun kq v1 v7 v8 v9 w' => ∃ (x1_2 : Int) (x7_2 : ByteArray) (x8_2 : Int) (x9_2 : Int), v1 = .int .i64 x1_2 ∧ v7 = .string x7_2 ∧ v8 = .int .i64 x8_2 ∧ v9 = .int .i64 x9_2 ∧ aj (bQ.l0 kq a0 x1_2 x7_2 x8_2 x9_2 = some (r1, r2, r3)) ∧ aj (kq ≤ kj2) ∧ aj (Below w.heap.size w w'))
      case atStart => exact ⟨(a1), ((⟨#[]⟩ : ByteArray)), ((-1)), (a1), (by rfl), (by rfl), (by rfl), (by rfl), H', ⟨Nat.le_refl _⟩, ⟨HB.out⟩⟩
      case round =>
       clear H'
       obtain ⟨x1_2, x7_2, x8_2, x9_2, rfl, rfl, rfl, rfl, HA, HK2, HB⟩ := hrel
       cases gk with
       | zero => exact absurd HA.out (by simp [bQ.l0])
       | succ k2 =>
        have H := HA.out
        clear HA
        simp only [bQ.l0] at H
        by_cases c7 : (x7_2.size : Int) ≤ 255
        focus
         rw [if_pos c7] at H
         have c7b0 : decide ((x7_2.size : Int) ≤ 255) = true := decide_eq_true c7
         have c7b1 : decide (x7_2.size ≤ 255) = true := decide_eq_true (by omega)
        rotate_left
        focus
         rw [if_neg c7] at H
         have c7b0 : decide ((x7_2.size : Int) ≤ 255) = false := decide_eq_false c7
         have c7b1 : decide (x7_2.size ≤ 255) = false := decide_eq_false (by omega)
        rotate_left
        all_goals
         clear c7
         (skip)
        ·replace H := Option.bind_eq_some_iff.mp H
         obtain ⟨⟨t115, t116, t117, t118⟩, A80, H⟩ := H
         replace H : (if t118 = true then (bQ.j2 k2 a0 x7_2 x8_2 x9_2 (decide (t116 ≥ x9_2)) t115 t116 t117) else (bQ.j2 k2 a0 x7_2 x8_2 x9_2 true t115 t116 t117)) = some (r1, r2, r3) := H
         have A8 := aj.mk A80
         clear A80
         have HC9 := aj.mk H
         clear H
         go_upto_region 6 with (first | (go_at_call 176; (with_reducible refine (gB.calls k2 a0 x1_2 t115 t116 t117 t118 _ A8.out).mono ?_); rintro e w10 ⟨rfl, hb⟩; replace HB := aj.mk (au HB.out hb); (try clear hb)) | ((with_reducible refine bU (N := 10) rfl ?_); (try (refine dZ (by rfl) ?_; dsimp only)); refine dw ?hg (N := 10) ?hd (cs := #[.string (⟨#[]⟩ : ByteArray), .int .i64 0, .int .i64 0]) (t := 171) ?hr ?_; (case hd => rfl); (case hg => rfl); (case hr => (go_simp; done)); intro gb119 hg w11 hbox hb; have BK119 := aj.mk (hbox); have GW119 := aj.mk (ge_ hg (ay HB.out)); have GE119 := aj.mk (ge_ hg (ay HB.out)); replace HB := aj.mk (au HB.out hb); clear hb hbox hg; obtain ⟨hcz12_0, hcz12_1, hcz12_2, hfz12_0, hfz12_1, hfz12_2⟩ := z3_ BK119.out))
         repeat (go_quiet (((go_at_call 176; (with_reducible refine (gB.calls k2 a0 x1_2 t115 t116 t117 t118 _ A8.out).mono ?_); rintro e w10 ⟨rfl, hb⟩; replace HB := aj.mk (au HB.out hb)))); go_upto_region 6 with (((go_at_call 176; (with_reducible refine (gB.calls k2 a0 x1_2 t115 t116 t117 t118 _ A8.out).mono ?_); rintro e w10 ⟨rfl, hb⟩; replace HB := aj.mk (au HB.out hb)))))
         go_cut [30] (fun v30 wc => ∃ (kq : Nat) (x30_8 : Bool), v30 = .bool x30_8 ∧ aj (bQ.j2 kq a0 x7_2 x8_2 x9_2 x30_8 t115 t116 t117 = some (r1, r2, r3)) ∧ aj (kq ≤ k2) ∧ aj (wc.heap[gb119]? = some (.cells #[.string t115, .int .i64 t116, .int .i64 t117] 171 (0, 0))) ∧ aj (Below w.heap.size w wc))
         case first =>
          have H := HC9.out
          clear HC9
          by_cases c13 : t118 = true
          ·subst c13
           rw [if_pos rfl] at H
           have H' := aj.mk H
           clear H
           obtain ⟨hcz14_0, hcz14_1, hcz14_2, hfz14_0, hfz14_1, hfz14_2⟩ := z3_ BK119.out
           go_wp2
           repeat (go_quiet (fail); try go_wp2)
           go_meet
           case rel => exact ⟨_, (decide (t116 ≥ x9_2)), (by rfl), H', ⟨by have := HJ2.out; have := HK2.out; omega⟩, ⟨by (with_reducible repeat ((refine aA ?_ _))); refine bM (cs := #[.string t115, .int .i64 t116, .int .i64 0]) ?_ 2 _ rfl; (with_reducible repeat ((refine aA ?_ _))); refine bM (cs := #[.string t115, .int .i64 0, .int .i64 0]) ?_ 1 _ rfl; (with_reducible repeat ((refine aA ?_ _))); refine bM (cs := #[.string (⟨#[]⟩ : ByteArray), .int .i64 0, .int .i64 0]) ?_ 0 _ rfl; (with_reducible repeat ((refine aA ?_ _))); exact BK119.out⟩, ⟨by repeat ((with_reducible first | exact HB.out | refine dG ?_ GE119.out))⟩⟩
          ·replace c13 := Bool.eq_false_iff.mpr c13
           subst c13
           rw [if_neg ff_] at H
           have H' := aj.mk H
           clear H
           go_wp2
           repeat (go_quiet (fail); try go_wp2)
           go_meet
           case rel => exact ⟨_, (true), (by rfl), H', ⟨by have := HJ2.out; have := HK2.out; omega⟩, ⟨by (with_reducible repeat ((refine aA ?_ _))); refine bM (cs := #[.string t115, .int .i64 t116, .int .i64 0]) ?_ 2 _ rfl; (with_reducible repeat ((refine aA ?_ _))); refine bM (cs := #[.string t115, .int .i64 0, .int .i64 0]) ?_ 1 _ rfl; (with_reducible repeat ((refine aA ?_ _))); refine bM (cs := #[.string (⟨#[]⟩ : ByteArray), .int .i64 0, .int .i64 0]) ?_ 0 _ rfl; (with_reducible repeat ((refine aA ?_ _))); exact BK119.out⟩, ⟨by repeat ((with_reducible first | exact HB.out | refine dG ?_ GE119.out))⟩⟩
         case rest =>
          clear HC9
          (try clear c7b0)
          (try clear c7b1)
          (try clear hcz12_0)
          (try clear hcz12_1)
          (try clear hcz12_2)
          (try clear hfz12_0)
          (try clear hfz12_1)
          (try clear hfz12_2)
          obtain ⟨kq, x30_8, rfl, HA, HJ8, BK119, HB⟩ := hcut
          cases kq with
          | zero => exact absurd HA.out (by simp [bQ.j2])
          | succ kj8 =>
           have H := HA.out
           clear HA
           simp only [bQ.j2] at H
           by_cases c15 : x30_8 = true
           ·subst c15
            rw [if_pos rfl] at H
            simp only [Option.some.injEq, Prod.mk.injEq] at H
            obtain ⟨rfl, rfl, rfl⟩ := H
            go_wp2
            repeat (go_quiet (fail); try go_wp2)
            (try rw [Exit.noGoto_ret])
            go_ret3
            exact ⟨by rfl, HB.out⟩
           ·replace c15 := Bool.eq_false_iff.mpr c15
            subst c15
            rw [if_neg ff_] at H
            by_cases c16 : t116 ≥ 0
            focus
             rw [if_pos c16] at H
             have c16b0 : decide (0 ≤ t116) = true := decide_eq_true c16
             clear c16
             by_cases c17 : x8_2 < 0
             focus
              rw [if_pos c17] at H
              have c17b0 : decide (x8_2 < 0) = true := decide_eq_true c17
             rotate_left
             focus
              rw [if_neg c17] at H
              have c17b0 : decide (x8_2 < 0) = false := decide_eq_false c17
             rotate_left
             all_goals
              clear c17
            rotate_left 2
            focus
             rw [if_neg c16] at H
             have c16b0 : decide (0 ≤ t116) = false := decide_eq_false c16
             clear c16
             obtain ⟨c20, H⟩ := gd_ H
             have c20b0 := eq_true c20
             have c20b1 : decide (x7_2.size + t115.size ≤ 9223372036854775807) = true := decide_eq_true c20
             (try have c20b2 : (9223372036854775807 < x7_2.size + t115.size) = False := eq_false (Nat.not_lt.2 c20))
             by_cases c21 : t115.toList = ([0] : List UInt8)
             focus
              rw [if_pos c21] at H
              have c21b0 : (t115.toList == ([0] : List UInt8)) = true := beq_iff_eq.mpr c21
              have c21b1 : (t115.toList != ([0] : List UInt8)) = false := bne_eq_false_iff_eq.mpr c21
              clear c21
             rotate_left
             focus
              rw [if_neg c21] at H
              have c21b0 : (t115.toList == ([0] : List UInt8)) = false := beq_eq_false_iff_ne.mpr c21
              have c21b1 : (t115.toList != ([0] : List UInt8)) = true := bne_iff_ne.mpr c21
             rotate_left
            rotate_left 2
            all_goals
             have H' := aj.mk H
             clear H
             obtain ⟨hcz18_0, hcz18_1, hcz18_2, hfz18_0, hfz18_1, hfz18_2⟩ := z3_ BK119.out
             go_wp2
             repeat (go_quiet (fail); try go_wp2)
            iterate 2
             focus
              go_roundg kj8
              case measure => have := HJ2.out; have := HK2.out; have := HJ8.out; omega
             rotate_left
            rotate_left 2
            ·case rel => exact ⟨(t116), (x7_2), (t117), (t116), (by rfl), (by rfl), (by rfl), (by rfl), H', ⟨by have := HJ2.out; have := HK2.out; have := HJ8.out; omega⟩, ⟨by repeat ((with_reducible first | exact HB.out | apply aW))⟩⟩
            ·case rel => exact ⟨(t116), (x7_2), (x8_2), (t116), (by rfl), (by rfl), (by rfl), (by rfl), H', ⟨by have := HJ2.out; have := HK2.out; have := HJ8.out; omega⟩, ⟨by repeat ((with_reducible first | exact HB.out | apply aW))⟩⟩
            ·go_meet
             case rel => exact ⟨_, (t117), (x7_2 ++ t115), (x8_2), (by rfl), (by rfl), (by rfl), H', ⟨by have := HJ2.out; have := HK2.out; have := HJ8.out; omega⟩, ⟨HB.out⟩⟩
            ·go_roundg kj8
             case measure => have := HJ2.out; have := HK2.out; have := HJ8.out; omega
             case rel => exact ⟨(t117), (x7_2 ++ t115), (x8_2), (x9_2), (by rfl), (by rfl), (by rfl), (by rfl), H', ⟨by have := HJ2.out; have := HK2.out; have := HJ8.out; omega⟩, ⟨HB.out⟩⟩
        ·have H' := aj.mk H
         clear H
         go_wp2
         repeat (go_quiet (fail); try go_wp2)
         go_meet
         case rel => exact ⟨_, (x1_2), (x7_2), (x8_2), (by rfl), (by rfl), (by rfl), H', ⟨by have := HJ2.out; have := HK2.out; omega⟩, ⟨HB.out⟩⟩
     case rest =>
      clear HC6
      obtain ⟨kq, x1_5, x7_5, x8_5, rfl, rfl, rfl, HA, HJ5, HB⟩ := hcut
      cases kq with
      | zero => exact absurd HA.out (by simp [bQ.j3])
      | succ kj5 =>
       have H := HA.out
       clear HA
       simp only [bQ.j3] at H
       obtain ⟨t120, A24, H⟩ := cu H
       by_cases c25 : t120 = true
       focus
        subst c25
        rw [if_pos rfl] at H
        by_cases c26 : x8_5 < 0
        focus
         rw [if_pos c26] at H
         have c26b0 : decide (x8_5 < 0) = true := decide_eq_true c26
        rotate_left
        focus
         rw [if_neg c26] at H
         have c26b0 : decide (x8_5 < 0) = false := decide_eq_false c26
        rotate_left
        all_goals
         clear c26
       rotate_left 2
       focus
        replace c25 := Bool.eq_false_iff.mpr c25
        subst c25
        rw [if_neg ff_] at H
       rotate_left
       all_goals
        simp only [Option.some.injEq, Prod.mk.injEq] at H
        obtain ⟨rfl, rfl, rfl⟩ := H
        go_wp2_with (((go_at_call 47; (with_reducible refine (bX.calls x7_5 _ _ A24.out).mono ?_); rintro e w27 ⟨rfl, hb⟩; replace HB := aj.mk (au HB.out hb); (try clear hb))))
        repeat (go_quiet (((go_at_call 47; (with_reducible refine (bX.calls x7_5 _ _ A24.out).mono ?_); rintro e w27 ⟨rfl, hb⟩; replace HB := aj.mk (au HB.out hb)))); try go_wp2_with (((go_at_call 47; (with_reducible refine (bX.calls x7_5 _ _ A24.out).mono ?_); rintro e w27 ⟨rfl, hb⟩; replace HB := aj.mk (au HB.out hb)))))
        (try rw [Exit.noGoto_ret])
        go_ret3
        exact ⟨by rfl, HB.out⟩
end Go.Y.PRd
namespace Go.Y.PRd
open Go.Proofs.ah.av Go.Proofs.ah.aT Go.Proofs.ah.aU Go.Y.Given
attribute [local go_sem] dB dD dQ dP cK cB dA dF
def fC.j0 : Nat → ByteArray → Int → Int → Int → Int → Bool → Option (ByteArray × Int × Bool)
 | 0, _, _, _, _, _, _ => none
 | k + 1, x0, x1, x2, x3, x16, x17 => if x17 = true then (if 0 ≤ x2 then (if x2 ≤ (x0.size : Int) then ((bQ.f k (x0.extract 0 (x2 : Int).toNat) x1).bind fun bt121 => (if bt121.2.2 = 0 then (if x3 = (-1) then (some (bt121.1, bt121.2.1, true)) else (if 0 ≤ x1 then (if x1 ≤ bt121.2.1 then (if bt121.2.1 ≤ (x0.size : Int) then (some (bt121.1, bt121.2.1, (bt121.1.toList == (x0.extract (x1 : Int).toNat (bt121.2.1 : Int).toNat).toList))) else (none)) else (none)) else (none))) else (some (bt121.1, bt121.2.1, false)))) else (none)) else (none)) else (if x16 = (-3) then (if 0 ≤ x1 then (if x1 ≤ x2 then (if x2 ≤ (x0.size : Int) then ((fK.f (x0.extract (x1 : Int).toNat (x2 : Int).toNat) 1).bind fun bt124 => (if bt124.2 = 0 then (some (x0.extract (x1 : Int).toNat (x2 : Int).toNat, x2, decide ((bt124.1.length : Int) > 0))) else (some (x0.extract (x1 : Int).toNat (x2 : Int).toNat, x2, false)))) else (none)) else (none)) else (none)) else (if x16 = (-4) then (if 0 ≤ x1 then (if x1 ≤ x2 then (if x2 ≤ (x0.size : Int) then (some (x0.extract (x1 : Int).toNat (x2 : Int).toNat, x2, true)) else (none)) else (none)) else (none)) else (if x3 > (wrap64 (x2 - x1)) then (some ((⟨#[]⟩ : ByteArray), 0, false)) else (if 0 ≤ x1 then (if x1 ≤ (wrap64 (x1 + x3)) then (if (wrap64 (x1 + x3)) ≤ (x0.size : Int) then (some (x0.extract (x1 : Int).toNat ((wrap64 (x1 + x3)) : Int).toNat, wrap64 (x1 + x3), true)) else (none)) else (none)) else (none)))))
def fC.f (k : Nat) (a0 : ByteArray) (a1 : Int) (a2 : Int) (a3 : Int) : Option (ByteArray × Int × Bool) := if a3 = (-1) then (fC.j0 k a0 a1 a2 a3 a3 (a3 == (-1))) else (fC.j0 k a0 a1 a2 a3 a3 (a3 == (-2)))
theorem fC.calls (k : Nat) (a0 : ByteArray) (a1 : Int) (a2 : Int) (a3 : Int) (r1 : ByteArray) (r2 : Int) (r3 : Bool) (w : World) (h : fC.f k a0 a1 a2 a3 = some (r1, r2, r3)) :
    Calls Tryz.prog 152 #[.string a0, .int .i64 a1, .int .i64 a2, .int .i64 a3] w fun e w' => e = .returned (.tuple #[.string r1, .int .i64 r2, .bool r3]) ∧ Below w.heap.size w w' := by
  have HB := aj.mk (Below.refl w.heap.size w)
  have H : (if a3 = (-1) then (fC.j0 k a0 a1 a2 a3 a3 (a3 == (-1))) else (fC.j0 k a0 a1 a2 a3 a3 (a3 == (-2)))) = some (r1, r2, r3) := h
  clear h
  have HC5 := aj.mk H
  clear H
  go_enter Tryz.func152, Tryz.ntmps152
  go_upto_if 17 with (fail)
  repeat (go_quiet (fail); go_upto_if 17 with (fail))
  go_cut [17] (fun v17 wc => ∃ (kq : Nat) (x17_4 : Bool), v17 = .bool x17_4 ∧ aj (fC.j0 kq a0 a1 a2 a3 a3 x17_4 = some (r1, r2, r3)) ∧ aj (kq ≤ k) ∧ aj (Below w.heap.size w wc))
  case first =>
   have H := HC5.out
   clear HC5
   by_cases c6 : a3 = (-1)
   focus
    rw [if_pos c6] at H
    have c6b0 : (a3 == (-1)) = true := beq_iff_eq.mpr c6
    have c6b1 : (a3 != (-1)) = false := bne_eq_false_iff_eq.mpr c6
    clear c6
   rotate_left
   focus
    rw [if_neg c6] at H
    have c6b0 : (a3 == (-1)) = false := beq_eq_false_iff_ne.mpr c6
    have c6b1 : (a3 != (-1)) = true := bne_iff_ne.mpr c6
   rotate_left
   all_goals
    ((rw [c6b0]))
    have H' := aj.mk H
    clear H
    go_wp2
    repeat (go_quiet (fail); try go_wp2)
    go_meet
   ·case rel => exact ⟨_, ((a3 == (-1))), (by (simp [*]; done)), H', ⟨by omega⟩, ⟨HB.out⟩⟩
   ·case rel => exact ⟨_, ((a3 == (-2))), (by rfl), H', ⟨by omega⟩, ⟨HB.out⟩⟩
  case rest =>
   clear HC5
   obtain ⟨kq, x17_4, rfl, HA, HJ4, HB⟩ := hcut
   cases kq with
   | zero => exact absurd HA.out (by simp [fC.j0])
   | succ kj4 =>
    have H := HA.out
    clear HA
    simp only [fC.j0] at H
    by_cases c7 : x17_4 = true
    focus
     subst c7
     rw [if_pos rfl] at H
     obtain ⟨c8, H⟩ := gd_ H
     have c8b0 := eq_true c8
     have c8b1 : decide (0 ≤ a2) = true := decide_eq_true c8
     clear c8
     obtain ⟨c9, H⟩ := gd_ H
     have c9b0 := eq_true c9
     have c9b1 : decide (a2 ≤ (a0.size : Int)) = true := decide_eq_true c9
     clear c9
     replace H := Option.bind_eq_some_iff.mp H
     obtain ⟨⟨t121, t122, t123⟩, A100, H⟩ := H
     replace H : (if t123 = 0 then (if a3 = (-1) then (some (t121, t122, true)) else (if 0 ≤ a1 then (if a1 ≤ t122 then (if t122 ≤ (a0.size : Int) then (some (t121, t122, (t121.toList == (a0.extract (a1 : Int).toNat (t122 : Int).toNat).toList))) else (none)) else (none)) else (none))) else (some (t121, t122, false))) = some (r1, r2, r3) := H
     have A10 := aj.mk A100
     clear A100
     by_cases c11 : t123 = 0
     focus
      rw [if_pos c11] at H
      have c11b0 : (t123 == 0) = true := beq_iff_eq.mpr c11
      have c11b1 : (t123 != 0) = false := bne_eq_false_iff_eq.mpr c11
      clear c11
      by_cases c12 : a3 = (-1)
      focus
       rw [if_pos c12] at H
       have c12b0 : (a3 == (-1)) = true := beq_iff_eq.mpr c12
       have c12b1 : (a3 != (-1)) = false := bne_eq_false_iff_eq.mpr c12
       clear c12
      rotate_left
      focus
       rw [if_neg c12] at H
       have c12b0 : (a3 == (-1)) = false := beq_eq_false_iff_ne.mpr c12
       have c12b1 : (a3 != (-1)) = true := bne_iff_ne.mpr c12
       obtain ⟨c14, H⟩ := gd_ H
       have c14b0 := eq_true c14
       have c14b1 : decide (0 ≤ a1) = true := decide_eq_true c14
       clear c14
       obtain ⟨c15, H⟩ := gd_ H
       have c15b0 := eq_true c15
       have c15b1 : decide (a1 ≤ t122) = true := decide_eq_true c15
       clear c15
       obtain ⟨c16, H⟩ := gd_ H
       have c16b0 := eq_true c16
       have c16b1 : decide (t122 ≤ (a0.size : Int)) = true := decide_eq_true c16
       clear c16
      rotate_left
     rotate_left 2
     focus
      rw [if_neg c11] at H
      have c11b0 : (t123 == 0) = false := beq_eq_false_iff_ne.mpr c11
      have c11b1 : (t123 != 0) = true := bne_iff_ne.mpr c11
     rotate_left
    rotate_left 3
    focus
     replace c7 := Bool.eq_false_iff.mpr c7
     subst c7
     rw [if_neg ff_] at H
     by_cases c19 : a3 = (-3)
     focus
      rw [if_pos c19] at H
      have c19b0 : (a3 == (-3)) = true := beq_iff_eq.mpr c19
      have c19b1 : (a3 != (-3)) = false := bne_eq_false_iff_eq.mpr c19
      clear c19
      obtain ⟨c20, H⟩ := gd_ H
      have c20b0 := eq_true c20
      have c20b1 : decide (0 ≤ a1) = true := decide_eq_true c20
      clear c20
      obtain ⟨c21, H⟩ := gd_ H
      have c21b0 := eq_true c21
      have c21b1 : decide (a1 ≤ a2) = true := decide_eq_true c21
      clear c21
      obtain ⟨c22, H⟩ := gd_ H
      have c22b0 := eq_true c22
      have c22b1 : decide (a2 ≤ (a0.size : Int)) = true := decide_eq_true c22
      clear c22
      replace H := Option.bind_eq_some_iff.mp H
      obtain ⟨⟨t124, t125⟩, A230, H⟩ := H
      replace H : (if t125 = 0 then (some (a0.extract (a1 : Int).toNat (a2 : Int).toNat, a2, decide ((t124.length : Int) > 0))) else (some (a0.extract (a1 : Int).toNat (a2 : Int).toNat, a2, false))) = some (r1, r2, r3) := H
      have A23 := aj.mk A230
      clear A230
      have c24b0 := eq_true (of_decide_eq_true (by assumption) : 0 ≤ a1)
      have c25b0 := eq_true (of_decide_eq_true (by assumption) : a1 ≤ a2)
      have c26b0 := eq_true (of_decide_eq_true (by assumption) : a2 ≤ (a0.size : Int))
      by_cases c27 : t125 = 0
      focus
       rw [if_pos c27] at H
       have c27b0 : (t125 == 0) = true := beq_iff_eq.mpr c27
       have c27b1 : (t125 != 0) = false := bne_eq_false_iff_eq.mpr c27
       clear c27
      rotate_left
      focus
       rw [if_neg c27] at H
       have c27b0 : (t125 == 0) = false := beq_eq_false_iff_ne.mpr c27
       have c27b1 : (t125 != 0) = true := bne_iff_ne.mpr c27
      rotate_left
     rotate_left 2
     focus
      rw [if_neg c19] at H
      have c19b0 : (a3 == (-3)) = false := beq_eq_false_iff_ne.mpr c19
      have c19b1 : (a3 != (-3)) = true := bne_iff_ne.mpr c19
      by_cases c31 : a3 = (-4)
      focus
       rw [if_pos c31] at H
       have c31b0 : (a3 == (-4)) = true := beq_iff_eq.mpr c31
       have c31b1 : (a3 != (-4)) = false := bne_eq_false_iff_eq.mpr c31
       clear c31
       obtain ⟨c32, H⟩ := gd_ H
       have c32b0 := eq_true c32
       have c32b1 : decide (0 ≤ a1) = true := decide_eq_true c32
       clear c32
       obtain ⟨c33, H⟩ := gd_ H
       have c33b0 := eq_true c33
       have c33b1 : decide (a1 ≤ a2) = true := decide_eq_true c33
       clear c33
       obtain ⟨c34, H⟩ := gd_ H
       have c34b0 := eq_true c34
       have c34b1 : decide (a2 ≤ (a0.size : Int)) = true := decide_eq_true c34
       clear c34
      rotate_left
      focus
       rw [if_neg c31] at H
       have c31b0 : (a3 == (-4)) = false := beq_eq_false_iff_ne.mpr c31
       have c31b1 : (a3 != (-4)) = true := bne_iff_ne.mpr c31
       by_cases c35 : a3 > (wrap64 (a2 - a1))
       focus
        rw [if_pos c35] at H
        have c35b0 : decide ((wrap64 (a2 - a1)) < a3) = true := decide_eq_true c35
        clear c35
       rotate_left
       focus
        rw [if_neg c35] at H
        have c35b0 : decide ((wrap64 (a2 - a1)) < a3) = false := decide_eq_false c35
        clear c35
        obtain ⟨c36, H⟩ := gd_ H
        have c36b0 := eq_true c36
        have c36b1 : decide (0 ≤ a1) = true := decide_eq_true c36
        clear c36
        obtain ⟨c37, H⟩ := gd_ H
        have c37b0 := eq_true c37
        have c37b1 : decide (a1 ≤ (wrap64 (a1 + a3))) = true := decide_eq_true c37
        obtain ⟨c38, H⟩ := gd_ H
        have c38b0 := eq_true c38
        have c38b1 : decide ((wrap64 (a1 + a3)) ≤ (a0.size : Int)) = true := decide_eq_true c38
       rotate_left
      rotate_left 2
     rotate_left 3
    rotate_left 5
    all_goals
     simp only [Option.some.injEq, Prod.mk.injEq] at H
     obtain ⟨rfl, rfl, rfl⟩ := H
    iterate 3
     focus
      go_wp2_with (((go_at_call 169; (with_reducible refine (bQ.calls kj4 (a0.extract 0 (a2 : Int).toNat) a1 t121 t122 t123 _ A10.out).mono ?_); rintro e w13 ⟨rfl, hb⟩; replace HB := aj.mk (au HB.out hb); (try clear hb))))
      repeat (go_quiet (((go_at_call 169; (with_reducible refine (bQ.calls kj4 (a0.extract 0 (a2 : Int).toNat) a1 t121 t122 t123 _ A10.out).mono ?_); rintro e w13 ⟨rfl, hb⟩; replace HB := aj.mk (au HB.out hb)))); try go_wp2_with (((go_at_call 169; (with_reducible refine (bQ.calls kj4 (a0.extract 0 (a2 : Int).toNat) a1 t121 t122 t123 _ A10.out).mono ?_); rintro e w13 ⟨rfl, hb⟩; replace HB := aj.mk (au HB.out hb)))))
     rotate_left
    focus
     go_wp2_with (((go_at_call 170; (with_reducible refine (fK.calls (a0.extract (a1 : Int).toNat (a2 : Int).toNat) 1 t124 t125 _ A23.out).mono ?_); rintro e w28 ⟨v126, rfl, ho0, hb⟩; have HO127 := aj.mk (Kd.bS ho0 (ay HB.out)); replace HB := aj.mk (au HB.out hb); (try clear hb); (try clear ho0); obtain ⟨Ao29, co29, eo29⟩ := Kd.cO HO127.out; subst eo29)))
     repeat (go_quiet (((go_at_call 170; (with_reducible refine (fK.calls (a0.extract (a1 : Int).toNat (a2 : Int).toNat) 1 t124 t125 _ A23.out).mono ?_); rintro e w28 ⟨v126, rfl, ho0, hb⟩; have HO127 := aj.mk (Kd.bS ho0 (ay HB.out)); replace HB := aj.mk (au HB.out hb); obtain ⟨Ao29, co29, eo29⟩ := Kd.cO HO127.out; subst eo29))); try go_wp2_with (((go_at_call 170; (with_reducible refine (fK.calls (a0.extract (a1 : Int).toNat (a2 : Int).toNat) 1 t124 t125 _ A23.out).mono ?_); rintro e w28 ⟨v126, rfl, ho0, hb⟩; have HO127 := aj.mk (Kd.bS ho0 (ay HB.out)); replace HB := aj.mk (au HB.out hb); obtain ⟨Ao29, co29, eo29⟩ := Kd.cO HO127.out; subst eo29))))
    rotate_left
    focus
     go_wp2_with (((go_at_call 170; (with_reducible refine (fK.calls (a0.extract (a1 : Int).toNat (a2 : Int).toNat) 1 t124 t125 _ A23.out).mono ?_); rintro e w30 ⟨v126, rfl, ho0, hb⟩; have HO127 := aj.mk (Kd.bS ho0 (ay HB.out)); replace HB := aj.mk (au HB.out hb); (try clear hb); (try clear ho0))))
     repeat (go_quiet (((go_at_call 170; (with_reducible refine (fK.calls (a0.extract (a1 : Int).toNat (a2 : Int).toNat) 1 t124 t125 _ A23.out).mono ?_); rintro e w30 ⟨v126, rfl, ho0, hb⟩; have HO127 := aj.mk (Kd.bS ho0 (ay HB.out)); replace HB := aj.mk (au HB.out hb)))); try go_wp2_with (((go_at_call 170; (with_reducible refine (fK.calls (a0.extract (a1 : Int).toNat (a2 : Int).toNat) 1 t124 t125 _ A23.out).mono ?_); rintro e w30 ⟨v126, rfl, ho0, hb⟩; have HO127 := aj.mk (Kd.bS ho0 (ay HB.out)); replace HB := aj.mk (au HB.out hb)))))
    rotate_left
    iterate 3
     focus
      go_wp2
      repeat (go_quiet (fail); try go_wp2)
     rotate_left
    all_goals
     go_ret3
     exact ⟨by first | rfl | (simp [iZ, jd] <;> rfl), by repeat ((with_reducible first | exact HB.out | apply aW))⟩
def eT.j0 : Nat → Int → Bool → Option (List Int)
 | 0, _, _ => none
 | k + 1, x3, x10 => if x10 = true then (some (([(-1)] : List Int))) else (if x3 = 15 then (some (([2, (-1)] : List Int))) else (if x3 = 6 then (some (([(-1), (-1), 4, 4, 4, 4, 4] : List Int))) else (if x3 = 16 then (some (([(-3)] : List Int))) else (if x3 = 33 then (some (([2, 2, 2, (-2)] : List Int))) else (some (([(-4)] : List Int)))))))
def eT.f (k : Nat) (a0 : Int) : Option (List Int) := if a0 = 1 then (some (([4] : List Int))) else (if a0 = 28 then (some (([16] : List Int))) else (if a0 = 2 then (eT.j0 k a0 (a0 == 2)) else (if a0 = 5 then (eT.j0 k a0 (a0 == 5)) else (eT.j0 k a0 (a0 == 12)))))
theorem eT.calls (k : Nat) (a0 : Int) (r : List Int) (w : World) (h : eT.f k a0 = some r) :
    Calls Tryz.prog 151 #[.int .i64 a0] w fun e w' => ∃ v0_ : Value, e = .returned (v0_) ∧ Kd.R (Kd.int .i64) 3 w' w.heap.size (fun _ => True) v0_ r ∧ Below w.heap.size w w' := by
  have HB := aj.mk (Below.refl w.heap.size w)
  have H : (if a0 = 1 then (some (([4] : List Int))) else (if a0 = 28 then (some (([16] : List Int))) else (if a0 = 2 then (eT.j0 k a0 (a0 == 2)) else (if a0 = 5 then (eT.j0 k a0 (a0 == 5)) else (eT.j0 k a0 (a0 == 12)))))) = some r := h
  clear h
  by_cases c2 : a0 = 1
  ·rw [if_pos c2] at H
   have c2b0 : (a0 == 1) = true := beq_iff_eq.mpr c2
   have c2b1 : (a0 != 1) = false := bne_eq_false_iff_eq.mpr c2
   clear c2
   obtain ⟨y128, hy128⟩ : ∃ y_ : List Int, y_ = (([4] : List Int)) := ⟨_, rfl⟩
   replace H : (some y128) = some r := by (rw [hy128]; with_reducible exact H)
   have Ny128 := aj.mk hy128
   clear hy128
   obtain rfl := Option.some.inj H
   go_enter Tryz.func151, Tryz.ntmps151
   go_wp2_with ((((with_reducible refine bU (N := 6) rfl ?_); refine Kd.kE (Kd.int .i64) _ 3 ?hg (N := 6) ?hd (xs := ([4] : List Int)) (inner := [.int .i64 4]) (ok := fun _ => True) (okp := fun _ => True) ?hr ?hp (fun _ hk => hk) trivial (Below.refl _ _) (Nat.le_refl _) (by simp) ?_; (case hd => rfl); (case hg => rfl); (case hr => (go_simp; done)); (case hp => exact (bF.one (show Kd.M (Kd.int .i64) _ _ _ 4 [.int .i64 4] from rfl) (bF.none _ _))); intro v129 w3 ho4 hb hg_ hnew_; clear hg_ hnew_; ((rw [← Ny128.out] at ho4)); have HO130 := aj.mk (Kd.bS ho4 (ay HB.out)); replace HB := aj.mk (au HB.out hb); clear hb ho4)))
   go_ret
   exact ⟨_, by rfl, by (with_reducible repeat ((apply Kd.aN))); exact HO130.out, HB.out⟩
  ·rw [if_neg c2] at H
   have c2b0 : (a0 == 1) = false := beq_eq_false_iff_ne.mpr c2
   have c2b1 : (a0 != 1) = true := bne_iff_ne.mpr c2
   by_cases c5 : a0 = 28
   ·rw [if_pos c5] at H
    have c5b0 : (a0 == 28) = true := beq_iff_eq.mpr c5
    have c5b1 : (a0 != 28) = false := bne_eq_false_iff_eq.mpr c5
    clear c5
    obtain ⟨y131, hy131⟩ : ∃ y_ : List Int, y_ = (([16] : List Int)) := ⟨_, rfl⟩
    replace H : (some y131) = some r := by (rw [hy131]; with_reducible exact H)
    have Ny131 := aj.mk hy131
    clear hy131
    obtain rfl := Option.some.inj H
    go_enter Tryz.func151, Tryz.ntmps151
    go_wp2_with ((((with_reducible refine bU (N := 9) rfl ?_); refine Kd.kE (Kd.int .i64) _ 3 ?hg (N := 9) ?hd (xs := ([16] : List Int)) (inner := [.int .i64 16]) (ok := fun _ => True) (okp := fun _ => True) ?hr ?hp (fun _ hk => hk) trivial (Below.refl _ _) (Nat.le_refl _) (by simp) ?_; (case hd => rfl); (case hg => rfl); (case hr => (go_simp; done)); (case hp => exact (bF.one (show Kd.M (Kd.int .i64) _ _ _ 16 [.int .i64 16] from rfl) (bF.none _ _))); intro v132 w6 ho7 hb hg_ hnew_; clear hg_ hnew_; ((rw [← Ny131.out] at ho7)); have HO133 := aj.mk (Kd.bS ho7 (ay HB.out)); replace HB := aj.mk (au HB.out hb); clear hb ho7)))
    go_ret
    exact ⟨_, by rfl, by (with_reducible repeat ((apply Kd.aN))); exact HO133.out, HB.out⟩
   ·rw [if_neg c5] at H
    have c5b0 : (a0 == 28) = false := beq_eq_false_iff_ne.mpr c5
    have c5b1 : (a0 != 28) = true := bne_iff_ne.mpr c5
    have HC8 := aj.mk H
    clear H
    go_enter Tryz.func151, Tryz.ntmps151
    go_upto_if 10 with (fail)
    go_cut [10] (fun v10 wc => ∃ (kq : Nat) (x10_7 : Bool), v10 = .bool x10_7 ∧ aj (eT.j0 kq a0 x10_7 = some r) ∧ aj (kq ≤ k) ∧ aj (Below w.heap.size w wc))
    case first =>
     have H := HC8.out
     clear HC8
     by_cases c9 : a0 = 2
     focus
      rw [if_pos c9] at H
      have c9b0 : (a0 == 2) = true := beq_iff_eq.mpr c9
      have c9b1 : (a0 != 2) = false := bne_eq_false_iff_eq.mpr c9
      clear c9
     rotate_left
     focus
      rw [if_neg c9] at H
      have c9b0 : (a0 == 2) = false := beq_eq_false_iff_ne.mpr c9
      have c9b1 : (a0 != 2) = true := bne_iff_ne.mpr c9
     rotate_left
     all_goals
      ((rw [c9b0]))
     ·have H' := aj.mk H
      clear H
      go_wp2
      go_meet
      case rel => exact ⟨_, ((a0 == 2)), (by (simp [*]; done)), H', ⟨by omega⟩, ⟨HB.out⟩⟩
     ·by_cases c10 : a0 = 5
      ·rw [if_pos c10] at H
       have c10b0 : (a0 == 5) = true := beq_iff_eq.mpr c10
       have c10b1 : (a0 != 5) = false := bne_eq_false_iff_eq.mpr c10
       clear c10
       have H' := aj.mk H
       clear H
       go_wp2
       go_meet
       case rel => exact ⟨_, ((a0 == 5)), (by (simp [*]; done)), H', ⟨by omega⟩, ⟨HB.out⟩⟩
      ·rw [if_neg c10] at H
       have c10b0 : (a0 == 5) = false := beq_eq_false_iff_ne.mpr c10
       have c10b1 : (a0 != 5) = true := bne_iff_ne.mpr c10
       have H' := aj.mk H
       clear H
       go_wp2
       go_meet
       case rel => exact ⟨_, ((a0 == 12)), (by rfl), H', ⟨by omega⟩, ⟨HB.out⟩⟩
    case rest =>
     clear HC8
     (try clear c2)
     (try clear c2b0)
     (try clear c2b1)
     (try clear c5)
     (try clear c5b0)
     (try clear c5b1)
     obtain ⟨kq, x10_7, rfl, HA, HJ7, HB⟩ := hcut
     cases kq with
     | zero => exact absurd HA.out (by simp [eT.j0])
     | succ kj7 =>
      have H := HA.out
      clear HA
      simp only [eT.j0] at H
      by_cases c11 : x10_7 = true
      focus
       subst c11
       rw [if_pos rfl] at H
       obtain ⟨y134, hy134⟩ : ∃ y_ : List Int, y_ = (([(-1)] : List Int)) := ⟨_, rfl⟩
      rotate_left
      focus
       replace c11 := Bool.eq_false_iff.mpr c11
       subst c11
       rw [if_neg ff_] at H
       by_cases c14 : a0 = 15
       focus
        rw [if_pos c14] at H
        have c14b0 : (a0 == 15) = true := beq_iff_eq.mpr c14
        have c14b1 : (a0 != 15) = false := bne_eq_false_iff_eq.mpr c14
        clear c14
        obtain ⟨y134, hy134⟩ : ∃ y_ : List Int, y_ = (([2, (-1)] : List Int)) := ⟨_, rfl⟩
       rotate_left
       focus
        rw [if_neg c14] at H
        have c14b0 : (a0 == 15) = false := beq_eq_false_iff_ne.mpr c14
        have c14b1 : (a0 != 15) = true := bne_iff_ne.mpr c14
        by_cases c17 : a0 = 6
        focus
         rw [if_pos c17] at H
         have c17b0 : (a0 == 6) = true := beq_iff_eq.mpr c17
         have c17b1 : (a0 != 6) = false := bne_eq_false_iff_eq.mpr c17
         clear c17
         obtain ⟨y134, hy134⟩ : ∃ y_ : List Int, y_ = (([(-1), (-1), 4, 4, 4, 4, 4] : List Int)) := ⟨_, rfl⟩
        rotate_left
        focus
         rw [if_neg c17] at H
         have c17b0 : (a0 == 6) = false := beq_eq_false_iff_ne.mpr c17
         have c17b1 : (a0 != 6) = true := bne_iff_ne.mpr c17
         by_cases c20 : a0 = 16
         focus
          rw [if_pos c20] at H
          have c20b0 : (a0 == 16) = true := beq_iff_eq.mpr c20
          have c20b1 : (a0 != 16) = false := bne_eq_false_iff_eq.mpr c20
          clear c20
          obtain ⟨y134, hy134⟩ : ∃ y_ : List Int, y_ = (([(-3)] : List Int)) := ⟨_, rfl⟩
         rotate_left
         focus
          rw [if_neg c20] at H
          have c20b0 : (a0 == 16) = false := beq_eq_false_iff_ne.mpr c20
          have c20b1 : (a0 != 16) = true := bne_iff_ne.mpr c20
          by_cases c23 : a0 = 33
          focus
           rw [if_pos c23] at H
           have c23b0 : (a0 == 33) = true := beq_iff_eq.mpr c23
           have c23b1 : (a0 != 33) = false := bne_eq_false_iff_eq.mpr c23
           clear c23
           obtain ⟨y134, hy134⟩ : ∃ y_ : List Int, y_ = (([2, 2, 2, (-2)] : List Int)) := ⟨_, rfl⟩
          rotate_left
          focus
           rw [if_neg c23] at H
           have c23b0 : (a0 == 33) = false := beq_eq_false_iff_ne.mpr c23
           have c23b1 : (a0 != 33) = true := bne_iff_ne.mpr c23
           obtain ⟨y134, hy134⟩ : ∃ y_ : List Int, y_ = (([(-4)] : List Int)) := ⟨_, rfl⟩
          rotate_left
         rotate_left 2
        rotate_left 3
       rotate_left 4
      rotate_left 5
      all_goals
       replace H : (some y134) = some r := by (rw [hy134]; with_reducible exact H)
       have Ny134 := aj.mk hy134
       clear hy134
       obtain rfl := Option.some.inj H
      focus
       go_wp2_with ((((with_reducible refine bU (N := 14) rfl ?_); refine Kd.kE (Kd.int .i64) _ 3 ?hg (N := 14) ?hd (xs := ([(-1)] : List Int)) (inner := [.int .i64 (-1)]) (ok := fun _ => True) (okp := fun _ => True) ?hr ?hp (fun _ hk => hk) trivial (Below.refl _ _) (Nat.le_refl _) (by simp) ?_; (case hd => rfl); (case hg => rfl); (case hr => (go_simp; done)); (case hp => exact (bF.one (show Kd.M (Kd.int .i64) _ _ _ (-1) [.int .i64 (-1)] from rfl) (bF.none _ _))); intro v135 w12 ho13 hb hg_ hnew_; clear hg_ hnew_; ((rw [← Ny134.out] at ho13)); have HO136 := aj.mk (Kd.bS ho13 (ay HB.out)); replace HB := aj.mk (au HB.out hb); clear hb ho13)))
      rotate_left
      focus
       go_wp2_with ((((with_reducible refine bU (N := 17) rfl ?_); refine Kd.kE (Kd.int .i64) _ 3 ?hg (N := 17) ?hd (xs := ([2, (-1)] : List Int)) (inner := [.int .i64 2, .int .i64 (-1)]) (ok := fun _ => True) (okp := fun _ => True) ?hr ?hp (fun _ hk => hk) trivial (Below.refl _ _) (Nat.le_refl _) (by simp) ?_; (case hd => rfl); (case hg => rfl); (case hr => (go_simp; done)); (case hp => exact (bF.one (show Kd.M (Kd.int .i64) _ _ _ 2 [.int .i64 2] from rfl) (bF.one (show Kd.M (Kd.int .i64) _ _ _ (-1) [.int .i64 (-1)] from rfl) (bF.none _ _)))); intro v138 w15 ho16 hb hg_ hnew_; clear hg_ hnew_; ((rw [← Ny134.out] at ho16)); have HO136 := aj.mk (Kd.bS ho16 (ay HB.out)); replace HB := aj.mk (au HB.out hb); clear hb ho16)))
      rotate_left
      focus
       go_wp2_with ((((with_reducible refine bU (N := 20) rfl ?_); refine Kd.kE (Kd.int .i64) _ 3 ?hg (N := 20) ?hd (xs := ([(-1), (-1), 4, 4, 4, 4, 4] : List Int)) (inner := [.int .i64 (-1), .int .i64 (-1), .int .i64 4, .int .i64 4, .int .i64 4, .int .i64 4, .int .i64 4]) (ok := fun _ => True) (okp := fun _ => True) ?hr ?hp (fun _ hk => hk) trivial (Below.refl _ _) (Nat.le_refl _) (by simp) ?_; (case hd => rfl); (case hg => rfl); (case hr => (go_simp; done)); (case hp => exact (bF.one (show Kd.M (Kd.int .i64) _ _ _ (-1) [.int .i64 (-1)] from rfl) (bF.one (show Kd.M (Kd.int .i64) _ _ _ (-1) [.int .i64 (-1)] from rfl) (bF.one (show Kd.M (Kd.int .i64) _ _ _ 4 [.int .i64 4] from rfl) (bF.one (show Kd.M (Kd.int .i64) _ _ _ 4 [.int .i64 4] from rfl) (bF.one (show Kd.M (Kd.int .i64) _ _ _ 4 [.int .i64 4] from rfl) (bF.one (show Kd.M (Kd.int .i64) _ _ _ 4 [.int .i64 4] from rfl) (bF.one (show Kd.M (Kd.int .i64) _ _ _ 4 [.int .i64 4] from rfl) (bF.none _ _))))))))); intro v141 w18 ho19 hb hg_ hnew_; clear hg_ hnew_; ((rw [← Ny134.out] at ho19)); have HO136 := aj.mk (Kd.bS ho19 (ay HB.out)); replace HB := aj.mk (au HB.out hb); clear hb ho19)))
      rotate_left
      focus
       go_wp2_with ((((with_reducible refine bU (N := 23) rfl ?_); refine Kd.kE (Kd.int .i64) _ 3 ?hg (N := 23) ?hd (xs := ([(-3)] : List Int)) (inner := [.int .i64 (-3)]) (ok := fun _ => True) (okp := fun _ => True) ?hr ?hp (fun _ hk => hk) trivial (Below.refl _ _) (Nat.le_refl _) (by simp) ?_; (case hd => rfl); (case hg => rfl); (case hr => (go_simp; done)); (case hp => exact (bF.one (show Kd.M (Kd.int .i64) _ _ _ (-3) [.int .i64 (-3)] from rfl) (bF.none _ _))); intro v144 w21 ho22 hb hg_ hnew_; clear hg_ hnew_; ((rw [← Ny134.out] at ho22)); have HO136 := aj.mk (Kd.bS ho22 (ay HB.out)); replace HB := aj.mk (au HB.out hb); clear hb ho22)))
      rotate_left
      focus
       go_wp2_with ((((with_reducible refine bU (N := 26) rfl ?_); refine Kd.kE (Kd.int .i64) _ 3 ?hg (N := 26) ?hd (xs := ([2, 2, 2, (-2)] : List Int)) (inner := [.int .i64 2, .int .i64 2, .int .i64 2, .int .i64 (-2)]) (ok := fun _ => True) (okp := fun _ => True) ?hr ?hp (fun _ hk => hk) trivial (Below.refl _ _) (Nat.le_refl _) (by simp) ?_; (case hd => rfl); (case hg => rfl); (case hr => (go_simp; done)); (case hp => exact (bF.one (show Kd.M (Kd.int .i64) _ _ _ 2 [.int .i64 2] from rfl) (bF.one (show Kd.M (Kd.int .i64) _ _ _ 2 [.int .i64 2] from rfl) (bF.one (show Kd.M (Kd.int .i64) _ _ _ 2 [.int .i64 2] from rfl) (bF.one (show Kd.M (Kd.int .i64) _ _ _ (-2) [.int .i64 (-2)] from rfl) (bF.none _ _)))))); intro v147 w24 ho25 hb hg_ hnew_; clear hg_ hnew_; ((rw [← Ny134.out] at ho25)); have HO136 := aj.mk (Kd.bS ho25 (ay HB.out)); replace HB := aj.mk (au HB.out hb); clear hb ho25)))
      rotate_left
      focus
       go_wp2_with ((((with_reducible refine bU (N := 27) rfl ?_); refine Kd.kE (Kd.int .i64) _ 3 ?hg (N := 27) ?hd (xs := ([(-4)] : List Int)) (inner := [.int .i64 (-4)]) (ok := fun _ => True) (okp := fun _ => True) ?hr ?hp (fun _ hk => hk) trivial (Below.refl _ _) (Nat.le_refl _) (by simp) ?_; (case hd => rfl); (case hg => rfl); (case hr => (go_simp; done)); (case hp => exact (bF.one (show Kd.M (Kd.int .i64) _ _ _ (-4) [.int .i64 (-4)] from rfl) (bF.none _ _))); intro v150 w26 ho27 hb hg_ hnew_; clear hg_ hnew_; ((rw [← Ny134.out] at ho27)); have HO136 := aj.mk (Kd.bS ho27 (ay HB.out)); replace HB := aj.mk (au HB.out hb); clear hb ho27)))
      rotate_left
      all_goals
       go_ret
       exact ⟨_, by rfl, by (with_reducible repeat ((apply Kd.aN))); exact HO136.out, HB.out⟩
def gq.f (a0 : ByteArray) : Option (ByteArray) := (bX.f a0).bind fun t152 => (if t152 = true then ((fQ.f a0).bind fun t153 => (some t153)) else (some (⟨#[]⟩ : ByteArray)))
theorem gq.calls (a0 : ByteArray) (r : ByteArray) (w : World) (h : gq.f a0 = some r) :
    Calls Tryz.prog 62 #[.string a0] w fun e w' => e = .returned (.string r) ∧ Below w.heap.size w w' := by
  have HB := aj.mk (Below.refl w.heap.size w)
  have H : ((bX.f a0).bind fun t152 => (if t152 = true then ((fQ.f a0).bind fun t153 => (some t153)) else (some (⟨#[]⟩ : ByteArray)))) = some r := h
  clear h
  obtain ⟨t152, A2, H⟩ := cu H
  by_cases c3 : t152 = true
  focus
   subst c3
   rw [if_pos rfl] at H
   obtain ⟨t153, A4, H⟩ := cu H
  rotate_left
  focus
   replace c3 := Bool.eq_false_iff.mpr c3
   subst c3
   rw [if_neg ff_] at H
  rotate_left
  all_goals
   obtain rfl := Option.some.inj H
   go_enter Tryz.func62, Tryz.ntmps62
  focus
   go_wp2_with (first | (refine gl_ (some 4) Tryz.func47 #[.string a0] ?_; (with_reducible refine (bX.calls a0 _ _ A2.out).mono ?_); rintro e w5 ⟨rfl, hb⟩; refine ⟨_, rfl, ?_⟩; replace HB := aj.mk (au HB.out hb); (try clear hb)) | (refine gl_ (some 7) Tryz.func92 #[.string a0] ?_; (with_reducible refine (fQ.calls a0 t153 _ A4.out).mono ?_); rintro e w6 ⟨rfl, hb⟩; refine ⟨_, rfl, ?_⟩; replace HB := aj.mk (au HB.out hb); (try clear hb)))
  rotate_left
  focus
   go_wp2_with (((refine gl_ (some 4) Tryz.func47 #[.string a0] ?_; (with_reducible refine (bX.calls a0 _ _ A2.out).mono ?_); rintro e w7 ⟨rfl, hb⟩; refine ⟨_, rfl, ?_⟩; replace HB := aj.mk (au HB.out hb); (try clear hb))))
  rotate_left
  all_goals
   go_ret
   exact ⟨by rfl, HB.out⟩
def aQ.l0 : Nat → List ByteArray → Int → Int → Option (List ByteArray)
 | 0, _, _, _ => none
 | k + 1, x0, x2, x3 => if x2 < x3 then (if 0 ≤ x3 then (if x3 < (x0.length : Int) then (if 0 ≤ x2 then (if x2 < (x0.length : Int) then (aQ.l0 k ((x0.set (x2 : Int).toNat (bH ByteArray.empty x0 x3)).set (x3 : Int).toNat (bH ByteArray.empty x0 x2)) (wrap64 (x2 + 1)) (wrap64 (x3 - 1))) else (none)) else (none)) else (none)) else (none)) else (some x0)
def aQ.f (k : Nat) (l0 : List ByteArray) : Option (List ByteArray) := aQ.l0 k l0 0 (wrap64 ((l0.length : Int) - 1))
def aQ.T3 : Bool × List (List Nat × List Nat) := (true, [([], []), ([], []), ([], []), ([], []), ([], []), ([], []), ([4, 5], [4, 5]), ([6], [6]), ([], []), ([], []), ([8, 9], [8, 9]), ([10], [10]), ([0, 1, 0, 1, 4, 5, 6, 7, 11], [0, 1]), ([12, 7, 0, 1, 4, 5, 6, 7, 11], [7, 12]), ([2, 3, 0, 1, 2, 3, 4, 5, 6, 7, 8, 9, 10, 11, 12, 13], [2, 3]), ([14, 11, 13, 0, 1, 2, 3, 4, 5, 6, 7, 8, 9, 10, 11, 12, 13], [11, 14])])
def aQ.B3 : List Nat := [0, 0, 0, 0, 0, 0, 48, 112, 0, 0, 768, 1792, 4083, 8179, 16383, 32767]
theorem aQ.KX : gF .any (opsOf Tryz.f102 3) = aQ.T3 := by kernel_rfl
theorem aQ.KC : iO aQ.T3.2 aQ.B3 = true := by kernel_rfl
theorem aQ.calls (k : Nat) (P0_ : Nat → Prop) (u9000_ : Value) (l0 : List ByteArray) (r : List ByteArray) (w0 w : World) (hB : Below w0.heap.size w0 w) (ho0 : Kd.R Kd.string 9 w w0.heap.size P0_ u9000_ l0) (h : aQ.f k l0 = some r) :
    Calls Tryz.prog 102 #[u9000_] w fun e w' => e = .returned (.tuple #[]) ∧ Kd.R Kd.string 9 w' w0.heap.size (fun k_ => (P0_ k_ ∨ w.heap.size ≤ k_)) u9000_ r ∧ Below w0.heap.size w0 w' ∧ Kept w w' (fun k_ => P0_ k_) := by
  have HO0 := aj.mk (show Kd.R Kd.string 9 w w0.heap.size (fun k_ => (P0_ k_ ∨ w.heap.size ≤ k_)) u9000_ l0 from Kd.dn ho0 (fun k_ hk => (.inl hk)))
  have HK := aj.mk (Kept.refl w (fun k_ => P0_ k_))
  have HW0 := aj.mk hB.size
  have HB := aj.mk hB
  clear hB
  have H : (aQ.l0 k l0 0 (wrap64 ((l0.length : Int) - 1))) = some r := h
  clear h
  have H' := aj.mk H
  clear H
  obtain ⟨Ao2, co2, eo2⟩ := Kd.cO HO0.out
  subst eo2
  go_enter Tryz.func102, Tryz.ntmps102
  go_wp2
  go_loopg [2, 3] k (fun kq v2 v3 w' => ∃ (x0_1 : List ByteArray) (x2_1 : Int) (x3_1 : Int), v2 = .int .i64 x2_1 ∧ v3 = .int .i64 x3_1 ∧ aj (aQ.l0 kq x0_1 x2_1 x3_1 = some r) ∧ aj (kq ≤ k) ∧ aj (Kd.R Kd.string 9 w' w0.heap.size (fun k_ => (P0_ k_ ∨ w.heap.size ≤ k_)) (.slice Ao2 l0.length co2) x0_1) ∧ aj (Kept w w' (fun k_ => P0_ k_)) ∧ aj (Below w0.heap.size w0 w'))
  case atStart => exact ⟨(l0), (0), (wrap64 ((l0.length : Int) - 1)), (by rfl), (by rfl), H', ⟨Nat.le_refl _⟩, ⟨by (with_reducible repeat ((apply Kd.aN))); exact HO0.out⟩, ⟨HK.out⟩, ⟨HB.out⟩⟩
  case round =>
   clear H'
   obtain ⟨x0_1, x2_1, x3_1, rfl, rfl, HA, HK1, HO_0, HK, HB⟩ := hrel
   have hl0_1 := (Kd.aX HO_0.out).1
   rw [hl0_1] at HO_0
   (try simp only [hl0_1])
   cases gk with
   | zero => exact absurd HA.out (by simp [aQ.l0])
   | succ k1 =>
    have H := HA.out
    clear HA
    simp only [aQ.l0] at H
    by_cases c3 : x2_1 < x3_1
    ·rw [if_pos c3] at H
     have c3b0 : decide (x2_1 < x3_1) = true := decide_eq_true c3
     clear c3
     obtain ⟨c4b0, H⟩ := dX H
     obtain ⟨c5b0, H⟩ := dX H
     obtain ⟨c6b0, H⟩ := dX H
     obtain ⟨c7b0, H⟩ := dX H
     obtain ⟨y156, hy156⟩ : ∃ y_ : List ByteArray, y_ = (x0_1.set (x2_1 : Int).toNat (bH ByteArray.empty x0_1 x3_1)) := ⟨_, rfl⟩
     replace H : (aQ.l0 k1 (y156.set (x3_1 : Int).toNat (bH ByteArray.empty x0_1 x2_1)) (wrap64 (x2_1 + 1)) (wrap64 (x3_1 - 1))) = some r := by (rw [hy156]; with_reducible exact H)
     have Ny156 := aj.mk hy156
     clear hy156
     obtain ⟨y157, hy157⟩ : ∃ y_ : List ByteArray, y_ = (y156.set (x3_1 : Int).toNat (bH ByteArray.empty x0_1 x2_1)) := ⟨_, rfl⟩
     replace H : (aQ.l0 k1 y157 (wrap64 (x2_1 + 1)) (wrap64 (x3_1 - 1))) = some r := by (rw [hy157]; with_reducible exact H)
     have Ny157 := aj.mk hy157
     clear hy157
     have H' := aj.mk H
     clear H
     (try go_wp2)
     replace HO_0 := aj.mk (Kd.iF HO_0.out)
     replace HK := aj.mk (Kept.drew HK.out)
     replace HB := aj.mk (dz HB.out)
     have p154 : 0 ≤ (x3_1 : Int) := of_decide_eq_true (by assumption)
     have q154 : x3_1 < (x0_1.length : Int) := of_decide_eq_true (by assumption)
     obtain ⟨ad154, e154, hx154_0⟩ := Kd.fZ (Kd.aX HO_0.out).2.2 x3_1 p154 q154
     cases e154
     replace p154 := eq_true p154
     replace q154 := eq_true q154
     have p155 : 0 ≤ (x2_1 : Int) := of_decide_eq_true (by assumption)
     have q155 : x2_1 < (x0_1.length : Int) := of_decide_eq_true (by assumption)
     obtain ⟨ad155, e155, hx155_0⟩ := Kd.fZ (Kd.aX HO_0.out).2.2 x2_1 p155 q155
     obtain rfl : ad154 = ad155 := (by injection e155)
     replace p155 := eq_true p155
     replace q155 := eq_true q155
     have p8 : 0 ≤ (x2_1 : Int) := of_decide_eq_true (by assumption)
     have q8 : (x2_1 : Int) < ((x0_1.length : Int) : Int) := of_decide_eq_true (by assumption)
     obtain ⟨go8, co8, eo8, gb8, gl8, cl8, HG8⟩ := Kd.zU HO_0.out (by omega)
     ((cases eo8))
     have GB8 := aj.mk gb8
     have GG8 := aj.mk HG8
     clear gb8 gl8 HG8
     have HMgo8 := aj.mk (show (P0_ go8 ∨ w.heap.size ≤ go8) from (HO_0.out.1 _ rfl))
     ((simp only [add_plain] at hx154_0))
     ((simp only [add_plain] at hx155_0))
     obtain ⟨hx8_0, hf8_0⟩ := Kd.Bt (⟨#[]⟩ : ByteArray) HO_0.out (x2_1 : Int) p8 q8
     replace p8 := eq_true p8
     replace q8 := eq_true q8
     have HP11 := Kd.Ew HO_0.out (x2_1 : Int) (bH ByteArray.empty x0_1 x3_1)
     rw [← Ny156.out] at HP11
     have HQ11 := aj.mk HP11
     clear HP11
     have p9 : 0 ≤ (x3_1 : Int) := of_decide_eq_true (by assumption)
     have q9 : (x3_1 : Int) < ((x0_1.length : Int) : Int) := of_decide_eq_true (by assumption)
     obtain ⟨hx9_0, hf9_0⟩ := Kd.Bt (⟨#[]⟩ : ByteArray) HQ11.out (x3_1 : Int) p9 q9
     replace p9 := eq_true p9
     replace q9 := eq_true q9
     have HP12 := Kd.Ew HQ11.out (x3_1 : Int) (bH ByteArray.empty x0_1 x2_1)
     rw [← Ny157.out] at HP12
     have HQ12 := aj.mk HP12
     clear HP12
     refine iH (n := 16) (S := fun w' => w'.cell? ⟨go8, (x3_1).toNat, none⟩ = some (.string (bH ByteArray.empty x0_1 x3_1)) ∧ w'.cell? ⟨go8, (x2_1).toNat, none⟩ = some (.string (bH ByteArray.empty x0_1 x2_1))) (ds := [13, 15]) (ls 16 0) (by kernel_rfl) rfl rfl ⟨hx154_0, hx155_0⟩ (fun hHeld => ?_); refine fF aQ.KX aQ.KC (fun HT_ HW_ => ?_)
     generalize wr.drew = w10 at HO_0 HK HB GG8 HQ11 HQ12 hf8_0 hf9_0 hx154_0 hx155_0 hx8_0 hx9_0 hHeld ⊢
     refine td_ [(0, 14), (1, 15), (2, 16), (3, 17), (4, 18), (5, 19), (6, 20), (8, 22), (9, 23), (10, 24)] ?_
     iterate 10 (refine pm_ HT_ ?_)
     refine dn_ ?_
     refine td_ [(7, 21), (11, 25)] ?_
     iterate 2 (refine tm_ HT_ HW_ hHeld ?_)
     refine dn_ ?_
     refine td_ [(12, 26)] ?_
     refine pm_ HT_ ?_
     refine dn_ ?_
     refine Cr (i := 13) (N := none) (ls 16 16383) rfl rfl (lY HT_.out (by kernel_rfl)) (by decide) (fun K hK => ?_)
     refine yR (w1 := ?_) (by rfl) rfl ?_ ?_
     rotate_left
     ·go_simp
      rfl
     refine hK.out _ _ ?_
     clear hK K
     refine td_ [(14, 27)] ?_
     refine pm_ HT_ ?_
     refine dn_ ?_
     refine Cr (i := 15) (N := none) (ls 16 65535) rfl rfl (lY HT_.out (by kernel_rfl)) (by decide) (fun K hK => ?_)
     refine yR (w1 := ?_) (by rfl) rfl ?_ ?_
     rotate_left
     ·go_simp
      rfl
     refine hK.out _ _ ?_
     clear hK K
     refine mJ (kY HT_.out (by kernel_rfl)) ?_
     (try go_wp2)
     (try simp only [← hl0_1])
     go_roundg k1
     case measure => have := HK1.out; omega
     case rel => exact ⟨(y157), (wrap64 (x2_1 + 1)), (wrap64 (x3_1 - 1)), (by rfl), (by rfl), H', ⟨by have := HK1.out; omega⟩, ⟨by (try simp only [hl0_1]); (with_reducible repeat ((apply Kd.aN))); exact HQ12.out⟩, ⟨by repeat ((with_reducible first | exact HK.out | refine Kept.setCell ?_ HMgo8.out _))⟩, ⟨by repeat ((with_reducible first | exact HB.out | refine dG ?_ GB8.out))⟩⟩
    ·rw [if_neg c3] at H
     have c3b0 : decide (x2_1 < x3_1) = false := decide_eq_false c3
     clear c3
     obtain rfl := Option.some.inj H
     go_wp2
     go_end0
     exact ⟨by rfl, (by (exact (by ((exact HO_0.out))))), HB.out, HK.out⟩
end Go.Y.PRd
namespace Go.Y.PRd
open Go.Proofs.ah.av Go.Proofs.ah.aT Go.Proofs.ah.aU Go.Y.Given
attribute [local go_sem] dB dD dQ dP cK cB dA dF
def bN.l0 : Nat → List ByteArray → List ByteArray → List ByteArray → Int → Int → Option (Int)
 | 0, _, _, _, _, _ => none
 | k + 1, x0, x1, x9, x10, x11 => if x11 < x10 then (if 0 ≤ x11 then (if x11 < (x9.length : Int) then (if x11 ≥ (x1.length : Int) then (some 1) else (if x11 < (x1.length : Int) then ((gy.f (bH ByteArray.empty x9 x11) (bH ByteArray.empty x1 x11)).bind fun t160 => (if t160 = 0 then (bN.l0 k x0 x1 x9 x10 (wrap64 (x11 + 1))) else (some t160))) else (none))) else (none)) else (none)) else (if (x0.length : Int) < (x1.length : Int) then (some (-1)) else (some 0))
def bN.f (k : Nat) (l0 : List ByteArray) (l1 : List ByteArray) : Option (Int) := bN.l0 k l0 l1 l0 (l0.length : Int) 0
theorem bN.calls (k : Nat) (A0 : Option Addr) (c0 : Nat) (l0 : List ByteArray) (A1 : Option Addr) (c1 : Nat) (l1 : List ByteArray) (r : Int) (w : World) (hr0 : Kd.C Kd.string w A0 l0.length l0) (hc0 : l0.length ≤ c0) (hr1 : Kd.C Kd.string w A1 l1.length l1) (hc1 : l1.length ≤ c1) (h : bN.f k l0 l1 = some r) :
    Calls Tryz.prog 103 #[.slice A0 l0.length c0, .slice A1 l1.length c1] w fun e w' => e = .returned (.int .i64 r) ∧ Below w.heap.size w w' := by
  have HR0 := aj.mk hr0
  have HC0 := aj.mk hc0
  clear hr0 hc0
  have HR1 := aj.mk hr1
  have HC1 := aj.mk hc1
  clear hr1 hc1
  have HB := aj.mk (Below.refl w.heap.size w)
  have H : (bN.l0 k l0 l1 l0 (l0.length : Int) 0) = some r := h
  clear h
  have H' := aj.mk H
  clear H
  go_enter Tryz.func103, Tryz.ntmps103
  go_wp2
  go_loopg [11] k (fun kq v11 w' => ∃ (x11_1 : Int), v11 = .int .i64 x11_1 ∧ aj (bN.l0 kq l0 l1 l0 (l0.length : Int) x11_1 = some r) ∧ aj (kq ≤ k) ∧ aj (Below w.heap.size w w'))
  case atStart => exact ⟨(0), (by rfl), H', ⟨Nat.le_refl _⟩, ⟨HB.out⟩⟩
  case round =>
   clear H'
   obtain ⟨x11_1, rfl, HA, HK1, HB⟩ := hrel
   cases gk with
   | zero => exact absurd HA.out (by simp [bN.l0])
   | succ k1 =>
    have H := HA.out
    clear HA
    simp only [bN.l0] at H
    by_cases c3 : x11_1 < (l0.length : Int)
    ·rw [if_pos c3] at H
     have c3b0 : decide (x11_1 < (l0.length : Int)) = true := decide_eq_true c3
     clear c3
     obtain ⟨c4b0, H⟩ := dX H
     obtain ⟨c5b0, H⟩ := dX H
     by_cases c6 : x11_1 ≥ (l1.length : Int)
     focus
      rw [if_pos c6] at H
      have c6b0 : decide ((l1.length : Int) ≤ x11_1) = true := decide_eq_true c6
      clear c6
      obtain rfl := Option.some.inj H
     rotate_left
     focus
      rw [if_neg c6] at H
      have c6b0 : decide ((l1.length : Int) ≤ x11_1) = false := decide_eq_false c6
      clear c6
      obtain ⟨c7b0, H⟩ := dX H
      obtain ⟨t160, A8, H⟩ := cu H
      by_cases c9 : t160 = 0
      focus
       rw [if_pos c9] at H
       have c9b0 : (t160 == 0) = true := beq_iff_eq.mpr c9
       have c9b1 : (t160 != 0) = false := bne_eq_false_iff_eq.mpr c9
       clear c9
       have H' := aj.mk H
       clear H
      rotate_left
      focus
       rw [if_neg c9] at H
       have c9b0 : (t160 == 0) = false := beq_eq_false_iff_ne.mpr c9
       have c9b1 : (t160 != 0) = true := bne_iff_ne.mpr c9
       obtain rfl := Option.some.inj H
      rotate_left
     rotate_left 2
     all_goals
      have p158 : 0 ≤ (x11_1 : Int) := of_decide_eq_true (by assumption)
      have q158 : x11_1 < (l0.length : Int) := of_decide_eq_true (by assumption)
      obtain ⟨ad158, e158, hx158_0⟩ := Kd.fZ HR0.out x11_1 p158 q158
      cases e158
      replace hx158_0 := kp_ HB.out hx158_0
      replace p158 := eq_true p158
      replace q158 := eq_true q158
     ·go_wp2
      go_ret
      exact ⟨by rfl, HB.out⟩
     all_goals
      have p159 : 0 ≤ (x11_1 : Int) := of_decide_eq_true (by assumption)
      have q159 : x11_1 < (l1.length : Int) := of_decide_eq_true (by assumption)
      obtain ⟨ad159, e159, hx159_0⟩ := Kd.fZ HR1.out x11_1 p159 q159
      cases e159
      replace hx159_0 := kp_ HB.out hx159_0
      replace p159 := eq_true p159
      replace q159 := eq_true q159
      go_wp2_with (((refine gl_ (some 26) Tryz.func74 #[.string (bH ByteArray.empty l0 x11_1), .string (bH ByteArray.empty l1 x11_1)] ?_; (with_reducible refine (gy.calls (bH ByteArray.empty l0 x11_1) (bH ByteArray.empty l1 x11_1) t160 _ A8.out).mono ?_); rintro e w10 ⟨rfl, hb⟩; refine ⟨_, rfl, ?_⟩; replace HB := aj.mk (au HB.out hb); (try clear hb))))
     ·go_roundg k1
      case measure => have := HK1.out; omega
      case rel => exact ⟨(wrap64 (x11_1 + 1)), (by rfl), H', ⟨by have := HK1.out; omega⟩, ⟨HB.out⟩⟩
     ·go_ret
      exact ⟨by rfl, HB.out⟩
    ·rw [if_neg c3] at H
     have c3b0 : decide (x11_1 < (l0.length : Int)) = false := decide_eq_false c3
     clear c3
     by_cases c12 : (l0.length : Int) < (l1.length : Int)
     focus
      rw [if_pos c12] at H
      have c12b0 : decide ((l0.length : Int) < (l1.length : Int)) = true := decide_eq_true c12
      have c12b1 : decide (l0.length < l1.length) = true := decide_eq_true (Int.ofNat_lt.mp c12)
     rotate_left
     focus
      rw [if_neg c12] at H
      have c12b0 : decide ((l0.length : Int) < (l1.length : Int)) = false := decide_eq_false c12
      have c12b1 : decide (l0.length < l1.length) = false := decide_eq_false (fun h => c12 (Int.ofNat_lt.mpr h))
     rotate_left
     all_goals
      clear c12
      obtain rfl := Option.some.inj H
      go_wp2
      go_ret
      exact ⟨by rfl, HB.out⟩
def dI.j0 : Nat → List ByteArray → List ByteArray → Bool → Option (Int)
 | 0, _, _, _ => none
 | k + 1, x5, x7, x26 => if x26 = true then (some 0) else ((aQ.f k x5).bind fun t171 => ((aQ.f k x7).bind fun t172 => ((bN.f k t171 t172).bind fun t173 => (some t173))))
def dI.f (k : Nat) (a0 : ByteArray) (a1 : ByteArray) : Option (Int) := (gq.f a0).bind fun t161 => ((iC.f t161).bind fun bt162 => ((gq.f a1).bind fun t166 => ((iC.f t166).bind fun bt167 => (if bt162.2 = 0 then (dI.j0 k bt162.1 bt167.1 (bt167.2 != 0)) else (dI.j0 k bt162.1 bt167.1 true)))))
theorem dI.calls (k : Nat) (a0 : ByteArray) (a1 : ByteArray) (r : Int) (w : World) (h : dI.f k a0 a1 = some r) :
    Calls Tryz.prog 64 #[.string a0, .string a1] w fun e w' => e = .returned (.int .i64 r) ∧ Below w.heap.size w w' := by
  have HB := aj.mk (Below.refl w.heap.size w)
  have H : ((gq.f a0).bind fun t161 => ((iC.f t161).bind fun bt162 => ((gq.f a1).bind fun t166 => ((iC.f t166).bind fun bt167 => (if bt162.2 = 0 then (dI.j0 k bt162.1 bt167.1 (bt167.2 != 0)) else (dI.j0 k bt162.1 bt167.1 true)))))) = some r := h
  clear h
  obtain ⟨t161, A3, H⟩ := cu H
  replace H := Option.bind_eq_some_iff.mp H
  obtain ⟨⟨t162, t163⟩, A40, H⟩ := H
  replace H : ((gq.f a1).bind fun t166 => ((iC.f t166).bind fun bt167 => (if t163 = 0 then (dI.j0 k t162 bt167.1 (bt167.2 != 0)) else (dI.j0 k t162 bt167.1 true)))) = some r := H
  have A4 := aj.mk A40
  clear A40
  obtain ⟨t166, A5, H⟩ := cu H
  replace H := Option.bind_eq_some_iff.mp H
  obtain ⟨⟨t167, t168⟩, A60, H⟩ := H
  replace H : (if t163 = 0 then (dI.j0 k t162 t167 (t168 != 0)) else (dI.j0 k t162 t167 true)) = some r := H
  have A6 := aj.mk A60
  clear A60
  have HC7 := aj.mk H
  clear H
  go_enter Tryz.func64, Tryz.ntmps64
  go_upto_region 3 with (first | (refine gl_ (some 11) Tryz.func62 #[.string a0] ?_; (with_reducible refine (gq.calls a0 t161 _ A3.out).mono ?_); rintro e w8 ⟨rfl, hb⟩; refine ⟨_, rfl, ?_⟩; replace HB := aj.mk (au HB.out hb); (try clear hb)) | (refine gl_ (some 12) Tryz.func101 #[.string t161] ?_; (with_reducible refine (iC.calls t161 t162 t163 _ A4.out).mono ?_); rintro e w9 ⟨v164, rfl, ho0, hb⟩; refine ⟨_, rfl, ?_⟩; have HO165 := aj.mk (Kd.bS ho0 (ay HB.out)); replace HB := aj.mk (au HB.out hb); (try clear hb); (try clear ho0)) | (refine gl_ (some 17) Tryz.func62 #[.string a1] ?_; (with_reducible refine (gq.calls a1 t166 _ A5.out).mono ?_); rintro e w10 ⟨rfl, hb⟩; refine ⟨_, rfl, ?_⟩; replace HO165 := aj.mk (Kd.bD (by ((exact HO165.out))) hb); replace HB := aj.mk (au HB.out hb); (try clear hb)) | (refine gl_ (some 18) Tryz.func101 #[.string t166] ?_; (with_reducible refine (iC.calls t166 t167 t168 _ A6.out).mono ?_); rintro e w11 ⟨v169, rfl, ho0, hb⟩; refine ⟨_, rfl, ?_⟩; have HO170 := aj.mk (Kd.bS (Kd.iU ho0 (Kd.jS (by ((exact HO165.out))))) (ay HB.out)); replace HO165 := aj.mk (Kd.gK (by ((exact HO165.out))) (Kd.iV ho0) hb); replace HB := aj.mk (au HB.out hb); (try clear hb); (try clear ho0)))
  go_cut [26] (fun v26 wc => ∃ (kq : Nat) (x26_6 : Bool), v26 = .bool x26_6 ∧ aj (dI.j0 kq t162 t167 x26_6 = some r) ∧ aj (kq ≤ k) ∧ aj (Kd.R Kd.string 9 wc w.heap.size (fun k_ => some k_ ≠ (v169 : Value).ownBlock) v164 t162) ∧ aj (Kd.R Kd.string 9 wc w.heap.size (fun k_ => some k_ ≠ (v164 : Value).ownBlock) v169 t167) ∧ aj (Below w.heap.size w wc))
  case first =>
   have H := HC7.out
   clear HC7
   by_cases c12 : t163 = 0
   focus
    rw [if_pos c12] at H
    have c12b0 : (t163 == 0) = true := beq_iff_eq.mpr c12
    have c12b1 : (t163 != 0) = false := bne_eq_false_iff_eq.mpr c12
    clear c12
   rotate_left
   focus
    rw [if_neg c12] at H
    have c12b0 : (t163 == 0) = false := beq_eq_false_iff_ne.mpr c12
    have c12b1 : (t163 != 0) = true := bne_iff_ne.mpr c12
   rotate_left
   all_goals
    (skip)
    have H' := aj.mk H
    clear H
    go_wp2
    go_meet
   ·case rel => exact ⟨_, ((t168 != 0)), (by rfl), H', ⟨by omega⟩, ⟨by (with_reducible repeat ((apply Kd.aN))); exact Kd.dn HO165.out (fun _ hk => hk.2)⟩, ⟨by (with_reducible repeat ((apply Kd.aN))); exact Kd.dn HO170.out (fun _ hk => hk.2)⟩, ⟨HB.out⟩⟩
   ·case rel => exact ⟨_, (true), (by rfl), H', ⟨by omega⟩, ⟨by (with_reducible repeat ((apply Kd.aN))); exact Kd.dn HO165.out (fun _ hk => hk.2)⟩, ⟨by (with_reducible repeat ((apply Kd.aN))); exact Kd.dn HO170.out (fun _ hk => hk.2)⟩, ⟨HB.out⟩⟩
  case rest =>
   clear HC7
   obtain ⟨kq, x26_6, rfl, HA, HJ6, HO_5, HO_7, HB⟩ := hcut
   cases kq with
   | zero => exact absurd HA.out (by simp [dI.j0])
   | succ kj6 =>
    have H := HA.out
    clear HA
    simp only [dI.j0] at H
    by_cases c13 : x26_6 = true
    focus
     subst c13
     rw [if_pos rfl] at H
     obtain rfl := Option.some.inj H
     go_wp2
    rotate_left
    focus
     replace c13 := Bool.eq_false_iff.mpr c13
     subst c13
     rw [if_neg ff_] at H
     obtain ⟨t171, A14, H⟩ := cu H
     obtain ⟨t172, A15, H⟩ := cu H
     obtain ⟨t173, A16, H⟩ := cu H
     obtain rfl := Option.some.inj H
     obtain ⟨Ao17, co17, eo17⟩ := Kd.cO HO_5.out
     subst eo17
     go_wp2_with (first | (refine gl_ (some 28) Tryz.func102 #[.slice Ao17 t162.length co17] ?_; (with_reducible refine (aQ.calls kj6 (fun k_ => some k_ = (.slice Ao17 t162.length co17 : Value).ownBlock) (.slice Ao17 t162.length co17) t162 t171 w _ ?side1 ?side2 A14.out).mono ?_); (case side1 => repeat ((with_reducible (exact HB.out)))); (case side2 => exact Kd.wN rfl HO_5.out); rintro e w18 ⟨rfl, hy0, hb, hkp⟩; refine ⟨_, rfl, ?_⟩; replace HO_5 := aj.mk (Kd.Fz rfl hy0 (fun k_ e_ => HO_5.out.1 k_ e_)); replace HO_7 := aj.mk (Kd.dn (ok' := fun k_ => some k_ ≠ (.slice Ao17 t162.length co17 : Value).ownBlock) (Kd.Bg (HO_7.out) hkp (fun k_ hk_ hs_ => (hk_) hs_)) (fun k_ hk_ => hk_.1)); replace HB := aj.mk (hb); (try clear hb); (try clear hkp); (try clear hy0); obtain ⟨Ao19, co19, eo19⟩ := Kd.cO HO_7.out; subst eo19) | (refine gl_ (some 30) Tryz.func102 #[.slice Ao19 t167.length co19] ?_; (with_reducible refine (aQ.calls kj6 (fun k_ => some k_ = (.slice Ao19 t167.length co19 : Value).ownBlock) (.slice Ao19 t167.length co19) t167 t172 w _ ?side1 ?side2 A15.out).mono ?_); (case side1 => repeat ((with_reducible (exact HB.out)))); (case side2 => exact Kd.wN rfl HO_7.out); rintro e w20 ⟨rfl, hy0, hb, hkp⟩; refine ⟨_, rfl, ?_⟩; replace HO_5 := aj.mk (Kd.dn (ok' := fun k_ => some k_ ≠ (.slice Ao19 t167.length co19 : Value).ownBlock) (Kd.Bg (HO_5.out) hkp (fun k_ hk_ hs_ => (hk_) hs_)) (fun k_ hk_ => hk_.1)); replace HO_7 := aj.mk (Kd.Fz rfl hy0 (fun k_ e_ => HO_7.out.1 k_ e_)); replace HB := aj.mk (hb); (try clear hb); (try clear hkp); (try clear hy0)) | ((with_reducible refine eG (f := 103) rfl ?_); refine iK (some 33) rfl rfl Tryz.func103 (by kernel_rfl) rfl #[.slice Ao17 t171.length co17, .slice Ao19 t172.length co19] rfl (by (try simp only [List.map_toArray, List.map_cons, List.map_nil]); (rw [show t171.length = t162.length from (Kd.aX HO_5.out).1.symm, show t172.length = t167.length from (Kd.aX HO_7.out).1.symm] <;> rfl)) ?_; (with_reducible refine (bN.calls kj6 _ _ t171 _ _ t172 t173 _ ?side1 ?side2 ?side3 ?side4 A16.out).mono ?_); (case side1 => exact (Kd.aX HO_5.out).2.2); (case side2 => rw [show t171.length = t162.length from (Kd.aX HO_5.out).1.symm]; exact (Kd.aX HO_5.out).2.1); (case side3 => exact (Kd.aX HO_7.out).2.2); (case side4 => rw [show t172.length = t167.length from (Kd.aX HO_7.out).1.symm]; exact (Kd.aX HO_7.out).2.1); rintro e w21 ⟨rfl, hb⟩; refine ⟨_, rfl, ?_⟩; replace HO_5 := aj.mk (Kd.bD (by ((exact HO_5.out))) hb); replace HO_7 := aj.mk (Kd.bD (by ((exact HO_7.out))) hb); replace HB := aj.mk (au HB.out hb); (try clear hb)))
    rotate_left
    all_goals
     go_ret
     exact ⟨by rfl, HB.out⟩
def dx.f (a0 : ByteArray) (a1 : ByteArray) : Option (Bool) := (bX.f a0).bind fun t174 => (if t174 = true then ((bX.f a1).bind fun t175 => (if t175 = true then ((fQ.f a0).bind fun t176 => ((fQ.f a1).bind fun t177 => (some (t176.toList == t177.toList)))) else (some false))) else (some false))
theorem dx.calls (a0 : ByteArray) (a1 : ByteArray) (r : Bool) (w : World) (h : dx.f a0 a1 = some r) :
    Calls Tryz.prog 55 #[.string a0, .string a1] w fun e w' => e = .returned (.bool r) ∧ Below w.heap.size w w' := by
  have HB := aj.mk (Below.refl w.heap.size w)
  have H : ((bX.f a0).bind fun t174 => (if t174 = true then ((bX.f a1).bind fun t175 => (if t175 = true then ((fQ.f a0).bind fun t176 => ((fQ.f a1).bind fun t177 => (some (t176.toList == t177.toList)))) else (some false))) else (some false))) = some r := h
  clear h
  obtain ⟨t174, A3, H⟩ := cu H
  by_cases c4 : t174 = true
  focus
   subst c4
   rw [if_pos rfl] at H
   obtain ⟨t175, A5, H⟩ := cu H
   by_cases c6 : t175 = true
   focus
    subst c6
    rw [if_pos rfl] at H
    obtain ⟨t176, A7, H⟩ := cu H
    obtain ⟨t177, A8, H⟩ := cu H
   rotate_left
   focus
    replace c6 := Bool.eq_false_iff.mpr c6
    subst c6
    rw [if_neg ff_] at H
   rotate_left
  rotate_left 2
  focus
   replace c4 := Bool.eq_false_iff.mpr c4
   subst c4
   rw [if_neg ff_] at H
  rotate_left
  all_goals
   obtain rfl := Option.some.inj H
   go_enter Tryz.func55, Tryz.ntmps55
  focus
   go_wp2_with (first | (refine gl_ (some 6) Tryz.func47 #[.string a0] ?_; (with_reducible refine (bX.calls a0 _ _ A3.out).mono ?_); rintro e w9 ⟨rfl, hb⟩; refine ⟨_, rfl, ?_⟩; replace HB := aj.mk (au HB.out hb); (try clear hb)) | (go_at_call 47; (with_reducible refine (bX.calls a1 _ _ A5.out).mono ?_); rintro e w10 ⟨rfl, hb⟩; replace HB := aj.mk (au HB.out hb); (try clear hb)) | (go_at_call 92; (with_reducible refine (fQ.calls a0 t176 _ A7.out).mono ?_); rintro e w11 ⟨rfl, hb⟩; replace HB := aj.mk (au HB.out hb); (try clear hb)) | (go_at_call 92; (with_reducible refine (fQ.calls a1 t177 _ A8.out).mono ?_); rintro e w12 ⟨rfl, hb⟩; replace HB := aj.mk (au HB.out hb); (try clear hb)))
  rotate_left
  focus
   go_wp2_with (first | (refine gl_ (some 6) Tryz.func47 #[.string a0] ?_; (with_reducible refine (bX.calls a0 _ _ A3.out).mono ?_); rintro e w13 ⟨rfl, hb⟩; refine ⟨_, rfl, ?_⟩; replace HB := aj.mk (au HB.out hb); (try clear hb)) | (go_at_call 47; (with_reducible refine (bX.calls a1 _ _ A5.out).mono ?_); rintro e w14 ⟨rfl, hb⟩; replace HB := aj.mk (au HB.out hb); (try clear hb)))
  rotate_left
  focus
   go_wp2_with (((refine gl_ (some 6) Tryz.func47 #[.string a0] ?_; (with_reducible refine (bX.calls a0 _ _ A3.out).mono ?_); rintro e w15 ⟨rfl, hb⟩; refine ⟨_, rfl, ?_⟩; replace HB := aj.mk (au HB.out hb); (try clear hb))))
  rotate_left
  all_goals
   go_ret
   exact ⟨by rfl, HB.out⟩
mutual
def bn.j0 : Nat → ByteArray → ByteArray → Bool → Option (Bool)
 | 0, _, _, _ => none
 | k + 1, x0, x1, x13 => if x13 = true then (some false) else (bn.l0 k x0 x1 true)
def bn.l0 : Nat → ByteArray → ByteArray → Bool → Option (Bool)
 | 0, _, _, _ => none
 | k + 1, x0, x1, x5 => if x5 = true then ((dx.f x0 x1).bind fun t180 => (if t180 = true then (some true) else ((kK.f x0).bind fun bt181 => (bn.l0 k bt181.1 x1 bt181.2)))) else (some false)
end
def bn.f (k : Nat) (a0 : ByteArray) (a1 : ByteArray) : Option (Bool) := (bX.f a0).bind fun t178 => (if t178 = true then ((bX.f a1).bind fun t179 => (bn.j0 k a0 a1 (!t179))) else (bn.j0 k a0 a1 true))
theorem bn.rP : ∀ k, (∀ y0 y1 y2, LeO (bn.j0 k y0 y1 y2) (bn.j0 (k + 1) y0 y1 y2)) ∧ (∀ y0 y1 y2, LeO (bn.l0 k y0 y1 y2) (bn.l0 (k + 1) y0 y1 y2))
 | 0 => ⟨fun _ _ _ r h => by simp [bn.j0] at h, fun _ _ _ r h => by simp [bn.l0] at h⟩
 | k + 1 => by
  obtain ⟨ih0, ih1⟩ := bn.rP k
  refine ⟨?_, ?_⟩
  ·intro y0 y1 y2
   unfold bn.j0
   repeat' first
   | (with_reducible exact ih0 _ _ _)
   | (with_reducible exact ih1 _ _ _)
   | (with_reducible exact LeO.refl _)
   | (with_reducible exact LeO.none _)
   | (with_reducible refine LeO.ite ?_ ?_)
   | (with_reducible refine LeO.bind ?_ (fun _ => ?_))
   | exact ih0 _ _ _
   | exact ih1 _ _ _
   | exact LeO.none _
   | refine LeO.ite ?_ ?_
   | refine LeO.bind ?_ (fun _ => ?_)
  ·intro y0 y1 y2
   unfold bn.l0
   repeat' first
   | (with_reducible exact ih0 _ _ _)
   | (with_reducible exact ih1 _ _ _)
   | (with_reducible exact LeO.refl _)
   | (with_reducible exact LeO.none _)
   | (with_reducible refine LeO.ite ?_ ?_)
   | (with_reducible refine LeO.bind ?_ (fun _ => ?_))
   | exact ih0 _ _ _
   | exact ih1 _ _ _
   | exact LeO.none _
   | refine LeO.ite ?_ ?_
   | refine LeO.bind ?_ (fun _ => ?_)
theorem bn.mono : ∀ a0 a1 k, LeO (bn.f k a0 a1) (bn.f (k + 1) a0 a1) := by
 intro a0 a1 k
 obtain ⟨ih0, ih1⟩ := bn.rP k
 unfold bn.f
 repeat' first
   | (with_reducible exact ih0 _ _ _)
   | (with_reducible exact ih1 _ _ _)
   | (with_reducible exact LeO.refl _)
   | (with_reducible exact LeO.none _)
   | (with_reducible refine LeO.ite ?_ ?_)
   | (with_reducible refine LeO.bind ?_ (fun _ => ?_))
   | exact ih0 _ _ _
   | exact ih1 _ _ _
   | exact LeO.none _
   | refine LeO.ite ?_ ?_
   | refine LeO.bind ?_ (fun _ => ?_)
theorem bn.calls (k : Nat) (a0 : ByteArray) (a1 : ByteArray) (r : Bool) (w : World) (h : bn.f k a0 a1 = some r) :
    Calls Tryz.prog 91 #[.string a0, .string a1] w fun e w' => e = .returned (.bool r) ∧ Below w.heap.size w w' := by
  have HB := aj.mk (Below.refl w.heap.size w)
  have H : ((bX.f a0).bind fun t178 => (if t178 = true then ((bX.f a1).bind fun t179 => (bn.j0 k a0 a1 (!t179))) else (bn.j0 k a0 a1 true))) = some r := h
  clear h
  have HC3 := aj.mk H
  clear H
  go_enter Tryz.func91, Tryz.ntmps91
  go_upto_region 1 with (fail)
  go_cut [13] (fun v13 wc => ∃ (kq : Nat) (x13_2 : Bool), v13 = .bool x13_2 ∧ aj (bn.j0 kq a0 a1 x13_2 = some r) ∧ aj (kq ≤ k) ∧ aj (Below w.heap.size w wc))
  case first =>
   have H := HC3.out
   clear HC3
   obtain ⟨t178, A4, H⟩ := cu H
   by_cases c5 : t178 = true
   ·subst c5
    rw [if_pos rfl] at H
    obtain ⟨t179, A6, H⟩ := cu H
    have H' := aj.mk H
    clear H
    go_wp2_with (first | (refine gl_ (some 7) Tryz.func47 #[.string a0] ?_; (with_reducible refine (bX.calls a0 _ _ A4.out).mono ?_); rintro e w7 ⟨rfl, hb⟩; refine ⟨_, rfl, ?_⟩; replace HB := aj.mk (au HB.out hb); (try clear hb)) | (go_at_call 47; (with_reducible refine (bX.calls a1 t179 _ A6.out).mono ?_); rintro e w8 ⟨rfl, hb⟩; replace HB := aj.mk (au HB.out hb); (try clear hb)))
    go_meet
    case rel => exact ⟨_, (!t179), (by rfl), H', ⟨by omega⟩, ⟨HB.out⟩⟩
   ·replace c5 := Bool.eq_false_iff.mpr c5
    subst c5
    rw [if_neg ff_] at H
    have H' := aj.mk H
    clear H
    go_wp2_with (((refine gl_ (some 7) Tryz.func47 #[.string a0] ?_; (with_reducible refine (bX.calls a0 _ _ A4.out).mono ?_); rintro e w9 ⟨rfl, hb⟩; refine ⟨_, rfl, ?_⟩; replace HB := aj.mk (au HB.out hb); (try clear hb))))
    go_meet
    case rel => exact ⟨_, (true), (by rfl), H', ⟨by omega⟩, ⟨HB.out⟩⟩
  case rest =>
   clear HC3
   obtain ⟨kq, x13_2, rfl, HA, HJ2, HB⟩ := hcut
   cases kq with
   | zero => exact absurd HA.out (by simp [bn.j0])
   | succ kj2 =>
    have H := HA.out
    clear HA
    simp only [bn.j0] at H
    by_cases c10 : x13_2 = true
    ·subst c10
     rw [if_pos rfl] at H
     obtain rfl := Option.some.inj H
     go_wp2
     go_ret
     exact ⟨by rfl, HB.out⟩
    ·replace c10 := Bool.eq_false_iff.mpr c10
     subst c10
     rw [if_neg ff_] at H
     have H' := aj.mk H
     clear H
     go_wp2
     go_loopg [0, 5] kj2 (fun kq v0 v5 w' => ∃ (x0_2 : ByteArray) (x5_2 : Bool), v0 = .string x0_2 ∧ v5 = .bool x5_2 ∧ aj (bn.l0 kq x0_2 a1 x5_2 = some r) ∧ aj (kq ≤ kj2) ∧ aj (Below w.heap.size w w'))
     case atStart => exact ⟨(a0), (true), (by rfl), (by rfl), H', ⟨Nat.le_refl _⟩, ⟨HB.out⟩⟩
     case round =>
      clear H'
      obtain ⟨x0_2, x5_2, rfl, rfl, HA, HK2, HB⟩ := hrel
      cases gk with
      | zero => exact absurd HA.out (by simp [bn.l0])
      | succ k2 =>
       have H := HA.out
       clear HA
       simp only [bn.l0] at H
       by_cases c11 : x5_2 = true
       ·subst c11
        rw [if_pos rfl] at H
        obtain ⟨t180, A12, H⟩ := cu H
        by_cases c13 : t180 = true
        ·subst c13
         rw [if_pos rfl] at H
         obtain rfl := Option.some.inj H
         go_wp2_with (((refine gl_ (some 22) Tryz.func55 #[.string x0_2, .string a1] ?_; (with_reducible refine (dx.calls x0_2 a1 _ _ A12.out).mono ?_); rintro e w14 ⟨rfl, hb⟩; refine ⟨_, rfl, ?_⟩; replace HB := aj.mk (au HB.out hb); (try clear hb))))
         go_ret
         exact ⟨by rfl, HB.out⟩
        ·replace c13 := Bool.eq_false_iff.mpr c13
         subst c13
         rw [if_neg ff_] at H
         replace H := Option.bind_eq_some_iff.mp H
         obtain ⟨⟨t181, t182⟩, A150, H⟩ := H
         replace H : (bn.l0 k2 t181 a1 t182) = some r := H
         have A15 := aj.mk A150
         clear A150
         have H' := aj.mk H
         clear H
         go_wp2_with (first | (refine gl_ (some 22) Tryz.func55 #[.string x0_2, .string a1] ?_; (with_reducible refine (dx.calls x0_2 a1 _ _ A12.out).mono ?_); rintro e w16 ⟨rfl, hb⟩; refine ⟨_, rfl, ?_⟩; replace HB := aj.mk (au HB.out hb); (try clear hb)) | (refine gl_ (some 17) Tryz.func121 #[.string x0_2] ?_; (with_reducible refine (kK.calls x0_2 t181 t182 _ A15.out).mono ?_); rintro e w17 ⟨rfl, hb⟩; refine ⟨_, rfl, ?_⟩; replace HB := aj.mk (au HB.out hb); (try clear hb)))
         go_roundg k2
         case measure => have := HJ2.out; have := HK2.out; omega
         case rel => exact ⟨(t181), (t182), (by rfl), (by rfl), H', ⟨by have := HJ2.out; have := HK2.out; omega⟩, ⟨HB.out⟩⟩
       ·replace c11 := Bool.eq_false_iff.mpr c11
        subst c11
        rw [if_neg ff_] at H
        obtain rfl := Option.some.inj H
        go_wp2
        go_ret
        exact ⟨by rfl, HB.out⟩
end Go.Y.PRd
namespace Go.Y.PRd
open Go.Proofs.ah.av Go.Proofs.ah.aT Go.Proofs.ah.aU Go.Y.Given
attribute [local go_sem] dB dD dQ dP cK cB dA dF
mutual
def aH.l0 : Nat → ByteArray → List ByteArray → Int → Option (List ByteArray × Bool)
 | 0, _, _, _ => none
 | k + 1, x0, x4, x5 => if x5 < (x0.size : Int) then (if 0 ≤ x5 then (aH.j1 k x0 x4 x5 (decide ((bt x0 x5) > 0))) else (none)) else (aH.j1 k x0 x4 x5 false)
def aH.j1 : Nat → ByteArray → List ByteArray → Int → Bool → Option (List ByteArray × Bool)
 | 0, _, _, _, _ => none
 | k + 1, x0, x4, x5, x19 => if x19 = true then (if 0 ≤ x5 then (if x5 < (x0.size : Int) then (if (wrap64 (bt x0 x5)) > 63 then (some (([] : List ByteArray), false)) else (if (wrap64 ((wrap64 (x5 + 1)) + (wrap64 (bt x0 x5)))) > (x0.size : Int) then (some (([] : List ByteArray), false)) else (if 0 ≤ (wrap64 (x5 + 1)) then (if (wrap64 (x5 + 1)) ≤ (wrap64 ((wrap64 (x5 + 1)) + (wrap64 (bt x0 x5)))) then (if (wrap64 ((wrap64 (x5 + 1)) + (wrap64 (bt x0 x5)))) ≤ (x0.size : Int) then (if x4.length < 8796093022208 then (aH.l0 k x0 (x4 ++ [x0.extract ((wrap64 (x5 + 1)) : Int).toNat ((wrap64 ((wrap64 (x5 + 1)) + (wrap64 (bt x0 x5)))) : Int).toNat]) (wrap64 (x5 + (wrap64 (1 + (wrap64 (bt x0 x5))))))) else (none)) else (none)) else (none)) else (none)))) else (none)) else (none)) else (if x5 = (wrap64 ((x0.size : Int) - 1)) then (if 0 ≤ x5 then (if x5 < (x0.size : Int) then (some (x4, ((bt x0 x5) == 0))) else (none)) else (none)) else (some (x4, false)))
end
def aH.f (k : Nat) (a0 : ByteArray) : Option (List ByteArray × Bool) := if (a0.size : Int) > 255 then (some (([] : List ByteArray), false)) else (aH.l0 k a0 ([] : List ByteArray) 0)
theorem aH.calls (k : Nat) (a0 : ByteArray) (r1 : List ByteArray) (r2 : Bool) (w : World) (h : aH.f k a0 = some (r1, r2)) :
    Calls Tryz.prog 67 #[.string a0] w fun e w' => ∃ v0_ : Value, e = .returned (.tuple #[v0_, .bool r2]) ∧ Kd.R Kd.string 9 w' w.heap.size (fun _ => True) v0_ r1 ∧ Below w.heap.size w w' := by
  have HB := aj.mk (Below.refl w.heap.size w)
  have H : (if (a0.size : Int) > 255 then (some (([] : List ByteArray), false)) else (aH.l0 k a0 ([] : List ByteArray) 0)) = some (r1, r2) := h
  clear h
  by_cases c2 : (a0.size : Int) > 255
  focus
   rw [if_pos c2] at H
   have c2b0 : decide (255 < (a0.size : Int)) = true := decide_eq_true c2
   have c2b1 : decide (255 < a0.size) = true := decide_eq_true (by omega)
   clear c2
   simp only [Option.some.injEq, Prod.mk.injEq] at H
   obtain ⟨rfl, rfl⟩ := H
  rotate_left
  focus
   rw [if_neg c2] at H
   have c2b0 : decide (255 < (a0.size : Int)) = false := decide_eq_false c2
   have c2b1 : decide (255 < a0.size) = false := decide_eq_false (by omega)
   clear c2
   have H' := aj.mk H
   clear H
  rotate_left
  all_goals
   go_enter Tryz.func67, Tryz.ntmps67
   go_wp2
   repeat (go_quiet (fail); try go_wp2)
  ·go_ret2
   exact ⟨_, by rfl, by (exact Kd.fU _ _ _ _ _), HB.out⟩
  ·go_loopg [4, 5] k (fun kq v4 v5 w' => ∃ (x4_1 : List ByteArray) (x5_1 : Int), v5 = .int .i64 x5_1 ∧ aj (aH.l0 kq a0 x4_1 x5_1 = some (r1, r2)) ∧ aj (kq ≤ k) ∧ aj (Kd.R Kd.string 9 w' w.heap.size (fun _ => True) v4 x4_1) ∧ aj (Below w.heap.size w w'))
   case atStart => exact ⟨(([] : List ByteArray)), (0), (by rfl), H', ⟨Nat.le_refl _⟩, ⟨by (exact Kd.fU _ _ _ _ _)⟩, ⟨HB.out⟩⟩
   case round =>
    clear H'
    (try clear c2b0)
    (try clear c2b1)
    obtain ⟨x4_1, x5_1, rfl, HA, HK1, HO_4, HB⟩ := hrel
    cases gk with
    | zero => exact absurd HA.out (by simp [aH.l0])
    | succ k1 =>
     have H := HA.out
     clear HA
     simp only [aH.l0] at H
     have HC3 := aj.mk H
     clear H
     go_upto_region 5 with (fail)
     repeat (go_quiet (fail); go_upto_region 5 with (fail))
     go_cut [19] (fun v19 wc => ∃ (kq : Nat) (x19_2 : Bool), v19 = .bool x19_2 ∧ aj (aH.j1 kq a0 x4_1 x5_1 x19_2 = some (r1, r2)) ∧ aj (kq ≤ k1) ∧ aj (Kd.R Kd.string 9 wc w.heap.size (fun _ => True) u4 x4_1) ∧ aj (Below w.heap.size w wc))
     case first =>
      have H := HC3.out
      clear HC3
      by_cases c4 : x5_1 < (a0.size : Int)
      focus
       rw [if_pos c4] at H
       have c4b0 : decide (x5_1 < (a0.size : Int)) = true := decide_eq_true c4
      rotate_left
      focus
       rw [if_neg c4] at H
       have c4b0 : decide (x5_1 < (a0.size : Int)) = false := decide_eq_false c4
      rotate_left
      all_goals
       clear c4
       (skip)
      ·obtain ⟨c5b0, H⟩ := dX H
       have H' := aj.mk H
       clear H
       have p6 : 0 ≤ (x5_1 : Int) := of_decide_eq_true (by assumption)
       have q6 : x5_1 < (a0.size : Int) := of_decide_eq_true (by assumption)
       have hx6 := ng a0 x5_1
       replace p6 := eq_true p6
       replace q6 := eq_true q6
       go_wp2
       repeat (go_quiet (fail); try go_wp2)
       go_meet
       case rel => exact ⟨_, (decide ((bt a0 x5_1) > 0)), (by rfl), H', ⟨by have := HK1.out; omega⟩, ⟨by (with_reducible repeat ((apply Kd.aN))); exact HO_4.out⟩, ⟨HB.out⟩⟩
      ·have H' := aj.mk H
       clear H
       go_wp2
       repeat (go_quiet (fail); try go_wp2)
       go_meet
       case rel => exact ⟨_, (false), (by rfl), H', ⟨by have := HK1.out; omega⟩, ⟨by (with_reducible repeat ((apply Kd.aN))); exact HO_4.out⟩, ⟨HB.out⟩⟩
     case rest =>
      clear HC3
      obtain ⟨kq, x19_2, rfl, HA, HJ2, HO_4, HB⟩ := hcut
      cases kq with
      | zero => exact absurd HA.out (by simp [aH.j1])
      | succ kj2 =>
       have H := HA.out
       clear HA
       simp only [aH.j1] at H
       by_cases c7 : x19_2 = true
       ·subst c7
        rw [if_pos rfl] at H
        obtain ⟨c8b0, H⟩ := dX H
        obtain ⟨c9b0, H⟩ := dX H
        by_cases c11 : (wrap64 (bt a0 x5_1)) > 63
        focus
         rw [if_pos c11] at H
         have c11b0 : decide (63 < (wrap64 (bt a0 x5_1))) = true := decide_eq_true c11
         clear c11
         simp only [Option.some.injEq, Prod.mk.injEq] at H
         obtain ⟨rfl, rfl⟩ := H
        rotate_left
        focus
         rw [if_neg c11] at H
         have c11b0 : decide (63 < (wrap64 (bt a0 x5_1))) = false := decide_eq_false c11
         clear c11
         by_cases c12 : (wrap64 ((wrap64 (x5_1 + 1)) + (wrap64 (bt a0 x5_1)))) > (a0.size : Int)
         focus
          rw [if_pos c12] at H
          have c12b0 : decide ((a0.size : Int) < (wrap64 ((wrap64 (x5_1 + 1)) + (wrap64 (bt a0 x5_1))))) = true := decide_eq_true c12
          clear c12
          simp only [Option.some.injEq, Prod.mk.injEq] at H
          obtain ⟨rfl, rfl⟩ := H
         rotate_left
         focus
          rw [if_neg c12] at H
          have c12b0 : decide ((a0.size : Int) < (wrap64 ((wrap64 (x5_1 + 1)) + (wrap64 (bt a0 x5_1))))) = false := decide_eq_false c12
          clear c12
          obtain ⟨ji13, hji13⟩ : ∃ j_ : Int, (wrap64 (x5_1 + 1)) = j_ := ⟨_, rfl⟩
          rw [hji13] at H
          (try rw [hji13] at c12b0)
          have hji13w : (IntKind.i64.wrap (x5_1 + 1)) = ji13 := (dU _).trans hji13
          obtain ⟨c14, H⟩ := gd_ H
          have c14b0 := eq_true c14
          have c14b1 : decide (0 ≤ (ji13)) = true := decide_eq_true c14
          clear c14
          obtain ⟨c15, H⟩ := gd_ H
          have c15b0 := eq_true c15
          have c15b1 : decide ((ji13) ≤ (wrap64 ((ji13) + (wrap64 (bt a0 x5_1))))) = true := decide_eq_true c15
          obtain ⟨c16, H⟩ := gd_ H
          have c16b0 := eq_true c16
          have c16b1 : decide ((wrap64 ((ji13) + (wrap64 (bt a0 x5_1)))) ≤ (a0.size : Int)) = true := decide_eq_true c16
          obtain ⟨c17, H⟩ := gd_ H
          have LMc17 := aj.mk c17
          clear c17
          obtain ⟨y210, hy210⟩ : ∃ y_ : List ByteArray, y_ = (x4_1 ++ [a0.extract ((ji13) : Int).toNat ((wrap64 ((ji13) + (wrap64 (bt a0 x5_1)))) : Int).toNat]) := ⟨_, rfl⟩
          replace H : (aH.l0 kj2 a0 y210 (wrap64 (x5_1 + (wrap64 (1 + (wrap64 (bt a0 x5_1))))))) = some (r1, r2) := by (rw [hy210]; with_reducible exact H)
          have Ny210 := aj.mk hy210
          clear hy210
          have H' := aj.mk H
          clear H
         rotate_left
        rotate_left 2
        all_goals
         have p10 : 0 ≤ (x5_1 : Int) := of_decide_eq_true (by assumption)
         have q10 : x5_1 < (a0.size : Int) := of_decide_eq_true (by assumption)
         have hx10 := ng a0 x5_1
         replace p10 := eq_true p10
         replace q10 := eq_true q10
        ·go_wp2
         repeat (go_quiet (fail); try go_wp2)
         go_ret2
         exact ⟨_, by rfl, by (exact Kd.fU _ _ _ _ _), HB.out⟩
        ·go_wp2
         repeat (go_quiet (fail); try go_wp2)
         go_ret2
         exact ⟨_, by rfl, by (exact Kd.fU _ _ _ _ _), HB.out⟩
        ·go_wp2_with ((((with_reducible refine eO (b := .append) (xs := #[.tmp 35, .tmp 44]) rfl ?_); (try (refine dZ (by rfl) ?_; dsimp only)); at_builtin; refine Kd.iL Kd.string (w0 := w) w.heap.size rfl (.tmp 35) (.tmp 44) 43 9 (.string ⟨#[]⟩) 16 rfl Tryz.underlying43 nA rfl (by decide) (by omega) u4 x4_1 (a0.extract ((ji13) : Int).toNat ((wrap64 ((ji13) + (wrap64 (bt a0 x5_1)))) : Int).toNat) [.string (a0.extract ((ji13) : Int).toNat ((wrap64 ((ji13) + (wrap64 (bt a0 x5_1)))) : Int).toNat)] (fun _ => True) (fun _ => False) rfl rfl ?aP (fun _ hk => hk.elim) ?aF ?aO ?aB ?aS ?aL ?_; (case aP => exact rfl); (case aB => exact HB.out); (case aF => exact (fun _ _ => trivial)); (case aO => exact (by ((exact HO_4.out)))); (case aS => exact (ay HB.out)); (case aL => have := LMc17.out; omega); intro v211 w18 ho hb hg hat; rw [← Ny210.out] at ho; have n0_ := aj.mk (hb); have n1_ := aj.mk (ho); clear HB; clear HO_4; have HB := n0_; have HO212 := n1_; clear n0_ n1_; clear ho hb hg hat)))
         repeat (go_quiet ((((with_reducible refine eO (b := .append) (xs := #[.tmp 35, .tmp 44]) rfl ?_); at_builtin; refine Kd.iL Kd.string (w0 := w) w.heap.size rfl (.tmp 35) (.tmp 44) 43 9 (.string ⟨#[]⟩) 16 rfl Tryz.underlying43 nA rfl (by decide) (by omega) u4 x4_1 (a0.extract ((ji13) : Int).toNat ((wrap64 ((ji13) + (wrap64 (bt a0 x5_1)))) : Int).toNat) [.string (a0.extract ((ji13) : Int).toNat ((wrap64 ((ji13) + (wrap64 (bt a0 x5_1)))) : Int).toNat)] (fun _ => True) (fun _ => False) rfl rfl ?aP (fun _ hk => hk.elim) ?aF ?aO ?aB ?aS ?aL ?_; (case aP => exact rfl); (case aB => exact HB.out); (case aF => exact (fun _ _ => trivial)); (case aO => exact (by ((exact HO_4.out)))); (case aS => exact (ay HB.out)); (case aL => have := LMc17.out; omega); intro v211 w18 ho hb hg hat; rw [← Ny210.out] at ho; have n0_ := aj.mk (hb); have n1_ := aj.mk (ho); clear HB; clear HO_4; have HB := n0_; have HO212 := n1_; clear n0_ n1_; clear ho hb hg hat))); try go_wp2_with ((((with_reducible refine eO (b := .append) (xs := #[.tmp 35, .tmp 44]) rfl ?_); at_builtin; refine Kd.iL Kd.string (w0 := w) w.heap.size rfl (.tmp 35) (.tmp 44) 43 9 (.string ⟨#[]⟩) 16 rfl Tryz.underlying43 nA rfl (by decide) (by omega) u4 x4_1 (a0.extract ((ji13) : Int).toNat ((wrap64 ((ji13) + (wrap64 (bt a0 x5_1)))) : Int).toNat) [.string (a0.extract ((ji13) : Int).toNat ((wrap64 ((ji13) + (wrap64 (bt a0 x5_1)))) : Int).toNat)] (fun _ => True) (fun _ => False) rfl rfl ?aP (fun _ hk => hk.elim) ?aF ?aO ?aB ?aS ?aL ?_; (case aP => exact rfl); (case aB => exact HB.out); (case aF => exact (fun _ _ => trivial)); (case aO => exact (by ((exact HO_4.out)))); (case aS => exact (ay HB.out)); (case aL => have := LMc17.out; omega); intro v211 w18 ho hb hg hat; rw [← Ny210.out] at ho; have n0_ := aj.mk (hb); have n1_ := aj.mk (ho); clear HB; clear HO_4; have HB := n0_; have HO212 := n1_; clear n0_ n1_; clear ho hb hg hat))))
         go_roundg kj2
         case measure => have := HK1.out; have := HJ2.out; omega
         case rel => exact ⟨(y210), (wrap64 (x5_1 + (wrap64 (1 + (wrap64 (bt a0 x5_1)))))), (by rfl), H', ⟨by have := HK1.out; have := HJ2.out; omega⟩, ⟨by (with_reducible repeat ((apply Kd.aN))); exact HO212.out⟩, ⟨HB.out⟩⟩
       ·replace c7 := Bool.eq_false_iff.mpr c7
        subst c7
        rw [if_neg ff_] at H
        by_cases c19 : x5_1 = (wrap64 ((a0.size : Int) - 1))
        focus
         rw [if_pos c19] at H
         have c19b0 : (x5_1 == (wrap64 ((a0.size : Int) - 1))) = true := beq_iff_eq.mpr c19
         have c19b1 : (x5_1 != (wrap64 ((a0.size : Int) - 1))) = false := bne_eq_false_iff_eq.mpr c19
         clear c19
         obtain ⟨c20b0, H⟩ := dX H
         obtain ⟨c21b0, H⟩ := dX H
        rotate_left
        focus
         rw [if_neg c19] at H
         have c19b0 : (x5_1 == (wrap64 ((a0.size : Int) - 1))) = false := beq_eq_false_iff_ne.mpr c19
         have c19b1 : (x5_1 != (wrap64 ((a0.size : Int) - 1))) = true := bne_iff_ne.mpr c19
        rotate_left
        all_goals
         simp only [Option.some.injEq, Prod.mk.injEq] at H
         obtain ⟨rfl, rfl⟩ := H
        focus
         have p22 : 0 ≤ (x5_1 : Int) := of_decide_eq_true (by assumption)
         have q22 : x5_1 < (a0.size : Int) := of_decide_eq_true (by assumption)
         have hx22 := ng a0 x5_1
         replace p22 := eq_true p22
         replace q22 := eq_true q22
        rotate_left
        rotate_left
        all_goals
         go_wp2
         repeat (go_quiet (fail); try go_wp2)
         go_ret2
         exact ⟨_, by rfl, by (with_reducible repeat ((apply Kd.kH))); exact HO_4.out, by repeat ((with_reducible first | exact HB.out | apply aW))⟩
def dL.f (k : Nat) (a0 : ByteArray) : Option (Bool) := (aH.f k a0).bind fun bt213 => (some bt213.2)
theorem dL.calls (k : Nat) (a0 : ByteArray) (r : Bool) (w : World) (h : dL.f k a0 = some r) :
  Calls Tryz.prog 58 #[.string a0] w fun e w' => e = .returned (.bool r) ∧ Below w.heap.size w w' := by
 have HB := aj.mk (Below.refl w.heap.size w)
 have H : ((aH.f k a0).bind fun bt213 => (some bt213.2)) = some r := h
 clear h
 replace H := Option.bind_eq_some_iff.mp H
 obtain ⟨⟨t213, t214⟩, A20, H⟩ := H
 replace H : (some t214) = some r := H
 have A2 := aj.mk A20
 clear A20
 obtain rfl := Option.some.inj H
 go_enter Tryz.func58, Tryz.ntmps58
 go_wp2_with ((((with_reducible refine eG (f := 67) rfl ?_); refine iK (some 7) rfl rfl Tryz.func67 (by kernel_rfl) rfl #[.string a0] rfl (by (try simp only [mA_, mC_, mN_]); rfl) ?_; (with_reducible refine (aH.calls k a0 t213 t214 _ A2.out).mono ?_); rintro e w3 ⟨v215, rfl, ho0, hb⟩; refine ⟨_, rfl, ?_⟩; have HO216 := aj.mk (Kd.bS ho0 (ay HB.out)); replace HB := aj.mk (au HB.out hb); (try clear hb); (try clear ho0))))
 go_ret
 exact ⟨by rfl, HB.out⟩
mutual
def aY.j0 : Nat → ByteArray → Int → Bool → Option (ByteArray × Int × Int)
 | 0, _, _, _ => none
 | k + 1, x0, x1, x19 => if x19 = true then (some ((⟨#[]⟩ : ByteArray), 0, 1)) else (aY.l0 k x0 x1 (⟨#[]⟩ : ByteArray) (-1) x1)
def aY.l0 : Nat → ByteArray → Int → ByteArray → Int → Int → Option (ByteArray × Int × Int)
 | 0, _, _, _, _, _ => none
 | k + 1, x0, x1, x7, x8, x9 => if x1 < (x0.size : Int) then (aY.j2 k x0 x1 x7 x8 x9 (decide ((x7.size : Int) < 300))) else (aY.j2 k x0 x1 x7 x8 x9 false)
def aY.j2 : Nat → ByteArray → Int → ByteArray → Int → Int → Bool → Option (ByteArray × Int × Int)
 | 0, _, _, _, _, _, _ => none
 | k + 1, x0, x1, x7, x8, x9, x29 => if x29 = true then (if 0 ≤ x1 then (if x1 < (x0.size : Int) then (if (wrap64 (bt x0 x1)) = 0 then (if x7.size + 1 ≤ 9223372036854775807 then (if x8 < 0 then ((dL.f k (x7 ++ (⟨#[0]⟩ : ByteArray))).bind fun t217 => (if t217 = true then (some (x7 ++ (⟨#[0]⟩ : ByteArray), wrap64 (x1 + 1), 0)) else (some ((⟨#[]⟩ : ByteArray), 0, 2)))) else ((dL.f k (x7 ++ (⟨#[0]⟩ : ByteArray))).bind fun t218 => (if t218 = true then (some (x7 ++ (⟨#[0]⟩ : ByteArray), x8, 0)) else (some ((⟨#[]⟩ : ByteArray), 0, 2))))) else (none)) else (if (wrap64 (bt x0 x1)) ≥ 192 then (if (wrap64 (x1 + 1)) ≥ (x0.size : Int) then (some ((⟨#[]⟩ : ByteArray), 0, 2)) else (if 0 ≤ (wrap64 (x1 + 1)) then (if (wrap64 (x1 + 1)) < (x0.size : Int) then (if (wrap64 ((wrap64 ((wrap64 ((wrap64 (bt x0 x1)) - 192)) * 256)) + (wrap64 (bt x0 (wrap64 (x1 + 1)))))) ≥ x9 then (some ((⟨#[]⟩ : ByteArray), 0, 2)) else (if x8 < 0 then (aY.l0 k x0 (wrap64 ((wrap64 ((wrap64 ((wrap64 (bt x0 x1)) - 192)) * 256)) + (wrap64 (bt x0 (wrap64 (x1 + 1)))))) x7 (wrap64 (x1 + 2)) (wrap64 ((wrap64 ((wrap64 ((wrap64 (bt x0 x1)) - 192)) * 256)) + (wrap64 (bt x0 (wrap64 (x1 + 1))))))) else (aY.l0 k x0 (wrap64 ((wrap64 ((wrap64 ((wrap64 (bt x0 x1)) - 192)) * 256)) + (wrap64 (bt x0 (wrap64 (x1 + 1)))))) x7 x8 (wrap64 ((wrap64 ((wrap64 ((wrap64 (bt x0 x1)) - 192)) * 256)) + (wrap64 (bt x0 (wrap64 (x1 + 1))))))))) else (none)) else (none))) else (if (wrap64 (bt x0 x1)) ≥ 64 then (some ((⟨#[]⟩ : ByteArray), 0, 2)) else (if (wrap64 ((wrap64 (x1 + 1)) + (wrap64 (bt x0 x1)))) > (x0.size : Int) then (some ((⟨#[]⟩ : ByteArray), 0, 2)) else (if x1 ≤ (wrap64 ((wrap64 (x1 + 1)) + (wrap64 (bt x0 x1)))) then (if (wrap64 ((wrap64 (x1 + 1)) + (wrap64 (bt x0 x1)))) ≤ (x0.size : Int) then (if x7.size + (x0.extract (x1 : Int).toNat ((wrap64 ((wrap64 (x1 + 1)) + (wrap64 (bt x0 x1)))) : Int).toNat).size ≤ 9223372036854775807 then (aY.l0 k x0 (wrap64 (x1 + (wrap64 (1 + (wrap64 (bt x0 x1)))))) (x7 ++ (x0.extract (x1 : Int).toNat ((wrap64 ((wrap64 (x1 + 1)) + (wrap64 (bt x0 x1)))) : Int).toNat)) x8 x9) else (none)) else (none)) else (none)))))) else (none)) else (none)) else (some ((⟨#[]⟩ : ByteArray), 0, 2))
end
def aY.f (k : Nat) (a0 : ByteArray) (a1 : Int) : Option (ByteArray × Int × Int) := if a1 < 0 then (aY.j0 k a0 a1 true) else (aY.j0 k a0 a1 (decide (a1 > (a0.size : Int))))
theorem aY.calls (k : Nat) (a0 : ByteArray) (a1 : Int) (r1 : ByteArray) (r2 : Int) (r3 : Int) (w : World) (h : aY.f k a0 a1 = some (r1, r2, r3)) :
    Calls Tryz.prog 159 #[.string a0, .int .i64 a1] w fun e w' => e = .returned (.tuple #[.string r1, .int .i64 r2, .int .i64 r3]) ∧ Below w.heap.size w w' := by
  have HB := aj.mk (Below.refl w.heap.size w)
  have H : (if a1 < 0 then (aY.j0 k a0 a1 true) else (aY.j0 k a0 a1 (decide (a1 > (a0.size : Int))))) = some (r1, r2, r3) := h
  clear h
  have HC3 := aj.mk H
  clear H
  go_enter Tryz.func159, Tryz.ntmps159
  go_upto_region 1 with (fail)
  go_cut [19] (fun v19 wc => ∃ (kq : Nat) (x19_2 : Bool), v19 = .bool x19_2 ∧ aj (aY.j0 kq a0 a1 x19_2 = some (r1, r2, r3)) ∧ aj (kq ≤ k) ∧ aj (Below w.heap.size w wc))
  case first =>
   have H := HC3.out
   clear HC3
   by_cases c4 : a1 < 0
   focus
    rw [if_pos c4] at H
    have c4b0 : decide (a1 < 0) = true := decide_eq_true c4
   rotate_left
   focus
    rw [if_neg c4] at H
    have c4b0 : decide (a1 < 0) = false := decide_eq_false c4
   rotate_left
   all_goals
    clear c4
    (skip)
    have H' := aj.mk H
    clear H
    go_wp2
    go_meet
   ·case rel => exact ⟨_, (true), (by rfl), H', ⟨by omega⟩, ⟨HB.out⟩⟩
   ·case rel => exact ⟨_, (decide (a1 > (a0.size : Int))), (by rfl), H', ⟨by omega⟩, ⟨HB.out⟩⟩
  case rest =>
   clear HC3
   obtain ⟨kq, x19_2, rfl, HA, HJ2, HB⟩ := hcut
   cases kq with
   | zero => exact absurd HA.out (by simp [aY.j0])
   | succ kj2 =>
    have H := HA.out
    clear HA
    simp only [aY.j0] at H
    by_cases c5 : x19_2 = true
    ·subst c5
     rw [if_pos rfl] at H
     simp only [Option.some.injEq, Prod.mk.injEq] at H
     obtain ⟨rfl, rfl, rfl⟩ := H
     go_wp2
     go_ret3
     exact ⟨by rfl, HB.out⟩
    ·replace c5 := Bool.eq_false_iff.mpr c5
     subst c5
     rw [if_neg ff_] at H
     have H' := aj.mk H
     clear H
     go_wp2
     go_loopg [1, 7, 8, 9] kj2 (fun kq v1 v7 v8 v9 w' => ∃ (x1_2 : Int) (x7_2 : ByteArray) (x8_2 : Int) (x9_2 : Int), v1 = .int .i64 x1_2 ∧ v7 = .string x7_2 ∧ v8 = .int .i64 x8_2 ∧ v9 = .int .i64 x9_2 ∧ aj (aY.l0 kq a0 x1_2 x7_2 x8_2 x9_2 = some (r1, r2, r3)) ∧ aj (kq ≤ kj2) ∧ aj (Below w.heap.size w w'))
     case atStart => exact ⟨(a1), ((⟨#[]⟩ : ByteArray)), ((-1)), (a1), (by rfl), (by rfl), (by rfl), (by rfl), H', ⟨Nat.le_refl _⟩, ⟨HB.out⟩⟩
     case round =>
      clear H'
      obtain ⟨x1_2, x7_2, x8_2, x9_2, rfl, rfl, rfl, rfl, HA, HK2, HB⟩ := hrel
      cases gk with
      | zero => exact absurd HA.out (by simp [aY.l0])
      | succ k2 =>
       have H := HA.out
       clear HA
       simp only [aY.l0] at H
       have HC6 := aj.mk H
       clear H
       go_upto_region 6 with (fail)
       go_cut [29] (fun v29 wc => ∃ (kq : Nat) (x29_5 : Bool), v29 = .bool x29_5 ∧ aj (aY.j2 kq a0 x1_2 x7_2 x8_2 x9_2 x29_5 = some (r1, r2, r3)) ∧ aj (kq ≤ k2) ∧ aj (Below w.heap.size w wc))
       case first =>
        have H := HC6.out
        clear HC6
        by_cases c7 : x1_2 < (a0.size : Int)
        focus
         rw [if_pos c7] at H
         have c7b0 : decide (x1_2 < (a0.size : Int)) = true := decide_eq_true c7
        rotate_left
        focus
         rw [if_neg c7] at H
         have c7b0 : decide (x1_2 < (a0.size : Int)) = false := decide_eq_false c7
        rotate_left
        all_goals
         clear c7
         (skip)
         have H' := aj.mk H
         clear H
         go_wp2
         go_meet
        ·case rel => exact ⟨_, (decide ((x7_2.size : Int) < 300)), (by rfl), H', ⟨by have := HJ2.out; have := HK2.out; omega⟩, ⟨HB.out⟩⟩
        ·case rel => exact ⟨_, (false), (by rfl), H', ⟨by have := HJ2.out; have := HK2.out; omega⟩, ⟨HB.out⟩⟩
       case rest =>
        clear HC6
        obtain ⟨kq, x29_5, rfl, HA, HJ5, HB⟩ := hcut
        cases kq with
        | zero => exact absurd HA.out (by simp [aY.j2])
        | succ kj5 =>
         have H := HA.out
         clear HA
         simp only [aY.j2] at H
         by_cases c8 : x29_5 = true
         ·subst c8
          rw [if_pos rfl] at H
          obtain ⟨c9b0, H⟩ := dX H
          obtain ⟨c10b0, H⟩ := dX H
          by_cases c12 : (wrap64 (bt a0 x1_2)) = 0
          focus
           rw [if_pos c12] at H
           have c12b0 : ((wrap64 (bt a0 x1_2)) == 0) = true := beq_iff_eq.mpr c12
           have c12b1 : ((wrap64 (bt a0 x1_2)) != 0) = false := bne_eq_false_iff_eq.mpr c12
           clear c12
           obtain ⟨c13, H⟩ := gd_ H
           have c13b0 := eq_true c13
           have c13b1 : decide (x7_2.size + 1 ≤ 9223372036854775807) = true := decide_eq_true c13
           (try have c13b2 : (9223372036854775807 < x7_2.size + 1) = False := eq_false (Nat.not_lt.2 c13))
           by_cases c14 : x8_2 < 0
           focus
            rw [if_pos c14] at H
            have c14b0 : decide (x8_2 < 0) = true := decide_eq_true c14
            clear c14
            obtain ⟨t217, A15, H⟩ := cu H
            by_cases c16 : t217 = true
            focus
             subst c16
             rw [if_pos rfl] at H
            rotate_left
            focus
             replace c16 := Bool.eq_false_iff.mpr c16
             subst c16
             rw [if_neg ff_] at H
            rotate_left
           rotate_left 2
           focus
            rw [if_neg c14] at H
            have c14b0 : decide (x8_2 < 0) = false := decide_eq_false c14
            clear c14
            obtain ⟨t218, A15, H⟩ := cu H
            by_cases c20 : t218 = true
            focus
             subst c20
             rw [if_pos rfl] at H
            rotate_left
            focus
             replace c20 := Bool.eq_false_iff.mpr c20
             subst c20
             rw [if_neg ff_] at H
            rotate_left
           rotate_left 2
           all_goals
            simp only [Option.some.injEq, Prod.mk.injEq] at H
            obtain ⟨rfl, rfl, rfl⟩ := H
          rotate_left 4
          focus
           rw [if_neg c12] at H
           have c12b0 : ((wrap64 (bt a0 x1_2)) == 0) = false := beq_eq_false_iff_ne.mpr c12
           have c12b1 : ((wrap64 (bt a0 x1_2)) != 0) = true := bne_iff_ne.mpr c12
           by_cases c23 : (wrap64 (bt a0 x1_2)) ≥ 192
           focus
            rw [if_pos c23] at H
            have c23b0 : decide (192 ≤ (wrap64 (bt a0 x1_2))) = true := decide_eq_true c23
            clear c23
            by_cases c24 : (wrap64 (x1_2 + 1)) ≥ (a0.size : Int)
            focus
             rw [if_pos c24] at H
             have c24b0 : decide ((a0.size : Int) ≤ (wrap64 (x1_2 + 1))) = true := decide_eq_true c24
             clear c24
             simp only [Option.some.injEq, Prod.mk.injEq] at H
             obtain ⟨rfl, rfl, rfl⟩ := H
            rotate_left
            focus
             rw [if_neg c24] at H
             have c24b0 : decide ((a0.size : Int) ≤ (wrap64 (x1_2 + 1))) = false := decide_eq_false c24
             clear c24
             obtain ⟨ji25, hji25⟩ : ∃ j_ : Int, (wrap64 (x1_2 + 1)) = j_ := ⟨_, rfl⟩
             rw [hji25] at H
             (try rw [hji25] at c24b0)
             have hji25w : (IntKind.i64.wrap (x1_2 + 1)) = ji25 := (dU _).trans hji25
             obtain ⟨c26b0, H⟩ := dX H
             obtain ⟨c27b0, H⟩ := dX H
             by_cases c29 : (wrap64 ((wrap64 ((wrap64 ((wrap64 (bt a0 x1_2)) - 192)) * 256)) + (wrap64 (bt a0 (ji25))))) ≥ x9_2
             focus
              rw [if_pos c29] at H
              have c29b0 : decide (x9_2 ≤ (wrap64 ((wrap64 ((wrap64 ((wrap64 (bt a0 x1_2)) - 192)) * 256)) + (wrap64 (bt a0 (ji25)))))) = true := decide_eq_true c29
              clear c29
              simp only [Option.some.injEq, Prod.mk.injEq] at H
              obtain ⟨rfl, rfl, rfl⟩ := H
             rotate_left
             focus
              rw [if_neg c29] at H
              have c29b0 : decide (x9_2 ≤ (wrap64 ((wrap64 ((wrap64 ((wrap64 (bt a0 x1_2)) - 192)) * 256)) + (wrap64 (bt a0 (ji25)))))) = false := decide_eq_false c29
              clear c29
              by_cases c30 : x8_2 < 0
              focus
               rw [if_pos c30] at H
               have c30b0 : decide (x8_2 < 0) = true := decide_eq_true c30
              rotate_left
              focus
               rw [if_neg c30] at H
               have c30b0 : decide (x8_2 < 0) = false := decide_eq_false c30
              rotate_left
              all_goals
               clear c30
               have H' := aj.mk H
               clear H
             rotate_left 2
            rotate_left 3
           rotate_left 4
           focus
            rw [if_neg c23] at H
            have c23b0 : decide (192 ≤ (wrap64 (bt a0 x1_2))) = false := decide_eq_false c23
            clear c23
            by_cases c31 : (wrap64 (bt a0 x1_2)) ≥ 64
            focus
             rw [if_pos c31] at H
             have c31b0 : decide (64 ≤ (wrap64 (bt a0 x1_2))) = true := decide_eq_true c31
             clear c31
             simp only [Option.some.injEq, Prod.mk.injEq] at H
             obtain ⟨rfl, rfl, rfl⟩ := H
            rotate_left
            focus
             rw [if_neg c31] at H
             have c31b0 : decide (64 ≤ (wrap64 (bt a0 x1_2))) = false := decide_eq_false c31
             clear c31
             by_cases c32 : (wrap64 ((wrap64 (x1_2 + 1)) + (wrap64 (bt a0 x1_2)))) > (a0.size : Int)
             focus
              rw [if_pos c32] at H
              have c32b0 : decide ((a0.size : Int) < (wrap64 ((wrap64 (x1_2 + 1)) + (wrap64 (bt a0 x1_2))))) = true := decide_eq_true c32
              clear c32
              simp only [Option.some.injEq, Prod.mk.injEq] at H
              obtain ⟨rfl, rfl, rfl⟩ := H
             rotate_left
             focus
              rw [if_neg c32] at H
              have c32b0 : decide ((a0.size : Int) < (wrap64 ((wrap64 (x1_2 + 1)) + (wrap64 (bt a0 x1_2))))) = false := decide_eq_false c32
              clear c32
              have c33b0 := eq_true (of_decide_eq_true (by assumption) : 0 ≤ x1_2)
              obtain ⟨c34, H⟩ := gd_ H
              have c34b0 := eq_true c34
              have c34b1 : decide (x1_2 ≤ (wrap64 ((wrap64 (x1_2 + 1)) + (wrap64 (bt a0 x1_2))))) = true := decide_eq_true c34
              obtain ⟨c35, H⟩ := gd_ H
              have c35b0 := eq_true c35
              have c35b1 : decide ((wrap64 ((wrap64 (x1_2 + 1)) + (wrap64 (bt a0 x1_2)))) ≤ (a0.size : Int)) = true := decide_eq_true c35
              obtain ⟨c36, H⟩ := gd_ H
              have c36b0 := eq_true c36
              have c36b1 : decide (x7_2.size + (a0.extract (x1_2 : Int).toNat ((wrap64 ((wrap64 (x1_2 + 1)) + (wrap64 (bt a0 x1_2)))) : Int).toNat).size ≤ 9223372036854775807) = true := decide_eq_true c36
              (try have c36b2 : (9223372036854775807 < x7_2.size + (a0.extract (x1_2 : Int).toNat ((wrap64 ((wrap64 (x1_2 + 1)) + (wrap64 (bt a0 x1_2)))) : Int).toNat).size) = False := eq_false (Nat.not_lt.2 c36))
              have H' := aj.mk H
              clear H
             rotate_left
            rotate_left 2
           rotate_left 3
          rotate_left 7
          all_goals
           have p11 : 0 ≤ (x1_2 : Int) := of_decide_eq_true (by assumption)
           have q11 : x1_2 < (a0.size : Int) := of_decide_eq_true (by assumption)
           have hx11 := ng a0 x1_2
           replace p11 := eq_true p11
           replace q11 := eq_true q11
          iterate 4
           focus
            go_wp2_with ((((with_reducible refine eG (f := 58) rfl ?_); refine iK (some 43) rfl rfl Tryz.func58 (by kernel_rfl) rfl #[.string (x7_2 ++ (⟨#[0]⟩ : ByteArray))] rfl (by (try simp only [mA_, mC_, mN_]); rfl) ?_; (with_reducible refine (dL.calls kj5 (x7_2 ++ (⟨#[0]⟩ : ByteArray)) _ _ A15.out).mono ?_); rintro e w17 ⟨rfl, hb⟩; refine ⟨_, rfl, ?_⟩; replace HB := aj.mk (au HB.out hb); (try clear hb))))
            go_ret3
            exact ⟨by rfl, HB.out⟩
          ·go_wp2
           go_ret3
           exact ⟨by rfl, HB.out⟩
          iterate 3
           focus
            have p28 : 0 ≤ ((ji25) : Int) := of_decide_eq_true (by assumption)
            have q28 : (ji25) < (a0.size : Int) := of_decide_eq_true (by assumption)
            have hx28 := ng a0 (ji25)
            replace p28 := eq_true p28
            replace q28 := eq_true q28
            go_wp2
           rotate_left
          rotate_left 3
          ·go_ret3
           exact ⟨by rfl, HB.out⟩
          iterate 2
           focus
            go_roundg kj5
            case measure => have := HJ2.out; have := HK2.out; have := HJ5.out; omega
           rotate_left
          rotate_left 3
          ·case rel => exact ⟨(wrap64 ((wrap64 ((wrap64 ((wrap64 (bt a0 x1_2)) - 192)) * 256)) + (wrap64 (bt a0 (ji25))))), (x7_2), (wrap64 (x1_2 + 2)), (wrap64 ((wrap64 ((wrap64 ((wrap64 (bt a0 x1_2)) - 192)) * 256)) + (wrap64 (bt a0 (ji25))))), (by rfl), (by rfl), (by rfl), (by rfl), H', ⟨by have := HJ2.out; have := HK2.out; have := HJ5.out; omega⟩, ⟨HB.out⟩⟩
          ·case rel => exact ⟨(wrap64 ((wrap64 ((wrap64 ((wrap64 (bt a0 x1_2)) - 192)) * 256)) + (wrap64 (bt a0 (ji25))))), (x7_2), (x8_2), (wrap64 ((wrap64 ((wrap64 ((wrap64 (bt a0 x1_2)) - 192)) * 256)) + (wrap64 (bt a0 (ji25))))), (by rfl), (by rfl), (by rfl), (by rfl), H', ⟨by have := HJ2.out; have := HK2.out; have := HJ5.out; omega⟩, ⟨HB.out⟩⟩
          all_goals
           go_wp2
          ·go_ret3
           exact ⟨by rfl, HB.out⟩
          ·go_ret3
           exact ⟨by rfl, HB.out⟩
          ·go_roundg kj5
           case measure => have := HJ2.out; have := HK2.out; have := HJ5.out; omega
           case rel => exact ⟨(wrap64 (x1_2 + (wrap64 (1 + (wrap64 (bt a0 x1_2)))))), (x7_2 ++ (a0.extract (x1_2 : Int).toNat ((wrap64 ((wrap64 (x1_2 + 1)) + (wrap64 (bt a0 x1_2)))) : Int).toNat)), (x8_2), (x9_2), (by rfl), (by rfl), (by rfl), (by rfl), H', ⟨by have := HJ2.out; have := HK2.out; have := HJ5.out; omega⟩, ⟨HB.out⟩⟩
         ·replace c8 := Bool.eq_false_iff.mpr c8
          subst c8
          rw [if_neg ff_] at H
          simp only [Option.some.injEq, Prod.mk.injEq] at H
          obtain ⟨rfl, rfl, rfl⟩ := H
          go_wp2
          go_ret3
          exact ⟨by rfl, HB.out⟩
end Go.Y.PRd
