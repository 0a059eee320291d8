/- Words on worlds: what a call may have changed besides making new memory: the blocks of a set. -/
import Derived.Test.YtekbecpcbfhdmaaWWords
namespace Go.Proofs.Ytekbecpcbfhdmaa.UpdWords
open Go.RowKit Go.Proofs.YtekbecpcbfhdmaaW.PrintWords

/-- w' is w but for the blocks in S, and new ones. -/
structure Upd (S : Nat → Prop) (w w' : World) : Prop where
  os : w'.os = w.os
  tape : w'.tape = w.tape
  output : w'.output = w.output
  size : w.heap.size ≤ w'.heap.size
  block : ∀ k, k < w.heap.size → ¬ S k → w'.heap[k]? = w.heap[k]?
theorem Upd.refl (S : Nat → Prop) (w : World) : Upd S w w := ⟨rfl, rfl, rfl, Nat.le_refl _, fun _ _ _ => rfl⟩
theorem Upd.trans {S S' : Nat → Prop} {a b c : World} (h : Upd S a b) (k : Upd S' b c) (hs : ∀ i, S' i → S i ∨ a.heap.size ≤ i) : Upd S a c :=
  ⟨k.os.trans h.os, k.tape.trans h.tape, k.output.trans h.output, Nat.le_trans h.size k.size, fun i hi hn => (k.block i (Nat.lt_of_lt_of_le hi h.size) (fun h' => (hs i h').elim hn (fun h2 => by omega))).trans (h.block i hi hn)⟩
theorem Upd.mono {S S' : Nat → Prop} {a b : World} (h : Upd S a b) (hs : ∀ i, S i → S' i ∨ a.heap.size ≤ i) : Upd S' a b :=
  ⟨h.os, h.tape, h.output, h.size, fun i hi hn => h.block i hi (fun h' => (hs i h').elim hn (fun h2 => by omega))⟩
theorem Upd.of_below {S : Nat → Prop} {a b : World} (h : Below a.heap.size a b) : Upd S a b := ⟨h.os, h.tape, h.output, h.size, fun i hi _ => h.block i hi⟩
theorem Upd.below {S : Nat → Prop} {B : Nat} {a b c : World} (h : Below B a b) (k : Upd S b c) (hB : B ≤ b.heap.size) (hs : ∀ i, S i → B ≤ i) : Below B a c :=
  ⟨k.os.trans h.os, k.tape.trans h.tape, k.output.trans h.output, Nat.le_trans h.size k.size, fun i hi => (k.block i (by omega) (fun h' => by have := hs i h'; omega)).trans (h.block i hi)⟩
theorem Upd.to_below {S : Nat → Prop} {a b : World} (k : Upd S a b) (hs : ∀ i, S i → a.heap.size ≤ i) : Below a.heap.size a b :=
  Upd.below (Below.refl _ _) k (Nat.le_refl _) hs
theorem Upd.alloc {S : Nat → Prop} {a b : World} (h : Upd S a b) (o : Obj) : Upd S a (b.alloc o) :=
  h.trans (S' := fun _ => False) (Upd.of_below (below_alloc (Below.refl _ _) o)) (fun _ h => h.elim)
theorem Upd.drew {S : Nat → Prop} {a b : World} (h : Upd S a b) : Upd S a b.drew := ⟨h.os, h.tape, h.output, h.size, h.block⟩
theorem Upd.drewN {S : Nat → Prop} {a b : World} (h : Upd S a b) (n : Nat) : Upd S a (b.drewN n) := ⟨h.os, h.tape, h.output, h.size, h.block⟩
theorem Upd.set {S : Nat → Prop} {a b : World} (h : Upd S a b) (g j : Nat) (v : Value) (hg : S g ∨ a.heap.size ≤ g) : Upd S a (b.setCell ⟨g, j, none⟩ v) := by
  refine ⟨h.os, h.tape, h.output, by simpa using h.size, fun i hi hn => ?_⟩
  rw [Below.heap_setCell b ⟨g, j, none⟩ v i (fun e => hg.elim (fun h' => hn (e ▸ h')) (fun h' => by simp at e; omega))]
  exact h.block i hi hn
theorem Upd.heap {S : Nat → Prop} {a b : World} {g : Nat} {o : Obj} (h : Upd S a b) (hb : a.heap[g]? = some o) (hn : ¬ S g) : b.heap[g]? = some o := (h.block g (blk_lt hb) hn).trans hb
theorem alloc_old {w : World} {g : Nat} {o o' : Obj} (h : w.heap[g]? = some o) : (w.alloc o').heap[g]? = some o := by
  rw [heap_alloc_old (h := blk_lt h)]; exact h
theorem Upd.grown {S : Nat → Prop} {a b c : World} {row : Option Nat} (h : Upd S a b) (hg : b.grownBy c row) (hr : ∀ k, row = some k → S k ∨ a.heap.size ≤ k) : Upd S a c :=
  ⟨hg.os.trans h.os, hg.tape.trans h.tape, hg.output.trans h.output, Nat.le_trans h.size hg.size, fun i hi hn => (hg.block i (Nat.lt_of_lt_of_le hi h.size) (fun e => (hr i e.symm).elim hn (fun h2 => by omega))).trans (h.block i hi hn)⟩

end Go.Proofs.Ytekbecpcbfhdmaa.UpdWords
