/- A range over an iterator that turns one box of its own (a captured variable): the statement's law, over the library's steps (the record's laying, a round's begin and end, the loop's end). -/
import Derived.RangeFuncFrom
import Derived.RangeFuncLeaves
import Derived.RangeFuncCalls
import Derived.Shelf.Abstract
import Derived.WalkKit
import Derived.OwnWalkIn
import Derived.TacticsInMore
import Derived.LoopNIn
import Derived.LoopIn
namespace Go.Proofs.Ytekbecpcbfhdmaa.Box
open Go.RowKit

/-- What an iterator whose one own box is the block Bn gives: the list L, or a part of it where a round has said 'no more'; whatever abides new blocks and a turn of that box goes through. -/
def Stops {α : Type} (P : Program) (n gf : Nat) (lb : Array Value) (encs : α → Array Value) (Bn : Nat) (L : List α) (w : World) : Prop :=
  ∀ (l : Nat) (J Jx : List α → World → Prop) (W : World), W.heap[Bn]? = w.heap[Bn]? →
    (∀ s A B row, J s A → A.grownBy B row → (row = none ∨ row = some Bn) → J s B) →
    (∀ pre x W1, J pre W1 → pre ++ [x] <+: L → YieldAt Fence.wide (n - 1) P l (encs x) W1 fun e W' =>
      (e = .returned (.bool true) ∧ J (pre ++ [x]) W' ∧ W'.heap[Bn]? = W1.heap[Bn]?) ∨ (e = .returned (.bool false) ∧ Jx (pre ++ [x]) W')) →
    J [] W →
    CallsIn Fence.wide n P gf (#[.func (.yield l) #[] #[]] ++ lb) W fun e W' => (∃ v, e = .returned v) ∧ (J L W' ∨ ∃ pre, pre <+: L ∧ Jx pre W')

/-- How a round's body may be left. -/
def Left {α : Type} (Bn : Nat) (I : List α → World → Prop) (Ix : Code → List α → World → Prop) (xs : List α) (W : World) : Exit → Act → World → Prop
  | .normal, _, W' => KeepsOthers W W' ∧ W'.heap[Bn]? = W.heap[Bn]? ∧ I xs W'
  | .ret, _, W' => KeepsOthers W W' ∧ Ix .ret xs W'
  | .exit id, _, W' => KeepsOthers W W' ∧ Ix (.exit id) xs W'
  | .goto t, _, W' => KeepsOthers W W' ∧ Ix (.goto t) xs W'
  | .panic _, _, _ => False
  | .outgrown, _, _ => False

/-- The turns that a caller's invariant must abide: new blocks, the box, and what is no cells and was laid since the loop began. -/
def Abide {β : Type} (n0 Bn : Nat) (I : β → World → Prop) : Prop :=
  ∀ s A B row, I s A → A.grownBy B row → (∀ r, row = some r → r = Bn ∨ (n0 ≤ r ∧ ∃ o : Obj, A.heap[r]? = some o ∧ o.isCells = false)) → I s B
theorem Abide.put {β : Type} {n0 Bn : Nat} {I : β → World → Prop} (h : Abide n0 Bn I) {s : β} {W : World} {l : Nat} {o o' : Obj} (hs : I s W) (hl : n0 ≤ l) (ho : W.heap[l]? = some o) (hc : o.isCells = false) : I s (W.putObj l o') :=
  h s W _ (some l) hs (grownBy_putObj' W l o') (fun r e => by cases e; exact .inr ⟨hl, o, ho, hc⟩)
theorem Abide.alloc {β : Type} {n0 Bn : Nat} {I : β → World → Prop} (h : Abide n0 Bn I) {s : β} {W : World} (o : Obj) (hs : I s W) : I s (W.alloc o) :=
  h s W _ none hs (World.grownBy_alloc W o none) (fun r e => by cases e)

theorem rangeFunc {α : Type} {P : Program} {n : Nat} {g : Operand} {ps : Array Tmp} {assign body : Code} {Q : Exit → Act → World → Prop} {a : Act} {w : World} {gf : Nat} {lb : Array Value}
    (hg : a.eval g = .func (.func gf) #[] lb) (eg : ∀ args w, (callFunc gf args).run P w = .ok (.enter gf args) w)
    {encs : α → Array Value} (hps : ∀ x, (encs x).size = ps.size) {Bn : Nat} (hBn : Bn < w.heap.size) {L : List α} (hseq : Stops P (n - 1) gf lb encs Bn L w)
    (I : List α → World → Prop) (Ix : Code → List α → World → Prop) (hI : Abide w.heap.size Bn I) (hIx : ∀ c, Abide w.heap.size Bn (Ix c)) (h0 : I [] w) (a₁ : α → Act)
    (hassign : ∀ (l : Nat) (x : α) (W : World) (K : Act → World → Prop), K (a₁ x) W →
      assign.wpIn (Fence.wide.inRound l) (n - 1 - 1) P (Exit.then K (fun _ _ _ => False)) { tmps := (ps.zip (encs x)).foldl (fun t (p, v) => t.setIfInBounds p v) a.tmps, defers := [] } W)
    (hbody : ∀ (l : Nat) (pre : List α) (x : α) (W : World), I pre W → pre ++ [x] <+: L → body.wpIn (Fence.wide.inRound l) (n - 1 - 1) P (Left Bn I Ix (pre ++ [x]) W) (a₁ x) W)
    (hdone : ∀ (D : Nat) (W : World), w.heap.size ≤ D → I L W → W.heap[D]? = some (.deferred (some [])) → Q .normal { a with defers := { target := .collected D, args := #[] } :: a.defers } W)
    (hstop : ∀ (D : Nat) (c : Code) (pre : List α) (W : World), w.heap.size ≤ D → pre <+: L → Ix c pre W → W.heap[D]? = some (.deferred (some [])) → c.wpIn Fence.wide n P Q { a with defers := { target := .collected D, args := #[] } :: a.defers } W) :
    (Code.rangeFunc g ps assign body).wpIn Fence.wide n P Q a w := by
  refine wpIn_rangeFunc ?_
  intro fn hfn
  let rc : LoopState → Option Code → Obj := fun st pe => .loop { state := st, pending := pe, fn, tmps := a.tmps, params := ps, assign, body, defers := w.heap.size }
  have hrc : rc = fun st pe => .loop { state := st, pending := pe, fn, tmps := a.tmps, params := ps, assign, body, defers := w.heap.size } := rfl
  clear_value rc
  obtain ⟨V, hV⟩ : ∃ V, (w.alloc (.deferred (some []))).alloc (rc .ready none) = V := ⟨_, rfl⟩
  have v1 : V.heap[w.heap.size + 1]? = some (rc .ready none) := by
    rw [← hV]; have := World.alloc_heap_new (w.alloc (.deferred (some []))) (rc .ready none); rwa [World.size_alloc] at this
  have v2 : V.heap[w.heap.size]? = some (.deferred (some [])) := by
    rw [← hV]; exact (Below.heap_alloc _ _ _ (by simp)).trans (World.alloc_heap_new w _)
  have v3 : I [] V := by rw [← hV]; exact hI.alloc _ (hI.alloc _ h0)
  have v4 : V.heap[Bn]? = w.heap[Bn]? := by
    rw [← hV]; exact (Below.heap_alloc _ _ _ (by simp; omega)).trans (Below.heap_alloc _ _ _ hBn)
  refine ⟨w.heap.size + 1, [{ target := .collected w.heap.size, args := #[] }], V, { target := .fn (.func gf) lb, args := #[.func (.yield (w.heap.size + 1)) #[] #[]] }, V, gf,
    #[.func (.yield (w.heap.size + 1)) #[] #[]] ++ lb, V, ?_, ?_, ?_, ?_, fun h => absurd h (by simp [Fence.wide]), ?_⟩
  · rw [← hV, hrc]; exact run_enterLoop_outer _ _ _ _ _
  · simp only [resolve, hg]
    simp [go_sem]
  · intro f' _; trivial
  · simp [invoke, go_sem, eg]
  · have keep : ∀ {A B : World} {row : Option Nat} {k : Nat}, A.grownBy B row → (row = none ∨ row = some Bn) → w.heap.size ≤ k → k < A.heap.size → B.heap[k]? = A.heap[k]? := fun hg' hr hk hlt =>
      hg'.block _ hlt (fun e => by rcases hr with h | h <;> rw [h] at e <;> cases e; omega)
    have lt_of : ∀ {A : World} {k : Nat} {o : Obj}, A.heap[k]? = some o → k < A.heap.size := fun h => (Array.getElem?_eq_some_iff.1 h).1
    refine (hseq (w.heap.size + 1)
      (fun pre W => I pre W ∧ W.heap[w.heap.size + 1]? = some (rc .ready none) ∧ W.heap[w.heap.size]? = some (.deferred (some [])))
      (fun pre W => ∃ c, Ix c pre W ∧ W.heap[w.heap.size + 1]? = some (rc .done (some c)) ∧ W.heap[w.heap.size]? = some (.deferred (some [])))
      V v4
      (fun s A B row hs hg' hr => ⟨hI s A B row hs.1 hg' (fun r e => by rcases hr with h | h <;> rw [h] at e <;> cases e; exact .inl rfl), (keep hg' hr (by omega) (lt_of hs.2.1)).trans hs.2.1, (keep hg' hr (by omega) (lt_of hs.2.2)).trans hs.2.2⟩)
      ?_ ⟨v3, v1, v2⟩).mono ?_
    · rintro pre x W ⟨hi, hl, hk⟩ hpre
      have hl' := hl
      rw [hrc] at hl'
      refine ⟨fn, _, assign, body, run_yield (P := P) (args := encs x) hl' (hps x), roundIn_of_wpIn hfn (hassign _ x W _ ⟨_, run_beginRound hl' rfl, ?_⟩)⟩
      obtain ⟨U, hU⟩ : ∃ U, W.putObj (w.heap.size + 1) (rc .busy none) = U := ⟨_, rfl⟩
      have u1 : U.heap[w.heap.size + 1]? = some (rc .busy none) := by rw [← hU]; exact World.putObj_heap_same (lt_of hl)
      have u2 : U.heap[w.heap.size]? = some (.deferred (some [])) := by rw [← hU]; exact (World.putObj_heap_other (by omega)).trans hk
      have u3 : I pre U := by rw [← hU]; exact hI.put hi (by omega) hl (by rw [hrc]; rfl)
      have u4 : U.heap[Bn]? = W.heap[Bn]? := by rw [← hU]; exact World.putObj_heap_other (by omega)
      have hU' : W.putObj (w.heap.size + 1) (.loop { state := .busy, pending := none, fn, tmps := a.tmps, params := ps, assign, body, defers := w.heap.size }) = U := by rw [← hU, hrc]
      show body.wpIn _ _ _ _ _ (W.putObj (w.heap.size + 1) (.loop { state := .busy, pending := none, fn, tmps := a.tmps, params := ps, assign, body, defers := w.heap.size }))
      rw [hU']
      refine wpIn_mono (hbody _ pre x U u3 hpre) ?_
      have fin : ∀ (jump : Option Code) (W3 : World), KeepsOthers U W3 → ∃ W4, (Instr.endRound (w.heap.size + 1) jump).run P W3 = .ok (.bool jump.isNone) W4 ∧ W4 = W3.putObj (w.heap.size + 1) (rc (if jump.isNone then .ready else .done) jump) ∧
          W3.heap[w.heap.size + 1]? = some (rc .busy none) ∧ W4.heap[w.heap.size + 1]? = some (rc (if jump.isNone then .ready else .done) jump) ∧ W4.heap[w.heap.size]? = some (.deferred (some [])) ∧ W4.heap[Bn]? = W3.heap[Bn]? := fun jump W3 hk3 => by
        have hl3 := hk3.same _ _ u1 (by rw [hrc]; rfl)
        have hl4 := hl3
        rw [hrc] at hl4
        refine ⟨_, run_endRound (P := P) jump hl4, by rw [hrc], hl3, ?_, ?_, World.putObj_heap_other (by omega)⟩
        · rw [World.putObj_heap_same (lt_of hl3), hrc]
        · exact (World.putObj_heap_other (by omega)).trans (hk3.same _ _ u2 rfl)
      rintro e a3 W3 hp
      cases e with
      | normal =>
        obtain ⟨hk3, hkp3, hi3⟩ := hp
        obtain ⟨W4, hr, e4, hl3, hl4, hk4, hb4⟩ := fin none W3 hk3
        exact ⟨_, _, hr, .inl ⟨rfl, ⟨by rw [e4]; exact hI.put hi3 (by omega) hl3 (by rw [hrc]; rfl), hl4, hk4⟩, hb4.trans (hkp3.trans u4)⟩⟩
      | ret =>
        obtain ⟨hk3, hi3⟩ := hp
        obtain ⟨W4, hr, e4, hl3, hl4, hk4, hb4⟩ := fin (some .ret) W3 hk3
        exact ⟨_, _, hr, .inr ⟨rfl, .ret, by rw [e4]; exact (hIx _).put hi3 (by omega) hl3 (by rw [hrc]; rfl), hl4, hk4⟩⟩
      | exit id =>
        obtain ⟨hk3, hi3⟩ := hp
        obtain ⟨W4, hr, e4, hl3, hl4, hk4, hb4⟩ := fin (some (.exit id)) W3 hk3
        exact ⟨_, _, hr, .inr ⟨rfl, .exit id, by rw [e4]; exact (hIx _).put hi3 (by omega) hl3 (by rw [hrc]; rfl), hl4, hk4⟩⟩
      | goto t =>
        obtain ⟨hk3, hi3⟩ := hp
        obtain ⟨W4, hr, e4, hl3, hl4, hk4, hb4⟩ := fin (some (.goto t)) W3 hk3
        exact ⟨_, _, hr, .inr ⟨rfl, .goto t, by rw [e4]; exact (hIx _).put hi3 (by omega) hl3 (by rw [hrc]; rfl), hl4, hk4⟩⟩
      | panic ch => exact hp.elim
      | outgrown => exact hp.elim
    · rintro e W2 ⟨⟨v, rfl⟩, (⟨hi, hl, hk⟩ | ⟨pre, hpre, c, hi, hl, hk⟩)⟩
      · have hl' := hl
        rw [hrc] at hl'
        exact ⟨none, _, run_endLoop (P := P) hl' (by simp), hdone _ _ (Nat.le_refl _) (hI.put hi (by omega) hl (by rw [hrc]; rfl)) ((World.putObj_heap_other (by omega)).trans hk)⟩
      · have hl' := hl
        rw [hrc] at hl'
        exact ⟨some c, _, run_endLoop (P := P) hl' (by simp), hstop _ c pre _ (Nat.le_refl _) hpre ((hIx c).put hi (by omega) hl (by rw [hrc]; rfl)) ((World.putObj_heap_other (by omega)).trans hk)⟩

end Go.Proofs.Ytekbecpcbfhdmaa.Box
