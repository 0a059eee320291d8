/- The contracts of the function that reading defers: a reader's panic is caught and told as ErrForm, a return is left as it is; and small words on the worlds in between. No condition. -/
import Derived.Test.YtekbecpcbfhdmaaOctTake
import Derived.Defers
import Derived.Recover
import Derived.Laws.Pointers
namespace Go.Proofs.Ytekbecpcbfhdmaa.Oct
open Go.RowKit Go.Proofs.YtekbecpcbfhdmaaW.PrintWords Go.Proofs.Ytekbecpcbfhdmaa.UpdWords

set_option maxHeartbeats 400000 in
set_option maxRecDepth 100000 in
theorem catch_short (p q : Nat) (x : ByteArray) (y : Int) (older : List PanicEntry) (w : World) (hpq : p ≠ q) (hc : w.heap[p]? = some (.cells #[.string x] 9 (0, 0))) (hd : w.heap[q]? = some (.cells #[.int .i64 y] 33 (0, 0))) :
    CallsD Try.prog 39 #[.pointer (some ⟨p, 0, none⟩), .pointer (some ⟨q, 0, none⟩)] (.panicking ({ v := .iface 84 (.agg #[]), recovered := false } :: older)) w fun e u' w' =>
      e = .returned (.tuple #[]) ∧ u' = .panicking ({ v := .iface 84 (.agg #[]), recovered := true } :: older) ∧ w'.heap[p]? = some (.cells #[.string ⟨#[]⟩] 9 (0, 0)) ∧ w'.heap[q]? = some (.cells #[.int .i64 2] 33 (0, 0)) ∧ Upd (fun k => k = p ∨ k = q) w w' := by
  have ha := alloc_old (o' := .cells #[] 84 (0, 0)) hc
  have hb := alloc_old (o' := .cells #[] 84 (0, 0)) hd
  have hb2 := blk_far hb (p := ⟨p, 0, none⟩) (by show q ≠ p; exact Ne.symm hpq) (.string ⟨#[]⟩)
  have c1 : (w.alloc (.cells #[] 84 (0, 0))).cell? ⟨p, 0, none⟩ = some (.string x) := blk_cell ha 0
  have f1 := blk_frozen ha 0
  have c2 : ((w.alloc (.cells #[] 84 (0, 0))).setCell ⟨p, 0, none⟩ (.string ⟨#[]⟩)).cell? ⟨q, 0, none⟩ = some (.int .i64 y) := blk_cell hb2 0
  have f2 := blk_frozen hb 0
  have e1 := blk_set ha 0 (.string ⟨#[]⟩)
  have e2 := blk_far e1 (p := ⟨q, 0, none⟩) (by show p ≠ q; exact hpq) (.int .i64 2)
  have e3 := blk_set hb2 0 (.int .i64 2)
  have E2 := Lib.hid e2
  have E3 := Lib.hid e3
  clear e1 e2 e3 hb2 ha hb
  have hta : ∀ W : World, (Instr.typeAssert (.iface 84 (.agg #[])) 20 84 true).run Try.prog W = .ok (.tuple #[.agg #[], .bool true]) W := fun W => by rfl
  have hz : ∀ W : World, (zeroValue 84).run Try.prog W = .ok (.agg #[]) W := fun W => by rfl
  refine callsD_of_wpS Try.func39 rfl fun c₀ cs hu => ?_
  apply wpS_seq
  apply wpS_region
  simp [wpOpsS, go_sem, recoverD, hu, Try.ntmps39, Exit.thenS]
  apply wpS_of_wp
  go_wp2_with fail
  exact ⟨rfl, _, rfl, .tuple #[], by simp [results, Try.results39, go_sem], rfl, rfl, E2.out, E3.out, (((Upd.refl _ _).alloc _).set p 0 _ (.inl (.inl rfl))).set q 0 _ (.inl (.inr rfl))⟩

set_option maxHeartbeats 400000 in
set_option maxRecDepth 100000 in
theorem catch_idle (p q : Nat) (w : World) :
    CallsD Try.prog 39 #[.pointer (some ⟨p, 0, none⟩), .pointer (some ⟨q, 0, none⟩)] .returning w fun e u' w' => e = .returned (.tuple #[]) ∧ u' = .returning ∧ w = w' := by
  refine callsD_of_wpS Try.func39 rfl fun c₀ cs hu => ?_
  apply wpS_seq
  apply wpS_region
  simp [wpOpsS, go_sem, recoverD, hu, Try.ntmps39, Exit.thenS]
  apply wpS_of_wp
  go_wp2_with fail
  exact ⟨rfl, _, by rw [← hu], .tuple #[], by simp [results, Try.results39, go_sem], rfl, rfl, rfl⟩

theorem three {w : World} (o1 o2 o3 : Obj) : (((w.alloc o1).alloc o2).alloc o3).heap[w.heap.size]? = some o1 ∧ (((w.alloc o1).alloc o2).alloc o3).heap[w.heap.size + 1]? = some o2 ∧ (((w.alloc o1).alloc o2).alloc o3).heap[w.heap.size + 2]? = some o3 := by
  have h1 : (w.alloc o1).heap[w.heap.size]? = some o1 := heap_alloc_new _ _
  have h2 := heap_alloc2_new w o1 o2
  have h3 := heap_alloc2_new (w.alloc o1) o2 o3
  exact ⟨alloc_old (alloc_old h1), alloc_old h2, by simpa using h3⟩

theorem cell_alloc3 {w : World} {a : Addr} {v : Value} (o1 o2 o3 : Obj) (h : w.cell? a = some v) : (((w.alloc o1).alloc o2).alloc o3).cell? a = some v := by
  have hl := World.block_lt_of_cell? w a h
  rw [World.cell?_alloc_lt _ _ _ (by simp; omega), World.cell?_alloc_lt _ _ _ (by simp; omega), World.cell?_alloc_lt _ _ _ hl, h]


/-- The results stored at the end of reading: what is read of them, and what has changed. -/
theorem door_ok {S : Nat → Prop} {Q : World → Prop} {w w1 : World} {v0 v1 : Value} {t1 t2 : TypeId} (x y : Value) (h1 : w1.heap[w.heap.size]? = some (.cells #[v0] t1 (0, 0))) (h2 : (w1.setCell ⟨w.heap.size, 0, none⟩ x).heap[w.heap.size + 1]? = some (.cells #[v1] t2 (0, 0)))
    (hq : Q w1) (hQ : ∀ a b, Upd (fun k => k = w.heap.size ∨ k = w.heap.size + 1) a b → Q a → Q b) (hu : Upd S w w1) :
    ((w1.setCell ⟨w.heap.size, 0, none⟩ x).setCell ⟨w.heap.size + 1, 0, none⟩ y).cell? ⟨w.heap.size, 0, none⟩ = some x ∧ ((w1.setCell ⟨w.heap.size, 0, none⟩ x).setCell ⟨w.heap.size + 1, 0, none⟩ y).cell? ⟨w.heap.size + 1, 0, none⟩ = some y ∧
    Q ((w1.setCell ⟨w.heap.size, 0, none⟩ x).setCell ⟨w.heap.size + 1, 0, none⟩ y) ∧ Upd S w ((w1.setCell ⟨w.heap.size, 0, none⟩ x).setCell ⟨w.heap.size + 1, 0, none⟩ y) := by
  refine ⟨?_, ?_, hQ _ _ (((Upd.refl _ _).set _ 0 _ (.inl (.inl rfl))).set _ 0 _ (.inl (.inr rfl))) hq, (hu.set _ 0 _ (.inr (Nat.le_refl _))).set _ 0 _ (.inr (by omega))⟩
  · rw [World.cell?_setCell_other _ _ _ _ (fun e => by have := congrArg Addr.block e; simp at this)]
    exact blk_cell (blk_set h1 0 x) 0
  · exact blk_cell (blk_set h2 0 y) 0
/-- The world in which the closure is called. -/
def W3 (w : World) (b : ByteArray) : World := ((w.alloc (.cells #[.string ⟨#[]⟩] 9 (0, 0))).alloc (.cells #[.int .i64 0] 33 (0, 0))).alloc (.cells #[.string b] 86 (0, 0))
theorem W3_upd (w : World) (b : ByteArray) (S : Nat → Prop) : Upd S w (W3 w b) := (((Upd.refl _ _).alloc _).alloc _).alloc _
theorem W3_heap {w : World} (b : ByteArray) {g : Nat} {o : Obj} (h : w.heap[g]? = some o) : (W3 w b).heap[g]? = some o := alloc_old (alloc_old (alloc_old h))
theorem W3_cell {w : World} (b : ByteArray) {a : Addr} {v : Value} (h : w.cell? a = some v) : (W3 w b).cell? a = some v := cell_alloc3 _ _ _ h
theorem W3_rd (w : World) (b : ByteArray) : Rd (W3 w b) (w.heap.size + 1 + 1) b := (three _ _ _).2.2
theorem two2 {w : World} (o1 o2 : Obj) : ((w.alloc o1).alloc o2).heap[w.heap.size]? = some o1 ∧ ((w.alloc o1).alloc o2).heap[w.heap.size + 1]? = some o2 := ⟨alloc_old (heap_alloc_new _ _), heap_alloc2_new _ _ _⟩
theorem W3_size (w : World) (b : ByteArray) : (W3 w b).heap.size = w.heap.size + 3 := by unfold W3; simp

end Go.Proofs.Ytekbecpcbfhdmaa.Oct
