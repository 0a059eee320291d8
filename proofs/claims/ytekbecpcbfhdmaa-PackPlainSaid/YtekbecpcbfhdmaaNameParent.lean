/- name.Parent, name.Labels: their contracts. -/
import Derived.Test.YtekbecpcbfhdmaaNameLabs
namespace Go.Proofs.Ytekbecpcbfhdmaa.Name
open Go.RowKit Go.Shelf Go.Proofs.YtekbecpcbfhdmaaW.PrintWords Go.Proofs.Ytekbecpcbfhdmaa.Oct Go.Proofs.Ytekbecpcbfhdmaa.UpdWords Go.Proofs.Ytekbecpcbfhdmaa.Given Go.Proofs.Ytekbecpcbfhdmaa.Box
attribute [local go_sem] Oper.semAt_some
set_option linter.unusedVariables false

set_option maxRecDepth 100000 in
set_option maxHeartbeats 2000000 in
theorem parent_no (n : ByteArray) (w : World) (hr : rightB n = false) :
    Calls Try.prog 21 #[.string n] w fun e w' => e = .returned (.tuple #[.string ⟨#[]⟩, .bool false]) ∧ Below w.heap.size w w' := by
  have hq := fun W => right_any n W
  rw [hr] at hq
  go_enter Try.func21, Try.ntmps21
  go_wp2_with fail
  refine (hq _).mono ?_
  rintro e w1 ⟨rfl, hb1⟩
  have c1 : w1.heap[w.heap.size]? = some (.cells #[.string ⟨#[]⟩] 9 (0, 0)) := blk_below (blk_alloc (blk_new w _) _) hb1
  have c2 : w1.heap[w.heap.size + 1]? = some (.cells #[.bool false] 4 (0, 0)) := blk_below (by have := blk_new (w.alloc (.cells #[.string ⟨#[]⟩] 9)) (.cells #[.bool false] 4); rwa [World.size_alloc] at this) hb1
  have d1 : w1.cell? ⟨w.heap.size, 0, none⟩ = some (.string ⟨#[]⟩) := blk_cell c1 0
  have d2 : w1.cell? ⟨w.heap.size + 1, 0, none⟩ = some (.bool false) := blk_cell c2 0
  have f1 := blk_frozen c1 0
  have f2 := blk_frozen c2 0
  go_wp2_with fail
  have s1 := blk_set c1 0 (.string ⟨#[]⟩)
  have s2 := blk_far c2 (p := ⟨w.heap.size, 0, none⟩) (by show w.heap.size + 1 ≠ w.heap.size; omega) (.string ⟨#[]⟩)
  have s3 := blk_far s1 (p := ⟨w.heap.size + 1, 0, none⟩) (by show w.heap.size ≠ w.heap.size + 1; omega) (.bool false)
  have s4 := blk_set s2 0 (.bool false)
  have g1 := blk_cell s3 0
  have g2 := blk_cell s4 0
  refine bodyPost_ret (v := .tuple #[.string ⟨#[]⟩, .bool false]) ?_ rfl ⟨rfl, ?_⟩
  · simp [results, Try.f21, go_sem, g1, g2]
  · have h0 : Below w.heap.size w ((w.alloc (.cells #[.string ⟨#[]⟩] 9)).alloc (.cells #[.bool false] 4)) := ((Below.refl _ w).alloc (Nat.le_refl _) _).alloc (by simp) _
    exact ((h0.trans (hb1.mono (by simp; omega))).setCell (p := ⟨w.heap.size, 0, none⟩) (Nat.le_refl _) _).setCell (p := ⟨w.heap.size + 1, 0, none⟩) (by simp) _

set_option maxRecDepth 100000 in
set_option maxHeartbeats 2000000 in
theorem parent_yes (n : ByteArray) (R : ByteArray × Bool) (w : World) (hr : rightB n = true) (hs : n.size ≤ maxLen) (hL : (match labs n.size n with | x :: _ => (x.2, true) | [] => (⟨#[]⟩, false)) = R) :
    Calls Try.prog 21 #[.string n] w fun e w' => e = .returned (.tuple #[.string R.1, .bool R.2]) ∧ Below w.heap.size w w' := by
  have hq := fun W => right_any n W
  rw [hr] at hq
  refine (callsIn_wide (n := 3)).1 ?_
  refine callsIn_of_wp_marks Try.func21 rfl trivial ?_ rfl
  simp only [Try.ntmps21, List.size_toArray, List.length_cons, List.length_nil, Nat.reduceAdd, Nat.reduceSub, Array.replicate_succ, Array.replicate_zero, List.push_toArray, List.append_toArray, List.nil_append, List.cons_append]
  gi_wp2_with (first | (refine ⟨trivial, ?_⟩; gi_at_call 19; refine (callsIn_wide.2 (hq _)).mono ?_; rintro e w1 ⟨rfl, hb1⟩) | (refine ⟨trivial, ?_⟩; gi_at_call 25; refine (labels_in n _).mono ?_; rintro e w' ⟨rfl, rfl⟩))
  have hz : w.heap.size + 1 + 1 ≤ w1.heap.size := by have := hb1.size; simp at this; omega
  have h0 : Below w.heap.size w ((w.alloc (.cells #[.string ⟨#[]⟩] 9)).alloc (.cells #[.bool false] 4)) := ((Below.refl _ w).alloc (Nat.le_refl _) _).alloc (by simp) _
  have hB0 : Below w.heap.size w (w1.alloc (.cells #[.string n] 9)) := (h0.trans (hb1.mono (by simp; omega))).alloc (by omega) _
  have c1 : (w1.alloc (.cells #[.string n] 9)).heap[w.heap.size]? = some (.cells #[.string ⟨#[]⟩] 9 (0, 0)) := blk_alloc (blk_below (blk_alloc (blk_new w _) _) hb1) _
  have c2 : (w1.alloc (.cells #[.string n] 9)).heap[w.heap.size + 1]? = some (.cells #[.bool false] 4 (0, 0)) := blk_alloc (blk_below (by have := blk_new (w.alloc (.cells #[.string ⟨#[]⟩] 9)) (.cells #[.bool false] 4); rwa [World.size_alloc] at this) hb1) _
  have b2 : (w1.alloc (.cells #[.string n] 9)).heap[w1.heap.size]? = some (.cells #[.string n] 9 (0, 0)) := blk_new w1 _
  refine Box.rangeFunc (gf := 31) (lb := #[.pointer (some ⟨w1.heap.size, 0, none⟩)]) rfl (enters_of Try.func31 (by kernel_rfl) rfl) (fun _ => rfl) (Bn := w1.heap.size) (by simp)
    (stops w1.heap.size n _ b2 hs)
    (fun pre W => (W.heap[w.heap.size]? = some (.cells #[.string ⟨#[]⟩] 9 (0, 0)) ∧ W.heap[w.heap.size + 1]? = some (.cells #[.bool false] 4 (0, 0)) ∧ Below w.heap.size w W) ∧ pre = [])
    (fun c pre W => (W.heap[w.heap.size]? = some (.cells #[.string (endIn n pre)] 9 (0, 0)) ∧ W.heap[w.heap.size + 1]? = some (.cells #[.bool true] 4 (0, 0)) ∧ Below w.heap.size w W) ∧ c = .ret ∧ ∃ x, pre = [x])
    (abide_and (abide_and (abide_box (f := fun _ => .string ⟨#[]⟩) (by omega)) (abide_and (abide_box (f := fun _ => .bool false) (by omega)) (abide_below (Nat.le_refl _) (by simp; omega) (by omega)))) (fun _ _ _ _ h _ _ => h))
    (fun c => abide_and (abide_and (abide_box (f := fun pre => .string (endIn n pre)) (by omega)) (abide_and (abide_box (f := fun _ => .bool true) (by omega)) (abide_below (Nat.le_refl _) (by simp; omega) (by omega)))) (fun _ _ _ _ h _ _ => h))
    ⟨⟨c1, c2, hB0⟩, rfl⟩
    (fun x => { tmps := #[.string n, undef, .pointer (some ⟨w.heap.size, 0, none⟩), .pointer (some ⟨w.heap.size + 1, 0, none⟩), undef, .string x.2, .string n, .bool true, .bool false, .string n, .func (.func 31) #[] #[.pointer (some ⟨w1.heap.size, 0, none⟩)], .string x.1, .string x.2, undef], defers := [] }) ?assign ?body ?done ?stop
  case assign =>
    intro l x W K hK
    gi_wp2
    exact hK
  case body =>
    rintro l pre x W ⟨⟨e1, e2, hB⟩, rfl⟩ hpre
    have d1 : W.cell? ⟨w.heap.size, 0, none⟩ = some (.string ⟨#[]⟩) := blk_cell e1 0
    have d2 : W.cell? ⟨w.heap.size + 1, 0, none⟩ = some (.bool false) := blk_cell e2 0
    have f1 := blk_frozen e1 0
    have f2 := blk_frozen e2 0
    gi_wp2
    refine ⟨(KeepsOthers.setCell _ _ _).trans (KeepsOthers.setCell _ _ _), ⟨?_, ?_, (hB.setCell (p := ⟨w.heap.size, 0, none⟩) (Nat.le_refl _) _).setCell (p := ⟨w.heap.size + 1, 0, none⟩) (by simp) _⟩, rfl, x, rfl⟩
    · rw [endIn_snoc]; exact blk_far (blk_set e1 0 _) (p := ⟨w.heap.size + 1, 0, none⟩) (by show w.heap.size ≠ w.heap.size + 1; omega) _
    · exact blk_set (blk_far e2 (p := ⟨w.heap.size, 0, none⟩) (by show w.heap.size + 1 ≠ w.heap.size; omega) _) 0 _
  case done =>
    rintro D W hD ⟨⟨e1, e2, hB⟩, hnil⟩ hK
    rw [hnil] at hL
    subst hL
    have d1 : W.cell? ⟨w.heap.size, 0, none⟩ = some (.string ⟨#[]⟩) := blk_cell e1 0
    have d2 : W.cell? ⟨w.heap.size + 1, 0, none⟩ = some (.bool false) := blk_cell e2 0
    have f1 := blk_frozen e1 0
    have f2 := blk_frozen e2 0
    gi_wp2
    have hne1 : D ≠ w.heap.size := fun h => by rw [h, e1] at hK; cases hK
    have hne2 : D ≠ w.heap.size + 1 := fun h => by rw [h, e2] at hK; cases hK
    have s1 := blk_set e1 0 (.string ⟨#[]⟩)
    have s2 := blk_far e2 (p := ⟨w.heap.size, 0, none⟩) (by show w.heap.size + 1 ≠ w.heap.size; omega) (.string ⟨#[]⟩)
    have s3 := blk_far s1 (p := ⟨w.heap.size + 1, 0, none⟩) (by show w.heap.size ≠ w.heap.size + 1; omega) (.bool false)
    have s4 := blk_set s2 0 (.bool false)
    have hK' := ((KeepsOthers.setCell W ⟨w.heap.size, 0, none⟩ (.string ⟨#[]⟩)).trans (KeepsOthers.setCell _ ⟨w.heap.size + 1, 0, none⟩ (.bool false))).same D _ hK rfl
    refine ⟨by simp, .inl ⟨_, _, rfl, run_takeDeferred hK', ?_⟩⟩
    have g1 := blk_cell ((World.putObj_heap_other (w := (W.setCell ⟨w.heap.size, 0, none⟩ (.string ⟨#[]⟩)).setCell ⟨w.heap.size + 1, 0, none⟩ (.bool false)) (r := D) (o := .deferred none) (by omega)).trans s3) 0
    have g2 := blk_cell ((World.putObj_heap_other (w := (W.setCell ⟨w.heap.size, 0, none⟩ (.string ⟨#[]⟩)).setCell ⟨w.heap.size + 1, 0, none⟩ (.bool false)) (r := D) (o := .deferred none) (by omega)).trans s4) 0
    refine ⟨.tuple #[.string ⟨#[]⟩, .bool false], ?_, rfl, ((hB.setCell (p := ⟨w.heap.size, 0, none⟩) (Nat.le_refl _) _).setCell (p := ⟨w.heap.size + 1, 0, none⟩) (by simp) _).trans (belowK_b (w := w) (Nat.le_refl _) _ D _ _ (by simp at hD; omega) hK' rfl rfl)⟩
    simp [results, Try.f21, go_sem, g1, g2]
  case stop =>
    rintro D c pre W hD hpre ⟨⟨e1, e2, hB⟩, rfl, x, rfl⟩ hK
    obtain ⟨t, ht⟩ := hpre
    rw [← ht] at hL
    simp only [List.cons_append, List.nil_append] at hL
    subst hL
    gi_wp2
    refine ⟨by simp, .inl ⟨_, _, rfl, run_takeDeferred hK, ?_⟩⟩
    have hne1 : D ≠ w.heap.size := fun h => by rw [h, e1] at hK; cases hK
    have hne2 : D ≠ w.heap.size + 1 := fun h => by rw [h, e2] at hK; cases hK
    have g1 := blk_cell ((World.putObj_heap_other (w := W) (r := D) (o := .deferred none) (by omega)).trans e1) 0
    have g2 := blk_cell ((World.putObj_heap_other (w := W) (r := D) (o := .deferred none) (by omega)).trans e2) 0
    refine ⟨_, ?_, rfl, hB.trans (belowK_b (w := w) (Nat.le_refl _) W D _ _ (by simp at hD; omega) hK rfl rfl)⟩
    simp [results, Try.f21, go_sem, g1, g2, endIn]

/-- Parent. -/
def parentR (n : ByteArray) : ByteArray × Bool := if rightB n = true then (match labs n.size n with | x :: _ => (x.2, true) | [] => (⟨#[]⟩, false)) else (⟨#[]⟩, false)
theorem parent_any (n : ByteArray) (w : World) : Calls Try.prog 21 #[.string n] w fun e w' => e = .returned (.tuple #[.string (parentR n).1, .bool (parentR n).2]) ∧ Below w.heap.size w w' := by
  by_cases hr : rightB n = true
  · have hs : n.size ≤ maxLen := by
      unfold rightB at hr
      have := of_decide_eq_true (Bool.and_eq_true_iff.mp hr).1
      unfold maxLen; omega
    refine parent_yes n _ w hr hs ?_
    unfold parentR; rw [if_pos hr]
  · have := parent_no n w (Bool.eq_false_iff.mpr hr)
    unfold parentR; rw [if_neg hr]; exact this
end Go.Proofs.Ytekbecpcbfhdmaa.Name
