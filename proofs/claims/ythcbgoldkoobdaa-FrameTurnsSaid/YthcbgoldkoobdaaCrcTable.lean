/- The contract of crc.table: it returns the 256 words of the table, the k-th of them being k behind eight steps of one bit, and changes nothing that was there. No condition. -/
import Derived.Test.YthcbgoldkoobdaaProg
import Derived.Below
import Derived.WalkKit
import Derived.LoopTactic
import Derived.Laws.Rows
import Derived.Laws.Tables
import Derived.Test.YthcbgoldkoobdaaWWords
namespace Go.Proofs.Ythcbgoldkoobdaa.Crc
open Go.RowKit Go.Proofs.YthcbgoldkoobdaaW.PrintWords

def zeros : Array Value := Array.replicate 256 (.int .u32 0)
/-- One step of one bit. -/
def step (w : Int) : Int := if Go.bits .and .u32 w 1 = 1 then Go.bits .xor .u32 (w / 2) 3988292384 else w / 2
/-- So many steps. -/
def iter : Nat → Int → Int
  | 0, w => w
  | n + 1, w => step (iter n w)
/-- A word of the table. -/
def tab (i : Nat) : Int := iter 8 i
def cellOf (k i : Nat) : Value := if i < k then .int .u32 (tab i) else .int .u32 0
def arr (k : Nat) : Array Value := ((List.range 256).map (cellOf k)).toArray

theorem arr_size (k : Nat) : (arr k).size = 256 := by simp [arr]
theorem arr_at (k i : Nat) (hi : i < 256) : (arr k)[i]? = some (cellOf k i) := by simp [arr, hi]
theorem arr_zero : arr 0 = zeros := by
  apply Array.ext
  · simp [arr, zeros]
  · intro i h1 h2; simp [arr, zeros, cellOf]
theorem arr_none (k i : Nat) (hi : ¬ i < 256) : (arr k)[i]? = none := by
  rw [Array.getElem?_eq_none_iff, arr_size]; omega
theorem arr_set (k : Nat) (hk : k < 256) : (arr k).setIfInBounds k (.int .u32 (tab k)) = arr (k + 1) := by
  apply Array.ext_getElem?
  intro i
  rw [Array.getElem?_setIfInBounds]
  by_cases hi : i < 256
  · rw [arr_at _ _ hi, arr_at _ _ hi]
    by_cases h : k = i
    · subst h; rw [if_pos rfl, if_pos (by rw [arr_size]; exact hk)]; simp [cellOf]
    · rw [if_neg h]; unfold cellOf
      by_cases h3 : i < k
      · rw [if_pos h3, if_pos (by omega)]
      · rw [if_neg h3, if_neg (by omega)]
  · rw [if_neg (by omega), arr_none _ _ hi, arr_none _ _ hi]
theorem arr_one (k : Nat) : (arr k).all (·.oneCell') = true := by
  rw [Array.all_eq_true]
  intro i hi
  simp only [arr, List.getElem_toArray, List.getElem_map, List.getElem_range]
  unfold cellOf
  split <;> rfl
theorem zeros_size : zeros.size = 256 := by simp [zeros]
theorem size_info : (Try.prog.info? 75).map (·.size) = some 256 := by kernel_rfl
theorem iter_yes (n : Nat) (x : Int) (h : (Go.bits .and .u32 (iter n x) 1 == 1) = true) : Go.bits .xor .u32 (iter n x / 2) 3988292384 = iter (n + 1) x := by
  have h' := beq_iff_eq.mp h
  show _ = step (iter n x)
  unfold step
  rw [if_pos h']
theorem iter_no (n : Nat) (x : Int) (h : (Go.bits .and .u32 (iter n x) 1 == 1) = false) : iter n x / 2 = iter (n + 1) x := by
  have h' := beq_eq_false_iff_ne.mp h
  show _ = step (iter n x)
  unfold step
  rw [if_neg h']
theorem start2 (w : World) (o o' : Obj) : ((w.alloc o).alloc o').heap[w.heap.size]? = some o ∧ ((w.alloc o).alloc o').heap[w.heap.size + 1]? = some o' ∧ Below w.heap.size w ((w.alloc o).alloc o') := by
  refine ⟨?_, heap_alloc2_new w o o', below_alloc (below_alloc (Below.refl _ _) _) _⟩
  rw [heap_alloc_old (h := by simp), heap_alloc_new]
theorem below_row {w W : World} (h : Below w.heap.size w W) (g : Nat) (hg : w.heap.size ≤ g) (cs : Array Value) : Below w.heap.size w (W.setRow g cs) := by
  refine ⟨h.os, h.tape, h.output, by rw [setRow_size]; exact h.size, fun i hi => ?_⟩
  rw [setRow_other _ _ _ _ (by omega)]; exact h.block i hi
theorem int_eq {k : IntKind} {a b : Int} (h : a = b) : Value.int k a = Value.int k b := by rw [h]

set_option maxHeartbeats 800000 in
set_option maxRecDepth 100000 in
theorem table_calls (w : World) : Calls Try.prog 54 #[] w fun e w' => e = .returned (.agg (arr 256)) ∧ Below w.heap.size w w' := by
  have hz : ∀ w, (zeroValue 75).run Try.prog w = .ok (.agg zeros) w := fun _ => by kernel_rfl
  go_enter Try.func54, Try.ntmps54
  go_wp2_with fail
  go_loopw [4] (fun i wr => ∃ k : Nat, k ≤ 256 ∧ i = .int .i64 k ∧ wr.heap[w.heap.size]? = some (.cells zeros 75 (0, 0)) ∧ wr.heap[w.heap.size + 1]? = some (.cells (arr k) 75 (0, 0)) ∧ Below w.heap.size w wr) (fun i _ => 256 - (intOf i).toNat)
  case atStart =>
    obtain ⟨h1, h2, h3⟩ := start2 w (.cells zeros 75 (0, 0)) (.cells (arr 0) 75 (0, 0))
    rw [arr_zero] at h1 h2 h3
    exact ⟨0, by omega, rfl, h1, by rw [arr_zero]; exact h2, h3⟩
  case round =>
    obtain ⟨k, hk, rfl, hb0, hb1, hbel⟩ := hrel
    by_cases hlt : k < 256
    · have hc : wr.cell? ⟨w.heap.size + 1, k, none⟩ = some (.int .u32 0) := by
        rw [blk_cell hb1, arr_at k k hlt]; simp [cellOf]
      have hf : wr.frozen? ⟨w.heap.size + 1, k, none⟩ = false := blk_frozen hb1 _
      go_wp2_with fail
      go_loop [3, 9] (fun a j => ∃ n : Nat, n ≤ 8 ∧ j = .int .i64 n ∧ a = .int .u32 (iter n k)) (fun _ j => 8 - (intOf j).toNat)
      case atStart => exact ⟨0, by omega, rfl, rfl⟩
      case round =>
        obtain ⟨n, hn, rfl, rfl⟩ := hrel
        by_cases hl8 : n < 8
        · go_wp2
          · have h : (Go.bits .and .u32 (iter n k) 1 == 1) = true := by assumption
            exact ⟨⟨n + 1, by omega, by go_num, int_eq (iter_yes n k h)⟩, by simp [intOf]; omega⟩
          · have h : (Go.bits .and .u32 (iter n k) 1 == 1) = false := by assumption
            exact ⟨⟨n + 1, by omega, by go_num, int_eq (iter_no n k h)⟩, by simp [intOf]; omega⟩
        · go_wp2
          obtain rfl : n = 8 := by omega
          refine ⟨⟨k + 1, by omega, by go_num, ?_, ?_, below_set hbel (by omega)⟩, by simp [intOf]; omega⟩
          · exact blk_far hb0 (by show w.heap.size ≠ w.heap.size + 1; omega) _
          · rw [← arr_set k hlt]; exact blk_set hb1 k _
    · obtain rfl : k = 256 := by omega
      go_wp2_with (first | (refine wpList_load_row rfl 75 _ rfl (w.heap.size + 1) rfl 75 (arr 256) (0, 0) _ hb1 Try.underlying75 rfl (by rw [size_info, arr_size]) ?_) | (refine wpList_store_row rfl 75 _ _ rfl w.heap.size (arr 256) rfl rfl 75 zeros hb0 (by rw [size_info, arr_size]) (by rw [zeros_size, arr_size]) (arr_one 256) ?_))
      exact bodyPost_ret (v := .agg (arr 256)) (results_cell_row Try.results54 _ _ w.heap.size 75 (arr 256) (0, 0) _ rfl (setRow_heap _ _ _ _ _ _ hb0) Try.underlying75 rfl (by rw [size_info, arr_size])) rfl ⟨rfl, below_row hbel _ (Nat.le_refl _) _⟩

end Go.Proofs.Ythcbgoldkoobdaa.Crc
