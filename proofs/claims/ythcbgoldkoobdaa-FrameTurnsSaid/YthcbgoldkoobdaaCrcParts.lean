/- The contract of crc.Parts in the form of the print: where the plain function answers (all strings as short as strings can be), the call returns that answer and makes new memory only. -/
import Derived.Test.YthcbgoldkoobdaaCrcSteps
namespace Go.Proofs.Ythcbgoldkoobdaa.Crc
open Go.RowKit Go.Proofs.YthcbgoldkoobdaaW.PrintWords

theorem below_more {w w1 : World} (hb1 : Below w.heap.size w w1) (o : Obj) (cs : Array Value) (n : Nat) : Below w.heap.size w (((w1.alloc o).setRow w1.heap.size cs).drewN n) :=
  pw_below_drewN (below_row (below_alloc hb1 _) _ hb1.size _) _

theorem parts_next (l : List ByteArray) (k : Nat) (a : Int) (h : k < l.length) : stepsL ((l.take k).foldl (fun w s => stepsL w s.data.toList) a) (rdOf ByteArray.empty l k).data.toList = (l.take (k + 1)).foldl (fun w s => stepsL w s.data.toList) a := by
  have hl : l.take (k + 1) = l.take k ++ [l[k]] := List.take_succ_eq_append_getElem h
  have hr : rdOf ByteArray.empty l (k : Int) = l[k] := by simp [rdOf, h]
  rw [hl, hr, List.foldl_append]
  rfl

set_option maxHeartbeats 800000 in
set_option maxRecDepth 100000 in
theorem parts_any (A : Option Addr) (c : Nat) (l : List ByteArray) (w : World) (hr : Kd.C Kd.string w A l.length l) (hs : ∀ k : Nat, k < l.length → (rdOf ByteArray.empty l k).size ≤ maxLen) :
    Calls Try.prog 46 #[.slice A l.length c] w fun e w' => e = .returned (.int .u32 (Go.bits .xor .u32 IntKind.u32.max (l.foldl (fun w s => stepsL w s.data.toList) 4294967295))) ∧ Below w.heap.size w w' := by
  have hz : ∀ w, (zeroValue 75).run Try.prog w = .ok (.agg zeros) w := fun _ => by kernel_rfl
  have hmax := Kd.C_max hr
  go_enter Try.func46, Try.ntmps46
  go_wp2_with fail
  refine (table_calls _).mono ?_
  rintro e w1 ⟨rfl, hb1⟩
  go_wp2_with (refine wpList_store_row rfl 75 _ _ rfl w1.heap.size (arr 256) rfl rfl 75 zeros (heap_alloc_new _ _) (by rw [size_info, arr_size]) (by rw [zeros_size, arr_size]) (arr_one 256) ?_)
  go_loopw [4, 10] (fun x i wr => ∃ k : Nat, k ≤ l.length ∧ i = .int .i64 k ∧ x = .int .u32 ((l.take k).foldl (fun w s => stepsL w s.data.toList) 4294967295) ∧ wr.heap[w1.heap.size]? = some (.cells (arr 256) 75 (0, 0)) ∧ Below w.heap.size w wr) (fun _ i _ => l.length - (intOf i).toNat)
  case atStart => exact ⟨0, Nat.zero_le _, rfl, rfl, setRow_heap _ _ _ _ _ _ (heap_alloc_new _ _), below_row (below_alloc hb1 _) _ hb1.size _⟩
  case round =>
    obtain ⟨k, hk, rfl, rfl, hb, hbel⟩ := hrel
    have HS := Lib.hid hs; clear hs
    by_cases hlt : k < l.length
    · obtain ⟨ad, rfl, hc0⟩ := Kd.at_string (Kd.C_below hr hbel) (k : Int) (by omega) (by omega)
      have hc : wr.cell? (ad.add k) = some (.string (rdOf ByteArray.empty l k)) := hc0
      clear hc0
      go_wp2_with fail
      refine (steps_calls w1.heap.size _ _ _ hb (HS.out k hlt)).mono ?_
      rintro e w2 ⟨rfl, ⟨n, rfl⟩⟩
      go_wp2_with fail
      exact ⟨⟨k + 1, by omega, by go_num, int_eq (parts_next l k _ hlt), hb, pw_below_drewN hbel _⟩, by simp [intOf]; omega⟩
    · go_wp2_with fail
      obtain rfl : k = l.length := by omega
      rw [List.take_of_length_le (Nat.le_refl _)]
      go_ret
      exact ⟨rfl, hbel⟩

end Go.Proofs.Ythcbgoldkoobdaa.Crc
namespace Go.Proofs.Ythcbgoldkoobdaa.Given
open Go.RowKit Go.Proofs.YthcbgoldkoobdaaW.PrintWords Go.Proofs.Ythcbgoldkoobdaa.Crc

def crc_Parts.f (l0 : List ByteArray) : Option Int :=
  if (l0.all fun s => decide (s.size ≤ 9223372036854775807)) = true then some (Go.bits .xor .u32 IntKind.u32.max (l0.foldl (fun w s => stepsL w s.data.toList) 4294967295)) else none
theorem crc_Parts.calls (A0 : Option Addr) (c0 : Nat) (l0 : List ByteArray) (r : Int) (w : World) (hr0 : Kd.C Kd.string w A0 l0.length l0) (_hc0 : l0.length ≤ c0) (h : crc_Parts.f l0 = some r) :
    Calls Try.prog 46 #[.slice A0 l0.length c0] w fun e w' => e = .returned (.int .u32 r) ∧ Below w.heap.size w w' := by
  unfold crc_Parts.f at h
  split at h
  · rename_i hall
    obtain rfl := Option.some.inj h
    refine parts_any A0 c0 l0 w hr0 fun k hk => ?_
    have e : rdOf ByteArray.empty l0 (k : Int) = l0[k] := by simp [rdOf, hk]
    rw [e]
    exact of_decide_eq_true (List.all_eq_true.mp hall l0[k] (List.getElem_mem hk))
  · cases h

end Go.Proofs.Ythcbgoldkoobdaa.Given
