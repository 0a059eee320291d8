/- The contracts of crc.steps, More and Parts: they return the sums that the plain functions stepsL and sumL name; More and Parts make new memory only. No condition but that strings are as long as strings can be. -/
import Derived.Test.YthcbgoldkoobdaaCrcTable
import Derived.Deep.QuietTactic
import Derived.BigQuiet
import Derived.Outline
import Derived.Lib.Hide
import Derived.Laws.BitsAllLaws
import Derived.Laws.BitsLemmas
namespace Go.Proofs.Ythcbgoldkoobdaa.Crc
open Go.RowKit Go.Proofs.YthcbgoldkoobdaaW.PrintWords

def upd (w c : Int) : Int := Go.bits .xor .u32 (w / 256) (tab (Go.bits .xor .u8 (w % 256) c).toNat)
def stepsL (w : Int) (l : List UInt8) : Int := l.foldl (fun w c => upd w c.toNat) w

theorem xor_range (a b : Int) (h1 : 0 ≤ a) (h2 : a < 256) (h3 : 0 ≤ b) (h4 : b < 256) : 0 ≤ Go.bits .xor .u8 a b ∧ Go.bits .xor .u8 a b < 256 := by
  rw [Go.u8_xor a b h1 h2 h3 h4]
  have : a.toNat ^^^ b.toNat < 2 ^ 8 := Nat.xor_lt_two_pow (by omega) (by omega)
  omega

theorem next_eq (a z : Int) (s : ByteArray) (k : Nat) (h : k < s.size) (hz : z = stepsL a (s.data.toList.take k)) :
    Go.bits .xor .u32 (z / 256) (tab (Go.bits .xor .u8 (z % 256) (s[k].toNat)).toNat) = stepsL a (s.data.toList.take (k + 1)) := by
  have hl : s.data.toList.take (k + 1) = s.data.toList.take k ++ [s[k]] := by
    rw [List.take_succ_eq_append_getElem (by simpa using h)]; rfl
  rw [hl]
  unfold stepsL at hz ⊢
  rw [List.foldl_append, ← hz]
  rfl

set_option maxHeartbeats 800000 in
set_option maxRecDepth 100000 in
theorem steps_calls (g : Nat) (a : Int) (s : ByteArray) (w : World) (hb : w.heap[g]? = some (.cells (arr 256) 75 (0, 0))) (hs : s.size ≤ maxLen) :
    Calls Try.prog 55 #[.pointer (some ⟨g, 0, none⟩), .int .u32 a, .string s] w fun e w' => e = .returned (.int .u32 (stepsL a s.data.toList)) ∧ Drawn0 w w' := by
  unfold maxLen at hs
  go_enter Try.func55, Try.ntmps55
  go_wp2_with fail
  go_loopw [1, 10] (fun x i wr => ∃ k : Nat, k ≤ s.size ∧ i = .int .i64 k ∧ (∃ n, wr = w.drewN n) ∧ ∃ z, x = .int .u32 z ∧ z = stepsL a (s.data.toList.take k)) (fun _ i _ => s.size - (intOf i).toNat)
  case atStart => exact ⟨0, Nat.zero_le _, rfl, ⟨0, rfl⟩, _, rfl, rfl⟩
  case round =>
    obtain ⟨k, hk, rfl, ⟨n, rfl⟩, z, rfl, hz⟩ := hrel
    have HZ := Lib.hid hz; clear hz
    by_cases hlt : k < s.size
    · have hx := xor_range (z % 256) (s[k].toNat) (by omega) (by omega) (by omega) (by have := UInt8.toNat_lt s[k]; omega)
      have hc : ∀ W : World, W.heap[g]? = some (.cells (arr 256) 75 (0, 0)) → W.cell? ⟨g, (Go.bits .xor .u8 (z % 256) (s[k].toNat)).toNat, none⟩ = some (.int .u32 (tab (Go.bits .xor .u8 (z % 256) (s[k].toNat)).toNat)) := by
        intro W hW
        rw [blk_cell hW, arr_at _ _ (by omega)]; unfold cellOf; rw [if_pos (by omega)]
      have hcell := hc w hb
      clear hc
      obtain ⟨hx0, hx1⟩ := hx
      have HN := Lib.hid (next_eq a z s k hlt HZ.out)
      go_wp2_with fail
      go_quiet (fail)
      go_wp2_with fail
      exact ⟨⟨k + 1, by omega, by go_num, ⟨_, rfl⟩, _, rfl, HN.out⟩, by simp [intOf]; omega⟩
    · go_wp2_with fail
      obtain rfl : k = s.size := by omega
      have HE := HZ.out
      rw [List.take_of_length_le (by rw [Array.length_toList]; exact Nat.le_refl _)] at HE
      subst HE
      go_ret
      exact ⟨rfl, ⟨_, rfl⟩⟩

end Go.Proofs.Ythcbgoldkoobdaa.Crc
