/- octets.Join of one number of two bytes. -/
import Derived.Test.YtekbecpcbfhdmaaPJnx1
import Derived.Test.YtekbecpcbfhdmaaOctBytes
namespace Go.Proofs.Ytekbecpcbfhdmaa.Pack
open Go.RowKit Go.Proofs.YtekbecpcbfhdmaaW.PrintWords Go.Proofs.Ytekbecpcbfhdmaa.Oct Go.Proofs.Ytekbecpcbfhdmaa.PJn
theorem two (x : Nat) : beB 2 x = [UInt8.ofNat (x / 256 % 256), UInt8.ofNat (x % 256)] := by simp [beB]
theorem join_two (x : Nat) (h : x < 65536) : octets_Join.f 10 [(x : Int)] [2] = some (arr (beB 2 x), 0) := by
  have h1 : octets_whole.f 10 [2] = some true := by decide +kernel
  have h2 : octets_most.f 2 = some 65535 := by decide +kernel
  have e8 : (2 : Int) ^ min (Int.toNat 8) IntKind.u64.bits = 256 := by decide +kernel
  have e0 : (2 : Int) ^ min (Int.toNat 0) IntKind.u64.bits = 1 := by decide +kernel
  have hs1 : (shr .u64 (x : Int) 8) = ((x / 256 : Nat) : Int) := by unfold shr; rw [e8]; omega
  have hs0 : (shr .u64 (x : Int) 0) = (x : Int) := by unfold shr; rw [e0]; omega
  have hb : octets_bytes.f 8 (x : Int) 2 = some (bnums (beB 2 x)) := by
    unfold octets_bytes.f
    rw [show wrap64 (2 - 1) = 1 by decide +kernel, octets_bytes.l0, if_pos (by decide +kernel), if_pos (by decide +kernel), if_pos (by decide +kernel), show wrap64 (8 * 1) = 8 by decide +kernel, hs1, show wrap64 (1 - 1) = 0 by decide +kernel]
    rw [octets_bytes.l0, if_pos (by decide +kernel), if_pos (by decide +kernel), if_pos (by simp), show wrap64 (8 * 0) = 0 by decide +kernel, hs0, show wrap64 (0 - 1) = -1 by decide +kernel]
    rw [octets_bytes.l0, if_neg (by decide +kernel), two]
    simp [bnums]
  unfold octets_Join.f
  rw [h1]
  rw [Option.bind_some, if_pos rfl, octets_Join.j0, if_neg (by simp), octets_Join.l0, if_pos (by decide +kernel), if_pos (by decide +kernel), if_pos (by decide +kernel), if_pos (by simp)]
  rw [show rd [(2 : Int)] 0 = 2 from rfl, show rd [(x : Int)] 0 = x from rfl, h2, Option.bind_some, if_neg (by omega), hb, Option.bind_some, if_pos (by simp [two, bnums]), show wrap64 (0 + 1) = 1 by decide +kernel, octets_Join.l0, if_neg (by decide +kernel), List.nil_append, str_bnums]
end Go.Proofs.Ytekbecpcbfhdmaa.Pack
