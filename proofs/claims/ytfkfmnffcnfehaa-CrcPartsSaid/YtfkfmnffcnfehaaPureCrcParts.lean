/- For at most 30 strings, of at most 200 bytes each, the checksum of the strings is that of their concatenation, by Parts and by More: no other condition. -/
import Derived.Test.YtfkfmnffcnfehaaCrcFacts
import Derived.Test.YtfkfmnffcnfehaaPCrcx2
namespace Go.Proofs.Ytfkfmnffcnfehaa.Pure
open Go.RowKit Go.Proofs.Ytfkfmnffcnfehaa.PCrc Go.Proofs.YtfkfmnffcnfehaaW.PrintWords Go.Proofs.YtfkfmnffcnfehaaW.PrintLast Go.Proofs.YtfkfmnffcnfehaaW.PrintMore Go.Proofs.Ytfkfmnffcnfehaa.Given Go.Proofs.Ytfkfmnffcnfehaa.Crc Go.Proofs.Ytfkfmnffcnfehaa.CrcFacts

theorem sumN_lt (a : Nat) (ha : a < 4294967296) (l : List UInt8) : sumN a l < 4294967296 := xor_lt MN_lt (stepsN_lt l (xor_lt MN_lt ha))
theorem sumN_append (a : Nat) (l m : List UInt8) : sumN (sumN a l) m = sumN a (l ++ m) := by
  unfold sumN
  rw [← Nat.xor_assoc MN MN, Nat.xor_self, Nat.zero_xor, stepsN_append]

theorem parts_loop (l : List ByteArray) (hl : l.length ≤ 30) (d : Nat) :
    ∀ (i k : Nat) (x : ByteArray), i + d = l.length → d < k → x.size ≤ 200 * i → x.data.toList = (l.take i).flatMap (fun s => s.data.toList) → (∀ j, j < i → (l.getD j ByteArray.empty).size ≤ 200) →
    beadrolllaw05_CrcParts.l0 k l x ((sumN 0 x.data.toList : Nat) : Int) i = some true := by
  induction d with
  | zero =>
    intro i k x hi hk hx he hs
    obtain ⟨k, rfl⟩ : ∃ m, k = m + 1 := ⟨k - 1, by omega⟩
    obtain rfl : i = l.length := by omega
    rw [List.take_of_length_le (Nat.le_refl _)] at he
    rw [beadrolllaw05_CrcParts.l0, if_neg (by omega), sum_f x (by omega), parts_f l (fun s hmem => by
      obtain ⟨j, hj, rfl⟩ := List.getElem_of_mem hmem
      have := hs j hj
      rw [List.getD_eq_getElem?_getD, List.getElem?_eq_getElem hj, Option.getD_some] at this
      omega), he]
    simp
  | succ d ih =>
    intro i k x hi hk hx he hs
    obtain ⟨k, rfl⟩ : ∃ m, k = m + 1 := ⟨k - 1, by omega⟩
    have hil : i < l.length := by omega
    have hr : rdOf ByteArray.empty l (i : Int) = l[i] := by simp [rdOf, hil]
    rw [beadrolllaw05_CrcParts.l0, if_pos (by omega), if_pos (by omega), hr]
    by_cases h2 : (l[i].size : Int) > 200
    · rw [if_pos h2]
    · rw [if_neg h2, if_pos (by omega), more_f _ _ (sumN_lt 0 (by omega) _) (by omega), w64 (by omega) (by omega)]
      have hd : (x ++ l[i]).data.toList = x.data.toList ++ l[i].data.toList := by simp [ByteArray.data_append]
      have := ih (i + 1) k (x ++ l[i]) (by omega) (by omega) (by rw [ByteArray.size_append]; omega) (by
        rw [hd, he, List.take_succ_eq_append_getElem hil, List.flatMap_append]; simp) (fun j hj => by
        by_cases hji : j < i
        · exact hs j hji
        · obtain rfl : j = i := by omega
          rw [List.getD_eq_getElem?_getD, List.getElem?_eq_getElem hil, Option.getD_some]; omega)
      rw [hd, ← sumN_append] at this
      exact this

theorem CrcParts (l : List ByteArray) (_hm : l.length ≤ maxLen) (_hs : ∀ s ∈ l, s.size ≤ maxLen) : ∃ k, beadrolllaw05_CrcParts.f k l = some true := by
  refine ⟨33, ?_⟩
  unfold beadrolllaw05_CrcParts.f
  rw [awake_some]
  simp only [Option.bind_some]
  rw [if_pos trivial, beadrolllaw05_CrcParts.j0]
  by_cases h : (l.length : Int) > 30
  · rw [if_pos (decide_eq_true h), awake_some]; rfl
  · rw [if_neg (by simpa using h), sum_f _ (by decide)]
    simp only [Option.bind_some]
    exact parts_loop l (by omega) l.length 0 32 ⟨#[]⟩ (by omega) (by omega) (Nat.le_refl _) rfl (fun j hj => absurd hj (by omega))

end Go.Proofs.Ytfkfmnffcnfehaa.Pure
