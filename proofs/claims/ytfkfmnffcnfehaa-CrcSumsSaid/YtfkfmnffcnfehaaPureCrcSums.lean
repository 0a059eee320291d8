/- For any bytes of at most 2000 and any sum, Sum and More return the reference's checksums: no other condition. -/
import Derived.Test.YtfkfmnffcnfehaaCrcFacts
namespace Go.Proofs.Ytfkfmnffcnfehaa.Pure
open Go.RowKit Go.Proofs.Ytfkfmnffcnfehaa.PCrc Go.Proofs.YtfkfmnffcnfehaaW.PrintWords Go.Proofs.YtfkfmnffcnfehaaW.PrintLast Go.Proofs.YtfkfmnffcnfehaaW.PrintMore Go.Proofs.Ytfkfmnffcnfehaa.Given Go.Proofs.Ytfkfmnffcnfehaa.Crc Go.Proofs.Ytfkfmnffcnfehaa.CrcFacts

theorem not_sub (w : Nat) (h : w < 4294967296) : (4294967295 - (w : Int)) % 4294967296 = ((MN ^^^ w : Nat) : Int) := by
  have e : MN ^^^ w = 4294967295 - w := by
    apply Nat.eq_of_testBit_eq
    intro i
    have h1 := Nat.testBit_two_pow_sub_succ (n := 32) (x := w) h i
    rw [show 2 ^ 32 - (w + 1) = 4294967295 - w from by omega] at h1
    have h2 := Nat.testBit_two_pow_sub_one 32 i
    rw [show 2 ^ 32 - 1 = MN from rfl] at h2
    rw [Nat.testBit_xor, h1, h2]
    by_cases hi : i < 32
    · simp [hi]
    · have : w.testBit i = false := Nat.testBit_lt_two_pow (Nat.lt_of_lt_of_le h (Nat.pow_le_pow_right (n := 2) (i := 32) (j := i) (by omega) (by omega)))
      simp [hi, this]
  rw [e]; omega

theorem ref_byte (s : ByteArray) (w : Nat) (hw : w < 4294967296) (i : Nat) (hi : i < s.size) (c : Nat) (hc : bt s i = (c : Int)) (hc8 : c < 256) (k d : Nat) :
    ∀ (j r : Nat), j + d = 8 → r = iterN j (w ^^^ c) ^^^ (c / 2 ^ j) → beadrollref05_More.l1 (k + d + 1) s (r : Int) i j = beadrollref05_More.l0 k s ((iterN 8 (w ^^^ c) : Nat) : Int) (wrap64 (i + 1)) := by
  induction d with
  | zero =>
    intro j r hj hr
    obtain rfl : j = 8 := by omega
    simp only [beadrollref05_More.l1]
    rw [if_neg (by omega), hr, Nat.div_eq_of_lt (by omega), Nat.xor_zero]
  | succ d ih =>
    intro j r hj hr
    have hx : w ^^^ c < 4294967296 := xor_lt hw (by omega)
    have hr32 : r < 4294967296 := by
      rw [hr]; exact xor_lt (iterN_lt j hx) (Nat.lt_of_le_of_lt (Nat.div_le_self _ _) (by omega))
    rw [show k + (d + 1) + 1 = (k + d + 1) + 1 from by omega, beadrollref05_More.l1]
    rw [if_pos (by omega), if_pos (by omega), if_pos (by omega), if_pos (by omega), hc]
    have e1 : Int.tmod (r : Int) 2 = ((r % 2 : Nat) : Int) := by rw [Int.tmod_eq_emod_of_nonneg (by omega)]; omega
    have e2 : (Int.tdiv (r : Int) 2) % 4294967296 = ((r / 2 : Nat) : Int) := by rw [Int.tdiv_eq_ediv_of_nonneg (by omega)]; omega
    have e3 : (shr .u32 ((c : Int) % 4294967296) (j : Int)) % 2 = ((c / 2 ^ j % 2 : Nat) : Int) := by
      have hc' : ((c : Int) % 4294967296) = (c : Int) := by omega
      unfold shr
      rw [hc', Int.toNat_natCast, Nat.min_eq_left (by simp [IntKind.bits]; omega)]
      have hp : (2 : Int) ^ j = ((2 ^ j : Nat) : Int) := by push_cast; rfl
      rw [hp]; omega
    have e4 : wrap64 ((j : Int) + 1) = ((j + 1 : Nat) : Int) := by rw [w64 (by omega) (by omega)]; omega
    rw [e1, e2, e3, e4]
    have hdiv : c / 2 ^ j / 2 = c / 2 ^ (j + 1) := by rw [Nat.div_div_eq_div_mul, Nat.pow_succ]
    have hq : iterN j (w ^^^ c) = r ^^^ (c / 2 ^ j) := by rw [hr, Nat.xor_assoc, Nat.xor_self, Nat.xor_zero]
    have hn : iterN (j + 1) (w ^^^ c) ^^^ (c / 2 ^ (j + 1)) = (r / 2) ^^^ (if r % 2 = c / 2 ^ j % 2 then 0 else PN) := by
      show stepN (iterN j (w ^^^ c)) ^^^ _ = _
      unfold stepN
      rw [hq, xor_div2, hdiv]
      have hm := xor_mod2 r (c / 2 ^ j)
      have hsw : ∀ a b p : Nat, a ^^^ b ^^^ p ^^^ b = a ^^^ p := fun a b p => by
        rw [Nat.xor_assoc, Nat.xor_assoc, Nat.xor_comm p b, ← Nat.xor_assoc b b p, Nat.xor_self, Nat.zero_xor]
      rw [hsw]
      by_cases h : r % 2 = c / 2 ^ j % 2
      · rw [if_pos h, if_neg (by rw [hm]; exact fun z => z h)]
      · rw [if_neg h, if_pos (hm.mpr h)]
    by_cases h : r % 2 = c / 2 ^ j % 2
    · rw [if_pos (by omega)]
      exact ih (j + 1) (r / 2) (by omega) (by rw [hn, if_pos h, Nat.xor_zero])
    · rw [if_neg (by omega)]
      have e5 : Go.bits .xor .u32 ((r / 2 : Nat) : Int) 3988292384 = ((r / 2 ^^^ PN : Nat) : Int) := Go.u32_xor_nat (r / 2) PN (by omega) (by simp [PN])
      rw [e5]
      exact ih (j + 1) (r / 2 ^^^ PN) (by omega) (by rw [hn, if_neg h])

theorem ref_loop (s : ByteArray) (hs : s.size ≤ 140737488351232) (k d : Nat) :
    ∀ (i w : Nat), i + d = s.size → w < 4294967296 → beadrollref05_More.l0 (k + 10 * d + 1) s (w : Int) i = some ((MN ^^^ stepsN w (s.data.toList.drop i) : Nat) : Int) := by
  induction d with
  | zero =>
    intro i w hi hw
    simp only [beadrollref05_More.l0]
    have hl : s.data.toList.length = s.size := data_length s
    rw [if_neg (by omega), not_sub w hw, List.drop_of_length_le (by omega)]; rfl
  | succ d ih =>
    intro i w hi hw
    have hl : s.data.toList.length = s.size := data_length s
    have hlt : i < s.size := by omega
    rw [show k + 10 * (d + 1) + 1 = (k + 10 * d + 1 + 8 + 1) + 1 from by omega]
    simp only [beadrollref05_More.l0]
    rw [if_pos (by omega)]
    have hb : bt s (i : Int) = ((s[i].toNat : Nat) : Int) := by simp [bt, hlt]
    have hc := UInt8.toNat_lt s[i]
    have h0 := ref_byte s w hw i hlt s[i].toNat hb (by omega) (k + 10 * d + 1) 8 0 w (by omega) (by
      simp only [iterN, Nat.pow_zero, Nat.div_one]; rw [Nat.xor_assoc, Nat.xor_self, Nat.xor_zero])
    rw [show (((0 : Nat) : Int)) = 0 from rfl] at h0
    rw [h0, w64 (by omega) (by omega)]
    have := ih (i + 1) (iterN 8 (w ^^^ s[i].toNat)) (by omega) (iterN_lt 8 (xor_lt hw (byte_lt _)))
    rw [show ((i : Int) + 1) = ((i + 1 : Nat) : Int) from by omega, this]
    have hd : s.data.toList.drop i = s[i] :: s.data.toList.drop (i + 1) := List.drop_eq_getElem_cons (by omega)
    rw [hd]; rfl

theorem ref_more (s : ByteArray) (hs : s.size ≤ 140737488351232) (a : Nat) (ha : a < 4294967296) : beadrollref05_More.f (10 * s.size + 1) (a : Int) s = some ((sumN a s.data.toList : Nat) : Int) := by
  unfold beadrollref05_More.f
  rw [not_sub a ha]
  have := ref_loop s hs 0 s.size 0 (MN ^^^ a) (by omega) (xor_lt MN_lt ha)
  rw [show ((0 : Nat) : Int) = 0 from rfl] at this
  rw [show 10 * s.size + 1 = 0 + 10 * s.size + 1 from by omega, this]; rfl

theorem CrcSums : beadrolllaw05_CrcSums.Pure := by
  intro s a hs ha
  have ha := wf32 ha
  obtain ⟨n, rfl⟩ := Int.eq_ofNat_of_zero_le ha.1
  by_cases h2 : (s.size : Int) > 2000
  · refine ⟨1, ?_⟩
    simp [beadrolllaw05_CrcSums.f, beadrolllaw05_CrcSums.j0, awake_some, h2]
  · refine ⟨10 * s.size + 1 + 1, ?_⟩
    unfold beadrolllaw05_CrcSums.f
    rw [awake_some]
    simp only [Option.bind_some]
    rw [if_pos trivial, decide_eq_false h2]
    simp only [beadrolllaw05_CrcSums.j0, beadrollref05_Sum.f]
    rw [if_neg (by simp), sum_f s (by omega), more_f n s (by omega) (by omega), ref_more s (by omega) n (by omega)]
    have := ref_more s (by omega) 0 (by omega)
    rw [show ((0 : Nat) : Int) = 0 from rfl] at this
    rw [this]
    simp

end Go.Proofs.Ytfkfmnffcnfehaa.Pure
