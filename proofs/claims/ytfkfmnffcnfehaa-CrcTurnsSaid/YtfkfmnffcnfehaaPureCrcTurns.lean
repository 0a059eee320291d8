/- The checksum of the exclusive or of three strings of one length, of at most 500 bytes, is the exclusive or of their checksums: no other condition. -/
import Derived.Test.YtfkfmnffcnfehaaCrcFacts
import Derived.Test.YtfkfmnffcnfehaaPCrcx1
namespace Go.Proofs.Ytfkfmnffcnfehaa.Pure
open Go.RowKit Go.Proofs.Ytfkfmnffcnfehaa.PCrc Go.Proofs.YtfkfmnffcnfehaaW.PrintWords Go.Proofs.YtfkfmnffcnfehaaW.PrintLast Go.Proofs.YtfkfmnffcnfehaaW.PrintMore Go.Proofs.Ytfkfmnffcnfehaa.Given Go.Proofs.Ytfkfmnffcnfehaa.Crc Go.Proofs.Ytfkfmnffcnfehaa.CrcFacts

theorem three (a b c x y z : Nat) : (a ^^^ b ^^^ c) ^^^ (x ^^^ y ^^^ z) = (a ^^^ x) ^^^ (b ^^^ y) ^^^ (c ^^^ z) := by
  apply Nat.eq_of_testBit_eq
  intro i
  simp only [Nat.testBit_xor]
  cases a.testBit i <;> cases b.testBit i <;> cases c.testBit i <;> cases x.testBit i <;> cases y.testBit i <;> cases z.testBit i <;> rfl

/-- Steps over three strings, byte by byte. -/
theorem steps_three : ∀ (l m n o : List UInt8) (a b c : Nat), m.length = l.length → n.length = l.length → o.length = l.length →
    (∀ i, i < l.length → (o.getD i 0).toNat = (l.getD i 0).toNat ^^^ (m.getD i 0).toNat ^^^ (n.getD i 0).toNat) →
    stepsN (a ^^^ b ^^^ c) o = stepsN a l ^^^ stepsN b m ^^^ stepsN c n := by
  intro l
  induction l with
  | nil =>
    intro m n o a b c hm hn ho _
    obtain rfl := List.eq_nil_of_length_eq_zero hm
    obtain rfl := List.eq_nil_of_length_eq_zero hn
    obtain rfl := List.eq_nil_of_length_eq_zero ho
    rfl
  | cons x l ih =>
    intro m n o a b c hm hn ho h
    match m, n, o, hm, hn, ho with
    | y :: m, z :: n, u :: o, hm, hn, ho =>
      have h0 := h 0 (by simp)
      simp only [List.getD_cons_zero] at h0
      show stepsN (iterN 8 ((a ^^^ b ^^^ c) ^^^ u.toNat)) o = stepsN (iterN 8 (a ^^^ x.toNat)) l ^^^ stepsN (iterN 8 (b ^^^ y.toNat)) m ^^^ stepsN (iterN 8 (c ^^^ z.toNat)) n
      rw [h0, three, iterN_xor, iterN_xor]
      refine ih m n o _ _ _ (by simpa using hm) (by simpa using hn) (by simpa using ho) fun i hi => ?_
      have := h (i + 1) (by simp only [List.length_cons]; omega)
      simpa using this

theorem turns_loop (a b c : ByteArray) (hb : b.size = a.size) (hc : c.size = a.size) (hs : a.size ≤ 500) (d : Nat) :
    ∀ (i k : Nat) (x : List Int), i + d = a.size → d < k → x.length = i → (∀ j, j < i → x.getD j 0 = (((a.data.toList.getD j 0).toNat ^^^ (b.data.toList.getD j 0).toNat ^^^ (c.data.toList.getD j 0).toNat : Nat) : Int)) →
    beadrolllaw05_CrcTurns.l0 k a b c x i = some true := by
  have hla : a.data.toList.length = a.size := data_length a
  have hlb : b.data.toList.length = b.size := data_length b
  have hlc : c.data.toList.length = c.size := data_length c
  induction d with
  | zero =>
    intro i k x hi hk hx h
    obtain ⟨k, rfl⟩ : ∃ m, k = m + 1 := ⟨k - 1, by omega⟩
    rw [beadrolllaw05_CrcTurns.l0, if_neg (by omega), sum_f (strOfNums x) (by rw [strOfNums_size]; omega), sum_f a (by omega), sum_f b (by omega), sum_f c (by omega)]
    simp only [Option.bind_some]
    have hl : ∀ l : List UInt8, sumN 0 l < 4294967296 := fun l => xor_lt MN_lt (stepsN_lt l (xor_lt MN_lt (by omega)))
    rw [Go.u32_xor_nat _ _ (hl _) (hl _), Go.u32_xor_nat _ _ (xor_lt (hl _) (hl _)) (hl _)]
    have e := steps_three a.data.toList b.data.toList c.data.toList (strOfNums x).data.toList MN MN MN (by omega) (by omega) (by rw [strOfNums_data, List.length_map]; omega) (fun j hj => by
      rw [strOfNums_data]
      have hj' : j < x.length := by omega
      have e1 : (x.map fun n => UInt8.ofNat n.toNat).getD j 0 = UInt8.ofNat (x.getD j 0).toNat := by simp [hj']
      rw [e1, h j (by omega), Int.toNat_natCast]
      have h1 := UInt8.toNat_lt (a.data.toList.getD j 0)
      have h2 := UInt8.toNat_lt (b.data.toList.getD j 0)
      have h3 := UInt8.toNat_lt (c.data.toList.getD j 0)
      rw [UInt8.toNat_ofNat']
      exact Nat.mod_eq_of_lt (Nat.xor_lt_two_pow (Nat.xor_lt_two_pow h1 h2) h3))
    have e2 : MN ^^^ MN ^^^ MN = MN := by simp
    rw [e2] at e
    have e3 : sumN 0 (strOfNums x).data.toList = sumN 0 a.data.toList ^^^ sumN 0 b.data.toList ^^^ sumN 0 c.data.toList := by
      unfold sumN
      rw [Nat.xor_zero, e, ← three, e2]
    rw [e3]; simp
  | succ d ih =>
    intro i k x hi hk hx h
    obtain ⟨k, rfl⟩ : ∃ m, k = m + 1 := ⟨k - 1, by omega⟩
    rw [beadrolllaw05_CrcTurns.l0, if_pos (by omega), if_pos (by omega), if_pos (by omega), if_pos (by omega), if_pos (by omega), w64 (by omega) (by omega)]
    have hbt : ∀ s : ByteArray, i < s.size → bt s (i : Int) = (((s.data.toList.getD i 0).toNat : Nat) : Int) := fun s hs => by
      simp [bt, hs, List.getD_eq_getElem?_getD]; rfl
    have h1 := UInt8.toNat_lt (a.data.toList.getD i 0)
    have h2 := UInt8.toNat_lt (b.data.toList.getD i 0)
    have h3 := UInt8.toNat_lt (c.data.toList.getD i 0)
    rw [hbt a (by omega), hbt b (by omega), hbt c (by omega), Go.u8_xor_nat _ _ (by omega) (by omega), Go.u8_xor_nat _ _ (Nat.xor_lt_two_pow (n := 8) h1 h2) (by omega)]
    refine ih (i + 1) k _ (by omega) (by omega) (by simp [hx]) fun j hj => ?_
    by_cases hji : j < i
    · rw [← h j hji]; simp [List.getD_eq_getElem?_getD, List.getElem?_append, show j < x.length from by omega]
    · obtain rfl : j = i := by omega
      simp [List.getD_eq_getElem?_getD, hx]

theorem CrcTurns : beadrolllaw05_CrcTurns.Pure := by
  intro a b c ha hb hc
  refine ⟨503, ?_⟩
  have hj : ∀ t : Bool, (t = false → b.size = a.size ∧ c.size = a.size ∧ a.size ≤ 500) → beadrolllaw05_CrcTurns.j0 503 a b c t = some true := by
    intro t ht
    rw [beadrolllaw05_CrcTurns.j0]
    cases t with
    | true => simp [awake_some]
    | false =>
      obtain ⟨h1, h2, h3⟩ := ht rfl
      rw [if_neg (by simp)]
      exact turns_loop a b c h1 h2 h3 a.size 0 502 [] (by omega) (by omega) rfl (fun j hj => absurd hj (by omega))
  unfold beadrolllaw05_CrcTurns.f
  rw [awake_some]
  simp only [Option.bind_some]
  rw [if_pos trivial]
  split
  · split
    · exact hj _ fun h => by have := of_decide_eq_false h; omega
    · exact hj _ fun h => by cases h
  · exact hj _ fun h => by cases h

end Go.Proofs.Ytfkfmnffcnfehaa.Pure
