/- The walk of the law CrcFlips. -/
import Derived.Test.YtfkfmnffcnfehaaCrcFacts
import Derived.Test.YtfkfmnffcnfehaaBytesWords
import Derived.Outline
namespace Go.Proofs.Ytfkfmnffcnfehaa.FlipsWalk
open Go.RowKit Go.Proofs.Ytfkfmnffcnfehaa.PCrc Go.Proofs.YtfkfmnffcnfehaaW.PrintWords Go.Proofs.YtfkfmnffcnfehaaW.PrintLast Go.Proofs.YtfkfmnffcnfehaaW.PrintMore Go.Proofs.Ytfkfmnffcnfehaa.Given Go.Proofs.Ytfkfmnffcnfehaa.Crc Go.Proofs.Ytfkfmnffcnfehaa.CrcFacts Go.Proofs.Ytfkfmnffcnfehaa.BytesWords

theorem awake_calls (w : World) : Calls Try.prog 24 #[] w fun e w' => e = .returned (.bool true) ∧ Below w.heap.size w w' :=
  beadrolllaw05_awake.calls true w awake_some

theorem back (w1 : World) (s : ByteArray) (j : Nat) (c : Nat) (hs : s.size ≤ 9223372036854775807) (x : Int) :
    (Go.convert 40 9 (.slice (some ⟨w1.heap.size, 0, none⟩) s.size c)).run Try.prog ((Lib.bytesWorld w1 5 s).setCell ⟨w1.heap.size, j, none⟩ (.int .u8 x)) = .ok (.string (strOfNums ((bytesOf s).set j x))) ((Lib.bytesWorld w1 5 s).setCell ⟨w1.heap.size, j, none⟩ (.int .u8 x)) :=
  string_of_reads Try.underlying40 Try.underlying5 Try.underlying9 (bytes_set (bytes_reads w1 5 s hs) j x)

theorem shift_one (m : Int) (h0 : 0 ≤ m) (h1 : m < 8) (W : World) : (Op.shift .shl .u8 1 .u16 m).run Try.prog W = .ok (.int .u8 ((2 ^ m.toNat : Nat) : Int)) W := by
  have h : m = 0 ∨ m = 1 ∨ m = 2 ∨ m = 3 ∨ m = 4 ∨ m = 5 ∨ m = 6 ∨ m = 7 := by omega
  rcases h with rfl | rfl | rfl | rfl | rfl | rfl | rfl | rfl <;> rfl

set_option maxHeartbeats 800000 in
set_option maxRecDepth 100000 in
theorem walk_in (s : ByteArray) (a : Int) (w : World) (j : Nat) (b x y : Int) (hj : (wrap64 (IntKind.u16.wrap (a.tdiv 8))).tmod s.size = (j : Int)) (hjs : j < s.size) (hs0 : 0 < s.size) (hs1 : s.size ≤ 2000)
    (ksh : ∀ W, (Op.shift .shl .u8 1 .u16 (a.tmod 8)).run Try.prog W = .ok (.int .u8 b) W)
    (hx : Aside0 (crc_Sum.f (strOfNums ((bytesOf s).set j (Go.bits .xor .u8 ((bytesOf s)[j]?.getD 0) b))) = some x)) (hy : Aside0 (crc_Sum.f s = some y)) (hne : (x != y) = true) :
    Calls Try.prog 9 #[.string s, .int .u16 a] w fun e w' => e = .returned (.bool true) ∧ Below w.heap.size w w' := by
  have kb := fun W => print_bytes (P := Try.prog) 9 40 5 Try.underlying9 Try.underlying40 Try.underlying5 s W
  have z0 : ((s.size : Int) == 0) = false := beq_eq_false_iff_ne.mpr (by omega)
  have z1 : decide (2000 < (s.size : Int)) = false := decide_eq_false (by omega)
  have z2 : decide (2000 < s.size) = false := decide_eq_false (by omega)
  have z3 : ¬ s = ByteArray.empty := fun h => by rw [h] at hs0; exact absurd hs0 (by decide)
  go_enter Try.func9, Try.ntmps9
  go_wp2_with fail
  refine (awake_calls _).mono ?_
  rintro e w1 ⟨rfl, hb1⟩
  have hc := cell_at (bytes_reads w1 5 s (by omega)) j hjs
  have hf := frozen_at w1 5 s j hjs
  have kc := back w1 s j (grownCap w1 s.size 0 5) (by omega)
  go_wp2_with fail
  refine (crc_Sum.calls _ x _ hx.out).mono ?_
  rintro e w2 ⟨rfl, hb2⟩
  go_wp2_with fail
  refine (crc_Sum.calls s y _ hy.out).mono ?_
  rintro e w3 ⟨rfl, hb3⟩
  go_wp2_with fail
  go_ret
  refine ⟨rfl, ?_⟩
  have e1 : Below w.heap.size w ((Lib.bytesWorld w1 5 s).setCell ⟨w1.heap.size, j, none⟩ (.int .u8 (Go.bits .xor .u8 ((bytesOf s)[j]?.getD 0) b))) := below_set (bytes_below hb1 hb1.size _ _) hb1.size
  exact below_then (below_then e1 e1.size hb2) (below_then e1 e1.size hb2).size hb3

theorem bytes_data (s : ByteArray) (j : Nat) (hj : j < s.size) (v : Nat) : (strOfNums ((bytesOf s).set j (v : Int))).data.toList = s.data.toList.set j (UInt8.ofNat v) := by
  rw [strOfNums_data]
  unfold bytesOf
  apply List.ext_getElem?
  intro i
  simp only [List.getElem?_map, List.getElem?_set, List.length_map]
  by_cases h : j = i
  · subst h
    have : j < s.data.toList.length := by rw [data_length]; exact hj
    simp [hj]
  · simp only [if_neg h]
    cases s.data.toList[i]? <;> simp

theorem steps_one (l : List UInt8) (j : Nat) (hj : j < l.length) (c : UInt8) (hc : c ≠ l[j]) (w : Nat) (hw : w < 4294967296) : stepsN w (l.set j c) ≠ stepsN w l := by
  induction l generalizing j w with
  | nil => simp at hj
  | cons x l ih =>
    cases j with
    | zero =>
      intro h
      have h' := stepsN_inj l (iterN_lt 8 (xor_lt hw (byte_lt c))) (iterN_lt 8 (xor_lt hw (byte_lt x))) h
      have h2 := xor_inj_right (iterN_inj 8 (xor_lt hw (byte_lt c)) (xor_lt hw (byte_lt x)) h')
      exact hc (UInt8.toNat_inj.mp h2)
    | succ j => exact ih j (by simpa using hj) (by simpa using hc) _ (iterN_lt 8 (xor_lt hw (byte_lt x)))

theorem flipped (x : UInt8) (m : Nat) (h : m < 8) : UInt8.ofNat (x.toNat ^^^ 2 ^ m) ≠ x := by
  intro e
  have e1 := congrArg UInt8.toNat e
  have hx := UInt8.toNat_lt x
  have hp : 2 ^ m < 2 ^ 8 := Nat.pow_lt_pow_right (by omega) h
  rw [UInt8.toNat_ofNat', Nat.mod_eq_of_lt (Nat.xor_lt_two_pow hx hp)] at e1
  have e2 := congrArg (x.toNat ^^^ ·) e1
  simp only [← Nat.xor_assoc, Nat.xor_self, Nat.zero_xor] at e2
  have := Nat.pow_pos (n := m) (show 0 < 2 by omega)
  omega

set_option maxHeartbeats 800000 in
set_option maxRecDepth 100000 in
theorem walk_out (s : ByteArray) (a : Int) (w : World) (hs : s.size = 0 ∨ 2000 < s.size) :
    Calls Try.prog 9 #[.string s, .int .u16 a] w fun e w' => e = .returned (.bool true) ∧ Below w.heap.size w w' := by
  rcases hs with hs | hs
  · obtain rfl : s = ByteArray.empty := by
      have : s.data = #[] := Array.eq_empty_of_size_eq_zero hs
      cases s; simp at this; subst this; rfl
    go_enter Try.func9, Try.ntmps9
    go_wp2_with fail
    refine (awake_calls _).mono ?_
    rintro e w1 ⟨rfl, hb1⟩
    go_wp2_with fail
    refine (awake_calls _).mono ?_
    rintro e w2 ⟨rfl, hb2⟩
    go_wp2_with fail
    go_ret
    exact ⟨rfl, below_then hb1 hb1.size hb2⟩
  · have z0 : ((s.size : Int) == 0) = false := beq_eq_false_iff_ne.mpr (by omega)
    have z1 : decide (2000 < (s.size : Int)) = true := decide_eq_true (by omega)
    have z2 : decide (2000 < s.size) = true := decide_eq_true (by omega)
    have z3 : ¬ s = ByteArray.empty := fun h => by rw [h] at hs; exact absurd hs (by decide)
    go_enter Try.func9, Try.ntmps9
    go_wp2_with fail
    refine (awake_calls _).mono ?_
    rintro e w1 ⟨rfl, hb1⟩
    go_wp2_with fail
    refine (awake_calls _).mono ?_
    rintro e w2 ⟨rfl, hb2⟩
    go_wp2_with fail
    go_ret
    exact ⟨rfl, below_then hb1 hb1.size hb2⟩

theorem walk (s : ByteArray) (a : Int) (w : World) (_hs : s.size ≤ 140737488351232) (ha : (Lit.int .u16 a).wf = true) :
    Calls Try.prog 9 #[.string s, .int .u16 a] w fun e w' => e = .returned (.bool true) ∧ Below w.heap.size w w' := by
  have ha : 0 ≤ a ∧ a < 65536 := by simp [Lit.wf, IntKind.min, IntKind.max, IntKind.signed, IntKind.bits] at ha; omega
  by_cases hout : s.size = 0 ∨ 2000 < s.size
  · exact walk_out s a w hout
  · have e0 : (wrap64 (IntKind.u16.wrap (a.tdiv 8))) = a / 8 := by
      rw [Int.tdiv_eq_ediv_of_nonneg ha.1, IntKind.wrap_u16, w64 (by omega) (by omega)]; omega
    have hm : 0 ≤ a.tmod 8 ∧ a.tmod 8 < 8 := by rw [Int.tmod_eq_emod_of_nonneg ha.1]; omega
    have hj0 : (wrap64 (IntKind.u16.wrap (a.tdiv 8))).tmod s.size = (((a / 8).toNat % s.size : Nat) : Int) := by
      rw [e0, Int.tmod_eq_emod_of_nonneg (by omega)]
      have : a / 8 = ((a / 8).toNat : Int) := by omega
      rw [this]; simp
    have hjs : (a / 8).toNat % s.size < s.size := Nat.mod_lt _ (by omega)
    have hjl : (a / 8).toNat % s.size < s.data.toList.length := by rw [data_length]; exact hjs
    have hv : (bytesOf s)[(a / 8).toNat % s.size]?.getD 0 = ((s.data.toList[(a / 8).toNat % s.size].toNat : Nat) : Int) := by
      unfold bytesOf; rw [List.getElem?_map, List.getElem?_eq_getElem hjl]; rfl
    have hx := UInt8.toNat_lt s.data.toList[(a / 8).toNat % s.size]
    have hp : 2 ^ (a.tmod 8).toNat < 2 ^ 8 := Nat.pow_lt_pow_right (by omega) (by omega)
    have hb : Go.bits .xor .u8 ((bytesOf s)[(a / 8).toNat % s.size]?.getD 0) ((2 ^ (a.tmod 8).toNat : Nat) : Int) = ((s.data.toList[(a / 8).toNat % s.size].toNat ^^^ 2 ^ (a.tmod 8).toNat : Nat) : Int) := by
      rw [hv, Go.u8_xor_nat _ _ hx hp]
    have hsum := sum_f (strOfNums ((bytesOf s).set ((a / 8).toNat % s.size) (Go.bits .xor .u8 ((bytesOf s)[(a / 8).toNat % s.size]?.getD 0) ((2 ^ (a.tmod 8).toNat : Nat) : Int)))) (by rw [strOfNums_size, List.length_set, bytesOf_length]; omega)
    refine walk_in s a w _ ((2 ^ (a.tmod 8).toNat : Nat) : Int) _ _ hj0 hjs (by omega) (by omega) (shift_one _ hm.1 hm.2) ⟨hsum⟩ ⟨sum_f s (by omega)⟩ ?_
    rw [hb, bytes_data s _ hjs, bne_iff_ne]
    intro h
    have h' : sumN 0 (s.data.toList.set ((a / 8).toNat % s.size) (UInt8.ofNat (s.data.toList[(a / 8).toNat % s.size].toNat ^^^ 2 ^ (a.tmod 8).toNat))) = sumN 0 s.data.toList := by omega
    unfold sumN at h'
    exact steps_one _ _ hjl _ (flipped _ _ (by omega)) _ (xor_lt MN_lt (by omega)) (xor_inj_right h')

end Go.Proofs.Ytfkfmnffcnfehaa.FlipsWalk
