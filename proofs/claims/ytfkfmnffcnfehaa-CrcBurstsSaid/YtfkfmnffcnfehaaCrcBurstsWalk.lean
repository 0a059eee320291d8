/- The walk of the law CrcBursts: where four bytes from some place on are turned by a number that isn't 0, the checksum is another; the call returns true for every input. No condition. -/
import Derived.Test.YtfkfmnffcnfehaaCrcFlipsWalk
import Derived.BigRegion
import Derived.Deep.RegionLaw
namespace Go.Proofs.Ytfkfmnffcnfehaa.BurstsWalk
open Go.RowKit Go.Proofs.Ytfkfmnffcnfehaa.PCrc Go.Proofs.YtfkfmnffcnfehaaW.PrintWords Go.Proofs.YtfkfmnffcnfehaaW.PrintLast Go.Proofs.YtfkfmnffcnfehaaW.PrintMore Go.Proofs.Ytfkfmnffcnfehaa.Given Go.Proofs.Ytfkfmnffcnfehaa.Crc Go.Proofs.Ytfkfmnffcnfehaa.CrcFacts Go.Proofs.Ytfkfmnffcnfehaa.BytesWords Go.Proofs.Ytfkfmnffcnfehaa.FlipsWalk

/-- The byte that turns byte i. -/
def tb (t : Int) : Nat → Int
  | 0 => t % 256
  | 1 => t / 256 % 256
  | 2 => t / 65536 % 256
  | _ => t / 16777216 % 256
/-- The bytes behind i rounds. -/
def X (s : ByteArray) (k : Nat) (t : Int) : Nat → List Int
  | 0 => bytesOf s
  | i + 1 => (X s k t i).set (k + i) (Go.bits .xor .u8 ((X s k t i)[k + i]?.getD 0) (tb t i))

def Holds (wr : World) (g n : Nat) (xs : List Int) : Prop := ReadsInt wr .u8 (some ⟨g, 0, none⟩) n xs ∧ ∀ j, j < n → wr.frozen? ⟨g, j, none⟩ = false
theorem holds_set {W : World} {g n : Nat} {xs : List Int} (h : Holds W g n xs) (j : Nat) (x : Int) : Holds (W.setCell ⟨g, j, none⟩ (.int .u8 x)) g n (xs.set j x) :=
  ⟨bytes_set h.1 j x, fun i hi => by rw [World.frozen?_setCell]; exact h.2 i hi⟩

set_option maxHeartbeats 800000 in
set_option maxRecDepth 100000 in
theorem walk_in (s : ByteArray) (a t : Int) (w : World) (k : Nat) (x y : Int) (hj : (wrap64 a).tmod ((s.size : Int) - 3) = (k : Int)) (hks : k + 4 ≤ s.size) (hs1 : s.size ≤ 2000) (ht : (t == 0) = false)
    (hx : Aside0 (crc_Sum.f (strOfNums (X s k t 4)) = some x)) (hy : Aside0 (crc_Sum.f s = some y)) (hne : (x != y) = true) :
    Calls Try.prog 10 #[.string s, .int .u16 a, .int .u32 t] w fun e w' => e = .returned (.bool true) ∧ Below w.heap.size w w' := by
  have kb := fun W => print_bytes (P := Try.prog) 9 40 5 Try.underlying9 Try.underlying40 Try.underlying5 s W
  have z0 : decide ((s.size : Int) < 4) = false := decide_eq_false (by omega)
  have z4 : decide (s.size < 4) = false := decide_eq_false (by omega)
  have z1 : decide (2000 < (s.size : Int)) = false := decide_eq_false (by omega)
  have z2 : decide (2000 < s.size) = false := decide_eq_false (by omega)
  go_enter Try.func10, Try.ntmps10
  go_wp2_with fail
  refine (awake_calls _).mono ?_
  rintro e w1 ⟨rfl, hb1⟩
  go_wp2_with fail
  go_loopw [9] (fun v wr => ∃ i : Nat, i ≤ 4 ∧ v = .int .i64 i ∧ Holds wr w1.heap.size s.size (X s k t i) ∧ Below w.heap.size w wr) (fun v _ => 4 - (intOf v).toNat)
  case atStart => exact ⟨0, by omega, rfl, ⟨bytes_reads w1 5 s (by omega), frozen_at w1 5 s⟩, bytes_below hb1 hb1.size _ _⟩
  case round =>
    obtain ⟨i, hi, rfl, hh, hbel⟩ := hrel
    by_cases hlt : i < 4
    · have hc := cell_at hh.1 (k + i) (by omega)
      have hf := hh.2 (k + i) (by omega)
      have hi4 : i = 0 ∨ i = 1 ∨ i = 2 ∨ i = 3 := by omega
      rcases hi4 with rfl | rfl | rfl | rfl
      · simp only [Nat.add_zero] at hc hf
        rw [show (((0 : Nat)) : Int) = 0 from rfl]
        go_wp2_with fail
        go_region
        go_wp2_with fail
        exact ⟨⟨1, by omega, rfl, holds_set hh (k + 0) _, pw_below_drewN (below_set hbel hb1.size) 1⟩, by simp [intOf]⟩
      · rw [show (((1 : Nat)) : Int) = 1 from rfl]
        go_wp2_with fail
        have q1 : IntKind.i64.wrap ((k : Int) + 1) = (k : Int) + 1 := by rw [IntKind.wrap_i64]; omega
        have q2 : ((k : Int) + 1).toNat = k + 1 := by omega
        go_region
        go_wp2_with fail
        exact ⟨⟨2, by omega, rfl, holds_set hh (k + 1) _, pw_below_drewN (below_set hbel hb1.size) 1⟩, by simp [intOf]⟩
      · rw [show (((2 : Nat)) : Int) = 2 from rfl]
        go_wp2_with fail
        have q1 : IntKind.i64.wrap ((k : Int) + 2) = (k : Int) + 2 := by rw [IntKind.wrap_i64]; omega
        have q2 : ((k : Int) + 2).toNat = k + 2 := by omega
        go_region
        go_wp2_with fail
        exact ⟨⟨3, by omega, rfl, holds_set hh (k + 2) _, pw_below_drewN (below_set hbel hb1.size) 1⟩, by simp [intOf]⟩
      · rw [show (((3 : Nat)) : Int) = 3 from rfl]
        go_wp2_with fail
        have q1 : IntKind.i64.wrap ((k : Int) + 3) = (k : Int) + 3 := by rw [IntKind.wrap_i64]; omega
        have q2 : ((k : Int) + 3).toNat = k + 3 := by omega
        go_region
        go_wp2_with fail
        exact ⟨⟨4, by omega, rfl, holds_set hh (k + 3) _, pw_below_drewN (below_set hbel hb1.size) 1⟩, by simp [intOf]⟩
    · obtain rfl : i = 4 := by omega
      have kc := string_of_reads (c := grownCap w1 s.size 0 5) Try.underlying40 Try.underlying5 Try.underlying9 hh.1
      go_wp2_with fail
      refine (crc_Sum.calls _ x _ hx.out).mono ?_
      rintro e w2 ⟨rfl, hb2⟩
      go_wp2_with fail
      refine (crc_Sum.calls s y _ hy.out).mono ?_
      rintro e w3 ⟨rfl, hb3⟩
      go_wp2_with fail
      go_ret
      exact ⟨rfl, below_then (below_then hbel hbel.size hb2) (below_then hbel hbel.size hb2).size hb3⟩

theorem shift_xor (a b n : Nat) : (a ^^^ b) * 2 ^ n = (a * 2 ^ n) ^^^ (b * 2 ^ n) := by
  have h := Nat.shiftLeft_xor_distrib (a := a) (b := b) (i := n)
  simpa [Nat.shiftLeft_eq] using h
def le4 (a b c d : Nat) : Nat := a ^^^ b * 2 ^ 8 ^^^ c * 2 ^ 16 ^^^ d * 2 ^ 24
theorem iter_in (n w c : Nat) : iterN n w ^^^ c = iterN n (w ^^^ c * 2 ^ n) := by rw [iterN_xor, iterN_shift]
theorem steps_four (w : Nat) (a b c d : UInt8) : stepsN w [a, b, c, d] = iterN 32 (w ^^^ le4 a.toNat b.toNat c.toNat d.toNat) := by
  show iterN 8 (iterN 8 (iterN 8 (iterN 8 (w ^^^ a.toNat) ^^^ b.toNat) ^^^ c.toNat) ^^^ d.toNat) = _
  rw [iter_in 8 _ b.toNat, ← iterN_add, iter_in 16 _ c.toNat, ← iterN_add, iter_in 24 _ d.toNat, ← iterN_add]
  unfold le4
  simp only [Nat.xor_assoc]
theorem le4_lt {a b c d : Nat} (ha : a < 256) (hb : b < 256) (hc : c < 256) (hd : d < 256) : le4 a b c d < 4294967296 := by
  unfold le4
  exact xor_lt (xor_lt (xor_lt (by omega) (by omega)) (by omega)) (by omega)
theorem xor8 (a b c d x y z u : Nat) : (a ^^^ x) ^^^ (b ^^^ y) ^^^ (c ^^^ z) ^^^ (d ^^^ u) = (a ^^^ b ^^^ c ^^^ d) ^^^ (x ^^^ y ^^^ z ^^^ u) := by
  apply Nat.eq_of_testBit_eq
  intro i
  simp only [Nat.testBit_xor]
  generalize a.testBit i = a, b.testBit i = b, c.testBit i = c, d.testBit i = d, x.testBit i = x, y.testBit i = y, z.testBit i = z, u.testBit i = u
  cases a <;> cases b <;> cases c <;> cases d <;> cases x <;> cases y <;> cases z <;> cases u <;> rfl
theorem le4_xor (a b c d x y z u : Nat) : le4 (a ^^^ x) (b ^^^ y) (c ^^^ z) (d ^^^ u) = le4 a b c d ^^^ le4 x y z u := by
  unfold le4
  rw [shift_xor b y, shift_xor c z, shift_xor d u]
  exact xor8 a (b * 2 ^ 8) (c * 2 ^ 16) (d * 2 ^ 24) x (y * 2 ^ 8) (z * 2 ^ 16) (u * 2 ^ 24)
theorem turn4 (A B C D : Nat) : D ^^^ C ^^^ B ^^^ A = (A ^^^ B) ^^^ C ^^^ D := by
  rw [Nat.xor_comm (A ^^^ B ^^^ C) D, Nat.xor_comm (A ^^^ B) C, Nat.xor_comm A B]
  simp only [Nat.xor_assoc]
theorem le4_digits (t : Nat) (ht : t < 4294967296) : le4 (t % 256) (t / 256 % 256) (t / 65536 % 256) (t / 16777216 % 256) = t := by
  have h1 := split_byte t
  have h2 := split_byte (t / 256)
  have h3 := split_byte (t / 65536)
  rw [show t / 256 / 256 = t / 65536 from by omega] at h2
  rw [show t / 65536 / 256 = t / 16777216 from by omega] at h3
  have e4 : t / 16777216 % 256 = t / 16777216 := by omega
  have e3 : t / 65536 * 2 ^ 16 = t / 16777216 * 2 ^ 24 ^^^ (t / 65536 % 256) * 2 ^ 16 := by
    have := congrArg (· * 2 ^ 16) h3
    simp only [shift_xor, Nat.mul_assoc, ← Nat.pow_add] at this
    exact this
  have e2 : t / 256 * 2 ^ 8 = t / 65536 * 2 ^ 16 ^^^ (t / 256 % 256) * 2 ^ 8 := by
    have := congrArg (· * 2 ^ 8) h2
    simp only [shift_xor, Nat.mul_assoc, ← Nat.pow_add] at this
    exact this
  unfold le4
  rw [e4, turn4, ← e3, ← e2]
  exact h1.symm

/-- Four bytes turned: another register behind them. -/
theorem turned (w : Nat) (hw : w < 4294967296) (p q : List UInt8) (a b c d a' b' c' d' : UInt8) (t : Nat) (ht : t < 4294967296) (h0 : t ≠ 0)
    (ea : a'.toNat = a.toNat ^^^ (t % 256)) (eb : b'.toNat = b.toNat ^^^ (t / 256 % 256)) (ec : c'.toNat = c.toNat ^^^ (t / 65536 % 256)) (ed : d'.toNat = d.toNat ^^^ (t / 16777216 % 256)) :
    stepsN w (p ++ [a', b', c', d'] ++ q) ≠ stepsN w (p ++ [a, b, c, d] ++ q) := by
  intro h
  rw [stepsN_append, stepsN_append, stepsN_append, stepsN_append] at h
  have hp := stepsN_lt p hw
  have h1 := stepsN_inj q (stepsN_lt _ hp) (stepsN_lt _ hp) h
  rw [steps_four, steps_four] at h1
  have h2 := xor_inj_right (iterN_inj 32 (xor_lt hp (le4_lt (UInt8.toNat_lt _) (UInt8.toNat_lt _) (UInt8.toNat_lt _) (UInt8.toNat_lt _))) (xor_lt hp (le4_lt (UInt8.toNat_lt _) (UInt8.toNat_lt _) (UInt8.toNat_lt _) (UInt8.toNat_lt _))) h1)
  rw [ea, eb, ec, ed, le4_xor, le4_digits t ht] at h2
  have h3 := congrArg (le4 a.toNat b.toNat c.toNat d.toNat ^^^ ·) h2
  simp only [← Nat.xor_assoc, Nat.xor_self, Nat.zero_xor] at h3
  exact h0 h3

theorem four_split (l : List UInt8) (k : Nat) (h : k + 4 ≤ l.length) : ∃ a b c d, l = l.take k ++ [a, b, c, d] ++ l.drop (k + 4) := by
  refine ⟨l[k], l[k + 1], l[k + 2], l[k + 3], ?_⟩
  conv => lhs; rw [← List.take_append_drop k l]
  rw [List.append_assoc]
  congr 1
  rw [List.drop_eq_getElem_cons (by omega), List.drop_eq_getElem_cons (by omega), List.drop_eq_getElem_cons (by omega), List.drop_eq_getElem_cons (by omega)]
  rfl

theorem mem_len {α : Type} (p : List α) (q : List α) (k : Nat) (hk : p.length = k) (a b c d : α) (z : α) :
    (p ++ [a, b, c, d] ++ q).set k z = p ++ [z, b, c, d] ++ q ∧ (p ++ [a, b, c, d] ++ q).set (k + 1) z = p ++ [a, z, c, d] ++ q ∧ (p ++ [a, b, c, d] ++ q).set (k + 2) z = p ++ [a, b, z, d] ++ q ∧ (p ++ [a, b, c, d] ++ q).set (k + 3) z = p ++ [a, b, c, z] ++ q ∧
    (p ++ [a, b, c, d] ++ q)[k]? = some a ∧ (p ++ [a, b, c, d] ++ q)[k + 1]? = some b ∧ (p ++ [a, b, c, d] ++ q)[k + 2]? = some c ∧ (p ++ [a, b, c, d] ++ q)[k + 3]? = some d := by
  subst hk
  refine ⟨?_, ?_, ?_, ?_, ?_, ?_, ?_, ?_⟩ <;> simp [List.append_assoc]

theorem bytes_list (l : List UInt8) (xs : List Int) (h : xs = l.map fun b => (b.toNat : Int)) : (strOfNums xs).data.toList = l := by
  rw [strOfNums_data, h, List.map_map]
  conv => rhs; rw [← List.map_id l]
  apply List.map_congr_left
  intro x _
  simp

theorem X_turned (s : ByteArray) (k t : Nat) (hk : k + 4 ≤ s.size) (ht : t < 4294967296) (h0 : t ≠ 0) (w : Nat) (hw : w < 4294967296) :
    (X s k t 4).length = s.size ∧ stepsN w (strOfNums (X s k t 4)).data.toList ≠ stepsN w s.data.toList := by
  have hl : s.data.toList.length = s.size := data_length s
  obtain ⟨a, b, c, d, e⟩ := four_split s.data.toList k (by omega)
  have hp : (s.data.toList.take k).length = k := by rw [List.length_take]; omega
  generalize s.data.toList.take k = p at e hp
  generalize s.data.toList.drop (k + 4) = q at e
  have eb : bytesOf s = p.map (fun b => (b.toNat : Int)) ++ [(a.toNat : Int), (b.toNat : Int), (c.toNat : Int), (d.toNat : Int)] ++ q.map (fun b => (b.toNat : Int)) := by
    unfold bytesOf; rw [e]; simp
  have hb : ∀ (x : UInt8) (v : Nat), v < 256 → Go.bits .xor .u8 (x.toNat : Int) (v : Int) = (((UInt8.ofNat (x.toNat ^^^ v)).toNat : Nat) : Int) ∧ (UInt8.ofNat (x.toNat ^^^ v)).toNat = x.toNat ^^^ v := by
    intro x v hv
    have hx := UInt8.toNat_lt x
    have e1 : (UInt8.ofNat (x.toNat ^^^ v)).toNat = x.toNat ^^^ v := by rw [UInt8.toNat_ofNat']; exact Nat.mod_eq_of_lt (Nat.xor_lt_two_pow (n := 8) hx hv)
    exact ⟨by rw [e1, Go.u8_xor_nat _ _ hx hv], e1⟩
  have hpm : (p.map (fun b : UInt8 => (b.toNat : Int))).length = k := by rw [List.length_map]; exact hp
  have t0 : tb (t : Int) 0 = ((t % 256 : Nat) : Int) := by show (t : Int) % 256 = _; omega
  have t1 : tb (t : Int) 1 = ((t / 256 % 256 : Nat) : Int) := by show (t : Int) / 256 % 256 = _; omega
  have t2 : tb (t : Int) 2 = ((t / 65536 % 256 : Nat) : Int) := by show (t : Int) / 65536 % 256 = _; omega
  have t3 : tb (t : Int) 3 = ((t / 16777216 % 256 : Nat) : Int) := by show (t : Int) / 16777216 % 256 = _; omega
  obtain ⟨a1, a2⟩ := hb a (t % 256) (by omega)
  obtain ⟨b1, b2⟩ := hb b (t / 256 % 256) (by omega)
  obtain ⟨c1, c2⟩ := hb c (t / 65536 % 256) (by omega)
  obtain ⟨d1, d2⟩ := hb d (t / 16777216 % 256) (by omega)
  have m := fun (a b c d z : Int) => mem_len (p.map (fun b : UInt8 => (b.toNat : Int))) (q.map (fun b : UInt8 => (b.toNat : Int))) k hpm a b c d z
  have x4 : X s k t 4 = (p ++ [UInt8.ofNat (a.toNat ^^^ (t % 256)), UInt8.ofNat (b.toNat ^^^ (t / 256 % 256)), UInt8.ofNat (c.toNat ^^^ (t / 65536 % 256)), UInt8.ofNat (d.toNat ^^^ (t / 16777216 % 256))] ++ q).map fun b => (b.toNat : Int) := by
    simp only [X, Nat.add_zero]
    rw [eb, (m _ _ _ _ 0).2.2.2.2.1, Option.getD_some, t0, a1, (m _ _ _ _ _).1, (m _ _ _ _ 0).2.2.2.2.2.1, Option.getD_some, t1, b1, (m _ _ _ _ _).2.1, (m _ _ _ _ 0).2.2.2.2.2.2.1, Option.getD_some, t2, c1, (m _ _ _ _ _).2.2.1, (m _ _ _ _ 0).2.2.2.2.2.2.2, Option.getD_some, t3, d1, (m _ _ _ _ _).2.2.2.1]
    simp
  refine ⟨by rw [x4, List.length_map, ← hl, e]; simp, ?_⟩
  rw [bytes_list _ _ x4, e]
  exact turned w hw p q a b c d _ _ _ _ t ht h0 a2 b2 c2 d2

set_option maxHeartbeats 800000 in
set_option maxRecDepth 100000 in
theorem walk_out (s : ByteArray) (a t : Int) (w : World) (hs : s.size < 4 ∨ 2000 < s.size ∨ t = 0) :
    Calls Try.prog 10 #[.string s, .int .u16 a, .int .u32 t] w fun e w' => e = .returned (.bool true) ∧ Below w.heap.size w w' := by
  by_cases h1 : s.size < 4
  · have z0 : decide ((s.size : Int) < 4) = true := decide_eq_true (by omega)
    have z4 : decide (s.size < 4) = true := decide_eq_true (by omega)
    go_enter Try.func10, Try.ntmps10
    go_wp2_with fail
    refine (awake_calls _).mono ?_
    rintro e w1 ⟨rfl, hb1⟩
    go_wp2_with fail
    refine (awake_calls _).mono ?_
    rintro e w2 ⟨rfl, hb2⟩
    go_wp2_with fail
    go_ret
    exact ⟨rfl, below_then hb1 hb1.size hb2⟩
  · have z0 : decide ((s.size : Int) < 4) = false := decide_eq_false (by omega)
    have z4 : decide (s.size < 4) = false := decide_eq_false (by omega)
    by_cases h2 : 2000 < s.size
    · have z1 : decide (2000 < (s.size : Int)) = true := decide_eq_true (by omega)
      have z2 : decide (2000 < s.size) = true := decide_eq_true (by omega)
      go_enter Try.func10, Try.ntmps10
      go_wp2_with fail
      refine (awake_calls _).mono ?_
      rintro e w1 ⟨rfl, hb1⟩
      go_wp2_with fail
      refine (awake_calls _).mono ?_
      rintro e w2 ⟨rfl, hb2⟩
      go_wp2_with fail
      go_ret
      exact ⟨rfl, below_then hb1 hb1.size hb2⟩
    · have z1 : decide (2000 < (s.size : Int)) = false := decide_eq_false (by omega)
      have z2 : decide (2000 < s.size) = false := decide_eq_false (by omega)
      obtain rfl : t = 0 := by omega
      go_enter Try.func10, Try.ntmps10
      go_wp2_with fail
      refine (awake_calls _).mono ?_
      rintro e w1 ⟨rfl, hb1⟩
      go_wp2_with fail
      refine (awake_calls _).mono ?_
      rintro e w2 ⟨rfl, hb2⟩
      go_wp2_with fail
      go_ret
      exact ⟨rfl, below_then hb1 hb1.size hb2⟩

theorem walk (s : ByteArray) (a t : Int) (w : World) (_hs : s.size ≤ 140737488351232) (ha : (Lit.int .u16 a).wf = true) (ht : (Lit.int .u32 t).wf = true) :
    Calls Try.prog 10 #[.string s, .int .u16 a, .int .u32 t] w fun e w' => e = .returned (.bool true) ∧ Below w.heap.size w w' := by
  have ha : 0 ≤ a ∧ a < 65536 := by simp [Lit.wf, IntKind.min, IntKind.max, IntKind.signed, IntKind.bits] at ha; omega
  have ht := wf32 ht
  by_cases hout : s.size < 4 ∨ 2000 < s.size ∨ t = 0
  · exact walk_out s a t w hout
  · obtain ⟨n, rfl⟩ := Int.eq_ofNat_of_zero_le ht.1
    have hk : (wrap64 a).tmod ((s.size : Int) - 3) = ((a.toNat % (s.size - 3) : Nat) : Int) := by
      rw [w64 (by omega) (by omega), Int.tmod_eq_emod_of_nonneg ha.1]
      have e1 : a = (a.toNat : Int) := by omega
      have e2 : (s.size : Int) - 3 = ((s.size - 3 : Nat) : Int) := by omega
      rw [e2, e1]; simp
    have hks : a.toNat % (s.size - 3) < s.size - 3 := Nat.mod_lt _ (by omega)
    obtain ⟨x1, x2⟩ := X_turned s (a.toNat % (s.size - 3)) n (by omega) (by omega) (by omega) MN MN_lt
    have hsum := sum_f (strOfNums (X s (a.toNat % (s.size - 3)) n 4)) (by rw [strOfNums_size]; omega)
    refine walk_in s a n w _ _ _ hk (by omega) (by omega) (beq_eq_false_iff_ne.mpr (by omega)) ⟨hsum⟩ ⟨sum_f s (by omega)⟩ ?_
    rw [bne_iff_ne]
    intro h
    have h' : sumN 0 (strOfNums (X s (a.toNat % (s.size - 3)) n 4)).data.toList = sumN 0 s.data.toList := by omega
    unfold sumN at h'
    rw [Nat.xor_zero] at h'
    exact x2 (xor_inj_right h')

end Go.Proofs.Ytfkfmnffcnfehaa.BurstsWalk
