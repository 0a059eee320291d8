/- The plain laws of the checksum: eight steps of one bit are what the table's step does; the step is linear over exclusive or, and no two registers have one step. No Go in it. -/
import Derived.Test.YthcbgoldkoobdaaCrcParts
namespace Go.Proofs.Ythcbgoldkoobdaa.Crc
open Go.RowKit Go.Proofs.YthcbgoldkoobdaaW.PrintWords

def PN : Nat := 3988292384
def stepN (w : Nat) : Nat := (w / 2) ^^^ (if w % 2 = 1 then PN else 0)
def iterN : Nat → Nat → Nat
  | 0, w => w
  | n + 1, w => stepN (iterN n w)

theorem xor_div2 (a b : Nat) : (a ^^^ b) / 2 = (a / 2) ^^^ (b / 2) := by
  have h := Nat.shiftRight_xor_distrib (a := a) (b := b) (i := 1)
  simpa [Nat.shiftRight_eq_div_pow] using h
theorem xor_mod2 (a b : Nat) : (a ^^^ b) % 2 = 1 ↔ ¬ (a % 2 = b % 2) := by
  have h := Nat.xor_mod_two_eq_one (a := a) (b := b)
  omega
theorem xor_lt {a b : Nat} (ha : a < 4294967296) (hb : b < 4294967296) : a ^^^ b < 4294967296 := Nat.xor_lt_two_pow (n := 32) ha hb
theorem stepN_lt {w : Nat} (h : w < 4294967296) : stepN w < 4294967296 := by
  unfold stepN
  apply xor_lt (by omega)
  split <;> simp [PN]
theorem iterN_lt (n : Nat) {w : Nat} (h : w < 4294967296) : iterN n w < 4294967296 := by
  induction n with
  | zero => exact h
  | succ n ih => exact stepN_lt ih
theorem stepN_xor (a b : Nat) : stepN (a ^^^ b) = stepN a ^^^ stepN b := by
  unfold stepN
  rw [xor_div2]
  have h := xor_mod2 a b
  by_cases ha : a % 2 = 1 <;> by_cases hb : b % 2 = 1
  · rw [if_neg (by rw [h]; omega), if_pos ha, if_pos hb]
    simp only [Nat.xor_assoc, Nat.xor_zero]
    rw [← Nat.xor_assoc PN, Nat.xor_comm PN (b / 2), Nat.xor_assoc, Nat.xor_self, Nat.xor_zero]
  · rw [if_pos (by rw [h]; omega), if_pos ha, if_neg hb]
    simp only [Nat.xor_zero, Nat.xor_assoc]
    rw [Nat.xor_comm PN (b / 2)]
  · rw [if_pos (by rw [h]; omega), if_neg ha, if_pos hb]
    simp only [Nat.xor_zero, Nat.xor_assoc]
  · rw [if_neg (by rw [h]; omega), if_neg ha, if_neg hb]
    simp only [Nat.xor_zero]
theorem iterN_xor (n a b : Nat) : iterN n (a ^^^ b) = iterN n a ^^^ iterN n b := by
  induction n with
  | zero => rfl
  | succ n ih => show stepN _ = _; rw [ih, stepN_xor]; rfl
theorem iterN_add (n m w : Nat) : iterN (n + m) w = iterN n (iterN m w) := by
  induction n with
  | zero => simp [iterN]
  | succ n ih => rw [Nat.succ_add]; show stepN _ = stepN _; rw [ih]
theorem iterN_shift (n x : Nat) : iterN n (x * 2 ^ n) = x := by
  induction n generalizing x with
  | zero => simp [iterN]
  | succ n ih =>
    show stepN (iterN n (x * 2 ^ (n + 1))) = x
    rw [show x * 2 ^ (n + 1) = (x * 2) * 2 ^ n from by rw [Nat.pow_succ, Nat.mul_assoc, Nat.mul_comm (2 ^ n) 2], ih]
    unfold stepN
    rw [if_neg (by omega), Nat.xor_zero]; omega
theorem iterN_zero (n : Nat) : iterN n 0 = 0 := by simpa using iterN_shift n 0

/-- A word is its upper part and its lowest byte. -/
theorem split_byte (w : Nat) : w = (w / 256 * 2 ^ 8) ^^^ (w % 256) := by
  have h : (w / 256 * 2 ^ 8) ^^^ (w % 256) = w / 256 * 2 ^ 8 + w % 256 := by
    have := Nat.two_pow_add_eq_or_of_lt (i := 8) (b := w % 256) (by omega) (w / 256)
    have hx : (2 ^ 8 * (w / 256)) ^^^ (w % 256) = (2 ^ 8 * (w / 256)) ||| (w % 256) := by
      apply Nat.eq_of_testBit_eq
      intro i
      rw [Nat.testBit_xor, Nat.testBit_or, Nat.testBit_two_pow_mul]
      by_cases hi : i < 8
      · simp [show ¬ 8 ≤ i from by omega]
      · have : (w % 256).testBit i = false := Nat.testBit_lt_two_pow (Nat.lt_of_lt_of_le (show w % 256 < 2 ^ 8 by omega) (Nat.pow_le_pow_right (by omega) (by omega)))
        rw [this]; simp
    rw [Nat.mul_comm (w / 256), hx, ← this]
  omega
theorem upd_iter (w c : Nat) : (w / 256) ^^^ iterN 8 ((w % 256) ^^^ c) = iterN 8 (w ^^^ c) := by
  rw [iterN_xor, iterN_xor, ← Nat.xor_assoc]
  congr 1
  conv => rhs; rw [split_byte w, iterN_xor, iterN_shift]

/-- No two words have one step. -/
theorem stepN_inj {a b : Nat} (ha : a < 4294967296) (hb : b < 4294967296) (h : stepN a = stepN b) : a = b := by
  have h0 : stepN (a ^^^ b) = 0 := by rw [stepN_xor, h, Nat.xor_self]
  have hx := xor_lt ha hb
  have h1 : a ^^^ b = 0 := by
    unfold stepN at h0
    by_cases ho : (a ^^^ b) % 2 = 1
    · rw [if_pos ho] at h0
      have h2 : (a ^^^ b) / 2 = PN := by
        have := congrArg (· ^^^ PN) h0
        simpa [Nat.xor_assoc] using this
      unfold PN at h2; omega
    · rw [if_neg ho, Nat.xor_zero] at h0; omega
  have h2 := congrArg (· ^^^ b) h1
  simpa [Nat.xor_assoc] using h2
theorem iterN_inj (n : Nat) {a b : Nat} (ha : a < 4294967296) (hb : b < 4294967296) (h : iterN n a = iterN n b) : a = b := by
  induction n with
  | zero => exact h
  | succ n ih => exact ih (stepN_inj (iterN_lt n ha) (iterN_lt n hb) h)
theorem xor_inj_left {a b c : Nat} (h : a ^^^ c = b ^^^ c) : a = b := by
  have := congrArg (· ^^^ c) h
  simpa [Nat.xor_assoc] using this
theorem xor_inj_right {a b c : Nat} (h : c ^^^ a = c ^^^ b) : a = b := xor_inj_left (c := c) (by rw [Nat.xor_comm a, Nat.xor_comm b]; exact h)

def stepsN (w : Nat) (l : List UInt8) : Nat := l.foldl (fun w c => iterN 8 (w ^^^ c.toNat)) w
theorem byte_lt (c : UInt8) : c.toNat < 4294967296 := by have := UInt8.toNat_lt c; omega
theorem stepsN_lt (l : List UInt8) {w : Nat} (h : w < 4294967296) : stepsN w l < 4294967296 := by
  induction l generalizing w with
  | nil => exact h
  | cons c l ih => exact ih (iterN_lt 8 (xor_lt h (byte_lt c)))
theorem stepsN_append (w : Nat) (l m : List UInt8) : stepsN w (l ++ m) = stepsN (stepsN w l) m := by unfold stepsN; rw [List.foldl_append]
theorem stepsN_inj (l : List UInt8) {a b : Nat} (ha : a < 4294967296) (hb : b < 4294967296) (h : stepsN a l = stepsN b l) : a = b := by
  induction l generalizing a b with
  | nil => exact h
  | cons c l ih => exact xor_inj_left (iterN_inj 8 (xor_lt ha (byte_lt c)) (xor_lt hb (byte_lt c)) (ih (iterN_lt 8 (xor_lt ha (byte_lt c))) (iterN_lt 8 (xor_lt hb (byte_lt c))) h))

/-! The words of the walk, told in natural numbers. -/
theorem step_nat (w : Nat) (h : w < 4294967296) : step (w : Int) = (stepN w : Int) := by
  unfold step stepN
  have hand : Go.bits .and .u32 (w : Int) 1 = ((w &&& 1 : Nat) : Int) := by
    have := Go.u32_and_nat w 1 h (by omega); simpa using this
  rw [hand, Nat.and_one_is_mod]
  have hd : (w : Int) / 2 = ((w / 2 : Nat) : Int) := by omega
  by_cases hw : w % 2 = 1
  · rw [if_pos (by omega), if_pos hw, hd]
    have := Go.u32_xor_nat (w / 2) PN (by omega) (by simp [PN])
    simpa [PN] using this
  · rw [if_neg (by omega), if_neg hw, Nat.xor_zero, hd]
theorem iter_nat (n w : Nat) (h : w < 4294967296) : iter n (w : Int) = (iterN n w : Int) := by
  induction n with
  | zero => rfl
  | succ n ih => show step (iter n w) = _; rw [ih, step_nat _ (iterN_lt n h)]; rfl
theorem upd_nat (w : Nat) (c : UInt8) (h : w < 4294967296) : upd (w : Int) (c.toNat : Int) = ((iterN 8 (w ^^^ c.toNat) : Nat) : Int) := by
  have hc := UInt8.toNat_lt c
  unfold upd
  have e1 : (w : Int) % 256 = ((w % 256 : Nat) : Int) := by omega
  have e2 : (w : Int) / 256 = ((w / 256 : Nat) : Int) := by omega
  have hx : (w % 256) ^^^ c.toNat < 256 := Nat.xor_lt_two_pow (n := 8) (by omega) (by omega)
  rw [e1, e2, Go.u8_xor_nat _ _ (by omega) (by omega), Int.toNat_natCast]
  unfold tab
  rw [iter_nat 8 _ (by omega), Go.u32_xor_nat _ _ (by omega) (iterN_lt 8 (by omega)), upd_iter w c.toNat]
theorem stepsL_nat (l : List UInt8) (w : Nat) (h : w < 4294967296) : stepsL (w : Int) l = (stepsN w l : Int) := by
  induction l generalizing w with
  | nil => rfl
  | cons c l ih =>
    show stepsL (upd w c.toNat) l = _
    rw [upd_nat w c h, ih _ (iterN_lt 8 (xor_lt h (byte_lt c)))]; rfl
def MN : Nat := 4294967295
def sumN (a : Nat) (l : List UInt8) : Nat := MN ^^^ stepsN (MN ^^^ a) l
theorem MN_lt : MN < 4294967296 := by simp [MN]
theorem max_xor (w : Nat) (h : w < 4294967296) : Go.bits .xor .u32 IntKind.u32.max (w : Int) = ((MN ^^^ w : Nat) : Int) := Go.u32_xor_nat MN w MN_lt h
theorem foldl_nat (l : List ByteArray) (w : Nat) (h : w < 4294967296) : l.foldl (fun w s => stepsL w s.data.toList) (w : Int) = ((stepsN w (l.flatMap fun s => s.data.toList) : Nat) : Int) := by
  induction l generalizing w with
  | nil => rfl
  | cons s l ih =>
    rw [List.foldl_cons, stepsL_nat _ _ h, ih _ (stepsN_lt _ h), List.flatMap_cons, stepsN_append]
theorem parts_f (l : List ByteArray) (hs : ∀ s ∈ l, s.size ≤ 9223372036854775807) : Go.Proofs.Ythcbgoldkoobdaa.Given.crc_Parts.f l = some ((sumN 0 (l.flatMap fun s => s.data.toList) : Nat) : Int) := by
  unfold Go.Proofs.Ythcbgoldkoobdaa.Given.crc_Parts.f
  have e : (l.all fun s => decide (s.size ≤ 9223372036854775807)) = true := List.all_eq_true.mpr fun s h => decide_eq_true (hs s h)
  rw [if_pos e]
  have hf := foldl_nat l MN MN_lt
  have e2 : (4294967295 : Int) = (MN : Int) := rfl
  rw [e2, hf, max_xor _ (stepsN_lt _ MN_lt)]
  unfold sumN
  rw [Nat.xor_zero]

end Go.Proofs.Ythcbgoldkoobdaa.Crc
