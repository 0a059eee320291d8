/-
The order of float64 by their bits; what the whole part and a valid quotient of two is. Plain Lean over Ieee, no program.
-/
import Derived.WalkLawsBesides
namespace Go.Proofs.Ytepmbagflbkooaa.FloatLaw
open Go Ieee

def neg (b : Nat) : Bool := b / 9223372036854775808 % 2 == 1
def rung (b : Nat) : Nat := b % 9223372036854775808
def isnan (b : Nat) : Bool := decide (9218868437227405312 < rung b)
def sv (b : Nat) : Int := if neg b then -(rung b : Int) else (rung b : Int)

def mag (r : Nat) : Nat := if r < 4503599627370496 then r else (4503599627370496 + r % 4503599627370496) * 2 ^ (r / 4503599627370496 - 1)

theorem mag_succ (r : Nat) : mag r < mag (r + 1) := by
  unfold mag
  by_cases h1 : r + 1 < 4503599627370496
  · rw [if_pos (by omega), if_pos h1]; omega
  · by_cases h2 : r < 4503599627370496
    · rw [if_pos h2, if_neg h1]
      have e : r + 1 = 4503599627370496 := by omega
      rw [e]; simp; omega
    · rw [if_neg h2, if_neg h1]
      by_cases h3 : r % 4503599627370496 + 1 < 4503599627370496
      · have e1 : (r + 1) % 4503599627370496 = r % 4503599627370496 + 1 := by omega
        have e2 : (r + 1) / 4503599627370496 = r / 4503599627370496 := by omega
        rw [e1, e2]
        exact Nat.mul_lt_mul_of_pos_right (by omega) (Nat.two_pow_pos _)
      · have e1 : (r + 1) % 4503599627370496 = 0 := by omega
        have e2 : (r + 1) / 4503599627370496 - 1 = (r / 4503599627370496 - 1) + 1 := by omega
        rw [e1, e2, Nat.pow_succ, Nat.mul_comm (2 ^ _) 2, ← Nat.mul_assoc]
        exact Nat.mul_lt_mul_of_pos_right (by omega) (Nat.two_pow_pos _)

theorem mag_add (r k : Nat) : mag r < mag (r + k + 1) := by
  induction k with
  | zero => exact mag_succ r
  | succ k ih => exact Nat.lt_trans ih (mag_succ _)

theorem mag_lt {r s : Nat} (h : r < s) : mag r < mag s := by
  obtain ⟨k, rfl⟩ : ∃ k, s = r + k + 1 := ⟨s - r - 1, by omega⟩
  exact mag_add r k

theorem mag_lt_iff (r s : Nat) : mag r < mag s ↔ r < s := by
  constructor
  · intro h
    rcases Nat.lt_trichotomy r s with h1 | h1 | h1
    · exact h1
    · subst h1; omega
    · have := mag_lt h1; omega
  · exact mag_lt

theorem mag_zero : mag 0 = 0 := rfl

theorem read_fin {b : Nat} (h : rung b < 9218868437227405312) :
    ∃ m i, double.read b = .number (neg b) m i ∧ -1074 ≤ i ∧ m * 2 ^ (i + 1074).toNat = mag (rung b) ∧ (rung b < 4503599627370496 → m = rung b ∧ i = -1074) ∧
      (¬ rung b < 4503599627370496 → m = 4503599627370496 + rung b % 4503599627370496 ∧ i = -1074 + ((rung b / 4503599627370496 - 1 : Nat) : Int)) := by
  have e : double.read b = (if rung b < 4503599627370496 then Datum.number (neg b) (rung b) (-1074) else if rung b < 9218868437227405312 then .number (neg b) (4503599627370496 + rung b % 4503599627370496) (-1074 + ((rung b / 4503599627370496 - 1 : Nat) : Int))
      else if rung b = 9218868437227405312 then .infinity (neg b) else .nan (neg b) (rung b - 9218868437227405312)) := rfl
  rw [e]
  by_cases h1 : rung b < 4503599627370496
  · rw [if_pos h1]
    exact ⟨_, _, rfl, by omega, by simp [mag, h1], fun _ => ⟨rfl, rfl⟩, fun h => absurd h1 h⟩
  · rw [if_neg h1, if_pos h]
    refine ⟨_, _, rfl, by omega, ?_, fun h => absurd h h1, fun _ => ⟨rfl, rfl⟩⟩
    rw [mag, if_neg h1]
    congr 2
    omega

theorem read_inf {b : Nat} (h : rung b = 9218868437227405312) : double.read b = .infinity (neg b) := by
  have e : double.read b = (if rung b < 4503599627370496 then Datum.number (neg b) (rung b) (-1074) else if rung b < 9218868437227405312 then .number (neg b) (4503599627370496 + rung b % 4503599627370496) (-1074 + ((rung b / 4503599627370496 - 1 : Nat) : Int))
      else if rung b = 9218868437227405312 then .infinity (neg b) else .nan (neg b) (rung b - 9218868437227405312)) := rfl
  rw [e, if_neg (by omega), if_neg (by omega), if_pos h]

theorem read_nan {b : Nat} (h : isnan b = true) : double.read b = .nan (neg b) (rung b - 9218868437227405312) := by
  have h' : 9218868437227405312 < rung b := by simpa [isnan] using h
  have e : double.read b = (if rung b < 4503599627370496 then Datum.number (neg b) (rung b) (-1074) else if rung b < 9218868437227405312 then .number (neg b) (4503599627370496 + rung b % 4503599627370496) (-1074 + ((rung b / 4503599627370496 - 1 : Nat) : Int))
      else if rung b = 9218868437227405312 then .infinity (neg b) else .nan (neg b) (rung b - 9218868437227405312)) := rfl
  rw [e, if_neg (by omega), if_neg (by omega), if_neg (by omega)]

theorem order_nan_l {a b : Nat} (h : isnan a = true) : double.order a b = none := by
  unfold Format.order; rw [read_nan h]; simp [Datum.order]
theorem order_nan_r {a b : Nat} (h : isnan b = true) : double.order a b = none := by
  unfold Format.order; rw [read_nan h]; cases double.read a <;> simp [Datum.order]

theorem signed_eq (s : Bool) (m k : Nat) : signed s m k = if s then -((m * 2 ^ k : Nat) : Int) else ((m * 2 ^ k : Nat) : Int) := by
  unfold signed; rw [Nat.shiftLeft_eq]

theorem cmp_eq {a b c d : Int} (h1 : a < b ↔ c < d) (h2 : a = b ↔ c = d) : compare a b = compare c d := by
  show compareOfLessAndEq a b = compareOfLessAndEq c d
  unfold compareOfLessAndEq
  simp only [h1, h2]

theorem order_eq {a b : Nat} (ha : isnan a = false) (hb : isnan b = false) : double.order a b = some (compare (sv a) (sv b)) := by
  have ha' : rung a ≤ 9218868437227405312 := by simpa [isnan] using ha
  have hb' : rung b ≤ 9218868437227405312 := by simpa [isnan] using hb
  unfold Format.order
  by_cases h1 : rung a = 9218868437227405312
  · rw [read_inf h1]
    by_cases h2 : rung b = 9218868437227405312
    · rw [read_inf h2]
      simp only [Datum.order, Option.some.injEq, sv, h1, h2]
      cases neg a <;> cases neg b <;> rfl
    · obtain ⟨n, j, e, -⟩ := read_fin (b := b) (by omega)
      rw [e]
      simp only [Datum.order, Option.some.injEq, sv, h1]
      cases neg a <;> cases neg b <;> simp <;> symm <;> first | (rw [Int.compare_eq_lt]; omega) | (rw [Int.compare_eq_gt]; omega)
  · obtain ⟨m, i, e, hi, hm, -⟩ := read_fin (b := a) (by omega)
    rw [e]
    by_cases h2 : rung b = 9218868437227405312
    · rw [read_inf h2]
      simp only [Datum.order, Option.some.injEq, sv, h2]
      cases neg a <;> cases neg b <;> simp <;> symm <;> first | (rw [Int.compare_eq_lt]; omega) | (rw [Int.compare_eq_gt]; omega)
    · obtain ⟨n, j, e, hj, hn, -⟩ := read_fin (b := b) (by omega)
      rw [e]
      simp only [Datum.order, Option.some.injEq, signed_eq]
      have k1 : m * 2 ^ (i - min i j).toNat * 2 ^ (min i j + 1074).toNat = mag (rung a) := by
        rw [← hm, Nat.mul_assoc, ← Nat.pow_add]; congr 2; omega
      have k2 : n * 2 ^ (j - min i j).toNat * 2 ^ (min i j + 1074).toNat = mag (rung b) := by
        rw [← hn, Nat.mul_assoc, ← Nat.pow_add]; congr 2; omega
      generalize m * 2 ^ (i - min i j).toNat = x at *
      generalize n * 2 ^ (j - min i j).toNat = y at *
      have hp := Nat.two_pow_pos (min i j + 1074).toNat
      have l1 : x < y ↔ rung a < rung b := by
        rw [← mag_lt_iff (rung a), ← k1, ← k2]; exact (Nat.mul_lt_mul_right hp).symm
      have l2 : y < x ↔ rung b < rung a := by
        rw [← mag_lt_iff (rung b), ← k1, ← k2]; exact (Nat.mul_lt_mul_right hp).symm
      have l3 : 0 < x ↔ 0 < rung a := by
        rw [← mag_lt_iff 0 (rung a), ← k1, mag_zero]; exact ⟨fun h => Nat.mul_pos h hp, fun h => Nat.pos_of_mul_pos_right h⟩
      have l4 : 0 < y ↔ 0 < rung b := by
        rw [← mag_lt_iff 0 (rung b), ← k2, mag_zero]; exact ⟨fun h => Nat.mul_pos h hp, fun h => Nat.pos_of_mul_pos_right h⟩
      apply cmp_eq
      · unfold sv; cases neg a <;> cases neg b <;> simp <;> omega
      · unfold sv; cases neg a <;> cases neg b <;> simp <;> omega

/-- '==', '<', '>' on floats, by their bits. -/
theorem eq_true (a b : Nat) : (double.order a b == some .eq) = (!isnan a && !isnan b && decide (sv a = sv b)) := by
  cases ha : isnan a
  · cases hb : isnan b
    · rw [order_eq ha hb]
      by_cases h : sv a = sv b
      · simp [h]
      · have : compare (sv a) (sv b) ≠ .eq := by rw [ne_eq, Int.compare_eq_eq]; exact h
        simp [h, this]
    · rw [order_nan_r hb]; simp
  · rw [order_nan_l ha]; simp

theorem ne_true (a b : Nat) : (double.order a b != some .eq) = !(!isnan a && !isnan b && decide (sv a = sv b)) := by
  rw [← eq_true]; rfl

theorem lt_true (a b : Nat) : (double.order a b == some .lt) = (!isnan a && !isnan b && decide (sv a < sv b)) := by
  cases ha : isnan a
  · cases hb : isnan b
    · rw [order_eq ha hb]
      by_cases h : sv a < sv b
      · have : compare (sv a) (sv b) = .lt := by rw [Int.compare_eq_lt]; exact h
        simp [h, this]
      · have : compare (sv a) (sv b) ≠ .lt := by rw [ne_eq, Int.compare_eq_lt]; exact h
        simp [h, this]
    · rw [order_nan_r hb]; simp
  · rw [order_nan_l ha]; simp

theorem gt_true (a b : Nat) : (double.order a b == some .gt) = (!isnan a && !isnan b && decide (sv b < sv a)) := by
  cases ha : isnan a
  · cases hb : isnan b
    · rw [order_eq ha hb]
      by_cases h : sv b < sv a
      · have : compare (sv a) (sv b) = .gt := by rw [Int.compare_eq_gt]; exact h
        simp [h, this]
      · have : compare (sv a) (sv b) ≠ .gt := by rw [ne_eq, Int.compare_eq_gt]; exact h
        simp [h, this]
    · rw [order_nan_r hb]; simp
  · rw [order_nan_l ha]; simp

theorem ge_true (a b : Nat) : (double.order a b == some .gt || double.order a b == some .eq) = (!isnan a && !isnan b && decide (sv b ≤ sv a)) := by
  rw [gt_true, eq_true]
  cases isnan a <;> cases isnan b <;> simp
  rw [← Bool.decide_or]; apply decide_eq_decide.2; omega

/-! ### the whole part -/
theorem cut_zero (s : Bool) (n d : Nat) : Toward.zero.cut s n d = n / 2 ^ d := by
  unfold Toward.cut
  simp only [Nat.shiftLeft_eq, Nat.one_mul, Bool.toNat_false, Nat.add_zero]
  by_cases h : d ≤ n.log2 + 2
  · rw [Nat.min_eq_left h]
  · rw [Nat.min_eq_right (by omega)]
    have h1 : n < 2 ^ (n.log2 + 1) := Nat.lt_log2_self
    have h2 : 2 ^ (n.log2 + 1) ≤ 2 ^ (n.log2 + 2) := Nat.pow_le_pow_right (by omega) (by omega)
    have h3 : 2 ^ (n.log2 + 2) ≤ 2 ^ d := Nat.pow_le_pow_right (by omega) (by omega)
    rw [Nat.div_eq_of_lt (by omega), Nat.div_eq_of_lt (by omega)]

theorem toInt_number (s : Bool) (m : Nat) (i : Int) : (Datum.number s m i).toInt .zero = some (if s then -((m * 2 ^ i.toNat / 2 ^ (-i).toNat : Nat) : Int) else ((m * 2 ^ i.toNat / 2 ^ (-i).toNat : Nat) : Int)) := by
  simp only [Datum.toInt, Datum.integral, signed_eq, cut_zero, Nat.shiftLeft_eq, Nat.pow_zero, Nat.mul_one]

/-! ### quotients and differences -/
theorem rung_word (s : Bool) {r : Nat} (h : r ≤ 9218868437227405312) : rung (double.word s r) = r := by
  have e : double.word s r = if s then 9223372036854775808 + r else r := rfl
  rw [e]; unfold rung; split <;> omega

theorem isnan_word (s : Bool) {r : Nat} (h : r ≤ 9218868437227405312) : isnan (double.word s r) = false := by
  unfold isnan; rw [rung_word s h]; simp; omega

theorem isnan_write_number (s : Bool) (m : Nat) (i : Int) : isnan (double.write (.number s m i)) = false := by
  unfold Format.write Format.nearest
  dsimp only
  split
  · exact isnan_word s (by omega)
  · refine isnan_word s ?_
    have e : double.infRung = 9218868437227405312 := rfl
    rw [e]; exact Nat.min_le_right ..

theorem isnan_write_infinity (s : Bool) : isnan (double.write (.infinity s)) = false := by
  unfold Format.write
  exact isnan_word s (by decide)

theorem read_zero {b : Nat} (h : sv b = 0) : double.read b = .number (neg b) 0 (-1074) := by
  have h0 : rung b = 0 := by unfold sv at h; split at h <;> omega
  obtain ⟨m, i, e, -, -, h1, -⟩ := read_fin (b := b) (by omega)
  obtain ⟨rfl, rfl⟩ := h1 (by omega)
  rw [e, h0]

/-- A quotient that is valid. -/
theorem div_some {a b : Nat} (ha : isnan a = false) (hb : isnan b = false) (h1 : ¬ (rung a = 9218868437227405312 ∧ rung b = 9218868437227405312)) (h2 : ¬ (sv a = 0 ∧ sv b = 0)) :
    ∃ r, double.div a b = some r ∧ isnan r = false ∧ r < 2 ^ 64 := by
  have ha' : rung a ≤ 9218868437227405312 := by simpa [isnan] using ha
  have hb' : rung b ≤ 9218868437227405312 := by simpa [isnan] using hb
  have wf : ∀ r, double.div a b = some r → r < 2 ^ 64 := fun r h => double.div_lt h
  suffices ∃ r, double.div a b = some r ∧ isnan r = false by
    obtain ⟨r, h, h'⟩ := this; exact ⟨r, h, h', wf r h⟩
  unfold Format.div
  by_cases k1 : rung a = 9218868437227405312
  · rw [read_inf k1]
    obtain ⟨n, j, e, -⟩ := read_fin (b := b) (by omega)
    rw [e]
    exact ⟨_, rfl, isnan_write_infinity _⟩
  · obtain ⟨m, i, e, hi, hm, z1, z2⟩ := read_fin (b := a) (by omega)
    rw [e]
    by_cases k2 : rung b = 9218868437227405312
    · rw [read_inf k2]
      exact ⟨_, rfl, isnan_write_number ..⟩
    · obtain ⟨n, j, e', hj, hn, y1, y2⟩ := read_fin (b := b) (by omega)
      rw [e']
      simp only [Datum.quotient]
      by_cases n0 : n = 0
      · rw [if_pos n0]
        have m0 : m ≠ 0 := by
          intro m0
          apply h2
          have ra : rung a = 0 := by
            by_cases c : rung a < 4503599627370496
            · have := z1 c; omega
            · have := z2 c; omega
          have rb : rung b = 0 := by
            by_cases c : rung b < 4503599627370496
            · have := y1 c; omega
            · have := y2 c; omega
          constructor
          · unfold sv; rw [ra]; simp
          · unfold sv; rw [rb]; simp
        rw [if_neg m0]
        exact ⟨_, rfl, isnan_write_infinity _⟩
      · rw [if_neg n0]
        exact ⟨_, rfl, isnan_write_number ..⟩

/-- x - x of a number is 0; of an infinity it is not valid. -/
theorem sub_self_fin {b : Nat} (h : rung b < 9218868437227405312) : double.sub b b = some 0 := by
  obtain ⟨m, i, e, -⟩ := read_fin h
  unfold Format.sub
  rw [e]
  simp only [Datum.opposite, Datum.sum, signed_eq, Option.map_some, Option.some.injEq]
  cases neg b <;> simp [Int.add_right_neg, Int.add_left_neg] <;> rfl

theorem sub_self_inf {b : Nat} (h : rung b = 9218868437227405312) : double.sub b b = none := by
  unfold Format.sub
  rw [read_inf h]
  cases neg b <;> simp [Datum.opposite, Datum.sum]

theorem div_inf_inf {a b : Nat} (ha : rung a = 9218868437227405312) (hb : rung b = 9218868437227405312) : double.div a b = none := by
  unfold Format.div
  rw [read_inf ha, read_inf hb]; rfl

theorem cut_nan (x y t : Nat) : isnan ((Question.nanBits .f64 x y).cut t) = true := by
  have h : 9218868437227405312 < rung ((Question.nanBits .f64 x y).cut t) := by
    simp only [Question.cut, rung]
    have h1 : t % 2 < 2 := by omega
    have h2 : t / 2 % (2 ^ 52 - 1) < 4503599627370495 := by omega
    generalize t % 2 = s at *
    generalize t / 2 % (2 ^ 52 - 1) = u at *
    omega
  exact decide_eq_true h
theorem cut_lt (x y t : Nat) : (Question.nanBits .f64 x y).cut t < 2 ^ 64 := by
  simp only [Question.cut]
  omega
end Go.Proofs.Ytepmbagflbkooaa.FloatLaw
