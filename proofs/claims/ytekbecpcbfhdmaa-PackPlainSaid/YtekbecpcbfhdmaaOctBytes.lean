import Derived.Test.YtekbecpcbfhdmaaOctTake
namespace Go.Proofs.Ytekbecpcbfhdmaa.Oct
open Go.RowKit Go.Proofs.YtekbecpcbfhdmaaW.PrintWords
set_option linter.unusedVariables false
set_option linter.unusedSimpArgs false

/-- A number's bytes, the greatest first. -/
def beB : Nat → Nat → List UInt8
  | 0, _ => []
  | n + 1, v => beB n (v / 256) ++ [UInt8.ofNat (v % 256)]
theorem beB_len : ∀ n v, (beB n v).length = n
  | 0, _ => rfl
  | n + 1, v => by rw [beB, List.length_append, beB_len n]; rfl
theorem byte_mod (v : Nat) : (UInt8.ofNat (v % 256)).toNat = v % 256 := by simp
theorem beN_beB : ∀ n v, beN (beB n v) = v % 256 ^ n
  | 0, v => by simp [beB, beN, Nat.mod_one]
  | n + 1, v => by
    rw [beB, beN_snoc, beN_beB n, byte_mod, Nat.pow_succ, Nat.mul_comm (256 ^ n) 256, Nat.mod_mul]
    omega
theorem beB_front : ∀ n v, beB (n + 1) v = UInt8.ofNat (v / 256 ^ n % 256) :: beB n v
  | 0, v => by simp [beB]
  | n + 1, v => by
    rw [beB, beB_front n (v / 256), beB, Nat.div_div_eq_div_mul, Nat.pow_succ, Nat.mul_comm 256]; rfl
theorem beN_app (l m : List UInt8) : beN (l ++ m) = beN l * 256 ^ m.length + beN m := by
  induction m generalizing l with
  | nil => simp [beN]
  | cons c m ih =>
    have h1 := ih (l ++ [c])
    have h2 := ih [c]
    rw [List.append_assoc] at h1
    rw [show l ++ c :: m = l ++ ([c] ++ m) from rfl, h1, show c :: m = [c] ++ m from rfl, h2, beN_snoc]
    simp only [List.length_append, List.length_cons, List.length_nil, Nat.pow_add, Nat.pow_succ, Nat.pow_zero, Nat.one_mul, beN, List.foldl]
    rw [Nat.add_mul, Nat.mul_assoc]
    rw [show 0 * 256 + c.toNat = c.toNat from by omega]
    omega
theorem u8_of (c : UInt8) : UInt8.ofNat (c.toNat % 256) = c := by
  apply UInt8.toNat_inj.mp; simp
theorem beB_beN : ∀ (n : Nat) (l : List UInt8), l.length = n → beB n (beN l) = l := by
  intro n
  induction n with
  | zero => intro l h; cases l with | nil => rfl | cons _ _ => simp at h
  | succ n ih =>
    intro l h
    have h0 : l ≠ [] := by intro h'; rw [h'] at h; simp at h
    have hd := List.dropLast_concat_getLast h0
    generalize l.getLast h0 = c at hd
    generalize hm : l.dropLast = m at hd
    have hl : m.length = n := by rw [← hm, List.length_dropLast]; omega
    rw [← hd, beN_snoc, beB]
    have := UInt8.toNat_lt c
    rw [show (beN m * 256 + c.toNat) / 256 = beN m from by omega, ih m hl, show (beN m * 256 + c.toNat) % 256 = c.toNat % 256 from by omega, u8_of]
theorem beB_fits {n v : Nat} : beN (beB n v) = v ↔ v < 256 ^ n := by
  rw [beN_beB]
  constructor
  · intro h; rw [← h]; exact Nat.mod_lt _ (Nat.pow_pos (by omega))
  · exact Nat.mod_eq_of_lt

/-- Bytes as a string. -/
def arr (l : List UInt8) : ByteArray := ⟨l.toArray⟩
theorem arr_size (l : List UInt8) : (arr l).size = l.length := by simp [arr, ByteArray.size]
theorem arr_list (l : List UInt8) : (arr l).data.toList = l := by simp [arr]
theorem arr_of (b : ByteArray) : arr b.data.toList = b := by apply ByteArray.ext; simp [arr]
theorem arr_inj {l m : List UInt8} (h : arr l = arr m) : l = m := by rw [← arr_list l, h, arr_list]
theorem list_inj {a b : ByteArray} (h : a.data.toList = b.data.toList) : a = b := by rw [← arr_of a, h, arr_of]
theorem app_list (a b : ByteArray) : (a ++ b).data.toList = a.data.toList ++ b.data.toList := by rw [ByteArray.data_append, Array.toList_append]
theorem arr_app (l m : List UInt8) : arr l ++ arr m = arr (l ++ m) := by
  apply list_inj; rw [app_list, arr_list, arr_list, arr_list]
theorem size_list (b : ByteArray) : b.data.toList.length = b.size := by simp
theorem drop_list (b : ByteArray) (m : Nat) : (b.extract m b.size).data.toList = b.data.toList.drop m := by
  rw [ByteArray.data_extract, Array.toList_extract, List.extract_eq_take_drop]
  rw [List.take_of_length_le (by rw [List.length_drop, size_list]; omega)]
theorem mid_list (b : ByteArray) (m k : Nat) : (b.extract m (m + k)).data.toList = (b.data.toList.drop m).take k := by
  rw [ByteArray.data_extract, Array.toList_extract, List.extract_eq_take_drop]
  rw [show m + k - m = k from by omega]
/-- The bytes' numbers, as a slice of bytes holds them. -/
def bnums (l : List UInt8) : List Int := l.map fun c => (c.toNat : Int)
theorem str_bnums (l : List UInt8) : strOfNums (bnums l) = arr l := by
  unfold strOfNums bnums arr
  rw [List.map_map]
  congr 2
  have : (fun n : Int => UInt8.ofNat n.toNat) ∘ (fun c : UInt8 => (c.toNat : Int)) = id := by
    funext c; simp
  rw [this, List.map_id]
theorem bnums_app (l m : List UInt8) : bnums (l ++ m) = bnums l ++ bnums m := by simp [bnums]
theorem bnums_len (l : List UInt8) : (bnums l).length = l.length := by simp [bnums]

theorem take_size (b : ByteArray) (m : Nat) (h : m ≤ b.size) : (b.data.toList.take m).length = m := by rw [List.length_take, size_list]; omega
/-- A piece of some bytes. -/
def pieceB (m : Nat) (s : ByteArray) : ByteArray := arr (beB m s.size) ++ s
theorem piece_list (m : Nat) (s : ByteArray) : (pieceB m s).data.toList = beB m s.size ++ s.data.toList := by unfold pieceB; rw [app_list, arr_list]
/-- A piece and what follows it, cut. -/
theorem cut_piece (m : Nat) (s r : ByteArray) (h : s.size < 256 ^ m) : cutOf (pieceB m s ++ r) m = some (s, r) := by
  have h0 : (pieceB m s ++ r).data.toList = beB m s.size ++ (s.data.toList ++ r.data.toList) := by rw [app_list, piece_list, List.append_assoc]
  have hs : (pieceB m s ++ r).size = m + s.size + r.size := by rw [← size_list, h0]; simp only [List.length_append, beB_len, size_list]; omega
  have ht : (pieceB m s ++ r).data.toList.take m = beB m s.size := by rw [h0, List.take_left' (beB_len _ _)]
  unfold cutOf
  rw [if_pos (by omega), ht, beN_beB, Nat.mod_eq_of_lt h, if_pos (by omega)]
  congr 2
  · apply list_inj
    rw [mid_list, h0, List.drop_left' (beB_len _ _), List.take_left' (size_list _)]
  · apply list_inj
    rw [drop_list, h0, List.drop_append, beB_len, List.drop_of_length_le (by rw [beB_len]; omega), List.nil_append, List.drop_append, size_list, List.drop_of_length_le (by rw [size_list]; omega), List.nil_append, show m + s.size - m - s.size = 0 from by omega, List.drop_zero]

end Go.Proofs.Ytekbecpcbfhdmaa.Oct
