/- The contracts of the reader's take, number and cut: where the bytes are there they are taken off, else the call panics with the reader's own value; no condition but sizes that a string can have. -/
import Derived.Test.YtekbecpcbfhdmaaProg
import Derived.Test.YtekbecpcbfhdmaaUpd
import Derived.Outline
import Derived.Lib.Hide
import Derived.Laws.BitsAllLaws
import Derived.WalkSpells
import Derived.WalkLawsBesides
import Derived.Lib.ConvBytes
namespace Go.Proofs.Ytekbecpcbfhdmaa.Oct
open Go.RowKit Go.Proofs.YtekbecpcbfhdmaaW.PrintWords Go.Proofs.Ytekbecpcbfhdmaa.UpdWords

/-- What the reader panics with. -/
def short : List PanicEntry := [{ v := .iface 84 (.agg #[]), recovered := false }]
/-- A reader of b lies in block g. -/
def Rd (w : World) (g : Nat) (b : ByteArray) : Prop := w.heap[g]? = some (.cells #[.string b] 86 (0, 0))
theorem Rd.cell {w : World} {g : Nat} {b : ByteArray} (h : Rd w g b) : w.cell? ⟨g, 0, none⟩ = some (.string b) := blk_cell h 0
theorem Rd.free {w : World} {g : Nat} {b : ByteArray} (h : Rd w g b) : w.frozen? ⟨g, 0, none⟩ = false := blk_frozen h 0

set_option maxHeartbeats 400000 in
set_option maxRecDepth 100000 in
theorem take_ok (g : Nat) (b : ByteArray) (n : Int) (w : World) (hb : Rd w g b) (h0 : 0 ≤ n) (h1 : n ≤ b.size) (_hs : b.size ≤ maxLen) :
    Calls Try.prog 40 #[.pointer (some ⟨g, 0, none⟩), .int .i64 n] w fun e w' => e = .returned (.string (b.extract 0 n.toNat)) ∧ Rd w' g (b.extract n.toNat b.size) ∧ Upd (· = g) w w' := by
  have hc := hb.cell
  have hf := hb.free
  have hd : decide ((b.size : Int) < n) = false := decide_eq_false (by omega)
  go_enter Try.func40, Try.ntmps40
  go_wp2_with fail
  go_ret
  exact ⟨rfl, blk_set hb 0 _, (Upd.refl _ _).set g 0 _ (.inl rfl)⟩

set_option maxHeartbeats 400000 in
set_option maxRecDepth 100000 in
theorem take_short (g : Nat) (b : ByteArray) (n : Int) (w : World) (hb : Rd w g b) (h1 : (b.size : Int) < n) :
    Calls Try.prog 40 #[.pointer (some ⟨g, 0, none⟩), .int .i64 n] w fun e w' => e = .panicked short ∧ Upd (· = g) w w' := by
  have hc := hb.cell
  have hd : decide ((b.size : Int) < n) = true := decide_eq_true (by omega)
  go_enter Try.func40, Try.ntmps40
  go_wp2_with fail
  exact ⟨rfl, rfl, Upd.refl _ _⟩

/-- The number that bytes are. -/
def beN (l : List UInt8) : Nat := l.foldl (fun v c => v * 256 + c.toNat) 0
theorem beN_snoc (l : List UInt8) (c : UInt8) : beN (l ++ [c]) = beN l * 256 + c.toNat := by unfold beN; rw [List.foldl_append]; rfl
theorem beN_lt (l : List UInt8) : beN l < 256 ^ l.length := by
  have h : ∀ n, ∀ l : List UInt8, l.length = n → beN l < 256 ^ n := by
    intro n
    induction n with
    | zero => intro l hl; obtain rfl := List.eq_nil_of_length_eq_zero hl; simp [beN]
    | succ n ih =>
      intro l hl
      have hne : l ≠ [] := fun h => by subst h; simp at hl
      rw [← List.dropLast_concat_getLast hne, beN_snoc]
      have h1 := ih l.dropLast (by simp [hl])
      have h2 := UInt8.toNat_lt (l.getLast hne)
      rw [Nat.pow_succ]; omega
  exact h _ l rfl

theorem or_byte (v c : Nat) (hv : v < 2 ^ 56) (hc : c < 256) : Go.bits .or .u64 (IntKind.u64.wrap ((v : Int) * 256)) (c : Int) = ((v * 256 + c : Nat) : Int) := by
  have e : IntKind.u64.wrap ((v : Int) * 256) = ((v * 256 : Nat) : Int) := by rw [IntKind.wrap_u64]; omega
  rw [e, Go.u64_or_nat _ _ (by omega) (by omega)]
  congr 1
  have := Nat.two_pow_add_eq_or_of_lt (i := 8) (b := c) (by omega) v
  rw [Nat.mul_comm v 256, ← this]

theorem ext_size (b : ByteArray) (m : Nat) (h : m ≤ b.size) : (b.extract 0 m).size = m := by rw [ByteArray.size_extract]; omega
theorem ext_list (b : ByteArray) (m : Nat) : (b.extract 0 m).data.toList = b.data.toList.take m := by
  simp [ByteArray.data_extract]
theorem bytes_at (b : ByteArray) (m k : Nat) (h : m ≤ b.size) (hk : k < m) : (bytesOf (b.extract 0 m))[k]?.getD 0 = (((b.data.toList.getD k 0).toNat : Nat) : Int) := by
  have hl : b.data.toList.length = b.size := data_length b
  unfold bytesOf
  rw [ext_list, List.getElem?_map, List.getElem?_take, if_pos hk, List.getD_eq_getElem?_getD, List.getElem?_eq_getElem (by omega)]
  rfl
theorem beN_next (l : List UInt8) (k : Nat) (hk : k < l.length) (h8 : k < 8) : Go.bits .or .u64 (IntKind.u64.wrap ((beN (l.take k) : Int) * 256)) (IntKind.u64.wrap (((l.getD k 0).toNat : Nat) : Int)) = ((beN (l.take (k + 1)) : Nat) : Int) := by
  have hc := UInt8.toNat_lt (l.getD k 0)
  rw [show IntKind.u64.wrap (((l.getD k 0).toNat : Nat) : Int) = (((l.getD k 0).toNat : Nat) : Int) from by rw [IntKind.wrap_u64]; omega]
  have h1 := beN_lt (l.take k)
  have h2 : 256 ^ (l.take k).length ≤ 256 ^ 7 := Nat.pow_le_pow_right (by omega) (by rw [List.length_take]; omega)
  rw [or_byte _ _ (by omega) (UInt8.toNat_lt _), List.take_succ_eq_append_getElem hk, beN_snoc, List.getD_eq_getElem?_getD, List.getElem?_eq_getElem hk]
  rfl

theorem beN_nextB (b : ByteArray) (k : Nat) (hk : k < b.size) (h8 : k < 8) : Go.bits .or .u64 (IntKind.u64.wrap ((beN (b.data.toList.take k) : Int) * 256)) (IntKind.u64.wrap (((b.data[k]?.getD 0).toNat : Nat) : Int)) = ((beN (b.data.toList.take (k + 1)) : Nat) : Int) := by
  have h := beN_next b.data.toList k (by rw [data_length]; exact hk) h8
  rw [List.getD_eq_getElem?_getD, Array.getElem?_toList] at h
  exact h

set_option maxHeartbeats 400000 in
set_option maxRecDepth 100000 in
theorem number_ok (g : Nat) (b : ByteArray) (n : Int) (w : World) (hb : Rd w g b) (h0 : 0 ≤ n) (h8 : n ≤ 8) (h1 : n ≤ b.size) (hs : b.size ≤ maxLen) :
    Calls Try.prog 38 #[.pointer (some ⟨g, 0, none⟩), .int .i64 n] w fun e w' => e = .returned (.int .u64 (beN (b.data.toList.take n.toNat))) ∧ Rd w' g (b.extract n.toNat b.size) ∧ Upd (· = g) w w' := by
  obtain ⟨m, rfl⟩ := Int.eq_ofNat_of_zero_le h0
  have hl : b.data.toList.length = b.size := data_length b
  have HL := Lib.hid hl; clear hl
  rw [Int.toNat_natCast]
  have hm8 : m ≤ 8 := by omega
  have hmb : m ≤ b.size := by omega
  have kb := fun W => print_bytes (P := Try.prog) 9 44 5 Try.underlying9 Try.underlying44 Try.underlying5 (b.extract 0 m) W
  rw [ext_size b m hmb] at kb
  go_enter Try.func38, Try.ntmps38
  go_wp2_with fail
  refine (take_ok g b m w hb h0 h1 hs).mono ?_
  rw [Int.toNat_natCast]
  rintro e w1 ⟨rfl, hb1, hu1⟩
  go_wp2_with fail
  have hlt1 := blk_lt hb1
  go_loop [5, 13] (fun v i => ∃ k : Nat, k ≤ m ∧ i = .int .i64 k ∧ v = .int .u64 (beN (b.data.toList.take k))) (fun _ i => m - (intOf i).toNat)
  case atStart => exact ⟨0, Nat.zero_le _, rfl, rfl⟩
  case round =>
    obtain ⟨k, hk, rfl, rfl⟩ := hrel
    by_cases hlt : k < m
    · have hc := (bytes_reads w1 5 (b.extract 0 m) (by rw [ext_size b m hmb]; omega)).2.2
      rw [ext_size b m hmb] at hc
      obtain ⟨ad, e, hc⟩ := hc (by omega)
      obtain rfl := Option.some.inj e
      clear e
      have hc2 := hc k hlt
      clear hc
      rw [add_plain, List.getD_eq_getElem?_getD, bytes_at b m k hmb hlt] at hc2
      have HN := Lib.hid (beN_nextB b k (by omega) (by omega))
      go_wp2_with fail
      exact ⟨⟨k + 1, by omega, by go_num, by rw [HN.out]⟩, by simp [intOf]; omega⟩
    · obtain rfl : k = m := by omega
      go_wp2_with fail
      go_ret
      exact ⟨rfl, (Lib.bytesWorld_at_old _ _ _ _ hlt1).trans hb1, hu1.trans (Upd.of_below (S := fun _ => False) (bytes_below (Below.refl _ _) (Nat.le_refl _) _ _)) (fun _ h => h.elim)⟩

set_option maxHeartbeats 400000 in
set_option maxRecDepth 100000 in
theorem number_short (g : Nat) (b : ByteArray) (n : Int) (w : World) (hb : Rd w g b) (h1 : (b.size : Int) < n) :
    Calls Try.prog 38 #[.pointer (some ⟨g, 0, none⟩), .int .i64 n] w fun e w' => e = .panicked short ∧ Upd (· = g) w w' := by
  go_enter Try.func38, Try.ntmps38
  go_wp2_with fail
  refine (take_short g b n w hb h1).mono ?_
  rintro e w1 ⟨rfl, hu1⟩
  go_wp2_with fail
  exact ⟨rfl, rfl, hu1⟩

/-- What cut takes: the piece, and what is left. -/
def cutOf (b : ByteArray) (m : Nat) : Option (ByteArray × ByteArray) :=
  if m ≤ b.size then
    if beN (b.data.toList.take m) ≤ b.size - m then some (b.extract m (m + beN (b.data.toList.take m)), b.extract (m + beN (b.data.toList.take m)) b.size) else none
  else none
theorem ext_ext (b : ByteArray) (m k : Nat) (hm : m ≤ b.size) (hk : k ≤ b.size - m) : (b.extract m b.size).extract 0 k = b.extract m (m + k) ∧ (b.extract m b.size).extract k (b.size - m) = b.extract (m + k) b.size := by
  constructor
  · apply ByteArray.ext
    simp only [ByteArray.data_extract, Array.extract_extract]
    congr 1
    have : b.data.size = b.size := rfl
    omega
  · apply ByteArray.ext
    simp only [ByteArray.data_extract, Array.extract_extract]
    congr 1
    have : b.data.size = b.size := rfl
    omega
theorem drop_size (b : ByteArray) (m : Nat) : (b.extract m b.size).size = b.size - m := by rw [ByteArray.size_extract]; omega

set_option maxHeartbeats 400000 in
set_option maxRecDepth 100000 in
theorem cut_ok (g : Nat) (b : ByteArray) (n : Int) (w : World) (s r : ByteArray) (hb : Rd w g b) (h0 : 0 ≤ n) (h8 : n ≤ 4) (hs : b.size ≤ maxLen) (h : cutOf b n.toNat = some (s, r)) :
    Calls Try.prog 36 #[.pointer (some ⟨g, 0, none⟩), .int .i64 n] w fun e w' => e = .returned (.string s) ∧ Rd w' g r ∧ Upd (· = g) w w' := by
  obtain ⟨m, rfl⟩ := Int.eq_ofNat_of_zero_le h0
  rw [Int.toNat_natCast] at h
  unfold cutOf at h
  by_cases h1 : m ≤ b.size
  · rw [if_pos h1] at h
    by_cases h2 : beN (b.data.toList.take m) ≤ b.size - m
    · rw [if_pos h2] at h
      simp only [Option.some.injEq, Prod.mk.injEq] at h
      obtain ⟨rfl, rfl⟩ := h
      have h3 := Lib.hid h2
      have hd := drop_size b m
      have HD := Lib.hid hd; clear hd
      have HE := Lib.hid (ext_ext b m _ h1 h2)
      have hz : decide (IntKind.u64.wrap ((b.size - m : Nat) : Int) < (beN (b.data.toList.take m) : Int)) = false := by
        unfold maxLen at hs
        rw [IntKind.wrap_u64]; exact decide_eq_false (by omega)
      have hq : (beN (b.data.toList.take m) : Int) ≤ 9223372036854775807 := by unfold maxLen at hs; omega
      go_enter Try.func36, Try.ntmps36
      go_wp2_with fail
      refine (number_ok g b m w hb h0 (by omega) (by omega) hs).mono ?_
      rw [Int.toNat_natCast]
      rintro e w1 ⟨rfl, hb1, hu1⟩
      have hc := hb1.cell
      go_wp2_with fail
      refine (take_ok g (b.extract m b.size) _ w1 hb1 (by omega) (by rw [HD.out]; have := h3.out; omega) (by rw [HD.out]; unfold maxLen at hs ⊢; omega)).mono ?_
      rw [Int.toNat_natCast]
      rintro e w2 ⟨rfl, hb2, hu2⟩
      rw [HD.out, HE.out.2] at hb2
      go_wp2_with fail
      go_ret
      exact ⟨by rw [HE.out.1]; rfl, hb2, hu1.trans hu2 (fun _ h => .inl h)⟩
    · rw [if_neg h2] at h; cases h
  · rw [if_neg h1] at h; cases h

set_option maxHeartbeats 400000 in
set_option maxRecDepth 100000 in
theorem cut_short (g : Nat) (b : ByteArray) (n : Int) (w : World) (hb : Rd w g b) (h0 : 0 ≤ n) (h8 : n ≤ 4) (hs : b.size ≤ maxLen) (h : cutOf b n.toNat = none) :
    Calls Try.prog 36 #[.pointer (some ⟨g, 0, none⟩), .int .i64 n] w fun e w' => e = .panicked short ∧ Upd (· = g) w w' := by
  obtain ⟨m, rfl⟩ := Int.eq_ofNat_of_zero_le h0
  rw [Int.toNat_natCast] at h
  unfold cutOf at h
  by_cases h1 : m ≤ b.size
  · rw [if_pos h1] at h
    by_cases h2 : beN (b.data.toList.take m) ≤ b.size - m
    · rw [if_pos h2] at h; cases h
    · have h3 := Lib.hid h2
      have hd := drop_size b m
      have HD := Lib.hid hd; clear hd
      have hz : decide (IntKind.u64.wrap ((b.size - m : Nat) : Int) < (beN (b.data.toList.take m) : Int)) = true := by
        unfold maxLen at hs
        rw [IntKind.wrap_u64]; exact decide_eq_true (by omega)
      go_enter Try.func36, Try.ntmps36
      go_wp2_with fail
      refine (number_ok g b m w hb h0 (by omega) (by omega) hs).mono ?_
      rw [Int.toNat_natCast]
      rintro e w1 ⟨rfl, hb1, hu1⟩
      have hc := hb1.cell
      go_wp2_with fail
      exact ⟨rfl, rfl, hu1⟩
  · go_enter Try.func36, Try.ntmps36
    go_wp2_with fail
    refine (number_short g b m w hb (by omega)).mono ?_
    rintro e w1 ⟨rfl, hu1⟩
    go_wp2_with fail
    exact ⟨rfl, rfl, hu1⟩

end Go.Proofs.Ytekbecpcbfhdmaa.Oct
