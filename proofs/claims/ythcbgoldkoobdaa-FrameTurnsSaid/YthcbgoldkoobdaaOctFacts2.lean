import Derived.Test.YthcbgoldkoobdaaOctFacts
namespace Go.Proofs.Ythcbgoldkoobdaa.OctFacts
open Go.RowKit Go.Proofs.Ythcbgoldkoobdaa.POct Go.Proofs.YthcbgoldkoobdaaW.PrintWords Go.Proofs.YthcbgoldkoobdaaW.PrintLast Go.Proofs.YthcbgoldkoobdaaW.PrintMore Go.Proofs.Ythcbgoldkoobdaa.Given Go.Proofs.Ythcbgoldkoobdaa.Oct
set_option linter.unusedVariables false
set_option linter.unusedSimpArgs false

/-! ### Cut -/
theorem is_piece (n : Int) : (isWidth n = true ∧ ¬ (n = 8)) ↔ (n = 1 ∨ n = 2 ∨ n = 4) := by rw [width_iff]; omega
/-- What Cut returns. -/
def cutR (b : ByteArray) (n : Int) : ByteArray × ByteArray × Int :=
  if n = 1 ∨ n = 2 ∨ n = 4 then
    match cutOf b n.toNat with
    | some (s, r) => (s, r, 0)
    | none => (⟨#[]⟩, ⟨#[]⟩, 2)
  else (⟨#[]⟩, ⟨#[]⟩, 1)
theorem cut_f (b : ByteArray) (n : Int) (hb : b.size ≤ 9223372036854775807) : octets_Cut.f b n = some (cutR b n) := by
  unfold octets_Cut.f cutR
  rw [if_pos hb]
  by_cases h : n = 1 ∨ n = 2 ∨ n = 4
  · rw [if_pos h, if_pos h]
    cases cutOf b n.toNat <;> rfl
  · rw [if_neg h, if_neg h]
theorem rcut_f (b : ByteArray) (n : Int) (k : Nat) (hb : b.size ≤ 100000000) (hk : 20 ≤ k) : beadrollref01_Cut.f k b n = some (cutR b n) := by
  obtain ⟨k, rfl⟩ : ∃ j, k = j + 1 := ⟨k - 1, by omega⟩
  unfold beadrollref01_Cut.f cutR
  rw [rwidth_f, Option.bind_some]
  by_cases h : n = 1 ∨ n = 2 ∨ n = 4
  · have hw := (is_piece n).mpr h
    rw [if_pos hw.1, if_pos h, beadrollref01_Cut.j0, if_neg (by simp [hw.2])]
    obtain ⟨m, rfl⟩ := Int.eq_ofNat_of_zero_le (show 0 ≤ n by omega)
    rw [Int.toNat_natCast]
    by_cases hm : m ≤ b.size
    · have h1 := beN_lt (b.data.toList.take m)
      rw [take_size b m hm] at h1
      have h2 := pow_fit (n := m) (by omega)
      rw [if_neg (by omega), if_pos (by omega), if_pos (by omega), number_f _ (by rw [ext_size _ _ hm]; omega) k (by omega), ext_list, Option.bind_some, w64_id (x := (b.size : Int) - (m : Int)) (by omega) (by omega), u64_id (by omega) (by omega), cutOf, if_pos hm]
      by_cases hc : beN (b.data.toList.take m) ≤ b.size - m
      · rw [if_neg (by omega), if_pos hc, w64_id (x := (beN (b.data.toList.take m) : Int)) (by omega) (by omega), w64_id (by omega) (by omega), if_pos (by omega), if_pos (by omega), if_pos (by omega)]
        rw [show ((m : Int) + (beN (b.data.toList.take m) : Int)).toNat = m + beN (b.data.toList.take m) from by omega]
      · rw [if_pos (by omega), if_neg hc]
    · rw [if_pos (by omega), cutOf, if_neg hm]
  · rw [if_neg h]
    by_cases hw : isWidth n = true
    · have h8 : n = 8 := by have := (width_iff n).mp hw; omega
      rw [if_pos hw, beadrollref01_Cut.j0, if_pos (by simp [h8])]
    · rw [if_neg hw, beadrollref01_Cut.j0, if_pos rfl]

/-! ### Pieces -/
/-- What Pieces returns. -/
def piecesR (b : ByteArray) (n : Int) : List ByteArray × Int :=
  if n = 1 ∨ n = 2 ∨ n = 4 then
    match piecesL n.toNat b.size b [] with
    | some xs => (xs, 0)
    | none => ([], 2)
  else ([], 1)
theorem pieces_f (b : ByteArray) (n : Int) (hb : b.size < 8796093022208) : octets_Pieces.f b n = some (piecesR b n) := by
  unfold octets_Pieces.f piecesR
  rw [if_pos hb]
  by_cases h : n = 1 ∨ n = 2 ∨ n = 4
  · rw [if_pos h, if_pos h]
    cases piecesL n.toNat b.size b [] <;> rfl
  · rw [if_neg h, if_neg h]
theorem piecesL_up (m : Nat) (hm : 0 < m) (b : ByteArray) (acc : List ByteArray) : ∀ j, piecesL m (b.size + j) b acc = piecesL m b.size b acc
  | 0 => rfl
  | j + 1 => by rw [← Nat.add_assoc, piecesL_more m hm _ b acc (by omega), piecesL_up m hm b acc j]
theorem piecesL_at (m : Nat) (hm : 0 < m) (b : ByteArray) (acc : List ByteArray) (k : Nat) (hk : b.size ≤ k) : piecesL m k b acc = piecesL m b.size b acc := by
  have := piecesL_up m hm b acc (k - b.size)
  rw [show b.size + (k - b.size) = k from by omega] at this
  exact this
theorem rpieces_at (n : Int) (h : n = 1 ∨ n = 2 ∨ n = 4) : ∀ (d k : Nat) (b : ByteArray) (acc : List ByteArray), b.size ≤ d → d ≤ 100000000 → d + 30 ≤ k → acc.length + d ≤ 100000000 → beadrollref01_Pieces.l0 k b n acc = some (match piecesL n.toNat d b acc with | some xs => (xs, 0) | none => ([], 2)) := by
  intro d
  induction d with
  | zero =>
    intro k b acc hb hd hk ha
    obtain ⟨k, rfl⟩ : ∃ j, k = j + 1 := ⟨k - 1, by omega⟩
    rw [beadrollref01_Pieces.l0, if_neg (by omega), piecesL, if_pos (by omega)]
  | succ d ih =>
    intro k b acc hb hd hk ha
    obtain ⟨k, rfl⟩ : ∃ j, k = j + 1 := ⟨k - 1, by omega⟩
    rw [beadrollref01_Pieces.l0, piecesL]
    by_cases h0 : b.size = 0
    · rw [if_neg (by omega), if_pos h0]
    · rw [if_pos (by omega), if_neg h0, rcut_f b n k (by omega) (by omega), Option.bind_some, cutR, if_pos h]
      cases hc : cutOf b n.toNat with
      | none => rfl
      | some x =>
        obtain ⟨s, r⟩ := x
        have hs := cutOf_size hc
        show (if (0 : Int) = 0 then _ else _) = _
        rw [if_pos rfl, if_pos (by omega)]
        exact ih k r _ (by omega) (by omega) (by omega) (by simp; omega)
theorem rpieces_f (b : ByteArray) (n : Int) (k : Nat) (hb : b.size ≤ 10000000) (hk : b.size + 40 ≤ k) : beadrollref01_Pieces.f k b n = some (piecesR b n) := by
  obtain ⟨k, rfl⟩ : ∃ j, k = j + 1 := ⟨k - 1, by omega⟩
  unfold beadrollref01_Pieces.f piecesR
  rw [rwidth_f, Option.bind_some]
  by_cases h : n = 1 ∨ n = 2 ∨ n = 4
  · have hw := (is_piece n).mpr h
    rw [if_pos hw.1, if_pos h, beadrollref01_Pieces.j0, if_neg (by simp [hw.2])]
    exact rpieces_at n h b.size k b [] (by omega) (by omega) (by omega) (by simp; omega)
  · rw [if_neg h]
    by_cases hw : isWidth n = true
    · have h8 : n = 8 := by have := (width_iff n).mp hw; omega
      rw [if_pos hw, beadrollref01_Pieces.j0, if_pos (by simp [h8])]
    · rw [if_neg hw, beadrollref01_Pieces.j0, if_pos rfl]
theorem texts_at (l : List ByteArray) (hl : l.length ≤ 1000000) : ∀ (d i k : Nat), i + d = l.length → d < k → beadrollref01_Texts.l0 k l l (i : Int) = some true := by
  intro d
  induction d with
  | zero =>
    intro i k hi hk
    obtain ⟨k, rfl⟩ : ∃ j, k = j + 1 := ⟨k - 1, by omega⟩
    rw [beadrollref01_Texts.l0, if_neg (by omega)]
  | succ d ih =>
    intro i k hi hk
    obtain ⟨k, rfl⟩ : ∃ j, k = j + 1 := ⟨k - 1, by omega⟩
    rw [beadrollref01_Texts.l0, if_pos (by omega), if_pos (by omega), if_pos (by omega), if_pos rfl, w64_id (by omega) (by omega)]
    exact ih (i + 1) k (by omega) (by omega)
theorem texts_f (l : List ByteArray) (k : Nat) (hl : l.length ≤ 1000000) (hk : l.length < k) : beadrollref01_Texts.f k l l = some true := by
  unfold beadrollref01_Texts.f
  rw [if_pos rfl]
  exact texts_at l hl l.length 0 k (by omega) hk
theorem piecesL_len (m : Nat) (hm : 0 < m) : ∀ (k : Nat) (b : ByteArray) (acc xs : List ByteArray), piecesL m k b acc = some xs → xs.length ≤ acc.length + k
  | 0, b, acc, xs, h => by
    rw [piecesL] at h
    split at h
    · simp only [Option.some.injEq] at h; subst h; omega
    · exact absurd h (by simp)
  | k + 1, b, acc, xs, h => by
    rw [piecesL] at h
    split at h
    · simp only [Option.some.injEq] at h; subst h; omega
    · cases hc : cutOf b m with
      | none => rw [hc] at h; exact absurd h (by simp)
      | some x =>
        obtain ⟨s, r⟩ := x
        rw [hc] at h
        have := piecesL_len m hm k r _ xs h
        simp only [List.length_append, List.length_cons, List.length_nil] at this
        omega

/-! ### Piece -/
theorem opiece_f (n : Int) : octets_piece.f n = some (decide (n = 1 ∨ n = 2 ∨ n = 4)) := by
  unfold octets_piece.f
  by_cases h1 : n = 1
  · simp [h1]
  · by_cases h2 : n = 2
    · simp [h2]
    · simp [h1, h2]
      by_cases h4 : n = 4 <;> simp [h4]
/-- What Piece returns. -/
def pieceR (s : ByteArray) (n : Int) : ByteArray × Int :=
  if n = 1 ∨ n = 2 ∨ n = 4 then
    if s.size < 256 ^ n.toNat then (pieceB n.toNat s, 0) else (⟨#[]⟩, 3)
  else (⟨#[]⟩, 1)
theorem piece_f (s : ByteArray) (n : Int) (k : Nat) (hs : s.size ≤ 100000000) (hk : 20 ≤ k) : octets_Piece.f k s n = some (pieceR s n) := by
  unfold octets_Piece.f pieceR
  rw [opiece_f, Option.bind_some]
  by_cases h : n = 1 ∨ n = 2 ∨ n = 4
  · have hw := (is_piece n).mpr h
    obtain ⟨m, rfl⟩ := Int.eq_ofNat_of_zero_le (show 0 ≤ n by omega)
    have hp : 0 < 256 ^ m := Nat.pow_pos (by omega)
    rw [if_pos (decide_eq_true h), if_pos h, most_f m hw.1, Option.bind_some, u64_id (by omega) (by omega), Int.toNat_natCast]
    by_cases hf : s.size < 256 ^ m
    · rw [if_neg (by omega), if_pos hf, obytes_f m s.size k (by omega) (by omega), Option.bind_some, str_bnums, if_pos (by rw [arr_size, beB_len]; omega)]
      rfl
    · rw [if_pos (by omega), if_neg hf]
  · rw [if_neg (by simp [h]), if_neg h]
theorem rpiece_f (s : ByteArray) (n : Int) (k : Nat) (hs : s.size ≤ 100000000) (hk : 20 ≤ k) : beadrollref01_Piece.f k s n = some (pieceR s n) := by
  obtain ⟨k, rfl⟩ : ∃ j, k = j + 1 := ⟨k - 1, by omega⟩
  unfold beadrollref01_Piece.f pieceR
  rw [rwidth_f, Option.bind_some]
  by_cases h : n = 1 ∨ n = 2 ∨ n = 4
  · have hw := (is_piece n).mpr h
    rw [if_pos hw.1, if_pos h, beadrollref01_Piece.j0, if_neg (by simp [hw.2])]
    obtain ⟨m, rfl⟩ := Int.eq_ofNat_of_zero_le (show 0 ≤ n by omega)
    rw [Int.toNat_natCast, u64_id (by omega) (by omega), rbytes_f m s.size k (by omega) (by omega) (by omega), Option.bind_some, number_f _ (by rw [arr_size, beB_len]; omega) k (by omega), arr_list, Option.bind_some]
    by_cases hf : s.size < 256 ^ m
    · rw [if_pos (by rw [beB_fits.mpr hf]), if_pos hf, if_pos (by rw [arr_size, beB_len]; omega)]
      rfl
    · rw [if_neg (fun h => hf (beB_fits.mp (by omega))), if_neg hf]
  · rw [if_neg h]
    by_cases hw : isWidth n = true
    · have h8 : n = 8 := by have := (width_iff n).mp hw; omega
      rw [if_pos hw, beadrollref01_Piece.j0, if_pos (by simp [h8])]
    · rw [if_neg hw, beadrollref01_Piece.j0, if_pos rfl]
end Go.Proofs.Ythcbgoldkoobdaa.OctFacts
