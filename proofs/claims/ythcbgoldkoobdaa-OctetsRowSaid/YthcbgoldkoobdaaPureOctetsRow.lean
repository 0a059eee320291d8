/- For any row of at most 20 bytes-strings of at most 100, in either width: the pieces set behind each other are cut off again one by one, Pieces returns them all, and without the last byte it tells that bytes are lacking: no other condition. -/
import Derived.Test.YthcbgoldkoobdaaOctFacts2
namespace Go.Proofs.Ythcbgoldkoobdaa.Pure
open Go.RowKit Go.Proofs.Ythcbgoldkoobdaa.POct Go.Proofs.YthcbgoldkoobdaaW.PrintWords Go.Proofs.YthcbgoldkoobdaaW.PrintLast Go.Proofs.YthcbgoldkoobdaaW.PrintMore Go.Proofs.Ythcbgoldkoobdaa.Given Go.Proofs.Ythcbgoldkoobdaa.Oct Go.Proofs.Ythcbgoldkoobdaa.OctFacts
set_option linter.unusedSimpArgs false
set_option linter.unusedVariables false

def rowL (m : Nat) (l : List ByteArray) : List UInt8 := l.flatMap fun s => beB m s.size ++ s.data.toList
theorem rowL_cons (m : Nat) (s : ByteArray) (l : List ByteArray) : rowL m (s :: l) = (beB m s.size ++ s.data.toList) ++ rowL m l := rfl
theorem row_cons (m : Nat) (s : ByteArray) (l : List ByteArray) : arr (rowL m (s :: l)) = pieceB m s ++ arr (rowL m l) := by
  apply list_inj
  rw [app_list, piece_list, arr_list, arr_list, rowL_cons]
theorem piece_size (m : Nat) (s : ByteArray) : (pieceB m s).size = m + s.size := by
  rw [← size_list, piece_list, List.length_append, beB_len, size_list]
theorem pieces_row (m : Nat) (hm : 0 < m) : ∀ (l : List ByteArray) (k : Nat) (acc : List ByteArray), (∀ s ∈ l, s.size < 256 ^ m) → (arr (rowL m l)).size ≤ k → piecesL m k (arr (rowL m l)) acc = some (acc ++ l)
  | [], k, acc, hs, hk => by
    cases k with
    | zero => rw [piecesL, if_pos (by simp [rowL, arr_size]), List.append_nil]
    | succ k => rw [piecesL, if_pos (by simp [rowL, arr_size]), List.append_nil]
  | s :: l, k, acc, hs, hk => by
    have hsz : (arr (rowL m (s :: l))).size = m + s.size + (arr (rowL m l)).size := by rw [row_cons, ByteArray.size_append, piece_size]
    obtain ⟨k, rfl⟩ : ∃ j, k = j + 1 := ⟨k - 1, by omega⟩
    rw [piecesL, if_neg (by omega), row_cons, cut_piece m s _ (hs s (by simp))]
    simp only []
    rw [pieces_row m hm l k (acc ++ [s]) (fun s h => hs s (by simp [h])) (by omega), List.append_assoc]; rfl
theorem cut_tail (m : Nat) (s : ByteArray) (hs : s.size < 256 ^ m) (h : 2 ≤ m ∨ s.size ≠ 0) : cutOf (arr (beB m s.size ++ s.data.toList).dropLast) m = none := by
  have hl : (beB m s.size ++ s.data.toList).length = m + s.size := by rw [List.length_append, beB_len, size_list]
  unfold cutOf
  rw [arr_size, List.length_dropLast, hl, arr_list]
  by_cases hm : m ≤ m + s.size - 1
  · rw [if_pos hm]
    have ht : (beB m s.size ++ s.data.toList).dropLast.take m = beB m s.size := by
      rw [List.dropLast_eq_take, List.take_take, hl, Nat.min_eq_left hm, List.take_left' (beB_len _ _)]
    rw [ht, beN_beB, Nat.mod_eq_of_lt hs, if_neg (by omega)]
  · rw [if_neg hm]
theorem pieces_short (m : Nat) (hm : 0 < m) : ∀ (l : List ByteArray) (hne : l ≠ []) (k : Nat) (acc : List ByteArray), (∀ s ∈ l, s.size < 256 ^ m) → (2 ≤ m ∨ (l.getLast hne).size ≠ 0) → (arr (rowL m l)).size ≤ k → piecesL m k (arr (rowL m l).dropLast) acc = none
  | [], hne, _, _, _, _, _ => absurd rfl hne
  | [s], hne, k, acc, hs, h, hk => by
    have h' : 2 ≤ m ∨ s.size ≠ 0 := h
    have hl : (beB m s.size ++ s.data.toList).length = m + s.size := by rw [List.length_append, beB_len, size_list]
    have e : rowL m [s] = beB m s.size ++ s.data.toList := by simp [rowL]
    rw [e] at hk ⊢
    rw [arr_size, hl] at hk
    obtain ⟨k, rfl⟩ : ∃ j, k = j + 1 := ⟨k - 1, by omega⟩
    rw [piecesL, if_neg (by rw [arr_size, List.length_dropLast, hl]; omega), cut_tail m s (hs s (by simp)) h']
  | s :: t :: l, hne, k, acc, hs, h, hk => by
    have hsz : (arr (rowL m (s :: t :: l))).size = m + s.size + (arr (rowL m (t :: l))).size := by rw [row_cons, ByteArray.size_append, piece_size]
    have hn : rowL m (t :: l) ≠ [] := by
      intro h0
      have := congrArg List.length h0
      rw [rowL_cons] at this
      simp only [List.length_append, beB_len, List.length_nil] at this
      omega
    have e : arr (rowL m (s :: t :: l)).dropLast = pieceB m s ++ arr (rowL m (t :: l)).dropLast := by
      apply list_inj
      rw [app_list, piece_list, arr_list, arr_list, rowL_cons, List.dropLast_append_of_ne_nil hn]
    obtain ⟨k, rfl⟩ : ∃ j, k = j + 1 := ⟨k - 1, by omega⟩
    rw [e, piecesL, if_neg (by rw [ByteArray.size_append, piece_size]; omega), cut_piece m s _ (hs s (by simp))]
    simp only []
    exact pieces_short m hm (t :: l) (by simp) k _ (fun s h => hs s (by simp [h])) (by rw [List.getLast_cons (by simp)] at h; exact h) (by omega)
theorem row_take (m : Nat) (l : List ByteArray) (i : Nat) (h : i < l.length) : arr (rowL m (l.take i)) ++ pieceB m l[i] = arr (rowL m (l.take (i + 1))) := by
  apply list_inj
  rw [app_list, arr_list, arr_list, piece_list, List.take_succ_eq_append_getElem h]
  unfold rowL
  rw [List.flatMap_append]
  simp
theorem row_size (m : Nat) : ∀ (l : List ByteArray), (∀ s ∈ l, s.size ≤ 100) → (arr (rowL m l)).size ≤ (100 + m) * l.length
  | [], _ => by simp [rowL, arr_size]
  | s :: l, h => by
    rw [row_cons, ByteArray.size_append, piece_size, List.length_cons, Nat.mul_add]
    have := row_size m l (fun s hs => h s (by simp [hs]))
    have := h s (by simp)
    omega
/-- Behind the pieces: one by one they are cut off again. -/
theorem loop1 (m : Nat) (hm : 0 < m) (hm2 : m ≤ 2) (l : List ByteArray) (hl : l.length ≤ 20) (hs : ∀ s ∈ l, s.size ≤ 100) :
    ∀ (d i k : Nat), i + d = l.length → d + 3 ≤ k → beadrolllaw01_OctetsRow.l1 k l (m : Int) (arr (rowL m l)) (arr (rowL m (l.drop i))) (i : Int) = some true := by
  have hp : 256 ≤ 256 ^ m := by obtain rfl | rfl : m = 1 ∨ m = 2 := by omega
                                all_goals decide
  have hf : ∀ s ∈ l, s.size < 256 ^ m := fun s h => by have := hs s h; omega
  have hr := row_size m l hs
  have hr2 : (100 + m) * l.length ≤ 102 * 20 := Nat.mul_le_mul (by omega) hl
  have hq : (m : Int) = 1 ∨ (m : Int) = 2 ∨ (m : Int) = 4 := by omega
  intro d
  induction d with
  | zero =>
    intro i k hi hk
    obtain ⟨k, rfl⟩ : ∃ j, k = j + 1 := ⟨k - 1, by omega⟩
    rw [beadrolllaw01_OctetsRow.l1, if_neg (by omega), List.drop_of_length_le (by omega)]
    have e0 : (arr (rowL m [])).toList = [] := by rw [show arr (rowL m []) = ⟨#[]⟩ from rfl]; exact none_list
    rw [e0]
    by_cases h0 : ((arr (rowL m l)).size : Int) = 0
    · rw [if_pos h0]; rfl
    · have hne : l ≠ [] := by intro h; rw [h] at h0; exact h0 rfl
      have hpos : 0 < l.length := List.length_pos_iff.mpr hne
      rw [if_neg h0, w64_id (by omega) (by omega), if_pos (by omega), if_pos (by omega), pieces_f _ _ (by rw [ByteArray.size_extract]; omega), Option.bind_some, if_pos rfl, w64_id (by omega) (by omega), if_pos (by omega : (0 : Int) ≤ (l.length : Int) - 1), if_pos (by omega : (l.length : Int) - 1 < (l.length : Int))]
      by_cases hc : 2 ≤ m ∨ (l.getLast hne).size ≠ 0
      · rw [if_pos ?_]
        have e : (arr (rowL m l)).extract 0 (((arr (rowL m l)).size : Int) - 1).toNat = arr (rowL m l).dropLast := by
          apply list_inj
          rw [ext_list, arr_list, arr_list, List.dropLast_eq_take, ← arr_size]
          congr 1
          omega
        rw [e]
        unfold piecesR
        rw [if_pos hq, Int.toNat_natCast, ← piecesL_at m hm _ [] (arr (rowL m l)).size (by rw [arr_size, arr_size, List.length_dropLast]; omega), pieces_short m hm l hne _ [] hf hc (Nat.le_refl _)]
      · have h1 : m = 1 := by omega
        have h2 : l.getLast hne = ⟨#[]⟩ := by
          apply list_inj
          have : (l.getLast hne).data.toList.length = 0 := by rw [size_list]; omega
          exact List.length_eq_zero_iff.mp this
        split
        · rfl
        · rw [if_pos (by omega), show (l.length : Int) - 1 = ((l.length - 1 : Nat) : Int) from by omega, rdo_at l _ (by omega), ← List.getLast_eq_getElem hne, h2, none_list]; rfl
  | succ d ih =>
    intro i k hi hk
    obtain ⟨k, rfl⟩ : ∃ j, k = j + 1 := ⟨k - 1, by omega⟩
    have hi' : i < l.length := by omega
    have hz : (arr (rowL m (l.drop i))).size ≤ (100 + m) * 20 := Nat.le_trans (row_size m (l.drop i) (fun s h => hs s (List.mem_of_mem_drop h))) (Nat.mul_le_mul (Nat.le_refl _) (by rw [List.length_drop]; omega))
    rw [beadrolllaw01_OctetsRow.l1, if_pos (by omega), cut_f _ _ (by omega), Option.bind_some]
    have e : cutR (arr (rowL m (l.drop i))) (m : Int) = (l[i], arr (rowL m (l.drop (i + 1))), 0) := by
      unfold cutR
      rw [if_pos hq, Int.toNat_natCast, List.drop_eq_getElem_cons hi', row_cons, cut_piece m l[i] _ (hf _ (List.getElem_mem _))]
    rw [e, if_pos rfl, if_pos (by omega), rdo_at l i hi', if_pos rfl, w64_id (by omega) (by omega)]
    exact ih (i + 1) k (by omega) (by omega)
theorem loop0 (m : Nat) (hm : 0 < m) (hm2 : m ≤ 2) (l : List ByteArray) (hl : l.length ≤ 20) :
    ∀ (d i k : Nat), i + d = l.length → d + 60 ≤ k → (∀ s ∈ l.take i, s.size ≤ 100) → beadrolllaw01_OctetsRow.l0 k l (m : Int) (arr (rowL m (l.take i))) (i : Int) = some true := by
  have hp : 256 ≤ 256 ^ m := by obtain rfl | rfl : m = 1 ∨ m = 2 := by omega
                                all_goals decide
  have hq : (m : Int) = 1 ∨ (m : Int) = 2 ∨ (m : Int) = 4 := by omega
  intro d
  induction d with
  | zero =>
    intro i k hi hk hs
    obtain ⟨k, rfl⟩ : ∃ j, k = j + 1 := ⟨k - 1, by omega⟩
    rw [List.take_of_length_le (by omega)] at hs ⊢
    have hr := row_size m l hs
    have hr2 : (100 + m) * l.length ≤ 102 * 20 := Nat.mul_le_mul (by omega) hl
    have hf : ∀ s ∈ l, s.size < 256 ^ m := fun s h => by have := hs s h; omega
    have e : piecesR (arr (rowL m l)) (m : Int) = (l, 0) := by
      unfold piecesR
      rw [if_pos hq, Int.toNat_natCast, pieces_row m hm l _ [] hf (Nat.le_refl _)]; rfl
    rw [beadrolllaw01_OctetsRow.l0, if_neg (by omega), pieces_f _ _ (by omega), Option.bind_some, e, if_pos rfl, texts_f l k (by omega) (by omega), Option.bind_some]
    obtain ⟨k, rfl⟩ : ∃ j, k = j + 1 := ⟨k - 1, by omega⟩
    rw [beadrolllaw01_OctetsRow.j3, if_neg (by decide)]
    exact loop1 m hm hm2 l hl hs l.length 0 k (by omega) (by omega)
  | succ d ih =>
    intro i k hi hk hs
    obtain ⟨k, rfl⟩ : ∃ j, k = j + 1 := ⟨k - 1, by omega⟩
    have hi' : i < l.length := by omega
    rw [beadrolllaw01_OctetsRow.l0, if_pos (by omega), if_pos (by omega), rdo_at l i hi']
    by_cases hbig : (l[i].size : Int) > 100
    · rw [if_pos hbig]
    · have hz : (arr (rowL m (l.take i))).size ≤ (100 + m) * 20 := Nat.le_trans (row_size m _ hs) (Nat.mul_le_mul (Nat.le_refl _) (by rw [List.length_take]; omega))
      have e : pieceR l[i] (m : Int) = (pieceB m l[i], 0) := by
        unfold pieceR
        rw [if_pos hq, Int.toNat_natCast, if_pos (by omega)]
      rw [if_neg hbig, piece_f _ _ k (by omega) (by omega), Option.bind_some, e, if_pos rfl, if_pos (by simp only [piece_size]; omega), row_take m l i hi', w64_id (by omega) (by omega)]
      refine ih (i + 1) k (by omega) (by omega) ?_
      rw [List.take_succ_eq_append_getElem hi']
      intro s h
      rcases List.mem_append.mp h with h | h
      · exact hs s h
      · rw [List.mem_singleton.mp h]; omega
theorem OctetsRow (l : List ByteArray) (b : Bool) (_hm : l.length ≤ maxLen) (_hs : ∀ s ∈ l, s.size ≤ maxLen) : ∃ k, beadrolllaw01_OctetsRow.f k l b = some true := by
  refine ⟨102, ?_⟩
  unfold beadrolllaw01_OctetsRow.f
  rw [awake01_f, Option.bind_some, if_pos rfl]
  by_cases h1 : (l.length : Int) > 20
  · rw [decide_eq_true h1, beadrolllaw01_OctetsRow.j0, if_pos rfl, awake01_f]; rfl
  · rw [decide_eq_false h1, beadrolllaw01_OctetsRow.j0, if_neg (by simp)]
    cases b with
    | true => rw [if_pos rfl, beadrolllaw01_OctetsRow.j1]; exact loop0 2 (by decide) (by decide) l (by omega) l.length 0 100 (by omega) (by omega) (by simp)
    | false => rw [if_neg (by decide), beadrolllaw01_OctetsRow.j1]; exact loop0 1 (by decide) (by decide) l (by omega) l.length 0 100 (by omega) (by omega) (by simp)

end Go.Proofs.Ythcbgoldkoobdaa.Pure
