import Derived.Test.YthcbgoldkoobdaaFrameFacts
namespace Go.Proofs.Ythcbgoldkoobdaa.OctFacts
open Go.RowKit Go.Proofs.Ythcbgoldkoobdaa.POct Go.Proofs.YthcbgoldkoobdaaW.PrintWords Go.Proofs.YthcbgoldkoobdaaW.PrintLast Go.Proofs.YthcbgoldkoobdaaW.PrintMore Go.Proofs.Ythcbgoldkoobdaa.Given Go.Proofs.Ythcbgoldkoobdaa.Oct
open Go.Proofs.Ythcbgoldkoobdaa.Crc hiding arr arr_size
set_option linter.unusedVariables false
set_option linter.unusedSimpArgs false

theorem firstR_ok {r : ByteArray} (h : (firstR r).2.2 = 0) : ∃ n : Nat, (firstR r).2.1 = (n : Int) ∧ 8 ≤ n ∧ n ≤ r.size := by
  unfold firstR at h ⊢
  by_cases h8 : r.size < 8
  · rw [if_pos h8] at h; exact absurd h (by decide)
  · rw [if_neg h8] at h ⊢
    by_cases h1 : beN (r.data.toList.take 4) > 16777216 ∨ beN (r.data.toList.take 4) > r.size - 8
    · rw [if_pos h1] at h; exact absurd h (by decide)
    · rw [if_neg h1] at h ⊢
      split at h
      · rename_i hf
        rw [if_pos hf]
        exact ⟨_, rfl, by omega, by omega⟩
      · exact absurd h (by decide)
/-- The frames that bytes begin with, and where they end. -/
def scanS : Nat → ByteArray → List ByteArray × Nat
  | 0, _ => ([], 0)
  | d + 1, r => if (firstR r).2.2 = 0 then ((firstR r).1 :: (scanS d (r.extract (firstR r).2.1.toNat r.size)).1, (firstR r).2.1.toNat + (scanS d (r.extract (firstR r).2.1.toNat r.size)).2) else ([], 0)
theorem scanS_stop {r : ByteArray} (h : (firstR r).2.2 ≠ 0) : ∀ d, scanS d r = ([], 0)
  | 0 => rfl
  | d + 1 => by rw [scanS, if_neg h]
theorem small_stop {r : ByteArray} (h : r.size < 8) : (firstR r).2.2 ≠ 0 := by unfold firstR; rw [if_pos h]; decide
theorem scanS_more : ∀ (d : Nat) (r : ByteArray), r.size ≤ d → scanS (d + 1) r = scanS d r
  | 0, r, h => by rw [scanS_stop (small_stop (by omega)), scanS_stop (small_stop (by omega))]
  | d + 1, r, h => by
    by_cases hf : (firstR r).2.2 = 0
    · obtain ⟨n, hn, h8, hle⟩ := firstR_ok hf
      rw [scanS, if_pos hf, hn, Int.toNat_natCast, scanS_more d _ (by rw [drop_size]; omega), scanS, if_pos hf, hn, Int.toNat_natCast]
    · rw [scanS_stop hf, scanS_stop hf]
theorem scanS_up (r : ByteArray) (d : Nat) (h : r.size ≤ d) : ∀ j, scanS (d + j) r = scanS d r
  | 0 => rfl
  | j + 1 => by rw [← Nat.add_assoc, scanS_more _ r (by omega), scanS_up r d h j]
theorem scanS_at (r : ByteArray) (d e : Nat) (h : r.size ≤ d) (he : r.size ≤ e) : scanS d r = scanS e r := by
  by_cases hde : d ≤ e
  · have := scanS_up r d h (e - d); rw [show d + (e - d) = e from by omega] at this; exact this.symm
  · have := scanS_up r e he (d - e); rw [show e + (d - e) = d from by omega] at this; exact this
theorem scanS_size : ∀ (d : Nat) (r : ByteArray), (scanS d r).2 ≤ r.size ∧ (scanS d r).1.length ≤ d
  | 0, r => ⟨Nat.zero_le _, Nat.le_refl _⟩
  | d + 1, r => by
    by_cases hf : (firstR r).2.2 = 0
    · obtain ⟨n, hn, h8, hle⟩ := firstR_ok hf
      have := scanS_size d (r.extract n r.size)
      rw [drop_size] at this
      rw [scanS, if_pos hf, hn, Int.toNat_natCast]
      simp only [List.length_cons]
      omega
    · rw [scanS_stop hf]; simp
theorem drop_drop (b : ByteArray) (i n : Nat) : (b.extract i b.size).extract n (b.extract i b.size).size = b.extract (i + n) b.size := by
  apply list_inj; rw [drop_list, drop_list, drop_list, List.drop_drop]
theorem scan_at (b : ByteArray) (hb : b.size ≤ 10000000) : ∀ (d i k : Nat) (acc : List ByteArray), i ≤ b.size → b.size - i ≤ d → d + 10 * b.size + 300 ≤ k → acc.length + d ≤ 100000000 →
    frame_Scan.l0 k b acc (i : Int) = some (acc ++ (scanS d (b.extract i b.size)).1, ((i + (scanS d (b.extract i b.size)).2 : Nat) : Int)) := by
  intro d
  induction d with
  | zero =>
    intro i k acc hi hd hk ha
    obtain ⟨k, rfl⟩ : ∃ j, k = j + 1 := ⟨k - 1, by omega⟩
    rw [frame_Scan.l0, if_neg (by omega), scanS]
    simp
  | succ d ih =>
    intro i k acc hi hd hk ha
    obtain ⟨k, rfl⟩ : ∃ j, k = j + 1 := ⟨k - 1, by omega⟩
    rw [frame_Scan.l0]
    by_cases hlt : i < b.size
    · rw [if_pos (by omega), if_pos (by omega), if_pos (by omega), Int.toNat_natCast, first_f _ k (by rw [drop_size]; omega) (by omega), Option.bind_some]
      by_cases hf : (firstR (b.extract i b.size)).2.2 = 0
      · obtain ⟨n, hn, h8, hle⟩ := firstR_ok hf
        rw [drop_size] at hle
        rw [if_pos hf, if_pos (by omega), hn, w64_id (by omega) (by omega)]
        rw [show (i : Int) + (n : Int) = ((i + n : Nat) : Int) from by omega, ih (i + n) k _ (by omega) (by omega) (by omega) (by simp; omega), scanS, if_pos hf, hn, Int.toNat_natCast, drop_drop]
        simp only [List.append_assoc, List.singleton_append, Nat.add_assoc]
      · rw [if_neg hf, scanS_stop hf]; simp
    · rw [if_neg (by omega), scanS_stop (small_stop (by rw [drop_size]; omega))]; simp
theorem all_bytes (b : ByteArray) : b.extract 0 b.size = b := by apply list_inj; rw [drop_list]; rfl
theorem scan_f (b : ByteArray) (k : Nat) (hb : b.size ≤ 10000000) (hk : 11 * b.size + 300 ≤ k) : frame_Scan.f k b = some ((scanS b.size b).1, ((scanS b.size b).2 : Int)) := by
  unfold frame_Scan.f
  have := scan_at b hb b.size 0 k [] (by omega) (by omega) (by omega) (by simp; omega)
  rw [all_bytes, List.nil_append, Nat.zero_add] at this
  exact this
theorem rscan_at (b : ByteArray) (hb : b.size ≤ 10000000) : ∀ (d i k : Nat) (acc : List ByteArray), i ≤ b.size → b.size - i ≤ d → d + 10 * b.size + 300 ≤ k → acc.length + d ≤ 100000000 →
    beadrollref06_Scan.l0 k b acc (i : Int) = some (acc ++ (scanS d (b.extract i b.size)).1, ((i + (scanS d (b.extract i b.size)).2 : Nat) : Int)) := by
  intro d
  induction d with
  | zero =>
    intro i k acc hi hd hk ha
    obtain ⟨k, rfl⟩ : ∃ j, k = j + 1 := ⟨k - 1, by omega⟩
    rw [beadrollref06_Scan.l0, if_neg (by omega), scanS]
    simp
  | succ d ih =>
    intro i k acc hi hd hk ha
    obtain ⟨k, rfl⟩ : ∃ j, k = j + 1 := ⟨k - 1, by omega⟩
    rw [beadrollref06_Scan.l0]
    by_cases hlt : i < b.size
    · rw [if_pos (by omega), if_pos (by omega), if_pos (by omega), Int.toNat_natCast, rfirst_f _ k (by rw [drop_size]; omega) (by rw [drop_size]; omega), Option.bind_some]
      by_cases hf : (firstR (b.extract i b.size)).2.2 = 0
      · obtain ⟨n, hn, h8, hle⟩ := firstR_ok hf
        rw [drop_size] at hle
        rw [if_pos hf, if_pos (by omega), hn, w64_id (by omega) (by omega)]
        rw [show (i : Int) + (n : Int) = ((i + n : Nat) : Int) from by omega, ih (i + n) k _ (by omega) (by omega) (by omega) (by simp; omega), scanS, if_pos hf, hn, Int.toNat_natCast, drop_drop]
        simp only [List.append_assoc, List.singleton_append, Nat.add_assoc]
      · rw [if_neg hf, scanS_stop hf]; simp
    · rw [if_neg (by omega), scanS_stop (small_stop (by rw [drop_size]; omega))]; simp
theorem rscan_f (b : ByteArray) (k : Nat) (hb : b.size ≤ 10000000) (hk : 11 * b.size + 300 ≤ k) : beadrollref06_Scan.f k b = some ((scanS b.size b).1, ((scanS b.size b).2 : Int)) := by
  unfold beadrollref06_Scan.f
  have := rscan_at b hb b.size 0 k [] (by omega) (by omega) (by omega) (by simp; omega)
  rw [all_bytes, List.nil_append, Nat.zero_add] at this
  exact this

/-! ### frames behind each other -/
theorem first_frame (s r : ByteArray) (hs : s.size ≤ 16777216) : firstR (frameB s ++ r) = (s, ((8 + s.size : Nat) : Int), 0) := by
  have hl : (frameB s ++ r).data.toList = beB 4 s.size ++ (beB 4 (sumN 0 (beB 4 s.size ++ s.data.toList)) ++ (s.data.toList ++ r.data.toList)) := by
    rw [app_list]; unfold frameB frameL; rw [arr_list, size_list]; simp only [List.append_assoc]
  have hz : (frameB s ++ r).size = 8 + s.size + r.size := by rw [ByteArray.size_append, frame_size]
  have ht : beN ((frameB s ++ r).data.toList.take 4) = s.size := by
    rw [hl, List.take_left' (beB_len _ _), beN_beB, Nat.mod_eq_of_lt (by show s.size < 256 ^ 4; omega)]
  have he : (frameB s ++ r).extract 8 (8 + s.size) = s := by
    apply list_inj
    have e8 : (beB 4 s.size ++ beB 4 (sumN 0 (beB 4 s.size ++ s.data.toList))).length = 8 := by rw [List.length_append, beB_len, beB_len]
    rw [mid_list, hl, ← List.append_assoc, List.drop_left' e8, List.take_left' (size_list _)]
  have h0 : (frameB s ++ r).extract 0 (8 + s.size) = frameB s := by
    apply list_inj
    rw [ext_list, app_list, List.take_left' (by rw [size_list, frame_size])]
  unfold firstR
  rw [if_neg (by omega), ht, if_neg (by omega), he, h0, if_pos rfl]
theorem scan_frame (s r : ByteArray) (hs : s.size ≤ 16777216) (d : Nat) : scanS (d + 1) (frameB s ++ r) = (s :: (scanS d r).1, 8 + s.size + (scanS d r).2) := by
  have e : (frameB s ++ r).extract (8 + s.size) (frameB s ++ r).size = r := by
    apply list_inj
    rw [drop_list, app_list, List.drop_left' (by rw [size_list, frame_size])]
  rw [scanS, first_frame s r hs, if_pos rfl]
  simp only [Int.toNat_natCast, e]
def filesB (l : List ByteArray) : ByteArray := arr (l.flatMap fun s => frameL s.data.toList)
theorem files_cons (s : ByteArray) (l : List ByteArray) : filesB (s :: l) = frameB s ++ filesB l := by
  apply list_inj
  unfold filesB frameB
  rw [app_list, arr_list, arr_list, arr_list, List.flatMap_cons]
theorem files_nil : filesB [] = ⟨#[]⟩ := rfl
theorem files_app (l m : List ByteArray) : filesB (l ++ m) = filesB l ++ filesB m := by
  apply list_inj
  unfold filesB
  rw [app_list, arr_list, arr_list, arr_list, List.flatMap_append]
theorem files_one (s : ByteArray) : filesB [s] = frameB s := by
  apply list_inj
  unfold filesB frameB
  rw [arr_list, arr_list]; simp
theorem nil_app (r : ByteArray) : (⟨#[]⟩ : ByteArray) ++ r = r := by apply list_inj; rw [app_list]; rfl
theorem app_nil (r : ByteArray) : r ++ (⟨#[]⟩ : ByteArray) = r := by apply list_inj; rw [app_list]; simp
theorem app_app (a b c : ByteArray) : a ++ b ++ c = a ++ (b ++ c) := by apply list_inj; simp only [app_list, List.append_assoc]
theorem scan_files (r : ByteArray) : ∀ (l : List ByteArray) (d : Nat), (∀ s ∈ l, s.size ≤ 16777216) → (filesB l).size + r.size ≤ d → scanS d (filesB l ++ r) = (l ++ (scanS r.size r).1, (filesB l).size + (scanS r.size r).2)
  | [], d, hs, hd => by
    rw [files_nil, nil_app, List.nil_append, scanS_at r d r.size (by omega) (Nat.le_refl _), show (⟨#[]⟩ : ByteArray).size = 0 from rfl, Nat.zero_add]
  | s :: l, d, hs, hd => by
    have hz : (filesB (s :: l)).size = 8 + s.size + (filesB l).size := by rw [files_cons, ByteArray.size_append, frame_size]
    obtain ⟨d, rfl⟩ : ∃ j, d = j + 1 := ⟨d - 1, by omega⟩
    rw [hz, files_cons, app_app, scan_frame s _ (hs s (by simp)) d, scan_files r l d (fun s h => hs s (by simp [h])) (by omega)]
    simp only [List.cons_append, Nat.add_assoc]
theorem part_stop (s : ByteArray) (hs : s.size ≤ 16777216) (m : Nat) (hm : m < 8 + s.size) : (firstR (arr ((frameL s.data.toList).take m))).2.2 ≠ 0 := by
  have hl := frameL_len s.data.toList
  rw [size_list] at hl
  have hz : (arr ((frameL s.data.toList).take m)).size = m := by rw [arr_size, List.length_take, hl]; omega
  by_cases h8 : m < 8
  · exact small_stop (by omega)
  · have ht : beN ((arr ((frameL s.data.toList).take m)).data.toList.take 4) = s.size := by
      rw [arr_list, List.take_take, Nat.min_eq_left (by omega)]
      unfold frameL
      rw [size_list, List.take_left' (beB_len _ _), beN_beB, Nat.mod_eq_of_lt (by show s.size < 256 ^ 4; omega)]
    unfold firstR
    rw [if_neg (by omega), ht, if_pos (by omega)]
    decide
theorem scan_nil : scanS 0 (⟨#[]⟩ : ByteArray) = ([], 0) := rfl
theorem files_size : ∀ (l : List ByteArray), (∀ s ∈ l, s.size ≤ 100) → (filesB l).size ≤ 108 * l.length
  | [], _ => by rw [files_nil]; exact Nat.zero_le _
  | s :: l, h => by
    rw [files_cons, ByteArray.size_append, frame_size, List.length_cons]
    have := files_size l (fun s hs => h s (by simp [hs]))
    have := h s (by simp)
    omega
theorem files_take (l : List ByteArray) (i : Nat) (h : i < l.length) : filesB (l.take i) ++ frameB l[i] = filesB (l.take (i + 1)) := by
  rw [List.take_succ_eq_append_getElem h, files_app, files_one]
end Go.Proofs.Ythcbgoldkoobdaa.OctFacts
