/- The pure statement of the law DottedBack. -/
import Derived.Test.YthhbddmokgbdkaaDotRead
namespace Go.Proofs.Ythhbddmokgbdkaa.Pure
open Go.RowKit Go.Proofs.Ythhbddmokgbdkaa.PNam Go.Proofs.YthhbddmokgbdkaaW.PrintWords Go.Proofs.YthhbddmokgbdkaaW.PrintLast Go.Proofs.YthhbddmokgbdkaaW.PrintMore Go.Proofs.Ythhbddmokgbdkaa.Given Go.Proofs.Ythhbddmokgbdkaa.Oct Go.Proofs.Ythhbddmokgbdkaa.Name Go.Proofs.Ythhbddmokgbdkaa.NameFacts Go.Proofs.Ythhbddmokgbdkaa.Dot Go.Proofs.Ythhbddmokgbdkaa.DotFacts
theorem dig_nat0 (c : UInt8) : (dig c 0).toNat = 48 + c.toNat / 100 := by
  have := UInt8.toNat_lt c
  rw [dig, UInt8.toNat_ofNat']; omega
theorem dig_nat1 (c : UInt8) : (dig c 1).toNat = 48 + c.toNat / 10 % 10 := by
  have := UInt8.toNat_lt c
  rw [dig, UInt8.toNat_ofNat']; omega
theorem dig_nat2 (c : UInt8) : (dig c 2).toNat = 48 + c.toNat % 10 := by
  have := UInt8.toNat_lt c
  rw [dig, UInt8.toNat_ofNat'] <;> omega
theorem dig_isd (c : UInt8) : isd (dig c 0) = true ∧ isd (dig c 1) = true ∧ isd (dig c 2) = true := by
  have := UInt8.toNat_lt c
  have h0 := dig_nat0 c
  have h1 := dig_nat1 c
  have h2 := dig_nat2 c
  exact ⟨decide_eq_true (by omega), decide_eq_true (by omega), decide_eq_true (by omega)⟩
theorem dig_val (c : UInt8) : val3 (dig c 0) (dig c 1) (dig c 2) = c.toNat := by
  have := UInt8.toNat_lt c
  have h0 := dig_nat0 c
  have h1 := dig_nat1 c
  have h2 := dig_nat2 c
  unfold val3; omega
theorem esc_digs (c : UInt8) (rest : List UInt8) : esc (dig c 0 :: dig c 1 :: dig c 2 :: rest) = some (c, 3) := by
  have h := dig_isd c
  have hc := UInt8.toNat_lt c
  rw [esc_three _ _ _ h.1, if_pos ⟨h.2.1, h.2.2, by rw [dig_val]; omega⟩, dig_val]
  congr 2
  apply UInt8.toNat_inj.mp
  rw [UInt8.toNat_ofNat']; omega
/-- The text of each byte is recognized by itself. -/
theorem read_byte (c : UInt8) (k : Nat) (rest : List UInt8) (out : List ByteArray) (lab : List UInt8) : readL (k + 1) (textB c ++ rest) out lab = readL k rest out (lab ++ [c]) := by
  unfold textB
  by_cases h1 : c.toNat = 46 ∨ c.toNat = 92
  · rw [if_pos h1]
    show readL (k + 1) (92 :: c :: rest) out lab = _
    rw [readL, if_neg (by decide), if_pos (by decide), esc_other rest (decide_eq_false (by omega))]
    rfl
  · rw [if_neg h1]
    by_cases h2 : 33 ≤ c.toNat ∧ c.toNat ≤ 126
    · rw [if_pos h2]
      show readL (k + 1) (c :: rest) out lab = _
      rw [readL, if_neg (by omega), if_neg (by omega)]
    · rw [if_neg h2]
      show readL (k + 1) (92 :: dig c 0 :: dig c 1 :: dig c 2 :: rest) out lab = _
      rw [readL, if_neg (by decide), if_pos (by decide), esc_digs]
      rfl
theorem read_label : ∀ (s : List UInt8) (k : Nat) (rest : List UInt8) (out : List ByteArray) (lab : List UInt8), readL (k + s.length) (s.flatMap textB ++ rest) out lab = readL k rest out (lab ++ s)
  | [], k, rest, out, lab => by simp
  | c :: s, k, rest, out, lab => by
    rw [List.flatMap_cons, List.append_assoc, List.length_cons, ← Nat.add_assoc, read_byte, read_label s k rest out (lab ++ [c])]
    simp
theorem text_pos (c : UInt8) : 1 ≤ (textB c).length := by
  unfold textB; split
  · simp
  · split <;> simp
theorem flat_ge : ∀ (s : List UInt8), s.length ≤ (s.flatMap textB).length
  | [] => Nat.le_refl _
  | c :: s => by
    rw [List.flatMap_cons, List.length_append, List.length_cons]
    have := text_pos c
    have := flat_ge s
    omega
theorem read_all : ∀ (l : List ByteArray) (K : Nat) (out : List ByteArray), good l → (bodyT l).length + 1 ≤ K → out ++ l ≠ [] → readL K (bodyT l) out [] = some (out ++ l)
  | [], K, out, hg, hK, hne => by
    obtain ⟨k, rfl⟩ : ∃ j, K = j + 1 := ⟨K - 1, by omega⟩
    rw [List.append_nil] at hne ⊢
    rw [bodyT, readL, if_pos ⟨rfl, hne⟩]
  | s :: l, K, out, hg, hK, hne => by
    have h1 := flat_ge s.data.toList
    have hs := (hg s (by simp)).1
    have hsne : s.data.toList ≠ [] := by intro h; have := size_list s; rw [h] at this; simp at this; omega
    rw [bodyT] at hK ⊢
    simp only [List.length_append, List.length_singleton] at hK
    obtain ⟨k, rfl⟩ : ∃ j, K = (j + 1) + s.data.toList.length := ⟨K - s.data.toList.length - 1, by omega⟩
    rw [List.append_assoc, read_label, List.nil_append]
    show readL (k + 1) (46 :: bodyT l) out s.data.toList = _
    rw [readL, if_pos (by decide), if_neg hsne, arr_of, read_all l k (out ++ [s]) (fun x hx => hg x (by simp [hx])) (by omega) (by simp)]
    simp
theorem body_end : ∀ (s : ByteArray) (l : List ByteArray), ∃ pre, bodyT (s :: l) = pre ++ [46]
  | s, [] => ⟨s.data.toList.flatMap textB, by rw [bodyT, bodyT, List.append_nil]⟩
  | s, t :: l => by
    obtain ⟨pre, h⟩ := body_end t l
    exact ⟨s.data.toList.flatMap textB ++ [46] ++ pre, by rw [bodyT, h, ← List.append_assoc]⟩
theorem text_range (c : UInt8) : ∀ b ∈ textB c, 33 ≤ b.toNat ∧ b.toNat ≤ 126 := by
  intro b hb
  have hc := UInt8.toNat_lt c
  unfold textB at hb
  split at hb
  · rename_i h
    simp at hb
    rcases hb with rfl | rfl
    · exact ⟨by decide, by decide⟩
    · omega
  · split at hb
    · rename_i h
      simp at hb
      rw [hb]; exact h
    · simp at hb
      have h0 := dig_nat0 c
      have h1 := dig_nat1 c
      have h2 := dig_nat2 c
      rcases hb with rfl | rfl | rfl | rfl
      · exact ⟨by decide, by decide⟩
      · omega
      · omega
      · omega
theorem body_range : ∀ (l : List ByteArray), ∀ b ∈ bodyT l, 33 ≤ b.toNat ∧ b.toNat ≤ 126
  | [], b, h => by simp [bodyT] at h
  | s :: l, b, h => by
    rw [bodyT] at h
    rcases List.mem_append.mp h with h | h
    · rcases List.mem_append.mp h with h | h
      · obtain ⟨c, _, hc⟩ := List.mem_flatMap.mp h
        exact text_range c b hc
      · rw [List.mem_singleton.mp h]; exact ⟨by decide, by decide⟩
    · exact body_range l b h
theorem text_facts (l : List ByteArray) (hg : good l) (hs : (nameB l).size ≤ 255) :
    ∃ pre : List UInt8, textL l = arr (pre ++ [46]) ∧ (∀ b ∈ pre ++ [46], 33 ≤ b.toNat ∧ b.toNat ≤ 126) ∧ (pre ++ [46]).length ≤ 1020 ∧ readR (textL l) = (nameB l, 0) := by
  cases l with
  | nil => exact ⟨[], rfl, by intro b hb; rw [List.mem_singleton.mp hb]; exact ⟨by decide, by decide⟩, by simp, by kernel_rfl⟩
  | cons s t =>
    obtain ⟨pre, h⟩ := body_end s t
    have hl := body_len (s :: t)
    refine ⟨pre, by rw [← h]; rfl, by rw [← h]; exact body_range _, by rw [← h]; omega, ?_⟩
    show readR (arr (bodyT (s :: t))) = _
    have h2 : ¬ bodyT (s :: t) = [46] := by
      intro e
      have hz := (hg s (by simp)).1
      have h3 := flat_ge s.data.toList
      rw [size_list] at h3
      have h4 := congrArg List.length e
      rw [bodyT] at h4
      simp only [List.length_append, List.length_singleton] at h4
      omega
    unfold readR
    rw [arr_list, if_neg h2, arr_size, read_all (s :: t) _ [] hg (by omega) (by simp), List.nil_append]
    exact of_good hg hs
theorem back_off8 (n : ByteArray) (k : Nat) : beadrolllaw08_DottedBack.j0 (k + 1) n true = some true := by
  rw [beadrolllaw08_DottedBack.j0, if_pos rfl, awake08_f]; rfl
theorem back_run (n : ByteArray) (pre : List UInt8) (hr : ∀ b ∈ pre ++ [46], 33 ≤ b.toNat ∧ b.toNat ≤ 126) (hl : (pre ++ [46]).length ≤ 1020) : ∀ (d i k : Nat), i + d = (pre ++ [46]).length → d + 1 ≤ k →
    beadrolllaw08_DottedBack.l0 k n (arr (pre ++ [46])) n 0 (i : Int) = some true := by
  have hlen : (pre ++ [46]).length = pre.length + 1 := by simp
  intro d
  induction d with
  | zero =>
    intro i k hi hk
    obtain ⟨k, rfl⟩ : ∃ j, k = j + 1 := ⟨k - 1, by omega⟩
    have hb := bt_arr (pre ++ [46]) pre.length (by omega)
    have he : (pre ++ [46])[pre.length]'(by omega) = (46 : UInt8) := by simp
    rw [he] at hb
    rw [beadrolllaw08_DottedBack.l0, arr_size, if_neg (by omega), if_pos rfl, if_pos rfl, if_pos (by omega), w64_id (by omega) (by omega), if_pos (by omega), if_pos (by omega), hlen, show (((pre.length + 1 : Nat) : Int) - 1) = ((pre.length : Nat) : Int) from by omega, hb]
    rfl
  | succ d ih =>
    intro i k hi hk
    obtain ⟨k, rfl⟩ : ∃ j, k = j + 1 := ⟨k - 1, by omega⟩
    have hil : i < (pre ++ [46]).length := by omega
    have hm := hr _ (List.getElem_mem hil)
    rw [beadrolllaw08_DottedBack.l0, if_pos (by rw [arr_size]; omega), if_pos (by omega), bt_arr _ i hil, if_neg (by omega), if_neg (by omega), w64_id (by omega) (by omega)]
    exact ih (i + 1) k (by omega) (by omega)
theorem DottedBack : beadrolllaw08_DottedBack.Pure := by
  intro n w0
  refine ⟨20001, ?_⟩
  unfold beadrolllaw08_DottedBack.f
  rw [awake08_f, Option.bind_some, if_pos rfl, rright_f n 20001 (by omega), Option.bind_some]
  cases h : rightB n with
  | false => exact back_off8 n _
  | true =>
    obtain ⟨l, hg, rfl, hs⟩ := (right_iff n).mp h
    obtain ⟨pre, h1, h2, h3, h4⟩ := text_facts l hg hs
    show beadrolllaw08_DottedBack.j0 20001 (nameB l) false = _
    rw [beadrolllaw08_DottedBack.j0, if_neg (by decide), text_f, Option.bind_some, text_name l hg hs, read_f _ 20000 (by rw [h1, arr_size]; omega) (by rw [h1, arr_size]; omega), Option.bind_some, h4, h1]
    exact back_run (nameB l) pre h2 h3 (pre ++ [46]).length 0 20000 (by omega) (by omega)
end Go.Proofs.Ythhbddmokgbdkaa.Pure
