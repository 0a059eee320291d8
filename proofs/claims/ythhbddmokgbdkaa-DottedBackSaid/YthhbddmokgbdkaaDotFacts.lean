/- The text of a name: what the program and its reference return. -/
import Derived.Test.YthhbddmokgbdkaaNameFacts3
import Derived.Test.YthhbddmokgbdkaaDotText
namespace Go.Proofs.Ythhbddmokgbdkaa.DotFacts
open Go.RowKit Go.Proofs.Ythhbddmokgbdkaa.PNam Go.Proofs.YthhbddmokgbdkaaW.PrintWords Go.Proofs.YthhbddmokgbdkaaW.PrintLast Go.Proofs.YthhbddmokgbdkaaW.PrintMore Go.Proofs.Ythhbddmokgbdkaa.Given Go.Proofs.Ythhbddmokgbdkaa.Oct Go.Proofs.Ythhbddmokgbdkaa.Name Go.Proofs.Ythhbddmokgbdkaa.NameFacts Go.Proofs.Ythhbddmokgbdkaa.Dot
set_option linter.unusedVariables false
set_option linter.unusedSimpArgs false
/-- The text of some labels, or the root's. -/
def textL (l : List ByteArray) : ByteArray := match l with | [] => ⟨#[46]⟩ | s :: t => arr (bodyT (s :: t))
theorem text_name (l : List ByteArray) (hg : good l) (hs : (nameB l).size ≤ 255) : textR (nameB l) = textL l := by
  unfold textR
  rw [right_name hg hs, if_pos rfl, labs_name l hg, pairs_fst]; rfl
theorem text_f (n : ByteArray) : dotted_Text.f n = some (textR n) := rfl
theorem awake08_f : beadrolllaw08_awake.f = some true := by
  have e : (⟨#[3, 119, 119, 119, 0]⟩ : ByteArray) = nameB [(⟨#[119, 119, 119]⟩ : ByteArray)] := by kernel_rfl
  have hs : (nameB [(⟨#[119, 119, 119]⟩ : ByteArray)]).size ≤ 255 := by rw [← e]; decide
  unfold beadrolllaw08_awake.f
  rw [e, text_f, text_name _ www_good hs, Option.bind_some, ByteArray.toList_eq]
  rfl
theorem one_byte (c : UInt8) : strOfNums ([(c.toNat : Int)] : List Int) = arr [c] := str_bnums [c]
theorem dig_nums (c : UInt8) : ([(48 + ((Int.tdiv (c.toNat : Int) 100) % 256)) % 256, 48 + (((Int.tdiv (c.toNat : Int) 10) % 256) % 10), (48 + (Int.tmod (c.toNat : Int) 10)) % 256] : List Int) = bnums [dig c 0, dig c 1, dig c 2] := by
  have hc := UInt8.toNat_lt c
  rw [Int.tdiv_eq_ediv_of_nonneg (by omega), Int.tdiv_eq_ediv_of_nonneg (by omega), Int.tmod_eq_emod_of_nonneg (by omega)]
  show _ = [((dig c 0).toNat : Int), ((dig c 1).toNat : Int), ((dig c 2).toNat : Int)]
  have e0 : (dig c 0).toNat = 48 + c.toNat / 100 := by rw [dig, UInt8.toNat_ofNat']; omega
  have e1 : (dig c 1).toNat = 48 + c.toNat / 10 % 10 := by rw [dig, UInt8.toNat_ofNat']; omega
  have e2 : (dig c 2).toNat = 48 + c.toNat % 10 := by rw [dig, UInt8.toNat_ofNat'] <;> omega
  rw [e0, e1, e2]
  congr 1
  · omega
  · congr 1
    · omega
    · congr 1; omega
theorem byteText_f (c : UInt8) (k : Nat) (hk : 1 ≤ k) : beadrollref08_byteText.f k (c.toNat : Int) = some (arr (textB c)) := by
  obtain ⟨k, rfl⟩ : ∃ j, k = j + 1 := ⟨k - 1, by omega⟩
  have hc := UInt8.toNat_lt c
  have hq : (⟨#[92]⟩ : ByteArray) = arr [92] := rfl
  unfold beadrollref08_byteText.f textB
  by_cases h1 : c.toNat = 46
  · rw [if_pos (by omega), beadrollref08_byteText.j0, if_pos rfl, Option.bind_some, one_byte, if_pos (by rw [arr_size]; simp), if_pos (.inl h1), hq, arr_app]; rfl
  · rw [if_neg (by omega)]
    by_cases h2 : c.toNat = 92
    · rw [show (((c.toNat : Nat) : Int) == 92) = true from by rw [beq_iff_eq]; omega, beadrollref08_byteText.j0, if_pos rfl, Option.bind_some, one_byte, if_pos (by rw [arr_size]; simp), if_pos (.inr h2), hq, arr_app]; rfl
    · rw [show (((c.toNat : Nat) : Int) == 92) = false from by rw [beq_eq_false_iff_ne]; omega, beadrollref08_byteText.j0, if_neg (by decide), if_neg (by omega : ¬ (c.toNat = 46 ∨ c.toNat = 92)), dig_nums, one_byte]
      by_cases h3 : 33 ≤ c.toNat
      · rw [if_pos (by omega)]
        by_cases h4 : c.toNat ≤ 126
        · rw [if_pos (by omega), if_pos ⟨h3, h4⟩]
        · rw [if_neg (by omega), if_neg (by omega), Option.bind_some, str_bnums, if_pos (by rw [arr_size]; simp), hq, arr_app]; rfl
      · rw [if_neg (by omega), if_neg (by omega), Option.bind_some, str_bnums, if_pos (by rw [arr_size]; simp), hq, arr_app]; rfl
theorem rline_at (l : List ByteArray) (i : Nat) (hi : i < l.length) (hl : l.length ≤ 1000) (hsz : l[i].size ≤ 63) : ∀ (d j k : Nat) (pre : List UInt8), j + d = l[i].size → 1 ≤ k → pre.length + 4 * d ≤ 1000000 →
    beadrollref08_Text.l1 (k + d + 1) l (arr pre) (i : Int) (j : Int) = beadrollref08_Text.l0 k l (arr (pre ++ (l[i].data.toList.drop j).flatMap textB ++ [46])) ((i + 1 : Nat) : Int) := by
  intro d
  induction d with
  | zero =>
    intro j k pre hj hk hp
    rw [beadrollref08_Text.l1, if_pos (by omega), if_pos (by omega), rdo_at l i hi, if_neg (by omega), if_pos (by rw [arr_size]; omega), w64_id (by omega) (by omega), List.drop_of_length_le (by rw [size_list]; omega)]
    rw [show (⟨#[46]⟩ : ByteArray) = arr [46] from rfl, arr_app]
    simp
  | succ d ih =>
    intro j k pre hj hk hp
    have hlt : j < l[i].size := by omega
    rw [show k + (d + 1) + 1 = (k + d + 1) + 1 from by omega, beadrollref08_Text.l1, if_pos (by omega), if_pos (by omega), rdo_at l i hi, if_pos (by omega), if_pos (by omega), bt_list l[i] j hlt, byteText_f _ _ (by omega), Option.bind_some]
    have ht := text_len (l[i].data.toList[j]'(by rw [size_list]; exact hlt))
    rw [if_pos (by rw [arr_size, arr_size]; omega), arr_app, w64_id (by omega) (by omega)]
    rw [show ((j : Int) + 1) = ((j + 1 : Nat) : Int) from by omega, ih (j + 1) k _ (by omega) hk (by rw [List.length_append]; omega)]
    rw [List.drop_eq_getElem_cons (show j < l[i].data.toList.length by rw [size_list]; exact hlt), List.flatMap_cons]
    simp
theorem rtext_at (l : List ByteArray) (hl : l.length ≤ 1000) (hs : ∀ s ∈ l, s.size ≤ 63) : ∀ (d i k : Nat) (pre : List UInt8), i + d = l.length → 70 * d + 1 ≤ k → pre.length + 300 * d ≤ 1000000 →
    beadrollref08_Text.l0 k l (arr pre) (i : Int) = some (arr (pre ++ bodyT (l.drop i))) := by
  intro d
  induction d with
  | zero =>
    intro i k pre hi hk hp
    obtain ⟨k, rfl⟩ : ∃ j, k = j + 1 := ⟨k - 1, by omega⟩
    rw [beadrollref08_Text.l0, if_neg (by omega), List.drop_of_length_le (by omega), bodyT, List.append_nil]
  | succ d ih =>
    intro i k pre hi hk hp
    have hil : i < l.length := by omega
    have hsz := hs _ (List.getElem_mem hil)
    obtain ⟨k, rfl⟩ : ∃ j, k = (j + l[i].size + 1) + 1 := ⟨k - l[i].size - 2, by omega⟩
    have hf := flat_len l[i].data.toList
    rw [size_list] at hf
    rw [beadrollref08_Text.l0, if_pos (by omega), show (0 : Int) = ((0 : Nat) : Int) from rfl, rline_at l i hil hl hsz l[i].size 0 k pre (by omega) (by omega) (by omega), ih (i + 1) k _ (by omega) (by omega) (by simp only [List.length_append, List.length_singleton, List.drop_zero]; omega), List.drop_zero, List.drop_eq_getElem_cons hil, bodyT]
    simp
theorem rtext_all (l : List ByteArray) (k : Nat) (hl : l.length ≤ 200) (hs : ∀ s ∈ l, s.size ≤ 63) (hk : 20000 ≤ k) : beadrollref08_Text.l0 k l (⟨#[]⟩ : ByteArray) 0 = some (arr (bodyT l)) := by
  have h := rtext_at l (by omega) hs l.length 0 k [] (by omega) (by omega) (by rw [List.length_nil]; omega)
  exact h
theorem rtext_f (n : ByteArray) (k : Nat) (hk : 20000 ≤ k) : beadrollref08_Text.f k n = some (textR n) := by
  unfold beadrollref08_Text.f
  cases h : rightB n with
  | false =>
    obtain ⟨m, e⟩ := rlabels_no n k h (by omega)
    rw [e, Option.bind_some, if_neg (by decide : ¬ false = true)]
    unfold textR; rw [h]; rfl
  | true =>
    obtain ⟨l, hg, rfl, hs⟩ := (right_iff n).mp h
    have hl := name_len l hg
    rw [rlabels_yes l k hg hs (by omega), Option.bind_some, if_pos rfl, text_name l hg hs]
    cases l with
    | nil => rfl
    | cons s t =>
      rw [if_neg (by show ¬ ((s :: t).length : Int) = 0; rw [List.length_cons]; omega)]
      exact rtext_all (s :: t) k (by omega) (fun x hx => (hg x hx).2) hk
end Go.Proofs.Ythhbddmokgbdkaa.DotFacts
