/- What makes names of labels, in the program and in its reference: one result for any labels. -/
import Derived.Test.YthhbddmokgbdkaaNameFacts
namespace Go.Proofs.Ythhbddmokgbdkaa.NameFacts
open Go.RowKit Go.Proofs.Ythhbddmokgbdkaa.PNam Go.Proofs.YthhbddmokgbdkaaW.PrintWords Go.Proofs.YthhbddmokgbdkaaW.PrintLast Go.Proofs.YthhbddmokgbdkaaW.PrintMore Go.Proofs.Ythhbddmokgbdkaa.Given Go.Proofs.Ythhbddmokgbdkaa.Oct Go.Proofs.Ythhbddmokgbdkaa.Name
set_option linter.unusedVariables false
set_option linter.unusedSimpArgs false

/-! ### a piece of width 1 -/
theorem shr_at (v i : Nat) (h : i < 8) : (shr .u64 (v : Int) (wrap64 (8 * (i : Int)))) % 256 = ((v / 256 ^ i % 256 : Nat) : Int) := by
  unfold shr
  rw [w64_id (by omega) (by omega)]
  rw [show (8 * (i : Int)).toNat = 8 * i from by omega, show IntKind.u64.bits = 64 from rfl, Nat.min_eq_left (by omega)]
  have h2 : (2 : Int) ^ (8 * i) = ((256 ^ i : Nat) : Int) := by
    rw [show (2 : Int) ^ (8 * i) = ((2 ^ (8 * i) : Nat) : Int) from (Int.natCast_pow 2 _).symm, Nat.pow_mul]
  rw [h2, ← Int.natCast_ediv]; omega
theorem obytes_at (v : Nat) : ∀ (i k : Nat) (acc : List UInt8), i < k → acc.length + i ≤ 8 → octets_bytes.l0 k (v : Int) (bnums acc) ((i : Int) - 1) = some (bnums (acc ++ beB i v)) := by
  intro i
  induction i with
  | zero =>
    intro k acc hk ha
    obtain ⟨k, rfl⟩ : ∃ j, k = j + 1 := ⟨k - 1, by omega⟩
    rw [octets_bytes.l0, if_neg (by omega), beB, List.append_nil]
  | succ i ih =>
    intro k acc hk ha
    obtain ⟨k, rfl⟩ : ∃ j, k = j + 1 := ⟨k - 1, by omega⟩
    rw [octets_bytes.l0, show ((i + 1 : Nat) : Int) - 1 = (i : Int) from by omega, if_pos (by omega), if_pos (by rw [w64_id (by omega) (by omega)]; omega), if_pos (by rw [bnums_len]; omega), shr_at v i (by omega), w64_id (by omega) (by omega)]
    have h1 : ([((v / 256 ^ i % 256 : Nat) : Int)] : List Int) = bnums [UInt8.ofNat (v / 256 ^ i % 256)] := by unfold bnums; simp only [List.map_cons, List.map_nil, byte_mod]
    rw [h1, ← bnums_app]
    rw [ih k _ (by omega) (by simp; omega), beB_front]; simp
theorem most1 : octets_most.f 1 = some 255 := by kernel_rfl
theorem piece1_f (s : ByteArray) (k : Nat) (hs : s.size ≤ 255) (hk : 20 ≤ k) : octets_Piece.f k s 1 = some (pieceB 1 s, 0) := by
  unfold octets_Piece.f
  rw [show octets_piece.f 1 = some true from rfl, Option.bind_some, if_pos rfl, most1, Option.bind_some, u64_id (by omega) (by omega), if_neg (by omega)]
  have h : octets_bytes.f k (s.size : Int) 1 = some (bnums (beB 1 s.size)) := by
    unfold octets_bytes.f
    rw [w64_id (by omega) (by omega)]
    exact obytes_at s.size 1 k [] (by omega) (by simp)
  rw [h, Option.bind_some, str_bnums, if_pos (by rw [arr_size, beB_len]; omega)]
  rfl

/-! ### an empty label -/
theorem index_at (l : List ByteArray) (hl : l.length ≤ 1000000) : ∀ (d i k : Nat), i + d = l.length → d < k →
    ∃ r, slices_Index_string_string.l0 k l ⟨#[]⟩ (l.length : Int) (i : Int) = some r ∧ (decide (r ≥ 0) = (l.drop i).any (fun s => decide (s = ⟨#[]⟩))) := by
  intro d
  induction d with
  | zero =>
    intro i k hi hk
    obtain ⟨k, rfl⟩ : ∃ j, k = j + 1 := ⟨k - 1, by omega⟩
    rw [slices_Index_string_string.l0, if_neg (by omega), List.drop_of_length_le (by omega)]
    exact ⟨_, rfl, rfl⟩
  | succ d ih =>
    intro i k hi hk
    obtain ⟨k, rfl⟩ : ∃ j, k = j + 1 := ⟨k - 1, by omega⟩
    rw [slices_Index_string_string.l0, if_pos (by omega), if_pos (by omega), if_pos (by omega), rdo_at l i (by omega), List.drop_eq_getElem_cons (by omega : i < l.length), List.any_cons]
    by_cases h : l[i] = ⟨#[]⟩
    · rw [if_pos (by rw [h]), decide_eq_true h]
      exact ⟨_, rfl, by simp⟩
    · rw [if_neg (fun e => h (toList_inj.mp e).symm), decide_eq_false h, w64_id (by omega) (by omega)]
      exact ih (i + 1) k (by omega) (by omega)
def hasE (l : List ByteArray) : Bool := l.any (fun s => decide (s = ⟨#[]⟩))
theorem contains_f (l : List ByteArray) (k : Nat) (hl : l.length ≤ 1000000) (hk : l.length < k) : slices_Contains_string_string.f k l ⟨#[]⟩ = some (hasE l) := by
  obtain ⟨r, e, h⟩ := index_at l hl l.length 0 k (by omega) hk
  unfold slices_Contains_string_string.f slices_Index_string_string.f
  rw [show ((0 : Nat) : Int) = 0 from rfl] at e
  rw [e, Option.bind_some, h]; rfl

/-! ### the bytes of labels -/
def catB : List ByteArray → ByteArray
  | [] => ⟨#[]⟩
  | s :: l => pieceB 1 s ++ catB l
theorem app_nil (b : ByteArray) : b ++ (⟨#[]⟩ : ByteArray) = b := by apply list_inj; rw [app_list]; simp
theorem nil_app (b : ByteArray) : (⟨#[]⟩ : ByteArray) ++ b = b := by apply list_inj; rw [app_list]; simp
theorem app_assoc (a b c : ByteArray) : a ++ b ++ c = a ++ (b ++ c) := by apply list_inj; rw [app_list, app_list, app_list, app_list, List.append_assoc]
theorem nameB_cat : ∀ l, nameB l = catB l ++ (⟨#[0]⟩ : ByteArray)
  | [] => by rw [catB, nil_app]; rfl
  | s :: l => by rw [nameB, catB, nameB_cat l, app_assoc]
theorem catB_app : ∀ l s, catB (l ++ [s]) = catB l ++ pieceB 1 s
  | [], s => by
    show pieceB 1 s ++ (⟨#[]⟩ : ByteArray) = (⟨#[]⟩ : ByteArray) ++ pieceB 1 s
    rw [app_nil, nil_app]
  | t :: l, s => by rw [List.cons_append, catB, catB, catB_app l s, app_assoc]
theorem cat_take (l : List ByteArray) (i : Nat) (h : i < l.length) : catB (l.take (i + 1)) = catB (l.take i) ++ pieceB 1 l[i] := by
  rw [List.take_succ_eq_append_getElem h, catB_app]
theorem cat_size : ∀ (l : List ByteArray), (∀ s ∈ l, s.size ≤ 63) → (catB l).size ≤ 64 * l.length
  | [], _ => Nat.le_refl _
  | s :: l, h => by
    have h1 := h s (by simp)
    have h2 := cat_size l (fun t ht => h t (by simp [ht]))
    rw [catB, ByteArray.size_append, piece_size1, List.length_cons]; omega
theorem name_cat_size (l : List ByteArray) : (nameB l).size = (catB l).size + 1 := by rw [nameB_cat, ByteArray.size_append]; rfl
/-- The name of some labels, or the error. -/
def longR (l : List ByteArray) : ByteArray × Int :=
  if l.any (fun s => decide (63 < s.size)) = true then (⟨#[]⟩, 3) else if 255 < (nameB l).size then (⟨#[]⟩, 3) else (nameB l, 0)
theorem long_short {l : List ByteArray} (ha : l.any (fun s => decide (63 < s.size)) = false) : longR l = if 255 < (nameB l).size then (⟨#[]⟩, 3) else (nameB l, 0) := by
  unfold longR; rw [ha]; rfl
def ofR (l : List ByteArray) : ByteArray × Int := if hasE l = true then (⟨#[]⟩, 2) else longR l
theorem any_split (l : List ByteArray) (i : Nat) (p : ByteArray → Bool) (h : ∀ s ∈ l.take i, p s = false) : l.any p = (l.drop i).any p := by
  conv => lhs; rw [← List.take_append_drop i l]
  rw [List.any_append]
  have : (l.take i).any p = false := by
    rw [List.any_eq_false]; intro s hs; simp [h s hs]
  rw [this, Bool.false_or]
theorem of_at (l : List ByteArray) (hl : l.length ≤ 1000000) : ∀ (d i k : Nat), i + d = l.length → d + 30 ≤ k → (∀ s ∈ l.take i, s.size ≤ 63) →
    name_Of.l0 k (catB (l.take i)) l (l.length : Int) (i : Int) = some (longR l) := by
  intro d
  induction d with
  | zero =>
    intro i k hi hk hs
    obtain ⟨k, rfl⟩ : ∃ j, k = j + 1 := ⟨k - 1, by omega⟩
    obtain rfl : i = l.length := by omega
    rw [List.take_of_length_le (Nat.le_refl _)] at hs
    have hz := cat_size l hs
    have ha : l.any (fun s => decide (63 < s.size)) = false := by
      rw [List.any_eq_false]; intro s h; have := hs s h; simp; omega
    rw [List.take_of_length_le (Nat.le_refl _), name_Of.l0, if_neg (by omega), w64_id (by omega) (by omega)]
    rw [long_short ha, name_cat_size]
    by_cases h : 255 < (catB l).size + 1
    · rw [if_pos (by omega), if_pos h]
    · rw [if_neg (by omega), if_neg h, if_pos (by omega), nameB_cat]
  | succ d ih =>
    intro i k hi hk hs
    obtain ⟨k, rfl⟩ : ∃ j, k = j + 1 := ⟨k - 1, by omega⟩
    have hil : i < l.length := by omega
    rw [name_Of.l0, if_pos (by omega), if_pos (by omega), if_pos (by omega), rdo_at l i hil]
    by_cases h : 63 < l[i].size
    · rw [if_pos (by omega)]
      have ha : l.any (fun s => decide (63 < s.size)) = true := List.any_eq_true.mpr ⟨l[i], List.getElem_mem hil, by simpa using h⟩
      unfold longR; rw [ha, if_pos rfl]
    · have hz := cat_size (l.take i) hs
      rw [List.length_take] at hz
      rw [if_neg (by omega), piece1_f _ k (by omega) (by omega), Option.bind_some, if_pos (by rw [piece_size1]; omega), w64_id (by omega) (by omega)]
      have := ih (i + 1) k (by omega) (by omega) (by
        intro s hm
        rw [List.take_succ_eq_append_getElem hil] at hm
        rcases List.mem_append.mp hm with hm | hm
        · exact hs s hm
        · rw [List.mem_singleton.mp hm]; omega)
      rw [cat_take l i hil] at this
      exact this
theorem of_f (l : List ByteArray) (k : Nat) (hl : l.length ≤ 1000000) (hk : l.length + 30 ≤ k) : name_Of.f k l = some (ofR l) := by
  unfold name_Of.f
  rw [contains_f l k hl (by omega), Option.bind_some]
  unfold ofR
  by_cases h : hasE l = true
  · rw [if_pos h, if_pos h]
  · rw [if_neg h, if_neg h]
    exact of_at l hl l.length 0 k (by omega) (by omega) (by simp)
theorem rof1_at (l : List ByteArray) (hl : l.length ≤ 1000000) : ∀ (d i k : Nat), i + d = l.length → d + 1 ≤ k → (∀ s ∈ l.take i, s.size ≤ 63) →
    beadrollref07_Of.l1 k l (catB (l.take i)) (i : Int) = some (longR l) := by
  intro d
  induction d with
  | zero =>
    intro i k hi hk hs
    obtain ⟨k, rfl⟩ : ∃ j, k = j + 1 := ⟨k - 1, by omega⟩
    obtain rfl : i = l.length := by omega
    rw [List.take_of_length_le (Nat.le_refl _)] at hs
    have hz := cat_size l hs
    have ha : l.any (fun s => decide (63 < s.size)) = false := by
      rw [List.any_eq_false]; intro s h; have := hs s h; simp; omega
    rw [List.take_of_length_le (Nat.le_refl _), beadrollref07_Of.l1, if_neg (by omega)]
    rw [long_short ha, name_cat_size]
    by_cases h : 255 < (catB l).size + 1
    · rw [if_pos (by omega), if_pos h]
    · rw [if_neg (by omega), if_neg h, if_pos (by omega), nameB_cat]
  | succ d ih =>
    intro i k hi hk hs
    obtain ⟨k, rfl⟩ : ∃ j, k = j + 1 := ⟨k - 1, by omega⟩
    have hil : i < l.length := by omega
    rw [beadrollref07_Of.l1, if_pos (by omega), if_pos (by omega), rdo_at l i hil]
    by_cases h : 63 < l[i].size
    · rw [if_pos (by omega)]
      have ha : l.any (fun s => decide (63 < s.size)) = true := List.any_eq_true.mpr ⟨l[i], List.getElem_mem hil, by simpa using h⟩
      unfold longR; rw [ha, if_pos rfl]
    · have hz := cat_size (l.take i) hs
      rw [List.length_take] at hz
      have hp : strOfNums ([(l[i].size : Int) % 256] : List Int) ++ l[i] = pieceB 1 l[i] := by
        have e : ([(l[i].size : Int) % 256] : List Int) = bnums (beB 1 l[i].size) := by
          rw [beB, beB, List.nil_append]
          simp only [bnums, List.map_cons, List.map_nil, byte_mod]
          congr 1
        rw [e, str_bnums]; rfl
      have hp2 : (strOfNums ([(l[i].size : Int) % 256] : List Int)).size + l[i].size = (pieceB 1 l[i]).size := by rw [← hp, ByteArray.size_append]
      rw [if_neg (by omega), Option.bind_some, hp2, hp, piece_size1, if_pos (by omega), if_pos (by omega), w64_id (by omega) (by omega)]
      have := ih (i + 1) k (by omega) (by omega) (by
        intro s hm
        rw [List.take_succ_eq_append_getElem hil] at hm
        rcases List.mem_append.mp hm with hm | hm
        · exact hs s hm
        · rw [List.mem_singleton.mp hm]; omega)
      rw [cat_take l i hil] at this
      exact this
theorem rof_at (l : List ByteArray) (hl : l.length ≤ 1000000) : ∀ (d i k : Nat), i + d = l.length → d + l.length + 3 ≤ k → (∀ s ∈ l.take i, decide (s = ⟨#[]⟩) = false) →
    beadrollref07_Of.l0 k l (i : Int) = some (ofR l) := by
  intro d
  induction d with
  | zero =>
    intro i k hi hk hs
    obtain ⟨k, rfl⟩ : ∃ j, k = j + 1 := ⟨k - 1, by omega⟩
    rw [beadrollref07_Of.l0, if_neg (by omega)]
    unfold ofR
    have : hasE l = false := by
      unfold hasE
      rw [any_split l i _ hs, List.drop_of_length_le (by omega)]; rfl
    rw [this, if_neg (by decide)]
    exact rof1_at l hl l.length 0 k (by omega) (by omega) (by simp)
  | succ d ih =>
    intro i k hi hk hs
    obtain ⟨k, rfl⟩ : ∃ j, k = j + 1 := ⟨k - 1, by omega⟩
    have hil : i < l.length := by omega
    rw [beadrollref07_Of.l0, if_pos (by omega), if_pos (by omega), rdo_at l i hil]
    by_cases h : l[i] = ⟨#[]⟩
    · rw [if_pos (by rw [h]; rw [ByteArray.toList_eq])]
      have : hasE l = true := List.any_eq_true.mpr ⟨l[i], List.getElem_mem hil, decide_eq_true h⟩
      unfold ofR; rw [this, if_pos rfl]
    · rw [if_neg (fun e => h (toList_inj.mp (by rw [e]; rw [ByteArray.toList_eq]))), w64_id (by omega) (by omega)]
      refine ih (i + 1) k (by omega) (by omega) ?_
      intro s hm
      rw [List.take_succ_eq_append_getElem hil] at hm
      rcases List.mem_append.mp hm with hm | hm
      · exact hs s hm
      · rw [List.mem_singleton.mp hm]; exact decide_eq_false h
theorem rof_f (l : List ByteArray) (k : Nat) (hl : l.length ≤ 1000000) (hk : 2 * l.length + 3 ≤ k) : beadrollref07_Of.f k l = some (ofR l) :=
  rof_at l hl l.length 0 k (by omega) (by omega) (by simp)
theorem of_good {l : List ByteArray} (hg : good l) (hs : (nameB l).size ≤ 255) : ofR l = (nameB l, 0) := by
  have h1 : hasE l = false := by
    unfold hasE; rw [List.any_eq_false]; intro s h
    have := hg s h
    intro e; have e := of_decide_eq_true e; subst e; exact absurd this.1 (by decide)
  have h2 : l.any (fun s => decide (63 < s.size)) = false := by
    rw [List.any_eq_false]; intro s h e; have := of_decide_eq_true e; have := hg s h; omega
  unfold ofR
  rw [h1]
  show longR l = _
  rw [long_short h2, if_neg (by omega)]
theorem texts_at (l : List ByteArray) (hl : l.length ≤ 1000000) : ∀ (d i k : Nat), i + d = l.length → d < k → beadrollref01_Texts.l0 k l l (i : Int) = some true := by
  intro d
  induction d with
  | zero =>
    intro i k hi hk
    obtain ⟨k, rfl⟩ : ∃ j, k = j + 1 := ⟨k - 1, by omega⟩
    rw [beadrollref01_Texts.l0, if_neg (by omega)]
  | succ d ih =>
    intro i k hi hk
    obtain ⟨k, rfl⟩ : ∃ j, k = j + 1 := ⟨k - 1, by omega⟩
    rw [beadrollref01_Texts.l0, if_pos (by omega), if_pos (by omega), if_pos (by omega), if_pos rfl, w64_id (by omega) (by omega)]
    exact ih (i + 1) k (by omega) (by omega)
theorem texts_f (l : List ByteArray) (k : Nat) (hl : l.length ≤ 1000000) (hk : l.length < k) : beadrollref01_Texts.f k l l = some true := by
  unfold beadrollref01_Texts.f
  rw [if_pos rfl]
  exact texts_at l hl l.length 0 k (by omega) hk
theorem www_good : good [(⟨#[119, 119, 119]⟩ : ByteArray)] := by
  intro s hs; rw [List.mem_singleton.mp hs]; exact ⟨by decide, by decide⟩
theorem awake07_f : beadrolllaw07_awake.f = some true := by
  have e : (⟨#[3, 119, 119, 119, 0]⟩ : ByteArray) = nameB [(⟨#[119, 119, 119]⟩ : ByteArray)] := by kernel_rfl
  have hs : (nameB [(⟨#[119, 119, 119]⟩ : ByteArray)]).size ≤ 255 := by rw [← e]; decide
  unfold beadrolllaw07_awake.f
  rw [e, parent_name _ www_good hs, right_f, right_name www_good hs, Option.bind_some, Option.bind_some, if_pos rfl]
  rw [if_pos (by rw [ByteArray.toList_eq]; rfl)]
end Go.Proofs.Ythhbddmokgbdkaa.NameFacts
