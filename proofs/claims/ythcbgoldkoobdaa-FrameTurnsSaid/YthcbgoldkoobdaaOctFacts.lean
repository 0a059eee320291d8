import Derived.Test.YthcbgoldkoobdaaOctLaw
import Derived.Test.YthcbgoldkoobdaaPOctx
namespace Go.Proofs.Ythcbgoldkoobdaa.OctFacts
open Go.RowKit Go.Proofs.Ythcbgoldkoobdaa.POct Go.Proofs.YthcbgoldkoobdaaW.PrintWords Go.Proofs.YthcbgoldkoobdaaW.PrintLast Go.Proofs.YthcbgoldkoobdaaW.PrintMore Go.Proofs.Ythcbgoldkoobdaa.Given Go.Proofs.Ythcbgoldkoobdaa.Oct
set_option linter.unusedVariables false
set_option linter.unusedSimpArgs false

theorem u64_id {x : Int} (h0 : 0 ≤ x) (h1 : x < 18446744073709551616) : IntKind.u64.wrap x = x := by
  simp only [IntKind.wrap, IntKind.bits, IntKind.signed]; simp; omega
theorem w64_id {x : Int} (h0 : -9223372036854775808 ≤ x) (h1 : x ≤ 9223372036854775807) : wrap64 x = x := by unfold wrap64; omega
theorem wf64 {x : Int} (h : (Lit.int .i64 x).wf = true) : -9223372036854775808 ≤ x ∧ x ≤ 9223372036854775807 := by
  simp [Lit.wf, IntKind.min, IntKind.max, IntKind.signed, IntKind.bits] at h; omega
theorem wfu64 {x : Int} (h : (Lit.int .u64 x).wf = true) : 0 ≤ x ∧ x ≤ 18446744073709551615 := by
  simp [Lit.wf, IntKind.min, IntKind.max, IntKind.signed, IntKind.bits] at h; omega
theorem rd_at (l : List Int) (i : Nat) (h : i < l.length) : rd l (i : Int) = l[i] := by
  unfold rd; rw [Int.toNat_natCast, List.getD_eq_getElem?_getD, List.getElem?_eq_getElem h]; rfl
theorem rdo_at (l : List ByteArray) (i : Nat) (h : i < l.length) : rdOf ByteArray.empty l (i : Int) = l[i] := by
  unfold rdOf; rw [Int.toNat_natCast, List.getD_eq_getElem?_getD, List.getElem?_eq_getElem h]; rfl
theorem bt_list (b : ByteArray) (i : Nat) (h : i < b.size) : bt b (i : Int) = ((b.data.toList[i]'(by rw [size_list]; exact h)).toNat : Int) := by
  unfold bt
  rw [Int.toNat_natCast, dif_pos h]; rfl

/-! ### the reference's numbers -/
theorem number_at (b : ByteArray) (hb : b.size ≤ 8) : ∀ (d i k : Nat), i + d = b.size → d < k → beadrollref01_Number.l0 k b (beN (b.data.toList.take i) : Int) (i : Int) = some (beN b.data.toList : Int) := by
  intro d
  induction d with
  | zero =>
    intro i k hi hk
    obtain ⟨k, rfl⟩ : ∃ j, k = j + 1 := ⟨k - 1, by omega⟩
    rw [beadrollref01_Number.l0, if_neg (by omega), List.take_of_length_le (by rw [size_list]; omega)]
  | succ d ih =>
    intro i k hi hk
    obtain ⟨k, rfl⟩ : ∃ j, k = j + 1 := ⟨k - 1, by omega⟩
    rw [beadrollref01_Number.l0, if_pos (by omega), if_pos (by omega), bt_list b i (by omega)]
    have h1 : i < b.data.toList.length := by rw [size_list]; omega
    have h2 : beN (b.data.toList.take (i + 1)) = beN (b.data.toList.take i) * 256 + (b.data.toList[i]).toNat := by
      rw [List.take_succ_eq_append_getElem h1, beN_snoc]
    have h3 := beN_lt (b.data.toList.take i)
    rw [List.length_take, Nat.min_eq_left (by omega)] at h3
    have h4 : (256 : Nat) ^ i ≤ 256 ^ 7 := Nat.pow_le_pow_right (by omega) (by omega)
    have h5 := UInt8.toNat_lt (b.data.toList[i])
    rw [u64_id (x := (beN (b.data.toList.take i) : Int) * 256) (by omega) (by omega), u64_id (x := ((b.data.toList[i]).toNat : Int)) (by omega) (by omega), u64_id (by omega) (by omega), w64_id (by omega) (by omega)]
    have := ih (i + 1) k (by omega) (by omega)
    rw [h2] at this
    rw [← this]
    congr 1
theorem number_f (b : ByteArray) (hb : b.size ≤ 8) (k : Nat) (hk : 9 ≤ k) : beadrollref01_Number.f k b = some (beN b.data.toList : Int) :=
  number_at b hb b.size 0 k (by omega) (by omega)

/-! ### the reference's bytes -/
theorem rem256 (v : Nat) : Int.tmod (v : Int) 256 % 256 = ((v % 256 : Nat) : Int) := by
  rw [Int.tmod_eq_emod_of_nonneg (by omega)]; omega
theorem div256 (v : Nat) (h : v < 18446744073709551616) : IntKind.u64.wrap (Int.tdiv (v : Int) 256) = ((v / 256 : Nat) : Int) := by
  rw [Int.tdiv_eq_ediv_of_nonneg (by omega), u64_id (by omega) (by omega)]; omega
theorem rbytes_at (n : Nat) (hn : n ≤ 8) : ∀ (d i k v : Nat) (acc : List UInt8), i + d = n → d < k → v < 18446744073709551616 → acc.length + d ≤ 8 → beadrollref01_Bytes.l0 k (v : Int) (n : Int) (arr acc) (i : Int) = some (arr (beB d v ++ acc)) := by
  intro d
  induction d with
  | zero =>
    intro i k v acc hi hk hv ha
    obtain ⟨k, rfl⟩ : ∃ j, k = j + 1 := ⟨k - 1, by omega⟩
    rw [beadrollref01_Bytes.l0, if_neg (by omega)]; rfl
  | succ d ih =>
    intro i k v acc hi hk hv ha
    obtain ⟨k, rfl⟩ : ∃ j, k = j + 1 := ⟨k - 1, by omega⟩
    rw [beadrollref01_Bytes.l0, if_pos (by omega), rem256, div256 v hv, w64_id (by omega) (by omega)]
    have h1 : ([((v % 256 : Nat) : Int)] : List Int) = bnums [UInt8.ofNat (v % 256)] := by unfold bnums; simp only [List.map_cons, List.map_nil, byte_mod]
    show (if _ then _ else _) = _
    rw [h1, str_bnums, arr_app, if_pos (by rw [arr_size, arr_size]; simp; omega)]
    have := ih (i + 1) k (v / 256) ([UInt8.ofNat (v % 256)] ++ acc) (by omega) (by omega) (by omega) (by simp; omega)
    rw [← List.append_assoc] at this
    rw [beB, ← this]; congr 1
theorem rbytes_f (n v k : Nat) (hn : n ≤ 8) (hv : v < 18446744073709551616) (hk : 9 ≤ k) : beadrollref01_Bytes.f k (v : Int) (n : Int) = some (arr (beB n v)) := by
  have := rbytes_at n hn n 0 k v [] (by omega) (by omega) hv (by simp; omega)
  rw [List.append_nil] at this
  exact this

/-! ### the program's bytes -/
theorem shr_at (v i : Nat) (h : i < 8) : (shr .u64 (v : Int) (wrap64 (8 * (i : Int)))) % 256 = ((v / 256 ^ i % 256 : Nat) : Int) := by
  unfold shr
  rw [w64_id (by omega) (by omega)]
  rw [show (8 * (i : Int)).toNat = 8 * i from by omega, show IntKind.u64.bits = 64 from rfl, Nat.min_eq_left (by omega)]
  have h2 : (2 : Int) ^ (8 * i) = ((256 ^ i : Nat) : Int) := by
    rw [show (2 : Int) ^ (8 * i) = ((2 ^ (8 * i) : Nat) : Int) from (Int.natCast_pow 2 _).symm, Nat.pow_mul]
  rw [h2, ← Int.natCast_ediv]; omega
theorem obytes_at (v : Nat) : ∀ (i k : Nat) (acc : List UInt8), i < k → acc.length + i ≤ 8 → octets_bytes.l0 k (v : Int) (bnums acc) ((i : Int) - 1) = some (bnums (acc ++ beB i v)) := by
  intro i
  induction i with
  | zero =>
    intro k acc hk ha
    obtain ⟨k, rfl⟩ : ∃ j, k = j + 1 := ⟨k - 1, by omega⟩
    rw [octets_bytes.l0, if_neg (by omega), beB, List.append_nil]
  | succ i ih =>
    intro k acc hk ha
    obtain ⟨k, rfl⟩ : ∃ j, k = j + 1 := ⟨k - 1, by omega⟩
    rw [octets_bytes.l0, show ((i + 1 : Nat) : Int) - 1 = (i : Int) from by omega, if_pos (by omega), if_pos (by rw [w64_id (by omega) (by omega)]; omega), if_pos (by rw [bnums_len]; omega), shr_at v i (by omega), w64_id (by omega) (by omega)]
    have h1 : ([((v / 256 ^ i % 256 : Nat) : Int)] : List Int) = bnums [UInt8.ofNat (v / 256 ^ i % 256)] := by unfold bnums; simp only [List.map_cons, List.map_nil, byte_mod]
    rw [h1, ← bnums_app]
    rw [ih k _ (by omega) (by simp; omega), beB_front]; simp
theorem obytes_f (n v k : Nat) (hn : n ≤ 8) (hk : 9 ≤ k) : octets_bytes.f k (v : Int) (n : Int) = some (bnums (beB n v)) := by
  unfold octets_bytes.f
  rw [w64_id (by omega) (by omega)]
  exact obytes_at v n k [] (by omega) (by simp; omega)

/-! ### widths -/
theorem width_iff (n : Int) : isWidth n = true ↔ n = 1 ∨ n = 2 ∨ n = 4 ∨ n = 8 := by unfold isWidth; exact decide_eq_true_iff
theorem rwidth_f (n : Int) : beadrollref01_Width.f n = some (isWidth n) := by
  unfold beadrollref01_Width.f isWidth
  by_cases h1 : n = 1
  · simp [h1]
  · by_cases h2 : n = 2
    · simp [h2]
    · by_cases h4 : n = 4
      · simp [h4]
      · simp [h1, h2, h4]
        by_cases h8 : n = 8 <;> simp [h8]
theorem owidth_f (n : Int) : octets_width.f n = some (isWidth n) := by
  have := rwidth_f n
  exact this
theorem most1 : octets_most.f 1 = some 255 := by kernel_rfl
theorem most2 : octets_most.f 2 = some 65535 := by kernel_rfl
theorem most4 : octets_most.f 4 = some 4294967295 := by kernel_rfl
theorem most8 : octets_most.f 8 = some 18446744073709551615 := by kernel_rfl
theorem most_f (n : Nat) (h : isWidth (n : Int) = true) : octets_most.f (n : Int) = some ((256 ^ n - 1 : Nat) : Int) := by
  have := (width_iff _).mp h
  have : n = 1 ∨ n = 2 ∨ n = 4 ∨ n = 8 := by omega
  obtain rfl | rfl | rfl | rfl := this
  · exact most1
  · exact most2
  · exact most4
  · exact most8
theorem whole_at (ws : List Int) (hl : ws.length < 17592186044416) : ∀ (d i k : Nat), i + d = ws.length → d < k → octets_whole.l0 k ws (ws.length : Int) (i : Int) = some ((ws.drop i).all isWidth) := by
  intro d
  induction d with
  | zero =>
    intro i k hi hk
    obtain ⟨k, rfl⟩ : ∃ j, k = j + 1 := ⟨k - 1, by omega⟩
    rw [octets_whole.l0, if_neg (by omega), List.drop_of_length_le (by omega)]; rfl
  | succ d ih =>
    intro i k hi hk
    obtain ⟨k, rfl⟩ : ∃ j, k = j + 1 := ⟨k - 1, by omega⟩
    rw [octets_whole.l0, if_pos (by omega), if_pos (by omega), if_pos (by omega), rd_at ws i (by omega), owidth_f]
    rw [List.drop_eq_getElem_cons (by omega : i < ws.length), List.all_cons]
    show (if isWidth ws[i] = true then _ else _) = _
    by_cases hw : isWidth ws[i] = true
    · rw [if_pos hw, w64_id (by omega) (by omega), hw, Bool.true_and]
      exact ih (i + 1) k (by omega) (by omega)
    · rw [if_neg hw, Bool.eq_false_iff.mpr hw, Bool.false_and]
theorem whole_f (ws : List Int) (k : Nat) (hl : ws.length < 17592186044416) (hk : ws.length < k) : octets_whole.f k ws = some (ws.all isWidth) :=
  whole_at ws hl ws.length 0 k (by omega) hk

/-! ### Join -/
/-- What Join returns. -/
def joinR (vs ws : List Int) : ByteArray × Int :=
  if ws.all isWidth = true ∧ vs.length = ws.length then
    match joinL vs ws [] with
    | some l => (arr l, 0)
    | none => (⟨#[]⟩, 1)
  else (⟨#[]⟩, 1)
theorem wid8 {n : Int} (h : isWidth n = true) : 1 ≤ n ∧ n ≤ 8 := by have := (width_iff n).mp h; omega
theorem pow_fit {n : Nat} (h : n ≤ 8) : 256 ^ n ≤ 18446744073709551616 := by
  have : (256 : Nat) ^ n ≤ 256 ^ 8 := Nat.pow_le_pow_right (by omega) h
  omega
theorem join_at (vs ws : List Int) (hl : ws.length ≤ 40) (he : vs.length = ws.length) (hw : ∀ n ∈ ws, isWidth n = true) (hv : ∀ v ∈ vs, 0 ≤ v ∧ v ≤ 18446744073709551615) :
    ∀ (d i k : Nat) (acc : List UInt8), i + d = ws.length → d + 10 ≤ k → acc.length ≤ 8 * i → octets_Join.l0 k vs (bnums acc) ws (ws.length : Int) (i : Int) = some (match joinL (vs.drop i) (ws.drop i) acc with | some l => (arr l, 0) | none => (⟨#[]⟩, 1)) := by
  intro d
  induction d with
  | zero =>
    intro i k acc hi hk ha
    obtain ⟨k, rfl⟩ : ∃ j, k = j + 1 := ⟨k - 1, by omega⟩
    rw [octets_Join.l0, if_neg (by omega), List.drop_of_length_le (by omega), List.drop_of_length_le (by omega), joinL, str_bnums]
  | succ d ih =>
    intro i k acc hi hk ha
    obtain ⟨k, rfl⟩ : ∃ j, k = j + 1 := ⟨k - 1, by omega⟩
    rw [octets_Join.l0, if_pos (by omega), if_pos (by omega), if_pos (by omega), if_pos (by omega), rd_at ws i (by omega), rd_at vs i (by omega)]
    rw [List.drop_eq_getElem_cons (by omega : i < ws.length), List.drop_eq_getElem_cons (by omega : i < vs.length), joinL]
    have hwi := hw ws[i] (List.getElem_mem _)
    have hvi := hv (vs[i]'(by omega)) (List.getElem_mem _)
    generalize ws[i] = n at hwi
    generalize vs[i]'(by omega) = v at hvi
    have hn := wid8 hwi
    obtain ⟨m, rfl⟩ := Int.eq_ofNat_of_zero_le (show 0 ≤ n by omega)
    obtain ⟨u, rfl⟩ := Int.eq_ofNat_of_zero_le (show 0 ≤ v by omega)
    rw [most_f m hwi, Int.toNat_natCast, Int.toNat_natCast]
    show (if (u : Int) > _ then _ else _) = _
    have hp : 0 < 256 ^ m := Nat.pow_pos (by omega)
    by_cases hu : u < 256 ^ m
    · rw [if_neg (by omega), if_pos hu, obytes_f m u k (by omega) (by omega)]
      show (if _ then _ else _) = _
      rw [← bnums_app, if_pos (by simp only [bnums_len, beB_len]; omega), w64_id (by omega) (by omega)]
      exact ih (i + 1) k _ (by omega) (by omega) (by simp only [List.length_append, beB_len]; omega)
    · rw [if_pos (by omega), if_neg hu]
theorem all_mem {ws : List Int} (h : ws.all isWidth = true) : ∀ n ∈ ws, isWidth n = true := fun n hn => List.all_eq_true.mp h n hn
theorem join_f (vs ws : List Int) (k : Nat) (hl : ws.length ≤ 40) (hl2 : vs.length ≤ 40) (hv : ∀ v ∈ vs, 0 ≤ v ∧ v ≤ 18446744073709551615) (hk : 60 ≤ k) : octets_Join.f k vs ws = some (joinR vs ws) := by
  unfold octets_Join.f joinR
  rw [whole_f ws k (by omega) (by omega)]
  obtain ⟨k, rfl⟩ : ∃ j, k = j + 1 := ⟨k - 1, by omega⟩
  show (if ws.all isWidth = true then _ else _) = _
  by_cases hw : ws.all isWidth = true
  · rw [if_pos hw]
    by_cases he : vs.length = ws.length
    · rw [if_pos ⟨hw, he⟩, octets_Join.j0, if_neg (by simp [he])]
      exact join_at vs ws hl he (all_mem hw) hv ws.length 0 k [] (by omega) (by omega) (by simp)
    · rw [if_neg (fun h => he h.2), octets_Join.j0, if_pos (by simp; omega)]
  · rw [if_neg hw, if_neg (fun h => hw h.1), octets_Join.j0, if_pos rfl]

theorem rjoin_at (vs ws : List Int) (hl : ws.length ≤ 40) (he : vs.length = ws.length) (hw : ∀ n ∈ ws, isWidth n = true) (hv : ∀ v ∈ vs, 0 ≤ v ∧ v ≤ 18446744073709551615) :
    ∀ (d i k : Nat) (acc : List UInt8), i + d = ws.length → d + 10 ≤ k → acc.length ≤ 8 * i → beadrollref01_Join.l1 k vs ws (arr acc) (i : Int) = some (match joinL (vs.drop i) (ws.drop i) acc with | some l => (arr l, 0) | none => (⟨#[]⟩, 1)) := by
  intro d
  induction d with
  | zero =>
    intro i k acc hi hk ha
    obtain ⟨k, rfl⟩ : ∃ j, k = j + 1 := ⟨k - 1, by omega⟩
    rw [beadrollref01_Join.l1, if_neg (by omega), List.drop_of_length_le (by omega), List.drop_of_length_le (by omega), joinL]
  | succ d ih =>
    intro i k acc hi hk ha
    obtain ⟨k, rfl⟩ : ∃ j, k = j + 1 := ⟨k - 1, by omega⟩
    rw [beadrollref01_Join.l1, if_pos (by omega), if_pos (by omega), if_pos (by omega), rd_at ws i (by omega), rd_at vs i (by omega)]
    rw [List.drop_eq_getElem_cons (by omega : i < ws.length), List.drop_eq_getElem_cons (by omega : i < vs.length), joinL]
    have hwi := hw ws[i] (List.getElem_mem _)
    have hvi := hv (vs[i]'(by omega)) (List.getElem_mem _)
    generalize ws[i] = n at hwi
    generalize vs[i]'(by omega) = v at hvi
    have hn := wid8 hwi
    obtain ⟨m, rfl⟩ := Int.eq_ofNat_of_zero_le (show 0 ≤ n by omega)
    obtain ⟨u, rfl⟩ := Int.eq_ofNat_of_zero_le (show 0 ≤ v by omega)
    rw [rbytes_f m u k (by omega) (by omega) (by omega), Int.toNat_natCast, Int.toNat_natCast, Option.bind_some, number_f _ (by rw [arr_size, beB_len]; omega) k (by omega), arr_list, Option.bind_some]
    by_cases hu : u < 256 ^ m
    · rw [if_pos (by rw [beB_fits.mpr hu]), if_pos hu, arr_app, if_pos (by simp only [arr_size, beB_len]; omega), w64_id (by omega) (by omega)]
      exact ih (i + 1) k _ (by omega) (by omega) (by simp only [List.length_append, beB_len]; omega)
    · rw [if_neg (fun h => hu (beB_fits.mp (by omega))), if_neg hu]
theorem rjoin_w (vs ws : List Int) (hl : ws.length ≤ 40) (hv : ∀ v ∈ vs, 0 ≤ v ∧ v ≤ 18446744073709551615) : ∀ (d i k : Nat), i + d = ws.length → d + 60 ≤ k → (∀ n ∈ ws.take i, isWidth n = true) → beadrollref01_Join.l0 k vs ws (i : Int) = some (joinR vs ws) := by
  intro d
  induction d with
  | zero =>
    intro i k hi hk ht
    obtain ⟨k, rfl⟩ : ∃ j, k = j + 1 := ⟨k - 1, by omega⟩
    rw [List.take_of_length_le (by omega)] at ht
    have hw : ws.all isWidth = true := List.all_eq_true.mpr ht
    rw [beadrollref01_Join.l0, if_neg (by omega), joinR]
    by_cases he : vs.length = ws.length
    · rw [if_pos (by omega), if_pos ⟨hw, he⟩]
      exact rjoin_at vs ws hl he ht hv ws.length 0 k [] (by omega) (by omega) (by simp)
    · rw [if_neg (by omega), if_neg (fun h => he h.2)]
  | succ d ih =>
    intro i k hi hk ht
    obtain ⟨k, rfl⟩ : ∃ j, k = j + 1 := ⟨k - 1, by omega⟩
    rw [beadrollref01_Join.l0, if_pos (by omega), if_pos (by omega), rd_at ws i (by omega), rwidth_f, Option.bind_some]
    by_cases hw : isWidth ws[i] = true
    · rw [if_pos hw, w64_id (by omega) (by omega)]
      refine ih (i + 1) k (by omega) (by omega) ?_
      rw [List.take_succ_eq_append_getElem (by omega)]
      intro n hn
      rcases List.mem_append.mp hn with h | h
      · exact ht n h
      · rw [List.mem_singleton.mp h]; exact hw
    · rw [if_neg hw, joinR, if_neg (fun h => hw (all_mem h.1 _ (List.getElem_mem _)))]
theorem rjoin_f (vs ws : List Int) (k : Nat) (hl : ws.length ≤ 40) (hv : ∀ v ∈ vs, 0 ≤ v ∧ v ≤ 18446744073709551615) (hk : 100 ≤ k) : beadrollref01_Join.f k vs ws = some (joinR vs ws) :=
  rjoin_w vs ws hl hv ws.length 0 k (by omega) (by omega) (by simp)

/-! ### Split -/
/-- What Split returns. -/
def splitR (b : ByteArray) (ws : List Int) : List Int × ByteArray × Int :=
  if ws.all isWidth = true then
    match splitL b ws [] with
    | some (xs, r) => (xs, r, 0)
    | none => ([], ⟨#[]⟩, 2)
  else ([], ⟨#[]⟩, 1)
theorem split_f (b : ByteArray) (ws : List Int) (hb : b.size ≤ 9223372036854775807) (hl : ws.length < 17592186044416) : octets_Split.f b ws = some (splitR b ws) := by
  unfold octets_Split.f splitR
  rw [if_pos ⟨hb, hl⟩]
  by_cases hw : ws.all isWidth = true
  · rw [if_pos hw, if_pos hw]
    cases splitL b ws [] <;> rfl
  · rw [if_neg hw, if_neg hw]
theorem rsplit_at (ws : List Int) (hl : ws.length ≤ 40) (hw : ∀ n ∈ ws, isWidth n = true) :
    ∀ (d i k : Nat) (b : ByteArray) (acc : List Int), b.size ≤ 1000 → i + d = ws.length → d + 10 ≤ k → acc.length = i → beadrollref01_Split.l1 k b ws acc (i : Int) = some (match splitL b (ws.drop i) acc with | some (xs, r) => (xs, r, 0) | none => ([], ⟨#[]⟩, 2)) := by
  intro d
  induction d with
  | zero =>
    intro i k b acc hb hi hk ha
    obtain ⟨k, rfl⟩ : ∃ j, k = j + 1 := ⟨k - 1, by omega⟩
    rw [beadrollref01_Split.l1, if_neg (by omega), List.drop_of_length_le (by omega), splitL]
  | succ d ih =>
    intro i k b acc hb hi hk ha
    obtain ⟨k, rfl⟩ : ∃ j, k = j + 1 := ⟨k - 1, by omega⟩
    rw [beadrollref01_Split.l1, if_pos (by omega), if_pos (by omega), rd_at ws i (by omega)]
    rw [List.drop_eq_getElem_cons (by omega : i < ws.length), splitL]
    have hwi := hw ws[i] (List.getElem_mem _)
    generalize ws[i] = n at hwi
    have hn := wid8 hwi
    obtain ⟨m, rfl⟩ := Int.eq_ofNat_of_zero_le (show 0 ≤ n by omega)
    rw [Int.toNat_natCast]
    by_cases hm : m ≤ b.size
    · rw [if_neg (by omega), if_pos (by omega), if_pos (by omega), if_pos hm, number_f _ (by rw [ext_size _ _ hm]; omega) k (by omega), ext_list, Option.bind_some, if_pos (by omega), w64_id (by omega) (by omega)]
      exact ih (i + 1) k _ _ (by rw [drop_size]; omega) (by omega) (by omega) (by simp; omega)
    · rw [if_pos (by omega), if_neg hm]
theorem rsplit_w (b : ByteArray) (ws : List Int) (hb : b.size ≤ 1000) (hl : ws.length ≤ 40) : ∀ (d i k : Nat), i + d = ws.length → d + 60 ≤ k → (∀ n ∈ ws.take i, isWidth n = true) → beadrollref01_Split.l0 k b ws (i : Int) = some (splitR b ws) := by
  intro d
  induction d with
  | zero =>
    intro i k hi hk ht
    obtain ⟨k, rfl⟩ : ∃ j, k = j + 1 := ⟨k - 1, by omega⟩
    rw [List.take_of_length_le (by omega)] at ht
    have hw : ws.all isWidth = true := List.all_eq_true.mpr ht
    rw [beadrollref01_Split.l0, if_neg (by omega), splitR, if_pos hw]
    exact rsplit_at ws hl ht ws.length 0 k b [] hb (by omega) (by omega) rfl
  | succ d ih =>
    intro i k hi hk ht
    obtain ⟨k, rfl⟩ : ∃ j, k = j + 1 := ⟨k - 1, by omega⟩
    rw [beadrollref01_Split.l0, if_pos (by omega), if_pos (by omega), rd_at ws i (by omega), rwidth_f, Option.bind_some]
    by_cases hw : isWidth ws[i] = true
    · rw [if_pos hw, w64_id (by omega) (by omega)]
      refine ih (i + 1) k (by omega) (by omega) ?_
      rw [List.take_succ_eq_append_getElem (by omega)]
      intro n hn
      rcases List.mem_append.mp hn with h | h
      · exact ht n h
      · rw [List.mem_singleton.mp h]; exact hw
    · rw [if_neg hw, splitR, if_neg (fun h => hw (all_mem h _ (List.getElem_mem _)))]
theorem rsplit_f (b : ByteArray) (ws : List Int) (k : Nat) (hb : b.size ≤ 1000) (hl : ws.length ≤ 40) (hk : 100 ≤ k) : beadrollref01_Split.f k b ws = some (splitR b ws) :=
  rsplit_w b ws hb hl ws.length 0 k (by omega) (by omega) (by simp)
theorem same_at (l : List Int) (hl : l.length ≤ 1000) : ∀ (d i k : Nat), i + d = l.length → d < k → beadrollref01_Same.l0 k l l (i : Int) = some true := by
  intro d
  induction d with
  | zero =>
    intro i k hi hk
    obtain ⟨k, rfl⟩ : ∃ j, k = j + 1 := ⟨k - 1, by omega⟩
    rw [beadrollref01_Same.l0, if_neg (by omega)]
  | succ d ih =>
    intro i k hi hk
    obtain ⟨k, rfl⟩ : ∃ j, k = j + 1 := ⟨k - 1, by omega⟩
    rw [beadrollref01_Same.l0, if_pos (by omega), if_pos (by omega), if_pos (by omega), if_pos rfl, w64_id (by omega) (by omega)]
    exact ih (i + 1) k (by omega) (by omega)
theorem same_f (l : List Int) (k : Nat) (hl : l.length ≤ 1000) (hk : l.length < k) : beadrollref01_Same.f k l l = some true := by
  unfold beadrollref01_Same.f
  rw [if_pos rfl]
  exact same_at l hl l.length 0 k (by omega) hk
theorem none_list : (⟨#[]⟩ : ByteArray).toList = [] := by
  unfold ByteArray.toList ByteArray.toList.loop; rfl
theorem awake_split : splitR (⟨#[1, 2, 3]⟩ : ByteArray) [1, 2] = ([1, 515], ⟨#[]⟩, 0) := by kernel_rfl
theorem awake01_f : beadrolllaw01_awake.f = some true := by
  unfold beadrolllaw01_awake.f
  rw [split_f _ _ (by decide) (by decide), awake_split, Option.bind_some]
  simp only [none_list]
  rfl
end Go.Proofs.Ythcbgoldkoobdaa.OctFacts
