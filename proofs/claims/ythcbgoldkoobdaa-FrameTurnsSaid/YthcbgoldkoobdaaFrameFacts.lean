import Derived.Test.YthcbgoldkoobdaaOctFacts2
import Derived.Test.YthcbgoldkoobdaaCrcLawP
import Derived.Laws.Strings
namespace Go.Proofs.Ythcbgoldkoobdaa.OctFacts
open Go.RowKit Go.Proofs.Ythcbgoldkoobdaa.POct Go.Proofs.YthcbgoldkoobdaaW.PrintWords Go.Proofs.YthcbgoldkoobdaaW.PrintLast Go.Proofs.YthcbgoldkoobdaaW.PrintMore Go.Proofs.Ythcbgoldkoobdaa.Given Go.Proofs.Ythcbgoldkoobdaa.Oct
open Go.Proofs.Ythcbgoldkoobdaa.Crc hiding arr arr_size
set_option linter.unusedVariables false
set_option linter.unusedSimpArgs false

/-! ### the reference's checksum -/
theorem not_sub (w : Nat) (h : w < 4294967296) : (4294967295 - (w : Int)) % 4294967296 = ((MN ^^^ w : Nat) : Int) := by
  have e : MN ^^^ w = 4294967295 - w := by
    apply Nat.eq_of_testBit_eq
    intro i
    have h1 := Nat.testBit_two_pow_sub_succ (n := 32) (x := w) h i
    rw [show 2 ^ 32 - (w + 1) = 4294967295 - w from by omega] at h1
    have h2 := Nat.testBit_two_pow_sub_one 32 i
    rw [show 2 ^ 32 - 1 = MN from rfl] at h2
    rw [Nat.testBit_xor, h1, h2]
    by_cases hi : i < 32
    · simp [hi]
    · have : w.testBit i = false := Nat.testBit_lt_two_pow (Nat.lt_of_lt_of_le h (Nat.pow_le_pow_right (n := 2) (i := 32) (j := i) (by omega) (by omega)))
      simp [hi, this]
  rw [e]; omega

theorem ref_byte (s : ByteArray) (w : Nat) (hw : w < 4294967296) (i : Nat) (hi : i < s.size) (c : Nat) (hc : bt s i = (c : Int)) (hc8 : c < 256) (k d : Nat) :
    ∀ (j r : Nat), j + d = 8 → r = iterN j (w ^^^ c) ^^^ (c / 2 ^ j) → beadrollref05_More.l1 (k + d + 1) s (r : Int) i j = beadrollref05_More.l0 k s ((iterN 8 (w ^^^ c) : Nat) : Int) (wrap64 (i + 1)) := by
  induction d with
  | zero =>
    intro j r hj hr
    obtain rfl : j = 8 := by omega
    simp only [beadrollref05_More.l1]
    rw [if_neg (by omega), hr, Nat.div_eq_of_lt (by omega), Nat.xor_zero]
  | succ d ih =>
    intro j r hj hr
    have hx : w ^^^ c < 4294967296 := xor_lt hw (by omega)
    have hr32 : r < 4294967296 := by
      rw [hr]; exact xor_lt (iterN_lt j hx) (Nat.lt_of_le_of_lt (Nat.div_le_self _ _) (by omega))
    rw [show k + (d + 1) + 1 = (k + d + 1) + 1 from by omega, beadrollref05_More.l1]
    rw [if_pos (by omega), if_pos (by omega), if_pos (by omega), if_pos (by omega), hc]
    have e1 : Int.tmod (r : Int) 2 = ((r % 2 : Nat) : Int) := by rw [Int.tmod_eq_emod_of_nonneg (by omega)]; omega
    have e2 : (Int.tdiv (r : Int) 2) % 4294967296 = ((r / 2 : Nat) : Int) := by rw [Int.tdiv_eq_ediv_of_nonneg (by omega)]; omega
    have e3 : (shr .u32 ((c : Int) % 4294967296) (j : Int)) % 2 = ((c / 2 ^ j % 2 : Nat) : Int) := by
      have hc' : ((c : Int) % 4294967296) = (c : Int) := by omega
      unfold shr
      rw [hc', Int.toNat_natCast, Nat.min_eq_left (by simp [IntKind.bits]; omega)]
      have hp : (2 : Int) ^ j = ((2 ^ j : Nat) : Int) := by push_cast; rfl
      rw [hp]; omega
    have e4 : wrap64 ((j : Int) + 1) = ((j + 1 : Nat) : Int) := by rw [w64_id (by omega) (by omega)]; omega
    rw [e1, e2, e3, e4]
    have hdiv : c / 2 ^ j / 2 = c / 2 ^ (j + 1) := by rw [Nat.div_div_eq_div_mul, Nat.pow_succ]
    have hq : iterN j (w ^^^ c) = r ^^^ (c / 2 ^ j) := by rw [hr, Nat.xor_assoc, Nat.xor_self, Nat.xor_zero]
    have hn : iterN (j + 1) (w ^^^ c) ^^^ (c / 2 ^ (j + 1)) = (r / 2) ^^^ (if r % 2 = c / 2 ^ j % 2 then 0 else PN) := by
      show stepN (iterN j (w ^^^ c)) ^^^ _ = _
      unfold stepN
      rw [hq, xor_div2, hdiv]
      have hm := xor_mod2 r (c / 2 ^ j)
      have hsw : ∀ a b p : Nat, a ^^^ b ^^^ p ^^^ b = a ^^^ p := fun a b p => by
        rw [Nat.xor_assoc, Nat.xor_assoc, Nat.xor_comm p b, ← Nat.xor_assoc b b p, Nat.xor_self, Nat.zero_xor]
      rw [hsw]
      by_cases h : r % 2 = c / 2 ^ j % 2
      · rw [if_pos h, if_neg (by rw [hm]; exact fun z => z h)]
      · rw [if_neg h, if_pos (hm.mpr h)]
    by_cases h : r % 2 = c / 2 ^ j % 2
    · rw [if_pos (by omega)]
      exact ih (j + 1) (r / 2) (by omega) (by rw [hn, if_pos h, Nat.xor_zero])
    · rw [if_neg (by omega)]
      have e5 : Go.bits .xor .u32 ((r / 2 : Nat) : Int) 3988292384 = ((r / 2 ^^^ PN : Nat) : Int) := Go.u32_xor_nat (r / 2) PN (by omega) (by simp [PN])
      rw [e5]
      exact ih (j + 1) (r / 2 ^^^ PN) (by omega) (by rw [hn, if_neg h])

theorem ref_loop (s : ByteArray) (hs : s.size ≤ 140737488351232) (k d : Nat) :
    ∀ (i w : Nat), i + d = s.size → w < 4294967296 → beadrollref05_More.l0 (k + 10 * d + 1) s (w : Int) i = some ((MN ^^^ stepsN w (s.data.toList.drop i) : Nat) : Int) := by
  induction d with
  | zero =>
    intro i w hi hw
    simp only [beadrollref05_More.l0]
    have hl : s.data.toList.length = s.size := size_list s
    rw [if_neg (by omega), not_sub w hw, List.drop_of_length_le (by omega)]; rfl
  | succ d ih =>
    intro i w hi hw
    have hl : s.data.toList.length = s.size := size_list s
    have hlt : i < s.size := by omega
    rw [show k + 10 * (d + 1) + 1 = (k + 10 * d + 1 + 8 + 1) + 1 from by omega]
    simp only [beadrollref05_More.l0]
    rw [if_pos (by omega)]
    have hb : bt s (i : Int) = ((s[i].toNat : Nat) : Int) := by simp [bt, hlt]
    have hc := UInt8.toNat_lt s[i]
    have h0 := ref_byte s w hw i hlt s[i].toNat hb (by omega) (k + 10 * d + 1) 8 0 w (by omega) (by
      simp only [iterN, Nat.pow_zero, Nat.div_one]; rw [Nat.xor_assoc, Nat.xor_self, Nat.xor_zero])
    rw [show (((0 : Nat) : Int)) = 0 from rfl] at h0
    rw [h0, w64_id (by omega) (by omega)]
    have := ih (i + 1) (iterN 8 (w ^^^ s[i].toNat)) (by omega) (iterN_lt 8 (xor_lt hw (byte_lt _)))
    rw [show ((i : Int) + 1) = ((i + 1 : Nat) : Int) from by omega, this]
    have hd : s.data.toList.drop i = s[i] :: s.data.toList.drop (i + 1) := List.drop_eq_getElem_cons (by omega)
    rw [hd]; rfl

theorem ref_more (s : ByteArray) (hs : s.size ≤ 140737488351232) (a : Nat) (ha : a < 4294967296) : beadrollref05_More.f (10 * s.size + 1) (a : Int) s = some ((sumN a s.data.toList : Nat) : Int) := by
  unfold beadrollref05_More.f
  rw [not_sub a ha]
  have := ref_loop s hs 0 s.size 0 (MN ^^^ a) (by omega) (xor_lt MN_lt ha)
  rw [show ((0 : Nat) : Int) = 0 from rfl] at this
  rw [show 10 * s.size + 1 = 0 + 10 * s.size + 1 from by omega, this]; rfl

theorem mono_up {α : Type} {f : Nat → Option α} (h : ∀ k, LeO (f k) (f (k + 1))) {k : Nat} {r : α} (hk : f k = some r) : ∀ j, f (k + j) = some r
  | 0 => hk
  | j + 1 => h (k + j) r (mono_up h hk j)
theorem mono_at {α : Type} {f : Nat → Option α} (h : ∀ k, LeO (f k) (f (k + 1))) {k k' : Nat} {r : α} (hk : f k = some r) (hle : k ≤ k') : f k' = some r := by
  have := mono_up h hk (k' - k)
  rwa [show k + (k' - k) = k' from by omega] at this
theorem rmore_f (s : ByteArray) (hs : s.size ≤ 140737488351232) (a : Nat) (ha : a < 4294967296) (k : Nat) (hk : 10 * s.size + 1 ≤ k) : beadrollref05_More.f k (a : Int) s = some ((sumN a s.data.toList : Nat) : Int) :=
  mono_at (f := fun k => beadrollref05_More.f k (a : Int) s) (fun k => beadrollref05_More.mono (a : Int) s k) (ref_more s hs a ha) hk
theorem rsum_f (s : ByteArray) (hs : s.size ≤ 140737488351232) (k : Nat) (hk : 10 * s.size + 1 ≤ k) : beadrollref05_Sum.f k s = some ((sumN 0 s.data.toList : Nat) : Int) := by
  unfold beadrollref05_Sum.f
  have := rmore_f s hs 0 (by omega) k hk
  rw [show ((0 : Nat) : Int) = 0 from rfl] at this
  rw [this]; rfl
theorem sumN_lt (l : List UInt8) : sumN 0 l < 4294967296 := xor_lt MN_lt (stepsN_lt l (xor_lt MN_lt (by omega)))

/-! ### frames -/
/-- A frame's bytes. -/
def frameL (l : List UInt8) : List UInt8 := beB 4 l.length ++ (beB 4 (sumN 0 (beB 4 l.length ++ l)) ++ l)
def frameB (s : ByteArray) : ByteArray := arr (frameL s.data.toList)
theorem frameL_len (l : List UInt8) : (frameL l).length = 8 + l.length := by unfold frameL; simp only [List.length_append, beB_len]; omega
theorem frame_size (s : ByteArray) : (frameB s).size = 8 + s.size := by unfold frameB; rw [arr_size, frameL_len, size_list]
theorem four_w : isWidth 4 = true := by decide
theorem number_four (v k : Nat) (hv : v < 4294967296) (hk : 60 ≤ k) : frame_number.f k (v : Int) = some (arr (beB 4 v)) := by
  unfold frame_number.f
  rw [join_f [(v : Int)] [4] k (by simp) (by simp) (by intro x hx; rw [List.mem_singleton.mp hx]; omega) hk, Option.bind_some, joinR, if_pos (by simp [four_w])]
  rw [joinL, Int.toNat_natCast, if_pos (by show v < 256 ^ 4; omega), joinL]
  rfl
theorem frame_f (s : ByteArray) (k : Nat) (hs : s.size ≤ 16777216) (hk : 60 ≤ k) : frame_Frame.f k s = some (frameB s, 0) := by
  unfold frame_Frame.f
  rw [if_neg (by omega), u64_id (by omega) (by omega), number_four s.size k (by omega) hk, Option.bind_some, parts_f _ (by
    intro x hx
    simp only [List.mem_cons, List.mem_nil_iff, or_false] at hx
    rcases hx with rfl | rfl
    · rw [arr_size, beB_len]; omega
    · omega), Option.bind_some]
  have e : ([arr (beB 4 s.size), s].flatMap fun s => s.data.toList) = beB 4 s.size ++ s.data.toList := by
    simp only [List.flatMap_cons, List.flatMap_nil, arr_list, List.append_nil]
  have hl := sumN_lt (beB 4 s.size ++ s.data.toList)
  rw [e, u64_id (by omega) (by omega), number_four _ k hl hk, Option.bind_some, arr_app, if_pos (by simp only [arr_size, beB_len]; omega), if_pos (by simp only [arr_size, List.length_append, beB_len]; omega)]
  have : arr (beB 4 s.size ++ beB 4 (sumN 0 (beB 4 s.size ++ s.data.toList))) ++ s = frameB s := by
    apply list_inj
    unfold frameB frameL
    rw [app_list, arr_list, arr_list, size_list, List.append_assoc]
  rw [this]
theorem rframe_f (s : ByteArray) (k : Nat) (hs : s.size ≤ 16777216) (hk : 10 * s.size + 100 ≤ k) : beadrollref06_Frame.f k s = some (frameB s) := by
  unfold beadrollref06_Frame.f
  have hl := sumN_lt (beB 4 s.size ++ s.data.toList)
  have e : (arr (beB 4 s.size) ++ s).data.toList = beB 4 s.size ++ s.data.toList := by rw [app_list, arr_list]
  have hz : (arr (beB 4 s.size) ++ s).size = 4 + s.size := by rw [ByteArray.size_append, arr_size, beB_len]
  rw [u64_id (by omega) (by omega), show (4 : Int) = ((4 : Nat) : Int) from rfl, rbytes_f 4 s.size k (by omega) (by omega) (by omega), Option.bind_some, if_pos (by rw [arr_size, beB_len]; omega), rsum_f _ (by omega) k (by omega), Option.bind_some, e, u64_id (by omega) (by omega), rbytes_f 4 _ k (by omega) (by omega) (by omega), Option.bind_some, arr_app, if_pos (by simp only [arr_size, beB_len]; omega), if_pos (by simp only [arr_size, List.length_append, beB_len]; omega)]
  have : arr (beB 4 s.size ++ beB 4 (sumN 0 (beB 4 s.size ++ s.data.toList))) ++ s = frameB s := by
    apply list_inj
    unfold frameB frameL
    rw [app_list, arr_list, arr_list, size_list, List.append_assoc]
  rw [this]
theorem frsize_f (s : ByteArray) (hs : s.size ≤ 1000000000) : frame_Size.f s = some ((8 + s.size : Nat) : Int) := by
  unfold frame_Size.f
  rw [w64_id (by omega) (by omega)]; congr 1
theorem awake06_f (k : Nat) (hk : 60 ≤ k) : beadrolllaw06_awake.f k = some true := by
  unfold beadrolllaw06_awake.f
  rw [frame_f _ k (by decide) hk, Option.bind_some, if_pos rfl, frsize_f _ (by decide)]
  simp only [frame_size]
  rfl
/-- The first frame of some bytes, or why there is none. -/
def firstR (b : ByteArray) : ByteArray × Int × Int :=
  if b.size < 8 then (⟨#[]⟩, 0, 2)
  else if beN (b.data.toList.take 4) > 16777216 ∨ beN (b.data.toList.take 4) > b.size - 8 then (⟨#[]⟩, 0, 2)
  else if frameB (b.extract 8 (8 + beN (b.data.toList.take 4))) = b.extract 0 (8 + beN (b.data.toList.take 4)) then (b.extract 8 (8 + beN (b.data.toList.take 4)), ((8 + beN (b.data.toList.take 4) : Nat) : Int), 0)
  else (⟨#[]⟩, 0, 7)
theorem list_eq_iff (a b : ByteArray) : (a.toList = b.toList) ↔ a = b := by
  rw [ByteArray.toList_eq, ByteArray.toList_eq]
  exact ⟨list_inj, fun h => by rw [h]⟩
theorem rfirst_f (b : ByteArray) (k : Nat) (hb : b.size ≤ 100000000) (hk : 10 * b.size + 200 ≤ k) : beadrollref06_First.f k b = some (firstR b) := by
  obtain ⟨k, rfl⟩ : ∃ j, k = j + 1 := ⟨k - 1, by omega⟩
  unfold beadrollref06_First.f firstR
  by_cases h8 : b.size < 8
  · rw [if_pos (by omega), if_pos h8]
  · have h1 := beN_lt (b.data.toList.take 4)
    rw [take_size b 4 (by omega)] at h1
    have h2 : (256 : Nat) ^ 4 = 4294967296 := rfl
    rw [if_neg (by omega), if_neg h8, if_pos (by omega), if_pos (by omega), number_f _ (by rw [ext_size _ _ (by omega)]; omega) (k + 1) (by omega), ext_list, Option.bind_some, w64_id (by omega) (by omega), u64_id (by omega) (by omega)]
    generalize hn : beN (b.data.toList.take 4) = n at h1
    by_cases hbig : n > 16777216
    · rw [if_pos (by omega), if_pos (by omega), beadrollref06_First.j0, if_pos rfl]
    · rw [if_neg (by omega)]
      by_cases hlong : n > b.size - 8
      · rw [decide_eq_true (by omega), if_pos (by omega), beadrollref06_First.j0, if_pos rfl]
      · have e8 : ((8 : Int) + (n : Int)).toNat = 8 + n := by omega
        rw [decide_eq_false (by omega), if_neg (by omega), beadrollref06_First.j0, if_neg (by decide), w64_id (x := (n : Int)) (by omega) (by omega), w64_id (by omega) (by omega), if_pos (by omega), if_pos (by omega), e8, rframe_f _ k (by rw [ByteArray.size_extract]; omega) (by rw [ByteArray.size_extract]; omega), Option.bind_some, if_pos (by omega)]
        by_cases hf : frameB (b.extract 8 (8 + n)) = b.extract 0 (8 + n)
        · rw [if_pos ((list_eq_iff _ _).mpr hf), if_pos hf]; rfl
        · rw [if_neg (fun h => hf ((list_eq_iff _ _).mp h)), if_neg hf]
theorem first_f (b : ByteArray) (k : Nat) (hb : b.size ≤ 100000000) (hk : 1 ≤ k) : frame_First.f k b = some (firstR b) := by
  obtain ⟨k, rfl⟩ : ∃ j, k = j + 1 := ⟨k - 1, by omega⟩
  unfold frame_First.f firstR
  rw [split_f b [4, 4] (by omega) (by decide), Option.bind_some, splitR, if_pos (show ([4, 4] : List Int).all isWidth = true by decide), splitL]
  have et : (4 : Int).toNat = 4 := rfl
  by_cases h8 : b.size < 8
  · rw [if_pos h8]
    by_cases h4 : (4 : Int).toNat ≤ b.size
    · rw [if_pos h4, splitL, if_neg (show ¬ ((4 : Int).toNat ≤ (b.extract (4 : Int).toNat b.size).size) by rw [drop_size, et]; omega)]; rfl
    · rw [if_neg h4]; rfl
  · rw [if_pos (show (4 : Int).toNat ≤ b.size by rw [et]; omega), if_neg h8, splitL, if_pos (show (4 : Int).toNat ≤ (b.extract (4 : Int).toNat b.size).size by rw [drop_size, et]; omega), splitL, et]
    have h1 := beN_lt (b.data.toList.take 4)
    rw [take_size b 4 (by omega)] at h1
    have h2 : (256 : Nat) ^ 4 = 4294967296 := rfl
    have e1 : ((b.extract 4 b.size).extract 4 (b.extract 4 b.size).size) = b.extract 8 b.size := by
      apply list_inj
      rw [drop_list, drop_list, drop_list, List.drop_drop]
    rw [e1, drop_list]
    generalize hn : beN (b.data.toList.take 4) = n at h1
    have e8s : (b.extract 8 b.size).size = b.size - 8 := drop_size b 8
    show (if (0 : Int) = 0 then _ else _) = _
    rw [if_pos rfl, if_pos (by simp)]
    rw [show rd ([] ++ [(n : Int)] ++ [(beN ((b.data.toList.drop 4).take 4) : Int)]) 0 = (n : Int) from rfl]
    by_cases hbig : n > 16777216
    · rw [if_pos (by omega), if_pos (by omega), frame_First.j0, if_pos rfl]
    · rw [if_neg (by omega), e8s, u64_id (by omega) (by omega)]
      by_cases hlong : n > b.size - 8
      · rw [decide_eq_true (by omega), if_pos (by omega), frame_First.j0, if_pos rfl]
      · have es : (b.extract 8 b.size).extract 0 n = b.extract 8 (8 + n) := by
          apply list_inj
          rw [ext_list, drop_list, mid_list]
        have ess : (b.extract 8 (8 + n)).size = n := by rw [ByteArray.size_extract]; omega
        have hl := sumN_lt (b.data.toList.take 4 ++ (b.extract 8 (8 + n)).data.toList)
        rw [decide_eq_false (by omega), if_neg (by omega), frame_First.j0, if_neg (by decide), if_pos (by simp)]
        rw [show rd ([] ++ [(n : Int)] ++ [(beN ((b.data.toList.drop 4).take 4) : Int)]) 0 = (n : Int) from rfl]
        rw [show rd ([] ++ [(n : Int)] ++ [(beN ((b.data.toList.drop 4).take 4) : Int)]) 1 = (beN ((b.data.toList.drop 4).take 4) : Int) from rfl]
        rw [if_pos (show (0 : Int) ≤ (n : Int) by omega), if_pos (show (n : Int) ≤ ((b.extract 8 b.size).size : Int) by omega), if_pos (by omega), if_pos (by omega), Int.toNat_natCast, es, parts_f _ (by
          intro x hx
          simp only [List.mem_cons, List.mem_nil_iff, or_false] at hx
          rcases hx with rfl | rfl
          · rw [ext_size _ _ (by omega)]; omega
          · omega), Option.bind_some]
        have e : ([b.extract 0 4, b.extract 8 (8 + n)].flatMap fun s => s.data.toList) = b.data.toList.take 4 ++ (b.extract 8 (8 + n)).data.toList := by
          simp only [List.flatMap_cons, List.flatMap_nil, ext_list, List.append_nil]
        rw [e, if_pos (by simp), u64_id (by omega) (by omega), frsize_f _ (by omega), ess]
        have ht4 : beB 4 n = b.data.toList.take 4 := by rw [← hn]; exact beB_beN 4 _ (take_size b 4 (by omega))
        have hd4 : ((b.data.toList.drop 4).take 4).length = 4 := by rw [List.length_take, List.length_drop, size_list]; omega
        have hall : (b.extract 0 (8 + n)).data.toList = b.data.toList.take 4 ++ ((b.data.toList.drop 4).take 4 ++ (b.extract 8 (8 + n)).data.toList) := by
          rw [ext_list, mid_list, show 8 + n = 4 + (4 + n) from by omega, List.take_add, List.take_add, List.drop_drop]
        have hfr : (frameB (b.extract 8 (8 + n))).data.toList = b.data.toList.take 4 ++ (beB 4 (sumN 0 (b.data.toList.take 4 ++ (b.extract 8 (8 + n)).data.toList)) ++ (b.extract 8 (8 + n)).data.toList) := by
          unfold frameB frameL
          rw [arr_list, size_list, ess, ht4]
        by_cases hc : sumN 0 (b.data.toList.take 4 ++ (b.extract 8 (8 + n)).data.toList) = beN ((b.data.toList.drop 4).take 4)
        · rw [if_pos (by rw [hc]), if_pos ?_]
          · rfl
          · apply list_inj
            rw [hfr, hall, hc, beB_beN 4 _ hd4]
        · rw [if_neg (by omega), if_neg ?_]
          intro h
          have h3 := congrArg (fun x => x.data.toList) h
          simp only [hfr, hall] at h3
          have h4 := List.append_cancel_left h3
          have h5 := List.append_cancel_right h4
          apply hc
          rw [← h5, beN_beB, Nat.mod_eq_of_lt hl]
end Go.Proofs.Ythcbgoldkoobdaa.OctFacts
