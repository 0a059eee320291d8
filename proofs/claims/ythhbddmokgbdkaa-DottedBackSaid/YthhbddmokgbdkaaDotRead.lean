/- Reading a name's text: the program's reader and the reference's are one plain function of the bytes. -/
import Derived.Test.YthhbddmokgbdkaaDotFacts
namespace Go.Proofs.Ythhbddmokgbdkaa.DotFacts
open Go.RowKit Go.Proofs.Ythhbddmokgbdkaa.PNam Go.Proofs.YthhbddmokgbdkaaW.PrintWords Go.Proofs.YthhbddmokgbdkaaW.PrintLast Go.Proofs.YthhbddmokgbdkaaW.PrintMore Go.Proofs.Ythhbddmokgbdkaa.Given Go.Proofs.Ythhbddmokgbdkaa.Oct Go.Proofs.Ythhbddmokgbdkaa.Name Go.Proofs.Ythhbddmokgbdkaa.NameFacts Go.Proofs.Ythhbddmokgbdkaa.Dot
set_option linter.unusedVariables false
set_option linter.unusedSimpArgs false
def isd (c : UInt8) : Bool := decide (48 ≤ c.toNat ∧ c.toNat ≤ 57)
def val3 (a b c : UInt8) : Nat := (a.toNat - 48) * 100 + (b.toNat - 48) * 10 + (c.toNat - 48)
/-- The byte that stands behind a backslash, and how many bytes say it. -/
def esc : List UInt8 → Option (UInt8 × Nat)
  | [] => none
  | a :: t => if isd a = true then (match t with
      | b :: c :: _ => if isd b = true ∧ isd c = true ∧ val3 a b c ≤ 255 then some (UInt8.ofNat (val3 a b c), 3) else none
      | _ => none) else some (a, 1)
theorem esc_other {a : UInt8} (t : List UInt8) (h : isd a = false) : esc (a :: t) = some (a, 1) := by simp [esc, h]
theorem esc_one {a : UInt8} (h : isd a = true) : esc [a] = none := by simp [esc, h]
theorem esc_two {a : UInt8} (b : UInt8) (h : isd a = true) : esc [a, b] = none := by simp [esc, h]
theorem esc_three {a : UInt8} (b c : UInt8) (r : List UInt8) (h : isd a = true) : esc (a :: b :: c :: r) = if isd b = true ∧ isd c = true ∧ val3 a b c ≤ 255 then some (UInt8.ofNat (val3 a b c), 3) else none := by simp [esc, h]
theorem esc_pos {t : List UInt8} {x : UInt8} {n : Nat} (h : esc t = some (x, n)) : (n = 1 ∨ n = 3) ∧ n ≤ t.length := by
  cases t with
  | nil => exact absurd h (by simp [esc])
  | cons a t =>
    cases ha : isd a with
    | false =>
      rw [esc_other t ha] at h
      simp at h; simp [← h.2]
    | true =>
      match t, h with
      | [], h => rw [esc_one ha] at h; exact absurd h (by simp)
      | [b], h => rw [esc_two b ha] at h; exact absurd h (by simp)
      | b :: c :: r, h =>
        rw [esc_three b c r ha] at h
        split at h
        · simp at h; simp [← h.2]
        · exact absurd h (by simp)
def readL : Nat → List UInt8 → List ByteArray → List UInt8 → Option (List ByteArray)
  | 0, _, _, _ => none
  | _ + 1, [], out, lab => if lab = [] ∧ out ≠ [] then some out else none
  | k + 1, c :: t, out, lab =>
    if c.toNat = 46 then (if lab = [] then none else readL k t (out ++ [arr lab]) [])
    else if c.toNat = 92 then (match esc t with | none => none | some (x, n) => readL k (t.drop n) out (lab ++ [x]))
    else readL k t out (lab ++ [c])
theorem readL_len : ∀ (k : Nat) (rest : List UInt8) (out : List ByteArray) (lab : List UInt8) (l : List ByteArray), readL k rest out lab = some l → l.length ≤ out.length + rest.length
  | 0, _, _, _, _, h => by rw [readL] at h; exact absurd h (by simp)
  | _ + 1, [], out, lab, l, h => by
    rw [readL] at h
    split at h
    · simp at h; simp [h]
    · exact absurd h (by simp)
  | k + 1, c :: t, out, lab, l, h => by
    rw [readL] at h
    split at h
    · split at h
      · exact absurd h (by simp)
      · have := readL_len k t _ _ l h
        rw [List.length_append, List.length_singleton] at this
        simp only [List.length_cons]; omega
    · split at h
      · split at h
        · exact absurd h (by simp)
        · rename_i x n e
          have := readL_len k _ _ _ l h
          rw [List.length_drop] at this
          simp only [List.length_cons]; omega
      · have := readL_len k t _ _ l h
        simp only [List.length_cons]; omega

/-! ### the program -/
theorem bt_arr (l : List UInt8) (j : Nat) (h : j < l.length) : bt (arr l) (j : Int) = ((l[j].toNat : Nat) : Int) := by
  rw [bt_list _ _ (by rw [arr_size]; exact h)]
  congr 2
theorem bt0 (a : UInt8) (t : List UInt8) : bt (arr (a :: t)) 0 = ((a.toNat : Nat) : Int) := bt_arr (a :: t) 0 (by simp)
theorem bt1 (a b : UInt8) (t : List UInt8) : bt (arr (a :: b :: t)) 1 = ((b.toNat : Nat) : Int) := bt_arr (a :: b :: t) 1 (by simp)
theorem bt2 (a b c : UInt8) (t : List UInt8) : bt (arr (a :: b :: c :: t)) 2 = ((c.toNat : Nat) : Int) := bt_arr (a :: b :: c :: t) 2 (by simp)
theorem arr_drop (l : List UInt8) (n : Nat) : (arr l).extract n (arr l).size = arr (l.drop n) := by
  apply list_inj; rw [drop_list, arr_list, arr_list]
theorem arr_toList (l : List UInt8) : (arr l).toList = l := by rw [ByteArray.toList_eq, arr_list]
theorem digit_f (c : UInt8) : dotted_digit.f (c.toNat : Int) = some (isd c) := by
  unfold dotted_digit.f isd
  by_cases h : 48 ≤ c.toNat
  · rw [if_pos (by omega)]
    congr 1
    apply decide_eq_decide.2; omega
  · rw [if_neg (by omega), decide_eq_false (by omega)]
def escP (t : List UInt8) : Int × Int := match esc t with | some (x, n) => ((x.toNat : Int), (n : Int)) | none => (0, 0)
theorem isd_iff {c : UInt8} (h : isd c = true) : 48 ≤ c.toNat ∧ c.toNat ≤ 57 := of_decide_eq_true h
theorem step_v (x y : Nat) (hx : x ≤ 1000) (h : 48 ≤ y) (h' : y ≤ 57) : wrap64 (wrap64 ((x : Int) * 10) + ((y : Int) - 48) % 256) = ((x * 10 + (y - 48) : Nat) : Int) := by
  rw [w64_id (x := (x : Int) * 10) (by omega) (by omega), w64_id (by omega) (by omega)]; omega
theorem step_0 (y : Nat) (h : 48 ≤ y) (h' : y ≤ 57) : wrap64 (wrap64 ((0 : Int) * 10) + ((y : Int) - 48) % 256) = ((y - 48 : Nat) : Int) := by
  rw [w64_id (x := (0 : Int) * 10) (by omega) (by omega), w64_id (by omega) (by omega)]; omega
theorem val_eq (a b c : UInt8) : ((a.toNat - 48) * 10 + (b.toNat - 48)) * 10 + (c.toNat - 48) = val3 a b c := by unfold val3; omega
theorem escaped_f (t : List UInt8) (k : Nat) (hk : 5 ≤ k) (ht : t.length ≤ 1000000) : dotted_escaped.f k (arr t) = some (escP t) := by
  obtain ⟨k, rfl⟩ : ∃ j, k = j + 4 := ⟨k - 4, by omega⟩
  unfold dotted_escaped.f escP
  rw [arr_toList]
  cases t with
  | nil => rw [if_pos rfl]; rfl
  | cons a t =>
    rw [if_neg (by simp), if_pos (by rw [arr_size, List.length_cons]; omega), bt0, digit_f, Option.bind_some]
    cases ha : isd a with
    | false => rw [if_neg (by decide), esc_other t ha]; rfl
    | true =>
      rw [if_pos rfl]
      match t, ht with
      | [], _ => rw [if_pos (by rw [arr_size]; simp), esc_one ha]
      | [b], _ => rw [if_pos (by rw [arr_size]; simp), esc_two b ha]
      | b :: c :: r, ht =>
        have h0 := isd_iff ha
        rw [if_neg (by rw [arr_size]; simp only [List.length_cons]; omega)]
        rw [dotted_escaped.l0, if_pos (by decide), if_pos (by decide), if_pos (by rw [arr_size, List.length_cons]; omega), bt0, digit_f, ha, Option.bind_some, if_pos rfl]
        rw [show wrap64 ((0 : Int) + 1) = 1 from by unfold wrap64; omega, step_0 a.toNat h0.1 h0.2]
        rw [dotted_escaped.l0, if_pos (by decide), if_pos (by decide), if_pos (by rw [arr_size]; simp only [List.length_cons]; omega), bt1, digit_f, Option.bind_some]
        rw [esc_three b c r ha]
        cases hb : isd b with
        | false => rw [if_neg (by decide), if_neg (by simp)]
        | true =>
          have h1 := isd_iff hb
          rw [if_pos rfl, show wrap64 ((1 : Int) + 1) = 2 from by unfold wrap64; omega, step_v (a.toNat - 48) b.toNat (by omega) h1.1 h1.2]
          rw [dotted_escaped.l0, if_pos (by decide), if_pos (by decide), if_pos (by rw [arr_size]; simp only [List.length_cons]; omega), bt2, digit_f, Option.bind_some]
          cases hc : isd c with
          | false => rw [if_neg (by decide), if_neg (by simp)]
          | true =>
            have h2 := isd_iff hc
            rw [if_pos rfl, show wrap64 ((2 : Int) + 1) = 3 from by unfold wrap64; omega, step_v ((a.toNat - 48) * 10 + (b.toNat - 48)) c.toNat (by omega) h2.1 h2.2, val_eq]
            rw [dotted_escaped.l0, if_neg (by decide)]
            by_cases hv : val3 a b c ≤ 255
            · rw [if_neg (by omega), if_pos ⟨rfl, rfl, hv⟩]
              show some (((val3 a b c : Nat) : Int) % 256, (3 : Int)) = some ((((UInt8.ofNat (val3 a b c)).toNat : Nat) : Int), ((3 : Nat) : Int))
              rw [UInt8.toNat_ofNat']
              congr 2
            · rw [if_pos (by omega), if_neg (by rintro ⟨_, _, h⟩; exact hv h)]
theorem labels_run (M : Nat) (hM : M ≤ 500000) : ∀ (d k : Nat) (rest : List UInt8) (out : List ByteArray) (lab : List UInt8), rest.length ≤ d → d + 10 ≤ k → out.length + rest.length ≤ M → lab.length + rest.length ≤ M →
    ∃ l, dotted_labels.l0 k (arr rest) out (bnums lab) = some (l, (readL (d + 1) rest out lab).isSome) ∧ ∀ m, readL (d + 1) rest out lab = some m → l = m := by
  intro d
  induction d with
  | zero =>
    intro k rest out lab hr hk h1 h2
    obtain ⟨k, rfl⟩ : ∃ j, k = j + 1 := ⟨k - 1, by omega⟩
    obtain rfl : rest = [] := List.length_eq_zero_iff.mp (by omega)
    rw [dotted_labels.l0, arr_toList, if_pos rfl, readL, bnums_len]
    by_cases hl : lab = []
    · subst hl
      rw [if_pos (by simp)]
      by_cases ho : out = []
      · subst ho; exact ⟨_, rfl, by simp⟩
      · have : 0 < out.length := List.length_pos_iff.2 ho
        rw [if_pos ⟨rfl, ho⟩, decide_eq_true (by omega)]
        exact ⟨_, rfl, fun m h => Option.some.inj h⟩
    · have : 0 < lab.length := List.length_pos_iff.2 hl
      rw [if_neg (by omega), if_neg (by rintro ⟨h, _⟩; exact hl h)]
      exact ⟨_, rfl, by simp⟩
  | succ d ih =>
    intro k rest out lab hr hk h1 h2
    obtain ⟨k, rfl⟩ : ∃ j, k = j + 1 := ⟨k - 1, by omega⟩
    cases rest with
    | nil =>
      rw [dotted_labels.l0, arr_toList, if_pos rfl, readL, bnums_len]
      by_cases hl : lab = []
      · subst hl
        rw [if_pos (by simp)]
        by_cases ho : out = []
        · subst ho; exact ⟨_, rfl, by simp⟩
        · have : 0 < out.length := List.length_pos_iff.2 ho
          rw [if_pos ⟨rfl, ho⟩, decide_eq_true (by omega)]
          exact ⟨_, rfl, fun m h => Option.some.inj h⟩
      · have : 0 < lab.length := List.length_pos_iff.2 hl
        rw [if_neg (by omega), if_neg (by rintro ⟨h, _⟩; exact hl h)]
        exact ⟨_, rfl, by simp⟩
    | cons c t =>
      rw [List.length_cons] at hr h1 h2
      rw [dotted_labels.l0, arr_toList, if_neg (by simp), if_pos (by rw [arr_size, List.length_cons]; omega), if_pos (by rw [arr_size, List.length_cons]; omega), bt0, arr_drop, List.drop_one, List.tail_cons, readL]
      by_cases c46 : c.toNat = 46
      · rw [if_pos (by omega), if_pos c46, bnums_len]
        by_cases hl : lab = []
        · subst hl
          rw [if_pos (by simp), if_pos rfl]
          exact ⟨_, rfl, by simp⟩
        · have : 0 < lab.length := List.length_pos_iff.2 hl
          rw [if_neg (by omega), if_neg hl, if_pos (by omega), str_bnums]
          exact ih k t (out ++ [arr lab]) [] (by omega) (by omega) (by simp only [List.length_append, List.length_singleton]; omega) (by simp only [List.length_nil]; omega)
      · rw [if_neg (by omega), if_neg c46]
        by_cases c92 : c.toNat = 92
        · rw [if_pos (by omega), if_pos c92, escaped_f t k (by omega) (by omega), Option.bind_some]
          unfold escP
          cases he : esc t with
          | none => exact ⟨_, rfl, by simp⟩
          | some y =>
            obtain ⟨x, n⟩ := y
            have hn := esc_pos he
            show ∃ l, (if ((n : Nat) : Int) = 0 then _ else _) = _ ∧ _
            rw [if_neg (by omega), if_pos (by rw [bnums_len]; omega), if_pos (by show (0 : Int) ≤ (n : Int); omega), if_pos (by show (n : Int) ≤ _; rw [arr_size]; omega)]
            show ∃ l, dotted_labels.l0 k ((arr t).extract ((n : Nat) : Int).toNat (arr t).size) out (bnums lab ++ bnums [x]) = _ ∧ _
            rw [Int.toNat_natCast, arr_drop, ← bnums_app]
            exact ih k (t.drop n) out (lab ++ [x]) (by rw [List.length_drop]; omega) (by omega) (by rw [List.length_drop]; omega) (by rw [List.length_drop, List.length_append, List.length_singleton]; omega)
        · rw [if_neg (by omega), if_neg c92, if_pos (by rw [bnums_len]; omega)]
          show ∃ l, dotted_labels.l0 k (arr t) out (bnums lab ++ bnums [c]) = _ ∧ _
          rw [← bnums_app]
          exact ih k t out (lab ++ [c]) (by omega) (by omega) (by omega) (by rw [List.length_append, List.length_singleton]; omega)
/-- What is read. -/
def readR (s : ByteArray) : ByteArray × Int :=
  if s.data.toList = [46] then (⟨#[0]⟩, 0) else match readL (s.size + 1) s.data.toList [] [] with | some l => ofR l | none => (⟨#[]⟩, 2)
theorem of_nil : ofR [] = (⟨#[0]⟩, 0) := by kernel_rfl
theorem read_f (s : ByteArray) (k : Nat) (hs : s.size ≤ 200000) (hk : s.size + 1000 ≤ k) : dotted_Read.f k s = some (readR s) := by
  unfold dotted_Read.f readR
  rw [ByteArray.toList_eq]
  by_cases h : s.data.toList = [46]
  · rw [if_pos h, if_pos h, of_f [] k (by simp) (by simp; omega), of_nil]; rfl
  · rw [if_neg h, if_neg h]
    obtain ⟨l, e, hm⟩ := labels_run 200000 (by omega) s.size k s.data.toList [] [] (by rw [size_list]; omega) (by omega) (by rw [size_list]; simp; omega) (by rw [size_list]; simp; omega)
    unfold dotted_labels.f
    rw [arr_of] at e
    rw [show dotted_labels.l0 k s [] [] = some (l, (readL (s.size + 1) s.data.toList [] []).isSome) from e, Option.bind_some]
    cases hr : readL (s.size + 1) s.data.toList [] [] with
    | none => rfl
    | some m =>
      obtain rfl := hm m hr
      have hl := readL_len _ _ _ _ _ hr
      rw [size_list, List.length_nil] at hl
      show (if true = true then _ else _) = _
      rw [if_pos rfl]
      show ((name_Of.f k l).bind _) = _
      rw [of_f l k (by omega) (by omega)]; rfl

/-! ### the reference -/
def dg (c : UInt8) : Int := if isd c = true then (c.toNat : Int) - 48 else -1
theorem dg_t {c : UInt8} (h : isd c = true) : dg c = (c.toNat : Int) - 48 := by unfold dg; rw [if_pos h]
theorem dg_f {c : UInt8} (h : isd c = false) : dg c = -1 := by unfold dg; rw [h]; rfl
def dgL (l : List UInt8) (j : Nat) : Int := match l[j]? with | none => -1 | some b => dg b
theorem rdigit_f (s : ByteArray) (j : Nat) (hs : s.size ≤ 1000000) : beadrollref08_digit.f s (j : Int) = some (dgL s.data.toList j) := by
  unfold beadrollref08_digit.f dgL
  by_cases h : j < s.size
  · have hj : j < s.data.toList.length := by rw [size_list]; exact h
    rw [if_neg (by omega), if_pos (by omega), if_pos (by omega), bt_list s j h, List.getElem?_eq_getElem hj]
    generalize s.data.toList[j] = b
    have hb := UInt8.toNat_lt b
    show _ = some (dg b)
    unfold dg isd
    by_cases h1 : b.toNat < 48
    · rw [if_pos (by omega), decide_eq_false (by omega)]; rfl
    · rw [if_neg (by omega)]
      by_cases h2 : b.toNat > 57
      · rw [if_pos (by omega), decide_eq_false (by omega)]; rfl
      · rw [if_neg (by omega), decide_eq_true (by omega), if_pos rfl, w64_id (x := (b.toNat : Int)) (by omega) (by omega), w64_id (by omega) (by omega)]
  · rw [if_pos (by omega), List.getElem?_eq_none (by rw [size_list]; omega)]
theorem rone_f (s : ByteArray) (i : Nat) (c : UInt8) (t : List UInt8) (hs : s.size ≤ 1000000) (hd : s.data.toList.drop i = c :: t) :
    beadrollref08_one.f s (i : Int) = some (if c.toNat = 92 then (match esc t with | some (x, n) => ((x.toNat : Int), (n : Int) + 1) | none => (0, 0)) else ((c.toNat : Int), 1)) := by
  have hlen := congrArg List.length hd
  rw [List.length_drop, size_list, List.length_cons] at hlen
  have hi : i < s.size := by omega
  have at_ : ∀ m, s.data.toList[i + m]? = (c :: t)[m]? := by intro m; rw [← hd, List.getElem?_drop]
  have hc : s.data.toList[i]'(by rw [size_list]; exact hi) = c := by
    have := at_ 0
    rw [Nat.add_zero, List.getElem?_eq_getElem (by rw [size_list]; exact hi)] at this
    exact Option.some.inj this
  unfold beadrollref08_one.f
  rw [if_pos (by omega), if_pos (by omega), bt_list s i hi, hc]
  by_cases h : c.toNat = 92
  · rw [if_pos (by omega), if_pos h, w64_id (by omega) (by omega), w64_id (by omega) (by omega), w64_id (by omega) (by omega)]
    cases t with
    | nil =>
      rw [List.length_nil] at hlen
      rw [if_pos (by omega)]; rfl
    | cons a t =>
      rw [List.length_cons] at hlen
      have ha : s.data.toList[i + 1]'(by rw [size_list]; omega) = a := by
        have := at_ 1
        rw [List.getElem?_eq_getElem (by rw [size_list]; omega)] at this
        exact Option.some.inj this
      have e1 : dgL s.data.toList (i + 1) = dg a := by unfold dgL; rw [at_ 1]; rfl
      rw [if_neg (by omega), show (i : Int) + 1 = ((i + 1 : Nat) : Int) from by omega, show (i : Int) + 2 = ((i + 2 : Nat) : Int) from by omega, show (i : Int) + 3 = ((i + 3 : Nat) : Int) from by omega, rdigit_f s _ hs, Option.bind_some, rdigit_f s _ hs, Option.bind_some, rdigit_f s _ hs, Option.bind_some, e1, bt_list s (i + 1) (by omega), ha]
      cases hia : isd a with
      | false =>
        rw [dg_f hia, if_pos (by decide), if_pos (by omega), if_pos (by omega), esc_other t hia]; rfl
      | true =>
        have h0 := isd_iff hia
        rw [dg_t hia, if_neg (by omega)]
        match t, at_ with
        | [], at_ =>
          have e2 : dgL s.data.toList (i + 2) = -1 := by unfold dgL; rw [at_ 2]; rfl
          rw [e2, if_pos (by decide), esc_one hia]
        | [b], at_ =>
          have e3 : dgL s.data.toList (i + 3) = -1 := by unfold dgL; rw [at_ 3]; rfl
          rw [e3, esc_two b hia]
          split
          · rfl
          · rw [if_pos (by decide)]
        | b :: d :: r, at_ =>
          have e2 : dgL s.data.toList (i + 2) = dg b := by unfold dgL; rw [at_ 2]; rfl
          have e3 : dgL s.data.toList (i + 3) = dg d := by unfold dgL; rw [at_ 3]; rfl
          rw [e2, e3]
          rw [esc_three b d r hia]
          cases hb : isd b with
          | false => rw [dg_f hb, if_pos (by decide), if_neg (by simp)]
          | true =>
            have h1 := isd_iff hb
            rw [dg_t hb, if_neg (by omega)]
            cases hd' : isd d with
            | false => rw [dg_f hd', if_pos (by decide), if_neg (by simp)]
            | true =>
              have h2 := isd_iff hd'
              rw [dg_t hd', if_neg (by omega)]
              have hv : wrap64 (wrap64 (wrap64 (((a.toNat : Int) - 48) * 100) + wrap64 (((b.toNat : Int) - 48) * 10)) + ((d.toNat : Int) - 48)) = ((val3 a b d : Nat) : Int) := by unfold wrap64 val3; omega
              rw [hv]
              by_cases hv' : val3 a b d ≤ 255
              · rw [if_neg (by omega), if_pos ⟨rfl, rfl, hv'⟩]
                show some (((val3 a b d : Nat) : Int) % 256, (4 : Int)) = some ((((UInt8.ofNat (val3 a b d)).toNat : Nat) : Int), ((3 : Nat) : Int) + 1)
                rw [UInt8.toNat_ofNat']
                congr 2
              · rw [if_pos (by omega), if_neg (by rintro ⟨_, _, h⟩; exact hv' h)]
  · rw [if_neg (by omega), if_neg h]
theorem rread_run (s : ByteArray) (hs : s.size ≤ 200000) : ∀ (d i k : Nat) (out : List ByteArray) (lab : List UInt8), s.size - i ≤ d → i ≤ s.size → d + 500000 ≤ k → out.length + (s.size - i) ≤ 200000 → lab.length + (s.size - i) ≤ 200000 →
    beadrollref08_Read.l0 k s out (arr lab) (i : Int) = some (match readL (d + 1) (s.data.toList.drop i) out lab with | some l => ofR l | none => (⟨#[]⟩, 2)) := by
  have stop : ∀ (i k d : Nat) (out : List ByteArray) (lab : List UInt8), i = s.size → 500000 ≤ k → out.length ≤ 200000 → beadrollref08_Read.l0 k s out (arr lab) (i : Int) = some (match readL (d + 1) (s.data.toList.drop i) out lab with | some l => ofR l | none => (⟨#[]⟩, 2)) := by
    intro i k d out lab hi hk ho
    obtain ⟨k, rfl⟩ : ∃ j, k = j + 1 := ⟨k - 1, by omega⟩
    rw [beadrollref08_Read.l0, if_neg (by omega), List.drop_of_length_le (by rw [size_list]; omega), readL, arr_toList]
    by_cases hl : lab = []
    · subst hl
      rw [if_pos rfl]
      by_cases h0 : out = []
      · subst h0; rfl
      · have : 0 < out.length := List.length_pos_iff.2 h0
        rw [if_neg (by omega), if_pos ⟨rfl, h0⟩, rof_f out k (by omega) (by omega)]; rfl
    · rw [if_neg hl, if_neg (by rintro ⟨h, _⟩; exact hl h)]
  intro d
  induction d with
  | zero =>
    intro i k out lab hd hi hk h1 h2
    exact stop i k 0 out lab (by omega) (by omega) (by omega)
  | succ d ih =>
    intro i k out lab hd hi hk h1 h2
    by_cases hlt : i < s.size
    · obtain ⟨k, rfl⟩ : ∃ j, k = j + 1 := ⟨k - 1, by omega⟩
      have hdrop := List.drop_eq_getElem_cons (show i < s.data.toList.length by rw [size_list]; exact hlt)
      have hb := bt_list s i hlt
      have hone := fun c t => rone_f s i c t (by omega)
      generalize s.data.toList[i]'(by rw [size_list]; exact hlt) = c at hdrop hb
      have ho := hone c _ hdrop
      rw [beadrollref08_Read.l0, if_pos (by omega), if_pos (by omega), hb, arr_toList, hdrop, readL]
      by_cases c46 : c.toNat = 46
      · rw [if_pos (by omega), if_pos c46]
        by_cases hl : lab = []
        · rw [if_pos hl, if_pos hl]
        · rw [if_neg hl, if_neg hl, if_pos (by omega), w64_id (by omega) (by omega)]
          exact ih (i + 1) k (out ++ [arr lab]) [] (by omega) (by omega) (by omega) (by rw [List.length_append, List.length_singleton]; omega) (by rw [List.length_nil]; omega)
      · rw [if_neg (by omega), if_neg c46, ho, Option.bind_some]
        by_cases c92 : c.toNat = 92
        · rw [if_pos c92, if_pos c92]
          cases he : esc (s.data.toList.drop (i + 1)) with
          | none => rfl
          | some y =>
            obtain ⟨x, n⟩ := y
            have hn := esc_pos he
            rw [List.length_drop, size_list] at hn
            show (if ((n : Nat) : Int) + 1 = 0 then _ else _) = _
            rw [if_neg (by omega), Option.bind_some]
            show (if (arr lab).size + (strOfNums ([(x.toNat : Int)] : List Int)).size ≤ _ then beadrollref08_Read.l0 k s out (arr lab ++ strOfNums ([(x.toNat : Int)] : List Int)) (wrap64 ((i : Int) + (((n : Nat) : Int) + 1))) else none) = _
            rw [one_byte, if_pos (by rw [arr_size, arr_size]; simp only [List.length_singleton]; omega), arr_app, w64_id (by omega) (by omega), show (i : Int) + (((n : Nat) : Int) + 1) = ((i + 1 + n : Nat) : Int) from by omega]
            rw [ih (i + 1 + n) k out (lab ++ [x]) (by omega) (by omega) (by omega) (by omega) (by rw [List.length_append, List.length_singleton]; omega), ← List.drop_drop]
        · rw [if_neg c92, if_neg c92]
          show (if (1 : Int) = 0 then _ else _) = _
          rw [if_neg (by decide), Option.bind_some]
          show (if (arr lab).size + (strOfNums ([(c.toNat : Int)] : List Int)).size ≤ _ then beadrollref08_Read.l0 k s out (arr lab ++ strOfNums ([(c.toNat : Int)] : List Int)) (wrap64 ((i : Int) + 1)) else none) = _
          rw [one_byte, if_pos (by rw [arr_size, arr_size]; simp only [List.length_singleton]; omega), arr_app, w64_id (by omega) (by omega)]
          exact ih (i + 1) k out (lab ++ [c]) (by omega) (by omega) (by omega) (by omega) (by rw [List.length_append, List.length_singleton]; omega)
    · exact stop i k (d + 1) out lab (by omega) (by omega) (by omega)
theorem rread_f (s : ByteArray) (k : Nat) (hs : s.size ≤ 200000) (hk : 800000 ≤ k) : beadrollref08_Read.f k s = some (readR s) := by
  unfold beadrollref08_Read.f readR
  rw [ByteArray.toList_eq]
  by_cases h : s.data.toList = [46]
  · rw [if_pos h, if_pos h]
  · rw [if_neg h, if_neg h]
    have := rread_run s hs s.size 0 k [] [] (by omega) (by omega) (by omega) (by simp; omega) (by simp; omega)
    exact this
end Go.Proofs.Ythhbddmokgbdkaa.DotFacts
