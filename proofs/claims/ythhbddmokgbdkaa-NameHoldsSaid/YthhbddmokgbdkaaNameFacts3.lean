/- The order of names, what is under a name: the program's own functions, as plain functions of the labels. -/
import Derived.Test.YthhbddmokgbdkaaNameFacts2
namespace Go.Proofs.Ythhbddmokgbdkaa.NameFacts
open Go.RowKit Go.Proofs.Ythhbddmokgbdkaa.PNam Go.Proofs.YthhbddmokgbdkaaW.PrintWords Go.Proofs.YthhbddmokgbdkaaW.PrintLast Go.Proofs.YthhbddmokgbdkaaW.PrintMore Go.Proofs.Ythhbddmokgbdkaa.Given Go.Proofs.Ythhbddmokgbdkaa.Oct Go.Proofs.Ythhbddmokgbdkaa.Name Go.Proofs.Ythhbddmokgbdkaa.Cmp
set_option linter.unusedVariables false
set_option linter.unusedSimpArgs false

/-! ### bytes in their order -/
theorem bl_cons (a b : UInt8) (x y : List UInt8) : Op.bytesLess (a :: x) (b :: y) = true ↔ a.toNat < b.toNat ∨ (a = b ∧ Op.bytesLess x y = true) := by
  rw [Op.bytesLess, Bool.or_eq_true, Bool.and_eq_true, beq_iff_eq, decide_eq_true_iff, UInt8.lt_iff_toNat_lt]
theorem bl_irrefl : ∀ x : List UInt8, Op.bytesLess x x = false
  | [] => rfl
  | a :: x => by
    cases h : Op.bytesLess (a :: x) (a :: x) with
    | false => rfl
    | true =>
      rcases (bl_cons a a x x).mp h with h1 | ⟨_, h1⟩
      · omega
      · rw [bl_irrefl x] at h1; exact absurd h1 (by decide)
theorem bl_trans : ∀ x y z : List UInt8, Op.bytesLess x y = true → Op.bytesLess y z = true → Op.bytesLess x z = true
  | _, _, [], _, h => by rw [Op.bytesLess] at h; exact absurd h (by decide)
  | [], _, _ :: _, _, _ => rfl
  | a :: x, [], _ :: _, h, _ => by rw [Op.bytesLess] at h; exact absurd h (by decide)
  | a :: x, b :: y, c :: z, h1, h2 => by
    rw [bl_cons] at h1 h2 ⊢
    rcases h1 with h1 | ⟨rfl, h1⟩
    · rcases h2 with h2 | ⟨rfl, h2⟩
      · exact .inl (by omega)
      · exact .inl h1
    · rcases h2 with h2 | ⟨rfl, h2⟩
      · exact .inl h2
      · exact .inr ⟨rfl, bl_trans x y z h1 h2⟩
theorem bl_tri : ∀ x y : List UInt8, Op.bytesLess x y = false → Op.bytesLess y x = false → x = y
  | [], [], _, _ => rfl
  | [], _ :: _, h, _ => by rw [Op.bytesLess] at h; exact absurd h (by decide)
  | _ :: _, [], _, h => by rw [Op.bytesLess] at h; exact absurd h (by decide)
  | a :: x, b :: y, h1, h2 => by
    have n1 : ¬ (a.toNat < b.toNat ∨ (a = b ∧ Op.bytesLess x y = true)) := fun h => by rw [(bl_cons a b x y).mpr h] at h1; exact absurd h1 (by decide)
    have n2 : ¬ (b.toNat < a.toNat ∨ (b = a ∧ Op.bytesLess y x = true)) := fun h => by rw [(bl_cons b a y x).mpr h] at h2; exact absurd h2 (by decide)
    have e : a = b := UInt8.toNat_inj.mp (by
      have : ¬ a.toNat < b.toNat := fun h => n1 (.inl h)
      have : ¬ b.toNat < a.toNat := fun h => n2 (.inl h)
      omega)
    subst e
    rw [bl_tri x y (by cases h : Op.bytesLess x y with | false => rfl | true => exact absurd (.inr ⟨rfl, h⟩) n1) (by cases h : Op.bytesLess y x with | false => rfl | true => exact absurd (.inr ⟨rfl, h⟩) n2)]
theorem bl_asymm (x y : List UInt8) (h : Op.bytesLess x y = true) : Op.bytesLess y x = false := by
  cases h' : Op.bytesLess y x with
  | false => rfl
  | true => rw [← bl_irrefl x, bl_trans x y x h h']

/-! ### a comparison that is an order -/
structure Ord {α : Type} (c : α → α → Int) : Prop where
  vals : ∀ a b, c a b = -1 ∨ c a b = 0 ∨ c a b = 1
  flip : ∀ a b, c b a = - c a b
  zero : ∀ a b, c a b = 0 → a = b
  self : ∀ a, c a a = 0
  trans : ∀ a b d, c a b < 0 → c b d < 0 → c a d < 0
theorem Ord.le_trans {α : Type} {c : α → α → Int} (O : Ord c) {a b d : α} (h1 : c a b ≤ 0) (h2 : c b d ≤ 0) : c a d ≤ 0 ∧ (c a d = 0 → c a b = 0 ∧ c b d = 0) := by
  by_cases e1 : c a b = 0
  · obtain rfl := O.zero _ _ e1
    exact ⟨h2, fun h => ⟨e1, h⟩⟩
  · by_cases e2 : c b d = 0
    · obtain rfl := O.zero _ _ e2
      exact ⟨h1, fun h => ⟨h, e2⟩⟩
    · have := O.trans a b d (by omega) (by omega)
      exact ⟨by omega, fun h => by omega⟩
theorem cmp_self (a : List UInt8) : cmpB a a = 0 := by
  unfold cmpB; rw [bl_irrefl, if_neg (by decide), if_pos (by simp)]
theorem cmp_lt {a b : List UInt8} (h : Op.bytesLess a b = true) : cmpB a b = -1 := by unfold cmpB; rw [if_pos h]
theorem cmp_gt {a b : List UInt8} (h : Op.bytesLess b a = true) : cmpB a b = 1 := by
  unfold cmpB
  rw [bl_asymm b a h, if_neg (by decide), if_neg]
  intro e
  rw [beq_iff_eq.mp e, bl_irrefl] at h; exact absurd h (by decide)
theorem cmp_cases (a b : List UInt8) : (Op.bytesLess a b = true ∧ cmpB a b = -1) ∨ (a = b ∧ cmpB a b = 0) ∨ (Op.bytesLess b a = true ∧ cmpB a b = 1) := by
  cases h1 : Op.bytesLess a b with
  | true => exact .inl ⟨rfl, cmp_lt h1⟩
  | false =>
    cases h2 : Op.bytesLess b a with
    | true => exact .inr (.inr ⟨rfl, cmp_gt h2⟩)
    | false =>
      obtain rfl := bl_tri a b h1 h2
      exact .inr (.inl ⟨rfl, cmp_self a⟩)
theorem cmp_ord : Ord cmpB where
  vals a b := by rcases cmp_cases a b with h | h | h <;> omega
  flip a b := by
    rcases cmp_cases a b with ⟨h, e⟩ | ⟨h, e⟩ | ⟨h, e⟩
    · rw [e, cmp_gt h]; rfl
    · rw [e, h, cmp_self]; rfl
    · rw [e, cmp_lt h]
  zero a b h := by rcases cmp_cases a b with ⟨_, e⟩ | ⟨k, e⟩ | ⟨_, e⟩ <;> first | exact k | omega
  self := cmp_self
  trans a b d h1 h2 := by
    rcases cmp_cases a b with ⟨k1, e⟩ | ⟨_, e⟩ | ⟨_, e⟩ <;> try omega
    rcases cmp_cases b d with ⟨k2, e'⟩ | ⟨_, e'⟩ | ⟨_, e'⟩ <;> try omega
    rw [cmp_lt (bl_trans _ _ _ k1 k2)]; omega
/-- Lists of labels, label by label. -/
def cmpL : List ByteArray → List ByteArray → Int
  | [], [] => 0
  | [], _ :: _ => -1
  | _ :: _, [] => 1
  | a :: x, b :: y => if cmpB a.toList b.toList = 0 then cmpL x y else cmpB a.toList b.toList
theorem cmpL_self : ∀ x, cmpL x x = 0
  | [] => rfl
  | a :: x => by rw [cmpL, cmp_self, if_pos rfl, cmpL_self x]
theorem cmpL_vals : ∀ x y, cmpL x y = -1 ∨ cmpL x y = 0 ∨ cmpL x y = 1
  | [], [] => .inr (.inl rfl)
  | [], _ :: _ => .inl rfl
  | _ :: _, [] => .inr (.inr rfl)
  | a :: x, b :: y => by
    rw [cmpL]; split
    · exact cmpL_vals x y
    · exact cmp_ord.vals _ _
theorem cmpL_flip : ∀ x y, cmpL y x = - cmpL x y
  | [], [] => rfl
  | [], _ :: _ => rfl
  | _ :: _, [] => rfl
  | a :: x, b :: y => by
    rw [cmpL, cmpL, cmp_ord.flip a.toList b.toList]
    by_cases h : cmpB a.toList b.toList = 0
    · rw [if_pos (by omega), if_pos h, cmpL_flip x y]
    · rw [if_neg (by omega), if_neg h]
theorem cmpL_zero : ∀ x y, cmpL x y = 0 → x = y
  | [], [], _ => rfl
  | [], _ :: _, h => by rw [cmpL] at h; omega
  | _ :: _, [], h => by rw [cmpL] at h; omega
  | a :: x, b :: y, h => by
    rw [cmpL] at h
    by_cases h0 : cmpB a.toList b.toList = 0
    · rw [if_pos h0] at h
      rw [toList_inj.mp (cmp_ord.zero _ _ h0), cmpL_zero x y h]
    · rw [if_neg h0] at h; exact absurd h h0
theorem cmpL_trans : ∀ x y z, cmpL x y < 0 → cmpL y z < 0 → cmpL x z < 0
  | [], [], _, h, _ => by rw [cmpL] at h; omega
  | _ :: _, [], _, h, _ => by rw [cmpL] at h; omega
  | _, _ :: _, [], _, h => by rw [cmpL] at h; omega
  | [], _ :: _, _ :: _, _, _ => by rw [cmpL]; omega
  | a :: x, b :: y, c :: z, h1, h2 => by
    rw [cmpL] at h1 h2 ⊢
    by_cases e1 : cmpB a.toList b.toList = 0
    · rw [if_pos e1] at h1
      have ea := cmp_ord.zero _ _ e1
      rw [ea]
      by_cases e2 : cmpB b.toList c.toList = 0
      · rw [if_pos e2] at h2 ⊢
        exact cmpL_trans x y z h1 h2
      · rw [if_neg e2] at h2 ⊢; exact h2
    · rw [if_neg e1] at h1
      by_cases e2 : cmpB b.toList c.toList = 0
      · rw [← cmp_ord.zero _ _ e2, if_neg e1]; exact h1
      · rw [if_neg e2] at h2
        have := cmp_ord.trans _ _ _ h1 h2
        rw [if_neg (by omega)]; exact this
theorem cmpL_ord : Ord cmpL := ⟨cmpL_vals, cmpL_flip, cmpL_zero, cmpL_self, cmpL_trans⟩
theorem cmpL_prefix : ∀ (x : List ByteArray) (s : ByteArray), cmpL x (x ++ [s]) = -1
  | [], _ => rfl
  | a :: x, s => by rw [List.cons_append, cmpL, cmp_self, if_pos rfl, cmpL_prefix x s]

/-! ### slices.Compare, slices.Reverse -/
theorem scmp_at (x y : List ByteArray) (hx : x.length ≤ 1000000) (hy : y.length ≤ 1000000) : ∀ (d i k : Nat), i + d = x.length → d < k → i ≤ y.length → slices_Compare_string_string.l0 k x y x (x.length : Int) (i : Int) = some (cmpL (x.drop i) (y.drop i)) := by
  intro d
  induction d with
  | zero =>
    intro i k hi hk hiy
    obtain ⟨k, rfl⟩ : ∃ j, k = j + 1 := ⟨k - 1, by omega⟩
    rw [slices_Compare_string_string.l0, if_neg (by omega), List.drop_of_length_le (by omega : x.length ≤ i)]
    by_cases h : i = y.length
    · rw [if_neg (by omega), List.drop_of_length_le (by omega)]; rfl
    · rw [if_pos (by omega), List.drop_eq_getElem_cons (by omega : i < y.length)]; rfl
  | succ d ih =>
    intro i k hi hk hiy
    obtain ⟨k, rfl⟩ : ∃ j, k = j + 1 := ⟨k - 1, by omega⟩
    have hix : i < x.length := by omega
    rw [slices_Compare_string_string.l0, if_pos (by omega), if_pos (by omega), if_pos (by omega), List.drop_eq_getElem_cons hix]
    by_cases h : i < y.length
    · rw [if_neg (by omega), if_pos (by omega), rdo_at x i hix, rdo_at y i h, List.drop_eq_getElem_cons h, cmpL]
      show (if cmpB _ _ = 0 then _ else _) = _
      by_cases h0 : cmpB x[i].toList y[i].toList = 0
      · rw [if_pos h0, if_pos h0, w64_id (by omega) (by omega)]
        exact ih (i + 1) k (by omega) (by omega) (by omega)
      · rw [if_neg h0, if_neg h0]
    · rw [if_pos (by omega), List.drop_of_length_le (by omega : y.length ≤ i)]; rfl
theorem scmp_f (x y : List ByteArray) (k : Nat) (hx : x.length ≤ 1000000) (hy : y.length ≤ 1000000) (hk : x.length < k) : slices_Compare_string_string.f k x y = some (cmpL x y) :=
  scmp_at x y hx hy x.length 0 k (by omega) hk (by omega)
theorem rev_at (x : List ByteArray) (hx : x.length ≤ 1000000) : ∀ (d i k : Nat) (y : List ByteArray), y.length = x.length → 2 * i + d = x.length + 1 → d + 1 ≤ k →
    (∀ p, p < x.length → y[p]? = if p < i ∨ x.length - i ≤ p then x[x.length - 1 - p]? else x[p]?) →
    slices_Reverse_string_string.l0 k y (i : Int) ((x.length : Int) - 1 - (i : Int)) = some x.reverse := by
  intro d
  induction d using Nat.strongRecOn with
  | _ d ih =>
    intro i k y hy hd hk hp
    obtain ⟨k, rfl⟩ : ∃ j, k = j + 1 := ⟨k - 1, by omega⟩
    rw [slices_Reverse_string_string.l0]
    by_cases h : (i : Int) < (x.length : Int) - 1 - (i : Int)
    · rw [if_pos h, if_pos (by omega), if_pos (by omega), if_pos (by omega), if_pos (by omega)]
      rw [w64_id (by omega) (by omega), w64_id (by omega) (by omega)]
      obtain ⟨j, hj⟩ : ∃ j : Nat, (x.length : Int) - 1 - (i : Int) = (j : Int) := ⟨x.length - 1 - i, by omega⟩
      have hjn : j = x.length - 1 - i := by omega
      rw [hj, show (j : Int) - 1 = (x.length : Int) - 1 - ((i + 1 : Nat) : Int) from by omega, Int.toNat_natCast, Int.toNat_natCast]
      obtain ⟨e, rfl⟩ : ∃ e, d = e + 2 := ⟨d - 2, by omega⟩
      have ri : rdOf ByteArray.empty y (i : Int) = y[i] := rdo_at y i (by omega)
      have rj : rdOf ByteArray.empty y (j : Int) = y[j] := rdo_at y j (by omega)
      rw [ri, rj]
      refine ih e (by omega) (i + 1) k _ (by simp [hy]) (by omega) (by omega) ?_
      intro p hpx
      have hpi := hp i (by omega)
      have hpj := hp j (by omega)
      rw [if_neg (by omega), List.getElem?_eq_getElem (by omega : i < y.length)] at hpi
      rw [if_neg (by omega), List.getElem?_eq_getElem (by omega : j < y.length)] at hpj
      rw [List.getElem?_set, List.getElem?_set]
      by_cases c1 : j = p
      · rw [if_pos c1, if_pos (by simp [hy]; omega), if_pos (by omega), hpi]
        congr 1; omega
      · rw [if_neg c1]
        by_cases c2 : i = p
        · rw [if_pos c2, if_pos (by omega), if_pos (by omega), hpj]
          congr 1; omega
        · rw [if_neg c2, hp p hpx]
          by_cases c3 : p < i ∨ x.length - i ≤ p
          · rw [if_pos c3, if_pos (by omega)]
          · rw [if_neg c3, if_neg (by omega)]
    · rw [if_neg h]
      congr 1
      apply List.ext_getElem?
      intro p
      by_cases hpx : p < x.length
      · rw [hp p hpx, List.getElem?_reverse hpx]
        by_cases c3 : p < i ∨ x.length - i ≤ p
        · rw [if_pos c3]
        · rw [if_neg c3]; congr 1; omega
      · rw [List.getElem?_eq_none (by omega), List.getElem?_eq_none (by simp; omega)]
theorem rev_f (x : List ByteArray) (k : Nat) (hx : x.length ≤ 1000000) (hk : x.length + 2 ≤ k) : slices_Reverse_string_string.f k x = some x.reverse := by
  unfold slices_Reverse_string_string.f
  rw [w64_id (by omega) (by omega)]
  have := rev_at x hx (x.length + 1) 0 k x rfl (by omega) (by omega) (by intro p hp; rw [if_neg (by omega)])
  rw [show ((0 : Nat) : Int) = 0 from rfl, Int.sub_zero] at this
  exact this

/-! ### Compare and Under of names -/
def cmpN (l m : List ByteArray) : Int := cmpL (l.map lowS).reverse (m.map lowS).reverse
theorem cmpN_vals (l m : List ByteArray) : cmpN l m = -1 ∨ cmpN l m = 0 ∨ cmpN l m = 1 := cmpL_vals _ _
theorem compare_f (l m : List ByteArray) (hl : good l) (hm : good m) (sl : (nameB l).size ≤ 255) (sm : (nameB m).size ≤ 255) (k : Nat) (hk : 300 ≤ k) : name_Compare.f k (nameB l) (nameB m) = some (cmpN l m) := by
  have nl := name_len l hl
  have nm := name_len m hm
  unfold name_Compare.f
  rw [fold_yes_f l hl sl, Option.bind_some, labels_yes_f _ (good_map hl) (by rw [size_map]; exact sl), Option.bind_some, fold_yes_f m hm sm, Option.bind_some, labels_yes_f _ (good_map hm) (by rw [size_map]; exact sm), Option.bind_some, if_pos rfl]
  obtain ⟨k, rfl⟩ : ∃ j, k = j + 1 := ⟨k - 1, by omega⟩
  rw [name_Compare.j0, if_neg (by show ¬ false = true; decide), rev_f _ k (by rw [List.length_map]; omega) (by rw [List.length_map]; omega), Option.bind_some, rev_f _ k (by rw [List.length_map]; omega) (by rw [List.length_map]; omega), Option.bind_some, scmp_f _ _ k (by simp; omega) (by simp; omega) (by simp; omega)]
  rfl
/-- Is the one at or under the other? -/
def underL (m : List ByteArray) : List ByteArray → Bool
  | [] => decide (([] : List ByteArray).map lowS = m.map lowS)
  | s :: t => decide ((s :: t).map lowS = m.map lowS) || underL m t
theorem under_at (m : List ByteArray) (hm : good m) (sm : (nameB m).size ≤ 255) : ∀ (l : List ByteArray) (k : Nat), good l → (nameB l).size ≤ 255 → l.length + 3 ≤ k → name_Under.l0 k (nameB l) (nameB m) true = some (underL m l)
  | [], k, hl, sl, hk => by
    obtain ⟨k, rfl⟩ : ∃ j, k = j + 2 := ⟨k - 2, by omega⟩
    rw [name_Under.l0, if_pos rfl, alike_f [] m hl hm sl sm, Option.bind_some, parent_name [] hl sl, Option.bind_some]
    show (if decide (([] : List ByteArray).map lowS = m.map lowS) = true then _ else name_Under.l0 (k + 1) ⟨#[]⟩ (nameB m) false) = _
    rw [name_Under.l0, if_neg (by decide : ¬ false = true), underL]
    cases decide (([] : List ByteArray).map lowS = m.map lowS) <;> simp
  | s :: t, k, hl, sl, hk => by
    obtain ⟨k, rfl⟩ : ∃ j, k = j + 1 := ⟨k - 1, by omega⟩
    have st := name_size s t
    rw [name_Under.l0, if_pos rfl, alike_f (s :: t) m hl hm sl sm, Option.bind_some, parent_name (s :: t) hl sl, Option.bind_some]
    show (if _ then _ else name_Under.l0 k (nameB t) (nameB m) true) = _
    rw [under_at m hm sm t k (fun s h => hl s (by simp [h])) (by omega) (by rw [List.length_cons] at hk; omega), underL]
    cases h : decide ((s :: t).map lowS = m.map lowS) <;> simp
theorem under_f (l m : List ByteArray) (hl : good l) (hm : good m) (sl : (nameB l).size ≤ 255) (sm : (nameB m).size ≤ 255) (k : Nat) (hk : 300 ≤ k) : name_Under.f k (nameB l) (nameB m) = some (underL m l) := by
  have nl := name_len l hl
  unfold name_Under.f
  rw [right_f, right_name hl sl, Option.bind_some, if_pos rfl, right_f, right_name hm sm, Option.bind_some]
  obtain ⟨k, rfl⟩ : ∃ j, k = j + 1 := ⟨k - 1, by omega⟩
  rw [name_Under.j0, if_neg (by decide)]
  exact under_at m hm sm l k hl sl (by omega)
theorem under_self (l : List ByteArray) : underL l l = true := by
  cases l <;> simp [underL]
theorem under_len (m : List ByteArray) : ∀ l, underL m l = true → m.length ≤ l.length
  | [], h => by
    have := congrArg List.length (of_decide_eq_true h)
    simp at this
    rw [← this]; exact Nat.le_refl _
  | s :: t, h => by
    rw [underL, Bool.or_eq_true] at h
    rcases h with h | h
    · have := congrArg List.length (of_decide_eq_true h)
      simp at this
      rw [List.length_cons]; omega
    · have := under_len m t h
      rw [List.length_cons]; omega
theorem under_alike {l m : List ByteArray} (h : l.map lowS = m.map lowS) : underL m l = true := by
  cases l with
  | nil => exact decide_eq_true h
  | cons s t => rw [underL, decide_eq_true h]; rfl
theorem under_root : ∀ l, underL [] l = true
  | [] => rfl
  | s :: t => by rw [underL, under_root t, Bool.or_true]
end Go.Proofs.Ythhbddmokgbdkaa.NameFacts
