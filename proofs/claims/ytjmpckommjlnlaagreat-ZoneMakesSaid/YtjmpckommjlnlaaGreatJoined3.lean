/- Contracts and facts that the claim's row is drawn from, each with its own conditions. -/
import Derived.Test.YtjmpckommjlnlaaGreatJoined2
import Derived.WalkKit
import Derived.Below
import Derived.Lib.Hide
import Derived.Outline
import Derived.Deep.LoopGhost
import Derived.Shelf.Strings.BuilderK
import Derived.Test.YtjmpckommjlnlaaGreatProg
import Derived.Deep.Draws
import Derived.Deep.AppendLies
import Derived.Maps.AppendAt
import Derived.OwnWalk
import Derived.Laws.BytesArg
import Derived.Laws.MakeOwn
import Derived.Laws.OwnMore
import Derived.Deep.OwnRows
import Derived.Tactics
import Derived.Lib.ConvBytes
import Derived.Laws.Slices
import Derived.KernelRfl
import Derived.RowKit3
import Derived.Deep.QuietTactic
import Derived.BigQuiet
import Derived.WideLaws
import Derived.Deep.DeepCutAuto
import Derived.Deep.CutBlock
import Derived.Deep.RegionHeld3
import Derived.Laws.Rows
import Derived.Lib.AppendStr
import Derived.ArgAppend
import Derived.Laws.IdiomCopy
import Derived.OrdersHeld
import Derived.Laws.BitsLemmas
import Derived.RowKit
import Derived.StillTailTactics
namespace Go.Proofs.YtjmpckommjlnlaaGreat.NameFacts
open Go.RowKit Go.Proofs.YtjmpckommjlnlaaGreat.PRd Go.Proofs.YtjmpckommjlnlaaGreatW.PrintWords Go.Proofs.YtjmpckommjlnlaaGreatW.PrintLast Go.Proofs.YtjmpckommjlnlaaGreatW.PrintMore Go.Proofs.YtjmpckommjlnlaaGreat.Given Go.Proofs.YtjmpckommjlnlaaGreat.Oct Go.Proofs.YtjmpckommjlnlaaGreat.Name Go.Proofs.YtjmpckommjlnlaaGreat.Cmp
set_option linter.unusedVariables false
set_option linter.unusedSimpArgs false
set_option linter.unusedVariables false
set_option linter.unusedSimpArgs false
theorem u64_id {x : Int} (h0 : 0 ≤ x) (h1 : x < 18446744073709551616) : IntKind.u64.wrap x = x := by
  simp only [IntKind.wrap, IntKind.bits, IntKind.signed]; simp; omega
theorem w64_id {x : Int} (h0 : -9223372036854775808 ≤ x) (h1 : x ≤ 9223372036854775807) : wrap64 x = x := by unfold wrap64; omega
theorem rdo_at (l : List ByteArray) (i : Nat) (h : i < l.length) : rdOf ByteArray.empty l (i : Int) = l[i] := by
  unfold rdOf; rw [Int.toNat_natCast, List.getD_eq_getElem?_getD, List.getElem?_eq_getElem h]; rfl
theorem bt_list (b : ByteArray) (i : Nat) (h : i < b.size) : bt b (i : Int) = ((b.data.toList[i]'(by rw [size_list]; exact h)).toNat : Int) := by
  unfold bt
  rw [Int.toNat_natCast, dif_pos h]; rfl
def okR (r : ByteArray) : Bool := decide (endIn r (labs r.size r) = rootB)
theorem first_list {b : ByteArray} {i : Nat} (h : i < b.size) : (b.extract i b.size).data.toList = b.data.toList[i]'(by rw [size_list]; exact h) :: b.data.toList.drop (i + 1) := by
  rw [drop_list]; exact List.drop_eq_getElem_cons _
theorem first_num {b : ByteArray} {i : Nat} (h : i < b.size) : beN ((b.extract i b.size).data.toList.take 1) = (b.data.toList[i]'(by rw [size_list]; exact h)).toNat := by
  rw [first_list h]; simp [beN]
theorem cut_first {b : ByteArray} {i : Nat} (h : i < b.size) : cutOf (b.extract i b.size) 1 = if (b.data.toList[i]'(by rw [size_list]; exact h)).toNat ≤ b.size - i - 1 then
    some (b.extract (i + 1) (i + 1 + (b.data.toList[i]'(by rw [size_list]; exact h)).toNat), b.extract (i + 1 + (b.data.toList[i]'(by rw [size_list]; exact h)).toNat) b.size) else none := by
  unfold cutOf
  rw [if_pos (by rw [drop_size]; omega), first_num h, drop_size]
  split
  · congr 2
    · apply list_inj
      rw [mid_list, mid_list, drop_list, List.drop_drop]
    · apply list_inj
      rw [show b.size - i = (b.extract i b.size).size from (drop_size b i).symm, drop_list, drop_list, drop_list, List.drop_drop, Nat.add_assoc]
  · rfl
theorem root_iff {b : ByteArray} {i : Nat} (h : i < b.size) : b.extract i b.size = rootB ↔ ((b.data.toList[i]'(by rw [size_list]; exact h)).toNat = 0 ∧ i + 1 = b.size) := by
  constructor
  · intro e
    have h1 := congrArg (fun x => x.data.toList) e
    have h2 := congrArg ByteArray.size e
    rw [drop_size, show rootB.size = 1 from rfl] at h2
    simp only [first_list h] at h1
    have : b.data.toList[i]'(by rw [size_list]; exact h) = 0 := by
      have h3 : rootB.data.toList = [0] := rfl
      rw [h3] at h1
      exact (List.cons.inj h1).1
    exact ⟨by rw [this]; rfl, by omega⟩
  · rintro ⟨h1, h2⟩
    apply list_inj
    rw [first_list h, List.drop_of_length_le (by rw [size_list]; omega)]
    have : b.data.toList[i]'(by rw [size_list]; exact h) = 0 := UInt8.toNat_inj.mp (by rw [h1]; rfl)
    rw [this]; rfl
theorem rlabels_at (b : ByteArray) (hb : b.size ≤ 255) : ∀ (d i k : Nat) (acc : List ByteArray), b.size - i ≤ d → i ≤ b.size → 2 * d + 3 ≤ k → acc.length + d ≤ 100000 →
    ∃ l, beadrollref07_Labels.l0 k b acc (i : Int) = some (l, okR (b.extract i b.size)) ∧ (okR (b.extract i b.size) = true → l = acc ++ (labs (b.extract i b.size).size (b.extract i b.size)).map (·.1)) := by
  intro d
  induction d with
  | zero =>
    intro i k acc hd hi hk ha
    obtain rfl : i = b.size := by omega
    obtain ⟨k, rfl⟩ : ∃ j, k = j + 2 := ⟨k - 2, by omega⟩
    have hz : (b.extract b.size b.size).size = 0 := by rw [drop_size]; omega
    have hn : okR (b.extract b.size b.size) = false := by
      unfold okR
      rw [hz]
      exact decide_eq_false (fun h => by have := congrArg ByteArray.size (show b.extract b.size b.size = rootB from h); rw [hz] at this; exact absurd this (by decide))
    rw [hn, beadrollref07_Labels.l0, if_neg (by omega), beadrollref07_Labels.j1, if_neg (by decide), if_neg (by rw [w64_id (by omega) (by omega)]; omega)]
    exact ⟨_, rfl, fun h => absurd h (by decide)⟩
  | succ d ih =>
    intro i k acc hd hi hk ha
    obtain ⟨k, rfl⟩ : ∃ j, k = j + 2 := ⟨k - 2, by omega⟩
    by_cases hlt : i < b.size
    · have hbt := bt_list b i hlt
      have hcut := cut_first hlt
      have hroot := root_iff hlt
      have hc := UInt8.toNat_lt (b.data.toList[i]'(by rw [size_list]; exact hlt))
      generalize (b.data.toList[i]'(by rw [size_list]; exact hlt)).toNat = m at hbt hcut hroot hc
      have hsz : (b.extract i b.size).size = b.size - i := drop_size b i
      rw [beadrollref07_Labels.l0, if_pos (by omega), if_pos (by omega), hbt]
      have stop : ∀ (_ : labs (b.extract i b.size).size (b.extract i b.size) = []) (_ : ¬ b.extract i b.size = rootB), okR (b.extract i b.size) = false := fun h h' => by
        unfold okR; rw [h]; exact decide_eq_false h'
      by_cases h0 : m = 0
      · rw [decide_eq_false (by omega), beadrollref07_Labels.j1, if_neg (by decide), hbt, w64_id (by omega) (by omega)]
        by_cases hend : i + 1 = b.size
        · have hr := hroot.mpr ⟨h0, hend⟩
          have hok : okR (b.extract i b.size) = true := by unfold okR; rw [hr]; rfl
          rw [if_pos (by omega), if_pos (by omega), if_pos (by omega), hok]
          refine ⟨acc, by rw [h0]; rfl, fun _ => ?_⟩
          rw [labs_root hr]; simp
        · have hr : ¬ b.extract i b.size = rootB := fun h => hend (hroot.mp h).2
          rw [if_pos (by omega)] at hcut
          have hl := labs_bad hcut (.inl (by rw [ByteArray.size_extract]; omega))
          rw [stop hl hr, if_neg (by omega)]
          exact ⟨_, rfl, fun h => absurd h (by decide)⟩
      · have hr : ¬ b.extract i b.size = rootB := fun h => h0 (hroot.mp h).1
        rw [decide_eq_true (by omega), beadrollref07_Labels.j1, if_pos rfl, if_pos (by omega), if_pos (by omega), hbt, w64_id (x := (m : Int)) (by omega) (by omega), w64_id (x := (i : Int) + 1) (by omega) (by omega), w64_id (x := (i : Int) + 1 + (m : Int)) (by omega) (by omega), w64_id (x := 1 + (m : Int)) (by omega) (by omega), w64_id (x := (i : Int) + (1 + (m : Int))) (by omega) (by omega)]
        by_cases h63 : m > 63
        · have hl : labs (b.extract i b.size).size (b.extract i b.size) = [] := by
            by_cases hle : m ≤ b.size - i - 1
            · rw [if_pos hle] at hcut
              exact labs_bad hcut (.inr (by rw [ByteArray.size_extract]; omega))
            · rw [if_neg hle] at hcut
              exact labs_none hcut
          rw [if_pos (by omega), stop hl hr]
          exact ⟨_, rfl, fun h => absurd h (by decide)⟩
        · rw [if_neg (by omega)]
          by_cases hle : m ≤ b.size - i - 1
          · rw [if_pos hle] at hcut
            have hsz2 : (b.extract (i + 1) (i + 1 + m)).size = m := by rw [ByteArray.size_extract]; omega
            have hl := labs_cons hr hcut (by rw [hsz2]; omega)
            rw [if_neg (by omega), if_pos (by omega), if_pos (by omega), if_pos (by omega), if_pos (by omega)]
            rw [show ((i : Int) + 1).toNat = i + 1 from by omega, show ((i : Int) + 1 + (m : Int)).toNat = i + 1 + m from by omega, show (i : Int) + (1 + (m : Int)) = ((i + 1 + m : Nat) : Int) from by omega]
            obtain ⟨l, e1, e2⟩ := ih (i + 1 + m) k (acc ++ [b.extract (i + 1) (i + 1 + m)]) (by omega) (by omega) (by omega) (by simp; omega)
            have hok : okR (b.extract i b.size) = okR (b.extract (i + 1 + m) b.size) := by
              unfold okR
              rw [hl]
              congr 2
              unfold endIn
              cases hq : labs (b.extract (i + 1 + m) b.size).size (b.extract (i + 1 + m) b.size) with
              | nil => rfl
              | cons y t => rw [List.getLast?_cons_cons]; simp [List.getLast?_cons]
            rw [hok]
            refine ⟨l, e1, fun h => ?_⟩
            rw [e2 h, hl]
            simp
          · rw [if_neg hle] at hcut
            rw [if_pos (by omega), stop (labs_none hcut) hr]
            exact ⟨_, rfl, fun h => absurd h (by decide)⟩
    · obtain rfl : i = b.size := by omega
      exact ih b.size (k + 2) acc (by omega) (by omega) (by omega) (by omega)
theorem right_ok (n : ByteArray) : rightB n = (decide (n.size ≤ 255) && okR n) := by
  unfold rightB okR
  congr 1
  by_cases h : endIn n (labs n.size n) = rootB
  · rw [h]; simp [ByteArray.toList_eq]; rfl
  · rw [decide_eq_false h]
    exact list_ne h
theorem all_bytes (b : ByteArray) : b.extract 0 b.size = b := by apply list_inj; rw [drop_list]; rfl
theorem rlabels_no (n : ByteArray) (k : Nat) (hn : rightB n = false) (hk : 600 ≤ k) : ∃ l, beadrollref07_Labels.f k n = some (l, false) := by
  unfold beadrollref07_Labels.f
  by_cases h : (n.size : Int) > 255
  · rw [if_pos h]; exact ⟨_, rfl⟩
  · rw [if_neg h]
    obtain ⟨l, e1, _⟩ := rlabels_at n (by omega) n.size 0 k [] (by omega) (by omega) (by omega) (by simp; omega)
    rw [all_bytes] at e1
    rw [right_ok, decide_eq_true (by omega), Bool.true_and] at hn
    rw [hn] at e1
    exact ⟨l, e1⟩
theorem rlabels_yes (l : List ByteArray) (k : Nat) (hg : good l) (hs : (nameB l).size ≤ 255) (hk : 600 ≤ k) : beadrollref07_Labels.f k (nameB l) = some (l, true) := by
  unfold beadrollref07_Labels.f
  rw [if_neg (by omega)]
  obtain ⟨m, e1, e2⟩ := rlabels_at (nameB l) hs (nameB l).size 0 k [] (by omega) (by omega) (by omega) (by simp; omega)
  rw [all_bytes] at e1 e2
  have hok : okR (nameB l) = true := by unfold okR; exact decide_eq_true (end_labs l hg)
  rw [hok] at e1
  have := e2 hok
  rw [List.nil_append, labs_name l hg, pairs_fst] at this
  rw [this] at e1; exact e1
theorem rright_f (n : ByteArray) (k : Nat) (hk : 600 ≤ k) : beadrollref07_Right.f k n = some (rightB n) := by
  unfold beadrollref07_Right.f
  cases h : rightB n with
  | false =>
    obtain ⟨l, e⟩ := rlabels_no n k h hk
    rw [e]; rfl
  | true =>
    obtain ⟨l, hg, rfl, hs⟩ := (right_iff n).mp h
    rw [rlabels_yes l k hg hs hk]; rfl
theorem right_f (n : ByteArray) : name_Right.f n = some (rightB n) := rfl
theorem labels_yes_f (l : List ByteArray) (hg : good l) (hs : (nameB l).size ≤ 255) : name_Labels.f (nameB l) = some (l, 0) := by
  unfold name_Labels.f
  rw [right_name hg hs, if_pos rfl, labs_name l hg, pairs_fst]
theorem parent_name (l : List ByteArray) (hg : good l) (hs : (nameB l).size ≤ 255) : name_Parent.f (nameB l) = some (match l with | [] => (⟨#[]⟩, false) | _ :: t => (nameB t, true)) := by
  unfold name_Parent.f parentR
  rw [right_name hg hs, if_pos rfl, labs_name l hg]
  cases l <;> rfl
theorem fold_yes_f (l : List ByteArray) (hg : good l) (hs : (nameB l).size ≤ 255) : name_Fold.f (nameB l) = some (nameB (l.map lowS)) := by
  unfold name_Fold.f name_folded.f
  rw [right_f, right_name hg hs, Option.bind_some, if_pos rfl, if_pos (by omega), fold_name l hg]; rfl
theorem fold_no_f (n : ByteArray) (h : rightB n = false) : name_Fold.f n = some ⟨#[]⟩ := by
  unfold name_Fold.f
  rw [right_f, h, Option.bind_some, if_neg (by decide)]
theorem alike_f (l m : List ByteArray) (hl : good l) (hm : good m) (sl : (nameB l).size ≤ 255) (sm : (nameB m).size ≤ 255) : name_Alike.f (nameB l) (nameB m) = some (decide (l.map lowS = m.map lowS)) := by
  unfold name_Alike.f name_folded.f
  rw [right_f, right_f, right_name hl sl, right_name hm sm, Option.bind_some, if_pos rfl, Option.bind_some, if_pos rfl, if_pos (by omega), if_pos (by omega), Option.bind_some, Option.bind_some, fold_name l hl, fold_name m hm]
  congr 1
  by_cases h : l.map lowS = m.map lowS
  · rw [h]; simp
  · rw [decide_eq_false h, beq_eq_false_iff_ne]
    intro e
    exact h (name_inj (good_map hl) (good_map hm) (toList_inj.mp e))
set_option linter.unusedVariables false
set_option linter.unusedSimpArgs false
def catB : List ByteArray → ByteArray
  | [] => ⟨#[]⟩
  | s :: l => pieceB 1 s ++ catB l
theorem app_nil (b : ByteArray) : b ++ (⟨#[]⟩ : ByteArray) = b := by apply list_inj; rw [app_list]; simp
theorem nil_app (b : ByteArray) : (⟨#[]⟩ : ByteArray) ++ b = b := by apply list_inj; rw [app_list]; simp
theorem app_assoc (a b c : ByteArray) : a ++ b ++ c = a ++ (b ++ c) := by apply list_inj; rw [app_list, app_list, app_list, app_list, List.append_assoc]
theorem nameB_cat : ∀ l, nameB l = catB l ++ (⟨#[0]⟩ : ByteArray)
  | [] => by rw [catB, nil_app]; rfl
  | s :: l => by rw [nameB, catB, nameB_cat l, app_assoc]
theorem catB_app : ∀ l s, catB (l ++ [s]) = catB l ++ pieceB 1 s
  | [], s => by
    show pieceB 1 s ++ (⟨#[]⟩ : ByteArray) = (⟨#[]⟩ : ByteArray) ++ pieceB 1 s
    rw [app_nil, nil_app]
  | t :: l, s => by rw [List.cons_append, catB, catB, catB_app l s, app_assoc]
theorem cat_take (l : List ByteArray) (i : Nat) (h : i < l.length) : catB (l.take (i + 1)) = catB (l.take i) ++ pieceB 1 l[i] := by
  rw [List.take_succ_eq_append_getElem h, catB_app]
theorem cat_size : ∀ (l : List ByteArray), (∀ s ∈ l, s.size ≤ 63) → (catB l).size ≤ 64 * l.length
  | [], _ => Nat.le_refl _
  | s :: l, h => by
    have h1 := h s (by simp)
    have h2 := cat_size l (fun t ht => h t (by simp [ht]))
    rw [catB, ByteArray.size_append, piece_size1, List.length_cons]; omega
set_option linter.unusedVariables false
set_option linter.unusedSimpArgs false
theorem bl_cons (a b : UInt8) (x y : List UInt8) : Op.bytesLess (a :: x) (b :: y) = true ↔ a.toNat < b.toNat ∨ (a = b ∧ Op.bytesLess x y = true) := by
  rw [Op.bytesLess, Bool.or_eq_true, Bool.and_eq_true, beq_iff_eq, decide_eq_true_iff, UInt8.lt_iff_toNat_lt]
theorem bl_irrefl : ∀ x : List UInt8, Op.bytesLess x x = false
  | [] => rfl
  | a :: x => by
    cases h : Op.bytesLess (a :: x) (a :: x) with
    | false => rfl
    | true =>
      rcases (bl_cons a a x x).mp h with h1 | ⟨_, h1⟩
      · omega
      · rw [bl_irrefl x] at h1; exact absurd h1 (by decide)
theorem bl_trans : ∀ x y z : List UInt8, Op.bytesLess x y = true → Op.bytesLess y z = true → Op.bytesLess x z = true
  | _, _, [], _, h => by rw [Op.bytesLess] at h; exact absurd h (by decide)
  | [], _, _ :: _, _, _ => rfl
  | a :: x, [], _ :: _, h, _ => by rw [Op.bytesLess] at h; exact absurd h (by decide)
  | a :: x, b :: y, c :: z, h1, h2 => by
    rw [bl_cons] at h1 h2 ⊢
    rcases h1 with h1 | ⟨rfl, h1⟩
    · rcases h2 with h2 | ⟨rfl, h2⟩
      · exact .inl (by omega)
      · exact .inl h1
    · rcases h2 with h2 | ⟨rfl, h2⟩
      · exact .inl h2
      · exact .inr ⟨rfl, bl_trans x y z h1 h2⟩
theorem bl_tri : ∀ x y : List UInt8, Op.bytesLess x y = false → Op.bytesLess y x = false → x = y
  | [], [], _, _ => rfl
  | [], _ :: _, h, _ => by rw [Op.bytesLess] at h; exact absurd h (by decide)
  | _ :: _, [], _, h => by rw [Op.bytesLess] at h; exact absurd h (by decide)
  | a :: x, b :: y, h1, h2 => by
    have n1 : ¬ (a.toNat < b.toNat ∨ (a = b ∧ Op.bytesLess x y = true)) := fun h => by rw [(bl_cons a b x y).mpr h] at h1; exact absurd h1 (by decide)
    have n2 : ¬ (b.toNat < a.toNat ∨ (b = a ∧ Op.bytesLess y x = true)) := fun h => by rw [(bl_cons b a y x).mpr h] at h2; exact absurd h2 (by decide)
    have e : a = b := UInt8.toNat_inj.mp (by
      have : ¬ a.toNat < b.toNat := fun h => n1 (.inl h)
      have : ¬ b.toNat < a.toNat := fun h => n2 (.inl h)
      omega)
    subst e
    rw [bl_tri x y (by cases h : Op.bytesLess x y with | false => rfl | true => exact absurd (.inr ⟨rfl, h⟩) n1) (by cases h : Op.bytesLess y x with | false => rfl | true => exact absurd (.inr ⟨rfl, h⟩) n2)]
theorem bl_asymm (x y : List UInt8) (h : Op.bytesLess x y = true) : Op.bytesLess y x = false := by
  cases h' : Op.bytesLess y x with
  | false => rfl
  | true => rw [← bl_irrefl x, bl_trans x y x h h']
structure Ord {α : Type} (c : α → α → Int) : Prop where
  vals : ∀ a b, c a b = -1 ∨ c a b = 0 ∨ c a b = 1
  flip : ∀ a b, c b a = - c a b
  zero : ∀ a b, c a b = 0 → a = b
  self : ∀ a, c a a = 0
  trans : ∀ a b d, c a b < 0 → c b d < 0 → c a d < 0
theorem Ord.le_trans {α : Type} {c : α → α → Int} (O : Ord c) {a b d : α} (h1 : c a b ≤ 0) (h2 : c b d ≤ 0) : c a d ≤ 0 ∧ (c a d = 0 → c a b = 0 ∧ c b d = 0) := by
  by_cases e1 : c a b = 0
  · obtain rfl := O.zero _ _ e1
    exact ⟨h2, fun h => ⟨e1, h⟩⟩
  · by_cases e2 : c b d = 0
    · obtain rfl := O.zero _ _ e2
      exact ⟨h1, fun h => ⟨h, e2⟩⟩
    · have := O.trans a b d (by omega) (by omega)
      exact ⟨by omega, fun h => by omega⟩
theorem cmp_self (a : List UInt8) : cmpB a a = 0 := by
  unfold cmpB; rw [bl_irrefl, if_neg (by decide), if_pos (by simp)]
theorem cmp_lt {a b : List UInt8} (h : Op.bytesLess a b = true) : cmpB a b = -1 := by unfold cmpB; rw [if_pos h]
theorem cmp_gt {a b : List UInt8} (h : Op.bytesLess b a = true) : cmpB a b = 1 := by
  unfold cmpB
  rw [bl_asymm b a h, if_neg (by decide), if_neg]
  intro e
  rw [beq_iff_eq.mp e, bl_irrefl] at h; exact absurd h (by decide)
theorem cmp_cases (a b : List UInt8) : (Op.bytesLess a b = true ∧ cmpB a b = -1) ∨ (a = b ∧ cmpB a b = 0) ∨ (Op.bytesLess b a = true ∧ cmpB a b = 1) := by
  cases h1 : Op.bytesLess a b with
  | true => exact .inl ⟨rfl, cmp_lt h1⟩
  | false =>
    cases h2 : Op.bytesLess b a with
    | true => exact .inr (.inr ⟨rfl, cmp_gt h2⟩)
    | false =>
      obtain rfl := bl_tri a b h1 h2
      exact .inr (.inl ⟨rfl, cmp_self a⟩)
theorem cmp_ord : Ord cmpB where
  vals a b := by rcases cmp_cases a b with h | h | h <;> omega
  flip a b := by
    rcases cmp_cases a b with ⟨h, e⟩ | ⟨h, e⟩ | ⟨h, e⟩
    · rw [e, cmp_gt h]; rfl
    · rw [e, h, cmp_self]; rfl
    · rw [e, cmp_lt h]
  zero a b h := by rcases cmp_cases a b with ⟨_, e⟩ | ⟨k, e⟩ | ⟨_, e⟩ <;> first | exact k | omega
  self := cmp_self
  trans a b d h1 h2 := by
    rcases cmp_cases a b with ⟨k1, e⟩ | ⟨_, e⟩ | ⟨_, e⟩ <;> try omega
    rcases cmp_cases b d with ⟨k2, e'⟩ | ⟨_, e'⟩ | ⟨_, e'⟩ <;> try omega
    rw [cmp_lt (bl_trans _ _ _ k1 k2)]; omega
def cmpL : List ByteArray → List ByteArray → Int
  | [], [] => 0
  | [], _ :: _ => -1
  | _ :: _, [] => 1
  | a :: x, b :: y => if cmpB a.toList b.toList = 0 then cmpL x y else cmpB a.toList b.toList
theorem cmpL_self : ∀ x, cmpL x x = 0
  | [] => rfl
  | a :: x => by rw [cmpL, cmp_self, if_pos rfl, cmpL_self x]
theorem cmpL_vals : ∀ x y, cmpL x y = -1 ∨ cmpL x y = 0 ∨ cmpL x y = 1
  | [], [] => .inr (.inl rfl)
  | [], _ :: _ => .inl rfl
  | _ :: _, [] => .inr (.inr rfl)
  | a :: x, b :: y => by
    rw [cmpL]; split
    · exact cmpL_vals x y
    · exact cmp_ord.vals _ _
theorem cmpL_flip : ∀ x y, cmpL y x = - cmpL x y
  | [], [] => rfl
  | [], _ :: _ => rfl
  | _ :: _, [] => rfl
  | a :: x, b :: y => by
    rw [cmpL, cmpL, cmp_ord.flip a.toList b.toList]
    by_cases h : cmpB a.toList b.toList = 0
    · rw [if_pos (by omega), if_pos h, cmpL_flip x y]
    · rw [if_neg (by omega), if_neg h]
theorem cmpL_zero : ∀ x y, cmpL x y = 0 → x = y
  | [], [], _ => rfl
  | [], _ :: _, h => by rw [cmpL] at h; omega
  | _ :: _, [], h => by rw [cmpL] at h; omega
  | a :: x, b :: y, h => by
    rw [cmpL] at h
    by_cases h0 : cmpB a.toList b.toList = 0
    · rw [if_pos h0] at h
      rw [toList_inj.mp (cmp_ord.zero _ _ h0), cmpL_zero x y h]
    · rw [if_neg h0] at h; exact absurd h h0
theorem cmpL_trans : ∀ x y z, cmpL x y < 0 → cmpL y z < 0 → cmpL x z < 0
  | [], [], _, h, _ => by rw [cmpL] at h; omega
  | _ :: _, [], _, h, _ => by rw [cmpL] at h; omega
  | _, _ :: _, [], _, h => by rw [cmpL] at h; omega
  | [], _ :: _, _ :: _, _, _ => by rw [cmpL]; omega
  | a :: x, b :: y, c :: z, h1, h2 => by
    rw [cmpL] at h1 h2 ⊢
    by_cases e1 : cmpB a.toList b.toList = 0
    · rw [if_pos e1] at h1
      have ea := cmp_ord.zero _ _ e1
      rw [ea]
      by_cases e2 : cmpB b.toList c.toList = 0
      · rw [if_pos e2] at h2 ⊢
        exact cmpL_trans x y z h1 h2
      · rw [if_neg e2] at h2 ⊢; exact h2
    · rw [if_neg e1] at h1
      by_cases e2 : cmpB b.toList c.toList = 0
      · rw [← cmp_ord.zero _ _ e2, if_neg e1]; exact h1
      · rw [if_neg e2] at h2
        have := cmp_ord.trans _ _ _ h1 h2
        rw [if_neg (by omega)]; exact this
theorem cmpL_ord : Ord cmpL := ⟨cmpL_vals, cmpL_flip, cmpL_zero, cmpL_self, cmpL_trans⟩
theorem scmp_at (x y : List ByteArray) (hx : x.length ≤ 1000000) (hy : y.length ≤ 1000000) : ∀ (d i k : Nat), i + d = x.length → d < k → i ≤ y.length → slices_Compare_string_string.l0 k x y x (x.length : Int) (i : Int) = some (cmpL (x.drop i) (y.drop i)) := by
  intro d
  induction d with
  | zero =>
    intro i k hi hk hiy
    obtain ⟨k, rfl⟩ : ∃ j, k = j + 1 := ⟨k - 1, by omega⟩
    rw [slices_Compare_string_string.l0, if_neg (by omega), List.drop_of_length_le (by omega : x.length ≤ i)]
    by_cases h : i = y.length
    · rw [if_neg (by omega), List.drop_of_length_le (by omega)]; rfl
    · rw [if_pos (by omega), List.drop_eq_getElem_cons (by omega : i < y.length)]; rfl
  | succ d ih =>
    intro i k hi hk hiy
    obtain ⟨k, rfl⟩ : ∃ j, k = j + 1 := ⟨k - 1, by omega⟩
    have hix : i < x.length := by omega
    rw [slices_Compare_string_string.l0, if_pos (by omega), if_pos (by omega), if_pos (by omega), List.drop_eq_getElem_cons hix]
    by_cases h : i < y.length
    · rw [if_neg (by omega), if_pos (by omega), rdo_at x i hix, rdo_at y i h, List.drop_eq_getElem_cons h, cmpL]
      show (if cmpB _ _ = 0 then _ else _) = _
      by_cases h0 : cmpB x[i].toList y[i].toList = 0
      · rw [if_pos h0, if_pos h0, w64_id (by omega) (by omega)]
        exact ih (i + 1) k (by omega) (by omega) (by omega)
      · rw [if_neg h0, if_neg h0]
    · rw [if_pos (by omega), List.drop_of_length_le (by omega : y.length ≤ i)]; rfl
theorem scmp_f (x y : List ByteArray) (k : Nat) (hx : x.length ≤ 1000000) (hy : y.length ≤ 1000000) (hk : x.length < k) : slices_Compare_string_string.f k x y = some (cmpL x y) :=
  scmp_at x y hx hy x.length 0 k (by omega) hk (by omega)
theorem rev_at (x : List ByteArray) (hx : x.length ≤ 1000000) : ∀ (d i k : Nat) (y : List ByteArray), y.length = x.length → 2 * i + d = x.length + 1 → d + 1 ≤ k →
    (∀ p, p < x.length → y[p]? = if p < i ∨ x.length - i ≤ p then x[x.length - 1 - p]? else x[p]?) →
    slices_Reverse_string_string.l0 k y (i : Int) ((x.length : Int) - 1 - (i : Int)) = some x.reverse := by
  intro d
  induction d using Nat.strongRecOn with
  | _ d ih =>
    intro i k y hy hd hk hp
    obtain ⟨k, rfl⟩ : ∃ j, k = j + 1 := ⟨k - 1, by omega⟩
    rw [slices_Reverse_string_string.l0]
    by_cases h : (i : Int) < (x.length : Int) - 1 - (i : Int)
    · rw [if_pos h, if_pos (by omega), if_pos (by omega), if_pos (by omega), if_pos (by omega)]
      rw [w64_id (by omega) (by omega), w64_id (by omega) (by omega)]
      obtain ⟨j, hj⟩ : ∃ j : Nat, (x.length : Int) - 1 - (i : Int) = (j : Int) := ⟨x.length - 1 - i, by omega⟩
      have hjn : j = x.length - 1 - i := by omega
      rw [hj, show (j : Int) - 1 = (x.length : Int) - 1 - ((i + 1 : Nat) : Int) from by omega, Int.toNat_natCast, Int.toNat_natCast]
      obtain ⟨e, rfl⟩ : ∃ e, d = e + 2 := ⟨d - 2, by omega⟩
      have ri : rdOf ByteArray.empty y (i : Int) = y[i] := rdo_at y i (by omega)
      have rj : rdOf ByteArray.empty y (j : Int) = y[j] := rdo_at y j (by omega)
      rw [ri, rj]
      refine ih e (by omega) (i + 1) k _ (by simp [hy]) (by omega) (by omega) ?_
      intro p hpx
      have hpi := hp i (by omega)
      have hpj := hp j (by omega)
      rw [if_neg (by omega), List.getElem?_eq_getElem (by omega : i < y.length)] at hpi
      rw [if_neg (by omega), List.getElem?_eq_getElem (by omega : j < y.length)] at hpj
      rw [List.getElem?_set, List.getElem?_set]
      by_cases c1 : j = p
      · rw [if_pos c1, if_pos (by simp [hy]; omega), if_pos (by omega), hpi]
        congr 1; omega
      · rw [if_neg c1]
        by_cases c2 : i = p
        · rw [if_pos c2, if_pos (by omega), if_pos (by omega), hpj]
          congr 1; omega
        · rw [if_neg c2, hp p hpx]
          by_cases c3 : p < i ∨ x.length - i ≤ p
          · rw [if_pos c3, if_pos (by omega)]
          · rw [if_neg c3, if_neg (by omega)]
    · rw [if_neg h]
      congr 1
      apply List.ext_getElem?
      intro p
      by_cases hpx : p < x.length
      · rw [hp p hpx, List.getElem?_reverse hpx]
        by_cases c3 : p < i ∨ x.length - i ≤ p
        · rw [if_pos c3]
        · rw [if_neg c3]; congr 1; omega
      · rw [List.getElem?_eq_none (by omega), List.getElem?_eq_none (by simp; omega)]
theorem rev_f (x : List ByteArray) (k : Nat) (hx : x.length ≤ 1000000) (hk : x.length + 2 ≤ k) : slices_Reverse_string_string.f k x = some x.reverse := by
  unfold slices_Reverse_string_string.f
  rw [w64_id (by omega) (by omega)]
  have := rev_at x hx (x.length + 1) 0 k x rfl (by omega) (by omega) (by intro p hp; rw [if_neg (by omega)])
  rw [show ((0 : Nat) : Int) = 0 from rfl, Int.sub_zero] at this
  exact this
def cmpN (l m : List ByteArray) : Int := cmpL (l.map lowS).reverse (m.map lowS).reverse
theorem compare_f (l m : List ByteArray) (hl : good l) (hm : good m) (sl : (nameB l).size ≤ 255) (sm : (nameB m).size ≤ 255) (k : Nat) (hk : 300 ≤ k) : name_Compare.f k (nameB l) (nameB m) = some (cmpN l m) := by
  have nl := name_len l hl
  have nm := name_len m hm
  unfold name_Compare.f
  rw [fold_yes_f l hl sl, Option.bind_some, labels_yes_f _ (good_map hl) (by rw [size_map]; exact sl), Option.bind_some, fold_yes_f m hm sm, Option.bind_some, labels_yes_f _ (good_map hm) (by rw [size_map]; exact sm), Option.bind_some, if_pos rfl]
  obtain ⟨k, rfl⟩ : ∃ j, k = j + 1 := ⟨k - 1, by omega⟩
  rw [name_Compare.j0, if_neg (by show ¬ false = true; decide), rev_f _ k (by rw [List.length_map]; omega) (by rw [List.length_map]; omega), Option.bind_some, rev_f _ k (by rw [List.length_map]; omega) (by rw [List.length_map]; omega), Option.bind_some, scmp_f _ _ k (by simp; omega) (by simp; omega) (by simp; omega)]
  rfl
def underL (m : List ByteArray) : List ByteArray → Bool
  | [] => decide (([] : List ByteArray).map lowS = m.map lowS)
  | s :: t => decide ((s :: t).map lowS = m.map lowS) || underL m t
theorem under_at (m : List ByteArray) (hm : good m) (sm : (nameB m).size ≤ 255) : ∀ (l : List ByteArray) (k : Nat), good l → (nameB l).size ≤ 255 → l.length + 3 ≤ k → name_Under.l0 k (nameB l) (nameB m) true = some (underL m l)
  | [], k, hl, sl, hk => by
    obtain ⟨k, rfl⟩ : ∃ j, k = j + 2 := ⟨k - 2, by omega⟩
    rw [name_Under.l0, if_pos rfl, alike_f [] m hl hm sl sm, Option.bind_some, parent_name [] hl sl, Option.bind_some]
    show (if decide (([] : List ByteArray).map lowS = m.map lowS) = true then _ else name_Under.l0 (k + 1) ⟨#[]⟩ (nameB m) false) = _
    rw [name_Under.l0, if_neg (by decide : ¬ false = true), underL]
    cases decide (([] : List ByteArray).map lowS = m.map lowS) <;> simp
  | s :: t, k, hl, sl, hk => by
    obtain ⟨k, rfl⟩ : ∃ j, k = j + 1 := ⟨k - 1, by omega⟩
    have st := name_size s t
    rw [name_Under.l0, if_pos rfl, alike_f (s :: t) m hl hm sl sm, Option.bind_some, parent_name (s :: t) hl sl, Option.bind_some]
    show (if _ then _ else name_Under.l0 k (nameB t) (nameB m) true) = _
    rw [under_at m hm sm t k (fun s h => hl s (by simp [h])) (by omega) (by rw [List.length_cons] at hk; omega), underL]
    cases h : decide ((s :: t).map lowS = m.map lowS) <;> simp
theorem under_f (l m : List ByteArray) (hl : good l) (hm : good m) (sl : (nameB l).size ≤ 255) (sm : (nameB m).size ≤ 255) (k : Nat) (hk : 300 ≤ k) : name_Under.f k (nameB l) (nameB m) = some (underL m l) := by
  have nl := name_len l hl
  unfold name_Under.f
  rw [right_f, right_name hl sl, Option.bind_some, if_pos rfl, right_f, right_name hm sm, Option.bind_some]
  obtain ⟨k, rfl⟩ : ∃ j, k = j + 1 := ⟨k - 1, by omega⟩
  rw [name_Under.j0, if_neg (by decide)]
  exact under_at m hm sm l k hl sl (by omega)
set_option linter.unusedVariables false
set_option linter.unusedSimpArgs false
theorem lower_at (s : ByteArray) (hs : s.size ≤ 1000000) : ∀ (d i k : Nat) (acc : List UInt8), i + d = s.size → d < k → acc.length + d ≤ 1000000 →
    beadrollref07_lower.l0 k s (bnums acc) (i : Int) = some (arr (acc ++ (s.data.toList.drop i).map low)) := by
  intro d
  induction d with
  | zero =>
    intro i k acc hi hk ha
    obtain ⟨k, rfl⟩ : ∃ j, k = j + 1 := ⟨k - 1, by omega⟩
    rw [beadrollref07_lower.l0, if_neg (by omega), List.drop_of_length_le (by rw [size_list]; omega), str_bnums, List.map_nil, List.append_nil]
  | succ d ih =>
    intro i k acc hi hk ha
    obtain ⟨k, rfl⟩ : ∃ j, k = j + 1 := ⟨k - 1, by omega⟩
    have hlt : i < s.size := by omega
    rw [beadrollref07_lower.l0, if_pos (by omega), if_pos (by omega), bt_list s i hlt, List.drop_eq_getElem_cons (by rw [size_list]; exact hlt), List.map_cons]
    generalize s.data.toList[i]'(by rw [size_list]; exact hlt) = c
    have hc := UInt8.toNat_lt c
    have step : ∀ x : UInt8, x = low c → ([(x.toNat : Int)] : List Int) = bnums [low c] := by intro x h; rw [h]; rfl
    have fin := ih (i + 1) k (acc ++ [low c]) (by omega) (by omega) (by simp; omega)
    rw [List.append_assoc, List.singleton_append] at fin
    have hlen : (bnums acc).length < 140737488355328 := by rw [bnums_len]; omega
    by_cases h1 : 65 ≤ c.toNat
    · by_cases h2 : c.toNat ≤ 90
      · have e : (low c).toNat = c.toNat + 32 := by
          have : low c = UInt8.ofNat (c.toNat + 32) := by unfold low; rw [if_pos ⟨h1, h2⟩]
          rw [this, UInt8.toNat_ofNat']; omega
        have e2 : ([((c.toNat : Int) + 32) % 256] : List Int) = bnums [low c] := by
          show _ = [((low c).toNat : Int)]
          rw [e]; congr 1; omega
        rw [if_pos (by omega), if_pos (by omega), if_pos hlen, e2, ← bnums_app, w64_id (by omega) (by omega)]
        exact fin
      · have e : low c = c := by unfold low; rw [if_neg (by omega)]
        rw [if_pos (by omega), if_neg (by omega), if_pos hlen, step c e.symm, ← bnums_app, w64_id (by omega) (by omega)]
        exact fin
    · have e : low c = c := by unfold low; rw [if_neg (by omega)]
      rw [if_neg (by omega), if_pos hlen, step c e.symm, ← bnums_app, w64_id (by omega) (by omega)]
      exact fin
theorem lower_f (s : ByteArray) (k : Nat) (hs : s.size ≤ 1000000) (hk : s.size < k) : beadrollref07_lower.f k s = some (lowS s) := by
  unfold beadrollref07_lower.f
  exact lower_at s hs s.size 0 k [] (by omega) hk (by simp; omega)
theorem piece_low (s : ByteArray) (hs : s.size ≤ 63) : strOfNums ([(s.size : Int) % 256] : List Int) ++ lowS s = pieceB 1 (lowS s) := by
  have e : ([(s.size : Int) % 256] : List Int) = bnums (beB 1 (lowS s).size) := by
    rw [lowS_size, beB, beB, List.nil_append]
    simp only [bnums, List.map_cons, List.map_nil, byte_mod]
    congr 1
  rw [e, str_bnums]; rfl
theorem rfold_at (l : List ByteArray) (hl : l.length ≤ 1000) (hs : ∀ s ∈ l, s.size ≤ 63) : ∀ (d i k : Nat), i + d = l.length → d + 100 ≤ k →
    beadrollref07_Fold.l0 k l (catB ((l.map lowS).take i)) (i : Int) = some (nameB (l.map lowS)) := by
  have hsz : ∀ i, (catB ((l.map lowS).take i)).size ≤ 64 * i := by
    intro i
    have h := cat_size ((l.map lowS).take i) (by
      intro s h
      obtain ⟨t, ht, rfl⟩ := List.mem_map.mp (List.mem_of_mem_take h)
      rw [lowS_size]; exact hs t ht)
    rw [List.length_take] at h
    omega
  intro d
  induction d with
  | zero =>
    intro i k hi hk
    obtain ⟨k, rfl⟩ : ∃ j, k = j + 1 := ⟨k - 1, by omega⟩
    have := hsz i
    rw [beadrollref07_Fold.l0, if_neg (by omega), if_pos (by omega), List.take_of_length_le (by rw [List.length_map]; omega), nameB_cat]
  | succ d ih =>
    intro i k hi hk
    obtain ⟨k, rfl⟩ : ∃ j, k = j + 1 := ⟨k - 1, by omega⟩
    have hil : i < l.length := by omega
    have h63 := hs _ (List.getElem_mem hil)
    have h1 := hsz i
    have hp := piece_low l[i] h63
    have hp2 : (strOfNums ([(l[i].size : Int) % 256] : List Int)).size + (lowS l[i]).size = (pieceB 1 (lowS l[i])).size := by rw [← hp, ByteArray.size_append]
    have hps := piece_size1 (lowS l[i])
    rw [lowS_size] at hps
    rw [beadrollref07_Fold.l0, if_pos (by omega), if_pos (by omega), rdo_at l i hil, Option.bind_some, lower_f _ k (by omega) (by omega), Option.bind_some, hp2, hp, if_pos (by omega), if_pos (by omega), w64_id (by omega) (by omega)]
    have h2 := ih (i + 1) k (by omega) (by omega)
    rw [cat_take (l.map lowS) i (by rw [List.length_map]; exact hil), List.getElem_map] at h2
    exact h2
theorem rfold_yes (l : List ByteArray) (hg : good l) (sl : (nameB l).size ≤ 255) (k : Nat) (hk : 700 ≤ k) : beadrollref07_Fold.f k (nameB l) = some (nameB (l.map lowS)) := by
  have ll := name_len l hg
  unfold beadrollref07_Fold.f
  rw [rlabels_yes l k hg sl (by omega), Option.bind_some, if_pos rfl]
  exact rfold_at l (by omega) (fun s h => (hg s h).2) l.length 0 k (by omega) (by omega)
theorem rfold_no (n : ByteArray) (h : rightB n = false) (k : Nat) (hk : 700 ≤ k) : beadrollref07_Fold.f k n = some ⟨#[]⟩ := by
  unfold beadrollref07_Fold.f
  obtain ⟨l, e⟩ := rlabels_no n k h (by omega)
  rw [e, Option.bind_some, if_neg (by decide : ¬ false = true)]
theorem right_nil : rightB ⟨#[]⟩ = false := by kernel_rfl
theorem ralike_yes (l m : List ByteArray) (hl : good l) (hm : good m) (sl : (nameB l).size ≤ 255) (sm : (nameB m).size ≤ 255) (k : Nat) (hk : 700 ≤ k) : beadrollref07_Alike.f k (nameB l) (nameB m) = some (decide (l.map lowS = m.map lowS)) := by
  unfold beadrollref07_Alike.f
  rw [rright_f _ k (by omega), right_name hl sl, Option.bind_some, if_pos rfl, rright_f _ k (by omega), right_name hm sm, Option.bind_some, if_pos rfl, rfold_yes l hl sl k hk, Option.bind_some, rfold_yes m hm sm k hk, Option.bind_some]
  congr 1
  by_cases h : l.map lowS = m.map lowS
  · rw [h]; simp
  · rw [decide_eq_false h, beq_eq_false_iff_ne]
    intro e
    exact h (name_inj (good_map hl) (good_map hm) (toList_inj.mp e))
theorem alike_no (a b : ByteArray) (h : rightB a = false ∨ rightB b = false) : name_Alike.f a b = some false := by
  unfold name_Alike.f
  rw [right_f, Option.bind_some]
  cases ha : rightB a with
  | false => rw [if_neg (by decide)]
  | true =>
    rw [if_pos rfl, right_f, Option.bind_some, if_neg (by rcases h with h | h <;> simp_all)]
theorem ralike_no (a b : ByteArray) (h : rightB a = false ∨ rightB b = false) (k : Nat) (hk : 700 ≤ k) : beadrollref07_Alike.f k a b = some false := by
  unfold beadrollref07_Alike.f
  rw [rright_f _ k (by omega), Option.bind_some]
  cases ha : rightB a with
  | false => rw [if_neg (by decide)]
  | true =>
    rw [if_pos rfl, rright_f _ k (by omega), Option.bind_some, if_neg (by rcases h with h | h <;> simp_all)]
theorem rd_rev (x : List ByteArray) (i : Nat) (h : i < x.length) (hx : x.length ≤ 1000) : rdOf ByteArray.empty x (wrap64 ((x.length : Int) - ((i + 1 : Nat) : Int))) = x.reverse[i]'(by rw [List.length_reverse]; exact h) := by
  rw [w64_id (by omega) (by omega), show (x.length : Int) - ((i + 1 : Nat) : Int) = ((x.length - 1 - i : Nat) : Int) from by omega, rdo_at x _ (by omega), List.getElem_reverse]
theorem rcmp_at (x y : List ByteArray) (hx : x.length ≤ 1000) (hy : y.length ≤ 1000) : ∀ (d i k : Nat), i + d = x.length → i ≤ y.length → 2 * d + 3 ≤ k →
    beadrollref07_Compare.l0 k x y ((i + 1 : Nat) : Int) = some (cmpL (x.reverse.drop i) (y.reverse.drop i)) := by
  intro d
  induction d with
  | zero =>
    intro i k hi hiy hk
    obtain ⟨k, rfl⟩ : ∃ j, k = j + 2 := ⟨k - 2, by omega⟩
    rw [beadrollref07_Compare.l0, if_neg (by omega), beadrollref07_Compare.j2, if_neg (by decide), List.drop_of_length_le (by rw [List.length_reverse]; omega : x.reverse.length ≤ i)]
    by_cases h : i = y.length
    · rw [if_neg (by omega), if_neg (by omega), List.drop_of_length_le (by rw [List.length_reverse]; omega)]; rfl
    · rw [if_pos (by omega), List.drop_eq_getElem_cons (by rw [List.length_reverse]; omega : i < y.reverse.length)]; rfl
  | succ d ih =>
    intro i k hi hiy hk
    obtain ⟨k, rfl⟩ : ∃ j, k = j + 2 := ⟨k - 2, by omega⟩
    have hix : i < x.length := by omega
    rw [beadrollref07_Compare.l0, if_pos (by omega), List.drop_eq_getElem_cons (by rw [List.length_reverse]; exact hix : i < x.reverse.length)]
    by_cases h : i < y.length
    · rw [decide_eq_true (by omega), beadrollref07_Compare.j2, if_pos rfl, if_pos (by rw [w64_id (by omega) (by omega)]; omega), if_pos (by rw [w64_id (by omega) (by omega)]; omega), if_pos (by rw [w64_id (by omega) (by omega)]; omega), if_pos (by rw [w64_id (by omega) (by omega)]; omega), rd_rev x i hix hx, rd_rev y i h hy, List.drop_eq_getElem_cons (by rw [List.length_reverse]; exact h : i < y.reverse.length), cmpL]
      generalize x.reverse[i]'(by rw [List.length_reverse]; exact hix) = a
      generalize y.reverse[i]'(by rw [List.length_reverse]; exact h) = b
      rcases cmp_cases a.toList b.toList with ⟨h1, e⟩ | ⟨h1, e⟩ | ⟨h1, e⟩
      · rw [if_pos h1, if_neg (by omega), e]
      · rw [h1, bl_irrefl, if_neg (by decide), if_neg (by decide), cmp_self, if_pos rfl, w64_id (by omega) (by omega)]
        exact ih (i + 1) k (by omega) (by omega) (by omega)
      · rw [bl_asymm _ _ h1, if_neg (by decide), if_pos h1, if_neg (by omega), e]
    · rw [decide_eq_false (by omega), beadrollref07_Compare.j2, if_neg (by decide), if_neg (by omega), if_pos (by omega), List.drop_of_length_le (by rw [List.length_reverse]; omega : y.reverse.length ≤ i)]; rfl
theorem rcompare_yes (l m : List ByteArray) (hl : good l) (hm : good m) (sl : (nameB l).size ≤ 255) (sm : (nameB m).size ≤ 255) (k : Nat) (hk : 1000 ≤ k) : beadrollref07_Compare.f k (nameB l) (nameB m) = some (cmpN l m) := by
  have nl := name_len l hl
  have nm := name_len m hm
  unfold beadrollref07_Compare.f
  rw [rfold_yes l hl sl k (by omega), Option.bind_some, rlabels_yes _ k (good_map hl) (by rw [size_map]; exact sl) (by omega), Option.bind_some, rfold_yes m hm sm k (by omega), Option.bind_some, rlabels_yes _ k (good_map hm) (by rw [size_map]; exact sm) (by omega), Option.bind_some, if_pos rfl]
  obtain ⟨k, rfl⟩ : ∃ j, k = j + 1 := ⟨k - 1, by omega⟩
  rw [beadrollref07_Compare.j0, if_neg (by show ¬ false = true; decide)]
  have h := rcmp_at (l.map lowS) (m.map lowS) (by rw [List.length_map]; omega) (by rw [List.length_map]; omega) (l.map lowS).length 0 k (by omega) (by omega) (by rw [List.length_map]; omega)
  exact h
theorem rfolded (n : ByteArray) (k : Nat) (hk : 700 ≤ k) : ∃ f, beadrollref07_Fold.f k n = some f ∧ ∃ l ok, beadrollref07_Labels.f k f = some (l, ok) ∧ (rightB n = false → ok = false) := by
  cases hn : rightB n with
  | false =>
    obtain ⟨l, e⟩ := rlabels_no ⟨#[]⟩ k right_nil (by omega)
    exact ⟨_, rfold_no n hn k hk, _, _, e, fun _ => rfl⟩
  | true =>
    obtain ⟨l, hg, rfl, hs⟩ := (right_iff n).mp hn
    exact ⟨_, rfold_yes l hg hs k hk, _, _, rlabels_yes _ k (good_map hg) (by rw [size_map]; exact hs) (by omega), fun h => absurd h (by decide)⟩
theorem under_suffix (m : List ByteArray) : ∀ l, underL m l = decide (m.map lowS <:+ l.map lowS)
  | [] => by
    rw [underL]; apply decide_eq_decide.2
    rw [List.map_nil, List.suffix_nil]; exact eq_comm
  | s :: t => by
    rw [underL, under_suffix m t, ← Bool.decide_or]
    apply decide_eq_decide.2
    rw [List.map_cons, List.suffix_cons_iff]
    exact or_congr eq_comm Iff.rfl
theorem rd_rev2 (x : List ByteArray) (i : Nat) (h : i < x.length) (hx : x.length ≤ 1000) : rdOf ByteArray.empty x (wrap64 ((wrap64 ((x.length : Int) - 1)) - (i : Int))) = x.reverse[i]'(by rw [List.length_reverse]; exact h) := by
  rw [w64_id (x := (x.length : Int) - 1) (by omega) (by omega), w64_id (by omega) (by omega), show (x.length : Int) - 1 - (i : Int) = ((x.length - 1 - i : Nat) : Int) from by omega, rdo_at x _ (by omega), List.getElem_reverse]
theorem runder_at (x y : List ByteArray) (hx : x.length ≤ 1000) (hxy : y.length ≤ x.length) : ∀ (d i k : Nat), i + d = y.length → d + 1 ≤ k →
    beadrollref07_Under.l0 k x y (i : Int) = some (decide (y.reverse.drop i <+: x.reverse.drop i)) := by
  intro d
  induction d with
  | zero =>
    intro i k hi hk
    obtain ⟨k, rfl⟩ : ∃ j, k = j + 1 := ⟨k - 1, by omega⟩
    rw [beadrollref07_Under.l0, if_neg (by omega), List.drop_of_length_le (by rw [List.length_reverse]; omega : y.reverse.length ≤ i), decide_eq_true (List.nil_prefix)]
  | succ d ih =>
    intro i k hi hk
    obtain ⟨k, rfl⟩ : ∃ j, k = j + 1 := ⟨k - 1, by omega⟩
    have hiy : i < y.length := by omega
    have hix : i < x.length := by omega
    have wx : wrap64 ((wrap64 ((x.length : Int) - 1)) - (i : Int)) = ((x.length - 1 - i : Nat) : Int) := by rw [w64_id (x := (x.length : Int) - 1) (by omega) (by omega), w64_id (by omega) (by omega)]; omega
    have wy : wrap64 ((wrap64 ((y.length : Int) - 1)) - (i : Int)) = ((y.length - 1 - i : Nat) : Int) := by rw [w64_id (x := (y.length : Int) - 1) (by omega) (by omega), w64_id (by omega) (by omega)]; omega
    rw [beadrollref07_Under.l0, if_pos (by omega), rd_rev2 x i hix hx, rd_rev2 y i hiy (by omega), wx, wy, if_pos (by omega), if_pos (by omega), if_pos (by omega), if_pos (by omega), List.drop_eq_getElem_cons (by rw [List.length_reverse]; exact hix : i < x.reverse.length), List.drop_eq_getElem_cons (by rw [List.length_reverse]; exact hiy : i < y.reverse.length)]
    generalize x.reverse[i]'(by rw [List.length_reverse]; exact hix) = a
    generalize y.reverse[i]'(by rw [List.length_reverse]; exact hiy) = b
    by_cases h : a = b
    · subst h
      rw [if_pos rfl, w64_id (by omega) (by omega), show (i : Int) + 1 = ((i + 1 : Nat) : Int) from by omega, ih (i + 1) k (by omega) (by omega)]
      congr 1
      apply decide_eq_decide.2
      rw [List.cons_prefix_cons]
      exact ⟨fun h => ⟨rfl, h⟩, fun h => h.2⟩
    · rw [if_neg (fun e => h (toList_inj.mp e)), decide_eq_false]
      rw [List.cons_prefix_cons]
      rintro ⟨e, _⟩
      exact h e.symm
theorem runder_yes (l m : List ByteArray) (hl : good l) (hm : good m) (sl : (nameB l).size ≤ 255) (sm : (nameB m).size ≤ 255) (k : Nat) (hk : 1000 ≤ k) : beadrollref07_Under.f k (nameB l) (nameB m) = some (underL m l) := by
  have nl := name_len l hl
  have nm := name_len m hm
  unfold beadrollref07_Under.f
  rw [rfold_yes l hl sl k (by omega), Option.bind_some, rlabels_yes _ k (good_map hl) (by rw [size_map]; exact sl) (by omega), Option.bind_some, rfold_yes m hm sm k (by omega), Option.bind_some, rlabels_yes _ k (good_map hm) (by rw [size_map]; exact sm) (by omega), Option.bind_some, if_pos rfl, if_pos rfl]
  obtain ⟨k, rfl⟩ : ∃ j, k = j + 1 := ⟨k - 1, by omega⟩
  rw [under_suffix]
  show beadrollref07_Under.j0 (k + 1) (l.map lowS) (m.map lowS) (decide (((l.map lowS).length : Int) < ((m.map lowS).length : Int))) = _
  by_cases h : (m.map lowS).length ≤ (l.map lowS).length
  · rw [decide_eq_false (by omega), beadrollref07_Under.j0, if_neg (by decide)]
    have := runder_at (l.map lowS) (m.map lowS) (by rw [List.length_map]; omega) h (m.map lowS).length 0 k (by omega) (by rw [List.length_map]; omega)
    refine this.trans ?_
    congr 1
    apply decide_eq_decide.2
    rw [List.drop_zero, List.drop_zero, List.reverse_prefix]
  · rw [decide_eq_true (by omega), beadrollref07_Under.j0, if_pos rfl]
    congr 1
    symm
    apply decide_eq_false
    intro hs
    exact h hs.length_le
theorem under_no (a b : ByteArray) (h : rightB a = false ∨ rightB b = false) (k : Nat) (hk : 2 ≤ k) : name_Under.f k a b = some false := by
  obtain ⟨k, rfl⟩ : ∃ j, k = j + 1 := ⟨k - 1, by omega⟩
  unfold name_Under.f
  rw [right_f, Option.bind_some]
  cases ha : rightB a with
  | false => rw [if_neg (by decide), name_Under.j0, if_pos rfl]
  | true =>
    have hb : rightB b = false := by
      rcases h with h | h
      · rw [ha] at h; exact absurd h (by decide)
      · exact h
    rw [if_pos rfl, right_f, Option.bind_some, hb, name_Under.j0, if_pos (by decide)]
theorem runder_no (a b : ByteArray) (h : rightB a = false ∨ rightB b = false) (k : Nat) (hk : 1000 ≤ k) : beadrollref07_Under.f k a b = some false := by
  obtain ⟨f, e1, l, ok, e2, e3⟩ := rfolded a k (by omega)
  obtain ⟨f', e1', l', ok', e2', e3'⟩ := rfolded b k (by omega)
  unfold beadrollref07_Under.f
  rw [e1, Option.bind_some, e2, Option.bind_some, e1', Option.bind_some, e2', Option.bind_some]
  obtain ⟨k, rfl⟩ : ∃ j, k = j + 1 := ⟨k - 1, by omega⟩
  show (if ok = true then (if ok' = true then beadrollref07_Under.j0 (k + 1) l l' _ else beadrollref07_Under.j0 (k + 1) l l' true) else beadrollref07_Under.j0 (k + 1) l l' true) = _
  cases ok with
  | false => rw [if_neg (by decide), beadrollref07_Under.j0, if_pos rfl]
  | true =>
    have hb : rightB b = false := by
      rcases h with h | h
      · exact absurd (e3 h) (by decide)
      · exact h
    rw [if_pos rfl, e3' hb, if_neg (by decide), beadrollref07_Under.j0, if_pos rfl]
end Go.Proofs.YtjmpckommjlnlaaGreat.NameFacts
namespace Go.Proofs.YtjmpckommjlnlaaGreat.SetLaw
set_option linter.unusedVariables false
variable {α : Type}
structure POrd (c : α → α → Int) : Prop where
  vals : ∀ a b, c a b = -1 ∨ c a b = 0 ∨ c a b = 1
  flip : ∀ a b, c b a = - c a b
  cong : ∀ a b d, c a b = 0 → c a d = c b d
  trans : ∀ a b d, c a b < 0 → c b d < 0 → c a d < 0
namespace POrd
variable {c : α → α → Int} (O : POrd c)
include O
theorem refl (a : α) : c a a = 0 := by have := O.flip a a; omega
theorem symm {a b : α} (h : c a b = 0) : c b a = 0 := by have := O.flip a b; omega
theorem congr (a b d : α) (h : c a b = 0) : c d a = c d b := by have h1 := O.cong a b d h; have h2 := O.flip a d; have h3 := O.flip b d; omega
theorem lt_of_lt_of_eq {a b d : α} (h : c a b < 0) (h' : c b d = 0) : c a d < 0 := by rw [← O.congr b d a h']; exact h
theorem lt_of_eq_of_lt {a b d : α} (h : c a b = 0) (h' : c b d < 0) : c a d < 0 := by rw [O.cong a b d h]; exact h'
theorem le_trans {a b d : α} (h : c a b ≤ 0) (h' : c b d ≤ 0) : c a d ≤ 0 := by
  by_cases e : c a b = 0
  · rw [O.cong a b d e]; exact h'
  · by_cases e' : c b d = 0
    · rw [← O.congr b d a e']; exact h
    · have := O.trans a b d (by omega) (by omega); omega
theorem eq_of_le {a b : α} (h : c a b ≤ 0) (h' : c b a ≤ 0) : c a b = 0 := by have := O.flip a b; omega
end POrd
def cls (c : α → α → Int) (l : List α) (x : α) : List α := l.filter fun y => decide (c x y = 0)
def Sorted (c : α → α → Int) (l : List α) : Prop := l.Pairwise fun a b => c a b ≤ 0
def IsSet (c : α → α → Int) (l : List α) : Prop := l.Pairwise fun a b => c a b < 0
theorem IsSet.sorted {c : α → α → Int} {l : List α} (h : IsSet c l) : Sorted c l := h.imp fun h => by omega
theorem cls_nil (c : α → α → Int) (x : α) : cls c [] x = [] := rfl
theorem cls_cons (c : α → α → Int) (y : α) (l : List α) (x : α) : cls c (y :: l) x = if c x y = 0 then y :: cls c l x else cls c l x := by
  unfold cls; rw [List.filter_cons]; simp only [decide_eq_true_eq]
theorem cls_append (c : α → α → Int) (l m : List α) (x : α) : cls c (l ++ m) x = cls c l x ++ cls c m x := List.filter_append ..
theorem mem_cls {c : α → α → Int} {l : List α} {x y : α} : y ∈ cls c l x ↔ y ∈ l ∧ c x y = 0 := by unfold cls; rw [List.mem_filter]; simp
theorem cls_reverse (c : α → α → Int) (l : List α) (x : α) : cls c l.reverse x = (cls c l x).reverse := by unfold cls; rw [List.filter_reverse]
theorem cls_none {c : α → α → Int} {l : List α} {x : α} (h : ∀ y ∈ l, ¬ c x y = 0) : cls c l x = [] := by
  unfold cls; rw [List.filter_eq_nil_iff]; intro y hy; simpa using h y hy
theorem cls_congr {c : α → α → Int} (O : POrd c) (l : List α) {x y : α} (h : c x y = 0) : cls c l x = cls c l y := by
  unfold cls; congr 1; funext z; rw [O.cong x y z h]
theorem sorted_unique {c : α → α → Int} (O : POrd c) : ∀ (l m : List α), Sorted c l → Sorted c m → (∀ x, cls c l x = cls c m x) → l = m := by
  intro l
  induction l with
  | nil =>
    intro m _ _ h
    cases m with
    | nil => rfl
    | cons y m => have := h y; rw [cls_nil, cls_cons, if_pos (O.refl y)] at this; cases this
  | cons a l ih =>
    intro m hl hm h
    cases m with
    | nil => have := h a; rw [cls_nil, cls_cons, if_pos (O.refl a)] at this; cases this
    | cons b m =>
      have hl' := List.pairwise_cons.mp hl
      have hm' := List.pairwise_cons.mp hm
      have ha : a ∈ b :: m := by
        have h1 := h a
        have h2 : a ∈ cls c (b :: m) a := by rw [← h1]; exact mem_cls.mpr ⟨List.mem_cons_self .., O.refl a⟩
        exact (mem_cls.mp h2).1
      have hb : b ∈ a :: l := by
        have h1 := h b
        have h2 : b ∈ cls c (a :: l) b := by rw [h1]; exact mem_cls.mpr ⟨List.mem_cons_self .., O.refl b⟩
        exact (mem_cls.mp h2).1
      have hab : c a b ≤ 0 := by
        rcases List.mem_cons.mp hb with e | e
        · rw [e, O.refl]; omega
        · exact hl'.1 b e
      have hba : c b a ≤ 0 := by
        rcases List.mem_cons.mp ha with e | e
        · rw [e, O.refl]; omega
        · exact hm'.1 a e
      have h0 := O.eq_of_le hab hba
      have h1 := h a
      rw [cls_cons, if_pos (O.refl a), cls_cons, if_pos h0] at h1
      obtain ⟨rfl, _⟩ := List.cons.inj h1
      congr 1
      refine ih m hl'.2 hm'.2 fun x => ?_
      have h2 := h x
      rw [cls_cons, cls_cons] at h2
      split at h2
      · exact (List.cons.inj h2).2
      · exact h2
theorem set_cls_cons {c : α → α → Int} (O : POrd c) {a : α} {l : List α} (h : IsSet c (a :: l)) : cls c l a = [] :=
  cls_none fun y hy h0 => by have := (List.pairwise_cons.mp h).1 y hy; omega
theorem set_cls {c : α → α → Int} (O : POrd c) : ∀ {l : List α} (_ : IsSet c l) {x y : α} (_ : y ∈ l) (_ : c x y = 0), cls c l x = [y] := by
  intro l
  induction l with
  | nil => intro _ x y hy; cases hy
  | cons a l ih =>
    intro h x y hy h0
    rw [cls_cons]
    rcases List.mem_cons.mp hy with rfl | hy
    · rw [if_pos h0, cls_congr O l h0, set_cls_cons O h]
    · have hlt := (List.pairwise_cons.mp h).1 y hy
      rw [if_neg (fun e => by have h1 := O.cong x a y e; omega)]
      exact ih (List.pairwise_cons.mp h).2 hy h0
theorem cls_set_cases {c : α → α → Int} (O : POrd c) {l : List α} (h : IsSet c l) (x : α) : cls c l x = [] ∨ ∃ y, y ∈ l ∧ c x y = 0 ∧ cls c l x = [y] := by
  by_cases he : ∃ y ∈ l, c x y = 0
  · obtain ⟨y, hy, h0⟩ := he
    exact .inr ⟨y, hy, h0, set_cls O h hy h0⟩
  · exact .inl (cls_none fun y hy h0 => he ⟨y, hy, h0⟩)
theorem set_unique {c : α → α → Int} (O : POrd c) {l m : List α} (hl : IsSet c l) (hm : IsSet c m) (h : ∀ x, cls c l x = cls c m x) : l = m := sorted_unique O l m hl.sorted hm.sorted h
theorem mem_of_cls {c : α → α → Int} (O : POrd c) {l m : List α} (h : ∀ x, cls c l x = cls c m x) {y : α} (hy : y ∈ l) : y ∈ m := by
  have h1 : y ∈ cls c l y := mem_cls.mpr ⟨hy, O.refl y⟩
  rw [h] at h1
  exact (mem_cls.mp h1).1
def put (c : α → α → Int) : List α → α → List α
  | [], r => [r]
  | y :: l, r => if c r y < 0 then r :: y :: l else if c r y = 0 then r :: l else y :: put c l r
theorem mem_put {c : α → α → Int} : ∀ {l : List α} {r y : α}, y ∈ put c l r → y = r ∨ y ∈ l := by
  intro l
  induction l with
  | nil => intro r y h; simpa [put] using h
  | cons a l ih =>
    intro r y h
    rw [put] at h
    split at h
    · exact List.mem_cons.mp h
    · split at h
      · rcases List.mem_cons.mp h with h | h
        · exact .inl h
        · exact .inr (List.mem_cons_of_mem _ h)
      · rcases List.mem_cons.mp h with h | h
        · exact .inr (by rw [h]; exact List.mem_cons_self ..)
        · rcases ih h with h | h
          · exact .inl h
          · exact .inr (List.mem_cons_of_mem _ h)
theorem put_set {c : α → α → Int} (O : POrd c) : ∀ {l : List α} (_ : IsSet c l) (r : α), IsSet c (put c l r) := by
  intro l
  induction l with
  | nil => intro _ r; exact List.pairwise_singleton _ _
  | cons a l ih =>
    intro h r
    have h' := List.pairwise_cons.mp h
    rw [put]
    split
    · rename_i hlt
      refine List.pairwise_cons.mpr ⟨fun y hy => ?_, h⟩
      rcases List.mem_cons.mp hy with rfl | hy
      · exact hlt
      · exact O.trans _ _ _ hlt (h'.1 y hy)
    · split
      · rename_i _ h0
        refine List.pairwise_cons.mpr ⟨fun y hy => ?_, h'.2⟩
        exact O.lt_of_eq_of_lt h0 (h'.1 y hy)
      · rename_i h1 h2
        refine List.pairwise_cons.mpr ⟨fun y hy => ?_, ih h'.2 r⟩
        rcases mem_put hy with rfl | hy
        · have := O.flip y a; omega
        · exact h'.1 y hy
theorem put_cls {c : α → α → Int} (O : POrd c) : ∀ {l : List α} (_ : IsSet c l) (r x : α), cls c (put c l r) x = if c x r = 0 then [r] else cls c l x := by
  intro l
  induction l with
  | nil => intro _ r x; rw [put, cls_cons, cls_nil]
  | cons a l ih =>
    intro h r x
    have h' := List.pairwise_cons.mp h
    rw [put]
    split
    · rename_i hlt
      rw [cls_cons]
      split
      · rename_i h0
        rw [cls_congr O _ h0, cls_none fun y hy h1 => ?_]
        rcases List.mem_cons.mp hy with rfl | hy
        · omega
        · have := O.trans _ _ _ hlt (h'.1 y hy); omega
      · rfl
    · split
      · rename_i _ h0
        rw [cls_cons, cls_cons]
        split
        · rename_i hx
          rw [cls_congr O l hx, cls_congr O l h0, set_cls_cons O h]
        · rename_i hx
          rw [if_neg (fun e => hx (by rw [O.congr r a x h0]; exact e))]
      · rename_i h1 h2
        rw [cls_cons, ih h'.2, cls_cons]
        split
        · rename_i hx
          rw [if_neg (fun e => h2 (by rw [← O.cong x r a e]; exact hx)), if_neg (fun e => h2 (by rw [← O.cong x r a e]; exact hx))]
        · rfl
def drop (c : α → α → Int) (l : List α) (r : α) : List α := l.filter fun y => !decide (c r y = 0)
def find (c : α → α → Int) (l : List α) (r : α) : Option α := (cls c l r).head?
theorem find_put {c : α → α → Int} (O : POrd c) {l : List α} (h : IsSet c l) (r x : α) : find c (put c l r) x = if c x r = 0 then some r else find c l x := by
  unfold find; rw [put_cls O h]; split <;> rfl
theorem find_none {c : α → α → Int} {l : List α} {x : α} : find c l x = none ↔ ∀ y ∈ l, ¬ c x y = 0 := by
  unfold find
  rw [List.head?_eq_none_iff]
  constructor
  · intro h y hy h0
    have : y ∈ cls c l x := mem_cls.mpr ⟨hy, h0⟩
    rw [h] at this; cases this
  · exact fun h => cls_none h
theorem find_unique {c : α → α → Int} (O : POrd c) {l m : List α} (hl : IsSet c l) (hm : IsSet c m) (h : ∀ x, find c l x = find c m x) : l = m := by
  refine set_unique O hl hm fun x => ?_
  have h1 := h x
  unfold find at h1
  rcases cls_set_cases O hl x with e | ⟨y, _, _, e⟩ <;> rcases cls_set_cases O hm x with e' | ⟨z, _, _, e'⟩ <;> rw [e, e'] at h1 ⊢ <;> simp at h1 ⊢ <;> exact h1
theorem drop_none {c : α → α → Int} {l : List α} {r : α} (h : find c l r = none) : drop c l r = l := by
  unfold drop
  rw [List.filter_eq_self]
  intro y hy
  have := find_none.mp h y hy
  simp [this]
theorem drop_drop {c : α → α → Int} (l : List α) (r : α) : drop c (drop c l r) r = drop c l r := by unfold drop; rw [List.filter_filter]; simp
theorem put_length {c : α → α → Int} (O : POrd c) : ∀ {l : List α} (_ : IsSet c l) (r : α), (put c l r).length = (drop c l r).length + 1 := by
  intro l
  induction l with
  | nil => intro _ r; rfl
  | cons a l ih =>
    intro h r
    have h' := List.pairwise_cons.mp h
    have hd : ∀ x, ¬ c x a = 0 → drop c (a :: l) x = a :: drop c l x := fun x hx => by unfold drop; rw [List.filter_cons]; simp [hx]
    rw [put]
    split
    · rename_i hlt
      have : drop c (a :: l) r = a :: l := drop_none (find_none.mpr fun y hy => by
        rcases List.mem_cons.mp hy with rfl | hy
        · omega
        · have := O.trans _ _ _ hlt (h'.1 y hy); omega)
      rw [this]; rfl
    · split
      · rename_i _ h0
        have : drop c (a :: l) r = l := by
          unfold drop
          rw [List.filter_cons]
          simp only [h0, decide_true, Bool.not_true, Bool.false_eq_true, if_false]
          have : ∀ y ∈ l, ¬ c r y = 0 := fun y hy => by have := O.lt_of_eq_of_lt h0 (h'.1 y hy); omega
          rw [List.filter_eq_self]; intro y hy; simp [this y hy]
        rw [this]; rfl
      · rename_i h1 h2
        rw [hd r h2, List.length_cons, List.length_cons, ih h'.2]
def ofL (c : α → α → Int) (l : List α) : List α := l.foldl (put c) []
theorem foldl_set {c : α → α → Int} (O : POrd c) : ∀ (l m : List α), IsSet c m → IsSet c (l.foldl (put c) m) := by
  intro l
  induction l with
  | nil => intro m h; exact h
  | cons a l ih => intro m h; exact ih _ (put_set O h a)
theorem ofL_set {c : α → α → Int} (O : POrd c) (l : List α) : IsSet c (ofL c l) := foldl_set O l [] List.Pairwise.nil
theorem foldl_find {c : α → α → Int} (O : POrd c) : ∀ (l m : List α), IsSet c m → ∀ x, find c (l.foldl (put c) m) x = (cls c l x).getLast?.or (find c m x) := by
  intro l
  induction l with
  | nil => intro m _ x; rfl
  | cons a l ih =>
    intro m h x
    rw [List.foldl_cons, ih _ (put_set O h a), find_put O h, cls_cons]
    split
    · cases hq : cls c l x with
      | nil => rfl
      | cons y t => rw [List.getLast?_cons_cons]; simp [List.getLast?_cons]
    · rfl
theorem ofL_find {c : α → α → Int} (O : POrd c) (l : List α) (x : α) : find c (ofL c l) x = (cls c l x).getLast? := by
  unfold ofL
  rw [foldl_find O l [] List.Pairwise.nil]
  cases (cls c l x).getLast? <;> rfl
def firsts (c : α → α → Int) : List α → List α
  | [] => []
  | [a] => [a]
  | a :: b :: l => if c a b = 0 then firsts c (a :: l) else a :: firsts c (b :: l)
termination_by l => l.length
theorem firsts_mem {c : α → α → Int} : ∀ (n : Nat) (l : List α), l.length = n → ∀ y ∈ firsts c l, y ∈ l := by
  intro n
  induction n with
  | zero => intro l h y hy; obtain rfl := List.length_eq_zero_iff.mp h; rw [firsts] at hy; exact hy
  | succ n ih =>
    intro l h y hy
    match l, h with
    | [a], _ => rw [firsts] at hy; exact hy
    | a :: b :: l, h =>
      rw [firsts] at hy
      split at hy
      · have := ih (a :: l) (by simpa using h) y hy
        rcases List.mem_cons.mp this with e | e
        · rw [e]; exact List.mem_cons_self ..
        · exact List.mem_cons_of_mem _ (List.mem_cons_of_mem _ e)
      · rcases List.mem_cons.mp hy with e | e
        · rw [e]; exact List.mem_cons_self ..
        · exact List.mem_cons_of_mem _ (ih (b :: l) (by simpa using h) y e)
theorem firsts_set {c : α → α → Int} (O : POrd c) : ∀ (n : Nat) (l : List α), l.length = n → Sorted c l → IsSet c (firsts c l) ∧ ∀ x, cls c (firsts c l) x = (cls c l x).head?.toList := by
  intro n
  induction n with
  | zero => intro l h _; obtain rfl := List.length_eq_zero_iff.mp h; rw [firsts]; exact ⟨List.Pairwise.nil, fun x => rfl⟩
  | succ n ih =>
    intro l h hs
    match l, h with
    | [a], _ =>
      rw [firsts]
      refine ⟨List.pairwise_singleton _ _, fun x => ?_⟩
      rw [cls_cons]; split <;> rfl
    | a :: b :: l, h =>
      have hs' := List.pairwise_cons.mp hs
      rw [firsts]
      split
      · rename_i h0
        have hsa : Sorted c (a :: l) := List.pairwise_cons.mpr ⟨fun y hy => hs'.1 y (List.mem_cons_of_mem _ hy), (List.pairwise_cons.mp hs'.2).2⟩
        obtain ⟨h1, h2⟩ := ih (a :: l) (by simpa using h) hsa
        refine ⟨h1, fun x => ?_⟩
        rw [h2, cls_cons, cls_cons c a (b :: l)]
        split
        · rfl
        · rename_i hx
          rw [cls_cons, if_neg (fun e => hx (by rw [O.congr a b x h0]; exact e))]
      · rename_i h0
        obtain ⟨h1, h2⟩ := ih (b :: l) (by simpa using h) hs'.2
        have hab : c a b < 0 := by have := hs'.1 b (List.mem_cons_self ..); omega
        have hall : ∀ y ∈ b :: l, c a y < 0 := fun y hy => by
          rcases List.mem_cons.mp hy with rfl | hy
          · exact hab
          · have h3 := (List.pairwise_cons.mp hs'.2).1 y hy
            by_cases e : c b y = 0
            · exact O.lt_of_lt_of_eq hab e
            · exact O.trans _ _ _ hab (by omega)
        refine ⟨List.pairwise_cons.mpr ⟨fun y hy => hall y (firsts_mem _ _ rfl y hy), h1⟩, fun x => ?_⟩
        rw [cls_cons, h2, cls_cons c a (b :: l)]
        split
        · rename_i hx
          rw [cls_congr O _ hx, cls_none fun y hy e => by have := hall y hy; omega]; rfl
        · rfl
def StableOf (c : α → α → Int) (l m : List α) : Prop := Sorted c m ∧ ∀ x, cls c m x = cls c l x
theorem StableOf.unique {c : α → α → Int} (O : POrd c) {l m m' : List α} (h : StableOf c l m) (h' : StableOf c l m') : m = m' := sorted_unique O _ _ h.1 h'.1 fun x => (h.2 x).trans (h'.2 x).symm
theorem firsts_of {c : α → α → Int} (O : POrd c) {l m : List α} (h : StableOf c l.reverse m) : firsts c m = ofL c l := by
  obtain ⟨h1, h2⟩ := firsts_set O _ m rfl h.1
  refine find_unique O h1 (ofL_set O l) fun x => ?_
  rw [ofL_find O]
  unfold find
  rw [h2, h.2, cls_reverse, List.head?_reverse]
  cases (cls c l x).getLast? <;> rfl
end Go.Proofs.YtjmpckommjlnlaaGreat.SetLaw
namespace Go.Proofs.YtjmpckommjlnlaaGreat.SetLaw
open Go.Proofs.YtjmpckommjlnlaaGreat.NameFacts
set_option linter.unusedVariables false
def thenC {α : Type} (c d : α → α → Int) (a b : α) : Int := if c a b = 0 then d a b else c a b
theorem POrd.thenC {α : Type} {c d : α → α → Int} (C : POrd c) (D : POrd d) : POrd (thenC c d) where
  vals a b := by
    unfold SetLaw.thenC; split
    · exact D.vals a b
    · exact C.vals a b
  flip a b := by
    have h := C.flip a b
    unfold SetLaw.thenC
    by_cases e : c a b = 0
    · rw [if_pos e, if_pos (by omega)]; exact D.flip a b
    · rw [if_neg e, if_neg (by omega)]; exact h
  cong a b e h := by
    unfold SetLaw.thenC at h ⊢
    by_cases e1 : c a b = 0
    · rw [if_pos e1] at h
      rw [C.cong a b e e1, D.cong a b e h]
    · rw [if_neg e1] at h; exact absurd h e1
  trans a b e h1 h2 := by
    unfold SetLaw.thenC at h1 h2 ⊢
    by_cases e1 : c a b = 0
    · rw [if_pos e1] at h1
      by_cases e2 : c b e = 0
      · rw [if_pos e2] at h2
        rw [if_pos (by rw [C.cong a b e e1]; exact e2)]
        exact D.trans a b e h1 h2
      · rw [if_neg e2] at h2
        have : c a e < 0 := C.lt_of_eq_of_lt e1 h2
        rw [if_neg (by omega)]; exact this
    · rw [if_neg e1] at h1
      by_cases e2 : c b e = 0
      · have : c a e < 0 := C.lt_of_lt_of_eq h1 e2
        rw [if_neg (by omega)]; exact this
      · rw [if_neg e2] at h2
        have := C.trans a b e h1 h2
        rw [if_neg (by omega)]; exact this
theorem POrd.pull {α β : Type} {c : β → β → Int} (O : Ord c) (f : α → β) : POrd (fun a b => c (f a) (f b)) where
  vals a b := O.vals _ _
  flip a b := O.flip _ _
  cong a b d h := by rw [O.zero _ _ h]
  trans a b d h1 h2 := O.trans _ _ _ h1 h2
def cmpI (a b : Int) : Int := if a < b then -1 else if a > b then 1 else 0
theorem cmpI_ord : Ord cmpI where
  vals a b := by unfold cmpI; repeat' split
                 all_goals omega
  flip a b := by unfold cmpI; repeat' split
                 all_goals omega
  zero a b h := by unfold cmpI at h; revert h; repeat' split
                   all_goals (intro h; omega)
  self a := by unfold cmpI; rw [if_neg (by omega), if_neg (by omega)]
  trans a b d h1 h2 := by
    unfold cmpI at h1 h2 ⊢
    have e1 : a < b := by by_cases h : a < b; exact h; rw [if_neg h] at h1; split at h1 <;> omega
    have e2 : b < d := by by_cases h : b < d; exact h; rw [if_neg h] at h2; split at h2 <;> omega
    rw [if_pos (by omega)]; omega
end Go.Proofs.YtjmpckommjlnlaaGreat.SetLaw
namespace Go.Proofs.YtjmpckommjlnlaaGreat.PackFacts
open Go.RowKit Go.Proofs.YtjmpckommjlnlaaGreat.PRd Go.Proofs.YtjmpckommjlnlaaGreatW.PrintWords Go.Proofs.YtjmpckommjlnlaaGreatW.PrintLast Go.Proofs.YtjmpckommjlnlaaGreatW.PrintMore Go.Proofs.YtjmpckommjlnlaaGreat.Given Go.Proofs.YtjmpckommjlnlaaGreat.Oct Go.Proofs.YtjmpckommjlnlaaGreat.Name Go.Proofs.YtjmpckommjlnlaaGreat.NameFacts
set_option linter.unusedVariables false
set_option linter.unusedSimpArgs false
theorem right_size {n : ByteArray} (h : rightB n = true) : n.size ≤ 255 := by
  unfold rightB at h
  exact of_decide_eq_true (Bool.and_eq_true_iff.mp h).1
set_option linter.unusedVariables false
set_option linter.unusedSimpArgs false
def by8 (m : ByteArray) (i : Nat) : Nat := (m.data.toList.getD i 0).toNat
theorem by8_lt (m : ByteArray) (i : Nat) : by8 m i < 256 := UInt8.toNat_lt _
theorem by8_get {m : ByteArray} {i : Nat} (h : i < m.size) : (m.data.toList[i]'(by rw [size_list]; exact h)).toNat = by8 m i := by
  unfold by8; rw [List.getD_eq_getElem?_getD, List.getElem?_eq_getElem (by rw [size_list]; exact h)]; rfl
theorem bt_by8 {m : ByteArray} {i : Nat} (h : i < m.size) : bt m (i : Int) = (by8 m i : Int) := by rw [bt_list m i h, by8_get h]
inductive Pc where
  | lab (c : Nat)
  | ptr (t : Nat)
def pc (m : ByteArray) (i : Nat) : Option Pc :=
  if i < m.size then
    if 192 ≤ by8 m i then (if i + 1 < m.size then some (.ptr ((by8 m i - 192) * 256 + by8 m (i + 1))) else none)
    else if 64 ≤ by8 m i then none
    else if i + 1 + by8 m i ≤ m.size then some (.lab (by8 m i)) else none
  else none
theorem beN_two {m : ByteArray} {i : Nat} (h : i + 1 < m.size) : beN ((m.extract i m.size).data.toList.take 2) = by8 m i * 256 + by8 m (i + 1) := by
  rw [first_list (by omega), List.drop_eq_getElem_cons (by rw [size_list]; exact h)]
  have h1 := by8_get (m := m) (i := i) (by omega)
  have h2 := by8_get (m := m) (i := i + 1) h
  rw [← h1, ← h2]
  simp [beN]
theorem split_two (m : ByteArray) (i : Nat) (hi : i ≤ m.size) (hs : m.size ≤ 1000000) : octets_Split.f (m.extract i m.size) [2] =
    if i + 1 < m.size then some ([((by8 m i * 256 + by8 m (i + 1) : Nat) : Int)], m.extract (i + 2) m.size, 0) else some ([], ⟨#[]⟩, 2) := by
  unfold octets_Split.f
  rw [if_pos ⟨by rw [drop_size]; omega, by decide⟩, if_pos (by decide +kernel)]
  by_cases h : i + 1 < m.size
  · rw [if_pos h]
    have e : splitL (m.extract i m.size) [2] [] = some ([((by8 m i * 256 + by8 m (i + 1) : Nat) : Int)], m.extract (i + 2) m.size) := by
      rw [splitL, if_pos (by rw [drop_size]; show 2 ≤ m.size - i; omega), splitL]
      have e2 : (2 : Int).toNat = 2 := rfl
      rw [e2, beN_two h, drop_size, (ext_ext m i 2 hi (by omega)).2]; rfl
    rw [e]
  · rw [if_neg h]
    have e : splitL (m.extract i m.size) [2] [] = none := by
      rw [splitL, if_neg (by rw [drop_size]; show ¬ 2 ≤ m.size - i; omega)]
    rw [e]
def atR (m : ByteArray) (i : Nat) : ByteArray × Int × Int × Bool :=
  match pc m i with
  | none => (⟨#[]⟩, 0, 0, false)
  | some (.lab c) => (m.extract i (i + 1 + c), -1, ((i + 1 + c : Nat) : Int), true)
  | some (.ptr t) => (⟨#[]⟩, (t : Int), ((i + 2 : Nat) : Int), true)
theorem at_split (m : ByteArray) (i k : Nat) (hi : i ≤ m.size) (hs : m.size ≤ 1000000) (x : ByteArray) (hc : ¬ (i < m.size ∧ by8 m i < 64 ∧ i + 1 + by8 m i ≤ m.size)) : pack_at.j0 (k + 1) m (i : Int) x false = some (atR m i) := by
  rw [pack_at.j0, if_neg (by decide), if_pos (by omega), if_pos (by omega)]
  show ((octets_Split.f (m.extract i m.size) [2]).bind _) = _
  rw [split_two m i hi hs]
  have hb := by8_lt m i
  have hb1 := by8_lt m (i + 1)
  by_cases h : i + 1 < m.size
  · rw [if_pos h, Option.bind_some]
    show (if (0 : Int) = 0 then _ else _) = _
    rw [if_pos rfl]
    show (if (0 : Int) < ((1 : Nat) : Int) then _ else _) = _
    rw [if_pos (by decide)]
    show (if ((by8 m i * 256 + by8 m (i + 1) : Nat) : Int) < 49152 then _ else some (_, wrap64 (IntKind.u64.wrap (((by8 m i * 256 + by8 m (i + 1) : Nat) : Int) - 49152)), _, _)) = _
    unfold atR pc
    rw [if_pos (by omega : i < m.size)]
    by_cases hp : 192 ≤ by8 m i
    · rw [if_neg (by omega), if_pos hp, if_pos h]
      simp only []
      have e1 : ((by8 m i * 256 + by8 m (i + 1) : Nat) : Int) - 49152 = (((by8 m i - 192) * 256 + by8 m (i + 1) : Nat) : Int) := by omega
      have e2 : (((by8 m i - 192) * 256 + by8 m (i + 1) : Nat) : Int) % 2 ^ 64 = (((by8 m i - 192) * 256 + by8 m (i + 1) : Nat) : Int) := by omega
      have e3 : IntKind.u64.wrap (((by8 m i - 192) * 256 + by8 m (i + 1) : Nat) : Int) = (((by8 m i - 192) * 256 + by8 m (i + 1) : Nat) : Int) := by
        simp only [IntKind.wrap, IntKind.bits, IntKind.signed, e2]; rw [if_neg (by simp)]
      rw [e1, e3, w64_id (by omega) (by omega), w64_id (by omega) (by omega)]
      rfl
    · rw [if_pos (by omega), if_neg hp]
      by_cases h64 : 64 ≤ by8 m i
      · rw [if_pos h64]
      · rw [if_neg h64, if_neg (by omega)]
  · rw [if_neg h, Option.bind_some]
    show (if (2 : Int) = 0 then _ else _) = _
    rw [if_neg (by decide)]
    unfold atR pc
    by_cases hlt : i < m.size
    · rw [if_pos hlt]
      by_cases hp : 192 ≤ by8 m i
      · rw [if_pos hp, if_neg h]
      · rw [if_neg hp]
        by_cases h64 : 64 ≤ by8 m i
        · rw [if_pos h64]
        · rw [if_neg h64, if_neg (by omega)]
    · rw [if_neg hlt]
theorem at_f (m : ByteArray) (i k : Nat) (hi : i ≤ m.size) (hs : m.size ≤ 1000000) : pack_at.f (k + 1) m (i : Int) = some (atR m i) := by
  unfold pack_at.f
  rw [if_pos (by omega), if_pos (by omega)]
  show ((octets_Cut.f (m.extract i m.size) 1).bind _) = _
  have hsz : (m.extract i m.size).size = m.size - i := drop_size m i
  by_cases hlt : i < m.size
  · have hcut := cut_first hlt
    rw [by8_get hlt] at hcut
    by_cases hfit : by8 m i ≤ m.size - i - 1
    · rw [if_pos hfit] at hcut
      rw [cut_some (by omega) hcut, Option.bind_some]
      show (if (0 : Int) = 0 then _ else _) = _
      rw [if_pos rfl]
      have hs1 : (m.extract (i + 1) (i + 1 + by8 m i)).size = by8 m i := by rw [ByteArray.size_extract]; omega
      show pack_at.j0 (k + 1) m (i : Int) (m.extract (i + 1 + by8 m i) m.size) (decide (((m.extract (i + 1) (i + 1 + by8 m i)).size : Int) ≤ 63)) = _
      rw [hs1]
      by_cases h64 : by8 m i < 64
      · rw [decide_eq_true (by omega), pack_at.j0, if_pos rfl, drop_size]
        have e1 : wrap64 ((m.size : Int) - ((m.size - (i + 1 + by8 m i) : Nat) : Int)) = ((i + 1 + by8 m i : Nat) : Int) := by rw [w64_id (by omega) (by omega)]; omega
        rw [e1, if_pos (by omega), if_pos (by omega), if_pos (by omega)]
        unfold atR pc
        rw [if_pos hlt, if_neg (by omega), if_neg (by omega), if_pos (by omega)]
        rfl
      · rw [decide_eq_false (by omega)]
        exact at_split m i k hi hs _ (by omega)
    · rw [if_neg hfit] at hcut
      rw [cut_none (by omega) hcut, Option.bind_some]
      show (if (2 : Int) = 0 then _ else _) = _
      rw [if_neg (by decide)]
      exact at_split m i k hi hs _ (by omega)
  · have hcut : cutOf (m.extract i m.size) 1 = none := by unfold cutOf; rw [if_neg (by omega)]
    rw [cut_none (by omega) hcut, Option.bind_some]
    show (if (2 : Int) = 0 then _ else _) = _
    rw [if_neg (by decide)]
    exact at_split m i k hi hs _ (by omega)
set_option linter.unusedVariables false
set_option linter.unusedSimpArgs false
def err : ByteArray × Int × Int := (⟨#[]⟩, 0, 2)
def nxt (nx : Int) (i : Nat) : Int := if nx < 0 then (i : Int) else nx
def readS (m : ByteArray) : Nat → Nat → ByteArray → Int → Nat → ByteArray × Int × Int
  | 0, _, _, _, _ => err
  | d + 1, i, n, nx, fr =>
    match pc m i with
    | none => err
    | some (.ptr t) => if fr ≤ t then err else readS m d t n (nxt nx (i + 2)) t
    | some (.lab c) => if c = 0 then (if rightB (n ++ rootB) = true then (n ++ rootB, nxt nx (i + 1), 0) else err) else readS m d (i + 1 + c) (n ++ m.extract i (i + 1 + c)) nx fr
def mu (m : ByteArray) (i fr : Nat) : Nat := fr * (m.size + 1) + (m.size - i)
theorem mu_ptr {m : ByteArray} {i fr t : Nat} (h : t < fr) : mu m t t < mu m i fr := by
  unfold mu
  obtain ⟨j, rfl⟩ : ∃ j, fr = t + 1 + j := ⟨fr - t - 1, by omega⟩
  have h1 : (t + 1 + j) * (m.size + 1) = t * (m.size + 1) + (m.size + 1) + j * (m.size + 1) := by rw [Nat.add_mul, Nat.add_mul, Nat.one_mul]
  have h2 : 0 ≤ j * (m.size + 1) := Nat.zero_le _
  omega
theorem pc_lab {m : ByteArray} {i c : Nat} (h : pc m i = some (.lab c)) : i < m.size ∧ c = by8 m i ∧ c < 64 ∧ i + 1 + c ≤ m.size := by
  unfold pc at h
  by_cases h1 : i < m.size
  · rw [if_pos h1] at h
    by_cases h2 : 192 ≤ by8 m i
    · rw [if_pos h2] at h
      by_cases h3 : i + 1 < m.size
      · rw [if_pos h3] at h; cases h
      · rw [if_neg h3] at h; cases h
    · rw [if_neg h2] at h
      by_cases h3 : 64 ≤ by8 m i
      · rw [if_pos h3] at h; cases h
      · rw [if_neg h3] at h
        by_cases h4 : i + 1 + by8 m i ≤ m.size
        · rw [if_pos h4] at h
          cases h
          exact ⟨h1, rfl, by omega, h4⟩
        · rw [if_neg h4] at h; cases h
  · rw [if_neg h1] at h; cases h
theorem pc_ptr {m : ByteArray} {i t : Nat} (h : pc m i = some (.ptr t)) : i + 1 < m.size ∧ 192 ≤ by8 m i ∧ t = (by8 m i - 192) * 256 + by8 m (i + 1) ∧ t < 16384 := by
  unfold pc at h
  by_cases h1 : i < m.size
  · rw [if_pos h1] at h
    by_cases h2 : 192 ≤ by8 m i
    · rw [if_pos h2] at h
      by_cases h3 : i + 1 < m.size
      · rw [if_pos h3] at h
        have hb := by8_lt m i
        have hb1 := by8_lt m (i + 1)
        cases h
        exact ⟨h3, h2, rfl, by omega⟩
      · rw [if_neg h3] at h; cases h
    · rw [if_neg h2] at h
      by_cases h3 : 64 ≤ by8 m i
      · rw [if_pos h3] at h; cases h
      · rw [if_neg h3] at h
        by_cases h4 : i + 1 + by8 m i ≤ m.size
        · rw [if_pos h4] at h; cases h
        · rw [if_neg h4] at h; cases h
  · rw [if_neg h1] at h; cases h
theorem mu_lab {m : ByteArray} {i fr c : Nat} (h : i < m.size) : mu m (i + 1 + c) fr < mu m i fr := by unfold mu; omega
theorem long_wrong {n : ByteArray} (h : 255 < n.size) : rightB n = false := by
  cases hr : rightB n with
  | false => rfl
  | true => have := right_size hr; omega
theorem readS_long (m : ByteArray) : ∀ (d i : Nat) (n : ByteArray) (nx : Int) (fr : Nat), 255 < n.size → readS m d i n nx fr = err := by
  intro d
  induction d with
  | zero => intros; rfl
  | succ d ih =>
    intro i n nx fr hn
    rw [readS]
    cases hp : pc m i with
    | none => rfl
    | some p =>
      cases p with
      | ptr t =>
        simp only []
        by_cases hf : fr ≤ t
        · rw [if_pos hf]
        · rw [if_neg hf]; exact ih _ _ _ _ hn
      | lab c =>
        simp only []
        by_cases h0 : c = 0
        · rw [if_pos h0, long_wrong (by rw [ByteArray.size_append]; omega), if_neg (by decide)]
        · rw [if_neg h0]; exact ih _ _ _ _ (by rw [ByteArray.size_append]; omega)
theorem lab_root {m : ByteArray} {i : Nat} (h : i < m.size) (h0 : by8 m i = 0) : m.extract i (i + 1) = rootB := by
  apply list_inj
  rw [mid_list, List.drop_eq_getElem_cons (by rw [size_list]; exact h)]
  have := by8_get h
  rw [h0] at this
  have h1 : m.data.toList[i]'(by rw [size_list]; exact h) = 0 := UInt8.toNat_inj.mp (by rw [this]; rfl)
  rw [h1]; rfl
theorem lab_not {m : ByteArray} {i c : Nat} (h : i < m.size) (hc : c = by8 m i) (h0 : ¬ c = 0) : ¬ (m.extract i (i + 1 + c)).toList = [0] := by
  intro e
  rw [ByteArray.toList_eq, show i + 1 + c = i + (1 + c) from by omega, mid_list, List.drop_eq_getElem_cons (by rw [size_list]; exact h), Nat.add_comm 1 c, List.take_succ_cons] at e
  have h1 := (List.cons.inj e).1
  have := by8_get h
  rw [h1] at this
  apply h0; rw [hc, ← this]; rfl
theorem lab_size {m : ByteArray} {i c : Nat} (h : i + 1 + c ≤ m.size) : (m.extract i (i + 1 + c)).size = 1 + c := by rw [ByteArray.size_extract]; omega
theorem lab_more {m n : ByteArray} {i c : Nat} (h : i + 1 + c ≤ m.size) (hc : c < 64) (hn : n.size < 300) : (n ++ m.extract i (i + 1 + c)).size ≤ 1000000 := by rw [ByteArray.size_append, lab_size h]; omega
theorem pj3 (k : Nat) (i : Nat) (n : ByteArray) (nx : Int) : pack_Read.j3 (k + 1) (i : Int) n nx = some (if rightB n = true then (n, nxt nx i, 0) else err) := by
  rw [pack_Read.j3]
  show (if rightB n = true then _ else _) = _
  unfold nxt
  by_cases hr : rightB n = true
  · rw [if_pos hr, if_pos hr]
    by_cases hx : nx < 0
    · rw [if_pos hx, if_pos hx]
    · rw [if_neg hx, if_neg hx]
  · rw [if_neg hr, if_neg hr]; rfl
theorem pread (m : ByteArray) (hs : m.size ≤ 1000000) : ∀ (d i k : Nat) (n : ByteArray) (nx : Int) (fr : Nat), i ≤ m.size → fr ≤ m.size → mu m i fr < d → 3 * d + 10 ≤ k → pack_Read.l0 k m (i : Int) n nx (fr : Int) = some (readS m d i n nx fr) := by
  intro d
  induction d with
  | zero => intro i k n nx fr _ _ h; omega
  | succ d ih =>
    intro i k n nx fr hi hfr hmu hk
    obtain ⟨k, rfl⟩ : ∃ j, k = j + 4 := ⟨k - 4, by omega⟩
    rw [pack_Read.l0]
    by_cases hn : (n.size : Int) ≤ 255
    · rw [if_pos hn, at_f m i (k + 2) hi hs, Option.bind_some]
      unfold atR
      rw [readS]
      cases hp : pc m i with
      | none =>
        simp only []
        rw [if_neg (by decide), pack_Read.j2, if_pos rfl]; rfl
      | some p =>
        cases p with
        | ptr t =>
          simp only []
          rw [if_pos trivial]
          have hpp := pc_ptr hp
          by_cases hf : fr ≤ t
          · rw [decide_eq_true (by omega), pack_Read.j2, if_pos rfl, if_pos hf]; rfl
          · have hm := mu_ptr (m := m) (i := i) (show t < fr by omega)
            rw [decide_eq_false (by omega), pack_Read.j2, if_neg (by decide), if_pos (by omega), if_neg hf]
            unfold nxt
            by_cases hx : nx < 0
            · rw [if_pos hx, if_pos hx]
              exact ih t (k + 2) n _ t (by omega) (by omega) (by omega) (by omega)
            · rw [if_neg hx, if_neg hx]
              exact ih t (k + 2) n _ t (by omega) (by omega) (by omega) (by omega)
        | lab c =>
          simp only []
          have hl := pc_lab hp
          have hm := mu_lab (fr := fr) (c := c) hl.1
          rw [if_pos trivial, decide_eq_false (by omega), pack_Read.j2, if_neg (by decide), if_neg (by decide), if_pos (by rw [ByteArray.size_extract]; omega)]
          by_cases h0 : c = 0
          · subst h0
            rw [lab_root hl.1 hl.2.1.symm, if_pos (by decide +kernel), if_pos rfl]
            have := pj3 (k + 1) (i + 1 + 0) (n ++ rootB) nx
            exact this
          · rw [if_neg (lab_not hl.1 hl.2.1 h0), if_neg h0]
            exact ih _ _ _ _ _ (by omega) hfr (by omega) (by omega)
    · rw [if_neg hn, readS_long m (d + 1) i n nx fr (by omega)]
      have := pj3 (k + 2) i n nx
      rw [long_wrong (by omega), if_neg (by decide)] at this
      exact this
set_option maxHeartbeats 2000000 in
theorem rread (m : ByteArray) (hs : m.size ≤ 1000000) : ∀ (d i k : Nat) (n : ByteArray) (nx : Int) (fr : Nat), i ≤ m.size → fr ≤ m.size → n.size ≤ 1000000 → mu m i fr < d → 3 * d + 1000 ≤ k → beadrollref09_Read.l0 k m (i : Int) n nx (fr : Int) = some (readS m d i n nx fr) := by
  intro d
  induction d with
  | zero => intro i k n nx fr _ _ _ h; omega
  | succ d ih =>
    intro i k n nx fr hi hfr hns hmu hk
    obtain ⟨k, rfl⟩ : ∃ j, k = j + 4 := ⟨k - 4, by omega⟩
    by_cases hn : n.size < 300
    · by_cases hlt : i < m.size
      · rw [beadrollref09_Read.l0, if_pos (by omega), decide_eq_true (by omega), beadrollref09_Read.j2, if_pos rfl, if_pos (by omega), if_pos (by omega), bt_by8 hlt]
        have hb := by8_lt m i
        have hb1 := by8_lt m (i + 1)
        rw [readS]
        unfold pc
        rw [if_pos hlt, w64_id (x := (by8 m i : Int)) (by omega) (by omega)]
        by_cases h0 : by8 m i = 0
        · rw [if_pos (show (by8 m i : Int) = 0 by omega), if_pos (show n.size + 1 ≤ 9223372036854775807 by omega), if_neg (show ¬ 192 ≤ by8 m i by omega), if_neg (show ¬ 64 ≤ by8 m i by omega), if_pos (show i + 1 + by8 m i ≤ m.size by omega)]
          simp only []
          rw [if_pos h0, rright_f _ _ (by omega), w64_id (x := (i : Int) + 1) (by omega) (by omega)]
          unfold nxt
          have fin : ∀ x : Int, ((some (rightB (n ++ rootB))).bind fun t => if t = true then some (n ++ rootB, x, (0 : Int)) else some (⟨#[]⟩, 0, 2)) = some (if rightB (n ++ rootB) = true then (n ++ rootB, x, 0) else err) := by
            intro x
            rw [Option.bind_some]
            by_cases hr : rightB (n ++ rootB) = true
            · rw [if_pos hr, if_pos hr]
            · rw [if_neg hr, if_neg hr]; rfl
          by_cases hx : nx < 0
          · rw [if_pos hx, if_pos hx]; exact fin _
          · rw [if_neg hx, if_neg hx]; exact fin _
        · rw [if_neg (by omega)]
          by_cases hp : 192 ≤ by8 m i
          · rw [if_pos (by omega), if_pos hp, w64_id (x := (i : Int) + 1) (by omega) (by omega)]
            by_cases h1 : i + 1 < m.size
            · rw [if_neg (by omega), if_pos (by omega), if_pos (by omega), if_pos h1, show ((i : Int) + 1) = ((i + 1 : Nat) : Int) from rfl, bt_by8 h1]
              have e1 : wrap64 ((wrap64 ((wrap64 ((by8 m i : Int) - 192)) * 256)) + (wrap64 (by8 m (i + 1) : Int))) = (((by8 m i - 192) * 256 + by8 m (i + 1) : Nat) : Int) := by
                rw [w64_id (x := (by8 m i : Int) - 192) (by omega) (by omega), w64_id (x := ((by8 m i : Int) - 192) * 256) (by omega) (by omega), w64_id (x := (by8 m (i + 1) : Int)) (by omega) (by omega), w64_id (by omega) (by omega)]
                omega
              rw [e1]
              simp only []
              generalize (by8 m i - 192) * 256 + by8 m (i + 1) = t
              by_cases hf : fr ≤ t
              · rw [if_pos (by omega), if_pos hf]; rfl
              · have hm := mu_ptr (m := m) (i := i) (show t < fr by omega)
                rw [if_neg (by omega), if_neg hf, w64_id (by omega) (by omega)]
                unfold nxt
                by_cases hx : nx < 0
                · rw [if_pos hx, if_pos hx]
                  exact ih t (k + 2) n _ t (by omega) (by omega) hns (by omega) (by omega)
                · rw [if_neg hx, if_neg hx]
                  exact ih t (k + 2) n _ t (by omega) (by omega) hns (by omega) (by omega)
            · rw [if_pos (by omega), if_neg h1]; rfl
          · rw [if_neg (by omega), if_neg hp]
            by_cases h64 : 64 ≤ by8 m i
            · rw [if_pos (by omega), if_pos h64]; rfl
            · rw [if_neg (by omega), if_neg h64, w64_id (x := (i : Int) + 1) (by omega) (by omega), w64_id (x := (i : Int) + 1 + (by8 m i : Int)) (by omega) (by omega)]
              by_cases hfit : i + 1 + by8 m i ≤ m.size
              · have hm := mu_lab (fr := fr) (c := by8 m i) hlt
                rw [if_neg (by omega), if_pos (by omega), if_pos (by omega), if_pos hfit]
                simp only []
                have e2 : ((i : Int) + 1 + (by8 m i : Int)).toNat = i + 1 + by8 m i := by omega
                have e3 : wrap64 ((i : Int) + wrap64 (1 + (by8 m i : Int))) = ((i + 1 + by8 m i : Nat) : Int) := by rw [w64_id (x := 1 + (by8 m i : Int)) (by omega) (by omega), w64_id (by omega) (by omega)]; omega
                have hes : (m.extract i (i + 1 + by8 m i)).size = 1 + by8 m i := lab_size hfit
                have hns2 : (n ++ m.extract i (i + 1 + by8 m i)).size ≤ 1000000 := lab_more hfit (by omega) hn
                have hmd : mu m (i + 1 + by8 m i) fr < d := by omega
                rw [if_neg h0, Int.toNat_natCast, e2, e3]
                have hle : n.size + (m.extract i (i + 1 + by8 m i)).size ≤ 9223372036854775807 := by omega
                rw [if_pos hle]
                exact ih (i + 1 + by8 m i) (k + 2) (n ++ m.extract i (i + 1 + by8 m i)) nx fr hfit hfr hns2 hmd (by omega)
              · rw [if_pos (by omega), if_neg hfit]; rfl
      · rw [beadrollref09_Read.l0, if_neg (by omega), beadrollref09_Read.j2, if_neg (by decide), readS]
        unfold pc
        rw [if_neg hlt]; rfl
    · rw [readS_long m (d + 1) i n nx fr (by omega), beadrollref09_Read.l0]
      by_cases hlt : i < m.size
      · rw [if_pos (by omega), decide_eq_false (by omega), beadrollref09_Read.j2, if_neg (by decide)]; rfl
      · rw [if_neg (by omega), beadrollref09_Read.j2, if_neg (by decide)]; rfl
def readR (m : ByteArray) (i : Nat) : ByteArray × Int × Int := readS m (mu m i i + 1) i ⟨#[]⟩ (-1) i
def fuel (m : ByteArray) : Nat := 3 * (m.size * (m.size + 1) + m.size + 1) + 1003
theorem mu_fuel {m : ByteArray} {i : Nat} (h : i ≤ m.size) : mu m i i ≤ m.size * (m.size + 1) + m.size := by
  unfold mu
  have := Nat.mul_le_mul_right (m.size + 1) h
  omega
theorem pread_f (m : ByteArray) (hs : m.size ≤ 1000000) (i k : Nat) (hi : i ≤ m.size) (hk : fuel m ≤ k) : pack_Read.f k m (i : Int) = some (readR m i) := by
  have := mu_fuel hi
  unfold fuel at hk
  obtain ⟨k, rfl⟩ : ∃ j, k = j + 1 := ⟨k - 1, by omega⟩
  unfold pack_Read.f
  rw [if_neg (by omega), decide_eq_false (by omega), pack_Read.j0, if_neg (by decide)]
  exact pread m hs _ i k _ _ i hi hi (Nat.lt_succ_self _) (by omega)
theorem rread_f (m : ByteArray) (hs : m.size ≤ 1000000) (i k : Nat) (hi : i ≤ m.size) (hk : fuel m ≤ k) : beadrollref09_Read.f k m (i : Int) = some (readR m i) := by
  have := mu_fuel hi
  unfold fuel at hk
  obtain ⟨k, rfl⟩ : ∃ j, k = j + 1 := ⟨k - 1, by omega⟩
  unfold beadrollref09_Read.f
  rw [if_neg (by omega), decide_eq_false (by omega), beadrollref09_Read.j0, if_neg (by decide)]
  exact rread m hs _ i k _ _ i hi hi (by decide) (Nat.lt_succ_self _) (by omega)
end Go.Proofs.YtjmpckommjlnlaaGreat.PackFacts
namespace Go.Proofs.YtjmpckommjlnlaaGreat.OctFacts
open Go.RowKit Go.Proofs.YtjmpckommjlnlaaGreat.PRd Go.Proofs.YtjmpckommjlnlaaGreatW.PrintWords Go.Proofs.YtjmpckommjlnlaaGreatW.PrintLast Go.Proofs.YtjmpckommjlnlaaGreatW.PrintMore Go.Proofs.YtjmpckommjlnlaaGreat.Given Go.Proofs.YtjmpckommjlnlaaGreat.Oct
set_option linter.unusedVariables false
set_option linter.unusedSimpArgs false
theorem u64_id {x : Int} (h0 : 0 ≤ x) (h1 : x < 18446744073709551616) : IntKind.u64.wrap x = x := by
  simp only [IntKind.wrap, IntKind.bits, IntKind.signed]; simp; omega
theorem w64_id {x : Int} (h0 : -9223372036854775808 ≤ x) (h1 : x ≤ 9223372036854775807) : wrap64 x = x := by unfold wrap64; omega
theorem rd_at (l : List Int) (i : Nat) (h : i < l.length) : rd l (i : Int) = l[i] := by
  unfold rd; rw [Int.toNat_natCast, List.getD_eq_getElem?_getD, List.getElem?_eq_getElem h]; rfl
theorem rdo_at (l : List ByteArray) (i : Nat) (h : i < l.length) : rdOf ByteArray.empty l (i : Int) = l[i] := by
  unfold rdOf; rw [Int.toNat_natCast, List.getD_eq_getElem?_getD, List.getElem?_eq_getElem h]; rfl
theorem bt_list (b : ByteArray) (i : Nat) (h : i < b.size) : bt b (i : Int) = ((b.data.toList[i]'(by rw [size_list]; exact h)).toNat : Int) := by
  unfold bt
  rw [Int.toNat_natCast, dif_pos h]; rfl
theorem number_at (b : ByteArray) (hb : b.size ≤ 8) : ∀ (d i k : Nat), i + d = b.size → d < k → beadrollref01_Number.l0 k b (beN (b.data.toList.take i) : Int) (i : Int) = some (beN b.data.toList : Int) := by
  intro d
  induction d with
  | zero =>
    intro i k hi hk
    obtain ⟨k, rfl⟩ : ∃ j, k = j + 1 := ⟨k - 1, by omega⟩
    rw [beadrollref01_Number.l0, if_neg (by omega), List.take_of_length_le (by rw [size_list]; omega)]
  | succ d ih =>
    intro i k hi hk
    obtain ⟨k, rfl⟩ : ∃ j, k = j + 1 := ⟨k - 1, by omega⟩
    rw [beadrollref01_Number.l0, if_pos (by omega), if_pos (by omega), bt_list b i (by omega)]
    have h1 : i < b.data.toList.length := by rw [size_list]; omega
    have h2 : beN (b.data.toList.take (i + 1)) = beN (b.data.toList.take i) * 256 + (b.data.toList[i]).toNat := by
      rw [List.take_succ_eq_append_getElem h1, beN_snoc]
    have h3 := beN_lt (b.data.toList.take i)
    rw [List.length_take, Nat.min_eq_left (by omega)] at h3
    have h4 : (256 : Nat) ^ i ≤ 256 ^ 7 := Nat.pow_le_pow_right (by omega) (by omega)
    have h5 := UInt8.toNat_lt (b.data.toList[i])
    rw [u64_id (x := (beN (b.data.toList.take i) : Int) * 256) (by omega) (by omega), u64_id (x := ((b.data.toList[i]).toNat : Int)) (by omega) (by omega), u64_id (by omega) (by omega), w64_id (by omega) (by omega)]
    have := ih (i + 1) k (by omega) (by omega)
    rw [h2] at this
    rw [← this]
    congr 1
theorem number_f (b : ByteArray) (hb : b.size ≤ 8) (k : Nat) (hk : 9 ≤ k) : beadrollref01_Number.f k b = some (beN b.data.toList : Int) :=
  number_at b hb b.size 0 k (by omega) (by omega)
theorem width_iff (n : Int) : isWidth n = true ↔ n = 1 ∨ n = 2 ∨ n = 4 ∨ n = 8 := by unfold isWidth; exact decide_eq_true_iff
theorem rwidth_f (n : Int) : beadrollref01_Width.f n = some (isWidth n) := by
  unfold beadrollref01_Width.f isWidth
  by_cases h1 : n = 1
  · simp [h1]
  · by_cases h2 : n = 2
    · simp [h2]
    · by_cases h4 : n = 4
      · simp [h4]
      · simp [h1, h2, h4]
        by_cases h8 : n = 8 <;> simp [h8]
theorem wid8 {n : Int} (h : isWidth n = true) : 1 ≤ n ∧ n ≤ 8 := by have := (width_iff n).mp h; omega
theorem pow_fit {n : Nat} (h : n ≤ 8) : 256 ^ n ≤ 18446744073709551616 := by
  have : (256 : Nat) ^ n ≤ 256 ^ 8 := Nat.pow_le_pow_right (by omega) h
  omega
theorem is_piece (n : Int) : (isWidth n = true ∧ ¬ (n = 8)) ↔ (n = 1 ∨ n = 2 ∨ n = 4) := by rw [width_iff]; omega
def cutR (b : ByteArray) (n : Int) : ByteArray × ByteArray × Int :=
  if n = 1 ∨ n = 2 ∨ n = 4 then
    match cutOf b n.toNat with
    | some (s, r) => (s, r, 0)
    | none => (⟨#[]⟩, ⟨#[]⟩, 2)
  else (⟨#[]⟩, ⟨#[]⟩, 1)
theorem rcut_f (b : ByteArray) (n : Int) (k : Nat) (hb : b.size ≤ 100000000) (hk : 20 ≤ k) : beadrollref01_Cut.f k b n = some (cutR b n) := by
  obtain ⟨k, rfl⟩ : ∃ j, k = j + 1 := ⟨k - 1, by omega⟩
  unfold beadrollref01_Cut.f cutR
  rw [rwidth_f, Option.bind_some]
  by_cases h : n = 1 ∨ n = 2 ∨ n = 4
  · have hw := (is_piece n).mpr h
    rw [if_pos hw.1, if_pos h, beadrollref01_Cut.j0, if_neg (by simp [hw.2])]
    obtain ⟨m, rfl⟩ := Int.eq_ofNat_of_zero_le (show 0 ≤ n by omega)
    rw [Int.toNat_natCast]
    by_cases hm : m ≤ b.size
    · have h1 := beN_lt (b.data.toList.take m)
      rw [take_size b m hm] at h1
      have h2 := pow_fit (n := m) (by omega)
      rw [if_neg (by omega), if_pos (by omega), if_pos (by omega), number_f _ (by rw [ext_size _ _ hm]; omega) k (by omega), ext_list, Option.bind_some, w64_id (x := (b.size : Int) - (m : Int)) (by omega) (by omega), u64_id (by omega) (by omega), cutOf, if_pos hm]
      by_cases hc : beN (b.data.toList.take m) ≤ b.size - m
      · rw [if_neg (by omega), if_pos hc, w64_id (x := (beN (b.data.toList.take m) : Int)) (by omega) (by omega), w64_id (by omega) (by omega), if_pos (by omega), if_pos (by omega), if_pos (by omega)]
        rw [show ((m : Int) + (beN (b.data.toList.take m) : Int)).toNat = m + beN (b.data.toList.take m) from by omega]
      · rw [if_pos (by omega), if_neg hc]
    · rw [if_pos (by omega), cutOf, if_neg hm]
  · rw [if_neg h]
    by_cases hw : isWidth n = true
    · have h8 : n = 8 := by have := (width_iff n).mp hw; omega
      rw [if_pos hw, beadrollref01_Cut.j0, if_pos (by simp [h8])]
    · rw [if_neg hw, beadrollref01_Cut.j0, if_pos rfl]
def piecesR (b : ByteArray) (n : Int) : List ByteArray × Int :=
  if n = 1 ∨ n = 2 ∨ n = 4 then
    match piecesL n.toNat b.size b [] with
    | some xs => (xs, 0)
    | none => ([], 2)
  else ([], 1)
theorem pieces_f (b : ByteArray) (n : Int) (hb : b.size < 8796093022208) : octets_Pieces.f b n = some (piecesR b n) := by
  unfold octets_Pieces.f piecesR
  rw [if_pos hb]
  by_cases h : n = 1 ∨ n = 2 ∨ n = 4
  · rw [if_pos h, if_pos h]
    cases piecesL n.toNat b.size b [] <;> rfl
  · rw [if_neg h, if_neg h]
theorem rpieces_at (n : Int) (h : n = 1 ∨ n = 2 ∨ n = 4) : ∀ (d k : Nat) (b : ByteArray) (acc : List ByteArray), b.size ≤ d → d ≤ 100000000 → d + 30 ≤ k → acc.length + d ≤ 100000000 → beadrollref01_Pieces.l0 k b n acc = some (match piecesL n.toNat d b acc with | some xs => (xs, 0) | none => ([], 2)) := by
  intro d
  induction d with
  | zero =>
    intro k b acc hb hd hk ha
    obtain ⟨k, rfl⟩ : ∃ j, k = j + 1 := ⟨k - 1, by omega⟩
    rw [beadrollref01_Pieces.l0, if_neg (by omega), piecesL, if_pos (by omega)]
  | succ d ih =>
    intro k b acc hb hd hk ha
    obtain ⟨k, rfl⟩ : ∃ j, k = j + 1 := ⟨k - 1, by omega⟩
    rw [beadrollref01_Pieces.l0, piecesL]
    by_cases h0 : b.size = 0
    · rw [if_neg (by omega), if_pos h0]
    · rw [if_pos (by omega), if_neg h0, rcut_f b n k (by omega) (by omega), Option.bind_some, cutR, if_pos h]
      cases hc : cutOf b n.toNat with
      | none => rfl
      | some x =>
        obtain ⟨s, r⟩ := x
        have hs := cutOf_size hc
        show (if (0 : Int) = 0 then _ else _) = _
        rw [if_pos rfl, if_pos (by omega)]
        exact ih k r _ (by omega) (by omega) (by omega) (by simp; omega)
theorem rpieces_f (b : ByteArray) (n : Int) (k : Nat) (hb : b.size ≤ 10000000) (hk : b.size + 40 ≤ k) : beadrollref01_Pieces.f k b n = some (piecesR b n) := by
  obtain ⟨k, rfl⟩ : ∃ j, k = j + 1 := ⟨k - 1, by omega⟩
  unfold beadrollref01_Pieces.f piecesR
  rw [rwidth_f, Option.bind_some]
  by_cases h : n = 1 ∨ n = 2 ∨ n = 4
  · have hw := (is_piece n).mpr h
    rw [if_pos hw.1, if_pos h, beadrollref01_Pieces.j0, if_neg (by simp [hw.2])]
    exact rpieces_at n h b.size k b [] (by omega) (by omega) (by omega) (by simp; omega)
  · rw [if_neg h]
    by_cases hw : isWidth n = true
    · have h8 : n = 8 := by have := (width_iff n).mp hw; omega
      rw [if_pos hw, beadrollref01_Pieces.j0, if_pos (by simp [h8])]
    · rw [if_neg hw, beadrollref01_Pieces.j0, if_pos rfl]
end Go.Proofs.YtjmpckommjlnlaaGreat.OctFacts
namespace Go.Proofs.YtjmpckommjlnlaaGreat.RdataFacts
open Go.RowKit Go.Proofs.YtjmpckommjlnlaaGreat.PRd Go.Proofs.YtjmpckommjlnlaaGreatW.PrintWords Go.Proofs.YtjmpckommjlnlaaGreatW.PrintLast Go.Proofs.YtjmpckommjlnlaaGreatW.PrintMore Go.Proofs.YtjmpckommjlnlaaGreat.Given Go.Proofs.YtjmpckommjlnlaaGreat.Oct Go.Proofs.YtjmpckommjlnlaaGreat.Name Go.Proofs.YtjmpckommjlnlaaGreat.PackFacts
open Go.Proofs.YtjmpckommjlnlaaGreat.NameFacts (fold_yes_f fold_no_f rfold_yes rfold_no all_bytes)
open Go.Proofs.YtjmpckommjlnlaaGreat.OctFacts (piecesR pieces_f rpieces_f w64_id bt_list rdo_at)
set_option linter.unusedVariables false
set_option linter.unusedSimpArgs false
def FU : Nat := 3 * (1000000 * 1000001 + 1000001) + 5000
theorem fuel_le {m : ByteArray} (h : m.size ≤ 1000000) : fuel m + 3000 ≤ FU := by
  unfold fuel FU
  have : m.size * (m.size + 1) ≤ 1000000 * 1000001 := Nat.mul_le_mul h (by omega)
  omega
def partsL (t : Int) : List Int := if t = 1 then [4] else if t = 28 then [16] else if t = 2 ∨ t = 5 ∨ t = 12 then [-1] else if t = 15 then [2, -1] else if t = 6 then [-1, -1, 4, 4, 4, 4, 4] else if t = 16 then [-3] else if t = 33 then [2, 2, 2, -2] else [-4]
theorem parts_f (t : Int) (k : Nat) (hk : 1 ≤ k) : rdata_parts.f k t = some (partsL t) := by
  obtain ⟨k, rfl⟩ : ∃ j, k = j + 1 := ⟨k - 1, by omega⟩
  unfold rdata_parts.f partsL
  by_cases h1 : t = 1
  · rw [if_pos h1, if_pos h1]
  · rw [if_neg h1, if_neg h1]
    by_cases h2 : t = 28
    · rw [if_pos h2, if_pos h2]
    · rw [if_neg h2, if_neg h2]
      by_cases h3 : t = 2
      · subst h3; rfl
      · by_cases h4 : t = 5
        · subst h4; rfl
        · by_cases h5 : t = 12
          · subst h5; rfl
          · rw [if_neg h3, if_neg h4, if_neg (show ¬ (t = 2 ∨ t = 5 ∨ t = 12) by omega), rdata_parts.j0, if_neg (by simp [h5])]
            by_cases h6 : t = 15
            · rw [if_pos h6, if_pos h6]
            · rw [if_neg h6, if_neg h6]
              by_cases h7 : t = 6
              · rw [if_pos h7, if_pos h7]
              · rw [if_neg h7, if_neg h7]
                by_cases h8 : t = 16
                · rw [if_pos h8, if_pos h8]
                · rw [if_neg h8, if_neg h8]
                  by_cases h9 : t = 33
                  · rw [if_pos h9, if_pos h9]
                  · rw [if_neg h9, if_neg h9]
def Kind (kind : Int) : Prop := kind = -1 ∨ kind = -2 ∨ kind = -3 ∨ kind = -4 ∨ kind = 2 ∨ kind = 4 ∨ kind = 16
theorem parts_kind (t : Int) : ∀ x ∈ partsL t, Kind x := by
  intro x hx
  unfold partsL at hx
  unfold Kind
  repeat' split at hx
  all_goals simp at hx; omega
theorem parts_len (t : Int) : (partsL t).length ≤ 7 := by
  unfold partsL
  repeat' split
  all_goals simp
def partP (B : ByteArray) (at_ : Nat) (kind : Int) : Option (ByteArray × Nat) :=
  if kind = -1 then (if (readR B at_).2.2 = 0 then some ((readR B at_).1, (readR B at_).2.1.toNat) else none)
  else if kind = -2 then (if (readR B at_).2.2 = 0 ∧ (readR B at_).1 = B.extract at_ (readR B at_).2.1.toNat then some ((readR B at_).1, (readR B at_).2.1.toNat) else none)
  else if kind = -3 then (if (piecesR (B.extract at_ B.size) 1).2 = 0 ∧ 0 < (piecesR (B.extract at_ B.size) 1).1.length then some (B.extract at_ B.size, B.size) else none)
  else if kind = -4 then some (B.extract at_ B.size, B.size)
  else if kind > (B.size : Int) - at_ then none else some (B.extract at_ (at_ + kind.toNat), at_ + kind.toNat)
theorem readS_next (m : ByteArray) : ∀ (d i : Nat) (n : ByteArray) (nx : Int) (fr : Nat) (x : ByteArray) (y : Int), readS m d i n nx fr = (x, y, 0) → (0 ≤ nx → y = nx) ∧ (nx < 0 → (i : Int) < y ∧ y ≤ m.size) ∧ (x.size = n.size + 1 ∨ n.size + 3 ≤ x.size) ∧ x.size ≤ 255 := by
  intro d
  induction d with
  | zero => intro i n nx fr x y h; rw [readS, err] at h; simp at h
  | succ d ih =>
    intro i n nx fr x y h
    rw [readS] at h
    split at h
    · rw [err] at h; simp at h
    · rename_i t hp
      have hp := pc_ptr hp
      split at h
      · rw [err] at h; simp at h
      · obtain ⟨h1, h2, h3, h4⟩ := ih _ _ _ _ _ _ h
        have hn : 0 ≤ nxt nx (i + 2) := by unfold nxt; split <;> omega
        refine ⟨fun hx => ?_, fun hx => ?_, h3, h4⟩
        · rw [h1 hn]; unfold nxt; rw [if_neg (by omega)]
        · rw [h1 hn]; unfold nxt; rw [if_pos hx]; omega
    · rename_i c hp
      have hp := pc_lab hp
      split at h
      · split at h
        · rename_i hr
          simp only [Prod.mk.injEq] at h
          obtain ⟨rfl, rfl, _⟩ := h
          refine ⟨fun hx => by unfold nxt; rw [if_neg (by omega)], fun hx => ?_, .inl (by rw [ByteArray.size_append]; rfl), right_size hr⟩
          unfold nxt; rw [if_pos hx]; omega
        · rw [err] at h; simp at h
      · obtain ⟨h1, h2, h3, h4⟩ := ih _ _ _ _ _ _ h
        have hz := lab_size (m := m) (i := i) (c := c) (by omega)
        refine ⟨h1, fun hx => ?_, ?_, h4⟩
        · have := h2 hx; omega
        · rw [ByteArray.size_append, hz] at h3; right; omega
theorem readS_plain (m : ByteArray) : ∀ (d i : Nat) (n : ByteArray) (nx : Int) (fr : Nat) (x : ByteArray) (y : Int), nx < 0 → readS m d i n nx fr = (x, y, 0) → x = n ++ m.extract i y.toNat ∨ (x.size : Int) ≠ n.size + (y - i) ∧ 0 < fr := by
  intro d
  induction d with
  | zero => intro i n nx fr x y hx h; rw [readS, err] at h; simp at h
  | succ d ih =>
    intro i n nx fr x y hx h
    have hnext := readS_next m (d + 1) i n nx fr x y h
    rw [readS] at h
    split at h
    · rw [err] at h; simp at h
    · rename_i t hp
      have hp := pc_ptr hp
      split at h
      · rw [err] at h; simp at h
      · right
        obtain ⟨h1, h2, h3, h4⟩ := readS_next _ _ _ _ _ _ _ _ h
        have hn : 0 ≤ nxt nx (i + 2) := by unfold nxt; split <;> omega
        have hy : y = (i : Int) + 2 := by rw [h1 hn]; unfold nxt; rw [if_pos hx]; omega
        refine ⟨?_, by omega⟩
        rw [hy]
        rcases h3 with e | e <;> omega
    · rename_i c hp
      have hp' := pc_lab hp
      split at h
      · rename_i h0
        split at h
        · simp only [Prod.mk.injEq] at h
          obtain ⟨rfl, rfl, _⟩ := h
          left
          congr 1
          unfold nxt; rw [if_pos hx, Int.toNat_natCast]
          exact (lab_root hp'.1 (by omega)).symm
        · rw [err] at h; simp at h
      · have hy := readS_next _ _ _ _ _ _ _ _ h
        have hz := lab_size (m := m) (i := i) (c := c) (by omega)
        rcases ih _ _ _ _ _ _ hx h with e | e
        · left
          have := hy.2.1 hx
          rw [e]
          apply list_inj
          rw [app_list, app_list, app_list, List.append_assoc]
          congr 1
          obtain ⟨q, hq⟩ : ∃ q, y.toNat = i + 1 + c + q := ⟨y.toNat - (i + 1 + c), by omega⟩
          rw [hq, show i + 1 + c = i + (1 + c) by omega, mid_list, mid_list, show i + (1 + c) + q = i + ((1 + c) + q) by omega, mid_list, show ∀ L : List UInt8, L.take (1 + c + q) = L.take (1 + c) ++ (L.drop (1 + c)).take q from fun L => List.take_add, List.drop_drop]
        · right
          rw [ByteArray.size_append, hz] at e
          omega
theorem readR_ok {B : ByteArray} {at_ : Nat} (h : (readR B at_).2.2 = 0) : ∃ (x : ByteArray) (y : Nat), readR B at_ = (x, (y : Int), 0) ∧ at_ < y ∧ y ≤ B.size ∧ (x = B.extract at_ y ∨ x.size ≠ y - at_ ∧ 0 < at_) := by
  obtain ⟨x, y, c, hr⟩ : ∃ x y c, readR B at_ = (x, y, c) := ⟨_, _, _, rfl⟩
  rw [hr] at h
  simp only at h
  subst h
  have h1 := readS_next B _ at_ _ _ _ x y hr
  have h2 := readS_plain B _ at_ _ _ _ x y (by decide) hr
  have hb := h1.2.1 (by decide)
  obtain ⟨z, rfl⟩ := Int.eq_ofNat_of_zero_le (show 0 ≤ y by omega)
  refine ⟨x, z, hr, by omega, by omega, ?_⟩
  rcases h2 with e | e
  · left
    rw [e, Int.toNat_natCast]
    apply list_inj; rw [app_list]; simp
  · right
    have hz : (⟨#[]⟩ : ByteArray).size = 0 := rfl
    omega
theorem list_same {a b : ByteArray} : (a.toList == b.toList) = decide (a = b) := by
  by_cases h : a = b
  · rw [h]; simp
  · rw [decide_eq_false h]
    refine beq_eq_false_iff_ne.mpr fun e => h (list_inj ?_)
    rw [ByteArray.toList_eq, ByteArray.toList_eq] at e; exact e
theorem part_f (B : ByteArray) (at_ : Nat) (kind : Int) (k : Nat) (hle : at_ ≤ B.size) (hB : B.size ≤ 1000000) (hkind : Kind kind) (hk : FU ≤ k) :
    ∃ s n ok, rdata_part.f k B (at_ : Int) (B.size : Int) kind = some (s, n, ok) ∧ match partP B at_ kind with | some (s', n') => ok = true ∧ s = s' ∧ n = (n' : Int) | none => ok = false := by
  have hf := fuel_le hB
  obtain ⟨k, rfl⟩ : ∃ j, k = j + 1 := ⟨k - 1, by omega⟩
  have hread := pread_f B hB at_ k hle (by omega)
  have hcut : B.extract 0 ((B.size : Nat) : Int).toNat = B := by rw [Int.toNat_natCast]; exact all_bytes B
  have hmid : B.extract ((at_ : Nat) : Int).toNat ((B.size : Nat) : Int).toNat = B.extract at_ B.size := by rw [Int.toNat_natCast, Int.toNat_natCast]
  unfold rdata_part.f partP
  by_cases h1 : kind = -1
  · subst h1
    rw [if_pos rfl, rdata_part.j0, if_pos (by decide), if_pos (by omega), if_pos (by omega), hcut, hread, Option.bind_some, if_pos rfl]
    by_cases hr : (readR B at_).2.2 = 0
    · obtain ⟨x, y, e, _⟩ := readR_ok hr
      rw [if_pos hr, if_pos rfl, if_pos hr, e]
      exact ⟨_, _, _, rfl, rfl, rfl, by simp⟩
    · rw [if_neg hr, if_neg hr]
      exact ⟨_, _, _, rfl, rfl⟩
  · rw [if_neg h1, if_neg h1]
    by_cases h2 : kind = -2
    · subst h2
      rw [rdata_part.j0, if_pos (by decide), if_pos (by omega), if_pos (by omega), hcut, hread, Option.bind_some, if_pos rfl]
      by_cases hr : (readR B at_).2.2 = 0
      · obtain ⟨x, y, e, h3, h4, _⟩ := readR_ok hr
        rw [if_pos hr, if_neg (by decide), e]
        simp only
        rw [if_pos (by omega), if_pos (by omega), if_pos (by omega), Int.toNat_natCast, Int.toNat_natCast, list_same]
        by_cases hx : x = B.extract at_ y
        · rw [if_pos ⟨trivial, hx⟩, decide_eq_true hx]
          exact ⟨_, _, _, rfl, by simp⟩
        · rw [if_neg (fun e => hx e.2), decide_eq_false hx]
          exact ⟨_, _, _, rfl, rfl⟩
      · rw [if_neg hr, if_neg (fun e => hr e.1)]
        exact ⟨_, _, _, rfl, rfl⟩
    · rw [if_neg h2, rdata_part.j0, if_neg (by simp [h2])]
      by_cases h3 : kind = -3
      · subst h3
        rw [if_pos rfl, if_pos rfl, if_pos (by omega), if_pos (by omega), if_pos (by omega), hmid, pieces_f _ _ (by rw [ByteArray.size_extract]; omega), Option.bind_some]
        by_cases hp : (piecesR (B.extract at_ B.size) 1).2 = 0
        · rw [if_pos hp]
          by_cases hl : 0 < (piecesR (B.extract at_ B.size) 1).1.length
          · rw [if_pos ⟨hp, hl⟩, decide_eq_true (by omega)]
            exact ⟨_, _, _, rfl, rfl, rfl, rfl⟩
          · rw [if_neg (fun e => hl e.2), decide_eq_false (by omega)]
            exact ⟨_, _, _, rfl, rfl⟩
        · rw [if_neg hp, if_neg (fun e => hp e.1)]
          exact ⟨_, _, _, rfl, rfl⟩
      · rw [if_neg h3, if_neg h3]
        by_cases h4 : kind = -4
        · subst h4
          rw [if_pos rfl, if_pos rfl, if_pos (by omega), if_pos (by omega), if_pos (by omega), hmid]
          exact ⟨_, _, _, rfl, rfl, rfl, rfl⟩
        · rw [if_neg h4, if_neg h4, w64_id (by omega) (by omega)]
          by_cases h5 : kind > (B.size : Int) - at_
          · rw [if_pos h5, if_pos h5]
            exact ⟨_, _, _, rfl, rfl⟩
          · have hk0 : 0 ≤ kind := by unfold Kind at hkind; omega
            rw [if_neg h5, if_neg h5, w64_id (by omega) (by omega), if_pos (by omega), if_pos (by omega), if_pos (by omega)]
            refine ⟨_, _, _, rfl, rfl, ?_, by omega⟩
            congr 1; omega
theorem part_bounds {B : ByteArray} {at_ : Nat} {kind : Int} {s : ByteArray} {n : Nat} (hle : at_ ≤ B.size) (hk : Kind kind) (h : partP B at_ kind = some (s, n)) : at_ ≤ n ∧ n ≤ B.size ∧ (s = B.extract at_ n ∨ kind = -1 ∧ s.size ≠ n - at_ ∧ 0 < at_) := by
  unfold partP at h
  split at h
  · split at h
    · rename_i hr
      obtain ⟨x, y, e, h1, h2, h3⟩ := readR_ok hr
      rw [e] at h
      simp only [Option.some.injEq, Prod.mk.injEq, Int.toNat_natCast] at h
      obtain ⟨rfl, rfl⟩ := h
      refine ⟨by omega, h2, ?_⟩
      rcases h3 with e | e
      · exact .inl e
      · exact .inr ⟨by assumption, e⟩
    · cases h
  · split at h
    · split at h
      · rename_i hr
        obtain ⟨x, y, e, h1, h2, h3⟩ := readR_ok hr.1
        have hrr := hr.2
        rw [e] at h hrr
        simp only [Option.some.injEq, Prod.mk.injEq, Int.toNat_natCast] at h hrr
        obtain ⟨rfl, rfl⟩ := h
        exact ⟨by omega, h2, .inl hrr⟩
      · cases h
    · split at h
      · split at h
        · simp only [Option.some.injEq, Prod.mk.injEq] at h
          obtain ⟨rfl, rfl⟩ := h
          exact ⟨hle, Nat.le_refl _, .inl rfl⟩
        · cases h
      · split at h
        · simp only [Option.some.injEq, Prod.mk.injEq] at h
          obtain ⟨rfl, rfl⟩ := h
          exact ⟨hle, Nat.le_refl _, .inl rfl⟩
        · split at h
          · cases h
          · simp only [Option.some.injEq, Prod.mk.injEq] at h
            obtain ⟨rfl, rfl⟩ := h
            unfold Kind at hk
            exact ⟨by omega, by omega, .inl rfl⟩
end Go.Proofs.YtjmpckommjlnlaaGreat.RdataFacts
namespace Go.Proofs.YtjmpckommjlnlaaGreat.Touching
open Go.RowKit Go.Proofs.YtjmpckommjlnlaaGreatW.PrintWords
set_option linter.unusedVariables false
structure Tch (S : Nat → Prop) (w w' : World) : Prop where
  os : w'.os = w.os
  tape : w'.tape = w.tape
  output : w'.output = w.output
  size : w.heap.size ≤ w'.heap.size
  block : ∀ k, k < w.heap.size → ¬ S k → w'.heap[k]? = w.heap[k]?
theorem Tch.refl (S : Nat → Prop) (w : World) : Tch S w w := ⟨rfl, rfl, rfl, Nat.le_refl _, fun _ _ _ => rfl⟩
theorem Tch.mono {S S' : Nat → Prop} {w w' : World} (h : Tch S w w') (hs : ∀ k, k < w.heap.size → S k → S' k) : Tch S' w w' := ⟨h.os, h.tape, h.output, h.size, fun k hk hn => h.block k hk fun hS => hn (hs k hk hS)⟩
theorem Tch.trans {S S' : Nat → Prop} {a b c : World} (h : Tch S a b) (h' : Tch S' b c) (hs : ∀ k, k < a.heap.size → S' k → S k) : Tch S a c :=
  ⟨h'.os.trans h.os, h'.tape.trans h.tape, h'.output.trans h.output, Nat.le_trans h.size h'.size, fun k hk hn => (h'.block k (Nat.lt_of_lt_of_le hk h.size) fun hS => hn (hs k hk hS)).trans (h.block k hk hn)⟩
theorem Tch.of_grown {S : Nat → Prop} {w w' : World} {row : Option Nat} (h : w.grownBy w' row) (hs : ∀ k, row = some k → S k) : Tch S w w' := ⟨h.os, h.tape, h.output, h.size, fun k hk hn => h.block k hk fun e => hn (hs k e.symm)⟩
theorem Tch.setCell {S : Nat → Prop} {w : World} {p : Addr} (hp : S p.block) (u : Value) : Tch S w (w.setCell p u) := ⟨rfl, rfl, rfl, by simp [World.setCell], fun k hk hn => Below.heap_setCell _ _ _ _ fun e => hn (e ▸ hp)⟩
theorem Tch.of_below {S : Nat → Prop} {w w' : World} (h : Below w.heap.size w w') : Tch S w w' := ⟨h.os, h.tape, h.output, h.size, fun k hk _ => h.block k hk⟩
theorem Tch.below {S : Nat → Prop} {w w' : World} {B : Nat} (h : Tch S w w') (hB : B ≤ w.heap.size) (hs : ∀ k, S k → B ≤ k) : Below B w w' := ⟨h.os, h.tape, h.output, h.size, fun k hk => h.block k (by omega) fun hS => by have := hs k hS; omega⟩
theorem Tch.alloc {S : Nat → Prop} (w : World) (o : Obj) : Tch S w (w.alloc o) := Tch.of_grown (World.grownBy_alloc w o Option.none) (by simp)
theorem Tch.fresh {S S' : Nat → Prop} {a b c : World} (h : Tch S a b) (h' : Tch S' b c) (hs : ∀ k, S' k → S k ∨ a.heap.size ≤ k) : Tch S a c :=
  h.trans h' fun k hk hS => by rcases hs k hS with e | e; · exact e
                               · omega
theorem R_touch {α : Type} {d : Kd α} {e : Nat} {w w1 : World} {base : Nat} {ok : Nat → Prop} {v : Value} {xs : List α} {S : Nat → Prop} (h : Kd.R d e w base ok v xs) (ht : Tch S w w1) (hn : ∀ k, ok k → k < w.heap.size → ¬ S k) : Kd.R d e w1 base ok v xs :=
  Kd.R_step h fun k hk hlt => ht.block k hlt (hn k hk hlt)
end Go.Proofs.YtjmpckommjlnlaaGreat.Touching
namespace Go.Proofs.YtjmpckommjlnlaaGreat.Rdata
open Go.RowKit Go.Proofs.YtjmpckommjlnlaaGreatW.PrintWords Go.Proofs.YtjmpckommjlnlaaGreatW.PrintLast Go.Proofs.YtjmpckommjlnlaaGreatW.PrintMore Go.Proofs.YtjmpckommjlnlaaGreat.Given Go.Proofs.YtjmpckommjlnlaaGreat.PRd Go.Proofs.YtjmpckommjlnlaaGreat.Touching
set_option linter.unusedVariables false
set_option linter.unusedSimpArgs false
def walkL (k : Nat) (msg : ByteArray) (en : Int) : List Int → Int → Option (List (Int × ByteArray) × Bool)
  | [], at_ => some ([], at_ == en)
  | kind :: ks, at_ => (rdata_part.f k msg at_ en kind).bind fun r => if r.2.2 = true then (walkL k msg en ks r.2.1).map fun x => ((kind, r.1) :: x.1, x.2) else some ([], false)
structure Taker (g : Nat) (cb : Array Value) (St : List (Int × ByteArray) → (Nat → Prop) → World → Prop) : Prop where
  rest : ∀ d F W W', St d F W → Below W.heap.size W W' → ∃ F', St d F' W' ∧ ∀ k, F' k → F k ∨ W.heap.size ≤ k ∧ ∃ c fz, W'.heap[k]? = some (.cells c 5 fz)
  lt : ∀ d F W k, St d F W → F k → k < W.heap.size
  take : ∀ d F W kind s, s.size ≤ 1000000 → d.length < 100 → St d F W → Calls Tryz.prog g (#[.int .i64 kind, .string s] ++ cb) W fun e w' => e = .returned (.tuple #[]) ∧ ∃ F', St (d ++ [(kind, s)]) F' w' ∧ Tch F W w' ∧ ∀ k, F' k → F k ∨ W.heap.size ≤ k
  enters : ∀ args w, (callFunc g args).run Tryz.prog w = .ok (.enter g args) w
set_option maxHeartbeats 4000000 in
set_option maxRecDepth 100000 in
theorem walk_any {g : Nat} {cb : Array Value} {St : List (Int × ByteArray) → (Nat → Prop) → World → Prop} (T : Taker g cb St) (k : Nat) (msg : ByteArray) (at0 en t : Int) (ks : List Int) (hks : rdata_parts.f k t = some ks)
    (d0 pieces : List (Int × ByteArray)) (b : Bool) (hw : walkL k msg en ks at0 = some (pieces, b)) (F : Nat → Prop) (w : World) (hst : St d0 F w) (hn : ks.length ≤ 100) (hps : ∀ x ∈ pieces, x.2.size ≤ 1000000) (hd0 : d0.length + pieces.length ≤ 100) :
    Calls Tryz.prog 121 #[.string msg, .int .i64 at0, .int .i64 en, .int .i64 t, .func (.func g) #[] cb] w fun e w' =>
      e = .returned (.bool b) ∧ ∃ F', St (d0 ++ pieces) F' w' ∧ Tch F w w' ∧ ∀ k, F' k → F k ∨ w.heap.size ≤ k := by
  have HT := Lib.hid T
  have HE := T.enters
  have HKS := Lib.hid hks
  have HW := Lib.hid hw
  have HPS := Lib.hid hps
  have HD0 := Lib.hid hd0
  have HST := Lib.hid hst
  clear hks hw hst T hps hd0
  go_enter Tryz.func121, Tryz.ntmps121
  go_wp2_with fail
  refine (rdata_parts.calls k t ks _ HKS.out).mono ?_
  rintro e w1 ⟨v, rfl, hr, hb⟩
  obtain ⟨A, c, rfl, hcl, hC⟩ := Kd.R_reads hr
  have HR := Lib.hid hr
  obtain ⟨F1, h1, hf1⟩ := HT.out.rest _ _ _ _ HST.out hb
  have H1 := Lib.hid (show St (d0 ++ []) F1 w1 from by rw [List.append_nil]; exact h1)
  have HF := Lib.hid (show ∀ k, F k → k < w.heap.size from fun k hk => HT.out.lt _ _ _ k HST.out hk)
  have HF1 := Lib.hid hf1
  clear h1 hf1
  have HB := Lib.hid hb
  clear hr hb hC
  go_wp2_with fail
  go_loopw [1, 19] (fun v1 v19 wr => ∃ (i : Nat) (at_ : Int) (done rest : List (Int × ByteArray)) (F' : Nat → Prop), i ≤ ks.length ∧ v1 = .int .i64 at_ ∧ v19 = .int .i64 i ∧ Hid (walkL k msg en (ks.drop i) at_ = some (rest, b)) ∧ Hid (pieces = done ++ rest) ∧ Hid (St (d0 ++ done) F' wr) ∧ Hid (Tch F w wr) ∧ Hid (∀ k, F' k → F k ∨ w.heap.size ≤ k) ∧
    Hid (Kd.R (Kd.int .i64) 3 wr w.heap.size (fun k => ¬ F' k) (.slice A ks.length c) ks)) (fun _ v _ => ks.length - (intOf v).toNat)
  case atStart =>
    refine ⟨0, at0, [], pieces, F1, Nat.zero_le _, rfl, rfl, HW, Lib.hid rfl, H1, Lib.hid (Tch.of_below HB.out), Lib.hid (fun k hk => (HF1.out k hk).imp id fun h => h.1), Lib.hid ?_⟩
    refine Kd.R_mono (Kd.R_bound HR.out) fun k hk hF => ?_
    rcases HF1.out k hF with e | ⟨_, c, fz, e⟩
    · have := HF.out k e; omega
    · obtain ⟨_, _, _, q, hq, cells, hc⟩ := hk
      rw [e] at hc
      injection hc with hc
      injection hc with _ hc _
      rw [← hc] at hq
      revert hq
      decide
  case round =>
    obtain ⟨i, at_, done, rest, F', hi, rfl, rfl, HWK, HP, HS, HTC, HFF, HRR⟩ := hrel
    clear H1 HW HB HR
    obtain ⟨A', c', hsl, _, hC⟩ := Kd.R_reads HRR.out
    by_cases hlt : i < ks.length
    · have t0 : decide ((i : Int) < (ks.length : Int)) = true := decide_eq_true (by omega)
      injection hsl with hA _ hcc
      subst hA
      subst hcc
      obtain ⟨ad, rfl, hcell⟩ := Kd.at_int hC (i : Int) (by omega) (by omega)
      have hrd : rd ks (i : Int) = ks[i] := by unfold rd; rw [Int.toNat_natCast, List.getD_eq_getElem?_getD, List.getElem?_eq_getElem hlt]; rfl
      rw [hrd, Int.toNat_natCast] at hcell
      have hwk := HWK.out
      rw [List.drop_eq_getElem_cons hlt, walkL] at hwk
      obtain ⟨kind, hkd⟩ : ∃ x, ks[i] = x := ⟨_, rfl⟩
      rw [hkd] at hcell hwk
      obtain ⟨⟨s, next, ok⟩, hpart, hwk⟩ := Option.bind_eq_some_iff.mp hwk
      have HPART := Lib.hid hpart
      have HWK2 := Lib.hid hwk
      clear hpart hwk HWK hC hkd hrd
      go_wp2_with fail
      refine (rdata_part.calls k msg at_ en kind s next ok _ HPART.out).mono ?_
      rintro e w2 ⟨rfl, hb2⟩
      obtain ⟨F2, hs2, hf2⟩ := HT.out.rest _ _ _ _ HS.out hb2
      have HS2 := Lib.hid hs2
      have HTC2 := Lib.hid (HTC.out.trans (Tch.of_below (S := F) hb2) fun _ _ h => h)
      have HFF2 := Lib.hid (show ∀ k, F2 k → F k ∨ w.heap.size ≤ k from fun k hk => by
        rcases hf2 k hk with e | e
        · exact HFF.out k e
        · have := HTC.out.size; exact .inr (by omega))
      have HR2 := Lib.hid (show Kd.R (Kd.int .i64) 3 w2 w.heap.size (fun k => ¬ F2 k) (.slice (some ad) ks.length c) ks from by
        refine Kd.R_mono (Kd.R_below (Kd.R_bound HRR.out) hb2) fun k hk hF => ?_
        rcases hf2 k hF with e | e
        · exact hk.1 e
        · omega)
      have HSZ2 := Lib.hid hb2.size
      clear hb2 HS HTC HRR hcell hs2 hf2 HFF
      cases ok with
      | false =>
        have hwk := HWK2.out
        rw [if_neg (by decide)] at hwk
        injection hwk with hwk
        injection hwk with h1 h2
        subst h1 h2
        have HPP := Lib.hid (show pieces = done from by rw [HP.out, List.append_nil])
        clear hwk HWK2 HP
        go_wp2_with fail
        go_ret
        exact ⟨rfl, F2, by rw [HPP.out]; exact HS2.out, HTC2.out, HFF2.out⟩
      | true =>
        have hwk := HWK2.out
        rw [if_pos rfl] at hwk
        obtain ⟨⟨rest', b'⟩, hwk2, hwk3⟩ := Option.map_eq_some_iff.mp hwk
        injection hwk3 with h1 h2
        subst h1 h2
        have HWK3 := Lib.hid hwk2
        clear hwk hwk2 HWK2
        have hg := HT.out.take _ _ w2 kind s (HPS.out (kind, s) (by rw [HP.out]; simp)) (by have h1 := HD0.out; have h2 := congrArg List.length HP.out; simp at h2 ⊢; omega) HS2.out
        have HG := Lib.hid hg
        clear hg
        go_wp2_with fail
        refine (HG.out).mono ?_
        rintro e w3 ⟨rfl, F3, hs3, ht3, hf3⟩
        have hsz := HTC2.out.size
        have HS3 := Lib.hid hs3
        have HTC3 := Lib.hid (HTC2.out.fresh ht3 HFF2.out)
        have HFF3 := Lib.hid (show ∀ k, F3 k → F k ∨ w.heap.size ≤ k from fun k hk => by
          rcases hf3 k hk with e | e
          · exact HFF2.out k e
          · exact .inr (by omega))
        have hr3 : Kd.R (Kd.int .i64) 3 w3 w.heap.size (fun k => ¬ F3 k) (.slice (some ad) ks.length c) ks := by
          refine Kd.R_mono (R_touch (Kd.R_bound HR2.out) ht3 fun k hk _ => hk.1) fun k hk hF => ?_
          rcases hf3 k hF with e | e
          · exact hk.1 e
          · omega
        have HR3 := Lib.hid hr3
        have HP3 := Lib.hid (show pieces = (done ++ [(kind, s)]) ++ rest' from by rw [HP.out]; simp)
        clear hs3 ht3 hf3 hr3 HP HG HS2 HTC2 HR2 HFF2 hsz
        go_wp2_with fail
        refine ⟨⟨i + 1, next, done ++ [(kind, s)], rest', F3, by omega, rfl, by simp, HWK3, HP3, Lib.hid (by rw [← List.append_assoc]; exact HS3.out), HTC3, HFF3, HR3⟩, by simp [intOf]; omega⟩
    · obtain rfl : i = ks.length := by omega
      have hwk := HWK.out
      rw [List.drop_of_length_le (Nat.le_refl _), walkL] at hwk
      injection hwk with hwk
      injection hwk with h1 h2
      subst h1 h2
      have HPP := Lib.hid (show pieces = done from by rw [HP.out, List.append_nil])
      clear HP hC HWK
      go_wp2_with fail
      go_ret
      exact ⟨rfl, F', by rw [HPP.out]; exact HS.out, HTC.out, HFF.out⟩
end Go.Proofs.YtjmpckommjlnlaaGreat.Rdata
namespace Go.Proofs.YtjmpckommjlnlaaGreat.RdataFacts
open Go.RowKit Go.Proofs.YtjmpckommjlnlaaGreat.PRd Go.Proofs.YtjmpckommjlnlaaGreatW.PrintWords Go.Proofs.YtjmpckommjlnlaaGreatW.PrintLast Go.Proofs.YtjmpckommjlnlaaGreatW.PrintMore Go.Proofs.YtjmpckommjlnlaaGreat.Given Go.Proofs.YtjmpckommjlnlaaGreat.Oct Go.Proofs.YtjmpckommjlnlaaGreat.Name Go.Proofs.YtjmpckommjlnlaaGreat.PackFacts Go.Proofs.YtjmpckommjlnlaaGreat.Rdata
open Go.Proofs.YtjmpckommjlnlaaGreat.NameFacts (fold_yes_f fold_no_f rfold_yes rfold_no all_bytes)
open Go.Proofs.YtjmpckommjlnlaaGreat.OctFacts (piecesR pieces_f rpieces_f w64_id bt_list rdo_at)
set_option linter.unusedVariables false
set_option linter.unusedSimpArgs false
def walkP (B : ByteArray) : List Int → Nat → List (Int × ByteArray) × Bool
  | [], at_ => ([], decide (at_ = B.size))
  | kind :: ks, at_ => match partP B at_ kind with
    | some (s, n) => ((kind, s) :: (walkP B ks n).1, (walkP B ks n).2)
    | none => ([], false)
theorem walk_f (B : ByteArray) (hB : B.size ≤ 1000000) (k : Nat) (hk : FU ≤ k) : ∀ (ks : List Int) (at_ : Nat), (∀ x ∈ ks, Kind x) → at_ ≤ B.size → walkL k B (B.size : Int) ks (at_ : Int) = some (walkP B ks at_) := by
  intro ks
  induction ks with
  | nil =>
    intro at_ _ _
    rw [walkL, walkP]
    congr 2
    by_cases h : at_ = B.size
    · rw [h]; simp
    · rw [decide_eq_false h]; exact beq_eq_false_iff_ne.mpr (by omega)
  | cons kind ks ih =>
    intro at_ hk' hle
    have hkind := hk' kind (List.mem_cons_self ..)
    obtain ⟨s, n, ok, e, hp⟩ := part_f B at_ kind k hle hB hkind hk
    rw [walkL, e, Option.bind_some, walkP]
    cases hpp : partP B at_ kind with
    | none =>
      rw [hpp] at hp
      simp only at hp
      rw [hp]; simp
    | some x =>
      obtain ⟨s', n'⟩ := x
      rw [hpp] at hp
      obtain ⟨rfl, rfl, rfl⟩ := hp
      have hb := part_bounds hle hkind hpp
      simp only [if_true]
      rw [ih n' (fun x hx => hk' x (List.mem_cons_of_mem _ hx)) hb.2.1]; rfl
def tot (l : List (Int × ByteArray)) : Nat := (l.map fun x => x.2.size).sum
def cat (l : List ByteArray) : ByteArray := l.foldl (· ++ ·) ⟨#[]⟩
theorem cat_go : ∀ (l : List ByteArray) (a : ByteArray), (l.foldl (· ++ ·) a).data.toList = a.data.toList ++ (l.map fun s => s.data.toList).flatten := by
  intro l
  induction l with
  | nil => intro a; simp
  | cons x l ih => intro a; rw [List.foldl_cons, ih, app_list, List.map_cons, List.flatten_cons, List.append_assoc]
theorem cat_list (l : List ByteArray) : (cat l).data.toList = (l.map fun s => s.data.toList).flatten := by unfold cat; rw [cat_go]; rfl
theorem cat_size (l : List (Int × ByteArray)) : (cat (l.map (·.2))).size = tot l := by
  rw [← size_list, cat_list, List.length_flatten, List.map_map, List.map_map]
  unfold tot
  congr 1
theorem ext_join {B : ByteArray} {i j k : Nat} (h : i ≤ j) (h' : j ≤ k) : (B.extract i j).data.toList ++ (B.extract j k).data.toList = (B.extract i k).data.toList := by
  obtain ⟨a, rfl⟩ : ∃ a, j = i + a := ⟨j - i, by omega⟩
  obtain ⟨b, rfl⟩ : ∃ b, k = i + a + b := ⟨k - (i + a), by omega⟩
  rw [mid_list, mid_list, show i + a + b = i + (a + b) by omega, mid_list, List.take_add, List.drop_drop]
theorem walk_plain (B : ByteArray) : ∀ (ks : List Int) (at_ : Nat), (∀ x ∈ ks, Kind x ∧ x ≠ -1) → at_ ≤ B.size → (walkP B ks at_).2 = true → ((walkP B ks at_).1.map fun x => x.2.data.toList).flatten = (B.extract at_ B.size).data.toList := by
  intro ks
  induction ks with
  | nil =>
    intro at_ _ _ h
    rw [walkP] at h
    have := of_decide_eq_true h
    subst this
    simp [walkP]
  | cons kind ks ih =>
    intro at_ hk hle h
    rw [walkP] at h ⊢
    cases hpp : partP B at_ kind with
    | none => rw [hpp] at h; cases h
    | some x =>
      obtain ⟨s, n⟩ := x
      rw [hpp] at h
      simp only at h ⊢
      have hkk := hk kind (List.mem_cons_self ..)
      obtain ⟨h1, h2, h3⟩ := part_bounds hle hkk.1 hpp
      have hs : s = B.extract at_ n := by
        rcases h3 with e | e
        · exact e
        · exact absurd e.1 hkk.2
      rw [List.map_cons, List.flatten_cons, ih n (fun x hx => hk x (List.mem_cons_of_mem _ hx)) h2 h, hs]
      exact ext_join h1 h2
theorem flat_len (l : List (Int × ByteArray)) : (l.map fun x => x.2.data.toList).flatten.length = tot l := by
  rw [List.length_flatten, List.map_map]; unfold tot; congr 1
theorem walk_one (B : ByteArray) (ks : List Int) (at_ : Nat) (hk : ∀ x ∈ ks, Kind x ∧ x ≠ -1) (hle : at_ ≤ B.size) (h : (walkP B (-1 :: ks) at_).2 = true) (ht : tot (walkP B (-1 :: ks) at_).1 = B.size - at_) :
    ((walkP B (-1 :: ks) at_).1.map fun x => x.2.data.toList).flatten = (B.extract at_ B.size).data.toList := by
  rw [walkP] at h ht ⊢
  cases hpp : partP B at_ (-1) with
  | none => rw [hpp] at h; cases h
  | some x =>
    obtain ⟨s, n⟩ := x
    rw [hpp] at h ht
    simp only at h ht ⊢
    obtain ⟨h1, h2, h3⟩ := part_bounds hle (.inl rfl) hpp
    have hp := walk_plain B ks n hk h2 h
    have hl := congrArg List.length hp
    rw [flat_len, size_list, ByteArray.size_extract] at hl
    have hs : s = B.extract at_ n := by
      rcases h3 with e | e
      · exact e
      · exfalso
        have : tot ((-1, s) :: (walkP B ks n).1) = s.size + tot (walkP B ks n).1 := by unfold tot; simp
        rw [this] at ht
        omega
    rw [List.map_cons, List.flatten_cons, hp, hs]
    exact ext_join h1 h2
theorem walk_first (B : ByteArray) (kind : Int) (ks : List Int) (hk : Kind kind) (h : (walkP B (kind :: ks) 0).2 = true) : ∃ n, n ≤ B.size ∧ (walkP B ks n).2 = true ∧ (walkP B (kind :: ks) 0).1 = (kind, B.extract 0 n) :: (walkP B ks n).1 := by
  rw [walkP] at h ⊢
  cases hpp : partP B 0 kind with
  | none => rw [hpp] at h; cases h
  | some x =>
    obtain ⟨s, n⟩ := x
    rw [hpp] at h
    simp only at h ⊢
    obtain ⟨h1, h2, h3⟩ := part_bounds (Nat.zero_le _) hk hpp
    have hs : s = B.extract 0 n := by
      rcases h3 with e | e
      · exact e
      · omega
    exact ⟨n, h2, h, by rw [hs]⟩
theorem first_size {B : ByteArray} {n : Nat} (hn : n ≤ B.size) : (B.extract 0 n).size = n := by rw [ByteArray.size_extract]; omega
theorem tot_cons (x : Int × ByteArray) (l : List (Int × ByteArray)) : tot (x :: l) = x.2.size + tot l := by unfold tot; simp
theorem walk_whole (B : ByteArray) (t : Int) (h : (walkP B (partsL t) 0).2 = true) (ht : tot (walkP B (partsL t) 0).1 = B.size) : cat ((walkP B (partsL t) 0).1.map (·.2)) = B := by
  have key : ((walkP B (partsL t) 0).1.map fun x => x.2.data.toList).flatten = B.data.toList := by
    have hall : (B.extract 0 B.size).data.toList = B.data.toList := by rw [all_bytes]
    have two : ∀ (kind : Int) (ks : List Int), Kind kind → (∀ x ∈ ks, Kind x ∧ x ≠ -1) → (walkP B (kind :: -1 :: ks) 0).2 = true → tot (walkP B (kind :: -1 :: ks) 0).1 = B.size → ((walkP B (kind :: -1 :: ks) 0).1.map fun x => x.2.data.toList).flatten = B.data.toList := by
      intro kind ks hk hks h1 h2
      obtain ⟨n, hn, h3, h4⟩ := walk_first B kind _ hk h1
      rw [h4, tot_cons, first_size hn] at h2
      rw [h4, List.map_cons, List.flatten_cons, walk_one B ks n hks hn h3 (by omega), ext_join (Nat.zero_le _) hn, hall]
    unfold partsL at h ht ⊢
    by_cases h1 : t = 1
    · rw [if_pos h1] at h ht ⊢; rw [walk_plain B _ 0 (by intro x hx; simp at hx; unfold Kind; omega) (Nat.zero_le _) h, hall]
    · rw [if_neg h1] at h ht ⊢
      by_cases h2 : t = 28
      · rw [if_pos h2] at h ht ⊢; rw [walk_plain B _ 0 (by intro x hx; simp at hx; unfold Kind; omega) (Nat.zero_le _) h, hall]
      · rw [if_neg h2] at h ht ⊢
        by_cases h3 : t = 2 ∨ t = 5 ∨ t = 12
        · rw [if_pos h3] at h ht ⊢; rw [walk_one B [] 0 (by simp) (Nat.zero_le _) h (by omega), hall]
        · rw [if_neg h3] at h ht ⊢
          by_cases h4 : t = 15
          · rw [if_pos h4] at h ht ⊢; exact two 2 [] (by unfold Kind; omega) (by simp) h ht
          · rw [if_neg h4] at h ht ⊢
            by_cases h5 : t = 6
            · rw [if_pos h5] at h ht ⊢; exact two (-1) _ (by unfold Kind; omega) (by intro x hx; simp at hx; unfold Kind; omega) h ht
            · rw [if_neg h5] at h ht ⊢
              by_cases h6 : t = 16
              · rw [if_pos h6] at h ht ⊢; rw [walk_plain B _ 0 (by intro x hx; simp at hx; unfold Kind; omega) (Nat.zero_le _) h, hall]
              · rw [if_neg h6] at h ht ⊢
                by_cases h7 : t = 33
                · rw [if_pos h7] at h ht ⊢; rw [walk_plain B _ 0 (by intro x hx; simp at hx; unfold Kind; omega) (Nat.zero_le _) h, hall]
                · rw [if_neg h7] at h ht ⊢; rw [walk_plain B _ 0 (by intro x hx; simp at hx; unfold Kind; omega) (Nat.zero_le _) h, hall]
  apply list_inj
  rw [cat_list, List.map_map]
  exact key
def rightD (t : Int) (B : ByteArray) : Bool := decide (B.size ≤ 65535) && (walkP B (partsL t) 0).2 && decide (tot (walkP B (partsL t) 0).1 = B.size)
def foldN (n : ByteArray) : ByteArray := (name_Fold.f n).getD ⟨#[]⟩
def foldPart (x : Int × ByteArray) : ByteArray := if x.1 = -1 ∨ x.1 = -2 then foldN x.2 else x.2
def foldD (t : Int) (B : ByteArray) : ByteArray := if rightD t B = true then cat ((walkP B (partsL t) 0).1.map foldPart) else ⟨#[]⟩
def kindOf (c : Nat) : Int := if c = 110 then -1 else if c = 117 then -2 else if c = 116 then -3 else if c = 111 then -4 else if c = 104 then 16 else (c : Int) - 48
def letters (t : Int) : List UInt8 := if t = 1 then [52] else if t = 28 then [104] else if t = 2 ∨ t = 5 ∨ t = 12 then [110] else if t = 15 then [50, 110] else if t = 6 then [110, 110, 52, 52, 52, 52, 52] else if t = 16 then [116] else if t = 33 then [50, 50, 50, 117] else [111]
theorem letters_kinds (t : Int) : (letters t).map (fun c => kindOf c.toNat) = partsL t := by
  unfold letters partsL
  repeat' split
  all_goals rfl
theorem rparts_f (t : Int) (k : Nat) (hk : 1 ≤ k) : ∃ p, beadrollref10_Parts.f k t = some p ∧ p.data.toList = letters t := by
  obtain ⟨k, rfl⟩ : ∃ j, k = j + 1 := ⟨k - 1, by omega⟩
  unfold beadrollref10_Parts.f letters
  by_cases h1 : t = 1
  · rw [if_pos h1, if_pos h1]; exact ⟨_, rfl, rfl⟩
  · rw [if_neg h1, if_neg h1]
    by_cases h2 : t = 28
    · rw [if_pos h2, if_pos h2]; exact ⟨_, rfl, rfl⟩
    · rw [if_neg h2, if_neg h2]
      by_cases h3 : t = 2
      · subst h3; exact ⟨_, rfl, rfl⟩
      · by_cases h4 : t = 5
        · subst h4; exact ⟨_, rfl, rfl⟩
        · by_cases h5 : t = 12
          · subst h5; exact ⟨_, rfl, rfl⟩
          · rw [if_neg h3, if_neg h4, if_neg (show ¬ (t = 2 ∨ t = 5 ∨ t = 12) by omega), beadrollref10_Parts.j0, if_neg (by simp [h5])]
            by_cases h6 : t = 15
            · rw [if_pos h6, if_pos h6]; exact ⟨_, rfl, rfl⟩
            · rw [if_neg h6, if_neg h6]
              by_cases h7 : t = 6
              · rw [if_pos h7, if_pos h7]; exact ⟨_, rfl, rfl⟩
              · rw [if_neg h7, if_neg h7]
                by_cases h8 : t = 16
                · rw [if_pos h8, if_pos h8]; exact ⟨_, rfl, rfl⟩
                · rw [if_neg h8, if_neg h8]
                  by_cases h9 : t = 33
                  · rw [if_pos h9, if_pos h9]; exact ⟨_, rfl, rfl⟩
                  · rw [if_neg h9, if_neg h9]; exact ⟨_, rfl, rfl⟩
end Go.Proofs.YtjmpckommjlnlaaGreat.RdataFacts
namespace Go.Proofs.YtjmpckommjlnlaaGreat.RdataFacts
open Go.Proofs
open Go.RowKit Go.Proofs.YtjmpckommjlnlaaGreat.PRd Go.Proofs.YtjmpckommjlnlaaGreatW.PrintWords Go.Proofs.YtjmpckommjlnlaaGreatW.PrintLast Go.Proofs.YtjmpckommjlnlaaGreatW.PrintMore Go.Proofs.YtjmpckommjlnlaaGreat.Given Go.Proofs.YtjmpckommjlnlaaGreat.Oct Go.Proofs.YtjmpckommjlnlaaGreat.Name Go.Proofs.YtjmpckommjlnlaaGreat.PackFacts Go.Proofs.YtjmpckommjlnlaaGreat.Rdata
open Go.Proofs.YtjmpckommjlnlaaGreat.NameFacts (fold_yes_f fold_no_f rfold_yes rfold_no all_bytes)
open Go.Proofs.YtjmpckommjlnlaaGreat.OctFacts (piecesR pieces_f rpieces_f w64_id bt_list rdo_at)
set_option linter.unusedVariables false
set_option linter.unusedSimpArgs false
def Letter (c : Nat) : Prop := c = 110 ∨ c = 117 ∨ c = 116 ∨ c = 111 ∨ c = 104 ∨ c = 52 ∨ c = 50
theorem letters_all (t : Int) : ∀ c ∈ letters t, Letter c.toNat := by
  intro c hc
  unfold letters at hc
  unfold Letter
  repeat' split at hc
  all_goals
    simp at hc
    rcases hc with rfl | rfl | hc <;> first | decide | (rcases hc with rfl | rfl <;> decide) | skip
theorem same_ne {a b : ByteArray} : (a.toList != b.toList) = decide (¬ a = b) := by
  rw [bne, list_same]; simp
set_option maxHeartbeats 1000000 in
theorem rread_at (B : ByteArray) (hB : B.size ≤ 1000000) (p : ByteArray) (hp : ∀ c ∈ p.data.toList, Letter c.toNat) (hps : p.size ≤ 100) : ∀ (d i at_ k : Nat) (acc : List ByteArray), i + d = p.size → at_ ≤ B.size → acc.length + d ≤ 1000 → FU + 4 * d ≤ k →
    ∃ l b, beadrollref10_Read.l0 k B (at_ : Int) (B.size : Int) acc p (i : Int) = some (l, b) ∧ b = (walkP B ((p.data.toList.drop i).map fun c => kindOf c.toNat) at_).2 ∧ (l = acc ++ (walkP B ((p.data.toList.drop i).map fun c => kindOf c.toNat) at_).1.map (·.2) ∨ l = [] ∧ b = false) := by
  intro d
  induction d with
  | zero =>
    intro i at_ k acc hd hle ha hk
    have : 1 ≤ k := by unfold FU at hk; omega
    obtain ⟨k, rfl⟩ : ∃ j, k = j + 1 := ⟨k - 1, by omega⟩
    rw [beadrollref10_Read.l0, if_neg (by omega), List.drop_of_length_le (by rw [size_list]; omega), List.map_nil, walkP]
    refine ⟨_, _, rfl, ?_, Or.inl (by simp)⟩
    by_cases h : at_ = B.size
    · rw [h]; simp
    · rw [decide_eq_false h]; exact beq_eq_false_iff_ne.mpr (by omega)
  | succ d ih =>
    intro i at_ k acc hd hle ha hk
    have hf := fuel_le hB
    have : FU ≥ 5000 := by unfold FU; omega
    obtain ⟨k, rfl⟩ : ∃ j, k = j + 4 := ⟨k - 4, by omega⟩
    have hlt : i < p.size := by omega
    have hbt := bt_list p i hlt
    have hL := hp (p.data.toList[i]'(by rw [size_list]; exact hlt)) (List.getElem_mem _)
    have hdrop : p.data.toList.drop i = p.data.toList[i]'(by rw [size_list]; exact hlt) :: p.data.toList.drop (i + 1) := List.drop_eq_getElem_cons _
    rw [hdrop, List.map_cons]
    generalize (p.data.toList[i]'(by rw [size_list]; exact hlt)).toNat = c at hbt hL
    have hnext := Lib.hid (show wrap64 ((i : Int) + 1) = ((i + 1 : Nat) : Int) from by rw [w64_id (by omega) (by omega)]; omega)
    rw [walkP]
    -- what is done behind a part
    have go : ∀ (j n : Nat) (s : ByteArray), FU + 4 * d ≤ j → n ≤ B.size → ∃ l b, beadrollref10_Read.l0 j B (n : Int) (B.size : Int) (acc ++ [s]) p (wrap64 ((i : Int) + 1)) = some (l, b) ∧ b = (walkP B ((p.data.toList.drop (i + 1)).map fun c => kindOf c.toNat) n).2 ∧ (l = acc ++ (s :: (walkP B ((p.data.toList.drop (i + 1)).map fun c => kindOf c.toNat) n).1.map (·.2)) ∨ l = [] ∧ b = false) := by
      intro j n s hj hn
      rw [hnext.out]
      obtain ⟨l, b, e1, e2, e3⟩ := ih (i + 1) n j (acc ++ [s]) (by omega) hn (by simp; omega) hj
      exact ⟨l, b, e1, e2, e3.imp (fun h => by rw [h]; simp) id⟩
    have part : ∀ (kind : Int), 0 ≤ kind → partP B at_ kind = if kind > (B.size : Int) - at_ then none else some (B.extract at_ (at_ + kind.toNat), at_ + kind.toNat) := by
      intro kind hk
      unfold partP
      rw [if_neg (show ¬ kind = -1 by omega), if_neg (show ¬ kind = -2 by omega), if_neg (show ¬ kind = -3 by omega), if_neg (show ¬ kind = -4 by omega)]
    rw [beadrollref10_Read.l0, if_pos (by omega), if_pos (by omega), hbt]
    by_cases h110 : c = 110
    · subst h110
      rw [if_pos (by omega), beadrollref10_Read.j1, if_pos (by simp), rread_f B hB at_ _ hle (by omega), Option.bind_some, show kindOf 110 = -1 from rfl]
      unfold partP
      rw [if_pos (show (-1 : Int) = -1 from rfl)]
      by_cases hr : (readR B at_).2.2 = 0
      · obtain ⟨x, y, e, h1, h2, _⟩ := readR_ok hr
        rw [if_pos hr, if_pos hr, e]
        simp only [Int.toNat_natCast]
        rw [if_pos (by omega), if_pos (by omega), hbt, if_neg (by omega), beadrollref10_Read.j2, if_neg (by simp), if_pos (by omega)]
        exact go _ y x (by omega) h2
      · rw [if_neg hr, if_neg hr, beadrollref10_Read.j2, if_pos rfl]
        exact ⟨_, _, rfl, rfl, Or.inr ⟨rfl, rfl⟩⟩
    · rw [if_neg (by omega)]
      by_cases h117 : c = 117
      · subst h117
        rw [beadrollref10_Read.j1, if_pos (by simp), rread_f B hB at_ _ hle (by omega), Option.bind_some, show kindOf 117 = -2 from rfl]
        unfold partP
        rw [if_neg (show ¬ (-2 : Int) = -1 by decide), if_pos (show (-2 : Int) = -2 from rfl)]
        by_cases hr : (readR B at_).2.2 = 0
        · obtain ⟨x, y, e, h1, h2, _⟩ := readR_ok hr
          rw [if_pos hr, e]
          simp only [Int.toNat_natCast]
          rw [if_pos (by omega), if_pos (by omega), hbt, if_pos (by omega), if_pos (by omega), if_pos (by omega), if_pos (by omega), same_ne, beadrollref10_Read.j2]
          by_cases hx : x = B.extract at_ y
          · rw [if_neg (by simp [hx]), if_pos (by omega), if_pos ⟨trivial, hx⟩]
            exact go _ y x (by omega) h2
          · rw [if_pos (by simp [hx]), if_neg (fun e => hx e.2)]
            exact ⟨_, _, rfl, rfl, Or.inr ⟨rfl, rfl⟩⟩
        · rw [if_neg hr, if_neg (fun e => hr e.1), beadrollref10_Read.j2, if_pos rfl]
          exact ⟨_, _, rfl, rfl, Or.inr ⟨rfl, rfl⟩⟩
      · rw [beadrollref10_Read.j1, if_neg (by simp; omega)]
        by_cases h116 : c = 116
        · subst h116
          rw [if_pos (by omega), if_pos (by omega), if_pos (by omega), Int.toNat_natCast, rpieces_f _ _ _ (by rw [ByteArray.size_extract]; omega) (by rw [ByteArray.size_extract]; unfold FU at hk; omega), Option.bind_some, show kindOf 116 = -3 from rfl]
          unfold partP
          rw [if_neg (show ¬ (-3 : Int) = -1 by decide), if_neg (show ¬ (-3 : Int) = -2 by decide), if_pos (show (-3 : Int) = -3 from rfl)]
          have e1 := Lib.hid (show wrap64 ((at_ : Int) + wrap64 ((B.size : Int) - at_)) = (B.size : Int) from by rw [w64_id (x := (B.size : Int) - at_) (by omega) (by omega), w64_id (by omega) (by omega)]; omega)
          generalize piecesR (B.extract at_ B.size) 1 = ps
          by_cases hp0 : ps.2 = 0
          · rw [if_pos hp0, beadrollref10_Read.j3]
            by_cases hl : 0 < ps.1.length
            · rw [if_neg (show ¬ ((ps.1.length : Int) == 0) = true from fun e => by have := beq_iff_eq.mp e; omega), if_pos (show ps.2 = 0 ∧ 0 < ps.1.length from ⟨hp0, hl⟩), e1.out, if_neg (by omega), if_pos (by omega), if_pos (by omega), if_pos (by omega), if_pos (by omega)]
              simp only [Int.toNat_natCast]
              exact go _ B.size _ (by omega) (Nat.le_refl _)
            · rw [if_pos (show ((ps.1.length : Int) == 0) = true from beq_iff_eq.mpr (by omega)), if_neg (show ¬ (ps.2 = 0 ∧ 0 < ps.1.length) from fun e => hl e.2)]
              exact ⟨_, _, rfl, rfl, Or.inr ⟨rfl, rfl⟩⟩
          · rw [if_neg hp0, if_neg (show ¬ (ps.2 = 0 ∧ 0 < ps.1.length) from fun e => hp0 e.1), beadrollref10_Read.j3, if_pos rfl]
            exact ⟨_, _, rfl, rfl, Or.inr ⟨rfl, rfl⟩⟩
        · rw [if_neg (by omega)]
          by_cases h111 : c = 111
          · subst h111
            have e1 := Lib.hid (show wrap64 ((at_ : Int) + wrap64 ((B.size : Int) - at_)) = (B.size : Int) from by rw [w64_id (x := (B.size : Int) - at_) (by omega) (by omega), w64_id (by omega) (by omega)]; omega)
            rw [if_pos (by omega), e1.out, if_neg (by omega), if_pos (by omega), if_pos (by omega), if_pos (by omega), if_pos (by omega), show kindOf 111 = -4 from rfl]
            unfold partP
            rw [if_neg (show ¬ (-4 : Int) = -1 by decide), if_neg (show ¬ (-4 : Int) = -2 by decide), if_neg (show ¬ (-4 : Int) = -3 by decide), if_pos (show (-4 : Int) = -4 from rfl)]
            simp only [Int.toNat_natCast]
            exact go _ B.size _ (by omega) (Nat.le_refl _)
          · rw [if_neg (by omega)]
            by_cases h104 : c = 104
            · subst h104
              rw [if_pos (by omega), w64_id (by omega) (by omega), show kindOf 104 = 16 from rfl, part 16 (by decide)]
              by_cases h5 : (16 : Int) > (B.size : Int) - at_
              · rw [if_pos (by omega), if_pos h5]
                exact ⟨_, _, rfl, rfl, Or.inr ⟨rfl, rfl⟩⟩
              · rw [if_neg (by omega), if_neg h5, if_pos (by omega), if_pos (by omega), if_pos (by omega), if_pos (by omega), show (at_ : Int) + 16 = ((at_ + 16 : Nat) : Int) by omega]
                simp only [Int.toNat_natCast]
                exact go _ (at_ + 16) _ (by omega) (by omega)
            · have hkc : kindOf c = (c : Int) - 48 := by unfold kindOf; rw [if_neg h110, if_neg h117, if_neg h116, if_neg h111, if_neg h104]
              have hc : c = 52 ∨ c = 50 := by unfold Letter at hL; omega
              have hw := Lib.hid (show wrap64 ((wrap64 (c : Int)) - 48) = (c : Int) - 48 from by rw [w64_id (x := (c : Int)) (by omega) (by omega), w64_id (by omega) (by omega)])
              rw [if_neg (by omega), if_pos (by omega), if_pos (by omega), hbt, hw.out, w64_id (by omega) (by omega), hkc, part ((c : Int) - 48) (by omega)]
              by_cases h5 : (c : Int) - 48 > (B.size : Int) - at_
              · rw [if_pos (by omega), if_pos h5]
                exact ⟨_, _, rfl, rfl, Or.inr ⟨rfl, rfl⟩⟩
              · rw [if_neg (by omega), if_neg h5, if_pos (by omega), if_pos (by omega), if_pos (by omega), if_pos (by omega), show (at_ : Int) + ((c : Int) - 48) = ((at_ + ((c : Int) - 48).toNat : Nat) : Int) by omega]
                simp only [Int.toNat_natCast]
                exact go _ (at_ + ((c : Int) - 48).toNat) _ (by omega) (by omega)
end Go.Proofs.YtjmpckommjlnlaaGreat.RdataFacts
namespace Go.Proofs.YtjmpckommjlnlaaGreat.RdataFacts
open Go.Proofs
open Go.RowKit Go.Proofs.YtjmpckommjlnlaaGreat.PRd Go.Proofs.YtjmpckommjlnlaaGreatW.PrintWords Go.Proofs.YtjmpckommjlnlaaGreatW.PrintLast Go.Proofs.YtjmpckommjlnlaaGreatW.PrintMore Go.Proofs.YtjmpckommjlnlaaGreat.Given Go.Proofs.YtjmpckommjlnlaaGreat.Oct Go.Proofs.YtjmpckommjlnlaaGreat.Name Go.Proofs.YtjmpckommjlnlaaGreat.PackFacts Go.Proofs.YtjmpckommjlnlaaGreat.Rdata
open Go.Proofs.YtjmpckommjlnlaaGreat.NameFacts (fold_yes_f fold_no_f rfold_yes rfold_no all_bytes)
open Go.Proofs.YtjmpckommjlnlaaGreat.OctFacts (piecesR pieces_f rpieces_f w64_id bt_list rdo_at)
set_option linter.unusedVariables false
set_option linter.unusedSimpArgs false
theorem part_size {B : ByteArray} {at_ : Nat} {kind : Int} {s : ByteArray} {n : Nat} (hB : B.size ≤ 1000000) (h : partP B at_ kind = some (s, n)) : s.size ≤ 1000000 := by
  have hread : ∀ {x : ByteArray} {y : Int}, readR B at_ = (x, y, 0) → x.size ≤ 1000000 := fun h => by
    have := (readS_next B _ at_ _ _ _ _ _ h).2.2.2; omega
  have hx : ∀ i j, (B.extract i j).size ≤ 1000000 := fun i j => by rw [ByteArray.size_extract]; omega
  unfold partP at h
  split at h
  · split at h
    · rename_i hr
      obtain ⟨x, y, e, _⟩ := readR_ok hr
      have := hread e
      rw [e] at h; simp at h; rw [← h.1]; exact this
    · cases h
  · split at h
    · split at h
      · rename_i hr
        obtain ⟨x, y, e, _⟩ := readR_ok hr.1
        have := hread e
        rw [e] at h; simp at h; rw [← h.1]; exact this
      · cases h
    · split at h
      · split at h
        · simp at h; rw [← h.1]; exact hx _ _
        · cases h
      · split at h
        · simp at h; rw [← h.1]; exact hx _ _
        · split at h
          · cases h
          · simp at h; rw [← h.1]; exact hx _ _
theorem walk_size (B : ByteArray) (hB : B.size ≤ 1000000) : ∀ (ks : List Int) (at_ : Nat), (∀ x ∈ (walkP B ks at_).1, x.2.size ≤ 1000000) ∧ (walkP B ks at_).1.length ≤ ks.length := by
  intro ks
  induction ks with
  | nil => intro at_; rw [walkP]; exact ⟨by simp, by simp⟩
  | cons kind ks ih =>
    intro at_
    rw [walkP]
    cases hpp : partP B at_ kind with
    | none => exact ⟨by simp, by simp⟩
    | some x =>
      obtain ⟨s, n⟩ := x
      simp only
      refine ⟨fun x hx => ?_, by have := (ih n).2; simp; omega⟩
      rcases List.mem_cons.mp hx with e | e
      · rw [e]; exact part_size hB hpp
      · exact (ih n).1 x e
theorem walk_kinds (B : ByteArray) : ∀ (ks : List Int) (at_ : Nat), (walkP B ks at_).1.map (·.1) = ks.take (walkP B ks at_).1.length := by
  intro ks
  induction ks with
  | nil => intro at_; rw [walkP]; rfl
  | cons kind ks ih =>
    intro at_
    rw [walkP]
    cases partP B at_ kind with
    | none => rfl
    | some x =>
      simp only [List.map_cons, List.length_cons, List.take_succ_cons]
      rw [ih]
theorem join_at (l : List ByteArray) (hl : l.length ≤ 1000) (hs : ∀ s ∈ l, s.size ≤ 1000000) : ∀ (d i k : Nat) (a : ByteArray), i + d = l.length → d < k → a.size + d * 1000000 ≤ 10000000000 → beadrollref10_join.l0 k l a (i : Int) = some ((l.drop i).foldl (· ++ ·) a) := by
  intro d
  induction d with
  | zero =>
    intro i k a hd hk _
    obtain ⟨k, rfl⟩ : ∃ j, k = j + 1 := ⟨k - 1, by omega⟩
    rw [beadrollref10_join.l0, if_neg (by omega), List.drop_of_length_le (by omega)]; rfl
  | succ d ih =>
    intro i k a hd hk ha
    obtain ⟨k, rfl⟩ : ∃ j, k = j + 1 := ⟨k - 1, by omega⟩
    have hlt : i < l.length := by omega
    have hz := hs l[i] (List.getElem_mem hlt)
    rw [beadrollref10_join.l0, if_pos (by omega), if_pos (by omega), rdo_at l i hlt, if_pos (by omega), List.drop_eq_getElem_cons hlt, List.foldl_cons, show wrap64 ((i : Int) + 1) = ((i + 1 : Nat) : Int) by rw [w64_id (by omega) (by omega)]; omega]
    exact ih (i + 1) k _ (by omega) (by omega) (by rw [ByteArray.size_append]; omega)
theorem join_f (l : List ByteArray) (k : Nat) (hl : l.length ≤ 1000) (hs : ∀ s ∈ l, s.size ≤ 1000000) (hk : 1001 ≤ k) : beadrollref10_join.f k l = some (cat l) := by
  unfold beadrollref10_join.f
  have hz : (⟨#[]⟩ : ByteArray).size = 0 := rfl
  have := join_at l hl hs l.length 0 k ⟨#[]⟩ (by omega) (by omega) (by rw [hz]; omega)
  rw [List.drop_zero] at this; exact this
theorem rread_all (t : Int) (B : ByteArray) (hB : B.size ≤ 1000000) (k : Nat) (hk : FU + 100 ≤ k) : ∃ l b, beadrollref10_Read.f k B 0 (B.size : Int) t = some (l, b) ∧ b = (walkP B (partsL t) 0).2 ∧ (l = (walkP B (partsL t) 0).1.map (·.2) ∨ l = [] ∧ b = false) := by
  obtain ⟨p, hp, hpl⟩ := rparts_f t k (by omega)
  have hps : p.size ≤ 7 := by
    rw [← size_list, hpl]; have := congrArg List.length (letters_kinds t); rw [List.length_map] at this; rw [this]; exact parts_len t
  unfold beadrollref10_Read.f
  rw [hp, Option.bind_some, if_pos (Int.natCast_nonneg _), if_pos (Int.le_refl _), Int.toNat_natCast, all_bytes]
  obtain ⟨l, b, e1, e2, e3⟩ := rread_at B hB p (by rw [hpl]; exact letters_all t) (by omega) p.size 0 0 k [] (by omega) (Nat.zero_le _) (by simp; omega) (by omega)
  rw [List.drop_zero, hpl, letters_kinds] at e2 e3
  exact ⟨l, b, e1, e2, by simpa using e3⟩
theorem rwhole_f (t : Int) (B : ByteArray) (hB : B.size ≤ 1000000) (k : Nat) (hk : FU + 2000 ≤ k) : ∃ s, beadrollref10_Whole.f k B 0 (B.size : Int) t = some (s, (walkP B (partsL t) 0).2 && decide (s.size ≤ 65535)) ∧ ((walkP B (partsL t) 0).2 = true → s = cat ((walkP B (partsL t) 0).1.map (·.2))) := by
  obtain ⟨l, b, e1, e2, e3⟩ := rread_all t B hB k (Nat.le_trans (Nat.add_le_add_left (by decide) FU) hk)
  have hw := walk_size B hB (partsL t) 0
  have hl7 := parts_len t
  have hlen : l.length ≤ 1000 ∧ ∀ s ∈ l, s.size ≤ 1000000 := by
    rcases e3 with e | e
    · rw [e]
      refine ⟨by rw [List.length_map]; omega, fun s hs => ?_⟩
      obtain ⟨x, hx, rfl⟩ := List.mem_map.mp hs
      exact hw.1 x hx
    · rw [e.1]; exact ⟨by simp, by simp⟩
  unfold beadrollref10_Whole.f
  rw [e1, Option.bind_some, join_f l k hlen.1 hlen.2 (Nat.le_trans (by decide) (Nat.le_trans (Nat.le_add_left 2000 FU) hk)), Option.bind_some]
  refine ⟨cat l, ?_, fun h => ?_⟩
  · rw [← e2]
    cases b with
    | true =>
      rw [if_pos rfl, Bool.true_and]
      congr 2
      by_cases h : (cat l).size ≤ 65535
      · rw [decide_eq_true h, decide_eq_true (by omega)]
      · rw [decide_eq_false h, decide_eq_false (by omega)]
    | false => rw [if_neg (fun h => by cases h)]; rfl
  · rcases e3 with e | e
    · rw [e]
    · rw [e2, h] at e; cases e.2
theorem rright_d (t : Int) (B : ByteArray) (hB : B.size ≤ 1000000) (k : Nat) (hk : FU + 2000 ≤ k) : beadrollref10_Right.f k t B = some (rightD t B) := by
  obtain ⟨s, e1, e2⟩ := rwhole_f t B hB k hk
  unfold beadrollref10_Right.f rightD
  rw [e1, Option.bind_some]
  cases hw : (walkP B (partsL t) 0).2 with
  | false => simp
  | true =>
    have hs := e2 hw
    have hz := cat_size (walkP B (partsL t) 0).1
    rw [← hs] at hz
    rw [Bool.true_and, Bool.and_true, ← hz]
    by_cases h1 : s.size ≤ 65535
    · rw [decide_eq_true h1, if_pos rfl, list_same]
      by_cases h2 : s = B
      · rw [decide_eq_true h2, ← h2, decide_eq_true h1]; simp
      · rw [decide_eq_false h2]
        have : ¬ s.size = B.size := fun e => h2 (by rw [hs]; exact walk_whole B t hw (by rw [← hz]; exact e))
        rw [decide_eq_false this]; simp
    · rw [decide_eq_false h1, if_neg (fun h => by cases h)]
      by_cases h2 : s.size = B.size
      · rw [decide_eq_false (show ¬ B.size ≤ 65535 by omega)]; simp
      · rw [decide_eq_false h2]; simp
theorem name_of {n : ByteArray} (h : rightB n = true) : ∃ l, good l ∧ n = nameB l ∧ (nameB l).size ≤ 255 := by
  obtain ⟨l, hg, e, hz⟩ := (right_iff n).mp h
  exact ⟨l, hg, e, hz⟩
theorem fold_f (n : ByteArray) : name_Fold.f n = some (foldN n) := by
  unfold foldN
  cases hr : rightB n with
  | true =>
    obtain ⟨l, hg, rfl, hz⟩ := name_of hr
    rw [fold_yes_f l hg hz]; rfl
  | false => rw [fold_no_f n hr]; rfl
theorem rfold_f (n : ByteArray) (k : Nat) (hk : 700 ≤ k) : beadrollref07_Fold.f k n = some (foldN n) := by
  unfold foldN
  cases hr : rightB n with
  | true =>
    obtain ⟨l, hg, rfl, hz⟩ := name_of hr
    rw [fold_yes_f l hg hz, rfold_yes l hg hz k hk]; rfl
  | false => rw [fold_no_f n hr, rfold_no n hr k hk]; rfl
end Go.Proofs.YtjmpckommjlnlaaGreat.RdataFacts
namespace Go.Proofs.YtjmpckommjlnlaaGreat.RdataFacts
open Go.Proofs
open Go.RowKit Go.Proofs.YtjmpckommjlnlaaGreat.PRd Go.Proofs.YtjmpckommjlnlaaGreatW.PrintWords Go.Proofs.YtjmpckommjlnlaaGreatW.PrintLast Go.Proofs.YtjmpckommjlnlaaGreatW.PrintMore Go.Proofs.YtjmpckommjlnlaaGreat.Given Go.Proofs.YtjmpckommjlnlaaGreat.Oct Go.Proofs.YtjmpckommjlnlaaGreat.Name Go.Proofs.YtjmpckommjlnlaaGreat.PackFacts Go.Proofs.YtjmpckommjlnlaaGreat.Rdata
open Go.Proofs.YtjmpckommjlnlaaGreat.OctFacts (w64_id bt_list rdo_at)
set_option linter.unusedVariables false
set_option linter.unusedSimpArgs false
theorem foldN_size (n : ByteArray) : (foldN n).size ≤ 1000000 := by
  unfold foldN
  cases hr : rightB n with
  | true =>
    have hz := right_size hr
    obtain ⟨l, hg, rfl, hz⟩ := name_of hr
    rw [Go.Proofs.YtjmpckommjlnlaaGreat.NameFacts.fold_yes_f l hg hz]
    show (nameB (l.map lowS)).size ≤ 1000000
    rw [size_map]; omega
  | false => rw [Go.Proofs.YtjmpckommjlnlaaGreat.NameFacts.fold_no_f n hr]; show (0 : Nat) ≤ 1000000; omega
theorem foldPart_size {x : Int × ByteArray} (h : x.2.size ≤ 1000000) : (foldPart x).size ≤ 1000000 := by
  unfold foldPart; split
  · exact foldN_size _
  · exact h
theorem rfold_at (ps : List (Int × ByteArray)) (p : ByteArray) (hp : ∀ c ∈ p.data.toList, Letter c.toNat) (hkd : ps.map (·.1) = (p.data.toList.map fun c => kindOf c.toNat).take ps.length) (hlen : ps.length ≤ p.size) (hps : p.size ≤ 100) (hsz : ∀ x ∈ ps, x.2.size ≤ 1000000) :
    ∀ (d i k : Nat) (a : ByteArray), i + d = ps.length → d + 1000 ≤ k → a.size + d * 1000000 ≤ 10000000000 → beadrollref10_Fold.l0 k (ps.map (·.2)) p a (i : Int) = some (((ps.drop i).map foldPart).foldl (· ++ ·) a) := by
  intro d
  induction d with
  | zero =>
    intro i k a hd hk _
    obtain ⟨k, rfl⟩ : ∃ j, k = j + 1 := ⟨k - 1, by omega⟩
    rw [beadrollref10_Fold.l0, if_neg (by rw [List.length_map]; omega), List.drop_of_length_le (by omega)]; rfl
  | succ d ih =>
    intro i k a hd hk ha
    obtain ⟨k, rfl⟩ : ∃ j, k = j + 1 := ⟨k - 1, by omega⟩
    have hlt : i < ps.length := by omega
    have hlp : i < p.data.toList.length := by rw [size_list]; omega
    have hbt := bt_list p i (by omega)
    have hL := hp (p.data.toList[i]) (List.getElem_mem _)
    have hkk : ps[i].1 = kindOf (p.data.toList[i]).toNat := by
      have h1 : (ps.map (·.1))[i]? = some ps[i].1 := by rw [List.getElem?_map, List.getElem?_eq_getElem hlt]; rfl
      rw [hkd, List.getElem?_take_of_lt hlt, List.getElem?_map, List.getElem?_eq_getElem hlp] at h1
      simpa using h1.symm
    have hz := hsz ps[i] (List.getElem_mem hlt)
    have hf := foldN_size ps[i].2
    have hrd : rdOf ByteArray.empty (ps.map (·.2)) (i : Int) = ps[i].2 := by rw [rdo_at _ i (by rw [List.length_map]; exact hlt)]; simp
    have hnx := Lib.hid (show wrap64 ((i : Int) + 1) = ((i + 1 : Nat) : Int) from by rw [w64_id (by omega) (by omega)]; omega)
    generalize (p.data.toList[i]).toNat = c at hbt hL hkk
    rw [beadrollref10_Fold.l0, if_pos (by rw [List.length_map]; omega), if_pos (by omega), if_pos (by omega), hbt, List.drop_eq_getElem_cons hlt, List.map_cons, List.foldl_cons, hrd, rfold_f _ _ (by omega)]
    have step : ∀ b : ByteArray, b.size ≤ a.size + 1000000 → beadrollref10_Fold.l0 k (ps.map (·.2)) p b (wrap64 ((i : Int) + 1)) = some (((ps.drop (i + 1)).map foldPart).foldl (· ++ ·) b) := fun b hb => by
      rw [hnx.out]; exact ih (i + 1) k b (by omega) (by omega) (by omega)
    by_cases h110 : c = 110
    · have : foldPart ps[i] = foldN ps[i].2 := by unfold foldPart; rw [if_pos (.inl (by rw [hkk, h110]; rfl))]
      rw [if_pos (by omega), Option.bind_some, if_pos (by omega), this]
      exact step _ (by rw [ByteArray.size_append]; omega)
    · rw [if_neg (by omega)]
      by_cases h117 : c = 117
      · have : foldPart ps[i] = foldN ps[i].2 := by unfold foldPart; rw [if_pos (.inr (by rw [hkk, h117]; rfl))]
        rw [if_pos (by omega), Option.bind_some, if_pos (by omega), this]
        exact step _ (by rw [ByteArray.size_append]; omega)
      · have : foldPart ps[i] = ps[i].2 := by
          unfold foldPart
          rw [if_neg]
          rw [hkk]
          unfold kindOf
          rw [if_neg h110, if_neg h117]
          unfold Letter at hL
          rcases hL with e | e | e | e | e | e | e <;> first | omega | (subst e; decide)
        rw [if_neg (by omega), if_pos (by omega), this]
        exact step _ (by rw [ByteArray.size_append]; omega)
theorem rfold_d (t : Int) (B : ByteArray) (hB : B.size ≤ 1000000) (k : Nat) (hk : FU + 2000 ≤ k) : beadrollref10_Fold.f k t B = some (foldD t B) := by
  have hk1 : 1 ≤ k := Nat.le_trans (by decide) (Nat.le_trans (Nat.le_add_left 2000 FU) hk)
  have hk2 : 2000 ≤ k := Nat.le_trans (Nat.le_add_left 2000 FU) hk
  unfold beadrollref10_Fold.f foldD
  rw [rright_d t B hB k hk, Option.bind_some]
  cases hr : rightD t B with
  | false => rw [if_neg (by decide), if_neg (by decide)]
  | true =>
    obtain ⟨l, b, e1, e2, e3⟩ := rread_all t B hB k (Nat.le_trans (Nat.add_le_add_left (by decide) FU) hk)
    obtain ⟨p, hp, hpl⟩ := rparts_f t k hk1
    have hps : p.data.toList.map (fun c => kindOf c.toNat) = partsL t := by rw [hpl]; exact letters_kinds t
    have hok : (walkP B (partsL t) 0).2 = true := by
      unfold rightD at hr
      simp only [Bool.and_eq_true] at hr
      exact hr.1.2
    have hl : l = (walkP B (partsL t) 0).1.map (·.2) := by
      rcases e3 with e | e
      · exact e
      · rw [e2, hok] at e; cases e.2
    have hw := walk_size B hB (partsL t) 0
    have h7 := parts_len t
    have hpz : p.size = (partsL t).length := by rw [← size_list, ← hps, List.length_map]
    rw [if_pos rfl, if_pos rfl, e1, Option.bind_some, hp, Option.bind_some, hl]
    have hz : (⟨#[]⟩ : ByteArray).size = 0 := rfl
    have := rfold_at (walkP B (partsL t) 0).1 p (by rw [hpl]; exact letters_all t) (by rw [hps]; exact walk_kinds B (partsL t) 0) (by rw [hpz]; exact hw.2) (by omega) hw.1 (walkP B (partsL t) 0).1.length 0 k ⟨#[]⟩ (by omega) (by omega) (by rw [hz]; omega)
    rw [List.drop_zero] at this
    exact this
end Go.Proofs.YtjmpckommjlnlaaGreat.RdataFacts
namespace Go.Proofs.YtjmpckommjlnlaaGreat.Shelf
open Go.Proofs Go.Shelf Go.RowKit
def ren166 : Go.Shelf.Ren := ⟨fun | 166 => 163 | 240 => 200 | 276 => 221 | n => n, fun | 0 => 0 | 3 => 3 | 4 => 4 | 5 => 5 | 9 => 9 | 20 => 20 | 37 => 133 | 70 => 159 | 72 => 161 | 75 => 164 | 80 => 41 | 164 => 203 | n => n, fun | n => n⟩
theorem lays166 : Go.Proofs.Lays.n166 Tryz.prog ren166 := {
  mixed := by kernel_rfl
  f166 := Tryz.func163.trans (congrArg some (by kernel_rfl))
  f240 := Tryz.func200.trans (congrArg some (by kernel_rfl))
  f276 := Tryz.func221.trans (congrArg some (by kernel_rfl))
  t0 := Tryz.underlying0
  a0 := Tryz.isAgg0
  z0 := Tryz.sizeOf0
  v0 := Tryz.zeroValue0
  t3 := Tryz.underlying3
  a3 := Tryz.isAgg3
  z3 := Tryz.sizeOf3
  v3 := Tryz.zeroValue3
  t4 := Tryz.underlying4
  a4 := Tryz.isAgg4
  z4 := Tryz.sizeOf4
  v4 := Tryz.zeroValue4
  t9 := Tryz.underlying9
  a9 := Tryz.isAgg9
  z9 := Tryz.sizeOf9
  v9 := Tryz.zeroValue9
  t20 := Tryz.underlying20
  a20 := Tryz.isAgg20
  z20 := Tryz.sizeOf20
  v20 := Tryz.zeroValue20
  t37 := Tryz.underlying133
  a37 := Tryz.isAgg133
  z37 := Tryz.sizeOf133
  v37 := Tryz.zeroValue133
  t70 := Tryz.underlying159
  a70 := Tryz.isAgg159
  z70 := Tryz.sizeOf159
  v70 := Tryz.zeroValue159
  t72 := Tryz.underlying161
  a72 := Tryz.isAgg161
  z72 := Tryz.sizeOf161
  v72 := Tryz.zeroValue161
  t75 := Tryz.underlying164
  a75 := Tryz.isAgg164
  z75 := Tryz.sizeOf164
  v75 := Tryz.zeroValue164
  t164 := Tryz.underlying203
  a164 := Tryz.isAgg203
  z164 := Tryz.sizeOf203
  v164 := Tryz.zeroValue203 }
theorem extra166 : Builder.Extra Tryz.prog ren166 := {
  sizeBuilder := by kernel_rfl
  liesBuilder := by kernel_rfl
  t5 := Tryz.underlying5
  a5 := Tryz.isAgg5
  z5 := Tryz.sizeOf5
  v5 := Tryz.zeroValue5
  infoByte := by kernel_rfl
  cellsByte := by kernel_rfl
  sizeByte := by kernel_rfl
  neB5 := by decide }
def ren169 : Go.Shelf.Ren := ⟨fun | 169 => 164 | n => n, fun | 0 => 0 | 3 => 3 | 5 => 5 | 9 => 9 | 37 => 133 | 70 => 159 | 72 => 161 | 127 => 189 | n => n, fun | n => n⟩
theorem lays169 : Go.Proofs.Lays.n169 Tryz.prog ren169 := {
  mixed := by kernel_rfl
  f169 := Tryz.func164.trans (congrArg some (by kernel_rfl))
  t0 := Tryz.underlying0
  a0 := Tryz.isAgg0
  z0 := Tryz.sizeOf0
  v0 := Tryz.zeroValue0
  t3 := Tryz.underlying3
  a3 := Tryz.isAgg3
  z3 := Tryz.sizeOf3
  v3 := Tryz.zeroValue3
  t9 := Tryz.underlying9
  a9 := Tryz.isAgg9
  z9 := Tryz.sizeOf9
  v9 := Tryz.zeroValue9
  t37 := Tryz.underlying133
  a37 := Tryz.isAgg133
  z37 := Tryz.sizeOf133
  v37 := Tryz.zeroValue133
  t70 := Tryz.underlying159
  a70 := Tryz.isAgg159
  z70 := Tryz.sizeOf159
  v70 := Tryz.zeroValue159
  t72 := Tryz.underlying161
  a72 := Tryz.isAgg161
  z72 := Tryz.sizeOf161
  v72 := Tryz.zeroValue161
  t127 := Tryz.underlying189
  a127 := Tryz.isAgg189
  z127 := Tryz.sizeOf189
  v127 := Tryz.zeroValue189 }
theorem extra169 : Builder.Extra Tryz.prog ren169 := {
  sizeBuilder := by kernel_rfl
  liesBuilder := by kernel_rfl
  t5 := Tryz.underlying5
  a5 := Tryz.isAgg5
  z5 := Tryz.sizeOf5
  v5 := Tryz.zeroValue5
  infoByte := by kernel_rfl
  cellsByte := by kernel_rfl
  sizeByte := by kernel_rfl
  neB5 := by decide }
theorem WriteString_k (B b : Nat) (bs : List Value) (s : ByteArray) (w : World) (h : Lib.IsBuilderF 161 5 B b bs w) (hlen : bs.length + s.size ≤ 140737488355328) (hBw : B ≤ w.heap.size) :
    Calls Tryz.prog 163 #[.pointer (some ⟨b, 0, none⟩), .string s] w fun e w' => e = .returned (.tuple #[.int .i64 s.size, .nilIface]) ∧ (Lib.BuilderAtF 161 5 B b (.pointer (some ⟨b, 0, none⟩)) (bs ++ Lib.strCells s) w' ∧ Below B w w' ∧ Lib.OthersKept 5 (some b) w w') := Any.Builder_WriteString_k lays166 extra166 B b bs s w h hlen hBw
theorem String_k (B b : Nat) (l : List UInt8) (w : World) (h : Lib.IsBuilderF 161 5 B b (Lib.byteCells l) w) (hBw : B ≤ w.heap.size) :
    Calls Tryz.prog 164 #[.pointer (some ⟨b, 0, none⟩)] w fun e w' => e = .returned (.string ⟨l.toArray⟩) ∧ (Lib.IsBuilderF 161 5 B b (Lib.byteCells l) w' ∧ Below B w w' ∧ Lib.OthersKept 5 (some b) w w') := Any.Builder_String_any_k lays169 extra169 B b l w h hBw
end Go.Proofs.YtjmpckommjlnlaaGreat.Shelf
namespace Go.Proofs.YtjmpckommjlnlaaGreat.Rdata
open Go.RowKit Go.Proofs.YtjmpckommjlnlaaGreatW.PrintWords Go.Proofs.YtjmpckommjlnlaaGreat.Given Go.Proofs.YtjmpckommjlnlaaGreat.PRd Go.Proofs.YtjmpckommjlnlaaGreat.Touching Go.Proofs.YtjmpckommjlnlaaGreat.RdataFacts Go.Proofs.YtjmpckommjlnlaaGreat.Oct
set_option linter.unusedVariables false
set_option linter.unusedSimpArgs false
def nums (d : List (Int × ByteArray)) : Int := d.foldl (fun n x => wrap64 (n + (x.2.size : Int))) 0
theorem nums_snoc (d : List (Int × ByteArray)) (x : Int × ByteArray) : nums (d ++ [x]) = wrap64 (nums d + (x.2.size : Int)) := by unfold nums; rw [List.foldl_append]; rfl
theorem nums_go : ∀ (d : List (Int × ByteArray)) (n : Nat), n + tot d ≤ 1000000000 → d.foldl (fun n x => wrap64 (n + (x.2.size : Int))) (n : Int) = ((n + tot d : Nat) : Int) := by
  intro d
  induction d with
  | nil => intro n _; simp [tot]
  | cons x d ih =>
    intro n h
    rw [tot_cons] at h ⊢
    rw [List.foldl_cons, show wrap64 ((n : Int) + (x.2.size : Int)) = ((n + x.2.size : Nat) : Int) by unfold wrap64; omega, ih _ (by omega)]
    omega
theorem nums_tot {d : List (Int × ByteArray)} (h : tot d ≤ 1000000000) : nums d = (tot d : Int) := by
  unfold nums; have := nums_go d 0 (by omega); rw [Nat.zero_add] at this; exact this
theorem count_any (kind n : Int) (s : ByteArray) (B : Nat) (W : World) (h : W.heap[B]? = some (.cells #[.int .i64 n] 3 (0, 0))) :
    Calls Tryz.prog 147 (#[.int .i64 kind, .string s] ++ #[.pointer (some ⟨B, 0, none⟩)]) W fun e w' => e = .returned (.tuple #[]) ∧ w' = W.setCell ⟨B, 0, none⟩ (.int .i64 (wrap64 (n + (s.size : Int)))) := by
  have hc := blk_cell h 0
  have hf := blk_frozen h 0
  have hc' : W.cell? ⟨B, 0, none⟩ = some (.int .i64 n) := hc
  clear hc h
  go_enter Tryz.func147, Tryz.ntmps147
  go_wp2
  go_end0
  exact ⟨rfl, rfl⟩
def CountSt (B : Nat) (d : List (Int × ByteArray)) (F : Nat → Prop) (W : World) : Prop := (∀ k, F k ↔ k = B) ∧ W.heap[B]? = some (.cells #[.int .i64 (nums d)] 3 (0, 0))
theorem counts (B : Nat) : Taker 147 #[.pointer (some ⟨B, 0, none⟩)] (CountSt B) where
  rest := fun d F W W' h hb => ⟨F, ⟨h.1, (hb.block B (blk_lt h.2)).trans h.2⟩, fun k hk => .inl hk⟩
  lt := fun d F W k h hk => by rw [(h.1 k).mp hk]; exact blk_lt h.2
  take := fun d F W kind s _ _ h => (count_any kind (nums d) s B W h.2).mono fun e w' ⟨he, hw⟩ => ⟨he, F, ⟨h.1, by rw [hw, nums_snoc]; exact blk_put h.2 0 _ rfl⟩, by rw [hw]; exact Tch.setCell (S := F) (p := ⟨B, 0, none⟩) ((h.1 B).mpr rfl) _, fun k hk => .inl hk⟩
  enters := enters_of Tryz.func147 (by kernel_rfl) rfl
theorem walk_tot (t : Int) (B : ByteArray) (hB : B.size ≤ 1000000) : tot (walkP B (partsL t) 0).1 ≤ 1000000000 := by
  have h := walk_size B hB (partsL t) 0
  have h7 := parts_len t
  have : ∀ l : List (Int × ByteArray), (∀ x ∈ l, x.2.size ≤ 1000000) → tot l ≤ 1000000 * l.length := by
    intro l
    induction l with
    | nil => intro _; simp [tot]
    | cons x l ih =>
      intro hl
      rw [tot_cons, List.length_cons]
      have := ih fun y hy => hl y (List.mem_cons_of_mem _ hy)
      have := hl x (List.mem_cons_self ..)
      omega
  have := this _ h.1
  omega
set_option maxHeartbeats 1000000 in
set_option maxRecDepth 100000 in
theorem right_any (t : Int) (B : ByteArray) (w : World) (hs : B.size ≤ 9223372036854775807) :
    Calls Tryz.prog 104 #[.int .i64 t, .string B] w fun e w' => e = .returned (.bool (rightD t B)) ∧ Below w.heap.size w w' := by
  by_cases hB : B.size ≤ 65535
  · have t0 : decide (65535 < (B.size : Int)) = false := decide_eq_false (by omega)
    have t0' : decide (65535 < B.size) = false := decide_eq_false (by omega)
    have htot := walk_tot t B (by omega)
    have hsz := walk_size B (by omega) (partsL t) 0
    have hnum := nums_tot htot
    have hw := walk_f B (by omega) (FU + 1) (Nat.le_succ _) (partsL t) 0 (parts_kind t) (Nat.zero_le _)
    have hrd : rightD t B = ((walkP B (partsL t) 0).2 && decide (tot (walkP B (partsL t) 0).1 = B.size)) := by unfold rightD; rw [decide_eq_true hB, Bool.true_and]
    have HR := Lib.hid (parts_f t (FU + 1) (Nat.succ_le_succ (Nat.zero_le _)))
    obtain ⟨⟨ps, b⟩, hp⟩ : ∃ x, walkP B (partsL t) 0 = x := ⟨_, rfl⟩
    rw [hp] at hw hnum htot hrd hsz
    simp only at hrd
    rw [hrd]
    have HW := Lib.hid hw
    have HN := Lib.hid hnum
    have HL := Lib.hid (parts_len t)
    have HSZ := Lib.hid hsz.1
    have HL7 := Lib.hid (Nat.le_trans hsz.2 (parts_len t))
    clear hw hnum hrd hp hsz
    simp only at htot
    go_enter Tryz.func104, Tryz.ntmps104
    go_wp2_with fail
    refine (walk_any (counts w.heap.size) (FU + 1) B 0 (B.size : Int) t (partsL t) HR.out [] ps b HW.out (fun k => k = w.heap.size) _ ⟨fun k => Iff.rfl, ?_⟩ (by have := HL.out; omega) HSZ.out (by have := HL7.out; simp; omega)).mono ?_
    · first | exact blk_put (heap_alloc_new w _) 0 _ rfl | exact heap_alloc_new w _
    rintro e w1 ⟨rfl, F', hst, ht, _⟩
    have hbel : Below w.heap.size w w1 := by
      have hb0 : Below w.heap.size w (w.alloc (.cells #[.int .i64 0] 3)) := (Below.refl _ w).alloc (Nat.le_refl _) _
      exact hb0.trans (ht.below hb0.size fun k hk => by rw [hk]; exact Nat.le_refl _)
    have hc := blk_cell hst.2 0
    rw [List.nil_append, HN.out] at hc
    have hc' : w1.cell? ⟨w.heap.size, 0, none⟩ = some (.int .i64 (tot ps : Int)) := hc
    have HBEL := Lib.hid hbel
    clear hc hst ht hbel
    cases b with
    | false =>
      go_wp2_with fail
      go_ret
      exact ⟨by simp, HBEL.out⟩
    | true =>
      cases he : decide (tot ps = B.size) with
      | true =>
        have h1 := of_decide_eq_true he
        have t1 : ((tot ps : Int) == (B.size : Int)) = true := beq_iff_eq.mpr (by omega)
        have t1' : (tot ps == B.size) = true := beq_iff_eq.mpr h1
        clear h1 he
        go_wp2_with fail
        go_ret
        refine ⟨?_, HBEL.out⟩
        have h2 := t1'
        simp at h2
        simp [h2]
      | false =>
        have h1 := of_decide_eq_false he
        have t1 : ((tot ps : Int) == (B.size : Int)) = false := beq_eq_false_iff_ne.mpr (by omega)
        have t1' : (tot ps == B.size) = false := beq_eq_false_iff_ne.mpr h1
        clear h1 he
        go_wp2_with fail
        go_ret
        refine ⟨?_, HBEL.out⟩
        have h2 := t1'
        simp at h2
        simp [h2]
  · have hr : rightD t B = false := by unfold rightD; rw [decide_eq_false hB]; rfl
    have t0 : decide (65535 < (B.size : Int)) = true := decide_eq_true (by omega)
    have t0' : decide (65535 < B.size) = true := decide_eq_true (by omega)
    rw [hr]
    clear hr
    go_enter Tryz.func104, Tryz.ntmps104
    go_wp2_with fail
    go_ret
    exact ⟨rfl, Below.refl _ _⟩
def catF (d : List (Int × ByteArray)) : List UInt8 := (d.map fun x => (foldPart x).data.toList).flatten
theorem catF_snoc (d : List (Int × ByteArray)) (x : Int × ByteArray) : catF (d ++ [x]) = catF d ++ (foldPart x).data.toList := by unfold catF; simp
theorem cat_catF (d : List (Int × ByteArray)) : (⟨(catF d).toArray⟩ : ByteArray) = cat (d.map foldPart) := by
  apply list_inj
  rw [cat_list, List.map_map]
  show (catF d).toArray.toList = _
  unfold catF
  simp [Function.comp_def]
abbrev BT := 161
abbrev BE := 5
theorem at_below {T e : TypeId} {lo b : Nat} {p : Value} {bs : List Value} {w w' : World} (h : Lib.BuilderAtF T e lo b p bs w) (hb : Below w.heap.size w w') : Lib.BuilderAtF T e lo b p bs w' := by
  obtain ⟨h1, v, h2, h3, h4⟩ := h
  refine ⟨h1, v, (hb.block b (blk_lt h2)).trans h2, ?_, h4⟩
  refine ⟨h3.1, ?_⟩
  rcases h3.2 with h | ⟨g, cap, cur, fz, hv, hl, hh, r⟩
  · exact .inl h
  · exact .inr ⟨g, cap, cur, fz, hv, hl, (hb.block g (blk_lt hh)).trans hh, r⟩
theorem is_below {T e : TypeId} {lo b : Nat} {bs : List Value} {w w' : World} (h : Lib.IsBuilderF T e lo b bs w) (hb : Below w.heap.size w w') : Lib.IsBuilderF T e lo b bs w' := h.imp (fun h => at_below h hb) (fun h => at_below h hb)
theorem is_box {T e : TypeId} {lo b : Nat} {bs : List Value} {w : World} (h : Lib.IsBuilderF T e lo b bs w) : lo ≤ b ∧ b < w.heap.size := by
  rcases h with ⟨h1, v, h2, _⟩ | ⟨h1, v, h2, _⟩ <;> exact ⟨h1, blk_lt h2⟩
def foot (lo b : Nat) (W : World) (k : Nat) : Prop := lo ≤ k ∧ k < W.heap.size ∧ (k = b ∨ ∃ c fz, W.heap[k]? = some (.cells c BE fz))
def FoldSt (lo b : Nat) (d : List (Int × ByteArray)) (F : Nat → Prop) (W : World) : Prop := (∀ k, F k ↔ foot lo b W k) ∧ Lib.IsBuilderF BT BE lo b (Lib.byteCells (catF d)) W ∧ lo ≤ W.heap.size ∧ (catF d).length ≤ d.length * 1000000
theorem fold_step (lo b : Nat) (d : List (Int × ByteArray)) (x : Int × ByteArray) (F : Nat → Prop) (W W' : World) (h : FoldSt lo b d F W) (hx : (foldPart x).size ≤ 1000000)
    (h1 : Lib.BuilderAtF BT BE lo b (.pointer (some ⟨b, 0, none⟩)) (Lib.byteCells (catF d) ++ Lib.strCells (foldPart x)) W') (h2 : Below lo W W') (h3 : Lib.OthersKept BE (some b) W W') :
    ∃ F', FoldSt lo b (d ++ [x]) F' W' ∧ Tch F W W' ∧ ∀ k, F' k → F k ∨ W.heap.size ≤ k := by
  have hcells : Lib.byteCells (catF d) ++ Lib.strCells (foldPart x) = Lib.byteCells (catF (d ++ [x])) := by rw [catF_snoc]; simp [Lib.byteCells, Lib.strCells]
  rw [hcells] at h1
  have keep : ∀ k, k < W.heap.size → ¬ F k → W'.heap[k]? = W.heap[k]? := fun k hk hn => by
    by_cases hl : k < lo
    · exact h2.block k hl
    · obtain ⟨o, ho⟩ : ∃ o, W.heap[k]? = some o := ⟨W.heap[k], Array.getElem?_eq_getElem hk⟩
      rw [ho]
      refine h3 k o ho (fun e => hn ((h.1 k).mpr ⟨by omega, hk, .inl (Option.some.inj e)⟩)) fun c fz e => hn ((h.1 k).mpr ⟨by omega, hk, .inr ⟨c, fz, by rw [ho, e]⟩⟩)
  refine ⟨foot lo b W', ⟨fun k => Iff.rfl, .inr h1, Nat.le_trans h.2.2.1 h2.size, ?_⟩, ⟨h2.os, h2.tape, h2.output, h2.size, keep⟩, fun k hk => ?_⟩
  · rw [catF_snoc, List.length_append, List.length_append, size_list]
    have := h.2.2.2
    simp only [List.length_cons, List.length_nil]
    omega
  · by_cases hlt : k < W.heap.size
    · left
      by_cases hF : F k
      · exact hF
      · have hke := keep k hlt hF
        refine (h.1 k).mpr ⟨hk.1, hlt, ?_⟩
        rcases hk.2.2 with e | ⟨c, fz, e⟩
        · exact .inl e
        · exact .inr ⟨c, fz, by rw [← hke]; exact e⟩
    · exact .inr (by omega)
theorem fold_rest (lo b : Nat) (d : List (Int × ByteArray)) (F : Nat → Prop) (W W' : World) (h : FoldSt lo b d F W) (hb : Below W.heap.size W W') : ∃ F', FoldSt lo b d F' W' ∧ ∀ k, F' k → F k ∨ W.heap.size ≤ k ∧ ∃ c fz, W'.heap[k]? = some (.cells c BE fz) := by
  refine ⟨foot lo b W', ⟨fun k => Iff.rfl, is_below h.2.1 hb, Nat.le_trans h.2.2.1 hb.size, h.2.2.2⟩, fun k hk => ?_⟩
  by_cases hlt : k < W.heap.size
  · left
    refine (h.1 k).mpr ⟨hk.1, hlt, ?_⟩
    rcases hk.2.2 with e | ⟨c, fz, e⟩
    · exact .inl e
    · exact .inr ⟨c, fz, by rw [← hb.block k hlt]; exact e⟩
  · right
    refine ⟨by omega, ?_⟩
    rcases hk.2.2 with e | e
    · have := (is_box h.2.1).2; omega
    · exact e
set_option maxRecDepth 100000 in
theorem fold_take (lo b : Nat) (d : List (Int × ByteArray)) (F : Nat → Prop) (W : World) (kind : Int) (s : ByteArray) (hs : s.size ≤ 1000000) (hd : d.length < 100) (h : FoldSt lo b d F W) :
    Calls Tryz.prog 218 (#[.int .i64 kind, .string s] ++ #[.pointer (some ⟨b, 0, none⟩)]) W fun e w' => e = .returned (.tuple #[]) ∧ ∃ F', FoldSt lo b (d ++ [(kind, s)]) F' w' ∧ Tch F W w' ∧ ∀ k, F' k → F k ∨ W.heap.size ≤ k := by
  have hx := foldPart_size (x := (kind, s)) hs
  have HX := Lib.hid hx
  have H := Lib.hid h
  have hw : ∀ (x : ByteArray) (F1 : Nat → Prop) (W1 : World), foldPart (kind, s) = x → FoldSt lo b d F1 W1 → Calls Tryz.prog 163 #[.pointer (some ⟨b, 0, none⟩), .string x] W1 fun e w' => e = .returned (.tuple #[.int .i64 x.size, .nilIface]) ∧ ∃ F', FoldSt lo b (d ++ [(kind, s)]) F' w' ∧ Tch F1 W1 w' ∧ ∀ k, F' k → F1 k ∨ W1.heap.size ≤ k := by
    intro x F1 W1 hxe h1
    have h4 := h1.2.2.2
    refine (Shelf.WriteString_k lo b _ x W1 h1.2.1 (by simp [Lib.byteCells]; rw [← hxe]; omega) h1.2.2.1).mono ?_
    rintro e w' ⟨he, hb, hbel, hoth⟩
    exact ⟨he, fold_step lo b d (kind, s) F1 W1 w' h1 hx (by rw [hxe]; exact hb) hbel hoth⟩
  have HW := Lib.hid hw
  clear hw hx h
  by_cases hk : kind = -1 ∨ kind = -2
  · have hfp : foldPart (kind, s) = foldN s := by unfold foldPart; rw [if_pos hk]
    have HFP := Lib.hid hfp
    clear hfp
    have hfold := fun W' => name_Fold.calls s (foldN s) W' (fold_f s)
    go_enter Tryz.func218, Tryz.ntmps218
    rcases hk with rfl | rfl
    all_goals
      go_wp2_with fail
      refine (hfold _).mono ?_
      rintro e w1 ⟨rfl, hb1⟩
      obtain ⟨F1, h1, hf1⟩ := fold_rest lo b d F W w1 H.out hb1
      have HC := Lib.hid (HW.out (foldN s) F1 w1 HFP.out h1)
      have HB1 := Lib.hid hb1
      have HF1 := Lib.hid hf1
      clear h1 hb1 hf1
      go_wp2_with fail
      refine (HC.out).mono ?_
      rintro e w2 ⟨rfl, F2, h2, ht2, hf2⟩
      have hsz := HB1.out.size
      have hpost : FoldSt lo b (d ++ [_]) F2 w2 ∧ Tch F W w2 ∧ ∀ k, F2 k → F k ∨ W.heap.size ≤ k := ⟨h2, (Tch.of_below (S := F) HB1.out).fresh ht2 fun k hk => (HF1.out k hk).imp id fun h => h.1, fun k hk => by
        rcases hf2 k hk with e | e
        · rcases HF1.out k e with e | e
          · exact .inl e
          · exact .inr e.1
        · exact .inr (by omega)⟩
      have HP := Lib.hid hpost
      clear h2 ht2 hf2 hpost
      go_wp2_with fail
      go_end0
      exact ⟨rfl, F2, HP.out⟩
  · have hfp : foldPart (kind, s) = s := by unfold foldPart; rw [if_neg hk]
    have HFP := Lib.hid hfp
    clear hfp
    have t1 : (kind == -1) = false := beq_eq_false_iff_ne.mpr fun e => hk (.inl e)
    have t2 : (kind == -2) = false := beq_eq_false_iff_ne.mpr fun e => hk (.inr e)
    clear hk
    go_enter Tryz.func218, Tryz.ntmps218
    go_wp2_with fail
    refine (HW.out s F W HFP.out H.out).mono ?_
    rintro e w2 ⟨rfl, F2, h2, ht2, hf2⟩
    have HP := Lib.hid (And.intro h2 (And.intro ht2 hf2))
    clear h2 ht2 hf2
    go_wp2_with fail
    go_end0
    exact ⟨rfl, F2, HP.out⟩
theorem folds (lo b : Nat) : Taker 218 #[.pointer (some ⟨b, 0, none⟩)] (FoldSt lo b) where
  rest := fold_rest lo b
  lt := fun d F W k h hk => ((h.1 k).mp hk).2.1
  take := fold_take lo b
  enters := enters_of Tryz.func218 (by kernel_rfl) rfl
theorem fresh_builder (w : World) : FoldSt w.heap.size w.heap.size [] (foot w.heap.size w.heap.size (w.alloc (.cells #[.pointer none, .slice none 0 0] BT))) (w.alloc (.cells #[.pointer none, .slice none 0 0] BT)) :=
  ⟨fun k => Iff.rfl, Lib.IsBuilderF.of (.inl ⟨Nat.le_refl _, .slice none 0 0, heap_alloc_new w _, ⟨rfl, .inl ⟨rfl, rfl⟩⟩, by simp [Value.ownBlock]⟩), by simp, Nat.zero_le _⟩
set_option maxHeartbeats 1000000 in
set_option maxRecDepth 100000 in
theorem fold_any (t : Int) (B : ByteArray) (w : World) (hs : B.size ≤ 9223372036854775807) :
    Calls Tryz.prog 193 #[.int .i64 t, .string B] w fun e w' => e = .returned (.string (foldD t B)) ∧ Below w.heap.size w w' := by
  have hright := fun W => right_any t B W hs
  cases hr : rightD t B with
  | false =>
    have hf : foldD t B = ⟨#[]⟩ := by unfold foldD; rw [hr]; rfl
    rw [hf]
    rw [hr] at hright
    clear hf hr
    go_enter Tryz.func193, Tryz.ntmps193
    go_wp2_with fail
    refine (hright _).mono ?_
    rintro e w1 ⟨rfl, hb1⟩
    go_wp2_with fail
    go_ret
    exact ⟨rfl, hb1⟩
  | true =>
    have hB : B.size ≤ 65535 := by unfold rightD at hr; simp only [Bool.and_eq_true, decide_eq_true_eq] at hr; exact hr.1.1
    have hf : foldD t B = ⟨(catF (walkP B (partsL t) 0).1).toArray⟩ := by unfold foldD; rw [if_pos hr, cat_catF]
    have hsz := walk_size B (by omega) (partsL t) 0
    have hw := walk_f B (by omega) (FU + 1) (Nat.le_succ _) (partsL t) 0 (parts_kind t) (Nat.zero_le _)
    obtain ⟨⟨ps, b⟩, hp⟩ : ∃ x, walkP B (partsL t) 0 = x := ⟨_, rfl⟩
    rw [hp] at hw hf hsz
    rw [hf]
    rw [hr] at hright
    have HR := Lib.hid (parts_f t (FU + 1) (Nat.succ_le_succ (Nat.zero_le _)))
    have HW := Lib.hid hw
    have HL := Lib.hid (parts_len t)
    have HSZ := Lib.hid hsz.1
    have HL7 := Lib.hid (Nat.le_trans hsz.2 (parts_len t))
    clear hw hf hsz hp hr
    go_enter Tryz.func193, Tryz.ntmps193
    go_wp2_with fail
    refine (hright _).mono ?_
    rintro e w1 ⟨rfl, hb1⟩
    have HB1 := Lib.hid hb1
    clear hb1 hright
    go_wp2_with fail
    have hst := fresh_builder w1
    refine (walk_any (folds w1.heap.size w1.heap.size) (FU + 1) B 0 (B.size : Int) t (partsL t) HR.out [] ps b HW.out _ _ hst (by have := HL.out; omega) HSZ.out (by have := HL7.out; simp at this ⊢; omega)).mono ?_
    rintro e w2 ⟨rfl, F', hst2, ht, _⟩
    have hb2 : Below w.heap.size w w2 := by
      have h0 : Below w1.heap.size w1 (w1.alloc (.cells #[.pointer none, .slice none 0 0] BT)) := (Below.refl _ w1).alloc (Nat.le_refl _) _
      exact below_then HB1.out HB1.out.size (h0.trans (ht.below h0.size fun k hk => hk.1))
    rw [List.nil_append] at hst2
    have H2 := Lib.hid hst2
    have HB2 := Lib.hid hb2
    clear hst hst2 ht hb2
    go_wp2_with fail
    refine (Shelf.String_k w1.heap.size w1.heap.size (catF ps) w2 H2.out.2.1 H2.out.2.2.1).mono ?_
    rintro e w3 ⟨rfl, _, hb3, _⟩
    have HB3 := Lib.hid (show Below w.heap.size w w3 from HB2.out.trans (hb3.mono HB1.out.size))
    clear hb3
    go_wp2_with fail
    go_ret
    exact ⟨rfl, HB3.out⟩
end Go.Proofs.YtjmpckommjlnlaaGreat.Rdata
namespace Go.Proofs.YtjmpckommjlnlaaGreat.Given
open Go.RowKit Go.Proofs.YtjmpckommjlnlaaGreat.RdataFacts Go.Proofs.YtjmpckommjlnlaaGreat.Rdata
def rdata_Right.f (a0 : Int) (a1 : ByteArray) : Option Bool := if a1.size ≤ 9223372036854775807 then some (rightD a0 a1) else none
theorem rdata_Right.calls (a0 : Int) (a1 : ByteArray) (r : Bool) (w : World) (h : rdata_Right.f a0 a1 = some r) :
    Calls Tryz.prog 104 #[.int .i64 a0, .string a1] w fun e w' => e = .returned (.bool r) ∧ Below w.heap.size w w' := by
  unfold rdata_Right.f at h
  split at h
  · injection h with h; subst h; exact right_any a0 a1 w (by assumption)
  · cases h
def rdata_Fold.f (a0 : Int) (a1 : ByteArray) : Option ByteArray := if a1.size ≤ 9223372036854775807 then some (foldD a0 a1) else none
theorem rdata_Fold.calls (a0 : Int) (a1 : ByteArray) (r : ByteArray) (w : World) (h : rdata_Fold.f a0 a1 = some r) :
    Calls Tryz.prog 193 #[.int .i64 a0, .string a1] w fun e w' => e = .returned (.string r) ∧ Below w.heap.size w w' := by
  unfold rdata_Fold.f at h
  split at h
  · injection h with h; subst h; exact fold_any a0 a1 w (by assumption)
  · cases h
end Go.Proofs.YtjmpckommjlnlaaGreat.Given
namespace Go.Proofs.YtjmpckommjlnlaaGreat.PRr
open Go.RowKit Go.Proofs.YtjmpckommjlnlaaGreatW.PrintWords Go.Proofs.YtjmpckommjlnlaaGreatW.PrintLast Go.Proofs.YtjmpckommjlnlaaGreatW.PrintMore Go.Proofs.YtjmpckommjlnlaaGreat.Given Go.Proofs.YtjmpckommjlnlaaGreat.PRd
attribute [local go_sem] max2_int min2_int max_two min_two max_three min_three max_four min_four   -- for this text's walks alone
set_option linter.unusedVariables false
set_option linter.unusedSimpArgs false
def errW : Option Int → Value
 | none => .nilIface
 | some c => .iface 0 (.int .i64 c)
theorem errW_none : errW none = .nilIface := rfl
theorem errW_some (c : Int) : errW (some c) = .iface 0 (.int .i64 c) := rfl
theorem info35 : (Tryz.prog.info? 35).map (fun i => (i.zero, i.size, i.bytes)) = some (some (.agg #[(.string ⟨#[]⟩), (.int .i64 0), (.int .i64 0), (.int .i64 0), (.string ⟨#[]⟩)]), 5, 56) := by kernel_rfl
structure S35 where
 f0 : ByteArray
 f1 : Int
 f2 : Int
 f3 : Int
 f4 : ByteArray
def z35 : S35 := ⟨(⟨#[]⟩ : ByteArray), (0 : Int), (0 : Int), (0 : Int), (⟨#[]⟩ : ByteArray)⟩
def k35 : Kd S35 := Kd.iso (Kd.pair Kd.string (Kd.pair (Kd.int .i64) (Kd.pair (Kd.int .i64) (Kd.pair (Kd.int .i64) Kd.string)))) (fun x : S35 => (x.f0, x.f1, x.f2, x.f3, x.f4))
theorem k35_open {w : World} {x : S35} {cs : List Value} (h : k35.K w x cs) : cs = [.string x.f0, .int .i64 x.f1, .int .i64 x.f2, .int .i64 x.f3, .string x.f4] := by
 obtain ⟨_, _, rfl, rfl, ⟨_, _, rfl, rfl, ⟨_, _, rfl, rfl, ⟨_, _, rfl, rfl, rfl⟩⟩⟩⟩ := h
 exact rfl
theorem k35_openM {w : World} {base : Nat} {ok : Nat → Prop} {x : S35} {cs : List Value} (h : k35.M w base ok x cs) : cs = [.string x.f0, .int .i64 x.f1, .int .i64 x.f2, .int .i64 x.f3, .string x.f4] := by
 obtain ⟨_, _, rfl, rfl, ⟨_, _, rfl, rfl, ⟨_, _, rfl, rfl, ⟨_, _, rfl, rfl, rfl⟩⟩⟩⟩ := h
 exact rfl
theorem k35_mk (w : World) (x : S35)  : k35.K w x [.string x.f0, .int .i64 x.f1, .int .i64 x.f2, .int .i64 x.f3, .string x.f4] := ⟨[.string x.f0], [.int .i64 x.f1, .int .i64 x.f2, .int .i64 x.f3, .string x.f4], rfl, rfl, ⟨[.int .i64 x.f1], [.int .i64 x.f2, .int .i64 x.f3, .string x.f4], rfl, rfl, ⟨[.int .i64 x.f2], [.int .i64 x.f3, .string x.f4], rfl, rfl, ⟨[.int .i64 x.f3], [.string x.f4], rfl, rfl, rfl⟩⟩⟩⟩
theorem k35_mkM (w : World) (base : Nat) (ok : Nat → Prop) (x : S35)  : k35.M w base ok x [.string x.f0, .int .i64 x.f1, .int .i64 x.f2, .int .i64 x.f3, .string x.f4] := ⟨[.string x.f0], [.int .i64 x.f1, .int .i64 x.f2, .int .i64 x.f3, .string x.f4], rfl, rfl, ⟨[.int .i64 x.f1], [.int .i64 x.f2, .int .i64 x.f3, .string x.f4], rfl, rfl, ⟨[.int .i64 x.f2], [.int .i64 x.f3, .string x.f4], rfl, rfl, ⟨[.int .i64 x.f3], [.string x.f4], rfl, rfl, rfl⟩⟩⟩⟩
def rd_T35 (xs : List S35) (i : Int) : S35 := xs.getD i.toNat z35
theorem at_T35 {w : World} {A : Option Addr} {n : Nat} {xs : List S35} (h : Kd.C k35 w A n xs) (i : Int) (h0 : 0 ≤ i) (h1 : i < n) : ∃ ad , A = some ad ∧ w.cell? (ad.add (i.toNat * 5)) = some (.string (rd_T35 xs i).f0) ∧ w.cell? ⟨(ad.add (i.toNat * 5)).block, (ad.add (i.toNat * 5)).off + 1, none⟩ = some (.int .i64 (rd_T35 xs i).f1) ∧ w.cell? ⟨(ad.add (i.toNat * 5)).block, (ad.add (i.toNat * 5)).off + 2, none⟩ = some (.int .i64 (rd_T35 xs i).f2) ∧ w.cell? ⟨(ad.add (i.toNat * 5)).block, (ad.add (i.toNat * 5)).off + 3, none⟩ = some (.int .i64 (rd_T35 xs i).f3) ∧ w.cell? ⟨(ad.add (i.toNat * 5)).block, (ad.add (i.toNat * 5)).off + 4, none⟩ = some (.string (rd_T35 xs i).f4) := by
 obtain ⟨ad, c, e, _, hK, hc0⟩ := Kd.C_get h z35 i h0 h1
 have hc : ∀ j u, c[j]? = some u → w.cell? (ad.add (i.toNat * 5 + j)) = some u := hc0
 obtain rfl := k35_open hK
 exact ⟨ad, e, hc 0 _ rfl, by rw [← add_field _ _ 1 (by omega)]; exact hc 1 _ rfl, by rw [← add_field _ _ 2 (by omega)]; exact hc 2 _ rfl, by rw [← add_field _ _ 3 (by omega)]; exact hc 3 _ rfl, by rw [← add_field _ _ 4 (by omega)]; exact hc 4 _ rfl⟩
end Go.Proofs.YtjmpckommjlnlaaGreat.PRr
namespace Go.Proofs.YtjmpckommjlnlaaGreat.PRr
open Go.RowKit Go.Proofs.YtjmpckommjlnlaaGreatW.PrintWords Go.Proofs.YtjmpckommjlnlaaGreatW.PrintLast Go.Proofs.YtjmpckommjlnlaaGreatW.PrintMore Go.Proofs.YtjmpckommjlnlaaGreat.Given Go.Proofs.YtjmpckommjlnlaaGreat.PRd
attribute [local go_sem] max2_int min2_int max_two min_two max_three min_three max_four min_four   -- for this text's walks alone
set_option linter.unusedVariables false
set_option linter.unusedSimpArgs false
def record_typed.f (a0_0 : ByteArray) (a0_1 : Int) (a0_2 : Int) (a0_3 : Int) (a0_4 : ByteArray) : Option (Bool) := if a0_2 = 1 then (some true) else (if a0_2 = 254 then (some (!a0_4.toList.isEmpty)) else (some false))
set_option maxHeartbeats 8000000 in
set_option maxRecDepth 100000 in
theorem record_typed.calls (a0_0 : ByteArray) (a0_1 : Int) (a0_2 : Int) (a0_3 : Int) (a0_4 : ByteArray) (r : Bool) (w : World) (h : record_typed.f a0_0 a0_1 a0_2 a0_3 a0_4 = some r) :
    Calls Tryz.prog 103 #[.agg #[.string a0_0, .int .i64 a0_1, .int .i64 a0_2, .int .i64 a0_3, .string a0_4]] w fun e w' => e = .returned (.bool r) ∧ Below w.heap.size w w' := by
  have hu35 := Tryz.underlying35
  have HB := Aside0.mk (Below.refl w.heap.size w)
  have H : (if a0_2 = 1 then (some true) else (if a0_2 = 254 then (some (!a0_4.toList.isEmpty)) else (some false))) = some r := h
  clear h
  by_cases c2 : a0_2 = 1
  focus
   rw [if_pos c2] at H
   have c2b0 : (a0_2 == 1) = true := beq_iff_eq.mpr c2
   have c2b1 : (a0_2 != 1) = false := bne_eq_false_iff_eq.mpr c2
   clear c2
  rotate_left
  focus
   rw [if_neg c2] at H
   have c2b0 : (a0_2 == 1) = false := beq_eq_false_iff_ne.mpr c2
   have c2b1 : (a0_2 != 1) = true := bne_iff_ne.mpr c2
   by_cases c5 : a0_2 = 254
   focus
    rw [if_pos c5] at H
    have c5b0 : (a0_2 == 254) = true := beq_iff_eq.mpr c5
    have c5b1 : (a0_2 != 254) = false := bne_eq_false_iff_eq.mpr c5
    clear c5
   rotate_left
   focus
    rw [if_neg c5] at H
    have c5b0 : (a0_2 == 254) = false := beq_eq_false_iff_ne.mpr c5
    have c5b1 : (a0_2 != 254) = true := bne_iff_ne.mpr c5
   rotate_left
  rotate_left 2
  all_goals
   obtain rfl := Option.some.inj H
   go_enter Tryz.func103, Tryz.ntmps103
   go_wp2_with ((((with_reducible refine gate_dst (N := 1) rfl ?_); refine box_event ?hg (N := 1) ?hd (cs := #[.string a0_0, .int .i64 a0_1, .int .i64 a0_2, .int .i64 a0_3, .string a0_4]) (t := 35) ?hr ?_; (case hd => rfl); (case hg => rfl); (case hr => (go_simp; done)); intro gb101 hg w3 hbox hb; have BK101 := Aside0.mk (hbox); have GW101 := Aside0.mk (ge_ hg (below_size HB.out)); have GE101 := Aside0.mk (ge_ hg (below_size HB.out)); replace HB := Aside0.mk (below_step HB.out hb); clear hb hbox hg; obtain ⟨hcz4_0, hcz4_1, hcz4_2, hcz4_3, hcz4_4, hfz4_0, hfz4_1, hfz4_2, hfz4_3, hfz4_4⟩ := z5_ BK101.out)))
   go_ret
   exact ⟨by rfl, HB.out⟩
def record_Right.j0 : Nat → Bool → ByteArray → Int → Int → Int → ByteArray → Option (Bool)
 | 0, _, _, _, _, _, _ => none
 | k + 1, x42, x103000, x103001, x103002, x103003, x103004 => if x42 = true then (some false) else ((record_typed.f x103000 x103001 x103002 x103003 x103004).bind fun t104 => (if t104 = true then ((rdata_Right.f x103001 x103004).bind fun t105 => (some t105)) else (some true)))
def record_Right.f (k : Nat) (a0_0 : ByteArray) (a0_1 : Int) (a0_2 : Int) (a0_3 : Int) (a0_4 : ByteArray) : Option (Bool) := (name_Right.f a0_0).bind fun t103 => (if t103 = true then (if a0_1 < 0 then (record_Right.j0 k true a0_0 a0_1 a0_2 a0_3 a0_4) else (if a0_1 > 65535 then (record_Right.j0 k true a0_0 a0_1 a0_2 a0_3 a0_4) else (if a0_2 < 0 then (record_Right.j0 k true a0_0 a0_1 a0_2 a0_3 a0_4) else (if a0_2 > 65535 then (record_Right.j0 k true a0_0 a0_1 a0_2 a0_3 a0_4) else (if a0_3 < 0 then (record_Right.j0 k true a0_0 a0_1 a0_2 a0_3 a0_4) else (if a0_3 > 2147483647 then (record_Right.j0 k true a0_0 a0_1 a0_2 a0_3 a0_4) else (record_Right.j0 k (decide ((a0_4.size : Int) > 65535)) a0_0 a0_1 a0_2 a0_3 a0_4))))))) else (record_Right.j0 k true a0_0 a0_1 a0_2 a0_3 a0_4))
theorem record_Right.mono_l : ∀ k, (∀ y0 y1 y2 y3 y4 y5, LeO (record_Right.j0 k y0 y1 y2 y3 y4 y5) (record_Right.j0 (k + 1) y0 y1 y2 y3 y4 y5))
 | 0 => fun _ _ _ _ _ _ r h => by simp [record_Right.j0] at h
 | k + 1 => by
  have ih0 := record_Right.mono_l k
  ·intro y0 y1 y2 y3 y4 y5
   unfold record_Right.j0
   repeat' first
   | (with_reducible exact ih0 _ _ _ _ _ _)
   | (with_reducible exact LeO.refl _)
   | (with_reducible exact LeO.none _)
   | (with_reducible refine LeO.ite ?_ ?_)
   | (with_reducible refine LeO.bind ?_ (fun _ => ?_))
   | exact ih0 _ _ _ _ _ _
   | exact LeO.none _
   | refine LeO.ite ?_ ?_
   | refine LeO.bind ?_ (fun _ => ?_)
theorem record_Right.mono : ∀ a0 a1 a2 a3 a4 k, LeO (record_Right.f k a0 a1 a2 a3 a4) (record_Right.f (k + 1) a0 a1 a2 a3 a4) := by
 intro a0 a1 a2 a3 a4 k
 have ih0 := record_Right.mono_l k
 unfold record_Right.f
 repeat' first
   | (with_reducible exact ih0 _ _ _ _ _ _)
   | (with_reducible exact LeO.refl _)
   | (with_reducible exact LeO.none _)
   | (with_reducible refine LeO.ite ?_ ?_)
   | (with_reducible refine LeO.bind ?_ (fun _ => ?_))
   | exact ih0 _ _ _ _ _ _
   | exact LeO.none _
   | refine LeO.ite ?_ ?_
   | refine LeO.bind ?_ (fun _ => ?_)
set_option maxHeartbeats 8000000 in
set_option maxRecDepth 100000 in
theorem record_Right.calls (k : Nat) (a0_0 : ByteArray) (a0_1 : Int) (a0_2 : Int) (a0_3 : Int) (a0_4 : ByteArray) (r : Bool) (w : World) (h : record_Right.f k a0_0 a0_1 a0_2 a0_3 a0_4 = some r) :
    Calls Tryz.prog 59 #[.agg #[.string a0_0, .int .i64 a0_1, .int .i64 a0_2, .int .i64 a0_3, .string a0_4]] w fun e w' => e = .returned (.bool r) ∧ Below w.heap.size w w' := by
  have hu35 := Tryz.underlying35
  have HB := Aside0.mk (Below.refl w.heap.size w)
  have H : ((name_Right.f a0_0).bind fun t103 => (if t103 = true then (if a0_1 < 0 then (record_Right.j0 k true a0_0 a0_1 a0_2 a0_3 a0_4) else (if a0_1 > 65535 then (record_Right.j0 k true a0_0 a0_1 a0_2 a0_3 a0_4) else (if a0_2 < 0 then (record_Right.j0 k true a0_0 a0_1 a0_2 a0_3 a0_4) else (if a0_2 > 65535 then (record_Right.j0 k true a0_0 a0_1 a0_2 a0_3 a0_4) else (if a0_3 < 0 then (record_Right.j0 k true a0_0 a0_1 a0_2 a0_3 a0_4) else (if a0_3 > 2147483647 then (record_Right.j0 k true a0_0 a0_1 a0_2 a0_3 a0_4) else (record_Right.j0 k (decide ((a0_4.size : Int) > 65535)) a0_0 a0_1 a0_2 a0_3 a0_4))))))) else (record_Right.j0 k true a0_0 a0_1 a0_2 a0_3 a0_4))) = some r := h
  clear h
  have HC2 := Aside0.mk H
  clear H
  go_enter Tryz.func59, Tryz.ntmps59
  go_upto_region 1 with ((((with_reducible refine gate_dst (N := 1) rfl ?_); (try (refine gate_guard (by rfl) ?_; dsimp only)); refine box_event ?hg (N := 1) ?hd (cs := #[.string a0_0, .int .i64 a0_1, .int .i64 a0_2, .int .i64 a0_3, .string a0_4]) (t := 35) ?hr ?_; (case hd => rfl); (case hg => rfl); (case hr => (go_simp; done)); intro gb102 hg w3 hbox hb; have BK102 := Aside0.mk (hbox); have GW102 := Aside0.mk (ge_ hg (below_size HB.out)); have GE102 := Aside0.mk (ge_ hg (below_size HB.out)); replace HB := Aside0.mk (below_step HB.out hb); clear hb hbox hg)))
  go_cut [42] (fun v42 wc => ∃ (kq : Nat) (x42_1 : Bool), v42 = .bool x42_1 ∧ Aside0 (record_Right.j0 kq x42_1 a0_0 a0_1 a0_2 a0_3 a0_4 = some r) ∧ Aside0 (kq ≤ k) ∧ Aside0 (wc.heap[gb102]? = some (.cells #[.string a0_0, .int .i64 a0_1, .int .i64 a0_2, .int .i64 a0_3, .string a0_4] 35 (0, 0))) ∧ Aside0 (Below w.heap.size w wc))
  case first =>
   have H := HC2.out
   clear HC2
   obtain ⟨t103, A4, H⟩ := bnd_ H
   by_cases c5 : t103 = true
   focus
    subst c5
    rw [if_pos rfl] at H
    by_cases c6 : a0_1 < 0
    focus
     rw [if_pos c6] at H
     have c6b0 : decide (a0_1 < 0) = true := decide_eq_true c6
    rotate_left
    focus
     rw [if_neg c6] at H
     have c6b0 : decide (a0_1 < 0) = false := decide_eq_false c6
    rotate_left
    all_goals
     clear c6
     (skip)
    rotate_left
    focus
     by_cases c10 : a0_1 > 65535
     focus
      rw [if_pos c10] at H
      have c10b0 : decide (65535 < a0_1) = true := decide_eq_true c10
      clear c10
     rotate_left
     focus
      rw [if_neg c10] at H
      have c10b0 : decide (65535 < a0_1) = false := decide_eq_false c10
      clear c10
      by_cases c14 : a0_2 < 0
      focus
       rw [if_pos c14] at H
       have c14b0 : decide (a0_2 < 0) = true := decide_eq_true c14
       clear c14
      rotate_left
      focus
       rw [if_neg c14] at H
       have c14b0 : decide (a0_2 < 0) = false := decide_eq_false c14
       clear c14
       by_cases c18 : a0_2 > 65535
       focus
        rw [if_pos c18] at H
        have c18b0 : decide (65535 < a0_2) = true := decide_eq_true c18
        clear c18
       rotate_left
       focus
        rw [if_neg c18] at H
        have c18b0 : decide (65535 < a0_2) = false := decide_eq_false c18
        clear c18
        by_cases c22 : a0_3 < 0
        focus
         rw [if_pos c22] at H
         have c22b0 : decide (a0_3 < 0) = true := decide_eq_true c22
         clear c22
        rotate_left
        focus
         rw [if_neg c22] at H
         have c22b0 : decide (a0_3 < 0) = false := decide_eq_false c22
         clear c22
         by_cases c26 : a0_3 > 2147483647
         focus
          rw [if_pos c26] at H
          have c26b0 : decide (2147483647 < a0_3) = true := decide_eq_true c26
         rotate_left
         focus
          rw [if_neg c26] at H
          have c26b0 : decide (2147483647 < a0_3) = false := decide_eq_false c26
         rotate_left
         all_goals
          clear c26
        rotate_left 2
       rotate_left 3
      rotate_left 4
     rotate_left 5
    rotate_left 6
   rotate_left 7
   focus
    replace c5 := Bool.eq_false_iff.mpr c5
    subst c5
    rw [if_neg ff_] at H
   rotate_left
   all_goals
    have H' := Aside0.mk H
    clear H
    obtain ⟨hcz7_0, hcz7_1, hcz7_2, hcz7_3, hcz7_4, hfz7_0, hfz7_1, hfz7_2, hfz7_3, hfz7_4⟩ := z5_ BK102.out
   iterate 7
    focus
     go_wp2_with (((refine gl_ (some 5) Tryz.func56 #[.string a0_0] ?_; (with_reducible refine (name_Right.calls a0_0 _ _ A4.out).mono ?_); rintro e w8 ⟨rfl, hb⟩; refine ⟨_, rfl, ?_⟩; replace BK102 := Aside0.mk (blk_below (by ((exact BK102.out))) hb); replace HB := Aside0.mk (below_step HB.out hb); (try clear hb); obtain ⟨hcz9_0, hcz9_1, hcz9_2, hcz9_3, hcz9_4, hfz9_0, hfz9_1, hfz9_2, hfz9_3, hfz9_4⟩ := z5_ BK102.out)))
     go_meet
    rotate_left
   rotate_left
   ·case rel => exact ⟨_, (true), (by rfl), H', ⟨by omega⟩, ⟨by (with_reducible repeat ((refine blk_drewN ?_ _))); exact BK102.out⟩, ⟨HB.out⟩⟩
   ·case rel => exact ⟨_, (true), (by rfl), H', ⟨by omega⟩, ⟨by (with_reducible repeat ((refine blk_drewN ?_ _))); exact BK102.out⟩, ⟨HB.out⟩⟩
   ·case rel => exact ⟨_, (true), (by rfl), H', ⟨by omega⟩, ⟨by (with_reducible repeat ((refine blk_drewN ?_ _))); exact BK102.out⟩, ⟨HB.out⟩⟩
   ·case rel => exact ⟨_, (true), (by rfl), H', ⟨by omega⟩, ⟨by (with_reducible repeat ((refine blk_drewN ?_ _))); exact BK102.out⟩, ⟨HB.out⟩⟩
   ·case rel => exact ⟨_, (true), (by rfl), H', ⟨by omega⟩, ⟨by (with_reducible repeat ((refine blk_drewN ?_ _))); exact BK102.out⟩, ⟨HB.out⟩⟩
   ·case rel => exact ⟨_, (true), (by rfl), H', ⟨by omega⟩, ⟨by (with_reducible repeat ((refine blk_drewN ?_ _))); exact BK102.out⟩, ⟨HB.out⟩⟩
   ·case rel => exact ⟨_, (decide ((a0_4.size : Int) > 65535)), (by rfl), H', ⟨by omega⟩, ⟨by (with_reducible repeat ((refine blk_drewN ?_ _))); exact BK102.out⟩, ⟨HB.out⟩⟩
   ·go_wp2_with (((refine gl_ (some 5) Tryz.func56 #[.string a0_0] ?_; (with_reducible refine (name_Right.calls a0_0 _ _ A4.out).mono ?_); rintro e w34 ⟨rfl, hb⟩; refine ⟨_, rfl, ?_⟩; replace BK102 := Aside0.mk (blk_below (by ((exact BK102.out))) hb); replace HB := Aside0.mk (below_step HB.out hb); (try clear hb))))
    go_meet
    case rel => exact ⟨_, (true), (by rfl), H', ⟨by omega⟩, ⟨by (with_reducible repeat ((refine blk_drewN ?_ _))); exact BK102.out⟩, ⟨HB.out⟩⟩
  case rest =>
   clear HC2
   obtain ⟨kq, x42_1, rfl, HA, HJ1, BK102, HB⟩ := hcut
   cases kq with
   | zero => exact absurd HA.out (by simp [record_Right.j0])
   | succ kj1 =>
    have H := HA.out
    clear HA
    simp only [record_Right.j0] at H
    by_cases c35 : x42_1 = true
    focus
     subst c35
     rw [if_pos rfl] at H
     obtain rfl := Option.some.inj H
     go_wp2
    rotate_left
    focus
     replace c35 := Bool.eq_false_iff.mpr c35
     subst c35
     rw [if_neg ff_] at H
     obtain ⟨t104, A36, H⟩ := bnd_ H
     by_cases c37 : t104 = true
     focus
      subst c37
      rw [if_pos rfl] at H
      obtain ⟨t105, A38, H⟩ := bnd_ H
     rotate_left
     focus
      replace c37 := Bool.eq_false_iff.mpr c37
      subst c37
      rw [if_neg ff_] at H
     rotate_left
     all_goals
      obtain rfl := Option.some.inj H
      obtain ⟨hcz39_0, hcz39_1, hcz39_2, hcz39_3, hcz39_4, hfz39_0, hfz39_1, hfz39_2, hfz39_3, hfz39_4⟩ := z5_ BK102.out
     focus
      go_wp2_with (first | (refine gl_ (some 44) Tryz.func103 #[.agg #[.string a0_0, .int .i64 a0_1, .int .i64 a0_2, .int .i64 a0_3, .string a0_4]] ?_; (with_reducible refine (record_typed.calls a0_0 a0_1 a0_2 a0_3 a0_4 _ _ A36.out).mono ?_); rintro e w40 ⟨rfl, hb⟩; refine ⟨_, rfl, ?_⟩; replace BK102 := Aside0.mk (blk_below (by ((exact BK102.out))) hb); replace HB := Aside0.mk (below_step HB.out hb); (try clear hb); obtain ⟨hcz41_0, hcz41_1, hcz41_2, hcz41_3, hcz41_4, hfz41_0, hfz41_1, hfz41_2, hfz41_3, hfz41_4⟩ := z5_ BK102.out) | (go_at_call 104; (with_reducible refine (rdata_Right.calls a0_1 a0_4 t105 _ A38.out).mono ?_); rintro e w42 ⟨rfl, hb⟩; replace BK102 := Aside0.mk (blk_below (by ((exact BK102.out))) hb); replace HB := Aside0.mk (below_step HB.out hb); (try clear hb)))
     rotate_left
     focus
      go_wp2_with (((refine gl_ (some 44) Tryz.func103 #[.agg #[.string a0_0, .int .i64 a0_1, .int .i64 a0_2, .int .i64 a0_3, .string a0_4]] ?_; (with_reducible refine (record_typed.calls a0_0 a0_1 a0_2 a0_3 a0_4 _ _ A36.out).mono ?_); rintro e w44 ⟨rfl, hb⟩; refine ⟨_, rfl, ?_⟩; replace BK102 := Aside0.mk (blk_below (by ((exact BK102.out))) hb); replace HB := Aside0.mk (below_step HB.out hb); (try clear hb))))
     rotate_left
    rotate_left 2
    all_goals
     go_ret
     exact ⟨by rfl, HB.out⟩
def cmp_Or_int.l0 : Nat → Int → List Int → Int → Int → Option (Int)
 | 0, _, _, _, _ => none
 | k + 1, x3, x6, x7, x8 => if x8 < x7 then (if 0 ≤ x8 then (if x8 < (x6.length : Int) then (if (rd x6 x8) = x3 then (cmp_Or_int.l0 k x3 x6 x7 (wrap64 (x8 + 1))) else (some (rd x6 x8))) else (none)) else (none)) else (some x3)
def cmp_Or_int.f (k : Nat) (l0 : List Int) : Option (Int) := cmp_Or_int.l0 k 0 l0 (l0.length : Int) 0
set_option maxHeartbeats 8000000 in
set_option maxRecDepth 100000 in
theorem cmp_Or_int.calls (k : Nat) (A0 : Option Addr) (c0 : Nat) (l0 : List Int) (r : Int) (w : World) (hr0 : Kd.C (Kd.int .i64) w A0 l0.length l0) (hc0 : l0.length ≤ c0) (h : cmp_Or_int.f k l0 = some r) :
    Calls Tryz.prog 149 #[.slice A0 l0.length c0] w fun e w' => e = .returned (.int .i64 r) ∧ Drawn0 w w' := by
  have HR0 := Aside0.mk hr0
  have HC0 := Aside0.mk hc0
  clear hr0 hc0
  have H : (cmp_Or_int.l0 k 0 l0 (l0.length : Int) 0) = some r := h
  clear h
  have H' := Aside0.mk H
  clear H
  go_enter Tryz.func149, Tryz.ntmps149
  go_wp2
  go_loopg [8] k (fun kq v8 w' => ∃ (x8_1 : Int), v8 = .int .i64 x8_1 ∧ Aside0 (cmp_Or_int.l0 kq 0 l0 (l0.length : Int) x8_1 = some r) ∧ Aside0 (kq ≤ k) ∧ Drawn0 w w')
  case atStart => exact ⟨(0), (by rfl), H', ⟨Nat.le_refl _⟩, by repeat ((exact Drawn0.refl _))⟩
  case round =>
   clear H'
   obtain ⟨x8_1, rfl, HA, HK1, ⟨m1, rfl⟩⟩ := hrel
   cases gk with
   | zero => exact absurd HA.out (by simp [cmp_Or_int.l0])
   | succ k1 =>
    have H := HA.out
    clear HA
    simp only [cmp_Or_int.l0] at H
    by_cases c2 : x8_1 < (l0.length : Int)
    ·rw [if_pos c2] at H
     have c2b0 : decide (x8_1 < (l0.length : Int)) = true := decide_eq_true c2
     clear c2
     obtain ⟨c3b0, H⟩ := gdd_ H
     obtain ⟨c4b0, H⟩ := gdd_ H
     by_cases c5 : (rd l0 x8_1) = 0
     focus
      rw [if_pos c5] at H
      have c5b0 : ((rd l0 x8_1) == 0) = true := beq_iff_eq.mpr c5
      have c5b1 : ((rd l0 x8_1) != 0) = false := bne_eq_false_iff_eq.mpr c5
      clear c5
      have H' := Aside0.mk H
      clear H
     rotate_left
     focus
      rw [if_neg c5] at H
      have c5b0 : ((rd l0 x8_1) == 0) = false := beq_eq_false_iff_ne.mpr c5
      have c5b1 : ((rd l0 x8_1) != 0) = true := bne_iff_ne.mpr c5
      obtain rfl := Option.some.inj H
     rotate_left
     all_goals
      have p106 : 0 ≤ (x8_1 : Int) := of_decide_eq_true (by assumption)
      have q106 : x8_1 < (l0.length : Int) := of_decide_eq_true (by assumption)
      obtain ⟨ad106, e106, hx106_0⟩ := Kd.at_int HR0.out x8_1 p106 q106
      cases e106
      replace p106 := eq_true p106
      replace q106 := eq_true q106
      go_wp2
     ·go_roundg k1
      case measure => have := HK1.out; omega
      case rel => exact ⟨(wrap64 (x8_1 + 1)), (by rfl), H', ⟨by have := HK1.out; omega⟩, by repeat (first | exact Drawn0.refl _ | apply Drawn0.step)⟩
     ·go_ret
      exact ⟨by rfl, by repeat (first | exact Drawn0.refl _ | apply Drawn0.step)⟩
    ·rw [if_neg c2] at H
     have c2b0 : decide (x8_1 < (l0.length : Int)) = false := decide_eq_false c2
     clear c2
     obtain rfl := Option.some.inj H
     go_wp2
     go_ret
     exact ⟨by rfl, by repeat (first | exact Drawn0.refl _ | apply Drawn0.step)⟩
def cmp_isNaN_int.f (a0 : Int) : Option (Bool) := some (a0 != a0)
set_option maxHeartbeats 8000000 in
set_option maxRecDepth 100000 in
theorem cmp_isNaN_int.calls (a0 : Int) (r : Bool) (w : World) (h : cmp_isNaN_int.f a0 = some r) :
  Calls Tryz.prog 191 #[.int .i64 a0] w fun e w' => e = .returned (.bool r) ∧ Drawn0 w w' := by
 have H : (some (a0 != a0)) = some r := h
 clear h
 obtain rfl := Option.some.inj H
 go_enter Tryz.func191, Tryz.ntmps191
 go_wp2
 go_ret
 exact ⟨by rfl, by repeat ((exact Drawn0.refl _))⟩
def cmp_Compare_int.f (a0 : Int) (a1 : Int) : Option (Int) := (cmp_isNaN_int.f a0).bind fun t107 => ((cmp_isNaN_int.f a1).bind fun t108 => (if t107 = true then (if t108 = true then (some 0) else (some (-1))) else (if t108 = true then (some 1) else (if a0 < a1 then (some (-1)) else (if a0 > a1 then (some 1) else (some 0))))))
set_option maxHeartbeats 8000000 in
set_option maxRecDepth 100000 in
theorem cmp_Compare_int.calls (a0 : Int) (a1 : Int) (r : Int) (w : World) (h : cmp_Compare_int.f a0 a1 = some r) :
    Calls Tryz.prog 151 #[.int .i64 a0, .int .i64 a1] w fun e w' => e = .returned (.int .i64 r) ∧ Drawn0 w w' := by
  have H : ((cmp_isNaN_int.f a0).bind fun t107 => ((cmp_isNaN_int.f a1).bind fun t108 => (if t107 = true then (if t108 = true then (some 0) else (some (-1))) else (if t108 = true then (some 1) else (if a0 < a1 then (some (-1)) else (if a0 > a1 then (some 1) else (some 0))))))) = some r := h
  clear h
  obtain ⟨t107, A3, H⟩ := bnd_ H
  obtain ⟨t108, A4, H⟩ := bnd_ H
  by_cases c5 : t107 = true
  focus
   subst c5
   rw [if_pos rfl] at H
   by_cases c6 : t108 = true
   focus
    subst c6
    rw [if_pos rfl] at H
   rotate_left
   focus
    replace c6 := Bool.eq_false_iff.mpr c6
    subst c6
    rw [if_neg ff_] at H
   rotate_left
  rotate_left 2
  focus
   replace c5 := Bool.eq_false_iff.mpr c5
   subst c5
   rw [if_neg ff_] at H
   by_cases c7 : t108 = true
   focus
    subst c7
    rw [if_pos rfl] at H
   rotate_left
   focus
    replace c7 := Bool.eq_false_iff.mpr c7
    subst c7
    rw [if_neg ff_] at H
    by_cases c8 : a0 < a1
    focus
     rw [if_pos c8] at H
     have c8b0 : decide (a0 < a1) = true := decide_eq_true c8
     clear c8
    rotate_left
    focus
     rw [if_neg c8] at H
     have c8b0 : decide (a0 < a1) = false := decide_eq_false c8
     clear c8
     by_cases c9 : a0 > a1
     focus
      rw [if_pos c9] at H
      have c9b0 : decide (a1 < a0) = true := decide_eq_true c9
     rotate_left
     focus
      rw [if_neg c9] at H
      have c9b0 : decide (a1 < a0) = false := decide_eq_false c9
     rotate_left
     all_goals
      clear c9
    rotate_left 2
   rotate_left 3
  rotate_left 4
  all_goals
   obtain rfl := Option.some.inj H
   go_enter Tryz.func151, Tryz.ntmps151
   go_wp2_with (first | (refine gl_ (some 8) Tryz.func191 #[.int .i64 a0] ?_; (with_reducible refine (cmp_isNaN_int.calls a0 _ _ A3.out).mono ?_); rintro e w' ⟨rfl, ⟨nd, rfl⟩⟩; refine ⟨_, rfl, ?_⟩) | (refine gl_ (some 10) Tryz.func191 #[.int .i64 a1] ?_; (with_reducible refine (cmp_isNaN_int.calls a1 _ _ A4.out).mono ?_); rintro e w' ⟨rfl, ⟨nd, rfl⟩⟩; refine ⟨_, rfl, ?_⟩))
   go_ret
   exact ⟨by rfl, by repeat (first | exact Drawn0.refl _ | apply Drawn0.step)⟩
def record_Said.f (a0_0 : ByteArray) (a0_1 : Int) (a0_2 : Int) (a0_3 : Int) (a0_4 : ByteArray) : Option (ByteArray) := (rdata_Right.f a0_1 a0_4).bind fun t110 => (if t110 = true then ((rdata_Fold.f a0_1 a0_4).bind fun t111 => (some t111)) else (some a0_4))
set_option maxHeartbeats 8000000 in
set_option maxRecDepth 100000 in
theorem record_Said.calls (a0_0 : ByteArray) (a0_1 : Int) (a0_2 : Int) (a0_3 : Int) (a0_4 : ByteArray) (r : ByteArray) (w : World) (h : record_Said.f a0_0 a0_1 a0_2 a0_3 a0_4 = some r) :
    Calls Tryz.prog 153 #[.agg #[.string a0_0, .int .i64 a0_1, .int .i64 a0_2, .int .i64 a0_3, .string a0_4]] w fun e w' => e = .returned (.string r) ∧ Below w.heap.size w w' := by
  have hu35 := Tryz.underlying35
  have HB := Aside0.mk (Below.refl w.heap.size w)
  have H : ((rdata_Right.f a0_1 a0_4).bind fun t110 => (if t110 = true then ((rdata_Fold.f a0_1 a0_4).bind fun t111 => (some t111)) else (some a0_4))) = some r := h
  clear h
  obtain ⟨t110, A2, H⟩ := bnd_ H
  by_cases c3 : t110 = true
  focus
   subst c3
   rw [if_pos rfl] at H
   obtain ⟨t111, A4, H⟩ := bnd_ H
  rotate_left
  focus
   replace c3 := Bool.eq_false_iff.mpr c3
   subst c3
   rw [if_neg ff_] at H
  rotate_left
  all_goals
   obtain rfl := Option.some.inj H
   go_enter Tryz.func153, Tryz.ntmps153
  focus
   go_wp2_with (first | ((with_reducible refine gate_dst (N := 1) rfl ?_); refine box_event ?hg (N := 1) ?hd (cs := #[.string a0_0, .int .i64 a0_1, .int .i64 a0_2, .int .i64 a0_3, .string a0_4]) (t := 35) ?hr ?_; (case hd => rfl); (case hg => rfl); (case hr => (go_simp; done)); intro gb109 hg w5 hbox hb; have BK109 := Aside0.mk (hbox); have GW109 := Aside0.mk (ge_ hg (below_size HB.out)); have GE109 := Aside0.mk (ge_ hg (below_size HB.out)); replace HB := Aside0.mk (below_step HB.out hb); clear hb hbox hg; obtain ⟨hcz6_0, hcz6_1, hcz6_2, hcz6_3, hcz6_4, hfz6_0, hfz6_1, hfz6_2, hfz6_3, hfz6_4⟩ := z5_ BK109.out) | (refine gl_ (some 7) Tryz.func104 #[.int .i64 a0_1, .string a0_4] ?_; (with_reducible refine (rdata_Right.calls a0_1 a0_4 _ _ A2.out).mono ?_); rintro e w7 ⟨rfl, hb⟩; refine ⟨_, rfl, ?_⟩; replace BK109 := Aside0.mk (blk_below (by ((exact BK109.out))) hb); replace HB := Aside0.mk (below_step HB.out hb); (try clear hb); obtain ⟨hcz8_0, hcz8_1, hcz8_2, hcz8_3, hcz8_4, hfz8_0, hfz8_1, hfz8_2, hfz8_3, hfz8_4⟩ := z5_ BK109.out) | (refine gl_ (some 15) Tryz.func193 #[.int .i64 a0_1, .string a0_4] ?_; (with_reducible refine (rdata_Fold.calls a0_1 a0_4 t111 _ A4.out).mono ?_); rintro e w9 ⟨rfl, hb⟩; refine ⟨_, rfl, ?_⟩; replace BK109 := Aside0.mk (blk_below (by ((exact BK109.out))) hb); replace HB := Aside0.mk (below_step HB.out hb); (try clear hb)))
  rotate_left
  focus
   go_wp2_with (first | ((with_reducible refine gate_dst (N := 1) rfl ?_); refine box_event ?hg (N := 1) ?hd (cs := #[.string a0_0, .int .i64 a0_1, .int .i64 a0_2, .int .i64 a0_3, .string a0_4]) (t := 35) ?hr ?_; (case hd => rfl); (case hg => rfl); (case hr => (go_simp; done)); intro gb109 hg w10 hbox hb; have BK109 := Aside0.mk (hbox); have GW109 := Aside0.mk (ge_ hg (below_size HB.out)); have GE109 := Aside0.mk (ge_ hg (below_size HB.out)); replace HB := Aside0.mk (below_step HB.out hb); clear hb hbox hg; obtain ⟨hcz11_0, hcz11_1, hcz11_2, hcz11_3, hcz11_4, hfz11_0, hfz11_1, hfz11_2, hfz11_3, hfz11_4⟩ := z5_ BK109.out) | (refine gl_ (some 7) Tryz.func104 #[.int .i64 a0_1, .string a0_4] ?_; (with_reducible refine (rdata_Right.calls a0_1 a0_4 _ _ A2.out).mono ?_); rintro e w12 ⟨rfl, hb⟩; refine ⟨_, rfl, ?_⟩; replace BK109 := Aside0.mk (blk_below (by ((exact BK109.out))) hb); replace HB := Aside0.mk (below_step HB.out hb); (try clear hb); obtain ⟨hcz13_0, hcz13_1, hcz13_2, hcz13_3, hcz13_4, hfz13_0, hfz13_1, hfz13_2, hfz13_3, hfz13_4⟩ := z5_ BK109.out))
  rotate_left
  all_goals
   go_ret
   exact ⟨by rfl, HB.out⟩
end Go.Proofs.YtjmpckommjlnlaaGreat.PRr
namespace Go.Proofs.YtjmpckommjlnlaaGreat.PRr
open Go.RowKit Go.Proofs.YtjmpckommjlnlaaGreatW.PrintWords Go.Proofs.YtjmpckommjlnlaaGreatW.PrintLast Go.Proofs.YtjmpckommjlnlaaGreatW.PrintMore Go.Proofs.YtjmpckommjlnlaaGreat.Given Go.Proofs.YtjmpckommjlnlaaGreat.PRd
attribute [local go_sem] max2_int min2_int max_two min_two max_three min_three max_four min_four   -- for this text's walks alone
set_option linter.unusedVariables false
set_option linter.unusedSimpArgs false
def record_Compare.f (k : Nat) (a0_0 : ByteArray) (a0_1 : Int) (a0_2 : Int) (a0_3 : Int) (a0_4 : ByteArray) (a1_0 : ByteArray) (a1_1 : Int) (a1_2 : Int) (a1_3 : Int) (a1_4 : ByteArray) : Option (Int) := (name_Compare.f k a0_0 a1_0).bind fun t114 => ((cmp_Compare_int.f a0_1 a1_1).bind fun t115 => ((cmp_Compare_int.f a0_2 a1_2).bind fun t116 => ((record_Said.f a0_0 a0_1 a0_2 a0_3 a0_4).bind fun t117 => ((record_Said.f a1_0 a1_1 a1_2 a1_3 a1_4).bind fun t118 => ((cmp_Compare_string.f t117 t118).bind fun t119 => ((cmp_Or_int.f k (([t114, t115, t116, t119] : List Int))).bind fun t123 => (some t123)))))))
def record_Compare.T1 : Bool × List (List Nat × List Nat) := (true, [([], []), ([0], [0]), ([], []), ([2], [2]), ([1, 3], [1, 3]), ([], []), ([5], [5]), ([], []), ([7], [7]), ([6, 8, 4], [6, 8]), ([], []), ([10], [10]), ([], []), ([12], [12]), ([11, 13, 9], [11, 13]), ([], []), ([15, 14], [15]), ([], []), ([17, 16], [17]), ([16, 18, 18], [16, 18]), ([4, 9, 14, 19], [4, 9, 14, 19]), ([20, 19], [20]), ([21, 21, 0, 1, 2, 3, 4, 5, 6, 7, 8, 9, 10, 11, 12, 13, 14, 15, 16, 17, 18, 19, 20, 21], [21])])
def record_Compare.B1 : List Nat := [0, 1, 0, 4, 15, 0, 32, 0, 128, 511, 0, 1024, 0, 4096, 16383, 0, 65535, 0, 262143, 524287, 1048575, 2097151, 4194303]
theorem record_Compare.tab1 : rtab .any (opsOf Tryz.f107 1) = record_Compare.T1 := by kernel_rfl
theorem record_Compare.bits1 : waitsOk record_Compare.T1.2 record_Compare.B1 = true := by kernel_rfl
set_option maxHeartbeats 8000000 in
set_option maxRecDepth 100000 in
theorem record_Compare.calls (k : Nat) (a0_0 : ByteArray) (a0_1 : Int) (a0_2 : Int) (a0_3 : Int) (a0_4 : ByteArray) (a1_0 : ByteArray) (a1_1 : Int) (a1_2 : Int) (a1_3 : Int) (a1_4 : ByteArray) (r : Int) (w : World) (h : record_Compare.f k a0_0 a0_1 a0_2 a0_3 a0_4 a1_0 a1_1 a1_2 a1_3 a1_4 = some r) :
  Calls Tryz.prog 107 #[.agg #[.string a0_0, .int .i64 a0_1, .int .i64 a0_2, .int .i64 a0_3, .string a0_4], .agg #[.string a1_0, .int .i64 a1_1, .int .i64 a1_2, .int .i64 a1_3, .string a1_4]] w fun e w' => e = .returned (.int .i64 r) ∧ Below w.heap.size w w' := by
 have hu35 := Tryz.underlying35
 have HB := Aside0.mk (Below.refl w.heap.size w)
 have H : ((name_Compare.f k a0_0 a1_0).bind fun t114 => ((cmp_Compare_int.f a0_1 a1_1).bind fun t115 => ((cmp_Compare_int.f a0_2 a1_2).bind fun t116 => ((record_Said.f a0_0 a0_1 a0_2 a0_3 a0_4).bind fun t117 => ((record_Said.f a1_0 a1_1 a1_2 a1_3 a1_4).bind fun t118 => ((cmp_Compare_string.f t117 t118).bind fun t119 => ((cmp_Or_int.f k (([t114, t115, t116, t119] : List Int))).bind fun t123 => (some t123)))))))) = some r := h
 clear h
 obtain ⟨t114, A3, H⟩ := bnd_ H
 obtain ⟨t115, A4, H⟩ := bnd_ H
 obtain ⟨t116, A5, H⟩ := bnd_ H
 obtain ⟨t117, A6, H⟩ := bnd_ H
 obtain ⟨t118, A7, H⟩ := bnd_ H
 obtain ⟨t119, A8, H⟩ := bnd_ H
 obtain ⟨y120, hy120⟩ : ∃ y_ : List Int, y_ = (([t114, t115, t116, t119] : List Int)) := ⟨_, rfl⟩
 replace H : ((cmp_Or_int.f k y120).bind fun t123 => (some t123)) = some r := by (rw [hy120]; with_reducible exact H)
 have Ny120 := Aside0.mk hy120
 clear hy120
 obtain ⟨t123, A9, H⟩ := bnd_ H
 obtain rfl := Option.some.inj H
 go_enter Tryz.func107, Tryz.ntmps107
 (try go_wp2_with (first | ((with_reducible refine gate_dst (N := 2) rfl ?_); refine box_event ?hg (N := 2) ?hd (cs := #[.string a0_0, .int .i64 a0_1, .int .i64 a0_2, .int .i64 a0_3, .string a0_4]) (t := 35) ?hr ?_; (case hd => rfl); (case hg => rfl); (case hr => (go_simp; done)); intro gb112 hg w10 hbox hb; have BK112 := Aside0.mk (hbox); have GW112 := Aside0.mk (ge_ hg (below_size HB.out)); have GE112 := Aside0.mk (ge_ hg (below_size HB.out)); replace HB := Aside0.mk (below_step HB.out hb); clear hb hbox hg) | ((with_reducible refine gate_dst (N := 3) rfl ?_); refine box_event ?hg (N := 3) ?hd (cs := #[.string a1_0, .int .i64 a1_1, .int .i64 a1_2, .int .i64 a1_3, .string a1_4]) (t := 35) ?hr ?_; (case hd => rfl); (case hg => rfl); (case hr => (go_simp; done)); intro gb113 hg w11 hbox hb; have BK113 := Aside0.mk (hbox); have GW113 := Aside0.mk (ge_ hg (below_size HB.out)); have GE113 := Aside0.mk (ge_ hg (below_size HB.out)); have NB112_113 := Aside0.mk (nl_ hg (by ((exact BK112.out)))); have NB113_112 := Aside0.mk (nr_ hg (by ((exact BK112.out)))); replace BK112 := Aside0.mk (blk_below (by ((exact BK112.out))) hb); replace HB := Aside0.mk (below_step HB.out hb); clear hb hbox hg)))
 replace BK112 := Aside0.mk (blk_drew BK112.out)
 replace BK113 := Aside0.mk (blk_drew BK113.out)
 replace HB := Aside0.mk (below_drew1 HB.out)
 refine start_ (n := 23) (ds := []) (ls 23 0) (by kernel_rfl) rfl rfl (c5_ BK112.out (d5_ BK113.out)) (fun hHeld => ?_); refine with_tabW record_Compare.tab1 record_Compare.bits1 (fun HT_ HW_ => ?_)
 generalize w11.drew = w12 at BK112 BK113 HB hHeld ⊢
 refine td_ [(0, 5), (2, 7), (5, 10), (7, 12), (10, 15), (12, 17)] ?_
 iterate 6 (refine pm_ HT_ ?_)
 refine dn_ ?_
 refine td_ [(1, 6), (3, 8), (6, 11), (8, 13), (11, 16), (13, 18), (15, 20), (17, 22)] ?_
 iterate 8 (refine tm_ HT_ HW_ hHeld ?_)
 refine dn_ ?_
 refine om1_ HT_ (i := 4) (N := some 9) (ls 23 179711) (fun K hK => ?_)
 refine gs_ Tryz.func150 #[.string a0_0, .string a1_0] ?_
 with_reducible refine (name_Compare.calls k a0_0 a1_0 t114 _ A3.out).mono ?_
 rintro e w13 ⟨rfl, hb⟩
 refine ⟨_, rfl, ?_⟩
 replace BK112 := Aside0.mk (blk_below (by ((exact BK112.out))) hb)
 replace BK113 := Aside0.mk (blk_below (by ((exact BK113.out))) hb)
 replace HB := Aside0.mk (below_step HB.out hb)
 (try clear hb)
 refine hK.out _ _ (c5_ BK112.out (d5_ BK113.out)) (fun hHeld => ?_)
 clear hK K
 refine nm_ (N := (some 9)) ?_
 refine om1_ HT_ (i := 9) (N := some 14) (ls 23 180223) (fun K hK => ?_)
 refine gs_ Tryz.func151 #[.int .i64 a0_1, .int .i64 a1_1] ?_
 with_reducible refine (cmp_Compare_int.calls a0_1 a1_1 t115 _ A4.out).mono ?_
 rintro e w' ⟨rfl, ⟨nd, rfl⟩⟩
 refine ⟨_, rfl, ?_⟩
 refine hK.out _ _ (c5_ BK112.out (d5_ BK113.out)) (fun hHeld => ?_)
 clear hK K
 refine nm_ (N := (some 14)) ?_
 refine om1_ HT_ (i := 14) (N := some 19) (ls 23 196607) (fun K hK => ?_)
 refine gs_ Tryz.func151 #[.int .i64 a0_2, .int .i64 a1_2] ?_
 with_reducible refine (cmp_Compare_int.calls a0_2 a1_2 t116 _ A5.out).mono ?_
 rintro e w' ⟨rfl, ⟨nd, rfl⟩⟩
 refine ⟨_, rfl, ?_⟩
 refine hK.out _ _ (c5_ BK112.out (d5_ BK113.out)) (fun hHeld => ?_)
 clear hK K
 refine nm_ (N := (some 19)) ?_
 refine om1_ HT_ (i := 16) (N := some 21) (ls 23 262143) (fun K hK => ?_)
 refine gs_ Tryz.func153 #[.agg #[.string a0_0, .int .i64 a0_1, .int .i64 a0_2, .int .i64 a0_3, .string a0_4]] ?_
 with_reducible refine (record_Said.calls a0_0 a0_1 a0_2 a0_3 a0_4 t117 _ A6.out).mono ?_
 rintro e w14 ⟨rfl, hb⟩
 refine ⟨_, rfl, ?_⟩
 replace BK112 := Aside0.mk (blk_below (by ((exact BK112.out))) hb)
 replace BK113 := Aside0.mk (blk_below (by ((exact BK113.out))) hb)
 replace HB := Aside0.mk (below_step (by repeat ((with_reducible first | exact HB.out | apply pw_below_drewN))) hb)
 (try clear hb)
 refine hK.out _ _ (c5_ BK112.out (d5_ BK113.out)) (fun hHeld => ?_)
 clear hK K
 refine nm_ (N := (some 21)) ?_
 refine om1_ HT_ (i := 18) (N := some 23) (ls 23 524287) (fun K hK => ?_)
 refine gs_ Tryz.func153 #[.agg #[.string a1_0, .int .i64 a1_1, .int .i64 a1_2, .int .i64 a1_3, .string a1_4]] ?_
 with_reducible refine (record_Said.calls a1_0 a1_1 a1_2 a1_3 a1_4 t118 _ A7.out).mono ?_
 rintro e w15 ⟨rfl, hb⟩
 refine ⟨_, rfl, ?_⟩
 replace BK112 := Aside0.mk (blk_below (by ((exact BK112.out))) hb)
 replace BK113 := Aside0.mk (blk_below (by ((exact BK113.out))) hb)
 replace HB := Aside0.mk (below_step HB.out hb)
 (try clear hb)
 refine hK.out _ _ (c5_ BK112.out (d5_ BK113.out)) (fun hHeld => ?_)
 clear hK K
 refine nm_ (N := (some 23)) ?_
 refine om1_ HT_ (i := 19) (N := some 24) (ls 23 1048575) (fun K hK => ?_)
 refine gs_ Tryz.func152 #[.string t117, .string t118] ?_
 with_reducible refine (cmp_Compare_string.calls t117 t118 t119 _ A8.out).mono ?_
 rintro e w16 ⟨rfl, hb⟩
 refine ⟨_, rfl, ?_⟩
 replace BK112 := Aside0.mk (blk_below (by ((exact BK112.out))) hb)
 replace BK113 := Aside0.mk (blk_below (by ((exact BK113.out))) hb)
 replace HB := Aside0.mk (below_step HB.out hb)
 (try clear hb)
 refine hK.out _ _ (c5_ BK112.out (d5_ BK113.out)) (fun hHeld => ?_)
 clear hK K
 refine nm_ (N := (some 24)) ?_
 refine om1_ HT_ (i := 20) (N := some 25) (ls 23 2097151) (fun K hK => ?_)
 refine Kd.R_lit_step (Kd.int .i64) _ 3 ?hg (N := 25) ?hd (xs := ([t114, t115, t116, t119] : List Int)) (inner := [.int .i64 t114, .int .i64 t115, .int .i64 t116, .int .i64 t119]) (ok := fun _ => True) (okp := fun _ => True) ?hr ?hp (fun _ hk => hk) trivial (Below.refl _ _) (Nat.le_refl _) (by simp) ?_; (case hd => rfl); (case hg => rfl); (case hr => (go_simp; done)); (case hp => exact (Reps.one (show Kd.M (Kd.int .i64) _ _ _ t114 [.int .i64 t114] from rfl) (Reps.one (show Kd.M (Kd.int .i64) _ _ _ t115 [.int .i64 t115] from rfl) (Reps.one (show Kd.M (Kd.int .i64) _ _ _ t116 [.int .i64 t116] from rfl) (Reps.one (show Kd.M (Kd.int .i64) _ _ _ t119 [.int .i64 t119] from rfl) (Reps.none _ _))))))
 intro v121 w17 ho18 hb hg_ hnew_
 clear hg_ hnew_
 ((rw [← Ny120.out] at ho18))
 have HO122 := Aside0.mk (Kd.R_lower ho18 (below_size HB.out))
 replace BK112 := Aside0.mk (blk_below (by ((exact BK112.out))) hb)
 replace BK113 := Aside0.mk (blk_below (by ((exact BK113.out))) hb)
 replace HB := Aside0.mk (below_step HB.out hb)
 clear hb ho18
 obtain ⟨Ao19, co19, eo19⟩ := Kd.R_slice HO122.out
 ((subst eo19))
 refine hK.out _ _ (c5_ BK112.out (d5_ BK113.out)) (fun hHeld => ?_)
 clear hK K
 refine nm_ (N := (some 25)) ?_
 refine om1_ HT_ (i := 21) (N := some 26) (ls 23 4194303) (fun K hK => ?_)
 refine gs_ Tryz.func149 #[.slice Ao19 y120.length co19] ?_
 with_reducible refine (cmp_Or_int.calls k _ _ y120 t123 _ ?side1 ?side2 A9.out).mono ?_
 (case side1 => exact (Kd.R_reads' HO122.out).2.2)
 (case side2 => exact (Kd.R_reads' HO122.out).2.1)
 rintro e w' ⟨rfl, ⟨nd, rfl⟩⟩
 refine ⟨_, rfl, ?_⟩
 refine hK.out _ _ (c5_ BK112.out (d5_ BK113.out)) (fun hHeld => ?_)
 clear hK K
 refine nm_ (N := (some 26)) ?_
 refine td_ [(22, 4)] ?_
 refine pm_ HT_ ?_
 refine dn_ ?_
 refine done_ (done_of HT_.out (by kernel_rfl)) ?_
 (try go_wp2)
 go_ret
 exact ⟨by rfl, by repeat ((with_reducible first | exact HB.out | apply pw_below_drewN))⟩
end Go.Proofs.YtjmpckommjlnlaaGreat.PRr
namespace Go.Proofs.YtjmpckommjlnlaaGreat.Rrs
open Go.RowKit Go.Proofs.YtjmpckommjlnlaaGreatW.PrintWords Go.Proofs.YtjmpckommjlnlaaGreatW.PrintLast Go.Proofs.YtjmpckommjlnlaaGreatW.PrintMore Go.Proofs.YtjmpckommjlnlaaGreat.Given Go.Proofs.YtjmpckommjlnlaaGreat.PRd Go.Proofs.YtjmpckommjlnlaaGreat.PRr
set_option linter.unusedVariables false
set_option linter.unusedSimpArgs false
abbrev RR := S35
abbrev kRR : Kd RR := k35
abbrev rdR (l : List RR) (i : Int) : RR := rd_T35 l i
abbrev RR.v (x : RR) : Value := .agg #[.string x.f0, .int .i64 x.f1, .int .i64 x.f2, .int .i64 x.f3, .string x.f4]
def cmpO (k : Nat) (y x : RR) : Option Int := record_Compare.f k y.f0 y.f1 y.f2 y.f3 y.f4 x.f0 x.f1 x.f2 x.f3 x.f4
theorem cmp_calls (k : Nat) (y x : RR) (c : Int) (w : World) (h : cmpO k y x = some c) :
    Calls Tryz.prog 107 #[y.v, x.v] w fun e w' => e = .returned (.int .i64 c) ∧ Below w.heap.size w w' := record_Compare.calls k _ _ _ _ _ _ _ _ _ _ c w h
theorem rdR_get (l : List RR) (i : Nat) (hi : i < l.length) : rdR l (i : Nat) = l[i] := by
  show rd_T35 l (i : Nat) = _
  unfold rd_T35
  rw [Int.toNat_natCast, List.getD_eq_getElem?_getD, List.getElem?_eq_getElem hi]; rfl
def eqR (x y : RR) : Bool := x.f0.toList == y.f0.toList && (x.f1 == y.f1 && (x.f2 == y.f2 && (x.f3 == y.f3 && (x.f4.toList == y.f4.toList))))
end Go.Proofs.YtjmpckommjlnlaaGreat.Rrs
namespace Go.Proofs.YtjmpckommjlnlaaGreat.Rrs
open Go.RowKit Go.Proofs.YtjmpckommjlnlaaGreatW.PrintWords Go.Proofs.YtjmpckommjlnlaaGreatW.PrintLast Go.Proofs.YtjmpckommjlnlaaGreatW.PrintMore Go.Proofs.YtjmpckommjlnlaaGreat.Given Go.Proofs.YtjmpckommjlnlaaGreat.PRd Go.Proofs.YtjmpckommjlnlaaGreat.PRr Go.Proofs.YtjmpckommjlnlaaGreat.Oct Go.Proofs.YtjmpckommjlnlaaGreat.Name Go.Proofs.YtjmpckommjlnlaaGreat.Cmp Go.Proofs.YtjmpckommjlnlaaGreat.NameFacts Go.Proofs.YtjmpckommjlnlaaGreat.RdataFacts Go.Proofs.YtjmpckommjlnlaaGreat.SetLaw
set_option linter.unusedVariables false
def or4 (a b c d : Int) : Int := if a = 0 then if b = 0 then if c = 0 then d else c else b else a
theorem or_f (a b c d : Int) (k : Nat) (hk : 5 ≤ k) : cmp_Or_int.f k [a, b, c, d] = some (or4 a b c d) := by
  obtain ⟨k, rfl⟩ : ∃ m, k = m + 5 := ⟨k - 5, by omega⟩
  have w1 : wrap64 (0 + 1) = 1 := by unfold wrap64; omega
  have w2 : wrap64 (1 + 1) = 2 := by unfold wrap64; omega
  have w3 : wrap64 (2 + 1) = 3 := by unfold wrap64; omega
  have w4 : wrap64 (3 + 1) = 4 := by unfold wrap64; omega
  have r0 : rd [a, b, c, d] 0 = a := rfl
  have r1 : rd [a, b, c, d] 1 = b := rfl
  have r2 : rd [a, b, c, d] 2 = c := rfl
  have r3 : rd [a, b, c, d] 3 = d := rfl
  have l4 : (([a, b, c, d] : List Int).length : Int) = 4 := rfl
  show cmp_Or_int.l0 (k + 5) 0 [a, b, c, d] (([a, b, c, d] : List Int).length : Int) 0 = _
  rw [l4]
  unfold or4
  simp only [cmp_Or_int.l0, l4, r0, r1, r2, r3, w1, w2, w3, w4, show ((0 : Int) < 4) = True by simp, show ((1 : Int) < 4) = True by simp, show ((2 : Int) < 4) = True by simp, show ((3 : Int) < 4) = True by simp, show ((4 : Int) < 4) = False by simp, show ((0 : Int) ≤ 0) = True by simp, show ((0 : Int) ≤ 1) = True by simp, show ((0 : Int) ≤ 2) = True by simp, show ((0 : Int) ≤ 3) = True by simp, if_true, if_false]
  repeat' split
  all_goals first | rfl | (simp_all; done)
theorem cmpi_f (a b : Int) : cmp_Compare_int.f a b = some (cmpI a b) := by
  unfold cmp_Compare_int.f cmp_isNaN_int.f cmpI
  simp only [bne_self_eq_false, Option.bind_some]
  repeat' split
  all_goals first | rfl | (simp_all; done)
open Classical in
noncomputable def nameK (x : RR) : List ByteArray := if h : ∃ l, good l ∧ (nameB l).size ≤ 255 ∧ x.f0 = nameB l then ((Classical.choose h).map lowS).reverse else []
def saidR (x : RR) : ByteArray := if rightD x.f1 x.f4 = true then foldD x.f1 x.f4 else x.f4
noncomputable def cmpRR : RR → RR → Int := thenC (fun a b => cmpL (nameK a) (nameK b)) (thenC (fun a b => cmpI a.f1 b.f1) (thenC (fun a b => cmpI a.f2 b.f2) (fun a b => cmpB (saidR a).toList (saidR b).toList)))
theorem ordRR : POrd cmpRR := (POrd.pull cmpL_ord nameK).thenC ((POrd.pull cmpI_ord (·.f1)).thenC ((POrd.pull cmpI_ord (·.f2)).thenC (POrd.pull cmp_ord fun x => (saidR x).toList)))
theorem said_f (x : RR) (hx : x.f4.size ≤ 100000) : record_Said.f x.f0 x.f1 x.f2 x.f3 x.f4 = some (saidR x) := by
  unfold record_Said.f rdata_Right.f rdata_Fold.f saidR
  rw [if_pos (by omega), if_pos (by omega)]
  simp only [Option.bind_some]
  split <;> rfl
theorem nameK_eq (x : RR) (hx : rightB x.f0 = true) : ∃ l, good l ∧ (nameB l).size ≤ 255 ∧ x.f0 = nameB l ∧ nameK x = (l.map lowS).reverse := by
  have hd : ∃ l, good l ∧ (nameB l).size ≤ 255 ∧ x.f0 = nameB l := by
    obtain ⟨l, h1, h2, h3⟩ := (right_iff x.f0).mp hx
    exact ⟨l, h1, h3, h2⟩
  have hs := Classical.choose_spec hd
  exact ⟨Classical.choose hd, hs.1, hs.2.1, hs.2.2, by unfold nameK; rw [dif_pos hd]⟩
theorem cmpO_eq (x y : RR) (hx : rightB x.f0 = true) (hy : rightB y.f0 = true) (sx : x.f4.size ≤ 100000) (sy : y.f4.size ≤ 100000) (k : Nat) (hk : 1000 ≤ k) : cmpO k x y = some (cmpRR x y) := by
  obtain ⟨l, gl, sl, el, kl⟩ := nameK_eq x hx
  obtain ⟨m, gm, sm, em, km⟩ := nameK_eq y hy
  unfold cmpO record_Compare.f
  rw [said_f x sx, said_f y sy, cmpi_f, cmpi_f, el, em, compare_f l m gl gm sl sm k (by omega)]
  simp only [Option.bind_some]
  rw [show cmp_Compare_string.f (saidR x) (saidR y) = some (cmpB (saidR x).toList (saidR y).toList) from rfl]
  simp only [Option.bind_some]
  rw [or_f _ _ _ _ k (by omega), Option.bind_some]
  unfold or4 cmpRR thenC
  simp only [kl, km]
  rfl
end Go.Proofs.YtjmpckommjlnlaaGreat.Rrs
namespace Go.Proofs.YtjmpckommjlnlaaGreat.PRr
open Go.RowKit Go.Proofs.YtjmpckommjlnlaaGreatW.PrintWords Go.Proofs.YtjmpckommjlnlaaGreatW.PrintLast Go.Proofs.YtjmpckommjlnlaaGreatW.PrintMore Go.Proofs.YtjmpckommjlnlaaGreat.Given Go.Proofs.YtjmpckommjlnlaaGreat.PRd
attribute [local go_sem] max2_int min2_int max_two min_two max_three min_three max_four min_four   -- for this text's walks alone
set_option linter.unusedVariables false
set_option linter.unusedSimpArgs false
def beadrollref11_typed.f (a0 : Int) (a1 : Bool) : Option (Bool) := if a0 = 1 then (some true) else (if a0 = 254 then (some (!a1)) else (some false))
set_option maxHeartbeats 8000000 in
set_option maxRecDepth 100000 in
theorem beadrollref11_typed.calls (a0 : Int) (a1 : Bool) (r : Bool) (w : World) (h : beadrollref11_typed.f a0 a1 = some r) :
  Calls Tryz.prog 116 #[.int .i64 a0, .bool a1] w fun e w' => e = .returned (.bool r) ∧ Drawn0 w w' := by
 have H : (if a0 = 1 then (some true) else (if a0 = 254 then (some (!a1)) else (some false))) = some r := h
 clear h
 by_cases c3 : a0 = 1
 ·rw [if_pos c3] at H
  have c3b0 : (a0 == 1) = true := beq_iff_eq.mpr c3
  have c3b1 : (a0 != 1) = false := bne_eq_false_iff_eq.mpr c3
  clear c3
  obtain rfl := Option.some.inj H
  go_enter Tryz.func116, Tryz.ntmps116
  go_wp2
  go_ret
  exact ⟨by rfl, by repeat ((exact Drawn0.refl _))⟩
 ·rw [if_neg c3] at H
  have c3b0 : (a0 == 1) = false := beq_eq_false_iff_ne.mpr c3
  have c3b1 : (a0 != 1) = true := bne_iff_ne.mpr c3
  by_cases c4 : a0 = 254
  ·rw [if_pos c4] at H
   have c4b0 : (a0 == 254) = true := beq_iff_eq.mpr c4
   have c4b1 : (a0 != 254) = false := bne_eq_false_iff_eq.mpr c4
   clear c4
   obtain rfl := Option.some.inj H
   go_enter Tryz.func116, Tryz.ntmps116
   go_wp2
   go_ret
   exact ⟨by rfl, by repeat ((exact Drawn0.refl _))⟩
  ·rw [if_neg c4] at H
   have c4b0 : (a0 == 254) = false := beq_eq_false_iff_ne.mpr c4
   have c4b1 : (a0 != 254) = true := bne_iff_ne.mpr c4
   obtain rfl := Option.some.inj H
   go_enter Tryz.func116, Tryz.ntmps116
   go_wp2
   go_ret
   exact ⟨by rfl, by repeat ((exact Drawn0.refl _))⟩
def beadrollref11_Right.j0 : Nat → Bool → ByteArray → Int → Int → Int → ByteArray → Option (Bool)
 | 0, _, _, _, _, _, _ => none
 | k + 1, x42, x141000, x141001, x141002, x141003, x141004 => if x42 = true then (some false) else ((beadrollref11_typed.f x141002 x141004.toList.isEmpty).bind fun t142 => (if t142 = true then ((beadrollref10_Right.f k x141001 x141004).bind fun t143 => (some t143)) else (some true)))
def beadrollref11_Right.f (k : Nat) (a0_0 : ByteArray) (a0_1 : Int) (a0_2 : Int) (a0_3 : Int) (a0_4 : ByteArray) : Option (Bool) := (beadrollref07_Right.f k a0_0).bind fun t141 => (if t141 = true then (if a0_1 < 0 then (beadrollref11_Right.j0 k true a0_0 a0_1 a0_2 a0_3 a0_4) else (if a0_1 > 65535 then (beadrollref11_Right.j0 k true a0_0 a0_1 a0_2 a0_3 a0_4) else (if a0_2 < 0 then (beadrollref11_Right.j0 k true a0_0 a0_1 a0_2 a0_3 a0_4) else (if a0_2 > 65535 then (beadrollref11_Right.j0 k true a0_0 a0_1 a0_2 a0_3 a0_4) else (if a0_3 < 0 then (beadrollref11_Right.j0 k true a0_0 a0_1 a0_2 a0_3 a0_4) else (if a0_3 > 2147483647 then (beadrollref11_Right.j0 k true a0_0 a0_1 a0_2 a0_3 a0_4) else (beadrollref11_Right.j0 k (decide ((a0_4.size : Int) > 65535)) a0_0 a0_1 a0_2 a0_3 a0_4))))))) else (beadrollref11_Right.j0 k true a0_0 a0_1 a0_2 a0_3 a0_4))
set_option maxHeartbeats 8000000 in
set_option maxRecDepth 100000 in
theorem beadrollref11_Right.calls (k : Nat) (a0_0 : ByteArray) (a0_1 : Int) (a0_2 : Int) (a0_3 : Int) (a0_4 : ByteArray) (r : Bool) (w : World) (h : beadrollref11_Right.f k a0_0 a0_1 a0_2 a0_3 a0_4 = some r) :
    Calls Tryz.prog 68 #[.agg #[.string a0_0, .int .i64 a0_1, .int .i64 a0_2, .int .i64 a0_3, .string a0_4]] w fun e w' => e = .returned (.bool r) ∧ Below w.heap.size w w' := by
  have hu35 := Tryz.underlying35
  have HB := Aside0.mk (Below.refl w.heap.size w)
  have H : ((beadrollref07_Right.f k a0_0).bind fun t141 => (if t141 = true then (if a0_1 < 0 then (beadrollref11_Right.j0 k true a0_0 a0_1 a0_2 a0_3 a0_4) else (if a0_1 > 65535 then (beadrollref11_Right.j0 k true a0_0 a0_1 a0_2 a0_3 a0_4) else (if a0_2 < 0 then (beadrollref11_Right.j0 k true a0_0 a0_1 a0_2 a0_3 a0_4) else (if a0_2 > 65535 then (beadrollref11_Right.j0 k true a0_0 a0_1 a0_2 a0_3 a0_4) else (if a0_3 < 0 then (beadrollref11_Right.j0 k true a0_0 a0_1 a0_2 a0_3 a0_4) else (if a0_3 > 2147483647 then (beadrollref11_Right.j0 k true a0_0 a0_1 a0_2 a0_3 a0_4) else (beadrollref11_Right.j0 k (decide ((a0_4.size : Int) > 65535)) a0_0 a0_1 a0_2 a0_3 a0_4))))))) else (beadrollref11_Right.j0 k true a0_0 a0_1 a0_2 a0_3 a0_4))) = some r := h
  clear h
  have HC2 := Aside0.mk H
  clear H
  go_enter Tryz.func68, Tryz.ntmps68
  go_upto_region 1 with ((((with_reducible refine gate_dst (N := 1) rfl ?_); (try (refine gate_guard (by rfl) ?_; dsimp only)); refine box_event ?hg (N := 1) ?hd (cs := #[.string a0_0, .int .i64 a0_1, .int .i64 a0_2, .int .i64 a0_3, .string a0_4]) (t := 35) ?hr ?_; (case hd => rfl); (case hg => rfl); (case hr => (go_simp; done)); intro gb140 hg w3 hbox hb; have BK140 := Aside0.mk (hbox); have GW140 := Aside0.mk (ge_ hg (below_size HB.out)); have GE140 := Aside0.mk (ge_ hg (below_size HB.out)); replace HB := Aside0.mk (below_step HB.out hb); clear hb hbox hg)))
  go_cut [42] (fun v42 wc => ∃ (kq : Nat) (x42_1 : Bool), v42 = .bool x42_1 ∧ Aside0 (beadrollref11_Right.j0 kq x42_1 a0_0 a0_1 a0_2 a0_3 a0_4 = some r) ∧ Aside0 (kq ≤ k) ∧ Aside0 (wc.heap[gb140]? = some (.cells #[.string a0_0, .int .i64 a0_1, .int .i64 a0_2, .int .i64 a0_3, .string a0_4] 35 (0, 0))) ∧ Aside0 (Below w.heap.size w wc))
  case first =>
   have H := HC2.out
   clear HC2
   obtain ⟨t141, A4, H⟩ := bnd_ H
   by_cases c5 : t141 = true
   focus
    subst c5
    rw [if_pos rfl] at H
    by_cases c6 : a0_1 < 0
    focus
     rw [if_pos c6] at H
     have c6b0 : decide (a0_1 < 0) = true := decide_eq_true c6
    rotate_left
    focus
     rw [if_neg c6] at H
     have c6b0 : decide (a0_1 < 0) = false := decide_eq_false c6
    rotate_left
    all_goals
     clear c6
     (skip)
    rotate_left
    focus
     by_cases c10 : a0_1 > 65535
     focus
      rw [if_pos c10] at H
      have c10b0 : decide (65535 < a0_1) = true := decide_eq_true c10
      clear c10
     rotate_left
     focus
      rw [if_neg c10] at H
      have c10b0 : decide (65535 < a0_1) = false := decide_eq_false c10
      clear c10
      by_cases c14 : a0_2 < 0
      focus
       rw [if_pos c14] at H
       have c14b0 : decide (a0_2 < 0) = true := decide_eq_true c14
       clear c14
      rotate_left
      focus
       rw [if_neg c14] at H
       have c14b0 : decide (a0_2 < 0) = false := decide_eq_false c14
       clear c14
       by_cases c18 : a0_2 > 65535
       focus
        rw [if_pos c18] at H
        have c18b0 : decide (65535 < a0_2) = true := decide_eq_true c18
        clear c18
       rotate_left
       focus
        rw [if_neg c18] at H
        have c18b0 : decide (65535 < a0_2) = false := decide_eq_false c18
        clear c18
        by_cases c22 : a0_3 < 0
        focus
         rw [if_pos c22] at H
         have c22b0 : decide (a0_3 < 0) = true := decide_eq_true c22
         clear c22
        rotate_left
        focus
         rw [if_neg c22] at H
         have c22b0 : decide (a0_3 < 0) = false := decide_eq_false c22
         clear c22
         by_cases c26 : a0_3 > 2147483647
         focus
          rw [if_pos c26] at H
          have c26b0 : decide (2147483647 < a0_3) = true := decide_eq_true c26
         rotate_left
         focus
          rw [if_neg c26] at H
          have c26b0 : decide (2147483647 < a0_3) = false := decide_eq_false c26
         rotate_left
         all_goals
          clear c26
        rotate_left 2
       rotate_left 3
      rotate_left 4
     rotate_left 5
    rotate_left 6
   rotate_left 7
   focus
    replace c5 := Bool.eq_false_iff.mpr c5
    subst c5
    rw [if_neg ff_] at H
   rotate_left
   all_goals
    have H' := Aside0.mk H
    clear H
    obtain ⟨hcz7_0, hcz7_1, hcz7_2, hcz7_3, hcz7_4, hfz7_0, hfz7_1, hfz7_2, hfz7_3, hfz7_4⟩ := z5_ BK140.out
   iterate 7
    focus
     go_wp2_with (((refine gl_ (some 5) Tryz.func67 #[.string a0_0] ?_; (with_reducible refine (beadrollref07_Right.calls k a0_0 _ _ A4.out).mono ?_); rintro e w8 ⟨rfl, hb⟩; refine ⟨_, rfl, ?_⟩; replace BK140 := Aside0.mk (blk_below (by ((exact BK140.out))) hb); replace HB := Aside0.mk (below_step HB.out hb); (try clear hb); obtain ⟨hcz9_0, hcz9_1, hcz9_2, hcz9_3, hcz9_4, hfz9_0, hfz9_1, hfz9_2, hfz9_3, hfz9_4⟩ := z5_ BK140.out)))
     go_meet
    rotate_left
   rotate_left
   ·case rel => exact ⟨_, (true), (by rfl), H', ⟨by omega⟩, ⟨by (with_reducible repeat ((refine blk_drewN ?_ _))); exact BK140.out⟩, ⟨HB.out⟩⟩
   ·case rel => exact ⟨_, (true), (by rfl), H', ⟨by omega⟩, ⟨by (with_reducible repeat ((refine blk_drewN ?_ _))); exact BK140.out⟩, ⟨HB.out⟩⟩
   ·case rel => exact ⟨_, (true), (by rfl), H', ⟨by omega⟩, ⟨by (with_reducible repeat ((refine blk_drewN ?_ _))); exact BK140.out⟩, ⟨HB.out⟩⟩
   ·case rel => exact ⟨_, (true), (by rfl), H', ⟨by omega⟩, ⟨by (with_reducible repeat ((refine blk_drewN ?_ _))); exact BK140.out⟩, ⟨HB.out⟩⟩
   ·case rel => exact ⟨_, (true), (by rfl), H', ⟨by omega⟩, ⟨by (with_reducible repeat ((refine blk_drewN ?_ _))); exact BK140.out⟩, ⟨HB.out⟩⟩
   ·case rel => exact ⟨_, (true), (by rfl), H', ⟨by omega⟩, ⟨by (with_reducible repeat ((refine blk_drewN ?_ _))); exact BK140.out⟩, ⟨HB.out⟩⟩
   ·case rel => exact ⟨_, (decide ((a0_4.size : Int) > 65535)), (by rfl), H', ⟨by omega⟩, ⟨by (with_reducible repeat ((refine blk_drewN ?_ _))); exact BK140.out⟩, ⟨HB.out⟩⟩
   ·go_wp2_with (((refine gl_ (some 5) Tryz.func67 #[.string a0_0] ?_; (with_reducible refine (beadrollref07_Right.calls k a0_0 _ _ A4.out).mono ?_); rintro e w34 ⟨rfl, hb⟩; refine ⟨_, rfl, ?_⟩; replace BK140 := Aside0.mk (blk_below (by ((exact BK140.out))) hb); replace HB := Aside0.mk (below_step HB.out hb); (try clear hb))))
    go_meet
    case rel => exact ⟨_, (true), (by rfl), H', ⟨by omega⟩, ⟨by (with_reducible repeat ((refine blk_drewN ?_ _))); exact BK140.out⟩, ⟨HB.out⟩⟩
  case rest =>
   clear HC2
   obtain ⟨kq, x42_1, rfl, HA, HJ1, BK140, HB⟩ := hcut
   cases kq with
   | zero => exact absurd HA.out (by simp [beadrollref11_Right.j0])
   | succ kj1 =>
    have H := HA.out
    clear HA
    simp only [beadrollref11_Right.j0] at H
    by_cases c35 : x42_1 = true
    focus
     subst c35
     rw [if_pos rfl] at H
     obtain rfl := Option.some.inj H
     go_wp2
    rotate_left
    focus
     replace c35 := Bool.eq_false_iff.mpr c35
     subst c35
     rw [if_neg ff_] at H
     obtain ⟨t142, A36, H⟩ := bnd_ H
     by_cases c37 : t142 = true
     focus
      subst c37
      rw [if_pos rfl] at H
      obtain ⟨t143, A38, H⟩ := bnd_ H
     rotate_left
     focus
      replace c37 := Bool.eq_false_iff.mpr c37
      subst c37
      rw [if_neg ff_] at H
     rotate_left
     all_goals
      obtain rfl := Option.some.inj H
      obtain ⟨hcz39_0, hcz39_1, hcz39_2, hcz39_3, hcz39_4, hfz39_0, hfz39_1, hfz39_2, hfz39_3, hfz39_4⟩ := z5_ BK140.out
     focus
      go_wp2_with (first | (refine gl_ (some 48) Tryz.func116 #[.int .i64 a0_2, .bool a0_4.toList.isEmpty] ?_; (with_reducible refine (beadrollref11_typed.calls a0_2 a0_4.toList.isEmpty _ _ A36.out).mono ?_); rintro e w' ⟨rfl, ⟨nd, rfl⟩⟩; refine ⟨_, rfl, ?_⟩) | (go_at_call 117; (with_reducible refine (beadrollref10_Right.calls kj1 a0_1 a0_4 t143 _ A38.out).mono ?_); rintro e w40 ⟨rfl, hb⟩; replace BK140 := Aside0.mk (blk_below (by ((exact BK140.out))) hb); replace HB := Aside0.mk (below_step (by repeat ((with_reducible first | exact HB.out | apply pw_below_drewN))) hb); (try clear hb)))
     rotate_left
     focus
      go_wp2_with (((refine gl_ (some 48) Tryz.func116 #[.int .i64 a0_2, .bool a0_4.toList.isEmpty] ?_; (with_reducible refine (beadrollref11_typed.calls a0_2 a0_4.toList.isEmpty _ _ A36.out).mono ?_); rintro e w' ⟨rfl, ⟨nd, rfl⟩⟩; refine ⟨_, rfl, ?_⟩)))
     rotate_left
    rotate_left 2
    all_goals
     go_ret
     exact ⟨by rfl, by repeat ((with_reducible first | exact HB.out | apply pw_below_drewN))⟩
def beadrollref11_Said.f (k : Nat) (a0_0 : ByteArray) (a0_1 : Int) (a0_2 : Int) (a0_3 : Int) (a0_4 : ByteArray) : Option (ByteArray) := (beadrollref10_Right.f k a0_1 a0_4).bind fun t145 => (if t145 = true then ((beadrollref10_Fold.f k a0_1 a0_4).bind fun t146 => (some t146)) else (some a0_4))
set_option maxHeartbeats 8000000 in
set_option maxRecDepth 100000 in
theorem beadrollref11_Said.calls (k : Nat) (a0_0 : ByteArray) (a0_1 : Int) (a0_2 : Int) (a0_3 : Int) (a0_4 : ByteArray) (r : ByteArray) (w : World) (h : beadrollref11_Said.f k a0_0 a0_1 a0_2 a0_3 a0_4 = some r) :
    Calls Tryz.prog 137 #[.agg #[.string a0_0, .int .i64 a0_1, .int .i64 a0_2, .int .i64 a0_3, .string a0_4]] w fun e w' => e = .returned (.string r) ∧ Below w.heap.size w w' := by
  have hu35 := Tryz.underlying35
  have HB := Aside0.mk (Below.refl w.heap.size w)
  have H : ((beadrollref10_Right.f k a0_1 a0_4).bind fun t145 => (if t145 = true then ((beadrollref10_Fold.f k a0_1 a0_4).bind fun t146 => (some t146)) else (some a0_4))) = some r := h
  clear h
  obtain ⟨t145, A2, H⟩ := bnd_ H
  by_cases c3 : t145 = true
  focus
   subst c3
   rw [if_pos rfl] at H
   obtain ⟨t146, A4, H⟩ := bnd_ H
  rotate_left
  focus
   replace c3 := Bool.eq_false_iff.mpr c3
   subst c3
   rw [if_neg ff_] at H
  rotate_left
  all_goals
   obtain rfl := Option.some.inj H
   go_enter Tryz.func137, Tryz.ntmps137
  focus
   go_wp2_with (first | ((with_reducible refine gate_dst (N := 1) rfl ?_); refine box_event ?hg (N := 1) ?hd (cs := #[.string a0_0, .int .i64 a0_1, .int .i64 a0_2, .int .i64 a0_3, .string a0_4]) (t := 35) ?hr ?_; (case hd => rfl); (case hg => rfl); (case hr => (go_simp; done)); intro gb144 hg w5 hbox hb; have BK144 := Aside0.mk (hbox); have GW144 := Aside0.mk (ge_ hg (below_size HB.out)); have GE144 := Aside0.mk (ge_ hg (below_size HB.out)); replace HB := Aside0.mk (below_step HB.out hb); clear hb hbox hg; obtain ⟨hcz6_0, hcz6_1, hcz6_2, hcz6_3, hcz6_4, hfz6_0, hfz6_1, hfz6_2, hfz6_3, hfz6_4⟩ := z5_ BK144.out) | (refine gl_ (some 7) Tryz.func117 #[.int .i64 a0_1, .string a0_4] ?_; (with_reducible refine (beadrollref10_Right.calls k a0_1 a0_4 _ _ A2.out).mono ?_); rintro e w7 ⟨rfl, hb⟩; refine ⟨_, rfl, ?_⟩; replace BK144 := Aside0.mk (blk_below (by ((exact BK144.out))) hb); replace HB := Aside0.mk (below_step HB.out hb); (try clear hb); obtain ⟨hcz8_0, hcz8_1, hcz8_2, hcz8_3, hcz8_4, hfz8_0, hfz8_1, hfz8_2, hfz8_3, hfz8_4⟩ := z5_ BK144.out) | (refine gl_ (some 15) Tryz.func178 #[.int .i64 a0_1, .string a0_4] ?_; (with_reducible refine (beadrollref10_Fold.calls k a0_1 a0_4 t146 _ A4.out).mono ?_); rintro e w9 ⟨rfl, hb⟩; refine ⟨_, rfl, ?_⟩; replace BK144 := Aside0.mk (blk_below (by ((exact BK144.out))) hb); replace HB := Aside0.mk (below_step HB.out hb); (try clear hb)))
  rotate_left
  focus
   go_wp2_with (first | ((with_reducible refine gate_dst (N := 1) rfl ?_); refine box_event ?hg (N := 1) ?hd (cs := #[.string a0_0, .int .i64 a0_1, .int .i64 a0_2, .int .i64 a0_3, .string a0_4]) (t := 35) ?hr ?_; (case hd => rfl); (case hg => rfl); (case hr => (go_simp; done)); intro gb144 hg w10 hbox hb; have BK144 := Aside0.mk (hbox); have GW144 := Aside0.mk (ge_ hg (below_size HB.out)); have GE144 := Aside0.mk (ge_ hg (below_size HB.out)); replace HB := Aside0.mk (below_step HB.out hb); clear hb hbox hg; obtain ⟨hcz11_0, hcz11_1, hcz11_2, hcz11_3, hcz11_4, hfz11_0, hfz11_1, hfz11_2, hfz11_3, hfz11_4⟩ := z5_ BK144.out) | (refine gl_ (some 7) Tryz.func117 #[.int .i64 a0_1, .string a0_4] ?_; (with_reducible refine (beadrollref10_Right.calls k a0_1 a0_4 _ _ A2.out).mono ?_); rintro e w12 ⟨rfl, hb⟩; refine ⟨_, rfl, ?_⟩; replace BK144 := Aside0.mk (blk_below (by ((exact BK144.out))) hb); replace HB := Aside0.mk (below_step HB.out hb); (try clear hb); obtain ⟨hcz13_0, hcz13_1, hcz13_2, hcz13_3, hcz13_4, hfz13_0, hfz13_1, hfz13_2, hfz13_3, hfz13_4⟩ := z5_ BK144.out))
  rotate_left
  all_goals
   go_ret
   exact ⟨by rfl, HB.out⟩
def beadrollref11_sign.f (a0 : Int) (a1 : Int) : Option (Int) := if a0 < a1 then (some (-1)) else (if a0 > a1 then (some 1) else (some 0))
set_option maxHeartbeats 8000000 in
set_option maxRecDepth 100000 in
theorem beadrollref11_sign.calls (a0 : Int) (a1 : Int) (r : Int) (w : World) (h : beadrollref11_sign.f a0 a1 = some r) :
  Calls Tryz.prog 136 #[.int .i64 a0, .int .i64 a1] w fun e w' => e = .returned (.int .i64 r) ∧ Drawn0 w w' := by
 have H : (if a0 < a1 then (some (-1)) else (if a0 > a1 then (some 1) else (some 0))) = some r := h
 clear h
 by_cases c3 : a0 < a1
 ·rw [if_pos c3] at H
  have c3b0 : decide (a0 < a1) = true := decide_eq_true c3
  clear c3
  obtain rfl := Option.some.inj H
  go_enter Tryz.func136, Tryz.ntmps136
  go_wp2
  go_ret
  exact ⟨by rfl, by repeat ((exact Drawn0.refl _))⟩
 ·rw [if_neg c3] at H
  have c3b0 : decide (a0 < a1) = false := decide_eq_false c3
  clear c3
  by_cases c4 : a0 > a1
  ·rw [if_pos c4] at H
   have c4b0 : decide (a1 < a0) = true := decide_eq_true c4
   clear c4
   obtain rfl := Option.some.inj H
   go_enter Tryz.func136, Tryz.ntmps136
   go_wp2
   go_ret
   exact ⟨by rfl, by repeat ((exact Drawn0.refl _))⟩
  ·rw [if_neg c4] at H
   have c4b0 : decide (a1 < a0) = false := decide_eq_false c4
   clear c4
   obtain rfl := Option.some.inj H
   go_enter Tryz.func136, Tryz.ntmps136
   go_wp2
   go_ret
   exact ⟨by rfl, by repeat ((exact Drawn0.refl _))⟩
end Go.Proofs.YtjmpckommjlnlaaGreat.PRr
namespace Go.Proofs.YtjmpckommjlnlaaGreat.PRr
open Go.RowKit Go.Proofs.YtjmpckommjlnlaaGreatW.PrintWords Go.Proofs.YtjmpckommjlnlaaGreatW.PrintLast Go.Proofs.YtjmpckommjlnlaaGreatW.PrintMore Go.Proofs.YtjmpckommjlnlaaGreat.Given Go.Proofs.YtjmpckommjlnlaaGreat.PRd
attribute [local go_sem] max2_int min2_int max_two min_two max_three min_three max_four min_four   -- for this text's walks alone
set_option linter.unusedVariables false
set_option linter.unusedSimpArgs false
mutual
def beadrollref11_Compare.j0 : Nat → Int → ByteArray → Int → Int → Int → ByteArray → ByteArray → Int → Int → Int → ByteArray → Option (Int)
 | 0, _, _, _, _, _, _, _, _, _, _, _ => none
 | k + 1, x5, x148000, x148001, x148002, x148003, x148004, x149000, x149001, x149002, x149003, x149004 => if x5 = 0 then ((beadrollref11_sign.f x148002 x149002).bind fun t151 => (beadrollref11_Compare.j1 k t151 x148000 x148001 x148002 x148003 x148004 x149000 x149001 x149002 x149003 x149004)) else (beadrollref11_Compare.j1 k x5 x148000 x148001 x148002 x148003 x148004 x149000 x149001 x149002 x149003 x149004)
def beadrollref11_Compare.j1 : Nat → Int → ByteArray → Int → Int → Int → ByteArray → ByteArray → Int → Int → Int → ByteArray → Option (Int)
 | 0, _, _, _, _, _, _, _, _, _, _, _ => none
 | k + 1, x5, x148000, x148001, x148002, x148003, x148004, x149000, x149001, x149002, x149003, x149004 => if x5 = 0 then ((beadrollref11_Said.f k x148000 x148001 x148002 x148003 x148004).bind fun t152 => ((beadrollref11_Said.f k x149000 x149001 x149002 x149003 x149004).bind fun t153 => (if (Op.bytesLess t152.toList t153.toList) = true then (some (-1)) else (if (Op.bytesLess t153.toList t152.toList) = true then (some 1) else (some 0))))) else (some x5)
end
def beadrollref11_Compare.f (k : Nat) (a0_0 : ByteArray) (a0_1 : Int) (a0_2 : Int) (a0_3 : Int) (a0_4 : ByteArray) (a1_0 : ByteArray) (a1_1 : Int) (a1_2 : Int) (a1_3 : Int) (a1_4 : ByteArray) : Option (Int) := (beadrollref07_Compare.f k a0_0 a1_0).bind fun t149 => (if t149 = 0 then ((beadrollref11_sign.f a0_1 a1_1).bind fun t150 => (beadrollref11_Compare.j0 k t150 a0_0 a0_1 a0_2 a0_3 a0_4 a1_0 a1_1 a1_2 a1_3 a1_4)) else (beadrollref11_Compare.j0 k t149 a0_0 a0_1 a0_2 a0_3 a0_4 a1_0 a1_1 a1_2 a1_3 a1_4))
set_option maxHeartbeats 8000000 in
set_option maxRecDepth 100000 in
theorem beadrollref11_Compare.calls (k : Nat) (a0_0 : ByteArray) (a0_1 : Int) (a0_2 : Int) (a0_3 : Int) (a0_4 : ByteArray) (a1_0 : ByteArray) (a1_1 : Int) (a1_2 : Int) (a1_3 : Int) (a1_4 : ByteArray) (r : Int) (w : World) (h : beadrollref11_Compare.f k a0_0 a0_1 a0_2 a0_3 a0_4 a1_0 a1_1 a1_2 a1_3 a1_4 = some r) :
    Calls Tryz.prog 89 #[.agg #[.string a0_0, .int .i64 a0_1, .int .i64 a0_2, .int .i64 a0_3, .string a0_4], .agg #[.string a1_0, .int .i64 a1_1, .int .i64 a1_2, .int .i64 a1_3, .string a1_4]] w fun e w' => e = .returned (.int .i64 r) ∧ Below w.heap.size w w' := by
  have hu35 := Tryz.underlying35
  have HB := Aside0.mk (Below.refl w.heap.size w)
  have H : ((beadrollref07_Compare.f k a0_0 a1_0).bind fun t149 => (if t149 = 0 then ((beadrollref11_sign.f a0_1 a1_1).bind fun t150 => (beadrollref11_Compare.j0 k t150 a0_0 a0_1 a0_2 a0_3 a0_4 a1_0 a1_1 a1_2 a1_3 a1_4)) else (beadrollref11_Compare.j0 k t149 a0_0 a0_1 a0_2 a0_3 a0_4 a1_0 a1_1 a1_2 a1_3 a1_4))) = some r := h
  clear h
  obtain ⟨t149, A3, H⟩ := bnd_ H
  have HC4 := Aside0.mk H
  clear H
  go_enter Tryz.func89, Tryz.ntmps89
  go_upto_if 14 with (first | ((with_reducible refine gate_dst (N := 2) rfl ?_); refine box_event ?hg (N := 2) ?hd (cs := #[.string a0_0, .int .i64 a0_1, .int .i64 a0_2, .int .i64 a0_3, .string a0_4]) (t := 35) ?hr ?_; (case hd => rfl); (case hg => rfl); (case hr => (go_simp; done)); intro gb147 hg w5 hbox hb; have BK147 := Aside0.mk (hbox); have GW147 := Aside0.mk (ge_ hg (below_size HB.out)); have GE147 := Aside0.mk (ge_ hg (below_size HB.out)); replace HB := Aside0.mk (below_step HB.out hb); clear hb hbox hg) | ((with_reducible refine gate_dst (N := 3) rfl ?_); refine box_event ?hg (N := 3) ?hd (cs := #[.string a1_0, .int .i64 a1_1, .int .i64 a1_2, .int .i64 a1_3, .string a1_4]) (t := 35) ?hr ?_; (case hd => rfl); (case hg => rfl); (case hr => (go_simp; done)); intro gb148 hg w6 hbox hb; have BK148 := Aside0.mk (hbox); have GW148 := Aside0.mk (ge_ hg (below_size HB.out)); have GE148 := Aside0.mk (ge_ hg (below_size HB.out)); have NB147_148 := Aside0.mk (nl_ hg (by ((exact BK147.out)))); have NB148_147 := Aside0.mk (nr_ hg (by ((exact BK147.out)))); replace BK147 := Aside0.mk (blk_below (by ((exact BK147.out))) hb); replace HB := Aside0.mk (below_step HB.out hb); clear hb hbox hg; have hnb7 := NB147_148.out; have hnc7 := NB148_147.out; obtain ⟨hcz8_0, hcz8_1, hcz8_2, hcz8_3, hcz8_4, hfz8_0, hfz8_1, hfz8_2, hfz8_3, hfz8_4⟩ := z5_ BK147.out; obtain ⟨hcz9_0, hcz9_1, hcz9_2, hcz9_3, hcz9_4, hfz9_0, hfz9_1, hfz9_2, hfz9_3, hfz9_4⟩ := z5_ BK148.out) | (refine gl_ (some 12) Tryz.func135 #[.string a0_0, .string a1_0] ?_; (with_reducible refine (beadrollref07_Compare.calls k a0_0 a1_0 t149 _ A3.out).mono ?_); rintro e w10 ⟨rfl, hb⟩; refine ⟨_, rfl, ?_⟩; replace BK147 := Aside0.mk (blk_below (by ((exact BK147.out))) hb); replace BK148 := Aside0.mk (blk_below (by ((exact BK148.out))) hb); replace HB := Aside0.mk (below_step HB.out hb); (try clear hb)))
  go_cut [5] (fun v5 wc => ∃ (kq : Nat) (x5_3 : Int), v5 = .int .i64 x5_3 ∧ Aside0 (beadrollref11_Compare.j0 kq x5_3 a0_0 a0_1 a0_2 a0_3 a0_4 a1_0 a1_1 a1_2 a1_3 a1_4 = some r) ∧ Aside0 (kq ≤ k) ∧ Aside0 (wc.heap[gb147]? = some (.cells #[.string a0_0, .int .i64 a0_1, .int .i64 a0_2, .int .i64 a0_3, .string a0_4] 35 (0, 0))) ∧ Aside0 (wc.heap[gb148]? = some (.cells #[.string a1_0, .int .i64 a1_1, .int .i64 a1_2, .int .i64 a1_3, .string a1_4] 35 (0, 0))) ∧ Aside0 (Below w.heap.size w wc))
  case first =>
   have H := HC4.out
   clear HC4
   by_cases c11 : t149 = 0
   focus
    rw [if_pos c11] at H
    have c11b0 : (t149 == 0) = true := beq_iff_eq.mpr c11
    have c11b1 : (t149 != 0) = false := bne_eq_false_iff_eq.mpr c11
    clear c11
   rotate_left
   focus
    rw [if_neg c11] at H
    have c11b0 : (t149 == 0) = false := beq_eq_false_iff_ne.mpr c11
    have c11b1 : (t149 != 0) = true := bne_iff_ne.mpr c11
   rotate_left
   all_goals
    ((rw [c11b0]))
   ·obtain ⟨t150, A12, H⟩ := bnd_ H
    have H' := Aside0.mk H
    clear H
    have hnb13 := NB147_148.out
    have hnc13 := NB148_147.out
    obtain ⟨hcz14_0, hcz14_1, hcz14_2, hcz14_3, hcz14_4, hfz14_0, hfz14_1, hfz14_2, hfz14_3, hfz14_4⟩ := z5_ BK147.out
    obtain ⟨hcz15_0, hcz15_1, hcz15_2, hcz15_3, hcz15_4, hfz15_0, hfz15_1, hfz15_2, hfz15_3, hfz15_4⟩ := z5_ BK148.out
    go_wp2_with (((refine gl_ (some 19) Tryz.func136 #[.int .i64 a0_1, .int .i64 a1_1] ?_; (with_reducible refine (beadrollref11_sign.calls a0_1 a1_1 t150 _ A12.out).mono ?_); rintro e w' ⟨rfl, ⟨nd, rfl⟩⟩; refine ⟨_, rfl, ?_⟩)))
    go_meet
    case rel => exact ⟨_, (t150), (by rfl), H', ⟨by omega⟩, ⟨by (with_reducible repeat ((refine blk_drewN ?_ _))); exact BK147.out⟩, ⟨by (with_reducible repeat ((refine blk_drewN ?_ _))); exact BK148.out⟩, ⟨by repeat ((with_reducible first | exact HB.out | apply pw_below_drewN))⟩⟩
   ·have H' := Aside0.mk H
    clear H
    go_wp2
    go_meet
    case rel => exact ⟨_, (t149), (by rfl), H', ⟨by omega⟩, ⟨by (with_reducible repeat ((refine blk_drewN ?_ _))); exact BK147.out⟩, ⟨by (with_reducible repeat ((refine blk_drewN ?_ _))); exact BK148.out⟩, ⟨HB.out⟩⟩
  case rest =>
   clear HC4
   (try clear hcz8_0)
   (try clear hcz8_1)
   (try clear hcz8_2)
   (try clear hcz8_3)
   (try clear hcz8_4)
   (try clear hcz9_0)
   (try clear hcz9_1)
   (try clear hcz9_2)
   (try clear hcz9_3)
   (try clear hcz9_4)
   (try clear hfz8_0)
   (try clear hfz8_1)
   (try clear hfz8_2)
   (try clear hfz8_3)
   (try clear hfz8_4)
   (try clear hfz9_0)
   (try clear hfz9_1)
   (try clear hfz9_2)
   (try clear hfz9_3)
   (try clear hfz9_4)
   obtain ⟨kq, x5_3, rfl, HA, HJ3, BK147, BK148, HB⟩ := hcut
   cases kq with
   | zero => exact absurd HA.out (by simp [beadrollref11_Compare.j0])
   | succ kj3 =>
    have H := HA.out
    clear HA
    simp only [beadrollref11_Compare.j0] at H
    have HC16 := Aside0.mk H
    clear H
    go_upto_if 21 with (fail)
    go_cut [5] (fun v5 wc => ∃ (kq : Nat) (x5_15 : Int), v5 = .int .i64 x5_15 ∧ Aside0 (beadrollref11_Compare.j1 kq x5_15 a0_0 a0_1 a0_2 a0_3 a0_4 a1_0 a1_1 a1_2 a1_3 a1_4 = some r) ∧ Aside0 (kq ≤ kj3) ∧ Aside0 (wc.heap[gb147]? = some (.cells #[.string a0_0, .int .i64 a0_1, .int .i64 a0_2, .int .i64 a0_3, .string a0_4] 35 (0, 0))) ∧ Aside0 (wc.heap[gb148]? = some (.cells #[.string a1_0, .int .i64 a1_1, .int .i64 a1_2, .int .i64 a1_3, .string a1_4] 35 (0, 0))) ∧ Aside0 (Below w.heap.size w wc))
    case first =>
     have H := HC16.out
     clear HC16
     by_cases c17 : x5_3 = 0
     focus
      rw [if_pos c17] at H
      have c17b0 : (x5_3 == 0) = true := beq_iff_eq.mpr c17
      have c17b1 : (x5_3 != 0) = false := bne_eq_false_iff_eq.mpr c17
      clear c17
     rotate_left
     focus
      rw [if_neg c17] at H
      have c17b0 : (x5_3 == 0) = false := beq_eq_false_iff_ne.mpr c17
      have c17b1 : (x5_3 != 0) = true := bne_iff_ne.mpr c17
     rotate_left
     all_goals
      ((rw [c17b0]))
     ·obtain ⟨t151, A18, H⟩ := bnd_ H
      have H' := Aside0.mk H
      clear H
      have hnb19 := NB147_148.out
      have hnc19 := NB148_147.out
      obtain ⟨hcz20_0, hcz20_1, hcz20_2, hcz20_3, hcz20_4, hfz20_0, hfz20_1, hfz20_2, hfz20_3, hfz20_4⟩ := z5_ BK147.out
      obtain ⟨hcz21_0, hcz21_1, hcz21_2, hcz21_3, hcz21_4, hfz21_0, hfz21_1, hfz21_2, hfz21_3, hfz21_4⟩ := z5_ BK148.out
      go_wp2_with (((refine gl_ (some 26) Tryz.func136 #[.int .i64 a0_2, .int .i64 a1_2] ?_; (with_reducible refine (beadrollref11_sign.calls a0_2 a1_2 t151 _ A18.out).mono ?_); rintro e w' ⟨rfl, ⟨nd, rfl⟩⟩; refine ⟨_, rfl, ?_⟩)))
      go_meet
      case rel => exact ⟨_, (t151), (by rfl), H', ⟨by have := HJ3.out; omega⟩, ⟨by (with_reducible repeat ((refine blk_drewN ?_ _))); exact BK147.out⟩, ⟨by (with_reducible repeat ((refine blk_drewN ?_ _))); exact BK148.out⟩, ⟨by repeat ((with_reducible first | exact HB.out | apply pw_below_drewN))⟩⟩
     ·have H' := Aside0.mk H
      clear H
      go_wp2
      go_meet
      case rel => exact ⟨_, (x5_3), (by rfl), H', ⟨by have := HJ3.out; omega⟩, ⟨by (with_reducible repeat ((refine blk_drewN ?_ _))); exact BK147.out⟩, ⟨by (with_reducible repeat ((refine blk_drewN ?_ _))); exact BK148.out⟩, ⟨HB.out⟩⟩
    case rest =>
     clear HC16
     obtain ⟨kq, x5_15, rfl, HA, HJ15, BK147, BK148, HB⟩ := hcut
     cases kq with
     | zero => exact absurd HA.out (by simp [beadrollref11_Compare.j1])
     | succ kj15 =>
      have H := HA.out
      clear HA
      simp only [beadrollref11_Compare.j1] at H
      by_cases c22 : x5_15 = 0
      focus
       rw [if_pos c22] at H
       have c22b0 : (x5_15 == 0) = true := beq_iff_eq.mpr c22
       have c22b1 : (x5_15 != 0) = false := bne_eq_false_iff_eq.mpr c22
       clear c22
       obtain ⟨t152, A23, H⟩ := bnd_ H
       obtain ⟨t153, A24, H⟩ := bnd_ H
       by_cases c25 : (Op.bytesLess t152.toList t153.toList) = true
       focus
        rw [if_pos c25] at H
        have c25b0 : (Op.bytesLess t152.toList t153.toList) = true := c25
        have c25b8 : (t153.toList == t152.toList) = false := less_ne c25b0
        clear c25
       rotate_left
       focus
        rw [if_neg c25] at H
        have c25b0 : (Op.bytesLess t152.toList t153.toList) = false := by simpa using c25
        clear c25
        by_cases c29 : (Op.bytesLess t153.toList t152.toList) = true
        focus
         rw [if_pos c29] at H
         have c29b0 : (Op.bytesLess t153.toList t152.toList) = true := c29
         have c29b8 : (t152.toList == t153.toList) = false := less_ne c29b0
        rotate_left
        focus
         rw [if_neg c29] at H
         have c29b0 : (Op.bytesLess t153.toList t152.toList) = false := by simpa using c29
         (try have c29b8 : (t152.toList == t153.toList) = true := less_eq (by assumption) c29b0)
        rotate_left
        all_goals
         clear c29
       rotate_left 2
       all_goals
        obtain rfl := Option.some.inj H
        (try go_wp2)
        replace BK147 := Aside0.mk (blk_drew BK147.out)
        replace BK148 := Aside0.mk (blk_drew BK148.out)
        replace HB := Aside0.mk (below_drew1 HB.out)
        refine start_ (n := 6) (ds := []) (ls 6 0) (by kernel_rfl) rfl rfl (c5_ BK147.out (d5_ BK148.out)) (fun hHeld => ?_)
        generalize wc.drew = w26 at BK147 BK148 HB hHeld ⊢
        refine take_ (i := 0) (N := some 30) (v := ?_) (a' := ?_) (ls 6 1) rfl rfl (by kernel_rfl) (fun _ _ _ h => h) (Or.inl ⟨by rfl, ?_⟩) hHeld ?_ ?_
        rotate_left
        ·rintro w' ⟨s0, s1, s2, s3, s4, s5, s6, s7, s8, s9⟩
         go_simp
         with_reducible rfl
        rotate_left
        ·simp only [Act.put, sA_, sZ_, sS_, i64_w, i32_w]
         rfl
        refine take_ (i := 2) (N := some 32) (v := ?_) (a' := ?_) (ls 6 5) rfl rfl (by kernel_rfl) (fun _ _ _ h => h) (Or.inl ⟨by rfl, ?_⟩) hHeld ?_ ?_
        rotate_left
        ·rintro w' ⟨s0, s1, s2, s3, s4, s5, s6, s7, s8, s9⟩
         go_simp
         with_reducible rfl
        rotate_left
        ·simp only [Act.put, sA_, sZ_, sS_, i64_w, i32_w]
         rfl
        refine one_ (i := 1) (N := some 31) (ls 6 7) rfl rfl (by kernel_rfl) (by decide) (fun K hK => ?_)
        refine gs_ Tryz.func137 #[.agg #[.string a0_0, .int .i64 a0_1, .int .i64 a0_2, .int .i64 a0_3, .string a0_4]] ?_
        with_reducible refine (beadrollref11_Said.calls kj15 a0_0 a0_1 a0_2 a0_3 a0_4 t152 _ A23.out).mono ?_
        rintro e w27 ⟨rfl, hb⟩
        refine ⟨_, rfl, ?_⟩
        replace BK147 := Aside0.mk (blk_below (by ((exact BK147.out))) hb)
        replace BK148 := Aside0.mk (blk_below (by ((exact BK148.out))) hb)
        replace HB := Aside0.mk (below_step HB.out hb)
        (try clear hb)
        refine hK.out _ _ (c5_ BK147.out (d5_ BK148.out)) (fun hHeld => ?_)
        clear hK K
        refine nm_ (N := (some 31)) ?_
        refine one_ (i := 3) (N := some 33) (ls 6 15) rfl rfl (by kernel_rfl) (by decide) (fun K hK => ?_)
        refine gs_ Tryz.func137 #[.agg #[.string a1_0, .int .i64 a1_1, .int .i64 a1_2, .int .i64 a1_3, .string a1_4]] ?_
        with_reducible refine (beadrollref11_Said.calls kj15 a1_0 a1_1 a1_2 a1_3 a1_4 t153 _ A24.out).mono ?_
        rintro e w28 ⟨rfl, hb⟩
        refine ⟨_, rfl, ?_⟩
        replace BK147 := Aside0.mk (blk_below (by ((exact BK147.out))) hb)
        replace BK148 := Aside0.mk (blk_below (by ((exact BK148.out))) hb)
        replace HB := Aside0.mk (below_step HB.out hb)
        (try clear hb)
        refine hK.out _ _ (c5_ BK147.out (d5_ BK148.out)) (fun hHeld => ?_)
        clear hK K
        refine nm_ (N := (some 33)) ?_
        refine pure_ (i := 4) (N := some 6) (v := ?_) (a' := ?_) (ls 6 31) rfl rfl (by kernel_rfl) (fun _ _ _ h => h) (Or.inl ⟨by rfl, ?_⟩) ?_ ?_
        rotate_left
        ·intro w'
         go_simp
         with_reducible rfl
        rotate_left
        ·simp only [Act.put, sA_, sZ_, sS_, i64_w, i32_w]
         rfl
        refine pure_ (i := 5) (N := some 7) (v := ?_) (a' := ?_) (ls 6 63) rfl rfl (by kernel_rfl) (fun _ _ _ h => h) (Or.inl ⟨by rfl, ?_⟩) ?_ ?_
        rotate_left
        ·intro w'
         go_simp
         with_reducible rfl
        rotate_left
        ·simp only [Act.put, sA_, sZ_, sS_, i64_w, i32_w]
         rfl
        refine done_ (by kernel_rfl) ?_
        (try go_wp2)
      rotate_left 3
      focus
       rw [if_neg c22] at H
       have c22b0 : (x5_15 == 0) = false := beq_eq_false_iff_ne.mpr c22
       have c22b1 : (x5_15 != 0) = true := bne_iff_ne.mpr c22
       obtain rfl := Option.some.inj H
       go_wp2
      rotate_left
      all_goals
       go_ret
       exact ⟨by rfl, HB.out⟩
end Go.Proofs.YtjmpckommjlnlaaGreat.PRr
namespace Go.Proofs.YtjmpckommjlnlaaGreat.Rrs
open Go.RowKit Go.Proofs.YtjmpckommjlnlaaGreatW.PrintWords Go.Proofs.YtjmpckommjlnlaaGreatW.PrintLast Go.Proofs.YtjmpckommjlnlaaGreatW.PrintMore Go.Proofs.YtjmpckommjlnlaaGreat.Given Go.Proofs.YtjmpckommjlnlaaGreat.PRd Go.Proofs.YtjmpckommjlnlaaGreat.PRr Go.Proofs.YtjmpckommjlnlaaGreat.Oct Go.Proofs.YtjmpckommjlnlaaGreat.Name Go.Proofs.YtjmpckommjlnlaaGreat.Cmp Go.Proofs.YtjmpckommjlnlaaGreat.NameFacts Go.Proofs.YtjmpckommjlnlaaGreat.RdataFacts Go.Proofs.YtjmpckommjlnlaaGreat.SetLaw
set_option linter.unusedVariables false
theorem sign_f (a b : Int) : beadrollref11_sign.f a b = some (cmpI a b) := by
  unfold beadrollref11_sign.f cmpI
  repeat' split
  all_goals rfl
theorem rsaid_f (x : RR) (hx : x.f4.size ≤ 100000) (k : Nat) (hk : FU + 2000 ≤ k) : beadrollref11_Said.f k x.f0 x.f1 x.f2 x.f3 x.f4 = some (saidR x) := by
  unfold beadrollref11_Said.f saidR
  rw [rright_d x.f1 x.f4 (by omega) k hk, rfold_d x.f1 x.f4 (by omega) k hk]
  simp only [Option.bind_some]
  split <;> rfl
theorem rcmp_eq (x y : RR) (hx : rightB x.f0 = true) (hy : rightB y.f0 = true) (sx : x.f4.size ≤ 100000) (sy : y.f4.size ≤ 100000) (k : Nat) (hk : FU + 4000 ≤ k) : beadrollref11_Compare.f k x.f0 x.f1 x.f2 x.f3 x.f4 y.f0 y.f1 y.f2 y.f3 y.f4 = some (cmpRR x y) := by
  obtain ⟨l, gl, sl, el, kl⟩ := nameK_eq x hx
  obtain ⟨m, gm, sm, em, km⟩ := nameK_eq y hy
  have hk2 : 4000 ≤ k := Nat.le_trans (Nat.le_add_left _ _) hk
  have hF : FU + 2000 ≤ k - 2 := Nat.le_sub_of_add_le (Nat.le_trans (Nat.add_le_add_left (show 2000 + 2 ≤ 4000 by decide) FU) hk)
  generalize hFU : FU + 2000 = F at hF
  have hs1 : ∀ z : RR, z.f4.size ≤ 100000 → beadrollref11_Said.f (k - 2) z.f0 z.f1 z.f2 z.f3 z.f4 = some (saidR z) := fun z hz => rsaid_f z hz (k - 2) (by rw [hFU]; exact hF)
  clear hF hFU hk
  obtain ⟨k, rfl⟩ : ∃ j, k = j + 2 := ⟨k - 2, by omega⟩
  rw [Nat.add_sub_cancel] at hs1
  have hx1 := hs1 x sx
  have hy1 := hs1 y sy
  unfold beadrollref11_Compare.f
  rw [el] at hx1 ⊢
  rw [em] at hy1 ⊢
  rw [rcompare_yes l m gl gm sl sm _ (by omega), Option.bind_some]
  have hc : cmpN l m = cmpL (nameK x) (nameK y) := by rw [kl, km]; rfl
  simp only [beadrollref11_Compare.j0, beadrollref11_Compare.j1, sign_f, hx1, hy1, Option.bind_some, hc]
  unfold cmpRR thenC
  simp only []
  by_cases a0 : cmpL (nameK x) (nameK y) = 0
  · by_cases a1 : cmpI x.f1 y.f1 = 0
    · by_cases a2 : cmpI x.f2 y.f2 = 0
      · simp only [a0, a1, a2, if_true]
        rcases cmp_cases (saidR x).toList (saidR y).toList with ⟨h, e⟩ | ⟨h, e⟩ | ⟨h, e⟩
        · rw [e, if_pos h]
        · rw [e, h, if_neg (by rw [Given.less_self]; decide), if_neg (by rw [Given.less_self]; decide)]
        · rw [e]
          by_cases h2 : Op.bytesLess (saidR x).toList (saidR y).toList = true
          · rw [cmp_lt h2] at e; exact absurd e (by decide)
          · rw [if_neg h2, if_pos h]
      · simp only [a0, a1, a2, if_true, if_false]
    · simp only [a0, a1, if_true, if_false]
  · simp only [a0, if_false]
end Go.Proofs.YtjmpckommjlnlaaGreat.Rrs
namespace Go.Proofs.YtjmpckommjlnlaaGreat.PRr
open Go.RowKit Go.Proofs.YtjmpckommjlnlaaGreatW.PrintWords Go.Proofs.YtjmpckommjlnlaaGreatW.PrintLast Go.Proofs.YtjmpckommjlnlaaGreatW.PrintMore Go.Proofs.YtjmpckommjlnlaaGreat.Given Go.Proofs.YtjmpckommjlnlaaGreat.PRd
attribute [local go_sem] max2_int min2_int max_two min_two max_three min_three max_four min_four   -- for this text's walks alone
set_option linter.unusedVariables false
set_option linter.unusedSimpArgs false
theorem eqA44 (d : Nat) (w : World) (x0 y0 : ByteArray) (x1 y1 : Int) (x2 y2 : Int) (x3 y3 : Int) (x4 y4 : ByteArray) :
  (Op.equalIn (d + 2) 35 (.agg #[.string x0, .int .i64 x1, .int .i64 x2, .int .i64 x3, .string x4]) (.agg #[.string y0, .int .i64 y1, .int .i64 y2, .int .i64 y3, .string y4])).run Tryz.prog w = .ok (x0.toList == y0.toList && (x1 == y1 && (x2 == y2 && (x3 == y3 && (x4.toList == y4.toList))))) w := by
 refine eqA_of Tryz.underlying35 (by kernel_rfl) ?_
 refine eqf_cons (by rfl) (by go_simp; rfl) (by go_simp; rfl) (by go_simp) ?_
 refine eqf_cons (by rfl) (by go_simp; rfl) (by go_simp; rfl) (by go_simp) ?_
 refine eqf_cons (by rfl) (by go_simp; rfl) (by go_simp; rfl) (by go_simp) ?_
 refine eqf_cons (by rfl) (by go_simp; rfl) (by go_simp; rfl) (by go_simp) ?_
 exact eqf_last (by rfl) (by go_simp; rfl) (by go_simp; rfl) (by go_simp)
end Go.Proofs.YtjmpckommjlnlaaGreat.PRr
namespace Go.Proofs.YtjmpckommjlnlaaGreat.PRr
open Go.RowKit Go.Proofs.YtjmpckommjlnlaaGreatW.PrintWords Go.Proofs.YtjmpckommjlnlaaGreatW.PrintLast Go.Proofs.YtjmpckommjlnlaaGreatW.PrintMore Go.Proofs.YtjmpckommjlnlaaGreat.Given Go.Proofs.YtjmpckommjlnlaaGreat.PRd
attribute [local go_sem] max2_int min2_int max_two min_two max_three min_three max_four min_four   -- for this text's walks alone
set_option linter.unusedVariables false
set_option linter.unusedSimpArgs false
def beadrollref11_One.T1 : Bool × List (List Nat × List Nat) := (true, [([], []), ([0], [0]), ([], []), ([2], [2]), ([1, 3], [1, 3]), ([4, 4], [4]), ([5], [5]), ([6, 5], [5, 6]), ([5], [5]), ([8, 5], [5, 8]), ([7, 9, 5], [5, 7, 9]), ([5, 10], [5, 10]), ([11, 5], [11]), ([12], [12]), ([13, 12], [12, 13]), ([12], [12]), ([15, 12], [12, 15]), ([14, 16, 12], [12, 14, 16]), ([12, 17], [12, 17]), ([18, 12], [18]), ([19], [19]), ([20, 19, 19], [19, 20]), ([19], [19]), ([22, 21, 19], [19, 22]), ([21, 23, 19], [19, 21, 23]), ([19, 24], [19, 24]), ([25, 23, 0, 1, 2, 3, 4, 5, 6, 7, 8, 9, 10, 11, 12, 13, 14, 15, 16, 17, 18, 19, 20, 21, 22, 23, 24, 25], [25])])
def beadrollref11_One.B1 : List Nat := [0, 1, 0, 4, 15, 31, 63, 127, 63, 319, 1023, 2047, 4095, 8191, 16383, 8191, 40959, 131071, 262143, 524287, 1048575, 2097151, 1048575, 8388607, 16777215, 33554431, 67108863]
theorem beadrollref11_One.tab1 : rtab .any (opsOf Tryz.f138 1) = beadrollref11_One.T1 := by kernel_rfl
theorem beadrollref11_One.bits1 : waitsOk beadrollref11_One.T1.2 beadrollref11_One.B1 = true := by kernel_rfl
end Go.Proofs.YtjmpckommjlnlaaGreat.PRr
