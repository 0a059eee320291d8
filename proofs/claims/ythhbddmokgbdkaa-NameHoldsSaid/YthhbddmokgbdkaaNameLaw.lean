/- Names as lists of labels: the plain laws. No Go in it. -/
import Derived.Test.YthhbddmokgbdkaaNameFolded
import Derived.Laws.Strings
namespace Go.Proofs.Ythhbddmokgbdkaa.Name
open Go.RowKit Go.Proofs.YthhbddmokgbdkaaW.PrintWords Go.Proofs.Ythhbddmokgbdkaa.Oct
set_option linter.unusedVariables false
set_option linter.unusedSimpArgs false

theorem toList_inj {a b : ByteArray} : a.toList = b.toList ↔ a = b := by
  rw [ByteArray.toList_eq, ByteArray.toList_eq]
  exact ⟨list_inj, fun h => by rw [h]⟩
def good (l : List ByteArray) : Prop := ∀ s ∈ l, 1 ≤ s.size ∧ s.size ≤ 63
/-- The name of some labels. -/
def nameB : List ByteArray → ByteArray
  | [] => rootB
  | s :: l => pieceB 1 s ++ nameB l
theorem piece_size1 (s : ByteArray) : (pieceB 1 s).size = 1 + s.size := by rw [← size_list, piece_list, List.length_append, beB_len, size_list]
theorem name_size (s : ByteArray) (l : List ByteArray) : (nameB (s :: l)).size = 1 + s.size + (nameB l).size := by rw [nameB, ByteArray.size_append, piece_size1]
theorem name_pos : ∀ l, 1 ≤ (nameB l).size
  | [] => Nat.le_refl _
  | s :: l => by rw [name_size]; omega
theorem cut_name (s : ByteArray) (l : List ByteArray) (hs : s.size ≤ 63) : cutOf (nameB (s :: l)) 1 = some (s, nameB l) := cut_piece 1 s (nameB l) (by show s.size < 256; omega)
theorem name_root {s : ByteArray} {l : List ByteArray} : ¬ nameB (s :: l) = rootB := by
  intro h
  have h1 := congrArg ByteArray.size h
  have h2 := name_pos l
  rw [name_size, show rootB.size = 1 from rfl] at h1
  omega
/-- Each label, and what is left behind it. -/
def pairs : List ByteArray → List (ByteArray × ByteArray)
  | [] => []
  | s :: l => (s, nameB l) :: pairs l
theorem pairs_fst : ∀ l, (pairs l).map (·.1) = l
  | [] => rfl
  | s :: l => by rw [pairs, List.map_cons, pairs_fst l]
theorem labs_name : ∀ (l : List ByteArray), good l → labs (nameB l).size (nameB l) = pairs l
  | [], _ => labs_root rfl
  | s :: l, h => by
    have hs := h s (by simp)
    rw [labs_cons name_root (cut_name s l hs.2) (by omega), labs_name l (fun s h' => h s (by simp [h'])), pairs]
theorem end_name : ∀ (l : List ByteArray) (n : ByteArray), l ≠ [] → endIn n (pairs l) = rootB
  | [], _, h => absurd rfl h
  | [s], n, _ => rfl
  | s :: t :: l, n, _ => by
    have h1 : endIn n (pairs (s :: t :: l)) = endIn n (pairs (t :: l)) := by
      unfold endIn
      rw [pairs, pairs, List.getLast?_cons_cons]
    rw [h1, end_name (t :: l) n (by simp)]
theorem end_labs (l : List ByteArray) (h : good l) : endIn (nameB l) (labs (nameB l).size (nameB l)) = rootB := by
  rw [labs_name l h]
  cases l with
  | nil => rfl
  | cons s l => exact end_name _ _ (by simp)
/-- What was cut, put together. -/
theorem cut_back {n s r : ByteArray} (h : cutOf n 1 = some (s, r)) : n = pieceB 1 s ++ r ∧ s.size < 256 := by
  unfold cutOf at h
  by_cases h1 : 1 ≤ n.size
  · rw [if_pos h1] at h
    split at h
    · rename_i h2
      simp only [Option.some.injEq, Prod.mk.injEq] at h
      obtain ⟨rfl, rfl⟩ := h
      have hz : (n.extract 1 (1 + beN (n.data.toList.take 1))).size = beN (n.data.toList.take 1) := by rw [ByteArray.size_extract]; omega
      have hb : beB 1 (beN (n.data.toList.take 1)) = n.data.toList.take 1 := beB_beN 1 _ (take_size n 1 h1)
      have hl := beN_lt (n.data.toList.take 1)
      rw [take_size n 1 h1] at hl
      refine ⟨?_, by rw [hz]; exact hl⟩
      apply list_inj
      rw [app_list, piece_list, hz, hb, mid_list, drop_list, List.append_assoc]
      conv => lhs; rw [← List.take_append_drop 1 n.data.toList]
      congr 1
      rw [← List.drop_drop, List.take_append_drop]
    · exact absurd h (by simp)
  · rw [if_neg h1] at h; exact absurd h (by simp)
theorem labs_parse : ∀ (k : Nat) (n : ByteArray), n.size ≤ k → endIn n (labs n.size n) = rootB → ∃ l, good l ∧ n = nameB l := by
  intro k
  induction k with
  | zero =>
    intro n hn h
    have : labs n.size n = [] := by rw [show n.size = 0 from by omega]; rfl
    rw [this] at h
    exact ⟨[], by simp [good], h⟩
  | succ k ih =>
    intro n hn h
    by_cases hr : n = rootB
    · exact ⟨[], by simp [good], hr⟩
    · cases hc : cutOf n 1 with
      | none => rw [labs_none hc] at h; exact absurd h hr
      | some x =>
        obtain ⟨s, r⟩ := x
        by_cases hb : s.size = 0 ∨ 63 < s.size
        · rw [labs_bad hc hb] at h; exact absurd h hr
        · have hless := cut_less hc
          have e : endIn r (labs r.size r) = rootB := by
            rw [labs_cons hr hc hb] at h
            unfold endIn at h ⊢
            cases hl : labs r.size r with
            | nil => rw [hl] at h; exact h
            | cons y t => rw [hl, List.getLast?_cons_cons] at h; exact h
          obtain ⟨l, hg, rfl⟩ := ih r (by omega) e
          refine ⟨s :: l, ?_, (cut_back hc).1⟩
          intro y hy
          rcases List.mem_cons.mp hy with rfl | hy
          · omega
          · exact hg y hy
theorem right_iff (n : ByteArray) : rightB n = true ↔ ∃ l, good l ∧ n = nameB l ∧ (nameB l).size ≤ 255 := by
  unfold rightB
  rw [Bool.and_eq_true_iff, decide_eq_true_iff, beq_iff_eq]
  rw [show ([0] : List UInt8) = rootB.toList from by rw [ByteArray.toList_eq]; rfl, toList_inj]
  constructor
  · rintro ⟨h1, h2⟩
    obtain ⟨l, hg, rfl⟩ := labs_parse n.size n (Nat.le_refl _) h2
    exact ⟨l, hg, rfl, h1⟩
  · rintro ⟨l, hg, rfl, h1⟩
    exact ⟨h1, end_labs l hg⟩
theorem name_inj : ∀ {l m : List ByteArray}, good l → good m → nameB l = nameB m → l = m
  | l, m, hl, hm, h => by
    have h1 := labs_name l hl
    have h2 := labs_name m hm
    rw [h] at h1
    rw [← pairs_fst l, ← pairs_fst m, ← h1, ← h2]
theorem right_name {l : List ByteArray} (h : good l) (hs : (nameB l).size ≤ 255) : rightB (nameB l) = true := (right_iff _).mpr ⟨l, h, rfl, hs⟩
theorem name_len : ∀ (l : List ByteArray), good l → 2 * l.length + 1 ≤ (nameB l).size
  | [], _ => Nat.le_refl _
  | s :: l, h => by
    have := h s (by simp)
    have := name_len l (fun s h' => h s (by simp [h']))
    rw [name_size, List.length_cons]; omega

/-! ### folding -/
def lowS (s : ByteArray) : ByteArray := arr (s.data.toList.map low)
theorem lowS_size (s : ByteArray) : (lowS s).size = s.size := by unfold lowS; rw [arr_size, List.length_map, size_list]
theorem lowS_list (s : ByteArray) : (lowS s).data.toList = s.data.toList.map low := arr_list _
theorem low_small (c : UInt8) (h : c.toNat < 65) : low c = c := by unfold low; rw [if_neg (by omega)]
theorem low_low (c : UInt8) : low (low c) = low c := by
  by_cases h : 65 ≤ c.toNat ∧ c.toNat ≤ 90
  · have e : low c = UInt8.ofNat (c.toNat + 32) := by unfold low; rw [if_pos h]
    have : (low c).toNat = c.toNat + 32 := by rw [e, UInt8.toNat_ofNat']; omega
    unfold low; rw [if_neg (by rw [show (if 65 ≤ c.toNat ∧ c.toNat ≤ 90 then UInt8.ofNat (c.toNat + 32) else c) = low c from rfl]; omega)]
  · have e : low c = c := by unfold low; rw [if_neg h]
    rw [e, e]
theorem lowS_lowS (s : ByteArray) : lowS (lowS s) = lowS s := by
  apply list_inj; rw [lowS_list, lowS_list, List.map_map]
  congr 1; funext c; exact low_low c
theorem fold_name : ∀ (l : List ByteArray), good l → arr ((nameB l).data.toList.map low) = nameB (l.map lowS)
  | [], _ => rfl
  | s :: l, h => by
    have hs := h s (by simp)
    have ih := fold_name l (fun s h' => h s (by simp [h']))
    apply list_inj
    rw [arr_list, nameB, app_list, piece_list, List.map_append, List.map_append, List.map_cons, nameB, app_list, piece_list, lowS_list, lowS_size, ← ih, arr_list]
    congr 2
    rw [beB, beB, List.nil_append, List.map_cons, List.map_nil, low_small _ (by rw [byte_mod]; omega)]
theorem good_map {l : List ByteArray} (h : good l) : good (l.map lowS) := by
  intro s hs
  obtain ⟨t, ht, rfl⟩ := List.mem_map.mp hs
  rw [lowS_size]; exact h t ht
theorem size_map : ∀ (l : List ByteArray), (nameB (l.map lowS)).size = (nameB l).size
  | [] => rfl
  | s :: l => by rw [List.map_cons, name_size, name_size, lowS_size, size_map l]
theorem map_map (l : List ByteArray) : (l.map lowS).map lowS = l.map lowS := by
  rw [List.map_map]; congr 1; funext s; exact lowS_lowS s
end Go.Proofs.Ythhbddmokgbdkaa.Name
