/- What the packer's Name puts, in plain words. -/
import Derived.Test.YtekbecpcbfhdmaaNameParent
import Derived.Test.YtekbecpcbfhdmaaOctBytes
import Derived.Test.YtekbecpcbfhdmaaPackState
namespace Go.Proofs.Ytekbecpcbfhdmaa.Pack
open Go.RowKit Go.Proofs.YtekbecpcbfhdmaaW.PrintWords Go.Proofs.Ytekbecpcbfhdmaa.Oct Go.Proofs.Ytekbecpcbfhdmaa.Name
/-- A name without its first label; that label with its number. -/
def par (n : ByteArray) : ByteArray := (parentR n).1
def head (n : ByteArray) : ByteArray := n.extract 0 (n.size - (par n).size)
theorem list_root {n : ByteArray} (h : (n.toList == [0]) = true) : n = rootB := by
  by_cases hn : n = rootB
  · exact hn
  · have := list_ne (l := [0]) hn
    rw [this] at h; cases h
theorem right_size {n : ByteArray} (h : rightB n = true) : n.size ≤ 255 := by
  unfold rightB at h
  exact of_decide_eq_true (Bool.and_eq_true_iff.mp h).1
/-- A name but the root: its first label, and what is behind. -/
theorem right_step {n : ByteArray} (h : rightB n = true) (hn : ¬ n = rootB) : ∃ s r, cutOf n 1 = some (s, r) ∧ ¬ (s.size = 0 ∨ 63 < s.size) ∧ labs n.size n = (s, r) :: labs r.size r ∧ rightB r = true ∧ par n = r ∧ r.size < n.size := by
  have hsz := right_size h
  have he : (endIn n (labs n.size n)).toList == [0] := (Bool.and_eq_true_iff.mp h).2
  have hnil : labs n.size n ≠ [] := by
    intro e
    rw [e] at he
    exact hn (list_root he)
  cases hc : cutOf n 1 with
  | none => exact absurd (labs_none hc) hnil
  | some x =>
    obtain ⟨s, r⟩ := x
    by_cases hs : s.size = 0 ∨ 63 < s.size
    · exact absurd (labs_bad hc hs) hnil
    · have hl := labs_cons hn hc hs
      have hlt := cut_less hc
      refine ⟨s, r, rfl, hs, hl, ?_, ?_, hlt⟩
      · unfold rightB
        rw [Bool.and_eq_true_iff]
        refine ⟨decide_eq_true (by omega), ?_⟩
        rw [hl] at he
        have e : endIn n ((s, r) :: labs r.size r) = endIn r (labs r.size r) := by
          unfold endIn
          cases hL : labs r.size r with
          | nil => rfl
          | cons y l => rw [List.getLast?_cons_cons, List.getLast?_eq_some_getLast (List.cons_ne_nil y l)]
        rw [e] at he; exact he
      · unfold par parentR
        rw [if_pos h, hl]
theorem right_root : rightB rootB = true := by decide +kernel
theorem par_size {n : ByteArray} (h : rightB n = true) (hn : ¬ n = rootB) : (par n).size < n.size := by
  obtain ⟨s, r, _, _, _, _, e, hlt⟩ := right_step h hn
  rw [e]; exact hlt
theorem par_right {n : ByteArray} (h : rightB n = true) (hn : ¬ n = rootB) : rightB (par n) = true := by
  obtain ⟨s, r, _, _, _, hr, e, hlt⟩ := right_step h hn
  rw [e]; exact hr
theorem par_yes {n : ByteArray} (h : rightB n = true) (hn : ¬ n = rootB) : parentR n = (par n, true) := by
  obtain ⟨s, r, _, _, hl, hr, e, hlt⟩ := right_step h hn
  rw [e]; unfold parentR; rw [if_pos h, hl]
theorem head_size (n : ByteArray) : (head n).size = n.size - (par n).size := by unfold head; simp
abbrev St := List UInt8 × List (ByteArray × Nat)
/-- What Name puts: behind the bytes bs, with K known. -/
def putN : Nat → ByteArray → Bool → St → St
  | 0, _, _, S => (S.1 ++ [0], S.2)
  | k + 1, n, may, S => if n = rootB then (S.1 ++ [0], S.2) else
    match look S.2 n with
    | some q => if may = true then (S.1 ++ beB 2 (49152 + q), S.2) else putN k (par n) may (S.1 ++ (head n).data.toList, S.2)
    | none => putN k (par n) may (S.1 ++ (head n).data.toList, if S.1.length < 16384 then (n, S.1.length) :: S.2 else S.2)
def putName (n : ByteArray) (may : Bool) (S : St) : St := putN n.size n may S
theorem putN_root (k : Nat) (may : Bool) (S : St) : putN k rootB may S = (S.1 ++ [0], S.2) := by cases k <;> simp [putN]
theorem putN_up (may : Bool) : ∀ (k : Nat) (n : ByteArray) (S : St), rightB n = true → n.size ≤ k → putN k n may S = putN n.size n may S := by
  intro k
  induction k using Nat.strongRecOn with
  | _ k ih =>
    intro n S hr hk
    by_cases hn : n = rootB
    · subst hn; rw [putN_root, putN_root]
    · have hp := par_size hr hn
      have hpr := par_right hr hn
      obtain ⟨j, rfl⟩ : ∃ j, k = j + 1 := ⟨k - 1, by omega⟩
      obtain ⟨m, hm⟩ : ∃ m, n.size = m + 1 := ⟨n.size - 1, by omega⟩
      rw [hm, putN, putN, if_neg hn, if_neg hn]
      have e : ∀ S', putN j (par n) may S' = putN m (par n) may S' := by
        intro S'
        rw [ih j (by omega) (par n) S' hpr (by omega)]
        by_cases hmj : m < j + 1
        · rw [ih m hmj (par n) S' hpr (by omega)]
        · omega
      cases look S.2 n with
      | none => simp only [e]
      | some q => simp only [e]
/-- One round. -/
theorem putName_step {n : ByteArray} (may : Bool) (S : St) (hr : rightB n = true) (hn : ¬ n = rootB) : putName n may S =
    match look S.2 n with
    | some q => if may = true then (S.1 ++ beB 2 (49152 + q), S.2) else putName (par n) may (S.1 ++ (head n).data.toList, S.2)
    | none => putName (par n) may (S.1 ++ (head n).data.toList, if S.1.length < 16384 then (n, S.1.length) :: S.2 else S.2) := by
  have hp := par_size hr hn
  obtain ⟨m, hm⟩ : ∃ m, n.size = m + 1 := ⟨n.size - 1, by omega⟩
  unfold putName
  rw [hm, putN, if_neg hn]
  have e : ∀ S', putN m (par n) may S' = putN (par n).size (par n) may S' := fun S' => putN_up may m (par n) S' (par_right hr hn) (by omega)
  cases look S.2 n with
  | none => simp only [e]
  | some q => simp only [e]
theorem putName_root (may : Bool) (S : St) : putName rootB may S = (S.1 ++ [0], S.2) := putN_root _ _ _
/-- No place is beyond what a pointer can tell; no two names are one. -/
def Small (K : List (ByteArray × Nat)) : Prop := ∀ n i, look K n = some i → i < 16384
theorem small_nil : Small [] := fun n i h => by simp [look] at h
theorem Small.put {K : List (ByteArray × Nat)} (h : Small K) {n : ByteArray} {i : Nat} (hi : i < 16384) : Small ((n, i) :: K) := by
  intro m j hj
  simp only [look] at hj
  by_cases hm : m = n
  · rw [if_pos hm] at hj; injection hj with hj; omega
  · rw [if_neg hm] at hj; exact h m j hj
end Go.Proofs.Ytekbecpcbfhdmaa.Pack
