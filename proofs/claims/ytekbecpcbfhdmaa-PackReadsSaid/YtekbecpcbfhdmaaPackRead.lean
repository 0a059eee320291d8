/- What Read returns, in plain words: the program's and the reference's are one. -/
import Derived.Test.YtekbecpcbfhdmaaPackFacts
namespace Go.Proofs.Ytekbecpcbfhdmaa.PackFacts
open Go.RowKit Go.Proofs.Ytekbecpcbfhdmaa.PPak Go.Proofs.YtekbecpcbfhdmaaW.PrintWords Go.Proofs.YtekbecpcbfhdmaaW.PrintLast Go.Proofs.YtekbecpcbfhdmaaW.PrintMore Go.Proofs.Ytekbecpcbfhdmaa.Given Go.Proofs.Ytekbecpcbfhdmaa.Oct Go.Proofs.Ytekbecpcbfhdmaa.Name Go.Proofs.Ytekbecpcbfhdmaa.Pack
set_option linter.unusedVariables false
set_option linter.unusedSimpArgs false
/-- The byte at a place. -/
def by8 (m : ByteArray) (i : Nat) : Nat := (m.data.toList.getD i 0).toNat
theorem by8_lt (m : ByteArray) (i : Nat) : by8 m i < 256 := UInt8.toNat_lt _
theorem by8_get {m : ByteArray} {i : Nat} (h : i < m.size) : (m.data.toList[i]'(by rw [size_list]; exact h)).toNat = by8 m i := by
  unfold by8; rw [List.getD_eq_getElem?_getD, List.getElem?_eq_getElem (by rw [size_list]; exact h)]; rfl
theorem bt_by8 {m : ByteArray} {i : Nat} (h : i < m.size) : bt m (i : Int) = (by8 m i : Int) := by rw [bt_list m i h, by8_get h]
/-- What stands at a place: a label of c bytes, or a pointer. -/
inductive Pc where
  | lab (c : Nat)
  | ptr (t : Nat)
def pc (m : ByteArray) (i : Nat) : Option Pc :=
  if i < m.size then
    if 192 ≤ by8 m i then (if i + 1 < m.size then some (.ptr ((by8 m i - 192) * 256 + by8 m (i + 1))) else none)
    else if 64 ≤ by8 m i then none
    else if i + 1 + by8 m i ≤ m.size then some (.lab (by8 m i)) else none
  else none
theorem beN_two {m : ByteArray} {i : Nat} (h : i + 1 < m.size) : beN ((m.extract i m.size).data.toList.take 2) = by8 m i * 256 + by8 m (i + 1) := by
  rw [first_list (by omega), List.drop_eq_getElem_cons (by rw [size_list]; exact h)]
  have h1 := by8_get (m := m) (i := i) (by omega)
  have h2 := by8_get (m := m) (i := i + 1) h
  rw [← h1, ← h2]
  simp [beN]
theorem split_two (m : ByteArray) (i : Nat) (hi : i ≤ m.size) (hs : m.size ≤ 100000) : octets_Split.f (m.extract i m.size) [2] =
    if i + 1 < m.size then some ([((by8 m i * 256 + by8 m (i + 1) : Nat) : Int)], m.extract (i + 2) m.size, 0) else some ([], ⟨#[]⟩, 2) := by
  unfold octets_Split.f
  rw [if_pos ⟨by rw [drop_size]; omega, by decide⟩, if_pos (by decide +kernel)]
  by_cases h : i + 1 < m.size
  · rw [if_pos h]
    have e : splitL (m.extract i m.size) [2] [] = some ([((by8 m i * 256 + by8 m (i + 1) : Nat) : Int)], m.extract (i + 2) m.size) := by
      rw [splitL, if_pos (by rw [drop_size]; show 2 ≤ m.size - i; omega), splitL]
      have e2 : (2 : Int).toNat = 2 := rfl
      rw [e2, beN_two h, drop_size, (ext_ext m i 2 hi (by omega)).2]; rfl
    rw [e]
  · rw [if_neg h]
    have e : splitL (m.extract i m.size) [2] [] = none := by
      rw [splitL, if_neg (by rw [drop_size]; show ¬ 2 ≤ m.size - i; omega)]
    rw [e]
/-- What at tells. -/
def atR (m : ByteArray) (i : Nat) : ByteArray × Int × Int × Bool :=
  match pc m i with
  | none => (⟨#[]⟩, 0, 0, false)
  | some (.lab c) => (m.extract i (i + 1 + c), -1, ((i + 1 + c : Nat) : Int), true)
  | some (.ptr t) => (⟨#[]⟩, (t : Int), ((i + 2 : Nat) : Int), true)
theorem at_split (m : ByteArray) (i k : Nat) (hi : i ≤ m.size) (hs : m.size ≤ 100000) (x : ByteArray) (hc : ¬ (i < m.size ∧ by8 m i < 64 ∧ i + 1 + by8 m i ≤ m.size)) : pack_at.j0 (k + 1) m (i : Int) x false = some (atR m i) := by
  rw [pack_at.j0, if_neg (by decide), if_pos (by omega), if_pos (by omega)]
  show ((octets_Split.f (m.extract i m.size) [2]).bind _) = _
  rw [split_two m i hi hs]
  have hb := by8_lt m i
  have hb1 := by8_lt m (i + 1)
  by_cases h : i + 1 < m.size
  · rw [if_pos h, Option.bind_some]
    show (if (0 : Int) = 0 then _ else _) = _
    rw [if_pos rfl]
    show (if (0 : Int) < ((1 : Nat) : Int) then _ else _) = _
    rw [if_pos (by decide)]
    show (if ((by8 m i * 256 + by8 m (i + 1) : Nat) : Int) < 49152 then _ else some (_, wrap64 (IntKind.u64.wrap (((by8 m i * 256 + by8 m (i + 1) : Nat) : Int) - 49152)), _, _)) = _
    unfold atR pc
    rw [if_pos (by omega : i < m.size)]
    by_cases hp : 192 ≤ by8 m i
    · rw [if_neg (by omega), if_pos hp, if_pos h]
      simp only []
      have e1 : ((by8 m i * 256 + by8 m (i + 1) : Nat) : Int) - 49152 = (((by8 m i - 192) * 256 + by8 m (i + 1) : Nat) : Int) := by omega
      have e2 : (((by8 m i - 192) * 256 + by8 m (i + 1) : Nat) : Int) % 2 ^ 64 = (((by8 m i - 192) * 256 + by8 m (i + 1) : Nat) : Int) := by omega
      have e3 : IntKind.u64.wrap (((by8 m i - 192) * 256 + by8 m (i + 1) : Nat) : Int) = (((by8 m i - 192) * 256 + by8 m (i + 1) : Nat) : Int) := by
        simp only [IntKind.wrap, IntKind.bits, IntKind.signed, e2]; rw [if_neg (by simp)]
      rw [e1, e3, w64_id (by omega) (by omega), w64_id (by omega) (by omega)]
      rfl
    · rw [if_pos (by omega), if_neg hp]
      by_cases h64 : 64 ≤ by8 m i
      · rw [if_pos h64]
      · rw [if_neg h64, if_neg (by omega)]
  · rw [if_neg h, Option.bind_some]
    show (if (2 : Int) = 0 then _ else _) = _
    rw [if_neg (by decide)]
    unfold atR pc
    by_cases hlt : i < m.size
    · rw [if_pos hlt]
      by_cases hp : 192 ≤ by8 m i
      · rw [if_pos hp, if_neg h]
      · rw [if_neg hp]
        by_cases h64 : 64 ≤ by8 m i
        · rw [if_pos h64]
        · rw [if_neg h64, if_neg (by omega)]
    · rw [if_neg hlt]
theorem at_f (m : ByteArray) (i k : Nat) (hi : i ≤ m.size) (hs : m.size ≤ 100000) : pack_at.f (k + 1) m (i : Int) = some (atR m i) := by
  unfold pack_at.f
  rw [if_pos (by omega), if_pos (by omega)]
  show ((octets_Cut.f (m.extract i m.size) 1).bind _) = _
  have hsz : (m.extract i m.size).size = m.size - i := drop_size m i
  by_cases hlt : i < m.size
  · have hcut := cut_first hlt
    rw [by8_get hlt] at hcut
    by_cases hfit : by8 m i ≤ m.size - i - 1
    · rw [if_pos hfit] at hcut
      rw [cut_some (by omega) hcut, Option.bind_some]
      show (if (0 : Int) = 0 then _ else _) = _
      rw [if_pos rfl]
      have hs1 : (m.extract (i + 1) (i + 1 + by8 m i)).size = by8 m i := by rw [ByteArray.size_extract]; omega
      show pack_at.j0 (k + 1) m (i : Int) (m.extract (i + 1 + by8 m i) m.size) (decide (((m.extract (i + 1) (i + 1 + by8 m i)).size : Int) ≤ 63)) = _
      rw [hs1]
      by_cases h64 : by8 m i < 64
      · rw [decide_eq_true (by omega), pack_at.j0, if_pos rfl, drop_size]
        have e1 : wrap64 ((m.size : Int) - ((m.size - (i + 1 + by8 m i) : Nat) : Int)) = ((i + 1 + by8 m i : Nat) : Int) := by rw [w64_id (by omega) (by omega)]; omega
        rw [e1, if_pos (by omega), if_pos (by omega), if_pos (by omega)]
        unfold atR pc
        rw [if_pos hlt, if_neg (by omega), if_neg (by omega), if_pos (by omega)]
        rfl
      · rw [decide_eq_false (by omega)]
        exact at_split m i k hi hs _ (by omega)
    · rw [if_neg hfit] at hcut
      rw [cut_none (by omega) hcut, Option.bind_some]
      show (if (2 : Int) = 0 then _ else _) = _
      rw [if_neg (by decide)]
      exact at_split m i k hi hs _ (by omega)
  · have hcut : cutOf (m.extract i m.size) 1 = none := by unfold cutOf; rw [if_neg (by omega)]
    rw [cut_none (by omega) hcut, Option.bind_some]
    show (if (2 : Int) = 0 then _ else _) = _
    rw [if_neg (by decide)]
    exact at_split m i k hi hs _ (by omega)
end Go.Proofs.Ytekbecpcbfhdmaa.PackFacts
