/- What the references of the pack laws and the program's own Read return. -/
import Derived.Test.YtekbecpcbfhdmaaPPakx3
import Derived.Test.YtekbecpcbfhdmaaPackPure
namespace Go.Proofs.Ytekbecpcbfhdmaa.PackFacts
open Go.RowKit Go.Proofs.Ytekbecpcbfhdmaa.PPak Go.Proofs.YtekbecpcbfhdmaaW.PrintWords Go.Proofs.YtekbecpcbfhdmaaW.PrintLast Go.Proofs.YtekbecpcbfhdmaaW.PrintMore Go.Proofs.Ytekbecpcbfhdmaa.Given Go.Proofs.Ytekbecpcbfhdmaa.Oct Go.Proofs.Ytekbecpcbfhdmaa.Name Go.Proofs.Ytekbecpcbfhdmaa.Pack
set_option linter.unusedVariables false
set_option linter.unusedSimpArgs false

theorem w64_id {x : Int} (h0 : -9223372036854775808 ≤ x) (h1 : x ≤ 9223372036854775807) : wrap64 x = x := by unfold wrap64; omega
theorem bt_list (b : ByteArray) (i : Nat) (h : i < b.size) : bt b (i : Int) = ((b.data.toList[i]'(by rw [size_list]; exact h)).toNat : Int) := by
  unfold bt
  rw [Int.toNat_natCast, dif_pos h]; rfl

/-! ### the reference's labels -/
/-- Is what is left a name? -/
def okR (r : ByteArray) : Bool := decide (endIn r (labs r.size r) = rootB)
theorem first_list {b : ByteArray} {i : Nat} (h : i < b.size) : (b.extract i b.size).data.toList = b.data.toList[i]'(by rw [size_list]; exact h) :: b.data.toList.drop (i + 1) := by
  rw [drop_list]; exact List.drop_eq_getElem_cons _
theorem first_num {b : ByteArray} {i : Nat} (h : i < b.size) : beN ((b.extract i b.size).data.toList.take 1) = (b.data.toList[i]'(by rw [size_list]; exact h)).toNat := by
  rw [first_list h]; simp [beN]
theorem cut_first {b : ByteArray} {i : Nat} (h : i < b.size) : cutOf (b.extract i b.size) 1 = if (b.data.toList[i]'(by rw [size_list]; exact h)).toNat ≤ b.size - i - 1 then
    some (b.extract (i + 1) (i + 1 + (b.data.toList[i]'(by rw [size_list]; exact h)).toNat), b.extract (i + 1 + (b.data.toList[i]'(by rw [size_list]; exact h)).toNat) b.size) else none := by
  unfold cutOf
  rw [if_pos (by rw [drop_size]; omega), first_num h, drop_size]
  split
  · congr 2
    · apply list_inj
      rw [mid_list, mid_list, drop_list, List.drop_drop]
    · apply list_inj
      rw [show b.size - i = (b.extract i b.size).size from (drop_size b i).symm, drop_list, drop_list, drop_list, List.drop_drop, Nat.add_assoc]
  · rfl
theorem root_iff {b : ByteArray} {i : Nat} (h : i < b.size) : b.extract i b.size = rootB ↔ ((b.data.toList[i]'(by rw [size_list]; exact h)).toNat = 0 ∧ i + 1 = b.size) := by
  constructor
  · intro e
    have h1 := congrArg (fun x => x.data.toList) e
    have h2 := congrArg ByteArray.size e
    rw [drop_size, show rootB.size = 1 from rfl] at h2
    simp only [first_list h] at h1
    have : b.data.toList[i]'(by rw [size_list]; exact h) = 0 := by
      have h3 : rootB.data.toList = [0] := rfl
      rw [h3] at h1
      exact (List.cons.inj h1).1
    exact ⟨by rw [this]; rfl, by omega⟩
  · rintro ⟨h1, h2⟩
    apply list_inj
    rw [first_list h, List.drop_of_length_le (by rw [size_list]; omega)]
    have : b.data.toList[i]'(by rw [size_list]; exact h) = 0 := UInt8.toNat_inj.mp (by rw [h1]; rfl)
    rw [this]; rfl
theorem rlabels_at (b : ByteArray) (hb : b.size ≤ 255) : ∀ (d i k : Nat) (acc : List ByteArray), b.size - i ≤ d → i ≤ b.size → 2 * d + 3 ≤ k → acc.length + d ≤ 100000 →
    ∃ l, beadrollref07_Labels.l0 k b acc (i : Int) = some (l, okR (b.extract i b.size)) ∧ (okR (b.extract i b.size) = true → l = acc ++ (labs (b.extract i b.size).size (b.extract i b.size)).map (·.1)) := by
  intro d
  induction d with
  | zero =>
    intro i k acc hd hi hk ha
    obtain rfl : i = b.size := by omega
    obtain ⟨k, rfl⟩ : ∃ j, k = j + 2 := ⟨k - 2, by omega⟩
    have hz : (b.extract b.size b.size).size = 0 := by rw [drop_size]; omega
    have hn : okR (b.extract b.size b.size) = false := by
      unfold okR
      rw [hz]
      exact decide_eq_false (fun h => by have := congrArg ByteArray.size (show b.extract b.size b.size = rootB from h); rw [hz] at this; exact absurd this (by decide))
    rw [hn, beadrollref07_Labels.l0, if_neg (by omega), beadrollref07_Labels.j1, if_neg (by decide), if_neg (by rw [w64_id (by omega) (by omega)]; omega)]
    exact ⟨_, rfl, fun h => absurd h (by decide)⟩
  | succ d ih =>
    intro i k acc hd hi hk ha
    obtain ⟨k, rfl⟩ : ∃ j, k = j + 2 := ⟨k - 2, by omega⟩
    by_cases hlt : i < b.size
    · have hbt := bt_list b i hlt
      have hcut := cut_first hlt
      have hroot := root_iff hlt
      have hc := UInt8.toNat_lt (b.data.toList[i]'(by rw [size_list]; exact hlt))
      generalize (b.data.toList[i]'(by rw [size_list]; exact hlt)).toNat = m at hbt hcut hroot hc
      have hsz : (b.extract i b.size).size = b.size - i := drop_size b i
      rw [beadrollref07_Labels.l0, if_pos (by omega), if_pos (by omega), hbt]
      have stop : ∀ (_ : labs (b.extract i b.size).size (b.extract i b.size) = []) (_ : ¬ b.extract i b.size = rootB), okR (b.extract i b.size) = false := fun h h' => by
        unfold okR; rw [h]; exact decide_eq_false h'
      by_cases h0 : m = 0
      · rw [decide_eq_false (by omega), beadrollref07_Labels.j1, if_neg (by decide), hbt, w64_id (by omega) (by omega)]
        by_cases hend : i + 1 = b.size
        · have hr := hroot.mpr ⟨h0, hend⟩
          have hok : okR (b.extract i b.size) = true := by unfold okR; rw [hr]; rfl
          rw [if_pos (by omega), if_pos (by omega), if_pos (by omega), hok]
          refine ⟨acc, by rw [h0]; rfl, fun _ => ?_⟩
          rw [labs_root hr]; simp
        · have hr : ¬ b.extract i b.size = rootB := fun h => hend (hroot.mp h).2
          rw [if_pos (by omega)] at hcut
          have hl := labs_bad hcut (.inl (by rw [ByteArray.size_extract]; omega))
          rw [stop hl hr, if_neg (by omega)]
          exact ⟨_, rfl, fun h => absurd h (by decide)⟩
      · have hr : ¬ b.extract i b.size = rootB := fun h => h0 (hroot.mp h).1
        rw [decide_eq_true (by omega), beadrollref07_Labels.j1, if_pos rfl, if_pos (by omega), if_pos (by omega), hbt, w64_id (x := (m : Int)) (by omega) (by omega), w64_id (x := (i : Int) + 1) (by omega) (by omega), w64_id (x := (i : Int) + 1 + (m : Int)) (by omega) (by omega), w64_id (x := 1 + (m : Int)) (by omega) (by omega), w64_id (x := (i : Int) + (1 + (m : Int))) (by omega) (by omega)]
        by_cases h63 : m > 63
        · have hl : labs (b.extract i b.size).size (b.extract i b.size) = [] := by
            by_cases hle : m ≤ b.size - i - 1
            · rw [if_pos hle] at hcut
              exact labs_bad hcut (.inr (by rw [ByteArray.size_extract]; omega))
            · rw [if_neg hle] at hcut
              exact labs_none hcut
          rw [if_pos (by omega), stop hl hr]
          exact ⟨_, rfl, fun h => absurd h (by decide)⟩
        · rw [if_neg (by omega)]
          by_cases hle : m ≤ b.size - i - 1
          · rw [if_pos hle] at hcut
            have hsz2 : (b.extract (i + 1) (i + 1 + m)).size = m := by rw [ByteArray.size_extract]; omega
            have hl := labs_cons hr hcut (by rw [hsz2]; omega)
            rw [if_neg (by omega), if_pos (by omega), if_pos (by omega), if_pos (by omega), if_pos (by omega)]
            rw [show ((i : Int) + 1).toNat = i + 1 from by omega, show ((i : Int) + 1 + (m : Int)).toNat = i + 1 + m from by omega, show (i : Int) + (1 + (m : Int)) = ((i + 1 + m : Nat) : Int) from by omega]
            obtain ⟨l, e1, e2⟩ := ih (i + 1 + m) k (acc ++ [b.extract (i + 1) (i + 1 + m)]) (by omega) (by omega) (by omega) (by simp; omega)
            have hok : okR (b.extract i b.size) = okR (b.extract (i + 1 + m) b.size) := by
              unfold okR
              rw [hl]
              congr 2
              unfold endIn
              cases hq : labs (b.extract (i + 1 + m) b.size).size (b.extract (i + 1 + m) b.size) with
              | nil => rfl
              | cons y t => rw [List.getLast?_cons_cons]; simp [List.getLast?_cons]
            rw [hok]
            refine ⟨l, e1, fun h => ?_⟩
            rw [e2 h, hl]
            simp
          · rw [if_neg hle] at hcut
            rw [if_pos (by omega), stop (labs_none hcut) hr]
            exact ⟨_, rfl, fun h => absurd h (by decide)⟩
    · obtain rfl : i = b.size := by omega
      exact ih b.size (k + 2) acc (by omega) (by omega) (by omega) (by omega)
theorem right_ok (n : ByteArray) : rightB n = (decide (n.size ≤ 255) && okR n) := by
  unfold rightB okR
  congr 1
  by_cases h : endIn n (labs n.size n) = rootB
  · rw [h]; simp [ByteArray.toList_eq]; rfl
  · rw [decide_eq_false h]
    exact list_ne h
theorem all_bytes (b : ByteArray) : b.extract 0 b.size = b := by apply list_inj; rw [drop_list]; rfl
theorem rright_f (n : ByteArray) (k : Nat) (hk : 600 ≤ k) : beadrollref07_Right.f k n = some (rightB n) := by
  unfold beadrollref07_Right.f beadrollref07_Labels.f
  rw [right_ok]
  by_cases h : (n.size : Int) > 255
  · rw [if_pos h, decide_eq_false (by omega)]; rfl
  · rw [if_neg h, decide_eq_true (by omega), Bool.true_and]
    obtain ⟨l, e1, _⟩ := rlabels_at n (by omega) n.size 0 k [] (by omega) (by omega) (by omega) (by simp; omega)
    rw [all_bytes] at e1
    rw [show (0 : Int) = ((0 : Nat) : Int) from rfl, e1]; rfl
end Go.Proofs.Ytekbecpcbfhdmaa.PackFacts
