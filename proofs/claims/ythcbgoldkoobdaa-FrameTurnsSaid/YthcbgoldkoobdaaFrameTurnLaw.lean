/- A frame with a byte changed behind its number is no frame. -/
import Derived.Test.YthcbgoldkoobdaaFrameFacts2
namespace Go.Proofs.Ythcbgoldkoobdaa.OctFacts
open Go.RowKit Go.Proofs.Ythcbgoldkoobdaa.POct Go.Proofs.YthcbgoldkoobdaaW.PrintWords Go.Proofs.YthcbgoldkoobdaaW.PrintLast Go.Proofs.YthcbgoldkoobdaaW.PrintMore Go.Proofs.Ythcbgoldkoobdaa.Given Go.Proofs.Ythcbgoldkoobdaa.Oct
open Go.Proofs.Ythcbgoldkoobdaa.Crc hiding arr arr_size
set_option linter.unusedSimpArgs false
set_option linter.unusedVariables false

theorem steps_one (l : List UInt8) (j : Nat) (hj : j < l.length) (c : UInt8) (hc : c ≠ l[j]) (w : Nat) (hw : w < 4294967296) : stepsN w (l.set j c) ≠ stepsN w l := by
  induction l generalizing j w with
  | nil => simp at hj
  | cons x l ih =>
    cases j with
    | zero =>
      intro h
      have h' := stepsN_inj l (iterN_lt 8 (xor_lt hw (byte_lt c))) (iterN_lt 8 (xor_lt hw (byte_lt x))) h
      have h2 := xor_inj_right (iterN_inj 8 (xor_lt hw (byte_lt c)) (xor_lt hw (byte_lt x)) h')
      exact hc (UInt8.toNat_inj.mp h2)
    | succ j => exact ih j (by simpa using hj) (by simpa using hc) _ (iterN_lt 8 (xor_lt hw (byte_lt x)))
theorem flipped (x : UInt8) (m : Nat) (h : m < 8) : UInt8.ofNat (x.toNat ^^^ 2 ^ m) ≠ x := by
  intro e
  have e1 := congrArg UInt8.toNat e
  have hx := UInt8.toNat_lt x
  have hp : 2 ^ m < 2 ^ 8 := Nat.pow_lt_pow_right (by omega) h
  rw [UInt8.toNat_ofNat', Nat.mod_eq_of_lt (Nat.xor_lt_two_pow hx hp)] at e1
  have e2 := congrArg (x.toNat ^^^ ·) e1
  simp only [← Nat.xor_assoc, Nat.xor_self, Nat.zero_xor] at e2
  have := Nat.pow_pos (n := m) (show 0 < 2 by omega)
  omega
theorem sum_one (l : List UInt8) (j : Nat) (hj : j < l.length) (c : UInt8) (hc : c ≠ l[j]) : sumN 0 (l.set j c) ≠ sumN 0 l := by
  intro h
  unfold sumN at h
  exact steps_one l j hj c hc _ (xor_lt MN_lt (by omega)) (xor_inj_right h)
theorem turn_stop (s : ByteArray) (hs : s.size ≤ 16777216) (j : Nat) (h4 : 4 ≤ j) (hj : j < 8 + s.size) (c : UInt8) (hc : ∀ h, c ≠ (frameL s.data.toList)[j]'h) :
    (firstR (arr ((frameL s.data.toList).set j c))).2.2 ≠ 0 := by
  have hl := frameL_len s.data.toList
  rw [size_list] at hl
  have hjl : j < (frameL s.data.toList).length := by omega
  have hz : (arr ((frameL s.data.toList).set j c)).size = 8 + s.size := by rw [arr_size, List.length_set, hl]
  have ht : beN ((arr ((frameL s.data.toList).set j c)).data.toList.take 4) = s.size := by
    rw [arr_list, List.take_set_of_le h4]
    unfold frameL
    rw [size_list, List.take_left' (beB_len _ _), beN_beB, Nat.mod_eq_of_lt (by show s.size < 256 ^ 4; omega)]
  unfold firstR
  rw [if_neg (by omega), ht, if_neg (by omega)]
  rw [if_neg]
  · decide
  · intro e
    have e' : _ = ((arr ((frameL s.data.toList).set j c)).extract 0 (8 + s.size)).data.toList := congrArg (fun b => b.data.toList) e
    have e0 : ((arr ((frameL s.data.toList).set j c)).extract 0 (8 + s.size)).data.toList = (frameL s.data.toList).set j c := by
      rw [← hz, drop_list, arr_list]; rfl
    have e8 : ((arr ((frameL s.data.toList).set j c)).extract 8 (8 + s.size)).data.toList = ((frameL s.data.toList).set j c).drop 8 := by
      rw [← hz, drop_list, arr_list]
    rw [e0] at e'
    unfold frameB at e'
    rw [arr_list, e8] at e'
    have d8 : ∀ l : List UInt8, (frameL l).drop 8 = l := by
      intro l
      unfold frameL
      rw [← List.append_assoc, List.drop_left' (by rw [List.length_append, beB_len, beB_len])]
    by_cases hlt : j < 8
    · rw [List.drop_set_of_lt hlt, d8] at e'
      have := congrArg (fun l => l[j]?) e'
      simp only [List.getElem?_set_self hjl] at this
      rw [List.getElem?_eq_getElem hjl] at this
      exact hc hjl (Option.some.inj this).symm
    · have hset : ((frameL s.data.toList).set j c).drop 8 = s.data.toList.set (j - 8) c := by
        rw [List.drop_set, if_neg (by omega), d8]
      have hj8 : j - 8 < s.data.toList.length := by rw [size_list]; omega
      have hcj : c ≠ s.data.toList[j - 8] := by
        have hx := hc hjl
        have : (frameL s.data.toList)[j]'hjl = s.data.toList[j - 8] := by
          have h1 : (frameL s.data.toList)[j]? = s.data.toList[j - 8]? := by
            conv => rhs; rw [← d8 s.data.toList]
            rw [List.getElem?_drop, show 8 + (j - 8) = j from by omega]
          rw [List.getElem?_eq_getElem hjl, List.getElem?_eq_getElem hj8] at h1
          exact Option.some.inj h1
        rw [this] at hx; exact hx
      rw [hset] at e'
      have hd : ((frameL (s.data.toList.set (j - 8) c)).drop 4).take 4 = (((frameL s.data.toList).set j c).drop 4).take 4 := congrArg (fun l => (l.drop 4).take 4) e'
      have l1 : ((frameL (s.data.toList.set (j - 8) c)).drop 4).take 4 = beB 4 (sumN 0 (beB 4 (s.data.toList.set (j - 8) c).length ++ s.data.toList.set (j - 8) c)) := by
        unfold frameL
        rw [List.drop_left' (beB_len _ _), List.take_left' (beB_len _ _)]
      have l2 : (((frameL s.data.toList).set j c).drop 4).take 4 = beB 4 (sumN 0 (beB 4 s.data.toList.length ++ s.data.toList)) := by
        rw [List.drop_set, if_neg (by omega), List.take_set_of_le (by omega)]
        unfold frameL
        rw [List.drop_left' (beB_len _ _), List.take_left' (beB_len _ _)]
      rw [l1, l2, List.length_set] at hd
      have hb := congrArg beN hd
      rw [beN_beB, beN_beB, Nat.mod_eq_of_lt (by have := sumN_lt (beB 4 s.data.toList.length ++ s.data.toList.set (j - 8) c); show _ < 256 ^ 4; omega), Nat.mod_eq_of_lt (by have := sumN_lt (beB 4 s.data.toList.length ++ s.data.toList); show _ < 256 ^ 4; omega)] at hb
      have hset2 : beB 4 s.data.toList.length ++ s.data.toList.set (j - 8) c = (beB 4 s.data.toList.length ++ s.data.toList).set (4 + (j - 8)) c := by
        rw [List.set_append_right _ _ (by rw [beB_len]; omega), beB_len]
        congr 2; omega
      rw [hset2] at hb
      refine sum_one _ (4 + (j - 8)) (by rw [List.length_append, beB_len]; omega) c ?_ hb
      rw [List.getElem_append_right (by rw [beB_len]; omega)]
      simp only [beB_len]
      have : 4 + (j - 8) - 4 = j - 8 := by omega
      simp only [this]
      exact hcj
/-- What is scanned of a file whose last frame has a byte changed. -/
theorem turn_scan (l : List ByteArray) (s : ByteArray) (hl : ∀ x ∈ l, x.size ≤ 100) (hs : s.size ≤ 100) (j : Nat) (h4 : 4 ≤ j) (hj : j < 8 + s.size) (c : UInt8) (hc : ∀ h, c ≠ (frameL s.data.toList)[j]'h) :
    ∀ b : ByteArray, b.data.toList = (filesB (l ++ [s])).data.toList.set ((filesB l).size + j) c → scanS b.size b = (l, (filesB l).size) := by
  intro b hb
  have e : b = filesB l ++ arr ((frameL s.data.toList).set j c) := by
    apply list_inj
    rw [hb, files_app, files_one, app_list, app_list, arr_list, List.set_append_right _ _ (by rw [size_list]; omega), size_list]
    rw [show (filesB l).size + j - (filesB l).size = j from by omega]
    unfold frameB; rw [arr_list]
  have hst := turn_stop s (by omega) j h4 hj c hc
  rw [e, scan_files _ l _ (fun x hx => by have := hl x hx; omega) (by rw [ByteArray.size_append]; exact Nat.le_refl _), scanS_stop hst, List.append_nil]
  rfl
end Go.Proofs.Ythcbgoldkoobdaa.OctFacts
