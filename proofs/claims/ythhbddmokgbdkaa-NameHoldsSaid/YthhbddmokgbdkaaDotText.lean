/- dotted.Text: its contract. -/
import Derived.Test.YthhbddmokgbdkaaDotPut
import Derived.Test.YthhbddmokgbdkaaNameLaw
namespace Go.Proofs.Ythhbddmokgbdkaa.Dot
open Go.RowKit Go.Proofs.YthhbddmokgbdkaaW.PrintWords Go.Proofs.Ythhbddmokgbdkaa.Given Go.Proofs.Ythhbddmokgbdkaa.Name Go.Proofs.Ythhbddmokgbdkaa.Oct
set_option linter.unusedVariables false
/-- The text of some labels. -/
def bodyT : List ByteArray → List UInt8
  | [] => []
  | s :: l => s.data.toList.flatMap textB ++ [46] ++ bodyT l
def textR (n : ByteArray) : ByteArray :=
  if rightB n = true then (match (labs n.size n).map (·.1) with | [] => ⟨#[46]⟩ | s :: l => arr (bodyT (s :: l))) else ⟨#[]⟩
theorem body_app : ∀ (l : List ByteArray) (s : ByteArray), bodyT (l ++ [s]) = bodyT l ++ (s.data.toList.flatMap textB ++ [46])
  | [], s => by simp [bodyT]
  | t :: l, s => by rw [List.cons_append, bodyT, bodyT, body_app l s]; simp
theorem body_take (l : List ByteArray) (k : Nat) (h : k < l.length) : bodyT (l.take (k + 1)) = bodyT (l.take k) ++ l[k].data.toList.flatMap textB ++ [46] := by
  rw [List.take_succ_eq_append_getElem h, body_app, List.append_assoc]
theorem text_len (c : UInt8) : (textB c).length ≤ 4 := by
  unfold textB; split
  · simp
  · split <;> simp
theorem flat_len : ∀ (l : List UInt8), (l.flatMap textB).length ≤ 4 * l.length
  | [] => Nat.le_refl _
  | c :: l => by
    rw [List.flatMap_cons, List.length_append, List.length_cons]
    have := text_len c
    have := flat_len l
    omega
theorem body_len : ∀ (l : List ByteArray), (bodyT l).length + 4 ≤ 4 * (nameB l).size
  | [] => Nat.le_refl _
  | s :: l => by
    have h1 := body_len l
    have h2 := flat_len s.data.toList
    rw [size_list] at h2
    rw [bodyT, name_size]
    simp only [List.length_append, List.length_singleton]
    omega
theorem take_len : ∀ (l : List ByteArray) (k : Nat), (bodyT (l.take k)).length ≤ (bodyT l).length
  | [], k => by simp [bodyT]
  | s :: l, 0 => by simp [bodyT]
  | s :: l, k + 1 => by
    have := take_len l k
    rw [List.take_succ_cons, bodyT, bodyT]
    simp only [List.length_append] at this ⊢
    omega
theorem part_len (l : List ByteArray) (k j : Nat) (h : k < l.length) : (bodyT (l.take k) ++ (l[k].data.toList.take j).flatMap textB).length ≤ (bodyT l).length := by
  have h1 := take_len l (k + 1)
  rw [body_take l k h] at h1
  have h2 : ((l[k].data.toList.take j).flatMap textB).length ≤ (l[k].data.toList.flatMap textB).length := by
    conv => rhs; rw [← List.take_append_drop j l[k].data.toList]
    rw [List.flatMap_append, List.length_append]; omega
  simp only [List.length_append] at h1 ⊢
  omega
theorem flat_next (s : ByteArray) (j : Nat) (h : j < s.size) (pre : List UInt8) : pre ++ (s.data.toList.take (j + 1)).flatMap textB = pre ++ (s.data.toList.take j).flatMap textB ++ textB s[j] := by
  rw [List.take_succ_eq_append_getElem (by rw [size_list]; exact h), List.flatMap_append, ← List.append_assoc]
  simp only [List.flatMap_cons, List.flatMap_nil, List.append_nil]
  rfl
theorem all_take (s : ByteArray) : s.data.toList.take s.size = s.data.toList := List.take_of_length_le (by rw [size_list]; exact Nat.le_refl _)
set_option maxRecDepth 100000 in
set_option maxHeartbeats 2000000 in
theorem text_yes (l : List ByteArray) (hg : good l) (hs : (nameB l).size ≤ 255) (hne : l ≠ []) (w : World) :
    Calls Try.prog 14 #[.string (nameB l)] w fun e w' => e = .returned (.string (arr (bodyT l))) ∧ Below w.heap.size w w' := by
  have hl : name_Labels.f (nameB l) = some (l, 0) := by
    unfold name_Labels.f
    rw [right_name hg hs, if_pos rfl, labs_name l hg, pairs_fst]
  have hpos : 0 < l.length := List.length_pos_iff.2 hne
  have hle : l.length ≤ 255 := by have := name_len l hg; omega
  have hsz : ∀ k, (h : k < l.length) → l[k].size ≤ 63 := fun k h => (hg _ (List.getElem_mem h)).2
  have hbl := body_len l
  go_enter Try.func14, Try.ntmps14
  go_wp2_with fail
  refine (name_Labels.calls (nameB l) l 0 _ hl).mono ?_
  rintro e w1 ⟨v, rfl, hR, b1⟩
  obtain ⟨A, c, rfl, hc, hC⟩ := Kd.R_reads hR
  have HC := Lib.hid hC
  have HS := Lib.hid hsz
  clear hR hC hsz
  have t0 : decide ((l.length : Int) = 0) = false := decide_eq_false (by omega)
  have t0' : ((l.length : Int) == 0) = false := by simp; exact hne
  go_wp2_with fail
  have HB := Lib.hid (show Bld w1.heap.size w1.heap.size [] (w1.alloc (.cells #[.pointer none, .slice none 0 0] 48)) from Lib.fresh_isBuilder _ _ w1)
  have HW := Lib.hid (show Below w1.heap.size w1 (w1.alloc (.cells #[.pointer none, .slice none 0 0] 48)) from (Below.refl _ _).alloc (Nat.le_refl _) _)
  go_loopw [23] (fun i wr => ∃ k : Nat, k ≤ l.length ∧ i = .int .i64 k ∧ Hid (Bld w1.heap.size w1.heap.size (bodyT (l.take k)) wr) ∧ Hid (Below w1.heap.size w1 wr)) (fun i _ => l.length - (intOf i).toNat)
  case atStart => exact ⟨0, Nat.zero_le _, rfl, HB, HW⟩
  case round =>
    clear HB HW
    obtain ⟨k, hk, rfl, HB, HW⟩ := hrel
    by_cases hlt : k < l.length
    · have t1 : decide ((k : Int) < (l.length : Int)) = true := decide_eq_true (by omega)
      obtain ⟨ad, rfl, hcell⟩ := Kd.at_string (Kd.C_below HC.out HW.out) (k : Int) (by omega) (by omega)
      have hrd : rdOf ByteArray.empty l (k : Int) = l[k] := by
        unfold rdOf; rw [Int.toNat_natCast, List.getD_eq_getElem?_getD, List.getElem?_eq_getElem hlt]; rfl
      rw [hrd, Int.toNat_natCast] at hcell
      have hsk := HS.out k hlt
      have HP := Lib.hid (fun j => part_len l k j hlt)
      have HN := Lib.hid (body_take l k hlt)
      obtain ⟨s, hsd⟩ : ∃ s, l[k] = s := ⟨_, rfl⟩
      rw [hsd] at hcell hsk HP HN
      clear hrd hsd
      go_wp2_with fail
      go_loopw [8, 29] (fun _ i wr => ∃ j : Nat, j ≤ s.size ∧ i = .int .i64 j ∧ Hid (Bld w1.heap.size w1.heap.size (bodyT (l.take k) ++ (s.data.toList.take j).flatMap textB) wr) ∧ Hid (Below w1.heap.size w1 wr)) (fun _ i _ => s.size - (intOf i).toNat)
      case atStart => exact ⟨0, Nat.zero_le _, rfl, by simpa using HB, HW⟩
      case round =>
        clear HB HW
        obtain ⟨j, hj, rfl, HB, HW⟩ := hrel
        by_cases hjs : j < s.size
        · have t2 : decide ((j : Int) < (s.size : Int)) = true := decide_eq_true (by omega)
          have HF := Lib.hid (flat_next s j hjs (bodyT (l.take k)))
          have HPj := Lib.hid (HP.out j)
          go_wp2_with fail
          refine (put w1.heap.size w1.heap.size _ s[j] _ HB.out (by have := HPj.out; omega) HW.out.size).mono ?_
          rintro e w2 ⟨rfl, k2, b2⟩
          have K2 := Lib.hid k2
          clear k2
          go_wp2_with fail
          exact ⟨⟨j + 1, by omega, by simp, Lib.hid (by rw [HF.out]; exact K2.out), Lib.hid (HW.out.trans b2)⟩, by simp [intOf]; omega⟩
        · obtain rfl : j = s.size := by omega
          have t2 : decide ((s.size : Int) < (s.size : Int)) = false := decide_eq_false (by omega)
          have hP := Lib.hid (HP.out s.size)
          have HB2 : Hid (Bld w1.heap.size w1.heap.size (bodyT (l.take k) ++ s.data.toList.flatMap textB) wr) := Lib.hid (by
            have := HB.out
            rw [all_take] at this
            exact this)
          go_wp2_with fail
          refine (byte w1.heap.size w1.heap.size _ 46 _ HB2.out (by have := hP.out; rw [all_take] at this; omega) HW.out.size).mono ?_
          rintro e w2 ⟨rfl, k2, b2⟩
          have K2 := Lib.hid k2
          clear k2
          go_wp2_with fail
          exact ⟨⟨k + 1, by omega, by simp, Lib.hid (by rw [HN.out]; exact K2.out), Lib.hid (HW.out.trans b2)⟩, by simp [intOf]; omega⟩
    · obtain rfl : k = l.length := by omega
      have t1 : decide ((l.length : Int) < (l.length : Int)) = false := decide_eq_false (by omega)
      have HB2 : Hid (Bld w1.heap.size w1.heap.size (bodyT l) wr) := Lib.hid (by
        have := HB.out
        rw [List.take_of_length_le (Nat.le_refl _)] at this
        exact this)
      clear HB
      go_wp2_with fail
      refine (Shelf.String_any w1.heap.size w1.heap.size (bodyT l) _ HB2.out HW.out.size).mono ?_
      rintro e w2 ⟨rfl, b2⟩
      go_wp2_with fail
      go_ret
      refine ⟨by simp; rfl, ?_⟩
      have b3 := HW.out.trans b2
      exact b1.trans ⟨b3.os, b3.tape, b3.output, b3.size, fun q hq => b3.block q (Nat.lt_of_lt_of_le hq b1.size)⟩
theorem text_root (w : World) :
    Calls Try.prog 14 #[.string rootB] w fun e w' => e = .returned (.string ⟨#[46]⟩) ∧ Below w.heap.size w w' := by
  have hl : name_Labels.f rootB = some ([], 0) := by kernel_rfl
  go_enter Try.func14, Try.ntmps14
  go_wp2_with fail
  refine (name_Labels.calls rootB [] 0 _ hl).mono ?_
  rintro e w1 ⟨v, rfl, hR, b1⟩
  obtain ⟨A, c, rfl, hc, hC⟩ := Kd.R_reads hR
  clear hR hC
  go_wp2_with fail
  go_ret
  exact ⟨by simp, b1⟩
theorem text_no (n : ByteArray) (h : rightB n = false) (w : World) :
    Calls Try.prog 14 #[.string n] w fun e w' => e = .returned (.string ⟨#[]⟩) ∧ Below w.heap.size w w' := by
  have hl : name_Labels.f n = some ([], 2) := by unfold name_Labels.f; rw [h, if_neg (by decide)]
  go_enter Try.func14, Try.ntmps14
  go_wp2_with fail
  refine (name_Labels.calls n [] 2 _ hl).mono ?_
  rintro e w1 ⟨v, rfl, hR, b1⟩
  obtain ⟨A, c, rfl, hc, hC⟩ := Kd.R_reads hR
  clear hR hC
  go_wp2_with fail
  go_ret
  exact ⟨by simp, b1⟩
end Go.Proofs.Ythhbddmokgbdkaa.Dot
namespace Go.Proofs.Ythhbddmokgbdkaa.Given
open Go.RowKit Go.Proofs.YthhbddmokgbdkaaW.PrintWords Go.Proofs.Ythhbddmokgbdkaa.Name Go.Proofs.Ythhbddmokgbdkaa.Oct Go.Proofs.Ythhbddmokgbdkaa.Dot
def dotted_Text.f (a0 : ByteArray) : Option ByteArray := some (textR a0)
theorem dotted_Text.calls (a0 : ByteArray) (r : ByteArray) (w : World) (h : dotted_Text.f a0 = some r) :
    Calls Try.prog 14 #[.string a0] w fun e w' => e = .returned (.string r) ∧ Below w.heap.size w w' := by
  obtain rfl := Option.some.inj h
  cases hr : rightB a0 with
  | false =>
    have e : textR a0 = ⟨#[]⟩ := by unfold textR; rw [hr]; rfl
    rw [e]
    exact text_no a0 hr w
  | true =>
    obtain ⟨l, hg, rfl, hs⟩ := (right_iff a0).mp hr
    have e : textR (nameB l) = (match (pairs l).map (·.1) with | [] => ⟨#[46]⟩ | s :: l => arr (bodyT (s :: l))) := by
      unfold textR; rw [hr, if_pos rfl, labs_name l hg]
    rw [e, pairs_fst]
    cases l with
    | nil => exact text_root w
    | cons s t => exact text_yes (s :: t) hg hs (by simp) w
end Go.Proofs.Ythhbddmokgbdkaa.Given
