/- name.folded: its contract. -/
import Derived.Test.YthhbddmokgbdkaaNameLabels
import Derived.Test.YthhbddmokgbdkaaBytesWords
namespace Go.Proofs.Ythhbddmokgbdkaa.Name
open Go.RowKit Go.Proofs.YthhbddmokgbdkaaW.PrintWords Go.Proofs.Ythhbddmokgbdkaa.Oct Go.Proofs.Ythhbddmokgbdkaa.BytesWords
set_option linter.unusedVariables false

/-- a to z for A to Z. -/
def low (c : UInt8) : UInt8 := if 65 ≤ c.toNat ∧ c.toNat ≤ 90 then UInt8.ofNat (c.toNat + 32) else c
/-- The row when k bytes are done. -/
def part (l : List UInt8) (k : Nat) : List UInt8 := (l.take k).map low ++ l.drop k
theorem part_zero (l : List UInt8) : part l 0 = l := rfl
theorem part_end (l : List UInt8) : part l l.length = l.map low := by unfold part; rw [List.take_length, List.drop_length, List.append_nil]
theorem part_len (l : List UInt8) (k : Nat) : (part l k).length = l.length := by unfold part; simp only [List.length_append, List.length_map, List.length_take, List.length_drop]; omega
theorem part_at (l : List UInt8) (k : Nat) (h : k < l.length) : (part l k)[k]'(by rw [part_len]; exact h) = l[k] := by
  unfold part
  rw [List.getElem_append_right (by simp; omega)]
  simp only [List.length_map, List.length_take, List.getElem_drop]
  congr 1; omega
theorem part_next (l : List UInt8) (k : Nat) (h : k < l.length) : part l (k + 1) = (part l k).set k (low l[k]) := by
  unfold part
  rw [List.set_append_right _ _ (by simp; omega), List.drop_eq_getElem_cons h, List.take_succ_eq_append_getElem h, List.map_append]
  have e : k - (List.map low (List.take k l)).length = 0 := by simp; omega
  rw [e, List.set_cons_zero]
  simp
theorem part_same (l : List UInt8) (k : Nat) (h : k < l.length) (hl : low l[k] = l[k]) : part l (k + 1) = part l k := by
  rw [part_next l k h, hl, ← part_at l k h, List.set_getElem_self]
theorem nums_set (l : List UInt8) (k : Nat) (c : UInt8) : (bnums l).set k (c.toNat : Int) = bnums (l.set k c) := by unfold bnums; rw [List.map_set]
theorem bytes_nums (s : ByteArray) : bytesOf s = bnums s.data.toList := rfl
theorem nums_at (l : List UInt8) (k : Nat) (h : k < l.length) : (bnums l).getD k 0 = (l[k].toNat : Int) := by unfold bnums; rw [List.getD_eq_getElem?_getD, List.getElem?_map, List.getElem?_eq_getElem h]; rfl

set_option maxHeartbeats 1000000 in
set_option maxRecDepth 100000 in
theorem folded_any (s : ByteArray) (w : World) (hs : s.size ≤ 1000000) :
    Calls Try.prog 49 #[.string s] w fun e w' => e = .returned (.string (arr (s.data.toList.map low))) ∧ Below w.heap.size w w' := by
  have kb := fun W => print_bytes (P := Try.prog) 9 46 5 Try.underlying9 Try.underlying46 Try.underlying5 s W
  go_enter Try.func49, Try.ntmps49
  have hr0 := Lib.hid (bytes_reads w 5 s (by omega))
  have hf0 : Hid (∀ j, j < s.size → (Lib.bytesWorld w 5 s).frozen? ⟨w.heap.size, j, none⟩ = false) := Lib.hid (frozen_at w 5 s)
  have hb0 := Lib.hid (bytes_below (Below.refl w.heap.size w) (Nat.le_refl _) 5 s)
  go_wp2_with fail
  obtain ⟨g, hg⟩ : ∃ g, w.heap.size = g := ⟨_, rfl⟩
  rw [hg] at hr0 hf0 hb0
  rw [hg]
  go_loopw [10] (fun v wr => ∃ k : Nat, k ≤ s.size ∧ v = .int .i64 k ∧ Hid (ReadsInt wr .u8 (some ⟨g, 0, none⟩) s.size (bnums (part s.data.toList k))) ∧ Hid (∀ j, j < s.size → wr.frozen? ⟨g, j, none⟩ = false) ∧ Hid (Below g w wr)) (fun v _ => s.size - (intOf v).toNat)
  case atStart => exact ⟨0, Nat.zero_le _, rfl, by rw [part_zero]; exact hr0, hf0, hb0⟩
  case round =>
    obtain ⟨k, hk, rfl, hr, hf, hb⟩ := hrel
    have hsz : s.data.toList.length = s.size := size_list s
    by_cases hlt : k < s.size
    · have hkl : k < s.data.toList.length := by omega
      have t0 : decide ((k : Int) < (s.size : Int)) = true := decide_eq_true (by omega)
      have hc : wr.cell? ⟨g, k, none⟩ = some (.int .u8 ((s.data.toList[k].toNat : Nat) : Int)) := by
        rw [cell_at hr.out k hlt, nums_at _ k (by rw [part_len]; exact hkl), part_at _ k hkl]
      have hfk := hf.out k hlt
      have hx := UInt8.toNat_lt s.data.toList[k]
      have hnext := Lib.hid (part_next s.data.toList k hkl)
      have hsame := Lib.hid (part_same s.data.toList k hkl)
      generalize hcc : s.data.toList[k] = c at hc hx hnext hsame
      by_cases h1 : 65 ≤ c.toNat
      · have t1 : decide ((65 : Int) ≤ ((c.toNat : Nat) : Int)) = true := decide_eq_true (by omega)
        by_cases h2 : c.toNat ≤ 90
        · have t2 : decide (((c.toNat : Nat) : Int) ≤ 90) = true := decide_eq_true (by omega)
          have hlow : (((low c).toNat : Nat) : Int) = (c.toNat : Int) - 65 + 97 := by
            unfold low; rw [if_pos ⟨h1, h2⟩, UInt8.toNat_ofNat']; omega
          have HL := Lib.hid hlow
          clear hlow
          go_wp2_with fail
          refine ⟨⟨k + 1, by omega, by simp, Lib.hid ?_, Lib.hid ?_, Lib.hid (hb.out.setCell (p := ⟨g, k, none⟩) (Nat.le_refl _) _)⟩, by simp [intOf]; omega⟩
          · have := bytes_set hr.out k ((low c).toNat : Int)
            rw [nums_set, ← hnext.out, HL.out] at this
            exact this
          · intro j hj; rw [World.frozen?_setCell]; exact hf.out j hj
        · have t2 : decide (((c.toNat : Nat) : Int) ≤ 90) = false := decide_eq_false (by omega)
          have hp := Lib.hid (hsame.out (by unfold low; rw [if_neg (by omega)]))
          go_wp2_with fail
          refine ⟨⟨k + 1, by omega, by simp, ?_, hf, hb⟩, by simp [intOf]; omega⟩
          rw [hp.out]; exact hr
      · have t1 : decide ((65 : Int) ≤ ((c.toNat : Nat) : Int)) = false := decide_eq_false (by omega)
        have hp := Lib.hid (hsame.out (by unfold low; rw [if_neg (by omega)]))
        go_wp2_with fail
        refine ⟨⟨k + 1, by omega, by simp, ?_, hf, hb⟩, by simp [intOf]; omega⟩
        rw [hp.out]; exact hr
    · obtain rfl : k = s.size := by omega
      have t0 : decide ((s.size : Int) < (s.size : Int)) = false := decide_eq_false (by omega)
      have kc := string_of_reads (P := Try.prog) (c := grownCap w s.size 0 5) Try.underlying46 Try.underlying5 Try.underlying9 hr.out
      rw [← hsz, part_end, hsz, str_bnums] at kc
      go_wp2_with fail
      go_ret
      exact ⟨rfl, by rw [hg]; exact hb.out⟩
end Go.Proofs.Ythhbddmokgbdkaa.Name
namespace Go.Proofs.Ythhbddmokgbdkaa.Given
open Go.RowKit Go.Proofs.YthhbddmokgbdkaaW.PrintWords Go.Proofs.Ythhbddmokgbdkaa.Name Go.Proofs.Ythhbddmokgbdkaa.Oct
def name_folded.f (a0 : ByteArray) : Option ByteArray := if a0.size ≤ 1000000 then some (arr (a0.data.toList.map low)) else none
theorem name_folded.calls (a0 : ByteArray) (r : ByteArray) (w : World) (h : name_folded.f a0 = some r) :
    Calls Try.prog 49 #[.string a0] w fun e w' => e = .returned (.string r) ∧ Below w.heap.size w w' := by
  unfold name_folded.f at h
  by_cases hs : a0.size ≤ 1000000
  · rw [if_pos hs] at h
    obtain rfl := Option.some.inj h
    exact folded_any a0 w hs
  · rw [if_neg hs] at h; exact absurd h (by simp)
end Go.Proofs.Ythhbddmokgbdkaa.Given
