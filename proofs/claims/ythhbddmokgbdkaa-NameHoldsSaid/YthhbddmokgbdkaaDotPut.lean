/- dotted.put: its contract. -/
import Derived.Test.YthhbddmokgbdkaaDotShelf
import Derived.Test.YthhbddmokgbdkaaWWords
import Derived.WalkKit
import Derived.WalkLawsBesides
import Derived.Lib.Hide
namespace Go.Proofs.Ythhbddmokgbdkaa.Dot
open Go.RowKit Go.Proofs.YthhbddmokgbdkaaW.PrintWords
/-- A byte's text. -/
def dig (c : UInt8) : Nat → UInt8
  | 0 => UInt8.ofNat (48 + c.toNat / 100 % 10)
  | 1 => UInt8.ofNat (48 + c.toNat / 10 % 10)
  | _ => UInt8.ofNat (48 + c.toNat % 10)
def digs (c : UInt8) : List UInt8 := [dig c 0, dig c 1, dig c 2]
def textB (c : UInt8) : List UInt8 :=
  if c.toNat = 46 ∨ c.toNat = 92 then [92, c] else if 33 ≤ c.toNat ∧ c.toNat ≤ 126 then [c] else [92, dig c 0, dig c 1, dig c 2]
theorem cells_app (l m : List UInt8) : Lib.byteCells (l ++ m) = Lib.byteCells l ++ Lib.byteCells m := by simp [Lib.byteCells]
theorem is_of {T e : TypeId} {B b : Nat} {bs : List Value} {w : World} (h : Lib.BuilderAt T e B b (.pointer (some ⟨b, 0, none⟩)) bs w) : Lib.IsBuilder T e B b bs w := .inr h
abbrev Bld (B b : Nat) (l : List UInt8) (w : World) : Prop := Lib.IsBuilder 48 5 B b (Lib.byteCells l) w
theorem cells_len (l : List UInt8) : (Lib.byteCells l).length = l.length := by simp [Lib.byteCells]
/-- A byte is written. -/
theorem byte (B b : Nat) (l : List UInt8) (c : UInt8) (w : World) (h : Bld B b l w) (hlen : l.length + 1 ≤ 140737488355328) (hBw : B ≤ w.heap.size) :
    Calls Try.prog 43 #[.pointer (some ⟨b, 0, none⟩), .int .u8 (c.toNat : Int)] w fun e w' => e = .returned .nilIface ∧ Bld B b (l ++ [c]) w' ∧ Below B w w' := by
  refine (Shelf.WriteByte B b _ (c.toNat : Int) w h (by rw [cells_len]; exact hlen) hBw).mono ?_
  rintro e w' ⟨rfl, h1, h2⟩
  refine ⟨rfl, is_of ?_, h2⟩
  rw [cells_app]
  exact h1
theorem dig0 (c : UInt8) : 48 + (c.toNat : Int) / 100 % 256 % 10 = ((dig c 0).toNat : Int) := by
  have := UInt8.toNat_lt c
  rw [dig, UInt8.toNat_ofNat']; omega
theorem dig1 (c : UInt8) : 48 + (c.toNat : Int) / 10 % 256 % 10 = ((dig c 1).toNat : Int) := by
  have := UInt8.toNat_lt c
  rw [dig, UInt8.toNat_ofNat']; omega
theorem dig2 (c : UInt8) : 48 + (c.toNat : Int) % 256 % 10 = ((dig c 2).toNat : Int) := by
  have := UInt8.toNat_lt c
  rw [dig, UInt8.toNat_ofNat'] <;> omega
theorem idx0 (w : World) : (Instr.index 67 (.agg #[.int .u8 100, .int .u8 10, .int .u8 1]) (.int .i64 0)).run Try.prog w = .ok (.int .u8 100) w := by kernel_rfl
theorem idx1 (w : World) : (Instr.index 67 (.agg #[.int .u8 100, .int .u8 10, .int .u8 1]) (.int .i64 1)).run Try.prog w = .ok (.int .u8 10) w := by kernel_rfl
theorem idx2 (w : World) : (Instr.index 67 (.agg #[.int .u8 100, .int .u8 10, .int .u8 1]) (.int .i64 2)).run Try.prog w = .ok (.int .u8 1) w := by kernel_rfl
set_option maxRecDepth 100000 in
set_option maxHeartbeats 2000000 in
theorem put (B b : Nat) (l : List UInt8) (c : UInt8) (w : World) (h : Bld B b l w) (hlen : l.length + 4 ≤ 140737488355328) (hBw : B ≤ w.heap.size) :
    Calls Try.prog 42 #[.pointer (some ⟨b, 0, none⟩), .int .u8 (c.toNat : Int)] w fun e w' => e = .returned (.tuple #[]) ∧ Bld B b (l ++ textB c) w' ∧ Below B w w' := by
  have HB := Lib.hid h
  clear h
  obtain ⟨x1, h1⟩ : ∃ x, ((c.toNat : Int) == 46) = x := ⟨_, rfl⟩
  obtain ⟨x2, h2⟩ : ∃ x, ((c.toNat : Int) == 92) = x := ⟨_, rfl⟩
  obtain ⟨x3, h3⟩ : ∃ x, decide (33 ≤ (c.toNat : Int)) = x := ⟨_, rfl⟩
  obtain ⟨x4, h4⟩ : ∃ x, decide ((c.toNat : Int) ≤ 126) = x := ⟨_, rfl⟩
  go_enter Try.func42, Try.ntmps42
  cases x1 with
  | true =>
    have et : textB c = [92] ++ [c] := by unfold textB; rw [if_pos (.inl (by have := beq_iff_eq.mp h1; omega))]; rfl
    go_wp2_with fail
    refine (byte B b l 92 _ HB.out (by omega) hBw).mono ?_
    rintro e w1 ⟨rfl, k1, b1⟩
    go_wp2_with fail
    refine (byte B b _ c _ k1 (by simp; omega) (Nat.le_trans hBw b1.size)).mono ?_
    rintro e w2 ⟨rfl, k2, b2⟩
    go_wp2_with fail
    go_end0
    exact ⟨rfl, by rw [et, ← List.append_assoc]; exact k2, b1.trans b2⟩
  | false =>
    cases x2 with
    | true =>
      have et : textB c = [92] ++ [c] := by unfold textB; rw [if_pos (.inr (by have := beq_iff_eq.mp h2; omega))]; rfl
      go_wp2_with fail
      refine (byte B b l 92 _ HB.out (by omega) hBw).mono ?_
      rintro e w1 ⟨rfl, k1, b1⟩
      go_wp2_with fail
      refine (byte B b _ c _ k1 (by simp; omega) (Nat.le_trans hBw b1.size)).mono ?_
      rintro e w2 ⟨rfl, k2, b2⟩
      go_wp2_with fail
      go_end0
      exact ⟨rfl, by rw [et, ← List.append_assoc]; exact k2, b1.trans b2⟩
    | false =>
      have hn : ¬ (c.toNat = 46 ∨ c.toNat = 92) := by
        have e1 := beq_eq_false_iff_ne.mp h1
        have e2 := beq_eq_false_iff_ne.mp h2
        omega
      cases h34 : (x3 && x4) with
      | true =>
        obtain ⟨rfl, rfl⟩ : x3 = true ∧ x4 = true := by simpa using h34
        have et : textB c = [c] := by
          unfold textB; rw [if_neg hn, if_pos ⟨by have := of_decide_eq_true h3; omega, by have := of_decide_eq_true h4; omega⟩]
        clear hn h34
        go_wp2_with fail
        refine (byte B b l c _ HB.out (by omega) hBw).mono ?_
        rintro e w1 ⟨rfl, k1, b1⟩
        go_wp2_with fail
        go_end0
        exact ⟨rfl, by rw [et]; exact k1, b1⟩
      | false =>
        have et : textB c = [92, dig c 0, dig c 1, dig c 2] := by
          unfold textB; rw [if_neg hn, if_neg]
          rintro ⟨a1, a2⟩
          have : x3 = true := by rw [← h3]; exact decide_eq_true (by omega)
          have : x4 = true := by rw [← h4]; exact decide_eq_true (by omega)
          simp [*] at h34
        have go : ∀ w1, Bld B b (l ++ [92]) w1 → Below B w w1 → True := fun _ _ _ => trivial
        clear hn go
        cases x3 with
        | false =>
          go_wp2_with fail
          refine (byte B b l 92 _ HB.out (by omega) hBw).mono ?_
          rintro e w1 ⟨rfl, k1, b1⟩
          have K1 := Lib.hid k1
          clear k1
          have i0 := idx0
          have i1 := idx1
          have i2 := idx2
          go_wp2_with fail
          go_loopw [5, 9] (fun _ i wr => ∃ k : Nat, k ≤ 3 ∧ i = .int .i64 k ∧ Hid (Bld B b (l ++ [92] ++ (digs c).take k) wr) ∧ Hid (Below B w wr)) (fun _ i _ => 3 - (intOf i).toNat)
          case atStart => exact ⟨0, by omega, rfl, by simpa using K1, Lib.hid b1⟩
          case round =>
            obtain ⟨k, hk, rfl, K, HW⟩ := hrel
            rcases (show k = 0 ∨ k = 1 ∨ k = 2 ∨ k = 3 by omega) with rfl | rfl | rfl | rfl
            · go_wp2_with fail
              rw [dig0]
              refine (byte B b _ (dig c 0) wr K.out (by simp [digs]; omega) (Nat.le_trans hBw HW.out.size)).mono ?_
              rintro e w2 ⟨rfl, k2, b2⟩
              have K2 := Lib.hid k2
              clear k2
              go_wp2_with fail
              exact ⟨⟨1, by omega, rfl, by simpa [digs] using K2, Lib.hid (HW.out.trans b2)⟩, by simp [intOf]⟩
            · go_wp2_with fail
              rw [dig1]
              refine (byte B b _ (dig c 1) wr K.out (by simp [digs]; omega) (Nat.le_trans hBw HW.out.size)).mono ?_
              rintro e w2 ⟨rfl, k2, b2⟩
              have K2 := Lib.hid k2
              clear k2
              go_wp2_with fail
              exact ⟨⟨2, by omega, rfl, by simpa [digs] using K2, Lib.hid (HW.out.trans b2)⟩, by simp [intOf]⟩
            · go_wp2_with fail
              rw [dig2]
              refine (byte B b _ (dig c 2) wr K.out (by simp [digs]; omega) (Nat.le_trans hBw HW.out.size)).mono ?_
              rintro e w2 ⟨rfl, k2, b2⟩
              have K2 := Lib.hid k2
              clear k2
              go_wp2_with fail
              exact ⟨⟨3, by omega, rfl, by simpa [digs] using K2, Lib.hid (HW.out.trans b2)⟩, by simp [intOf]⟩
            · go_wp2_with fail
              go_end0
              exact ⟨rfl, by rw [et]; simpa [digs] using K.out, HW.out⟩
        | true =>
          obtain rfl : x4 = false := by simpa using h34
          go_wp2_with fail
          refine (byte B b l 92 _ HB.out (by omega) hBw).mono ?_
          rintro e w1 ⟨rfl, k1, b1⟩
          have K1 := Lib.hid k1
          clear k1
          have i0 := idx0
          have i1 := idx1
          have i2 := idx2
          go_wp2_with fail
          go_loopw [5, 9] (fun _ i wr => ∃ k : Nat, k ≤ 3 ∧ i = .int .i64 k ∧ Hid (Bld B b (l ++ [92] ++ (digs c).take k) wr) ∧ Hid (Below B w wr)) (fun _ i _ => 3 - (intOf i).toNat)
          case atStart => exact ⟨0, by omega, rfl, by simpa using K1, Lib.hid b1⟩
          case round =>
            obtain ⟨k, hk, rfl, K, HW⟩ := hrel
            rcases (show k = 0 ∨ k = 1 ∨ k = 2 ∨ k = 3 by omega) with rfl | rfl | rfl | rfl
            · go_wp2_with fail
              rw [dig0]
              refine (byte B b _ (dig c 0) wr K.out (by simp [digs]; omega) (Nat.le_trans hBw HW.out.size)).mono ?_
              rintro e w2 ⟨rfl, k2, b2⟩
              have K2 := Lib.hid k2
              clear k2
              go_wp2_with fail
              exact ⟨⟨1, by omega, rfl, by simpa [digs] using K2, Lib.hid (HW.out.trans b2)⟩, by simp [intOf]⟩
            · go_wp2_with fail
              rw [dig1]
              refine (byte B b _ (dig c 1) wr K.out (by simp [digs]; omega) (Nat.le_trans hBw HW.out.size)).mono ?_
              rintro e w2 ⟨rfl, k2, b2⟩
              have K2 := Lib.hid k2
              clear k2
              go_wp2_with fail
              exact ⟨⟨2, by omega, rfl, by simpa [digs] using K2, Lib.hid (HW.out.trans b2)⟩, by simp [intOf]⟩
            · go_wp2_with fail
              rw [dig2]
              refine (byte B b _ (dig c 2) wr K.out (by simp [digs]; omega) (Nat.le_trans hBw HW.out.size)).mono ?_
              rintro e w2 ⟨rfl, k2, b2⟩
              have K2 := Lib.hid k2
              clear k2
              go_wp2_with fail
              exact ⟨⟨3, by omega, rfl, by simpa [digs] using K2, Lib.hid (HW.out.trans b2)⟩, by simp [intOf]⟩
            · go_wp2_with fail
              go_end0
              exact ⟨rfl, by rw [et]; simpa [digs] using K.out, HW.out⟩
end Go.Proofs.Ythhbddmokgbdkaa.Dot
