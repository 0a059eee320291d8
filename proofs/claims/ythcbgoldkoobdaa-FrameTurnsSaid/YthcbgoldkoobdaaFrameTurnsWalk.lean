/- The walk of the law FrameTurns. -/
import Derived.Test.YthcbgoldkoobdaaFrameTurnLaw
import Derived.Test.YthcbgoldkoobdaaBytesWords
import Derived.Test.YthcbgoldkoobdaaPOctx
import Derived.Outline
import Derived.Lib.Hide
namespace Go.Proofs.Ythcbgoldkoobdaa.TurnsWalk
open Go.RowKit Go.Proofs.Ythcbgoldkoobdaa.POct Go.Proofs.YthcbgoldkoobdaaW.PrintWords Go.Proofs.YthcbgoldkoobdaaW.PrintLast Go.Proofs.YthcbgoldkoobdaaW.PrintMore Go.Proofs.Ythcbgoldkoobdaa.Given Go.Proofs.Ythcbgoldkoobdaa.Oct Go.Proofs.Ythcbgoldkoobdaa.OctFacts Go.Proofs.Ythcbgoldkoobdaa.BytesWords
set_option linter.unusedVariables false
set_option linter.unusedSimpArgs false

theorem awake_calls (w : World) : Calls Try.prog 20 #[] w fun e w' => e = .returned (.bool true) ∧ Below w.heap.size w w' :=
  beadrolllaw06_awake.calls 60 true w (awake06_f 60 (by omega))
theorem back (w1 : World) (s : ByteArray) (j : Nat) (c : Nat) (hs : s.size ≤ 9223372036854775807) (x : Int) :
    (Go.convert 53 9 (.slice (some ⟨w1.heap.size, 0, none⟩) s.size c)).run Try.prog ((Lib.bytesWorld w1 5 s).setCell ⟨w1.heap.size, j, none⟩ (.int .u8 x)) = .ok (.string (strOfNums ((bytesOf s).set j x))) ((Lib.bytesWorld w1 5 s).setCell ⟨w1.heap.size, j, none⟩ (.int .u8 x)) :=
  string_of_reads Try.underlying53 Try.underlying5 Try.underlying9 (bytes_set (bytes_reads w1 5 s hs) j x)
theorem shift_one (m : Int) (h0 : 0 ≤ m) (h1 : m < 8) (W : World) : (Op.shift .shl .u8 1 .u16 m).run Try.prog W = .ok (.int .u8 ((2 ^ m.toNat : Nat) : Int)) W := by
  have h : m = 0 ∨ m = 1 ∨ m = 2 ∨ m = 3 ∨ m = 4 ∨ m = 5 ∨ m = 6 ∨ m = 7 := by omega
  rcases h with rfl | rfl | rfl | rfl | rfl | rfl | rfl | rfl <;> rfl
theorem bytes_data (s : ByteArray) (j : Nat) (hj : j < s.size) (v : Nat) : (strOfNums ((bytesOf s).set j (v : Int))).data.toList = s.data.toList.set j (UInt8.ofNat v) := by
  rw [strOfNums_data]
  unfold bytesOf
  apply List.ext_getElem?
  intro i
  simp only [List.getElem?_map, List.getElem?_set, List.length_map]
  by_cases h : j = i
  · subst h
    have : j < s.data.toList.length := by rw [size_list]; exact hj
    simp [hj]
  · simp only [if_neg h]
    cases s.data.toList[i]? <;> simp
/-- Where the byte lies that is changed. -/
def place (n m : Nat) (a : Int) : Nat := n + (4 + (a / 8).toNat % (4 + m))
theorem place_is (N n m : Nat) (a : Int) (h : N = n + (8 + m)) (hn : N ≤ 10000) (ha : 0 ≤ a ∧ a < 65536) :
    wrap64 (wrap64 (wrap64 ((N : Int) - (8 + (m : Int))) + 4) + (wrap64 (IntKind.u16.wrap (a.tdiv 8))).tmod (8 + (m : Int) - 4)) = ((place n m a : Nat) : Int) := by
  have e0 : wrap64 (IntKind.u16.wrap (a.tdiv 8)) = ((a / 8).toNat : Int) := by
    rw [Int.tdiv_eq_ediv_of_nonneg ha.1, IntKind.wrap_u16, w64_id (by omega) (by omega)]; omega
  have e1 : (8 + (m : Int) - 4) = ((4 + m : Nat) : Int) := by omega
  have hlt := Nat.mod_lt (a / 8).toNat (show 0 < 4 + m by omega)
  rw [e0, e1, Int.tmod_eq_emod_of_nonneg (by omega), ← Int.natCast_emod, w64_id (x := (N : Int) - (8 + (m : Int))) (by omega) (by omega), w64_id (x := (N : Int) - (8 + (m : Int)) + 4) (by omega) (by omega), w64_id (by omega) (by omega)]
  unfold place; omega
/-- What is scanned behind the change. -/
theorem scan_turned (init : List ByteArray) (last B : ByteArray) (a : Int) (ha : 0 ≤ a ∧ a < 65536) (hB : filesB (init ++ [last]) = B) (hi : ∀ x ∈ init, x.size ≤ 100) (hl : last.size ≤ 100) (hb : B.size ≤ 10000) (J : Nat) (hJ : place (filesB init).size last.size a = J) (hJB : J < B.size) :
    frame_Scan.f 200000 (strOfNums ((bytesOf B).set J (Go.bits .xor .u8 ((bytesOf B)[J]?.getD 0) (2 ^ (a % 8).toNat % 256)))) = some (init, ((filesB init).size : Int)) := by
  have hjj : (a / 8).toNat % (4 + last.size) < 4 + last.size := Nat.mod_lt _ (by omega)
  have hm : (a % 8).toNat < 8 := by omega
  have hJl : J < B.data.toList.length := by rw [size_list]; exact hJB
  have hv : (bytesOf B)[J]?.getD 0 = ((B.data.toList[J].toNat : Nat) : Int) := by
    unfold bytesOf; rw [List.getElem?_map, List.getElem?_eq_getElem hJl]; rfl
  have hx := UInt8.toNat_lt B.data.toList[J]
  have hp : 2 ^ (a % 8).toNat < 2 ^ 8 := Nat.pow_lt_pow_right (by omega) hm
  have hpow : (2 : Int) ^ (a % 8).toNat % 256 = ((2 ^ (a % 8).toNat : Nat) : Int) := by
    rw [show (2 : Int) ^ (a % 8).toNat = ((2 ^ (a % 8).toNat : Nat) : Int) from (Int.natCast_pow 2 _).symm]
    generalize 2 ^ (a % 8).toNat = q at hp ⊢
    omega
  have hX : Go.bits .xor .u8 ((bytesOf B)[J]?.getD 0) (2 ^ (a % 8).toNat % 256) = ((B.data.toList[J].toNat ^^^ 2 ^ (a % 8).toNat : Nat) : Int) := by
    rw [hv, hpow, Go.u8_xor_nat _ _ hx hp]
  rw [hX]
  have hd := bytes_data B J hJB (B.data.toList[J].toNat ^^^ 2 ^ (a % 8).toNat)
  obtain ⟨B', hB'⟩ : ∃ B', strOfNums ((bytesOf B).set J ((B.data.toList[J].toNat ^^^ 2 ^ (a % 8).toNat : Nat) : Int)) = B' := ⟨_, rfl⟩
  rw [hB'] at hd ⊢
  have hz : B'.size = B.size := by rw [← size_list, hd, List.length_set, size_list]
  have hfr : ∀ h, UInt8.ofNat (B.data.toList[J].toNat ^^^ 2 ^ (a % 8).toNat) ≠ (frameL last.data.toList)[4 + (a / 8).toNat % (4 + last.size)]'h := by
    intro h
    have e : (frameL last.data.toList)[4 + (a / 8).toNat % (4 + last.size)]'h = B.data.toList[J] := by
      have h1 : B.data.toList[J]? = (frameL last.data.toList)[4 + (a / 8).toNat % (4 + last.size)]? := by
        rw [← hB, files_app, files_one, app_list, ← hJ]
        unfold place
        rw [List.getElem?_append_right (by rw [size_list]; omega), size_list]
        unfold frameB
        rw [arr_list]
        congr 1; omega
      rw [List.getElem?_eq_getElem hJl, List.getElem?_eq_getElem h] at h1
      exact (Option.some.inj h1).symm
    rw [e]
    exact flipped _ _ hm
  have hsc := turn_scan init last hi hl (4 + (a / 8).toNat % (4 + last.size)) (by omega) (by omega) _ hfr B' (by rw [hd, hB, show (filesB init).size + (4 + (a / 8).toNat % (4 + last.size)) = J from hJ])
  rw [scan_f B' 200000 (by omega) (by omega), hsc]
def lastN (l : List ByteArray) : Nat → Nat
  | 0 => 0
  | i + 1 => 8 + (l.getD i ByteArray.empty).size
set_option maxHeartbeats 2000000 in
set_option maxRecDepth 100000 in
theorem walk_in (A0 : Option Addr) (c0 : Nat) (init : List ByteArray) (last : ByteArray) (l : List ByteArray) (hl : l = init ++ [last]) (a : Int) (w : World) (hr : Kd.C Kd.string w A0 l.length l) (hc : l.length ≤ c0) (h20 : l.length ≤ 20) (ha : 0 ≤ a ∧ a < 65536) :
    Calls Try.prog 12 #[.slice A0 l.length c0, .int .u16 a] w fun e w' => e = .returned (.bool true) ∧ Below w.heap.size w w' := by
  have hlen : l.length = init.length + 1 := by rw [hl]; simp
  have HR := Lib.hid hr
  have HL := Lib.hid hl
  clear hr hl
  have z0 : ((l.length : Int) == 0) = false := beq_eq_false_iff_ne.mpr (by omega)
  have z1 : decide (20 < (l.length : Int)) = false := decide_eq_false (by omega)
  have z2 : decide (20 < l.length) = false := decide_eq_false (by omega)
  have z3 : ¬ l = [] := by rintro rfl; simp at hlen
  have HLEN := Lib.hid hlen
  clear hlen
  go_enter Try.func12, Try.ntmps12
  go_wp2_with fail
  refine (awake_calls _).mono ?_
  rintro e w1 ⟨rfl, b1⟩
  have B1 := Lib.hid b1
  clear b1
  go_wp2_with fail
  go_loopw [5, 6, 7] (fun v5 v6 v7 wr => ∃ i : Nat, i ≤ l.length ∧ v7 = .int .i64 i ∧ v5 = .string (filesB (l.take i)) ∧ v6 = .int .i64 (lastN l i : Int) ∧ Hid (∀ s ∈ l.take i, s.size ≤ 100) ∧ Hid (Below w.heap.size w wr)) (fun _ _ i _ => l.length - (intOf i).toNat)
  case atStart => exact ⟨0, Nat.zero_le _, rfl, rfl, rfl, Lib.hid (by simp), B1⟩
  case round =>
    clear B1
    obtain ⟨i, hi, rfl, rfl, rfl, HS, HB⟩ := hrel
    by_cases hlt : i < l.length
    · have t0 : decide ((i : Int) < (l.length : Int)) = true := decide_eq_true (by omega)
      obtain ⟨ad, rfl, hcell⟩ := Kd.at_string (Kd.C_below HR.out HB.out) (i : Int) (by omega) (by omega)
      have hrd : rdOf ByteArray.empty l (i : Int) = l[i] := by
        unfold rdOf; rw [Int.toNat_natCast, List.getD_eq_getElem?_getD, List.getElem?_eq_getElem hlt]; rfl
      rw [hrd, Int.toNat_natCast] at hcell
      have HN := Lib.hid (files_take l i hlt)
      have HT := Lib.hid (List.take_succ_eq_append_getElem hlt)
      have HZ := Lib.hid (show lastN l (i + 1) = 8 + l[i].size by rw [lastN, List.getD_eq_getElem?_getD, List.getElem?_eq_getElem hlt]; rfl)
      have HF := Lib.hid (files_size (l.take i) HS.out)
      obtain ⟨s, hsd⟩ : ∃ s, l[i] = s := ⟨_, rfl⟩
      rw [hsd] at hcell HN HT HZ
      clear hsd hrd
      by_cases h100 : s.size ≤ 100
      · have t1 : decide (100 < (s.size : Int)) = false := decide_eq_false (by omega)
        have t2 : decide (100 < s.size) = false := decide_eq_false (by omega)
        have fz := frame_size s
        have fl : (filesB (l.take i)).size + (frameB s).size ≤ 9223372036854775807 := by have := HF.out; rw [List.length_take] at this; omega
        go_wp2_with fail
        refine (frame_Frame.calls 60 s (frameB s) 0 _ (frame_f s 60 (by omega) (by omega))).mono ?_
        rintro e w2 ⟨rfl, b2⟩
        have B2 := Lib.hid b2
        clear b2
        go_wp2_with fail
        refine ⟨⟨i + 1, by omega, by simp, by rw [HN.out], by rw [HZ.out]; simp, Lib.hid ?_, Lib.hid (below_then HB.out HB.out.size B2.out)⟩, by simp [intOf]; omega⟩
        rw [HT.out]
        intro x hx
        rcases List.mem_append.mp hx with hx | hx
        · exact HS.out x hx
        · rw [List.mem_singleton.mp hx]; exact h100
      · have t1 : decide (100 < (s.size : Int)) = true := decide_eq_true (by omega)
        have t2 : decide (100 < s.size) = true := decide_eq_true (by omega)
        go_wp2_with fail
        go_ret
        exact ⟨rfl, HB.out⟩
    · obtain rfl : i = l.length := by omega
      have t0 : decide ((l.length : Int) < (l.length : Int)) = false := decide_eq_false (by omega)
      have hall : l.take l.length = l := List.take_of_length_le (Nat.le_refl _)
      rw [hall] at HS ⊢
      clear hall
      have hz : (filesB l).size = (filesB init).size + (8 + last.size) := by
        rw [HL.out, files_app, files_one, ByteArray.size_append, frame_size]
      have hbd := files_size l HS.out
      have h100 : last.size ≤ 100 := HS.out last (by rw [HL.out]; simp)
      have hln : lastN l l.length = 8 + last.size := by
        have h1 := HLEN.out
        rw [h1, lastN]
        have : l.getD init.length ByteArray.empty = last := by rw [HL.out]; simp [List.getD_eq_getElem?_getD]
        rw [this]
      rw [hln]
      obtain ⟨B, hB⟩ : ∃ B, filesB l = B := ⟨_, rfl⟩
      rw [hB] at hz hbd ⊢
      have HBF := Lib.hid hB
      clear hB hln
      have t1 : decide ((B.size : Int) < ((8 + last.size : Nat) : Int)) = false := decide_eq_false (by omega)
      have t1' : decide ((B.size : Int) < 8 + (last.size : Int)) = false := decide_eq_false (by omega)
      have t2 : decide (((8 + last.size : Nat) : Int) < 8) = false := decide_eq_false (by omega)
      have t2' : decide (8 + (last.size : Int) < 8) = false := decide_eq_false (by omega)
      have kb := fun W => print_bytes (P := Try.prog) 9 53 5 Try.underlying9 Try.underlying53 Try.underlying5 B W
      have HZ := Lib.hid hz
      have HBD := Lib.hid hbd
      clear hz hbd
      have HJ := Lib.hid (place_is B.size (filesB init).size last.size a HZ.out (by have := HBD.out; omega) ha)
      have hjj : (a / 8).toNat % (4 + last.size) < 4 + last.size := Nat.mod_lt _ (by omega)
      obtain ⟨J, hJ⟩ : ∃ J, place (filesB init).size last.size a = J := ⟨_, rfl⟩
      have hj := HJ.out
      rw [hJ] at hj
      have hJB : J < B.size := by rw [← hJ, HZ.out]; unfold place; omega
      have HJP := Lib.hid hJ
      clear hJ HJ
      have hc8 := cell_at (bytes_reads wr 5 B (by have := HBD.out; omega)) J hJB
      have hf8 := frozen_at wr 5 B J hJB
      have kc := back wr B J (grownCap wr B.size 0 5) (by have := HBD.out; omega)
      have hm8 : 0 ≤ a.tmod 8 ∧ a.tmod 8 < 8 := by rw [Int.tmod_eq_emod_of_nonneg ha.1]; omega
      have ksh := shift_one (a.tmod 8) hm8.1 hm8.2
      have hJB' : (J : Int) < (B.size : Int) := by omega
      have hinit : ∀ x ∈ init, x.size ≤ 100 := fun x hx => HS.out x (by rw [HL.out]; simp [hx])
      have hsc := scan_turned init last B a ha (by rw [← HL.out]; exact HBF.out) hinit h100 (by have := HBD.out; omega) J HJP.out hJB
      have HSC := Lib.hid hsc
      clear hsc
      go_wp2_with fail
      refine (frame_Scan.calls 200000 _ init _ _ HSC.out).mono ?_
      rintro e w3 ⟨v, rfl, hR, b3⟩
      have bw : Below w.heap.size w w3 := by
        have e1 : Below w.heap.size w ((Lib.bytesWorld wr 5 B).setCell ⟨wr.heap.size, J, none⟩ (.int .u8 (Go.bits .xor .u8 ((bytesOf B)[J]?.getD 0) (2 ^ (a % 8).toNat % 256)))) := below_set (bytes_below HB.out HB.out.size _ _) HB.out.size
        exact below_then e1 e1.size b3
      obtain ⟨A, c, rfl, hcA, hC⟩ := Kd.R_reads hR
      clear hR b3
      have HC := Lib.hid hC
      have HW := Lib.hid bw
      clear hC bw
      have hcut := (print_take_of (P := Try.prog) Value.string ByteArray.empty 42 9 .i64 Try.underlying42 (i := _) rfl rfl A0 c0 l ((l.length : Int) - 1) (by have := HLEN.out; omega) (by omega) hc).1
      have htk : l.take ((l.length : Int) - 1).toNat = init := by
        rw [show ((l.length : Int) - 1).toNat = init.length from by have := HLEN.out; omega, HL.out, List.take_left' rfl]
      have hCi := Kd.C_take (Kd.C_below HR.out HW.out) (m := ((l.length : Int) - 1).toNat) (by omega)
      rw [htk] at hcut hCi
      have HCI := Lib.hid hCi
      clear hCi htk
      have hci : init.length ≤ c0 := by have := HLEN.out; omega
      have htx := texts_f init 30 (by have := HLEN.out; omega) (by have := HLEN.out; omega)
      have HTX := Lib.hid htx
      clear htx
      have hEnd : wrap64 ((B.size : Int) - (8 + (last.size : Int))) = ((filesB init).size : Int) := by
        have h1 := HZ.out
        have h2 := HBD.out
        rw [w64_id (by omega) (by omega)]; omega
      go_wp2_with fail
      refine (beadrollref01_Texts.calls 30 A c init A0 c0 init true _ HC.out hcA HCI.out hci HTX.out).mono ?_
      rintro e w4 ⟨rfl, d4⟩
      have b4 := below_then HW.out HW.out.size d4.below
      clear d4
      go_wp2_with fail
      go_ret
      exact ⟨by simp, b4⟩
set_option maxHeartbeats 2000000 in
set_option maxRecDepth 100000 in
theorem walk_out (A0 : Option Addr) (c0 : Nat) (l : List ByteArray) (a : Int) (w : World) (hout : l.length = 0 ∨ 20 < l.length) (hmax : l.length ≤ maxLen) :
    Calls Try.prog 12 #[.slice A0 l.length c0, .int .u16 a] w fun e w' => e = .returned (.bool true) ∧ Below w.heap.size w w' := by
  unfold maxLen at hmax
  obtain ⟨n, hn⟩ : ∃ n, l.length = n := ⟨_, rfl⟩
  rw [hn] at hout hmax ⊢
  clear hn
  rcases hout with rfl | hout
  · go_enter Try.func12, Try.ntmps12
    go_wp2_with fail
    refine (awake_calls _).mono ?_
    rintro e w1 ⟨rfl, b1⟩
    go_wp2_with fail
    refine (awake_calls _).mono ?_
    rintro e w2 ⟨rfl, b2⟩
    go_wp2_with fail
    go_ret
    exact ⟨rfl, below_then b1 b1.size b2⟩
  · have z0 : ((n : Int) == 0) = false := beq_eq_false_iff_ne.mpr (by omega)
    have z1 : decide (20 < (n : Int)) = true := decide_eq_true (by omega)
    have z2 : decide (20 < n) = true := decide_eq_true (by omega)
    have z3 : ¬ n = 0 := by omega
    go_enter Try.func12, Try.ntmps12
    go_wp2_with fail
    refine (awake_calls _).mono ?_
    rintro e w1 ⟨rfl, b1⟩
    go_wp2_with fail
    refine (awake_calls _).mono ?_
    rintro e w2 ⟨rfl, b2⟩
    go_wp2_with fail
    go_ret
    exact ⟨rfl, below_then b1 b1.size b2⟩
theorem walk (A0 : Option Addr) (c0 : Nat) (l : List ByteArray) (a : Int) (w : World) (hr : Kd.C Kd.string w A0 l.length l) (hc : l.length ≤ c0) (hm : l.length ≤ maxLen) (hs : ∀ s ∈ l, s.size ≤ maxLen) (ha : (Lit.int .u16 a).wf = true) :
    Calls Try.prog 12 #[.slice A0 l.length c0, .int .u16 a] w fun e w' => e = .returned (.bool true) ∧ Below w.heap.size w w' := by
  have ha : 0 ≤ a ∧ a < 65536 := by simp [Lit.wf, IntKind.min, IntKind.max, IntKind.signed, IntKind.bits] at ha; omega
  by_cases hout : l.length = 0 ∨ 20 < l.length
  · exact walk_out A0 c0 l a w hout hm
  · have hne : l ≠ [] := by rintro rfl; simp at hout
    exact walk_in A0 c0 l.dropLast (l.getLast hne) l (List.dropLast_concat_getLast hne).symm a w hr hc (by omega) ha
end Go.Proofs.Ythcbgoldkoobdaa.TurnsWalk
