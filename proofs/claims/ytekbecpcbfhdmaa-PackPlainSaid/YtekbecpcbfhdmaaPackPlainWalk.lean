/- The walk of the law PackPlain. -/
import Derived.Test.YtekbecpcbfhdmaaPackTwo
import Derived.Outline
import Derived.Lib.Hide
namespace Go.Proofs.Ytekbecpcbfhdmaa.Pack
open Go.RowKit Go.Proofs.YtekbecpcbfhdmaaW.PrintWords Go.Proofs.Ytekbecpcbfhdmaa.Oct Go.Proofs.Ytekbecpcbfhdmaa.Name Go.Proofs.Ytekbecpcbfhdmaa.PPak Go.Proofs.Ytekbecpcbfhdmaa.PackFacts Go.Proofs.Ytekbecpcbfhdmaa.Given
set_option linter.unusedVariables false
set_option linter.unusedSimpArgs false
theorem rd_item (l : List It) (i : Nat) (h : i < l.length) : rd_T31 l (i : Int) = l[i] := by
  unfold rd_T31; rw [Int.toNat_natCast, List.getD_eq_getElem?_getD, List.getElem?_eq_getElem h]; rfl
theorem few_calls (A0 : Option Addr) (c0 : Nat) (l : List It) (w : World) (hr : Kd.C k31 w A0 l.length l) (hc : l.length ≤ c0) (hl : l.length ≤ 9223372036854775807) :
    Calls Try.prog 9 #[.slice A0 l.length c0] w fun e w' => e = .returned (.bool (fewB l)) ∧ Below w.heap.size w w' := by
  obtain ⟨k, hk⟩ := few_big l hl 0
  exact (beadrolllaw09_few.calls k A0 c0 l _ w hr hc hk).mono fun e w' ⟨he, hd⟩ => ⟨he, hd.below⟩
theorem right_calls (n : ByteArray) (w : World) :
    Calls Try.prog 13 #[.string n] w fun e w' => e = .returned (.bool (rightB n)) ∧ Below w.heap.size w w' :=
  beadrollref07_Right.calls 600 n (rightB n) w (rright_f n 600 (by omega))
theorem cells_item {A0 : Option Addr} {l : List It} {w : World} (hr : Kd.C k31 w A0 l.length l) (i : Nat) (hlt : i < l.length) : ∃ ad, A0 = some ad ∧ ∀ W, Below w.heap.size w W →
    W.cell? (ad.add (i * 3)) = some (.bool l[i].f0) ∧ W.cell? ⟨(ad.add (i * 3)).block, (ad.add (i * 3)).off + 1, none⟩ = some (.string l[i].f1) ∧ W.cell? ⟨(ad.add (i * 3)).block, (ad.add (i * 3)).off + 2, none⟩ = some (.bool l[i].f2) := by
  obtain ⟨ad, rfl, _⟩ := at_T31 hr (i : Int) (by omega) (by omega)
  refine ⟨ad, rfl, fun W hW => ?_⟩
  obtain ⟨ad', h0, h1, h2, h3⟩ := at_T31 (Kd.C_below hr hW) (i : Int) (by omega) (by omega)
  obtain rfl := Option.some.inj h0
  rw [rd_item l i hlt] at h1 h2 h3
  exact ⟨h1, h2, h3⟩
set_option maxHeartbeats 4000000 in
set_option maxRecDepth 100000 in
theorem plain_walk (A0 : Option Addr) (c0 : Nat) (l : List It) (n : ByteArray) (w : World) (hr : Kd.C k31 w A0 l.length l) (hc : l.length ≤ c0) (hl : l.length ≤ 9223372036854775807) :
    Calls Try.prog 4 #[.slice A0 l.length c0, .string n] w fun e w' => e = .returned (.bool true) ∧ Below w.heap.size w w' := by
  have HR := Lib.hid hr
  clear hr
  have early : ∀ W, Below w.heap.size w W → Calls Try.prog 8 #[] W fun e w' => e = .returned (.bool true) ∧ Below w.heap.size w w' := fun W hW => (awake_any W).mono fun e w' ⟨he, hb⟩ => ⟨he, below_then hW hW.size hb⟩
  have EARLY := Lib.hid early
  clear early
  go_enter Try.func4, Try.ntmps4
  go_wp2_with fail
  refine (EARLY.out _ (Below.refl _ _)).mono ?_
  rintro e w1 ⟨rfl, b1⟩
  have B1 := Lib.hid b1
  clear b1
  go_wp2_with fail
  refine (few_calls A0 c0 l _ (Kd.C_below HR.out B1.out) hc hl).mono ?_
  rintro e w2 ⟨rfl, b2⟩
  have B2 := Lib.hid (below_then B1.out B1.out.size b2)
  clear b2
  cases hf : fewB l with
  | false =>
    clear hf
    go_wp2_with fail
    refine (EARLY.out _ B2.out).mono ?_
    rintro e w3 ⟨rfl, b3⟩
    go_wp2_with fail
    go_ret
    exact ⟨rfl, b3⟩
  | true =>
    have HF := Lib.hid hf
    clear hf
    by_cases h20 : l.length ≤ 20
    · have t0 : decide (20 < (l.length : Int)) = false := decide_eq_false (by omega)
      have t1 : decide (20 < l.length) = false := decide_eq_false (by omega)
      go_wp2_with fail
      refine (right_calls n _).mono ?_
      rintro e w3 ⟨rfl, b3⟩
      have B3 := Lib.hid (below_then B2.out B2.out.size b3)
      clear b3
      cases hn : rightB n with
      | false =>
        clear hn
        go_wp2_with fail
        refine (EARLY.out _ B3.out).mono ?_
        rintro e w4 ⟨rfl, b4⟩
        go_wp2_with fail
        go_ret
        exact ⟨rfl, b4⟩
      | true =>
        have HN := Lib.hid hn
        clear hn
        go_wp2_with fail
        refine (New w.heap.size w3 B3.out.size).mono ?_
        rintro e w4 ⟨p, mb, rfl, hpk, hp, hm, b4⟩
        have O4 := Lib.hid (show One w p mb ([], []) w4 from ⟨⟨none, hpk⟩, below_then B3.out B3.out.size b4⟩)
        clear hpk hp hm b4
        go_wp2_with fail
        refine (New w.heap.size w4 O4.out.lo).mono ?_
        rintro e w5 ⟨q, mc, rfl, hpk, hp, hm, b5⟩
        have O5 := Lib.hid (O4.out.second hpk hp hm b5)
        clear hpk hp hm b5
        go_wp2_with fail
        go_loopw [7] (fun v7 wr => ∃ i : Nat, i ≤ l.length ∧ v7 = .int .i64 i ∧ Hid (Two w p mb q mc (runI (l.take i) ([], [])) (runI (l.take i) ([], [])) wr)) (fun v _ => l.length - (intOf v).toNat)
        case atStart => exact ⟨0, Nat.zero_le _, rfl, O5⟩
        case round =>
          clear O5 O4 B3 B2 B1
          obtain ⟨i, hi, rfl, HT⟩ := hrel
          have hfit : Fit (runI (l.take i) ([], [])) (17000 * i) := by
            have := run_fit (l.take i) ([], []) 0 (fun x hx => of_decide_eq_true (List.all_eq_true.mp (Bool.and_eq_true_iff.mp HF.out).1 x (List.mem_of_mem_take hx))) (fit_nil 0)
            rw [List.length_take, Nat.min_eq_left hi, Nat.zero_add] at this; exact this
          by_cases hlt : i < l.length
          · have t2 : decide ((i : Int) < (l.length : Int)) = true := decide_eq_true (by omega)
            have hsn : runI (l.take (i + 1)) ([], []) = itemStep l[i] (runI (l.take i) ([], [])) := by rw [List.take_succ_eq_append_getElem hlt, runI_snoc]
            have hx17 : l[i].f1.size ≤ 17000 := of_decide_eq_true (List.all_eq_true.mp (Bool.and_eq_true_iff.mp HF.out).1 _ (List.getElem_mem hlt))
            obtain ⟨ad, rfl, hcell⟩ := cells_item HR.out i hlt
            obtain ⟨x, hx⟩ : ∃ x, l[i] = x := ⟨_, rfl⟩
            rw [hx] at hsn hx17 hcell
            obtain ⟨S, hS⟩ : ∃ S, runI (l.take i) ([], []) = S := ⟨_, rfl⟩
            rw [hS] at hfit HT hsn
            have HSN := Lib.hid hsn
            have HFIT := Lib.hid hfit
            clear hsn hfit hS hx
            obtain ⟨raw, s, may⟩ := x
            simp only at hcell hx17
            have HC := Lib.hid hcell
            obtain ⟨hc0, hc1, hc2⟩ := hcell _ HT.out.below
            clear hcell
            have hlen : S.1.length + s.size ≤ 1000000 := by have := HFIT.out.bytes; omega
            cases raw with
            | true =>
              go_wp2_with fail
              refine (HT.out.Raw s hlen).mono ?_
              rintro e w6 ⟨rfl, h6⟩
              have H6 := Lib.hid h6.flip
              clear h6 hc0 hc1 hc2 HT
              obtain ⟨hc0, hc1, hc2⟩ := HC.out _ H6.out.below
              go_wp2_with fail
              refine (H6.out.Raw s hlen).mono ?_
              rintro e w7 ⟨rfl, h7⟩
              have H7 := Lib.hid h7.flip
              clear h7 hc0 hc1 hc2
              go_wp2_with fail
              refine ⟨⟨i + 1, by omega, by simp, Lib.hid ?_⟩, by simp [intOf]; omega⟩
              rw [HSN.out]; exact H7.out
            | false =>
              go_wp2_with fail
              go_still_tail 11, (by kernel_rfl)
              change wpList _ _ _ _ _ wr.drew
              have hd : Below wr.heap.size wr wr.drew := (Below.refl _ wr).drew
              have HD := Lib.hid (HT.out.rest hd)
              clear hd hc0 hc1 hc2 HT
              generalize wr.drew = wd at HD
              go_wp2_with fail
              refine (HD.out.Name s may _ HFIT.out (by omega)).mono ?_
              rintro e w6 ⟨rfl, h6⟩
              have H6 := Lib.hid h6.flip
              clear h6 HD
              obtain ⟨hc0, hc1, hc2⟩ := HC.out _ H6.out.below
              go_wp2_with fail
              go_still_tail 11, (by kernel_rfl)
              change wpList _ _ _ _ _ w6.drew
              have hd : Below w6.heap.size w6 w6.drew := (Below.refl _ w6).drew
              have HD := Lib.hid (H6.out.rest hd)
              clear hd hc0 hc1 hc2 H6
              generalize w6.drew = wd at HD
              go_wp2_with fail
              refine (HD.out.Name s may _ HFIT.out (by omega)).mono ?_
              rintro e w7 ⟨rfl, h7⟩
              have H7 := Lib.hid h7.flip
              clear h7 HD
              go_wp2_with fail
              refine ⟨⟨i + 1, by omega, by simp, Lib.hid ?_⟩, by simp [intOf]; omega⟩
              rw [HSN.out]; exact H7.out
          · obtain rfl : i = l.length := by omega
            have t2 : decide ((l.length : Int) < (l.length : Int)) = false := decide_eq_false (by omega)
            rw [List.take_of_length_le (Nat.le_refl _)] at HT hfit
            obtain ⟨S, hS⟩ : ∃ S, runI l ([], []) = S := ⟨_, rfl⟩
            rw [hS] at hfit HT
            have HFIT := Lib.hid hfit
            clear hfit hS hlt hi
            have hnr := HN.out
            have hnz := right_size hnr
            have hcode : codeOf n = 0 := by unfold codeOf; rw [if_pos hnr]
            have hst : ∀ m, nameStep n m S = putName n m S := fun m => by unfold nameStep; rw [if_pos hnr]
            have hfull := put_full n.size n S (Nat.le_refl _) hnr
            have hless := put_less n.size n S (Nat.le_refl _) hnr
            have hbig := HFIT.out.bytes
            obtain ⟨P, hP⟩ : ∃ P, putName n false S = P := ⟨_, rfl⟩
            obtain ⟨Q, hQ⟩ : ∃ Q, putName n true S = Q := ⟨_, rfl⟩
            rw [hP] at hfull
            rw [hQ] at hless
            have HFULL := Lib.hid hfull
            have hPl : P.1.length = S.1.length + n.size := by rw [hfull, List.length_append, size_list]
            have HPL := Lib.hid hPl
            have HCODE := Lib.hid hcode
            have HST := Lib.hid hst
            have HP := Lib.hid hP
            have HQ := Lib.hid hQ
            obtain ⟨hq1, hq2⟩ := hless
            obtain ⟨u, hu⟩ : ∃ u, S.1.length = u := ⟨_, rfl⟩
            obtain ⟨v, hv⟩ : ∃ v, P.1.length = v := ⟨_, rfl⟩
            obtain ⟨z, hz⟩ : ∃ z, Q.1.length = z := ⟨_, rfl⟩
            rw [hu] at hq1 hq2 hPl hbig
            rw [hv] at hPl
            rw [hz] at hq1 hq2
            have HU := Lib.hid hu
            have HV := Lib.hid hv
            have HZ := Lib.hid hz
            have huv : u ≤ v := by omega
            have hvb : v ≤ 341000 := by omega
            have hzv : z ≤ v := by omega
            clear hPl HPL hq1
            clear hu hv hz hP hQ hst hcode hfull
            go_wp2_with fail
            refine (HT.out.one.Len).mono ?_
            rintro e w6 ⟨rfl, rfl⟩
            rw [HU.out]
            go_wp2_with fail
            refine (HT.out.flip.one.Len).mono ?_
            rintro e w6 ⟨rfl, rfl⟩
            rw [HU.out]
            go_wp2_with fail
            refine (HT.out.Name n false _ HFIT.out (by omega)).mono ?_
            rintro e w6 ⟨rfl, h6⟩
            rw [HST.out, HP.out] at h6
            rw [HCODE.out]
            have H6 := Lib.hid h6.flip
            clear h6
            go_wp2_with fail
            refine (H6.out.Name n true _ HFIT.out (by omega)).mono ?_
            rintro e w7 ⟨rfl, h7⟩
            rw [HST.out, HQ.out] at h7
            rw [HCODE.out]
            have H7 := Lib.hid h7.flip
            clear h7 H6 HT
            obtain ⟨str, hstr⟩ : ∃ str, Oct.arr P.1 = str := ⟨_, rfl⟩
            have hsz : str.size = v := by rw [← hstr, arr_size]; exact HV.out
            have hdl : str.data.toList = P.1 := by rw [← hstr]; exact arr_list _
            have HSTR := Lib.hid hstr
            have HSZ := Lib.hid hsz
            have HDL := Lib.hid hdl
            clear hstr hsz hdl
            have t3 : decide ((v : Int) < (u : Int)) = false := decide_eq_false (by omega)
            have t3' : decide (v < u) = false := decide_eq_false (by omega)
            have t4 : ((str.size : Int) != (v : Int)) = false := by rw [HSZ.out]; simp
            have t5 : decide ((z : Int) ≤ (v : Int)) = true := decide_eq_true (by omega)
            have t5' : decide (z ≤ v) = true := decide_eq_true (by omega)
            have t6 : decide ((z : Int) ≥ (u : Int) + 1) = true := decide_eq_true (by omega)
            have t6' : decide ((u : Int) + 1 ≤ (z : Int)) = true := decide_eq_true (by omega)
            have hext : str.extract u str.size = n := by
              apply list_inj
              rw [drop_list, HDL.out, HFULL.out, ← HU.out, List.drop_left]
            have hex2 : ((str.extract u str.size).toList = n.toList) = True := by rw [hext]; simp
            have hext' : ((str.extract u str.size).toList == n.toList) = true := by rw [hext]; simp
            have hus : (u ≤ str.size) = True := by rw [HSZ.out]; exact eq_true huv
            clear hext
            go_wp2_with fail
            refine (H7.out.one.Len).mono ?_
            rintro e w8 ⟨rfl, rfl⟩
            rw [HV.out]
            go_wp2_with fail
            refine (H7.out.one.Bytes (by have := HV.out; omega)).mono ?_
            rintro e w8 ⟨rfl, rfl⟩
            rw [HSTR.out]
            go_wp2_with fail
            refine (H7.out.one.Len).mono ?_
            rintro e w8 ⟨rfl, rfl⟩
            rw [HV.out]
            go_wp2_with fail
            refine (H7.out.one.Bytes (by have := HV.out; omega)).mono ?_
            rintro e w8 ⟨rfl, rfl⟩
            rw [HSTR.out]
            go_wp2_with fail
            refine (H7.out.flip.one.Len).mono ?_
            rintro e w8 ⟨rfl, rfl⟩
            rw [HZ.out]
            go_wp2_with fail
            refine (H7.out.one.Len).mono ?_
            rintro e w8 ⟨rfl, rfl⟩
            rw [HV.out]
            go_wp2_with fail
            refine (H7.out.flip.one.Len).mono ?_
            rintro e w8 ⟨rfl, rfl⟩
            rw [HZ.out]
            go_wp2_with fail
            go_ret
            exact ⟨rfl, H7.out.below⟩
    · have t0 : decide (20 < (l.length : Int)) = true := decide_eq_true (by omega)
      have t1 : decide (20 < l.length) = true := decide_eq_true (by omega)
      go_wp2_with fail
      refine (EARLY.out _ B2.out).mono ?_
      rintro e w3 ⟨rfl, b3⟩
      go_wp2_with fail
      go_ret
      exact ⟨rfl, b3⟩
theorem PackPlain_walk (A0 : Option Addr) (c0 : Nat) (l : List It) (n : ByteArray) (w : World) (hr : Kd.C k31 w A0 l.length l) (hc : l.length ≤ c0) (hm : l.length ≤ maxLen) (hs : ∀ s ∈ l, True) (hn : n.size ≤ 140737488351232) :
    Calls Try.prog 4 #[.slice A0 l.length c0, .string n] w fun e w' => e = .returned (.bool true) ∧ Below w.heap.size w w' := plain_walk A0 c0 l n w hr hc (by unfold maxLen at hm; omega)
end Go.Proofs.Ytekbecpcbfhdmaa.Pack
