/- The packer's Name. -/
import Derived.Test.YtekbecpcbfhdmaaPackRaw
import Derived.Test.YtekbecpcbfhdmaaPackPure
import Derived.Test.YtekbecpcbfhdmaaPackJoin
import Derived.Test.YtekbecpcbfhdmaaNameRP
import Derived.StillTailTactics
namespace Go.Proofs.Ytekbecpcbfhdmaa.Pack
open Go.RowKit Go.Proofs.YtekbecpcbfhdmaaW.PrintWords Go.Proofs.Ytekbecpcbfhdmaa.Oct Go.Proofs.Ytekbecpcbfhdmaa.Name Go.Maps Go.WideMaps
set_option linter.unusedVariables false
theorem stringLaw : Keyed Try.prog 9 := string_keyed Try.underlying9
theorem zeroInt (w : World) : (zeroValue 3).run Try.prog w = .ok (.int .i64 0) w := by kernel_rfl
theorem Stepped.step {lo p mb : Nat} {g g1 : Option Nat} {bs2 : List UInt8} {K2 : List (ByteArray × Nat)} {a b c : World} (ht1 : Touch (Own p mb g) a b) (hg1 : ∀ k, g1 = some k → g = some k ∨ a.heap.size ≤ k)
    (h2 : Stepped lo p mb g1 bs2 K2 b c) : Stepped lo p mb g bs2 K2 a c := by
  obtain ⟨⟨g2, hp2, hg2⟩, ht2⟩ := h2
  have hs := ht1.size
  refine ⟨⟨g2, hp2, fun k hk => ?_⟩, ht1.trans ht2 fun k hk ho => ?_⟩
  · rcases hg2 k hk with e | e
    · exact hg1 k e
    · exact .inr (by omega)
  · rcases ho with e | e | e
    · exact .inl e
    · exact .inr (.inl e)
    · rcases hg1 k e with e' | e'
      · exact .inr (.inr e')
      · omega
theorem Stepped.behind {lo p mb : Nat} {g : Option Nat} {bs2 : List UInt8} {K2 : List (ByteArray × Nat)} {a b c : World} (hb : Below a.heap.size a b) (h2 : Stepped lo p mb g bs2 K2 b c) : Stepped lo p mb g bs2 K2 a c :=
  Stepped.step (Touch.of_below hb) (fun _ h => .inl h) h2
theorem Stepped.of_below {lo p mb : Nat} {g : Option Nat} {bs : List UInt8} {K : List (ByteArray × Nat)} {w w' : World} (h : Pk lo p mb g bs K w) (hb : Below w.heap.size w w') : Stepped lo p mb g bs K w w' :=
  ⟨⟨g, h.below hb, fun k hk => .inl hk⟩, Touch.of_below hb⟩
theorem Stepped.cong {lo p mb : Nat} {g : Option Nat} {bs bs' : List UInt8} {K K' : List (ByteArray × Nat)} {w w' : World} (h : Stepped lo p mb g bs K w w') (h1 : bs = bs') (h2 : K = K') : Stepped lo p mb g bs' K' w w' := by subst h1 h2; exact h
/-- A store into the map. -/
theorem stored {lo p mb : Nat} {g : Option Nat} {bs : List UInt8} {K : List (ByteArray × Nat)} {w w' : World} {D' : DataW Unit} {n : ByteArray} {i : Nat} (h : Pk lo p mb g bs K w)
    (hs : Says D' ((n, i) :: K)) (hown : w'.ownsMap Try.prog 9 (plainElem Try.prog 3) mb (K.length + 1) D') (hg : w.grownBy w' (some mb)) : Stepped lo p mb g bs ((n, i) :: K) w w' := by
  have hm := h.map
  obtain ⟨D0, _, es, clock, hmb, _⟩ := hm
  have hT : Touch (fun k => k = mb) w w' := Touch.of_grown hg (fun k hk => (Option.some.inj hk).symm)
  obtain ⟨v, hv, hc, hr⟩ := h.cells
  have hpm : p ≠ mb := by
    intro e; rw [e] at hc; rw [hc] at hmb; simp at hmb
  have hgm : v.ownBlock ≠ some mb := by
    intro e
    rcases hr.2 with ⟨rfl, _⟩ | ⟨g0, cap, cur, rfl, hl, hh, r⟩
    · cases e
    · simp only [Value.ownBlock, Option.some.injEq] at e
      subst e
      rw [hmb] at hh; simp at hh
  refine ⟨⟨g, ⟨h.lop, h.lom, Nat.lt_of_lt_of_le h.ltp hT.size, ⟨v, hv, (hT.block p h.ltp hpm).trans hc, row_touch hr hT fun k hk e => hgm (e ▸ hk)⟩, ⟨D', hs, by simpa using hown⟩⟩, fun k hk => .inl hk⟩, hT.mono fun k _ e => .inr (.inl e)⟩
theorem intLit (i : Nat) (h : i < 16384) : (Lit.int .i64 (i : Int)).wf = true := by
  have e1 : IntKind.i64.min = -9223372036854775808 := by decide +kernel
  have e2 : IntKind.i64.max = 9223372036854775807 := by decide +kernel
  have h1 : decide (IntKind.i64.min ≤ (i : Int)) = true := decide_eq_true (by omega)
  have h2 : decide ((i : Int) ≤ IntKind.i64.max) = true := decide_eq_true (by omega)
  simp only [Lit.wf, h1, h2, Bool.and_self]
theorem one_row (k : IntKind) (W : World) (B : Nat) (x : Int) (h : W.cell? ⟨B, 0, none⟩ = some (.int k x)) : Kd.C (Kd.int k) W (some ⟨B, 0, none⟩) [x].length [x] := by
  refine ⟨rfl, by simp, fun _ => ⟨_, rfl, fun j p hp => ?_⟩⟩
  obtain ⟨rfl, rfl⟩ : j = 0 ∧ p = x := by
    cases j with
    | zero => simp at hp; exact ⟨rfl, hp.symm⟩
    | succ j => simp at hp
  refine ⟨[.int k p], rfl, rfl, fun i u hu => ?_⟩
  cases i with
  | zero => simp at hu; subst hu; exact h
  | succ i => simp at hu
theorem join_call (x : Nat) (hx : x < 65536) (A B : Nat) (W : World) (c1 : W.cell? ⟨A, 0, none⟩ = some (.int .u64 (x : Int))) (c2 : W.cell? ⟨B, 0, none⟩ = some (.int .i64 2)) :
    Calls Try.prog 20 #[.slice (some ⟨A, 0, none⟩) 1 1, .slice (some ⟨B, 0, none⟩) 1 1] W fun e w' => e = .returned (.tuple #[.string (arr (beB 2 x)), .int .i64 0]) ∧ Below W.heap.size W w' :=
  PJn.octets_Join.calls 10 (some ⟨A, 0, none⟩) 1 [(x : Int)] (some ⟨B, 0, none⟩) 1 [2] _ _ W (one_row _ _ _ _ c1) (Nat.le_refl 1) (one_row _ _ _ _ c2) (Nat.le_refl 1) (join_two x hx)
theorem look_run {mb : Nat} {D : DataW Unit} {K : List (ByteArray × Nat)} {wr : World} {n : ByteArray} (hs : Says D K) (hm : wr.ownsMap Try.prog 9 (plainElem Try.prog 3) mb K.length D) (hn : n.size ≤ maxLen) :
    (Instr.lookup 47 (.map (some mb)) (.string n) true).run Try.prog wr = .ok (.tuple #[.int .i64 (((look K n).getD 0 : Nat) : Int), .bool (look K n).isSome]) wr := by
  have hkey : keyOf Try.prog 9 (.string n) = some (klit n) := keyOf_string_mk Try.underlying9 hn
  obtain ⟨v, ps, hrun, hv⟩ := hm.look_ok stringLaw Try.underlying47 (zeroInt wr) (plainElem_int Try.underlying3 (by decide +kernel)) hkey
  obtain ⟨c, rfl, hc, hwc⟩ := plainElem_int_inv Try.underlying3 hv
  have hc := congrArg Prod.fst hc
  rw [hrun, (hs.2 n).1]
  cases hl : look K n with
  | none =>
    have h0 : Maps.has D (klit n) = false := by rw [(hs.2 n).1, hl]; rfl
    rw [Maps.atKey_of_not_has h0] at hc
    injection hc with hc; injection hc with _ hc
    rw [← hc]; rfl
  | some q =>
    have hq : D.atKey (klit n) _ = DataW.lit (.int .i64 c) := hc
    rw [(hs.2 n).2 q hl] at hq
    injection hq with hq; injection hq with _ hq
    rw [← hq]; rfl
def strLen : Value → Nat
  | .string s => s.size
  | _ => 0
set_option maxHeartbeats 4000000 in
set_option maxRecDepth 100000 in
theorem Name (lo p mb : Nat) (g : Option Nat) (K : List (ByteArray × Nat)) (bs : List UInt8) (n : ByteArray) (may : Bool) (w : World) (h : Pk lo p mb g bs K w) (hr : rightB n = true) (hS : Small K) (hlen : bs.length + n.size + 2 ≤ 1000000) (hK : K.length + n.size ≤ 1000000) (hBw : lo ≤ w.heap.size) :
    Calls Try.prog 12 #[.pointer (some ⟨p, 0, none⟩), .string n, .bool may] w fun e w' => e = .returned (.int .i64 0) ∧ Stepped lo p mb g (putName n may (bs, K)).1 (putName n may (bs, K)).2 w w' := by
  have hq := fun W => right_any n W
  rw [hr] at hq
  go_enter Try.func12, Try.ntmps12
  go_wp2_with fail
  refine (hq _).mono ?_
  rintro e w1 ⟨rfl, hb1⟩
  go_wp2_with fail
  have h1 : Stepped lo p mb g bs K w w1 := Stepped.of_below h hb1
  have hl1 : lo ≤ w1.heap.size := Nat.le_trans hBw hb1.size
  go_loopw [1] (fun v wr => ∃ n1 bs1 K1, v = .string n1 ∧ rightB n1 = true ∧ Hid (putName n may (bs, K) = putName n1 may (bs1, K1)) ∧ Hid (Stepped lo p mb g bs1 K1 w wr) ∧ Small K1 ∧ bs1.length + n1.size + 2 ≤ 1000000 ∧ K1.length + n1.size ≤ 1000000 ∧ lo ≤ wr.heap.size) (fun v _ => strLen v)
  case atStart => exact ⟨n, bs, K, rfl, hr, Lib.hid rfl, Lib.hid h1, hS, hlen, hK, hl1⟩
  case round =>
    obtain ⟨n1, bs1, K1, rfl, hr1, hP, hSt, hS1, hlen1, hK1, hlo1⟩ := hrel
    clear h1 hb1 hl1 h hr hS hlen hK
    obtain ⟨⟨g1, hpk, hg1⟩, hT⟩ := hSt.out
    have HT := Lib.hid hT
    have HG := Lib.hid hg1
    clear hT hg1
    have HPK := Lib.hid hpk
    obtain ⟨v, hv, hb, hown⟩ := hpk.cells
    obtain ⟨cp, ad, rfl⟩ : ∃ c a, v = .slice a bs1.length c := by
      rcases hown.2 with ⟨rfl, h0⟩ | ⟨g0, cap, cur, rfl, hl, hh, r⟩
      · exact ⟨0, none, by rw [h0]⟩
      · exact ⟨_, _, rfl⟩
    obtain ⟨D, hSays, hmap⟩ := hpk.map
    have HSays := Lib.hid hSays
    have HM := Lib.hid hmap
    clear hpk hown hv hmap hSays
    have c1 : wr.cell? ⟨p, 1, none⟩ = some (.map (some mb)) := Lib.cell_of_heap hb 1
    have f1 : wr.frozen? ⟨p, 1, none⟩ = false := Lib.frozen_of_heap hb 1
    have c0 : wr.cell? ⟨p, 0, none⟩ = some (.slice ad bs1.length cp) := Lib.cell_of_heap hb 0
    have HB := Lib.hid hb
    clear hb
    by_cases hroot : n1 = rootB
    · subst hroot
      unfold rootB
      go_wp2_with fail
      refine (Raw lo p mb g1 K1 bs1 ⟨#[0]⟩ wr HPK.out (by show bs1.length + 1 ≤ 1000000; have : rootB.size = 1 := rfl; omega) hlo1).mono ?_
      rintro e w2 ⟨rfl, hS2⟩
      have HS2 := Lib.hid hS2
      clear hS2
      go_wp2_with fail
      go_ret
      refine ⟨rfl, ?_⟩
      rw [hP.out, putName_root]
      exact Stepped.step HT.out HG.out HS2.out
    · have hsz := right_size hr1
      have hmx : n1.size ≤ maxLen := by unfold maxLen; omega
      have hrun := look_run HSays.out HM.out hmx
      have hpar := fun W => parent_any n1 W
      rw [par_yes hr1 hroot] at hpar
      have t0 := list_ne (l := [0]) hroot
      have hps := par_size hr1 hroot
      have hprr := par_right hr1 hroot
      have hhead : n1.extract 0 (n1.size - (par n1).size) = head n1 := rfl
      have hhs := head_size n1
      cases hlk : look K1 n1 with
      | some q =>
        rw [hlk] at hrun
        simp only [Option.getD_some, Option.isSome_some] at hrun
        have hq := hS1 _ _ hlk
        cases may with
        | true =>
          have hput : putName n1 true (bs1, K1) = (bs1 ++ beB 2 (49152 + q), K1) := by rw [putName_step true (bs1, K1) hr1 hroot]; simp only [hlk, if_true]
          obtain ⟨x, hxq⟩ : ∃ x, x = 49152 + q := ⟨_, rfl⟩
          rw [← hxq] at hput
          have hx : x < 65536 := by omega
          have e1 : (49152 : Int) + (q : Int) = (x : Int) := by omega
          have HE := Lib.hid e1
          have HP := Lib.hid hput
          clear hput e1 hxq
          go_wp2_with fail
          rw [HE.out]
          obtain ⟨W2, hW2⟩ : ∃ W2, W2 = (wr.alloc (.cells #[.int .u64 (x : Int)] 53)).alloc (.cells #[.int .i64 2] 3) := ⟨_, rfl⟩
          have hw0 : Below wr.heap.size wr W2 := by rw [hW2]; exact ((Below.refl _ wr).alloc (Nat.le_refl _) _).alloc (by simp) _
          have d1 : W2.cell? ⟨wr.heap.size, 0, none⟩ = some (.int .u64 (x : Int)) := by
            rw [hW2, World.cell?_alloc_lt _ _ _ (by simp)]; exact Lib.cell_of_heap (heap_alloc_new wr _) 0
          have d2 : W2.cell? ⟨wr.heap.size + 1, 0, none⟩ = some (.int .i64 2) := by
            have := heap_alloc_new (wr.alloc (.cells #[.int .u64 (x : Int)] 53)) (.cells #[.int .i64 2] 3)
            rw [← hW2] at this
            simp only [World.size_alloc] at this
            exact Lib.cell_of_heap this 0
          rw [← hW2]
          have hjc := join_call x hx wr.heap.size (wr.heap.size + 1) W2 d1 d2
          have hsl : (arr (beB 2 x)).size = 2 := by rw [arr_size, beB_len]
          have hst : (arr (beB 2 x)).data.toList = beB 2 x := arr_list _
          generalize arr (beB 2 x) = str at hjc hsl hst
          have HST := Lib.hid hst
          have HSL := Lib.hid hsl
          clear hst hsl d1 d2 hW2
          refine hjc.mono ?_
          rintro e w2 ⟨rfl, hb2⟩
          have hw2 : Below wr.heap.size wr w2 := hw0.trans (hb2.mono hw0.size)
          have hl2 : lo ≤ w2.heap.size := Nat.le_trans hlo1 hw2.size
          have hp2 : Pk lo p mb g1 bs1 K1 w2 := HPK.out.below hw2
          have HP2 := Lib.hid hp2
          have HW2 := Lib.hid hw2
          clear hp2 hb2 hw2 hw0 hjc
          go_wp2_with fail
          refine (Raw lo p mb g1 K1 bs1 str w2 HP2.out (by rw [HSL.out]; omega) hl2).mono ?_
          rintro e w3 ⟨rfl, hS3⟩
          have HS3 := Lib.hid hS3
          clear hS3
          go_wp2_with fail
          go_ret
          refine ⟨rfl, ?_⟩
          rw [hP.out, HP.out]
          have h3 := HS3.out
          rw [HST.out] at h3
          exact Stepped.step HT.out HG.out (Stepped.behind HW2.out h3)
        | false =>
          go_wp2_with fail
          refine (hpar _).mono ?_
          rintro e w2 ⟨rfl, hb2⟩
          go_wp2_with fail
          refine (Raw lo p mb g1 K1 bs1 (head n1) w2 (HPK.out.below hb2) (by omega) (Nat.le_trans hlo1 hb2.size)).mono ?_
          rintro e w3 ⟨rfl, hS3⟩
          have HS3 := Lib.hid hS3
          clear hS3
          go_wp2_with fail
          refine ⟨⟨par n1, bs1 ++ (head n1).data.toList, K1, rfl, hprr, Lib.hid ?_, Lib.hid (Stepped.step HT.out HG.out (Stepped.behind hb2 HS3.out)), hS1, ?_, by omega, Nat.le_trans hlo1 (Nat.le_trans hb2.size HS3.out.touch.size)⟩, hps⟩
          · rw [hP.out, putName_step false (bs1, K1) hr1 hroot]; simp only [hlk, Bool.false_eq_true, if_false]
          · rw [List.length_append, size_list]; omega
      | none =>
        rw [hlk] at hrun
        simp only [Option.getD_none, Option.isSome_none] at hrun
        by_cases hb16 : bs1.length < 16384
        · have hkey : keyOf Try.prog 9 (.string n1) = some (klit n1) := keyOf_string_mk Try.underlying9 hmx
          have hdr : Below wr.heap.size wr wr.drew := (Below.refl _ wr).drew
          obtain ⟨w2, hrun2, hown2, hg2⟩ := HM.out.drew.update stringLaw Try.underlying47 (by unfold maxLen; omega) hkey (plainElem_int Try.underlying3 (intLit bs1.length hb16))
          have hst2 := Stepped.behind hdr (stored (HPK.out.below hdr) (HSays.out.put n1 bs1.length) hown2 hg2)
          have hput : putName n1 may (bs1, K1) = putName (par n1) may (bs1 ++ (head n1).data.toList, (n1, bs1.length) :: K1) := by rw [putName_step may (bs1, K1) hr1 hroot]; simp only [hlk, if_pos hb16]
          have HP := Lib.hid hput
          have HST := Lib.hid hst2
          have t1 : decide ((bs1.length : Int) < 16384) = true := decide_eq_true (by omega)
          clear hput hst2 hown2 hg2
          go_wp2_with fail
          go_still_tail 10, (by kernel_rfl)
          change wpList _ _ _ _ _ wr.drew
          have HRUN := Lib.hid hrun
          clear hrun
          generalize wr.drew = wd at hrun2
          go_wp2_with fail
          refine (hpar _).mono ?_
          rintro e w3 ⟨rfl, hb3⟩
          clear hrun2 wd
          have HB3 := Lib.hid hb3
          clear hb3
          obtain ⟨⟨g2, hpk2, hg2⟩, ht2⟩ := HST.out
          have HPK3 := Lib.hid (hpk2.below HB3.out)
          have HG2 := Lib.hid hg2
          have HT2 := Lib.hid ht2
          clear hpk2 hg2 ht2
          have hl3 : lo ≤ w3.heap.size := Nat.le_trans hlo1 (Nat.le_trans HT2.out.size HB3.out.size)
          go_wp2_with fail
          refine (Raw lo p mb g2 ((n1, bs1.length) :: K1) bs1 (head n1) w3 HPK3.out (by omega) hl3).mono ?_
          rintro e w4 ⟨rfl, hS4⟩
          have HS4 := Lib.hid hS4
          clear hS4
          go_wp2_with fail
          refine ⟨⟨par n1, bs1 ++ (head n1).data.toList, (n1, bs1.length) :: K1, rfl, hprr, Lib.hid (hP.out.trans HP.out), Lib.hid (Stepped.step HT.out HG.out (Stepped.step HT2.out HG2.out (Stepped.behind HB3.out HS4.out))), hS1.put hb16, ?_, ?_, Nat.le_trans hl3 HS4.out.touch.size⟩, hps⟩
          · rw [List.length_append, size_list]; omega
          · rw [List.length_cons]; omega
        · have hput : putName n1 may (bs1, K1) = putName (par n1) may (bs1 ++ (head n1).data.toList, K1) := by rw [putName_step may (bs1, K1) hr1 hroot]; simp only [hlk, if_neg hb16]
          have HP := Lib.hid hput
          have t1 : decide ((bs1.length : Int) < 16384) = false := decide_eq_false (by omega)
          clear hput
          go_wp2_with fail
          refine (hpar _).mono ?_
          rintro e w3 ⟨rfl, hb3⟩
          have HB3 := Lib.hid hb3
          clear hb3
          have HPK3 := Lib.hid (HPK.out.below HB3.out)
          have hl3 : lo ≤ w3.heap.size := Nat.le_trans hlo1 HB3.out.size
          go_wp2_with fail
          refine (Raw lo p mb g1 K1 bs1 (head n1) w3 HPK3.out (by omega) hl3).mono ?_
          rintro e w4 ⟨rfl, hS4⟩
          have HS4 := Lib.hid hS4
          clear hS4
          go_wp2_with fail
          refine ⟨⟨par n1, bs1 ++ (head n1).data.toList, K1, rfl, hprr, Lib.hid (hP.out.trans HP.out), Lib.hid (Stepped.step HT.out HG.out (Stepped.behind HB3.out HS4.out)), hS1, ?_, by omega, Nat.le_trans hl3 HS4.out.touch.size⟩, hps⟩
          · rw [List.length_append, size_list]; omega
/-- What is no name is put nowhere. -/
theorem Name_no (p : Nat) (n : ByteArray) (may : Bool) (w : World) (hr : rightB n = false) :
    Calls Try.prog 12 #[.pointer (some ⟨p, 0, none⟩), .string n, .bool may] w fun e w' => e = .returned (.int .i64 2) ∧ Below w.heap.size w w' := by
  have hq := fun W => right_any n W
  rw [hr] at hq
  go_enter Try.func12, Try.ntmps12
  go_wp2_with fail
  refine (hq _).mono ?_
  rintro e w1 ⟨rfl, hb1⟩
  go_wp2_with fail
  go_ret
  exact ⟨rfl, hb1⟩
end Go.Proofs.Ytekbecpcbfhdmaa.Pack
