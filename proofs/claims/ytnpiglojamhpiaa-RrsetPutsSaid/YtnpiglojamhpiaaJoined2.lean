/- Joined out of this session's own texts: contracts and facts that the claim's row is drawn from, each with its own conditions. -/
import Derived.Test.YtnpiglojamhpiaaJoined1
namespace Go.Proofs.Ytnpiglojamhpiaa.PRd
open Go.RowKit Go.Proofs.YtnpiglojamhpiaaW.PrintWords Go.Proofs.YtnpiglojamhpiaaW.PrintLast Go.Proofs.YtnpiglojamhpiaaW.PrintMore Go.Proofs.Ytnpiglojamhpiaa.Given
attribute [local go_sem] max2_int min2_int max_two min_two max_three min_three max_four min_four   -- for this text's walks alone
set_option linter.unusedVariables false
set_option linter.unusedSimpArgs false
def slices_Compare_string_string.l0 : Nat → List ByteArray → List ByteArray → List ByteArray → Int → Int → Option (Int)
 | 0, _, _, _, _, _ => none
 | k + 1, x0, x1, x9, x10, x11 => if x11 < x10 then (if 0 ≤ x11 then (if x11 < (x9.length : Int) then (if x11 ≥ (x1.length : Int) then (some 1) else (if x11 < (x1.length : Int) then ((cmp_Compare_string.f (rdOf ByteArray.empty x9 x11) (rdOf ByteArray.empty x1 x11)).bind fun t160 => (if t160 = 0 then (slices_Compare_string_string.l0 k x0 x1 x9 x10 (wrap64 (x11 + 1))) else (some t160))) else (none))) else (none)) else (none)) else (if (x0.length : Int) < (x1.length : Int) then (some (-1)) else (some 0))
def slices_Compare_string_string.f (k : Nat) (l0 : List ByteArray) (l1 : List ByteArray) : Option (Int) := slices_Compare_string_string.l0 k l0 l1 l0 (l0.length : Int) 0
theorem slices_Compare_string_string.mono_l : ∀ k, (∀ y0 y1 y2 y3 y4, LeO (slices_Compare_string_string.l0 k y0 y1 y2 y3 y4) (slices_Compare_string_string.l0 (k + 1) y0 y1 y2 y3 y4))
 | 0 => fun _ _ _ _ _ r h => by simp [slices_Compare_string_string.l0] at h
 | k + 1 => by
  have ih0 := slices_Compare_string_string.mono_l k
  ·intro y0 y1 y2 y3 y4
   unfold slices_Compare_string_string.l0
   repeat' first
   | (with_reducible exact ih0 _ _ _ _ _)
   | (with_reducible exact LeO.refl _)
   | (with_reducible exact LeO.none _)
   | (with_reducible refine LeO.ite ?_ ?_)
   | (with_reducible refine LeO.bind ?_ (fun _ => ?_))
   | exact ih0 _ _ _ _ _
   | exact LeO.none _
   | refine LeO.ite ?_ ?_
   | refine LeO.bind ?_ (fun _ => ?_)
theorem slices_Compare_string_string.mono : ∀ a0 a1 k, LeO (slices_Compare_string_string.f k a0 a1) (slices_Compare_string_string.f (k + 1) a0 a1) := by
 intro a0 a1 k
 have ih0 := slices_Compare_string_string.mono_l k
 unfold slices_Compare_string_string.f
 repeat' first
   | (with_reducible exact ih0 _ _ _ _ _)
   | (with_reducible exact LeO.refl _)
   | (with_reducible exact LeO.none _)
   | (with_reducible refine LeO.ite ?_ ?_)
   | (with_reducible refine LeO.bind ?_ (fun _ => ?_))
   | exact ih0 _ _ _ _ _
   | exact LeO.none _
   | refine LeO.ite ?_ ?_
   | refine LeO.bind ?_ (fun _ => ?_)
set_option maxHeartbeats 8000000 in
set_option maxRecDepth 100000 in
theorem slices_Compare_string_string.calls (k : Nat) (A0 : Option Addr) (c0 : Nat) (l0 : List ByteArray) (A1 : Option Addr) (c1 : Nat) (l1 : List ByteArray) (r : Int) (w : World) (hr0 : Kd.C Kd.string w A0 l0.length l0) (hc0 : l0.length ≤ c0) (hr1 : Kd.C Kd.string w A1 l1.length l1) (hc1 : l1.length ≤ c1) (h : slices_Compare_string_string.f k l0 l1 = some r) :
  Calls Try.prog 48 #[.slice A0 l0.length c0, .slice A1 l1.length c1] w fun e w' => e = .returned (.int .i64 r) ∧ Below w.heap.size w w' := by
 have HR0 := Aside0.mk hr0
 have HC0 := Aside0.mk hc0
 clear hr0 hc0
 have HR1 := Aside0.mk hr1
 have HC1 := Aside0.mk hc1
 clear hr1 hc1
 have HB := Aside0.mk (Below.refl w.heap.size w)
 have H : (slices_Compare_string_string.l0 k l0 l1 l0 (l0.length : Int) 0) = some r := h
 clear h
 have H' := Aside0.mk H
 clear H
 go_enter Try.func48, Try.ntmps48
 go_wp2
 go_loopg [11] k (fun kq v11 w' => ∃ (x11_1 : Int), v11 = .int .i64 x11_1 ∧ Aside0 (slices_Compare_string_string.l0 kq l0 l1 l0 (l0.length : Int) x11_1 = some r) ∧ Aside0 (kq ≤ k) ∧ Aside0 (Below w.heap.size w w'))
 case atStart => exact ⟨(0), (by rfl), H', ⟨Nat.le_refl _⟩, ⟨by repeat ((with_reducible (exact HB.out)))⟩⟩
 case round =>
  clear H'
  obtain ⟨x11_1, rfl, HA, HK1, HB⟩ := hrel
  cases gk with
  | zero => exact absurd HA.out (by simp [slices_Compare_string_string.l0])
  | succ k1 =>
   have H := HA.out
   clear HA
   simp only [slices_Compare_string_string.l0] at H
   by_cases c3 : x11_1 < (l0.length : Int)
   ·rw [if_pos c3] at H
    have c3b0 : decide (x11_1 < (l0.length : Int)) = true := decide_eq_true c3
    clear c3
    by_cases c4 : 0 ≤ x11_1
    ·rw [if_pos c4] at H
     have c4b0 : decide (0 ≤ x11_1) = true := decide_eq_true c4
     clear c4
     by_cases c5 : x11_1 < (l0.length : Int)
     ·rw [if_pos c5] at H
      have c5b0 : decide (x11_1 < (l0.length : Int)) = true := decide_eq_true c5
      clear c5
      by_cases c6 : x11_1 ≥ (l1.length : Int)
      ·rw [if_pos c6] at H
       have c6b0 : decide ((l1.length : Int) ≤ x11_1) = true := decide_eq_true c6
       clear c6
       obtain rfl := Option.some.inj H
       have p158 : 0 ≤ (x11_1 : Int) := of_decide_eq_true (by (with_reducible assumption))
       have q158 : x11_1 < (l0.length : Int) := of_decide_eq_true (by (with_reducible assumption))
       obtain ⟨ad158, e158, hx158_0⟩ := Kd.at_string HR0.out x11_1 p158 q158
       cases e158
       replace hx158_0 := (HB.out.cell (World.block_lt_of_cell? w _ hx158_0)).trans hx158_0
       replace p158 := eq_true p158
       replace q158 := eq_true q158
       go_wp2
       go_ret
       exact ⟨by rfl, by repeat ((with_reducible (exact HB.out)))⟩
      ·rw [if_neg c6] at H
       have c6b0 : decide ((l1.length : Int) ≤ x11_1) = false := decide_eq_false c6
       clear c6
       by_cases c7 : x11_1 < (l1.length : Int)
       ·rw [if_pos c7] at H
        have c7b0 : decide (x11_1 < (l1.length : Int)) = true := decide_eq_true c7
        clear c7
        replace H := Option.bind_eq_some_iff.mp H
        obtain ⟨t160, A80, H⟩ := H
        replace H : (if t160 = 0 then (slices_Compare_string_string.l0 k1 l0 l1 l0 (l0.length : Int) (wrap64 (x11_1 + 1))) else (some t160)) = some r := H
        have A8 := Aside0.mk A80
        clear A80
        by_cases c9 : t160 = 0
        ·rw [if_pos c9] at H
         have c9b0 : (t160 == 0) = true := beq_iff_eq.mpr c9
         have c9b1 : (t160 != 0) = false := bne_eq_false_iff_eq.mpr c9
         clear c9
         have H' := Aside0.mk H
         clear H
         have p158 : 0 ≤ (x11_1 : Int) := of_decide_eq_true (by (with_reducible assumption))
         have q158 : x11_1 < (l0.length : Int) := of_decide_eq_true (by (with_reducible assumption))
         obtain ⟨ad158, e158, hx158_0⟩ := Kd.at_string HR0.out x11_1 p158 q158
         cases e158
         replace hx158_0 := (HB.out.cell (World.block_lt_of_cell? w _ hx158_0)).trans hx158_0
         replace p158 := eq_true p158
         replace q158 := eq_true q158
         have p159 : 0 ≤ (x11_1 : Int) := of_decide_eq_true (by (with_reducible assumption))
         have q159 : x11_1 < (l1.length : Int) := of_decide_eq_true (by (with_reducible assumption))
         obtain ⟨ad159, e159, hx159_0⟩ := Kd.at_string HR1.out x11_1 p159 q159
         cases e159
         replace hx159_0 := (HB.out.cell (World.block_lt_of_cell? w _ hx159_0)).trans hx159_0
         replace p159 := eq_true p159
         replace q159 := eq_true q159
         go_wp2_with ((((with_reducible refine gate_callee (f := 37) rfl ?_); refine goesL_ (some 26) rfl rfl Try.func37 (by kernel_rfl) rfl #[.string (rdOf ByteArray.empty l0 x11_1), .string (rdOf ByteArray.empty l1 x11_1)] rfl (by (try simp only [List.map_toArray, List.map_cons, List.map_nil]); rfl) ?_; (with_reducible refine (cmp_Compare_string.calls (rdOf ByteArray.empty l0 x11_1) (rdOf ByteArray.empty l1 x11_1) t160 _ A8.out).mono ?_); rintro e w10 ⟨rfl, hb⟩; refine ⟨_, rfl, ?_⟩; have n0_ := Aside0.mk (below_step (by repeat ((with_reducible (exact HB.out)))) hb); clear HB; have HB := n0_; clear n0_; (try clear hb))))
         go_roundg k1
         case measure => have := HK1.out; omega
         case rel => exact ⟨(wrap64 (x11_1 + 1)), (by rfl), H', ⟨by have := HK1.out; omega⟩, ⟨by repeat ((with_reducible (exact HB.out)))⟩⟩
        ·rw [if_neg c9] at H
         have c9b0 : (t160 == 0) = false := beq_eq_false_iff_ne.mpr c9
         have c9b1 : (t160 != 0) = true := bne_iff_ne.mpr c9
         obtain rfl := Option.some.inj H
         have p158 : 0 ≤ (x11_1 : Int) := of_decide_eq_true (by (with_reducible assumption))
         have q158 : x11_1 < (l0.length : Int) := of_decide_eq_true (by (with_reducible assumption))
         obtain ⟨ad158, e158, hx158_0⟩ := Kd.at_string HR0.out x11_1 p158 q158
         cases e158
         replace hx158_0 := (HB.out.cell (World.block_lt_of_cell? w _ hx158_0)).trans hx158_0
         replace p158 := eq_true p158
         replace q158 := eq_true q158
         have p159 : 0 ≤ (x11_1 : Int) := of_decide_eq_true (by (with_reducible assumption))
         have q159 : x11_1 < (l1.length : Int) := of_decide_eq_true (by (with_reducible assumption))
         obtain ⟨ad159, e159, hx159_0⟩ := Kd.at_string HR1.out x11_1 p159 q159
         cases e159
         replace hx159_0 := (HB.out.cell (World.block_lt_of_cell? w _ hx159_0)).trans hx159_0
         replace p159 := eq_true p159
         replace q159 := eq_true q159
         go_wp2_with ((((with_reducible refine gate_callee (f := 37) rfl ?_); refine goesL_ (some 26) rfl rfl Try.func37 (by kernel_rfl) rfl #[.string (rdOf ByteArray.empty l0 x11_1), .string (rdOf ByteArray.empty l1 x11_1)] rfl (by (try simp only [List.map_toArray, List.map_cons, List.map_nil]); rfl) ?_; (with_reducible refine (cmp_Compare_string.calls (rdOf ByteArray.empty l0 x11_1) (rdOf ByteArray.empty l1 x11_1) t160 _ A8.out).mono ?_); rintro e w11 ⟨rfl, hb⟩; refine ⟨_, rfl, ?_⟩; have n0_ := Aside0.mk (below_step (by repeat ((with_reducible (exact HB.out)))) hb); clear HB; have HB := n0_; clear n0_; (try clear hb))))
         go_ret
         exact ⟨by rfl, by repeat ((with_reducible (exact HB.out)))⟩
       ·rw [if_neg c7] at H
        exact absurd H (by simp)
     ·rw [if_neg c5] at H
      exact absurd H (by simp)
    ·rw [if_neg c4] at H
     exact absurd H (by simp)
   ·rw [if_neg c3] at H
    have c3b0 : decide (x11_1 < (l0.length : Int)) = false := decide_eq_false c3
    clear c3
    by_cases c12 : (l0.length : Int) < (l1.length : Int)
    ·rw [if_pos c12] at H
     have c12b0 : decide ((l0.length : Int) < (l1.length : Int)) = true := decide_eq_true c12
     have c12b1 : decide (l0.length < l1.length) = true := decide_eq_true (Int.ofNat_lt.mp c12)
     clear c12
     obtain rfl := Option.some.inj H
     go_wp2
     go_ret
     exact ⟨by rfl, by repeat ((with_reducible (exact HB.out)))⟩
    ·rw [if_neg c12] at H
     have c12b0 : decide ((l0.length : Int) < (l1.length : Int)) = false := decide_eq_false c12
     have c12b1 : decide (l0.length < l1.length) = false := decide_eq_false (fun h => c12 (Int.ofNat_lt.mpr h))
     clear c12
     obtain rfl := Option.some.inj H
     go_wp2
     go_ret
     exact ⟨by rfl, by repeat ((with_reducible (exact HB.out)))⟩
def name_Compare.j0 : Nat → List ByteArray → List ByteArray → Bool → Option (Int)
 | 0, _, _, _ => none
 | k + 1, x5, x7, x26 => if x26 = true then (some 0) else ((slices_Reverse_string_string.f k x5).bind fun t171 => ((slices_Reverse_string_string.f k x7).bind fun t172 => ((slices_Compare_string_string.f k t171 t172).bind fun t173 => (some t173))))
def name_Compare.f (k : Nat) (a0 : ByteArray) (a1 : ByteArray) : Option (Int) := (name_Fold.f a0).bind fun t161 => ((name_Labels.f t161).bind fun bt162 => ((name_Fold.f a1).bind fun t166 => ((name_Labels.f t166).bind fun bt167 => (if bt162.2 = 0 then (name_Compare.j0 k bt162.1 bt167.1 (bt167.2 != 0)) else (name_Compare.j0 k bt162.1 bt167.1 true)))))
theorem name_Compare.mono_l : ∀ k, (∀ y0 y1 y2, LeO (name_Compare.j0 k y0 y1 y2) (name_Compare.j0 (k + 1) y0 y1 y2))
 | 0 => fun _ _ _ r h => by simp [name_Compare.j0] at h
 | k + 1 => by
  have ih0 := name_Compare.mono_l k
  ·intro y0 y1 y2
   unfold name_Compare.j0
   repeat' first
   | (with_reducible exact ih0 _ _ _)
   | (with_reducible exact slices_Compare_string_string.mono _ _ _)
   | (with_reducible exact slices_Reverse_string_string.mono _ _)
   | (with_reducible exact LeO.refl _)
   | (with_reducible exact LeO.none _)
   | (with_reducible refine LeO.ite ?_ ?_)
   | (with_reducible refine LeO.bind ?_ (fun _ => ?_))
   | exact ih0 _ _ _
   | exact slices_Compare_string_string.mono _ _ _
   | exact slices_Reverse_string_string.mono _ _
   | exact LeO.none _
   | refine LeO.ite ?_ ?_
   | refine LeO.bind ?_ (fun _ => ?_)
theorem name_Compare.mono : ∀ a0 a1 k, LeO (name_Compare.f k a0 a1) (name_Compare.f (k + 1) a0 a1) := by
 intro a0 a1 k
 have ih0 := name_Compare.mono_l k
 unfold name_Compare.f
 repeat' first
   | (with_reducible exact ih0 _ _ _)
   | (with_reducible exact slices_Compare_string_string.mono _ _ _)
   | (with_reducible exact slices_Reverse_string_string.mono _ _)
   | (with_reducible exact LeO.refl _)
   | (with_reducible exact LeO.none _)
   | (with_reducible refine LeO.ite ?_ ?_)
   | (with_reducible refine LeO.bind ?_ (fun _ => ?_))
   | exact ih0 _ _ _
   | exact slices_Compare_string_string.mono _ _ _
   | exact slices_Reverse_string_string.mono _ _
   | exact LeO.none _
   | refine LeO.ite ?_ ?_
   | refine LeO.bind ?_ (fun _ => ?_)
set_option maxHeartbeats 8000000 in
set_option maxRecDepth 100000 in
theorem name_Compare.calls (k : Nat) (a0 : ByteArray) (a1 : ByteArray) (r : Int) (w : World) (h : name_Compare.f k a0 a1 = some r) :
  Calls Try.prog 35 #[.string a0, .string a1] w fun e w' => e = .returned (.int .i64 r) ∧ Below w.heap.size w w' := by
 have HB := Aside0.mk (Below.refl w.heap.size w)
 have H : ((name_Fold.f a0).bind fun t161 => ((name_Labels.f t161).bind fun bt162 => ((name_Fold.f a1).bind fun t166 => ((name_Labels.f t166).bind fun bt167 => (if bt162.2 = 0 then (name_Compare.j0 k bt162.1 bt167.1 (bt167.2 != 0)) else (name_Compare.j0 k bt162.1 bt167.1 true)))))) = some r := h
 clear h
 replace H := Option.bind_eq_some_iff.mp H
 obtain ⟨t161, A30, H⟩ := H
 replace H : ((name_Labels.f t161).bind fun bt162 => ((name_Fold.f a1).bind fun t166 => ((name_Labels.f t166).bind fun bt167 => (if bt162.2 = 0 then (name_Compare.j0 k bt162.1 bt167.1 (bt167.2 != 0)) else (name_Compare.j0 k bt162.1 bt167.1 true))))) = some r := H
 have A3 := Aside0.mk A30
 clear A30
 replace H := Option.bind_eq_some_iff.mp H
 obtain ⟨⟨t162, t163⟩, A40, H⟩ := H
 replace H : ((name_Fold.f a1).bind fun t166 => ((name_Labels.f t166).bind fun bt167 => (if t163 = 0 then (name_Compare.j0 k t162 bt167.1 (bt167.2 != 0)) else (name_Compare.j0 k t162 bt167.1 true)))) = some r := H
 have A4 := Aside0.mk A40
 clear A40
 replace H := Option.bind_eq_some_iff.mp H
 obtain ⟨t166, A50, H⟩ := H
 replace H : ((name_Labels.f t166).bind fun bt167 => (if t163 = 0 then (name_Compare.j0 k t162 bt167.1 (bt167.2 != 0)) else (name_Compare.j0 k t162 bt167.1 true))) = some r := H
 have A5 := Aside0.mk A50
 clear A50
 replace H := Option.bind_eq_some_iff.mp H
 obtain ⟨⟨t167, t168⟩, A60, H⟩ := H
 replace H : (if t163 = 0 then (name_Compare.j0 k t162 t167 (t168 != 0)) else (name_Compare.j0 k t162 t167 true)) = some r := H
 have A6 := Aside0.mk A60
 clear A60
 have HC7 := Aside0.mk H
 clear H
 go_enter Try.func35, Try.ntmps35
 go_upto_region 3 with (first | ((with_reducible refine gate_callee (f := 46) rfl ?_); refine goesL_ (some 11) rfl rfl Try.func46 (by kernel_rfl) rfl #[.string a0] rfl (by (try simp only [List.map_toArray, List.map_cons, List.map_nil]); rfl) ?_; (with_reducible refine (name_Fold.calls a0 t161 _ A3.out).mono ?_); rintro e w8 ⟨rfl, hb⟩; refine ⟨_, rfl, ?_⟩; have n0_ := Aside0.mk (below_step (by repeat ((with_reducible (exact HB.out)))) hb); clear HB; have HB := n0_; clear n0_; (try clear hb)) | ((with_reducible refine gate_callee (f := 45) rfl ?_); refine goesL_ (some 12) rfl rfl Try.func45 (by kernel_rfl) rfl #[.string t161] rfl (by (try simp only [List.map_toArray, List.map_cons, List.map_nil]); rfl) ?_; (with_reducible refine (name_Labels.calls t161 t162 t163 _ A4.out).mono ?_); rintro e w9 ⟨v164, rfl, ho0, hb⟩; refine ⟨_, rfl, ?_⟩; have n0_ := Aside0.mk (Kd.R_lower ho0 (below_size (by repeat ((with_reducible (exact HB.out)))))); have n1_ := Aside0.mk (below_step (by repeat ((with_reducible (exact HB.out)))) hb); clear HB; have HO165 := n0_; have HB := n1_; clear n0_ n1_; (try clear hb); (try clear ho0)) | ((with_reducible refine gate_callee (f := 46) rfl ?_); refine goesL_ (some 17) rfl rfl Try.func46 (by kernel_rfl) rfl #[.string a1] rfl (by (try simp only [List.map_toArray, List.map_cons, List.map_nil]); rfl) ?_; (with_reducible refine (name_Fold.calls a1 t166 _ A5.out).mono ?_); rintro e w10 ⟨rfl, hb⟩; refine ⟨_, rfl, ?_⟩; have n0_ := Aside0.mk (Kd.R_below (by (with_reducible repeat ((apply Kd.R_alloc))); exact HO165.out) hb); have n1_ := Aside0.mk (below_step (by repeat ((with_reducible (exact HB.out)))) hb); clear HO165; clear HB; have HO165 := n0_; have HB := n1_; clear n0_ n1_; (try clear hb)) | ((with_reducible refine gate_callee (f := 45) rfl ?_); refine goesL_ (some 18) rfl rfl Try.func45 (by kernel_rfl) rfl #[.string t166] rfl (by (try simp only [List.map_toArray, List.map_cons, List.map_nil]); rfl) ?_; (with_reducible refine (name_Labels.calls t166 t167 t168 _ A6.out).mono ?_); rintro e w11 ⟨v169, rfl, ho0, hb⟩; refine ⟨_, rfl, ?_⟩; have n0_ := Aside0.mk (Kd.R_elder' (by (with_reducible repeat ((apply Kd.R_alloc))); exact HO165.out) (Kd.R_base ho0) hb); have n1_ := Aside0.mk (Kd.R_lower (Kd.R_new' ho0 (Kd.R_lt (by (with_reducible repeat ((apply Kd.R_alloc))); exact HO165.out))) (below_size (by repeat ((with_reducible (exact HB.out)))))); have n2_ := Aside0.mk (below_step (by repeat ((with_reducible (exact HB.out)))) hb); clear HO165; clear HB; have HO165 := n0_; have HO170 := n1_; have HB := n2_; clear n0_ n1_ n2_; (try clear hb); (try clear ho0)))
 go_cut [26] (fun v26 wc => ∃ (kq : Nat) (x26_6 : Bool), v26 = .bool x26_6 ∧ Aside0 (name_Compare.j0 kq t162 t167 x26_6 = some r) ∧ Aside0 (kq ≤ k) ∧ Aside0 (Kd.R Kd.string 9 wc w.heap.size (fun k_ => some k_ ≠ (v169 : Value).ownBlock) v164 t162) ∧ Aside0 (Kd.R Kd.string 9 wc w.heap.size (fun k_ => some k_ ≠ (v164 : Value).ownBlock) v169 t167) ∧ Aside0 (Below w.heap.size w wc))
 case first =>
  have H := HC7.out
  clear HC7
  by_cases c12 : t163 = 0
  ·rw [if_pos c12] at H
   have c12b0 : (t163 == 0) = true := beq_iff_eq.mpr c12
   have c12b1 : (t163 != 0) = false := bne_eq_false_iff_eq.mpr c12
   clear c12
   (skip)
   have H' := Aside0.mk H
   clear H
   go_wp2
   go_meet
   case rel => exact ⟨_, ((t168 != 0)), (by rfl), H', ⟨by omega⟩, ⟨by (with_reducible repeat ((apply Kd.R_alloc))); exact Kd.R_mono HO165.out (fun _ hk => hk.2)⟩, ⟨by (with_reducible repeat ((apply Kd.R_alloc))); exact Kd.R_mono HO170.out (fun _ hk => hk.2)⟩, ⟨by repeat ((with_reducible (exact HB.out)))⟩⟩
  ·rw [if_neg c12] at H
   have c12b0 : (t163 == 0) = false := beq_eq_false_iff_ne.mpr c12
   have c12b1 : (t163 != 0) = true := bne_iff_ne.mpr c12
   (skip)
   have H' := Aside0.mk H
   clear H
   go_wp2
   go_meet
   case rel => exact ⟨_, (true), (by rfl), H', ⟨by omega⟩, ⟨by (with_reducible repeat ((apply Kd.R_alloc))); exact Kd.R_mono HO165.out (fun _ hk => hk.2)⟩, ⟨by (with_reducible repeat ((apply Kd.R_alloc))); exact Kd.R_mono HO170.out (fun _ hk => hk.2)⟩, ⟨by repeat ((with_reducible (exact HB.out)))⟩⟩
 case rest =>
  clear HC7
  obtain ⟨kq, x26_6, rfl, HA, HJ6, HO_5, HO_7, HB⟩ := hcut
  cases kq with
  | zero => exact absurd HA.out (by simp [name_Compare.j0])
  | succ kj6 =>
   have H := HA.out
   clear HA
   simp only [name_Compare.j0] at H
   by_cases c13 : x26_6 = true
   ·subst c13
    have H1 : (some 0) = some r := by rw [if_pos rfl] at H; exact H
    clear H
    have H := H1
    clear H1
    obtain rfl := Option.some.inj H
    go_wp2
    go_ret
    exact ⟨by rfl, by repeat ((with_reducible (exact HB.out)))⟩
   ·replace c13 := Bool.eq_false_iff.mpr c13
    subst c13
    have H1 : ((slices_Reverse_string_string.f kj6 t162).bind fun t171 => ((slices_Reverse_string_string.f kj6 t167).bind fun t172 => ((slices_Compare_string_string.f kj6 t171 t172).bind fun t173 => (some t173)))) = some r := by rw [if_neg (show ¬ (false = true) by decide)] at H; exact H
    clear H
    have H := H1
    clear H1
    replace H := Option.bind_eq_some_iff.mp H
    obtain ⟨t171, A140, H⟩ := H
    replace H : ((slices_Reverse_string_string.f kj6 t167).bind fun t172 => ((slices_Compare_string_string.f kj6 t171 t172).bind fun t173 => (some t173))) = some r := H
    have A14 := Aside0.mk A140
    clear A140
    replace H := Option.bind_eq_some_iff.mp H
    obtain ⟨t172, A150, H⟩ := H
    replace H : ((slices_Compare_string_string.f kj6 t171 t172).bind fun t173 => (some t173)) = some r := H
    have A15 := Aside0.mk A150
    clear A150
    replace H := Option.bind_eq_some_iff.mp H
    obtain ⟨t173, A160, H⟩ := H
    replace H : (some t173) = some r := H
    have A16 := Aside0.mk A160
    clear A160
    obtain rfl := Option.some.inj H
    obtain ⟨Ao17, co17, eo17⟩ := Kd.R_slice HO_5.out
    subst eo17
    go_wp2_with (first | ((with_reducible refine gate_callee (f := 47) rfl ?_); refine goesL_ (some 28) rfl rfl Try.func47 (by kernel_rfl) rfl #[.slice Ao17 t162.length co17] rfl (by (try simp only [List.map_toArray, List.map_cons, List.map_nil]); rfl) ?_; (with_reducible refine (slices_Reverse_string_string.calls kj6 (fun k_ => some k_ = (.slice Ao17 t162.length co17 : Value).ownBlock) (.slice Ao17 t162.length co17) t162 t171 w _ ?side1 ?side2 A14.out).mono ?_); (case side1 => repeat ((with_reducible (exact HB.out)))); (case side2 => exact Kd.R_tight rfl HO_5.out); rintro e w18 ⟨rfl, hy0, hb, hkp⟩; refine ⟨_, rfl, ?_⟩; have n0_ := Aside0.mk (Kd.R_reok rfl hy0 (fun k_ e_ => HO_5.out.1 k_ e_)); have n1_ := Aside0.mk (Kd.R_mono (ok' := fun k_ => some k_ ≠ (.slice Ao17 t162.length co17 : Value).ownBlock) (Kd.R_keptB (HO_7.out) hkp (fun k_ hk_ hs_ => (hk_) hs_)) (fun k_ hk_ => hk_.1)); have n2_ := Aside0.mk (hb); clear HO_5; clear HO_7; clear HB; have HO_5 := n0_; have HO_7 := n1_; have HB := n2_; clear n0_ n1_ n2_; (try clear hb); (try clear hkp); (try clear hy0); obtain ⟨Ao19, co19, eo19⟩ := Kd.R_slice HO_7.out; subst eo19) | ((with_reducible refine gate_callee (f := 47) rfl ?_); refine goesL_ (some 30) rfl rfl Try.func47 (by kernel_rfl) rfl #[.slice Ao19 t167.length co19] rfl (by (try simp only [List.map_toArray, List.map_cons, List.map_nil]); rfl) ?_; (with_reducible refine (slices_Reverse_string_string.calls kj6 (fun k_ => some k_ = (.slice Ao19 t167.length co19 : Value).ownBlock) (.slice Ao19 t167.length co19) t167 t172 w _ ?side1 ?side2 A15.out).mono ?_); (case side1 => repeat ((with_reducible (exact HB.out)))); (case side2 => exact Kd.R_tight rfl HO_7.out); rintro e w20 ⟨rfl, hy0, hb, hkp⟩; refine ⟨_, rfl, ?_⟩; have n0_ := Aside0.mk (Kd.R_mono (ok' := fun k_ => some k_ ≠ (.slice Ao19 t167.length co19 : Value).ownBlock) (Kd.R_keptB (HO_5.out) hkp (fun k_ hk_ hs_ => (hk_) hs_)) (fun k_ hk_ => hk_.1)); have n1_ := Aside0.mk (Kd.R_reok rfl hy0 (fun k_ e_ => HO_7.out.1 k_ e_)); have n2_ := Aside0.mk (hb); clear HO_5; clear HO_7; clear HB; have HO_5 := n0_; have HO_7 := n1_; have HB := n2_; clear n0_ n1_ n2_; (try clear hb); (try clear hkp); (try clear hy0)) | ((with_reducible refine gate_callee (f := 48) rfl ?_); refine goesL_ (some 33) rfl rfl Try.func48 (by kernel_rfl) rfl #[.slice Ao17 t171.length co17, .slice Ao19 t172.length co19] rfl (by (try simp only [List.map_toArray, List.map_cons, List.map_nil]); (rw [show t171.length = t162.length from (Kd.R_reads' HO_5.out).1.symm, show t172.length = t167.length from (Kd.R_reads' HO_7.out).1.symm] <;> rfl)) ?_; (with_reducible refine (slices_Compare_string_string.calls kj6 _ _ t171 _ _ t172 t173 _ ?side1 ?side2 ?side3 ?side4 A16.out).mono ?_); (case side1 => repeat ((exact (Kd.R_reads' HO_5.out).2.2))); (case side2 => rw [show t171.length = t162.length from (Kd.R_reads' HO_5.out).1.symm]; exact (Kd.R_reads' HO_5.out).2.1); (case side3 => repeat ((exact (Kd.R_reads' HO_7.out).2.2))); (case side4 => rw [show t172.length = t167.length from (Kd.R_reads' HO_7.out).1.symm]; exact (Kd.R_reads' HO_7.out).2.1); rintro e w21 ⟨rfl, hb⟩; refine ⟨_, rfl, ?_⟩; have n0_ := Aside0.mk (Kd.R_below (by (with_reducible repeat ((apply Kd.R_alloc))); exact HO_5.out) hb); have n1_ := Aside0.mk (Kd.R_below (by (with_reducible repeat ((apply Kd.R_alloc))); exact HO_7.out) hb); have n2_ := Aside0.mk (below_step (by repeat ((with_reducible (exact HB.out)))) hb); clear HO_5; clear HO_7; clear HB; have HO_5 := n0_; have HO_7 := n1_; have HB := n2_; clear n0_ n1_ n2_; (try clear hb)))
    go_ret
    exact ⟨by rfl, by repeat ((with_reducible (exact HB.out)))⟩
def beadrollref10_Parts.j0 : Nat → Int → Bool → Option (ByteArray)
 | 0, _, _ => none
 | k + 1, x3, x8 => if x8 = true then (some (⟨#[110]⟩ : ByteArray)) else (if x3 = 15 then (some (⟨#[50, 110]⟩ : ByteArray)) else (if x3 = 6 then (some (⟨#[110, 110, 52, 52, 52, 52, 52]⟩ : ByteArray)) else (if x3 = 16 then (some (⟨#[116]⟩ : ByteArray)) else (if x3 = 33 then (some (⟨#[50, 50, 50, 117]⟩ : ByteArray)) else (some (⟨#[111]⟩ : ByteArray))))))
def beadrollref10_Parts.f (k : Nat) (a0 : Int) : Option (ByteArray) := if a0 = 1 then (some (⟨#[52]⟩ : ByteArray)) else (if a0 = 28 then (some (⟨#[104]⟩ : ByteArray)) else (if a0 = 2 then (beadrollref10_Parts.j0 k a0 (a0 == 2)) else (if a0 = 5 then (beadrollref10_Parts.j0 k a0 (a0 == 5)) else (beadrollref10_Parts.j0 k a0 (a0 == 12)))))
set_option maxHeartbeats 8000000 in
set_option maxRecDepth 100000 in
theorem beadrollref10_Parts.calls (k : Nat) (a0 : Int) (r : ByteArray) (w : World) (h : beadrollref10_Parts.f k a0 = some r) :
  Calls Try.prog 56 #[.int .i64 a0] w fun e w' => e = .returned (.string r) ∧ Drawn0 w w' := by
 have H : (if a0 = 1 then (some (⟨#[52]⟩ : ByteArray)) else (if a0 = 28 then (some (⟨#[104]⟩ : ByteArray)) else (if a0 = 2 then (beadrollref10_Parts.j0 k a0 (a0 == 2)) else (if a0 = 5 then (beadrollref10_Parts.j0 k a0 (a0 == 5)) else (beadrollref10_Parts.j0 k a0 (a0 == 12)))))) = some r := h
 clear h
 by_cases c2 : a0 = 1
 ·rw [if_pos c2] at H
  have c2b0 : (a0 == 1) = true := beq_iff_eq.mpr c2
  have c2b1 : (a0 != 1) = false := bne_eq_false_iff_eq.mpr c2
  clear c2
  obtain rfl := Option.some.inj H
  go_enter Try.func56, Try.ntmps56
  go_wp2
  go_ret
  exact ⟨by rfl, by repeat ((exact Drawn0.refl _))⟩
 ·rw [if_neg c2] at H
  have c2b0 : (a0 == 1) = false := beq_eq_false_iff_ne.mpr c2
  have c2b1 : (a0 != 1) = true := bne_iff_ne.mpr c2
  by_cases c3 : a0 = 28
  ·rw [if_pos c3] at H
   have c3b0 : (a0 == 28) = true := beq_iff_eq.mpr c3
   have c3b1 : (a0 != 28) = false := bne_eq_false_iff_eq.mpr c3
   clear c3
   obtain rfl := Option.some.inj H
   go_enter Try.func56, Try.ntmps56
   go_wp2
   go_ret
   exact ⟨by rfl, by repeat ((exact Drawn0.refl _))⟩
  ·rw [if_neg c3] at H
   have c3b0 : (a0 == 28) = false := beq_eq_false_iff_ne.mpr c3
   have c3b1 : (a0 != 28) = true := bne_iff_ne.mpr c3
   have HC4 := Aside0.mk H
   clear H
   go_enter Try.func56, Try.ntmps56
   go_upto_if 8 with (fail)
   go_cut [8] (fun v8 wc => ∃ (kq : Nat) (x8_3 : Bool), v8 = .bool x8_3 ∧ Aside0 (beadrollref10_Parts.j0 kq a0 x8_3 = some r) ∧ Aside0 (kq ≤ k) ∧ Drawn0 w wc)
   case first =>
    have H := HC4.out
    clear HC4
    by_cases c5 : a0 = 2
    ·rw [if_pos c5] at H
     have c5b0 : (a0 == 2) = true := beq_iff_eq.mpr c5
     have c5b1 : (a0 != 2) = false := bne_eq_false_iff_eq.mpr c5
     clear c5
     ((rw [c5b0]))
     have H' := Aside0.mk H
     clear H
     go_wp2
     go_meet
     case rel => exact ⟨_, ((a0 == 2)), (by (simp [*]; done)), H', ⟨by omega⟩, by repeat ((exact Drawn0.refl _))⟩
    ·rw [if_neg c5] at H
     have c5b0 : (a0 == 2) = false := beq_eq_false_iff_ne.mpr c5
     have c5b1 : (a0 != 2) = true := bne_iff_ne.mpr c5
     ((rw [c5b0]))
     by_cases c6 : a0 = 5
     ·rw [if_pos c6] at H
      have c6b0 : (a0 == 5) = true := beq_iff_eq.mpr c6
      have c6b1 : (a0 != 5) = false := bne_eq_false_iff_eq.mpr c6
      clear c6
      have H' := Aside0.mk H
      clear H
      go_wp2
      go_meet
      case rel => exact ⟨_, ((a0 == 5)), (by (simp [*]; done)), H', ⟨by omega⟩, by repeat ((exact Drawn0.refl _))⟩
     ·rw [if_neg c6] at H
      have c6b0 : (a0 == 5) = false := beq_eq_false_iff_ne.mpr c6
      have c6b1 : (a0 != 5) = true := bne_iff_ne.mpr c6
      have H' := Aside0.mk H
      clear H
      go_wp2
      go_meet
      case rel => exact ⟨_, ((a0 == 12)), (by rfl), H', ⟨by omega⟩, by repeat ((exact Drawn0.refl _))⟩
   case rest =>
    clear HC4
    (try clear c2)
    (try clear c2b0)
    (try clear c2b1)
    (try clear c3)
    (try clear c3b0)
    (try clear c3b1)
    obtain ⟨kq, x8_3, rfl, HA, HJ3, ⟨mc3, rfl⟩⟩ := hcut
    cases kq with
    | zero => exact absurd HA.out (by simp [beadrollref10_Parts.j0])
    | succ kj3 =>
     have H := HA.out
     clear HA
     simp only [beadrollref10_Parts.j0] at H
     by_cases c7 : x8_3 = true
     ·subst c7
      have H1 : (some (⟨#[110]⟩ : ByteArray)) = some r := by rw [if_pos rfl] at H; exact H
      clear H
      have H := H1
      clear H1
      obtain rfl := Option.some.inj H
      go_wp2
      go_ret
      exact ⟨by rfl, by repeat (first | exact Drawn0.refl _ | apply Drawn0.step)⟩
     ·replace c7 := Bool.eq_false_iff.mpr c7
      subst c7
      have H1 : (if a0 = 15 then (some (⟨#[50, 110]⟩ : ByteArray)) else (if a0 = 6 then (some (⟨#[110, 110, 52, 52, 52, 52, 52]⟩ : ByteArray)) else (if a0 = 16 then (some (⟨#[116]⟩ : ByteArray)) else (if a0 = 33 then (some (⟨#[50, 50, 50, 117]⟩ : ByteArray)) else (some (⟨#[111]⟩ : ByteArray)))))) = some r := by rw [if_neg (show ¬ (false = true) by decide)] at H; exact H
      clear H
      have H := H1
      clear H1
      by_cases c8 : a0 = 15
      ·rw [if_pos c8] at H
       have c8b0 : (a0 == 15) = true := beq_iff_eq.mpr c8
       have c8b1 : (a0 != 15) = false := bne_eq_false_iff_eq.mpr c8
       clear c8
       obtain rfl := Option.some.inj H
       go_wp2
       go_ret
       exact ⟨by rfl, by repeat (first | exact Drawn0.refl _ | apply Drawn0.step)⟩
      ·rw [if_neg c8] at H
       have c8b0 : (a0 == 15) = false := beq_eq_false_iff_ne.mpr c8
       have c8b1 : (a0 != 15) = true := bne_iff_ne.mpr c8
       by_cases c9 : a0 = 6
       ·rw [if_pos c9] at H
        have c9b0 : (a0 == 6) = true := beq_iff_eq.mpr c9
        have c9b1 : (a0 != 6) = false := bne_eq_false_iff_eq.mpr c9
        clear c9
        obtain rfl := Option.some.inj H
        go_wp2
        go_ret
        exact ⟨by rfl, by repeat (first | exact Drawn0.refl _ | apply Drawn0.step)⟩
       ·rw [if_neg c9] at H
        have c9b0 : (a0 == 6) = false := beq_eq_false_iff_ne.mpr c9
        have c9b1 : (a0 != 6) = true := bne_iff_ne.mpr c9
        by_cases c10 : a0 = 16
        ·rw [if_pos c10] at H
         have c10b0 : (a0 == 16) = true := beq_iff_eq.mpr c10
         have c10b1 : (a0 != 16) = false := bne_eq_false_iff_eq.mpr c10
         clear c10
         obtain rfl := Option.some.inj H
         go_wp2
         go_ret
         exact ⟨by rfl, by repeat (first | exact Drawn0.refl _ | apply Drawn0.step)⟩
        ·rw [if_neg c10] at H
         have c10b0 : (a0 == 16) = false := beq_eq_false_iff_ne.mpr c10
         have c10b1 : (a0 != 16) = true := bne_iff_ne.mpr c10
         by_cases c11 : a0 = 33
         ·rw [if_pos c11] at H
          have c11b0 : (a0 == 33) = true := beq_iff_eq.mpr c11
          have c11b1 : (a0 != 33) = false := bne_eq_false_iff_eq.mpr c11
          clear c11
          obtain rfl := Option.some.inj H
          go_wp2
          go_ret
          exact ⟨by rfl, by repeat (first | exact Drawn0.refl _ | apply Drawn0.step)⟩
         ·rw [if_neg c11] at H
          have c11b0 : (a0 == 33) = false := beq_eq_false_iff_ne.mpr c11
          have c11b1 : (a0 != 33) = true := bne_iff_ne.mpr c11
          obtain rfl := Option.some.inj H
          go_wp2
          go_ret
          exact ⟨by rfl, by repeat (first | exact Drawn0.refl _ | apply Drawn0.step)⟩
mutual
def beadrollref07_Labels.l0 : Nat → ByteArray → List ByteArray → Int → Option (List ByteArray × Bool)
 | 0, _, _, _ => none
 | k + 1, x0, x4, x5 => if x5 < (x0.size : Int) then (if 0 ≤ x5 then (beadrollref07_Labels.j1 k x0 x4 x5 (decide ((bt x0 x5) > 0))) else (none)) else (beadrollref07_Labels.j1 k x0 x4 x5 false)
def beadrollref07_Labels.j1 : Nat → ByteArray → List ByteArray → Int → Bool → Option (List ByteArray × Bool)
 | 0, _, _, _, _ => none
 | k + 1, x0, x4, x5, x19 => if x19 = true then (if 0 ≤ x5 then (if x5 < (x0.size : Int) then (if (wrap64 (bt x0 x5)) > 63 then (some (([] : List ByteArray), false)) else (if (wrap64 ((wrap64 (x5 + 1)) + (wrap64 (bt x0 x5)))) > (x0.size : Int) then (some (([] : List ByteArray), false)) else (if 0 ≤ (wrap64 (x5 + 1)) then (if (wrap64 (x5 + 1)) ≤ (wrap64 ((wrap64 (x5 + 1)) + (wrap64 (bt x0 x5)))) then (if (wrap64 ((wrap64 (x5 + 1)) + (wrap64 (bt x0 x5)))) ≤ (x0.size : Int) then (if x4.length < 8796093022208 then (beadrollref07_Labels.l0 k x0 (x4 ++ [x0.extract ((wrap64 (x5 + 1)) : Int).toNat ((wrap64 ((wrap64 (x5 + 1)) + (wrap64 (bt x0 x5)))) : Int).toNat]) (wrap64 (x5 + (wrap64 (1 + (wrap64 (bt x0 x5))))))) else (none)) else (none)) else (none)) else (none)))) else (none)) else (none)) else (if x5 = (wrap64 ((x0.size : Int) - 1)) then (if 0 ≤ x5 then (if x5 < (x0.size : Int) then (some (x4, ((bt x0 x5) == 0))) else (none)) else (none)) else (some (x4, false)))
end
def beadrollref07_Labels.f (k : Nat) (a0 : ByteArray) : Option (List ByteArray × Bool) := if (a0.size : Int) > 255 then (some (([] : List ByteArray), false)) else (beadrollref07_Labels.l0 k a0 ([] : List ByteArray) 0)
set_option maxHeartbeats 8000000 in
set_option maxRecDepth 100000 in
theorem beadrollref07_Labels.calls (k : Nat) (a0 : ByteArray) (r1 : List ByteArray) (r2 : Bool) (w : World) (h : beadrollref07_Labels.f k a0 = some (r1, r2)) :
  Calls Try.prog 39 #[.string a0] w fun e w' => ∃ v0_ : Value, e = .returned (.tuple #[v0_, .bool r2]) ∧ Kd.R Kd.string 9 w' w.heap.size (fun _ => True) v0_ r1 ∧ Below w.heap.size w w' := by
 have HB := Aside0.mk (Below.refl w.heap.size w)
 have H : (if (a0.size : Int) > 255 then (some (([] : List ByteArray), false)) else (beadrollref07_Labels.l0 k a0 ([] : List ByteArray) 0)) = some (r1, r2) := h
 clear h
 by_cases c2 : (a0.size : Int) > 255
 ·rw [if_pos c2] at H
  have c2b0 : decide (255 < (a0.size : Int)) = true := decide_eq_true c2
  have c2b1 : decide (255 < a0.size) = true := decide_eq_true (by omega)
  clear c2
  simp only [Option.some.injEq, Prod.mk.injEq] at H
  obtain ⟨rfl, rfl⟩ := H
  go_enter Try.func39, Try.ntmps39
  go_wp2
  repeat (go_quiet (fail); try go_wp2)
  go_ret2
  exact ⟨_, by rfl, by (exact Kd.R_nil _ _ _ _ _), by repeat ((with_reducible (exact HB.out)))⟩
 ·rw [if_neg c2] at H
  have c2b0 : decide (255 < (a0.size : Int)) = false := decide_eq_false c2
  have c2b1 : decide (255 < a0.size) = false := decide_eq_false (by omega)
  clear c2
  have H' := Aside0.mk H
  clear H
  go_enter Try.func39, Try.ntmps39
  go_wp2
  repeat (go_quiet (fail); try go_wp2)
  go_loopg [4, 5] k (fun kq v4 v5 w' => ∃ (x4_1 : List ByteArray) (x5_1 : Int), v5 = .int .i64 x5_1 ∧ Aside0 (beadrollref07_Labels.l0 kq a0 x4_1 x5_1 = some (r1, r2)) ∧ Aside0 (kq ≤ k) ∧ Aside0 (Kd.R Kd.string 9 w' w.heap.size (fun _ => True) v4 x4_1) ∧ Aside0 (Below w.heap.size w w'))
  case atStart => exact ⟨(([] : List ByteArray)), (0), (by rfl), H', ⟨Nat.le_refl _⟩, ⟨by (exact Kd.R_nil _ _ _ _ _)⟩, ⟨by repeat ((with_reducible (exact HB.out)))⟩⟩
  case round =>
   clear H'
   (try clear c2b0)
   (try clear c2b1)
   obtain ⟨x4_1, x5_1, rfl, HA, HK1, HO_4, HB⟩ := hrel
   cases gk with
   | zero => exact absurd HA.out (by simp [beadrollref07_Labels.l0])
   | succ k1 =>
    have H := HA.out
    clear HA
    simp only [beadrollref07_Labels.l0] at H
    have HC3 := Aside0.mk H
    clear H
    go_upto_region 5 with (fail)
    repeat (go_quiet (fail); go_upto_region 5 with (fail))
    go_cut [19] (fun v19 wc => ∃ (kq : Nat) (x19_2 : Bool), v19 = .bool x19_2 ∧ Aside0 (beadrollref07_Labels.j1 kq a0 x4_1 x5_1 x19_2 = some (r1, r2)) ∧ Aside0 (kq ≤ k1) ∧ Aside0 (Kd.R Kd.string 9 wc w.heap.size (fun _ => True) u4 x4_1) ∧ Aside0 (Below w.heap.size w wc))
    case first =>
     have H := HC3.out
     clear HC3
     by_cases c4 : x5_1 < (a0.size : Int)
     ·rw [if_pos c4] at H
      have c4b0 : decide (x5_1 < (a0.size : Int)) = true := decide_eq_true c4
      clear c4
      (skip)
      by_cases c5 : 0 ≤ x5_1
      ·rw [if_pos c5] at H
       have c5b0 : decide (0 ≤ x5_1) = true := decide_eq_true c5
       clear c5
       have H' := Aside0.mk H
       clear H
       have p6 : 0 ≤ (x5_1 : Int) := of_decide_eq_true (by (with_reducible assumption))
       have q6 : x5_1 < (a0.size : Int) := of_decide_eq_true (by (with_reducible assumption))
       have hx6 := bt_at a0 x5_1
       replace p6 := eq_true p6
       replace q6 := eq_true q6
       go_wp2
       repeat (go_quiet (fail); try go_wp2)
       go_meet
       case rel => exact ⟨_, (decide ((bt a0 x5_1) > 0)), (by rfl), H', ⟨by have := HK1.out; omega⟩, ⟨by (with_reducible repeat ((apply Kd.R_alloc))); exact HO_4.out⟩, ⟨by repeat ((with_reducible (exact HB.out)))⟩⟩
      ·rw [if_neg c5] at H
       exact absurd H (by simp)
     ·rw [if_neg c4] at H
      have c4b0 : decide (x5_1 < (a0.size : Int)) = false := decide_eq_false c4
      clear c4
      (skip)
      have H' := Aside0.mk H
      clear H
      go_wp2
      repeat (go_quiet (fail); try go_wp2)
      go_meet
      case rel => exact ⟨_, (false), (by rfl), H', ⟨by have := HK1.out; omega⟩, ⟨by (with_reducible repeat ((apply Kd.R_alloc))); exact HO_4.out⟩, ⟨by repeat ((with_reducible (exact HB.out)))⟩⟩
    case rest =>
     clear HC3
     obtain ⟨kq, x19_2, rfl, HA, HJ2, HO_4, HB⟩ := hcut
     cases kq with
     | zero => exact absurd HA.out (by simp [beadrollref07_Labels.j1])
     | succ kj2 =>
      have H := HA.out
      clear HA
      simp only [beadrollref07_Labels.j1] at H
      by_cases c7 : x19_2 = true
      ·subst c7
       have H1 : (if 0 ≤ x5_1 then (if x5_1 < (a0.size : Int) then (if (wrap64 (bt a0 x5_1)) > 63 then (some (([] : List ByteArray), false)) else (if (wrap64 ((wrap64 (x5_1 + 1)) + (wrap64 (bt a0 x5_1)))) > (a0.size : Int) then (some (([] : List ByteArray), false)) else (if 0 ≤ (wrap64 (x5_1 + 1)) then (if (wrap64 (x5_1 + 1)) ≤ (wrap64 ((wrap64 (x5_1 + 1)) + (wrap64 (bt a0 x5_1)))) then (if (wrap64 ((wrap64 (x5_1 + 1)) + (wrap64 (bt a0 x5_1)))) ≤ (a0.size : Int) then (if x4_1.length < 8796093022208 then (beadrollref07_Labels.l0 kj2 a0 (x4_1 ++ [a0.extract ((wrap64 (x5_1 + 1)) : Int).toNat ((wrap64 ((wrap64 (x5_1 + 1)) + (wrap64 (bt a0 x5_1)))) : Int).toNat]) (wrap64 (x5_1 + (wrap64 (1 + (wrap64 (bt a0 x5_1))))))) else (none)) else (none)) else (none)) else (none)))) else (none)) else (none)) = some (r1, r2) := by rw [if_pos rfl] at H; exact H
       clear H
       have H := H1
       clear H1
       by_cases c8 : 0 ≤ x5_1
       ·rw [if_pos c8] at H
        have c8b0 : decide (0 ≤ x5_1) = true := decide_eq_true c8
        clear c8
        by_cases c9 : x5_1 < (a0.size : Int)
        ·rw [if_pos c9] at H
         have c9b0 : decide (x5_1 < (a0.size : Int)) = true := decide_eq_true c9
         clear c9
         by_cases c11 : (wrap64 (bt a0 x5_1)) > 63
         ·rw [if_pos c11] at H
          have c11b0 : decide (63 < (wrap64 (bt a0 x5_1))) = true := decide_eq_true c11
          clear c11
          simp only [Option.some.injEq, Prod.mk.injEq] at H
          obtain ⟨rfl, rfl⟩ := H
          have p10 : 0 ≤ (x5_1 : Int) := of_decide_eq_true (by (with_reducible assumption))
          have q10 : x5_1 < (a0.size : Int) := of_decide_eq_true (by (with_reducible assumption))
          have hx10 := bt_at a0 x5_1
          replace p10 := eq_true p10
          replace q10 := eq_true q10
          go_wp2
          repeat (go_quiet (fail); try go_wp2)
          go_ret2
          exact ⟨_, by rfl, by (exact Kd.R_nil _ _ _ _ _), by repeat ((with_reducible (exact HB.out)))⟩
         ·rw [if_neg c11] at H
          have c11b0 : decide (63 < (wrap64 (bt a0 x5_1))) = false := decide_eq_false c11
          clear c11
          by_cases c12 : (wrap64 ((wrap64 (x5_1 + 1)) + (wrap64 (bt a0 x5_1)))) > (a0.size : Int)
          ·rw [if_pos c12] at H
           have c12b0 : decide ((a0.size : Int) < (wrap64 ((wrap64 (x5_1 + 1)) + (wrap64 (bt a0 x5_1))))) = true := decide_eq_true c12
           clear c12
           simp only [Option.some.injEq, Prod.mk.injEq] at H
           obtain ⟨rfl, rfl⟩ := H
           have p10 : 0 ≤ (x5_1 : Int) := of_decide_eq_true (by (with_reducible assumption))
           have q10 : x5_1 < (a0.size : Int) := of_decide_eq_true (by (with_reducible assumption))
           have hx10 := bt_at a0 x5_1
           replace p10 := eq_true p10
           replace q10 := eq_true q10
           go_wp2
           repeat (go_quiet (fail); try go_wp2)
           go_ret2
           exact ⟨_, by rfl, by (exact Kd.R_nil _ _ _ _ _), by repeat ((with_reducible (exact HB.out)))⟩
          ·rw [if_neg c12] at H
           have c12b0 : decide ((a0.size : Int) < (wrap64 ((wrap64 (x5_1 + 1)) + (wrap64 (bt a0 x5_1))))) = false := decide_eq_false c12
           clear c12
           obtain ⟨ji13, hji13⟩ : ∃ j_ : Int, (wrap64 (x5_1 + 1)) = j_ := ⟨_, rfl⟩
           replace H : (if 0 ≤ (ji13) then (if (ji13) ≤ (wrap64 ((ji13) + (wrap64 (bt a0 x5_1)))) then (if (wrap64 ((ji13) + (wrap64 (bt a0 x5_1)))) ≤ (a0.size : Int) then (if x4_1.length < 8796093022208 then (beadrollref07_Labels.l0 kj2 a0 (x4_1 ++ [a0.extract ((ji13) : Int).toNat ((wrap64 ((ji13) + (wrap64 (bt a0 x5_1)))) : Int).toNat]) (wrap64 (x5_1 + (wrap64 (1 + (wrap64 (bt a0 x5_1))))))) else (none)) else (none)) else (none)) else (none)) = some (r1, r2) := by (rw [hji13] at H; exact H)
           (try rw [hji13] at c12b0)
           have hji13w : (IntKind.i64.wrap (x5_1 + 1)) = ji13 := (i64_w _).trans hji13
           by_cases c14 : 0 ≤ (ji13)
           ·rw [if_pos c14] at H
            have c14b0 := eq_true c14
            have c14b1 : decide (0 ≤ (ji13)) = true := decide_eq_true c14
            clear c14
            by_cases c15 : (ji13) ≤ (wrap64 ((ji13) + (wrap64 (bt a0 x5_1))))
            ·rw [if_pos c15] at H
             have c15b0 := eq_true c15
             have c15b1 : decide ((ji13) ≤ (wrap64 ((ji13) + (wrap64 (bt a0 x5_1))))) = true := decide_eq_true c15
             by_cases c16 : (wrap64 ((ji13) + (wrap64 (bt a0 x5_1)))) ≤ (a0.size : Int)
             ·rw [if_pos c16] at H
              have c16b0 := eq_true c16
              have c16b1 : decide ((wrap64 ((ji13) + (wrap64 (bt a0 x5_1)))) ≤ (a0.size : Int)) = true := decide_eq_true c16
              by_cases c17 : x4_1.length < 8796093022208
              ·rw [if_pos c17] at H
               have LMc17 := Aside0.mk c17
               clear c17
               obtain ⟨y174, hy174⟩ : ∃ y_ : List ByteArray, y_ = (x4_1 ++ [a0.extract ((ji13) : Int).toNat ((wrap64 ((ji13) + (wrap64 (bt a0 x5_1)))) : Int).toNat]) := ⟨_, rfl⟩
               replace H : (beadrollref07_Labels.l0 kj2 a0 y174 (wrap64 (x5_1 + (wrap64 (1 + (wrap64 (bt a0 x5_1))))))) = some (r1, r2) := by (rw [hy174]; with_reducible exact H)
               have Ny174 := Aside0.mk hy174
               clear hy174
               have H' := Aside0.mk H
               clear H
               have p10 : 0 ≤ (x5_1 : Int) := of_decide_eq_true (by (with_reducible assumption))
               have q10 : x5_1 < (a0.size : Int) := of_decide_eq_true (by (with_reducible assumption))
               have hx10 := bt_at a0 x5_1
               replace p10 := eq_true p10
               replace q10 := eq_true q10
               go_wp2_with ((((with_reducible refine gate_builtin (b := .append) (xs := #[.tmp 35, .tmp 44]) rfl ?_); (try (refine gate_guard (by rfl) ?_; dsimp only)); at_builtin; refine Kd.R_append Kd.string (w0 := w) w.heap.size rfl (.tmp 35) (.tmp 44) 52 9 (.string ⟨#[]⟩) 16 rfl Try.underlying52 info9 rfl (by decide) (by omega) u4 x4_1 (a0.extract ((ji13) : Int).toNat ((wrap64 ((ji13) + (wrap64 (bt a0 x5_1)))) : Int).toNat) [.string (a0.extract ((ji13) : Int).toNat ((wrap64 ((ji13) + (wrap64 (bt a0 x5_1)))) : Int).toNat)] (fun _ => True) (fun _ => False) rfl rfl ?aP (fun _ hk => hk.elim) ?aF ?aO ?aB ?aS ?aL ?_; (case aP => exact rfl); (case aB => exact (by repeat ((with_reducible (exact HB.out))))); (case aF => exact (fun _ _ => trivial)); (case aO => exact (by (with_reducible repeat ((apply Kd.R_alloc))); exact HO_4.out)); (case aS => exact (below_size (by repeat ((with_reducible (exact HB.out)))))); (case aL => have := LMc17.out; omega); intro v175 w18 ho hb hg hat; rw [← Ny174.out] at ho; have n0_ := Aside0.mk (hb); have n1_ := Aside0.mk (ho); clear HB; clear HO_4; have HB := n0_; have HO176 := n1_; clear n0_ n1_; clear ho hb hg hat)))
               repeat (go_quiet ((((with_reducible refine gate_builtin (b := .append) (xs := #[.tmp 35, .tmp 44]) rfl ?_); at_builtin; refine Kd.R_append Kd.string (w0 := w) w.heap.size rfl (.tmp 35) (.tmp 44) 52 9 (.string ⟨#[]⟩) 16 rfl Try.underlying52 info9 rfl (by decide) (by omega) u4 x4_1 (a0.extract ((ji13) : Int).toNat ((wrap64 ((ji13) + (wrap64 (bt a0 x5_1)))) : Int).toNat) [.string (a0.extract ((ji13) : Int).toNat ((wrap64 ((ji13) + (wrap64 (bt a0 x5_1)))) : Int).toNat)] (fun _ => True) (fun _ => False) rfl rfl ?aP (fun _ hk => hk.elim) ?aF ?aO ?aB ?aS ?aL ?_; (case aP => exact rfl); (case aB => exact (by repeat ((with_reducible (exact HB.out))))); (case aF => exact (fun _ _ => trivial)); (case aO => exact (by (with_reducible repeat ((apply Kd.R_alloc))); exact HO_4.out)); (case aS => exact (below_size (by repeat ((with_reducible (exact HB.out)))))); (case aL => have := LMc17.out; omega); intro v175 w18 ho hb hg hat; rw [← Ny174.out] at ho; have n0_ := Aside0.mk (hb); have n1_ := Aside0.mk (ho); clear HB; clear HO_4; have HB := n0_; have HO176 := n1_; clear n0_ n1_; clear ho hb hg hat))); try go_wp2_with ((((with_reducible refine gate_builtin (b := .append) (xs := #[.tmp 35, .tmp 44]) rfl ?_); at_builtin; refine Kd.R_append Kd.string (w0 := w) w.heap.size rfl (.tmp 35) (.tmp 44) 52 9 (.string ⟨#[]⟩) 16 rfl Try.underlying52 info9 rfl (by decide) (by omega) u4 x4_1 (a0.extract ((ji13) : Int).toNat ((wrap64 ((ji13) + (wrap64 (bt a0 x5_1)))) : Int).toNat) [.string (a0.extract ((ji13) : Int).toNat ((wrap64 ((ji13) + (wrap64 (bt a0 x5_1)))) : Int).toNat)] (fun _ => True) (fun _ => False) rfl rfl ?aP (fun _ hk => hk.elim) ?aF ?aO ?aB ?aS ?aL ?_; (case aP => exact rfl); (case aB => exact (by repeat ((with_reducible (exact HB.out))))); (case aF => exact (fun _ _ => trivial)); (case aO => exact (by (with_reducible repeat ((apply Kd.R_alloc))); exact HO_4.out)); (case aS => exact (below_size (by repeat ((with_reducible (exact HB.out)))))); (case aL => have := LMc17.out; omega); intro v175 w18 ho hb hg hat; rw [← Ny174.out] at ho; have n0_ := Aside0.mk (hb); have n1_ := Aside0.mk (ho); clear HB; clear HO_4; have HB := n0_; have HO176 := n1_; clear n0_ n1_; clear ho hb hg hat))))
               go_roundg kj2
               case measure => have := HK1.out; have := HJ2.out; omega
               case rel => exact ⟨(y174), (wrap64 (x5_1 + (wrap64 (1 + (wrap64 (bt a0 x5_1)))))), (by rfl), H', ⟨by have := HK1.out; have := HJ2.out; omega⟩, ⟨by (with_reducible repeat ((apply Kd.R_alloc))); exact HO176.out⟩, ⟨by repeat ((with_reducible (exact HB.out)))⟩⟩
              ·rw [if_neg c17] at H
               exact absurd H (by simp)
             ·rw [if_neg c16] at H
              exact absurd H (by simp)
            ·rw [if_neg c15] at H
             exact absurd H (by simp)
           ·rw [if_neg c14] at H
            exact absurd H (by simp)
        ·rw [if_neg c9] at H
         exact absurd H (by simp)
       ·rw [if_neg c8] at H
        exact absurd H (by simp)
      ·replace c7 := Bool.eq_false_iff.mpr c7
       subst c7
       have H1 : (if x5_1 = (wrap64 ((a0.size : Int) - 1)) then (if 0 ≤ x5_1 then (if x5_1 < (a0.size : Int) then (some (x4_1, ((bt a0 x5_1) == 0))) else (none)) else (none)) else (some (x4_1, false))) = some (r1, r2) := by rw [if_neg (show ¬ (false = true) by decide)] at H; exact H
       clear H
       have H := H1
       clear H1
       by_cases c19 : x5_1 = (wrap64 ((a0.size : Int) - 1))
       ·rw [if_pos c19] at H
        have c19b0 : (x5_1 == (wrap64 ((a0.size : Int) - 1))) = true := beq_iff_eq.mpr c19
        have c19b1 : (x5_1 != (wrap64 ((a0.size : Int) - 1))) = false := bne_eq_false_iff_eq.mpr c19
        clear c19
        by_cases c20 : 0 ≤ x5_1
        ·rw [if_pos c20] at H
         have c20b0 : decide (0 ≤ x5_1) = true := decide_eq_true c20
         clear c20
         by_cases c21 : x5_1 < (a0.size : Int)
         ·rw [if_pos c21] at H
          have c21b0 : decide (x5_1 < (a0.size : Int)) = true := decide_eq_true c21
          clear c21
          simp only [Option.some.injEq, Prod.mk.injEq] at H
          obtain ⟨rfl, rfl⟩ := H
          have p22 : 0 ≤ (x5_1 : Int) := of_decide_eq_true (by (with_reducible assumption))
          have q22 : x5_1 < (a0.size : Int) := of_decide_eq_true (by (with_reducible assumption))
          have hx22 := bt_at a0 x5_1
          replace p22 := eq_true p22
          replace q22 := eq_true q22
          go_wp2
          repeat (go_quiet (fail); try go_wp2)
          go_ret2
          exact ⟨_, by rfl, by (with_reducible repeat ((apply Kd.R_drewN))); exact HO_4.out, by repeat ((with_reducible first | exact HB.out | apply pw_below_drewN))⟩
         ·rw [if_neg c21] at H
          exact absurd H (by simp)
        ·rw [if_neg c20] at H
         exact absurd H (by simp)
       ·rw [if_neg c19] at H
        have c19b0 : (x5_1 == (wrap64 ((a0.size : Int) - 1))) = false := beq_eq_false_iff_ne.mpr c19
        have c19b1 : (x5_1 != (wrap64 ((a0.size : Int) - 1))) = true := bne_iff_ne.mpr c19
        simp only [Option.some.injEq, Prod.mk.injEq] at H
        obtain ⟨rfl, rfl⟩ := H
        go_wp2
        repeat (go_quiet (fail); try go_wp2)
        go_ret2
        exact ⟨_, by rfl, by (with_reducible repeat ((apply Kd.R_drewN))); exact HO_4.out, by repeat ((with_reducible first | exact HB.out | apply pw_below_drewN))⟩
def beadrollref07_Right.f (k : Nat) (a0 : ByteArray) : Option (Bool) := (beadrollref07_Labels.f k a0).bind fun bt177 => (some bt177.2)
set_option maxHeartbeats 8000000 in
set_option maxRecDepth 100000 in
theorem beadrollref07_Right.calls (k : Nat) (a0 : ByteArray) (r : Bool) (w : World) (h : beadrollref07_Right.f k a0 = some r) :
  Calls Try.prog 24 #[.string a0] w fun e w' => e = .returned (.bool r) ∧ Below w.heap.size w w' := by
 have HB := Aside0.mk (Below.refl w.heap.size w)
 have H : ((beadrollref07_Labels.f k a0).bind fun bt177 => (some bt177.2)) = some r := h
 clear h
 replace H := Option.bind_eq_some_iff.mp H
 obtain ⟨⟨t177, t178⟩, A20, H⟩ := H
 replace H : (some t178) = some r := H
 have A2 := Aside0.mk A20
 clear A20
 obtain rfl := Option.some.inj H
 go_enter Try.func24, Try.ntmps24
 go_wp2_with ((((with_reducible refine gate_callee (f := 39) rfl ?_); refine goesL_ (some 7) rfl rfl Try.func39 (by kernel_rfl) rfl #[.string a0] rfl (by (try simp only [List.map_toArray, List.map_cons, List.map_nil]); rfl) ?_; (with_reducible refine (beadrollref07_Labels.calls k a0 t177 t178 _ A2.out).mono ?_); rintro e w3 ⟨v179, rfl, ho0, hb⟩; refine ⟨_, rfl, ?_⟩; have n0_ := Aside0.mk (Kd.R_lower ho0 (below_size (by repeat ((with_reducible (exact HB.out)))))); have n1_ := Aside0.mk (below_step (by repeat ((with_reducible (exact HB.out)))) hb); clear HB; have HO180 := n0_; have HB := n1_; clear n0_ n1_; (try clear hb); (try clear ho0))))
 go_ret
 exact ⟨by rfl, by repeat ((with_reducible (exact HB.out)))⟩
end Go.Proofs.Ytnpiglojamhpiaa.PRd
namespace Go.Proofs.Ytnpiglojamhpiaa.PRd
open Go.RowKit Go.Proofs.YtnpiglojamhpiaaW.PrintWords Go.Proofs.YtnpiglojamhpiaaW.PrintLast Go.Proofs.YtnpiglojamhpiaaW.PrintMore Go.Proofs.Ytnpiglojamhpiaa.Given
attribute [local go_sem] max2_int min2_int max_two min_two max_three min_three max_four min_four   -- for this text's walks alone
set_option linter.unusedVariables false
set_option linter.unusedSimpArgs false
mutual
def beadrollref09_Read.j0 : Nat → ByteArray → Int → Bool → Option (ByteArray × Int × Int)
 | 0, _, _, _ => none
 | k + 1, x0, x1, x19 => if x19 = true then (some ((⟨#[]⟩ : ByteArray), 0, 1)) else (beadrollref09_Read.l0 k x0 x1 (⟨#[]⟩ : ByteArray) (-1) x1)
def beadrollref09_Read.l0 : Nat → ByteArray → Int → ByteArray → Int → Int → Option (ByteArray × Int × Int)
 | 0, _, _, _, _, _ => none
 | k + 1, x0, x1, x7, x8, x9 => if x1 < (x0.size : Int) then (beadrollref09_Read.j2 k x0 x1 x7 x8 x9 (decide ((x7.size : Int) < 300))) else (beadrollref09_Read.j2 k x0 x1 x7 x8 x9 false)
def beadrollref09_Read.j2 : Nat → ByteArray → Int → ByteArray → Int → Int → Bool → Option (ByteArray × Int × Int)
 | 0, _, _, _, _, _, _ => none
 | k + 1, x0, x1, x7, x8, x9, x29 => if x29 = true then (if 0 ≤ x1 then (if x1 < (x0.size : Int) then (if (wrap64 (bt x0 x1)) = 0 then (if x7.size + 1 ≤ 9223372036854775807 then (if x8 < 0 then ((beadrollref07_Right.f k (x7 ++ (⟨#[0]⟩ : ByteArray))).bind fun t181 => (if t181 = true then (some (x7 ++ (⟨#[0]⟩ : ByteArray), wrap64 (x1 + 1), 0)) else (some ((⟨#[]⟩ : ByteArray), 0, 2)))) else ((beadrollref07_Right.f k (x7 ++ (⟨#[0]⟩ : ByteArray))).bind fun t182 => (if t182 = true then (some (x7 ++ (⟨#[0]⟩ : ByteArray), x8, 0)) else (some ((⟨#[]⟩ : ByteArray), 0, 2))))) else (none)) else (if (wrap64 (bt x0 x1)) ≥ 192 then (if (wrap64 (x1 + 1)) ≥ (x0.size : Int) then (some ((⟨#[]⟩ : ByteArray), 0, 2)) else (if 0 ≤ (wrap64 (x1 + 1)) then (if (wrap64 (x1 + 1)) < (x0.size : Int) then (if (wrap64 ((wrap64 ((wrap64 ((wrap64 (bt x0 x1)) - 192)) * 256)) + (wrap64 (bt x0 (wrap64 (x1 + 1)))))) ≥ x9 then (some ((⟨#[]⟩ : ByteArray), 0, 2)) else (if x8 < 0 then (beadrollref09_Read.l0 k x0 (wrap64 ((wrap64 ((wrap64 ((wrap64 (bt x0 x1)) - 192)) * 256)) + (wrap64 (bt x0 (wrap64 (x1 + 1)))))) x7 (wrap64 (x1 + 2)) (wrap64 ((wrap64 ((wrap64 ((wrap64 (bt x0 x1)) - 192)) * 256)) + (wrap64 (bt x0 (wrap64 (x1 + 1))))))) else (beadrollref09_Read.l0 k x0 (wrap64 ((wrap64 ((wrap64 ((wrap64 (bt x0 x1)) - 192)) * 256)) + (wrap64 (bt x0 (wrap64 (x1 + 1)))))) x7 x8 (wrap64 ((wrap64 ((wrap64 ((wrap64 (bt x0 x1)) - 192)) * 256)) + (wrap64 (bt x0 (wrap64 (x1 + 1))))))))) else (none)) else (none))) else (if (wrap64 (bt x0 x1)) ≥ 64 then (some ((⟨#[]⟩ : ByteArray), 0, 2)) else (if (wrap64 ((wrap64 (x1 + 1)) + (wrap64 (bt x0 x1)))) > (x0.size : Int) then (some ((⟨#[]⟩ : ByteArray), 0, 2)) else (if x1 ≤ (wrap64 ((wrap64 (x1 + 1)) + (wrap64 (bt x0 x1)))) then (if (wrap64 ((wrap64 (x1 + 1)) + (wrap64 (bt x0 x1)))) ≤ (x0.size : Int) then (if x7.size + (x0.extract (x1 : Int).toNat ((wrap64 ((wrap64 (x1 + 1)) + (wrap64 (bt x0 x1)))) : Int).toNat).size ≤ 9223372036854775807 then (beadrollref09_Read.l0 k x0 (wrap64 (x1 + (wrap64 (1 + (wrap64 (bt x0 x1)))))) (x7 ++ (x0.extract (x1 : Int).toNat ((wrap64 ((wrap64 (x1 + 1)) + (wrap64 (bt x0 x1)))) : Int).toNat)) x8 x9) else (none)) else (none)) else (none)))))) else (none)) else (none)) else (some ((⟨#[]⟩ : ByteArray), 0, 2))
end
def beadrollref09_Read.f (k : Nat) (a0 : ByteArray) (a1 : Int) : Option (ByteArray × Int × Int) := if a1 < 0 then (beadrollref09_Read.j0 k a0 a1 true) else (beadrollref09_Read.j0 k a0 a1 (decide (a1 > (a0.size : Int))))
set_option maxHeartbeats 8000000 in
set_option maxRecDepth 100000 in
theorem beadrollref09_Read.calls (k : Nat) (a0 : ByteArray) (a1 : Int) (r1 : ByteArray) (r2 : Int) (r3 : Int) (w : World) (h : beadrollref09_Read.f k a0 a1 = some (r1, r2, r3)) :
  Calls Try.prog 66 #[.string a0, .int .i64 a1] w fun e w' => e = .returned (.tuple #[.string r1, .int .i64 r2, .int .i64 r3]) ∧ Below w.heap.size w w' := by
 have HB := Aside0.mk (Below.refl w.heap.size w)
 have H : (if a1 < 0 then (beadrollref09_Read.j0 k a0 a1 true) else (beadrollref09_Read.j0 k a0 a1 (decide (a1 > (a0.size : Int))))) = some (r1, r2, r3) := h
 clear h
 have HC3 := Aside0.mk H
 clear H
 go_enter Try.func66, Try.ntmps66
 go_upto_region 1 with (fail)
 go_cut [19] (fun v19 wc => ∃ (kq : Nat) (x19_2 : Bool), v19 = .bool x19_2 ∧ Aside0 (beadrollref09_Read.j0 kq a0 a1 x19_2 = some (r1, r2, r3)) ∧ Aside0 (kq ≤ k) ∧ Aside0 (Below w.heap.size w wc))
 case first =>
  have H := HC3.out
  clear HC3
  by_cases c4 : a1 < 0
  ·rw [if_pos c4] at H
   have c4b0 : decide (a1 < 0) = true := decide_eq_true c4
   clear c4
   (skip)
   have H' := Aside0.mk H
   clear H
   go_wp2
   go_meet
   case rel => exact ⟨_, (true), (by rfl), H', ⟨by omega⟩, ⟨by repeat ((with_reducible (exact HB.out)))⟩⟩
  ·rw [if_neg c4] at H
   have c4b0 : decide (a1 < 0) = false := decide_eq_false c4
   clear c4
   (skip)
   have H' := Aside0.mk H
   clear H
   go_wp2
   go_meet
   case rel => exact ⟨_, (decide (a1 > (a0.size : Int))), (by rfl), H', ⟨by omega⟩, ⟨by repeat ((with_reducible (exact HB.out)))⟩⟩
 case rest =>
  clear HC3
  obtain ⟨kq, x19_2, rfl, HA, HJ2, HB⟩ := hcut
  cases kq with
  | zero => exact absurd HA.out (by simp [beadrollref09_Read.j0])
  | succ kj2 =>
   have H := HA.out
   clear HA
   simp only [beadrollref09_Read.j0] at H
   by_cases c5 : x19_2 = true
   ·subst c5
    have H1 : (some ((⟨#[]⟩ : ByteArray), 0, 1)) = some (r1, r2, r3) := by rw [if_pos rfl] at H; exact H
    clear H
    have H := H1
    clear H1
    simp only [Option.some.injEq, Prod.mk.injEq] at H
    obtain ⟨rfl, rfl, rfl⟩ := H
    go_wp2
    go_ret3
    exact ⟨by rfl, by repeat ((with_reducible (exact HB.out)))⟩
   ·replace c5 := Bool.eq_false_iff.mpr c5
    subst c5
    have H1 : (beadrollref09_Read.l0 kj2 a0 a1 (⟨#[]⟩ : ByteArray) (-1) a1) = some (r1, r2, r3) := by rw [if_neg (show ¬ (false = true) by decide)] at H; exact H
    clear H
    have H := H1
    clear H1
    have H' := Aside0.mk H
    clear H
    go_wp2
    go_loopg [1, 7, 8, 9] kj2 (fun kq v1 v7 v8 v9 w' => ∃ (x1_2 : Int) (x7_2 : ByteArray) (x8_2 : Int) (x9_2 : Int), v1 = .int .i64 x1_2 ∧ v7 = .string x7_2 ∧ v8 = .int .i64 x8_2 ∧ v9 = .int .i64 x9_2 ∧ Aside0 (beadrollref09_Read.l0 kq a0 x1_2 x7_2 x8_2 x9_2 = some (r1, r2, r3)) ∧ Aside0 (kq ≤ kj2) ∧ Aside0 (Below w.heap.size w w'))
    case atStart => exact ⟨(a1), ((⟨#[]⟩ : ByteArray)), ((-1)), (a1), (by rfl), (by rfl), (by rfl), (by rfl), H', ⟨Nat.le_refl _⟩, ⟨by repeat ((with_reducible (exact HB.out)))⟩⟩
    case round =>
     clear H'
     obtain ⟨x1_2, x7_2, x8_2, x9_2, rfl, rfl, rfl, rfl, HA, HK2, HB⟩ := hrel
     cases gk with
     | zero => exact absurd HA.out (by simp [beadrollref09_Read.l0])
     | succ k2 =>
      have H := HA.out
      clear HA
      simp only [beadrollref09_Read.l0] at H
      have HC6 := Aside0.mk H
      clear H
      go_upto_region 6 with (fail)
      go_cut [29] (fun v29 wc => ∃ (kq : Nat) (x29_5 : Bool), v29 = .bool x29_5 ∧ Aside0 (beadrollref09_Read.j2 kq a0 x1_2 x7_2 x8_2 x9_2 x29_5 = some (r1, r2, r3)) ∧ Aside0 (kq ≤ k2) ∧ Aside0 (Below w.heap.size w wc))
      case first =>
       have H := HC6.out
       clear HC6
       by_cases c7 : x1_2 < (a0.size : Int)
       ·rw [if_pos c7] at H
        have c7b0 : decide (x1_2 < (a0.size : Int)) = true := decide_eq_true c7
        clear c7
        (skip)
        have H' := Aside0.mk H
        clear H
        go_wp2
        go_meet
        case rel => exact ⟨_, (decide ((x7_2.size : Int) < 300)), (by rfl), H', ⟨by have := HJ2.out; have := HK2.out; omega⟩, ⟨by repeat ((with_reducible (exact HB.out)))⟩⟩
       ·rw [if_neg c7] at H
        have c7b0 : decide (x1_2 < (a0.size : Int)) = false := decide_eq_false c7
        clear c7
        (skip)
        have H' := Aside0.mk H
        clear H
        go_wp2
        go_meet
        case rel => exact ⟨_, (false), (by rfl), H', ⟨by have := HJ2.out; have := HK2.out; omega⟩, ⟨by repeat ((with_reducible (exact HB.out)))⟩⟩
      case rest =>
       clear HC6
       obtain ⟨kq, x29_5, rfl, HA, HJ5, HB⟩ := hcut
       cases kq with
       | zero => exact absurd HA.out (by simp [beadrollref09_Read.j2])
       | succ kj5 =>
        have H := HA.out
        clear HA
        simp only [beadrollref09_Read.j2] at H
        by_cases c8 : x29_5 = true
        ·subst c8
         have H1 : (if 0 ≤ x1_2 then (if x1_2 < (a0.size : Int) then (if (wrap64 (bt a0 x1_2)) = 0 then (if x7_2.size + 1 ≤ 9223372036854775807 then (if x8_2 < 0 then ((beadrollref07_Right.f kj5 (x7_2 ++ (⟨#[0]⟩ : ByteArray))).bind fun t181 => (if t181 = true then (some (x7_2 ++ (⟨#[0]⟩ : ByteArray), wrap64 (x1_2 + 1), 0)) else (some ((⟨#[]⟩ : ByteArray), 0, 2)))) else ((beadrollref07_Right.f kj5 (x7_2 ++ (⟨#[0]⟩ : ByteArray))).bind fun t182 => (if t182 = true then (some (x7_2 ++ (⟨#[0]⟩ : ByteArray), x8_2, 0)) else (some ((⟨#[]⟩ : ByteArray), 0, 2))))) else (none)) else (if (wrap64 (bt a0 x1_2)) ≥ 192 then (if (wrap64 (x1_2 + 1)) ≥ (a0.size : Int) then (some ((⟨#[]⟩ : ByteArray), 0, 2)) else (if 0 ≤ (wrap64 (x1_2 + 1)) then (if (wrap64 (x1_2 + 1)) < (a0.size : Int) then (if (wrap64 ((wrap64 ((wrap64 ((wrap64 (bt a0 x1_2)) - 192)) * 256)) + (wrap64 (bt a0 (wrap64 (x1_2 + 1)))))) ≥ x9_2 then (some ((⟨#[]⟩ : ByteArray), 0, 2)) else (if x8_2 < 0 then (beadrollref09_Read.l0 kj5 a0 (wrap64 ((wrap64 ((wrap64 ((wrap64 (bt a0 x1_2)) - 192)) * 256)) + (wrap64 (bt a0 (wrap64 (x1_2 + 1)))))) x7_2 (wrap64 (x1_2 + 2)) (wrap64 ((wrap64 ((wrap64 ((wrap64 (bt a0 x1_2)) - 192)) * 256)) + (wrap64 (bt a0 (wrap64 (x1_2 + 1))))))) else (beadrollref09_Read.l0 kj5 a0 (wrap64 ((wrap64 ((wrap64 ((wrap64 (bt a0 x1_2)) - 192)) * 256)) + (wrap64 (bt a0 (wrap64 (x1_2 + 1)))))) x7_2 x8_2 (wrap64 ((wrap64 ((wrap64 ((wrap64 (bt a0 x1_2)) - 192)) * 256)) + (wrap64 (bt a0 (wrap64 (x1_2 + 1))))))))) else (none)) else (none))) else (if (wrap64 (bt a0 x1_2)) ≥ 64 then (some ((⟨#[]⟩ : ByteArray), 0, 2)) else (if (wrap64 ((wrap64 (x1_2 + 1)) + (wrap64 (bt a0 x1_2)))) > (a0.size : Int) then (some ((⟨#[]⟩ : ByteArray), 0, 2)) else (if x1_2 ≤ (wrap64 ((wrap64 (x1_2 + 1)) + (wrap64 (bt a0 x1_2)))) then (if (wrap64 ((wrap64 (x1_2 + 1)) + (wrap64 (bt a0 x1_2)))) ≤ (a0.size : Int) then (if x7_2.size + (a0.extract (x1_2 : Int).toNat ((wrap64 ((wrap64 (x1_2 + 1)) + (wrap64 (bt a0 x1_2)))) : Int).toNat).size ≤ 9223372036854775807 then (beadrollref09_Read.l0 kj5 a0 (wrap64 (x1_2 + (wrap64 (1 + (wrap64 (bt a0 x1_2)))))) (x7_2 ++ (a0.extract (x1_2 : Int).toNat ((wrap64 ((wrap64 (x1_2 + 1)) + (wrap64 (bt a0 x1_2)))) : Int).toNat)) x8_2 x9_2) else (none)) else (none)) else (none)))))) else (none)) else (none)) = some (r1, r2, r3) := by rw [if_pos rfl] at H; exact H
         clear H
         have H := H1
         clear H1
         by_cases c9 : 0 ≤ x1_2
         ·rw [if_pos c9] at H
          have c9b0 : decide (0 ≤ x1_2) = true := decide_eq_true c9
          clear c9
          by_cases c10 : x1_2 < (a0.size : Int)
          ·rw [if_pos c10] at H
           have c10b0 : decide (x1_2 < (a0.size : Int)) = true := decide_eq_true c10
           clear c10
           by_cases c12 : (wrap64 (bt a0 x1_2)) = 0
           ·rw [if_pos c12] at H
            have c12b0 : ((wrap64 (bt a0 x1_2)) == 0) = true := beq_iff_eq.mpr c12
            have c12b1 : ((wrap64 (bt a0 x1_2)) != 0) = false := bne_eq_false_iff_eq.mpr c12
            clear c12
            by_cases c13 : x7_2.size + 1 ≤ 9223372036854775807
            ·rw [if_pos c13] at H
             have c13b0 := eq_true c13
             have c13b1 : decide (x7_2.size + 1 ≤ 9223372036854775807) = true := decide_eq_true c13
             (try have c13b2 : (9223372036854775807 < x7_2.size + 1) = False := eq_false (Nat.not_lt.2 c13))
             by_cases c14 : x8_2 < 0
             ·rw [if_pos c14] at H
              have c14b0 : decide (x8_2 < 0) = true := decide_eq_true c14
              clear c14
              replace H := Option.bind_eq_some_iff.mp H
              obtain ⟨t181, A150, H⟩ := H
              replace H : (if t181 = true then (some (x7_2 ++ (⟨#[0]⟩ : ByteArray), wrap64 (x1_2 + 1), 0)) else (some ((⟨#[]⟩ : ByteArray), 0, 2))) = some (r1, r2, r3) := H
              have A15 := Aside0.mk A150
              clear A150
              by_cases c16 : t181 = true
              ·subst c16
               have H1 : (some (x7_2 ++ (⟨#[0]⟩ : ByteArray), wrap64 (x1_2 + 1), 0)) = some (r1, r2, r3) := by rw [if_pos rfl] at H; exact H
               clear H
               have H := H1
               clear H1
               simp only [Option.some.injEq, Prod.mk.injEq] at H
               obtain ⟨rfl, rfl, rfl⟩ := H
               have p11 : 0 ≤ (x1_2 : Int) := of_decide_eq_true (by (with_reducible assumption))
               have q11 : x1_2 < (a0.size : Int) := of_decide_eq_true (by (with_reducible assumption))
               have hx11 := bt_at a0 x1_2
               replace p11 := eq_true p11
               replace q11 := eq_true q11
               go_wp2_with ((((with_reducible refine gate_callee (f := 24) rfl ?_); refine goesL_ (some 43) rfl rfl Try.func24 (by kernel_rfl) rfl #[.string (x7_2 ++ (⟨#[0]⟩ : ByteArray))] rfl (by (try simp only [List.map_toArray, List.map_cons, List.map_nil]); rfl) ?_; (with_reducible refine (beadrollref07_Right.calls kj5 (x7_2 ++ (⟨#[0]⟩ : ByteArray)) true _ A15.out).mono ?_); rintro e w17 ⟨rfl, hb⟩; refine ⟨_, rfl, ?_⟩; have n0_ := Aside0.mk (below_step (by repeat ((with_reducible (exact HB.out)))) hb); clear HB; have HB := n0_; clear n0_; (try clear hb))))
               go_ret3
               exact ⟨by rfl, by repeat ((with_reducible (exact HB.out)))⟩
              ·replace c16 := Bool.eq_false_iff.mpr c16
               subst c16
               have H1 : (some ((⟨#[]⟩ : ByteArray), 0, 2)) = some (r1, r2, r3) := by rw [if_neg (show ¬ (false = true) by decide)] at H; exact H
               clear H
               have H := H1
               clear H1
               simp only [Option.some.injEq, Prod.mk.injEq] at H
               obtain ⟨rfl, rfl, rfl⟩ := H
               have p11 : 0 ≤ (x1_2 : Int) := of_decide_eq_true (by (with_reducible assumption))
               have q11 : x1_2 < (a0.size : Int) := of_decide_eq_true (by (with_reducible assumption))
               have hx11 := bt_at a0 x1_2
               replace p11 := eq_true p11
               replace q11 := eq_true q11
               go_wp2_with ((((with_reducible refine gate_callee (f := 24) rfl ?_); refine goesL_ (some 43) rfl rfl Try.func24 (by kernel_rfl) rfl #[.string (x7_2 ++ (⟨#[0]⟩ : ByteArray))] rfl (by (try simp only [List.map_toArray, List.map_cons, List.map_nil]); rfl) ?_; (with_reducible refine (beadrollref07_Right.calls kj5 (x7_2 ++ (⟨#[0]⟩ : ByteArray)) false _ A15.out).mono ?_); rintro e w18 ⟨rfl, hb⟩; refine ⟨_, rfl, ?_⟩; have n0_ := Aside0.mk (below_step (by repeat ((with_reducible (exact HB.out)))) hb); clear HB; have HB := n0_; clear n0_; (try clear hb))))
               go_ret3
               exact ⟨by rfl, by repeat ((with_reducible (exact HB.out)))⟩
             ·rw [if_neg c14] at H
              have c14b0 : decide (x8_2 < 0) = false := decide_eq_false c14
              clear c14
              replace H := Option.bind_eq_some_iff.mp H
              obtain ⟨t182, A190, H⟩ := H
              replace H : (if t182 = true then (some (x7_2 ++ (⟨#[0]⟩ : ByteArray), x8_2, 0)) else (some ((⟨#[]⟩ : ByteArray), 0, 2))) = some (r1, r2, r3) := H
              have A19 := Aside0.mk A190
              clear A190
              by_cases c20 : t182 = true
              ·subst c20
               have H1 : (some (x7_2 ++ (⟨#[0]⟩ : ByteArray), x8_2, 0)) = some (r1, r2, r3) := by rw [if_pos rfl] at H; exact H
               clear H
               have H := H1
               clear H1
               simp only [Option.some.injEq, Prod.mk.injEq] at H
               obtain ⟨rfl, rfl, rfl⟩ := H
               have p11 : 0 ≤ (x1_2 : Int) := of_decide_eq_true (by (with_reducible assumption))
               have q11 : x1_2 < (a0.size : Int) := of_decide_eq_true (by (with_reducible assumption))
               have hx11 := bt_at a0 x1_2
               replace p11 := eq_true p11
               replace q11 := eq_true q11
               go_wp2_with ((((with_reducible refine gate_callee (f := 24) rfl ?_); refine goesL_ (some 43) rfl rfl Try.func24 (by kernel_rfl) rfl #[.string (x7_2 ++ (⟨#[0]⟩ : ByteArray))] rfl (by (try simp only [List.map_toArray, List.map_cons, List.map_nil]); rfl) ?_; (with_reducible refine (beadrollref07_Right.calls kj5 (x7_2 ++ (⟨#[0]⟩ : ByteArray)) true _ A19.out).mono ?_); rintro e w21 ⟨rfl, hb⟩; refine ⟨_, rfl, ?_⟩; have n0_ := Aside0.mk (below_step (by repeat ((with_reducible (exact HB.out)))) hb); clear HB; have HB := n0_; clear n0_; (try clear hb))))
               go_ret3
               exact ⟨by rfl, by repeat ((with_reducible (exact HB.out)))⟩
              ·replace c20 := Bool.eq_false_iff.mpr c20
               subst c20
               have H1 : (some ((⟨#[]⟩ : ByteArray), 0, 2)) = some (r1, r2, r3) := by rw [if_neg (show ¬ (false = true) by decide)] at H; exact H
               clear H
               have H := H1
               clear H1
               simp only [Option.some.injEq, Prod.mk.injEq] at H
               obtain ⟨rfl, rfl, rfl⟩ := H
               have p11 : 0 ≤ (x1_2 : Int) := of_decide_eq_true (by (with_reducible assumption))
               have q11 : x1_2 < (a0.size : Int) := of_decide_eq_true (by (with_reducible assumption))
               have hx11 := bt_at a0 x1_2
               replace p11 := eq_true p11
               replace q11 := eq_true q11
               go_wp2_with ((((with_reducible refine gate_callee (f := 24) rfl ?_); refine goesL_ (some 43) rfl rfl Try.func24 (by kernel_rfl) rfl #[.string (x7_2 ++ (⟨#[0]⟩ : ByteArray))] rfl (by (try simp only [List.map_toArray, List.map_cons, List.map_nil]); rfl) ?_; (with_reducible refine (beadrollref07_Right.calls kj5 (x7_2 ++ (⟨#[0]⟩ : ByteArray)) false _ A19.out).mono ?_); rintro e w22 ⟨rfl, hb⟩; refine ⟨_, rfl, ?_⟩; have n0_ := Aside0.mk (below_step (by repeat ((with_reducible (exact HB.out)))) hb); clear HB; have HB := n0_; clear n0_; (try clear hb))))
               go_ret3
               exact ⟨by rfl, by repeat ((with_reducible (exact HB.out)))⟩
            ·rw [if_neg c13] at H
             exact absurd H (by simp)
           ·rw [if_neg c12] at H
            have c12b0 : ((wrap64 (bt a0 x1_2)) == 0) = false := beq_eq_false_iff_ne.mpr c12
            have c12b1 : ((wrap64 (bt a0 x1_2)) != 0) = true := bne_iff_ne.mpr c12
            by_cases c23 : (wrap64 (bt a0 x1_2)) ≥ 192
            ·rw [if_pos c23] at H
             have c23b0 : decide (192 ≤ (wrap64 (bt a0 x1_2))) = true := decide_eq_true c23
             clear c23
             by_cases c24 : (wrap64 (x1_2 + 1)) ≥ (a0.size : Int)
             ·rw [if_pos c24] at H
              have c24b0 : decide ((a0.size : Int) ≤ (wrap64 (x1_2 + 1))) = true := decide_eq_true c24
              clear c24
              simp only [Option.some.injEq, Prod.mk.injEq] at H
              obtain ⟨rfl, rfl, rfl⟩ := H
              have p11 : 0 ≤ (x1_2 : Int) := of_decide_eq_true (by (with_reducible assumption))
              have q11 : x1_2 < (a0.size : Int) := of_decide_eq_true (by (with_reducible assumption))
              have hx11 := bt_at a0 x1_2
              replace p11 := eq_true p11
              replace q11 := eq_true q11
              go_wp2
              go_ret3
              exact ⟨by rfl, by repeat ((with_reducible (exact HB.out)))⟩
             ·rw [if_neg c24] at H
              have c24b0 : decide ((a0.size : Int) ≤ (wrap64 (x1_2 + 1))) = false := decide_eq_false c24
              clear c24
              obtain ⟨ji25, hji25⟩ : ∃ j_ : Int, (wrap64 (x1_2 + 1)) = j_ := ⟨_, rfl⟩
              replace H : (if 0 ≤ (ji25) then (if (ji25) < (a0.size : Int) then (if (wrap64 ((wrap64 ((wrap64 ((wrap64 (bt a0 x1_2)) - 192)) * 256)) + (wrap64 (bt a0 (ji25))))) ≥ x9_2 then (some ((⟨#[]⟩ : ByteArray), 0, 2)) else (if x8_2 < 0 then (beadrollref09_Read.l0 kj5 a0 (wrap64 ((wrap64 ((wrap64 ((wrap64 (bt a0 x1_2)) - 192)) * 256)) + (wrap64 (bt a0 (ji25))))) x7_2 (wrap64 (x1_2 + 2)) (wrap64 ((wrap64 ((wrap64 ((wrap64 (bt a0 x1_2)) - 192)) * 256)) + (wrap64 (bt a0 (ji25)))))) else (beadrollref09_Read.l0 kj5 a0 (wrap64 ((wrap64 ((wrap64 ((wrap64 (bt a0 x1_2)) - 192)) * 256)) + (wrap64 (bt a0 (ji25))))) x7_2 x8_2 (wrap64 ((wrap64 ((wrap64 ((wrap64 (bt a0 x1_2)) - 192)) * 256)) + (wrap64 (bt a0 (ji25)))))))) else (none)) else (none)) = some (r1, r2, r3) := by (rw [hji25] at H; exact H)
              (try rw [hji25] at c24b0)
              have hji25w : (IntKind.i64.wrap (x1_2 + 1)) = ji25 := (i64_w _).trans hji25
              by_cases c26 : 0 ≤ (ji25)
              ·rw [if_pos c26] at H
               have c26b0 : decide (0 ≤ (ji25)) = true := decide_eq_true c26
               clear c26
               by_cases c27 : (ji25) < (a0.size : Int)
               ·rw [if_pos c27] at H
                have c27b0 : decide ((ji25) < (a0.size : Int)) = true := decide_eq_true c27
                clear c27
                by_cases c29 : (wrap64 ((wrap64 ((wrap64 ((wrap64 (bt a0 x1_2)) - 192)) * 256)) + (wrap64 (bt a0 (ji25))))) ≥ x9_2
                ·rw [if_pos c29] at H
                 have c29b0 : decide (x9_2 ≤ (wrap64 ((wrap64 ((wrap64 ((wrap64 (bt a0 x1_2)) - 192)) * 256)) + (wrap64 (bt a0 (ji25)))))) = true := decide_eq_true c29
                 clear c29
                 simp only [Option.some.injEq, Prod.mk.injEq] at H
                 obtain ⟨rfl, rfl, rfl⟩ := H
                 have p11 : 0 ≤ (x1_2 : Int) := of_decide_eq_true (by (with_reducible assumption))
                 have q11 : x1_2 < (a0.size : Int) := of_decide_eq_true (by (with_reducible assumption))
                 have hx11 := bt_at a0 x1_2
                 replace p11 := eq_true p11
                 replace q11 := eq_true q11
                 have p28 : 0 ≤ ((ji25) : Int) := of_decide_eq_true (by (with_reducible assumption))
                 have q28 : (ji25) < (a0.size : Int) := of_decide_eq_true (by (with_reducible assumption))
                 have hx28 := bt_at a0 (ji25)
                 replace p28 := eq_true p28
                 replace q28 := eq_true q28
                 go_wp2
                 go_ret3
                 exact ⟨by rfl, by repeat ((with_reducible (exact HB.out)))⟩
                ·rw [if_neg c29] at H
                 have c29b0 : decide (x9_2 ≤ (wrap64 ((wrap64 ((wrap64 ((wrap64 (bt a0 x1_2)) - 192)) * 256)) + (wrap64 (bt a0 (ji25)))))) = false := decide_eq_false c29
                 clear c29
                 by_cases c30 : x8_2 < 0
                 ·rw [if_pos c30] at H
                  have c30b0 : decide (x8_2 < 0) = true := decide_eq_true c30
                  clear c30
                  have H' := Aside0.mk H
                  clear H
                  have p11 : 0 ≤ (x1_2 : Int) := of_decide_eq_true (by (with_reducible assumption))
                  have q11 : x1_2 < (a0.size : Int) := of_decide_eq_true (by (with_reducible assumption))
                  have hx11 := bt_at a0 x1_2
                  replace p11 := eq_true p11
                  replace q11 := eq_true q11
                  have p28 : 0 ≤ ((ji25) : Int) := of_decide_eq_true (by (with_reducible assumption))
                  have q28 : (ji25) < (a0.size : Int) := of_decide_eq_true (by (with_reducible assumption))
                  have hx28 := bt_at a0 (ji25)
                  replace p28 := eq_true p28
                  replace q28 := eq_true q28
                  go_wp2
                  go_roundg kj5
                  case measure => have := HJ2.out; have := HK2.out; have := HJ5.out; omega
                  case rel => exact ⟨(wrap64 ((wrap64 ((wrap64 ((wrap64 (bt a0 x1_2)) - 192)) * 256)) + (wrap64 (bt a0 (ji25))))), (x7_2), (wrap64 (x1_2 + 2)), (wrap64 ((wrap64 ((wrap64 ((wrap64 (bt a0 x1_2)) - 192)) * 256)) + (wrap64 (bt a0 (ji25))))), (by rfl), (by rfl), (by rfl), (by rfl), H', ⟨by have := HJ2.out; have := HK2.out; have := HJ5.out; omega⟩, ⟨by repeat ((with_reducible (exact HB.out)))⟩⟩
                 ·rw [if_neg c30] at H
                  have c30b0 : decide (x8_2 < 0) = false := decide_eq_false c30
                  clear c30
                  have H' := Aside0.mk H
                  clear H
                  have p11 : 0 ≤ (x1_2 : Int) := of_decide_eq_true (by (with_reducible assumption))
                  have q11 : x1_2 < (a0.size : Int) := of_decide_eq_true (by (with_reducible assumption))
                  have hx11 := bt_at a0 x1_2
                  replace p11 := eq_true p11
                  replace q11 := eq_true q11
                  have p28 : 0 ≤ ((ji25) : Int) := of_decide_eq_true (by (with_reducible assumption))
                  have q28 : (ji25) < (a0.size : Int) := of_decide_eq_true (by (with_reducible assumption))
                  have hx28 := bt_at a0 (ji25)
                  replace p28 := eq_true p28
                  replace q28 := eq_true q28
                  go_wp2
                  go_roundg kj5
                  case measure => have := HJ2.out; have := HK2.out; have := HJ5.out; omega
                  case rel => exact ⟨(wrap64 ((wrap64 ((wrap64 ((wrap64 (bt a0 x1_2)) - 192)) * 256)) + (wrap64 (bt a0 (ji25))))), (x7_2), (x8_2), (wrap64 ((wrap64 ((wrap64 ((wrap64 (bt a0 x1_2)) - 192)) * 256)) + (wrap64 (bt a0 (ji25))))), (by rfl), (by rfl), (by rfl), (by rfl), H', ⟨by have := HJ2.out; have := HK2.out; have := HJ5.out; omega⟩, ⟨by repeat ((with_reducible (exact HB.out)))⟩⟩
               ·rw [if_neg c27] at H
                exact absurd H (by simp)
              ·rw [if_neg c26] at H
               exact absurd H (by simp)
            ·rw [if_neg c23] at H
             have c23b0 : decide (192 ≤ (wrap64 (bt a0 x1_2))) = false := decide_eq_false c23
             clear c23
             by_cases c31 : (wrap64 (bt a0 x1_2)) ≥ 64
             ·rw [if_pos c31] at H
              have c31b0 : decide (64 ≤ (wrap64 (bt a0 x1_2))) = true := decide_eq_true c31
              clear c31
              simp only [Option.some.injEq, Prod.mk.injEq] at H
              obtain ⟨rfl, rfl, rfl⟩ := H
              have p11 : 0 ≤ (x1_2 : Int) := of_decide_eq_true (by (with_reducible assumption))
              have q11 : x1_2 < (a0.size : Int) := of_decide_eq_true (by (with_reducible assumption))
              have hx11 := bt_at a0 x1_2
              replace p11 := eq_true p11
              replace q11 := eq_true q11
              go_wp2
              go_ret3
              exact ⟨by rfl, by repeat ((with_reducible (exact HB.out)))⟩
             ·rw [if_neg c31] at H
              have c31b0 : decide (64 ≤ (wrap64 (bt a0 x1_2))) = false := decide_eq_false c31
              clear c31
              by_cases c32 : (wrap64 ((wrap64 (x1_2 + 1)) + (wrap64 (bt a0 x1_2)))) > (a0.size : Int)
              ·rw [if_pos c32] at H
               have c32b0 : decide ((a0.size : Int) < (wrap64 ((wrap64 (x1_2 + 1)) + (wrap64 (bt a0 x1_2))))) = true := decide_eq_true c32
               clear c32
               simp only [Option.some.injEq, Prod.mk.injEq] at H
               obtain ⟨rfl, rfl, rfl⟩ := H
               have p11 : 0 ≤ (x1_2 : Int) := of_decide_eq_true (by (with_reducible assumption))
               have q11 : x1_2 < (a0.size : Int) := of_decide_eq_true (by (with_reducible assumption))
               have hx11 := bt_at a0 x1_2
               replace p11 := eq_true p11
               replace q11 := eq_true q11
               go_wp2
               go_ret3
               exact ⟨by rfl, by repeat ((with_reducible (exact HB.out)))⟩
              ·rw [if_neg c32] at H
               have c32b0 : decide ((a0.size : Int) < (wrap64 ((wrap64 (x1_2 + 1)) + (wrap64 (bt a0 x1_2))))) = false := decide_eq_false c32
               clear c32
               have c33b0 := eq_true (of_decide_eq_true (by (with_reducible assumption)) : 0 ≤ x1_2)
               by_cases c34 : x1_2 ≤ (wrap64 ((wrap64 (x1_2 + 1)) + (wrap64 (bt a0 x1_2))))
               ·rw [if_pos c34] at H
                have c34b0 := eq_true c34
                have c34b1 : decide (x1_2 ≤ (wrap64 ((wrap64 (x1_2 + 1)) + (wrap64 (bt a0 x1_2))))) = true := decide_eq_true c34
                by_cases c35 : (wrap64 ((wrap64 (x1_2 + 1)) + (wrap64 (bt a0 x1_2)))) ≤ (a0.size : Int)
                ·rw [if_pos c35] at H
                 have c35b0 := eq_true c35
                 have c35b1 : decide ((wrap64 ((wrap64 (x1_2 + 1)) + (wrap64 (bt a0 x1_2)))) ≤ (a0.size : Int)) = true := decide_eq_true c35
                 by_cases c36 : x7_2.size + (a0.extract (x1_2 : Int).toNat ((wrap64 ((wrap64 (x1_2 + 1)) + (wrap64 (bt a0 x1_2)))) : Int).toNat).size ≤ 9223372036854775807
                 ·rw [if_pos c36] at H
                  have c36b0 := eq_true c36
                  have c36b1 : decide (x7_2.size + (a0.extract (x1_2 : Int).toNat ((wrap64 ((wrap64 (x1_2 + 1)) + (wrap64 (bt a0 x1_2)))) : Int).toNat).size ≤ 9223372036854775807) = true := decide_eq_true c36
                  (try have c36b2 : (9223372036854775807 < x7_2.size + (a0.extract (x1_2 : Int).toNat ((wrap64 ((wrap64 (x1_2 + 1)) + (wrap64 (bt a0 x1_2)))) : Int).toNat).size) = False := eq_false (Nat.not_lt.2 c36))
                  have H' := Aside0.mk H
                  clear H
                  have p11 : 0 ≤ (x1_2 : Int) := of_decide_eq_true (by (with_reducible assumption))
                  have q11 : x1_2 < (a0.size : Int) := of_decide_eq_true (by (with_reducible assumption))
                  have hx11 := bt_at a0 x1_2
                  replace p11 := eq_true p11
                  replace q11 := eq_true q11
                  go_wp2
                  go_roundg kj5
                  case measure => have := HJ2.out; have := HK2.out; have := HJ5.out; omega
                  case rel => exact ⟨(wrap64 (x1_2 + (wrap64 (1 + (wrap64 (bt a0 x1_2)))))), (x7_2 ++ (a0.extract (x1_2 : Int).toNat ((wrap64 ((wrap64 (x1_2 + 1)) + (wrap64 (bt a0 x1_2)))) : Int).toNat)), (x8_2), (x9_2), (by rfl), (by rfl), (by rfl), (by rfl), H', ⟨by have := HJ2.out; have := HK2.out; have := HJ5.out; omega⟩, ⟨by repeat ((with_reducible (exact HB.out)))⟩⟩
                 ·rw [if_neg c36] at H
                  exact absurd H (by simp)
                ·rw [if_neg c35] at H
                 exact absurd H (by simp)
               ·rw [if_neg c34] at H
                exact absurd H (by simp)
          ·rw [if_neg c10] at H
           exact absurd H (by simp)
         ·rw [if_neg c9] at H
          exact absurd H (by simp)
        ·replace c8 := Bool.eq_false_iff.mpr c8
         subst c8
         have H1 : (some ((⟨#[]⟩ : ByteArray), 0, 2)) = some (r1, r2, r3) := by rw [if_neg (show ¬ (false = true) by decide)] at H; exact H
         clear H
         have H := H1
         clear H1
         simp only [Option.some.injEq, Prod.mk.injEq] at H
         obtain ⟨rfl, rfl, rfl⟩ := H
         go_wp2
         go_ret3
         exact ⟨by rfl, by repeat ((with_reducible (exact HB.out)))⟩
def beadrollref01_Width.f (a0 : Int) : Option (Bool) := if a0 = 1 then (some true) else (if a0 = 2 then (some true) else (if a0 = 4 then (some true) else (some (a0 == 8))))
set_option maxHeartbeats 8000000 in
set_option maxRecDepth 100000 in
theorem beadrollref01_Width.calls (a0 : Int) (r : Bool) (w : World) (h : beadrollref01_Width.f a0 = some r) :
  Calls Try.prog 73 #[.int .i64 a0] w fun e w' => e = .returned (.bool r) ∧ Drawn0 w w' := by
 have H : (if a0 = 1 then (some true) else (if a0 = 2 then (some true) else (if a0 = 4 then (some true) else (some (a0 == 8))))) = some r := h
 clear h
 by_cases c2 : a0 = 1
 ·rw [if_pos c2] at H
  have c2b0 : (a0 == 1) = true := beq_iff_eq.mpr c2
  have c2b1 : (a0 != 1) = false := bne_eq_false_iff_eq.mpr c2
  clear c2
  obtain rfl := Option.some.inj H
  go_enter Try.func73, Try.ntmps73
  go_wp2
  go_ret
  exact ⟨by rfl, by repeat ((exact Drawn0.refl _))⟩
 ·rw [if_neg c2] at H
  have c2b0 : (a0 == 1) = false := beq_eq_false_iff_ne.mpr c2
  have c2b1 : (a0 != 1) = true := bne_iff_ne.mpr c2
  by_cases c3 : a0 = 2
  ·rw [if_pos c3] at H
   have c3b0 : (a0 == 2) = true := beq_iff_eq.mpr c3
   have c3b1 : (a0 != 2) = false := bne_eq_false_iff_eq.mpr c3
   clear c3
   obtain rfl := Option.some.inj H
   go_enter Try.func73, Try.ntmps73
   go_wp2
   go_ret
   exact ⟨by rfl, by repeat ((exact Drawn0.refl _))⟩
  ·rw [if_neg c3] at H
   have c3b0 : (a0 == 2) = false := beq_eq_false_iff_ne.mpr c3
   have c3b1 : (a0 != 2) = true := bne_iff_ne.mpr c3
   by_cases c4 : a0 = 4
   ·rw [if_pos c4] at H
    have c4b0 : (a0 == 4) = true := beq_iff_eq.mpr c4
    have c4b1 : (a0 != 4) = false := bne_eq_false_iff_eq.mpr c4
    clear c4
    obtain rfl := Option.some.inj H
    go_enter Try.func73, Try.ntmps73
    go_wp2
    go_ret
    exact ⟨by rfl, by repeat ((exact Drawn0.refl _))⟩
   ·rw [if_neg c4] at H
    have c4b0 : (a0 == 4) = false := beq_eq_false_iff_ne.mpr c4
    have c4b1 : (a0 != 4) = true := bne_iff_ne.mpr c4
    obtain rfl := Option.some.inj H
    go_enter Try.func73, Try.ntmps73
    go_wp2
    go_ret
    exact ⟨by rfl, by repeat ((exact Drawn0.refl _))⟩
def beadrollref01_Number.l0 : Nat → ByteArray → Int → Int → Option (Int)
 | 0, _, _, _ => none
 | k + 1, x0, x3, x4 => if x4 < (x0.size : Int) then (if 0 ≤ x4 then (beadrollref01_Number.l0 k x0 (IntKind.u64.wrap ((IntKind.u64.wrap (x3 * 256)) + (IntKind.u64.wrap (bt x0 x4)))) (wrap64 (x4 + 1))) else (none)) else (some x3)
def beadrollref01_Number.f (k : Nat) (a0 : ByteArray) : Option (Int) := beadrollref01_Number.l0 k a0 0 0
set_option maxHeartbeats 8000000 in
set_option maxRecDepth 100000 in
theorem beadrollref01_Number.calls (k : Nat) (a0 : ByteArray) (r : Int) (w : World) (h : beadrollref01_Number.f k a0 = some r) :
  Calls Try.prog 82 #[.string a0] w fun e w' => e = .returned (.int .u64 r) ∧ Drawn0 w w' := by
 have H : (beadrollref01_Number.l0 k a0 0 0) = some r := h
 clear h
 have H' := Aside0.mk H
 clear H
 go_enter Try.func82, Try.ntmps82
 go_wp2
 go_loopg [3, 4] k (fun kq v3 v4 w' => ∃ (x3_1 : Int) (x4_1 : Int), v3 = .int .u64 x3_1 ∧ v4 = .int .i64 x4_1 ∧ Aside0 (beadrollref01_Number.l0 kq a0 x3_1 x4_1 = some r) ∧ Aside0 (kq ≤ k) ∧ Drawn0 w w')
 case atStart => exact ⟨(0), (0), (by rfl), (by rfl), H', ⟨Nat.le_refl _⟩, by repeat ((exact Drawn0.refl _))⟩
 case round =>
  clear H'
  obtain ⟨x3_1, x4_1, rfl, rfl, HA, HK1, ⟨m1, rfl⟩⟩ := hrel
  cases gk with
  | zero => exact absurd HA.out (by simp [beadrollref01_Number.l0])
  | succ k1 =>
   have H := HA.out
   clear HA
   simp only [beadrollref01_Number.l0] at H
   by_cases c2 : x4_1 < (a0.size : Int)
   ·rw [if_pos c2] at H
    have c2b0 : decide (x4_1 < (a0.size : Int)) = true := decide_eq_true c2
    clear c2
    by_cases c3 : 0 ≤ x4_1
    ·rw [if_pos c3] at H
     have c3b0 : decide (0 ≤ x4_1) = true := decide_eq_true c3
     clear c3
     have H' := Aside0.mk H
     clear H
     have p4 : 0 ≤ (x4_1 : Int) := of_decide_eq_true (by (with_reducible assumption))
     have q4 : x4_1 < (a0.size : Int) := of_decide_eq_true (by (with_reducible assumption))
     have hx4 := bt_at a0 x4_1
     replace p4 := eq_true p4
     replace q4 := eq_true q4
     go_wp2
     go_roundg k1
     case measure => have := HK1.out; omega
     case rel => exact ⟨(IntKind.u64.wrap ((IntKind.u64.wrap (x3_1 * 256)) + (IntKind.u64.wrap (bt a0 x4_1)))), (wrap64 (x4_1 + 1)), (by rfl), (by rfl), H', ⟨by have := HK1.out; omega⟩, by repeat (first | exact Drawn0.refl _ | apply Drawn0.step)⟩
    ·rw [if_neg c3] at H
     exact absurd H (by simp)
   ·rw [if_neg c2] at H
    have c2b0 : decide (x4_1 < (a0.size : Int)) = false := decide_eq_false c2
    clear c2
    obtain rfl := Option.some.inj H
    go_wp2
    go_ret
    exact ⟨by rfl, by repeat (first | exact Drawn0.refl _ | apply Drawn0.step)⟩
def beadrollref01_Cut.j0 : Nat → ByteArray → Int → Bool → Option (ByteArray × ByteArray × Int)
 | 0, _, _, _ => none
 | k + 1, x0, x1, x14 => if x14 = true then (some ((⟨#[]⟩ : ByteArray), (⟨#[]⟩ : ByteArray), 1)) else (if (x0.size : Int) < x1 then (some ((⟨#[]⟩ : ByteArray), (⟨#[]⟩ : ByteArray), 2)) else (if 0 ≤ x1 then (if x1 ≤ (x0.size : Int) then ((beadrollref01_Number.f k (x0.extract 0 (x1 : Int).toNat)).bind fun t184 => (if t184 > (IntKind.u64.wrap (wrap64 ((x0.size : Int) - x1))) then (some ((⟨#[]⟩ : ByteArray), (⟨#[]⟩ : ByteArray), 2)) else (if x1 ≤ (wrap64 (x1 + (wrap64 (t184)))) then (if (wrap64 (x1 + (wrap64 (t184)))) ≤ (x0.size : Int) then (if 0 ≤ (wrap64 (x1 + (wrap64 (t184)))) then (some (x0.extract (x1 : Int).toNat ((wrap64 (x1 + (wrap64 (t184)))) : Int).toNat, x0.extract ((wrap64 (x1 + (wrap64 (t184)))) : Int).toNat x0.size, 0)) else (none)) else (none)) else (none)))) else (none)) else (none)))
def beadrollref01_Cut.f (k : Nat) (a0 : ByteArray) (a1 : Int) : Option (ByteArray × ByteArray × Int) := (beadrollref01_Width.f a1).bind fun t183 => (if t183 = true then (beadrollref01_Cut.j0 k a0 a1 (a1 == 8)) else (beadrollref01_Cut.j0 k a0 a1 true))
set_option maxHeartbeats 8000000 in
set_option maxRecDepth 100000 in
theorem beadrollref01_Cut.calls (k : Nat) (a0 : ByteArray) (a1 : Int) (r1 : ByteArray) (r2 : ByteArray) (r3 : Int) (w : World) (h : beadrollref01_Cut.f k a0 a1 = some (r1, r2, r3)) :
  Calls Try.prog 74 #[.string a0, .int .i64 a1] w fun e w' => e = .returned (.tuple #[.string r1, .string r2, .int .i64 r3]) ∧ Drawn0 w w' := by
 have H : ((beadrollref01_Width.f a1).bind fun t183 => (if t183 = true then (beadrollref01_Cut.j0 k a0 a1 (a1 == 8)) else (beadrollref01_Cut.j0 k a0 a1 true))) = some (r1, r2, r3) := h
 clear h
 have HC3 := Aside0.mk H
 clear H
 go_enter Try.func74, Try.ntmps74
 go_upto_region 1 with (fail)
 repeat (go_quiet (fail); go_upto_region 1 with (fail))
 go_cut [14] (fun v14 wc => ∃ (kq : Nat) (x14_2 : Bool), v14 = .bool x14_2 ∧ Aside0 (beadrollref01_Cut.j0 kq a0 a1 x14_2 = some (r1, r2, r3)) ∧ Aside0 (kq ≤ k) ∧ Drawn0 w wc)
 case first =>
  have H := HC3.out
  clear HC3
  replace H := Option.bind_eq_some_iff.mp H
  obtain ⟨t183, A40, H⟩ := H
  replace H : (if t183 = true then (beadrollref01_Cut.j0 k a0 a1 (a1 == 8)) else (beadrollref01_Cut.j0 k a0 a1 true)) = some (r1, r2, r3) := H
  have A4 := Aside0.mk A40
  clear A40
  by_cases c5 : t183 = true
  ·subst c5
   have H1 : (beadrollref01_Cut.j0 k a0 a1 (a1 == 8)) = some (r1, r2, r3) := by rw [if_pos rfl] at H; exact H
   clear H
   have H := H1
   clear H1
   have H' := Aside0.mk H
   clear H
   go_wp2_with (((go_at_call 73; (with_reducible refine (beadrollref01_Width.calls a1 true _ A4.out).mono ?_); rintro e w' ⟨rfl, ⟨nd, rfl⟩⟩)))
   repeat (go_quiet (((go_at_call 73; (with_reducible refine (beadrollref01_Width.calls a1 true _ A4.out).mono ?_); rintro e w' ⟨rfl, ⟨nd, rfl⟩⟩))); try go_wp2_with (((go_at_call 73; (with_reducible refine (beadrollref01_Width.calls a1 true _ A4.out).mono ?_); rintro e w' ⟨rfl, ⟨nd, rfl⟩⟩))))
   go_meet
   case rel => exact ⟨_, ((a1 == 8)), (by rfl), H', ⟨by omega⟩, by repeat (first | exact Drawn0.refl _ | apply Drawn0.step)⟩
  ·replace c5 := Bool.eq_false_iff.mpr c5
   subst c5
   have H1 : (beadrollref01_Cut.j0 k a0 a1 true) = some (r1, r2, r3) := by rw [if_neg (show ¬ (false = true) by decide)] at H; exact H
   clear H
   have H := H1
   clear H1
   have H' := Aside0.mk H
   clear H
   go_wp2_with (((go_at_call 73; (with_reducible refine (beadrollref01_Width.calls a1 false _ A4.out).mono ?_); rintro e w' ⟨rfl, ⟨nd, rfl⟩⟩)))
   repeat (go_quiet (((go_at_call 73; (with_reducible refine (beadrollref01_Width.calls a1 false _ A4.out).mono ?_); rintro e w' ⟨rfl, ⟨nd, rfl⟩⟩))); try go_wp2_with (((go_at_call 73; (with_reducible refine (beadrollref01_Width.calls a1 false _ A4.out).mono ?_); rintro e w' ⟨rfl, ⟨nd, rfl⟩⟩))))
   go_meet
   case rel => exact ⟨_, (true), (by rfl), H', ⟨by omega⟩, by repeat (first | exact Drawn0.refl _ | apply Drawn0.step)⟩
 case rest =>
  clear HC3
  obtain ⟨kq, x14_2, rfl, HA, HJ2, ⟨mc2, rfl⟩⟩ := hcut
  cases kq with
  | zero => exact absurd HA.out (by simp [beadrollref01_Cut.j0])
  | succ kj2 =>
   have H := HA.out
   clear HA
   simp only [beadrollref01_Cut.j0] at H
   by_cases c6 : x14_2 = true
   ·subst c6
    have H1 : (some ((⟨#[]⟩ : ByteArray), (⟨#[]⟩ : ByteArray), 1)) = some (r1, r2, r3) := by rw [if_pos rfl] at H; exact H
    clear H
    have H := H1
    clear H1
    simp only [Option.some.injEq, Prod.mk.injEq] at H
    obtain ⟨rfl, rfl, rfl⟩ := H
    go_wp2
    repeat (go_quiet (fail); try go_wp2)
    go_ret3
    exact ⟨by rfl, by repeat (first | exact Drawn0.refl _ | apply Drawn0.step)⟩
   ·replace c6 := Bool.eq_false_iff.mpr c6
    subst c6
    have H1 : (if (a0.size : Int) < a1 then (some ((⟨#[]⟩ : ByteArray), (⟨#[]⟩ : ByteArray), 2)) else (if 0 ≤ a1 then (if a1 ≤ (a0.size : Int) then ((beadrollref01_Number.f kj2 (a0.extract 0 (a1 : Int).toNat)).bind fun t184 => (if t184 > (IntKind.u64.wrap (wrap64 ((a0.size : Int) - a1))) then (some ((⟨#[]⟩ : ByteArray), (⟨#[]⟩ : ByteArray), 2)) else (if a1 ≤ (wrap64 (a1 + (wrap64 (t184)))) then (if (wrap64 (a1 + (wrap64 (t184)))) ≤ (a0.size : Int) then (if 0 ≤ (wrap64 (a1 + (wrap64 (t184)))) then (some (a0.extract (a1 : Int).toNat ((wrap64 (a1 + (wrap64 (t184)))) : Int).toNat, a0.extract ((wrap64 (a1 + (wrap64 (t184)))) : Int).toNat a0.size, 0)) else (none)) else (none)) else (none)))) else (none)) else (none))) = some (r1, r2, r3) := by rw [if_neg (show ¬ (false = true) by decide)] at H; exact H
    clear H
    have H := H1
    clear H1
    by_cases c7 : (a0.size : Int) < a1
    ·rw [if_pos c7] at H
     have c7b0 : decide ((a0.size : Int) < a1) = true := decide_eq_true c7
     clear c7
     simp only [Option.some.injEq, Prod.mk.injEq] at H
     obtain ⟨rfl, rfl, rfl⟩ := H
     go_wp2
     repeat (go_quiet (fail); try go_wp2)
     go_ret3
     exact ⟨by rfl, by repeat (first | exact Drawn0.refl _ | apply Drawn0.step)⟩
    ·rw [if_neg c7] at H
     have c7b0 : decide ((a0.size : Int) < a1) = false := decide_eq_false c7
     clear c7
     by_cases c8 : 0 ≤ a1
     ·rw [if_pos c8] at H
      have c8b0 := eq_true c8
      have c8b1 : decide (0 ≤ a1) = true := decide_eq_true c8
      clear c8
      by_cases c9 : a1 ≤ (a0.size : Int)
      ·rw [if_pos c9] at H
       have c9b0 := eq_true c9
       have c9b1 : decide (a1 ≤ (a0.size : Int)) = true := decide_eq_true c9
       clear c9
       replace H := Option.bind_eq_some_iff.mp H
       obtain ⟨t184, A100, H⟩ := H
       replace H : (if t184 > (IntKind.u64.wrap (wrap64 ((a0.size : Int) - a1))) then (some ((⟨#[]⟩ : ByteArray), (⟨#[]⟩ : ByteArray), 2)) else (if a1 ≤ (wrap64 (a1 + (wrap64 (t184)))) then (if (wrap64 (a1 + (wrap64 (t184)))) ≤ (a0.size : Int) then (if 0 ≤ (wrap64 (a1 + (wrap64 (t184)))) then (some (a0.extract (a1 : Int).toNat ((wrap64 (a1 + (wrap64 (t184)))) : Int).toNat, a0.extract ((wrap64 (a1 + (wrap64 (t184)))) : Int).toNat a0.size, 0)) else (none)) else (none)) else (none))) = some (r1, r2, r3) := H
       have A10 := Aside0.mk A100
       clear A100
       by_cases c11 : t184 > (IntKind.u64.wrap (wrap64 ((a0.size : Int) - a1)))
       ·rw [if_pos c11] at H
        have c11b0 : decide ((IntKind.u64.wrap (wrap64 ((a0.size : Int) - a1))) < t184) = true := decide_eq_true c11
        clear c11
        simp only [Option.some.injEq, Prod.mk.injEq] at H
        obtain ⟨rfl, rfl, rfl⟩ := H
        go_wp2_with (((go_at_call 82; (with_reducible refine (beadrollref01_Number.calls kj2 (a0.extract 0 (a1 : Int).toNat) t184 _ A10.out).mono ?_); rintro e w' ⟨rfl, ⟨nd, rfl⟩⟩)))
        repeat (go_quiet (((go_at_call 82; (with_reducible refine (beadrollref01_Number.calls kj2 (a0.extract 0 (a1 : Int).toNat) t184 _ A10.out).mono ?_); rintro e w' ⟨rfl, ⟨nd, rfl⟩⟩))); try go_wp2_with (((go_at_call 82; (with_reducible refine (beadrollref01_Number.calls kj2 (a0.extract 0 (a1 : Int).toNat) t184 _ A10.out).mono ?_); rintro e w' ⟨rfl, ⟨nd, rfl⟩⟩))))
        go_ret3
        exact ⟨by rfl, by repeat (first | exact Drawn0.refl _ | apply Drawn0.step)⟩
       ·rw [if_neg c11] at H
        have c11b0 : decide ((IntKind.u64.wrap (wrap64 ((a0.size : Int) - a1))) < t184) = false := decide_eq_false c11
        clear c11
        have c12b0 := eq_true (of_decide_eq_true (by (with_reducible assumption)) : 0 ≤ a1)
        by_cases c13 : a1 ≤ (wrap64 (a1 + (wrap64 (t184))))
        ·rw [if_pos c13] at H
         have c13b0 := eq_true c13
         have c13b1 : decide (a1 ≤ (wrap64 (a1 + (wrap64 (t184))))) = true := decide_eq_true c13
         by_cases c14 : (wrap64 (a1 + (wrap64 (t184)))) ≤ (a0.size : Int)
         ·rw [if_pos c14] at H
          have c14b0 := eq_true c14
          have c14b1 : decide ((wrap64 (a1 + (wrap64 (t184)))) ≤ (a0.size : Int)) = true := decide_eq_true c14
          obtain ⟨ji15, hji15⟩ : ∃ j_ : Int, (wrap64 (a1 + (wrap64 (t184)))) = j_ := ⟨_, rfl⟩
          replace H : (if 0 ≤ (ji15) then (some (a0.extract (a1 : Int).toNat ((ji15) : Int).toNat, a0.extract ((ji15) : Int).toNat a0.size, 0)) else (none)) = some (r1, r2, r3) := by (rw [hji15] at H; exact H)
          (try rw [hji15] at c13b0)
          (try rw [hji15] at c13b1)
          (try rw [hji15] at c13)
          (try rw [hji15] at c14b0)
          (try rw [hji15] at c14b1)
          (try rw [hji15] at c14)
          have hji15w : (IntKind.i64.wrap (a1 + (wrap64 (t184)))) = ji15 := (i64_w _).trans hji15
          by_cases c16 : 0 ≤ (ji15)
          ·rw [if_pos c16] at H
           have c16b0 := eq_true c16
           have c16b1 : decide (0 ≤ (ji15)) = true := decide_eq_true c16
           clear c16
           have c17b0 := eq_true (of_decide_eq_true (by (with_reducible assumption)) : (ji15) ≤ (a0.size : Int))
           simp only [Option.some.injEq, Prod.mk.injEq] at H
           obtain ⟨rfl, rfl, rfl⟩ := H
           go_wp2_with (((go_at_call 82; (with_reducible refine (beadrollref01_Number.calls kj2 (a0.extract 0 (a1 : Int).toNat) t184 _ A10.out).mono ?_); rintro e w' ⟨rfl, ⟨nd, rfl⟩⟩)))
           repeat (go_quiet (((go_at_call 82; (with_reducible refine (beadrollref01_Number.calls kj2 (a0.extract 0 (a1 : Int).toNat) t184 _ A10.out).mono ?_); rintro e w' ⟨rfl, ⟨nd, rfl⟩⟩))); try go_wp2_with (((go_at_call 82; (with_reducible refine (beadrollref01_Number.calls kj2 (a0.extract 0 (a1 : Int).toNat) t184 _ A10.out).mono ?_); rintro e w' ⟨rfl, ⟨nd, rfl⟩⟩))))
           go_ret3
           exact ⟨by rfl, by repeat (first | exact Drawn0.refl _ | apply Drawn0.step)⟩
          ·rw [if_neg c16] at H
           exact absurd H (by simp)
         ·rw [if_neg c14] at H
          exact absurd H (by simp)
        ·rw [if_neg c13] at H
         exact absurd H (by simp)
      ·rw [if_neg c9] at H
       exact absurd H (by simp)
     ·rw [if_neg c8] at H
      exact absurd H (by simp)
end Go.Proofs.Ytnpiglojamhpiaa.PRd
namespace Go.Proofs.Ytnpiglojamhpiaa.PRd
open Go.RowKit Go.Proofs.YtnpiglojamhpiaaW.PrintWords Go.Proofs.YtnpiglojamhpiaaW.PrintLast Go.Proofs.YtnpiglojamhpiaaW.PrintMore Go.Proofs.Ytnpiglojamhpiaa.Given
attribute [local go_sem] max2_int min2_int max_two min_two max_three min_three max_four min_four   -- for this text's walks alone
set_option linter.unusedVariables false
set_option linter.unusedSimpArgs false
mutual
def beadrollref01_Pieces.j0 : Nat → ByteArray → Int → Bool → Option (List ByteArray × Int)
 | 0, _, _, _ => none
 | k + 1, x0, x1, x16 => if x16 = true then (some (([] : List ByteArray), 1)) else (beadrollref01_Pieces.l0 k x0 x1 ([] : List ByteArray))
def beadrollref01_Pieces.l0 : Nat → ByteArray → Int → List ByteArray → Option (List ByteArray × Int)
 | 0, _, _, _ => none
 | k + 1, x0, x1, x6 => if (x0.size : Int) > 0 then ((beadrollref01_Cut.f k x0 x1).bind fun bt186 => (if bt186.2.2 = 0 then (if x6.length < 8796093022208 then (beadrollref01_Pieces.l0 k bt186.2.1 x1 (x6 ++ [bt186.1])) else (none)) else (some (([] : List ByteArray), bt186.2.2)))) else (some (x6, 0))
end
def beadrollref01_Pieces.f (k : Nat) (a0 : ByteArray) (a1 : Int) : Option (List ByteArray × Int) := (beadrollref01_Width.f a1).bind fun t185 => (if t185 = true then (beadrollref01_Pieces.j0 k a0 a1 (a1 == 8)) else (beadrollref01_Pieces.j0 k a0 a1 true))
set_option maxHeartbeats 8000000 in
set_option maxRecDepth 100000 in
theorem beadrollref01_Pieces.calls (k : Nat) (a0 : ByteArray) (a1 : Int) (r1 : List ByteArray) (r2 : Int) (w : World) (h : beadrollref01_Pieces.f k a0 a1 = some (r1, r2)) :
  Calls Try.prog 67 #[.string a0, .int .i64 a1] w fun e w' => ∃ v0_ : Value, e = .returned (.tuple #[v0_, .int .i64 r2]) ∧ Kd.R Kd.string 9 w' w.heap.size (fun _ => True) v0_ r1 ∧ Below w.heap.size w w' := by
 have HB := Aside0.mk (Below.refl w.heap.size w)
 have H : ((beadrollref01_Width.f a1).bind fun t185 => (if t185 = true then (beadrollref01_Pieces.j0 k a0 a1 (a1 == 8)) else (beadrollref01_Pieces.j0 k a0 a1 true))) = some (r1, r2) := h
 clear h
 have HC3 := Aside0.mk H
 clear H
 go_enter Try.func67, Try.ntmps67
 go_upto_region 1 with (fail)
 go_cut [16] (fun v16 wc => ∃ (kq : Nat) (x16_2 : Bool), v16 = .bool x16_2 ∧ Aside0 (beadrollref01_Pieces.j0 kq a0 a1 x16_2 = some (r1, r2)) ∧ Aside0 (kq ≤ k) ∧ Aside0 (Below w.heap.size w wc))
 case first =>
  have H := HC3.out
  clear HC3
  replace H := Option.bind_eq_some_iff.mp H
  obtain ⟨t185, A40, H⟩ := H
  replace H : (if t185 = true then (beadrollref01_Pieces.j0 k a0 a1 (a1 == 8)) else (beadrollref01_Pieces.j0 k a0 a1 true)) = some (r1, r2) := H
  have A4 := Aside0.mk A40
  clear A40
  by_cases c5 : t185 = true
  ·subst c5
   have H1 : (beadrollref01_Pieces.j0 k a0 a1 (a1 == 8)) = some (r1, r2) := by rw [if_pos rfl] at H; exact H
   clear H
   have H := H1
   clear H1
   have H' := Aside0.mk H
   clear H
   go_wp2_with (first | ((with_reducible refine gate_callee (f := 73) rfl ?_); refine goesL_ (some 11) rfl rfl Try.func73 (by kernel_rfl) rfl #[.int .i64 a1] rfl (by (try simp only [List.map_toArray, List.map_cons, List.map_nil]); first | done | rfl | (simp only [List.length_drop, List.length_take]; rfl)) ?_; (with_reducible refine (beadrollref01_Width.calls a1 true _ A4.out).mono ?_); rintro e w' ⟨rfl, ⟨nd, rfl⟩⟩; refine ⟨_, rfl, ?_⟩))
   go_meet
   case rel => exact ⟨_, ((a1 == 8)), (by first | rfl | (simp; done) | (simp [*]; done)), H', ⟨by first | omega | exact Nat.le_refl _⟩, ⟨by repeat (first | (with_reducible first | exact HB.out | apply below_alloc | apply pw_below_drewN | apply below_drew1) | exact HB.out)⟩⟩
  ·replace c5 := Bool.eq_false_iff.mpr c5
   subst c5
   have H1 : (beadrollref01_Pieces.j0 k a0 a1 true) = some (r1, r2) := by rw [if_neg (show ¬ (false = true) by decide)] at H; exact H
   clear H
   have H := H1
   clear H1
   have H' := Aside0.mk H
   clear H
   go_wp2_with (first | ((with_reducible refine gate_callee (f := 73) rfl ?_); refine goesL_ (some 11) rfl rfl Try.func73 (by kernel_rfl) rfl #[.int .i64 a1] rfl (by (try simp only [List.map_toArray, List.map_cons, List.map_nil]); first | done | rfl | (simp only [List.length_drop, List.length_take]; rfl)) ?_; (with_reducible refine (beadrollref01_Width.calls a1 false _ A4.out).mono ?_); rintro e w' ⟨rfl, ⟨nd, rfl⟩⟩; refine ⟨_, rfl, ?_⟩))
   go_meet
   case rel => exact ⟨_, (true), (by first | rfl | (simp; done) | (simp [*]; done)), H', ⟨by first | omega | exact Nat.le_refl _⟩, ⟨by repeat (first | (with_reducible first | exact HB.out | apply below_alloc | apply pw_below_drewN | apply below_drew1) | exact HB.out)⟩⟩
 case rest =>
  clear HC3
  try clear p2
  try clear c5
  obtain ⟨kq, x16_2, rfl, HA, HJ2, HB⟩ := hcut
  cases kq with
  | zero => exact absurd HA.out (by simp [beadrollref01_Pieces.j0])
  | succ kj2 =>
   have H := HA.out
   clear HA
   simp only [beadrollref01_Pieces.j0] at H
   by_cases c6 : x16_2 = true
   ·subst c6
    have H1 : (some (([] : List ByteArray), 1)) = some (r1, r2) := by rw [if_pos rfl] at H; exact H
    clear H
    have H := H1
    clear H1
    simp only [Option.some.injEq, Prod.mk.injEq] at H
    obtain ⟨rfl, rfl⟩ := H
    go_wp2
    go_ret2
    exact ⟨_, by first | rfl | (simp [errW_none, errW_some] <;> rfl) | (simp [*, errW_none, errW_some] <;> rfl), by first | exact Kd.R_nil _ _ _ _ _ | exact Kd.N_nil _ _ _ _ _ | exact Kd.V_nil _ _ _ _ _ | exact Kd.Q_nil _ _ _ _ _ | exact Kd.S_nil _ _ _ _ _, by repeat (first | (with_reducible first | exact HB.out | apply below_alloc | apply pw_below_drewN | apply below_drew1) | exact HB.out)⟩
   ·replace c6 := Bool.eq_false_iff.mpr c6
    subst c6
    have H1 : (beadrollref01_Pieces.l0 kj2 a0 a1 ([] : List ByteArray)) = some (r1, r2) := by rw [if_neg (show ¬ (false = true) by decide)] at H; exact H
    clear H
    have H := H1
    clear H1
    have H' := Aside0.mk H
    clear H
    go_wp2
    go_loopg [0, 6] kj2 (fun kq v0 v6 w' => ∃ (x0_2 : ByteArray) (x6_2 : List ByteArray), v0 = .string x0_2 ∧ Aside0 (beadrollref01_Pieces.l0 kq x0_2 a1 x6_2 = some (r1, r2)) ∧ Aside0 (kq ≤ kj2) ∧ Aside0 (Kd.R Kd.string 9 w' w.heap.size (fun _ => True) v6 x6_2) ∧ Aside0 (Below w.heap.size w w'))
    case atStart => exact ⟨(a0), (([] : List ByteArray)), (by first | rfl | (simp; done) | (simp [*]; done)), H', ⟨Nat.le_refl _⟩, ⟨by first | exact Kd.R_nil _ _ _ _ _ | exact Kd.N_nil _ _ _ _ _ | exact Kd.V_nil _ _ _ _ _ | exact Kd.Q_nil _ _ _ _ _ | exact Kd.S_nil _ _ _ _ _⟩, ⟨by repeat (first | (with_reducible first | exact HB.out | apply below_alloc | apply pw_below_drewN | apply below_drew1) | exact HB.out)⟩⟩
    case round =>
     clear H'
     try clear p2
     try clear c5
     try clear c6
     try clear p2
     obtain ⟨x0_2, x6_2, rfl, HA, HK2, HO_6, HB⟩ := hrel
     cases gk with
     | zero => exact absurd HA.out (by simp [beadrollref01_Pieces.l0])
     | succ k2 =>
      have H := HA.out
      clear HA
      simp only [beadrollref01_Pieces.l0] at H
      by_cases c7 : (x0_2.size : Int) > 0
      ·rw [if_pos c7] at H
       have c7b0 : decide (0 < (x0_2.size : Int)) = true := decide_eq_true c7
       have c7b1 : decide (0 < x0_2.size) = true := decide_eq_true (by omega)
       clear c7
       replace H := Option.bind_eq_some_iff.mp H
       obtain ⟨⟨t186, t187, t188⟩, A80, H⟩ := H
       replace H : (if t188 = 0 then (if x6_2.length < 8796093022208 then (beadrollref01_Pieces.l0 k2 t187 a1 (x6_2 ++ [t186])) else (none)) else (some (([] : List ByteArray), t188))) = some (r1, r2) := H
       have A8 := Aside0.mk A80
       clear A80
       by_cases c9 : t188 = 0
       ·rw [if_pos c9] at H
        have c9b0 : (t188 == 0) = true := beq_iff_eq.mpr c9
        have c9b1 : (t188 != 0) = false := bne_eq_false_iff_eq.mpr c9
        clear c9
        by_cases c10 : x6_2.length < 8796093022208
        ·rw [if_pos c10] at H
         have LMc10 := Aside0.mk c10
         clear c10
         obtain ⟨y189, hy189⟩ : ∃ y_ : List ByteArray, y_ = (x6_2 ++ [t186]) := ⟨_, rfl⟩
         replace H : (beadrollref01_Pieces.l0 k2 t187 a1 y189) = some (r1, r2) := by first | (rw [hy189]; with_reducible exact H) | (have H2_ := (Option.bind_some _ _).symm.trans H; rw [hy189]; with_reducible exact H2_) | (have H2_ := (Option.bind_some _ _).symm.trans H; with_reducible exact H2_) | with_reducible exact H | (rw [hy189]; exact H) | exact H
         have Ny189 := Aside0.mk hy189
         clear hy189
         have H' := Aside0.mk H
         clear H
         go_wp2_with (first | ((with_reducible refine gate_callee (f := 74) rfl ?_); refine goesL_ (some 23) rfl rfl Try.func74 (by kernel_rfl) rfl #[.string x0_2, .int .i64 a1] rfl (by (try simp only [List.map_toArray, List.map_cons, List.map_nil]); first | done | rfl | (simp only [List.length_drop, List.length_take]; rfl)) ?_; (with_reducible refine (beadrollref01_Cut.calls k2 x0_2 a1 t186 t187 t188 _ A8.out).mono ?_); rintro e w' ⟨rfl, ⟨nd, rfl⟩⟩; refine ⟨_, rfl, ?_⟩) | ((with_reducible refine gate_builtin (b := .append) (xs := #[.tmp 30, .tmp 32]) rfl ?_); at_builtin; refine Kd.R_append Kd.string (w0 := w) w.heap.size rfl (.tmp 30) (.tmp 32) 52 9 (.string ⟨#[]⟩) 16 rfl Try.underlying52 info9 rfl (by decide) (by omega) u6 x6_2 t186 [.string t186] (fun _ => True) (fun _ => False) rfl rfl ?aP (fun _ hk => hk.elim) ?aF ?aO ?aB ?aS ?aL ?_; (case aP => exact rfl); (case aB => exact (by repeat (first | (with_reducible first | exact HB.out | apply below_alloc | apply pw_below_drewN | apply below_drew1) | exact HB.out))); (case aF => exact (fun _ _ => trivial)); (case aO => exact (by (with_reducible repeat (first | apply Kd.R_alloc | apply Kd.R_drewN | apply Kd.R_drew)); exact HO_6.out)); (case aS => exact (below_size (by repeat (first | (with_reducible first | exact HB.out | apply below_alloc | apply pw_below_drewN | apply below_drew1) | exact HB.out)))); (case aL => have := LMc10.out; omega); intro v190 w11 ho hb hg hat; rw [← Ny189.out] at ho; have n0_ := Aside0.mk (hb); have n1_ := Aside0.mk (ho); clear HB; clear HO_6; have HB := n0_; have HO191 := n1_; clear n0_ n1_; clear ho hb hg hat))
         go_roundg k2
         case measure => have := HJ2.out; have := HK2.out; omega
         case rel => exact ⟨(t187), (y189), (by first | rfl | (simp; done) | (simp [*]; done)), H', ⟨by have := HJ2.out; have := HK2.out; omega⟩, ⟨by (with_reducible repeat (first | apply Kd.R_alloc | apply Kd.R_drewN | apply Kd.R_drew)); exact HO191.out⟩, ⟨by repeat (first | (with_reducible first | exact HB.out | apply below_alloc | apply pw_below_drewN | apply below_drew1) | exact HB.out)⟩⟩
        ·rw [if_neg c10] at H
         exact absurd H (by simp)
       ·rw [if_neg c9] at H
        have c9b0 : (t188 == 0) = false := beq_eq_false_iff_ne.mpr c9
        have c9b1 : (t188 != 0) = true := bne_iff_ne.mpr c9
        simp only [Option.some.injEq, Prod.mk.injEq] at H
        obtain ⟨rfl, rfl⟩ := H
        go_wp2_with (first | ((with_reducible refine gate_callee (f := 74) rfl ?_); refine goesL_ (some 23) rfl rfl Try.func74 (by kernel_rfl) rfl #[.string x0_2, .int .i64 a1] rfl (by (try simp only [List.map_toArray, List.map_cons, List.map_nil]); first | done | rfl | (simp only [List.length_drop, List.length_take]; rfl)) ?_; (with_reducible refine (beadrollref01_Cut.calls k2 x0_2 a1 t186 t187 t188 _ A8.out).mono ?_); rintro e w' ⟨rfl, ⟨nd, rfl⟩⟩; refine ⟨_, rfl, ?_⟩))
        go_ret2
        exact ⟨_, by first | rfl | (simp [errW_none, errW_some] <;> rfl) | (simp [*, errW_none, errW_some] <;> rfl), by first | exact Kd.R_nil _ _ _ _ _ | exact Kd.N_nil _ _ _ _ _ | exact Kd.V_nil _ _ _ _ _ | exact Kd.Q_nil _ _ _ _ _ | exact Kd.S_nil _ _ _ _ _, by repeat (first | (with_reducible first | exact HB.out | apply below_alloc | apply pw_below_drewN | apply below_drew1) | exact HB.out)⟩
      ·rw [if_neg c7] at H
       have c7b0 : decide (0 < (x0_2.size : Int)) = false := decide_eq_false c7
       have c7b1 : decide (0 < x0_2.size) = false := decide_eq_false (by omega)
       clear c7
       simp only [Option.some.injEq, Prod.mk.injEq] at H
       obtain ⟨rfl, rfl⟩ := H
       go_wp2
       go_ret2
       exact ⟨_, by first | rfl | (simp [errW_none, errW_some] <;> rfl) | (simp [*, errW_none, errW_some] <;> rfl), by (with_reducible repeat (first | apply Kd.R_alloc | apply Kd.R_drewN | apply Kd.R_drew)); exact HO_6.out, by repeat (first | (with_reducible first | exact HB.out | apply below_alloc | apply pw_below_drewN | apply below_drew1) | exact HB.out)⟩
end Go.Proofs.Ytnpiglojamhpiaa.PRd
namespace Go.Proofs.Ytnpiglojamhpiaa.PRd
open Go.RowKit Go.Proofs.YtnpiglojamhpiaaW.PrintWords Go.Proofs.YtnpiglojamhpiaaW.PrintLast Go.Proofs.YtnpiglojamhpiaaW.PrintMore Go.Proofs.Ytnpiglojamhpiaa.Given
attribute [local go_sem] max2_int min2_int max_two min_two max_three min_three max_four min_four   -- for this text's walks alone
set_option linter.unusedVariables false
set_option linter.unusedSimpArgs false
mutual
def beadrollref10_Read.l0 : Nat → ByteArray → Int → Int → List ByteArray → ByteArray → Int → Option (List ByteArray × Bool)
 | 0, _, _, _, _, _, _ => none
 | k + 1, x0, x1, x2, x10, x11, x12 => if x12 < (x11.size : Int) then (if 0 ≤ x12 then (if (bt x11 x12) = 110 then (beadrollref10_Read.j1 k x0 x1 x2 x10 x11 x12 (bt x11 x12) ((bt x11 x12) == 110)) else (beadrollref10_Read.j1 k x0 x1 x2 x10 x11 x12 (bt x11 x12) ((bt x11 x12) == 117))) else (none)) else (some (x10, (x1 == x2)))
def beadrollref10_Read.j1 : Nat → ByteArray → Int → Int → List ByteArray → ByteArray → Int → Int → Bool → Option (List ByteArray × Bool)
 | 0, _, _, _, _, _, _, _, _ => none
 | k + 1, x0, x1, x2, x10, x11, x12, x32, x38 => if x38 = true then ((beadrollref09_Read.f k x0 x1).bind fun bt193 => (if bt193.2.2 = 0 then (if 0 ≤ x12 then (if x12 < (x11.size : Int) then (if (bt x11 x12) = 117 then (if 0 ≤ x1 then (if x1 ≤ bt193.2.1 then (if bt193.2.1 ≤ (x0.size : Int) then (beadrollref10_Read.j2 k x0 x2 x10 x11 x12 bt193.1 bt193.2.1 (bt193.1.toList != (x0.extract (x1 : Int).toNat (bt193.2.1 : Int).toNat).toList)) else (none)) else (none)) else (none)) else (beadrollref10_Read.j2 k x0 x2 x10 x11 x12 bt193.1 bt193.2.1 false)) else (none)) else (none)) else (beadrollref10_Read.j2 k x0 x2 x10 x11 x12 bt193.1 bt193.2.1 true))) else (if x32 = 116 then (if 0 ≤ x1 then (if x1 ≤ (x0.size : Int) then ((beadrollref01_Pieces.f k (x0.extract (x1 : Int).toNat x0.size) 1).bind fun bt199 => (if bt199.2 = 0 then (beadrollref10_Read.j3 k x0 x1 x2 x10 x11 x12 ((bt199.1.length : Int) == 0)) else (beadrollref10_Read.j3 k x0 x1 x2 x10 x11 x12 true))) else (none)) else (none)) else (if x32 = 111 then (if (wrap64 (x1 + (wrap64 (x2 - x1)))) > x2 then (some (([] : List ByteArray), false)) else (if 0 ≤ x1 then (if x1 ≤ (wrap64 (x1 + (wrap64 (x2 - x1)))) then (if (wrap64 (x1 + (wrap64 (x2 - x1)))) ≤ (x0.size : Int) then (if x10.length < 8796093022208 then (beadrollref10_Read.l0 k x0 (wrap64 (x1 + (wrap64 (x2 - x1)))) x2 (x10 ++ [x0.extract (x1 : Int).toNat ((wrap64 (x1 + (wrap64 (x2 - x1)))) : Int).toNat]) x11 (wrap64 (x12 + 1))) else (none)) else (none)) else (none)) else (none))) else (if x32 = 104 then (if (wrap64 (x1 + 16)) > x2 then (some (([] : List ByteArray), false)) else (if 0 ≤ x1 then (if x1 ≤ (wrap64 (x1 + 16)) then (if (wrap64 (x1 + 16)) ≤ (x0.size : Int) then (if x10.length < 8796093022208 then (beadrollref10_Read.l0 k x0 (wrap64 (x1 + 16)) x2 (x10 ++ [x0.extract (x1 : Int).toNat ((wrap64 (x1 + 16)) : Int).toNat]) x11 (wrap64 (x12 + 1))) else (none)) else (none)) else (none)) else (none))) else (if 0 ≤ x12 then (if x12 < (x11.size : Int) then (if (wrap64 (x1 + (wrap64 ((wrap64 (bt x11 x12)) - 48)))) > x2 then (some (([] : List ByteArray), false)) else (if 0 ≤ x1 then (if x1 ≤ (wrap64 (x1 + (wrap64 ((wrap64 (bt x11 x12)) - 48)))) then (if (wrap64 (x1 + (wrap64 ((wrap64 (bt x11 x12)) - 48)))) ≤ (x0.size : Int) then (if x10.length < 8796093022208 then (beadrollref10_Read.l0 k x0 (wrap64 (x1 + (wrap64 ((wrap64 (bt x11 x12)) - 48)))) x2 (x10 ++ [x0.extract (x1 : Int).toNat ((wrap64 (x1 + (wrap64 ((wrap64 (bt x11 x12)) - 48)))) : Int).toNat]) x11 (wrap64 (x12 + 1))) else (none)) else (none)) else (none)) else (none))) else (none)) else (none)))))
def beadrollref10_Read.j2 : Nat → ByteArray → Int → List ByteArray → ByteArray → Int → ByteArray → Int → Bool → Option (List ByteArray × Bool)
 | 0, _, _, _, _, _, _, _, _ => none
 | k + 1, x0, x2, x10, x11, x12, x14, x15, x63 => if x63 = true then (some (([] : List ByteArray), false)) else (if x10.length < 8796093022208 then (beadrollref10_Read.l0 k x0 x15 x2 (x10 ++ [x14]) x11 (wrap64 (x12 + 1))) else (none))
def beadrollref10_Read.j3 : Nat → ByteArray → Int → Int → List ByteArray → ByteArray → Int → Bool → Option (List ByteArray × Bool)
 | 0, _, _, _, _, _, _, _ => none
 | k + 1, x0, x1, x2, x10, x11, x12, x84 => if x84 = true then (some (([] : List ByteArray), false)) else (if (wrap64 (x1 + (wrap64 (x2 - x1)))) > x2 then (some (([] : List ByteArray), false)) else (if 0 ≤ x1 then (if x1 ≤ (wrap64 (x1 + (wrap64 (x2 - x1)))) then (if (wrap64 (x1 + (wrap64 (x2 - x1)))) ≤ (x0.size : Int) then (if x10.length < 8796093022208 then (beadrollref10_Read.l0 k x0 (wrap64 (x1 + (wrap64 (x2 - x1)))) x2 (x10 ++ [x0.extract (x1 : Int).toNat ((wrap64 (x1 + (wrap64 (x2 - x1)))) : Int).toNat]) x11 (wrap64 (x12 + 1))) else (none)) else (none)) else (none)) else (none)))
end
def beadrollref10_Read.f (k : Nat) (a0 : ByteArray) (a1 : Int) (a2 : Int) (a3 : Int) : Option (List ByteArray × Bool) := (beadrollref10_Parts.f k a3).bind fun t192 => (if 0 ≤ a2 then (if a2 ≤ (a0.size : Int) then (beadrollref10_Read.l0 k (a0.extract 0 (a2 : Int).toNat) a1 a2 ([] : List ByteArray) t192 0) else (none)) else (none))
set_option maxHeartbeats 8000000 in
set_option maxRecDepth 100000 in
theorem beadrollref10_Read.calls (k : Nat) (a0 : ByteArray) (a1 : Int) (a2 : Int) (a3 : Int) (r1 : List ByteArray) (r2 : Bool) (w : World) (h : beadrollref10_Read.f k a0 a1 a2 a3 = some (r1, r2)) :
  Calls Try.prog 53 #[.string a0, .int .i64 a1, .int .i64 a2, .int .i64 a3] w fun e w' => ∃ v0_ : Value, e = .returned (.tuple #[v0_, .bool r2]) ∧ Kd.R Kd.string 9 w' w.heap.size (fun _ => True) v0_ r1 ∧ Below w.heap.size w w' := by
 have HB := Aside0.mk (Below.refl w.heap.size w)
 have H : ((beadrollref10_Parts.f k a3).bind fun t192 => (if 0 ≤ a2 then (if a2 ≤ (a0.size : Int) then (beadrollref10_Read.l0 k (a0.extract 0 (a2 : Int).toNat) a1 a2 ([] : List ByteArray) t192 0) else (none)) else (none))) = some (r1, r2) := h
 clear h
 replace H := Option.bind_eq_some_iff.mp H
 obtain ⟨t192, A50, H⟩ := H
 replace H : (if 0 ≤ a2 then (if a2 ≤ (a0.size : Int) then (beadrollref10_Read.l0 k (a0.extract 0 (a2 : Int).toNat) a1 a2 ([] : List ByteArray) t192 0) else (none)) else (none)) = some (r1, r2) := H
 have A5 := Aside0.mk A50
 clear A50
 by_cases c6 : 0 ≤ a2
 ·rw [if_pos c6] at H
  have c6b0 := eq_true c6
  have c6b1 : decide (0 ≤ a2) = true := decide_eq_true c6
  clear c6
  by_cases c7 : a2 ≤ (a0.size : Int)
  ·rw [if_pos c7] at H
   have c7b0 := eq_true c7
   have c7b1 : decide (a2 ≤ (a0.size : Int)) = true := decide_eq_true c7
   clear c7
   have H' := Aside0.mk H
   clear H
   go_enter Try.func53, Try.ntmps53
   go_wp2_with ((((with_reducible refine gate_callee (f := 56) rfl ?_); refine goesL_ (some 20) rfl rfl Try.func56 (by kernel_rfl) rfl #[.int .i64 a3] rfl (by (try simp only [List.map_toArray, List.map_cons, List.map_nil]); rfl) ?_; (with_reducible refine (beadrollref10_Parts.calls k a3 t192 _ A5.out).mono ?_); rintro e w' ⟨rfl, ⟨nd, rfl⟩⟩; refine ⟨_, rfl, ?_⟩)))
   go_loopg [1, 10, 12] k (fun kq v1 v10 v12 w' => ∃ (x1_1 : Int) (x10_1 : List ByteArray) (x12_1 : Int), v1 = .int .i64 x1_1 ∧ v12 = .int .i64 x12_1 ∧ Aside0 (beadrollref10_Read.l0 kq (a0.extract 0 (a2 : Int).toNat) x1_1 a2 x10_1 t192 x12_1 = some (r1, r2)) ∧ Aside0 (kq ≤ k) ∧ Aside0 (Kd.R Kd.string 9 w' w.heap.size (fun _ => True) v10 x10_1) ∧ Aside0 (Below w.heap.size w w'))
   case atStart => exact ⟨(a1), (([] : List ByteArray)), (0), (by rfl), (by rfl), H', ⟨Nat.le_refl _⟩, ⟨by (exact Kd.R_nil _ _ _ _ _)⟩, ⟨by repeat ((with_reducible first | exact HB.out | apply pw_below_drewN))⟩⟩
   case round =>
    clear H'
    (try clear c6b0)
    (try clear c6b1)
    (try clear c7b0)
    (try clear c7b1)
    obtain ⟨x1_1, x10_1, x12_1, rfl, rfl, HA, HK1, HO_10, HB⟩ := hrel
    cases gk with
    | zero => exact absurd HA.out (by simp [beadrollref10_Read.l0])
    | succ k1 =>
     have H := HA.out
     clear HA
     simp only [beadrollref10_Read.l0] at H
     by_cases c8 : x12_1 < (t192.size : Int)
     ·rw [if_pos c8] at H
      have c8b0 : decide (x12_1 < (t192.size : Int)) = true := decide_eq_true c8
      clear c8
      by_cases c9 : 0 ≤ x12_1
      ·rw [if_pos c9] at H
       have c9b0 : decide (0 ≤ x12_1) = true := decide_eq_true c9
       clear c9
       have HC11 := Aside0.mk H
       clear H
       have p10 : 0 ≤ (x12_1 : Int) := of_decide_eq_true (by (with_reducible assumption))
       have q10 : x12_1 < (t192.size : Int) := of_decide_eq_true (by (with_reducible assumption))
       have hx10 := bt_at t192 x12_1
       replace p10 := eq_true p10
       replace q10 := eq_true q10
       go_upto_if 38 with (fail)
       go_cut [38] (fun v38 wc => ∃ (kq : Nat) (x38_10 : Bool), v38 = .bool x38_10 ∧ Aside0 (beadrollref10_Read.j1 kq (a0.extract 0 (a2 : Int).toNat) x1_1 a2 x10_1 t192 x12_1 (bt t192 x12_1) x38_10 = some (r1, r2)) ∧ Aside0 (kq ≤ k1) ∧ Aside0 (Kd.R Kd.string 9 wc w.heap.size (fun _ => True) u10 x10_1) ∧ Aside0 (Below w.heap.size w wc))
       case first =>
        have H := HC11.out
        clear HC11
        by_cases c12 : (bt t192 x12_1) = 110
        ·rw [if_pos c12] at H
         have c12b0 : ((bt t192 x12_1) == 110) = true := beq_iff_eq.mpr c12
         have c12b1 : ((bt t192 x12_1) != 110) = false := bne_eq_false_iff_eq.mpr c12
         clear c12
         ((rw [c12b0]))
         have H' := Aside0.mk H
         clear H
         go_wp2
         go_meet
         case rel => exact ⟨_, (((bt t192 x12_1) == 110)), (by (simp [*]; done)), H', ⟨by have := HK1.out; omega⟩, ⟨by (with_reducible repeat ((apply Kd.R_alloc))); exact HO_10.out⟩, ⟨by repeat ((with_reducible (exact HB.out)))⟩⟩
        ·rw [if_neg c12] at H
         have c12b0 : ((bt t192 x12_1) == 110) = false := beq_eq_false_iff_ne.mpr c12
         have c12b1 : ((bt t192 x12_1) != 110) = true := bne_iff_ne.mpr c12
         ((rw [c12b0]))
         have H' := Aside0.mk H
         clear H
         go_wp2
         go_meet
         case rel => exact ⟨_, (((bt t192 x12_1) == 117)), (by rfl), H', ⟨by have := HK1.out; omega⟩, ⟨by (with_reducible repeat ((apply Kd.R_alloc))); exact HO_10.out⟩, ⟨by repeat ((with_reducible (exact HB.out)))⟩⟩
       case rest =>
        clear HC11
        (try clear c8b0)
        (try clear c9b0)
        (try clear p10)
        (try clear q10)
        (try clear hx10)
        obtain ⟨kq, x38_10, rfl, HA, HJ10, HO_10, HB⟩ := hcut
        cases kq with
        | zero => exact absurd HA.out (by simp [beadrollref10_Read.j1])
        | succ kj10 =>
         have H := HA.out
         clear HA
         simp only [beadrollref10_Read.j1] at H
         by_cases c13 : x38_10 = true
         ·subst c13
          have H1 : ((beadrollref09_Read.f kj10 (a0.extract 0 (a2 : Int).toNat) x1_1).bind fun bt193 => (if bt193.2.2 = 0 then (if 0 ≤ x12_1 then (if x12_1 < (t192.size : Int) then (if (bt t192 x12_1) = 117 then (if 0 ≤ x1_1 then (if x1_1 ≤ bt193.2.1 then (if bt193.2.1 ≤ ((a0.extract 0 (a2 : Int).toNat).size : Int) then (beadrollref10_Read.j2 kj10 (a0.extract 0 (a2 : Int).toNat) a2 x10_1 t192 x12_1 bt193.1 bt193.2.1 (bt193.1.toList != ((a0.extract 0 (a2 : Int).toNat).extract (x1_1 : Int).toNat (bt193.2.1 : Int).toNat).toList)) else (none)) else (none)) else (none)) else (beadrollref10_Read.j2 kj10 (a0.extract 0 (a2 : Int).toNat) a2 x10_1 t192 x12_1 bt193.1 bt193.2.1 false)) else (none)) else (none)) else (beadrollref10_Read.j2 kj10 (a0.extract 0 (a2 : Int).toNat) a2 x10_1 t192 x12_1 bt193.1 bt193.2.1 true))) = some (r1, r2) := by rw [if_pos rfl] at H; exact H
          clear H
          have H := H1
          clear H1
          replace H := Option.bind_eq_some_iff.mp H
          obtain ⟨⟨t193, t194, t195⟩, A140, H⟩ := H
          replace H : (if t195 = 0 then (if 0 ≤ x12_1 then (if x12_1 < (t192.size : Int) then (if (bt t192 x12_1) = 117 then (if 0 ≤ x1_1 then (if x1_1 ≤ t194 then (if t194 ≤ ((a0.extract 0 (a2 : Int).toNat).size : Int) then (beadrollref10_Read.j2 kj10 (a0.extract 0 (a2 : Int).toNat) a2 x10_1 t192 x12_1 t193 t194 (t193.toList != ((a0.extract 0 (a2 : Int).toNat).extract (x1_1 : Int).toNat (t194 : Int).toNat).toList)) else (none)) else (none)) else (none)) else (beadrollref10_Read.j2 kj10 (a0.extract 0 (a2 : Int).toNat) a2 x10_1 t192 x12_1 t193 t194 false)) else (none)) else (none)) else (beadrollref10_Read.j2 kj10 (a0.extract 0 (a2 : Int).toNat) a2 x10_1 t192 x12_1 t193 t194 true)) = some (r1, r2) := H
          have A14 := Aside0.mk A140
          clear A140
          have HC15 := Aside0.mk H
          clear H
          go_upto_region 13 with ((((with_reducible refine gate_callee (f := 66) rfl ?_); refine goesL_ (some 44) rfl rfl Try.func66 (by kernel_rfl) rfl #[.string (a0.extract 0 (a2 : Int).toNat), .int .i64 x1_1] rfl (by (try simp only [List.map_toArray, List.map_cons, List.map_nil]); rfl) ?_; (with_reducible refine (beadrollref09_Read.calls kj10 (a0.extract 0 (a2 : Int).toNat) x1_1 t193 t194 t195 _ A14.out).mono ?_); rintro e w16 ⟨rfl, hb⟩; refine ⟨_, rfl, ?_⟩; have n0_ := Aside0.mk (Kd.R_below (by (with_reducible repeat ((apply Kd.R_alloc))); exact HO_10.out) hb); have n1_ := Aside0.mk (below_step (by repeat ((with_reducible (exact HB.out)))) hb); clear HO_10; clear HB; have HO_10 := n0_; have HB := n1_; clear n0_ n1_; (try clear hb))))
          go_cut [63] (fun v63 wc => ∃ (kq : Nat) (x63_14 : Bool), v63 = .bool x63_14 ∧ Aside0 (beadrollref10_Read.j2 kq (a0.extract 0 (a2 : Int).toNat) a2 x10_1 t192 x12_1 t193 t194 x63_14 = some (r1, r2)) ∧ Aside0 (kq ≤ kj10) ∧ Aside0 (Kd.R Kd.string 9 wc w.heap.size (fun _ => True) u10 x10_1) ∧ Aside0 (Below w.heap.size w wc))
          case first =>
           have H := HC15.out
           clear HC15
           by_cases c17 : t195 = 0
           ·rw [if_pos c17] at H
            have c17b0 : (t195 == 0) = true := beq_iff_eq.mpr c17
            have c17b1 : (t195 != 0) = false := bne_eq_false_iff_eq.mpr c17
            clear c17
            (skip)
            by_cases c18 : 0 ≤ x12_1
            ·rw [if_pos c18] at H
             have c18b0 : decide (0 ≤ x12_1) = true := decide_eq_true c18
             clear c18
             by_cases c19 : x12_1 < (t192.size : Int)
             ·rw [if_pos c19] at H
              have c19b0 : decide (x12_1 < (t192.size : Int)) = true := decide_eq_true c19
              clear c19
              by_cases c21 : (bt t192 x12_1) = 117
              ·rw [if_pos c21] at H
               have c21b0 : ((bt t192 x12_1) == 117) = true := beq_iff_eq.mpr c21
               have c21b1 : ((bt t192 x12_1) != 117) = false := bne_eq_false_iff_eq.mpr c21
               clear c21
               by_cases c22 : 0 ≤ x1_1
               ·rw [if_pos c22] at H
                have c22b0 := eq_true c22
                have c22b1 : decide (0 ≤ x1_1) = true := decide_eq_true c22
                clear c22
                by_cases c23 : x1_1 ≤ t194
                ·rw [if_pos c23] at H
                 have c23b0 := eq_true c23
                 have c23b1 : decide (x1_1 ≤ t194) = true := decide_eq_true c23
                 clear c23
                 by_cases c24 : t194 ≤ ((a0.extract 0 (a2 : Int).toNat).size : Int)
                 ·rw [if_pos c24] at H
                  have c24b0 := eq_true c24
                  have c24b1 : decide (t194 ≤ ((a0.extract 0 (a2 : Int).toNat).size : Int)) = true := decide_eq_true c24
                  (try have c24b1v := c24b1)
                  (try simp only [ByteArray.size_extract, Nat.sub_zero] at c24b1v)
                  (try have c24b1w := eq_true (of_decide_eq_true c24b1v))
                  clear c24
                  have H' := Aside0.mk H
                  clear H
                  have p20 : 0 ≤ (x12_1 : Int) := of_decide_eq_true (by (with_reducible assumption))
                  have q20 : x12_1 < (t192.size : Int) := of_decide_eq_true (by (with_reducible assumption))
                  have hx20 := bt_at t192 x12_1
                  replace p20 := eq_true p20
                  replace q20 := eq_true q20
                  go_wp2
                  go_meet
                  case rel => exact ⟨_, ((t193.toList != ((a0.extract 0 (a2 : Int).toNat).extract (x1_1 : Int).toNat (t194 : Int).toNat).toList)), (by rfl), H', ⟨by have := HK1.out; have := HJ10.out; omega⟩, ⟨by (with_reducible repeat ((apply Kd.R_alloc))); exact HO_10.out⟩, ⟨by repeat ((with_reducible (exact HB.out)))⟩⟩
                 ·rw [if_neg c24] at H
                  exact absurd H (by simp)
                ·rw [if_neg c23] at H
                 exact absurd H (by simp)
               ·rw [if_neg c22] at H
                exact absurd H (by simp)
              ·rw [if_neg c21] at H
               have c21b0 : ((bt t192 x12_1) == 117) = false := beq_eq_false_iff_ne.mpr c21
               have c21b1 : ((bt t192 x12_1) != 117) = true := bne_iff_ne.mpr c21
               have H' := Aside0.mk H
               clear H
               have p20 : 0 ≤ (x12_1 : Int) := of_decide_eq_true (by (with_reducible assumption))
               have q20 : x12_1 < (t192.size : Int) := of_decide_eq_true (by (with_reducible assumption))
               have hx20 := bt_at t192 x12_1
               replace p20 := eq_true p20
               replace q20 := eq_true q20
               go_wp2
               go_meet
               case rel => exact ⟨_, (false), (by rfl), H', ⟨by have := HK1.out; have := HJ10.out; omega⟩, ⟨by (with_reducible repeat ((apply Kd.R_alloc))); exact HO_10.out⟩, ⟨by repeat ((with_reducible (exact HB.out)))⟩⟩
             ·rw [if_neg c19] at H
              exact absurd H (by simp)
            ·rw [if_neg c18] at H
             exact absurd H (by simp)
           ·rw [if_neg c17] at H
            have c17b0 : (t195 == 0) = false := beq_eq_false_iff_ne.mpr c17
            have c17b1 : (t195 != 0) = true := bne_iff_ne.mpr c17
            (skip)
            have H' := Aside0.mk H
            clear H
            go_wp2
            go_meet
            case rel => exact ⟨_, (true), (by rfl), H', ⟨by have := HK1.out; have := HJ10.out; omega⟩, ⟨by (with_reducible repeat ((apply Kd.R_alloc))); exact HO_10.out⟩, ⟨by repeat ((with_reducible (exact HB.out)))⟩⟩
          case rest =>
           clear HC15
           obtain ⟨kq, x63_14, rfl, HA, HJ14, HO_10, HB⟩ := hcut
           cases kq with
           | zero => exact absurd HA.out (by simp [beadrollref10_Read.j2])
           | succ kj14 =>
            have H := HA.out
            clear HA
            simp only [beadrollref10_Read.j2] at H
            by_cases c25 : x63_14 = true
            ·subst c25
             have H1 : (some (([] : List ByteArray), false)) = some (r1, r2) := by rw [if_pos rfl] at H; exact H
             clear H
             have H := H1
             clear H1
             simp only [Option.some.injEq, Prod.mk.injEq] at H
             obtain ⟨rfl, rfl⟩ := H
             go_wp2
             go_ret2
             exact ⟨_, by rfl, by (exact Kd.R_nil _ _ _ _ _), by repeat ((with_reducible (exact HB.out)))⟩
            ·replace c25 := Bool.eq_false_iff.mpr c25
             subst c25
             have H1 : (if x10_1.length < 8796093022208 then (beadrollref10_Read.l0 kj14 (a0.extract 0 (a2 : Int).toNat) t194 a2 (x10_1 ++ [t193]) t192 (wrap64 (x12_1 + 1))) else (none)) = some (r1, r2) := by rw [if_neg (show ¬ (false = true) by decide)] at H; exact H
             clear H
             have H := H1
             clear H1
             by_cases c26 : x10_1.length < 8796093022208
             ·rw [if_pos c26] at H
              have LMc26 := Aside0.mk c26
              clear c26
              obtain ⟨y196, hy196⟩ : ∃ y_ : List ByteArray, y_ = (x10_1 ++ [t193]) := ⟨_, rfl⟩
              replace H : (beadrollref10_Read.l0 kj14 (a0.extract 0 (a2 : Int).toNat) t194 a2 y196 t192 (wrap64 (x12_1 + 1))) = some (r1, r2) := by (rw [hy196]; with_reducible exact H)
              have Ny196 := Aside0.mk hy196
              clear hy196
              have H' := Aside0.mk H
              clear H
              go_wp2_with ((((with_reducible refine gate_builtin (b := .append) (xs := #[.tmp 64, .tmp 66]) rfl ?_); (try (refine gate_guard (by rfl) ?_; dsimp only)); at_builtin; refine Kd.R_append Kd.string (w0 := w) w.heap.size rfl (.tmp 64) (.tmp 66) 52 9 (.string ⟨#[]⟩) 16 rfl Try.underlying52 info9 rfl (by decide) (by omega) u10 x10_1 t193 [.string t193] (fun _ => True) (fun _ => False) rfl rfl ?aP (fun _ hk => hk.elim) ?aF ?aO ?aB ?aS ?aL ?_; (case aP => exact rfl); (case aB => exact (by repeat ((with_reducible (exact HB.out))))); (case aF => exact (fun _ _ => trivial)); (case aO => exact (by (with_reducible repeat ((apply Kd.R_alloc))); exact HO_10.out)); (case aS => exact (below_size (by repeat ((with_reducible (exact HB.out)))))); (case aL => have := LMc26.out; omega); intro v197 w27 ho hb hg hat; rw [← Ny196.out] at ho; have n0_ := Aside0.mk (hb); have n1_ := Aside0.mk (ho); clear HB; clear HO_10; have HB := n0_; have HO198 := n1_; clear n0_ n1_; clear ho hb hg hat)))
              go_roundg kj14
              case measure => have := HK1.out; have := HJ10.out; have := HJ14.out; omega
              case rel => exact ⟨(t194), (y196), (wrap64 (x12_1 + 1)), (by rfl), (by rfl), H', ⟨by have := HK1.out; have := HJ10.out; have := HJ14.out; omega⟩, ⟨by (with_reducible repeat ((apply Kd.R_alloc))); exact HO198.out⟩, ⟨by repeat ((with_reducible (exact HB.out)))⟩⟩
             ·rw [if_neg c26] at H
              exact absurd H (by simp)
         ·replace c13 := Bool.eq_false_iff.mpr c13
          subst c13
          have H1 : (if (bt t192 x12_1) = 116 then (if 0 ≤ x1_1 then (if x1_1 ≤ ((a0.extract 0 (a2 : Int).toNat).size : Int) then ((beadrollref01_Pieces.f kj10 ((a0.extract 0 (a2 : Int).toNat).extract (x1_1 : Int).toNat (a0.extract 0 (a2 : Int).toNat).size) 1).bind fun bt199 => (if bt199.2 = 0 then (beadrollref10_Read.j3 kj10 (a0.extract 0 (a2 : Int).toNat) x1_1 a2 x10_1 t192 x12_1 ((bt199.1.length : Int) == 0)) else (beadrollref10_Read.j3 kj10 (a0.extract 0 (a2 : Int).toNat) x1_1 a2 x10_1 t192 x12_1 true))) else (none)) else (none)) else (if (bt t192 x12_1) = 111 then (if (wrap64 (x1_1 + (wrap64 (a2 - x1_1)))) > a2 then (some (([] : List ByteArray), false)) else (if 0 ≤ x1_1 then (if x1_1 ≤ (wrap64 (x1_1 + (wrap64 (a2 - x1_1)))) then (if (wrap64 (x1_1 + (wrap64 (a2 - x1_1)))) ≤ ((a0.extract 0 (a2 : Int).toNat).size : Int) then (if x10_1.length < 8796093022208 then (beadrollref10_Read.l0 kj10 (a0.extract 0 (a2 : Int).toNat) (wrap64 (x1_1 + (wrap64 (a2 - x1_1)))) a2 (x10_1 ++ [(a0.extract 0 (a2 : Int).toNat).extract (x1_1 : Int).toNat ((wrap64 (x1_1 + (wrap64 (a2 - x1_1)))) : Int).toNat]) t192 (wrap64 (x12_1 + 1))) else (none)) else (none)) else (none)) else (none))) else (if (bt t192 x12_1) = 104 then (if (wrap64 (x1_1 + 16)) > a2 then (some (([] : List ByteArray), false)) else (if 0 ≤ x1_1 then (if x1_1 ≤ (wrap64 (x1_1 + 16)) then (if (wrap64 (x1_1 + 16)) ≤ ((a0.extract 0 (a2 : Int).toNat).size : Int) then (if x10_1.length < 8796093022208 then (beadrollref10_Read.l0 kj10 (a0.extract 0 (a2 : Int).toNat) (wrap64 (x1_1 + 16)) a2 (x10_1 ++ [(a0.extract 0 (a2 : Int).toNat).extract (x1_1 : Int).toNat ((wrap64 (x1_1 + 16)) : Int).toNat]) t192 (wrap64 (x12_1 + 1))) else (none)) else (none)) else (none)) else (none))) else (if 0 ≤ x12_1 then (if x12_1 < (t192.size : Int) then (if (wrap64 (x1_1 + (wrap64 ((wrap64 (bt t192 x12_1)) - 48)))) > a2 then (some (([] : List ByteArray), false)) else (if 0 ≤ x1_1 then (if x1_1 ≤ (wrap64 (x1_1 + (wrap64 ((wrap64 (bt t192 x12_1)) - 48)))) then (if (wrap64 (x1_1 + (wrap64 ((wrap64 (bt t192 x12_1)) - 48)))) ≤ ((a0.extract 0 (a2 : Int).toNat).size : Int) then (if x10_1.length < 8796093022208 then (beadrollref10_Read.l0 kj10 (a0.extract 0 (a2 : Int).toNat) (wrap64 (x1_1 + (wrap64 ((wrap64 (bt t192 x12_1)) - 48)))) a2 (x10_1 ++ [(a0.extract 0 (a2 : Int).toNat).extract (x1_1 : Int).toNat ((wrap64 (x1_1 + (wrap64 ((wrap64 (bt t192 x12_1)) - 48)))) : Int).toNat]) t192 (wrap64 (x12_1 + 1))) else (none)) else (none)) else (none)) else (none))) else (none)) else (none))))) = some (r1, r2) := by rw [if_neg (show ¬ (false = true) by decide)] at H; exact H
          clear H
          have H := H1
          clear H1
          by_cases c28 : (bt t192 x12_1) = 116
          ·rw [if_pos c28] at H
           have c28b0 : ((bt t192 x12_1) == 116) = true := beq_iff_eq.mpr c28
           have c28b1 : ((bt t192 x12_1) != 116) = false := bne_eq_false_iff_eq.mpr c28
           clear c28
           by_cases c29 : 0 ≤ x1_1
           ·rw [if_pos c29] at H
            have c29b0 := eq_true c29
            have c29b1 : decide (0 ≤ x1_1) = true := decide_eq_true c29
            clear c29
            by_cases c30 : x1_1 ≤ ((a0.extract 0 (a2 : Int).toNat).size : Int)
            ·rw [if_pos c30] at H
             have c30b0 := eq_true c30
             have c30b1 : decide (x1_1 ≤ ((a0.extract 0 (a2 : Int).toNat).size : Int)) = true := decide_eq_true c30
             (try have c30b1v := c30b1)
             (try simp only [ByteArray.size_extract, Nat.sub_zero] at c30b1v)
             (try have c30b1w := eq_true (of_decide_eq_true c30b1v))
             clear c30
             replace H := Option.bind_eq_some_iff.mp H
             obtain ⟨⟨t199, t200⟩, A310, H⟩ := H
             replace H : (if t200 = 0 then (beadrollref10_Read.j3 kj10 (a0.extract 0 (a2 : Int).toNat) x1_1 a2 x10_1 t192 x12_1 ((t199.length : Int) == 0)) else (beadrollref10_Read.j3 kj10 (a0.extract 0 (a2 : Int).toNat) x1_1 a2 x10_1 t192 x12_1 true)) = some (r1, r2) := H
             have A31 := Aside0.mk A310
             clear A310
             have HC32 := Aside0.mk H
             clear H
             go_upto_region 19 with ((((with_reducible refine gate_callee (f := 67) rfl ?_); refine goesL_ (some 75) rfl rfl Try.func67 (by kernel_rfl) rfl #[.string ((a0.extract 0 (a2 : Int).toNat).extract (x1_1 : Int).toNat (a0.extract 0 (a2 : Int).toNat).size), .int .i64 1] rfl (by (try simp only [List.map_toArray, List.map_cons, List.map_nil]); (simp only [ByteArray.size_extract, Nat.sub_zero]; rfl)) ?_; (with_reducible refine (beadrollref01_Pieces.calls kj10 ((a0.extract 0 (a2 : Int).toNat).extract (x1_1 : Int).toNat (a0.extract 0 (a2 : Int).toNat).size) 1 t199 t200 _ A31.out).mono ?_); rintro e w33 ⟨v201, rfl, ho0, hb⟩; refine ⟨_, rfl, ?_⟩; have n0_ := Aside0.mk (Kd.R_elder' (by (with_reducible repeat ((apply Kd.R_alloc))); exact HO_10.out) (Kd.R_base ho0) hb); have n1_ := Aside0.mk (Kd.R_lower (Kd.R_new' ho0 (Kd.R_lt (by (with_reducible repeat ((apply Kd.R_alloc))); exact HO_10.out))) (below_size (by repeat ((with_reducible (exact HB.out)))))); have n2_ := Aside0.mk (below_step (by repeat ((with_reducible (exact HB.out)))) hb); clear HO_10; clear HB; have HO_10 := n0_; have HO202 := n1_; have HB := n2_; clear n0_ n1_ n2_; (try clear hb); (try clear ho0))))
             go_cut [84] (fun v84 wc => ∃ (kq : Nat) (x84_31 : Bool), v84 = .bool x84_31 ∧ Aside0 (beadrollref10_Read.j3 kq (a0.extract 0 (a2 : Int).toNat) x1_1 a2 x10_1 t192 x12_1 x84_31 = some (r1, r2)) ∧ Aside0 (kq ≤ kj10) ∧ Aside0 (Kd.R Kd.string 9 wc w.heap.size (fun _ => True) u10 x10_1) ∧ Aside0 (Below w.heap.size w wc))
             case first =>
              have H := HC32.out
              clear HC32
              by_cases c34 : t200 = 0
              ·rw [if_pos c34] at H
               have c34b0 : (t200 == 0) = true := beq_iff_eq.mpr c34
               have c34b1 : (t200 != 0) = false := bne_eq_false_iff_eq.mpr c34
               clear c34
               (skip)
               have H' := Aside0.mk H
               clear H
               obtain ⟨Ao35, co35, eo35⟩ := Kd.R_slice HO202.out
               subst eo35
               go_wp2
               go_meet
               case rel => exact ⟨_, (((t199.length : Int) == 0)), (by rfl), H', ⟨by have := HK1.out; have := HJ10.out; omega⟩, ⟨by (with_reducible repeat ((apply Kd.R_alloc))); exact Kd.R_mono HO_10.out (fun _ hk => trivial)⟩, ⟨by repeat ((with_reducible (exact HB.out)))⟩⟩
              ·rw [if_neg c34] at H
               have c34b0 : (t200 == 0) = false := beq_eq_false_iff_ne.mpr c34
               have c34b1 : (t200 != 0) = true := bne_iff_ne.mpr c34
               (skip)
               have H' := Aside0.mk H
               clear H
               go_wp2
               go_meet
               case rel => exact ⟨_, (true), (by rfl), H', ⟨by have := HK1.out; have := HJ10.out; omega⟩, ⟨by (with_reducible repeat ((apply Kd.R_alloc))); exact Kd.R_mono HO_10.out (fun _ hk => trivial)⟩, ⟨by repeat ((with_reducible (exact HB.out)))⟩⟩
             case rest =>
              clear HC32
              (try clear c28b0)
              (try clear c28b1)
              (try clear c29b0)
              (try clear c29b1)
              (try clear c30b0)
              (try clear c30b1)
              obtain ⟨kq, x84_31, rfl, HA, HJ31, HO_10, HB⟩ := hcut
              cases kq with
              | zero => exact absurd HA.out (by simp [beadrollref10_Read.j3])
              | succ kj31 =>
               have H := HA.out
               clear HA
               simp only [beadrollref10_Read.j3] at H
               by_cases c36 : x84_31 = true
               ·subst c36
                have H1 : (some (([] : List ByteArray), false)) = some (r1, r2) := by rw [if_pos rfl] at H; exact H
                clear H
                have H := H1
                clear H1
                simp only [Option.some.injEq, Prod.mk.injEq] at H
                obtain ⟨rfl, rfl⟩ := H
                go_wp2
                go_ret2
                exact ⟨_, by rfl, by (exact Kd.R_nil _ _ _ _ _), by repeat ((with_reducible (exact HB.out)))⟩
               ·replace c36 := Bool.eq_false_iff.mpr c36
                subst c36
                have H1 : (if (wrap64 (x1_1 + (wrap64 (a2 - x1_1)))) > a2 then (some (([] : List ByteArray), false)) else (if 0 ≤ x1_1 then (if x1_1 ≤ (wrap64 (x1_1 + (wrap64 (a2 - x1_1)))) then (if (wrap64 (x1_1 + (wrap64 (a2 - x1_1)))) ≤ ((a0.extract 0 (a2 : Int).toNat).size : Int) then (if x10_1.length < 8796093022208 then (beadrollref10_Read.l0 kj31 (a0.extract 0 (a2 : Int).toNat) (wrap64 (x1_1 + (wrap64 (a2 - x1_1)))) a2 (x10_1 ++ [(a0.extract 0 (a2 : Int).toNat).extract (x1_1 : Int).toNat ((wrap64 (x1_1 + (wrap64 (a2 - x1_1)))) : Int).toNat]) t192 (wrap64 (x12_1 + 1))) else (none)) else (none)) else (none)) else (none))) = some (r1, r2) := by rw [if_neg (show ¬ (false = true) by decide)] at H; exact H
                clear H
                have H := H1
                clear H1
                by_cases c37 : (wrap64 (x1_1 + (wrap64 (a2 - x1_1)))) > a2
                ·rw [if_pos c37] at H
                 have c37b0 : decide (a2 < (wrap64 (x1_1 + (wrap64 (a2 - x1_1))))) = true := decide_eq_true c37
                 clear c37
                 simp only [Option.some.injEq, Prod.mk.injEq] at H
                 obtain ⟨rfl, rfl⟩ := H
                 go_wp2
                 go_ret2
                 exact ⟨_, by rfl, by (exact Kd.R_nil _ _ _ _ _), by repeat ((with_reducible (exact HB.out)))⟩
                ·rw [if_neg c37] at H
                 have c37b0 : decide (a2 < (wrap64 (x1_1 + (wrap64 (a2 - x1_1))))) = false := decide_eq_false c37
                 clear c37
                 by_cases c38 : 0 ≤ x1_1
                 ·rw [if_pos c38] at H
                  have c38b0 := eq_true c38
                  have c38b1 : decide (0 ≤ x1_1) = true := decide_eq_true c38
                  clear c38
                  by_cases c39 : x1_1 ≤ (wrap64 (x1_1 + (wrap64 (a2 - x1_1))))
                  ·rw [if_pos c39] at H
                   have c39b0 := eq_true c39
                   have c39b1 : decide (x1_1 ≤ (wrap64 (x1_1 + (wrap64 (a2 - x1_1))))) = true := decide_eq_true c39
                   by_cases c40 : (wrap64 (x1_1 + (wrap64 (a2 - x1_1)))) ≤ ((a0.extract 0 (a2 : Int).toNat).size : Int)
                   ·rw [if_pos c40] at H
                    have c40b0 := eq_true c40
                    have c40b1 : decide ((wrap64 (x1_1 + (wrap64 (a2 - x1_1)))) ≤ ((a0.extract 0 (a2 : Int).toNat).size : Int)) = true := decide_eq_true c40
                    (try have c40b1v := c40b1)
                    (try simp only [ByteArray.size_extract, Nat.sub_zero] at c40b1v)
                    (try have c40b1w := eq_true (of_decide_eq_true c40b1v))
                    by_cases c41 : x10_1.length < 8796093022208
                    ·rw [if_pos c41] at H
                     have LMc41 := Aside0.mk c41
                     clear c41
                     obtain ⟨y203, hy203⟩ : ∃ y_ : List ByteArray, y_ = (x10_1 ++ [(a0.extract 0 (a2 : Int).toNat).extract (x1_1 : Int).toNat ((wrap64 (x1_1 + (wrap64 (a2 - x1_1)))) : Int).toNat]) := ⟨_, rfl⟩
                     replace H : (beadrollref10_Read.l0 kj31 (a0.extract 0 (a2 : Int).toNat) (wrap64 (x1_1 + (wrap64 (a2 - x1_1)))) a2 y203 t192 (wrap64 (x12_1 + 1))) = some (r1, r2) := by (rw [hy203]; with_reducible exact H)
                     have Ny203 := Aside0.mk hy203
                     clear hy203
                     have H' := Aside0.mk H
                     clear H
                     go_wp2_with ((((with_reducible refine gate_builtin (b := .append) (xs := #[.tmp 100, .tmp 107]) rfl ?_); (try (refine gate_guard (by rfl) ?_; dsimp only)); at_builtin; refine Kd.R_append Kd.string (w0 := w) w.heap.size rfl (.tmp 100) (.tmp 107) 52 9 (.string ⟨#[]⟩) 16 rfl Try.underlying52 info9 rfl (by decide) (by omega) u10 x10_1 ((a0.extract 0 (a2 : Int).toNat).extract (x1_1 : Int).toNat ((wrap64 (x1_1 + (wrap64 (a2 - x1_1)))) : Int).toNat) [.string ((a0.extract 0 (a2 : Int).toNat).extract (x1_1 : Int).toNat ((wrap64 (x1_1 + (wrap64 (a2 - x1_1)))) : Int).toNat)] (fun _ => True) (fun _ => False) rfl rfl ?aP (fun _ hk => hk.elim) ?aF ?aO ?aB ?aS ?aL ?_; (case aP => exact rfl); (case aB => exact (by repeat ((with_reducible (exact HB.out))))); (case aF => exact (fun _ _ => trivial)); (case aO => exact (by (with_reducible repeat ((apply Kd.R_alloc))); exact HO_10.out)); (case aS => exact (below_size (by repeat ((with_reducible (exact HB.out)))))); (case aL => have := LMc41.out; omega); intro v204 w42 ho hb hg hat; rw [← Ny203.out] at ho; have n0_ := Aside0.mk (hb); have n1_ := Aside0.mk (ho); clear HB; clear HO_10; have HB := n0_; have HO205 := n1_; clear n0_ n1_; clear ho hb hg hat)))
                     go_roundg kj31
                     case measure => have := HK1.out; have := HJ10.out; have := HJ31.out; omega
                     case rel => exact ⟨(wrap64 (x1_1 + (wrap64 (a2 - x1_1)))), (y203), (wrap64 (x12_1 + 1)), (by rfl), (by rfl), H', ⟨by have := HK1.out; have := HJ10.out; have := HJ31.out; omega⟩, ⟨by (with_reducible repeat ((apply Kd.R_alloc))); exact HO205.out⟩, ⟨by repeat ((with_reducible (exact HB.out)))⟩⟩
                    ·rw [if_neg c41] at H
                     exact absurd H (by simp)
                   ·rw [if_neg c40] at H
                    exact absurd H (by simp)
                  ·rw [if_neg c39] at H
                   exact absurd H (by simp)
                 ·rw [if_neg c38] at H
                  exact absurd H (by simp)
            ·rw [if_neg c30] at H
             exact absurd H (by simp)
           ·rw [if_neg c29] at H
            exact absurd H (by simp)
          ·rw [if_neg c28] at H
           have c28b0 : ((bt t192 x12_1) == 116) = false := beq_eq_false_iff_ne.mpr c28
           have c28b1 : ((bt t192 x12_1) != 116) = true := bne_iff_ne.mpr c28
           by_cases c43 : (bt t192 x12_1) = 111
           ·rw [if_pos c43] at H
            have c43b0 : ((bt t192 x12_1) == 111) = true := beq_iff_eq.mpr c43
            have c43b1 : ((bt t192 x12_1) != 111) = false := bne_eq_false_iff_eq.mpr c43
            clear c43
            by_cases c44 : (wrap64 (x1_1 + (wrap64 (a2 - x1_1)))) > a2
            ·rw [if_pos c44] at H
             have c44b0 : decide (a2 < (wrap64 (x1_1 + (wrap64 (a2 - x1_1))))) = true := decide_eq_true c44
             clear c44
             simp only [Option.some.injEq, Prod.mk.injEq] at H
             obtain ⟨rfl, rfl⟩ := H
             go_wp2
             go_ret2
             exact ⟨_, by rfl, by (exact Kd.R_nil _ _ _ _ _), by repeat ((with_reducible (exact HB.out)))⟩
            ·rw [if_neg c44] at H
             have c44b0 : decide (a2 < (wrap64 (x1_1 + (wrap64 (a2 - x1_1))))) = false := decide_eq_false c44
             clear c44
             by_cases c45 : 0 ≤ x1_1
             ·rw [if_pos c45] at H
              have c45b0 := eq_true c45
              have c45b1 : decide (0 ≤ x1_1) = true := decide_eq_true c45
              clear c45
              by_cases c46 : x1_1 ≤ (wrap64 (x1_1 + (wrap64 (a2 - x1_1))))
              ·rw [if_pos c46] at H
               have c46b0 := eq_true c46
               have c46b1 : decide (x1_1 ≤ (wrap64 (x1_1 + (wrap64 (a2 - x1_1))))) = true := decide_eq_true c46
               by_cases c47 : (wrap64 (x1_1 + (wrap64 (a2 - x1_1)))) ≤ ((a0.extract 0 (a2 : Int).toNat).size : Int)
               ·rw [if_pos c47] at H
                have c47b0 := eq_true c47
                have c47b1 : decide ((wrap64 (x1_1 + (wrap64 (a2 - x1_1)))) ≤ ((a0.extract 0 (a2 : Int).toNat).size : Int)) = true := decide_eq_true c47
                (try have c47b1v := c47b1)
                (try simp only [ByteArray.size_extract, Nat.sub_zero] at c47b1v)
                (try have c47b1w := eq_true (of_decide_eq_true c47b1v))
                by_cases c48 : x10_1.length < 8796093022208
                ·rw [if_pos c48] at H
                 have LMc48 := Aside0.mk c48
                 clear c48
                 obtain ⟨y206, hy206⟩ : ∃ y_ : List ByteArray, y_ = (x10_1 ++ [(a0.extract 0 (a2 : Int).toNat).extract (x1_1 : Int).toNat ((wrap64 (x1_1 + (wrap64 (a2 - x1_1)))) : Int).toNat]) := ⟨_, rfl⟩
                 replace H : (beadrollref10_Read.l0 kj10 (a0.extract 0 (a2 : Int).toNat) (wrap64 (x1_1 + (wrap64 (a2 - x1_1)))) a2 y206 t192 (wrap64 (x12_1 + 1))) = some (r1, r2) := by (rw [hy206]; with_reducible exact H)
                 have Ny206 := Aside0.mk hy206
                 clear hy206
                 have H' := Aside0.mk H
                 clear H
                 go_wp2_with ((((with_reducible refine gate_builtin (b := .append) (xs := #[.tmp 100, .tmp 107]) rfl ?_); (try (refine gate_guard (by rfl) ?_; dsimp only)); at_builtin; refine Kd.R_append Kd.string (w0 := w) w.heap.size rfl (.tmp 100) (.tmp 107) 52 9 (.string ⟨#[]⟩) 16 rfl Try.underlying52 info9 rfl (by decide) (by omega) u10 x10_1 ((a0.extract 0 (a2 : Int).toNat).extract (x1_1 : Int).toNat ((wrap64 (x1_1 + (wrap64 (a2 - x1_1)))) : Int).toNat) [.string ((a0.extract 0 (a2 : Int).toNat).extract (x1_1 : Int).toNat ((wrap64 (x1_1 + (wrap64 (a2 - x1_1)))) : Int).toNat)] (fun _ => True) (fun _ => False) rfl rfl ?aP (fun _ hk => hk.elim) ?aF ?aO ?aB ?aS ?aL ?_; (case aP => exact rfl); (case aB => exact (by repeat ((with_reducible (exact HB.out))))); (case aF => exact (fun _ _ => trivial)); (case aO => exact (by (with_reducible repeat ((apply Kd.R_alloc))); exact HO_10.out)); (case aS => exact (below_size (by repeat ((with_reducible (exact HB.out)))))); (case aL => have := LMc48.out; omega); intro v207 w49 ho hb hg hat; rw [← Ny206.out] at ho; have n0_ := Aside0.mk (hb); have n1_ := Aside0.mk (ho); clear HB; clear HO_10; have HB := n0_; have HO208 := n1_; clear n0_ n1_; clear ho hb hg hat)))
                 go_roundg kj10
                 case measure => have := HK1.out; have := HJ10.out; omega
                 case rel => exact ⟨(wrap64 (x1_1 + (wrap64 (a2 - x1_1)))), (y206), (wrap64 (x12_1 + 1)), (by rfl), (by rfl), H', ⟨by have := HK1.out; have := HJ10.out; omega⟩, ⟨by (with_reducible repeat ((apply Kd.R_alloc))); exact HO208.out⟩, ⟨by repeat ((with_reducible (exact HB.out)))⟩⟩
                ·rw [if_neg c48] at H
                 exact absurd H (by simp)
               ·rw [if_neg c47] at H
                exact absurd H (by simp)
              ·rw [if_neg c46] at H
               exact absurd H (by simp)
             ·rw [if_neg c45] at H
              exact absurd H (by simp)
           ·rw [if_neg c43] at H
            have c43b0 : ((bt t192 x12_1) == 111) = false := beq_eq_false_iff_ne.mpr c43
            have c43b1 : ((bt t192 x12_1) != 111) = true := bne_iff_ne.mpr c43
            by_cases c50 : (bt t192 x12_1) = 104
            ·rw [if_pos c50] at H
             have c50b0 : ((bt t192 x12_1) == 104) = true := beq_iff_eq.mpr c50
             have c50b1 : ((bt t192 x12_1) != 104) = false := bne_eq_false_iff_eq.mpr c50
             clear c50
             by_cases c51 : (wrap64 (x1_1 + 16)) > a2
             ·rw [if_pos c51] at H
              have c51b0 : decide (a2 < (wrap64 (x1_1 + 16))) = true := decide_eq_true c51
              clear c51
              simp only [Option.some.injEq, Prod.mk.injEq] at H
              obtain ⟨rfl, rfl⟩ := H
              go_wp2
              go_ret2
              exact ⟨_, by rfl, by (exact Kd.R_nil _ _ _ _ _), by repeat ((with_reducible (exact HB.out)))⟩
             ·rw [if_neg c51] at H
              have c51b0 : decide (a2 < (wrap64 (x1_1 + 16))) = false := decide_eq_false c51
              clear c51
              by_cases c52 : 0 ≤ x1_1
              ·rw [if_pos c52] at H
               have c52b0 := eq_true c52
               have c52b1 : decide (0 ≤ x1_1) = true := decide_eq_true c52
               clear c52
               by_cases c53 : x1_1 ≤ (wrap64 (x1_1 + 16))
               ·rw [if_pos c53] at H
                have c53b0 := eq_true c53
                have c53b1 : decide (x1_1 ≤ (wrap64 (x1_1 + 16))) = true := decide_eq_true c53
                by_cases c54 : (wrap64 (x1_1 + 16)) ≤ ((a0.extract 0 (a2 : Int).toNat).size : Int)
                ·rw [if_pos c54] at H
                 have c54b0 := eq_true c54
                 have c54b1 : decide ((wrap64 (x1_1 + 16)) ≤ ((a0.extract 0 (a2 : Int).toNat).size : Int)) = true := decide_eq_true c54
                 (try have c54b1v := c54b1)
                 (try simp only [ByteArray.size_extract, Nat.sub_zero] at c54b1v)
                 (try have c54b1w := eq_true (of_decide_eq_true c54b1v))
                 by_cases c55 : x10_1.length < 8796093022208
                 ·rw [if_pos c55] at H
                  have LMc55 := Aside0.mk c55
                  clear c55
                  obtain ⟨y209, hy209⟩ : ∃ y_ : List ByteArray, y_ = (x10_1 ++ [(a0.extract 0 (a2 : Int).toNat).extract (x1_1 : Int).toNat ((wrap64 (x1_1 + 16)) : Int).toNat]) := ⟨_, rfl⟩
                  replace H : (beadrollref10_Read.l0 kj10 (a0.extract 0 (a2 : Int).toNat) (wrap64 (x1_1 + 16)) a2 y209 t192 (wrap64 (x12_1 + 1))) = some (r1, r2) := by (rw [hy209]; with_reducible exact H)
                  have Ny209 := Aside0.mk hy209
                  clear hy209
                  have H' := Aside0.mk H
                  clear H
                  go_wp2_with ((((with_reducible refine gate_builtin (b := .append) (xs := #[.tmp 100, .tmp 107]) rfl ?_); (try (refine gate_guard (by rfl) ?_; dsimp only)); at_builtin; refine Kd.R_append Kd.string (w0 := w) w.heap.size rfl (.tmp 100) (.tmp 107) 52 9 (.string ⟨#[]⟩) 16 rfl Try.underlying52 info9 rfl (by decide) (by omega) u10 x10_1 ((a0.extract 0 (a2 : Int).toNat).extract (x1_1 : Int).toNat ((wrap64 (x1_1 + 16)) : Int).toNat) [.string ((a0.extract 0 (a2 : Int).toNat).extract (x1_1 : Int).toNat ((wrap64 (x1_1 + 16)) : Int).toNat)] (fun _ => True) (fun _ => False) rfl rfl ?aP (fun _ hk => hk.elim) ?aF ?aO ?aB ?aS ?aL ?_; (case aP => exact rfl); (case aB => exact (by repeat ((with_reducible (exact HB.out))))); (case aF => exact (fun _ _ => trivial)); (case aO => exact (by (with_reducible repeat ((apply Kd.R_alloc))); exact HO_10.out)); (case aS => exact (below_size (by repeat ((with_reducible (exact HB.out)))))); (case aL => have := LMc55.out; omega); intro v210 w56 ho hb hg hat; rw [← Ny209.out] at ho; have n0_ := Aside0.mk (hb); have n1_ := Aside0.mk (ho); clear HB; clear HO_10; have HB := n0_; have HO211 := n1_; clear n0_ n1_; clear ho hb hg hat)))
                  go_roundg kj10
                  case measure => have := HK1.out; have := HJ10.out; omega
                  case rel => exact ⟨(wrap64 (x1_1 + 16)), (y209), (wrap64 (x12_1 + 1)), (by rfl), (by rfl), H', ⟨by have := HK1.out; have := HJ10.out; omega⟩, ⟨by (with_reducible repeat ((apply Kd.R_alloc))); exact HO211.out⟩, ⟨by repeat ((with_reducible (exact HB.out)))⟩⟩
                 ·rw [if_neg c55] at H
                  exact absurd H (by simp)
                ·rw [if_neg c54] at H
                 exact absurd H (by simp)
               ·rw [if_neg c53] at H
                exact absurd H (by simp)
              ·rw [if_neg c52] at H
               exact absurd H (by simp)
            ·rw [if_neg c50] at H
             have c50b0 : ((bt t192 x12_1) == 104) = false := beq_eq_false_iff_ne.mpr c50
             have c50b1 : ((bt t192 x12_1) != 104) = true := bne_iff_ne.mpr c50
             by_cases c57 : 0 ≤ x12_1
             ·rw [if_pos c57] at H
              have c57b0 : decide (0 ≤ x12_1) = true := decide_eq_true c57
              clear c57
              by_cases c58 : x12_1 < (t192.size : Int)
              ·rw [if_pos c58] at H
               have c58b0 : decide (x12_1 < (t192.size : Int)) = true := decide_eq_true c58
               clear c58
               by_cases c60 : (wrap64 (x1_1 + (wrap64 ((wrap64 (bt t192 x12_1)) - 48)))) > a2
               ·rw [if_pos c60] at H
                have c60b0 : decide (a2 < (wrap64 (x1_1 + (wrap64 ((wrap64 (bt t192 x12_1)) - 48))))) = true := decide_eq_true c60
                clear c60
                simp only [Option.some.injEq, Prod.mk.injEq] at H
                obtain ⟨rfl, rfl⟩ := H
                have p59 : 0 ≤ (x12_1 : Int) := of_decide_eq_true (by (with_reducible assumption))
                have q59 : x12_1 < (t192.size : Int) := of_decide_eq_true (by (with_reducible assumption))
                have hx59 := bt_at t192 x12_1
                replace p59 := eq_true p59
                replace q59 := eq_true q59
                go_wp2
                go_ret2
                exact ⟨_, by rfl, by (exact Kd.R_nil _ _ _ _ _), by repeat ((with_reducible (exact HB.out)))⟩
               ·rw [if_neg c60] at H
                have c60b0 : decide (a2 < (wrap64 (x1_1 + (wrap64 ((wrap64 (bt t192 x12_1)) - 48))))) = false := decide_eq_false c60
                clear c60
                by_cases c61 : 0 ≤ x1_1
                ·rw [if_pos c61] at H
                 have c61b0 := eq_true c61
                 have c61b1 : decide (0 ≤ x1_1) = true := decide_eq_true c61
                 clear c61
                 by_cases c62 : x1_1 ≤ (wrap64 (x1_1 + (wrap64 ((wrap64 (bt t192 x12_1)) - 48))))
                 ·rw [if_pos c62] at H
                  have c62b0 := eq_true c62
                  have c62b1 : decide (x1_1 ≤ (wrap64 (x1_1 + (wrap64 ((wrap64 (bt t192 x12_1)) - 48))))) = true := decide_eq_true c62
                  by_cases c63 : (wrap64 (x1_1 + (wrap64 ((wrap64 (bt t192 x12_1)) - 48)))) ≤ ((a0.extract 0 (a2 : Int).toNat).size : Int)
                  ·rw [if_pos c63] at H
                   have c63b0 := eq_true c63
                   have c63b1 : decide ((wrap64 (x1_1 + (wrap64 ((wrap64 (bt t192 x12_1)) - 48)))) ≤ ((a0.extract 0 (a2 : Int).toNat).size : Int)) = true := decide_eq_true c63
                   (try have c63b1v := c63b1)
                   (try simp only [ByteArray.size_extract, Nat.sub_zero] at c63b1v)
                   (try have c63b1w := eq_true (of_decide_eq_true c63b1v))
                   by_cases c64 : x10_1.length < 8796093022208
                   ·rw [if_pos c64] at H
                    have LMc64 := Aside0.mk c64
                    clear c64
                    obtain ⟨y212, hy212⟩ : ∃ y_ : List ByteArray, y_ = (x10_1 ++ [(a0.extract 0 (a2 : Int).toNat).extract (x1_1 : Int).toNat ((wrap64 (x1_1 + (wrap64 ((wrap64 (bt t192 x12_1)) - 48)))) : Int).toNat]) := ⟨_, rfl⟩
                    replace H : (beadrollref10_Read.l0 kj10 (a0.extract 0 (a2 : Int).toNat) (wrap64 (x1_1 + (wrap64 ((wrap64 (bt t192 x12_1)) - 48)))) a2 y212 t192 (wrap64 (x12_1 + 1))) = some (r1, r2) := by (rw [hy212]; with_reducible exact H)
                    have Ny212 := Aside0.mk hy212
                    clear hy212
                    have H' := Aside0.mk H
                    clear H
                    have p59 : 0 ≤ (x12_1 : Int) := of_decide_eq_true (by (with_reducible assumption))
                    have q59 : x12_1 < (t192.size : Int) := of_decide_eq_true (by (with_reducible assumption))
                    have hx59 := bt_at t192 x12_1
                    replace p59 := eq_true p59
                    replace q59 := eq_true q59
                    go_wp2_with ((((with_reducible refine gate_builtin (b := .append) (xs := #[.tmp 100, .tmp 107]) rfl ?_); (try (refine gate_guard (by rfl) ?_; dsimp only)); at_builtin; refine Kd.R_append Kd.string (w0 := w) w.heap.size rfl (.tmp 100) (.tmp 107) 52 9 (.string ⟨#[]⟩) 16 rfl Try.underlying52 info9 rfl (by decide) (by omega) u10 x10_1 ((a0.extract 0 (a2 : Int).toNat).extract (x1_1 : Int).toNat ((wrap64 (x1_1 + (wrap64 ((wrap64 (bt t192 x12_1)) - 48)))) : Int).toNat) [.string ((a0.extract 0 (a2 : Int).toNat).extract (x1_1 : Int).toNat ((wrap64 (x1_1 + (wrap64 ((wrap64 (bt t192 x12_1)) - 48)))) : Int).toNat)] (fun _ => True) (fun _ => False) rfl rfl ?aP (fun _ hk => hk.elim) ?aF ?aO ?aB ?aS ?aL ?_; (case aP => exact rfl); (case aB => exact (by repeat ((with_reducible (exact HB.out))))); (case aF => exact (fun _ _ => trivial)); (case aO => exact (by (with_reducible repeat ((apply Kd.R_alloc))); exact HO_10.out)); (case aS => exact (below_size (by repeat ((with_reducible (exact HB.out)))))); (case aL => have := LMc64.out; omega); intro v213 w65 ho hb hg hat; rw [← Ny212.out] at ho; have n0_ := Aside0.mk (hb); have n1_ := Aside0.mk (ho); clear HB; clear HO_10; have HB := n0_; have HO214 := n1_; clear n0_ n1_; clear ho hb hg hat)))
                    go_roundg kj10
                    case measure => have := HK1.out; have := HJ10.out; omega
                    case rel => exact ⟨(wrap64 (x1_1 + (wrap64 ((wrap64 (bt t192 x12_1)) - 48)))), (y212), (wrap64 (x12_1 + 1)), (by rfl), (by rfl), H', ⟨by have := HK1.out; have := HJ10.out; omega⟩, ⟨by (with_reducible repeat ((apply Kd.R_alloc))); exact HO214.out⟩, ⟨by repeat ((with_reducible (exact HB.out)))⟩⟩
                   ·rw [if_neg c64] at H
                    exact absurd H (by simp)
                  ·rw [if_neg c63] at H
                   exact absurd H (by simp)
                 ·rw [if_neg c62] at H
                  exact absurd H (by simp)
                ·rw [if_neg c61] at H
                 exact absurd H (by simp)
              ·rw [if_neg c58] at H
               exact absurd H (by simp)
             ·rw [if_neg c57] at H
              exact absurd H (by simp)
      ·rw [if_neg c9] at H
       exact absurd H (by simp)
     ·rw [if_neg c8] at H
      have c8b0 : decide (x12_1 < (t192.size : Int)) = false := decide_eq_false c8
      clear c8
      simp only [Option.some.injEq, Prod.mk.injEq] at H
      obtain ⟨rfl, rfl⟩ := H
      go_wp2
      go_ret2
      exact ⟨_, by rfl, by (with_reducible repeat ((apply Kd.R_alloc))); exact HO_10.out, by repeat ((with_reducible (exact HB.out)))⟩
  ·rw [if_neg c7] at H
   exact absurd H (by simp)
 ·rw [if_neg c6] at H
  exact absurd H (by simp)
end Go.Proofs.Ytnpiglojamhpiaa.PRd
namespace Go.Proofs.Ytnpiglojamhpiaa.PRd
open Go.RowKit Go.Proofs.YtnpiglojamhpiaaW.PrintWords Go.Proofs.YtnpiglojamhpiaaW.PrintLast Go.Proofs.YtnpiglojamhpiaaW.PrintMore Go.Proofs.Ytnpiglojamhpiaa.Given
attribute [local go_sem] max2_int min2_int max_two min_two max_three min_three max_four min_four   -- for this text's walks alone
set_option linter.unusedVariables false
set_option linter.unusedSimpArgs false
def beadrollref10_join.l0 : Nat → List ByteArray → ByteArray → Int → Option (ByteArray)
 | 0, _, _, _ => none
 | k + 1, x0, x3, x4 => if x4 < (x0.length : Int) then (if 0 ≤ x4 then (if x3.size + (rdOf ByteArray.empty x0 x4).size ≤ 9223372036854775807 then (beadrollref10_join.l0 k x0 (x3 ++ (rdOf ByteArray.empty x0 x4)) (wrap64 (x4 + 1))) else (none)) else (none)) else (some x3)
def beadrollref10_join.f (k : Nat) (l0 : List ByteArray) : Option (ByteArray) := beadrollref10_join.l0 k l0 (⟨#[]⟩ : ByteArray) 0
set_option maxHeartbeats 8000000 in
set_option maxRecDepth 100000 in
theorem beadrollref10_join.calls (k : Nat) (A0 : Option Addr) (c0 : Nat) (l0 : List ByteArray) (r : ByteArray) (w : World) (hr0 : Kd.C Kd.string w A0 l0.length l0) (hc0 : l0.length ≤ c0) (h : beadrollref10_join.f k l0 = some r) :
  Calls Try.prog 54 #[.slice A0 l0.length c0] w fun e w' => e = .returned (.string r) ∧ Drawn0 w w' := by
 have HR0 := Aside0.mk hr0
 have HC0 := Aside0.mk hc0
 clear hr0 hc0
 have H : (beadrollref10_join.l0 k l0 (⟨#[]⟩ : ByteArray) 0) = some r := h
 clear h
 have H' := Aside0.mk H
 clear H
 go_enter Try.func54, Try.ntmps54
 go_wp2
 go_loopg [3, 4] k (fun kq v3 v4 w' => ∃ (x3_1 : ByteArray) (x4_1 : Int), v3 = .string x3_1 ∧ v4 = .int .i64 x4_1 ∧ Aside0 (beadrollref10_join.l0 kq l0 x3_1 x4_1 = some r) ∧ Aside0 (kq ≤ k) ∧ Drawn0 w w')
 case atStart => exact ⟨((⟨#[]⟩ : ByteArray)), (0), (by rfl), (by rfl), H', ⟨Nat.le_refl _⟩, by repeat ((exact Drawn0.refl _))⟩
 case round =>
  clear H'
  obtain ⟨x3_1, x4_1, rfl, rfl, HA, HK1, ⟨m1, rfl⟩⟩ := hrel
  cases gk with
  | zero => exact absurd HA.out (by simp [beadrollref10_join.l0])
  | succ k1 =>
   have H := HA.out
   clear HA
   simp only [beadrollref10_join.l0] at H
   by_cases c2 : x4_1 < (l0.length : Int)
   ·rw [if_pos c2] at H
    have c2b0 : decide (x4_1 < (l0.length : Int)) = true := decide_eq_true c2
    clear c2
    by_cases c3 : 0 ≤ x4_1
    ·rw [if_pos c3] at H
     have c3b0 : decide (0 ≤ x4_1) = true := decide_eq_true c3
     clear c3
     by_cases c4 : x3_1.size + (rdOf ByteArray.empty l0 x4_1).size ≤ 9223372036854775807
     ·rw [if_pos c4] at H
      have c4b0 := eq_true c4
      have c4b1 : decide (x3_1.size + (rdOf ByteArray.empty l0 x4_1).size ≤ 9223372036854775807) = true := decide_eq_true c4
      (try have c4b2 : (9223372036854775807 < x3_1.size + (rdOf ByteArray.empty l0 x4_1).size) = False := eq_false (Nat.not_lt.2 c4))
      have H' := Aside0.mk H
      clear H
      have p215 : 0 ≤ (x4_1 : Int) := of_decide_eq_true (by (with_reducible assumption))
      have q215 : x4_1 < (l0.length : Int) := of_decide_eq_true (by (with_reducible assumption))
      obtain ⟨ad215, e215, hx215_0⟩ := Kd.at_string HR0.out x4_1 p215 q215
      cases e215
      replace p215 := eq_true p215
      replace q215 := eq_true q215
      go_wp2
      go_roundg k1
      case measure => have := HK1.out; omega
      case rel => exact ⟨(x3_1 ++ (rdOf ByteArray.empty l0 x4_1)), (wrap64 (x4_1 + 1)), (by rfl), (by rfl), H', ⟨by have := HK1.out; omega⟩, by repeat (first | exact Drawn0.refl _ | apply Drawn0.step)⟩
     ·rw [if_neg c4] at H
      exact absurd H (by simp)
    ·rw [if_neg c3] at H
     exact absurd H (by simp)
   ·rw [if_neg c2] at H
    have c2b0 : decide (x4_1 < (l0.length : Int)) = false := decide_eq_false c2
    clear c2
    obtain rfl := Option.some.inj H
    go_wp2
    go_ret
    exact ⟨by rfl, by repeat (first | exact Drawn0.refl _ | apply Drawn0.step)⟩
def beadrollref10_Whole.f (k : Nat) (a0 : ByteArray) (a1 : Int) (a2 : Int) (a3 : Int) : Option (ByteArray × Bool) := (beadrollref10_Read.f k a0 a1 a2 a3).bind fun bt216 => ((beadrollref10_join.f k bt216.1).bind fun t220 => (if bt216.2 = true then (some (t220, decide ((t220.size : Int) ≤ 65535))) else (some (t220, false))))
set_option maxHeartbeats 8000000 in
set_option maxRecDepth 100000 in
theorem beadrollref10_Whole.calls (k : Nat) (a0 : ByteArray) (a1 : Int) (a2 : Int) (a3 : Int) (r1 : ByteArray) (r2 : Bool) (w : World) (h : beadrollref10_Whole.f k a0 a1 a2 a3 = some (r1, r2)) :
  Calls Try.prog 40 #[.string a0, .int .i64 a1, .int .i64 a2, .int .i64 a3] w fun e w' => e = .returned (.tuple #[.string r1, .bool r2]) ∧ Below w.heap.size w w' := by
 have HB := Aside0.mk (Below.refl w.heap.size w)
 have H : ((beadrollref10_Read.f k a0 a1 a2 a3).bind fun bt216 => ((beadrollref10_join.f k bt216.1).bind fun t220 => (if bt216.2 = true then (some (t220, decide ((t220.size : Int) ≤ 65535))) else (some (t220, false))))) = some (r1, r2) := h
 clear h
 replace H := Option.bind_eq_some_iff.mp H
 obtain ⟨⟨t216, t217⟩, A50, H⟩ := H
 replace H : ((beadrollref10_join.f k t216).bind fun t220 => (if t217 = true then (some (t220, decide ((t220.size : Int) ≤ 65535))) else (some (t220, false)))) = some (r1, r2) := H
 have A5 := Aside0.mk A50
 clear A50
 replace H := Option.bind_eq_some_iff.mp H
 obtain ⟨t220, A60, H⟩ := H
 replace H : (if t217 = true then (some (t220, decide ((t220.size : Int) ≤ 65535))) else (some (t220, false))) = some (r1, r2) := H
 have A6 := Aside0.mk A60
 clear A60
 by_cases c7 : t217 = true
 ·subst c7
  have H1 : (some (t220, decide ((t220.size : Int) ≤ 65535))) = some (r1, r2) := by rw [if_pos rfl] at H; exact H
  clear H
  have H := H1
  clear H1
  simp only [Option.some.injEq, Prod.mk.injEq] at H
  obtain ⟨rfl, rfl⟩ := H
  go_enter Try.func40, Try.ntmps40
  go_wp2_with (first | ((with_reducible refine gate_callee (f := 53) rfl ?_); refine goesL_ (some 18) rfl rfl Try.func53 (by kernel_rfl) rfl #[.string a0, .int .i64 a1, .int .i64 a2, .int .i64 a3] rfl (by (try simp only [List.map_toArray, List.map_cons, List.map_nil]); rfl) ?_; (with_reducible refine (beadrollref10_Read.calls k a0 a1 a2 a3 t216 true _ A5.out).mono ?_); rintro e w8 ⟨v218, rfl, ho0, hb⟩; refine ⟨_, rfl, ?_⟩; have n0_ := Aside0.mk (Kd.R_lower ho0 (below_size (by repeat ((with_reducible (exact HB.out)))))); have n1_ := Aside0.mk (below_step (by repeat ((with_reducible (exact HB.out)))) hb); clear HB; have HO219 := n0_; have HB := n1_; clear n0_ n1_; (try clear hb); (try clear ho0); obtain ⟨Ao9, co9, eo9⟩ := Kd.R_slice HO219.out; subst eo9) | ((with_reducible refine gate_callee (f := 54) rfl ?_); refine goesL_ (some 22) rfl rfl Try.func54 (by kernel_rfl) rfl #[.slice Ao9 t216.length co9] rfl (by (try simp only [List.map_toArray, List.map_cons, List.map_nil]); rfl) ?_; (with_reducible refine (beadrollref10_join.calls k _ _ t216 t220 _ ?side1 ?side2 A6.out).mono ?_); (case side1 => repeat ((exact (Kd.R_reads' HO219.out).2.2))); (case side2 => exact (Kd.R_reads' HO219.out).2.1); rintro e w' ⟨rfl, ⟨nd, rfl⟩⟩; refine ⟨_, rfl, ?_⟩))
  go_ret2
  exact ⟨by rfl, by repeat ((with_reducible first | exact HB.out | apply pw_below_drewN))⟩
 ·replace c7 := Bool.eq_false_iff.mpr c7
  subst c7
  have H1 : (some (t220, false)) = some (r1, r2) := by rw [if_neg (show ¬ (false = true) by decide)] at H; exact H
  clear H
  have H := H1
  clear H1
  simp only [Option.some.injEq, Prod.mk.injEq] at H
  obtain ⟨rfl, rfl⟩ := H
  go_enter Try.func40, Try.ntmps40
  go_wp2_with (first | ((with_reducible refine gate_callee (f := 53) rfl ?_); refine goesL_ (some 18) rfl rfl Try.func53 (by kernel_rfl) rfl #[.string a0, .int .i64 a1, .int .i64 a2, .int .i64 a3] rfl (by (try simp only [List.map_toArray, List.map_cons, List.map_nil]); rfl) ?_; (with_reducible refine (beadrollref10_Read.calls k a0 a1 a2 a3 t216 false _ A5.out).mono ?_); rintro e w10 ⟨v218, rfl, ho0, hb⟩; refine ⟨_, rfl, ?_⟩; have n0_ := Aside0.mk (Kd.R_lower ho0 (below_size (by repeat ((with_reducible (exact HB.out)))))); have n1_ := Aside0.mk (below_step (by repeat ((with_reducible (exact HB.out)))) hb); clear HB; have HO219 := n0_; have HB := n1_; clear n0_ n1_; (try clear hb); (try clear ho0); obtain ⟨Ao11, co11, eo11⟩ := Kd.R_slice HO219.out; subst eo11) | ((with_reducible refine gate_callee (f := 54) rfl ?_); refine goesL_ (some 22) rfl rfl Try.func54 (by kernel_rfl) rfl #[.slice Ao11 t216.length co11] rfl (by (try simp only [List.map_toArray, List.map_cons, List.map_nil]); rfl) ?_; (with_reducible refine (beadrollref10_join.calls k _ _ t216 t220 _ ?side1 ?side2 A6.out).mono ?_); (case side1 => repeat ((exact (Kd.R_reads' HO219.out).2.2))); (case side2 => exact (Kd.R_reads' HO219.out).2.1); rintro e w' ⟨rfl, ⟨nd, rfl⟩⟩; refine ⟨_, rfl, ?_⟩))
  go_ret2
  exact ⟨by rfl, by repeat ((with_reducible first | exact HB.out | apply pw_below_drewN))⟩
def beadrollref10_Right.f (k : Nat) (a0 : Int) (a1 : ByteArray) : Option (Bool) := (beadrollref10_Whole.f k a1 0 (a1.size : Int) a0).bind fun bt221 => (if bt221.2 = true then (some (bt221.1.toList == a1.toList)) else (some false))
set_option maxHeartbeats 8000000 in
set_option maxRecDepth 100000 in
theorem beadrollref10_Right.calls (k : Nat) (a0 : Int) (a1 : ByteArray) (r : Bool) (w : World) (h : beadrollref10_Right.f k a0 a1 = some r) :
  Calls Try.prog 26 #[.int .i64 a0, .string a1] w fun e w' => e = .returned (.bool r) ∧ Below w.heap.size w w' := by
 have HB := Aside0.mk (Below.refl w.heap.size w)
 have H : ((beadrollref10_Whole.f k a1 0 (a1.size : Int) a0).bind fun bt221 => (if bt221.2 = true then (some (bt221.1.toList == a1.toList)) else (some false))) = some r := h
 clear h
 replace H := Option.bind_eq_some_iff.mp H
 obtain ⟨⟨t221, t222⟩, A30, H⟩ := H
 replace H : (if t222 = true then (some (t221.toList == a1.toList)) else (some false)) = some r := H
 have A3 := Aside0.mk A30
 clear A30
 by_cases c4 : t222 = true
 ·subst c4
  have H1 : (some (t221.toList == a1.toList)) = some r := by rw [if_pos rfl] at H; exact H
  clear H
  have H := H1
  clear H1
  obtain rfl := Option.some.inj H
  go_enter Try.func26, Try.ntmps26
  go_wp2_with ((((with_reducible refine gate_callee (f := 40) rfl ?_); refine goesL_ (some 12) rfl rfl Try.func40 (by kernel_rfl) rfl #[.string a1, .int .i64 0, .int .i64 (a1.size : Int), .int .i64 a0] rfl (by (try simp only [List.map_toArray, List.map_cons, List.map_nil]); rfl) ?_; (with_reducible refine (beadrollref10_Whole.calls k a1 0 (a1.size : Int) a0 t221 true _ A3.out).mono ?_); rintro e w5 ⟨rfl, hb⟩; refine ⟨_, rfl, ?_⟩; have n0_ := Aside0.mk (below_step (by repeat ((with_reducible (exact HB.out)))) hb); clear HB; have HB := n0_; clear n0_; (try clear hb))))
  go_ret
  exact ⟨by rfl, by repeat ((with_reducible (exact HB.out)))⟩
 ·replace c4 := Bool.eq_false_iff.mpr c4
  subst c4
  have H1 : (some false) = some r := by rw [if_neg (show ¬ (false = true) by decide)] at H; exact H
  clear H
  have H := H1
  clear H1
  obtain rfl := Option.some.inj H
  go_enter Try.func26, Try.ntmps26
  go_wp2_with ((((with_reducible refine gate_callee (f := 40) rfl ?_); refine goesL_ (some 12) rfl rfl Try.func40 (by kernel_rfl) rfl #[.string a1, .int .i64 0, .int .i64 (a1.size : Int), .int .i64 a0] rfl (by (try simp only [List.map_toArray, List.map_cons, List.map_nil]); rfl) ?_; (with_reducible refine (beadrollref10_Whole.calls k a1 0 (a1.size : Int) a0 t221 false _ A3.out).mono ?_); rintro e w6 ⟨rfl, hb⟩; refine ⟨_, rfl, ?_⟩; have n0_ := Aside0.mk (below_step (by repeat ((with_reducible (exact HB.out)))) hb); clear HB; have HB := n0_; clear n0_; (try clear hb))))
  go_ret
  exact ⟨by rfl, by repeat ((with_reducible (exact HB.out)))⟩
def beadrollref07_lower.l0 : Nat → ByteArray → List Int → Int → Option (ByteArray)
 | 0, _, _, _ => none
 | k + 1, x0, x3, x4 => if x4 < (x0.size : Int) then (if 0 ≤ x4 then (if (bt x0 x4) ≥ 65 then (if (bt x0 x4) ≤ 90 then (if x3.length < 140737488355328 then (beadrollref07_lower.l0 k x0 (x3 ++ [((bt x0 x4) + 32) % 256]) (wrap64 (x4 + 1))) else (none)) else (if x3.length < 140737488355328 then (beadrollref07_lower.l0 k x0 (x3 ++ [bt x0 x4]) (wrap64 (x4 + 1))) else (none))) else (if x3.length < 140737488355328 then (beadrollref07_lower.l0 k x0 (x3 ++ [bt x0 x4]) (wrap64 (x4 + 1))) else (none))) else (none)) else (some (strOfNums x3))
def beadrollref07_lower.f (k : Nat) (a0 : ByteArray) : Option (ByteArray) := beadrollref07_lower.l0 k a0 ([] : List Int) 0
set_option maxHeartbeats 8000000 in
set_option maxRecDepth 100000 in
theorem beadrollref07_lower.calls (k : Nat) (a0 : ByteArray) (r : ByteArray) (w : World) (h : beadrollref07_lower.f k a0 = some r) :
  Calls Try.prog 55 #[.string a0] w fun e w' => e = .returned (.string r) ∧ Below w.heap.size w w' := by
 have HB := Aside0.mk (Below.refl w.heap.size w)
 have H : (beadrollref07_lower.l0 k a0 ([] : List Int) 0) = some r := h
 clear h
 have H' := Aside0.mk H
 clear H
 go_enter Try.func55, Try.ntmps55
 go_wp2
 go_loopg [3, 4] k (fun kq v3 v4 w' => ∃ (x3_1 : List Int) (x4_1 : Int), v4 = .int .i64 x4_1 ∧ Aside0 (beadrollref07_lower.l0 kq a0 x3_1 x4_1 = some r) ∧ Aside0 (kq ≤ k) ∧ Aside0 (Kd.R (Kd.int .u8) 5 w' w.heap.size (fun _ => True) v3 x3_1) ∧ Aside0 (Below w.heap.size w w'))
 case atStart => exact ⟨(([] : List Int)), (0), (by rfl), H', ⟨Nat.le_refl _⟩, ⟨by (exact Kd.R_nil _ _ _ _ _)⟩, ⟨by repeat ((with_reducible (exact HB.out)))⟩⟩
 case round =>
  clear H'
  obtain ⟨x3_1, x4_1, rfl, HA, HK1, HO_3, HB⟩ := hrel
  cases gk with
  | zero => exact absurd HA.out (by simp [beadrollref07_lower.l0])
  | succ k1 =>
   have H := HA.out
   clear HA
   simp only [beadrollref07_lower.l0] at H
   by_cases c2 : x4_1 < (a0.size : Int)
   ·rw [if_pos c2] at H
    have c2b0 : decide (x4_1 < (a0.size : Int)) = true := decide_eq_true c2
    clear c2
    by_cases c3 : 0 ≤ x4_1
    ·rw [if_pos c3] at H
     have c3b0 : decide (0 ≤ x4_1) = true := decide_eq_true c3
     clear c3
     by_cases c5 : (bt a0 x4_1) ≥ 65
     ·rw [if_pos c5] at H
      have c5b0 : decide (65 ≤ (bt a0 x4_1)) = true := decide_eq_true c5
      clear c5
      by_cases c6 : (bt a0 x4_1) ≤ 90
      ·rw [if_pos c6] at H
       have c6b0 : decide ((bt a0 x4_1) ≤ 90) = true := decide_eq_true c6
       clear c6
       by_cases c7 : x3_1.length < 140737488355328
       ·rw [if_pos c7] at H
        have LMc7 := Aside0.mk c7
        clear c7
        obtain ⟨y223, hy223⟩ : ∃ y_ : List Int, y_ = (x3_1 ++ [((bt a0 x4_1) + 32) % 256]) := ⟨_, rfl⟩
        replace H : (beadrollref07_lower.l0 k1 a0 y223 (wrap64 (x4_1 + 1))) = some r := by (rw [hy223]; with_reducible exact H)
        have Ny223 := Aside0.mk hy223
        clear hy223
        have H' := Aside0.mk H
        clear H
        have p4 : 0 ≤ (x4_1 : Int) := of_decide_eq_true (by (with_reducible assumption))
        have q4 : x4_1 < (a0.size : Int) := of_decide_eq_true (by (with_reducible assumption))
        have hx4 := bt_at a0 x4_1
        replace p4 := eq_true p4
        replace q4 := eq_true q4
        go_wp2_with ((((with_reducible refine gate_builtin (b := .append) (xs := #[.tmp 23, .tmp 25]) rfl ?_); at_builtin; refine Kd.R_append (Kd.int .u8) (w0 := w) w.heap.size rfl (.tmp 23) (.tmp 25) 70 5 (.int .u8 0) 1 rfl Try.underlying70 info5 rfl (by decide) (by omega) u3 x3_1 (((bt a0 x4_1) + 32) % 256) [.int .u8 (((bt a0 x4_1) + 32) % 256)] (fun _ => True) (fun _ => False) rfl rfl ?aP (fun _ hk => hk.elim) ?aF ?aO ?aB ?aS ?aL ?_; (case aP => exact rfl); (case aB => exact (by repeat ((with_reducible (exact HB.out))))); (case aF => exact (fun _ _ => trivial)); (case aO => exact (by (with_reducible repeat ((apply Kd.R_alloc))); exact HO_3.out)); (case aS => exact (below_size (by repeat ((with_reducible (exact HB.out)))))); (case aL => have := LMc7.out; omega); intro v224 w8 ho hb hg hat; rw [← Ny223.out] at ho; have n0_ := Aside0.mk (hb); have n1_ := Aside0.mk (ho); clear HB; clear HO_3; have HB := n0_; have HO225 := n1_; clear n0_ n1_; clear ho hb hg hat)))
        go_roundg k1
        case measure => have := HK1.out; omega
        case rel => exact ⟨(y223), (wrap64 (x4_1 + 1)), (by rfl), H', ⟨by have := HK1.out; omega⟩, ⟨by (with_reducible repeat ((apply Kd.R_alloc))); exact HO225.out⟩, ⟨by repeat ((with_reducible (exact HB.out)))⟩⟩
       ·rw [if_neg c7] at H
        exact absurd H (by simp)
      ·rw [if_neg c6] at H
       have c6b0 : decide ((bt a0 x4_1) ≤ 90) = false := decide_eq_false c6
       clear c6
       by_cases c9 : x3_1.length < 140737488355328
       ·rw [if_pos c9] at H
        have LMc9 := Aside0.mk c9
        clear c9
        obtain ⟨y226, hy226⟩ : ∃ y_ : List Int, y_ = (x3_1 ++ [bt a0 x4_1]) := ⟨_, rfl⟩
        replace H : (beadrollref07_lower.l0 k1 a0 y226 (wrap64 (x4_1 + 1))) = some r := by (rw [hy226]; with_reducible exact H)
        have Ny226 := Aside0.mk hy226
        clear hy226
        have H' := Aside0.mk H
        clear H
        have p4 : 0 ≤ (x4_1 : Int) := of_decide_eq_true (by (with_reducible assumption))
        have q4 : x4_1 < (a0.size : Int) := of_decide_eq_true (by (with_reducible assumption))
        have hx4 := bt_at a0 x4_1
        replace p4 := eq_true p4
        replace q4 := eq_true q4
        go_wp2_with ((((with_reducible refine gate_builtin (b := .append) (xs := #[.tmp 23, .tmp 25]) rfl ?_); at_builtin; refine Kd.R_append (Kd.int .u8) (w0 := w) w.heap.size rfl (.tmp 23) (.tmp 25) 70 5 (.int .u8 0) 1 rfl Try.underlying70 info5 rfl (by decide) (by omega) u3 x3_1 (bt a0 x4_1) [.int .u8 (bt a0 x4_1)] (fun _ => True) (fun _ => False) rfl rfl ?aP (fun _ hk => hk.elim) ?aF ?aO ?aB ?aS ?aL ?_; (case aP => exact rfl); (case aB => exact (by repeat ((with_reducible (exact HB.out))))); (case aF => exact (fun _ _ => trivial)); (case aO => exact (by (with_reducible repeat ((apply Kd.R_alloc))); exact HO_3.out)); (case aS => exact (below_size (by repeat ((with_reducible (exact HB.out)))))); (case aL => have := LMc9.out; omega); intro v227 w10 ho hb hg hat; rw [← Ny226.out] at ho; have n0_ := Aside0.mk (hb); have n1_ := Aside0.mk (ho); clear HB; clear HO_3; have HB := n0_; have HO228 := n1_; clear n0_ n1_; clear ho hb hg hat)))
        go_roundg k1
        case measure => have := HK1.out; omega
        case rel => exact ⟨(y226), (wrap64 (x4_1 + 1)), (by rfl), H', ⟨by have := HK1.out; omega⟩, ⟨by (with_reducible repeat ((apply Kd.R_alloc))); exact HO228.out⟩, ⟨by repeat ((with_reducible (exact HB.out)))⟩⟩
       ·rw [if_neg c9] at H
        exact absurd H (by simp)
     ·rw [if_neg c5] at H
      have c5b0 : decide (65 ≤ (bt a0 x4_1)) = false := decide_eq_false c5
      clear c5
      by_cases c11 : x3_1.length < 140737488355328
      ·rw [if_pos c11] at H
       have LMc11 := Aside0.mk c11
       clear c11
       obtain ⟨y229, hy229⟩ : ∃ y_ : List Int, y_ = (x3_1 ++ [bt a0 x4_1]) := ⟨_, rfl⟩
       replace H : (beadrollref07_lower.l0 k1 a0 y229 (wrap64 (x4_1 + 1))) = some r := by (rw [hy229]; with_reducible exact H)
       have Ny229 := Aside0.mk hy229
       clear hy229
       have H' := Aside0.mk H
       clear H
       have p4 : 0 ≤ (x4_1 : Int) := of_decide_eq_true (by (with_reducible assumption))
       have q4 : x4_1 < (a0.size : Int) := of_decide_eq_true (by (with_reducible assumption))
       have hx4 := bt_at a0 x4_1
       replace p4 := eq_true p4
       replace q4 := eq_true q4
       go_wp2_with ((((with_reducible refine gate_builtin (b := .append) (xs := #[.tmp 23, .tmp 25]) rfl ?_); at_builtin; refine Kd.R_append (Kd.int .u8) (w0 := w) w.heap.size rfl (.tmp 23) (.tmp 25) 70 5 (.int .u8 0) 1 rfl Try.underlying70 info5 rfl (by decide) (by omega) u3 x3_1 (bt a0 x4_1) [.int .u8 (bt a0 x4_1)] (fun _ => True) (fun _ => False) rfl rfl ?aP (fun _ hk => hk.elim) ?aF ?aO ?aB ?aS ?aL ?_; (case aP => exact rfl); (case aB => exact (by repeat ((with_reducible (exact HB.out))))); (case aF => exact (fun _ _ => trivial)); (case aO => exact (by (with_reducible repeat ((apply Kd.R_alloc))); exact HO_3.out)); (case aS => exact (below_size (by repeat ((with_reducible (exact HB.out)))))); (case aL => have := LMc11.out; omega); intro v230 w12 ho hb hg hat; rw [← Ny229.out] at ho; have n0_ := Aside0.mk (hb); have n1_ := Aside0.mk (ho); clear HB; clear HO_3; have HB := n0_; have HO231 := n1_; clear n0_ n1_; clear ho hb hg hat)))
       go_roundg k1
       case measure => have := HK1.out; omega
       case rel => exact ⟨(y229), (wrap64 (x4_1 + 1)), (by rfl), H', ⟨by have := HK1.out; omega⟩, ⟨by (with_reducible repeat ((apply Kd.R_alloc))); exact HO231.out⟩, ⟨by repeat ((with_reducible (exact HB.out)))⟩⟩
      ·rw [if_neg c11] at H
       exact absurd H (by simp)
    ·rw [if_neg c3] at H
     exact absurd H (by simp)
   ·rw [if_neg c2] at H
    have c2b0 : decide (x4_1 < (a0.size : Int)) = false := decide_eq_false c2
    clear c2
    obtain rfl := Option.some.inj H
    have hcv13 := own_string (P := Try.prog) Try.underlying70 Try.underlying5 Try.underlying9 (Kd.own_of_R HO_3.out)
    go_wp2
    go_ret
    exact ⟨by rfl, by repeat ((with_reducible (exact HB.out)))⟩
def beadrollref07_Fold.l0 : Nat → List ByteArray → ByteArray → Int → Option (ByteArray)
 | 0, _, _, _ => none
 | k + 1, x3, x5, x6 => if x6 < (x3.length : Int) then (if 0 ≤ x6 then ((some (([(((rdOf ByteArray.empty x3 x6).size : Int)) % 256] : List Int) : List Int)).bind fun y237 => ((beadrollref07_lower.f k (rdOf ByteArray.empty x3 x6)).bind fun t241 => (if (strOfNums y237).size + t241.size ≤ 9223372036854775807 then (if x5.size + ((strOfNums y237) ++ t241).size ≤ 9223372036854775807 then (beadrollref07_Fold.l0 k x3 (x5 ++ ((strOfNums y237) ++ t241)) (wrap64 (x6 + 1))) else (none)) else (none)))) else (none)) else (if x5.size + 1 ≤ 9223372036854775807 then (some (x5 ++ (⟨#[0]⟩ : ByteArray))) else (none))
def beadrollref07_Fold.f (k : Nat) (a0 : ByteArray) : Option (ByteArray) := (beadrollref07_Labels.f k a0).bind fun bt232 => (if bt232.2 = true then (beadrollref07_Fold.l0 k bt232.1 (⟨#[]⟩ : ByteArray) 0) else (some (⟨#[]⟩ : ByteArray)))
def beadrollref07_Fold.T8 : Bool × List (List Nat × List Nat) := (true, [([], []), ([], []), ([], []), ([1, 2], [1, 2]), ([3], [3]), ([4], [4]), ([5], [5]), ([6], [6]), ([7], [7]), ([], []), ([], []), ([9, 10], [9, 10]), ([11], [11]), ([12], [12]), ([8, 13], [8, 13]), ([0, 14], [0, 14]), ([15, 13, 0, 1, 2, 3, 4, 5, 6, 7, 8, 9, 10, 11, 12, 13, 14, 15], [0, 15])])
def beadrollref07_Fold.B8 : List Nat := [0, 0, 0, 6, 14, 30, 62, 126, 254, 0, 0, 1536, 3584, 7680, 16382, 32767, 65535]
theorem beadrollref07_Fold.tab8 : rtab .any (opsOf Try.f41 8) = beadrollref07_Fold.T8 := by kernel_rfl
theorem beadrollref07_Fold.bits8 : waitsOk beadrollref07_Fold.T8.2 beadrollref07_Fold.B8 = true := by kernel_rfl
set_option maxHeartbeats 8000000 in
set_option maxRecDepth 100000 in
theorem beadrollref07_Fold.calls (k : Nat) (a0 : ByteArray) (r : ByteArray) (w : World) (h : beadrollref07_Fold.f k a0 = some r) :
  Calls Try.prog 41 #[.string a0] w fun e w' => e = .returned (.string r) ∧ Below w.heap.size w w' := by
 have HB := Aside0.mk (Below.refl w.heap.size w)
 have H : ((beadrollref07_Labels.f k a0).bind fun bt232 => (if bt232.2 = true then (beadrollref07_Fold.l0 k bt232.1 (⟨#[]⟩ : ByteArray) 0) else (some (⟨#[]⟩ : ByteArray)))) = some r := h
 clear h
 replace H := Option.bind_eq_some_iff.mp H
 obtain ⟨⟨t232, t233⟩, A20, H⟩ := H
 replace H : (if t233 = true then (beadrollref07_Fold.l0 k t232 (⟨#[]⟩ : ByteArray) 0) else (some (⟨#[]⟩ : ByteArray))) = some r := H
 have A2 := Aside0.mk A20
 clear A20
 by_cases c3 : t233 = true
 ·subst c3
  have H1 : (beadrollref07_Fold.l0 k t232 (⟨#[]⟩ : ByteArray) 0) = some r := by rw [if_pos rfl] at H; exact H
  clear H
  have H := H1
  clear H1
  have H' := Aside0.mk H
  clear H
  go_enter Try.func41, Try.ntmps41
  go_wp2_with ((((with_reducible refine gate_callee (f := 39) rfl ?_); refine goesL_ (some 9) rfl rfl Try.func39 (by kernel_rfl) rfl #[.string a0] rfl (by (try simp only [List.map_toArray, List.map_cons, List.map_nil]); rfl) ?_; (with_reducible refine (beadrollref07_Labels.calls k a0 t232 true _ A2.out).mono ?_); rintro e w4 ⟨v234, rfl, ho0, hb⟩; refine ⟨_, rfl, ?_⟩; have n0_ := Aside0.mk (Kd.R_lower ho0 (below_size (by repeat ((with_reducible (exact HB.out)))))); have n1_ := Aside0.mk (below_step (by repeat ((with_reducible (exact HB.out)))) hb); clear HB; have HO235 := n0_; have HB := n1_; clear n0_ n1_; (try clear hb); (try clear ho0))))
  go_loopg [5, 6] k (fun kq v5 v6 w' => ∃ (x5_1 : ByteArray) (x6_1 : Int), v5 = .string x5_1 ∧ v6 = .int .i64 x6_1 ∧ Aside0 (beadrollref07_Fold.l0 kq t232 x5_1 x6_1 = some r) ∧ Aside0 (kq ≤ k) ∧ Aside0 (Kd.R Kd.string 9 w' w.heap.size (fun _ => True) v234 t232) ∧ Aside0 (Below w.heap.size w w'))
  case atStart => exact ⟨((⟨#[]⟩ : ByteArray)), (0), (by rfl), (by rfl), H', ⟨Nat.le_refl _⟩, ⟨by (with_reducible repeat ((apply Kd.R_alloc))); exact HO235.out⟩, ⟨by repeat ((with_reducible (exact HB.out)))⟩⟩
  case round =>
   clear H'
   obtain ⟨x5_1, x6_1, rfl, rfl, HA, HK1, HO_3, HB⟩ := hrel
   cases gk with
   | zero => exact absurd HA.out (by simp [beadrollref07_Fold.l0])
   | succ k1 =>
    have H := HA.out
    clear HA
    simp only [beadrollref07_Fold.l0] at H
    by_cases c5 : x6_1 < (t232.length : Int)
    ·rw [if_pos c5] at H
     have c5b0 : decide (x6_1 < (t232.length : Int)) = true := decide_eq_true c5
     clear c5
     by_cases c6 : 0 ≤ x6_1
     ·rw [if_pos c6] at H
      have c6b0 : decide (0 ≤ x6_1) = true := decide_eq_true c6
      clear c6
      obtain ⟨y237, hy237⟩ : ∃ y_ : List Int, y_ = (([(((rdOf ByteArray.empty t232 x6_1).size : Int)) % 256] : List Int)) := ⟨_, rfl⟩
      replace H : ((beadrollref07_lower.f k1 (rdOf ByteArray.empty t232 x6_1)).bind fun t241 => (if (strOfNums y237).size + t241.size ≤ 9223372036854775807 then (if x5_1.size + ((strOfNums y237) ++ t241).size ≤ 9223372036854775807 then (beadrollref07_Fold.l0 k1 t232 (x5_1 ++ ((strOfNums y237) ++ t241)) (wrap64 (x6_1 + 1))) else (none)) else (none))) = some r := by (have H2_ := (Option.bind_some _ _).symm.trans H; rw [hy237]; with_reducible exact H2_)
      have Ny237 := Aside0.mk hy237
      clear hy237
      replace H := Option.bind_eq_some_iff.mp H
      obtain ⟨t241, A70, H⟩ := H
      replace H : (if (strOfNums y237).size + t241.size ≤ 9223372036854775807 then (if x5_1.size + ((strOfNums y237) ++ t241).size ≤ 9223372036854775807 then (beadrollref07_Fold.l0 k1 t232 (x5_1 ++ ((strOfNums y237) ++ t241)) (wrap64 (x6_1 + 1))) else (none)) else (none)) = some r := H
      have A7 := Aside0.mk A70
      clear A70
      by_cases c8 : (strOfNums y237).size + t241.size ≤ 9223372036854775807
      ·rw [if_pos c8] at H
       have c8b0 := eq_true c8
       have c8b1 : decide ((strOfNums y237).size + t241.size ≤ 9223372036854775807) = true := decide_eq_true c8
       (try have c8b2 : (9223372036854775807 < (strOfNums y237).size + t241.size) = False := eq_false (Nat.not_lt.2 c8))
       by_cases c9 : x5_1.size + ((strOfNums y237) ++ t241).size ≤ 9223372036854775807
       ·rw [if_pos c9] at H
        have c9b0 := eq_true c9
        have c9b1 : decide (x5_1.size + ((strOfNums y237) ++ t241).size ≤ 9223372036854775807) = true := decide_eq_true c9
        (try have c9b2 : (9223372036854775807 < x5_1.size + ((strOfNums y237) ++ t241).size) = False := eq_false (Nat.not_lt.2 c9))
        (try have c9b3 := c9b2)
        (try simp only [ByteArray.size_append] at c9b3)
        have H' := Aside0.mk H
        clear H
        obtain ⟨Ao10, co10, eo10⟩ := Kd.R_slice HO_3.out
        subst eo10
        (try go_wp2)
        have n0_ := Aside0.mk (Kd.R_drew HO_3.out)
        have n1_ := Aside0.mk (below_drew1 HB.out)
        clear HO_3
        clear HB
        have HO_3 := n0_
        have HB := n1_
        clear n0_ n1_
        have p236 : 0 ≤ (x6_1 : Int) := of_decide_eq_true (by (with_reducible assumption))
        have q236 : x6_1 < (t232.length : Int) := of_decide_eq_true (by (with_reducible assumption))
        obtain ⟨ad236, e236, hx236_0⟩ := Kd.at_string (Kd.R_reads' HO_3.out).2.2 x6_1 p236 q236
        cases e236
        replace p236 := eq_true p236
        replace q236 := eq_true q236
        have p240 : 0 ≤ (x6_1 : Int) := of_decide_eq_true (by (with_reducible assumption))
        have q240 : x6_1 < (t232.length : Int) := of_decide_eq_true (by (with_reducible assumption))
        obtain ⟨ad240, e240, hx240_0⟩ := Kd.at_string (Kd.R_reads' HO_3.out).2.2 x6_1 p240 q240
        obtain rfl : ad236 = ad240 := (by injection e240)
        replace p240 := eq_true p240
        replace q240 := eq_true q240
        refine start_ (n := 17) (S := fun w' => w'.cell? (ad236.add (x6_1).toNat) = some (.string (rdOf ByteArray.empty t232 x6_1)) ∧ w'.cell? (ad236.add (x6_1).toNat) = some (.string (rdOf ByteArray.empty t232 x6_1))) (ds := []) #[false, false, false, false, false, false, false, false, false, false, false, false, false, false, false, false, false] (by kernel_rfl) rfl rfl ⟨hx236_0, hx240_0⟩ (fun hHeld => ?_); refine with_tabW beadrollref07_Fold.tab8 beadrollref07_Fold.bits8 (fun HT_ HW_ => ?_)
        generalize wr.drew = w11 at HO_3 HB hx236_0 hx240_0 hHeld ⊢
        refine pure_ (i := 0) (N := some 20) (v := ?_) (a' := ?_) #[true, false, false, false, false, false, false, false, false, false, false, false, false, false, false, false, false] rfl rfl (any_of HT_.out (by kernel_rfl)) (fun _ _ _ h => h) (Or.inl ⟨by rfl, ?_⟩) ?_ ?_
        rotate_left
        ·intro w'
         go_simp
         with_reducible rfl
        rotate_left
        ·simp only [Act.put, List.setIfInBounds_toArray, List.set_cons_zero, List.set_cons_succ, i64_w, i32_w]
         rfl
        refine pure_ (i := 1) (N := some 21) (v := ?_) (a' := ?_) #[true, true, false, false, false, false, false, false, false, false, false, false, false, false, false, false, false] rfl rfl (any_of HT_.out (by kernel_rfl)) (fun _ _ _ h => h) (Or.inl ⟨by rfl, ?_⟩) ?_ ?_
        rotate_left
        ·intro w'
         go_simp
         with_reducible rfl
        rotate_left
        ·simp only [Act.put, List.setIfInBounds_toArray, List.set_cons_zero, List.set_cons_succ, i64_w, i32_w]
         rfl
        refine pure_ (i := 2) (N := some 22) (v := ?_) (a' := ?_) #[true, true, true, false, false, false, false, false, false, false, false, false, false, false, false, false, false] rfl rfl (any_of HT_.out (by kernel_rfl)) (fun _ _ _ h => h) (Or.inl ⟨by rfl, ?_⟩) ?_ ?_
        rotate_left
        ·intro w'
         go_simp
         with_reducible rfl
        rotate_left
        ·simp only [Act.put, List.setIfInBounds_toArray, List.set_cons_zero, List.set_cons_succ, i64_w, i32_w]
         rfl
        refine pure_ (i := 3) (N := some 23) (v := ?_) (a' := ?_) #[true, true, true, true, false, false, false, false, false, false, false, false, false, false, false, false, false] rfl rfl (any_of HT_.out (by kernel_rfl)) (fun _ _ _ h => h) (Or.inl ⟨by rfl, ?_⟩) ?_ ?_
        rotate_left
        ·intro w'
         go_simp
         with_reducible rfl
        rotate_left
        ·simp only [Act.put, List.setIfInBounds_toArray, List.set_cons_zero, List.set_cons_succ, i64_w, i32_w]
         rfl
        refine pure_ (i := 9) (N := some 29) (v := ?_) (a' := ?_) #[true, true, true, true, false, false, false, false, false, true, false, false, false, false, false, false, false] rfl rfl (any_of HT_.out (by kernel_rfl)) (fun _ _ _ h => h) (Or.inl ⟨by rfl, ?_⟩) ?_ ?_
        rotate_left
        ·intro w'
         go_simp
         with_reducible rfl
        rotate_left
        ·simp only [Act.put, List.setIfInBounds_toArray, List.set_cons_zero, List.set_cons_succ, i64_w, i32_w]
         rfl
        refine pure_ (i := 10) (N := some 30) (v := ?_) (a' := ?_) #[true, true, true, true, false, false, false, false, false, true, true, false, false, false, false, false, false] rfl rfl (any_of HT_.out (by kernel_rfl)) (fun _ _ _ h => h) (Or.inl ⟨by rfl, ?_⟩) ?_ ?_
        rotate_left
        ·intro w'
         go_simp
         with_reducible rfl
        rotate_left
        ·simp only [Act.put, List.setIfInBounds_toArray, List.set_cons_zero, List.set_cons_succ, i64_w, i32_w]
         rfl
        refine pure_ (i := 11) (N := some 31) (v := ?_) (a' := ?_) #[true, true, true, true, false, false, false, false, false, true, true, true, false, false, false, false, false] rfl rfl (any_of HT_.out (by kernel_rfl)) (fun _ _ _ h => h) (Or.inl ⟨by rfl, ?_⟩) ?_ ?_
        rotate_left
        ·intro w'
         go_simp
         with_reducible rfl
        rotate_left
        ·simp only [Act.put, List.setIfInBounds_toArray, List.set_cons_zero, List.set_cons_succ, i64_w, i32_w]
         rfl
        refine take_ (i := 4) (N := some 24) (v := ?_) (a' := ?_) #[true, true, true, true, true, false, false, false, false, true, true, true, false, false, false, false, false] rfl rfl (take_ofW HT_.out HW_.out (by kernel_rfl)) (fun _ _ _ h => h) (Or.inl ⟨by rfl, ?_⟩) hHeld ?_ ?_
        rotate_left
        ·rintro w' ⟨s0, s1⟩
         go_simp
         with_reducible rfl
        rotate_left
        ·simp only [Act.put, List.setIfInBounds_toArray, List.set_cons_zero, List.set_cons_succ, i64_w, i32_w]
         rfl
        refine pure_ (i := 5) (N := some 25) (v := ?_) (a' := ?_) #[true, true, true, true, true, true, false, false, false, true, true, true, false, false, false, false, false] rfl rfl (any_of HT_.out (by kernel_rfl)) (fun _ _ _ h => h) (Or.inl ⟨by rfl, ?_⟩) ?_ ?_
        rotate_left
        ·intro w'
         go_simp
         with_reducible rfl
        rotate_left
        ·simp only [Act.put, List.setIfInBounds_toArray, List.set_cons_zero, List.set_cons_succ, i64_w, i32_w]
         rfl
        refine pure_ (i := 6) (N := some 26) (v := ?_) (a' := ?_) #[true, true, true, true, true, true, true, false, false, true, true, true, false, false, false, false, false] rfl rfl (any_of HT_.out (by kernel_rfl)) (fun _ _ _ h => h) (Or.inl ⟨by rfl, ?_⟩) ?_ ?_
        rotate_left
        ·intro w'
         go_simp
         with_reducible rfl
        rotate_left
        ·simp only [Act.put, List.setIfInBounds_toArray, List.set_cons_zero, List.set_cons_succ, i64_w, i32_w]
         rfl
        refine take_ (i := 12) (N := some 32) (v := ?_) (a' := ?_) #[true, true, true, true, true, true, true, false, false, true, true, true, true, false, false, false, false] rfl rfl (take_ofW HT_.out HW_.out (by kernel_rfl)) (fun _ _ _ h => h) (Or.inl ⟨by rfl, ?_⟩) hHeld ?_ ?_
        rotate_left
        ·rintro w' ⟨s0, s1⟩
         go_simp
         with_reducible rfl
        rotate_left
        ·simp only [Act.put, List.setIfInBounds_toArray, List.set_cons_zero, List.set_cons_succ, i64_w, i32_w]
         rfl
        refine join_ (σ := Value) 3 #[true, true, true, true, true, true, true, true, true, true, true, true, true, true, false, false, false] (fun s_ => [(27, s_), (28, .string (strOfNums y237)), (33, .string t241)]) (fun s_ w' => (w'.cell? (ad236.add (x6_1).toNat) = some (.string (rdOf ByteArray.empty t232 x6_1)) ∧ w'.cell? (ad236.add (x6_1).toNat) = some (.string (rdOf ByteArray.empty t232 x6_1))) ∧ (Kd.R (Kd.int .u8) 5 w' w.heap.size (fun _ => True) s_ y237) ∧ (Kd.R Kd.string 9 w' w.heap.size (fun _ => True) (.slice (some ad236) t232.length co10) t232) ∧ (Below w.heap.size w w')) ?_ ?_
        rotate_left
        ·intro hCont
         refine two_ (i := 7) (j := 13) (Ni := some 27) (Nj := some 33) #[true, true, true, true, true, true, true, true, false, true, true, true, true, false, false, false, false] #[true, true, true, true, true, true, true, false, false, true, true, true, true, true, false, false, false] rfl rfl rfl rfl (two_of HT_.out (by kernel_rfl)) (by decide) (by decide) (fun K hK => ?_) (fun K hK => ?_)
         ·skip
          refine Kd.R_lit_step (Kd.int .u8) _ 5 ?hg (N := 27) ?hd (xs := ([(((rdOf ByteArray.empty t232 x6_1).size : Int)) % 256] : List Int)) (inner := [.int .u8 ((((rdOf ByteArray.empty t232 x6_1).size : Int)) % 256)]) (ok := fun _ => True) (okp := fun _ => True) ?hr ?hp (fun _ hk => hk) trivial (Below.refl _ _) (Nat.le_refl _) (by simp) ?_; (case hd => rfl); (case hg => rfl); (case hr => (go_simp; rfl)); (case hp => exact (Reps.one (show Kd.M (Kd.int .u8) _ _ _ ((((rdOf ByteArray.empty t232 x6_1).size : Int)) % 256) [.int .u8 ((((rdOf ByteArray.empty t232 x6_1).size : Int)) % 256)] from rfl) (Reps.none _ _)))
          intro v238 w12 ho13 hb hg_ hnew_
          have HS0_ := (hb.cell (World.block_lt_of_cell? _ _ (hHeld.1))).trans (hHeld.1)
          have HS1_ := (hb.cell (World.block_lt_of_cell? _ _ (hHeld.2))).trans (hHeld.2)
          clear hg_ hnew_
          ((rw [← Ny237.out] at ho13))
          have n0_ := Aside0.mk (Kd.R_below (by (with_reducible repeat ((apply Kd.R_alloc))); exact HO_3.out) hb)
          have n1_ := Aside0.mk (Kd.R_lower ho13 (below_size (by repeat ((with_reducible (exact HB.out))))))
          have n2_ := Aside0.mk (below_step (by repeat ((with_reducible (exact HB.out)))) hb)
          clear HO_3
          clear HB
          have HO_3 := n0_
          have HO239 := n1_
          have HB := n2_
          clear n0_ n1_ n2_
          clear hb ho13
          refine hK.out _ _ ⟨HS0_, HS1_⟩ (fun hHeld => ?_)
          clear hK K
          refine norm_ (a' := ?_) ?_ ?_
          rotate_left
          ·show Act.put _ (some 27) _ = _
           simp only [Act.put, List.setIfInBounds_toArray, List.set_cons_zero, List.set_cons_succ, i64_w, i32_w]
           rfl
          refine two_ (i := 8) (j := 13) (Ni := some 28) (Nj := some 33) #[true, true, true, true, true, true, true, true, true, true, true, true, true, false, false, false, false] #[true, true, true, true, true, true, true, true, false, true, true, true, true, true, false, false, false] rfl rfl rfl rfl (two_of HT_.out (by kernel_rfl)) (by decide) (by decide) (fun K hK => ?_) (fun K hK => ?_)
          ·skip
           have hcv14 := own_string (P := Try.prog) Try.underlying70 Try.underlying5 Try.underlying9 (Kd.own_of_R HO239.out)
           refine value_ (w1 := ?_) (v := ?_) (by rfl) rfl ?_ ?_
           rotate_left 2
           ·go_simp
            constructor
            ·rfl
            ·rfl
           clear hcv14
           refine hK.out _ _ ⟨hHeld.1, hHeld.2⟩ (fun hHeld => ?_)
           clear hK K
           refine norm_ (a' := ?_) ?_ ?_
           rotate_left
           ·show Act.put _ (some 28) _ = _
            simp only [Act.put, List.setIfInBounds_toArray, List.set_cons_zero, List.set_cons_succ, i64_w, i32_w]
            rfl
           refine one_ (i := 13) (N := some 33) #[true, true, true, true, true, true, true, true, true, true, true, true, true, true, false, false, false] rfl rfl (one_of HT_.out (by kernel_rfl)) (by decide) (fun K hK => ?_)
           refine goes_ Try.func55 (by kernel_rfl) rfl #[.string (rdOf ByteArray.empty t232 x6_1)] (by rfl) rfl rfl (by (try simp only [List.map_toArray, List.map_cons, List.map_nil]); rfl) ?_
           with_reducible refine (beadrollref07_lower.calls k1 (rdOf ByteArray.empty t232 x6_1) t241 _ A7.out).mono ?_
           rintro e w15 ⟨rfl, hb⟩
           have HS0_ := (hb.cell (World.block_lt_of_cell? _ _ (hHeld.1))).trans (hHeld.1)
           have HS1_ := (hb.cell (World.block_lt_of_cell? _ _ (hHeld.2))).trans (hHeld.2)
           refine ⟨_, rfl, ?_⟩
           have n0_ := Aside0.mk (Kd.R_below (by (with_reducible repeat ((apply Kd.R_alloc))); exact HO_3.out) hb)
           have n1_ := Aside0.mk (Kd.R_below (by (with_reducible repeat ((apply Kd.R_alloc))); exact HO239.out) hb)
           have n2_ := Aside0.mk (below_step (by repeat ((with_reducible (exact HB.out)))) hb)
           clear HO_3
           clear HO239
           clear HB
           have HO_3 := n0_
           have HO239 := n1_
           have HB := n2_
           clear n0_ n1_ n2_
           (try clear hb)
           refine hK.out _ _ ⟨HS0_, HS1_⟩ (fun hHeld => ?_)
           clear hK K
           refine norm_ (a' := ?_) ?_ ?_
           rotate_left
           ·show Act.put _ (some 33) _ = _
            simp only [Act.put, List.setIfInBounds_toArray, List.set_cons_zero, List.set_cons_succ, i64_w, i32_w]
            rfl
           exact norm_ (by simp only [putAll, Act.put, List.setIfInBounds_toArray, List.set_cons_zero, List.set_cons_succ]) (hCont (v238) _ ⟨hHeld, (by (with_reducible repeat ((apply Kd.R_alloc))); exact HO239.out), (by (with_reducible repeat ((apply Kd.R_alloc))); exact HO_3.out), (by repeat ((with_reducible (exact HB.out))))⟩)
          ·skip
           refine goes_ Try.func55 (by kernel_rfl) rfl #[.string (rdOf ByteArray.empty t232 x6_1)] (by rfl) rfl rfl (by (try simp only [List.map_toArray, List.map_cons, List.map_nil]); rfl) ?_
           with_reducible refine (beadrollref07_lower.calls k1 (rdOf ByteArray.empty t232 x6_1) t241 _ A7.out).mono ?_
           rintro e w14 ⟨rfl, hb⟩
           have HS0_ := (hb.cell (World.block_lt_of_cell? _ _ (hHeld.1))).trans (hHeld.1)
           have HS1_ := (hb.cell (World.block_lt_of_cell? _ _ (hHeld.2))).trans (hHeld.2)
           refine ⟨_, rfl, ?_⟩
           have n0_ := Aside0.mk (Kd.R_below (by (with_reducible repeat ((apply Kd.R_alloc))); exact HO_3.out) hb)
           have n1_ := Aside0.mk (Kd.R_below (by (with_reducible repeat ((apply Kd.R_alloc))); exact HO239.out) hb)
           have n2_ := Aside0.mk (below_step (by repeat ((with_reducible (exact HB.out)))) hb)
           clear HO_3
           clear HO239
           clear HB
           have HO_3 := n0_
           have HO239 := n1_
           have HB := n2_
           clear n0_ n1_ n2_
           (try clear hb)
           refine hK.out _ _ ⟨HS0_, HS1_⟩ (fun hHeld => ?_)
           clear hK K
           refine norm_ (a' := ?_) ?_ ?_
           rotate_left
           ·show Act.put _ (some 33) _ = _
            simp only [Act.put, List.setIfInBounds_toArray, List.set_cons_zero, List.set_cons_succ, i64_w, i32_w]
            rfl
           refine one_ (i := 8) (N := some 28) #[true, true, true, true, true, true, true, true, true, true, true, true, true, true, false, false, false] rfl rfl (one_of HT_.out (by kernel_rfl)) (by decide) (fun K hK => ?_)
           have hcv15 := own_string (P := Try.prog) Try.underlying70 Try.underlying5 Try.underlying9 (Kd.own_of_R HO239.out)
           refine value_ (w1 := ?_) (v := ?_) (by rfl) rfl ?_ ?_
           rotate_left 2
           ·go_simp
            constructor
            ·rfl
            ·rfl
           clear hcv15
           refine hK.out _ _ ⟨hHeld.1, hHeld.2⟩ (fun hHeld => ?_)
           clear hK K
           refine norm_ (a' := ?_) ?_ ?_
           rotate_left
           ·show Act.put _ (some 28) _ = _
            simp only [Act.put, List.setIfInBounds_toArray, List.set_cons_zero, List.set_cons_succ, i64_w, i32_w]
            rfl
           exact norm_ (by simp only [putAll, Act.put, List.setIfInBounds_toArray, List.set_cons_zero, List.set_cons_succ]) (hCont (v238) _ ⟨hHeld, (by (with_reducible repeat ((apply Kd.R_alloc))); exact HO239.out), (by (with_reducible repeat ((apply Kd.R_alloc))); exact HO_3.out), (by repeat ((with_reducible (exact HB.out))))⟩)
         ·skip
          refine goes_ Try.func55 (by kernel_rfl) rfl #[.string (rdOf ByteArray.empty t232 x6_1)] (by rfl) rfl rfl (by (try simp only [List.map_toArray, List.map_cons, List.map_nil]); rfl) ?_
          with_reducible refine (beadrollref07_lower.calls k1 (rdOf ByteArray.empty t232 x6_1) t241 _ A7.out).mono ?_
          rintro e w12 ⟨rfl, hb⟩
          have HS0_ := (hb.cell (World.block_lt_of_cell? _ _ (hHeld.1))).trans (hHeld.1)
          have HS1_ := (hb.cell (World.block_lt_of_cell? _ _ (hHeld.2))).trans (hHeld.2)
          refine ⟨_, rfl, ?_⟩
          have n0_ := Aside0.mk (Kd.R_below (by (with_reducible repeat ((apply Kd.R_alloc))); exact HO_3.out) hb)
          have n1_ := Aside0.mk (below_step (by repeat ((with_reducible (exact HB.out)))) hb)
          clear HO_3
          clear HB
          have HO_3 := n0_
          have HB := n1_
          clear n0_ n1_
          (try clear hb)
          refine hK.out _ _ ⟨HS0_, HS1_⟩ (fun hHeld => ?_)
          clear hK K
          refine norm_ (a' := ?_) ?_ ?_
          rotate_left
          ·show Act.put _ (some 33) _ = _
           simp only [Act.put, List.setIfInBounds_toArray, List.set_cons_zero, List.set_cons_succ, i64_w, i32_w]
           rfl
          refine one_ (i := 7) (N := some 27) #[true, true, true, true, true, true, true, true, false, true, true, true, true, true, false, false, false] rfl rfl (one_of HT_.out (by kernel_rfl)) (by decide) (fun K hK => ?_)
          refine Kd.R_lit_step (Kd.int .u8) _ 5 ?hg (N := 27) ?hd (xs := ([(((rdOf ByteArray.empty t232 x6_1).size : Int)) % 256] : List Int)) (inner := [.int .u8 ((((rdOf ByteArray.empty t232 x6_1).size : Int)) % 256)]) (ok := fun _ => True) (okp := fun _ => True) ?hr ?hp (fun _ hk => hk) trivial (Below.refl _ _) (Nat.le_refl _) (by simp) ?_; (case hd => rfl); (case hg => rfl); (case hr => (go_simp; rfl)); (case hp => exact (Reps.one (show Kd.M (Kd.int .u8) _ _ _ ((((rdOf ByteArray.empty t232 x6_1).size : Int)) % 256) [.int .u8 ((((rdOf ByteArray.empty t232 x6_1).size : Int)) % 256)] from rfl) (Reps.none _ _)))
          intro v238 w13 ho14 hb hg_ hnew_
          have HS0_ := (hb.cell (World.block_lt_of_cell? _ _ (hHeld.1))).trans (hHeld.1)
          have HS1_ := (hb.cell (World.block_lt_of_cell? _ _ (hHeld.2))).trans (hHeld.2)
          clear hg_ hnew_
          ((rw [← Ny237.out] at ho14))
          have n0_ := Aside0.mk (Kd.R_below (by (with_reducible repeat ((apply Kd.R_alloc))); exact HO_3.out) hb)
          have n1_ := Aside0.mk (Kd.R_lower ho14 (below_size (by repeat ((with_reducible (exact HB.out))))))
          have n2_ := Aside0.mk (below_step (by repeat ((with_reducible (exact HB.out)))) hb)
          clear HO_3
          clear HB
          have HO_3 := n0_
          have HO239 := n1_
          have HB := n2_
          clear n0_ n1_ n2_
          clear hb ho14
          refine hK.out _ _ ⟨HS0_, HS1_⟩ (fun hHeld => ?_)
          clear hK K
          refine norm_ (a' := ?_) ?_ ?_
          rotate_left
          ·show Act.put _ (some 27) _ = _
           simp only [Act.put, List.setIfInBounds_toArray, List.set_cons_zero, List.set_cons_succ, i64_w, i32_w]
           rfl
          refine one_ (i := 8) (N := some 28) #[true, true, true, true, true, true, true, true, true, true, true, true, true, true, false, false, false] rfl rfl (one_of HT_.out (by kernel_rfl)) (by decide) (fun K hK => ?_)
          have hcv15 := own_string (P := Try.prog) Try.underlying70 Try.underlying5 Try.underlying9 (Kd.own_of_R HO239.out)
          refine value_ (w1 := ?_) (v := ?_) (by rfl) rfl ?_ ?_
          rotate_left 2
          ·go_simp
           constructor
           ·rfl
           ·rfl
          clear hcv15
          refine hK.out _ _ ⟨hHeld.1, hHeld.2⟩ (fun hHeld => ?_)
          clear hK K
          refine norm_ (a' := ?_) ?_ ?_
          rotate_left
          ·show Act.put _ (some 28) _ = _
           simp only [Act.put, List.setIfInBounds_toArray, List.set_cons_zero, List.set_cons_succ, i64_w, i32_w]
           rfl
          exact norm_ (by simp only [putAll, Act.put, List.setIfInBounds_toArray, List.set_cons_zero, List.set_cons_succ]) (hCont (v238) _ ⟨hHeld, (by (with_reducible repeat ((apply Kd.R_alloc))); exact HO239.out), (by (with_reducible repeat ((apply Kd.R_alloc))); exact HO_3.out), (by repeat ((with_reducible (exact HB.out))))⟩)
        rintro v238 w16 ⟨hS_, h0_, h1_, h2_⟩
        have n0_ : Aside0 (Kd.R (Kd.int .u8) 5 w16 w.heap.size (fun _ => True) v238 y237) := ⟨h0_⟩
        have n1_ : Aside0 (Kd.R Kd.string 9 w16 w.heap.size (fun _ => True) (.slice (some ad236) t232.length co10) t232) := ⟨h1_⟩
        have n2_ : Aside0 (Below w.heap.size w w16) := ⟨h2_⟩
        clear HO_3
        clear HB
        clear h0_ h1_ h2_
        have HO239 := n0_
        have HO_3 := n1_
        have HB := n2_
        clear n0_ n1_ n2_
        have hHeld : w16.cell? (ad236.add (x6_1).toNat) = some (.string (rdOf ByteArray.empty t232 x6_1)) ∧ w16.cell? (ad236.add (x6_1).toNat) = some (.string (rdOf ByteArray.empty t232 x6_1)) := hS_
        refine norm_ (a' := ?_) ?_ ?_
        rotate_left
        ·simp only [putAll, Act.put, List.setIfInBounds_toArray, List.set_cons_zero, List.set_cons_succ]
         rfl
        refine pure_ (i := 14) (N := some 34) (v := ?_) (a' := ?_) #[true, true, true, true, true, true, true, true, true, true, true, true, true, true, true, false, false] rfl rfl (any_of HT_.out (by kernel_rfl)) (fun _ _ _ h => h) (Or.inl ⟨by rfl, ?_⟩) ?_ ?_
        rotate_left
        ·intro w'
         go_simp
         with_reducible rfl
        rotate_left
        ·simp only [Act.put, List.setIfInBounds_toArray, List.set_cons_zero, List.set_cons_succ, i64_w, i32_w]
         rfl
        refine pure_ (i := 15) (N := some 35) (v := ?_) (a' := ?_) #[true, true, true, true, true, true, true, true, true, true, true, true, true, true, true, true, false] rfl rfl (any_of HT_.out (by kernel_rfl)) (fun _ _ _ h => h) (Or.inl ⟨by rfl, ?_⟩) ?_ ?_
        rotate_left
        ·intro w'
         go_simp
         with_reducible rfl
        rotate_left
        ·simp only [Act.put, List.setIfInBounds_toArray, List.set_cons_zero, List.set_cons_succ, i64_w, i32_w]
         rfl
        refine pure_ (i := 16) (N := some 5) (v := ?_) (a' := ?_) #[true, true, true, true, true, true, true, true, true, true, true, true, true, true, true, true, true] rfl rfl (any_of HT_.out (by kernel_rfl)) (fun _ _ _ h => h) (Or.inl ⟨by rfl, ?_⟩) ?_ ?_
        rotate_left
        ·intro w'
         go_simp
         with_reducible rfl
        rotate_left
        ·simp only [Act.put, List.setIfInBounds_toArray, List.set_cons_zero, List.set_cons_succ, i64_w, i32_w]
         rfl
        refine done_ (done_of HT_.out (by kernel_rfl)) ?_
        (try go_wp2)
        go_roundg k1
        case measure => have := HK1.out; omega
        case rel => exact ⟨(x5_1 ++ ((strOfNums y237) ++ t241)), (wrap64 (x6_1 + 1)), (by rfl), (by rfl), H', ⟨by have := HK1.out; omega⟩, ⟨by (with_reducible repeat ((apply Kd.R_alloc))); exact HO_3.out⟩, ⟨by repeat ((with_reducible (exact HB.out)))⟩⟩
       ·rw [if_neg c9] at H
        exact absurd H (by simp)
      ·rw [if_neg c8] at H
       exact absurd H (by simp)
     ·rw [if_neg c6] at H
      exact absurd H (by simp)
    ·rw [if_neg c5] at H
     have c5b0 : decide (x6_1 < (t232.length : Int)) = false := decide_eq_false c5
     clear c5
     by_cases c17 : x5_1.size + 1 ≤ 9223372036854775807
     ·rw [if_pos c17] at H
      have c17b0 := eq_true c17
      have c17b1 : decide (x5_1.size + 1 ≤ 9223372036854775807) = true := decide_eq_true c17
      (try have c17b2 : (9223372036854775807 < x5_1.size + 1) = False := eq_false (Nat.not_lt.2 c17))
      obtain rfl := Option.some.inj H
      obtain ⟨Ao18, co18, eo18⟩ := Kd.R_slice HO_3.out
      subst eo18
      go_wp2
      go_ret
      exact ⟨by rfl, by repeat ((with_reducible (exact HB.out)))⟩
     ·rw [if_neg c17] at H
      exact absurd H (by simp)
 ·replace c3 := Bool.eq_false_iff.mpr c3
  subst c3
  have H1 : (some (⟨#[]⟩ : ByteArray)) = some r := by rw [if_neg (show ¬ (false = true) by decide)] at H; exact H
  clear H
  have H := H1
  clear H1
  obtain rfl := Option.some.inj H
  go_enter Try.func41, Try.ntmps41
  go_wp2_with ((((with_reducible refine gate_callee (f := 39) rfl ?_); refine goesL_ (some 9) rfl rfl Try.func39 (by kernel_rfl) rfl #[.string a0] rfl (by (try simp only [List.map_toArray, List.map_cons, List.map_nil]); rfl) ?_; (with_reducible refine (beadrollref07_Labels.calls k a0 t232 false _ A2.out).mono ?_); rintro e w19 ⟨v234, rfl, ho0, hb⟩; refine ⟨_, rfl, ?_⟩; have n0_ := Aside0.mk (Kd.R_lower ho0 (below_size (by repeat ((with_reducible (exact HB.out)))))); have n1_ := Aside0.mk (below_step (by repeat ((with_reducible (exact HB.out)))) hb); clear HB; have HO235 := n0_; have HB := n1_; clear n0_ n1_; (try clear hb); (try clear ho0))))
  go_ret
  exact ⟨by rfl, by repeat ((with_reducible (exact HB.out)))⟩
end Go.Proofs.Ytnpiglojamhpiaa.PRd
namespace Go.Proofs.Ytnpiglojamhpiaa.PRd
open Go.RowKit Go.Proofs.YtnpiglojamhpiaaW.PrintWords Go.Proofs.YtnpiglojamhpiaaW.PrintLast Go.Proofs.YtnpiglojamhpiaaW.PrintMore Go.Proofs.Ytnpiglojamhpiaa.Given
attribute [local go_sem] max2_int min2_int max_two min_two max_three min_three max_four min_four   -- for this text's walks alone
set_option linter.unusedVariables false
set_option linter.unusedSimpArgs false
def beadrollref10_Fold.l0 : Nat → List ByteArray → ByteArray → ByteArray → Int → Option (ByteArray)
 | 0, _, _, _, _ => none
 | k + 1, x5, x7, x8, x9 => if x9 < (x5.length : Int) then (if 0 ≤ x9 then (if x9 < (x7.size : Int) then (if (bt x7 x9) = 110 then ((beadrollref07_Fold.f k (rdOf ByteArray.empty x5 x9)).bind fun t249 => (if x8.size + t249.size ≤ 9223372036854775807 then (beadrollref10_Fold.l0 k x5 x7 (x8 ++ t249) (wrap64 (x9 + 1))) else (none))) else (if (bt x7 x9) = 117 then ((beadrollref07_Fold.f k (rdOf ByteArray.empty x5 x9)).bind fun t251 => (if x8.size + t251.size ≤ 9223372036854775807 then (beadrollref10_Fold.l0 k x5 x7 (x8 ++ t251) (wrap64 (x9 + 1))) else (none))) else (if x8.size + (rdOf ByteArray.empty x5 x9).size ≤ 9223372036854775807 then (beadrollref10_Fold.l0 k x5 x7 (x8 ++ (rdOf ByteArray.empty x5 x9)) (wrap64 (x9 + 1))) else (none)))) else (none)) else (none)) else (some x8)
def beadrollref10_Fold.f (k : Nat) (a0 : Int) (a1 : ByteArray) : Option (ByteArray) := (beadrollref10_Right.f k a0 a1).bind fun t242 => (if t242 = true then ((beadrollref10_Read.f k a1 0 (a1.size : Int) a0).bind fun bt243 => ((beadrollref10_Parts.f k a0).bind fun t247 => (beadrollref10_Fold.l0 k bt243.1 t247 (⟨#[]⟩ : ByteArray) 0))) else (some (⟨#[]⟩ : ByteArray)))
set_option maxHeartbeats 8000000 in
set_option maxRecDepth 100000 in
theorem beadrollref10_Fold.calls (k : Nat) (a0 : Int) (a1 : ByteArray) (r : ByteArray) (w : World) (h : beadrollref10_Fold.f k a0 a1 = some r) :
  Calls Try.prog 42 #[.int .i64 a0, .string a1] w fun e w' => e = .returned (.string r) ∧ Below w.heap.size w w' := by
 have HB := Aside0.mk (Below.refl w.heap.size w)
 have H : ((beadrollref10_Right.f k a0 a1).bind fun t242 => (if t242 = true then ((beadrollref10_Read.f k a1 0 (a1.size : Int) a0).bind fun bt243 => ((beadrollref10_Parts.f k a0).bind fun t247 => (beadrollref10_Fold.l0 k bt243.1 t247 (⟨#[]⟩ : ByteArray) 0))) else (some (⟨#[]⟩ : ByteArray)))) = some r := h
 clear h
 replace H := Option.bind_eq_some_iff.mp H
 obtain ⟨t242, A30, H⟩ := H
 replace H : (if t242 = true then ((beadrollref10_Read.f k a1 0 (a1.size : Int) a0).bind fun bt243 => ((beadrollref10_Parts.f k a0).bind fun t247 => (beadrollref10_Fold.l0 k bt243.1 t247 (⟨#[]⟩ : ByteArray) 0))) else (some (⟨#[]⟩ : ByteArray))) = some r := H
 have A3 := Aside0.mk A30
 clear A30
 by_cases c4 : t242 = true
 ·subst c4
  have H1 : ((beadrollref10_Read.f k a1 0 (a1.size : Int) a0).bind fun bt243 => ((beadrollref10_Parts.f k a0).bind fun t247 => (beadrollref10_Fold.l0 k bt243.1 t247 (⟨#[]⟩ : ByteArray) 0))) = some r := by rw [if_pos rfl] at H; exact H
  clear H
  have H := H1
  clear H1
  replace H := Option.bind_eq_some_iff.mp H
  obtain ⟨⟨t243, t244⟩, A50, H⟩ := H
  replace H : ((beadrollref10_Parts.f k a0).bind fun t247 => (beadrollref10_Fold.l0 k t243 t247 (⟨#[]⟩ : ByteArray) 0)) = some r := H
  have A5 := Aside0.mk A50
  clear A50
  replace H := Option.bind_eq_some_iff.mp H
  obtain ⟨t247, A60, H⟩ := H
  replace H : (beadrollref10_Fold.l0 k t243 t247 (⟨#[]⟩ : ByteArray) 0) = some r := H
  have A6 := Aside0.mk A60
  clear A60
  have H' := Aside0.mk H
  clear H
  go_enter Try.func42, Try.ntmps42
  go_wp2_with (first | ((with_reducible refine gate_callee (f := 26) rfl ?_); refine goesL_ (some 12) rfl rfl Try.func26 (by kernel_rfl) rfl #[.int .i64 a0, .string a1] rfl (by (try simp only [List.map_toArray, List.map_cons, List.map_nil]); rfl) ?_; (with_reducible refine (beadrollref10_Right.calls k a0 a1 true _ A3.out).mono ?_); rintro e w7 ⟨rfl, hb⟩; refine ⟨_, rfl, ?_⟩; have n0_ := Aside0.mk (below_step (by repeat ((with_reducible (exact HB.out)))) hb); clear HB; have HB := n0_; clear n0_; (try clear hb)) | ((with_reducible refine gate_callee (f := 53) rfl ?_); refine goesL_ (some 19) rfl rfl Try.func53 (by kernel_rfl) rfl #[.string a1, .int .i64 0, .int .i64 (a1.size : Int), .int .i64 a0] rfl (by (try simp only [List.map_toArray, List.map_cons, List.map_nil]); rfl) ?_; (with_reducible refine (beadrollref10_Read.calls k a1 0 (a1.size : Int) a0 t243 t244 _ A5.out).mono ?_); rintro e w8 ⟨v245, rfl, ho0, hb⟩; refine ⟨_, rfl, ?_⟩; have n0_ := Aside0.mk (Kd.R_lower ho0 (below_size (by repeat ((with_reducible (exact HB.out)))))); have n1_ := Aside0.mk (below_step (by repeat ((with_reducible (exact HB.out)))) hb); clear HB; have HO246 := n0_; have HB := n1_; clear n0_ n1_; (try clear hb); (try clear ho0)) | ((with_reducible refine gate_callee (f := 56) rfl ?_); refine goesL_ (some 23) rfl rfl Try.func56 (by kernel_rfl) rfl #[.int .i64 a0] rfl (by (try simp only [List.map_toArray, List.map_cons, List.map_nil]); rfl) ?_; (with_reducible refine (beadrollref10_Parts.calls k a0 t247 _ A6.out).mono ?_); rintro e w' ⟨rfl, ⟨nd, rfl⟩⟩; refine ⟨_, rfl, ?_⟩))
  go_loopg [8, 9] k (fun kq v8 v9 w' => ∃ (x8_1 : ByteArray) (x9_1 : Int), v8 = .string x8_1 ∧ v9 = .int .i64 x9_1 ∧ Aside0 (beadrollref10_Fold.l0 kq t243 t247 x8_1 x9_1 = some r) ∧ Aside0 (kq ≤ k) ∧ Aside0 (Kd.R Kd.string 9 w' w.heap.size (fun _ => True) v245 t243) ∧ Aside0 (Below w.heap.size w w'))
  case atStart => exact ⟨((⟨#[]⟩ : ByteArray)), (0), (by rfl), (by rfl), H', ⟨Nat.le_refl _⟩, ⟨by (with_reducible repeat ((apply Kd.R_drewN))); exact HO246.out⟩, ⟨by repeat ((with_reducible first | exact HB.out | apply pw_below_drewN))⟩⟩
  case round =>
   clear H'
   obtain ⟨x8_1, x9_1, rfl, rfl, HA, HK1, HO_5, HB⟩ := hrel
   cases gk with
   | zero => exact absurd HA.out (by simp [beadrollref10_Fold.l0])
   | succ k1 =>
    have H := HA.out
    clear HA
    simp only [beadrollref10_Fold.l0] at H
    by_cases c9 : x9_1 < (t243.length : Int)
    ·rw [if_pos c9] at H
     have c9b0 : decide (x9_1 < (t243.length : Int)) = true := decide_eq_true c9
     clear c9
     by_cases c10 : 0 ≤ x9_1
     ·rw [if_pos c10] at H
      have c10b0 : decide (0 ≤ x9_1) = true := decide_eq_true c10
      clear c10
      by_cases c11 : x9_1 < (t247.size : Int)
      ·rw [if_pos c11] at H
       have c11b0 : decide (x9_1 < (t247.size : Int)) = true := decide_eq_true c11
       clear c11
       by_cases c13 : (bt t247 x9_1) = 110
       ·rw [if_pos c13] at H
        have c13b0 : ((bt t247 x9_1) == 110) = true := beq_iff_eq.mpr c13
        have c13b1 : ((bt t247 x9_1) != 110) = false := bne_eq_false_iff_eq.mpr c13
        clear c13
        replace H := Option.bind_eq_some_iff.mp H
        obtain ⟨t249, A140, H⟩ := H
        replace H : (if x8_1.size + t249.size ≤ 9223372036854775807 then (beadrollref10_Fold.l0 k1 t243 t247 (x8_1 ++ t249) (wrap64 (x9_1 + 1))) else (none)) = some r := H
        have A14 := Aside0.mk A140
        clear A140
        by_cases c15 : x8_1.size + t249.size ≤ 9223372036854775807
        ·rw [if_pos c15] at H
         have c15b0 := eq_true c15
         have c15b1 : decide (x8_1.size + t249.size ≤ 9223372036854775807) = true := decide_eq_true c15
         (try have c15b2 : (9223372036854775807 < x8_1.size + t249.size) = False := eq_false (Nat.not_lt.2 c15))
         have H' := Aside0.mk H
         clear H
         obtain ⟨Ao16, co16, eo16⟩ := Kd.R_slice HO_5.out
         subst eo16
         have p12 : 0 ≤ (x9_1 : Int) := of_decide_eq_true (by (with_reducible assumption))
         have q12 : x9_1 < (t247.size : Int) := of_decide_eq_true (by (with_reducible assumption))
         have hx12 := bt_at t247 x9_1
         replace p12 := eq_true p12
         replace q12 := eq_true q12
         have p248 : 0 ≤ (x9_1 : Int) := of_decide_eq_true (by (with_reducible assumption))
         have q248 : x9_1 < (t243.length : Int) := of_decide_eq_true (by (with_reducible assumption))
         obtain ⟨ad248, e248, hx248_0⟩ := Kd.at_string (Kd.R_reads' HO_5.out).2.2 x9_1 p248 q248
         cases e248
         replace p248 := eq_true p248
         replace q248 := eq_true q248
         go_wp2_with ((((with_reducible refine gate_callee (f := 41) rfl ?_); refine goesL_ (some 45) rfl rfl Try.func41 (by kernel_rfl) rfl #[.string (rdOf ByteArray.empty t243 x9_1)] rfl (by (try simp only [List.map_toArray, List.map_cons, List.map_nil]); rfl) ?_; (with_reducible refine (beadrollref07_Fold.calls k1 (rdOf ByteArray.empty t243 x9_1) t249 _ A14.out).mono ?_); rintro e w17 ⟨rfl, hb⟩; refine ⟨_, rfl, ?_⟩; have n0_ := Aside0.mk (Kd.R_below (by (with_reducible repeat ((apply Kd.R_alloc))); exact HO_5.out) hb); have n1_ := Aside0.mk (below_step (by repeat ((with_reducible (exact HB.out)))) hb); clear HO_5; clear HB; have HO_5 := n0_; have HB := n1_; clear n0_ n1_; (try clear hb))))
         go_roundg k1
         case measure => have := HK1.out; omega
         case rel => exact ⟨(x8_1 ++ t249), (wrap64 (x9_1 + 1)), (by rfl), (by rfl), H', ⟨by have := HK1.out; omega⟩, ⟨by (with_reducible repeat ((apply Kd.R_alloc))); exact HO_5.out⟩, ⟨by repeat ((with_reducible (exact HB.out)))⟩⟩
        ·rw [if_neg c15] at H
         exact absurd H (by simp)
       ·rw [if_neg c13] at H
        have c13b0 : ((bt t247 x9_1) == 110) = false := beq_eq_false_iff_ne.mpr c13
        have c13b1 : ((bt t247 x9_1) != 110) = true := bne_iff_ne.mpr c13
        by_cases c19 : (bt t247 x9_1) = 117
        ·rw [if_pos c19] at H
         have c19b0 : ((bt t247 x9_1) == 117) = true := beq_iff_eq.mpr c19
         have c19b1 : ((bt t247 x9_1) != 117) = false := bne_eq_false_iff_eq.mpr c19
         clear c19
         replace H := Option.bind_eq_some_iff.mp H
         obtain ⟨t251, A200, H⟩ := H
         replace H : (if x8_1.size + t251.size ≤ 9223372036854775807 then (beadrollref10_Fold.l0 k1 t243 t247 (x8_1 ++ t251) (wrap64 (x9_1 + 1))) else (none)) = some r := H
         have A20 := Aside0.mk A200
         clear A200
         by_cases c21 : x8_1.size + t251.size ≤ 9223372036854775807
         ·rw [if_pos c21] at H
          have c21b0 := eq_true c21
          have c21b1 : decide (x8_1.size + t251.size ≤ 9223372036854775807) = true := decide_eq_true c21
          (try have c21b2 : (9223372036854775807 < x8_1.size + t251.size) = False := eq_false (Nat.not_lt.2 c21))
          have H' := Aside0.mk H
          clear H
          obtain ⟨Ao22, co22, eo22⟩ := Kd.R_slice HO_5.out
          subst eo22
          have p12 : 0 ≤ (x9_1 : Int) := of_decide_eq_true (by (with_reducible assumption))
          have q12 : x9_1 < (t247.size : Int) := of_decide_eq_true (by (with_reducible assumption))
          have hx12 := bt_at t247 x9_1
          replace p12 := eq_true p12
          replace q12 := eq_true q12
          have p18 : 0 ≤ (x9_1 : Int) := of_decide_eq_true (by (with_reducible assumption))
          have q18 : x9_1 < (t247.size : Int) := of_decide_eq_true (by (with_reducible assumption))
          have hx18 := bt_at t247 x9_1
          replace p18 := eq_true p18
          replace q18 := eq_true q18
          have p250 : 0 ≤ (x9_1 : Int) := of_decide_eq_true (by (with_reducible assumption))
          have q250 : x9_1 < (t243.length : Int) := of_decide_eq_true (by (with_reducible assumption))
          obtain ⟨ad250, e250, hx250_0⟩ := Kd.at_string (Kd.R_reads' HO_5.out).2.2 x9_1 p250 q250
          cases e250
          replace p250 := eq_true p250
          replace q250 := eq_true q250
          go_wp2_with ((((with_reducible refine gate_callee (f := 41) rfl ?_); refine goesL_ (some 45) rfl rfl Try.func41 (by kernel_rfl) rfl #[.string (rdOf ByteArray.empty t243 x9_1)] rfl (by (try simp only [List.map_toArray, List.map_cons, List.map_nil]); rfl) ?_; (with_reducible refine (beadrollref07_Fold.calls k1 (rdOf ByteArray.empty t243 x9_1) t251 _ A20.out).mono ?_); rintro e w23 ⟨rfl, hb⟩; refine ⟨_, rfl, ?_⟩; have n0_ := Aside0.mk (Kd.R_below (by (with_reducible repeat ((apply Kd.R_alloc))); exact HO_5.out) hb); have n1_ := Aside0.mk (below_step (by repeat ((with_reducible (exact HB.out)))) hb); clear HO_5; clear HB; have HO_5 := n0_; have HB := n1_; clear n0_ n1_; (try clear hb))))
          go_roundg k1
          case measure => have := HK1.out; omega
          case rel => exact ⟨(x8_1 ++ t251), (wrap64 (x9_1 + 1)), (by rfl), (by rfl), H', ⟨by have := HK1.out; omega⟩, ⟨by (with_reducible repeat ((apply Kd.R_alloc))); exact HO_5.out⟩, ⟨by repeat ((with_reducible (exact HB.out)))⟩⟩
         ·rw [if_neg c21] at H
          exact absurd H (by simp)
        ·rw [if_neg c19] at H
         have c19b0 : ((bt t247 x9_1) == 117) = false := beq_eq_false_iff_ne.mpr c19
         have c19b1 : ((bt t247 x9_1) != 117) = true := bne_iff_ne.mpr c19
         by_cases c24 : x8_1.size + (rdOf ByteArray.empty t243 x9_1).size ≤ 9223372036854775807
         ·rw [if_pos c24] at H
          have c24b0 := eq_true c24
          have c24b1 : decide (x8_1.size + (rdOf ByteArray.empty t243 x9_1).size ≤ 9223372036854775807) = true := decide_eq_true c24
          (try have c24b2 : (9223372036854775807 < x8_1.size + (rdOf ByteArray.empty t243 x9_1).size) = False := eq_false (Nat.not_lt.2 c24))
          have H' := Aside0.mk H
          clear H
          obtain ⟨Ao25, co25, eo25⟩ := Kd.R_slice HO_5.out
          subst eo25
          have p12 : 0 ≤ (x9_1 : Int) := of_decide_eq_true (by (with_reducible assumption))
          have q12 : x9_1 < (t247.size : Int) := of_decide_eq_true (by (with_reducible assumption))
          have hx12 := bt_at t247 x9_1
          replace p12 := eq_true p12
          replace q12 := eq_true q12
          have p18 : 0 ≤ (x9_1 : Int) := of_decide_eq_true (by (with_reducible assumption))
          have q18 : x9_1 < (t247.size : Int) := of_decide_eq_true (by (with_reducible assumption))
          have hx18 := bt_at t247 x9_1
          replace p18 := eq_true p18
          replace q18 := eq_true q18
          have p252 : 0 ≤ (x9_1 : Int) := of_decide_eq_true (by (with_reducible assumption))
          have q252 : x9_1 < (t243.length : Int) := of_decide_eq_true (by (with_reducible assumption))
          obtain ⟨ad252, e252, hx252_0⟩ := Kd.at_string (Kd.R_reads' HO_5.out).2.2 x9_1 p252 q252
          cases e252
          replace p252 := eq_true p252
          replace q252 := eq_true q252
          go_wp2
          go_roundg k1
          case measure => have := HK1.out; omega
          case rel => exact ⟨(x8_1 ++ (rdOf ByteArray.empty t243 x9_1)), (wrap64 (x9_1 + 1)), (by rfl), (by rfl), H', ⟨by have := HK1.out; omega⟩, ⟨by (with_reducible repeat ((apply Kd.R_alloc))); exact HO_5.out⟩, ⟨by repeat ((with_reducible (exact HB.out)))⟩⟩
         ·rw [if_neg c24] at H
          exact absurd H (by simp)
      ·rw [if_neg c11] at H
       exact absurd H (by simp)
     ·rw [if_neg c10] at H
      exact absurd H (by simp)
    ·rw [if_neg c9] at H
     have c9b0 : decide (x9_1 < (t243.length : Int)) = false := decide_eq_false c9
     clear c9
     obtain rfl := Option.some.inj H
     obtain ⟨Ao26, co26, eo26⟩ := Kd.R_slice HO_5.out
     subst eo26
     go_wp2
     go_ret
     exact ⟨by rfl, by repeat ((with_reducible (exact HB.out)))⟩
 ·replace c4 := Bool.eq_false_iff.mpr c4
  subst c4
  have H1 : (some (⟨#[]⟩ : ByteArray)) = some r := by rw [if_neg (show ¬ (false = true) by decide)] at H; exact H
  clear H
  have H := H1
  clear H1
  obtain rfl := Option.some.inj H
  go_enter Try.func42, Try.ntmps42
  go_wp2_with ((((with_reducible refine gate_callee (f := 26) rfl ?_); refine goesL_ (some 12) rfl rfl Try.func26 (by kernel_rfl) rfl #[.int .i64 a0, .string a1] rfl (by (try simp only [List.map_toArray, List.map_cons, List.map_nil]); rfl) ?_; (with_reducible refine (beadrollref10_Right.calls k a0 a1 false _ A3.out).mono ?_); rintro e w27 ⟨rfl, hb⟩; refine ⟨_, rfl, ?_⟩; have n0_ := Aside0.mk (below_step (by repeat ((with_reducible (exact HB.out)))) hb); clear HB; have HB := n0_; clear n0_; (try clear hb))))
  go_ret
  exact ⟨by rfl, by repeat ((with_reducible (exact HB.out)))⟩
mutual
def beadrollref07_Compare.j0 : Nat → List ByteArray → List ByteArray → Bool → Option (Int)
 | 0, _, _, _ => none
 | k + 1, x5, x7, x29 => if x29 = true then (some 0) else (beadrollref07_Compare.l0 k x5 x7 1)
def beadrollref07_Compare.l0 : Nat → List ByteArray → List ByteArray → Int → Option (Int)
 | 0, _, _, _ => none
 | k + 1, x5, x7, x9 => if x9 ≤ (x5.length : Int) then (beadrollref07_Compare.j2 k x5 x7 x9 (decide (x9 ≤ (x7.length : Int)))) else (beadrollref07_Compare.j2 k x5 x7 x9 false)
def beadrollref07_Compare.j2 : Nat → List ByteArray → List ByteArray → Int → Bool → Option (Int)
 | 0, _, _, _, _ => none
 | k + 1, x5, x7, x9, x39 => if x39 = true then (if 0 ≤ (wrap64 ((x5.length : Int) - x9)) then (if (wrap64 ((x5.length : Int) - x9)) < (x5.length : Int) then (if 0 ≤ (wrap64 ((x7.length : Int) - x9)) then (if (wrap64 ((x7.length : Int) - x9)) < (x7.length : Int) then (if (Op.bytesLess ((rdOf ByteArray.empty x5 (wrap64 ((x5.length : Int) - x9))).toList) ((rdOf ByteArray.empty x7 (wrap64 ((x7.length : Int) - x9))).toList)) = true then (some (-1)) else (if (Op.bytesLess ((rdOf ByteArray.empty x7 (wrap64 ((x7.length : Int) - x9))).toList) ((rdOf ByteArray.empty x5 (wrap64 ((x5.length : Int) - x9))).toList)) = true then (some 1) else (beadrollref07_Compare.l0 k x5 x7 (wrap64 (x9 + 1))))) else (none)) else (none)) else (none)) else (none)) else (if (x5.length : Int) < (x7.length : Int) then (some (-1)) else (if (x5.length : Int) > (x7.length : Int) then (some 1) else (some 0)))
end
def beadrollref07_Compare.f (k : Nat) (a0 : ByteArray) (a1 : ByteArray) : Option (Int) := (beadrollref07_Fold.f k a0).bind fun t253 => ((beadrollref07_Labels.f k t253).bind fun bt254 => ((beadrollref07_Fold.f k a1).bind fun t258 => ((beadrollref07_Labels.f k t258).bind fun bt259 => (if bt254.2 = true then (beadrollref07_Compare.j0 k bt254.1 bt259.1 (!bt259.2)) else (beadrollref07_Compare.j0 k bt254.1 bt259.1 true)))))
set_option maxHeartbeats 8000000 in
set_option maxRecDepth 100000 in
theorem beadrollref07_Compare.calls (k : Nat) (a0 : ByteArray) (a1 : ByteArray) (r : Int) (w : World) (h : beadrollref07_Compare.f k a0 a1 = some r) :
  Calls Try.prog 27 #[.string a0, .string a1] w fun e w' => e = .returned (.int .i64 r) ∧ Below w.heap.size w w' := by
 have HB := Aside0.mk (Below.refl w.heap.size w)
 have H : ((beadrollref07_Fold.f k a0).bind fun t253 => ((beadrollref07_Labels.f k t253).bind fun bt254 => ((beadrollref07_Fold.f k a1).bind fun t258 => ((beadrollref07_Labels.f k t258).bind fun bt259 => (if bt254.2 = true then (beadrollref07_Compare.j0 k bt254.1 bt259.1 (!bt259.2)) else (beadrollref07_Compare.j0 k bt254.1 bt259.1 true)))))) = some r := h
 clear h
 replace H := Option.bind_eq_some_iff.mp H
 obtain ⟨t253, A30, H⟩ := H
 replace H : ((beadrollref07_Labels.f k t253).bind fun bt254 => ((beadrollref07_Fold.f k a1).bind fun t258 => ((beadrollref07_Labels.f k t258).bind fun bt259 => (if bt254.2 = true then (beadrollref07_Compare.j0 k bt254.1 bt259.1 (!bt259.2)) else (beadrollref07_Compare.j0 k bt254.1 bt259.1 true))))) = some r := H
 have A3 := Aside0.mk A30
 clear A30
 replace H := Option.bind_eq_some_iff.mp H
 obtain ⟨⟨t254, t255⟩, A40, H⟩ := H
 replace H : ((beadrollref07_Fold.f k a1).bind fun t258 => ((beadrollref07_Labels.f k t258).bind fun bt259 => (if t255 = true then (beadrollref07_Compare.j0 k t254 bt259.1 (!bt259.2)) else (beadrollref07_Compare.j0 k t254 bt259.1 true)))) = some r := H
 have A4 := Aside0.mk A40
 clear A40
 replace H := Option.bind_eq_some_iff.mp H
 obtain ⟨t258, A50, H⟩ := H
 replace H : ((beadrollref07_Labels.f k t258).bind fun bt259 => (if t255 = true then (beadrollref07_Compare.j0 k t254 bt259.1 (!bt259.2)) else (beadrollref07_Compare.j0 k t254 bt259.1 true))) = some r := H
 have A5 := Aside0.mk A50
 clear A50
 replace H := Option.bind_eq_some_iff.mp H
 obtain ⟨⟨t259, t260⟩, A60, H⟩ := H
 replace H : (if t255 = true then (beadrollref07_Compare.j0 k t254 t259 (!t260)) else (beadrollref07_Compare.j0 k t254 t259 true)) = some r := H
 have A6 := Aside0.mk A60
 clear A60
 have HC7 := Aside0.mk H
 clear H
 go_enter Try.func27, Try.ntmps27
 go_upto_region 3 with (first | (go_at_call 41; (with_reducible refine (beadrollref07_Fold.calls k a0 t253 _ A3.out).mono ?_); rintro e w8 ⟨rfl, hb⟩; have n0_ := Aside0.mk (below_step (by repeat ((with_reducible (exact HB.out)))) hb); clear HB; have HB := n0_; clear n0_; (try clear hb)) | (go_at_call 39; (with_reducible refine (beadrollref07_Labels.calls k t253 t254 t255 _ A4.out).mono ?_); rintro e w9 ⟨v256, rfl, ho0, hb⟩; have n0_ := Aside0.mk (Kd.R_lower ho0 (below_size (by repeat ((with_reducible (exact HB.out)))))); have n1_ := Aside0.mk (below_step (by repeat ((with_reducible (exact HB.out)))) hb); clear HB; have HO257 := n0_; have HB := n1_; clear n0_ n1_; (try clear hb); (try clear ho0)) | (go_at_call 41; (with_reducible refine (beadrollref07_Fold.calls k a1 t258 _ A5.out).mono ?_); rintro e w10 ⟨rfl, hb⟩; have n0_ := Aside0.mk (Kd.R_below (by (with_reducible repeat ((apply Kd.R_alloc))); exact HO257.out) hb); have n1_ := Aside0.mk (below_step (by repeat ((with_reducible (exact HB.out)))) hb); clear HO257; clear HB; have HO257 := n0_; have HB := n1_; clear n0_ n1_; (try clear hb)) | (go_at_call 39; (with_reducible refine (beadrollref07_Labels.calls k t258 t259 t260 _ A6.out).mono ?_); rintro e w11 ⟨v261, rfl, ho0, hb⟩; have n0_ := Aside0.mk (Kd.R_elder' (by (with_reducible repeat ((apply Kd.R_alloc))); exact HO257.out) (Kd.R_base ho0) hb); have n1_ := Aside0.mk (Kd.R_lower (Kd.R_new' ho0 (Kd.R_lt (by (with_reducible repeat ((apply Kd.R_alloc))); exact HO257.out))) (below_size (by repeat ((with_reducible (exact HB.out)))))); have n2_ := Aside0.mk (below_step (by repeat ((with_reducible (exact HB.out)))) hb); clear HO257; clear HB; have HO257 := n0_; have HO262 := n1_; have HB := n2_; clear n0_ n1_ n2_; (try clear hb); (try clear ho0)))
 repeat (go_quiet (((go_at_call 41; (with_reducible refine (beadrollref07_Fold.calls k a0 t253 _ A3.out).mono ?_); rintro e w8 ⟨rfl, hb⟩; have n0_ := Aside0.mk (below_step (by repeat ((with_reducible (exact HB.out)))) hb); clear HB; have HB := n0_; clear n0_))); go_upto_region 3 with (((go_at_call 41; (with_reducible refine (beadrollref07_Fold.calls k a0 t253 _ A3.out).mono ?_); rintro e w8 ⟨rfl, hb⟩; have n0_ := Aside0.mk (below_step (by repeat ((with_reducible (exact HB.out)))) hb); clear HB; have HB := n0_; clear n0_))))
 go_cut [29] (fun v29 wc => ∃ (kq : Nat) (x29_6 : Bool), v29 = .bool x29_6 ∧ Aside0 (beadrollref07_Compare.j0 kq t254 t259 x29_6 = some r) ∧ Aside0 (kq ≤ k) ∧ Aside0 (Kd.R Kd.string 9 wc w.heap.size (fun k_ => some k_ ≠ (v261 : Value).ownBlock) v256 t254) ∧ Aside0 (Kd.R Kd.string 9 wc w.heap.size (fun k_ => some k_ ≠ (v256 : Value).ownBlock) v261 t259) ∧ Aside0 (Below w.heap.size w wc))
 case first =>
  have H := HC7.out
  clear HC7
  by_cases c12 : t255 = true
  ·subst c12
   have H1 : (beadrollref07_Compare.j0 k t254 t259 (!t260)) = some r := by rw [if_pos rfl] at H; exact H
   clear H
   have H := H1
   clear H1
   have H' := Aside0.mk H
   clear H
   go_wp2
   repeat (go_quiet (fail); try go_wp2)
   go_meet
   case rel => exact ⟨_, (!t260), (by rfl), H', ⟨by omega⟩, ⟨by (with_reducible repeat ((apply Kd.R_alloc))); exact Kd.R_mono HO257.out (fun _ hk => hk.2)⟩, ⟨by (with_reducible repeat ((apply Kd.R_alloc))); exact Kd.R_mono HO262.out (fun _ hk => hk.2)⟩, ⟨by repeat ((with_reducible (exact HB.out)))⟩⟩
  ·replace c12 := Bool.eq_false_iff.mpr c12
   subst c12
   have H1 : (beadrollref07_Compare.j0 k t254 t259 true) = some r := by rw [if_neg (show ¬ (false = true) by decide)] at H; exact H
   clear H
   have H := H1
   clear H1
   have H' := Aside0.mk H
   clear H
   go_wp2
   repeat (go_quiet (fail); try go_wp2)
   go_meet
   case rel => exact ⟨_, (true), (by rfl), H', ⟨by omega⟩, ⟨by (with_reducible repeat ((apply Kd.R_alloc))); exact Kd.R_mono HO257.out (fun _ hk => hk.2)⟩, ⟨by (with_reducible repeat ((apply Kd.R_alloc))); exact Kd.R_mono HO262.out (fun _ hk => hk.2)⟩, ⟨by repeat ((with_reducible (exact HB.out)))⟩⟩
 case rest =>
  clear HC7
  obtain ⟨kq, x29_6, rfl, HA, HJ6, HO_5, HO_7, HB⟩ := hcut
  cases kq with
  | zero => exact absurd HA.out (by simp [beadrollref07_Compare.j0])
  | succ kj6 =>
   have H := HA.out
   clear HA
   simp only [beadrollref07_Compare.j0] at H
   by_cases c13 : x29_6 = true
   ·subst c13
    have H1 : (some 0) = some r := by rw [if_pos rfl] at H; exact H
    clear H
    have H := H1
    clear H1
    obtain rfl := Option.some.inj H
    go_wp2
    repeat (go_quiet (fail); try go_wp2)
    go_ret
    exact ⟨by rfl, by repeat ((with_reducible (exact HB.out)))⟩
   ·replace c13 := Bool.eq_false_iff.mpr c13
    subst c13
    have H1 : (beadrollref07_Compare.l0 kj6 t254 t259 1) = some r := by rw [if_neg (show ¬ (false = true) by decide)] at H; exact H
    clear H
    have H := H1
    clear H1
    have H' := Aside0.mk H
    clear H
    go_wp2
    repeat (go_quiet (fail); try go_wp2)
    go_loopg [9] kj6 (fun kq v9 w' => ∃ (x9_2 : Int), v9 = .int .i64 x9_2 ∧ Aside0 (beadrollref07_Compare.l0 kq t254 t259 x9_2 = some r) ∧ Aside0 (kq ≤ kj6) ∧ Aside0 (Kd.R Kd.string 9 w' w.heap.size (fun k_ => some k_ ≠ (v261 : Value).ownBlock) v256 t254) ∧ Aside0 (Kd.R Kd.string 9 w' w.heap.size (fun k_ => some k_ ≠ (v256 : Value).ownBlock) v261 t259) ∧ Aside0 (Below w.heap.size w w'))
    case atStart => exact ⟨(1), (by rfl), H', ⟨Nat.le_refl _⟩, ⟨by (with_reducible repeat ((apply Kd.R_alloc))); exact HO_5.out⟩, ⟨by (with_reducible repeat ((apply Kd.R_alloc))); exact HO_7.out⟩, ⟨by repeat ((with_reducible (exact HB.out)))⟩⟩
    case round =>
     clear H'
     obtain ⟨x9_2, rfl, HA, HK2, HO_5, HO_7, HB⟩ := hrel
     cases gk with
     | zero => exact absurd HA.out (by simp [beadrollref07_Compare.l0])
     | succ k2 =>
      have H := HA.out
      clear HA
      simp only [beadrollref07_Compare.l0] at H
      have HC14 := Aside0.mk H
      clear H
      go_upto_region 6 with (fail)
      repeat (go_quiet (fail); go_upto_region 6 with (fail))
      go_cut [39] (fun v39 wc => ∃ (kq : Nat) (x39_13 : Bool), v39 = .bool x39_13 ∧ Aside0 (beadrollref07_Compare.j2 kq t254 t259 x9_2 x39_13 = some r) ∧ Aside0 (kq ≤ k2) ∧ Aside0 (Kd.R Kd.string 9 wc w.heap.size (fun k_ => some k_ ≠ (v261 : Value).ownBlock) v256 t254) ∧ Aside0 (Kd.R Kd.string 9 wc w.heap.size (fun k_ => some k_ ≠ (v256 : Value).ownBlock) v261 t259) ∧ Aside0 (Below w.heap.size w wc))
      case first =>
       have H := HC14.out
       clear HC14
       by_cases c15 : x9_2 ≤ (t254.length : Int)
       ·rw [if_pos c15] at H
        have c15b0 : decide (x9_2 ≤ (t254.length : Int)) = true := decide_eq_true c15
        clear c15
        (skip)
        have H' := Aside0.mk H
        clear H
        obtain ⟨Ao16, co16, eo16⟩ := Kd.R_slice HO_5.out
        subst eo16
        obtain ⟨Ao17, co17, eo17⟩ := Kd.R_slice HO_7.out
        subst eo17
        go_wp2
        repeat (go_quiet (fail); try go_wp2)
        go_meet
        case rel => exact ⟨_, (decide (x9_2 ≤ (t259.length : Int))), (by rfl), H', ⟨by have := HJ6.out; have := HK2.out; omega⟩, ⟨by (with_reducible repeat ((apply Kd.R_alloc))); exact HO_5.out⟩, ⟨by (with_reducible repeat ((apply Kd.R_alloc))); exact HO_7.out⟩, ⟨by repeat ((with_reducible (exact HB.out)))⟩⟩
       ·rw [if_neg c15] at H
        have c15b0 : decide (x9_2 ≤ (t254.length : Int)) = false := decide_eq_false c15
        clear c15
        (skip)
        have H' := Aside0.mk H
        clear H
        obtain ⟨Ao18, co18, eo18⟩ := Kd.R_slice HO_5.out
        subst eo18
        go_wp2
        repeat (go_quiet (fail); try go_wp2)
        go_meet
        case rel => exact ⟨_, (false), (by rfl), H', ⟨by have := HJ6.out; have := HK2.out; omega⟩, ⟨by (with_reducible repeat ((apply Kd.R_alloc))); exact HO_5.out⟩, ⟨by (with_reducible repeat ((apply Kd.R_alloc))); exact HO_7.out⟩, ⟨by repeat ((with_reducible (exact HB.out)))⟩⟩
      case rest =>
       clear HC14
       obtain ⟨kq, x39_13, rfl, HA, HJ13, HO_5, HO_7, HB⟩ := hcut
       cases kq with
       | zero => exact absurd HA.out (by simp [beadrollref07_Compare.j2])
       | succ kj13 =>
        have H := HA.out
        clear HA
        simp only [beadrollref07_Compare.j2] at H
        by_cases c19 : x39_13 = true
        ·subst c19
         have H1 : (if 0 ≤ (wrap64 ((t254.length : Int) - x9_2)) then (if (wrap64 ((t254.length : Int) - x9_2)) < (t254.length : Int) then (if 0 ≤ (wrap64 ((t259.length : Int) - x9_2)) then (if (wrap64 ((t259.length : Int) - x9_2)) < (t259.length : Int) then (if (Op.bytesLess ((rdOf ByteArray.empty t254 (wrap64 ((t254.length : Int) - x9_2))).toList) ((rdOf ByteArray.empty t259 (wrap64 ((t259.length : Int) - x9_2))).toList)) = true then (some (-1)) else (if (Op.bytesLess ((rdOf ByteArray.empty t259 (wrap64 ((t259.length : Int) - x9_2))).toList) ((rdOf ByteArray.empty t254 (wrap64 ((t254.length : Int) - x9_2))).toList)) = true then (some 1) else (beadrollref07_Compare.l0 kj13 t254 t259 (wrap64 (x9_2 + 1))))) else (none)) else (none)) else (none)) else (none)) = some r := by rw [if_pos rfl] at H; exact H
         clear H
         have H := H1
         clear H1
         obtain ⟨ji20, hji20⟩ : ∃ j_ : Int, (wrap64 ((t254.length : Int) - x9_2)) = j_ := ⟨_, rfl⟩
         replace H : (if 0 ≤ (ji20) then (if (ji20) < (t254.length : Int) then (if 0 ≤ (wrap64 ((t259.length : Int) - x9_2)) then (if (wrap64 ((t259.length : Int) - x9_2)) < (t259.length : Int) then (if (Op.bytesLess ((rdOf ByteArray.empty t254 (ji20)).toList) ((rdOf ByteArray.empty t259 (wrap64 ((t259.length : Int) - x9_2))).toList)) = true then (some (-1)) else (if (Op.bytesLess ((rdOf ByteArray.empty t259 (wrap64 ((t259.length : Int) - x9_2))).toList) ((rdOf ByteArray.empty t254 (ji20)).toList)) = true then (some 1) else (beadrollref07_Compare.l0 kj13 t254 t259 (wrap64 (x9_2 + 1))))) else (none)) else (none)) else (none)) else (none)) = some r := by (rw [hji20] at H; exact H)
         have hji20w : (IntKind.i64.wrap ((t254.length : Int) - x9_2)) = ji20 := (i64_w _).trans hji20
         by_cases c21 : 0 ≤ (ji20)
         ·rw [if_pos c21] at H
          have c21b0 : decide (0 ≤ (ji20)) = true := decide_eq_true c21
          clear c21
          by_cases c22 : (ji20) < (t254.length : Int)
          ·rw [if_pos c22] at H
           have c22b0 : decide ((ji20) < (t254.length : Int)) = true := decide_eq_true c22
           clear c22
           obtain ⟨ji23, hji23⟩ : ∃ j_ : Int, (wrap64 ((t259.length : Int) - x9_2)) = j_ := ⟨_, rfl⟩
           replace H : (if 0 ≤ (ji23) then (if (ji23) < (t259.length : Int) then (if (Op.bytesLess ((rdOf ByteArray.empty t254 (ji20)).toList) ((rdOf ByteArray.empty t259 (ji23)).toList)) = true then (some (-1)) else (if (Op.bytesLess ((rdOf ByteArray.empty t259 (ji23)).toList) ((rdOf ByteArray.empty t254 (ji20)).toList)) = true then (some 1) else (beadrollref07_Compare.l0 kj13 t254 t259 (wrap64 (x9_2 + 1))))) else (none)) else (none)) = some r := by (rw [hji23] at H; exact H)
           have hji23w : (IntKind.i64.wrap ((t259.length : Int) - x9_2)) = ji23 := (i64_w _).trans hji23
           by_cases c24 : 0 ≤ (ji23)
           ·rw [if_pos c24] at H
            have c24b0 : decide (0 ≤ (ji23)) = true := decide_eq_true c24
            clear c24
            by_cases c25 : (ji23) < (t259.length : Int)
            ·rw [if_pos c25] at H
             have c25b0 : decide ((ji23) < (t259.length : Int)) = true := decide_eq_true c25
             clear c25
             by_cases c26 : (Op.bytesLess ((rdOf ByteArray.empty t254 (ji20)).toList) ((rdOf ByteArray.empty t259 (ji23)).toList)) = true
             ·rw [if_pos c26] at H
              have c26b0 : (Op.bytesLess ((rdOf ByteArray.empty t254 (ji20)).toList) ((rdOf ByteArray.empty t259 (ji23)).toList)) = true := c26
              have c26b8 : (((rdOf ByteArray.empty t259 (ji23)).toList) == ((rdOf ByteArray.empty t254 (ji20)).toList)) = false := less_ne c26b0
              clear c26
              obtain rfl := Option.some.inj H
              obtain ⟨Ao27, co27, eo27⟩ := Kd.R_slice HO_5.out
              subst eo27
              have p263 : 0 ≤ ((ji20) : Int) := of_decide_eq_true (by (with_reducible assumption))
              have q263 : (ji20) < (t254.length : Int) := of_decide_eq_true (by (with_reducible assumption))
              obtain ⟨ad263, e263, hx263_0⟩ := Kd.at_string (Kd.R_reads' HO_5.out).2.2 (ji20) p263 q263
              cases e263
              replace p263 := eq_true p263
              replace q263 := eq_true q263
              obtain ⟨Ao28, co28, eo28⟩ := Kd.R_slice HO_7.out
              subst eo28
              have p264 : 0 ≤ ((ji23) : Int) := of_decide_eq_true (by (with_reducible assumption))
              have q264 : (ji23) < (t259.length : Int) := of_decide_eq_true (by (with_reducible assumption))
              obtain ⟨ad264, e264, hx264_0⟩ := Kd.at_string (Kd.R_reads' HO_7.out).2.2 (ji23) p264 q264
              cases e264
              replace p264 := eq_true p264
              replace q264 := eq_true q264
              go_wp2
              repeat (go_quiet (fail); try go_wp2)
              go_ret
              exact ⟨by rfl, by repeat ((with_reducible first | exact HB.out | apply pw_below_drewN))⟩
             ·rw [if_neg c26] at H
              have c26b0 : (Op.bytesLess ((rdOf ByteArray.empty t254 (ji20)).toList) ((rdOf ByteArray.empty t259 (ji23)).toList)) = false := by simpa using c26
              clear c26
              by_cases c29 : (Op.bytesLess ((rdOf ByteArray.empty t259 (ji23)).toList) ((rdOf ByteArray.empty t254 (ji20)).toList)) = true
              ·rw [if_pos c29] at H
               have c29b0 : (Op.bytesLess ((rdOf ByteArray.empty t259 (ji23)).toList) ((rdOf ByteArray.empty t254 (ji20)).toList)) = true := c29
               have c29b8 : (((rdOf ByteArray.empty t254 (ji20)).toList) == ((rdOf ByteArray.empty t259 (ji23)).toList)) = false := less_ne c29b0
               clear c29
               obtain rfl := Option.some.inj H
               obtain ⟨Ao30, co30, eo30⟩ := Kd.R_slice HO_5.out
               subst eo30
               have p263 : 0 ≤ ((ji20) : Int) := of_decide_eq_true (by (with_reducible assumption))
               have q263 : (ji20) < (t254.length : Int) := of_decide_eq_true (by (with_reducible assumption))
               obtain ⟨ad263, e263, hx263_0⟩ := Kd.at_string (Kd.R_reads' HO_5.out).2.2 (ji20) p263 q263
               cases e263
               replace p263 := eq_true p263
               replace q263 := eq_true q263
               obtain ⟨Ao31, co31, eo31⟩ := Kd.R_slice HO_7.out
               subst eo31
               have p264 : 0 ≤ ((ji23) : Int) := of_decide_eq_true (by (with_reducible assumption))
               have q264 : (ji23) < (t259.length : Int) := of_decide_eq_true (by (with_reducible assumption))
               obtain ⟨ad264, e264, hx264_0⟩ := Kd.at_string (Kd.R_reads' HO_7.out).2.2 (ji23) p264 q264
               cases e264
               replace p264 := eq_true p264
               replace q264 := eq_true q264
               go_wp2
               repeat (go_quiet (fail); try go_wp2)
               go_ret
               exact ⟨by rfl, by repeat ((with_reducible first | exact HB.out | apply pw_below_drewN))⟩
              ·rw [if_neg c29] at H
               have c29b0 : (Op.bytesLess ((rdOf ByteArray.empty t259 (ji23)).toList) ((rdOf ByteArray.empty t254 (ji20)).toList)) = false := by simpa using c29
               (try have c29b8 : (((rdOf ByteArray.empty t254 (ji20)).toList) == ((rdOf ByteArray.empty t259 (ji23)).toList)) = true := less_eq (by assumption) c29b0)
               clear c29
               have H' := Aside0.mk H
               clear H
               obtain ⟨Ao32, co32, eo32⟩ := Kd.R_slice HO_5.out
               subst eo32
               have p263 : 0 ≤ ((ji20) : Int) := of_decide_eq_true (by (with_reducible assumption))
               have q263 : (ji20) < (t254.length : Int) := of_decide_eq_true (by (with_reducible assumption))
               obtain ⟨ad263, e263, hx263_0⟩ := Kd.at_string (Kd.R_reads' HO_5.out).2.2 (ji20) p263 q263
               cases e263
               replace p263 := eq_true p263
               replace q263 := eq_true q263
               obtain ⟨Ao33, co33, eo33⟩ := Kd.R_slice HO_7.out
               subst eo33
               have p264 : 0 ≤ ((ji23) : Int) := of_decide_eq_true (by (with_reducible assumption))
               have q264 : (ji23) < (t259.length : Int) := of_decide_eq_true (by (with_reducible assumption))
               obtain ⟨ad264, e264, hx264_0⟩ := Kd.at_string (Kd.R_reads' HO_7.out).2.2 (ji23) p264 q264
               cases e264
               replace p264 := eq_true p264
               replace q264 := eq_true q264
               go_wp2
               repeat (go_quiet (fail); try go_wp2)
               go_roundg kj13
               case measure => have := HJ6.out; have := HK2.out; have := HJ13.out; omega
               case rel => exact ⟨(wrap64 (x9_2 + 1)), (by rfl), H', ⟨by have := HJ6.out; have := HK2.out; have := HJ13.out; omega⟩, ⟨by (with_reducible repeat ((apply Kd.R_drewN))); exact HO_5.out⟩, ⟨by (with_reducible repeat ((apply Kd.R_drewN))); exact HO_7.out⟩, ⟨by repeat ((with_reducible first | exact HB.out | apply pw_below_drewN))⟩⟩
            ·rw [if_neg c25] at H
             exact absurd H (by simp)
           ·rw [if_neg c24] at H
            exact absurd H (by simp)
          ·rw [if_neg c22] at H
           exact absurd H (by simp)
         ·rw [if_neg c21] at H
          exact absurd H (by simp)
        ·replace c19 := Bool.eq_false_iff.mpr c19
         subst c19
         have H1 : (if (t254.length : Int) < (t259.length : Int) then (some (-1)) else (if (t254.length : Int) > (t259.length : Int) then (some 1) else (some 0))) = some r := by rw [if_neg (show ¬ (false = true) by decide)] at H; exact H
         clear H
         have H := H1
         clear H1
         by_cases c34 : (t254.length : Int) < (t259.length : Int)
         ·rw [if_pos c34] at H
          have c34b0 : decide ((t254.length : Int) < (t259.length : Int)) = true := decide_eq_true c34
          have c34b1 : decide (t254.length < t259.length) = true := decide_eq_true (Int.ofNat_lt.mp c34)
          clear c34
          obtain rfl := Option.some.inj H
          obtain ⟨Ao35, co35, eo35⟩ := Kd.R_slice HO_5.out
          subst eo35
          obtain ⟨Ao36, co36, eo36⟩ := Kd.R_slice HO_7.out
          subst eo36
          go_wp2
          repeat (go_quiet (fail); try go_wp2)
          go_ret
          exact ⟨by rfl, by repeat ((with_reducible (exact HB.out)))⟩
         ·rw [if_neg c34] at H
          have c34b0 : decide ((t254.length : Int) < (t259.length : Int)) = false := decide_eq_false c34
          have c34b1 : decide (t254.length < t259.length) = false := decide_eq_false (fun h => c34 (Int.ofNat_lt.mpr h))
          clear c34
          by_cases c37 : (t254.length : Int) > (t259.length : Int)
          ·rw [if_pos c37] at H
           have c37b0 : decide ((t259.length : Int) < (t254.length : Int)) = true := decide_eq_true c37
           have c37b1 : decide (t259.length < t254.length) = true := decide_eq_true (Int.ofNat_lt.mp c37)
           clear c37
           obtain rfl := Option.some.inj H
           obtain ⟨Ao38, co38, eo38⟩ := Kd.R_slice HO_5.out
           subst eo38
           obtain ⟨Ao39, co39, eo39⟩ := Kd.R_slice HO_7.out
           subst eo39
           go_wp2
           repeat (go_quiet (fail); try go_wp2)
           go_ret
           exact ⟨by rfl, by repeat ((with_reducible (exact HB.out)))⟩
          ·rw [if_neg c37] at H
           have c37b0 : decide ((t259.length : Int) < (t254.length : Int)) = false := decide_eq_false c37
           have c37b1 : decide (t259.length < t254.length) = false := decide_eq_false (fun h => c37 (Int.ofNat_lt.mpr h))
           clear c37
           obtain rfl := Option.some.inj H
           obtain ⟨Ao40, co40, eo40⟩ := Kd.R_slice HO_5.out
           subst eo40
           obtain ⟨Ao41, co41, eo41⟩ := Kd.R_slice HO_7.out
           subst eo41
           go_wp2
           repeat (go_quiet (fail); try go_wp2)
           go_ret
           exact ⟨by rfl, by repeat ((with_reducible (exact HB.out)))⟩
def beadrollref07_Alike.f (k : Nat) (a0 : ByteArray) (a1 : ByteArray) : Option (Bool) := (beadrollref07_Right.f k a0).bind fun t265 => (if t265 = true then ((beadrollref07_Right.f k a1).bind fun t266 => (if t266 = true then ((beadrollref07_Fold.f k a0).bind fun t267 => ((beadrollref07_Fold.f k a1).bind fun t268 => (some (t267.toList == t268.toList)))) else (some false))) else (some false))
set_option maxHeartbeats 8000000 in
set_option maxRecDepth 100000 in
theorem beadrollref07_Alike.calls (k : Nat) (a0 : ByteArray) (a1 : ByteArray) (r : Bool) (w : World) (h : beadrollref07_Alike.f k a0 a1 = some r) :
  Calls Try.prog 44 #[.string a0, .string a1] w fun e w' => e = .returned (.bool r) ∧ Below w.heap.size w w' := by
 have HB := Aside0.mk (Below.refl w.heap.size w)
 have H : ((beadrollref07_Right.f k a0).bind fun t265 => (if t265 = true then ((beadrollref07_Right.f k a1).bind fun t266 => (if t266 = true then ((beadrollref07_Fold.f k a0).bind fun t267 => ((beadrollref07_Fold.f k a1).bind fun t268 => (some (t267.toList == t268.toList)))) else (some false))) else (some false))) = some r := h
 clear h
 replace H := Option.bind_eq_some_iff.mp H
 obtain ⟨t265, A30, H⟩ := H
 replace H : (if t265 = true then ((beadrollref07_Right.f k a1).bind fun t266 => (if t266 = true then ((beadrollref07_Fold.f k a0).bind fun t267 => ((beadrollref07_Fold.f k a1).bind fun t268 => (some (t267.toList == t268.toList)))) else (some false))) else (some false)) = some r := H
 have A3 := Aside0.mk A30
 clear A30
 by_cases c4 : t265 = true
 ·subst c4
  have H1 : ((beadrollref07_Right.f k a1).bind fun t266 => (if t266 = true then ((beadrollref07_Fold.f k a0).bind fun t267 => ((beadrollref07_Fold.f k a1).bind fun t268 => (some (t267.toList == t268.toList)))) else (some false))) = some r := by rw [if_pos rfl] at H; exact H
  clear H
  have H := H1
  clear H1
  replace H := Option.bind_eq_some_iff.mp H
  obtain ⟨t266, A50, H⟩ := H
  replace H : (if t266 = true then ((beadrollref07_Fold.f k a0).bind fun t267 => ((beadrollref07_Fold.f k a1).bind fun t268 => (some (t267.toList == t268.toList)))) else (some false)) = some r := H
  have A5 := Aside0.mk A50
  clear A50
  by_cases c6 : t266 = true
  ·subst c6
   have H1 : ((beadrollref07_Fold.f k a0).bind fun t267 => ((beadrollref07_Fold.f k a1).bind fun t268 => (some (t267.toList == t268.toList)))) = some r := by rw [if_pos rfl] at H; exact H
   clear H
   have H := H1
   clear H1
   replace H := Option.bind_eq_some_iff.mp H
   obtain ⟨t267, A70, H⟩ := H
   replace H : ((beadrollref07_Fold.f k a1).bind fun t268 => (some (t267.toList == t268.toList))) = some r := H
   have A7 := Aside0.mk A70
   clear A70
   replace H := Option.bind_eq_some_iff.mp H
   obtain ⟨t268, A80, H⟩ := H
   replace H : (some (t267.toList == t268.toList)) = some r := H
   have A8 := Aside0.mk A80
   clear A80
   obtain rfl := Option.some.inj H
   go_enter Try.func44, Try.ntmps44
   go_wp2_with (first | ((with_reducible refine gate_callee (f := 24) rfl ?_); refine goesL_ (some 6) rfl rfl Try.func24 (by kernel_rfl) rfl #[.string a0] rfl (by (try simp only [List.map_toArray, List.map_cons, List.map_nil]); rfl) ?_; (with_reducible refine (beadrollref07_Right.calls k a0 true _ A3.out).mono ?_); rintro e w9 ⟨rfl, hb⟩; refine ⟨_, rfl, ?_⟩; have n0_ := Aside0.mk (below_step (by repeat ((with_reducible (exact HB.out)))) hb); clear HB; have HB := n0_; clear n0_; (try clear hb)) | (go_at_call 24; (with_reducible refine (beadrollref07_Right.calls k a1 true _ A5.out).mono ?_); rintro e w10 ⟨rfl, hb⟩; have n0_ := Aside0.mk (below_step (by repeat ((with_reducible (exact HB.out)))) hb); clear HB; have HB := n0_; clear n0_; (try clear hb)) | (go_at_call 41; (with_reducible refine (beadrollref07_Fold.calls k a0 t267 _ A7.out).mono ?_); rintro e w11 ⟨rfl, hb⟩; have n0_ := Aside0.mk (below_step (by repeat ((with_reducible (exact HB.out)))) hb); clear HB; have HB := n0_; clear n0_; (try clear hb)) | (go_at_call 41; (with_reducible refine (beadrollref07_Fold.calls k a1 t268 _ A8.out).mono ?_); rintro e w12 ⟨rfl, hb⟩; have n0_ := Aside0.mk (below_step (by repeat ((with_reducible (exact HB.out)))) hb); clear HB; have HB := n0_; clear n0_; (try clear hb)))
   go_ret
   exact ⟨by rfl, by repeat ((with_reducible (exact HB.out)))⟩
  ·replace c6 := Bool.eq_false_iff.mpr c6
   subst c6
   have H1 : (some false) = some r := by rw [if_neg (show ¬ (false = true) by decide)] at H; exact H
   clear H
   have H := H1
   clear H1
   obtain rfl := Option.some.inj H
   go_enter Try.func44, Try.ntmps44
   go_wp2_with (first | ((with_reducible refine gate_callee (f := 24) rfl ?_); refine goesL_ (some 6) rfl rfl Try.func24 (by kernel_rfl) rfl #[.string a0] rfl (by (try simp only [List.map_toArray, List.map_cons, List.map_nil]); rfl) ?_; (with_reducible refine (beadrollref07_Right.calls k a0 true _ A3.out).mono ?_); rintro e w13 ⟨rfl, hb⟩; refine ⟨_, rfl, ?_⟩; have n0_ := Aside0.mk (below_step (by repeat ((with_reducible (exact HB.out)))) hb); clear HB; have HB := n0_; clear n0_; (try clear hb)) | (go_at_call 24; (with_reducible refine (beadrollref07_Right.calls k a1 false _ A5.out).mono ?_); rintro e w14 ⟨rfl, hb⟩; have n0_ := Aside0.mk (below_step (by repeat ((with_reducible (exact HB.out)))) hb); clear HB; have HB := n0_; clear n0_; (try clear hb)))
   go_ret
   exact ⟨by rfl, by repeat ((with_reducible (exact HB.out)))⟩
 ·replace c4 := Bool.eq_false_iff.mpr c4
  subst c4
  have H1 : (some false) = some r := by rw [if_neg (show ¬ (false = true) by decide)] at H; exact H
  clear H
  have H := H1
  clear H1
  obtain rfl := Option.some.inj H
  go_enter Try.func44, Try.ntmps44
  go_wp2_with ((((with_reducible refine gate_callee (f := 24) rfl ?_); refine goesL_ (some 6) rfl rfl Try.func24 (by kernel_rfl) rfl #[.string a0] rfl (by (try simp only [List.map_toArray, List.map_cons, List.map_nil]); rfl) ?_; (with_reducible refine (beadrollref07_Right.calls k a0 false _ A3.out).mono ?_); rintro e w15 ⟨rfl, hb⟩; refine ⟨_, rfl, ?_⟩; have n0_ := Aside0.mk (below_step (by repeat ((with_reducible (exact HB.out)))) hb); clear HB; have HB := n0_; clear n0_; (try clear hb))))
  go_ret
  exact ⟨by rfl, by repeat ((with_reducible (exact HB.out)))⟩
end Go.Proofs.Ytnpiglojamhpiaa.PRd
