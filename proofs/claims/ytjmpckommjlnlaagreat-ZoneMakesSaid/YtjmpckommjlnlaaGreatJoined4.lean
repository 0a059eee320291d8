/- Contracts and facts that the claim's row is drawn from, each with its own conditions. -/
import Derived.Test.YtjmpckommjlnlaaGreatJoined3
import Derived.Lib.SliceRun
import Derived.Shelf.Spec.SlicesInsert
import Derived.Lib.AppendZerosOnto
import Derived.Laws.CopyRow
import Derived.Deep.QuietTactic
import Derived.BigQuiet
import Derived.Deep.LoopGhost
import Derived.BigRegion
import Derived.StillTailTactics
import Derived.Outline
namespace Go.Proofs.YtjmpckommjlnlaaGreat.PRr
open Go.RowKit Go.Proofs.YtjmpckommjlnlaaGreatW.PrintWords Go.Proofs.YtjmpckommjlnlaaGreatW.PrintLast Go.Proofs.YtjmpckommjlnlaaGreatW.PrintMore Go.Proofs.YtjmpckommjlnlaaGreat.Given Go.Proofs.YtjmpckommjlnlaaGreat.PRd
attribute [local go_sem] max2_int min2_int max_two min_two max_three min_three max_four min_four   -- for this text's walks alone
set_option linter.unusedVariables false
set_option linter.unusedSimpArgs false
attribute [local go_sem high] eqA44
def beadrollref11_Same.l0 : Nat → List (S35) → List (S35) → Int → Option (Bool)
 | 0, _, _, _ => none
 | k + 1, x0, x1, x5 => if x5 < (x0.length : Int) then (if 0 ≤ x5 then (if x5 < (x1.length : Int) then (if (!((((rd_T35 x0 x5).f0).toList) == (((rd_T35 x1 x5).f0).toList)) || (!(((rd_T35 x0 x5).f1) == ((rd_T35 x1 x5).f1)) || (!(((rd_T35 x0 x5).f2) == ((rd_T35 x1 x5).f2)) || (!(((rd_T35 x0 x5).f3) == ((rd_T35 x1 x5).f3)) || (!((((rd_T35 x0 x5).f4).toList) == (((rd_T35 x1 x5).f4).toList))))))) = true then (some false) else (beadrollref11_Same.l0 k x0 x1 (wrap64 (x5 + 1)))) else (none)) else (none)) else (some true)
def beadrollref11_Same.f (k : Nat) (l0 : List (S35)) (l1 : List (S35)) : Option (Bool) := if (l0.length : Int) = (l1.length : Int) then (beadrollref11_Same.l0 k l0 l1 0) else (some false)
set_option maxHeartbeats 8000000 in
set_option maxRecDepth 100000 in
theorem beadrollref11_Same.calls (k : Nat) (A0 : Option Addr) (c0 : Nat) (l0 : List (S35)) (A1 : Option Addr) (c1 : Nat) (l1 : List (S35)) (r : Bool) (w : World) (hr0 : Kd.C k35 w A0 l0.length l0) (hc0 : l0.length ≤ c0) (hr1 : Kd.C k35 w A1 l1.length l1) (hc1 : l1.length ≤ c1) (h : beadrollref11_Same.f k l0 l1 = some r) :
  Calls Tryz.prog 22 #[.slice A0 l0.length c0, .slice A1 l1.length c1] w fun e w' => e = .returned (.bool r) ∧ Drawn0 w w' := by
 have hu35 := Tryz.underlying35
 have HR0 := Aside0.mk hr0
 have HC0 := Aside0.mk hc0
 clear hr0 hc0
 have HR1 := Aside0.mk hr1
 have HC1 := Aside0.mk hc1
 clear hr1 hc1
 have H : (if (l0.length : Int) = (l1.length : Int) then (beadrollref11_Same.l0 k l0 l1 0) else (some false)) = some r := h
 clear h
 by_cases c3 : (l0.length : Int) = (l1.length : Int)
 ·rw [if_pos c3] at H
  have c3b0 : ((l0.length : Int) == (l1.length : Int)) = true := beq_iff_eq.mpr c3
  have c3b1 : ((l0.length : Int) != (l1.length : Int)) = false := bne_eq_false_iff_eq.mpr c3
  have c3b2 : (l0.length == l1.length) = true := by (simp at c3 ⊢; omega)
  clear c3
  have H' := Aside0.mk H
  clear H
  go_enter Tryz.func22, Tryz.ntmps22
  go_wp2
  repeat (go_quiet (fail); try go_wp2)
  go_loopg [5] k (fun kq v5 w' => ∃ (x5_1 : Int), v5 = .int .i64 x5_1 ∧ Aside0 (beadrollref11_Same.l0 kq l0 l1 x5_1 = some r) ∧ Aside0 (kq ≤ k) ∧ Drawn0 w w')
  case atStart => exact ⟨(0), (by rfl), H', ⟨Nat.le_refl _⟩, by repeat ((exact Drawn0.refl _))⟩
  case round =>
   clear H'
   (try clear c3b0)
   (try clear c3b1)
   (try clear c3b2)
   obtain ⟨x5_1, rfl, HA, HK1, ⟨m1, rfl⟩⟩ := hrel
   cases gk with
   | zero => exact absurd HA.out (by simp [beadrollref11_Same.l0])
   | succ k1 =>
    have H := HA.out
    clear HA
    simp only [beadrollref11_Same.l0] at H
    by_cases c4 : x5_1 < (l0.length : Int)
    ·rw [if_pos c4] at H
     have c4b0 : decide (x5_1 < (l0.length : Int)) = true := decide_eq_true c4
     clear c4
     by_cases c5 : 0 ≤ x5_1
     ·rw [if_pos c5] at H
      have c5b0 : decide (0 ≤ x5_1) = true := decide_eq_true c5
      clear c5
      by_cases c6 : x5_1 < (l1.length : Int)
      ·rw [if_pos c6] at H
       have c6b0 : decide (x5_1 < (l1.length : Int)) = true := decide_eq_true c6
       clear c6
       by_cases c7 : (!((((rd_T35 l0 x5_1).f0).toList) == (((rd_T35 l1 x5_1).f0).toList)) || (!(((rd_T35 l0 x5_1).f1) == ((rd_T35 l1 x5_1).f1)) || (!(((rd_T35 l0 x5_1).f2) == ((rd_T35 l1 x5_1).f2)) || (!(((rd_T35 l0 x5_1).f3) == ((rd_T35 l1 x5_1).f3)) || (!((((rd_T35 l0 x5_1).f4).toList) == (((rd_T35 l1 x5_1).f4).toList))))))) = true
       ·rw [if_pos c7] at H
        have c7b0 : (!((((rd_T35 l0 x5_1).f0).toList) == (((rd_T35 l1 x5_1).f0).toList)) || (!(((rd_T35 l0 x5_1).f1) == ((rd_T35 l1 x5_1).f1)) || (!(((rd_T35 l0 x5_1).f2) == ((rd_T35 l1 x5_1).f2)) || (!(((rd_T35 l0 x5_1).f3) == ((rd_T35 l1 x5_1).f3)) || (!((((rd_T35 l0 x5_1).f4).toList) == (((rd_T35 l1 x5_1).f4).toList))))))) = true := c7
        clear c7
        obtain rfl := Option.some.inj H
        have p159 : 0 ≤ (x5_1 : Int) := of_decide_eq_true (by assumption)
        have q159 : x5_1 < (l0.length : Int) := of_decide_eq_true (by assumption)
        obtain ⟨ad159, e159, hx159_0, hx159_1, hx159_2, hx159_3, hx159_4⟩ := at_T35 HR0.out x5_1 p159 q159
        cases e159
        replace p159 := eq_true p159
        replace q159 := eq_true q159
        have p160 : 0 ≤ (x5_1 : Int) := of_decide_eq_true (by assumption)
        have q160 : x5_1 < (l1.length : Int) := of_decide_eq_true (by assumption)
        obtain ⟨ad160, e160, hx160_0, hx160_1, hx160_2, hx160_3, hx160_4⟩ := at_T35 HR1.out x5_1 p160 q160
        cases e160
        replace p160 := eq_true p160
        replace q160 := eq_true q160
        go_wp2
        repeat (go_quiet (fail); try go_wp2)
        go_ret
        exact ⟨by rfl, by repeat (first | exact Drawn0.refl _ | apply Drawn0.step)⟩
       ·rw [if_neg c7] at H
        have c7b0 : (!((((rd_T35 l0 x5_1).f0).toList) == (((rd_T35 l1 x5_1).f0).toList)) || (!(((rd_T35 l0 x5_1).f1) == ((rd_T35 l1 x5_1).f1)) || (!(((rd_T35 l0 x5_1).f2) == ((rd_T35 l1 x5_1).f2)) || (!(((rd_T35 l0 x5_1).f3) == ((rd_T35 l1 x5_1).f3)) || (!((((rd_T35 l0 x5_1).f4).toList) == (((rd_T35 l1 x5_1).f4).toList))))))) = false := by simpa using c7
        clear c7
        have H' := Aside0.mk H
        clear H
        have p159 : 0 ≤ (x5_1 : Int) := of_decide_eq_true (by assumption)
        have q159 : x5_1 < (l0.length : Int) := of_decide_eq_true (by assumption)
        obtain ⟨ad159, e159, hx159_0, hx159_1, hx159_2, hx159_3, hx159_4⟩ := at_T35 HR0.out x5_1 p159 q159
        cases e159
        replace p159 := eq_true p159
        replace q159 := eq_true q159
        have p160 : 0 ≤ (x5_1 : Int) := of_decide_eq_true (by assumption)
        have q160 : x5_1 < (l1.length : Int) := of_decide_eq_true (by assumption)
        obtain ⟨ad160, e160, hx160_0, hx160_1, hx160_2, hx160_3, hx160_4⟩ := at_T35 HR1.out x5_1 p160 q160
        cases e160
        replace p160 := eq_true p160
        replace q160 := eq_true q160
        go_wp2
        repeat (go_quiet (fail); try go_wp2)
        go_roundg k1
        case measure => have := HK1.out; omega
        case rel => exact ⟨(wrap64 (x5_1 + 1)), (by rfl), H', ⟨by have := HK1.out; omega⟩, by repeat (first | exact Drawn0.refl _ | apply Drawn0.step)⟩
      ·rw [if_neg c6] at H
       exact absurd H (by simp)
     ·rw [if_neg c5] at H
      exact absurd H (by simp)
    ·rw [if_neg c4] at H
     have c4b0 : decide (x5_1 < (l0.length : Int)) = false := decide_eq_false c4
     clear c4
     obtain rfl := Option.some.inj H
     go_wp2
     repeat (go_quiet (fail); try go_wp2)
     go_ret
     exact ⟨by rfl, by repeat (first | exact Drawn0.refl _ | apply Drawn0.step)⟩
 ·rw [if_neg c3] at H
  have c3b0 : ((l0.length : Int) == (l1.length : Int)) = false := beq_eq_false_iff_ne.mpr c3
  have c3b1 : ((l0.length : Int) != (l1.length : Int)) = true := bne_iff_ne.mpr c3
  have c3b2 : (l0.length == l1.length) = false := by (simp at c3 ⊢; omega)
  obtain rfl := Option.some.inj H
  go_enter Tryz.func22, Tryz.ntmps22
  go_wp2
  repeat (go_quiet (fail); try go_wp2)
  go_ret
  exact ⟨by rfl, by repeat ((exact Drawn0.refl _))⟩
mutual
def beadrollref13_Put.l0 : Nat → List (S35) → List (S35) → Bool → Int → ByteArray → Int → Int → Int → ByteArray → Option ((List (S35)))
 | 0, _, _, _, _, _, _, _, _, _ => none
 | k + 1, x0, x5, x6, x7, x162000, x162001, x162002, x162003, x162004 => if x7 < (x0.length : Int) then (if 0 ≤ x7 then ((beadrollref11_Compare.f k x162000 x162001 x162002 x162003 x162004 ((rd_T35 x0 x7).f0) ((rd_T35 x0 x7).f1) ((rd_T35 x0 x7).f2) ((rd_T35 x0 x7).f3) ((rd_T35 x0 x7).f4)).bind fun t166 => (if t166 ≤ 0 then (beadrollref13_Put.j1 k x0 x5 x6 x7 t166 (!x6) x162000 x162001 x162002 x162003 x162004) else (beadrollref13_Put.j1 k x0 x5 x6 x7 t166 false x162000 x162001 x162002 x162003 x162004))) else (none)) else (if x6 = true then (some x5) else (if x5.length < 2513169434916 then (some (x5 ++ [(⟨x162000, x162001, x162002, x162003, x162004⟩ : S35)])) else (none)))
def beadrollref13_Put.j1 : Nat → List (S35) → List (S35) → Bool → Int → Int → Bool → ByteArray → Int → Int → Int → ByteArray → Option ((List (S35)))
 | 0, _, _, _, _, _, _, _, _, _, _, _ => none
 | k + 1, x0, x5, x6, x7, x8, x26, x162000, x162001, x162002, x162003, x162004 => if x26 = true then (if x5.length < 2513169434916 then ((some (x5 ++ [(⟨x162000, x162001, x162002, x162003, x162004⟩ : S35)] : List (S35))).bind fun y167 => (if x8 = 0 then (beadrollref13_Put.l0 k x0 y167 true (wrap64 (x7 + 1)) x162000 x162001 x162002 x162003 x162004) else (if 0 ≤ x7 then (if x7 < (x0.length : Int) then (if y167.length < 2513169434916 then (beadrollref13_Put.l0 k x0 (y167 ++ [(⟨(rd_T35 x0 x7).f0, (rd_T35 x0 x7).f1, (rd_T35 x0 x7).f2, (rd_T35 x0 x7).f3, (rd_T35 x0 x7).f4⟩ : S35)]) true (wrap64 (x7 + 1)) x162000 x162001 x162002 x162003 x162004) else (none)) else (none)) else (none)))) else (none)) else (if x8 = 0 then (beadrollref13_Put.l0 k x0 x5 x6 (wrap64 (x7 + 1)) x162000 x162001 x162002 x162003 x162004) else (if 0 ≤ x7 then (if x7 < (x0.length : Int) then (if x5.length < 2513169434916 then (beadrollref13_Put.l0 k x0 (x5 ++ [(⟨(rd_T35 x0 x7).f0, (rd_T35 x0 x7).f1, (rd_T35 x0 x7).f2, (rd_T35 x0 x7).f3, (rd_T35 x0 x7).f4⟩ : S35)]) x6 (wrap64 (x7 + 1)) x162000 x162001 x162002 x162003 x162004) else (none)) else (none)) else (none)))
end
def beadrollref13_Put.f (k : Nat) (l0 : List (S35)) (a1_0 : ByteArray) (a1_1 : Int) (a1_2 : Int) (a1_3 : Int) (a1_4 : ByteArray) : Option ((List (S35))) := beadrollref13_Put.l0 k l0 ([] : List (S35)) false 0 a1_0 a1_1 a1_2 a1_3 a1_4
set_option maxHeartbeats 8000000 in
set_option maxRecDepth 100000 in
theorem beadrollref13_Put.calls (k : Nat) (A0 : Option Addr) (c0 : Nat) (l0 : List (S35)) (a1_0 : ByteArray) (a1_1 : Int) (a1_2 : Int) (a1_3 : Int) (a1_4 : ByteArray) (r : List (S35)) (w : World) (hr0 : Kd.C k35 w A0 l0.length l0) (hc0 : l0.length ≤ c0) (h : beadrollref13_Put.f k l0 a1_0 a1_1 a1_2 a1_3 a1_4 = some r) :
  Calls Tryz.prog 79 #[.slice A0 l0.length c0, .agg #[.string a1_0, .int .i64 a1_1, .int .i64 a1_2, .int .i64 a1_3, .string a1_4]] w fun e w' => ∃ v0_ : Value, e = .returned (v0_) ∧ Kd.R k35 35 w' w.heap.size (fun _ => True) v0_ r ∧ Below w.heap.size w w' := by
 have hu35 := Tryz.underlying35
 have HR0 := Aside0.mk hr0
 have HC0 := Aside0.mk hc0
 clear hr0 hc0
 have HB := Aside0.mk (Below.refl w.heap.size w)
 have H : (beadrollref13_Put.l0 k l0 ([] : List (S35)) false 0 a1_0 a1_1 a1_2 a1_3 a1_4) = some r := h
 clear h
 have H' := Aside0.mk H
 clear H
 go_enter Tryz.func79, Tryz.ntmps79
 go_wp2_with ((((with_reducible refine gate_dst (N := 3) rfl ?_); refine box_event ?hg (N := 3) ?hd (cs := #[.string a1_0, .int .i64 a1_1, .int .i64 a1_2, .int .i64 a1_3, .string a1_4]) (t := 35) ?hr ?_; (case hd => rfl); (case hg => rfl); (case hr => (go_simp; done)); intro gb161 hg w3 hbox hb; have BK161 := Aside0.mk (hbox); have GW161 := Aside0.mk ((by rw [hg]; exact (below_size (by repeat ((with_reducible (exact HB.out))))) : w.heap.size ≤ gb161)); have GE161 := Aside0.mk ((by rw [hg]; exact (below_size (by repeat ((with_reducible (exact HB.out))))) : w.heap.size ≤ gb161)); replace HB := Aside0.mk (below_step (by repeat ((with_reducible (exact HB.out)))) hb); clear hb hbox hg)))
 go_loopg [5, 6, 7] k (fun kq v5 v6 v7 w' => ∃ (x5_1 : List (S35)) (x6_1 : Bool) (x7_1 : Int), v6 = .bool x6_1 ∧ v7 = .int .i64 x7_1 ∧ Aside0 (beadrollref13_Put.l0 kq l0 x5_1 x6_1 x7_1 a1_0 a1_1 a1_2 a1_3 a1_4 = some r) ∧ Aside0 (kq ≤ k) ∧ Aside0 (Kd.R k35 35 w' w.heap.size (fun k_ => k_ ≠ gb161) v5 x5_1) ∧ Aside0 (w'.heap[gb161]? = some (.cells #[.string a1_0, .int .i64 a1_1, .int .i64 a1_2, .int .i64 a1_3, .string a1_4] 35 (0, 0))) ∧ Aside0 (Below w.heap.size w w'))
 case atStart => exact ⟨(([] : List (S35))), (false), (0), (by rfl), (by rfl), H', ⟨Nat.le_refl _⟩, ⟨by (exact Kd.R_nil _ _ _ _ _)⟩, ⟨by (with_reducible repeat ((refine blk_drewN ?_ _))); exact BK161.out⟩, ⟨by repeat ((with_reducible (exact HB.out)))⟩⟩
 case round =>
  clear H'
  obtain ⟨x5_1, x6_1, x7_1, rfl, rfl, HA, HK1, HO_5, BK161, HB⟩ := hrel
  cases gk with
  | zero => exact absurd HA.out (by simp [beadrollref13_Put.l0])
  | succ k1 =>
   have H := HA.out
   clear HA
   simp only [beadrollref13_Put.l0] at H
   by_cases c4 : x7_1 < (l0.length : Int)
   ·rw [if_pos c4] at H
    have c4b0 : decide (x7_1 < (l0.length : Int)) = true := decide_eq_true c4
    clear c4
    by_cases c5 : 0 ≤ x7_1
    ·rw [if_pos c5] at H
     have c5b0 : decide (0 ≤ x7_1) = true := decide_eq_true c5
     clear c5
     replace H := Option.bind_eq_some_iff.mp H
     obtain ⟨t166, A60, H⟩ := H
     replace H : (if t166 ≤ 0 then (beadrollref13_Put.j1 k1 l0 x5_1 x6_1 x7_1 t166 (!x6_1) a1_0 a1_1 a1_2 a1_3 a1_4) else (beadrollref13_Put.j1 k1 l0 x5_1 x6_1 x7_1 t166 false a1_0 a1_1 a1_2 a1_3 a1_4)) = some r := H
     have A6 := Aside0.mk A60
     clear A60
     have HC7 := Aside0.mk H
     clear H
     (try go_wp2)
     replace HO_5 := Aside0.mk (Kd.R_drew HO_5.out)
     replace BK161 := Aside0.mk (blk_drew BK161.out)
     replace HB := Aside0.mk (below_drew1 HB.out)
     have p165 : 0 ≤ (x7_1 : Int) := of_decide_eq_true (by assumption)
     have q165 : x7_1 < (l0.length : Int) := of_decide_eq_true (by assumption)
     obtain ⟨ad165, e165, hx165_0, hx165_1, hx165_2, hx165_3, hx165_4⟩ := at_T35 HR0.out x7_1 p165 q165
     have hw165_4 := hx165_4
     have hw165_3 := hx165_3
     have hw165_2 := hx165_2
     have hw165_1 := hx165_1
     have hw165_0 := hx165_0
     cases e165
     replace hx165_0 := kp_ HB.out hx165_0
     replace hx165_1 := kp_ HB.out hx165_1
     replace hx165_2 := kp_ HB.out hx165_2
     replace hx165_3 := kp_ HB.out hx165_3
     replace hx165_4 := kp_ HB.out hx165_4
     replace p165 := eq_true p165
     replace q165 := eq_true q165
     refine start_ (n := 7) (ds := []) (ls 7 0) (by kernel_rfl) rfl rfl (c5_ BK161.out (ec_ (kp_ HB.out hw165_0) (ec_ (kp_ HB.out hw165_1) (ec_ (kp_ HB.out hw165_2) (ec_ (kp_ HB.out hw165_3) (ed_ (kp_ HB.out hw165_4))))))) (fun hHeld => ?_)
     generalize wr.drew = w8 at HO_5 BK161 HB hx165_0 hx165_1 hx165_2 hx165_3 hx165_4 hHeld ⊢
     refine pure_ (i := 1) (N := some 16) (v := ?_) (a' := ?_) (ls 7 2) rfl rfl (by kernel_rfl) (fun _ _ _ h => h) (Or.inl ⟨by rfl, ?_⟩) ?_ ?_
     rotate_left
     ·intro w'
      go_simp
      with_reducible rfl
     rotate_left
     ·simp only [Act.put, List.setIfInBounds_toArray, List.set_cons_zero, List.set_cons_succ, i64_w, i32_w]
      rfl
     refine pure_ (i := 2) (N := some 17) (v := ?_) (a' := ?_) (ls 7 6) rfl rfl (by kernel_rfl) (fun _ _ _ h => h) (Or.inl ⟨by rfl, ?_⟩) ?_ ?_
     rotate_left
     ·intro w'
      go_simp
      with_reducible rfl
     rotate_left
     ·simp only [Act.put, List.setIfInBounds_toArray, List.set_cons_zero, List.set_cons_succ, i64_w, i32_w]
      rfl
     refine pure_ (i := 3) (N := some 18) (v := ?_) (a' := ?_) (ls 7 14) rfl rfl (by kernel_rfl) (fun _ _ _ h => h) (Or.inl ⟨by rfl, ?_⟩) ?_ ?_
     rotate_left
     ·intro w'
      go_simp
      with_reducible rfl
     rotate_left
     ·simp only [Act.put, List.setIfInBounds_toArray, List.set_cons_zero, List.set_cons_succ, i64_w, i32_w]
      rfl
     refine take_ (i := 0) (N := some 15) (v := ?_) (a' := ?_) (ls 7 15) rfl rfl (by kernel_rfl) (fun _ _ _ h => h) (Or.inl ⟨by rfl, ?_⟩) hHeld ?_ ?_
     rotate_left
     ·rintro w' ⟨s0, s1, s2, s3, s4, s5, s6, s7, s8, s9⟩
      go_simp
      with_reducible rfl
     rotate_left
     ·simp only [Act.put, List.setIfInBounds_toArray, List.set_cons_zero, List.set_cons_succ, i64_w, i32_w]
      rfl
     refine take_ (i := 4) (N := some 19) (v := ?_) (a' := ?_) (ls 7 31) rfl rfl (by kernel_rfl) (fun _ _ _ h => h) (Or.inl ⟨by rfl, ?_⟩) hHeld ?_ ?_
     rotate_left
     ·rintro w' ⟨s0, s1, s2, s3, s4, s5, s6, s7, s8, s9⟩
      go_simp
      with_reducible rfl
     rotate_left
     ·simp only [Act.put, List.setIfInBounds_toArray, List.set_cons_zero, List.set_cons_succ, i64_w, i32_w]
      rfl
     refine one_ (i := 5) (N := some 20) (ls 7 63) rfl rfl (by kernel_rfl) (by decide) (fun K hK => ?_)
     refine gs_ Tryz.func89 #[.agg #[.string a1_0, .int .i64 a1_1, .int .i64 a1_2, .int .i64 a1_3, .string a1_4], .agg #[.string ((rd_T35 l0 x7_1).f0), .int .i64 ((rd_T35 l0 x7_1).f1), .int .i64 ((rd_T35 l0 x7_1).f2), .int .i64 ((rd_T35 l0 x7_1).f3), .string ((rd_T35 l0 x7_1).f4)]] ?_
     with_reducible refine (beadrollref11_Compare.calls k1 a1_0 a1_1 a1_2 a1_3 a1_4 ((rd_T35 l0 x7_1).f0) ((rd_T35 l0 x7_1).f1) ((rd_T35 l0 x7_1).f2) ((rd_T35 l0 x7_1).f3) ((rd_T35 l0 x7_1).f4) t166 _ A6.out).mono ?_
     rintro e w9 ⟨rfl, hb⟩
     refine ⟨_, rfl, ?_⟩
     replace HO_5 := Aside0.mk (Kd.R_below (by ((exact HO_5.out))) hb)
     replace BK161 := Aside0.mk (blk_below (by ((exact BK161.out))) hb)
     replace HB := Aside0.mk (below_step (by repeat ((with_reducible (exact HB.out)))) hb)
     (try clear hb)
     refine hK.out _ _ (c5_ BK161.out (ec_ (kp_ HB.out hw165_0) (ec_ (kp_ HB.out hw165_1) (ec_ (kp_ HB.out hw165_2) (ec_ (kp_ HB.out hw165_3) (ed_ (kp_ HB.out hw165_4))))))) (fun hHeld => ?_)
     clear hK K
     refine norm_ (a' := ?_) ?_ ?_
     rotate_left
     ·show Act.put _ (some 20) _ = _
      simp only [Act.put, List.setIfInBounds_toArray, List.set_cons_zero, List.set_cons_succ, i64_w, i32_w]
      rfl
     refine pure_ (i := 6) (N := some 8) (v := ?_) (a' := ?_) (ls 7 127) rfl rfl (by kernel_rfl) (fun _ _ _ h => h) (Or.inl ⟨by rfl, ?_⟩) ?_ ?_
     rotate_left
     ·intro w'
      go_simp
      with_reducible rfl
     rotate_left
     ·simp only [Act.put, List.setIfInBounds_toArray, List.set_cons_zero, List.set_cons_succ, i64_w, i32_w]
      rfl
     refine done_ (by kernel_rfl) ?_
     go_upto_region 7 with (fail)
     go_cut [26] (fun v26 wc => ∃ (kq : Nat) (x26_6 : Bool), v26 = .bool x26_6 ∧ Aside0 (beadrollref13_Put.j1 kq l0 x5_1 x6_1 x7_1 t166 x26_6 a1_0 a1_1 a1_2 a1_3 a1_4 = some r) ∧ Aside0 (kq ≤ k1) ∧ Aside0 (Kd.R k35 35 wc w.heap.size (fun k_ => k_ ≠ gb161) u5 x5_1) ∧ Aside0 (wc.heap[gb161]? = some (.cells #[.string a1_0, .int .i64 a1_1, .int .i64 a1_2, .int .i64 a1_3, .string a1_4] 35 (0, 0))) ∧ Aside0 (Below w.heap.size w wc))
     case first =>
      have H := HC7.out
      clear HC7
      by_cases c10 : t166 ≤ 0
      ·rw [if_pos c10] at H
       have c10b0 : decide (t166 ≤ 0) = true := decide_eq_true c10
       clear c10
       (skip)
       have H' := Aside0.mk H
       clear H
       go_wp2
       go_meet
       case rel => exact ⟨_, (!x6_1), (by rfl), H', ⟨by have := HK1.out; omega⟩, ⟨by (with_reducible repeat ((apply Kd.R_alloc))); exact HO_5.out⟩, ⟨by (with_reducible repeat ((refine blk_drewN ?_ _))); exact BK161.out⟩, ⟨by repeat ((with_reducible (exact HB.out)))⟩⟩
      ·rw [if_neg c10] at H
       have c10b0 : decide (t166 ≤ 0) = false := decide_eq_false c10
       clear c10
       (skip)
       have H' := Aside0.mk H
       clear H
       go_wp2
       go_meet
       case rel => exact ⟨_, (false), (by rfl), H', ⟨by have := HK1.out; omega⟩, ⟨by (with_reducible repeat ((apply Kd.R_alloc))); exact HO_5.out⟩, ⟨by (with_reducible repeat ((refine blk_drewN ?_ _))); exact BK161.out⟩, ⟨by repeat ((with_reducible (exact HB.out)))⟩⟩
     case rest =>
      clear HC7
      (try clear c4b0)
      (try clear c5b0)
      (try clear hx165_0)
      (try clear hx165_1)
      (try clear hx165_2)
      (try clear hx165_3)
      (try clear hx165_4)
      (try clear p165)
      (try clear q165)
      obtain ⟨kq, x26_6, rfl, HA, HJ6, HO_5, BK161, HB⟩ := hcut
      cases kq with
      | zero => exact absurd HA.out (by simp [beadrollref13_Put.j1])
      | succ kj6 =>
       have H := HA.out
       clear HA
       simp only [beadrollref13_Put.j1] at H
       by_cases c11 : x26_6 = true
       ·subst c11
        have H1 : (if x5_1.length < 2513169434916 then ((some (x5_1 ++ [(⟨a1_0, a1_1, a1_2, a1_3, a1_4⟩ : S35)] : List (S35))).bind fun y167 => (if t166 = 0 then (beadrollref13_Put.l0 kj6 l0 y167 true (wrap64 (x7_1 + 1)) a1_0 a1_1 a1_2 a1_3 a1_4) else (if 0 ≤ x7_1 then (if x7_1 < (l0.length : Int) then (if y167.length < 2513169434916 then (beadrollref13_Put.l0 kj6 l0 (y167 ++ [(⟨(rd_T35 l0 x7_1).f0, (rd_T35 l0 x7_1).f1, (rd_T35 l0 x7_1).f2, (rd_T35 l0 x7_1).f3, (rd_T35 l0 x7_1).f4⟩ : S35)]) true (wrap64 (x7_1 + 1)) a1_0 a1_1 a1_2 a1_3 a1_4) else (none)) else (none)) else (none)))) else (none)) = some r := by rw [if_pos rfl] at H; exact H
        clear H
        have H := H1
        clear H1
        by_cases c12 : x5_1.length < 2513169434916
        ·rw [if_pos c12] at H
         have LMc12 := Aside0.mk c12
         clear c12
         obtain ⟨y167, hy167⟩ : ∃ y_ : List (S35), y_ = (x5_1 ++ [(⟨a1_0, a1_1, a1_2, a1_3, a1_4⟩ : S35)]) := ⟨_, rfl⟩
         replace H : (if t166 = 0 then (beadrollref13_Put.l0 kj6 l0 y167 true (wrap64 (x7_1 + 1)) a1_0 a1_1 a1_2 a1_3 a1_4) else (if 0 ≤ x7_1 then (if x7_1 < (l0.length : Int) then (if y167.length < 2513169434916 then (beadrollref13_Put.l0 kj6 l0 (y167 ++ [(⟨(rd_T35 l0 x7_1).f0, (rd_T35 l0 x7_1).f1, (rd_T35 l0 x7_1).f2, (rd_T35 l0 x7_1).f3, (rd_T35 l0 x7_1).f4⟩ : S35)]) true (wrap64 (x7_1 + 1)) a1_0 a1_1 a1_2 a1_3 a1_4) else (none)) else (none)) else (none))) = some r := by (have H2_ := (Option.bind_some _ _).symm.trans H; rw [hy167]; with_reducible exact H2_)
         have Ny167 := Aside0.mk hy167
         clear hy167
         by_cases c13 : t166 = 0
         ·rw [if_pos c13] at H
          have c13b0 : (t166 == 0) = true := beq_iff_eq.mpr c13
          have c13b1 : (t166 != 0) = false := bne_eq_false_iff_eq.mpr c13
          clear c13
          have H' := Aside0.mk H
          clear H
          obtain ⟨hcz14_0, hcz14_1, hcz14_2, hcz14_3, hcz14_4, hfz14_0, hfz14_1, hfz14_2, hfz14_3, hfz14_4⟩ := z5_ BK161.out
          go_wp2_with ((((with_reducible refine gate_builtin (b := .append) (xs := #[.tmp 27, .tmp 29]) rfl ?_); at_builtin; refine Kd.R_append k35 (w0 := w) w.heap.size rfl (.tmp 27) (.tmp 29) 22 35 (.agg #[(.string ⟨#[]⟩), (.int .i64 0), (.int .i64 0), (.int .i64 0), (.string ⟨#[]⟩)]) 56 rfl Tryz.underlying22 info35 rfl (by decide) (by omega) u5 x5_1 (⟨a1_0, a1_1, a1_2, a1_3, a1_4⟩ : S35) [.string a1_0, .int .i64 a1_1, .int .i64 a1_2, .int .i64 a1_3, .string a1_4] (fun k_ => k_ ≠ gb161) (fun _ => False) rfl rfl ?aP (fun _ hk => hk.elim) ?aF ?aO ?aB ?aS ?aL ?_; (case aP => exact k35_mkM _ _ _ (⟨a1_0, a1_1, a1_2, a1_3, a1_4⟩ : S35)); (case aB => exact (by repeat ((with_reducible (exact HB.out))))); (case aF => exact (fun k_ hk => Kd.freshB (g := gb161) (o := .cells #[.string a1_0, .int .i64 a1_1, .int .i64 a1_2, .int .i64 a1_3, .string a1_4] 35 (0, 0)) (by ((exact BK161.out))) k_ hk)); (case aO => exact (by ((exact HO_5.out)))); (case aS => exact (below_size (by repeat ((with_reducible (exact HB.out)))))); (case aL => have := LMc12.out; omega); intro v168 w15 ho hb hg hat; rw [← Ny167.out] at ho; have n0_ := Aside0.mk (blk_grown (g := gb161) (o := .cells #[.string a1_0, .int .i64 a1_1, .int .i64 a1_2, .int .i64 a1_3, .string a1_4] 35 (0, 0)) (by ((exact BK161.out))) hg (Kd.R_away HO_5.out (fun _ hk => hk))); have n1_ := Aside0.mk (hb); have n2_ := Aside0.mk (ho); clear BK161; clear HB; clear HO_5; have BK161 := n0_; have HB := n1_; have HO169 := n2_; clear n0_ n1_ n2_; clear ho hb hg hat)))
          go_roundg kj6
          case measure => have := HK1.out; have := HJ6.out; omega
          case rel => exact ⟨(y167), (true), (wrap64 (x7_1 + 1)), (by rfl), (by rfl), H', ⟨by have := HK1.out; have := HJ6.out; omega⟩, ⟨by (with_reducible repeat ((apply Kd.R_alloc))); exact HO169.out⟩, ⟨by (with_reducible repeat ((refine blk_drewN ?_ _))); exact BK161.out⟩, ⟨by repeat ((with_reducible (exact HB.out)))⟩⟩
         ·rw [if_neg c13] at H
          have c13b0 : (t166 == 0) = false := beq_eq_false_iff_ne.mpr c13
          have c13b1 : (t166 != 0) = true := bne_iff_ne.mpr c13
          by_cases c16 : 0 ≤ x7_1
          ·rw [if_pos c16] at H
           have c16b0 : decide (0 ≤ x7_1) = true := decide_eq_true c16
           clear c16
           by_cases c17 : x7_1 < (l0.length : Int)
           ·rw [if_pos c17] at H
            have c17b0 : decide (x7_1 < (l0.length : Int)) = true := decide_eq_true c17
            clear c17
            by_cases c18 : y167.length < 2513169434916
            ·rw [if_pos c18] at H
             have LMc18 := Aside0.mk c18
             clear c18
             obtain ⟨y171, hy171⟩ : ∃ y_ : List (S35), y_ = (y167 ++ [(⟨(rd_T35 l0 x7_1).f0, (rd_T35 l0 x7_1).f1, (rd_T35 l0 x7_1).f2, (rd_T35 l0 x7_1).f3, (rd_T35 l0 x7_1).f4⟩ : S35)]) := ⟨_, rfl⟩
             replace H : (beadrollref13_Put.l0 kj6 l0 y171 true (wrap64 (x7_1 + 1)) a1_0 a1_1 a1_2 a1_3 a1_4) = some r := by (rw [hy171]; with_reducible exact H)
             have Ny171 := Aside0.mk hy171
             clear hy171
             have H' := Aside0.mk H
             clear H
             obtain ⟨hcz19_0, hcz19_1, hcz19_2, hcz19_3, hcz19_4, hfz19_0, hfz19_1, hfz19_2, hfz19_3, hfz19_4⟩ := z5_ BK161.out
             go_wp2_with (first | ((with_reducible refine gate_builtin (b := .append) (xs := #[.tmp 27, .tmp 29]) rfl ?_); at_builtin; refine Kd.R_append k35 (w0 := w) w.heap.size rfl (.tmp 27) (.tmp 29) 22 35 (.agg #[(.string ⟨#[]⟩), (.int .i64 0), (.int .i64 0), (.int .i64 0), (.string ⟨#[]⟩)]) 56 rfl Tryz.underlying22 info35 rfl (by decide) (by omega) u5 x5_1 (⟨a1_0, a1_1, a1_2, a1_3, a1_4⟩ : S35) [.string a1_0, .int .i64 a1_1, .int .i64 a1_2, .int .i64 a1_3, .string a1_4] (fun k_ => k_ ≠ gb161) (fun _ => False) rfl rfl ?aP (fun _ hk => hk.elim) ?aF ?aO ?aB ?aS ?aL ?_; (case aP => exact k35_mkM _ _ _ (⟨a1_0, a1_1, a1_2, a1_3, a1_4⟩ : S35)); (case aB => exact (by repeat ((with_reducible (exact HB.out))))); (case aF => exact (fun k_ hk => Kd.freshB (g := gb161) (o := .cells #[.string a1_0, .int .i64 a1_1, .int .i64 a1_2, .int .i64 a1_3, .string a1_4] 35 (0, 0)) (by ((exact BK161.out))) k_ hk)); (case aO => exact (by ((exact HO_5.out)))); (case aS => exact (below_size (by repeat ((with_reducible (exact HB.out)))))); (case aL => have := LMc12.out; omega); intro v168 w20 ho hb hg hat; rw [← Ny167.out] at ho; have n0_ := Aside0.mk (blk_grown (g := gb161) (o := .cells #[.string a1_0, .int .i64 a1_1, .int .i64 a1_2, .int .i64 a1_3, .string a1_4] 35 (0, 0)) (by ((exact BK161.out))) hg (Kd.R_away HO_5.out (fun _ hk => hk))); have n1_ := Aside0.mk (hb); have n2_ := Aside0.mk (ho); clear BK161; clear HB; clear HO_5; have BK161 := n0_; have HB := n1_; have HO169 := n2_; clear n0_ n1_ n2_; clear ho hb hg hat; have p170 : 0 ≤ (x7_1 : Int) := of_decide_eq_true (by assumption); have q170 : x7_1 < (l0.length : Int) := of_decide_eq_true (by assumption); obtain ⟨ad170, e170, hx170_0, hx170_1, hx170_2, hx170_3, hx170_4⟩ := at_T35 HR0.out x7_1 p170 q170; obtain rfl : ad165 = ad170 := (by injection e170); replace hx170_0 := kp_ HB.out hx170_0; replace hx170_1 := kp_ HB.out hx170_1; replace hx170_2 := kp_ HB.out hx170_2; replace hx170_3 := kp_ HB.out hx170_3; replace hx170_4 := kp_ HB.out hx170_4; replace p170 := eq_true p170; replace q170 := eq_true q170) | ((with_reducible refine gate_builtin (b := .append) (xs := #[.tmp 33, .tmp 38]) rfl ?_); at_builtin; refine Kd.R_append k35 (w0 := w) w.heap.size rfl (.tmp 33) (.tmp 38) 22 35 (.agg #[(.string ⟨#[]⟩), (.int .i64 0), (.int .i64 0), (.int .i64 0), (.string ⟨#[]⟩)]) 56 rfl Tryz.underlying22 info35 rfl (by decide) (by omega) v168 y167 (⟨(rd_T35 l0 x7_1).f0, (rd_T35 l0 x7_1).f1, (rd_T35 l0 x7_1).f2, (rd_T35 l0 x7_1).f3, (rd_T35 l0 x7_1).f4⟩ : S35) [.string ((rd_T35 l0 x7_1).f0), .int .i64 ((rd_T35 l0 x7_1).f1), .int .i64 ((rd_T35 l0 x7_1).f2), .int .i64 ((rd_T35 l0 x7_1).f3), .string ((rd_T35 l0 x7_1).f4)] (fun k_ => k_ ≠ gb161) (fun _ => False) rfl rfl ?aP (fun _ hk => hk.elim) ?aF ?aO ?aB ?aS ?aL ?_; (case aP => exact k35_mkM _ _ _ (⟨(rd_T35 l0 x7_1).f0, (rd_T35 l0 x7_1).f1, (rd_T35 l0 x7_1).f2, (rd_T35 l0 x7_1).f3, (rd_T35 l0 x7_1).f4⟩ : S35)); (case aB => exact (by repeat ((with_reducible (exact HB.out))))); (case aF => exact (fun k_ hk => Kd.freshB (g := gb161) (o := .cells #[.string a1_0, .int .i64 a1_1, .int .i64 a1_2, .int .i64 a1_3, .string a1_4] 35 (0, 0)) (by ((exact BK161.out))) k_ hk)); (case aO => exact (by ((exact HO169.out)))); (case aS => exact (below_size (by repeat ((with_reducible (exact HB.out)))))); (case aL => have := LMc18.out; omega); intro v172 w21 ho hb hg hat; rw [← Ny171.out] at ho; have n0_ := Aside0.mk (blk_grown (g := gb161) (o := .cells #[.string a1_0, .int .i64 a1_1, .int .i64 a1_2, .int .i64 a1_3, .string a1_4] 35 (0, 0)) (by ((exact BK161.out))) hg (Kd.R_away HO169.out (fun _ hk => hk))); have n1_ := Aside0.mk (hb); have n2_ := Aside0.mk (ho); clear BK161; clear HB; clear HO169; have BK161 := n0_; have HB := n1_; have HO173 := n2_; clear n0_ n1_ n2_; clear ho hb hg hat))
             go_roundg kj6
             case measure => have := HK1.out; have := HJ6.out; omega
             case rel => exact ⟨(y171), (true), (wrap64 (x7_1 + 1)), (by rfl), (by rfl), H', ⟨by have := HK1.out; have := HJ6.out; omega⟩, ⟨by (with_reducible repeat ((apply Kd.R_alloc))); exact HO173.out⟩, ⟨by (with_reducible repeat ((refine blk_drewN ?_ _))); exact BK161.out⟩, ⟨by repeat ((with_reducible (exact HB.out)))⟩⟩
            ·rw [if_neg c18] at H
             exact absurd H (by simp)
           ·rw [if_neg c17] at H
            exact absurd H (by simp)
          ·rw [if_neg c16] at H
           exact absurd H (by simp)
        ·rw [if_neg c12] at H
         exact absurd H (by simp)
       ·replace c11 := Bool.eq_false_iff.mpr c11
        subst c11
        have H1 : (if t166 = 0 then (beadrollref13_Put.l0 kj6 l0 x5_1 x6_1 (wrap64 (x7_1 + 1)) a1_0 a1_1 a1_2 a1_3 a1_4) else (if 0 ≤ x7_1 then (if x7_1 < (l0.length : Int) then (if x5_1.length < 2513169434916 then (beadrollref13_Put.l0 kj6 l0 (x5_1 ++ [(⟨(rd_T35 l0 x7_1).f0, (rd_T35 l0 x7_1).f1, (rd_T35 l0 x7_1).f2, (rd_T35 l0 x7_1).f3, (rd_T35 l0 x7_1).f4⟩ : S35)]) x6_1 (wrap64 (x7_1 + 1)) a1_0 a1_1 a1_2 a1_3 a1_4) else (none)) else (none)) else (none))) = some r := by rw [if_neg (show ¬ (false = true) by decide)] at H; exact H
        clear H
        have H := H1
        clear H1
        by_cases c22 : t166 = 0
        ·rw [if_pos c22] at H
         have c22b0 : (t166 == 0) = true := beq_iff_eq.mpr c22
         have c22b1 : (t166 != 0) = false := bne_eq_false_iff_eq.mpr c22
         clear c22
         have H' := Aside0.mk H
         clear H
         go_wp2
         go_roundg kj6
         case measure => have := HK1.out; have := HJ6.out; omega
         case rel => exact ⟨(x5_1), (x6_1), (wrap64 (x7_1 + 1)), (by rfl), (by rfl), H', ⟨by have := HK1.out; have := HJ6.out; omega⟩, ⟨by (with_reducible repeat ((apply Kd.R_alloc))); exact HO_5.out⟩, ⟨by (with_reducible repeat ((refine blk_drewN ?_ _))); exact BK161.out⟩, ⟨by repeat ((with_reducible (exact HB.out)))⟩⟩
        ·rw [if_neg c22] at H
         have c22b0 : (t166 == 0) = false := beq_eq_false_iff_ne.mpr c22
         have c22b1 : (t166 != 0) = true := bne_iff_ne.mpr c22
         by_cases c23 : 0 ≤ x7_1
         ·rw [if_pos c23] at H
          have c23b0 : decide (0 ≤ x7_1) = true := decide_eq_true c23
          clear c23
          by_cases c24 : x7_1 < (l0.length : Int)
          ·rw [if_pos c24] at H
           have c24b0 : decide (x7_1 < (l0.length : Int)) = true := decide_eq_true c24
           clear c24
           by_cases c25 : x5_1.length < 2513169434916
           ·rw [if_pos c25] at H
            have LMc25 := Aside0.mk c25
            clear c25
            obtain ⟨y175, hy175⟩ : ∃ y_ : List (S35), y_ = (x5_1 ++ [(⟨(rd_T35 l0 x7_1).f0, (rd_T35 l0 x7_1).f1, (rd_T35 l0 x7_1).f2, (rd_T35 l0 x7_1).f3, (rd_T35 l0 x7_1).f4⟩ : S35)]) := ⟨_, rfl⟩
            replace H : (beadrollref13_Put.l0 kj6 l0 y175 x6_1 (wrap64 (x7_1 + 1)) a1_0 a1_1 a1_2 a1_3 a1_4) = some r := by (rw [hy175]; with_reducible exact H)
            have Ny175 := Aside0.mk hy175
            clear hy175
            have H' := Aside0.mk H
            clear H
            have p174 : 0 ≤ (x7_1 : Int) := of_decide_eq_true (by assumption)
            have q174 : x7_1 < (l0.length : Int) := of_decide_eq_true (by assumption)
            obtain ⟨ad174, e174, hx174_0, hx174_1, hx174_2, hx174_3, hx174_4⟩ := at_T35 HR0.out x7_1 p174 q174
            obtain rfl : ad165 = ad174 := (by injection e174)
            replace hx174_0 := kp_ HB.out hx174_0
            replace hx174_1 := kp_ HB.out hx174_1
            replace hx174_2 := kp_ HB.out hx174_2
            replace hx174_3 := kp_ HB.out hx174_3
            replace hx174_4 := kp_ HB.out hx174_4
            replace p174 := eq_true p174
            replace q174 := eq_true q174
            go_wp2_with ((((with_reducible refine gate_builtin (b := .append) (xs := #[.tmp 33, .tmp 38]) rfl ?_); at_builtin; refine Kd.R_append k35 (w0 := w) w.heap.size rfl (.tmp 33) (.tmp 38) 22 35 (.agg #[(.string ⟨#[]⟩), (.int .i64 0), (.int .i64 0), (.int .i64 0), (.string ⟨#[]⟩)]) 56 rfl Tryz.underlying22 info35 rfl (by decide) (by omega) u5 x5_1 (⟨(rd_T35 l0 x7_1).f0, (rd_T35 l0 x7_1).f1, (rd_T35 l0 x7_1).f2, (rd_T35 l0 x7_1).f3, (rd_T35 l0 x7_1).f4⟩ : S35) [.string ((rd_T35 l0 x7_1).f0), .int .i64 ((rd_T35 l0 x7_1).f1), .int .i64 ((rd_T35 l0 x7_1).f2), .int .i64 ((rd_T35 l0 x7_1).f3), .string ((rd_T35 l0 x7_1).f4)] (fun k_ => k_ ≠ gb161) (fun _ => False) rfl rfl ?aP (fun _ hk => hk.elim) ?aF ?aO ?aB ?aS ?aL ?_; (case aP => exact k35_mkM _ _ _ (⟨(rd_T35 l0 x7_1).f0, (rd_T35 l0 x7_1).f1, (rd_T35 l0 x7_1).f2, (rd_T35 l0 x7_1).f3, (rd_T35 l0 x7_1).f4⟩ : S35)); (case aB => exact (by repeat ((with_reducible (exact HB.out))))); (case aF => exact (fun k_ hk => Kd.freshB (g := gb161) (o := .cells #[.string a1_0, .int .i64 a1_1, .int .i64 a1_2, .int .i64 a1_3, .string a1_4] 35 (0, 0)) (by ((exact BK161.out))) k_ hk)); (case aO => exact (by ((exact HO_5.out)))); (case aS => exact (below_size (by repeat ((with_reducible (exact HB.out)))))); (case aL => have := LMc25.out; omega); intro v176 w26 ho hb hg hat; rw [← Ny175.out] at ho; have n0_ := Aside0.mk (blk_grown (g := gb161) (o := .cells #[.string a1_0, .int .i64 a1_1, .int .i64 a1_2, .int .i64 a1_3, .string a1_4] 35 (0, 0)) (by ((exact BK161.out))) hg (Kd.R_away HO_5.out (fun _ hk => hk))); have n1_ := Aside0.mk (hb); have n2_ := Aside0.mk (ho); clear BK161; clear HB; clear HO_5; have BK161 := n0_; have HB := n1_; have HO177 := n2_; clear n0_ n1_ n2_; clear ho hb hg hat)))
            go_roundg kj6
            case measure => have := HK1.out; have := HJ6.out; omega
            case rel => exact ⟨(y175), (x6_1), (wrap64 (x7_1 + 1)), (by rfl), (by rfl), H', ⟨by have := HK1.out; have := HJ6.out; omega⟩, ⟨by (with_reducible repeat ((apply Kd.R_alloc))); exact HO177.out⟩, ⟨by (with_reducible repeat ((refine blk_drewN ?_ _))); exact BK161.out⟩, ⟨by repeat ((with_reducible (exact HB.out)))⟩⟩
           ·rw [if_neg c25] at H
            exact absurd H (by simp)
          ·rw [if_neg c24] at H
           exact absurd H (by simp)
         ·rw [if_neg c23] at H
          exact absurd H (by simp)
    ·rw [if_neg c5] at H
     exact absurd H (by simp)
   ·rw [if_neg c4] at H
    have c4b0 : decide (x7_1 < (l0.length : Int)) = false := decide_eq_false c4
    clear c4
    by_cases c27 : x6_1 = true
    ·subst c27
     have H1 : (some x5_1) = some r := by rw [if_pos rfl] at H; exact H
     clear H
     have H := H1
     clear H1
     obtain rfl := Option.some.inj H
     go_wp2
     go_ret
     exact ⟨_, by rfl, by (with_reducible repeat ((apply Kd.R_alloc))); exact Kd.R_mono HO_5.out (fun _ hk => trivial), by repeat ((with_reducible (exact HB.out)))⟩
    ·replace c27 := Bool.eq_false_iff.mpr c27
     subst c27
     have H1 : (if x5_1.length < 2513169434916 then (some (x5_1 ++ [(⟨a1_0, a1_1, a1_2, a1_3, a1_4⟩ : S35)])) else (none)) = some r := by rw [if_neg (show ¬ (false = true) by decide)] at H; exact H
     clear H
     have H := H1
     clear H1
     by_cases c28 : x5_1.length < 2513169434916
     ·rw [if_pos c28] at H
      have LMc28 := Aside0.mk c28
      clear c28
      obtain ⟨y162, hy162⟩ : ∃ y_ : List (S35), y_ = (x5_1 ++ [(⟨a1_0, a1_1, a1_2, a1_3, a1_4⟩ : S35)]) := ⟨_, rfl⟩
      replace H : (some y162) = some r := by (rw [hy162]; with_reducible exact H)
      have Ny162 := Aside0.mk hy162
      clear hy162
      obtain rfl := Option.some.inj H
      obtain ⟨hcz29_0, hcz29_1, hcz29_2, hcz29_3, hcz29_4, hfz29_0, hfz29_1, hfz29_2, hfz29_3, hfz29_4⟩ := z5_ BK161.out
      go_wp2_with ((((with_reducible refine gate_builtin (b := .append) (xs := #[.tmp 42, .tmp 44]) rfl ?_); at_builtin; refine Kd.R_append k35 (w0 := w) w.heap.size rfl (.tmp 42) (.tmp 44) 22 35 (.agg #[(.string ⟨#[]⟩), (.int .i64 0), (.int .i64 0), (.int .i64 0), (.string ⟨#[]⟩)]) 56 rfl Tryz.underlying22 info35 rfl (by decide) (by omega) u5 x5_1 (⟨a1_0, a1_1, a1_2, a1_3, a1_4⟩ : S35) [.string a1_0, .int .i64 a1_1, .int .i64 a1_2, .int .i64 a1_3, .string a1_4] (fun k_ => k_ ≠ gb161) (fun _ => False) rfl rfl ?aP (fun _ hk => hk.elim) ?aF ?aO ?aB ?aS ?aL ?_; (case aP => exact k35_mkM _ _ _ (⟨a1_0, a1_1, a1_2, a1_3, a1_4⟩ : S35)); (case aB => exact (by repeat ((with_reducible (exact HB.out))))); (case aF => exact (fun k_ hk => Kd.freshB (g := gb161) (o := .cells #[.string a1_0, .int .i64 a1_1, .int .i64 a1_2, .int .i64 a1_3, .string a1_4] 35 (0, 0)) (by ((exact BK161.out))) k_ hk)); (case aO => exact (by ((exact HO_5.out)))); (case aS => exact (below_size (by repeat ((with_reducible (exact HB.out)))))); (case aL => have := LMc28.out; omega); intro v163 w30 ho hb hg hat; rw [← Ny162.out] at ho; have n0_ := Aside0.mk (blk_grown (g := gb161) (o := .cells #[.string a1_0, .int .i64 a1_1, .int .i64 a1_2, .int .i64 a1_3, .string a1_4] 35 (0, 0)) (by ((exact BK161.out))) hg (Kd.R_away HO_5.out (fun _ hk => hk))); have n1_ := Aside0.mk (hb); have n2_ := Aside0.mk (ho); clear BK161; clear HB; clear HO_5; have BK161 := n0_; have HB := n1_; have HO164 := n2_; clear n0_ n1_ n2_; clear ho hb hg hat)))
      go_ret
      exact ⟨_, by rfl, by (with_reducible repeat ((apply Kd.R_alloc))); exact Kd.R_mono HO164.out (fun _ hk => trivial), by repeat ((with_reducible (exact HB.out)))⟩
     ·rw [if_neg c28] at H
      exact absurd H (by simp)
end Go.Proofs.YtjmpckommjlnlaaGreat.PRr
namespace Go.Proofs.YtjmpckommjlnlaaGreat.Rrs
open Go.RowKit Go.Proofs.YtjmpckommjlnlaaGreatW.PrintWords Go.Proofs.YtjmpckommjlnlaaGreatW.PrintLast Go.Proofs.YtjmpckommjlnlaaGreatW.PrintMore Go.Proofs.YtjmpckommjlnlaaGreat.Given Go.Proofs.YtjmpckommjlnlaaGreat.PRd Go.Proofs.YtjmpckommjlnlaaGreat.PRr Go.Proofs.YtjmpckommjlnlaaGreat.Oct Go.Proofs.YtjmpckommjlnlaaGreat.Name Go.Proofs.YtjmpckommjlnlaaGreat.Cmp Go.Proofs.YtjmpckommjlnlaaGreat.NameFacts Go.Proofs.YtjmpckommjlnlaaGreat.RdataFacts Go.Proofs.YtjmpckommjlnlaaGreat.SetLaw
set_option linter.unusedVariables false
def fine (x : RR) : Prop := rightB x.f0 = true ∧ x.f4.size ≤ 100000
theorem Ev.unique {α : Type} {g : Nat → Option α} {a b : α} (h : Ev g a) (h' : Ev g b) : a = b := by
  obtain ⟨K, h⟩ := h
  obtain ⟨K', h'⟩ := h'
  have h1 := h (max K K') (Nat.le_max_left _ _)
  rw [h' (max K K') (Nat.le_max_right _ _)] at h1
  exact (Option.some.inj h1).symm
theorem Ev.const {α : Type} {o : Option α} {r : α} (h : o = some r) : Ev (fun _ => o) r := ⟨0, fun _ _ => h⟩
def typedB (c : Int) (d : ByteArray) : Bool := if c = 1 then true else if c = 254 then !d.toList.isEmpty else false
def rightRR (x : RR) : Bool := rightB x.f0 && (decide (0 ≤ x.f1) && (decide (x.f1 ≤ 65535) && (decide (0 ≤ x.f2) && (decide (x.f2 ≤ 65535) && (decide (0 ≤ x.f3) && (decide (x.f3 ≤ 2147483647) && (decide (x.f4.size ≤ 65535) && (!typedB x.f2 x.f4 || rightD x.f1 x.f4))))))))
theorem rightRR_fine {x : RR} (h : rightRR x = true) : fine x := by
  unfold rightRR at h
  simp only [Bool.and_eq_true, decide_eq_true_eq] at h
  exact ⟨h.1, by omega⟩
theorem drop_two {α : Type} (l : List α) (i : Nat) (h : i + 1 < l.length) : l.drop i = l[i] :: l[i + 1] :: l.drop (i + 2) := by
  rw [List.drop_eq_getElem_cons (by omega), List.drop_eq_getElem_cons (by omega)]
theorem eqR_iff (x y : RR) : eqR x y = true ↔ x = y := by
  obtain ⟨a0, a1, a2, a3, a4⟩ := x
  obtain ⟨b0, b1, b2, b3, b4⟩ := y
  unfold eqR
  simp only [Bool.and_eq_true, beq_iff_eq, toList_inj]
  constructor
  · rintro ⟨rfl, rfl, rfl, rfl, rfl⟩; rfl
  · intro h; injection h with h0 h1 h2 h3 h4; exact ⟨h0, h1, h2, h3, h4⟩
theorem neR_eq (x y : RR) : (!(x.f0.toList == y.f0.toList) || (!(x.f1 == y.f1) || (!(x.f2 == y.f2) || (!(x.f3 == y.f3) || (!(x.f4.toList == y.f4.toList)))))) = !eqR x y := by
  unfold eqR
  simp only [Bool.not_and]
theorem same_loop (l m : List RR) (hlm : l.length = m.length) (hn : l.length ≤ 9223372036854775807) : ∀ (d i : Nat), l.length ≤ i + d → i ≤ l.length → ∃ b, Ev (fun k => beadrollref11_Same.l0 k l m (i : Int)) b ∧ (b = true ↔ l.drop i = m.drop i) := by
  have hend : ∀ i : Nat, l.length ≤ i → ∃ b, Ev (fun k => beadrollref11_Same.l0 k l m (i : Int)) b ∧ (b = true ↔ l.drop i = m.drop i) := by
    intro i hd
    refine ⟨true, Ev.step (f := fun _ => some true) (fun k => by simp only [beadrollref11_Same.l0]; rw [if_neg (by omega)]) (Ev.now _), ?_⟩
    rw [List.drop_of_length_le (by omega), List.drop_of_length_le (by omega)]
    simp
  intro d
  induction d with
  | zero => exact fun i hd _ => hend i (by omega)
  | succ d ih =>
    intro i hd hi0
    by_cases hi : i < l.length
    · have him : i < m.length := by omega
      have e1 : wrap64 ((i : Int) + 1) = ((i + 1 : Nat) : Int) := by unfold wrap64; omega
      have hs : ∀ k, beadrollref11_Same.l0 (k + 1) l m (i : Int) = if (!eqR l[i] m[i]) = true then some false else beadrollref11_Same.l0 k l m ((i + 1 : Nat) : Int) := fun k => by
        simp only [beadrollref11_Same.l0, e1]
        rw [if_pos (by omega), if_pos (by omega), if_pos (by omega)]
        have hq := neR_eq (rdR l (i : Nat)) (rdR m (i : Nat))
        rw [show (!((rdR l (i : Nat)).f0.toList == (rdR m (i : Nat)).f0.toList) || _) = _ from hq, rdR_get l i hi, rdR_get m i him]
      obtain ⟨b, hb, hiff⟩ := ih (i + 1) (by omega) (by omega)
      rw [List.drop_eq_getElem_cons hi, List.drop_eq_getElem_cons him]
      cases he : eqR l[i] m[i]
      · refine ⟨false, Ev.step hs ?_, ?_⟩
        · simp only [he, Bool.not_false, if_true]
          exact Ev.now _
        · have : ¬ l[i] = m[i] := fun e => by rw [(eqR_iff _ _).mpr e] at he; cases he
          exact ⟨fun e => Bool.noConfusion e, fun e => absurd (List.cons.inj e).1 this⟩
      · refine ⟨b, Ev.step hs ?_, ?_⟩
        · simp only [he, Bool.not_true, Bool.false_eq_true, if_false]
          exact hb
        · rw [(eqR_iff _ _).mp he, hiff]
          exact ⟨fun e => by rw [e], fun e => (List.cons.inj e).2⟩
    · exact hend i (by omega)
open Classical in
theorem ev_same (l m : List RR) (hn : l.length ≤ 9223372036854775807) : Ev (fun k => beadrollref11_Same.f k l m) (decide (l = m)) := by
  unfold beadrollref11_Same.f
  by_cases h : l.length = m.length
  · obtain ⟨b, hb, hiff⟩ := same_loop l m h hn l.length 0 (by omega) (by omega)
    have e : b = decide (l = m) := by
      rw [List.drop_zero, List.drop_zero] at hiff
      by_cases hlm : l = m
      · rw [decide_eq_true hlm]; exact hiff.mpr hlm
      · rw [decide_eq_false hlm]; cases b; rfl; exact absurd (hiff.mp rfl) hlm
    rw [← e]
    simp only [show ((l.length : Int) = (m.length : Int)) from by omega, if_true]
    exact hb
  · have hlm : ¬ l = m := fun e => h (by rw [e])
    rw [decide_eq_false hlm]
    simp only [show ¬ ((l.length : Int) = (m.length : Int)) from by omega, if_false]
    exact Ev.now _
end Go.Proofs.YtjmpckommjlnlaaGreat.Rrs
namespace Go.Proofs.YtjmpckommjlnlaaGreat.PRr
open Go.RowKit Go.Proofs.YtjmpckommjlnlaaGreatW.PrintWords Go.Proofs.YtjmpckommjlnlaaGreatW.PrintLast Go.Proofs.YtjmpckommjlnlaaGreatW.PrintMore Go.Proofs.YtjmpckommjlnlaaGreat.Given Go.Proofs.YtjmpckommjlnlaaGreat.PRd
attribute [local go_sem] max2_int min2_int max_two min_two max_three min_three max_four min_four   -- for this text's walks alone
set_option linter.unusedVariables false
set_option linter.unusedSimpArgs false
def record_One.T1 : Bool × List (List Nat × List Nat) := (true, [([], []), ([0], [0]), ([], []), ([2], [2]), ([1, 3], [1, 3]), ([4, 4], [4]), ([5], [5]), ([6, 5], [5, 6]), ([5], [5]), ([8, 5], [5, 8]), ([7, 9, 5], [5, 7, 9]), ([5, 10], [5, 10]), ([11, 5], [11]), ([12], [12]), ([13, 12], [12, 13]), ([12], [12]), ([15, 12], [12, 15]), ([14, 16, 12], [12, 14, 16]), ([12, 17], [12, 17]), ([18, 12], [18]), ([19], [19]), ([20, 19, 19], [19, 20]), ([19], [19]), ([22, 21, 19], [19, 22]), ([21, 23, 19], [19, 21, 23]), ([19, 24], [19, 24]), ([25, 23, 0, 1, 2, 3, 4, 5, 6, 7, 8, 9, 10, 11, 12, 13, 14, 15, 16, 17, 18, 19, 20, 21, 22, 23, 24, 25], [25])])
def record_One.B1 : List Nat := [0, 1, 0, 4, 15, 31, 63, 127, 63, 319, 1023, 2047, 4095, 8191, 16383, 8191, 40959, 131071, 262143, 524287, 1048575, 2097151, 1048575, 8388607, 16777215, 33554431, 67108863]
theorem record_One.tab1 : rtab .any (opsOf Tryz.f143 1) = record_One.T1 := by kernel_rfl
theorem record_One.bits1 : waitsOk record_One.T1.2 record_One.B1 = true := by kernel_rfl
end Go.Proofs.YtjmpckommjlnlaaGreat.PRr
namespace Go.Proofs.YtjmpckommjlnlaaGreat.PRr
open Go.RowKit Go.Proofs.YtjmpckommjlnlaaGreatW.PrintWords Go.Proofs.YtjmpckommjlnlaaGreatW.PrintLast Go.Proofs.YtjmpckommjlnlaaGreatW.PrintMore Go.Proofs.YtjmpckommjlnlaaGreat.Given Go.Proofs.YtjmpckommjlnlaaGreat.PRd
attribute [local go_sem] max2_int min2_int max_two min_two max_three min_three max_four min_four   -- for this text's walks alone
set_option linter.unusedVariables false
set_option linter.unusedSimpArgs false
def zone_DataType.f (a0 : Int) : Option (Bool) := if a0 ≥ 1 then (if a0 ≤ 65535 then (if a0 = 41 then (some false) else (if a0 < 128 then (some true) else (some (decide (a0 > 255))))) else (some false)) else (some false)
set_option maxHeartbeats 8000000 in
set_option maxRecDepth 100000 in
theorem zone_DataType.calls (a0 : Int) (r : Bool) (w : World) (h : zone_DataType.f a0 = some r) :
    Calls Tryz.prog 112 #[.int .i64 a0] w fun e w' => e = .returned (.bool r) ∧ Drawn0 w w' := by
  have H : (if a0 ≥ 1 then (if a0 ≤ 65535 then (if a0 = 41 then (some false) else (if a0 < 128 then (some true) else (some (decide (a0 > 255))))) else (some false)) else (some false)) = some r := h
  clear h
  by_cases c2 : a0 ≥ 1
  focus
   rw [if_pos c2] at H
   have c2b0 : decide (1 ≤ a0) = true := decide_eq_true c2
   clear c2
   by_cases c3 : a0 ≤ 65535
   focus
    rw [if_pos c3] at H
    have c3b0 : decide (a0 ≤ 65535) = true := decide_eq_true c3
    clear c3
    by_cases c4 : a0 = 41
    focus
     rw [if_pos c4] at H
     have c4b0 : (a0 == 41) = true := beq_iff_eq.mpr c4
     have c4b1 : (a0 != 41) = false := bne_eq_false_iff_eq.mpr c4
     clear c4
    rotate_left
    focus
     rw [if_neg c4] at H
     have c4b0 : (a0 == 41) = false := beq_eq_false_iff_ne.mpr c4
     have c4b1 : (a0 != 41) = true := bne_iff_ne.mpr c4
     by_cases c5 : a0 < 128
     focus
      rw [if_pos c5] at H
      have c5b0 : decide (a0 < 128) = true := decide_eq_true c5
     rotate_left
     focus
      rw [if_neg c5] at H
      have c5b0 : decide (a0 < 128) = false := decide_eq_false c5
     rotate_left
     all_goals
      clear c5
    rotate_left 2
   rotate_left 3
   focus
    rw [if_neg c3] at H
    have c3b0 : decide (a0 ≤ 65535) = false := decide_eq_false c3
    clear c3
   rotate_left
  rotate_left 4
  focus
   rw [if_neg c2] at H
   have c2b0 : decide (1 ≤ a0) = false := decide_eq_false c2
   clear c2
  rotate_left
  all_goals
   obtain rfl := Option.some.inj H
   go_enter Tryz.func112, Tryz.ntmps112
   go_wp2
   go_ret
   exact ⟨by rfl, by repeat ((exact Drawn0.refl _))⟩
def zone_within.f (k : Nat) (a0 : ByteArray) (a1_0 : ByteArray) (a1_1 : Int) (a1_2 : Int) (a1_3 : Int) (a1_4 : ByteArray) : Option (Bool) := if a1_2 = 1 then ((zone_DataType.f a1_1).bind fun t130 => (if t130 = true then ((name_Under.f k a1_0 a0).bind fun t131 => (some t131)) else (some false))) else (some false)
theorem zone_within.mono : ∀ a0 a1 a2 a3 a4 a5 k, LeO (zone_within.f k a0 a1 a2 a3 a4 a5) (zone_within.f (k + 1) a0 a1 a2 a3 a4 a5) := by
 intro a0 a1 a2 a3 a4 a5 k
 unfold zone_within.f
 repeat' first
   | (with_reducible exact name_Under.mono _ _ _)
   | (with_reducible exact LeO.refl _)
   | (with_reducible exact LeO.none _)
   | (with_reducible refine LeO.ite ?_ ?_)
   | (with_reducible refine LeO.bind ?_ (fun _ => ?_))
   | exact name_Under.mono _ _ _
   | exact LeO.none _
   | refine LeO.ite ?_ ?_
   | refine LeO.bind ?_ (fun _ => ?_)
set_option maxHeartbeats 8000000 in
set_option maxRecDepth 100000 in
theorem zone_within.calls (k : Nat) (a0 : ByteArray) (a1_0 : ByteArray) (a1_1 : Int) (a1_2 : Int) (a1_3 : Int) (a1_4 : ByteArray) (r : Bool) (w : World) (h : zone_within.f k a0 a1_0 a1_1 a1_2 a1_3 a1_4 = some r) :
    Calls Tryz.prog 63 #[.string a0, .agg #[.string a1_0, .int .i64 a1_1, .int .i64 a1_2, .int .i64 a1_3, .string a1_4]] w fun e w' => e = .returned (.bool r) ∧ Below w.heap.size w w' := by
  have hu35 := Tryz.underlying35
  have HB := Aside0.mk (Below.refl w.heap.size w)
  have H : (if a1_2 = 1 then ((zone_DataType.f a1_1).bind fun t130 => (if t130 = true then ((name_Under.f k a1_0 a0).bind fun t131 => (some t131)) else (some false))) else (some false)) = some r := h
  clear h
  by_cases c3 : a1_2 = 1
  focus
   rw [if_pos c3] at H
   have c3b0 : (a1_2 == 1) = true := beq_iff_eq.mpr c3
   have c3b1 : (a1_2 != 1) = false := bne_eq_false_iff_eq.mpr c3
   clear c3
   obtain ⟨t130, A4, H⟩ := bnd_ H
   by_cases c5 : t130 = true
   focus
    subst c5
    rw [if_pos rfl] at H
    obtain ⟨t131, A6, H⟩ := bnd_ H
   rotate_left
   focus
    replace c5 := Bool.eq_false_iff.mpr c5
    subst c5
    rw [if_neg ff_] at H
   rotate_left
  rotate_left 2
  focus
   rw [if_neg c3] at H
   have c3b0 : (a1_2 == 1) = false := beq_eq_false_iff_ne.mpr c3
   have c3b1 : (a1_2 != 1) = true := bne_iff_ne.mpr c3
  rotate_left
  all_goals
   obtain rfl := Option.some.inj H
   go_enter Tryz.func63, Tryz.ntmps63
  focus
   go_wp2_with (first | ((with_reducible refine gate_dst (N := 3) rfl ?_); refine box_event ?hg (N := 3) ?hd (cs := #[.string a1_0, .int .i64 a1_1, .int .i64 a1_2, .int .i64 a1_3, .string a1_4]) (t := 35) ?hr ?_; (case hd => rfl); (case hg => rfl); (case hr => (go_simp; done)); intro gb129 hg w7 hbox hb; have BK129 := Aside0.mk (hbox); have GW129 := Aside0.mk (ge_ hg (below_size HB.out)); have GE129 := Aside0.mk (ge_ hg (below_size HB.out)); replace HB := Aside0.mk (below_step HB.out hb); clear hb hbox hg; obtain ⟨hcz8_0, hcz8_1, hcz8_2, hcz8_3, hcz8_4, hfz8_0, hfz8_1, hfz8_2, hfz8_3, hfz8_4⟩ := z5_ BK129.out) | (go_at_call 112; (with_reducible refine (zone_DataType.calls a1_1 _ _ A4.out).mono ?_); rintro e w' ⟨rfl, ⟨nd, rfl⟩⟩) | (go_at_call 113; (with_reducible refine (name_Under.calls k a1_0 a0 t131 _ A6.out).mono ?_); rintro e w9 ⟨rfl, hb⟩; replace BK129 := Aside0.mk (blk_below (by ((exact BK129.out))) hb); replace HB := Aside0.mk (below_step (by repeat ((with_reducible first | exact HB.out | apply pw_below_drewN))) hb); (try clear hb)))
  rotate_left
  focus
   go_wp2_with (first | ((with_reducible refine gate_dst (N := 3) rfl ?_); refine box_event ?hg (N := 3) ?hd (cs := #[.string a1_0, .int .i64 a1_1, .int .i64 a1_2, .int .i64 a1_3, .string a1_4]) (t := 35) ?hr ?_; (case hd => rfl); (case hg => rfl); (case hr => (go_simp; done)); intro gb129 hg w10 hbox hb; have BK129 := Aside0.mk (hbox); have GW129 := Aside0.mk (ge_ hg (below_size HB.out)); have GE129 := Aside0.mk (ge_ hg (below_size HB.out)); replace HB := Aside0.mk (below_step HB.out hb); clear hb hbox hg; obtain ⟨hcz11_0, hcz11_1, hcz11_2, hcz11_3, hcz11_4, hfz11_0, hfz11_1, hfz11_2, hfz11_3, hfz11_4⟩ := z5_ BK129.out) | (go_at_call 112; (with_reducible refine (zone_DataType.calls a1_1 _ _ A4.out).mono ?_); rintro e w' ⟨rfl, ⟨nd, rfl⟩⟩))
  rotate_left
  focus
   go_wp2_with ((((with_reducible refine gate_dst (N := 3) rfl ?_); refine box_event ?hg (N := 3) ?hd (cs := #[.string a1_0, .int .i64 a1_1, .int .i64 a1_2, .int .i64 a1_3, .string a1_4]) (t := 35) ?hr ?_; (case hd => rfl); (case hg => rfl); (case hr => (go_simp; done)); intro gb129 hg w12 hbox hb; have BK129 := Aside0.mk (hbox); have GW129 := Aside0.mk (ge_ hg (below_size HB.out)); have GE129 := Aside0.mk (ge_ hg (below_size HB.out)); replace HB := Aside0.mk (below_step HB.out hb); clear hb hbox hg; obtain ⟨hcz13_0, hcz13_1, hcz13_2, hcz13_3, hcz13_4, hfz13_0, hfz13_1, hfz13_2, hfz13_3, hfz13_4⟩ := z5_ BK129.out)))
  rotate_left
  all_goals
   go_ret
   exact ⟨by rfl, by repeat ((with_reducible first | exact HB.out | apply pw_below_drewN))⟩
end Go.Proofs.YtjmpckommjlnlaaGreat.PRr
namespace Go.Proofs.YtjmpckommjlnlaaGreat.PRr
open Go.RowKit Go.Proofs.YtjmpckommjlnlaaGreatW.PrintWords Go.Proofs.YtjmpckommjlnlaaGreatW.PrintLast Go.Proofs.YtjmpckommjlnlaaGreatW.PrintMore Go.Proofs.YtjmpckommjlnlaaGreat.Given Go.Proofs.YtjmpckommjlnlaaGreat.PRd
attribute [local go_sem] max2_int min2_int max_two min_two max_three min_three max_four min_four   -- for this text's walks alone
set_option linter.unusedVariables false
set_option linter.unusedSimpArgs false
def zone_apart.l0 : Nat → List (S35) → List (S35) → Int → Int → Option (Bool)
 | 0, _, _, _, _ => none
 | k + 1, x0, x5, x6, x7 => if x7 < x6 then (if 0 ≤ x7 then (if x7 < (x5.length : Int) then (if ((rd_T35 x5 x7).f1) = 5 then (if x7 > 0 then (if 0 ≤ (wrap64 (x7 - 1)) then (if (wrap64 (x7 - 1)) < (x0.length : Int) then ((name_Alike.f ((rd_T35 x0 (wrap64 (x7 - 1))).f0) ((rd_T35 x5 x7).f0)).bind fun t135 => (if t135 = true then (some false) else (if (wrap64 (x7 + 1)) < (x0.length : Int) then (if 0 ≤ (wrap64 (x7 + 1)) then ((name_Alike.f ((rd_T35 x0 (wrap64 (x7 + 1))).f0) ((rd_T35 x5 x7).f0)).bind fun t137 => (if t137 = true then (some false) else (zone_apart.l0 k x0 x5 x6 (wrap64 (x7 + 1))))) else (none)) else (zone_apart.l0 k x0 x5 x6 (wrap64 (x7 + 1)))))) else (none)) else (none)) else (if (wrap64 (x7 + 1)) < (x0.length : Int) then (if 0 ≤ (wrap64 (x7 + 1)) then ((name_Alike.f ((rd_T35 x0 (wrap64 (x7 + 1))).f0) ((rd_T35 x5 x7).f0)).bind fun t139 => (if t139 = true then (some false) else (zone_apart.l0 k x0 x5 x6 (wrap64 (x7 + 1))))) else (none)) else (zone_apart.l0 k x0 x5 x6 (wrap64 (x7 + 1))))) else (zone_apart.l0 k x0 x5 x6 (wrap64 (x7 + 1)))) else (none)) else (none)) else (some true)
def zone_apart.f (k : Nat) (l0 : List (S35)) : Option (Bool) := zone_apart.l0 k l0 l0 (l0.length : Int) 0
def zone_apart.T5 : Bool × List (List Nat × List Nat) := (true, [([], []), ([0], [0]), ([1], [1]), ([2], [2]), ([2], [2]), ([4, 2], [2, 4]), ([3, 5, 2], [2, 3, 5]), ([6, 2], [2, 6]), ([7, 2], [2, 7]), ([2], [2]), ([9, 2], [2, 9]), ([8, 10, 2, 2], [2, 8, 10]), ([2, 11], [2, 11]), ([12, 11], [12]), ([13], [13]), ([14, 13], [13, 14]), ([13], [13]), ([16, 13], [13, 16]), ([15, 17, 13], [13, 15, 17]), ([18, 13, 13], [13, 18]), ([19], [19]), ([19], [19]), ([21, 19], [19, 21]), ([20, 22, 19], [19, 20, 22]), ([23, 19], [19, 23]), ([24, 19], [19, 24]), ([19], [19]), ([26, 19], [19, 26]), ([25, 27, 19, 19], [19, 25, 27]), ([19, 28, 13], [13, 19, 28]), ([13, 29], [13, 29])])
def zone_apart.B5 : List Nat := [0, 1, 3, 7, 7, 23, 63, 127, 255, 7, 519, 2047, 4095, 8191, 16383, 32767, 16383, 81919, 262143, 524287, 1048575, 1048575, 3145727, 8388607, 16777215, 33554431, 1048575, 68157439, 268435455, 536870911, 1073741823]
theorem zone_apart.tab5 : rtab .any (opsOf Tryz.f65 5) = zone_apart.T5 := by kernel_rfl
theorem zone_apart.bits5 : waitsOk zone_apart.T5.2 zone_apart.B5 = true := by kernel_rfl
set_option maxHeartbeats 8000000 in
set_option maxRecDepth 100000 in
theorem zone_apart.calls (k : Nat) (A0 : Option Addr) (c0 : Nat) (l0 : List (S35)) (r : Bool) (w : World) (hr0 : Kd.C k35 w A0 l0.length l0) (hc0 : l0.length ≤ c0) (h : zone_apart.f k l0 = some r) :
    Calls Tryz.prog 65 #[.slice A0 l0.length c0] w fun e w' => e = .returned (.bool r) ∧ Below w.heap.size w w' := by
  have hu35 := Tryz.underlying35
  have HR0 := Aside0.mk hr0
  have HC0 := Aside0.mk hc0
  clear hr0 hc0
  have HB := Aside0.mk (Below.refl w.heap.size w)
  have H : (zone_apart.l0 k l0 l0 (l0.length : Int) 0) = some r := h
  clear h
  have H' := Aside0.mk H
  clear H
  go_enter Tryz.func65, Tryz.ntmps65
  go_wp2
  go_loopg [7] k (fun kq v7 w' => ∃ (x7_1 : Int), v7 = .int .i64 x7_1 ∧ Aside0 (zone_apart.l0 kq l0 l0 (l0.length : Int) x7_1 = some r) ∧ Aside0 (kq ≤ k) ∧ Aside0 (Below w.heap.size w w'))
  case atStart => exact ⟨(0), (by rfl), H', ⟨Nat.le_refl _⟩, ⟨HB.out⟩⟩
  case round =>
   clear H'
   obtain ⟨x7_1, rfl, HA, HK1, HB⟩ := hrel
   cases gk with
   | zero => exact absurd HA.out (by simp [zone_apart.l0])
   | succ k1 =>
    have H := HA.out
    clear HA
    simp only [zone_apart.l0] at H
    by_cases c2 : x7_1 < (l0.length : Int)
    ·rw [if_pos c2] at H
     have c2b0 : decide (x7_1 < (l0.length : Int)) = true := decide_eq_true c2
     clear c2
     obtain ⟨c3b0, H⟩ := gdd_ H
     obtain ⟨c4b0, H⟩ := gdd_ H
     by_cases c5 : ((rd_T35 l0 x7_1).f1) = 5
     focus
      rw [if_pos c5] at H
      have c5b0 : (((rd_T35 l0 x7_1).f1) == 5) = true := beq_iff_eq.mpr c5
      have c5b1 : (((rd_T35 l0 x7_1).f1) != 5) = false := bne_eq_false_iff_eq.mpr c5
      clear c5
      by_cases c6 : x7_1 > 0
      focus
       rw [if_pos c6] at H
       have c6b0 : decide (0 < x7_1) = true := decide_eq_true c6
       clear c6
       obtain ⟨ji7, hji7⟩ : ∃ j_ : Int, (wrap64 (x7_1 - 1)) = j_ := ⟨_, rfl⟩
       rw [hji7] at H
       have hji7w : (IntKind.i64.wrap (x7_1 - 1)) = ji7 := (i64_w _).trans hji7
       obtain ⟨c8b0, H⟩ := gdd_ H
       obtain ⟨c9b0, H⟩ := gdd_ H
       obtain ⟨t135, A10, H⟩ := bnd_ H
       by_cases c11 : t135 = true
       focus
        subst c11
        rw [if_pos rfl] at H
        obtain rfl := Option.some.inj H
       rotate_left
       focus
        replace c11 := Bool.eq_false_iff.mpr c11
        subst c11
        rw [if_neg ff_] at H
        by_cases c17 : (wrap64 (x7_1 + 1)) < (l0.length : Int)
        focus
         rw [if_pos c17] at H
         have c17b0 : decide ((wrap64 (x7_1 + 1)) < (l0.length : Int)) = true := decide_eq_true c17
         clear c17
         obtain ⟨ji18, hji18⟩ : ∃ j_ : Int, (wrap64 (x7_1 + 1)) = j_ := ⟨_, rfl⟩
         rw [hji18] at H
         (try rw [hji18] at c17b0)
         have hji18w : (IntKind.i64.wrap (x7_1 + 1)) = ji18 := (i64_w _).trans hji18
         obtain ⟨c19b0, H⟩ := gdd_ H
         obtain ⟨t137, A20, H⟩ := bnd_ H
         by_cases c21 : t137 = true
         focus
          subst c21
          rw [if_pos rfl] at H
          obtain rfl := Option.some.inj H
         rotate_left
         focus
          replace c21 := Bool.eq_false_iff.mpr c21
          subst c21
          rw [if_neg ff_] at H
          have H' := Aside0.mk H
          clear H
         rotate_left
        rotate_left 2
        focus
         rw [if_neg c17] at H
         have c17b0 : decide ((wrap64 (x7_1 + 1)) < (l0.length : Int)) = false := decide_eq_false c17
         clear c17
         have H' := Aside0.mk H
         clear H
        rotate_left
       rotate_left 3
      rotate_left 4
      focus
       rw [if_neg c6] at H
       have c6b0 : decide (0 < x7_1) = false := decide_eq_false c6
       clear c6
       by_cases c39 : (wrap64 (x7_1 + 1)) < (l0.length : Int)
       focus
        rw [if_pos c39] at H
        have c39b0 : decide ((wrap64 (x7_1 + 1)) < (l0.length : Int)) = true := decide_eq_true c39
        clear c39
        obtain ⟨ji40, hji40⟩ : ∃ j_ : Int, (wrap64 (x7_1 + 1)) = j_ := ⟨_, rfl⟩
        rw [hji40] at H
        (try rw [hji40] at c39b0)
        have hji40w : (IntKind.i64.wrap (x7_1 + 1)) = ji40 := (i64_w _).trans hji40
        obtain ⟨c41b0, H⟩ := gdd_ H
        obtain ⟨t139, A42, H⟩ := bnd_ H
        by_cases c43 : t139 = true
        focus
         subst c43
         rw [if_pos rfl] at H
         obtain rfl := Option.some.inj H
        rotate_left
        focus
         replace c43 := Bool.eq_false_iff.mpr c43
         subst c43
         rw [if_neg ff_] at H
         have H' := Aside0.mk H
         clear H
        rotate_left
       rotate_left 2
       focus
        rw [if_neg c39] at H
        have c39b0 : decide ((wrap64 (x7_1 + 1)) < (l0.length : Int)) = false := decide_eq_false c39
        clear c39
        have H' := Aside0.mk H
        clear H
       rotate_left
      rotate_left 3
     rotate_left 7
     focus
      rw [if_neg c5] at H
      have c5b0 : (((rd_T35 l0 x7_1).f1) == 5) = false := beq_eq_false_iff_ne.mpr c5
      have c5b1 : (((rd_T35 l0 x7_1).f1) != 5) = true := bne_iff_ne.mpr c5
      have H' := Aside0.mk H
      clear H
     rotate_left
     all_goals
      have p132 : 0 ≤ (x7_1 : Int) := of_decide_eq_true (by assumption)
      have q132 : x7_1 < (l0.length : Int) := of_decide_eq_true (by assumption)
      obtain ⟨ad132, e132, hx132_0, hx132_1, hx132_2, hx132_3, hx132_4⟩ := at_T35 HR0.out x7_1 p132 q132
      cases e132
      replace hx132_0 := kp_ HB.out hx132_0
      replace hx132_1 := kp_ HB.out hx132_1
      replace hx132_2 := kp_ HB.out hx132_2
      replace hx132_3 := kp_ HB.out hx132_3
      replace hx132_4 := kp_ HB.out hx132_4
      replace p132 := eq_true p132
      replace q132 := eq_true q132
     iterate 7
      focus
       (try go_wp2_with ((((with_reducible refine gate_dst (N := 4) rfl ?_); (try (refine gate_guard (by rfl) ?_; dsimp only)); refine box_event ?hg (N := 4) ?hd (cs := #[.string (⟨#[]⟩ : ByteArray), .int .i64 0, .int .i64 0, .int .i64 0, .string (⟨#[]⟩ : ByteArray)]) (t := 35) ?hr ?_; (case hd => rfl); (case hg => rfl); (case hr => (go_simp; done)); intro gb133 hg w12 hbox hb; have BK133 := Aside0.mk (hbox); have GW133 := Aside0.mk (ge_ hg (below_size HB.out)); have GE133 := Aside0.mk (ge_ hg (below_size HB.out)); replace HB := Aside0.mk (below_step HB.out hb); clear hb hbox hg; obtain ⟨hcz13_0, hcz13_1, hcz13_2, hcz13_3, hcz13_4, hfz13_0, hfz13_1, hfz13_2, hfz13_3, hfz13_4⟩ := z5_ BK133.out))))
       have n0_ : Aside0 ((((((w12.setCell ⟨gb133, 0, none⟩ (.string ((rd_T35 l0 x7_1).f0))).setCell ⟨gb133, 1, none⟩ (.int .i64 ((rd_T35 l0 x7_1).f1))).setCell ⟨gb133, 2, none⟩ (.int .i64 ((rd_T35 l0 x7_1).f2))).setCell ⟨gb133, 3, none⟩ (.int .i64 ((rd_T35 l0 x7_1).f3))).setCell ⟨gb133, 4, none⟩ (.string ((rd_T35 l0 x7_1).f4))).heap[gb133]? = some (.cells #[.string ((rd_T35 l0 x7_1).f0), .int .i64 ((rd_T35 l0 x7_1).f1), .int .i64 ((rd_T35 l0 x7_1).f2), .int .i64 ((rd_T35 l0 x7_1).f3), .string ((rd_T35 l0 x7_1).f4)] 35 (0, 0))) := ⟨by (with_reducible repeat ((refine blk_drewN ?_ _))); refine blk_put (cs := #[.string ((rd_T35 l0 x7_1).f0), .int .i64 ((rd_T35 l0 x7_1).f1), .int .i64 ((rd_T35 l0 x7_1).f2), .int .i64 ((rd_T35 l0 x7_1).f3), .string (⟨#[]⟩ : ByteArray)]) ?_ 4 _ rfl; (with_reducible repeat ((refine blk_drewN ?_ _))); refine blk_put (cs := #[.string ((rd_T35 l0 x7_1).f0), .int .i64 ((rd_T35 l0 x7_1).f1), .int .i64 ((rd_T35 l0 x7_1).f2), .int .i64 0, .string (⟨#[]⟩ : ByteArray)]) ?_ 3 _ rfl; (with_reducible repeat ((refine blk_drewN ?_ _))); refine blk_put (cs := #[.string ((rd_T35 l0 x7_1).f0), .int .i64 ((rd_T35 l0 x7_1).f1), .int .i64 0, .int .i64 0, .string (⟨#[]⟩ : ByteArray)]) ?_ 2 _ rfl; (with_reducible repeat ((refine blk_drewN ?_ _))); refine blk_put (cs := #[.string ((rd_T35 l0 x7_1).f0), .int .i64 0, .int .i64 0, .int .i64 0, .string (⟨#[]⟩ : ByteArray)]) ?_ 1 _ rfl; (with_reducible repeat ((refine blk_drewN ?_ _))); refine blk_put (cs := #[.string (⟨#[]⟩ : ByteArray), .int .i64 0, .int .i64 0, .int .i64 0, .string (⟨#[]⟩ : ByteArray)]) ?_ 0 _ rfl; (with_reducible repeat ((refine blk_drewN ?_ _))); exact BK133.out⟩
       have n1_ : Aside0 (Below w.heap.size w (((((w12.setCell ⟨gb133, 0, none⟩ (.string ((rd_T35 l0 x7_1).f0))).setCell ⟨gb133, 1, none⟩ (.int .i64 ((rd_T35 l0 x7_1).f1))).setCell ⟨gb133, 2, none⟩ (.int .i64 ((rd_T35 l0 x7_1).f2))).setCell ⟨gb133, 3, none⟩ (.int .i64 ((rd_T35 l0 x7_1).f3))).setCell ⟨gb133, 4, none⟩ (.string ((rd_T35 l0 x7_1).f4)))) := ⟨by repeat ((with_reducible first | exact HB.out | refine below_set ?_ GE133.out))⟩
       (try clear BK133)
       (try clear HB)
       generalize (((((w12.setCell ⟨gb133, 0, none⟩ (.string ((rd_T35 l0 x7_1).f0))).setCell ⟨gb133, 1, none⟩ (.int .i64 ((rd_T35 l0 x7_1).f1))).setCell ⟨gb133, 2, none⟩ (.int .i64 ((rd_T35 l0 x7_1).f2))).setCell ⟨gb133, 3, none⟩ (.int .i64 ((rd_T35 l0 x7_1).f3))).setCell ⟨gb133, 4, none⟩ (.string ((rd_T35 l0 x7_1).f4))) = w14 at n0_ n1_ ⊢
       have BK133 := n0_
       have HB := n1_
       clear n0_ n1_
       replace BK133 := Aside0.mk (blk_drew BK133.out)
       replace HB := Aside0.mk (below_drew1 HB.out)
      rotate_left
     rotate_left
     iterate 4
      focus
       have p134 : 0 ≤ ((ji7) : Int) := of_decide_eq_true (by assumption)
       have q134 : (ji7) < (l0.length : Int) := of_decide_eq_true (by assumption)
       obtain ⟨ad134, e134, hx134_0, hx134_1, hx134_2, hx134_3, hx134_4⟩ := at_T35 HR0.out (ji7) p134 q134
       have hw134_4 := hx134_4
       have hw134_3 := hx134_3
       have hw134_2 := hx134_2
       have hw134_1 := hx134_1
       have hw134_0 := hx134_0
       obtain rfl : ad132 = ad134 := (by injection e134)
       replace hx134_0 := kp_ HB.out hx134_0
       replace hx134_1 := kp_ HB.out hx134_1
       replace hx134_2 := kp_ HB.out hx134_2
       replace hx134_3 := kp_ HB.out hx134_3
       replace hx134_4 := kp_ HB.out hx134_4
       replace p134 := eq_true p134
       replace q134 := eq_true q134
      rotate_left
     rotate_left 4
     focus
      refine start_ (n := 31) (ds := []) (ls 31 0) (by kernel_rfl) rfl rfl (c5_ BK133.out (ec_ (kp_ HB.out hw134_0) (ec_ (kp_ HB.out hw134_1) (ec_ (kp_ HB.out hw134_2) (ec_ (kp_ HB.out hw134_3) (ed_ (kp_ HB.out hw134_4))))))) (fun hHeld => ?_); refine with_tabW zone_apart.tab5 zone_apart.bits5 (fun HT_ HW_ => ?_)
      generalize w14.drew = w15 at BK133 HB hx134_0 hx134_1 hx134_2 hx134_3 hx134_4 hHeld ⊢
     rotate_left
     iterate 2
      focus
       have p136 : 0 ≤ ((ji18) : Int) := of_decide_eq_true (by assumption)
       have q136 : (ji18) < (l0.length : Int) := of_decide_eq_true (by assumption)
       obtain ⟨ad136, e136, hx136_0, hx136_1, hx136_2, hx136_3, hx136_4⟩ := at_T35 HR0.out (ji18) p136 q136
       have hw136_4 := hx136_4
       have hw136_3 := hx136_3
       have hw136_2 := hx136_2
       have hw136_1 := hx136_1
       have hw136_0 := hx136_0
       obtain rfl : ad132 = ad136 := (by injection e136)
       replace hx136_0 := kp_ HB.out hx136_0
       replace hx136_1 := kp_ HB.out hx136_1
       replace hx136_2 := kp_ HB.out hx136_2
       replace hx136_3 := kp_ HB.out hx136_3
       replace hx136_4 := kp_ HB.out hx136_4
       replace p136 := eq_true p136
       replace q136 := eq_true q136
       refine start_ (n := 31) (ds := []) (ls 31 0) (by kernel_rfl) rfl rfl (c5_ BK133.out (ec_ (kp_ HB.out hw134_0) (ec_ (kp_ HB.out hw134_1) (ec_ (kp_ HB.out hw134_2) (ec_ (kp_ HB.out hw134_3) (ec_ (kp_ HB.out hw134_4) (ec_ (kp_ HB.out hw136_0) (ec_ (kp_ HB.out hw136_1) (ec_ (kp_ HB.out hw136_2) (ec_ (kp_ HB.out hw136_3) (ed_ (kp_ HB.out hw136_4)))))))))))) (fun hHeld => ?_); refine with_tabW zone_apart.tab5 zone_apart.bits5 (fun HT_ HW_ => ?_)
       generalize w14.drew = w25 at BK133 HB hx134_0 hx134_1 hx134_2 hx134_3 hx134_4 hx136_0 hx136_1 hx136_2 hx136_3 hx136_4 hHeld ⊢
      rotate_left
     focus
      refine start_ (n := 31) (ds := []) (ls 31 0) (by kernel_rfl) rfl rfl (c5_ BK133.out (ec_ (kp_ HB.out hw134_0) (ec_ (kp_ HB.out hw134_1) (ec_ (kp_ HB.out hw134_2) (ec_ (kp_ HB.out hw134_3) (ed_ (kp_ HB.out hw134_4))))))) (fun hHeld => ?_); refine with_tabW zone_apart.tab5 zone_apart.bits5 (fun HT_ HW_ => ?_)
      generalize w14.drew = w37 at BK133 HB hx134_0 hx134_1 hx134_2 hx134_3 hx134_4 hHeld ⊢
     rotate_left
     rotate_left 4
     iterate 4
      focus
       refine td_ [(0, 15), (1, 16), (2, 17), (3, 18), (4, 19), (5, 20), (6, 21), (7, 22), (9, 24)] ?_
       iterate 9 (refine pm_ HT_ ?_)
       refine dn_ ?_
       refine td_ [(8, 23), (10, 25)] ?_
      rotate_left
     rotate_left 4
     focus
      iterate 2 (refine tm_ HT_ HW_ hHeld ?_)
     rotate_left
     iterate 2
      focus
       iterate 2 (refine tm_ HT_ HW_ hHeld ?_)
      rotate_left
     focus
      iterate 2 (refine tm_ HT_ HW_ hHeld ?_)
     rotate_left
     rotate_left 4
     iterate 4
      focus
       refine dn_ ?_
       refine om1_ HT_ (i := 11) (N := some 26) (ls 31 4095) (fun K hK => ?_)
       refine gs_ Tryz.func64 #[.string ((rd_T35 l0 (ji7)).f0), .string ((rd_T35 l0 x7_1).f0)] ?_
       with_reducible refine (name_Alike.calls ((rd_T35 l0 (ji7)).f0) ((rd_T35 l0 x7_1).f0) _ _ A10.out).mono ?_
       rintro e w16 ⟨rfl, hb⟩
       refine ⟨_, rfl, ?_⟩
       replace BK133 := Aside0.mk (blk_below (by ((exact BK133.out))) hb)
       replace HB := Aside0.mk (below_step HB.out hb)
       (try clear hb)
      rotate_left
     rotate_left 4
     focus
      refine hK.out _ _ (c5_ BK133.out (ec_ (kp_ HB.out hw134_0) (ec_ (kp_ HB.out hw134_1) (ec_ (kp_ HB.out hw134_2) (ec_ (kp_ HB.out hw134_3) (ed_ (kp_ HB.out hw134_4))))))) (fun hHeld => ?_)
     rotate_left
     iterate 2
      focus
       refine hK.out _ _ (c5_ BK133.out (ec_ (kp_ HB.out hw134_0) (ec_ (kp_ HB.out hw134_1) (ec_ (kp_ HB.out hw134_2) (ec_ (kp_ HB.out hw134_3) (ec_ (kp_ HB.out hw134_4) (ec_ (kp_ HB.out hw136_0) (ec_ (kp_ HB.out hw136_1) (ec_ (kp_ HB.out hw136_2) (ec_ (kp_ HB.out hw136_3) (ed_ (kp_ HB.out hw136_4)))))))))))) (fun hHeld => ?_)
      rotate_left
     focus
      refine hK.out _ _ (c5_ BK133.out (ec_ (kp_ HB.out hw134_0) (ec_ (kp_ HB.out hw134_1) (ec_ (kp_ HB.out hw134_2) (ec_ (kp_ HB.out hw134_3) (ed_ (kp_ HB.out hw134_4))))))) (fun hHeld => ?_)
     rotate_left
     rotate_left 4
     iterate 4
      focus
       clear hK K
       refine nm_ (N := (some 26)) ?_
      rotate_left
     rotate_left 4
     focus
      refine td_ [(12, 27), (13, 28)] ?_
     rotate_left
     iterate 2
      focus
       refine td_ [(12, 27), (13, 28), (14, 29), (15, 30), (16, 31), (17, 32), (18, 33), (19, 34), (20, 35), (21, 36), (22, 37), (23, 38), (24, 39), (26, 41)] ?_
       iterate 14 (refine pm_ HT_ ?_)
       refine dn_ ?_
       refine td_ [(25, 40), (27, 42)] ?_
       iterate 2 (refine tm_ HT_ HW_ hHeld ?_)
       refine dn_ ?_
       refine om1_ HT_ (i := 28) (N := some 43) (ls 31 536870911) (fun K hK => ?_)
       refine gs_ Tryz.func64 #[.string ((rd_T35 l0 (ji18)).f0), .string ((rd_T35 l0 x7_1).f0)] ?_
       with_reducible refine (name_Alike.calls ((rd_T35 l0 (ji18)).f0) ((rd_T35 l0 x7_1).f0) _ _ A20.out).mono ?_
       rintro e w27 ⟨rfl, hb⟩
       refine ⟨_, rfl, ?_⟩
       replace BK133 := Aside0.mk (blk_below (by ((exact BK133.out))) hb)
       replace HB := Aside0.mk (below_step HB.out hb)
       (try clear hb)
       refine hK.out _ _ (c5_ BK133.out (ec_ (kp_ HB.out hw134_0) (ec_ (kp_ HB.out hw134_1) (ec_ (kp_ HB.out hw134_2) (ec_ (kp_ HB.out hw134_3) (ec_ (kp_ HB.out hw134_4) (ec_ (kp_ HB.out hw136_0) (ec_ (kp_ HB.out hw136_1) (ec_ (kp_ HB.out hw136_2) (ec_ (kp_ HB.out hw136_3) (ed_ (kp_ HB.out hw136_4)))))))))))) (fun hHeld => ?_)
       clear hK K
       refine nm_ (N := (some 43)) ?_
      rotate_left
     focus
      refine td_ [(12, 27), (13, 28), (14, 29), (15, 30), (16, 31), (17, 32), (18, 33), (19, 34)] ?_
      iterate 8 (refine pm_ HT_ ?_)
      refine dn_ ?_
      refine td_ [(20, 35), (21, 36), (22, 37), (23, 38), (24, 39), (25, 40), (26, 41), (27, 42), (28, 43)] ?_
      iterate 9 (refine om_ HT_ ?_)
      refine dn_ ?_
     rotate_left
     rotate_left 5
     iterate 3
      focus
       refine td_ [(29, 44), (30, 45)] ?_
      rotate_left
     iterate 2
      focus
       have p138 : 0 ≤ ((ji40) : Int) := of_decide_eq_true (by assumption)
       have q138 : (ji40) < (l0.length : Int) := of_decide_eq_true (by assumption)
       obtain ⟨ad138, e138, hx138_0, hx138_1, hx138_2, hx138_3, hx138_4⟩ := at_T35 HR0.out (ji40) p138 q138
       have hw138_4 := hx138_4
       have hw138_3 := hx138_3
       have hw138_2 := hx138_2
       have hw138_1 := hx138_1
       have hw138_0 := hx138_0
       obtain rfl : ad132 = ad138 := (by injection e138)
       replace hx138_0 := kp_ HB.out hx138_0
       replace hx138_1 := kp_ HB.out hx138_1
       replace hx138_2 := kp_ HB.out hx138_2
       replace hx138_3 := kp_ HB.out hx138_3
       replace hx138_4 := kp_ HB.out hx138_4
       replace p138 := eq_true p138
       replace q138 := eq_true q138
       refine start_ (n := 31) (ds := []) (ls 31 0) (by kernel_rfl) rfl rfl (c5_ BK133.out (ec_ (kp_ HB.out hw138_0) (ec_ (kp_ HB.out hw138_1) (ec_ (kp_ HB.out hw138_2) (ec_ (kp_ HB.out hw138_3) (ed_ (kp_ HB.out hw138_4))))))) (fun hHeld => ?_); refine with_tabW zone_apart.tab5 zone_apart.bits5 (fun HT_ HW_ => ?_)
       generalize w14.drew = w47 at BK133 HB hx138_0 hx138_1 hx138_2 hx138_3 hx138_4 hHeld ⊢
      rotate_left
     focus
      refine start_ (n := 31) (S := fun w' => True) (ds := []) (ls 31 0) (by kernel_rfl) rfl rfl trivial (fun hHeld => ?_); refine with_tabW zone_apart.tab5 zone_apart.bits5 (fun HT_ HW_ => ?_)
      generalize w14.drew = w57 at BK133 HB hHeld ⊢
     rotate_left
     rotate_left 5
     iterate 3
      focus
       refine td_ [(0, 15), (1, 16), (2, 17)] ?_
       iterate 3 (refine pm_ HT_ ?_)
       refine dn_ ?_
       refine td_ [(3, 18), (4, 19), (5, 20), (6, 21), (7, 22), (8, 23), (9, 24), (10, 25), (11, 26)] ?_
       iterate 9 (refine om_ HT_ ?_)
       refine dn_ ?_
      rotate_left
     rotate_left 5
     iterate 2
      focus
       refine td_ [(12, 27), (13, 28), (14, 29), (15, 30), (16, 31), (17, 32), (18, 33), (19, 34), (20, 35), (21, 36), (22, 37), (23, 38), (24, 39), (26, 41)] ?_
       iterate 14 (refine pm_ HT_ ?_)
       refine dn_ ?_
       refine td_ [(25, 40), (27, 42)] ?_
       iterate 2 (refine tm_ HT_ HW_ hHeld ?_)
       refine dn_ ?_
       refine om1_ HT_ (i := 28) (N := some 43) (ls 31 536870911) (fun K hK => ?_)
       refine gs_ Tryz.func64 #[.string ((rd_T35 l0 (ji40)).f0), .string ((rd_T35 l0 x7_1).f0)] ?_
       with_reducible refine (name_Alike.calls ((rd_T35 l0 (ji40)).f0) ((rd_T35 l0 x7_1).f0) _ _ A42.out).mono ?_
       rintro e w48 ⟨rfl, hb⟩
       refine ⟨_, rfl, ?_⟩
       replace BK133 := Aside0.mk (blk_below (by ((exact BK133.out))) hb)
       replace HB := Aside0.mk (below_step HB.out hb)
       (try clear hb)
       refine hK.out _ _ ⟨(blk_cell BK133.out 0).trans rfl, (blk_cell BK133.out 1).trans rfl, (blk_cell BK133.out 2).trans rfl, (blk_cell BK133.out 3).trans rfl, (blk_cell BK133.out 4).trans rfl, (kp_ HB.out hw138_0), (kp_ HB.out hw138_1), (kp_ HB.out hw138_2), (kp_ HB.out hw138_3), (kp_ HB.out hw138_4)⟩ (fun hHeld => ?_)
       clear hK K
       refine nm_ (N := (some 43)) ?_
      rotate_left
     focus
      refine td_ [(12, 27), (13, 28), (14, 29), (15, 30), (16, 31), (17, 32), (18, 33), (19, 34)] ?_
      iterate 8 (refine pm_ HT_ ?_)
      refine dn_ ?_
      refine td_ [(20, 35), (21, 36), (22, 37), (23, 38), (24, 39), (25, 40), (26, 41), (27, 42), (28, 43)] ?_
      iterate 9 (refine om_ HT_ ?_)
      refine dn_ ?_
     rotate_left
     rotate_left 5
     iterate 3
      focus
       refine td_ [(29, 44), (30, 45)] ?_
      rotate_left
     rotate_left
     iterate 7
      focus
       iterate 2 (refine pm_ HT_ ?_)
       refine dn_ ?_
      rotate_left
     rotate_left
     focus
      refine td_ [(14, 29), (15, 30), (16, 31), (17, 32), (18, 33), (19, 34), (20, 35), (21, 36), (22, 37), (23, 38), (24, 39), (25, 40), (26, 41), (27, 42), (28, 43), (29, 44)] ?_
      iterate 16 (refine om_ HT_ ?_)
      refine dn_ ?_
      refine td_ [(30, 45)] ?_
      refine pm_ HT_ ?_
      refine dn_ ?_
     rotate_left
     rotate_left 3
     rotate_left 3
     rotate_left
     iterate 7
      focus
       refine done_ (done_of HT_.out (by kernel_rfl)) ?_
       (try go_wp2)
      rotate_left
     rotate_left
     ·go_ret
      exact ⟨by rfl, HB.out⟩
     ·go_ret
      exact ⟨by rfl, HB.out⟩
     ·go_roundg k1
      case measure => have := HK1.out; omega
      case rel => exact ⟨(ji18), (by rfl), H', ⟨by have := HK1.out; omega⟩, ⟨HB.out⟩⟩
     ·go_roundg k1
      case measure => have := HK1.out; omega
      case rel => exact ⟨(wrap64 (x7_1 + 1)), (by rfl), H', ⟨by have := HK1.out; omega⟩, ⟨HB.out⟩⟩
     ·go_ret
      exact ⟨by rfl, HB.out⟩
     ·go_roundg k1
      case measure => have := HK1.out; omega
      case rel => exact ⟨(ji40), (by rfl), H', ⟨by have := HK1.out; omega⟩, ⟨HB.out⟩⟩
     ·go_roundg k1
      case measure => have := HK1.out; omega
      case rel => exact ⟨(wrap64 (x7_1 + 1)), (by rfl), H', ⟨by have := HK1.out; omega⟩, ⟨HB.out⟩⟩
     ·go_wp2_with ((((with_reducible refine gate_dst (N := 4) rfl ?_); (try (refine gate_guard (by rfl) ?_; dsimp only)); refine box_event ?hg (N := 4) ?hd (cs := #[.string (⟨#[]⟩ : ByteArray), .int .i64 0, .int .i64 0, .int .i64 0, .string (⟨#[]⟩ : ByteArray)]) (t := 35) ?hr ?_; (case hd => rfl); (case hg => rfl); (case hr => (go_simp; done)); intro gb133 hg w58 hbox hb; have BK133 := Aside0.mk (hbox); have GW133 := Aside0.mk (ge_ hg (below_size HB.out)); have GE133 := Aside0.mk (ge_ hg (below_size HB.out)); replace HB := Aside0.mk (below_step HB.out hb); clear hb hbox hg; obtain ⟨hcz59_0, hcz59_1, hcz59_2, hcz59_3, hcz59_4, hfz59_0, hfz59_1, hfz59_2, hfz59_3, hfz59_4⟩ := z5_ BK133.out)))
      go_roundg k1
      case measure => have := HK1.out; omega
      case rel => exact ⟨(wrap64 (x7_1 + 1)), (by rfl), H', ⟨by have := HK1.out; omega⟩, ⟨by repeat ((with_reducible first | exact HB.out | refine below_set ?_ GE133.out))⟩⟩
    ·rw [if_neg c2] at H
     have c2b0 : decide (x7_1 < (l0.length : Int)) = false := decide_eq_false c2
     clear c2
     obtain rfl := Option.some.inj H
     go_wp2
     go_ret
     exact ⟨by rfl, HB.out⟩
end Go.Proofs.YtjmpckommjlnlaaGreat.PRr
namespace Go.Proofs.YtjmpckommjlnlaaGreat.PRr
open Go.RowKit Go.Proofs.YtjmpckommjlnlaaGreatW.PrintWords Go.Proofs.YtjmpckommjlnlaaGreatW.PrintLast Go.Proofs.YtjmpckommjlnlaaGreatW.PrintMore Go.Proofs.YtjmpckommjlnlaaGreat.Given Go.Proofs.YtjmpckommjlnlaaGreat.PRd
attribute [local go_sem] max2_int min2_int max_two min_two max_three min_three max_four min_four   -- for this text's walks alone
set_option linter.unusedVariables false
set_option linter.unusedSimpArgs false
def beadrollref13_Of.l0 : Nat → List (S35) → List (S35) → Int → Option ((List (S35)))
 | 0, _, _, _ => none
 | k + 1, x0, x3, x4 => if x4 < (x0.length : Int) then (if 0 ≤ x4 then ((beadrollref13_Put.f k x3 ((rd_T35 x0 x4).f0) ((rd_T35 x0 x4).f1) ((rd_T35 x0 x4).f2) ((rd_T35 x0 x4).f3) ((rd_T35 x0 x4).f4)).bind fun t201 => (beadrollref13_Of.l0 k x0 t201 (wrap64 (x4 + 1)))) else (none)) else (some x3)
def beadrollref13_Of.f (k : Nat) (l0 : List (S35)) : Option ((List (S35))) := beadrollref13_Of.l0 k l0 ([] : List (S35)) 0
set_option maxHeartbeats 8000000 in
set_option maxRecDepth 100000 in
theorem beadrollref13_Of.calls (k : Nat) (A0 : Option Addr) (c0 : Nat) (l0 : List (S35)) (r : List (S35)) (w : World) (hr0 : Kd.C k35 w A0 l0.length l0) (hc0 : l0.length ≤ c0) (h : beadrollref13_Of.f k l0 = some r) :
    Calls Tryz.prog 43 #[.slice A0 l0.length c0] w fun e w' => ∃ v0_ : Value, e = .returned (v0_) ∧ Kd.R k35 35 w' w.heap.size (fun _ => True) v0_ r ∧ Below w.heap.size w w' := by
  have hu35 := Tryz.underlying35
  have HR0 := Aside0.mk hr0
  have HC0 := Aside0.mk hc0
  clear hr0 hc0
  have HB := Aside0.mk (Below.refl w.heap.size w)
  have H : (beadrollref13_Of.l0 k l0 ([] : List (S35)) 0) = some r := h
  clear h
  have H' := Aside0.mk H
  clear H
  go_enter Tryz.func43, Tryz.ntmps43
  go_wp2
  go_loopg [3, 4] k (fun kq v3 v4 w' => ∃ (x3_1 : List (S35)) (x4_1 : Int), v4 = .int .i64 x4_1 ∧ Aside0 (beadrollref13_Of.l0 kq l0 x3_1 x4_1 = some r) ∧ Aside0 (kq ≤ k) ∧ Aside0 (Kd.R k35 35 w' w.heap.size (fun _ => True) v3 x3_1) ∧ Aside0 (Below w.heap.size w w'))
  case atStart => exact ⟨(([] : List (S35))), (0), (by rfl), H', ⟨Nat.le_refl _⟩, ⟨by (exact Kd.R_nil _ _ _ _ _)⟩, ⟨HB.out⟩⟩
  case round =>
   clear H'
   obtain ⟨x3_1, x4_1, rfl, HA, HK1, HO_3, HB⟩ := hrel
   cases gk with
   | zero => exact absurd HA.out (by simp [beadrollref13_Of.l0])
   | succ k1 =>
    have H := HA.out
    clear HA
    simp only [beadrollref13_Of.l0] at H
    by_cases c2 : x4_1 < (l0.length : Int)
    ·rw [if_pos c2] at H
     have c2b0 : decide (x4_1 < (l0.length : Int)) = true := decide_eq_true c2
     clear c2
     obtain ⟨c3b0, H⟩ := gdd_ H
     obtain ⟨t201, A4, H⟩ := bnd_ H
     have H' := Aside0.mk H
     clear H
     have p200 : 0 ≤ (x4_1 : Int) := of_decide_eq_true (by assumption)
     have q200 : x4_1 < (l0.length : Int) := of_decide_eq_true (by assumption)
     obtain ⟨ad200, e200, hx200_0, hx200_1, hx200_2, hx200_3, hx200_4⟩ := at_T35 HR0.out x4_1 p200 q200
     cases e200
     replace hx200_0 := kp_ HB.out hx200_0
     replace hx200_1 := kp_ HB.out hx200_1
     replace hx200_2 := kp_ HB.out hx200_2
     replace hx200_3 := kp_ HB.out hx200_3
     replace hx200_4 := kp_ HB.out hx200_4
     replace p200 := eq_true p200
     replace q200 := eq_true q200
     obtain ⟨Ao5, co5, eo5⟩ := Kd.R_slice HO_3.out
     subst eo5
     go_wp2_with (((refine gl_ (some 16) Tryz.func79 #[.slice Ao5 x3_1.length co5, .agg #[.string ((rd_T35 l0 x4_1).f0), .int .i64 ((rd_T35 l0 x4_1).f1), .int .i64 ((rd_T35 l0 x4_1).f2), .int .i64 ((rd_T35 l0 x4_1).f3), .string ((rd_T35 l0 x4_1).f4)]] ?_; (with_reducible refine (beadrollref13_Put.calls k1 _ _ x3_1 ((rd_T35 l0 x4_1).f0) ((rd_T35 l0 x4_1).f1) ((rd_T35 l0 x4_1).f2) ((rd_T35 l0 x4_1).f3) ((rd_T35 l0 x4_1).f4) t201 _ ?side1 ?side2 A4.out).mono ?_); (case side1 => exact (Kd.R_reads' HO_3.out).2.2); (case side2 => exact (Kd.R_reads' HO_3.out).2.1); rintro e w6 ⟨v202, rfl, ho0, hb⟩; refine ⟨_, rfl, ?_⟩; have HO203 := Aside0.mk (Kd.R_lower (Kd.R_new' ho0 (Kd.R_lt (by ((exact HO_3.out))))) (below_size HB.out)); replace HO_3 := Aside0.mk (Kd.R_elder' (by ((exact HO_3.out))) (Kd.R_base ho0) hb); replace HB := Aside0.mk (below_step HB.out hb); (try clear hb); (try clear ho0))))
     go_roundg k1
     case measure => have := HK1.out; omega
     case rel => exact ⟨(t201), (wrap64 (x4_1 + 1)), (by rfl), H', ⟨by have := HK1.out; omega⟩, ⟨by (with_reducible repeat ((apply Kd.R_alloc))); exact Kd.R_mono HO203.out (fun _ hk => trivial)⟩, ⟨HB.out⟩⟩
    ·rw [if_neg c2] at H
     have c2b0 : decide (x4_1 < (l0.length : Int)) = false := decide_eq_false c2
     clear c2
     obtain rfl := Option.some.inj H
     go_wp2
     go_ret
     exact ⟨_, by rfl, by (with_reducible repeat ((apply Kd.R_alloc))); exact HO_3.out, HB.out⟩
def beadrollref13_At.l0 : Nat → List (S35) → ByteArray → List (S35) → Int → Option ((List (S35)))
 | 0, _, _, _, _ => none
 | k + 1, x0, x1, x5, x6 => if x6 < (x0.length : Int) then (if 0 ≤ x6 then ((beadrollref07_Alike.f k ((rd_T35 x0 x6).f0) x1).bind fun t205 => (if t205 = true then (if x5.length < 2513169434916 then (beadrollref13_At.l0 k x0 x1 (x5 ++ [(⟨(rd_T35 x0 x6).f0, (rd_T35 x0 x6).f1, (rd_T35 x0 x6).f2, (rd_T35 x0 x6).f3, (rd_T35 x0 x6).f4⟩ : S35)]) (wrap64 (x6 + 1))) else (none)) else (beadrollref13_At.l0 k x0 x1 x5 (wrap64 (x6 + 1))))) else (none)) else (some x5)
def beadrollref13_At.f (k : Nat) (l0 : List (S35)) (a1 : ByteArray) : Option ((List (S35))) := beadrollref13_At.l0 k l0 a1 ([] : List (S35)) 0
set_option maxHeartbeats 8000000 in
set_option maxRecDepth 100000 in
theorem beadrollref13_At.calls (k : Nat) (A0 : Option Addr) (c0 : Nat) (l0 : List (S35)) (a1 : ByteArray) (r : List (S35)) (w : World) (hr0 : Kd.C k35 w A0 l0.length l0) (hc0 : l0.length ≤ c0) (h : beadrollref13_At.f k l0 a1 = some r) :
    Calls Tryz.prog 46 #[.slice A0 l0.length c0, .string a1] w fun e w' => ∃ v0_ : Value, e = .returned (v0_) ∧ Kd.R k35 35 w' w.heap.size (fun _ => True) v0_ r ∧ Below w.heap.size w w' := by
  have hu35 := Tryz.underlying35
  have HR0 := Aside0.mk hr0
  have HC0 := Aside0.mk hc0
  clear hr0 hc0
  have HB := Aside0.mk (Below.refl w.heap.size w)
  have H : (beadrollref13_At.l0 k l0 a1 ([] : List (S35)) 0) = some r := h
  clear h
  have H' := Aside0.mk H
  clear H
  go_enter Tryz.func46, Tryz.ntmps46
  go_wp2
  go_loopg [5, 6] k (fun kq v5 v6 w' => ∃ (x5_1 : List (S35)) (x6_1 : Int), v6 = .int .i64 x6_1 ∧ Aside0 (beadrollref13_At.l0 kq l0 a1 x5_1 x6_1 = some r) ∧ Aside0 (kq ≤ k) ∧ Aside0 (Kd.R k35 35 w' w.heap.size (fun _ => True) v5 x5_1) ∧ Aside0 (Below w.heap.size w w'))
  case atStart => exact ⟨(([] : List (S35))), (0), (by rfl), H', ⟨Nat.le_refl _⟩, ⟨by (exact Kd.R_nil _ _ _ _ _)⟩, ⟨HB.out⟩⟩
  case round =>
   clear H'
   obtain ⟨x5_1, x6_1, rfl, HA, HK1, HO_5, HB⟩ := hrel
   cases gk with
   | zero => exact absurd HA.out (by simp [beadrollref13_At.l0])
   | succ k1 =>
    have H := HA.out
    clear HA
    simp only [beadrollref13_At.l0] at H
    by_cases c3 : x6_1 < (l0.length : Int)
    ·rw [if_pos c3] at H
     have c3b0 : decide (x6_1 < (l0.length : Int)) = true := decide_eq_true c3
     clear c3
     obtain ⟨c4b0, H⟩ := gdd_ H
     obtain ⟨t205, A5, H⟩ := bnd_ H
     by_cases c6 : t205 = true
     focus
      subst c6
      rw [if_pos rfl] at H
      obtain ⟨c7, H⟩ := gd_ H
      have LMc7 := Aside0.mk c7
      clear c7
      obtain ⟨y207, hy207⟩ : ∃ y_ : List (S35), y_ = (x5_1 ++ [(⟨(rd_T35 l0 x6_1).f0, (rd_T35 l0 x6_1).f1, (rd_T35 l0 x6_1).f2, (rd_T35 l0 x6_1).f3, (rd_T35 l0 x6_1).f4⟩ : S35)]) := ⟨_, rfl⟩
      replace H : (beadrollref13_At.l0 k1 l0 a1 y207 (wrap64 (x6_1 + 1))) = some r := by (rw [hy207]; with_reducible exact H)
      have Ny207 := Aside0.mk hy207
      clear hy207
     rotate_left
     focus
      replace c6 := Bool.eq_false_iff.mpr c6
      subst c6
      rw [if_neg ff_] at H
     rotate_left
     all_goals
      have H' := Aside0.mk H
      clear H
      have p204 : 0 ≤ (x6_1 : Int) := of_decide_eq_true (by assumption)
      have q204 : x6_1 < (l0.length : Int) := of_decide_eq_true (by assumption)
      obtain ⟨ad204, e204, hx204_0, hx204_1, hx204_2, hx204_3, hx204_4⟩ := at_T35 HR0.out x6_1 p204 q204
      cases e204
      replace hx204_0 := kp_ HB.out hx204_0
      replace hx204_1 := kp_ HB.out hx204_1
      replace hx204_2 := kp_ HB.out hx204_2
      replace hx204_3 := kp_ HB.out hx204_3
      replace hx204_4 := kp_ HB.out hx204_4
      replace p204 := eq_true p204
      replace q204 := eq_true q204
     ·go_wp2_with (first | (refine gl_ (some 19) Tryz.func44 #[.string ((rd_T35 l0 x6_1).f0), .string a1] ?_; (with_reducible refine (beadrollref07_Alike.calls k1 ((rd_T35 l0 x6_1).f0) a1 _ _ A5.out).mono ?_); rintro e w8 ⟨rfl, hb⟩; refine ⟨_, rfl, ?_⟩; replace HO_5 := Aside0.mk (Kd.R_below (by ((exact HO_5.out))) hb); replace HB := Aside0.mk (below_step HB.out hb); (try clear hb); have p206 : 0 ≤ (x6_1 : Int) := of_decide_eq_true (by assumption); have q206 : x6_1 < (l0.length : Int) := of_decide_eq_true (by assumption); obtain ⟨ad206, e206, hx206_0, hx206_1, hx206_2, hx206_3, hx206_4⟩ := at_T35 HR0.out x6_1 p206 q206; obtain rfl : ad204 = ad206 := (by injection e206); replace hx206_0 := kp_ HB.out hx206_0; replace hx206_1 := kp_ HB.out hx206_1; replace hx206_2 := kp_ HB.out hx206_2; replace hx206_3 := kp_ HB.out hx206_3; replace hx206_4 := kp_ HB.out hx206_4; replace p206 := eq_true p206; replace q206 := eq_true q206) | ((with_reducible refine gate_builtin (b := .append) (xs := #[.tmp 20, .tmp 25]) rfl ?_); at_builtin; refine Kd.R_append k35 (w0 := w) w.heap.size rfl (.tmp 20) (.tmp 25) 22 35 (.agg #[(.string ⟨#[]⟩), (.int .i64 0), (.int .i64 0), (.int .i64 0), (.string ⟨#[]⟩)]) 56 rfl Tryz.underlying22 info35 rfl (by decide) (by omega) u5 x5_1 (⟨(rd_T35 l0 x6_1).f0, (rd_T35 l0 x6_1).f1, (rd_T35 l0 x6_1).f2, (rd_T35 l0 x6_1).f3, (rd_T35 l0 x6_1).f4⟩ : S35) [.string ((rd_T35 l0 x6_1).f0), .int .i64 ((rd_T35 l0 x6_1).f1), .int .i64 ((rd_T35 l0 x6_1).f2), .int .i64 ((rd_T35 l0 x6_1).f3), .string ((rd_T35 l0 x6_1).f4)] (fun _ => True) (fun _ => False) rfl rfl ?aP (fun _ hk => hk.elim) ?aF ?aO ?aB ?aS ?aL ?_; (case aP => exact k35_mkM _ _ _ (⟨(rd_T35 l0 x6_1).f0, (rd_T35 l0 x6_1).f1, (rd_T35 l0 x6_1).f2, (rd_T35 l0 x6_1).f3, (rd_T35 l0 x6_1).f4⟩ : S35)); (case aB => exact HB.out); (case aF => exact (fun _ _ => trivial)); (case aO => exact (by ((exact HO_5.out)))); (case aS => exact (below_size HB.out)); (case aL => have := LMc7.out; omega); intro v208 w9 ho hb hg hat; rw [← Ny207.out] at ho; have n0_ := Aside0.mk (hb); have n1_ := Aside0.mk (ho); clear HB; clear HO_5; have HB := n0_; have HO209 := n1_; clear n0_ n1_; clear ho hb hg hat))
      go_roundg k1
      case measure => have := HK1.out; omega
      case rel => exact ⟨(y207), (wrap64 (x6_1 + 1)), (by rfl), H', ⟨by have := HK1.out; omega⟩, ⟨by (with_reducible repeat ((apply Kd.R_alloc))); exact HO209.out⟩, ⟨HB.out⟩⟩
     ·go_wp2_with (((refine gl_ (some 19) Tryz.func44 #[.string ((rd_T35 l0 x6_1).f0), .string a1] ?_; (with_reducible refine (beadrollref07_Alike.calls k1 ((rd_T35 l0 x6_1).f0) a1 _ _ A5.out).mono ?_); rintro e w10 ⟨rfl, hb⟩; refine ⟨_, rfl, ?_⟩; replace HO_5 := Aside0.mk (Kd.R_below (by ((exact HO_5.out))) hb); replace HB := Aside0.mk (below_step HB.out hb); (try clear hb))))
      go_roundg k1
      case measure => have := HK1.out; omega
      case rel => exact ⟨(x5_1), (wrap64 (x6_1 + 1)), (by rfl), H', ⟨by have := HK1.out; omega⟩, ⟨by (with_reducible repeat ((apply Kd.R_alloc))); exact HO_5.out⟩, ⟨HB.out⟩⟩
    ·rw [if_neg c3] at H
     have c3b0 : decide (x6_1 < (l0.length : Int)) = false := decide_eq_false c3
     clear c3
     obtain rfl := Option.some.inj H
     go_wp2
     go_ret
     exact ⟨_, by rfl, by (with_reducible repeat ((apply Kd.R_alloc))); exact HO_5.out, HB.out⟩
def beadrollref13_Typed.l0 : Nat → List (S35) → Int → List (S35) → Int → Option ((List (S35)))
 | 0, _, _, _, _ => none
 | k + 1, x0, x1, x5, x6 => if x6 < (x0.length : Int) then (if 0 ≤ x6 then (if ((rd_T35 x0 x6).f1) = x1 then (if x5.length < 2513169434916 then (beadrollref13_Typed.l0 k x0 x1 (x5 ++ [(⟨(rd_T35 x0 x6).f0, (rd_T35 x0 x6).f1, (rd_T35 x0 x6).f2, (rd_T35 x0 x6).f3, (rd_T35 x0 x6).f4⟩ : S35)]) (wrap64 (x6 + 1))) else (none)) else (beadrollref13_Typed.l0 k x0 x1 x5 (wrap64 (x6 + 1)))) else (none)) else (some x5)
def beadrollref13_Typed.f (k : Nat) (l0 : List (S35)) (a1 : Int) : Option ((List (S35))) := beadrollref13_Typed.l0 k l0 a1 ([] : List (S35)) 0
set_option maxHeartbeats 8000000 in
set_option maxRecDepth 100000 in
theorem beadrollref13_Typed.calls (k : Nat) (A0 : Option Addr) (c0 : Nat) (l0 : List (S35)) (a1 : Int) (r : List (S35)) (w : World) (hr0 : Kd.C k35 w A0 l0.length l0) (hc0 : l0.length ≤ c0) (h : beadrollref13_Typed.f k l0 a1 = some r) :
    Calls Tryz.prog 47 #[.slice A0 l0.length c0, .int .i64 a1] w fun e w' => ∃ v0_ : Value, e = .returned (v0_) ∧ Kd.R k35 35 w' w.heap.size (fun _ => True) v0_ r ∧ Below w.heap.size w w' := by
  have hu35 := Tryz.underlying35
  have HR0 := Aside0.mk hr0
  have HC0 := Aside0.mk hc0
  clear hr0 hc0
  have HB := Aside0.mk (Below.refl w.heap.size w)
  have H : (beadrollref13_Typed.l0 k l0 a1 ([] : List (S35)) 0) = some r := h
  clear h
  have H' := Aside0.mk H
  clear H
  go_enter Tryz.func47, Tryz.ntmps47
  go_wp2
  go_loopg [5, 6] k (fun kq v5 v6 w' => ∃ (x5_1 : List (S35)) (x6_1 : Int), v6 = .int .i64 x6_1 ∧ Aside0 (beadrollref13_Typed.l0 kq l0 a1 x5_1 x6_1 = some r) ∧ Aside0 (kq ≤ k) ∧ Aside0 (Kd.R k35 35 w' w.heap.size (fun _ => True) v5 x5_1) ∧ Aside0 (Below w.heap.size w w'))
  case atStart => exact ⟨(([] : List (S35))), (0), (by rfl), H', ⟨Nat.le_refl _⟩, ⟨by (exact Kd.R_nil _ _ _ _ _)⟩, ⟨HB.out⟩⟩
  case round =>
   clear H'
   obtain ⟨x5_1, x6_1, rfl, HA, HK1, HO_5, HB⟩ := hrel
   cases gk with
   | zero => exact absurd HA.out (by simp [beadrollref13_Typed.l0])
   | succ k1 =>
    have H := HA.out
    clear HA
    simp only [beadrollref13_Typed.l0] at H
    by_cases c3 : x6_1 < (l0.length : Int)
    ·rw [if_pos c3] at H
     have c3b0 : decide (x6_1 < (l0.length : Int)) = true := decide_eq_true c3
     clear c3
     obtain ⟨c4b0, H⟩ := gdd_ H
     by_cases c5 : ((rd_T35 l0 x6_1).f1) = a1
     focus
      rw [if_pos c5] at H
      have c5b0 : (((rd_T35 l0 x6_1).f1) == a1) = true := beq_iff_eq.mpr c5
      have c5b1 : (((rd_T35 l0 x6_1).f1) != a1) = false := bne_eq_false_iff_eq.mpr c5
      clear c5
      obtain ⟨c6, H⟩ := gd_ H
      have LMc6 := Aside0.mk c6
      clear c6
      obtain ⟨y212, hy212⟩ : ∃ y_ : List (S35), y_ = (x5_1 ++ [(⟨(rd_T35 l0 x6_1).f0, (rd_T35 l0 x6_1).f1, (rd_T35 l0 x6_1).f2, (rd_T35 l0 x6_1).f3, (rd_T35 l0 x6_1).f4⟩ : S35)]) := ⟨_, rfl⟩
      replace H : (beadrollref13_Typed.l0 k1 l0 a1 y212 (wrap64 (x6_1 + 1))) = some r := by (rw [hy212]; with_reducible exact H)
      have Ny212 := Aside0.mk hy212
      clear hy212
     rotate_left
     focus
      rw [if_neg c5] at H
      have c5b0 : (((rd_T35 l0 x6_1).f1) == a1) = false := beq_eq_false_iff_ne.mpr c5
      have c5b1 : (((rd_T35 l0 x6_1).f1) != a1) = true := bne_iff_ne.mpr c5
     rotate_left
     all_goals
      have H' := Aside0.mk H
      clear H
      have p210 : 0 ≤ (x6_1 : Int) := of_decide_eq_true (by assumption)
      have q210 : x6_1 < (l0.length : Int) := of_decide_eq_true (by assumption)
      obtain ⟨ad210, e210, hx210_0, hx210_1, hx210_2, hx210_3, hx210_4⟩ := at_T35 HR0.out x6_1 p210 q210
      cases e210
      replace hx210_0 := kp_ HB.out hx210_0
      replace hx210_1 := kp_ HB.out hx210_1
      replace hx210_2 := kp_ HB.out hx210_2
      replace hx210_3 := kp_ HB.out hx210_3
      replace hx210_4 := kp_ HB.out hx210_4
      replace p210 := eq_true p210
      replace q210 := eq_true q210
     ·have p211 : 0 ≤ (x6_1 : Int) := of_decide_eq_true (by assumption)
      have q211 : x6_1 < (l0.length : Int) := of_decide_eq_true (by assumption)
      obtain ⟨ad211, e211, hx211_0, hx211_1, hx211_2, hx211_3, hx211_4⟩ := at_T35 HR0.out x6_1 p211 q211
      obtain rfl : ad210 = ad211 := (by injection e211)
      replace hx211_0 := kp_ HB.out hx211_0
      replace hx211_1 := kp_ HB.out hx211_1
      replace hx211_2 := kp_ HB.out hx211_2
      replace hx211_3 := kp_ HB.out hx211_3
      replace hx211_4 := kp_ HB.out hx211_4
      replace p211 := eq_true p211
      replace q211 := eq_true q211
      go_wp2_with ((((with_reducible refine gate_builtin (b := .append) (xs := #[.tmp 20, .tmp 25]) rfl ?_); at_builtin; refine Kd.R_append k35 (w0 := w) w.heap.size rfl (.tmp 20) (.tmp 25) 22 35 (.agg #[(.string ⟨#[]⟩), (.int .i64 0), (.int .i64 0), (.int .i64 0), (.string ⟨#[]⟩)]) 56 rfl Tryz.underlying22 info35 rfl (by decide) (by omega) u5 x5_1 (⟨(rd_T35 l0 x6_1).f0, (rd_T35 l0 x6_1).f1, (rd_T35 l0 x6_1).f2, (rd_T35 l0 x6_1).f3, (rd_T35 l0 x6_1).f4⟩ : S35) [.string ((rd_T35 l0 x6_1).f0), .int .i64 ((rd_T35 l0 x6_1).f1), .int .i64 ((rd_T35 l0 x6_1).f2), .int .i64 ((rd_T35 l0 x6_1).f3), .string ((rd_T35 l0 x6_1).f4)] (fun _ => True) (fun _ => False) rfl rfl ?aP (fun _ hk => hk.elim) ?aF ?aO ?aB ?aS ?aL ?_; (case aP => exact k35_mkM _ _ _ (⟨(rd_T35 l0 x6_1).f0, (rd_T35 l0 x6_1).f1, (rd_T35 l0 x6_1).f2, (rd_T35 l0 x6_1).f3, (rd_T35 l0 x6_1).f4⟩ : S35)); (case aB => exact HB.out); (case aF => exact (fun _ _ => trivial)); (case aO => exact (by ((exact HO_5.out)))); (case aS => exact (below_size HB.out)); (case aL => have := LMc6.out; omega); intro v213 w7 ho hb hg hat; rw [← Ny212.out] at ho; have n0_ := Aside0.mk (hb); have n1_ := Aside0.mk (ho); clear HB; clear HO_5; have HB := n0_; have HO214 := n1_; clear n0_ n1_; clear ho hb hg hat)))
      go_roundg k1
      case measure => have := HK1.out; omega
      case rel => exact ⟨(y212), (wrap64 (x6_1 + 1)), (by rfl), H', ⟨by have := HK1.out; omega⟩, ⟨by (with_reducible repeat ((apply Kd.R_alloc))); exact HO214.out⟩, ⟨HB.out⟩⟩
     ·go_wp2
      go_roundg k1
      case measure => have := HK1.out; omega
      case rel => exact ⟨(x5_1), (wrap64 (x6_1 + 1)), (by rfl), H', ⟨by have := HK1.out; omega⟩, ⟨by (with_reducible repeat ((apply Kd.R_alloc))); exact HO_5.out⟩, ⟨HB.out⟩⟩
    ·rw [if_neg c3] at H
     have c3b0 : decide (x6_1 < (l0.length : Int)) = false := decide_eq_false c3
     clear c3
     obtain rfl := Option.some.inj H
     go_wp2
     go_ret
     exact ⟨_, by rfl, by (with_reducible repeat ((apply Kd.R_alloc))); exact HO_5.out, HB.out⟩
end Go.Proofs.YtjmpckommjlnlaaGreat.PRr
namespace Go.Proofs.YtjmpckommjlnlaaGreat.Rrs
open Go.RowKit Go.Proofs.YtjmpckommjlnlaaGreatW.PrintWords Go.Proofs.YtjmpckommjlnlaaGreatW.PrintLast Go.Proofs.YtjmpckommjlnlaaGreatW.PrintMore Go.Proofs.YtjmpckommjlnlaaGreat.Given Go.Proofs.YtjmpckommjlnlaaGreat.PRd Go.Proofs.YtjmpckommjlnlaaGreat.PRr Go.Proofs.YtjmpckommjlnlaaGreat.Oct Go.Proofs.YtjmpckommjlnlaaGreat.Name Go.Proofs.YtjmpckommjlnlaaGreat.Cmp Go.Proofs.YtjmpckommjlnlaaGreat.NameFacts Go.Proofs.YtjmpckommjlnlaaGreat.RdataFacts Go.Proofs.YtjmpckommjlnlaaGreat.SetLaw
set_option linter.unusedVariables false
def rcO (k : Nat) (x y : RR) : Option Int := beadrollref11_Compare.f k x.f0 x.f1 x.f2 x.f3 x.f4 y.f0 y.f1 y.f2 y.f3 y.f4
theorem ev_rcmp (x y : RR) (hx : fine x) (hy : fine y) : Ev (fun k => rcO k x y) (cmpRR x y) := ⟨FU + 4000, fun k hk => rcmp_eq x y hx.1 hy.1 hx.2 hy.2 k hk⟩
theorem typed_f (c : Int) (d : ByteArray) : beadrollref11_typed.f c d.toList.isEmpty = some (typedB c d) := by
  unfold beadrollref11_typed.f typedB
  repeat' split
  all_goals rfl
theorem ev_rdright (t : Int) (d : ByteArray) (h : d.size ≤ 1000000) : Ev (fun k => beadrollref10_Right.f k t d) (rightD t d) := ⟨FU + 2000, fun k hk => rright_d t d h k hk⟩
theorem ev_rnright (n : ByteArray) : Ev (fun k => beadrollref07_Right.f k n) (rightB n) := ⟨600, fun k hk => rright_f n k hk⟩
theorem ev_rright_j (b : Bool) (x : RR) (h : b = false → x.f4.size ≤ 1000000) : Ev (fun k => beadrollref11_Right.j0 k b x.f0 x.f1 x.f2 x.f3 x.f4) (!b && (!typedB x.f2 x.f4 || rightD x.f1 x.f4)) := by
  have hs : ∀ k, beadrollref11_Right.j0 (k + 1) b x.f0 x.f1 x.f2 x.f3 x.f4 = if b = true then some false else (beadrollref11_typed.f x.f2 x.f4.toList.isEmpty).bind fun t => if t = true then (beadrollref10_Right.f k x.f1 x.f4).bind fun u => some u else some true := fun k => by
    simp only [beadrollref11_Right.j0]
  refine Ev.step hs ?_
  cases b
  · simp only [typed_f, Option.bind_some, Bool.false_eq_true, if_false]
    cases ht : typedB x.f2 x.f4
    · simp only [Bool.false_eq_true, if_false]
      exact Ev.now _
    · simp only [if_true]
      refine Ev.bind (ev_rdright _ _ (h rfl)) ?_
      exact Ev.now _
  · simp only [if_true]
    exact Ev.now _
theorem ev_rright (x : RR) : Ev (fun k => beadrollref11_Right.f k x.f0 x.f1 x.f2 x.f3 x.f4) (rightRR x) := by
  have hs : ∀ k, beadrollref11_Right.f k x.f0 x.f1 x.f2 x.f3 x.f4 = (beadrollref07_Right.f k x.f0).bind fun t => beadrollref11_Right.j0 k (!(t && (decide (0 ≤ x.f1) && (decide (x.f1 ≤ 65535) && (decide (0 ≤ x.f2) && (decide (x.f2 ≤ 65535) && (decide (0 ≤ x.f3) && (decide (x.f3 ≤ 2147483647) && decide (x.f4.size ≤ 65535))))))))) x.f0 x.f1 x.f2 x.f3 x.f4 := fun k => by
    unfold beadrollref11_Right.f
    congr 1
    funext t
    by_cases h1 : x.f1 < 0
    · simp [h1, show ¬ (0 ≤ x.f1) by omega]
    by_cases h2 : x.f1 > 65535
    · simp [h1, h2, show ¬ (x.f1 ≤ 65535) by omega]
    by_cases h3 : x.f2 < 0
    · simp [h1, h2, h3, show ¬ (0 ≤ x.f2) by omega]
    by_cases h4 : x.f2 > 65535
    · simp [h1, h2, h3, h4, show ¬ (x.f2 ≤ 65535) by omega]
    by_cases h5 : x.f3 < 0
    · simp [h1, h2, h3, h4, h5, show ¬ (0 ≤ x.f3) by omega]
    by_cases h6 : x.f3 > 2147483647
    · simp [h1, h2, h3, h4, h5, h6, show ¬ (x.f3 ≤ 2147483647) by omega]
    have e7 : decide ((x.f4.size : Int) > 65535) = !decide (x.f4.size ≤ 65535) := by
      by_cases h7 : x.f4.size ≤ 65535
      · rw [decide_eq_true h7, decide_eq_false (by omega)]; rfl
      · rw [decide_eq_false h7, decide_eq_true (by omega)]; rfl
    rw [if_neg h1, if_neg h2, if_neg h3, if_neg h4, if_neg h5, if_neg h6, e7]
    cases t
    · simp
    · simp [show 0 ≤ x.f1 by omega, show x.f1 ≤ 65535 by omega, show 0 ≤ x.f2 by omega, show x.f2 ≤ 65535 by omega, show 0 ≤ x.f3 by omega, show x.f3 ≤ 2147483647 by omega]
  refine Ev.congr hs (Ev.bind (ev_rnright x.f0) ?_)
  refine (?_ : (!(!(rightB x.f0 && _)) && _) = rightRR x) ▸ ev_rright_j _ x ?_
  · unfold rightRR
    simp only [Bool.not_not, Bool.and_assoc]
  · intro h
    simp only [Bool.not_eq_false', Bool.and_eq_true, decide_eq_true_eq] at h
    omega
end Go.Proofs.YtjmpckommjlnlaaGreat.Rrs
namespace Go.Proofs.YtjmpckommjlnlaaGreat.Rrs
open Go.RowKit Go.Proofs.YtjmpckommjlnlaaGreatW.PrintWords Go.Proofs.YtjmpckommjlnlaaGreatW.PrintLast Go.Proofs.YtjmpckommjlnlaaGreatW.PrintMore Go.Proofs.YtjmpckommjlnlaaGreat.Given Go.Proofs.YtjmpckommjlnlaaGreat.PRd Go.Proofs.YtjmpckommjlnlaaGreat.PRr Go.Proofs.YtjmpckommjlnlaaGreat.Oct Go.Proofs.YtjmpckommjlnlaaGreat.Name Go.Proofs.YtjmpckommjlnlaaGreat.Cmp Go.Proofs.YtjmpckommjlnlaaGreat.NameFacts Go.Proofs.YtjmpckommjlnlaaGreat.RdataFacts Go.Proofs.YtjmpckommjlnlaaGreat.SetLaw
set_option linter.unusedVariables false
structure SetOf (l : List RR) : Prop where
  all : ∀ y ∈ l, fine y
  len : l.length ≤ 1000000
  set : IsSet cmpRR l
theorem put_rest (l : List RR) (x : RR) (hl : ∀ y ∈ l, fine y) (hx : fine x) (hn : l.length ≤ 1000000) : ∀ (d i : Nat) (out : List RR), l.length ≤ i + d → out.length ≤ i + 1 → (∀ y ∈ l.drop i, cmpRR x y < 0) → Ev (fun k => beadrollref13_Put.l0 k l out true (i : Int) x.f0 x.f1 x.f2 x.f3 x.f4) (out ++ l.drop i) := by
  intro d
  induction d with
  | zero =>
    intro i out hd _ _
    refine Ev.step (f := fun _ => some out) (fun k => by rw [beadrollref13_Put.l0]; rw [if_neg (by omega), if_pos rfl]) ?_
    rw [List.drop_of_length_le (by omega), List.append_nil]
    exact Ev.now _
  | succ d ih =>
    intro i out hd ho hlt
    by_cases hi : i < l.length
    · have e1 : wrap64 ((i : Int) + 1) = ((i + 1 : Nat) : Int) := by unfold wrap64; omega
      have hr := rdR_get l i hi
      have h0 : cmpRR x l[i] < 0 := hlt _ (by rw [List.drop_eq_getElem_cons hi]; exact List.mem_cons_self ..)
      have hs : ∀ k, beadrollref13_Put.l0 (k + 1) l out true (i : Int) x.f0 x.f1 x.f2 x.f3 x.f4 = (rcO k x (rdR l (i : Int))).bind fun t => if t ≤ 0 then beadrollref13_Put.j1 k l out true (i : Int) t false x.f0 x.f1 x.f2 x.f3 x.f4 else beadrollref13_Put.j1 k l out true (i : Int) t false x.f0 x.f1 x.f2 x.f3 x.f4 := fun k => by
        rw [beadrollref13_Put.l0]
        rw [if_pos (by omega), if_pos (by omega)]
        all_goals rfl
      rw [hr] at hs
      refine Ev.step hs (Ev.bind (ev_rcmp _ _ hx (hl _ (List.getElem_mem _))) ?_)
      simp only [show cmpRR x l[i] ≤ 0 from by omega, if_true]
      have hj : ∀ k, beadrollref13_Put.j1 (k + 1) l out true (i : Int) (cmpRR x l[i]) false x.f0 x.f1 x.f2 x.f3 x.f4 = beadrollref13_Put.l0 k l (out ++ [rdR l (i : Int)]) true ((i + 1 : Nat) : Int) x.f0 x.f1 x.f2 x.f3 x.f4 := fun k => by
        rw [beadrollref13_Put.j1, e1]
        rw [if_neg (by decide), if_neg (by omega), if_pos (by omega), if_pos (by omega), if_pos (by omega)]
        all_goals rfl
      rw [hr] at hj
      refine Ev.step hj ?_
      rw [List.drop_eq_getElem_cons hi, show out ++ l[i] :: l.drop (i + 1) = (out ++ [l[i]]) ++ l.drop (i + 1) from by simp]
      refine ih (i + 1) _ (by omega) (by rw [List.length_append, List.length_singleton]; omega) (fun y hy => hlt y ?_)
      rw [List.drop_eq_getElem_cons hi]; exact List.mem_cons_of_mem _ hy
    · refine Ev.step (f := fun _ => some out) (fun k => by rw [beadrollref13_Put.l0]; rw [if_neg (by omega), if_pos rfl]) ?_
      rw [List.drop_of_length_le (by omega), List.append_nil]
      exact Ev.now _
theorem put_loop (l : List RR) (x : RR) (h : SetOf l) (hx : fine x) : ∀ (d i : Nat) (out : List RR), l.length ≤ i + d → i ≤ l.length → out.length ≤ i → Ev (fun k => beadrollref13_Put.l0 k l out false (i : Int) x.f0 x.f1 x.f2 x.f3 x.f4) (out ++ put cmpRR (l.drop i) x) := by
  have hn := h.len
  have hend : ∀ (i : Nat) (out : List RR), l.length ≤ i → out.length ≤ 1000001 → Ev (fun k => beadrollref13_Put.l0 k l out false (i : Int) x.f0 x.f1 x.f2 x.f3 x.f4) (out ++ put cmpRR (l.drop i) x) := by
    intro i out hd ho
    refine Ev.step (f := fun _ => some (out ++ [x])) (fun k => by rw [beadrollref13_Put.l0]; rw [if_neg (by omega), if_neg (by decide), if_pos (by omega)]) ?_
    rw [List.drop_of_length_le hd, put]
    exact Ev.now _
  intro d
  induction d with
  | zero => exact fun i out hd hi0 ho => hend i out (by omega) (by omega)
  | succ d ih =>
    intro i out hd hi0 ho
    by_cases hi : i < l.length
    · have e1 : wrap64 ((i : Int) + 1) = ((i + 1 : Nat) : Int) := by unfold wrap64; omega
      have hr := rdR_get l i hi
      have hset : IsSet cmpRR (l[i] :: l.drop (i + 1)) := by rw [← List.drop_eq_getElem_cons hi]; exact h.set.sublist (List.drop_sublist _ _)
      have hab := (List.pairwise_cons.mp hset).1
      have hs : ∀ k, beadrollref13_Put.l0 (k + 1) l out false (i : Int) x.f0 x.f1 x.f2 x.f3 x.f4 = (rcO k x (rdR l (i : Int))).bind fun t => if t ≤ 0 then beadrollref13_Put.j1 k l out false (i : Int) t true x.f0 x.f1 x.f2 x.f3 x.f4 else beadrollref13_Put.j1 k l out false (i : Int) t false x.f0 x.f1 x.f2 x.f3 x.f4 := fun k => by
        rw [beadrollref13_Put.l0]
        rw [if_pos (by omega), if_pos (by omega)]
        all_goals rfl
      rw [hr] at hs
      refine Ev.step hs (Ev.bind (ev_rcmp _ _ hx (h.all _ (List.getElem_mem _))) ?_)
      rw [List.drop_eq_getElem_cons hi, put]
      by_cases hlt : cmpRR x l[i] < 0
      · rw [if_pos hlt]
        simp only [show cmpRR x l[i] ≤ 0 from by omega, if_true]
        have hj : ∀ k, beadrollref13_Put.j1 (k + 1) l out false (i : Int) (cmpRR x l[i]) true x.f0 x.f1 x.f2 x.f3 x.f4 = beadrollref13_Put.l0 k l ((out ++ [x]) ++ [rdR l (i : Int)]) true ((i + 1 : Nat) : Int) x.f0 x.f1 x.f2 x.f3 x.f4 := fun k => by
          rw [beadrollref13_Put.j1, e1]
          rw [if_pos rfl, if_pos (by omega), Option.bind_some, if_neg (by omega), if_pos (by omega), if_pos (by omega), if_pos (by rw [List.length_append, List.length_singleton]; omega)]
          all_goals rfl
        rw [hr] at hj
        refine Ev.step hj ?_
        rw [show out ++ x :: l[i] :: l.drop (i + 1) = (out ++ [x] ++ [l[i]]) ++ l.drop (i + 1) from by simp]
        exact put_rest l x h.all hx hn d (i + 1) _ (by omega) (by simp only [List.length_append, List.length_singleton]; omega) (fun y hy => ordRR.trans x _ y hlt (hab y hy))
      · rw [if_neg hlt]
        by_cases h0 : cmpRR x l[i] = 0
        · rw [if_pos h0]
          simp only [show cmpRR x l[i] ≤ 0 from by omega, if_true]
          have hj : ∀ k, beadrollref13_Put.j1 (k + 1) l out false (i : Int) (cmpRR x l[i]) true x.f0 x.f1 x.f2 x.f3 x.f4 = beadrollref13_Put.l0 k l (out ++ [x]) true ((i + 1 : Nat) : Int) x.f0 x.f1 x.f2 x.f3 x.f4 := fun k => by
            rw [beadrollref13_Put.j1, e1]
            rw [if_pos rfl, if_pos (by omega), Option.bind_some, if_pos h0]
          refine Ev.step hj ?_
          rw [show out ++ x :: l.drop (i + 1) = (out ++ [x]) ++ l.drop (i + 1) from by simp]
          exact put_rest l x h.all hx hn d (i + 1) _ (by omega) (by simp only [List.length_append, List.length_singleton]; omega) (fun y hy => ordRR.lt_of_eq_of_lt h0 (hab y hy))
        · rw [if_neg h0]
          simp only [show ¬ cmpRR x l[i] ≤ 0 from by omega, if_false]
          have hj : ∀ k, beadrollref13_Put.j1 (k + 1) l out false (i : Int) (cmpRR x l[i]) false x.f0 x.f1 x.f2 x.f3 x.f4 = beadrollref13_Put.l0 k l (out ++ [rdR l (i : Int)]) false ((i + 1 : Nat) : Int) x.f0 x.f1 x.f2 x.f3 x.f4 := fun k => by
            rw [beadrollref13_Put.j1, e1]
            rw [if_neg (by decide), if_neg h0, if_pos (by omega), if_pos (by omega), if_pos (by omega)]
            all_goals rfl
          rw [hr] at hj
          refine Ev.step hj ?_
          rw [show out ++ l[i] :: put cmpRR (l.drop (i + 1)) x = (out ++ [l[i]]) ++ put cmpRR (l.drop (i + 1)) x from by simp]
          exact ih (i + 1) _ (by omega) (by omega) (by simp only [List.length_append, List.length_singleton]; omega)
    · exact hend i out (by omega) (by omega)
theorem ev_Put (l : List RR) (x : RR) (h : SetOf l) (hx : fine x) : Ev (fun k => beadrollref13_Put.f k l x.f0 x.f1 x.f2 x.f3 x.f4) (put cmpRR l x) := by
  have := put_loop l x h hx l.length 0 [] (by omega) (Nat.zero_le _) (Nat.le_refl _)
  rw [List.drop_zero, List.nil_append] at this
  exact this
theorem SetOf.put {l : List RR} {x : RR} (h : SetOf l) (hx : fine x) (hn : l.length < 1000000) : SetOf (SetLaw.put cmpRR l x) where
  all y hy := by
    rcases mem_put hy with rfl | hy
    · exact hx
    · exact h.all y hy
  len := by
    have h1 := put_length ordRR h.set x
    have h2 : (drop cmpRR l x).length ≤ l.length := by unfold drop; exact List.length_filter_le _ _
    omega
  set := put_set ordRR h.set x
theorem put_len (l : List RR) (x : RR) (h : IsSet cmpRR l) : (put cmpRR l x).length ≤ l.length + 1 := by
  have h1 := put_length ordRR h x
  have h2 : (drop cmpRR l x).length ≤ l.length := by unfold drop; exact List.length_filter_le _ _
  omega
theorem of_loop (l : List RR) (hl : ∀ y ∈ l, fine y) (hn : l.length ≤ 100000) : ∀ (d i : Nat) (out : List RR), l.length ≤ i + d → i ≤ l.length → out.length ≤ i → SetOf out → Ev (fun k => beadrollref13_Of.l0 k l out (i : Int)) ((l.drop i).foldl (put cmpRR) out) := by
  intro d
  induction d with
  | zero =>
    intro i out hd hi0 _ _
    refine Ev.step (f := fun _ => some out) (fun k => by rw [beadrollref13_Of.l0]; rw [if_neg (by omega)]) ?_
    rw [List.drop_of_length_le (by omega), List.foldl_nil]
    exact Ev.now _
  | succ d ih =>
    intro i out hd hi0 ho hs
    by_cases hi : i < l.length
    · have e1 : wrap64 ((i : Int) + 1) = ((i + 1 : Nat) : Int) := by unfold wrap64; omega
      have hr := rdR_get l i hi
      have hst : ∀ k, beadrollref13_Of.l0 (k + 1) l out (i : Int) = (beadrollref13_Put.f k out (rdR l (i : Int)).f0 (rdR l (i : Int)).f1 (rdR l (i : Int)).f2 (rdR l (i : Int)).f3 (rdR l (i : Int)).f4).bind fun t => beadrollref13_Of.l0 k l t ((i + 1 : Nat) : Int) := fun k => by
        rw [beadrollref13_Of.l0, e1]
        rw [if_pos (by omega), if_pos (by omega)]
      rw [hr] at hst
      have hf := hl _ (List.getElem_mem hi)
      refine Ev.step hst (Ev.bind (ev_Put out l[i] hs hf) ?_)
      rw [List.drop_eq_getElem_cons hi, List.foldl_cons]
      have := put_len out l[i] hs.set
      exact ih (i + 1) _ (by omega) (by omega) (by omega) (hs.put hf (by omega))
    · refine Ev.step (f := fun _ => some out) (fun k => by rw [beadrollref13_Of.l0]; rw [if_neg (by omega)]) ?_
      rw [List.drop_of_length_le (by omega), List.foldl_nil]
      exact Ev.now _
theorem ev_Of (l : List RR) (hl : ∀ y ∈ l, fine y) (hn : l.length ≤ 100000) : Ev (fun k => beadrollref13_Of.f k l) (ofL cmpRR l) := by
  have := of_loop l hl hn l.length 0 [] (by omega) (Nat.zero_le _) (Nat.le_refl _) ⟨fun y hy => (by cases hy), Nat.zero_le _, List.Pairwise.nil⟩
  rw [List.drop_zero] at this
  exact this
theorem ofL_mem : ∀ (l s : List RR) {y : RR}, y ∈ l.foldl (put cmpRR) s → y ∈ s ∨ y ∈ l := by
  intro l
  induction l with
  | nil => intro s y h; exact .inl h
  | cons a l ih =>
    intro s y h
    rcases ih _ h with h | h
    · rcases mem_put h with rfl | h
      · exact .inr (List.mem_cons_self ..)
      · exact .inl h
    · exact .inr (List.mem_cons_of_mem _ h)
theorem ofL_len : ∀ (l s : List RR), IsSet cmpRR s → (l.foldl (put cmpRR) s).length ≤ s.length + l.length := by
  intro l
  induction l with
  | nil => intro s _; exact Nat.le_refl _
  | cons a l ih =>
    intro s h
    have h1 := ih (put cmpRR s a) (put_set ordRR h a)
    have h2 := put_len s a h
    rw [List.foldl_cons, List.length_cons]; omega
theorem setOf_of {l : List RR} (hl : ∀ y ∈ l, fine y) (hn : l.length ≤ 100000) : SetOf (ofL cmpRR l) where
  all y hy := by
    rcases ofL_mem l [] hy with h | h
    · cases h
    · exact hl y h
  len := by have := ofL_len l [] List.Pairwise.nil; unfold ofL; simp only [List.length_nil] at this; omega
  set := ofL_set ordRR l
end Go.Proofs.YtjmpckommjlnlaaGreat.Rrs
namespace Go.Proofs.YtjmpckommjlnlaaGreat.Given
open Go.RowKit Go.Proofs.YtjmpckommjlnlaaGreatW.PrintWords Go.Proofs.YtjmpckommjlnlaaGreatW.PrintLast Go.Proofs.YtjmpckommjlnlaaGreatW.PrintMore Go.Proofs.YtjmpckommjlnlaaGreat.PRd Go.Proofs.YtjmpckommjlnlaaGreat.PRr Go.Proofs.YtjmpckommjlnlaaGreat.Rrs
set_option linter.unusedVariables false
def slices_Clone.f (l0 : List (S35)) : Option (List (S35)) := if l0.length ≤ 1000000 then some l0 else none
theorem made_empty {α : Type} (d : Kd α) {w : World} {g : Nat} {t : TypeId} {base : Nat} {ok : Nat → Prop} (hg : base ≤ g) (ho : ok g) (h : w.heap[g]? = some (.cells #[] t (0, 0))) : Kd.R d t w base ok (.slice (some ⟨g, 0, none⟩) 0 0) [] :=
  ⟨fun k hk => by simp [Value.ownBlock] at hk; subst hk; exact ho, [], ⟨by simp, .inr ⟨g, 0, #[], rfl, hg, h, Nat.le_refl _, Nat.zero_le _, by simp, by simp⟩⟩, Reps.none _ _⟩
set_option maxHeartbeats 8000000 in
set_option maxRecDepth 100000 in
theorem slices_Clone.calls (A0 : Option Addr) (c0 : Nat) (l0 : List (S35)) (r : List (S35)) (w : World) (hr0 : Kd.C k35 w A0 l0.length l0) (hc0 : l0.length ≤ c0) (h : slices_Clone.f l0 = some r) :
    Calls Tryz.prog 72 #[.slice A0 l0.length c0] w fun e w' => ∃ v0_ : Value, e = .returned (v0_) ∧ Kd.R k35 35 w' w.heap.size (fun _ => True) v0_ r ∧ Below w.heap.size w w' := by
  unfold slices_Clone.f at h
  have hn : l0.length ≤ 1000000 := Classical.byContradiction fun hn => by rw [if_neg hn] at h; cases h
  rw [if_pos hn] at h
  injection h with h
  subst h
  have HR := Lib.hid hr0
  have hu41 := Tryz.underlying35
  have hu22 := Tryz.underlying22
  have q22 : ∀ (w : World) (a : Option Addr) (n c n' c' : Nat), (binOp .eql 22 (.slice a n c) (.slice none n' c')).run Tryz.prog w = .ok (.bool a.isNone) w := fun w a n c n' c' => Lib.run_eql_slice_nil w _ _ a n c n' c' hu22
  cases A0 with
  | none =>
    have hl : l0 = [] := List.eq_nil_of_length_eq_zero (Nat.eq_zero_of_not_pos fun hp => by
      obtain ⟨ad, h, _⟩ := hr0.2.2 hp
      cases h)
    subst hl
    clear hr0
    go_enter Tryz.func72, Tryz.ntmps72
    go_wp2_with fail
    go_ret
    exact ⟨_, rfl, Kd.R_nil _ _ _ _ _, Below.refl _ _⟩
  | some ad =>
    clear hr0
    have hB0 : Below w.heap.size w (w.alloc (.cells #[] 35)) := below_alloc (Below.refl _ _) _
    have hM : Kd.R k35 35 (w.alloc (.cells #[] 35)) w.heap.size (fun _ => True) (.slice (some ⟨w.heap.size, 0, none⟩) 0 0) [] := made_empty _ (Nat.le_refl _) trivial (by show (w.heap.push _)[w.heap.size]? = _; simp)
    have hC1 := Kd.C_below HR.out hB0
    have HM := Lib.hid hM
    have HB0 := Lib.hid hB0
    have HC1 := Lib.hid hC1
    clear hB0 hM hC1
    go_enter Tryz.func72, Tryz.ntmps72
    go_wp2_with (at_builtin; go_loud (refine Kd.R_append_rows (w0 := w) k35 w.heap.size rfl _ _ 22 35 _ 56 rfl hu22 info35 rfl (by decide) (by decide) _ [] l0 (some ad) l0.length c0 (fun _ => True) (fun _ => False) rfl rfl HM.out HC1.out (fun x cs h => by rw [k35_open h]; exact k35_mkM _ _ _ x) (fun k h => h.elim) (fun _ _ => trivial) HB0.out HB0.out.size (by simp; omega) ?_); intro v1 w1 hR1 hB1 hg1 hat1)
    go_ret
    exact ⟨_, rfl, hR1, hB1⟩
end Go.Proofs.YtjmpckommjlnlaaGreat.Given
namespace Go.Proofs.YtjmpckommjlnlaaGreat.Rrs
open Go.RowKit Go.Proofs.YtjmpckommjlnlaaGreatW.PrintWords Go.Proofs.YtjmpckommjlnlaaGreatW.PrintLast Go.Proofs.YtjmpckommjlnlaaGreatW.PrintMore Go.Proofs.YtjmpckommjlnlaaGreat.Given Go.Proofs.YtjmpckommjlnlaaGreat.PRd Go.Proofs.YtjmpckommjlnlaaGreat.PRr
set_option linter.unusedVariables false
set_option linter.unusedSimpArgs false
abbrev tRR : Nat := 35
def cellsR (x : RR) : List Value := [.string x.f0, .int .i64 x.f1, .int .i64 x.f2, .int .i64 x.f3, .string x.f4]
def flat : List RR → List Value
  | [] => []
  | x :: l => cellsR x ++ flat l
theorem cellsR_length (x : RR) : (cellsR x).length = 5 := rfl
theorem flat_length : ∀ l, (flat l).length = l.length * 5
  | [] => rfl
  | x :: l => by rw [flat, List.length_append, flat_length l, cellsR_length, List.length_cons]; omega
theorem flat_append : ∀ a b, flat (a ++ b) = flat a ++ flat b
  | [], b => rfl
  | x :: a, b => by rw [List.cons_append, flat, flat, flat_append a b, List.append_assoc]
theorem flat_take (l : List RR) (i : Nat) (hi : i ≤ l.length) : (flat l).take (i * 5) = flat (l.take i) := by
  conv => lhs; rw [← List.take_append_drop i l, flat_append]
  rw [List.take_append_of_le_length (by rw [flat_length, List.length_take]; omega), List.take_of_length_le (by rw [flat_length, List.length_take]; omega)]
theorem flat_drop (l : List RR) (i : Nat) (hi : i ≤ l.length) : (flat l).drop (i * 5) = flat (l.drop i) := by
  conv => lhs; rw [← List.take_append_drop i l, flat_append]
  rw [List.drop_append_of_le_length (by rw [flat_length, List.length_take]; omega), List.drop_of_length_le (by rw [flat_length, List.length_take]; omega), List.nil_append]
theorem flat_one : ∀ (l : List RR), ∀ v ∈ flat l, v.oneCell' = true
  | [], v, h => by cases h
  | x :: l, v, h => by
    rcases List.mem_append.1 h with h | h
    · simp only [cellsR, List.mem_cons, List.not_mem_nil, or_false] at h
      rcases h with rfl | rfl | rfl | rfl | rfl <;> rfl
    · exact flat_one l v h
theorem reps_flat {R : RR → List Value → Prop} (hR : ∀ x cs, R x cs → cs = cellsR x) : ∀ (l : List RR) (inner : List Value), Reps R 5 l inner → inner = flat l
  | [], inner, h => List.eq_nil_of_length_eq_zero (by simpa using h.1)
  | x :: l, inner, h => by
    have h0 := hR _ _ (h.2 0 x rfl)
    simp only [Nat.zero_mul, List.drop_zero] at h0
    have h1 : Reps R 5 l (inner.drop 5) := ⟨by rw [List.length_drop, h.1, List.length_cons]; omega, fun j p hj => by
      rw [List.drop_drop, show 5 + j * 5 = (j + 1) * 5 by omega]; exact h.2 (j + 1) p (by simpa using hj)⟩
    rw [flat, ← h0, ← reps_flat hR l _ h1, List.take_append_drop]
theorem flat_reps {R : RR → List Value → Prop} (hR : ∀ x, R x (cellsR x)) (l : List RR) : Reps R 5 l (flat l) := by
  refine ⟨flat_length l, fun j p hj => ?_⟩
  obtain ⟨hl, e⟩ := List.getElem?_eq_some_iff.1 hj
  rw [flat_drop l j (by omega), List.drop_eq_getElem_cons hl, e, flat, List.take_append_of_le_length (by rw [cellsR_length]; exact Nat.le_refl 5), List.take_of_length_le (by rw [cellsR_length]; exact Nat.le_refl 5)]
  exact hR p
structure Row (w : World) (base g cap : Nat) (l : List RR) (rest : List Value) : Prop where
  blk : w.heap[g]? = some (.cells (flat l ++ rest).toArray tRR (0, 0))
  lo : base ≤ g
  fits : cap ≤ maxLen
  len : l.length * 5 + rest.length = cap * 5
theorem Row.of_R {w : World} {base : Nat} {ok : Nat → Prop} {v : Value} {l : List RR} (h : Kd.R kRR tRR w base ok v l) : (v = .slice none 0 0 ∧ l = []) ∨ ∃ g cap rest, v = .slice (some ⟨g, 0, none⟩) l.length cap ∧ ok g ∧ Row w base g cap l rest := by
  obtain ⟨h0, inner, ⟨h1, h2⟩, hr⟩ := h
  obtain rfl := reps_flat (fun x cs h => k35_openM h) l inner hr
  rcases h2 with ⟨rfl, h2⟩ | ⟨g, cap, cur, rfl, hg, hb, hn, hc, hs, ht⟩
  · exact .inl ⟨rfl, List.eq_nil_of_length_eq_zero h2⟩
  · have hs' : cur.size = cap * 5 := hs
    have hn' : l.length ≤ cap := hn
    have ht' : cur.toList.take (l.length * 5) = flat l := ht
    refine .inr ⟨g, cap, cur.toList.drop (l.length * 5), rfl, h0 g (by simp [Value.ownBlock]), ⟨?_, hg, hc, ?_⟩⟩
    · rw [← ht', List.take_append_drop, Array.toArray_toList]; exact hb
    · have e : cur.toList.length = cap * 5 := by simpa using hs'
      rw [List.length_drop, e]; clear h1 hr h0 hb hs ht hn ht'; omega
theorem Row.R {w : World} {base g cap : Nat} {l : List RR} {rest : List Value} {ok : Nat → Prop} (h : Row w base g cap l rest) (hg : ok g) : Kd.R kRR tRR w base ok (.slice (some ⟨g, 0, none⟩) l.length cap) l := by
  have hl := h.len
  refine ⟨fun k hk => by simp [Value.ownBlock] at hk; subst hk; exact hg, flat l, ⟨flat_length l, .inr ⟨g, cap, _, rfl, h.lo, h.blk, by omega, h.fits, ?_, ?_⟩⟩, flat_reps (fun x => k35_mkM _ _ _ x) l⟩
  · show (flat l ++ rest).toArray.size = cap * 5
    simp [flat_length]; omega
  · show (flat l ++ rest).toArray.toList.take (l.length * 5) = flat l
    rw [List.toList_toArray, List.take_append_of_le_length (by rw [flat_length]; exact Nat.le_refl _), List.take_of_length_le (by rw [flat_length]; exact Nat.le_refl _)]
theorem Row.cell {w : World} {base g cap : Nat} {l : List RR} {rest : List Value} (h : Row w base g cap l rest) (j : Nat) (u : Value) (hj : (flat l)[j]? = some u) : w.cell? ⟨g, j, none⟩ = some u := by
  rw [blk_cell h.blk j]
  have hl := (List.getElem?_eq_some_iff.1 hj).1
  show (flat l ++ rest).toArray[j]? = some u
  rw [List.getElem?_toArray, List.getElem?_append_left hl]; exact hj
theorem infoRR_ : (Tryz.prog.info? 35).map (fun i => (i.zero, i.size, i.bytes)) = some (some (.agg #[.string ⟨#[]⟩, .int .i64 0, .int .i64 0, .int .i64 0, .string ⟨#[]⟩]), 5, 56) := by kernel_rfl
theorem info_parts_RR : ∃ i0, Tryz.prog.info? 35 = some i0 ∧ i0.zero = some (.agg #[.string ⟨#[]⟩, .int .i64 0, .int .i64 0, .int .i64 0, .string ⟨#[]⟩]) ∧ i0.size = 5 ∧ i0.bytes = 56 := by
  obtain ⟨i0, hi, h⟩ := Option.map_eq_some_iff.1 infoRR_
  simp only [Prod.mk.injEq] at h
  exact ⟨i0, hi, h.1, h.2.1, h.2.2⟩
abbrev zRR : Value := .agg #[.string ⟨#[]⟩, .int .i64 0, .int .i64 0, .int .i64 0, .string ⟨#[]⟩]
theorem set_block {w : World} {g : Nat} {cur : List Value} (h : w.heap[g]? = some (.cells cur.toArray tRR (0, 0))) (k : Nat) (v : Value) : (w.setCell ⟨g, k, none⟩ v).heap[g]? = some (.cells (cur.set k v).toArray tRR (0, 0)) := by
  rw [setCell_eq_setRow w g k cur.toArray tRR (0, 0) v h, setRow_heap w g _ _ _ _ h]
  simp
theorem flat_set (a0 a1 a2 a3 a4 : Value) (x : RR) (hx : cellsR x = [a0, a1, a2, a3, a4]) : ∀ (l : List RR) (rest : List Value) (p : Nat), p < l.length →
    (((((flat l ++ rest).set (p * 5) a0).set (p * 5 + 1) a1).set (p * 5 + 2) a2).set (p * 5 + 3) a3).set (p * 5 + 4) a4 = flat (l.set p x) ++ rest
  | [], _, p, h => by simp at h
  | y :: l, rest, 0, _ => by
    show _ = cellsR x ++ flat l ++ rest
    rw [hx]
    rfl
  | y :: l, rest, p + 1, h => by
    have ih := flat_set a0 a1 a2 a3 a4 x hx l rest p (by simpa using h)
    show _ = cellsR y ++ flat (l.set p x) ++ rest
    rw [List.append_assoc, ← ih]
    have e : (p + 1) * 5 = p * 5 + 5 := by omega
    rw [e]
    rfl
theorem Row.put {w : World} {base g cap : Nat} {l : List RR} {rest : List Value} (h : Row w base g cap l rest) (x : RR) (p : Nat) (hp : p < l.length) (a0 a1 a2 a3 a4 : Value) (hx : cellsR x = [a0, a1, a2, a3, a4]) :
    Row (((((w.setCell ⟨g, p * 5, none⟩ a0).setCell ⟨g, p * 5 + 1, none⟩ a1).setCell ⟨g, p * 5 + 2, none⟩ a2).setCell ⟨g, p * 5 + 3, none⟩ a3).setCell ⟨g, p * 5 + 4, none⟩ a4) base g cap (l.set p x) rest := by
  have hb := set_block (set_block (set_block (set_block (set_block h.blk (p * 5) a0) (p * 5 + 1) a1) (p * 5 + 2) a2) (p * 5 + 3) a3) (p * 5 + 4) a4
  rw [flat_set a0 a1 a2 a3 a4 x hx l rest p hp] at hb
  exact ⟨hb, h.lo, h.fits, by rw [List.length_set]; exact h.len⟩
end Go.Proofs.YtjmpckommjlnlaaGreat.Rrs
namespace Go.Proofs.YtjmpckommjlnlaaGreat.Rrs
open Go.RowKit Go.Proofs.YtjmpckommjlnlaaGreatW.PrintWords Go.Proofs.YtjmpckommjlnlaaGreatW.PrintLast Go.Proofs.YtjmpckommjlnlaaGreatW.PrintMore Go.Proofs.YtjmpckommjlnlaaGreat.Given Go.Proofs.YtjmpckommjlnlaaGreat.PRd Go.Proofs.YtjmpckommjlnlaaGreat.PRr
set_option linter.unusedVariables false
set_option linter.unusedSimpArgs false
set_option maxHeartbeats 8000000 in
set_option maxRecDepth 100000 in
theorem those_any (l : List RR) (pr : RR → Bool) (hn : l.length ≤ 1000000) (F : FuncId) (fn : Func) (cb : Array Value) (hf : Tryz.prog.funcs[F]? = some fn) (hname : (fn.name == "runtime.NumGoroutine") = false) (hb : fn.body.isSome = true) (A0 : Option Addr) (c0 : Nat) (w : World) (hC : Kd.C kRR w A0 l.length l)
    (hstep : ∀ x ∈ l, ∀ W, Below w.heap.size w W → Calls Tryz.prog F (#[x.v] ++ cb) W fun e w' => e = .returned (.bool (pr x)) ∧ Below W.heap.size W w') :
    Calls Tryz.prog 110 #[.slice A0 l.length c0, .func (.func F) #[] cb] w fun e w' => ∃ v0_ : Value, e = .returned v0_ ∧ Kd.R kRR 35 w' w.heap.size (fun _ => True) v0_ (l.filter pr) ∧ Below w.heap.size w w' := by
  have hu41 := Tryz.underlying35
  have HF := Lib.hid hf
  have HNM := Lib.hid hname
  have HBD := Lib.hid hb
  have HR := Lib.hid hC
  have HST := Lib.hid hstep
  obtain ⟨n, hnn⟩ : ∃ n, l.length = n := ⟨_, rfl⟩
  have HN := Lib.hid hnn
  rw [hnn] at hn ⊢
  have HB := Lib.hid (Below.refl w.heap.size w)
  clear hf hname hb hC hstep hnn
  go_enter Tryz.func110, Tryz.ntmps110
  go_wp2_with fail
  go_loopg [5, 10] n (fun kx s5 s10 wr => ∃ i : Nat, s10 = .int .i64 (i : Int) ∧ i ≤ n ∧ n - i ≤ kx ∧ Hid (Kd.R kRR 35 wr w.heap.size (fun _ => True) s5 ((l.take i).filter pr)) ∧ Hid (Below w.heap.size w wr))
  case atStart => exact ⟨0, rfl, by omega, by omega, Lib.hid (Kd.R_nil _ _ _ _ _), Lib.hid HB.out⟩
  case round =>
    clear HB
    obtain ⟨i, rfl, hin, hik, HO, HB⟩ := hrel
    by_cases hlt : i < n
    · have p1 : (0 : Int) ≤ (i : Int) := by omega
      have q1 : (i : Int) < (l.length : Int) := by rw [HN.out]; omega
      obtain ⟨ad, e1, hx0, hx1, hx2, hx3, hx4⟩ := at_T35 HR.out (i : Int) p1 q1
      cases e1
      rw [Int.toNat_natCast] at hx0 hx1 hx2 hx3 hx4
      replace hx0 := (HB.out.cell (World.block_lt_of_cell? w _ hx0)).trans hx0
      replace hx1 := (HB.out.cell (World.block_lt_of_cell? w _ hx1)).trans hx1
      replace hx2 := (HB.out.cell (World.block_lt_of_cell? w _ hx2)).trans hx2
      replace hx3 := (HB.out.cell (World.block_lt_of_cell? w _ hx3)).trans hx3
      replace hx4 := (HB.out.cell (World.block_lt_of_cell? w _ hx4)).trans hx4
      have q2 : (i : Int) < (n : Int) := by omega
      obtain ⟨x, hx⟩ : ∃ x, rdR l (i : Nat) = x := ⟨_, rfl⟩
      rw [show rd_T35 l (i : Int) = x from hx] at hx0 hx1 hx2 hx3 hx4
      have hxl : x = l[i]'(by rw [HN.out]; exact hlt) := by rw [← hx, rdR_get l i (by rw [HN.out]; exact hlt)]
      have hxm : x ∈ l := by rw [hxl]; exact List.getElem_mem _
      have HX := Lib.hid hxl
      have HXM := Lib.hid hxm
      have hw1 : IntKind.i64.wrap ((i : Int) + 1) = (i : Int) + 1 := by rw [IntKind.wrap_i64]; omega
      clear hxm hxl hx q1
      go_wp2_with fail
      rw [enters_ HF.out HNM.out HBD.out, Oper.upon_enter]
      have hB1 : Below w.heap.size w (wr.alloc (.cells #[.string x.f0, .int .i64 x.f1, .int .i64 x.f2, .int .i64 x.f3, .string x.f4] 35)) := below_alloc HB.out _
      have hO1 := Kd.R_alloc HO.out (.cells #[.string x.f0, .int .i64 x.f1, .int .i64 x.f2, .int .i64 x.f3, .string x.f4] 35)
      have hk : (wr.alloc (.cells #[.string x.f0, .int .i64 x.f1, .int .i64 x.f2, .int .i64 x.f3, .string x.f4] 35)).heap[wr.heap.size]? = some (.cells #[.string x.f0, .int .i64 x.f1, .int .i64 x.f2, .int .i64 x.f3, .string x.f4] 35 (0, 0)) := by show (wr.heap.push _)[wr.heap.size]? = _; simp
      have hgz : wr.heap.size < (wr.alloc (.cells #[.string x.f0, .int .i64 x.f1, .int .i64 x.f2, .int .i64 x.f3, .string x.f4] 35)).heap.size := by show _ < (wr.heap.push _).size; simp
      generalize wr.alloc (.cells #[.string x.f0, .int .i64 x.f1, .int .i64 x.f2, .int .i64 x.f3, .string x.f4] 35) = w1 at hB1 hO1 hk hgz ⊢
      generalize wr.heap.size = gb at hk hgz ⊢
      have hcall := HST.out x HXM.out w1 hB1
      refine hcall.mono ?_
      rintro e w4 ⟨rfl, hb4⟩
      have hk4 : w4.heap[gb]? = _ := (hb4.block gb hgz).trans hk
      have HB4 := Lib.hid (below_then hB1 hB1.size hb4)
      have HO4 := Lib.hid (Kd.R_below hO1 hb4)
      clear hb4 HB HO hB1 hO1 hk hgz hcall hx0 hx1 hx2 hx3 hx4
      have hx0 : w4.cell? ⟨gb, 0, none⟩ = some (.string x.f0) := by simp [World.cell?, hk4]
      have hx1 : w4.cell? ⟨gb, 1, none⟩ = some (.int .i64 x.f1) := by simp [World.cell?, hk4]
      have hx2 : w4.cell? ⟨gb, 2, none⟩ = some (.int .i64 x.f2) := by simp [World.cell?, hk4]
      have hx3 : w4.cell? ⟨gb, 3, none⟩ = some (.int .i64 x.f3) := by simp [World.cell?, hk4]
      have hx4 : w4.cell? ⟨gb, 4, none⟩ = some (.string x.f4) := by simp [World.cell?, hk4]
      have HSTEP := Lib.hid (show (l.take (i + 1)).filter pr = (l.take i).filter pr ++ (if pr x = true then [x] else []) by
        rw [List.take_add_one, List.getElem?_eq_getElem (by rw [HN.out]; exact hlt), List.filter_append]
        congr 1
        rw [HX.out]
        simp only [Option.toList_some, List.filter_cons, List.filter_nil])
      clear hk4
      generalize hd : pr x = d at HSTEP
      clear hd
      cases d with
      | true =>
        go_wp2_with (first | ((with_reducible refine gate_builtin (b := .append) (xs := #[.tmp 17, .tmp 19]) rfl ?_); at_builtin; refine Kd.R_append k35 (w0 := w) w.heap.size rfl (.tmp 17) (.tmp 19) 22 35 (.agg #[(.string ⟨#[]⟩), (.int .i64 0), (.int .i64 0), (.int .i64 0), (.string ⟨#[]⟩)]) 56 rfl Tryz.underlying22 info35 rfl (by decide) (by omega) u5 ((l.take i).filter pr) x [.string x.f0, .int .i64 x.f1, .int .i64 x.f2, .int .i64 x.f3, .string x.f4] (fun _ => True) (fun _ => False) rfl rfl ?aP (fun _ hk => hk.elim) ?aF ?aO ?aB ?aS ?aL ?_; (case aP => exact k35_mkM _ _ _ x); (case aB => exact (by repeat (first | (with_reducible first | exact HB4.out | apply below_alloc | apply pw_below_drewN | apply below_drew1) | exact HB4.out))); (case aF => exact (fun _ _ => trivial)); (case aO => exact (by (with_reducible repeat (first | apply Kd.R_alloc | apply Kd.R_drewN | apply Kd.R_drew)); exact HO4.out)); (case aS => exact (below_size (by repeat (first | (with_reducible first | exact HB4.out | apply below_alloc | apply pw_below_drewN | apply below_drew1) | exact HB4.out)))); (case aL => have h1 := List.length_filter_le pr (l.take i); have h2 := HN.out; rw [List.length_take] at h1; omega); intro v7 w7 ho hb hg hat; have n0_ := Lib.hid hb; have n1_ := Lib.hid ho; clear HB4 HO4; have HB4 := n0_; have HO4 := n1_; clear n0_ n1_ ho hb hg hat))
        go_roundg (n - (i + 1))
        case measure => omega
        case rel => exact ⟨i + 1, by rw [show ((i + 1 : Nat) : Int) = (i : Int) + 1 by omega], by omega, Nat.le_refl _, Lib.hid (by rw [HSTEP.out]; simpa using HO4.out), HB4⟩
      | false =>
        go_wp2_with fail
        go_roundg (n - (i + 1))
        case measure => omega
        case rel => exact ⟨i + 1, by rw [show ((i + 1 : Nat) : Int) = (i : Int) + 1 by omega], by omega, Nat.le_refl _, Lib.hid (by rw [HSTEP.out]; simpa using HO4.out), HB4⟩
    · obtain rfl : i = n := by omega
      have b1 : ¬ ((i : Int) < (i : Int)) := by omega
      go_wp2_with fail
      go_ret
      refine ⟨_, rfl, ?_, HB.out⟩
      have := HO.out
      rw [List.take_of_length_le (by rw [HN.out]; exact Nat.le_refl _)] at this
      exact this
end Go.Proofs.YtjmpckommjlnlaaGreat.Rrs
namespace Go.Proofs.YtjmpckommjlnlaaGreat.Rrs
open Go.RowKit Go.Proofs.YtjmpckommjlnlaaGreatW.PrintWords Go.Proofs.YtjmpckommjlnlaaGreatW.PrintLast Go.Proofs.YtjmpckommjlnlaaGreatW.PrintMore Go.Proofs.YtjmpckommjlnlaaGreat.Given Go.Proofs.YtjmpckommjlnlaaGreat.PRd Go.Proofs.YtjmpckommjlnlaaGreat.PRr
set_option linter.unusedVariables false
set_option linter.unusedSimpArgs false
set_option maxHeartbeats 4000000 in
set_option maxRecDepth 100000 in
theorem typed_step (x : RR) (t : Int) (g : Nat) (w : World) (hc : w.cell? ⟨g, 0, none⟩ = some (.int .i64 t)) :
    Calls Tryz.prog 111 (#[x.v] ++ #[.pointer (some ⟨g, 0, none⟩)]) w fun e w' => e = .returned (.bool (x.f1 == t)) ∧ Below w.heap.size w w' := by
  have hu41 := Tryz.underlying35
  have HB := Aside0.mk (Below.refl w.heap.size w)
  have HC := Lib.hid hc
  clear hc
  show Calls Tryz.prog 111 #[.agg #[.string x.f0, .int .i64 x.f1, .int .i64 x.f2, .int .i64 x.f3, .string x.f4], .pointer (some ⟨g, 0, none⟩)] w _
  go_enter Tryz.func111, Tryz.ntmps111
  go_wp2_with (first | ((with_reducible refine gate_dst (N := 2) rfl ?_); refine box_event ?hg (N := 2) ?hd (cs := #[.string x.f0, .int .i64 x.f1, .int .i64 x.f2, .int .i64 x.f3, .string x.f4]) (t := 35) ?hr ?_; (case hd => rfl); (case hg => rfl); (case hr => first | (go_simp; done) | (go_simp; rfl)); intro gb hg w3 hbox hb; have n0_ := Aside0.mk (below_step (HB.out) hb); have n1_ := Aside0.mk (hbox); clear HB; have HB := n0_; have BK := n1_; have hc3 : w3.cell? ⟨g, 0, none⟩ = some (.int .i64 t) := (HB.out.cell (World.block_lt_of_cell? w _ HC.out)).trans HC.out; clear n0_ n1_; clear hb hbox hg; have hcz1 : w3.cell? ⟨gb, 1, none⟩ = some (.int .i64 x.f1) := (blk_cell BK.out 1).trans rfl))
  go_ret
  exact ⟨rfl, HB.out⟩
set_option maxHeartbeats 4000000 in
set_option maxRecDepth 100000 in
theorem at_step (x : RR) (n : ByteArray) (b : Bool) (g : Nat) (w : World) (hc : w.cell? ⟨g, 0, none⟩ = some (.string n)) (h : name_Alike.f x.f0 n = some b) :
    Calls Tryz.prog 179 (#[x.v] ++ #[.pointer (some ⟨g, 0, none⟩)]) w fun e w' => e = .returned (.bool b) ∧ Below w.heap.size w w' := by
  have hu41 := Tryz.underlying35
  have HB := Aside0.mk (Below.refl w.heap.size w)
  have HC := Lib.hid hc
  have HA := Lib.hid h
  clear hc h
  show Calls Tryz.prog 179 #[.agg #[.string x.f0, .int .i64 x.f1, .int .i64 x.f2, .int .i64 x.f3, .string x.f4], .pointer (some ⟨g, 0, none⟩)] w _
  go_enter Tryz.func179, Tryz.ntmps179
  go_wp2_with (first | ((with_reducible refine gate_dst (N := 2) rfl ?_); refine box_event ?hg (N := 2) ?hd (cs := #[.string x.f0, .int .i64 x.f1, .int .i64 x.f2, .int .i64 x.f3, .string x.f4]) (t := 35) ?hr ?_; (case hd => rfl); (case hg => rfl); (case hr => first | (go_simp; done) | (go_simp; rfl)); intro gb hg w3 hbox hb; have n0_ := Aside0.mk (below_step (HB.out) hb); have n1_ := Aside0.mk (hbox); clear HB; have HB := n0_; have BK := n1_; have hc3 : w3.cell? ⟨g, 0, none⟩ = some (.string n) := (HB.out.cell (World.block_lt_of_cell? w _ HC.out)).trans HC.out; clear n0_ n1_; clear hb hbox hg; have hcz0 : w3.cell? ⟨gb, 0, none⟩ = some (.string x.f0) := (blk_cell BK.out 0).trans rfl))
  refine (name_Alike.calls x.f0 n b w3 HA.out).mono ?_
  rintro e w4 ⟨rfl, hb4⟩
  have HB4 := Lib.hid (below_then HB.out HB.out.size hb4)
  clear hb4 HB
  go_wp2_with fail
  go_ret
  exact ⟨rfl, HB4.out⟩
end Go.Proofs.YtjmpckommjlnlaaGreat.Rrs
namespace Go.Proofs.YtjmpckommjlnlaaGreat.Given
open Go.RowKit Go.Proofs.YtjmpckommjlnlaaGreatW.PrintWords Go.Proofs.YtjmpckommjlnlaaGreatW.PrintLast Go.Proofs.YtjmpckommjlnlaaGreatW.PrintMore Go.Proofs.YtjmpckommjlnlaaGreat.PRd Go.Proofs.YtjmpckommjlnlaaGreat.PRr Go.Proofs.YtjmpckommjlnlaaGreat.Rrs
set_option linter.unusedVariables false
def rrset_Typed.f (l0 : List (S35)) (a1 : Int) : Option (List (S35)) := if l0.length ≤ 1000000 then some (l0.filter fun x => x.f1 == a1) else none
set_option maxHeartbeats 4000000 in
set_option maxRecDepth 100000 in
theorem rrset_Typed.calls (A0 : Option Addr) (c0 : Nat) (l0 : List (S35)) (a1 : Int) (r : List (S35)) (w : World) (hr0 : Kd.C k35 w A0 l0.length l0) (hc0 : l0.length ≤ c0) (h : rrset_Typed.f l0 a1 = some r) :
    Calls Tryz.prog 61 #[.slice A0 l0.length c0, .int .i64 a1] w fun e w' => ∃ v0_ : Value, e = .returned (v0_) ∧ Kd.R k35 35 w' w.heap.size (fun _ => True) v0_ r ∧ Below w.heap.size w w' := by
  unfold rrset_Typed.f at h
  have hn : l0.length ≤ 1000000 := Classical.byContradiction fun hn => by rw [if_neg hn] at h; cases h
  rw [if_pos hn] at h
  injection h with h
  subst h
  have HR := Lib.hid hr0
  have HB := Aside0.mk (Below.refl w.heap.size w)
  clear hr0 hc0
  go_enter Tryz.func61, Tryz.ntmps61
  go_wp2_with (first | ((with_reducible refine gate_dst (N := 3) rfl ?_); refine box_event ?hg (N := 3) ?hd (cs := #[.int .i64 a1]) (t := 3) ?hr ?_; (case hd => rfl); (case hg => rfl); (case hr => first | (go_simp; done) | (go_simp; rfl)); intro gb hg w3 hbox hb; have n0_ := Aside0.mk (below_step (HB.out) hb); have n1_ := Aside0.mk (hbox); clear HB; have HB := n0_; have BK := n1_; clear n0_ n1_; clear hb hbox hg; have hcz1 : w3.cell? ⟨gb, 0, none⟩ = some (.int .i64 a1) := (blk_cell BK.out 0).trans rfl))
  have HC3 := Lib.hid hcz1
  refine (those_any l0 (fun x => x.f1 == a1) hn 111 Tryz.f111 _ Tryz.func111 (by kernel_rfl) rfl A0 c0 w3 (Kd.C_below HR.out HB.out) (fun x _ W hW => typed_step x a1 gb W ((hW.cell (World.block_lt_of_cell? w3 _ HC3.out)).trans HC3.out))).mono ?_
  rintro e w4 ⟨v, rfl, hv, hb4⟩
  have HV := Lib.hid hv
  have HB4 := Lib.hid (below_then HB.out HB.out.size hb4)
  have HS := Lib.hid HB.out.size
  clear hb4 HB hv
  go_wp2_with fail
  go_ret
  exact ⟨_, rfl, Kd.R_lower HV.out HS.out, HB4.out⟩
open Classical in
noncomputable def rrset_At.f (l0 : List (S35)) (a1 : ByteArray) : Option (List (S35)) := if l0.length ≤ 1000000 ∧ ∀ x ∈ l0, (name_Alike.f x.f0 a1).isSome = true then some (l0.filter fun x => (name_Alike.f x.f0 a1).getD false) else none
set_option maxHeartbeats 4000000 in
set_option maxRecDepth 100000 in
theorem rrset_At.calls (A0 : Option Addr) (c0 : Nat) (l0 : List (S35)) (a1 : ByteArray) (r : List (S35)) (w : World) (hr0 : Kd.C k35 w A0 l0.length l0) (hc0 : l0.length ≤ c0) (h : rrset_At.f l0 a1 = some r) :
    Calls Tryz.prog 139 #[.slice A0 l0.length c0, .string a1] w fun e w' => ∃ v0_ : Value, e = .returned (v0_) ∧ Kd.R k35 35 w' w.heap.size (fun _ => True) v0_ r ∧ Below w.heap.size w w' := by
  unfold rrset_At.f at h
  have hn : l0.length ≤ 1000000 ∧ ∀ x ∈ l0, (name_Alike.f x.f0 a1).isSome = true := Classical.byContradiction fun hn => by rw [if_neg hn] at h; cases h
  rw [if_pos hn] at h
  injection h with h
  subst h
  have HR := Lib.hid hr0
  have HA := Lib.hid hn.2
  replace hn := hn.1
  have HB := Aside0.mk (Below.refl w.heap.size w)
  clear hr0 hc0
  go_enter Tryz.func139, Tryz.ntmps139
  go_wp2_with (first | ((with_reducible refine gate_dst (N := 3) rfl ?_); refine box_event ?hg (N := 3) ?hd (cs := #[.string a1]) (t := 9) ?hr ?_; (case hd => rfl); (case hg => rfl); (case hr => first | (go_simp; done) | (go_simp; rfl)); intro gb hg w3 hbox hb; have n0_ := Aside0.mk (below_step (HB.out) hb); have n1_ := Aside0.mk (hbox); clear HB; have HB := n0_; have BK := n1_; clear n0_ n1_; clear hb hbox hg; have hcz1 : w3.cell? ⟨gb, 0, none⟩ = some (.string a1) := (blk_cell BK.out 0).trans rfl))
  have HC3 := Lib.hid hcz1
  refine (those_any l0 (fun x => (name_Alike.f x.f0 a1).getD false) hn 179 Tryz.f179 _ Tryz.func179 (by kernel_rfl) rfl A0 c0 w3 (Kd.C_below HR.out HB.out) (fun x hx W hW => at_step x a1 _ gb W ((hW.cell (World.block_lt_of_cell? w3 _ HC3.out)).trans HC3.out) (by
    obtain ⟨b, hb⟩ := Option.isSome_iff_exists.mp (HA.out x hx)
    rw [hb]; rfl))).mono ?_
  rintro e w4 ⟨v, rfl, hv, hb4⟩
  have HV := Lib.hid hv
  have HB4 := Lib.hid (below_then HB.out HB.out.size hb4)
  have HS := Lib.hid HB.out.size
  clear hb4 HB hv
  go_wp2_with fail
  go_ret
  exact ⟨_, rfl, Kd.R_lower HV.out HS.out, HB4.out⟩
end Go.Proofs.YtjmpckommjlnlaaGreat.Given
namespace Go.Proofs.YtjmpckommjlnlaaGreat.Rrs
open Go.RowKit Go.Proofs.YtjmpckommjlnlaaGreatW.PrintWords Go.Proofs.YtjmpckommjlnlaaGreatW.PrintLast Go.Proofs.YtjmpckommjlnlaaGreatW.PrintMore Go.Proofs.YtjmpckommjlnlaaGreat.Given Go.Proofs.YtjmpckommjlnlaaGreat.PRd Go.Proofs.YtjmpckommjlnlaaGreat.PRr Go.Proofs.YtjmpckommjlnlaaGreat.Oct Go.Proofs.YtjmpckommjlnlaaGreat.Name Go.Proofs.YtjmpckommjlnlaaGreat.Cmp Go.Proofs.YtjmpckommjlnlaaGreat.NameFacts Go.Proofs.YtjmpckommjlnlaaGreat.RdataFacts Go.Proofs.YtjmpckommjlnlaaGreat.SetLaw
set_option linter.unusedVariables false
def alikeN (a b : ByteArray) : Bool := (name_Alike.f a b).getD false
def underN (a b : ByteArray) : Bool := (name_Under.f 300 a b).getD false
theorem both_names (a b : ByteArray) : (∃ l m, good l ∧ good m ∧ (nameB l).size ≤ 255 ∧ (nameB m).size ≤ 255 ∧ a = nameB l ∧ b = nameB m) ∨ (rightB a = false ∨ rightB b = false) := by
  cases ha : rightB a
  · exact .inr (.inl rfl)
  cases hb : rightB b
  · exact .inr (.inr rfl)
  obtain ⟨l, h1, h2, h3⟩ := (right_iff a).mp ha
  obtain ⟨m, k1, k2, k3⟩ := (right_iff b).mp hb
  exact .inl ⟨l, m, h1, k1, h3, k3, h2, k2⟩
theorem alikeN_f (a b : ByteArray) : name_Alike.f a b = some (alikeN a b) := by
  unfold alikeN
  rcases both_names a b with ⟨l, m, gl, gm, sl, sm, rfl, rfl⟩ | h
  · rw [alike_f l m gl gm sl sm]; rfl
  · rw [alike_no a b h]; rfl
theorem alikeN_name {l m : List ByteArray} (gl : good l) (gm : good m) (sl : (nameB l).size ≤ 255) (sm : (nameB m).size ≤ 255) : alikeN (nameB l) (nameB m) = decide (l.map lowS = m.map lowS) := by
  unfold alikeN; rw [alike_f l m gl gm sl sm]; rfl
theorem alikeN_no {a b : ByteArray} (h : rightB a = false ∨ rightB b = false) : alikeN a b = false := by
  unfold alikeN; rw [alike_no a b h]; rfl
theorem underN_f (a b : ByteArray) (k : Nat) (hk : 300 ≤ k) : name_Under.f k a b = some (underN a b) := by
  unfold underN
  rcases both_names a b with ⟨l, m, gl, gm, sl, sm, rfl, rfl⟩ | h
  · rw [under_f l m gl gm sl sm k hk, under_f l m gl gm sl sm 300 (Nat.le_refl _)]; rfl
  · rw [under_no a b h k (by omega), under_no a b h 300 (by omega)]; rfl
theorem underN_name {l m : List ByteArray} (gl : good l) (gm : good m) (sl : (nameB l).size ≤ 255) (sm : (nameB m).size ≤ 255) : underN (nameB l) (nameB m) = underL m l := by
  unfold underN; rw [under_f l m gl gm sl sm 300 (Nat.le_refl _)]; rfl
theorem underN_no {a b : ByteArray} (h : rightB a = false ∨ rightB b = false) : underN a b = false := by
  unfold underN; rw [under_no a b h 300 (by omega)]; rfl
theorem ev_ralike (a b : ByteArray) : Ev (fun k => beadrollref07_Alike.f k a b) (alikeN a b) := ⟨700, fun k hk => by
  rcases both_names a b with ⟨l, m, gl, gm, sl, sm, rfl, rfl⟩ | h
  · show beadrollref07_Alike.f k _ _ = _
    rw [ralike_yes l m gl gm sl sm k hk, alikeN_name gl gm sl sm]
  · show beadrollref07_Alike.f k _ _ = _
    rw [ralike_no a b h k hk, alikeN_no h]⟩
theorem ev_runder (a b : ByteArray) : Ev (fun k => beadrollref07_Under.f k a b) (underN a b) := ⟨1000, fun k hk => by
  rcases both_names a b with ⟨l, m, gl, gm, sl, sm, rfl, rfl⟩ | h
  · show beadrollref07_Under.f k _ _ = _
    rw [runder_yes l m gl gm sl sm k hk, underN_name gl gm sl sm]
  · show beadrollref07_Under.f k _ _ = _
    rw [runder_no a b h k hk, underN_no h]⟩
theorem alike_iff {x y : RR} (hx : rightB x.f0 = true) (hy : rightB y.f0 = true) : alikeN x.f0 y.f0 = true ↔ nameK x = nameK y := by
  obtain ⟨l, gl, sl, el, kl⟩ := nameK_eq x hx
  obtain ⟨m, gm, sm, em, km⟩ := nameK_eq y hy
  rw [kl, km, el, em, alikeN_name gl gm sl sm, decide_eq_true_eq, List.reverse_inj]
theorem alike_self {a : ByteArray} (ha : rightB a = true) : alikeN a a = true := (alike_iff (x := ⟨a, 0, 0, 0, a⟩) (y := ⟨a, 0, 0, 0, a⟩) ha ha).mpr rfl
theorem ptyped_f (x : RR) : record_typed.f x.f0 x.f1 x.f2 x.f3 x.f4 = some (typedB x.f2 x.f4) := by
  unfold record_typed.f typedB
  repeat' split
  all_goals rfl
theorem ev_right_j (b : Bool) (x : RR) (h : b = false → x.f4.size ≤ 1000000) : Ev (fun k => record_Right.j0 k b x.f0 x.f1 x.f2 x.f3 x.f4) (!b && (!typedB x.f2 x.f4 || rightD x.f1 x.f4)) := by
  have hs : ∀ k, record_Right.j0 (k + 1) b x.f0 x.f1 x.f2 x.f3 x.f4 = if b = true then some false else (record_typed.f x.f0 x.f1 x.f2 x.f3 x.f4).bind fun t => if t = true then (rdata_Right.f x.f1 x.f4).bind fun u => some u else some true := fun k => by
    simp only [record_Right.j0]
  refine Ev.step hs ?_
  cases b
  · simp only [ptyped_f, Option.bind_some, Bool.false_eq_true, if_false]
    cases ht : typedB x.f2 x.f4
    · simp only [Bool.false_eq_true, if_false]
      exact Ev.now _
    · simp only [if_true]
      refine Ev.const ?_
      have := h rfl
      unfold rdata_Right.f
      rw [if_pos (by omega)]
      rfl
  · simp only [if_true]
    exact Ev.now _
theorem ev_right (x : RR) : Ev (fun k => record_Right.f k x.f0 x.f1 x.f2 x.f3 x.f4) (rightRR x) := by
  have hs : ∀ k, record_Right.f k x.f0 x.f1 x.f2 x.f3 x.f4 = record_Right.j0 k (!(rightB x.f0 && (decide (0 ≤ x.f1) && (decide (x.f1 ≤ 65535) && (decide (0 ≤ x.f2) && (decide (x.f2 ≤ 65535) && (decide (0 ≤ x.f3) && (decide (x.f3 ≤ 2147483647) && decide (x.f4.size ≤ 65535))))))))) x.f0 x.f1 x.f2 x.f3 x.f4 := fun k => by
    unfold record_Right.f
    rw [right_f, Option.bind_some]
    by_cases h1 : x.f1 < 0
    · simp [h1, show ¬ (0 ≤ x.f1) by omega]
    by_cases h2 : x.f1 > 65535
    · simp [h1, h2, show ¬ (x.f1 ≤ 65535) by omega]
    by_cases h3 : x.f2 < 0
    · simp [h1, h2, h3, show ¬ (0 ≤ x.f2) by omega]
    by_cases h4 : x.f2 > 65535
    · simp [h1, h2, h3, h4, show ¬ (x.f2 ≤ 65535) by omega]
    by_cases h5 : x.f3 < 0
    · simp [h1, h2, h3, h4, h5, show ¬ (0 ≤ x.f3) by omega]
    by_cases h6 : x.f3 > 2147483647
    · simp [h1, h2, h3, h4, h5, h6, show ¬ (x.f3 ≤ 2147483647) by omega]
    have e7 : decide ((x.f4.size : Int) > 65535) = !decide (x.f4.size ≤ 65535) := by
      by_cases h7 : x.f4.size ≤ 65535
      · rw [decide_eq_true h7, decide_eq_false (by omega)]; rfl
      · rw [decide_eq_false h7, decide_eq_true (by omega)]; rfl
    rw [if_neg h1, if_neg h2, if_neg h3, if_neg h4, if_neg h5, if_neg h6, e7]
    cases rightB x.f0
    · simp
    · simp [show 0 ≤ x.f1 by omega, show x.f1 ≤ 65535 by omega, show 0 ≤ x.f2 by omega, show x.f2 ≤ 65535 by omega, show 0 ≤ x.f3 by omega, show x.f3 ≤ 2147483647 by omega]
  refine Ev.congr hs ?_
  refine (?_ : (!(!(rightB x.f0 && _)) && _) = rightRR x) ▸ ev_right_j _ x ?_
  · unfold rightRR
    simp only [Bool.not_not, Bool.and_assoc]
  · intro h
    simp only [Bool.not_eq_false', Bool.and_eq_true, decide_eq_true_eq] at h
    omega
def dataB (t : Int) : Bool := (zone_DataType.f t).getD false
theorem dataB_f (t : Int) : zone_DataType.f t = some (dataB t) := by
  unfold dataB zone_DataType.f
  repeat' split
  all_goals rfl
def withinB (a : ByteArray) (x : RR) : Bool := decide (x.f2 = 1) && (dataB x.f1 && underN x.f0 a)
theorem within_f (a : ByteArray) (x : RR) (k : Nat) (hk : 300 ≤ k) : zone_within.f k a x.f0 x.f1 x.f2 x.f3 x.f4 = some (withinB a x) := by
  unfold zone_within.f withinB
  rw [dataB_f, underN_f _ _ k hk]
  by_cases h : x.f2 = 1
  · rw [if_pos h, decide_eq_true h, Option.bind_some]
    cases dataB x.f1 <;> rfl
  · rw [if_neg h, decide_eq_false h]; rfl
def atL (l : List RR) (n : ByteArray) : List RR := l.filter fun x => alikeN x.f0 n
def typedL (l : List RR) (t : Int) : List RR := l.filter fun x => x.f1 == t
def setL (l : List RR) (n : ByteArray) (t : Int) : List RR := typedL (atL l n) t
theorem at_fl (l : List RR) (n : ByteArray) (h : l.length ≤ 1000000) : rrset_At.f l n = some (atL l n) := by
  unfold rrset_At.f
  rw [if_pos ⟨h, fun x _ => by rw [alikeN_f]; rfl⟩]
  rfl
theorem typed_fl (l : List RR) (t : Int) (h : l.length ≤ 1000000) : rrset_Typed.f l t = some (typedL l t) := by
  unfold rrset_Typed.f
  rw [if_pos h]; rfl
theorem atL_len (l : List RR) (n : ByteArray) : (atL l n).length ≤ l.length := List.length_filter_le _ _
theorem rat_loop (l : List RR) (n : ByteArray) (hn : l.length ≤ 1000000) : ∀ (d i : Nat) (out : List RR), l.length ≤ i + d → i ≤ l.length → out.length ≤ i → Ev (fun k => beadrollref13_At.l0 k l n out (i : Int)) (out ++ atL (l.drop i) n) := by
  have hend : ∀ (i : Nat) (out : List RR), l.length ≤ i → Ev (fun k => beadrollref13_At.l0 k l n out (i : Int)) (out ++ atL (l.drop i) n) := by
    intro i out hd
    refine Ev.step (f := fun _ => some out) (fun k => by rw [beadrollref13_At.l0]; rw [if_neg (by omega)]) ?_
    rw [List.drop_of_length_le hd]
    show Ev _ (out ++ [])
    rw [List.append_nil]
    exact Ev.now _
  intro d
  induction d with
  | zero => exact fun i out hd hi0 ho => hend i out (by omega)
  | succ d ih =>
    intro i out hd hi0 ho
    by_cases hi : i < l.length
    · have e1 : wrap64 ((i : Int) + 1) = ((i + 1 : Nat) : Int) := by unfold wrap64; omega
      have hr := rdR_get l i hi
      have hs : ∀ k, beadrollref13_At.l0 (k + 1) l n out (i : Int) = (beadrollref07_Alike.f k (rdR l (i : Int)).f0 n).bind fun t => if t = true then beadrollref13_At.l0 k l n (out ++ [rdR l (i : Int)]) ((i + 1 : Nat) : Int) else beadrollref13_At.l0 k l n out ((i + 1 : Nat) : Int) := fun k => by
        rw [beadrollref13_At.l0, e1]
        rw [if_pos (by omega), if_pos (by omega)]
        congr 1
        funext t
        rw [if_pos (show out.length < _ by omega)]
      rw [hr] at hs
      refine Ev.step hs (Ev.bind (ev_ralike _ _) ?_)
      rw [List.drop_eq_getElem_cons hi]
      unfold atL
      rw [List.filter_cons]
      cases alikeN l[i].f0 n
      · simp only [Bool.false_eq_true, if_false]
        exact ih (i + 1) out (by omega) (by omega) (by omega)
      · simp only [if_true]
        have := ih (i + 1) (out ++ [l[i]]) (by omega) (by omega) (by rw [List.length_append, List.length_singleton]; omega)
        rw [List.append_assoc, List.singleton_append] at this
        exact this
    · exact hend i out (by omega)
theorem ev_rat (l : List RR) (n : ByteArray) (hn : l.length ≤ 1000000) : Ev (fun k => beadrollref13_At.f k l n) (atL l n) := by
  have := rat_loop l n hn l.length 0 [] (by omega) (Nat.zero_le _) (Nat.le_refl _)
  rw [List.drop_zero, List.nil_append] at this
  exact this
theorem rty_loop (l : List RR) (t : Int) (hn : l.length ≤ 1000000) : ∀ (d i : Nat) (out : List RR), l.length ≤ i + d → i ≤ l.length → out.length ≤ i → Ev (fun k => beadrollref13_Typed.l0 k l t out (i : Int)) (out ++ typedL (l.drop i) t) := by
  have hend : ∀ (i : Nat) (out : List RR), l.length ≤ i → Ev (fun k => beadrollref13_Typed.l0 k l t out (i : Int)) (out ++ typedL (l.drop i) t) := by
    intro i out hd
    refine Ev.step (f := fun _ => some out) (fun k => by rw [beadrollref13_Typed.l0]; rw [if_neg (by omega)]) ?_
    rw [List.drop_of_length_le hd]
    show Ev _ (out ++ [])
    rw [List.append_nil]
    exact Ev.now _
  intro d
  induction d with
  | zero => exact fun i out hd hi0 ho => hend i out (by omega)
  | succ d ih =>
    intro i out hd hi0 ho
    by_cases hi : i < l.length
    · have e1 : wrap64 ((i : Int) + 1) = ((i + 1 : Nat) : Int) := by unfold wrap64; omega
      have hr := rdR_get l i hi
      have hs : ∀ k, beadrollref13_Typed.l0 (k + 1) l t out (i : Int) = if (rdR l (i : Int)).f1 = t then beadrollref13_Typed.l0 k l t (out ++ [rdR l (i : Int)]) ((i + 1 : Nat) : Int) else beadrollref13_Typed.l0 k l t out ((i + 1 : Nat) : Int) := fun k => by
        rw [beadrollref13_Typed.l0, e1]
        rw [if_pos (by omega), if_pos (by omega), if_pos (show out.length < _ by omega)]
      rw [hr] at hs
      refine Ev.step hs ?_
      rw [List.drop_eq_getElem_cons hi]
      unfold typedL
      rw [List.filter_cons]
      by_cases h : l[i].f1 = t
      · simp only [h, beq_self_eq_true, if_true]
        have := ih (i + 1) (out ++ [l[i]]) (by omega) (by omega) (by rw [List.length_append, List.length_singleton]; omega)
        rw [List.append_assoc, List.singleton_append] at this
        exact this
      · simp only [h, beq_eq_false_iff_ne.mpr h, Bool.false_eq_true, if_false]
        exact ih (i + 1) out (by omega) (by omega) (by omega)
    · exact hend i out (by omega)
theorem ev_rtyped (l : List RR) (t : Int) (hn : l.length ≤ 1000000) : Ev (fun k => beadrollref13_Typed.f k l t) (typedL l t) := by
  have := rty_loop l t hn l.length 0 [] (by omega) (Nat.zero_le _) (Nat.le_refl _)
  rw [List.drop_zero, List.nil_append] at this
  exact this
def apartAt (l : List RR) (i : Nat) : Bool := !((rdR l (i : Int)).f1 == 5 && ((decide (0 < i) && alikeN (rdR l ((i - 1 : Nat) : Int)).f0 (rdR l (i : Int)).f0) || (decide (i + 1 < l.length) && alikeN (rdR l ((i + 1 : Nat) : Int)).f0 (rdR l (i : Int)).f0)))
def apartFrom (l : List RR) : Nat → Nat → Bool
  | 0, _ => true
  | d + 1, i => if i < l.length then apartAt l i && apartFrom l d (i + 1) else true
def apartB (l : List RR) : Bool := apartFrom l l.length 0
theorem apart_loop (l : List RR) (hn : l.length ≤ 1000000) : ∀ (d i : Nat), l.length ≤ i + d → i ≤ l.length → Ev (fun k => zone_apart.l0 k l l (l.length : Int) (i : Int)) (apartFrom l d i) := by
  intro d
  induction d with
  | zero =>
    intro i hd hi0
    exact Ev.step (f := fun _ => some true) (fun k => by rw [zone_apart.l0]; rw [if_neg (by omega)]) (Ev.now _)
  | succ d ih =>
    intro i hd hi0
    by_cases hi : i < l.length
    · rw [apartFrom, if_pos hi]
      have e1 : wrap64 ((i : Int) + 1) = ((i + 1 : Nat) : Int) := by unfold wrap64; omega
      have ihn := ih (i + 1) (by omega) (by omega)
      have hnext : Ev (fun k => if ((i + 1 : Nat) : Int) < (l.length : Int) then (if 0 ≤ ((i + 1 : Nat) : Int) then ((name_Alike.f (rdR l ((i + 1 : Nat) : Int)).f0 (rdR l (i : Int)).f0).bind fun t => if t = true then some false else zone_apart.l0 k l l (l.length : Int) ((i + 1 : Nat) : Int)) else none) else zone_apart.l0 k l l (l.length : Int) ((i + 1 : Nat) : Int))
          (!(decide (i + 1 < l.length) && alikeN (rdR l ((i + 1 : Nat) : Int)).f0 (rdR l (i : Int)).f0) && apartFrom l d (i + 1)) := by
        by_cases h : i + 1 < l.length
        · simp only [show (((i + 1 : Nat) : Int) < (l.length : Int)) = True from eq_true (by omega), show (0 ≤ ((i + 1 : Nat) : Int)) = True from eq_true (by omega), if_true, alikeN_f, Option.bind_some, decide_eq_true h, Bool.true_and]
          cases alikeN (rdR l ((i + 1 : Nat) : Int)).f0 (rdR l (i : Int)).f0
          · simp only [Bool.false_eq_true, if_false, Bool.not_false, Bool.true_and]; exact ihn
          · simp only [if_true, Bool.not_true, Bool.false_and]; exact Ev.now _
        · simp only [show (((i + 1 : Nat) : Int) < (l.length : Int)) = False from eq_false (by omega), if_false, decide_eq_false h, Bool.false_and, Bool.not_false, Bool.true_and]
          exact ihn
      have hs : ∀ k, zone_apart.l0 (k + 1) l l (l.length : Int) (i : Int) = if (rdR l (i : Int)).f1 = 5 then (if (i : Int) > 0 then (if 0 ≤ wrap64 ((i : Int) - 1) then (if wrap64 ((i : Int) - 1) < (l.length : Int) then ((name_Alike.f (rdR l (wrap64 ((i : Int) - 1))).f0 (rdR l (i : Int)).f0).bind fun t => if t = true then some false else if ((i + 1 : Nat) : Int) < (l.length : Int) then (if 0 ≤ ((i + 1 : Nat) : Int) then ((name_Alike.f (rdR l ((i + 1 : Nat) : Int)).f0 (rdR l (i : Int)).f0).bind fun t => if t = true then some false else zone_apart.l0 k l l (l.length : Int) ((i + 1 : Nat) : Int)) else none) else zone_apart.l0 k l l (l.length : Int) ((i + 1 : Nat) : Int)) else none) else none)
          else if ((i + 1 : Nat) : Int) < (l.length : Int) then (if 0 ≤ ((i + 1 : Nat) : Int) then ((name_Alike.f (rdR l ((i + 1 : Nat) : Int)).f0 (rdR l (i : Int)).f0).bind fun t => if t = true then some false else zone_apart.l0 k l l (l.length : Int) ((i + 1 : Nat) : Int)) else none) else zone_apart.l0 k l l (l.length : Int) ((i + 1 : Nat) : Int)) else zone_apart.l0 k l l (l.length : Int) ((i + 1 : Nat) : Int) := fun k => by
        rw [zone_apart.l0, e1]; rw [if_pos (by omega), if_pos (by omega), if_pos (by omega)]
      refine Ev.step hs ?_
      unfold apartAt
      by_cases h5 : (rdR l (i : Int)).f1 = 5
      · simp only [h5, if_true, beq_self_eq_true, Bool.true_and]
        by_cases h0 : 0 < i
        · have e2 : wrap64 ((i : Int) - 1) = ((i - 1 : Nat) : Int) := by unfold wrap64; omega
          simp only [e2, show ((i : Int) > 0) = True from eq_true (by omega), show (0 ≤ ((i - 1 : Nat) : Int)) = True from eq_true (by omega), show (((i - 1 : Nat) : Int) < (l.length : Int)) = True from eq_true (by omega), if_true, alikeN_f, Option.bind_some, decide_eq_true h0, Bool.true_and]
          simp only [alikeN_f, Option.bind_some] at hnext
          cases alikeN (rdR l ((i - 1 : Nat) : Int)).f0 (rdR l (i : Int)).f0
          · simp only [Bool.false_eq_true, if_false, Bool.false_or]; exact hnext
          · simp only [if_true, Bool.true_or, Bool.not_true, Bool.false_and]; exact Ev.now _
        · simp only [show ((i : Int) > 0) = False from eq_false (by omega), if_false, decide_eq_false h0, Bool.false_and, Bool.false_or]
          exact hnext
      · have h5' : ((rdR l (i : Int)).f1 == 5) = false := beq_eq_false_iff_ne.mpr h5
        simp only [h5, if_false, h5', Bool.false_and, Bool.not_false, Bool.true_and]
        exact ihn
    · rw [apartFrom, if_neg hi]
      exact Ev.step (f := fun _ => some true) (fun k => by rw [zone_apart.l0]; rw [if_neg (by omega)]) (Ev.now _)
theorem ev_apart (l : List RR) (hn : l.length ≤ 1000000) : Ev (fun k => zone_apart.f k l) (apartB l) := apart_loop l hn l.length 0 (by omega) (Nat.zero_le _)
theorem apartFrom_iff (l : List RR) : ∀ (d i : Nat), l.length ≤ i + d → (apartFrom l d i = true ↔ ∀ j, i ≤ j → j < l.length → apartAt l j = true) := by
  intro d
  induction d with
  | zero => intro i hd; exact ⟨fun _ j h1 h2 => by omega, fun _ => rfl⟩
  | succ d ih =>
    intro i hd
    rw [apartFrom]
    split
    · rename_i hi
      rw [Bool.and_eq_true, ih (i + 1) (by omega)]
      constructor
      · rintro ⟨h1, h2⟩ j hj hl
        by_cases e : j = i
        · rw [e]; exact h1
        · exact h2 j (by omega) hl
      · exact fun h => ⟨h i (Nat.le_refl _) hi, fun j hj hl => h j (by omega) hl⟩
    · rename_i hi
      exact ⟨fun _ j h1 h2 => by omega, fun _ => rfl⟩
theorem apartB_iff (l : List RR) : apartB l = true ↔ ∀ j, j < l.length → apartAt l j = true := by
  unfold apartB
  rw [apartFrom_iff l _ 0 (by omega)]
  exact ⟨fun h j hj => h j (Nat.zero_le _) hj, fun h j _ hj => h j hj⟩
end Go.Proofs.YtjmpckommjlnlaaGreat.Rrs
namespace Go.Proofs.YtjmpckommjlnlaaGreat.SetLaw
set_option linter.unusedVariables false
variable {α : Type} {c : α → α → Int}
theorem cls_comm (O : POrd c) (a b : List α) (h : ∀ x ∈ a, ∀ y ∈ b, ¬ c x y = 0) (z : α) : cls c (a ++ b) z = cls c (b ++ a) z := by
  rw [cls_append, cls_append]
  by_cases ha : ∃ x ∈ a, c z x = 0
  · obtain ⟨x, hx, h0⟩ := ha
    have : cls c b z = [] := cls_none fun y hy h1 => h x hx y hy (by rw [← O.cong z x y h0]; exact h1)
    rw [this]; simp
  · have : cls c a z = [] := cls_none fun y hy h1 => ha ⟨y, hy, h1⟩
    rw [this]; simp
theorem StableOf.refl_of {l : List α} (h : Sorted c l) : StableOf c l l := ⟨h, fun _ => rfl⟩
theorem StableOf.mem (O : POrd c) {l m : List α} (h : StableOf c l m) {y : α} (hy : y ∈ m) : y ∈ l := mem_of_cls O h.2 hy
theorem sorted_append {l m : List α} (hl : Sorted c l) (hm : Sorted c m) (h : ∀ x ∈ l, ∀ y ∈ m, c x y ≤ 0) : Sorted c (l ++ m) := List.pairwise_append.mpr ⟨hl, hm, h⟩
theorem sorted_left {l m : List α} (h : Sorted c (l ++ m)) : Sorted c l := (List.pairwise_append.mp h).1
theorem sorted_right {l m : List α} (h : Sorted c (l ++ m)) : Sorted c m := (List.pairwise_append.mp h).2.1
theorem sorted_between {l m : List α} (h : Sorted c (l ++ m)) : ∀ x ∈ l, ∀ y ∈ m, c x y ≤ 0 := (List.pairwise_append.mp h).2.2
theorem stable_insert (O : POrd c) {l1 l2 : List α} {x : α} (hs : Sorted c (l1 ++ l2)) (h1 : ∀ y ∈ l1, c y x ≤ 0) (h2 : ∀ y ∈ l2, c x y < 0) : StableOf c (l1 ++ l2 ++ [x]) (l1 ++ x :: l2) := by
  refine ⟨?_, fun z => ?_⟩
  · refine sorted_append (sorted_left hs) (List.pairwise_cons.mpr ⟨fun y hy => by have := h2 y hy; omega, sorted_right hs⟩) fun a ha b hb => ?_
    rcases List.mem_cons.mp hb with rfl | hb
    · exact h1 a ha
    · exact sorted_between hs a ha b hb
  · have e := cls_comm O [x] l2 (fun a ha b hb => by
      rw [List.mem_singleton] at ha
      subst ha
      have := h2 b hb
      omega) z
    rw [cls_append, show x :: l2 = [x] ++ l2 from rfl, e, List.append_assoc, cls_append c l1]
theorem stable_front (O : POrd c) {r1 r2 : List α} {x : α} (hs : Sorted c (r1 ++ r2)) (h1 : ∀ y ∈ r1, c y x < 0) (h2 : ∀ y ∈ r2, 0 ≤ c y x) : StableOf c ([x] ++ (r1 ++ r2)) (r1 ++ x :: r2) := by
  refine ⟨?_, fun z => ?_⟩
  · refine sorted_append (sorted_left hs) (List.pairwise_cons.mpr ⟨fun y hy => by have := h2 y hy; have := O.flip y x; omega, sorted_right hs⟩) fun a ha b hb => ?_
    rcases List.mem_cons.mp hb with rfl | hb
    · have := h1 a ha; omega
    · exact sorted_between hs a ha b hb
  · have e := cls_comm O r1 [x] (fun a ha b hb => by
      rw [List.mem_singleton] at hb
      subst hb
      have := h1 a ha
      omega) z
    rw [show r1 ++ x :: r2 = r1 ++ [x] ++ r2 by simp, cls_append, e, ← cls_append, List.append_assoc]
theorem stable_halves (O : POrd c) {l1 l2 r1 r2 m1 m2 : List α} (hl : Sorted c (l1 ++ l2)) (hr : Sorted c (r1 ++ r2)) (h1 : ∀ x ∈ l1, ∀ y ∈ r2, c x y ≤ 0) (h2 : ∀ y ∈ r1, ∀ x ∈ l2, c y x < 0)
    (s1 : StableOf c (l1 ++ r1) m1) (s2 : StableOf c (l2 ++ r2) m2) : StableOf c ((l1 ++ l2) ++ (r1 ++ r2)) (m1 ++ m2) := by
  refine ⟨sorted_append s1.1 s2.1 fun x hx y hy => ?_, fun z => ?_⟩
  · have hx' := s1.mem O hx
    have hy' := s2.mem O hy
    rcases List.mem_append.mp hx' with hx' | hx' <;> rcases List.mem_append.mp hy' with hy' | hy'
    · exact sorted_between hl x hx' y hy'
    · exact h1 x hx' y hy'
    · have := h2 x hx' y hy'; omega
    · exact sorted_between hr x hx' y hy'
  · have e := cls_comm O r1 l2 (fun a ha b hb => by have := h2 a ha b hb; omega) z
    rw [cls_append, s1.2, s2.2, ← cls_append, show l1 ++ r1 ++ (l2 ++ r2) = l1 ++ (r1 ++ l2) ++ r2 by simp, cls_append, cls_append c l1, e, ← cls_append, ← cls_append]
    simp
def Blocks (c : α → α → Int) (s : Nat) (l : List α) : Prop := ∀ k, Sorted c ((l.drop (k * s)).take s)
theorem blocks_nil (s : Nat) : Blocks c s [] := fun k => by simp [Sorted]
theorem blocks_snoc {s t : Nat} {p q : List α} (hp : Blocks c s p) (ht : p.length = t * s) (hq : Sorted c q) (hs : q.length ≤ s) : Blocks c s (p ++ q) := by
  intro k
  rw [List.drop_append]
  by_cases h : k < t
  · have h1 : (k + 1) * s ≤ t * s := Nat.mul_le_mul_right s h
    rw [Nat.add_mul, Nat.one_mul] at h1
    rw [Nat.sub_eq_zero_of_le (show k * s ≤ p.length by omega), List.drop_zero, List.take_append_of_le_length (by rw [List.length_drop]; omega)]
    exact hp k
  · have h1 : t * s ≤ k * s := Nat.mul_le_mul_right s (by omega)
    rw [List.drop_of_length_le (by omega), List.nil_append]
    exact (hq.sublist (List.drop_sublist _ _)).sublist (List.take_sublist _ _)
theorem blocks_all {s : Nat} {l : List α} (h : Blocks c s l) (hs : l.length ≤ s) : Sorted c l := by
  have := h 0
  rw [Nat.zero_mul, List.drop_zero, List.take_of_length_le hs] at this
  exact this
theorem set_at (p s : List α) (x y : α) : (p ++ x :: s).set p.length y = p ++ y :: s := by
  rw [List.set_append_right _ _ (Nat.le_refl _), Nat.sub_self, List.set_cons_zero]
theorem get_at (p s : List α) (x : α) : (p ++ x :: s)[p.length]? = some x := by
  rw [List.getElem?_append_right (Nat.le_refl _), Nat.sub_self]; rfl
theorem sw_adj (p s : List α) (x y : α) (i : Nat) (hi : i = p.length) : ((p ++ x :: y :: s).set (i + 1) x).set i y = p ++ y :: x :: s := by
  subst hi
  rw [show p ++ x :: y :: s = (p ++ [x]) ++ y :: s by simp, show p.length + 1 = (p ++ [x]).length by simp, set_at, show p ++ [x] ++ x :: s = p ++ x :: (x :: s) by simp, set_at]
theorem sw_adj2 (p s : List α) (x y : α) (i : Nat) (hi : i = p.length) : ((p ++ x :: y :: s).set i y).set (i + 1) x = p ++ y :: x :: s := by
  subst hi
  rw [set_at, show p ++ y :: y :: s = (p ++ [y]) ++ y :: s by simp, show p.length + 1 = (p ++ [y]).length by simp, set_at]
  simp
def sw (l : List α) (i j : Nat) : List α := match l[i]?, l[j]? with
  | some x, some y => (l.set i y).set j x
  | _, _ => l
theorem sw_length (l : List α) (i j : Nat) : (sw l i j).length = l.length := by unfold sw; split <;> simp
theorem sw_get (l : List α) (i j : Nat) (hi : i < l.length) (hj : j < l.length) (t : Nat) : (sw l i j)[t]? = if t = j then l[i]? else if t = i then l[j]? else l[t]? := by
  unfold sw
  rw [List.getElem?_eq_getElem hi, List.getElem?_eq_getElem hj]
  simp only [List.getElem?_set, List.length_set]
  by_cases h1 : t = j
  · subst h1
    simp [hj]
  · rw [if_neg (fun e => h1 e.symm), if_neg h1]
    by_cases h2 : t = i
    · subst h2
      simp [hi]
    · rw [if_neg (fun e => h2 e.symm), if_neg h2]
def swR (l : List α) (a b : Nat) : Nat → List α
  | 0 => l
  | n + 1 => sw (swR l a b n) (a + n) (b + n)
theorem swR_length (l : List α) (a b n : Nat) : (swR l a b n).length = l.length := by
  induction n with
  | zero => rfl
  | succ n ih => rw [swR, sw_length, ih]
theorem swR_get (l : List α) (a b : Nat) : ∀ n, a + n ≤ b → b + n ≤ l.length → ∀ t, (swR l a b n)[t]? = if a ≤ t ∧ t < a + n then l[t + (b - a)]? else if b ≤ t ∧ t < b + n then l[t - (b - a)]? else l[t]? := by
  intro n
  induction n with
  | zero =>
    intro h1 h2 t
    rw [swR, if_neg (by omega), if_neg (by omega)]
  | succ n ih =>
    intro h1 h2 t
    have ih' := ih (by omega) (by omega)
    rw [swR, sw_get _ _ _ (by rw [swR_length]; omega) (by rw [swR_length]; omega), ih', ih', ih']
    by_cases e1 : t = b + n
    · subst e1
      rw [if_pos rfl, if_neg (by omega), if_neg (by omega), if_neg (by omega), if_pos (by omega)]
      congr 1; omega
    · rw [if_neg e1]
      by_cases e2 : t = a + n
      · subst e2
        rw [if_pos rfl, if_neg (by omega), if_neg (by omega), if_pos (by omega)]
        congr 1; omega
      · rw [if_neg e2]
        by_cases e3 : a ≤ t ∧ t < a + n
        · rw [if_pos e3, if_pos (by omega)]
        · rw [if_neg e3, if_neg (show ¬ (a ≤ t ∧ t < a + (n + 1)) by omega)]
          by_cases e4 : b ≤ t ∧ t < b + n
          · rw [if_pos e4, if_pos (by omega)]
          · rw [if_neg e4, if_neg (by omega)]
def Rot (l l' : List α) (m i j : Nat) : Prop := l'.length = l.length ∧ ∀ t, l'[t]? = if m - i ≤ t ∧ t < m - i + j then l[t + i]? else if m - i + j ≤ t ∧ t < m + j then l[t - j]? else l[t]?
theorem rot_same (l : List α) (m i : Nat) (hi : i ≤ m) (hm : m + i ≤ l.length) : Rot l (swR l (m - i) m i) m i i := by
  refine ⟨swR_length _ _ _ _, fun t => ?_⟩
  rw [swR_get l (m - i) m i (by omega) (by omega)]
  have e : m - (m - i) = i := by omega
  rw [e]
  by_cases h1 : m - i ≤ t ∧ t < m - i + i
  · rw [if_pos h1, if_pos h1]
  · rw [if_neg h1, if_neg h1]
    by_cases h2 : m ≤ t ∧ t < m + i
    · rw [if_pos h2, if_pos (by omega)]
    · rw [if_neg h2, if_neg (by omega)]
theorem rot_left {l l' : List α} {m i j : Nat} (hj : j < i) (hi : i ≤ m) (hm : m + j ≤ l.length) (h : Rot (swR l (m - i) m j) l' m (i - j) j) : Rot l l' m i j := by
  refine ⟨h.1.trans (swR_length _ _ _ _), fun t => ?_⟩
  have g := swR_get l (m - i) m j (by omega) (by omega)
  rw [h.2 t]
  simp only [g]
  repeat' split
  all_goals first | rfl | (exfalso; omega) | (refine congrArg (fun k => l[k]?) ?_; omega)
theorem rot_right {l l' : List α} {m i j : Nat} (hj : i < j) (hi : i ≤ m) (hm : m + j ≤ l.length) (h : Rot (swR l (m - i) (m + j - i) i) l' m i (j - i)) : Rot l l' m i j := by
  refine ⟨h.1.trans (swR_length _ _ _ _), fun t => ?_⟩
  have g := swR_get l (m - i) (m + j - i) i (by omega) (by omega)
  rw [h.2 t]
  simp only [g]
  repeat' split
  all_goals first | rfl | (exfalso; omega) | (refine congrArg (fun k => l[k]?) ?_; omega)
theorem rot_lists {p u v s l' : List α} (h : Rot (p ++ (u ++ (v ++ s))) l' (p.length + u.length) u.length v.length) : l' = p ++ (v ++ (u ++ s)) := by
  refine List.ext_getElem? fun t => ?_
  rw [h.2 t]
  have e : p.length + u.length - u.length = p.length := by omega
  rw [e]
  by_cases h1 : p.length ≤ t ∧ t < p.length + v.length
  · rw [if_pos h1]
    rw [List.getElem?_append_right (by omega), List.getElem?_append_right (by omega), List.getElem?_append_left (by omega), List.getElem?_append_right (by omega), List.getElem?_append_left (by omega)]
    congr 1; omega
  · rw [if_neg h1]
    by_cases h2 : p.length + v.length ≤ t ∧ t < p.length + u.length + v.length
    · rw [if_pos h2]
      rw [List.getElem?_append_right (by omega), List.getElem?_append_left (by omega), List.getElem?_append_right (by omega), List.getElem?_append_right (by omega), List.getElem?_append_left (by omega)]
      congr 1; omega
    · rw [if_neg h2]
      by_cases h3 : t < p.length
      · rw [List.getElem?_append_left h3, List.getElem?_append_left h3]
      · rw [List.getElem?_append_right (by omega), List.getElem?_append_right (by omega), List.getElem?_append_right (by omega), List.getElem?_append_right (by omega), List.getElem?_append_right (by omega), List.getElem?_append_right (by omega)]
        congr 1; omega
end Go.Proofs.YtjmpckommjlnlaaGreat.SetLaw
namespace Go.Proofs.YtjmpckommjlnlaaGreat.SetLaw
set_option linter.unusedVariables false
variable {α : Type} {c : α → α → Int}
theorem POrd.lt_of_le_of_lt (O : POrd c) {a b e : α} (h : c a b ≤ 0) (h' : c b e < 0) : c a e < 0 := by
  by_cases k : c a b = 0
  · exact O.lt_of_eq_of_lt k h'
  · exact O.trans a b e (by omega) h'
theorem POrd.lt_of_lt_of_le (O : POrd c) {a b e : α} (h : c a b < 0) (h' : c b e ≤ 0) : c a e < 0 := by
  by_cases k : c b e = 0
  · exact O.lt_of_lt_of_eq h k
  · exact O.trans a b e h (by omega)
def Cut (P : Nat → Prop) (lo hi i j : Nat) : Prop := lo ≤ i ∧ i ≤ j ∧ j ≤ hi ∧ (∀ t, lo ≤ t → t < i → P t) ∧ ∀ t, j ≤ t → t < hi → ¬ P t
def Mono (P : Nat → Prop) (lo hi : Nat) : Prop := ∀ t t', lo ≤ t → t < t' → t' < hi → P t' → P t
theorem Cut.start {P : Nat → Prop} {lo hi : Nat} (h : lo ≤ hi) : Cut P lo hi lo hi := ⟨Nat.le_refl _, h, Nat.le_refl _, fun t a b => by omega, fun t a b => by omega⟩
theorem Cut.yes {P : Nat → Prop} {lo hi i j m : Nat} (M : Mono P lo hi) (h : Cut P lo hi i j) (h1 : i ≤ m) (h2 : m < j) (hp : P m) : Cut P lo hi (m + 1) j := by
  obtain ⟨a, b, e, f, g⟩ := h
  refine ⟨by omega, by omega, e, fun t x y => ?_, g⟩
  by_cases k : t = m
  · rw [k]; exact hp
  · exact M t m x (by omega) (by omega) hp
theorem Cut.no {P : Nat → Prop} {lo hi i j m : Nat} (M : Mono P lo hi) (h : Cut P lo hi i j) (h1 : i ≤ m) (h2 : m < j) (hp : ¬ P m) : Cut P lo hi i m := by
  obtain ⟨a, b, e, f, g⟩ := h
  refine ⟨a, h1, by omega, f, fun t x y k => ?_⟩
  by_cases q : t = m
  · exact hp (q ▸ k)
  · exact hp (M m t (by omega) (by omega) y k)
theorem getD_get (l : List α) (d : α) {t : Nat} (h : t < l.length) : l.getD t d = l[t] := by simp [List.getD, h]
theorem mem_take_getD {l : List α} (d : α) {i : Nat} {y : α} (h : y ∈ l.take i) : ∃ t, t < i ∧ t < l.length ∧ l.getD t d = y := by
  obtain ⟨t, ht, rfl⟩ := List.getElem_of_mem h
  rw [List.length_take] at ht
  exact ⟨t, by omega, by omega, by rw [getD_get l d (by omega), List.getElem_take]⟩
theorem mem_drop_getD {l : List α} (d : α) {i : Nat} {y : α} (h : y ∈ l.drop i) : ∃ t, i ≤ t ∧ t < l.length ∧ l.getD t d = y := by
  obtain ⟨t, ht, rfl⟩ := List.getElem_of_mem h
  rw [List.length_drop] at ht
  exact ⟨i + t, by omega, by omega, by rw [getD_get l d (by omega), List.getElem_drop]⟩
theorem sorted_getD {l : List α} (O : POrd c) (h : Sorted c l) (d : α) {i j : Nat} (hij : i ≤ j) (hj : j < l.length) : c (l.getD i d) (l.getD j d) ≤ 0 := by
  by_cases e : i = j
  · subst e; rw [O.refl]; omega
  · rw [getD_get l d (by omega), getD_get l d hj]; exact List.pairwise_iff_getElem.mp h i j (by omega) hj (by omega)
theorem mono_low (O : POrd c) (d x : α) {r : List α} (h : Sorted c r) : Mono (fun t => c (r.getD t d) x < 0) 0 r.length := fun t t' _ h1 h2 h3 => O.lt_of_le_of_lt (sorted_getD O h d (by omega) h2) h3
theorem mono_high (O : POrd c) (d y : α) {l : List α} (h : Sorted c l) : Mono (fun t => 0 ≤ c y (l.getD t d)) 0 l.length := fun t t' _ h1 h2 h3 => Int.not_lt.mp fun k => Int.not_lt.mpr h3 (O.lt_of_lt_of_le k (sorted_getD O h d (by omega) h2))
theorem low_done (O : POrd c) (d x : α) {r : List α} (h : Sorted c r) {i : Nat} (C : Cut (fun t => c (r.getD t d) x < 0) 0 r.length i i) : StableOf c ([x] ++ r) (r.take i ++ x :: r.drop i) := by
  have := stable_front O (r1 := r.take i) (r2 := r.drop i) (x := x) (by rw [List.take_append_drop]; exact h) (fun y hy => by
    obtain ⟨t, h1, h2, rfl⟩ := mem_take_getD d hy
    exact C.2.2.2.1 t (Nat.zero_le _) h1) (fun y hy => by
    obtain ⟨t, h1, h2, rfl⟩ := mem_drop_getD d hy
    exact Int.not_lt.mp (C.2.2.2.2 t h1 h2))
  rwa [List.take_append_drop] at this
theorem high_done (O : POrd c) (d y : α) {l : List α} (h : Sorted c l) {i : Nat} (C : Cut (fun t => 0 ≤ c y (l.getD t d)) 0 l.length i i) : StableOf c (l ++ [y]) (l.take i ++ y :: l.drop i) := by
  have := stable_insert O (l1 := l.take i) (l2 := l.drop i) (x := y) (by rw [List.take_append_drop]; exact h) (fun z hz => by
    obtain ⟨t, h1, h2, rfl⟩ := mem_take_getD d hz
    have h3 := C.2.2.2.1 t (Nat.zero_le _) h1
    have := O.flip y (l.getD t d)
    omega) (fun z hz => by
    obtain ⟨t, h1, h2, rfl⟩ := mem_drop_getD d hz
    exact Int.not_le.mp (C.2.2.2.2 t h1 h2))
  rwa [List.take_append_drop] at this
theorem mono_part (O : POrd c) (d : α) {l r : List α} (hl : Sorted c l) (hr : Sorted c r) {H lo hi : Nat} (h1 : hi ≤ H) (h2 : hi ≤ l.length) (h3 : H ≤ lo + r.length) : Mono (fun t => 0 ≤ c (r.getD (H - 1 - t) d) (l.getD t d)) lo hi := fun t t' a b e f => Int.not_lt.mp fun k =>
  Int.not_lt.mpr f (O.lt_of_lt_of_le (O.lt_of_le_of_lt (sorted_getD O hr d (by omega) (by omega)) k) (sorted_getD O hl d (by omega) (by omega)))
theorem part_done (O : POrd c) (d : α) {l r m1 m2 : List α} (hl : Sorted c l) (hr : Sorted c r) {H lo hi u : Nat} (h1 : hi ≤ H) (h2 : hi ≤ l.length) (h3 : H ≤ lo + r.length) (h4 : lo = 0 ∨ lo + r.length = H) (h5 : hi = H ∨ hi = l.length)
    (C : Cut (fun t => 0 ≤ c (r.getD (H - 1 - t) d) (l.getD t d)) lo hi u u) (s1 : StableOf c (l.take u ++ r.take (H - u)) m1) (s2 : StableOf c (l.drop u ++ r.drop (H - u)) m2) : StableOf c (l ++ r) (m1 ++ m2) := by
  obtain ⟨a, _, b, e, f⟩ := C
  have := stable_halves O (l1 := l.take u) (l2 := l.drop u) (r1 := r.take (H - u)) (r2 := r.drop (H - u)) (by rw [List.take_append_drop]; exact hl) (by rw [List.take_append_drop]; exact hr) (fun x hx y hy => by
    obtain ⟨t, k1, k2, rfl⟩ := mem_take_getD d hx
    obtain ⟨j, k3, k4, rfl⟩ := mem_drop_getD d hy
    have h := e (u - 1) (by omega) (by omega)
    have g := O.flip (r.getD (H - 1 - (u - 1)) d) (l.getD (u - 1) d)
    exact O.le_trans (O.le_trans (sorted_getD O hl d (i := t) (j := u - 1) (by omega) (by omega)) (show c _ (r.getD (H - 1 - (u - 1)) d) ≤ 0 by omega)) (sorted_getD O hr d (by omega) k4)) (fun y hy x hx => by
    obtain ⟨t, k1, k2, rfl⟩ := mem_take_getD d hy
    obtain ⟨j, k3, k4, rfl⟩ := mem_drop_getD d hx
    have h := Int.not_le.mp (f u (Nat.le_refl _) (by omega))
    exact O.lt_of_lt_of_le (O.lt_of_le_of_lt (sorted_getD O hr d (i := t) (j := H - 1 - u) (by omega) (by omega)) h) (sorted_getD O hl d (by omega) k4)) s1 s2
  rwa [List.take_append_drop, List.take_append_drop] at this
theorem get_seg (d : α) (p l s : List α) {t : Nat} (h : t < l.length) {i : Nat} (hi : i = p.length + t) : (p ++ (l ++ s))[i]? = some (l.getD t d) := by
  subst hi
  rw [List.getElem?_append_right (by omega), Nat.add_sub_cancel_left, List.getElem?_append_left h, getD_get l d h, List.getElem?_eq_getElem h]
theorem shift_forms (p v z : List α) (x : α) {q : Nat} (hq : q < v.length) : p ++ (v.take q ++ x :: (v.drop q ++ z)) = (p ++ v.take q) ++ x :: v[q] :: (v.drop (q + 1) ++ z) ∧ p ++ (v.take (q + 1) ++ x :: (v.drop (q + 1) ++ z)) = (p ++ v.take q) ++ v[q] :: x :: (v.drop (q + 1) ++ z) ∧ (p ++ v.take q).length = p.length + q := by
  have h1 : v.drop q = v[q] :: v.drop (q + 1) := List.drop_eq_getElem_cons hq
  have h2 : v.take (q + 1) = v.take q ++ [v[q]] := List.take_succ_eq_append_getElem hq
  refine ⟨by rw [h1]; simp only [List.append_assoc, List.cons_append], by rw [h2]; simp only [List.append_assoc, List.cons_append, List.nil_append], by rw [List.length_append, List.length_take]; omega⟩
theorem get_at2 (p s : List α) (x y : α) : (p ++ x :: y :: s)[p.length + 1]? = some y := by
  have := get_at (p ++ [x]) s y
  simpa only [List.append_assoc, List.cons_append, List.nil_append, List.length_append, List.length_cons, List.length_nil, Nat.zero_add] using this
theorem shift_up (p v z : List α) (x : α) {k q : Nat} (hq : q < v.length) (hk : p.length + q = k) : ∃ y, (p ++ (v.take q ++ x :: (v.drop q ++ z)))[k]? = some x ∧ (p ++ (v.take q ++ x :: (v.drop q ++ z)))[k + 1]? = some y ∧ ((p ++ (v.take q ++ x :: (v.drop q ++ z))).set k y).set (k + 1) x = p ++ (v.take (q + 1) ++ x :: (v.drop (q + 1) ++ z)) := by
  obtain ⟨e1, e2, e3⟩ := shift_forms p v z x hq
  rw [hk] at e3
  rw [e1, e2, ← e3]
  exact ⟨_, get_at _ _ _, get_at2 _ _ _ _, sw_adj2 _ _ _ _ _ rfl⟩
theorem shift_down (p v z : List α) (x : α) {k q : Nat} (hq : q < v.length) (hk : p.length + q = k) : ∃ y, (p ++ (v.take (q + 1) ++ x :: (v.drop (q + 1) ++ z)))[k]? = some y ∧ (p ++ (v.take (q + 1) ++ x :: (v.drop (q + 1) ++ z)))[k + 1]? = some x ∧ ((p ++ (v.take (q + 1) ++ x :: (v.drop (q + 1) ++ z))).set (k + 1) y).set k x = p ++ (v.take q ++ x :: (v.drop q ++ z)) := by
  obtain ⟨e1, e2, e3⟩ := shift_forms p v z x hq
  rw [hk] at e3
  rw [e1, e2, ← e3]
  exact ⟨_, get_at _ _ _, get_at2 _ _ _ _, sw_adj _ _ _ _ _ rfl⟩
end Go.Proofs.YtjmpckommjlnlaaGreat.SetLaw
namespace Go.Proofs.YtjmpckommjlnlaaGreat.Rrs
open Go.RowKit Go.Proofs.YtjmpckommjlnlaaGreatW.PrintWords Go.Proofs.YtjmpckommjlnlaaGreatW.PrintLast Go.Proofs.YtjmpckommjlnlaaGreatW.PrintMore Go.Proofs.YtjmpckommjlnlaaGreat.Given Go.Proofs.YtjmpckommjlnlaaGreat.PRd Go.Proofs.YtjmpckommjlnlaaGreat.PRr Go.Proofs.YtjmpckommjlnlaaGreat.SetLaw
set_option linter.unusedVariables false
theorem Row.below {w w' : World} {base g cap : Nat} {l : List RR} {rest : List Value} (h : Row w base g cap l rest) (hb : Below w.heap.size w w') : Row w' base g cap l rest := ⟨blk_below h.blk hb, h.lo, h.fits, h.len⟩
theorem Row.drew {w : World} {base g cap : Nat} {l : List RR} {rest : List Value} (h : Row w base g cap l rest) : Row w.drew base g cap l rest := ⟨blk_drew h.blk, h.lo, h.fits, h.len⟩
def Own (w0 : World) (base g c : Nat) (rest : List Value) (w : World) (l : List RR) : Prop := Row w base g c l rest ∧ Below base w0 w
section
variable {w0 w : World} {base g c : Nat} {rest : List Value} {l : List RR}
theorem Own.drew (h : Own w0 base g c rest w l) : Own w0 base g c rest w.drew l := ⟨h.1.drew, below_drew1 h.2⟩
theorem Own.below (h : Own w0 base g c rest w l) {w' : World} (hb : Below w.heap.size w w') : Own w0 base g c rest w' l := ⟨h.1.below hb, below_then h.2 (Nat.le_trans h.1.lo (Nat.le_of_lt (blk_lt h.1.blk))) hb⟩
theorem flat_at {i : Nat} {x : RR} (h : l[i]? = some x) (k : Nat) (hk : k < 5) : (flat l)[i * 5 + k]? = (cellsR x)[k]? := by
  obtain ⟨hi, e⟩ := List.getElem?_eq_some_iff.1 h
  rw [← List.getElem?_drop, flat_drop l i (by omega), List.drop_eq_getElem_cons hi, e, flat, List.getElem?_append_left (by rw [cellsR_length]; exact hk)]
theorem Own.at5 (h : Own w0 base g c rest w l) {i : Nat} {x : RR} (hx : l[i]? = some x) : w.cell? ⟨g, i * 5, none⟩ = some (.string x.f0) ∧ w.cell? ⟨g, i * 5 + 1, none⟩ = some (.int .i64 x.f1) ∧ w.cell? ⟨g, i * 5 + 2, none⟩ = some (.int .i64 x.f2) ∧ w.cell? ⟨g, i * 5 + 3, none⟩ = some (.int .i64 x.f3) ∧ w.cell? ⟨g, i * 5 + 4, none⟩ = some (.string x.f4) ∧
    w.frozen? ⟨g, i * 5, none⟩ = false ∧ w.frozen? ⟨g, i * 5 + 1, none⟩ = false ∧ w.frozen? ⟨g, i * 5 + 2, none⟩ = false ∧ w.frozen? ⟨g, i * 5 + 3, none⟩ = false ∧ w.frozen? ⟨g, i * 5 + 4, none⟩ = false :=
  have f := fun p => blk_frozen h.1.blk p
  ⟨h.1.cell _ _ (flat_at hx 0 (by decide)), h.1.cell _ _ (flat_at hx 1 (by decide)), h.1.cell _ _ (flat_at hx 2 (by decide)), h.1.cell _ _ (flat_at hx 3 (by decide)), h.1.cell _ _ (flat_at hx 4 (by decide)), f _, f _, f _, f _, f _⟩
abbrev put5 (w : World) (g p : Nat) (x : RR) : World := ((((w.setCell ⟨g, p, none⟩ (.string x.f0)).setCell ⟨g, p + 1, none⟩ (.int .i64 x.f1)).setCell ⟨g, p + 2, none⟩ (.int .i64 x.f2)).setCell ⟨g, p + 3, none⟩ (.int .i64 x.f3)).setCell ⟨g, p + 4, none⟩ (.string x.f4)
theorem Own.put (h : Own w0 base g c rest w l) (x : RR) (p : Nat) (hp : p < l.length) : Own w0 base g c rest (put5 w g (p * 5) x) (l.set p x) :=
  ⟨h.1.put x p hp _ _ _ _ _ rfl, ((((h.2.setCell (p := ⟨g, p * 5, none⟩) h.1.lo _).setCell (p := ⟨g, p * 5 + 1, none⟩) h.1.lo _).setCell (p := ⟨g, p * 5 + 2, none⟩) h.1.lo _).setCell (p := ⟨g, p * 5 + 3, none⟩) h.1.lo _).setCell (p := ⟨g, p * 5 + 4, none⟩) h.1.lo _⟩
theorem Own.next (h : Own w0 base g c rest w l) {i j : Nat} {x : RR} (y : RR) (hi : i < l.length) (hx : l[j]? = some x) (hn : i ≠ j) : Own w0 base g c rest (put5 w g (i * 5) y) (l.set i y) ∧ (l.set i y)[j]? = some x := ⟨h.put y i hi, by rw [List.getElem?_set_ne hn]; exact hx⟩
theorem Own.swap (h : Own w0 base g c rest w l) {i j : Nat} {x y : RR} (hx : l[i]? = some x) (hy : l[j]? = some y) : Own w0 base g c rest (put5 (put5 w g (i * 5) y) g (j * 5) x) ((l.set i y).set j x) :=
  (h.put y i (List.getElem?_eq_some_iff.1 hx).1).put x j (by rw [List.length_set]; exact (List.getElem?_eq_some_iff.1 hy).1)
end
abbrev cmpV : Value := .func (.func 107) #[] #[]
theorem cmp_fine {x y : RR} (hx : fine x) (hy : fine y) (w : World) : Calls Tryz.prog 107 #[x.v, y.v] w fun e w' => e = .returned (.int .i64 (cmpRR x y)) ∧ Below w.heap.size w w' :=
  cmp_calls 1000 x y _ w (cmpO_eq x y hx.1 hy.1 hx.2 hy.2 1000 (Nat.le_refl _))
theorem w64i {x : Int} {n : Nat} (h : x = (n : Int)) (hn : n ≤ 9223372036854775807) : IntKind.i64.wrap x = (n : Int) := by rw [h, IntKind.wrap_i64]; omega
theorem lt_some {α : Type} {l : List α} {i : Nat} (h : i < l.length) : ∃ x, l[i]? = some x := ⟨_, List.getElem?_eq_getElem h⟩
end Go.Proofs.YtjmpckommjlnlaaGreat.Rrs
namespace Go.Proofs.YtjmpckommjlnlaaGreat.Rrs
open Go.RowKit Go.Proofs.YtjmpckommjlnlaaGreatW.PrintWords Go.Proofs.YtjmpckommjlnlaaGreatW.PrintLast Go.Proofs.YtjmpckommjlnlaaGreatW.PrintMore Go.Proofs.YtjmpckommjlnlaaGreat.Given Go.Proofs.YtjmpckommjlnlaaGreat.PRd Go.Proofs.YtjmpckommjlnlaaGreat.PRr Go.Proofs.YtjmpckommjlnlaaGreat.SetLaw
set_option linter.unusedVariables false
set_option linter.unusedSimpArgs false
abbrev zR : RR := ⟨⟨#[]⟩, 0, 0, 0, ⟨#[]⟩⟩
theorem half_ (i j : Nat) (hb : i + j ≤ 4000000) : ∃ k h : Nat, IntKind.i64.wrap ((i : Int) + (j : Int)) = (k : Int) ∧ IntKind.u64.wrap (k : Int) = (k : Int) ∧ (k : Int) / 2 = (h : Int) ∧ IntKind.i64.wrap (h : Int) = (h : Int) ∧ IntKind.i64.wrap ((h : Int) + 1) = ((h + 1 : Nat) : Int) ∧ 2 * h ≤ i + j ∧ i + j ≤ 2 * h + 1 := by
  refine ⟨i + j, (i + j) / 2, w64i (by omega) (by omega), ?_, by omega, w64i rfl (by omega), w64i (by omega) (by omega), by omega, by omega⟩
  have e2 : ((i + j : Nat) : Int) % 2 ^ 64 = ((i + j : Nat) : Int) := by omega
  simp only [IntKind.wrap, IntKind.bits, IntKind.signed, e2]; rw [if_neg (by simp)]
set_option maxHeartbeats 8000000 in
set_option maxRecDepth 100000 in
theorem sym_one {w0 : World} {base g c : Nat} {rest : List Value} (p r s : List RR) (x : RR) (hr0 : 0 < r.length) (hs : Sorted cmpRR r) (hfx : fine x) (hf : ∀ y ∈ r, fine y) {N a m b : Nat} (hn : N ≤ 1000000) (hN : (p ++ ([x] ++ (r ++ s))).length = N) (ha : p.length = a) (hm : a + 1 = m) (hb : m + r.length = b) (w : World) (HO : Own w0 base g c rest w (p ++ ([x] ++ (r ++ s)))) :
    Calls Tryz.prog 187 #[.slice (some ⟨g, 0, none⟩) N c, .int .i64 (a : Int), .int .i64 (m : Int), .int .i64 (b : Int), cmpV] w fun e w' => e = .returned (.tuple #[]) ∧ ∃ mm, StableOf cmpRR ([x] ++ r) mm ∧ mm.length = 1 + r.length ∧ Own w0 base g c rest w' (p ++ (mm ++ s)) := by
  have hu22 := Tryz.underlying22
  have hu41 := Tryz.underlying35
  have hl : (p ++ ([x] ++ (r ++ s))).length = p.length + 1 + r.length + s.length := by simp; omega
  rw [hN] at hl
  obtain ⟨R, hR⟩ : ∃ R, r.length = R := ⟨_, rfl⟩
  have HR := Lib.hid HO
  have HF := Lib.hid hf
  have HM := Lib.hid (mono_low ordRR zR x hs)
  have HFX := Lib.hid hfx
  have HS := Lib.hid hs
  have HL := Lib.hid hR
  have HA := Lib.hid ha
  have h1 : a + 1 ≤ m ∧ m ≤ a + 1 := by omega
  have h2 : m + R ≤ b ∧ b ≤ m + R ∧ b ≤ N ∧ 0 < R := by omega
  have e1 : IntKind.i64.wrap ((m : Int) - (a : Int)) = 1 := w64i (n := 1) (by omega) (by omega)
  have hcx : (p ++ ([x] ++ (r ++ s)))[a]? = some x := by rw [← ha]; exact SetLaw.get_at _ _ _
  have HCX := Lib.hid hcx
  have hrd : ∀ t h, t < R → m + t = h → (p ++ ([x] ++ (r ++ s)))[h]? = some (r.getD t zR) := fun t h ht e => by
    have := get_seg zR (p ++ [x]) r s (t := t) (by omega) (i := h) (by simp; omega)
    rwa [List.append_assoc] at this
  have HRD := Lib.hid hrd
  clear HO hf hfx hs hN hl ha hm hb hcx hrd hR hr0
  go_enter Tryz.func187, Tryz.ntmps187
  go_wp2_with fail
  go_loopg [10, 11] R (fun kx si sj wr => ∃ (i j u v : Nat), si = .int .i64 (i : Int) ∧ sj = .int .i64 (j : Int) ∧ i ≤ m + u ∧ m + u ≤ i ∧ j ≤ m + v ∧ m + v ≤ j ∧ u ≤ v ∧ v ≤ R ∧ v - u ≤ kx ∧ Hid (Cut (fun t => cmpRR (r.getD t zR) x < 0) 0 r.length u v) ∧ Hid (Own w0 base g c rest wr (p ++ ([x] ++ (r ++ s)))))
  case atStart => exact ⟨m, b, 0, R, rfl, rfl, by omega, by omega, by omega, by omega, by omega, by omega, by omega, Lib.hid (by rw [← HL.out]; exact Cut.start (Nat.zero_le _)), HR⟩
  case round =>
    clear HR
    obtain ⟨i, j, u, v, rfl, rfl, i1, i2, j1, j2, huv, hv, hk, HC, HR⟩ := hrel
    by_cases hlt : u < v
    · obtain ⟨k, h, k1, k2, k3, k4, k5, k6, k7⟩ := half_ i j (by omega)
      have hltz : (i : Int) < (j : Int) := by omega
      obtain ⟨q, hq⟩ : ∃ q, h - m = q := ⟨_, rfl⟩
      have q1 : m + q = h := by omega
      have q2 : u ≤ q ∧ q < v := by omega
      obtain ⟨y, hy⟩ : ∃ y, r.getD q zR = y := ⟨_, rfl⟩
      have hcy := HRD.out q h (by omega) q1
      rw [hy] at hcy
      have hfy : fine y := by rw [← hy, getD_get r zR (by rw [HL.out]; omega)]; exact HF.out _ (List.getElem_mem _)
      obtain ⟨y0, y1, y2, y3, y4, y5, y6, y7, y8, y9⟩ := HR.out.at5 hcy
      obtain ⟨x0, x1, x2, x3, x4, x5, x6, x7, x8, x9⟩ := HR.out.at5 HCX.out
      have HY := Lib.hid hy
      have HQ := Lib.hid q1
      have p0 : (0 : Int) ≤ (h : Int) := by omega
      have p1 : (h : Int) < (N : Int) := by omega
      have p2 : (0 : Int) ≤ (a : Int) := by omega
      have p3 : (a : Int) < (N : Int) := by omega
      clear hq q1 hy hcy
      go_wp2_with fail
      go_still_tail 9, (by kernel_rfl)
      change wpList _ _ _ _ _ wr.drew
      clear x0 x1 x2 x3 x4 x5 x6 x7 x8 x9 y0 y1 y2 y3 y4 y5 y6 y7 y8 y9
      have HR1 := Lib.hid HR.out.drew
      have hcall := cmp_fine hfy HFX.out wr.drew
      clear HR hfy
      generalize wr.drew = wd at HR1 hcall
      have HCALL := Lib.hid hcall
      clear hcall
      go_wp2_with fail
      refine (HCALL.out).mono ?_
      rintro en w4 ⟨rfl, hb4⟩
      have HR := Lib.hid (HR1.out.below hb4)
      clear hb4 HR1 HCALL
      obtain ⟨o, ho⟩ : ∃ o, cmpRR y x = o := ⟨_, rfl⟩
      rw [ho]
      have HO := Lib.hid ho
      clear ho
      by_cases hlv : o < 0
      · obtain ⟨h1', hh1⟩ : ∃ h1', h + 1 = h1' := ⟨_, rfl⟩
        rw [hh1] at k5
        have hh2 : h + 1 ≤ h1' ∧ h1' ≤ h + 1 := by omega
        have HC2 := Lib.hid (HC.out.yes (HM.out) q2.1 q2.2 (by rw [HY.out, HO.out]; exact hlv))
        clear hh1
        go_wp2_with fail
        go_roundg (v - (q + 1))
        case measure => omega
        case rel => exact ⟨h1', j, q + 1, v, rfl, rfl, by have := HQ.out; omega, by have := HQ.out; omega, j1, j2, by omega, hv, Nat.le_refl _, HC2, HR⟩
      · have HC2 := Lib.hid (HC.out.no (HM.out) q2.1 q2.2 (by rw [HY.out, HO.out]; exact hlv))
        go_wp2_with fail
        go_roundg (q - u)
        case measure => omega
        case rel => exact ⟨i, h, u, q, rfl, rfl, i1, i2, by have := HQ.out; omega, by have := HQ.out; omega, q2.1, by omega, Nat.le_refl _, HC2, HR⟩
    · have hltz : ¬ (i : Int) < (j : Int) := by omega
      obtain rfl : u = v := by omega
      have HD := Lib.hid (low_done ordRR zR x HS.out (i := u) HC.out)
      have hul : u ≤ r.length := by rw [HL.out]; exact hv
      obtain ⟨z, hz⟩ : ∃ z, r.drop u ++ s = z := ⟨_, rfl⟩
      have hcur : p ++ ([x] ++ (r ++ s)) = p ++ ([] ++ x :: (r.take u ++ z)) := by rw [← hz, ← List.append_assoc (r.take u), List.take_append_drop]; simp
      rw [hcur] at HR
      have hfin : p ++ ((r.take u ++ x :: r.drop u) ++ s) = p ++ (r.take u ++ x :: z) := by rw [← hz]; simp
      have HFIN := Lib.hid hfin
      obtain ⟨v1, hv1⟩ : ∃ v1, r.take u = v1 := ⟨_, rfl⟩
      have hvl : v1.length = u := by rw [← hv1, List.length_take]; omega
      rw [hv1] at HR HFIN HD
      have HVL := Lib.hid hvl
      obtain ⟨i0, hi0⟩ : ∃ i0, a + u = i0 := ⟨_, rfl⟩
      have ei : IntKind.i64.wrap ((i : Int) - 1) = (i0 : Int) := w64i (by omega) (by omega)
      have i3 : i0 ≤ a + u ∧ a + u ≤ i0 := by omega
      have HRL : Hid (v1.length + (r.drop u).length = r.length) := Lib.hid (by rw [hvl, List.length_drop]; omega)
      clear HC hcur hz hfin hv1 hvl hi0 hul HM HF HRD HCX HS
      go_wp2_with fail
      go_loopg [13] u (fun kx sk wr => ∃ (k q : Nat), sk = .int .i64 (k : Int) ∧ k ≤ a + q ∧ a + q ≤ k ∧ q ≤ u ∧ u - q ≤ kx ∧ Hid (Own w0 base g c rest wr (p ++ (v1.take q ++ x :: (v1.drop q ++ z)))))
      case atStart => exact ⟨a, 0, rfl, by omega, by omega, by omega, by omega, by rw [List.take_zero, List.drop_zero]; exact HR⟩
      case round =>
        clear HR
        obtain ⟨k, q, rfl, k1, k2, hq, hkq, HR⟩ := hrel
        by_cases hlt : q < u
        · obtain ⟨y, hx, hy, hs⟩ := shift_up p v1 z x (k := k) (q := q) (by rw [HVL.out]; exact hlt) (by rw [HA.out]; omega)
          obtain ⟨k', hk'⟩ : ∃ k', k + 1 = k' := ⟨_, rfl⟩
          have ek : IntKind.i64.wrap ((k : Int) + 1) = (k' : Int) := w64i (by omega) (by omega)
          obtain ⟨cur, hc⟩ : ∃ cur, p ++ (v1.take q ++ x :: (v1.drop q ++ z)) = cur := ⟨_, rfl⟩
          rw [hk'] at hy hs
          rw [hc] at hx hy hs HR
          have HS2 := Lib.hid (HR.out.swap hx hy).drew
          rw [hs] at HS2
          obtain ⟨D2, hy2⟩ := HR.out.next y (List.getElem?_eq_some_iff.1 hx).1 hy (show k ≠ k' by omega)
          obtain ⟨x0, x1, x2, x3, x4, x5, x6, x7, x8, x9⟩ := HR.out.at5 hx
          obtain ⟨y0, y1, y2, y3, y4, y5, y6, y7, y8, y9⟩ := HR.out.at5 hy
          obtain ⟨z0, z1, z2, z3, z4, z5, z6, z7, z8, z9⟩ := D2.at5 hy2
          have hltz : (k : Int) < (i0 : Int) := by omega
          have p0 : (0 : Int) ≤ (k : Int) := by omega
          have p1 : (k : Int) < (N : Int) := by omega
          have p2 : (0 : Int) ≤ (k' : Int) := by omega
          have p3 : (k' : Int) < (N : Int) := by omega
          have k3 : k' ≤ a + (q + 1) ∧ a + (q + 1) ≤ k' := by omega
          clear HR D2 hy2 hx hy hs hc hk'
          go_wp2_with fail
          go_big_region
          all_goals go_wp2
          go_roundg (u - (q + 1))
          case measure => omega
          case rel => exact ⟨k', q + 1, rfl, k3.1, k3.2, hlt, Nat.le_refl _, HS2⟩
        · have hltz : ¬ (k : Int) < (i0 : Int) := by omega
          obtain rfl : q = u := by omega
          have hr := HR.out
          rw [List.take_of_length_le (by rw [HVL.out]; exact Nat.le_refl _), List.drop_of_length_le (by rw [HVL.out]; exact Nat.le_refl _), List.nil_append, ← HFIN.out] at hr
          have HR2 := Lib.hid hr
          clear hr HR
          go_wp2_with fail
          refine bodyPost_ret (results_none rfl _ _ _) rfl ?_
          exact ⟨rfl, _, HD.out, by have := HRL.out; simp at this ⊢; omega, HR2.out⟩
end Go.Proofs.YtjmpckommjlnlaaGreat.Rrs
namespace Go.Proofs.YtjmpckommjlnlaaGreat.Rrs
open Go.RowKit Go.Proofs.YtjmpckommjlnlaaGreatW.PrintWords Go.Proofs.YtjmpckommjlnlaaGreatW.PrintLast Go.Proofs.YtjmpckommjlnlaaGreatW.PrintMore Go.Proofs.YtjmpckommjlnlaaGreat.Given Go.Proofs.YtjmpckommjlnlaaGreat.PRd Go.Proofs.YtjmpckommjlnlaaGreat.PRr Go.Proofs.YtjmpckommjlnlaaGreat.SetLaw
set_option linter.unusedVariables false
set_option linter.unusedSimpArgs false
set_option maxHeartbeats 8000000 in
set_option maxRecDepth 100000 in
theorem sym_two {w0 : World} {base g c : Nat} {rest : List Value} (p l s : List RR) (y : RR) (hl0 : 1 < l.length) (hs : Sorted cmpRR l) (hfy : fine y) (hf : ∀ x ∈ l, fine x) {N a m b : Nat} (hn : N ≤ 1000000) (hN : (p ++ (l ++ ([y] ++ s))).length = N) (ha : p.length = a) (hm : a + l.length = m) (hb : m + 1 = b) (w : World) (HO : Own w0 base g c rest w (p ++ (l ++ ([y] ++ s)))) :
    Calls Tryz.prog 187 #[.slice (some ⟨g, 0, none⟩) N c, .int .i64 (a : Int), .int .i64 (m : Int), .int .i64 (b : Int), cmpV] w fun e w' => e = .returned (.tuple #[]) ∧ ∃ mm, StableOf cmpRR (l ++ [y]) mm ∧ mm.length = l.length + 1 ∧ Own w0 base g c rest w' (p ++ (mm ++ s)) := by
  have hu22 := Tryz.underlying22
  have hu41 := Tryz.underlying35
  have hl : (p ++ (l ++ ([y] ++ s))).length = p.length + l.length + 1 + s.length := by simp; omega
  rw [hN] at hl
  obtain ⟨A, hA⟩ : ∃ A, l.length = A := ⟨_, rfl⟩
  have HR := Lib.hid HO
  have HF := Lib.hid hf
  have HM := Lib.hid (mono_high ordRR zR y hs)
  have HFY := Lib.hid hfy
  have HS := Lib.hid hs
  have HL := Lib.hid hA
  have HA := Lib.hid ha
  have h1 : b ≤ m + 1 ∧ m + 1 ≤ b ∧ b ≤ N ∧ 1 < A := by omega
  have h2 : m ≤ a + A ∧ a + A ≤ m := by omega
  have e1 : IntKind.i64.wrap ((m : Int) - (a : Int)) = (A : Int) := w64i (by omega) (by omega)
  have e2 : IntKind.i64.wrap ((b : Int) - (m : Int)) = 1 := w64i (n := 1) (by omega) (by omega)
  have e3 : ((A : Int) == 1) = false := beq_false_of_ne (by omega)
  have hcy : (p ++ (l ++ ([y] ++ s)))[m]? = some y := by
    have := SetLaw.get_at (p ++ l) s y
    rw [List.length_append, ha, hA, show a + A = m by omega] at this
    simpa using this
  have HCY := Lib.hid hcy
  have hrd : ∀ t h, t < A → a + t = h → (p ++ (l ++ ([y] ++ s)))[h]? = some (l.getD t zR) := fun t h ht e => get_seg zR p l ([y] ++ s) (t := t) (by omega) (i := h) (by omega)
  have HRD := Lib.hid hrd
  clear HO hf hfy hs hN hl ha hm hb hcy hrd hA hl0
  go_enter Tryz.func187, Tryz.ntmps187
  go_wp2_with fail
  go_loopg [14, 15] A (fun kx si sj wr => ∃ (i j u v : Nat), si = .int .i64 (i : Int) ∧ sj = .int .i64 (j : Int) ∧ i ≤ a + u ∧ a + u ≤ i ∧ j ≤ a + v ∧ a + v ≤ j ∧ u ≤ v ∧ v ≤ A ∧ v - u ≤ kx ∧ Hid (Cut (fun t => 0 ≤ cmpRR y (l.getD t zR)) 0 l.length u v) ∧ Hid (Own w0 base g c rest wr (p ++ (l ++ ([y] ++ s)))))
  case atStart => exact ⟨a, m, 0, A, rfl, rfl, by omega, by omega, by omega, by omega, by omega, by omega, by omega, Lib.hid (by rw [← HL.out]; exact Cut.start (Nat.zero_le _)), HR⟩
  case round =>
    clear HR
    obtain ⟨i, j, u, v, rfl, rfl, i1, i2, j1, j2, huv, hv, hk, HC, HR⟩ := hrel
    by_cases hlt : u < v
    · obtain ⟨k, h, k1, k2, k3, k4, k5, k6, k7⟩ := half_ i j (by omega)
      have hltz : (i : Int) < (j : Int) := by omega
      obtain ⟨q, hq⟩ : ∃ q, h - a = q := ⟨_, rfl⟩
      have q1 : a + q = h := by omega
      have q2 : u ≤ q ∧ q < v := by omega
      obtain ⟨x, hx⟩ : ∃ x, l.getD q zR = x := ⟨_, rfl⟩
      have hcx := HRD.out q h (by omega) q1
      rw [hx] at hcx
      have hfx : fine x := by rw [← hx, getD_get l zR (by rw [HL.out]; omega)]; exact HF.out _ (List.getElem_mem _)
      obtain ⟨y0, y1, y2, y3, y4, y5, y6, y7, y8, y9⟩ := HR.out.at5 HCY.out
      obtain ⟨x0, x1, x2, x3, x4, x5, x6, x7, x8, x9⟩ := HR.out.at5 hcx
      have HX := Lib.hid hx
      have HQ := Lib.hid q1
      have p0 : (0 : Int) ≤ (h : Int) := by omega
      have p1 : (h : Int) < (N : Int) := by omega
      have p2 : (0 : Int) ≤ (m : Int) := by omega
      have p3 : (m : Int) < (N : Int) := by omega
      clear hq q1 hx hcx
      go_wp2_with fail
      go_still_tail 9, (by kernel_rfl)
      change wpList _ _ _ _ _ wr.drew
      clear x0 x1 x2 x3 x4 x5 x6 x7 x8 x9 y0 y1 y2 y3 y4 y5 y6 y7 y8 y9
      have HR1 := Lib.hid HR.out.drew
      have hcall := cmp_fine HFY.out hfx wr.drew
      clear HR hfx
      generalize wr.drew = wd at HR1 hcall
      have HCALL := Lib.hid hcall
      clear hcall
      go_wp2_with fail
      refine (HCALL.out).mono ?_
      rintro en w4 ⟨rfl, hb4⟩
      have HR := Lib.hid (HR1.out.below hb4)
      clear hb4 HR1 HCALL
      obtain ⟨o, ho⟩ : ∃ o, cmpRR y x = o := ⟨_, rfl⟩
      rw [ho]
      have HO := Lib.hid ho
      clear ho
      by_cases hlv : o < 0
      · have HC2 := Lib.hid (HC.out.no (HM.out) q2.1 q2.2 (by rw [HX.out, HO.out]; omega))
        go_wp2_with fail
        go_roundg (q - u)
        case measure => omega
        case rel => exact ⟨i, h, u, q, rfl, rfl, i1, i2, by have := HQ.out; omega, by have := HQ.out; omega, q2.1, by omega, Nat.le_refl _, HC2, HR⟩
      · obtain ⟨h1', hh1⟩ : ∃ h1', h + 1 = h1' := ⟨_, rfl⟩
        rw [hh1] at k5
        have hh2 : h + 1 ≤ h1' ∧ h1' ≤ h + 1 := by omega
        have HC2 := Lib.hid (HC.out.yes (HM.out) q2.1 q2.2 (by rw [HX.out, HO.out]; omega))
        have hlv' : decide (o < 0) = false := decide_eq_false hlv
        clear hh1
        go_wp2_with fail
        go_roundg (v - (q + 1))
        case measure => omega
        case rel => exact ⟨h1', j, q + 1, v, rfl, rfl, by have := HQ.out; omega, by have := HQ.out; omega, j1, j2, by omega, hv, Nat.le_refl _, HC2, HR⟩
    · have hltz : ¬ (i : Int) < (j : Int) := by omega
      obtain rfl : u = v := by omega
      have HD := Lib.hid (high_done ordRR zR y HS.out (i := u) HC.out)
      obtain ⟨p1, hp1⟩ : ∃ p1, p ++ l.take u = p1 := ⟨_, rfl⟩
      obtain ⟨v1, hv1⟩ : ∃ v1, l.drop u = v1 := ⟨_, rfl⟩
      have hul : u ≤ l.length := by rw [HL.out]; exact hv
      have hvl : v1.length = A - u := by rw [← hv1, List.length_drop, HL.out]
      have HPL : Hid (p1.length = a + u) := Lib.hid (by rw [← hp1, List.length_append, List.length_take, HA.out]; omega)
      have hcur : p ++ (l ++ ([y] ++ s)) = p1 ++ (v1.take (A - u) ++ y :: (v1.drop (A - u) ++ s)) := by
        rw [List.take_of_length_le (by omega), List.drop_of_length_le (by omega), ← hp1, ← hv1, List.nil_append, List.append_assoc, ← List.append_assoc (l.take u), List.take_append_drop]; rfl
      rw [hcur] at HR
      have HFIN : Hid (p ++ ((l.take u ++ y :: v1) ++ s) = p1 ++ (y :: (v1 ++ s))) := Lib.hid (by rw [← hp1]; simp)
      rw [hv1] at HD
      have HVL := Lib.hid hvl
      have HLL : Hid ((l.take u).length + v1.length = l.length) := Lib.hid (by rw [hvl, List.length_take, HL.out]; omega)
      have hAu : a + u + (A - u) ≤ m ∧ m ≤ a + u + (A - u) := by omega
      obtain ⟨B, hB⟩ : ∃ B, A - u = B := ⟨_, rfl⟩
      rw [hB] at HR hAu HVL
      clear HC hcur hp1 hv1 hvl hul HM HF HRD HCY HS hB HA
      go_wp2_with fail
      go_loopg [17] B (fun kx sk wr => ∃ (k q : Nat), sk = .int .i64 (k : Int) ∧ k ≤ a + u + q ∧ a + u + q ≤ k ∧ q ≤ B ∧ q ≤ kx ∧ Hid (Own w0 base g c rest wr (p1 ++ (v1.take q ++ y :: (v1.drop q ++ s)))))
      case atStart => exact ⟨m, B, rfl, by omega, by omega, by omega, by omega, HR⟩
      case round =>
        clear HR
        obtain ⟨k, q, rfl, k1, k2, hq, hkq, HR⟩ := hrel
        by_cases hlt : 0 < q
        · obtain ⟨q, rfl⟩ : ∃ q', q = q' + 1 := ⟨q - 1, by omega⟩
          obtain ⟨k', rfl⟩ : ∃ k', k = k' + 1 := ⟨k - 1, by omega⟩
          obtain ⟨x, hx, hy, hs⟩ := shift_down p1 v1 s y (k := k') (q := q) (by rw [HVL.out]; exact hq) (by rw [HPL.out]; omega)
          obtain ⟨k, hk'⟩ : ∃ k, k' + 1 = k := ⟨_, rfl⟩
          have ek : IntKind.i64.wrap ((k : Int) - 1) = (k' : Int) := w64i (by omega) (by omega)
          obtain ⟨cur, hc⟩ : ∃ cur, p1 ++ (v1.take (q + 1) ++ y :: (v1.drop (q + 1) ++ s)) = cur := ⟨_, rfl⟩
          rw [hk'] at hy hs k1 k2 ⊢
          rw [hc] at hx hy hs HR
          have HS2 := Lib.hid (HR.out.swap hy hx).drew
          rw [hs] at HS2
          obtain ⟨D2, hy2⟩ := HR.out.next x (List.getElem?_eq_some_iff.1 hy).1 hx (show k ≠ k' by omega)
          obtain ⟨x0, x1, x2, x3, x4, x5, x6, x7, x8, x9⟩ := HR.out.at5 hx
          obtain ⟨y0, y1, y2, y3, y4, y5, y6, y7, y8, y9⟩ := HR.out.at5 hy
          obtain ⟨z0, z1, z2, z3, z4, z5, z6, z7, z8, z9⟩ := D2.at5 hy2
          have hltz : (i : Int) < (k : Int) := by omega
          have p0 : (0 : Int) ≤ (k : Int) := by omega
          have p1 : (k : Int) < (N : Int) := by omega
          have p2 : (0 : Int) ≤ (k' : Int) := by omega
          have p3 : (k' : Int) < (N : Int) := by omega
          have k3 : k' ≤ a + u + q ∧ a + u + q ≤ k' := by omega
          clear HR D2 hy2 hx hy hs hc hk'
          go_wp2_with fail
          go_big_region
          all_goals go_wp2
          go_roundg q
          case measure => omega
          case rel => exact ⟨k', q, rfl, k3.1, k3.2, by omega, Nat.le_refl _, HS2⟩
        · have hltz : ¬ (i : Int) < (k : Int) := by omega
          obtain rfl : q = 0 := by omega
          have hr := HR.out
          rw [List.take_zero, List.drop_zero, List.nil_append, ← HFIN.out] at hr
          have HR2 := Lib.hid hr
          clear hr HR
          go_wp2_with fail
          refine bodyPost_ret (results_none rfl _ _ _) rfl ?_
          exact ⟨rfl, _, HD.out, by have := HLL.out; simp at this ⊢; omega, HR2.out⟩
end Go.Proofs.YtjmpckommjlnlaaGreat.Rrs
namespace Go.Proofs.YtjmpckommjlnlaaGreat.Rrs
open Go.RowKit Go.Proofs.YtjmpckommjlnlaaGreatW.PrintWords Go.Proofs.YtjmpckommjlnlaaGreatW.PrintLast Go.Proofs.YtjmpckommjlnlaaGreatW.PrintMore Go.Proofs.YtjmpckommjlnlaaGreat.Given Go.Proofs.YtjmpckommjlnlaaGreat.PRd Go.Proofs.YtjmpckommjlnlaaGreat.PRr Go.Proofs.YtjmpckommjlnlaaGreat.SetLaw
set_option linter.unusedVariables false
set_option linter.unusedSimpArgs false
set_option maxHeartbeats 8000000 in
set_option maxRecDepth 100000 in
theorem swr_walk {w0 : World} {base g c : Nat} {rest : List Value} (l : List RR) (hn : l.length ≤ 1000000) (a b n : Nat) (h1 : a + n ≤ b) (h2 : b + n ≤ l.length) (w : World) (HO : Own w0 base g c rest w l) :
    Calls Tryz.prog 229 #[.slice (some ⟨g, 0, none⟩) l.length c, .int .i64 (a : Int), .int .i64 (b : Int), .int .i64 (n : Int), cmpV] w fun e w' => e = .returned (.tuple #[]) ∧ Own w0 base g c rest w' (swR l a b n) := by
  have hu22 := Tryz.underlying22
  have hu41 := Tryz.underlying35
  have HR := Lib.hid HO
  obtain ⟨N, hN⟩ : ∃ N, l.length = N := ⟨_, rfl⟩
  have HN := Lib.hid hN
  rw [hN] at hn h2 ⊢
  clear HO hN
  go_enter Tryz.func229, Tryz.ntmps229
  go_wp2_with fail
  go_loopg [10] n (fun kx s wr => ∃ i : Nat, s = .int .i64 (i : Int) ∧ i ≤ n ∧ n - i ≤ kx ∧ Hid (Own w0 base g c rest wr (swR l a b i)))
  case atStart => exact ⟨0, rfl, by omega, by omega, HR⟩
  case round =>
    clear HR
    obtain ⟨i, rfl, hi, hk, HR⟩ := hrel
    by_cases hlt : i < n
    · obtain ⟨cur, hc⟩ : ∃ cur, swR l a b i = cur := ⟨_, rfl⟩
      rw [hc] at HR
      have hl : cur.length = N := by rw [← hc, swR_length, HN.out]
      obtain ⟨x, hx⟩ := lt_some (show a + i < cur.length by omega)
      obtain ⟨y, hy⟩ := lt_some (show b + i < cur.length by omega)
      have eA : IntKind.i64.wrap ((a : Int) + (i : Int)) = ((a + i : Nat) : Int) := w64i (by omega) (by omega)
      have eB : IntKind.i64.wrap ((b : Int) + (i : Int)) = ((b + i : Nat) : Int) := w64i (by omega) (by omega)
      obtain ⟨p, hp⟩ : ∃ p, a + i = p := ⟨_, rfl⟩
      obtain ⟨q, hq⟩ : ∃ q, b + i = q := ⟨_, rfl⟩
      rw [hp] at eA hx
      rw [hq] at eB hy
      have hs : (cur.set p y).set q x = swR l a b (i + 1) := by rw [swR, hp, hq, hc]; unfold sw; rw [hx, hy]
      have HS := Lib.hid (HR.out.swap hx hy).drew
      rw [hs] at HS
      obtain ⟨D2, hy2⟩ := HR.out.next y (by omega) hy (show p ≠ q by omega)
      obtain ⟨x0, x1, x2, x3, x4, x5, x6, x7, x8, x9⟩ := HR.out.at5 hx
      obtain ⟨y0, y1, y2, y3, y4, y5, y6, y7, y8, y9⟩ := HR.out.at5 hy
      obtain ⟨z0, z1, z2, z3, z4, z5, z6, z7, z8, z9⟩ := D2.at5 hy2
      clear HR hc hx hy D2 hy2 hs
      have p1 : (p : Int) < (N : Int) := by omega
      have q1 : (q : Int) < (N : Int) := by omega
      have hltz : (i : Int) < (n : Int) := by omega
      have p0 : (0 : Int) ≤ (p : Int) := by omega
      have q0 : (0 : Int) ≤ (q : Int) := by omega
      go_wp2_with fail
      go_big_region
      all_goals go_wp2
      go_roundg (n - (i + 1))
      case measure => omega
      case rel => exact ⟨i + 1, by first | rfl | go_num, by omega, Nat.le_refl _, HS⟩
    · go_wp2_with fail
      go_end0
      obtain rfl : i = n := by omega
      exact ⟨rfl, HR.out⟩
end Go.Proofs.YtjmpckommjlnlaaGreat.Rrs
namespace Go.Proofs.YtjmpckommjlnlaaGreat.Rrs
open Go.RowKit Go.Proofs.YtjmpckommjlnlaaGreatW.PrintWords Go.Proofs.YtjmpckommjlnlaaGreatW.PrintLast Go.Proofs.YtjmpckommjlnlaaGreatW.PrintMore Go.Proofs.YtjmpckommjlnlaaGreat.Given Go.Proofs.YtjmpckommjlnlaaGreat.PRd Go.Proofs.YtjmpckommjlnlaaGreat.PRr Go.Proofs.YtjmpckommjlnlaaGreat.SetLaw
set_option linter.unusedVariables false
set_option linter.unusedSimpArgs false
set_option maxHeartbeats 8000000 in
set_option maxRecDepth 100000 in
theorem rot_walk {w0 : World} {base g c : Nat} {rest : List Value} (p u v s : List RR) (hu : 0 < u.length) (hv : 0 < v.length) (hn : (p ++ (u ++ (v ++ s))).length ≤ 1000000) {N a m b : Nat} (hN : (p ++ (u ++ (v ++ s))).length = N) (ha : p.length = a) (hm : p.length + u.length = m) (hb : m + v.length = b) (w : World) (HO : Own w0 base g c rest w (p ++ (u ++ (v ++ s)))) :
    Calls Tryz.prog 217 #[.slice (some ⟨g, 0, none⟩) N c, .int .i64 (a : Int), .int .i64 (m : Int), .int .i64 (b : Int), cmpV] w fun e w' => e = .returned (.tuple #[]) ∧ Own w0 base g c rest w' (p ++ (v ++ (u ++ s))) := by
  have hl : (p ++ (u ++ (v ++ s))).length = p.length + u.length + v.length + s.length := by simp; omega
  have HR := Lib.hid HO
  have HF := Lib.hid (fun l' => rot_lists (p := p) (u := u) (v := v) (s := s) (l' := l'))
  rw [hm] at HF
  obtain ⟨l, hL⟩ : ∃ l, p ++ (u ++ (v ++ s)) = l := ⟨_, rfl⟩
  rw [hN] at hl hn
  rw [hL] at HR HF hN
  have e1 : IntKind.i64.wrap ((m : Int) - (a : Int)) = (u.length : Int) := w64i (by omega) (by omega)
  have e2 : IntKind.i64.wrap ((b : Int) - (m : Int)) = (v.length : Int) := w64i (by omega) (by omega)
  obtain ⟨A, hA⟩ : ∃ A, u.length = A := ⟨_, rfl⟩
  obtain ⟨B, hB⟩ : ∃ B, v.length = B := ⟨_, rfl⟩
  rw [hA] at e1 HF hu hm
  rw [hB] at e2 HF hv hb
  have hmb : A ≤ m ∧ m + B ≤ N ∧ N ≤ 1000000 := by omega
  have HL := Lib.hid hN
  clear HO hL ha hA hB hN hl
  go_enter Tryz.func217, Tryz.ntmps217
  go_wp2_with fail
  go_loopg [10, 11] (A + B) (fun kx si sj wr => ∃ (i j : Nat) (cur : List RR), si = .int .i64 (i : Int) ∧ sj = .int .i64 (j : Int) ∧ 0 < i ∧ 0 < j ∧ i ≤ m ∧ m + j ≤ N ∧ i + j ≤ kx ∧ Hid (cur.length = N) ∧ Hid (∀ l', Rot cur l' m i j → Rot l l' m A B) ∧ Hid (Own w0 base g c rest wr cur))
  case atStart => exact ⟨A, B, l, rfl, rfl, hu, hv, hmb.1, hmb.2.1, Nat.le_refl _, HL, Lib.hid (fun l' h => h), HR⟩
  case round =>
    clear HR HL
    obtain ⟨i, j, cur, rfl, rfl, hi, hj, him, hjn, hk, HL, HT, HR⟩ := hrel
    have e3 : IntKind.i64.wrap ((m : Int) - (i : Int)) = ((m - i : Nat) : Int) := w64i (by omega) (by omega)
    have hln : cur.length ≤ 1000000 := by rw [HL.out]; omega
    have hs := fun x y z w h1 h2 h => swr_walk (w0 := w0) (base := base) (g := g) (c := c) (rest := rest) cur hln x y z h1 h2 w h
    rw [HL.out] at hs
    have HS := Lib.hid hs
    clear hs hln
    by_cases h0 : i = j
    · subst h0
      go_wp2_with fail
      refine (HS.out (m - i) m i wr (by omega) (by omega) HR.out).mono ?_
      rintro e w' ⟨rfl, hw⟩
      rw [HF.out _ (HT.out _ (rot_same cur m i him (by rw [HL.out]; exact hjn)))] at hw
      have HW := Lib.hid hw
      clear hw
      go_wp2_with fail
      go_end0
      exact ⟨rfl, HW.out⟩
    · have h0z : ¬ ((i : Int) = (j : Int)) := by omega
      by_cases h1 : j < i
      · have h1z : (j : Int) < (i : Int) := by omega
        have e4 : IntKind.i64.wrap ((i : Int) - (j : Int)) = ((i - j : Nat) : Int) := w64i (by omega) (by omega)
        go_wp2_with fail
        refine (HS.out (m - i) m j wr (by omega) (by omega) HR.out).mono ?_
        rintro e w' ⟨rfl, hw⟩
        have HW := Lib.hid hw
        clear hw
        go_wp2_with fail
        go_roundg (i - j + j)
        case measure => omega
        case rel => exact ⟨i - j, j, _, rfl, rfl, by omega, hj, by omega, hjn, Nat.le_refl _, Lib.hid ((swR_length _ _ _ _).trans HL.out), Lib.hid (fun l' h => HT.out _ (rot_left h1 him (by rw [HL.out]; exact hjn) h)), HW⟩
      · have h1z : ¬ (j : Int) < (i : Int) := by omega
        have e4 : IntKind.i64.wrap ((j : Int) - (i : Int)) = ((j - i : Nat) : Int) := w64i (by omega) (by omega)
        have e5 : IntKind.i64.wrap ((m : Int) + (j : Int)) = ((m + j : Nat) : Int) := w64i (by omega) (by omega)
        have e6 : IntKind.i64.wrap (((m + j : Nat) : Int) - (i : Int)) = ((m + j - i : Nat) : Int) := w64i (by omega) (by omega)
        obtain ⟨q, hq⟩ : ∃ q, m + j = q := ⟨_, rfl⟩
        rw [hq] at e5 e6
        go_wp2_with fail
        refine (HS.out (m - i) (q - i) i wr (by omega) (by omega) HR.out).mono ?_
        rintro e w' ⟨rfl, hw⟩
        have HW := Lib.hid hw
        clear hw
        go_wp2_with fail
        go_roundg (i + (j - i))
        case measure => omega
        case rel => exact ⟨i, j - i, _, rfl, rfl, hi, by omega, him, by omega, Nat.le_refl _, Lib.hid ((swR_length _ _ _ _).trans HL.out), Lib.hid (fun l' h => HT.out _ (rot_right (by omega) him (by rw [HL.out]; exact hjn) (by rw [hq]; exact h))), HW⟩
end Go.Proofs.YtjmpckommjlnlaaGreat.Rrs
