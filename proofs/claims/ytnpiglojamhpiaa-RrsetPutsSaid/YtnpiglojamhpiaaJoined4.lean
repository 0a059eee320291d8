/- Joined out of this session's own texts: contracts and facts that the claim's row is drawn from, each with its own conditions. -/
import Derived.Test.YtnpiglojamhpiaaJoined3
import Derived.Lib.SliceRun
import Derived.Shelf.Spec.SlicesInsert
import Derived.Lib.AppendZerosOnto
import Derived.Laws.CopyRow
import Derived.StillTailTactics
namespace Go.Proofs.Ytnpiglojamhpiaa.PRr
open Go.RowKit Go.Proofs.YtnpiglojamhpiaaW.PrintWords Go.Proofs.YtnpiglojamhpiaaW.PrintLast Go.Proofs.YtnpiglojamhpiaaW.PrintMore Go.Proofs.Ytnpiglojamhpiaa.Given Go.Proofs.Ytnpiglojamhpiaa.PRd
attribute [local go_sem] max2_int min2_int max_two min_two max_three min_three max_four min_four   -- for this text's walks alone
set_option linter.unusedVariables false
set_option linter.unusedSimpArgs false
def beadrollref11_Right.j0 : Nat → Bool → ByteArray → Int → Int → Int → ByteArray → Option (Bool)
 | 0, _, _, _, _, _, _ => none
 | k + 1, x42, x120000, x120001, x120002, x120003, x120004 => if x42 = true then (some false) else ((beadrollref11_typed.f x120002 x120004.toList.isEmpty).bind fun t121 => (if t121 = true then ((beadrollref10_Right.f k x120001 x120004).bind fun t122 => (some t122)) else (some true)))
def beadrollref11_Right.f (k : Nat) (a0_0 : ByteArray) (a0_1 : Int) (a0_2 : Int) (a0_3 : Int) (a0_4 : ByteArray) : Option (Bool) := (beadrollref07_Right.f k a0_0).bind fun t120 => (if t120 = true then (if a0_1 < 0 then (beadrollref11_Right.j0 k true a0_0 a0_1 a0_2 a0_3 a0_4) else (if a0_1 > 65535 then (beadrollref11_Right.j0 k true a0_0 a0_1 a0_2 a0_3 a0_4) else (if a0_2 < 0 then (beadrollref11_Right.j0 k true a0_0 a0_1 a0_2 a0_3 a0_4) else (if a0_2 > 65535 then (beadrollref11_Right.j0 k true a0_0 a0_1 a0_2 a0_3 a0_4) else (if a0_3 < 0 then (beadrollref11_Right.j0 k true a0_0 a0_1 a0_2 a0_3 a0_4) else (if a0_3 > 2147483647 then (beadrollref11_Right.j0 k true a0_0 a0_1 a0_2 a0_3 a0_4) else (beadrollref11_Right.j0 k (decide ((a0_4.size : Int) > 65535)) a0_0 a0_1 a0_2 a0_3 a0_4))))))) else (beadrollref11_Right.j0 k true a0_0 a0_1 a0_2 a0_3 a0_4))
set_option maxHeartbeats 8000000 in
set_option maxRecDepth 100000 in
theorem beadrollref11_Right.calls (k : Nat) (a0_0 : ByteArray) (a0_1 : Int) (a0_2 : Int) (a0_3 : Int) (a0_4 : ByteArray) (r : Bool) (w : World) (h : beadrollref11_Right.f k a0_0 a0_1 a0_2 a0_3 a0_4 = some r) :
  Calls Try.prog 16 #[.agg #[.string a0_0, .int .i64 a0_1, .int .i64 a0_2, .int .i64 a0_3, .string a0_4]] w fun e w' => e = .returned (.bool r) ∧ Below w.heap.size w w' := by
 have hu24 := Try.underlying24
 have HB := Aside0.mk (Below.refl w.heap.size w)
 have H : ((beadrollref07_Right.f k a0_0).bind fun t120 => (if t120 = true then (if a0_1 < 0 then (beadrollref11_Right.j0 k true a0_0 a0_1 a0_2 a0_3 a0_4) else (if a0_1 > 65535 then (beadrollref11_Right.j0 k true a0_0 a0_1 a0_2 a0_3 a0_4) else (if a0_2 < 0 then (beadrollref11_Right.j0 k true a0_0 a0_1 a0_2 a0_3 a0_4) else (if a0_2 > 65535 then (beadrollref11_Right.j0 k true a0_0 a0_1 a0_2 a0_3 a0_4) else (if a0_3 < 0 then (beadrollref11_Right.j0 k true a0_0 a0_1 a0_2 a0_3 a0_4) else (if a0_3 > 2147483647 then (beadrollref11_Right.j0 k true a0_0 a0_1 a0_2 a0_3 a0_4) else (beadrollref11_Right.j0 k (decide ((a0_4.size : Int) > 65535)) a0_0 a0_1 a0_2 a0_3 a0_4))))))) else (beadrollref11_Right.j0 k true a0_0 a0_1 a0_2 a0_3 a0_4))) = some r := h
 clear h
 have HC2 := Aside0.mk H
 clear H
 go_enter Try.func16, Try.ntmps16
 go_upto_region 1 with ((((with_reducible refine gate_dst (N := 1) rfl ?_); (try (refine gate_guard (by rfl) ?_; dsimp only)); refine box_event ?hg (N := 1) ?hd (cs := #[.string a0_0, .int .i64 a0_1, .int .i64 a0_2, .int .i64 a0_3, .string a0_4]) (t := 24) ?hr ?_; (case hd => rfl); (case hg => rfl); (case hr => (go_simp; done)); intro gb119 hg w3 hbox hb; have n0_ := Aside0.mk (below_step (by repeat ((with_reducible (exact HB.out)))) hb); have n1_ := Aside0.mk (hbox); have n2_ := Aside0.mk ((by rw [hg]; exact (below_size (by repeat ((with_reducible (exact HB.out))))) : w.heap.size ≤ gb119)); have n3_ := Aside0.mk ((by rw [hg]; exact (below_size (by repeat ((with_reducible (exact HB.out))))) : w.heap.size ≤ gb119)); clear HB; have HB := n0_; have BK119 := n1_; have GW119 := n2_; have GE119 := n3_; clear n0_ n1_ n2_ n3_; clear hb hbox hg)))
 go_cut [42] (fun v42 wc => ∃ (kq : Nat) (x42_1 : Bool), v42 = .bool x42_1 ∧ Aside0 (beadrollref11_Right.j0 kq x42_1 a0_0 a0_1 a0_2 a0_3 a0_4 = some r) ∧ Aside0 (kq ≤ k) ∧ Aside0 (wc.heap[gb119]? = some (.cells #[.string a0_0, .int .i64 a0_1, .int .i64 a0_2, .int .i64 a0_3, .string a0_4] 24 (0, 0))) ∧ Aside0 (Below w.heap.size w wc))
 case first =>
  have H := HC2.out
  clear HC2
  replace H := Option.bind_eq_some_iff.mp H
  obtain ⟨t120, A40, H⟩ := H
  replace H : (if t120 = true then (if a0_1 < 0 then (beadrollref11_Right.j0 k true a0_0 a0_1 a0_2 a0_3 a0_4) else (if a0_1 > 65535 then (beadrollref11_Right.j0 k true a0_0 a0_1 a0_2 a0_3 a0_4) else (if a0_2 < 0 then (beadrollref11_Right.j0 k true a0_0 a0_1 a0_2 a0_3 a0_4) else (if a0_2 > 65535 then (beadrollref11_Right.j0 k true a0_0 a0_1 a0_2 a0_3 a0_4) else (if a0_3 < 0 then (beadrollref11_Right.j0 k true a0_0 a0_1 a0_2 a0_3 a0_4) else (if a0_3 > 2147483647 then (beadrollref11_Right.j0 k true a0_0 a0_1 a0_2 a0_3 a0_4) else (beadrollref11_Right.j0 k (decide ((a0_4.size : Int) > 65535)) a0_0 a0_1 a0_2 a0_3 a0_4))))))) else (beadrollref11_Right.j0 k true a0_0 a0_1 a0_2 a0_3 a0_4)) = some r := H
  have A4 := Aside0.mk A40
  clear A40
  by_cases c5 : t120 = true
  ·subst c5
   have H1 : (if a0_1 < 0 then (beadrollref11_Right.j0 k true a0_0 a0_1 a0_2 a0_3 a0_4) else (if a0_1 > 65535 then (beadrollref11_Right.j0 k true a0_0 a0_1 a0_2 a0_3 a0_4) else (if a0_2 < 0 then (beadrollref11_Right.j0 k true a0_0 a0_1 a0_2 a0_3 a0_4) else (if a0_2 > 65535 then (beadrollref11_Right.j0 k true a0_0 a0_1 a0_2 a0_3 a0_4) else (if a0_3 < 0 then (beadrollref11_Right.j0 k true a0_0 a0_1 a0_2 a0_3 a0_4) else (if a0_3 > 2147483647 then (beadrollref11_Right.j0 k true a0_0 a0_1 a0_2 a0_3 a0_4) else (beadrollref11_Right.j0 k (decide ((a0_4.size : Int) > 65535)) a0_0 a0_1 a0_2 a0_3 a0_4))))))) = some r := by rw [if_pos rfl] at H; exact H
   clear H
   have H := H1
   clear H1
   by_cases c6 : a0_1 < 0
   ·rw [if_pos c6] at H
    have c6b0 : decide (a0_1 < 0) = true := decide_eq_true c6
    clear c6
    (skip)
    have H' := Aside0.mk H
    clear H
    have hcz7_0 : w3.cell? ⟨gb119, 0, none⟩ = some (.string a0_0) := (blk_cell BK119.out 0).trans rfl
    have hcz7_1 : w3.cell? ⟨gb119, 1, none⟩ = some (.int .i64 a0_1) := (blk_cell BK119.out 1).trans rfl
    have hcz7_2 : w3.cell? ⟨gb119, 2, none⟩ = some (.int .i64 a0_2) := (blk_cell BK119.out 2).trans rfl
    have hcz7_3 : w3.cell? ⟨gb119, 3, none⟩ = some (.int .i64 a0_3) := (blk_cell BK119.out 3).trans rfl
    have hcz7_4 : w3.cell? ⟨gb119, 4, none⟩ = some (.string a0_4) := (blk_cell BK119.out 4).trans rfl
    have hfz7_0 := blk_frozen BK119.out 0
    have hfz7_1 := blk_frozen BK119.out 1
    have hfz7_2 := blk_frozen BK119.out 2
    have hfz7_3 := blk_frozen BK119.out 3
    have hfz7_4 := blk_frozen BK119.out 4
    go_wp2_with ((((with_reducible refine gate_callee (f := 24) rfl ?_); refine goesL_ (some 5) rfl rfl Try.func24 (by kernel_rfl) rfl #[.string a0_0] rfl (by (try simp only [List.map_toArray, List.map_cons, List.map_nil]); rfl) ?_; (with_reducible refine (beadrollref07_Right.calls k a0_0 true _ A4.out).mono ?_); rintro e w8 ⟨rfl, hb⟩; refine ⟨_, rfl, ?_⟩; have n0_ := Aside0.mk (blk_below (g := gb119) (o := .cells #[.string a0_0, .int .i64 a0_1, .int .i64 a0_2, .int .i64 a0_3, .string a0_4] 24 (0, 0)) (by (with_reducible repeat ((refine blk_drewN ?_ _))); exact BK119.out) hb); have n1_ := Aside0.mk (below_step (by repeat ((with_reducible (exact HB.out)))) hb); clear BK119; clear HB; have BK119 := n0_; have HB := n1_; clear n0_ n1_; (try clear hb); have hcz9_0 : w8.cell? ⟨gb119, 0, none⟩ = some (.string a0_0) := (blk_cell BK119.out 0).trans rfl; have hcz9_1 : w8.cell? ⟨gb119, 1, none⟩ = some (.int .i64 a0_1) := (blk_cell BK119.out 1).trans rfl; have hcz9_2 : w8.cell? ⟨gb119, 2, none⟩ = some (.int .i64 a0_2) := (blk_cell BK119.out 2).trans rfl; have hcz9_3 : w8.cell? ⟨gb119, 3, none⟩ = some (.int .i64 a0_3) := (blk_cell BK119.out 3).trans rfl; have hcz9_4 : w8.cell? ⟨gb119, 4, none⟩ = some (.string a0_4) := (blk_cell BK119.out 4).trans rfl; have hfz9_0 := blk_frozen BK119.out 0; have hfz9_1 := blk_frozen BK119.out 1; have hfz9_2 := blk_frozen BK119.out 2; have hfz9_3 := blk_frozen BK119.out 3; have hfz9_4 := blk_frozen BK119.out 4)))
    go_meet
    case rel => exact ⟨_, (true), (by rfl), H', ⟨by omega⟩, ⟨by (with_reducible repeat ((refine blk_drewN ?_ _))); exact BK119.out⟩, ⟨by repeat ((with_reducible (exact HB.out)))⟩⟩
   ·rw [if_neg c6] at H
    have c6b0 : decide (a0_1 < 0) = false := decide_eq_false c6
    clear c6
    (skip)
    by_cases c10 : a0_1 > 65535
    ·rw [if_pos c10] at H
     have c10b0 : decide (65535 < a0_1) = true := decide_eq_true c10
     clear c10
     have H' := Aside0.mk H
     clear H
     have hcz11_0 : w3.cell? ⟨gb119, 0, none⟩ = some (.string a0_0) := (blk_cell BK119.out 0).trans rfl
     have hcz11_1 : w3.cell? ⟨gb119, 1, none⟩ = some (.int .i64 a0_1) := (blk_cell BK119.out 1).trans rfl
     have hcz11_2 : w3.cell? ⟨gb119, 2, none⟩ = some (.int .i64 a0_2) := (blk_cell BK119.out 2).trans rfl
     have hcz11_3 : w3.cell? ⟨gb119, 3, none⟩ = some (.int .i64 a0_3) := (blk_cell BK119.out 3).trans rfl
     have hcz11_4 : w3.cell? ⟨gb119, 4, none⟩ = some (.string a0_4) := (blk_cell BK119.out 4).trans rfl
     have hfz11_0 := blk_frozen BK119.out 0
     have hfz11_1 := blk_frozen BK119.out 1
     have hfz11_2 := blk_frozen BK119.out 2
     have hfz11_3 := blk_frozen BK119.out 3
     have hfz11_4 := blk_frozen BK119.out 4
     go_wp2_with ((((with_reducible refine gate_callee (f := 24) rfl ?_); refine goesL_ (some 5) rfl rfl Try.func24 (by kernel_rfl) rfl #[.string a0_0] rfl (by (try simp only [List.map_toArray, List.map_cons, List.map_nil]); rfl) ?_; (with_reducible refine (beadrollref07_Right.calls k a0_0 true _ A4.out).mono ?_); rintro e w12 ⟨rfl, hb⟩; refine ⟨_, rfl, ?_⟩; have n0_ := Aside0.mk (blk_below (g := gb119) (o := .cells #[.string a0_0, .int .i64 a0_1, .int .i64 a0_2, .int .i64 a0_3, .string a0_4] 24 (0, 0)) (by (with_reducible repeat ((refine blk_drewN ?_ _))); exact BK119.out) hb); have n1_ := Aside0.mk (below_step (by repeat ((with_reducible (exact HB.out)))) hb); clear BK119; clear HB; have BK119 := n0_; have HB := n1_; clear n0_ n1_; (try clear hb); have hcz13_0 : w12.cell? ⟨gb119, 0, none⟩ = some (.string a0_0) := (blk_cell BK119.out 0).trans rfl; have hcz13_1 : w12.cell? ⟨gb119, 1, none⟩ = some (.int .i64 a0_1) := (blk_cell BK119.out 1).trans rfl; have hcz13_2 : w12.cell? ⟨gb119, 2, none⟩ = some (.int .i64 a0_2) := (blk_cell BK119.out 2).trans rfl; have hcz13_3 : w12.cell? ⟨gb119, 3, none⟩ = some (.int .i64 a0_3) := (blk_cell BK119.out 3).trans rfl; have hcz13_4 : w12.cell? ⟨gb119, 4, none⟩ = some (.string a0_4) := (blk_cell BK119.out 4).trans rfl; have hfz13_0 := blk_frozen BK119.out 0; have hfz13_1 := blk_frozen BK119.out 1; have hfz13_2 := blk_frozen BK119.out 2; have hfz13_3 := blk_frozen BK119.out 3; have hfz13_4 := blk_frozen BK119.out 4)))
     go_meet
     case rel => exact ⟨_, (true), (by rfl), H', ⟨by omega⟩, ⟨by (with_reducible repeat ((refine blk_drewN ?_ _))); exact BK119.out⟩, ⟨by repeat ((with_reducible (exact HB.out)))⟩⟩
    ·rw [if_neg c10] at H
     have c10b0 : decide (65535 < a0_1) = false := decide_eq_false c10
     clear c10
     by_cases c14 : a0_2 < 0
     ·rw [if_pos c14] at H
      have c14b0 : decide (a0_2 < 0) = true := decide_eq_true c14
      clear c14
      have H' := Aside0.mk H
      clear H
      have hcz15_0 : w3.cell? ⟨gb119, 0, none⟩ = some (.string a0_0) := (blk_cell BK119.out 0).trans rfl
      have hcz15_1 : w3.cell? ⟨gb119, 1, none⟩ = some (.int .i64 a0_1) := (blk_cell BK119.out 1).trans rfl
      have hcz15_2 : w3.cell? ⟨gb119, 2, none⟩ = some (.int .i64 a0_2) := (blk_cell BK119.out 2).trans rfl
      have hcz15_3 : w3.cell? ⟨gb119, 3, none⟩ = some (.int .i64 a0_3) := (blk_cell BK119.out 3).trans rfl
      have hcz15_4 : w3.cell? ⟨gb119, 4, none⟩ = some (.string a0_4) := (blk_cell BK119.out 4).trans rfl
      have hfz15_0 := blk_frozen BK119.out 0
      have hfz15_1 := blk_frozen BK119.out 1
      have hfz15_2 := blk_frozen BK119.out 2
      have hfz15_3 := blk_frozen BK119.out 3
      have hfz15_4 := blk_frozen BK119.out 4
      go_wp2_with ((((with_reducible refine gate_callee (f := 24) rfl ?_); refine goesL_ (some 5) rfl rfl Try.func24 (by kernel_rfl) rfl #[.string a0_0] rfl (by (try simp only [List.map_toArray, List.map_cons, List.map_nil]); rfl) ?_; (with_reducible refine (beadrollref07_Right.calls k a0_0 true _ A4.out).mono ?_); rintro e w16 ⟨rfl, hb⟩; refine ⟨_, rfl, ?_⟩; have n0_ := Aside0.mk (blk_below (g := gb119) (o := .cells #[.string a0_0, .int .i64 a0_1, .int .i64 a0_2, .int .i64 a0_3, .string a0_4] 24 (0, 0)) (by (with_reducible repeat ((refine blk_drewN ?_ _))); exact BK119.out) hb); have n1_ := Aside0.mk (below_step (by repeat ((with_reducible (exact HB.out)))) hb); clear BK119; clear HB; have BK119 := n0_; have HB := n1_; clear n0_ n1_; (try clear hb); have hcz17_0 : w16.cell? ⟨gb119, 0, none⟩ = some (.string a0_0) := (blk_cell BK119.out 0).trans rfl; have hcz17_1 : w16.cell? ⟨gb119, 1, none⟩ = some (.int .i64 a0_1) := (blk_cell BK119.out 1).trans rfl; have hcz17_2 : w16.cell? ⟨gb119, 2, none⟩ = some (.int .i64 a0_2) := (blk_cell BK119.out 2).trans rfl; have hcz17_3 : w16.cell? ⟨gb119, 3, none⟩ = some (.int .i64 a0_3) := (blk_cell BK119.out 3).trans rfl; have hcz17_4 : w16.cell? ⟨gb119, 4, none⟩ = some (.string a0_4) := (blk_cell BK119.out 4).trans rfl; have hfz17_0 := blk_frozen BK119.out 0; have hfz17_1 := blk_frozen BK119.out 1; have hfz17_2 := blk_frozen BK119.out 2; have hfz17_3 := blk_frozen BK119.out 3; have hfz17_4 := blk_frozen BK119.out 4)))
      go_meet
      case rel => exact ⟨_, (true), (by rfl), H', ⟨by omega⟩, ⟨by (with_reducible repeat ((refine blk_drewN ?_ _))); exact BK119.out⟩, ⟨by repeat ((with_reducible (exact HB.out)))⟩⟩
     ·rw [if_neg c14] at H
      have c14b0 : decide (a0_2 < 0) = false := decide_eq_false c14
      clear c14
      by_cases c18 : a0_2 > 65535
      ·rw [if_pos c18] at H
       have c18b0 : decide (65535 < a0_2) = true := decide_eq_true c18
       clear c18
       have H' := Aside0.mk H
       clear H
       have hcz19_0 : w3.cell? ⟨gb119, 0, none⟩ = some (.string a0_0) := (blk_cell BK119.out 0).trans rfl
       have hcz19_1 : w3.cell? ⟨gb119, 1, none⟩ = some (.int .i64 a0_1) := (blk_cell BK119.out 1).trans rfl
       have hcz19_2 : w3.cell? ⟨gb119, 2, none⟩ = some (.int .i64 a0_2) := (blk_cell BK119.out 2).trans rfl
       have hcz19_3 : w3.cell? ⟨gb119, 3, none⟩ = some (.int .i64 a0_3) := (blk_cell BK119.out 3).trans rfl
       have hcz19_4 : w3.cell? ⟨gb119, 4, none⟩ = some (.string a0_4) := (blk_cell BK119.out 4).trans rfl
       have hfz19_0 := blk_frozen BK119.out 0
       have hfz19_1 := blk_frozen BK119.out 1
       have hfz19_2 := blk_frozen BK119.out 2
       have hfz19_3 := blk_frozen BK119.out 3
       have hfz19_4 := blk_frozen BK119.out 4
       go_wp2_with ((((with_reducible refine gate_callee (f := 24) rfl ?_); refine goesL_ (some 5) rfl rfl Try.func24 (by kernel_rfl) rfl #[.string a0_0] rfl (by (try simp only [List.map_toArray, List.map_cons, List.map_nil]); rfl) ?_; (with_reducible refine (beadrollref07_Right.calls k a0_0 true _ A4.out).mono ?_); rintro e w20 ⟨rfl, hb⟩; refine ⟨_, rfl, ?_⟩; have n0_ := Aside0.mk (blk_below (g := gb119) (o := .cells #[.string a0_0, .int .i64 a0_1, .int .i64 a0_2, .int .i64 a0_3, .string a0_4] 24 (0, 0)) (by (with_reducible repeat ((refine blk_drewN ?_ _))); exact BK119.out) hb); have n1_ := Aside0.mk (below_step (by repeat ((with_reducible (exact HB.out)))) hb); clear BK119; clear HB; have BK119 := n0_; have HB := n1_; clear n0_ n1_; (try clear hb); have hcz21_0 : w20.cell? ⟨gb119, 0, none⟩ = some (.string a0_0) := (blk_cell BK119.out 0).trans rfl; have hcz21_1 : w20.cell? ⟨gb119, 1, none⟩ = some (.int .i64 a0_1) := (blk_cell BK119.out 1).trans rfl; have hcz21_2 : w20.cell? ⟨gb119, 2, none⟩ = some (.int .i64 a0_2) := (blk_cell BK119.out 2).trans rfl; have hcz21_3 : w20.cell? ⟨gb119, 3, none⟩ = some (.int .i64 a0_3) := (blk_cell BK119.out 3).trans rfl; have hcz21_4 : w20.cell? ⟨gb119, 4, none⟩ = some (.string a0_4) := (blk_cell BK119.out 4).trans rfl; have hfz21_0 := blk_frozen BK119.out 0; have hfz21_1 := blk_frozen BK119.out 1; have hfz21_2 := blk_frozen BK119.out 2; have hfz21_3 := blk_frozen BK119.out 3; have hfz21_4 := blk_frozen BK119.out 4)))
       go_meet
       case rel => exact ⟨_, (true), (by rfl), H', ⟨by omega⟩, ⟨by (with_reducible repeat ((refine blk_drewN ?_ _))); exact BK119.out⟩, ⟨by repeat ((with_reducible (exact HB.out)))⟩⟩
      ·rw [if_neg c18] at H
       have c18b0 : decide (65535 < a0_2) = false := decide_eq_false c18
       clear c18
       by_cases c22 : a0_3 < 0
       ·rw [if_pos c22] at H
        have c22b0 : decide (a0_3 < 0) = true := decide_eq_true c22
        clear c22
        have H' := Aside0.mk H
        clear H
        have hcz23_0 : w3.cell? ⟨gb119, 0, none⟩ = some (.string a0_0) := (blk_cell BK119.out 0).trans rfl
        have hcz23_1 : w3.cell? ⟨gb119, 1, none⟩ = some (.int .i64 a0_1) := (blk_cell BK119.out 1).trans rfl
        have hcz23_2 : w3.cell? ⟨gb119, 2, none⟩ = some (.int .i64 a0_2) := (blk_cell BK119.out 2).trans rfl
        have hcz23_3 : w3.cell? ⟨gb119, 3, none⟩ = some (.int .i64 a0_3) := (blk_cell BK119.out 3).trans rfl
        have hcz23_4 : w3.cell? ⟨gb119, 4, none⟩ = some (.string a0_4) := (blk_cell BK119.out 4).trans rfl
        have hfz23_0 := blk_frozen BK119.out 0
        have hfz23_1 := blk_frozen BK119.out 1
        have hfz23_2 := blk_frozen BK119.out 2
        have hfz23_3 := blk_frozen BK119.out 3
        have hfz23_4 := blk_frozen BK119.out 4
        go_wp2_with ((((with_reducible refine gate_callee (f := 24) rfl ?_); refine goesL_ (some 5) rfl rfl Try.func24 (by kernel_rfl) rfl #[.string a0_0] rfl (by (try simp only [List.map_toArray, List.map_cons, List.map_nil]); rfl) ?_; (with_reducible refine (beadrollref07_Right.calls k a0_0 true _ A4.out).mono ?_); rintro e w24 ⟨rfl, hb⟩; refine ⟨_, rfl, ?_⟩; have n0_ := Aside0.mk (blk_below (g := gb119) (o := .cells #[.string a0_0, .int .i64 a0_1, .int .i64 a0_2, .int .i64 a0_3, .string a0_4] 24 (0, 0)) (by (with_reducible repeat ((refine blk_drewN ?_ _))); exact BK119.out) hb); have n1_ := Aside0.mk (below_step (by repeat ((with_reducible (exact HB.out)))) hb); clear BK119; clear HB; have BK119 := n0_; have HB := n1_; clear n0_ n1_; (try clear hb); have hcz25_0 : w24.cell? ⟨gb119, 0, none⟩ = some (.string a0_0) := (blk_cell BK119.out 0).trans rfl; have hcz25_1 : w24.cell? ⟨gb119, 1, none⟩ = some (.int .i64 a0_1) := (blk_cell BK119.out 1).trans rfl; have hcz25_2 : w24.cell? ⟨gb119, 2, none⟩ = some (.int .i64 a0_2) := (blk_cell BK119.out 2).trans rfl; have hcz25_3 : w24.cell? ⟨gb119, 3, none⟩ = some (.int .i64 a0_3) := (blk_cell BK119.out 3).trans rfl; have hcz25_4 : w24.cell? ⟨gb119, 4, none⟩ = some (.string a0_4) := (blk_cell BK119.out 4).trans rfl; have hfz25_0 := blk_frozen BK119.out 0; have hfz25_1 := blk_frozen BK119.out 1; have hfz25_2 := blk_frozen BK119.out 2; have hfz25_3 := blk_frozen BK119.out 3; have hfz25_4 := blk_frozen BK119.out 4)))
        go_meet
        case rel => exact ⟨_, (true), (by rfl), H', ⟨by omega⟩, ⟨by (with_reducible repeat ((refine blk_drewN ?_ _))); exact BK119.out⟩, ⟨by repeat ((with_reducible (exact HB.out)))⟩⟩
       ·rw [if_neg c22] at H
        have c22b0 : decide (a0_3 < 0) = false := decide_eq_false c22
        clear c22
        by_cases c26 : a0_3 > 2147483647
        ·rw [if_pos c26] at H
         have c26b0 : decide (2147483647 < a0_3) = true := decide_eq_true c26
         clear c26
         have H' := Aside0.mk H
         clear H
         have hcz27_0 : w3.cell? ⟨gb119, 0, none⟩ = some (.string a0_0) := (blk_cell BK119.out 0).trans rfl
         have hcz27_1 : w3.cell? ⟨gb119, 1, none⟩ = some (.int .i64 a0_1) := (blk_cell BK119.out 1).trans rfl
         have hcz27_2 : w3.cell? ⟨gb119, 2, none⟩ = some (.int .i64 a0_2) := (blk_cell BK119.out 2).trans rfl
         have hcz27_3 : w3.cell? ⟨gb119, 3, none⟩ = some (.int .i64 a0_3) := (blk_cell BK119.out 3).trans rfl
         have hcz27_4 : w3.cell? ⟨gb119, 4, none⟩ = some (.string a0_4) := (blk_cell BK119.out 4).trans rfl
         have hfz27_0 := blk_frozen BK119.out 0
         have hfz27_1 := blk_frozen BK119.out 1
         have hfz27_2 := blk_frozen BK119.out 2
         have hfz27_3 := blk_frozen BK119.out 3
         have hfz27_4 := blk_frozen BK119.out 4
         go_wp2_with ((((with_reducible refine gate_callee (f := 24) rfl ?_); refine goesL_ (some 5) rfl rfl Try.func24 (by kernel_rfl) rfl #[.string a0_0] rfl (by (try simp only [List.map_toArray, List.map_cons, List.map_nil]); rfl) ?_; (with_reducible refine (beadrollref07_Right.calls k a0_0 true _ A4.out).mono ?_); rintro e w28 ⟨rfl, hb⟩; refine ⟨_, rfl, ?_⟩; have n0_ := Aside0.mk (blk_below (g := gb119) (o := .cells #[.string a0_0, .int .i64 a0_1, .int .i64 a0_2, .int .i64 a0_3, .string a0_4] 24 (0, 0)) (by (with_reducible repeat ((refine blk_drewN ?_ _))); exact BK119.out) hb); have n1_ := Aside0.mk (below_step (by repeat ((with_reducible (exact HB.out)))) hb); clear BK119; clear HB; have BK119 := n0_; have HB := n1_; clear n0_ n1_; (try clear hb); have hcz29_0 : w28.cell? ⟨gb119, 0, none⟩ = some (.string a0_0) := (blk_cell BK119.out 0).trans rfl; have hcz29_1 : w28.cell? ⟨gb119, 1, none⟩ = some (.int .i64 a0_1) := (blk_cell BK119.out 1).trans rfl; have hcz29_2 : w28.cell? ⟨gb119, 2, none⟩ = some (.int .i64 a0_2) := (blk_cell BK119.out 2).trans rfl; have hcz29_3 : w28.cell? ⟨gb119, 3, none⟩ = some (.int .i64 a0_3) := (blk_cell BK119.out 3).trans rfl; have hcz29_4 : w28.cell? ⟨gb119, 4, none⟩ = some (.string a0_4) := (blk_cell BK119.out 4).trans rfl; have hfz29_0 := blk_frozen BK119.out 0; have hfz29_1 := blk_frozen BK119.out 1; have hfz29_2 := blk_frozen BK119.out 2; have hfz29_3 := blk_frozen BK119.out 3; have hfz29_4 := blk_frozen BK119.out 4)))
         go_meet
         case rel => exact ⟨_, (true), (by rfl), H', ⟨by omega⟩, ⟨by (with_reducible repeat ((refine blk_drewN ?_ _))); exact BK119.out⟩, ⟨by repeat ((with_reducible (exact HB.out)))⟩⟩
        ·rw [if_neg c26] at H
         have c26b0 : decide (2147483647 < a0_3) = false := decide_eq_false c26
         clear c26
         have H' := Aside0.mk H
         clear H
         have hcz30_0 : w3.cell? ⟨gb119, 0, none⟩ = some (.string a0_0) := (blk_cell BK119.out 0).trans rfl
         have hcz30_1 : w3.cell? ⟨gb119, 1, none⟩ = some (.int .i64 a0_1) := (blk_cell BK119.out 1).trans rfl
         have hcz30_2 : w3.cell? ⟨gb119, 2, none⟩ = some (.int .i64 a0_2) := (blk_cell BK119.out 2).trans rfl
         have hcz30_3 : w3.cell? ⟨gb119, 3, none⟩ = some (.int .i64 a0_3) := (blk_cell BK119.out 3).trans rfl
         have hcz30_4 : w3.cell? ⟨gb119, 4, none⟩ = some (.string a0_4) := (blk_cell BK119.out 4).trans rfl
         have hfz30_0 := blk_frozen BK119.out 0
         have hfz30_1 := blk_frozen BK119.out 1
         have hfz30_2 := blk_frozen BK119.out 2
         have hfz30_3 := blk_frozen BK119.out 3
         have hfz30_4 := blk_frozen BK119.out 4
         go_wp2_with ((((with_reducible refine gate_callee (f := 24) rfl ?_); refine goesL_ (some 5) rfl rfl Try.func24 (by kernel_rfl) rfl #[.string a0_0] rfl (by (try simp only [List.map_toArray, List.map_cons, List.map_nil]); rfl) ?_; (with_reducible refine (beadrollref07_Right.calls k a0_0 true _ A4.out).mono ?_); rintro e w31 ⟨rfl, hb⟩; refine ⟨_, rfl, ?_⟩; have n0_ := Aside0.mk (blk_below (g := gb119) (o := .cells #[.string a0_0, .int .i64 a0_1, .int .i64 a0_2, .int .i64 a0_3, .string a0_4] 24 (0, 0)) (by (with_reducible repeat ((refine blk_drewN ?_ _))); exact BK119.out) hb); have n1_ := Aside0.mk (below_step (by repeat ((with_reducible (exact HB.out)))) hb); clear BK119; clear HB; have BK119 := n0_; have HB := n1_; clear n0_ n1_; (try clear hb); have hcz32_0 : w31.cell? ⟨gb119, 0, none⟩ = some (.string a0_0) := (blk_cell BK119.out 0).trans rfl; have hcz32_1 : w31.cell? ⟨gb119, 1, none⟩ = some (.int .i64 a0_1) := (blk_cell BK119.out 1).trans rfl; have hcz32_2 : w31.cell? ⟨gb119, 2, none⟩ = some (.int .i64 a0_2) := (blk_cell BK119.out 2).trans rfl; have hcz32_3 : w31.cell? ⟨gb119, 3, none⟩ = some (.int .i64 a0_3) := (blk_cell BK119.out 3).trans rfl; have hcz32_4 : w31.cell? ⟨gb119, 4, none⟩ = some (.string a0_4) := (blk_cell BK119.out 4).trans rfl; have hfz32_0 := blk_frozen BK119.out 0; have hfz32_1 := blk_frozen BK119.out 1; have hfz32_2 := blk_frozen BK119.out 2; have hfz32_3 := blk_frozen BK119.out 3; have hfz32_4 := blk_frozen BK119.out 4)))
         go_meet
         case rel => exact ⟨_, (decide ((a0_4.size : Int) > 65535)), (by rfl), H', ⟨by omega⟩, ⟨by (with_reducible repeat ((refine blk_drewN ?_ _))); exact BK119.out⟩, ⟨by repeat ((with_reducible (exact HB.out)))⟩⟩
  ·replace c5 := Bool.eq_false_iff.mpr c5
   subst c5
   have H1 : (beadrollref11_Right.j0 k true a0_0 a0_1 a0_2 a0_3 a0_4) = some r := by rw [if_neg (show ¬ (false = true) by decide)] at H; exact H
   clear H
   have H := H1
   clear H1
   have H' := Aside0.mk H
   clear H
   have hcz33_0 : w3.cell? ⟨gb119, 0, none⟩ = some (.string a0_0) := (blk_cell BK119.out 0).trans rfl
   have hcz33_1 : w3.cell? ⟨gb119, 1, none⟩ = some (.int .i64 a0_1) := (blk_cell BK119.out 1).trans rfl
   have hcz33_2 : w3.cell? ⟨gb119, 2, none⟩ = some (.int .i64 a0_2) := (blk_cell BK119.out 2).trans rfl
   have hcz33_3 : w3.cell? ⟨gb119, 3, none⟩ = some (.int .i64 a0_3) := (blk_cell BK119.out 3).trans rfl
   have hcz33_4 : w3.cell? ⟨gb119, 4, none⟩ = some (.string a0_4) := (blk_cell BK119.out 4).trans rfl
   have hfz33_0 := blk_frozen BK119.out 0
   have hfz33_1 := blk_frozen BK119.out 1
   have hfz33_2 := blk_frozen BK119.out 2
   have hfz33_3 := blk_frozen BK119.out 3
   have hfz33_4 := blk_frozen BK119.out 4
   go_wp2_with ((((with_reducible refine gate_callee (f := 24) rfl ?_); refine goesL_ (some 5) rfl rfl Try.func24 (by kernel_rfl) rfl #[.string a0_0] rfl (by (try simp only [List.map_toArray, List.map_cons, List.map_nil]); rfl) ?_; (with_reducible refine (beadrollref07_Right.calls k a0_0 false _ A4.out).mono ?_); rintro e w34 ⟨rfl, hb⟩; refine ⟨_, rfl, ?_⟩; have n0_ := Aside0.mk (blk_below (g := gb119) (o := .cells #[.string a0_0, .int .i64 a0_1, .int .i64 a0_2, .int .i64 a0_3, .string a0_4] 24 (0, 0)) (by (with_reducible repeat ((refine blk_drewN ?_ _))); exact BK119.out) hb); have n1_ := Aside0.mk (below_step (by repeat ((with_reducible (exact HB.out)))) hb); clear BK119; clear HB; have BK119 := n0_; have HB := n1_; clear n0_ n1_; (try clear hb))))
   go_meet
   case rel => exact ⟨_, (true), (by rfl), H', ⟨by omega⟩, ⟨by (with_reducible repeat ((refine blk_drewN ?_ _))); exact BK119.out⟩, ⟨by repeat ((with_reducible (exact HB.out)))⟩⟩
 case rest =>
  clear HC2
  obtain ⟨kq, x42_1, rfl, HA, HJ1, BK119, HB⟩ := hcut
  cases kq with
  | zero => exact absurd HA.out (by simp [beadrollref11_Right.j0])
  | succ kj1 =>
   have H := HA.out
   clear HA
   simp only [beadrollref11_Right.j0] at H
   by_cases c35 : x42_1 = true
   ·subst c35
    have H1 : (some false) = some r := by rw [if_pos rfl] at H; exact H
    clear H
    have H := H1
    clear H1
    obtain rfl := Option.some.inj H
    go_wp2
    go_ret
    exact ⟨by rfl, by repeat ((with_reducible (exact HB.out)))⟩
   ·replace c35 := Bool.eq_false_iff.mpr c35
    subst c35
    have H1 : ((beadrollref11_typed.f a0_2 a0_4.toList.isEmpty).bind fun t121 => (if t121 = true then ((beadrollref10_Right.f kj1 a0_1 a0_4).bind fun t122 => (some t122)) else (some true))) = some r := by rw [if_neg (show ¬ (false = true) by decide)] at H; exact H
    clear H
    have H := H1
    clear H1
    replace H := Option.bind_eq_some_iff.mp H
    obtain ⟨t121, A360, H⟩ := H
    replace H : (if t121 = true then ((beadrollref10_Right.f kj1 a0_1 a0_4).bind fun t122 => (some t122)) else (some true)) = some r := H
    have A36 := Aside0.mk A360
    clear A360
    by_cases c37 : t121 = true
    ·subst c37
     have H1 : ((beadrollref10_Right.f kj1 a0_1 a0_4).bind fun t122 => (some t122)) = some r := by rw [if_pos rfl] at H; exact H
     clear H
     have H := H1
     clear H1
     replace H := Option.bind_eq_some_iff.mp H
     obtain ⟨t122, A380, H⟩ := H
     replace H : (some t122) = some r := H
     have A38 := Aside0.mk A380
     clear A380
     obtain rfl := Option.some.inj H
     have hcz39_0 : wc.cell? ⟨gb119, 0, none⟩ = some (.string a0_0) := (blk_cell BK119.out 0).trans rfl
     have hcz39_1 : wc.cell? ⟨gb119, 1, none⟩ = some (.int .i64 a0_1) := (blk_cell BK119.out 1).trans rfl
     have hcz39_2 : wc.cell? ⟨gb119, 2, none⟩ = some (.int .i64 a0_2) := (blk_cell BK119.out 2).trans rfl
     have hcz39_3 : wc.cell? ⟨gb119, 3, none⟩ = some (.int .i64 a0_3) := (blk_cell BK119.out 3).trans rfl
     have hcz39_4 : wc.cell? ⟨gb119, 4, none⟩ = some (.string a0_4) := (blk_cell BK119.out 4).trans rfl
     have hfz39_0 := blk_frozen BK119.out 0
     have hfz39_1 := blk_frozen BK119.out 1
     have hfz39_2 := blk_frozen BK119.out 2
     have hfz39_3 := blk_frozen BK119.out 3
     have hfz39_4 := blk_frozen BK119.out 4
     go_wp2_with (first | ((with_reducible refine gate_callee (f := 25) rfl ?_); refine goesL_ (some 48) rfl rfl Try.func25 (by kernel_rfl) rfl #[.int .i64 a0_2, .bool a0_4.toList.isEmpty] rfl (by (try simp only [List.map_toArray, List.map_cons, List.map_nil]); rfl) ?_; (with_reducible refine (beadrollref11_typed.calls a0_2 a0_4.toList.isEmpty true _ A36.out).mono ?_); rintro e w' ⟨rfl, ⟨nd, rfl⟩⟩; refine ⟨_, rfl, ?_⟩) | (go_at_call 26; (with_reducible refine (beadrollref10_Right.calls kj1 a0_1 a0_4 t122 _ A38.out).mono ?_); rintro e w40 ⟨rfl, hb⟩; have n0_ := Aside0.mk (blk_below (g := gb119) (o := .cells #[.string a0_0, .int .i64 a0_1, .int .i64 a0_2, .int .i64 a0_3, .string a0_4] 24 (0, 0)) (by (with_reducible repeat ((refine blk_drewN ?_ _))); exact BK119.out) hb); have n1_ := Aside0.mk (below_step (by repeat ((with_reducible first | exact HB.out | apply pw_below_drewN))) hb); clear BK119; clear HB; have BK119 := n0_; have HB := n1_; clear n0_ n1_; (try clear hb)))
     go_ret
     exact ⟨by rfl, by repeat ((with_reducible (exact HB.out)))⟩
    ·replace c37 := Bool.eq_false_iff.mpr c37
     subst c37
     have H1 : (some true) = some r := by rw [if_neg (show ¬ (false = true) by decide)] at H; exact H
     clear H
     have H := H1
     clear H1
     obtain rfl := Option.some.inj H
     have hcz41_0 : wc.cell? ⟨gb119, 0, none⟩ = some (.string a0_0) := (blk_cell BK119.out 0).trans rfl
     have hcz41_1 : wc.cell? ⟨gb119, 1, none⟩ = some (.int .i64 a0_1) := (blk_cell BK119.out 1).trans rfl
     have hcz41_2 : wc.cell? ⟨gb119, 2, none⟩ = some (.int .i64 a0_2) := (blk_cell BK119.out 2).trans rfl
     have hcz41_3 : wc.cell? ⟨gb119, 3, none⟩ = some (.int .i64 a0_3) := (blk_cell BK119.out 3).trans rfl
     have hcz41_4 : wc.cell? ⟨gb119, 4, none⟩ = some (.string a0_4) := (blk_cell BK119.out 4).trans rfl
     have hfz41_0 := blk_frozen BK119.out 0
     have hfz41_1 := blk_frozen BK119.out 1
     have hfz41_2 := blk_frozen BK119.out 2
     have hfz41_3 := blk_frozen BK119.out 3
     have hfz41_4 := blk_frozen BK119.out 4
     go_wp2_with ((((with_reducible refine gate_callee (f := 25) rfl ?_); refine goesL_ (some 48) rfl rfl Try.func25 (by kernel_rfl) rfl #[.int .i64 a0_2, .bool a0_4.toList.isEmpty] rfl (by (try simp only [List.map_toArray, List.map_cons, List.map_nil]); rfl) ?_; (with_reducible refine (beadrollref11_typed.calls a0_2 a0_4.toList.isEmpty false _ A36.out).mono ?_); rintro e w' ⟨rfl, ⟨nd, rfl⟩⟩; refine ⟨_, rfl, ?_⟩)))
     go_ret
     exact ⟨by rfl, by repeat ((with_reducible first | exact HB.out | apply pw_below_drewN))⟩
def beadrollref11_sign.f (a0 : Int) (a1 : Int) : Option (Int) := if a0 < a1 then (some (-1)) else (if a0 > a1 then (some 1) else (some 0))
set_option maxHeartbeats 8000000 in
set_option maxRecDepth 100000 in
theorem beadrollref11_sign.calls (a0 : Int) (a1 : Int) (r : Int) (w : World) (h : beadrollref11_sign.f a0 a1 = some r) :
  Calls Try.prog 28 #[.int .i64 a0, .int .i64 a1] w fun e w' => e = .returned (.int .i64 r) ∧ Drawn0 w w' := by
 have H : (if a0 < a1 then (some (-1)) else (if a0 > a1 then (some 1) else (some 0))) = some r := h
 clear h
 by_cases c3 : a0 < a1
 ·rw [if_pos c3] at H
  have c3b0 : decide (a0 < a1) = true := decide_eq_true c3
  clear c3
  obtain rfl := Option.some.inj H
  go_enter Try.func28, Try.ntmps28
  go_wp2
  go_ret
  exact ⟨by rfl, by repeat ((exact Drawn0.refl _))⟩
 ·rw [if_neg c3] at H
  have c3b0 : decide (a0 < a1) = false := decide_eq_false c3
  clear c3
  by_cases c4 : a0 > a1
  ·rw [if_pos c4] at H
   have c4b0 : decide (a1 < a0) = true := decide_eq_true c4
   clear c4
   obtain rfl := Option.some.inj H
   go_enter Try.func28, Try.ntmps28
   go_wp2
   go_ret
   exact ⟨by rfl, by repeat ((exact Drawn0.refl _))⟩
  ·rw [if_neg c4] at H
   have c4b0 : decide (a1 < a0) = false := decide_eq_false c4
   clear c4
   obtain rfl := Option.some.inj H
   go_enter Try.func28, Try.ntmps28
   go_wp2
   go_ret
   exact ⟨by rfl, by repeat ((exact Drawn0.refl _))⟩
def beadrollref11_Said.f (k : Nat) (a0_0 : ByteArray) (a0_1 : Int) (a0_2 : Int) (a0_3 : Int) (a0_4 : ByteArray) : Option (ByteArray) := (beadrollref10_Right.f k a0_1 a0_4).bind fun t124 => (if t124 = true then ((beadrollref10_Fold.f k a0_1 a0_4).bind fun t125 => (some t125)) else (some a0_4))
set_option maxHeartbeats 8000000 in
set_option maxRecDepth 100000 in
theorem beadrollref11_Said.calls (k : Nat) (a0_0 : ByteArray) (a0_1 : Int) (a0_2 : Int) (a0_3 : Int) (a0_4 : ByteArray) (r : ByteArray) (w : World) (h : beadrollref11_Said.f k a0_0 a0_1 a0_2 a0_3 a0_4 = some r) :
  Calls Try.prog 29 #[.agg #[.string a0_0, .int .i64 a0_1, .int .i64 a0_2, .int .i64 a0_3, .string a0_4]] w fun e w' => e = .returned (.string r) ∧ Below w.heap.size w w' := by
 have hu24 := Try.underlying24
 have HB := Aside0.mk (Below.refl w.heap.size w)
 have H : ((beadrollref10_Right.f k a0_1 a0_4).bind fun t124 => (if t124 = true then ((beadrollref10_Fold.f k a0_1 a0_4).bind fun t125 => (some t125)) else (some a0_4))) = some r := h
 clear h
 replace H := Option.bind_eq_some_iff.mp H
 obtain ⟨t124, A20, H⟩ := H
 replace H : (if t124 = true then ((beadrollref10_Fold.f k a0_1 a0_4).bind fun t125 => (some t125)) else (some a0_4)) = some r := H
 have A2 := Aside0.mk A20
 clear A20
 by_cases c3 : t124 = true
 ·subst c3
  have H1 : ((beadrollref10_Fold.f k a0_1 a0_4).bind fun t125 => (some t125)) = some r := by rw [if_pos rfl] at H; exact H
  clear H
  have H := H1
  clear H1
  replace H := Option.bind_eq_some_iff.mp H
  obtain ⟨t125, A40, H⟩ := H
  replace H : (some t125) = some r := H
  have A4 := Aside0.mk A40
  clear A40
  obtain rfl := Option.some.inj H
  go_enter Try.func29, Try.ntmps29
  go_wp2_with (first | ((with_reducible refine gate_dst (N := 1) rfl ?_); refine box_event ?hg (N := 1) ?hd (cs := #[.string a0_0, .int .i64 a0_1, .int .i64 a0_2, .int .i64 a0_3, .string a0_4]) (t := 24) ?hr ?_; (case hd => rfl); (case hg => rfl); (case hr => (go_simp; done)); intro gb123 hg w5 hbox hb; have n0_ := Aside0.mk (below_step (by repeat ((with_reducible (exact HB.out)))) hb); have n1_ := Aside0.mk (hbox); have n2_ := Aside0.mk ((by rw [hg]; exact (below_size (by repeat ((with_reducible (exact HB.out))))) : w.heap.size ≤ gb123)); have n3_ := Aside0.mk ((by rw [hg]; exact (below_size (by repeat ((with_reducible (exact HB.out))))) : w.heap.size ≤ gb123)); clear HB; have HB := n0_; have BK123 := n1_; have GW123 := n2_; have GE123 := n3_; clear n0_ n1_ n2_ n3_; clear hb hbox hg; have hcz6_0 : w5.cell? ⟨gb123, 0, none⟩ = some (.string a0_0) := (blk_cell BK123.out 0).trans rfl; have hcz6_1 : w5.cell? ⟨gb123, 1, none⟩ = some (.int .i64 a0_1) := (blk_cell BK123.out 1).trans rfl; have hcz6_2 : w5.cell? ⟨gb123, 2, none⟩ = some (.int .i64 a0_2) := (blk_cell BK123.out 2).trans rfl; have hcz6_3 : w5.cell? ⟨gb123, 3, none⟩ = some (.int .i64 a0_3) := (blk_cell BK123.out 3).trans rfl; have hcz6_4 : w5.cell? ⟨gb123, 4, none⟩ = some (.string a0_4) := (blk_cell BK123.out 4).trans rfl; have hfz6_0 := blk_frozen BK123.out 0; have hfz6_1 := blk_frozen BK123.out 1; have hfz6_2 := blk_frozen BK123.out 2; have hfz6_3 := blk_frozen BK123.out 3; have hfz6_4 := blk_frozen BK123.out 4) | ((with_reducible refine gate_callee (f := 26) rfl ?_); refine goesL_ (some 7) rfl rfl Try.func26 (by kernel_rfl) rfl #[.int .i64 a0_1, .string a0_4] rfl (by (try simp only [List.map_toArray, List.map_cons, List.map_nil]); rfl) ?_; (with_reducible refine (beadrollref10_Right.calls k a0_1 a0_4 true _ A2.out).mono ?_); rintro e w7 ⟨rfl, hb⟩; refine ⟨_, rfl, ?_⟩; have n0_ := Aside0.mk (blk_below (g := gb123) (o := .cells #[.string a0_0, .int .i64 a0_1, .int .i64 a0_2, .int .i64 a0_3, .string a0_4] 24 (0, 0)) (by (with_reducible repeat ((refine blk_drewN ?_ _))); exact BK123.out) hb); have n1_ := Aside0.mk (below_step (by repeat ((with_reducible (exact HB.out)))) hb); clear BK123; clear HB; have BK123 := n0_; have HB := n1_; clear n0_ n1_; (try clear hb); have hcz8_0 : w7.cell? ⟨gb123, 0, none⟩ = some (.string a0_0) := (blk_cell BK123.out 0).trans rfl; have hcz8_1 : w7.cell? ⟨gb123, 1, none⟩ = some (.int .i64 a0_1) := (blk_cell BK123.out 1).trans rfl; have hcz8_2 : w7.cell? ⟨gb123, 2, none⟩ = some (.int .i64 a0_2) := (blk_cell BK123.out 2).trans rfl; have hcz8_3 : w7.cell? ⟨gb123, 3, none⟩ = some (.int .i64 a0_3) := (blk_cell BK123.out 3).trans rfl; have hcz8_4 : w7.cell? ⟨gb123, 4, none⟩ = some (.string a0_4) := (blk_cell BK123.out 4).trans rfl; have hfz8_0 := blk_frozen BK123.out 0; have hfz8_1 := blk_frozen BK123.out 1; have hfz8_2 := blk_frozen BK123.out 2; have hfz8_3 := blk_frozen BK123.out 3; have hfz8_4 := blk_frozen BK123.out 4) | ((with_reducible refine gate_callee (f := 42) rfl ?_); refine goesL_ (some 15) rfl rfl Try.func42 (by kernel_rfl) rfl #[.int .i64 a0_1, .string a0_4] rfl (by (try simp only [List.map_toArray, List.map_cons, List.map_nil]); rfl) ?_; (with_reducible refine (beadrollref10_Fold.calls k a0_1 a0_4 t125 _ A4.out).mono ?_); rintro e w9 ⟨rfl, hb⟩; refine ⟨_, rfl, ?_⟩; have n0_ := Aside0.mk (blk_below (g := gb123) (o := .cells #[.string a0_0, .int .i64 a0_1, .int .i64 a0_2, .int .i64 a0_3, .string a0_4] 24 (0, 0)) (by (with_reducible repeat ((refine blk_drewN ?_ _))); exact BK123.out) hb); have n1_ := Aside0.mk (below_step (by repeat ((with_reducible (exact HB.out)))) hb); clear BK123; clear HB; have BK123 := n0_; have HB := n1_; clear n0_ n1_; (try clear hb)))
  go_ret
  exact ⟨by rfl, by repeat ((with_reducible (exact HB.out)))⟩
 ·replace c3 := Bool.eq_false_iff.mpr c3
  subst c3
  have H1 : (some a0_4) = some r := by rw [if_neg (show ¬ (false = true) by decide)] at H; exact H
  clear H
  have H := H1
  clear H1
  obtain rfl := Option.some.inj H
  go_enter Try.func29, Try.ntmps29
  go_wp2_with (first | ((with_reducible refine gate_dst (N := 1) rfl ?_); refine box_event ?hg (N := 1) ?hd (cs := #[.string a0_0, .int .i64 a0_1, .int .i64 a0_2, .int .i64 a0_3, .string a0_4]) (t := 24) ?hr ?_; (case hd => rfl); (case hg => rfl); (case hr => (go_simp; done)); intro gb123 hg w10 hbox hb; have n0_ := Aside0.mk (below_step (by repeat ((with_reducible (exact HB.out)))) hb); have n1_ := Aside0.mk (hbox); have n2_ := Aside0.mk ((by rw [hg]; exact (below_size (by repeat ((with_reducible (exact HB.out))))) : w.heap.size ≤ gb123)); have n3_ := Aside0.mk ((by rw [hg]; exact (below_size (by repeat ((with_reducible (exact HB.out))))) : w.heap.size ≤ gb123)); clear HB; have HB := n0_; have BK123 := n1_; have GW123 := n2_; have GE123 := n3_; clear n0_ n1_ n2_ n3_; clear hb hbox hg; have hcz11_0 : w10.cell? ⟨gb123, 0, none⟩ = some (.string a0_0) := (blk_cell BK123.out 0).trans rfl; have hcz11_1 : w10.cell? ⟨gb123, 1, none⟩ = some (.int .i64 a0_1) := (blk_cell BK123.out 1).trans rfl; have hcz11_2 : w10.cell? ⟨gb123, 2, none⟩ = some (.int .i64 a0_2) := (blk_cell BK123.out 2).trans rfl; have hcz11_3 : w10.cell? ⟨gb123, 3, none⟩ = some (.int .i64 a0_3) := (blk_cell BK123.out 3).trans rfl; have hcz11_4 : w10.cell? ⟨gb123, 4, none⟩ = some (.string a0_4) := (blk_cell BK123.out 4).trans rfl; have hfz11_0 := blk_frozen BK123.out 0; have hfz11_1 := blk_frozen BK123.out 1; have hfz11_2 := blk_frozen BK123.out 2; have hfz11_3 := blk_frozen BK123.out 3; have hfz11_4 := blk_frozen BK123.out 4) | ((with_reducible refine gate_callee (f := 26) rfl ?_); refine goesL_ (some 7) rfl rfl Try.func26 (by kernel_rfl) rfl #[.int .i64 a0_1, .string a0_4] rfl (by (try simp only [List.map_toArray, List.map_cons, List.map_nil]); rfl) ?_; (with_reducible refine (beadrollref10_Right.calls k a0_1 a0_4 false _ A2.out).mono ?_); rintro e w12 ⟨rfl, hb⟩; refine ⟨_, rfl, ?_⟩; have n0_ := Aside0.mk (blk_below (g := gb123) (o := .cells #[.string a0_0, .int .i64 a0_1, .int .i64 a0_2, .int .i64 a0_3, .string a0_4] 24 (0, 0)) (by (with_reducible repeat ((refine blk_drewN ?_ _))); exact BK123.out) hb); have n1_ := Aside0.mk (below_step (by repeat ((with_reducible (exact HB.out)))) hb); clear BK123; clear HB; have BK123 := n0_; have HB := n1_; clear n0_ n1_; (try clear hb); have hcz13_0 : w12.cell? ⟨gb123, 0, none⟩ = some (.string a0_0) := (blk_cell BK123.out 0).trans rfl; have hcz13_1 : w12.cell? ⟨gb123, 1, none⟩ = some (.int .i64 a0_1) := (blk_cell BK123.out 1).trans rfl; have hcz13_2 : w12.cell? ⟨gb123, 2, none⟩ = some (.int .i64 a0_2) := (blk_cell BK123.out 2).trans rfl; have hcz13_3 : w12.cell? ⟨gb123, 3, none⟩ = some (.int .i64 a0_3) := (blk_cell BK123.out 3).trans rfl; have hcz13_4 : w12.cell? ⟨gb123, 4, none⟩ = some (.string a0_4) := (blk_cell BK123.out 4).trans rfl; have hfz13_0 := blk_frozen BK123.out 0; have hfz13_1 := blk_frozen BK123.out 1; have hfz13_2 := blk_frozen BK123.out 2; have hfz13_3 := blk_frozen BK123.out 3; have hfz13_4 := blk_frozen BK123.out 4))
  go_ret
  exact ⟨by rfl, by repeat ((with_reducible (exact HB.out)))⟩
end Go.Proofs.Ytnpiglojamhpiaa.PRr
namespace Go.Proofs.Ytnpiglojamhpiaa.PRr
open Go.RowKit Go.Proofs.YtnpiglojamhpiaaW.PrintWords Go.Proofs.YtnpiglojamhpiaaW.PrintLast Go.Proofs.YtnpiglojamhpiaaW.PrintMore Go.Proofs.Ytnpiglojamhpiaa.Given Go.Proofs.Ytnpiglojamhpiaa.PRd
attribute [local go_sem] max2_int min2_int max_two min_two max_three min_three max_four min_four   -- for this text's walks alone
set_option linter.unusedVariables false
set_option linter.unusedSimpArgs false
mutual
def beadrollref11_Compare.j0 : Nat → Int → ByteArray → Int → Int → Int → ByteArray → ByteArray → Int → Int → Int → ByteArray → Option (Int)
 | 0, _, _, _, _, _, _, _, _, _, _, _ => none
 | k + 1, x5, x127000, x127001, x127002, x127003, x127004, x128000, x128001, x128002, x128003, x128004 => if x5 = 0 then ((beadrollref11_sign.f x127002 x128002).bind fun t130 => (beadrollref11_Compare.j1 k t130 x127000 x127001 x127002 x127003 x127004 x128000 x128001 x128002 x128003 x128004)) else (beadrollref11_Compare.j1 k x5 x127000 x127001 x127002 x127003 x127004 x128000 x128001 x128002 x128003 x128004)
def beadrollref11_Compare.j1 : Nat → Int → ByteArray → Int → Int → Int → ByteArray → ByteArray → Int → Int → Int → ByteArray → Option (Int)
 | 0, _, _, _, _, _, _, _, _, _, _, _ => none
 | k + 1, x5, x127000, x127001, x127002, x127003, x127004, x128000, x128001, x128002, x128003, x128004 => if x5 = 0 then ((beadrollref11_Said.f k x127000 x127001 x127002 x127003 x127004).bind fun t131 => ((beadrollref11_Said.f k x128000 x128001 x128002 x128003 x128004).bind fun t132 => (if (Op.bytesLess t131.toList t132.toList) = true then (some (-1)) else (if (Op.bytesLess t132.toList t131.toList) = true then (some 1) else (some 0))))) else (some x5)
end
def beadrollref11_Compare.f (k : Nat) (a0_0 : ByteArray) (a0_1 : Int) (a0_2 : Int) (a0_3 : Int) (a0_4 : ByteArray) (a1_0 : ByteArray) (a1_1 : Int) (a1_2 : Int) (a1_3 : Int) (a1_4 : ByteArray) : Option (Int) := (beadrollref07_Compare.f k a0_0 a1_0).bind fun t128 => (if t128 = 0 then ((beadrollref11_sign.f a0_1 a1_1).bind fun t129 => (beadrollref11_Compare.j0 k t129 a0_0 a0_1 a0_2 a0_3 a0_4 a1_0 a1_1 a1_2 a1_3 a1_4)) else (beadrollref11_Compare.j0 k t128 a0_0 a0_1 a0_2 a0_3 a0_4 a1_0 a1_1 a1_2 a1_3 a1_4))
set_option maxHeartbeats 8000000 in
set_option maxRecDepth 100000 in
theorem beadrollref11_Compare.calls (k : Nat) (a0_0 : ByteArray) (a0_1 : Int) (a0_2 : Int) (a0_3 : Int) (a0_4 : ByteArray) (a1_0 : ByteArray) (a1_1 : Int) (a1_2 : Int) (a1_3 : Int) (a1_4 : ByteArray) (r : Int) (w : World) (h : beadrollref11_Compare.f k a0_0 a0_1 a0_2 a0_3 a0_4 a1_0 a1_1 a1_2 a1_3 a1_4 = some r) :
  Calls Try.prog 17 #[.agg #[.string a0_0, .int .i64 a0_1, .int .i64 a0_2, .int .i64 a0_3, .string a0_4], .agg #[.string a1_0, .int .i64 a1_1, .int .i64 a1_2, .int .i64 a1_3, .string a1_4]] w fun e w' => e = .returned (.int .i64 r) ∧ Below w.heap.size w w' := by
 have hu24 := Try.underlying24
 have HB := Aside0.mk (Below.refl w.heap.size w)
 have H : ((beadrollref07_Compare.f k a0_0 a1_0).bind fun t128 => (if t128 = 0 then ((beadrollref11_sign.f a0_1 a1_1).bind fun t129 => (beadrollref11_Compare.j0 k t129 a0_0 a0_1 a0_2 a0_3 a0_4 a1_0 a1_1 a1_2 a1_3 a1_4)) else (beadrollref11_Compare.j0 k t128 a0_0 a0_1 a0_2 a0_3 a0_4 a1_0 a1_1 a1_2 a1_3 a1_4))) = some r := h
 clear h
 replace H := Option.bind_eq_some_iff.mp H
 obtain ⟨t128, A30, H⟩ := H
 replace H : (if t128 = 0 then ((beadrollref11_sign.f a0_1 a1_1).bind fun t129 => (beadrollref11_Compare.j0 k t129 a0_0 a0_1 a0_2 a0_3 a0_4 a1_0 a1_1 a1_2 a1_3 a1_4)) else (beadrollref11_Compare.j0 k t128 a0_0 a0_1 a0_2 a0_3 a0_4 a1_0 a1_1 a1_2 a1_3 a1_4)) = some r := H
 have A3 := Aside0.mk A30
 clear A30
 have HC4 := Aside0.mk H
 clear H
 go_enter Try.func17, Try.ntmps17
 go_upto_if 14 with (first | ((with_reducible refine gate_dst (N := 2) rfl ?_); refine box_event ?hg (N := 2) ?hd (cs := #[.string a0_0, .int .i64 a0_1, .int .i64 a0_2, .int .i64 a0_3, .string a0_4]) (t := 24) ?hr ?_; (case hd => rfl); (case hg => rfl); (case hr => (go_simp; done)); intro gb126 hg w5 hbox hb; have n0_ := Aside0.mk (below_step (by repeat ((with_reducible (exact HB.out)))) hb); have n1_ := Aside0.mk (hbox); have n2_ := Aside0.mk ((by rw [hg]; exact (below_size (by repeat ((with_reducible (exact HB.out))))) : w.heap.size ≤ gb126)); have n3_ := Aside0.mk ((by rw [hg]; exact (below_size (by repeat ((with_reducible (exact HB.out))))) : w.heap.size ≤ gb126)); clear HB; have HB := n0_; have BK126 := n1_; have GW126 := n2_; have GE126 := n3_; clear n0_ n1_ n2_ n3_; clear hb hbox hg) | ((with_reducible refine gate_dst (N := 3) rfl ?_); refine box_event ?hg (N := 3) ?hd (cs := #[.string a1_0, .int .i64 a1_1, .int .i64 a1_2, .int .i64 a1_3, .string a1_4]) (t := 24) ?hr ?_; (case hd => rfl); (case hg => rfl); (case hr => (go_simp; done)); intro gb127 hg w6 hbox hb; have n0_ := Aside0.mk (blk_below (g := gb126) (o := .cells #[.string a0_0, .int .i64 a0_1, .int .i64 a0_2, .int .i64 a0_3, .string a0_4] 24 (0, 0)) (by (with_reducible repeat ((refine blk_drewN ?_ _))); exact BK126.out) hb); have n1_ := Aside0.mk (below_step (by repeat ((with_reducible (exact HB.out)))) hb); have n2_ := Aside0.mk (hbox); have n3_ := Aside0.mk ((by rw [hg]; exact (below_size (by repeat ((with_reducible (exact HB.out))))) : w.heap.size ≤ gb127)); have n4_ := Aside0.mk ((by rw [hg]; exact (below_size (by repeat ((with_reducible (exact HB.out))))) : w.heap.size ≤ gb127)); have n5_ := Aside0.mk ((by rw [hg]; exact Nat.ne_of_lt (blk_lt (g := gb126) (o := .cells #[.string a0_0, .int .i64 a0_1, .int .i64 a0_2, .int .i64 a0_3, .string a0_4] 24 (0, 0)) (by (with_reducible repeat ((refine blk_drewN ?_ _))); exact BK126.out)) : gb126 ≠ gb127)); have n6_ := Aside0.mk ((by rw [hg]; exact Nat.ne_of_gt (blk_lt (g := gb126) (o := .cells #[.string a0_0, .int .i64 a0_1, .int .i64 a0_2, .int .i64 a0_3, .string a0_4] 24 (0, 0)) (by (with_reducible repeat ((refine blk_drewN ?_ _))); exact BK126.out)) : gb127 ≠ gb126)); clear BK126; clear HB; have BK126 := n0_; have HB := n1_; have BK127 := n2_; have GW127 := n3_; have GE127 := n4_; have NB126_127 := n5_; have NB127_126 := n6_; clear n0_ n1_ n2_ n3_ n4_ n5_ n6_; clear hb hbox hg; have hnb7 := NB126_127.out; have hnc7 := NB127_126.out; have hcz8_0 : w6.cell? ⟨gb126, 0, none⟩ = some (.string a0_0) := (blk_cell BK126.out 0).trans rfl; have hcz8_1 : w6.cell? ⟨gb126, 1, none⟩ = some (.int .i64 a0_1) := (blk_cell BK126.out 1).trans rfl; have hcz8_2 : w6.cell? ⟨gb126, 2, none⟩ = some (.int .i64 a0_2) := (blk_cell BK126.out 2).trans rfl; have hcz8_3 : w6.cell? ⟨gb126, 3, none⟩ = some (.int .i64 a0_3) := (blk_cell BK126.out 3).trans rfl; have hcz8_4 : w6.cell? ⟨gb126, 4, none⟩ = some (.string a0_4) := (blk_cell BK126.out 4).trans rfl; have hfz8_0 := blk_frozen BK126.out 0; have hfz8_1 := blk_frozen BK126.out 1; have hfz8_2 := blk_frozen BK126.out 2; have hfz8_3 := blk_frozen BK126.out 3; have hfz8_4 := blk_frozen BK126.out 4; have hcz9_0 : w6.cell? ⟨gb127, 0, none⟩ = some (.string a1_0) := (blk_cell BK127.out 0).trans rfl; have hcz9_1 : w6.cell? ⟨gb127, 1, none⟩ = some (.int .i64 a1_1) := (blk_cell BK127.out 1).trans rfl; have hcz9_2 : w6.cell? ⟨gb127, 2, none⟩ = some (.int .i64 a1_2) := (blk_cell BK127.out 2).trans rfl; have hcz9_3 : w6.cell? ⟨gb127, 3, none⟩ = some (.int .i64 a1_3) := (blk_cell BK127.out 3).trans rfl; have hcz9_4 : w6.cell? ⟨gb127, 4, none⟩ = some (.string a1_4) := (blk_cell BK127.out 4).trans rfl; have hfz9_0 := blk_frozen BK127.out 0; have hfz9_1 := blk_frozen BK127.out 1; have hfz9_2 := blk_frozen BK127.out 2; have hfz9_3 := blk_frozen BK127.out 3; have hfz9_4 := blk_frozen BK127.out 4) | ((with_reducible refine gate_callee (f := 27) rfl ?_); refine goesL_ (some 12) rfl rfl Try.func27 (by kernel_rfl) rfl #[.string a0_0, .string a1_0] rfl (by (try simp only [List.map_toArray, List.map_cons, List.map_nil]); rfl) ?_; (with_reducible refine (beadrollref07_Compare.calls k a0_0 a1_0 t128 _ A3.out).mono ?_); rintro e w10 ⟨rfl, hb⟩; refine ⟨_, rfl, ?_⟩; have n0_ := Aside0.mk (blk_below (g := gb126) (o := .cells #[.string a0_0, .int .i64 a0_1, .int .i64 a0_2, .int .i64 a0_3, .string a0_4] 24 (0, 0)) (by (with_reducible repeat ((refine blk_drewN ?_ _))); exact BK126.out) hb); have n1_ := Aside0.mk (blk_below (g := gb127) (o := .cells #[.string a1_0, .int .i64 a1_1, .int .i64 a1_2, .int .i64 a1_3, .string a1_4] 24 (0, 0)) (by (with_reducible repeat ((refine blk_drewN ?_ _))); exact BK127.out) hb); have n2_ := Aside0.mk (below_step (by repeat ((with_reducible (exact HB.out)))) hb); clear BK126; clear BK127; clear HB; have BK126 := n0_; have BK127 := n1_; have HB := n2_; clear n0_ n1_ n2_; (try clear hb)))
 go_cut [5] (fun v5 wc => ∃ (kq : Nat) (x5_3 : Int), v5 = .int .i64 x5_3 ∧ Aside0 (beadrollref11_Compare.j0 kq x5_3 a0_0 a0_1 a0_2 a0_3 a0_4 a1_0 a1_1 a1_2 a1_3 a1_4 = some r) ∧ Aside0 (kq ≤ k) ∧ Aside0 (wc.heap[gb126]? = some (.cells #[.string a0_0, .int .i64 a0_1, .int .i64 a0_2, .int .i64 a0_3, .string a0_4] 24 (0, 0))) ∧ Aside0 (wc.heap[gb127]? = some (.cells #[.string a1_0, .int .i64 a1_1, .int .i64 a1_2, .int .i64 a1_3, .string a1_4] 24 (0, 0))) ∧ Aside0 (Below w.heap.size w wc))
 case first =>
  have H := HC4.out
  clear HC4
  by_cases c11 : t128 = 0
  ·rw [if_pos c11] at H
   have c11b0 : (t128 == 0) = true := beq_iff_eq.mpr c11
   have c11b1 : (t128 != 0) = false := bne_eq_false_iff_eq.mpr c11
   clear c11
   ((rw [c11b0]))
   replace H := Option.bind_eq_some_iff.mp H
   obtain ⟨t129, A120, H⟩ := H
   replace H : (beadrollref11_Compare.j0 k t129 a0_0 a0_1 a0_2 a0_3 a0_4 a1_0 a1_1 a1_2 a1_3 a1_4) = some r := H
   have A12 := Aside0.mk A120
   clear A120
   have H' := Aside0.mk H
   clear H
   have hnb13 := NB126_127.out
   have hnc13 := NB127_126.out
   have hcz14_0 : w10.cell? ⟨gb126, 0, none⟩ = some (.string a0_0) := (blk_cell BK126.out 0).trans rfl
   have hcz14_1 : w10.cell? ⟨gb126, 1, none⟩ = some (.int .i64 a0_1) := (blk_cell BK126.out 1).trans rfl
   have hcz14_2 : w10.cell? ⟨gb126, 2, none⟩ = some (.int .i64 a0_2) := (blk_cell BK126.out 2).trans rfl
   have hcz14_3 : w10.cell? ⟨gb126, 3, none⟩ = some (.int .i64 a0_3) := (blk_cell BK126.out 3).trans rfl
   have hcz14_4 : w10.cell? ⟨gb126, 4, none⟩ = some (.string a0_4) := (blk_cell BK126.out 4).trans rfl
   have hfz14_0 := blk_frozen BK126.out 0
   have hfz14_1 := blk_frozen BK126.out 1
   have hfz14_2 := blk_frozen BK126.out 2
   have hfz14_3 := blk_frozen BK126.out 3
   have hfz14_4 := blk_frozen BK126.out 4
   have hcz15_0 : w10.cell? ⟨gb127, 0, none⟩ = some (.string a1_0) := (blk_cell BK127.out 0).trans rfl
   have hcz15_1 : w10.cell? ⟨gb127, 1, none⟩ = some (.int .i64 a1_1) := (blk_cell BK127.out 1).trans rfl
   have hcz15_2 : w10.cell? ⟨gb127, 2, none⟩ = some (.int .i64 a1_2) := (blk_cell BK127.out 2).trans rfl
   have hcz15_3 : w10.cell? ⟨gb127, 3, none⟩ = some (.int .i64 a1_3) := (blk_cell BK127.out 3).trans rfl
   have hcz15_4 : w10.cell? ⟨gb127, 4, none⟩ = some (.string a1_4) := (blk_cell BK127.out 4).trans rfl
   have hfz15_0 := blk_frozen BK127.out 0
   have hfz15_1 := blk_frozen BK127.out 1
   have hfz15_2 := blk_frozen BK127.out 2
   have hfz15_3 := blk_frozen BK127.out 3
   have hfz15_4 := blk_frozen BK127.out 4
   go_wp2_with ((((with_reducible refine gate_callee (f := 28) rfl ?_); refine goesL_ (some 19) rfl rfl Try.func28 (by kernel_rfl) rfl #[.int .i64 a0_1, .int .i64 a1_1] rfl (by (try simp only [List.map_toArray, List.map_cons, List.map_nil]); rfl) ?_; (with_reducible refine (beadrollref11_sign.calls a0_1 a1_1 t129 _ A12.out).mono ?_); rintro e w' ⟨rfl, ⟨nd, rfl⟩⟩; refine ⟨_, rfl, ?_⟩)))
   go_meet
   case rel => exact ⟨_, (t129), (by rfl), H', ⟨by omega⟩, ⟨by (with_reducible repeat ((refine blk_drewN ?_ _))); exact BK126.out⟩, ⟨by (with_reducible repeat ((refine blk_drewN ?_ _))); exact BK127.out⟩, ⟨by repeat ((with_reducible first | exact HB.out | apply pw_below_drewN))⟩⟩
  ·rw [if_neg c11] at H
   have c11b0 : (t128 == 0) = false := beq_eq_false_iff_ne.mpr c11
   have c11b1 : (t128 != 0) = true := bne_iff_ne.mpr c11
   ((rw [c11b0]))
   have H' := Aside0.mk H
   clear H
   go_wp2
   go_meet
   case rel => exact ⟨_, (t128), (by rfl), H', ⟨by omega⟩, ⟨by (with_reducible repeat ((refine blk_drewN ?_ _))); exact BK126.out⟩, ⟨by (with_reducible repeat ((refine blk_drewN ?_ _))); exact BK127.out⟩, ⟨by repeat ((with_reducible (exact HB.out)))⟩⟩
 case rest =>
  clear HC4
  (try clear hcz8_0)
  (try clear hcz8_1)
  (try clear hcz8_2)
  (try clear hcz8_3)
  (try clear hcz8_4)
  (try clear hcz9_0)
  (try clear hcz9_1)
  (try clear hcz9_2)
  (try clear hcz9_3)
  (try clear hcz9_4)
  (try clear hfz8_0)
  (try clear hfz8_1)
  (try clear hfz8_2)
  (try clear hfz8_3)
  (try clear hfz8_4)
  (try clear hfz9_0)
  (try clear hfz9_1)
  (try clear hfz9_2)
  (try clear hfz9_3)
  (try clear hfz9_4)
  obtain ⟨kq, x5_3, rfl, HA, HJ3, BK126, BK127, HB⟩ := hcut
  cases kq with
  | zero => exact absurd HA.out (by simp [beadrollref11_Compare.j0])
  | succ kj3 =>
   have H := HA.out
   clear HA
   simp only [beadrollref11_Compare.j0] at H
   have HC16 := Aside0.mk H
   clear H
   go_upto_if 21 with (fail)
   go_cut [5] (fun v5 wc => ∃ (kq : Nat) (x5_15 : Int), v5 = .int .i64 x5_15 ∧ Aside0 (beadrollref11_Compare.j1 kq x5_15 a0_0 a0_1 a0_2 a0_3 a0_4 a1_0 a1_1 a1_2 a1_3 a1_4 = some r) ∧ Aside0 (kq ≤ kj3) ∧ Aside0 (wc.heap[gb126]? = some (.cells #[.string a0_0, .int .i64 a0_1, .int .i64 a0_2, .int .i64 a0_3, .string a0_4] 24 (0, 0))) ∧ Aside0 (wc.heap[gb127]? = some (.cells #[.string a1_0, .int .i64 a1_1, .int .i64 a1_2, .int .i64 a1_3, .string a1_4] 24 (0, 0))) ∧ Aside0 (Below w.heap.size w wc))
   case first =>
    have H := HC16.out
    clear HC16
    by_cases c17 : x5_3 = 0
    ·rw [if_pos c17] at H
     have c17b0 : (x5_3 == 0) = true := beq_iff_eq.mpr c17
     have c17b1 : (x5_3 != 0) = false := bne_eq_false_iff_eq.mpr c17
     clear c17
     ((rw [c17b0]))
     replace H := Option.bind_eq_some_iff.mp H
     obtain ⟨t130, A180, H⟩ := H
     replace H : (beadrollref11_Compare.j1 kj3 t130 a0_0 a0_1 a0_2 a0_3 a0_4 a1_0 a1_1 a1_2 a1_3 a1_4) = some r := H
     have A18 := Aside0.mk A180
     clear A180
     have H' := Aside0.mk H
     clear H
     have hnb19 := NB126_127.out
     have hnc19 := NB127_126.out
     have hcz20_0 : wc.cell? ⟨gb126, 0, none⟩ = some (.string a0_0) := (blk_cell BK126.out 0).trans rfl
     have hcz20_1 : wc.cell? ⟨gb126, 1, none⟩ = some (.int .i64 a0_1) := (blk_cell BK126.out 1).trans rfl
     have hcz20_2 : wc.cell? ⟨gb126, 2, none⟩ = some (.int .i64 a0_2) := (blk_cell BK126.out 2).trans rfl
     have hcz20_3 : wc.cell? ⟨gb126, 3, none⟩ = some (.int .i64 a0_3) := (blk_cell BK126.out 3).trans rfl
     have hcz20_4 : wc.cell? ⟨gb126, 4, none⟩ = some (.string a0_4) := (blk_cell BK126.out 4).trans rfl
     have hfz20_0 := blk_frozen BK126.out 0
     have hfz20_1 := blk_frozen BK126.out 1
     have hfz20_2 := blk_frozen BK126.out 2
     have hfz20_3 := blk_frozen BK126.out 3
     have hfz20_4 := blk_frozen BK126.out 4
     have hcz21_0 : wc.cell? ⟨gb127, 0, none⟩ = some (.string a1_0) := (blk_cell BK127.out 0).trans rfl
     have hcz21_1 : wc.cell? ⟨gb127, 1, none⟩ = some (.int .i64 a1_1) := (blk_cell BK127.out 1).trans rfl
     have hcz21_2 : wc.cell? ⟨gb127, 2, none⟩ = some (.int .i64 a1_2) := (blk_cell BK127.out 2).trans rfl
     have hcz21_3 : wc.cell? ⟨gb127, 3, none⟩ = some (.int .i64 a1_3) := (blk_cell BK127.out 3).trans rfl
     have hcz21_4 : wc.cell? ⟨gb127, 4, none⟩ = some (.string a1_4) := (blk_cell BK127.out 4).trans rfl
     have hfz21_0 := blk_frozen BK127.out 0
     have hfz21_1 := blk_frozen BK127.out 1
     have hfz21_2 := blk_frozen BK127.out 2
     have hfz21_3 := blk_frozen BK127.out 3
     have hfz21_4 := blk_frozen BK127.out 4
     go_wp2_with ((((with_reducible refine gate_callee (f := 28) rfl ?_); refine goesL_ (some 26) rfl rfl Try.func28 (by kernel_rfl) rfl #[.int .i64 a0_2, .int .i64 a1_2] rfl (by (try simp only [List.map_toArray, List.map_cons, List.map_nil]); rfl) ?_; (with_reducible refine (beadrollref11_sign.calls a0_2 a1_2 t130 _ A18.out).mono ?_); rintro e w' ⟨rfl, ⟨nd, rfl⟩⟩; refine ⟨_, rfl, ?_⟩)))
     go_meet
     case rel => exact ⟨_, (t130), (by rfl), H', ⟨by have := HJ3.out; omega⟩, ⟨by (with_reducible repeat ((refine blk_drewN ?_ _))); exact BK126.out⟩, ⟨by (with_reducible repeat ((refine blk_drewN ?_ _))); exact BK127.out⟩, ⟨by repeat ((with_reducible first | exact HB.out | apply pw_below_drewN))⟩⟩
    ·rw [if_neg c17] at H
     have c17b0 : (x5_3 == 0) = false := beq_eq_false_iff_ne.mpr c17
     have c17b1 : (x5_3 != 0) = true := bne_iff_ne.mpr c17
     ((rw [c17b0]))
     have H' := Aside0.mk H
     clear H
     go_wp2
     go_meet
     case rel => exact ⟨_, (x5_3), (by rfl), H', ⟨by have := HJ3.out; omega⟩, ⟨by (with_reducible repeat ((refine blk_drewN ?_ _))); exact BK126.out⟩, ⟨by (with_reducible repeat ((refine blk_drewN ?_ _))); exact BK127.out⟩, ⟨by repeat ((with_reducible (exact HB.out)))⟩⟩
   case rest =>
    clear HC16
    obtain ⟨kq, x5_15, rfl, HA, HJ15, BK126, BK127, HB⟩ := hcut
    cases kq with
    | zero => exact absurd HA.out (by simp [beadrollref11_Compare.j1])
    | succ kj15 =>
     have H := HA.out
     clear HA
     simp only [beadrollref11_Compare.j1] at H
     by_cases c22 : x5_15 = 0
     ·rw [if_pos c22] at H
      have c22b0 : (x5_15 == 0) = true := beq_iff_eq.mpr c22
      have c22b1 : (x5_15 != 0) = false := bne_eq_false_iff_eq.mpr c22
      clear c22
      replace H := Option.bind_eq_some_iff.mp H
      obtain ⟨t131, A230, H⟩ := H
      replace H : ((beadrollref11_Said.f kj15 a1_0 a1_1 a1_2 a1_3 a1_4).bind fun t132 => (if (Op.bytesLess t131.toList t132.toList) = true then (some (-1)) else (if (Op.bytesLess t132.toList t131.toList) = true then (some 1) else (some 0)))) = some r := H
      have A23 := Aside0.mk A230
      clear A230
      replace H := Option.bind_eq_some_iff.mp H
      obtain ⟨t132, A240, H⟩ := H
      replace H : (if (Op.bytesLess t131.toList t132.toList) = true then (some (-1)) else (if (Op.bytesLess t132.toList t131.toList) = true then (some 1) else (some 0))) = some r := H
      have A24 := Aside0.mk A240
      clear A240
      by_cases c25 : (Op.bytesLess t131.toList t132.toList) = true
      ·rw [if_pos c25] at H
       have c25b0 : (Op.bytesLess t131.toList t132.toList) = true := c25
       have c25b8 : (t132.toList == t131.toList) = false := less_ne c25b0
       clear c25
       obtain rfl := Option.some.inj H
       (try go_wp2)
       have n0_ := Aside0.mk (blk_drew BK126.out)
       have n1_ := Aside0.mk (blk_drew BK127.out)
       have n2_ := Aside0.mk (below_drew1 HB.out)
       clear BK126
       clear BK127
       clear HB
       have BK126 := n0_
       have BK127 := n1_
       have HB := n2_
       clear n0_ n1_ n2_
       refine start_ (n := 6) (S := fun w' => w'.cell? ⟨gb126, 0, none⟩ = some (.string a0_0) ∧ w'.cell? ⟨gb126, 1, none⟩ = some (.int .i64 a0_1) ∧ w'.cell? ⟨gb126, 2, none⟩ = some (.int .i64 a0_2) ∧ w'.cell? ⟨gb126, 3, none⟩ = some (.int .i64 a0_3) ∧ w'.cell? ⟨gb126, 4, none⟩ = some (.string a0_4) ∧ w'.cell? ⟨gb127, 0, none⟩ = some (.string a1_0) ∧ w'.cell? ⟨gb127, 1, none⟩ = some (.int .i64 a1_1) ∧ w'.cell? ⟨gb127, 2, none⟩ = some (.int .i64 a1_2) ∧ w'.cell? ⟨gb127, 3, none⟩ = some (.int .i64 a1_3) ∧ w'.cell? ⟨gb127, 4, none⟩ = some (.string a1_4)) (ds := []) #[false, false, false, false, false, false] (by kernel_rfl) rfl rfl ⟨(blk_cell BK126.out 0).trans rfl, (blk_cell BK126.out 1).trans rfl, (blk_cell BK126.out 2).trans rfl, (blk_cell BK126.out 3).trans rfl, (blk_cell BK126.out 4).trans rfl, (blk_cell BK127.out 0).trans rfl, (blk_cell BK127.out 1).trans rfl, (blk_cell BK127.out 2).trans rfl, (blk_cell BK127.out 3).trans rfl, (blk_cell BK127.out 4).trans rfl⟩ (fun hHeld => ?_)
       generalize wc.drew = w26 at BK126 BK127 HB hHeld ⊢
       refine take_ (i := 0) (N := some 30) (v := ?_) (a' := ?_) #[true, false, false, false, false, false] rfl rfl (by kernel_rfl) (fun _ _ _ h => h) (Or.inl ⟨by rfl, ?_⟩) hHeld ?_ ?_
       rotate_left
       ·rintro w' ⟨s0, s1, s2, s3, s4, s5, s6, s7, s8, s9⟩
        go_simp
        with_reducible rfl
       rotate_left
       ·simp only [Act.put, List.setIfInBounds_toArray, List.set_cons_zero, List.set_cons_succ, i64_w, i32_w]
        rfl
       refine take_ (i := 2) (N := some 32) (v := ?_) (a' := ?_) #[true, false, true, false, false, false] rfl rfl (by kernel_rfl) (fun _ _ _ h => h) (Or.inl ⟨by rfl, ?_⟩) hHeld ?_ ?_
       rotate_left
       ·rintro w' ⟨s0, s1, s2, s3, s4, s5, s6, s7, s8, s9⟩
        go_simp
        with_reducible rfl
       rotate_left
       ·simp only [Act.put, List.setIfInBounds_toArray, List.set_cons_zero, List.set_cons_succ, i64_w, i32_w]
        rfl
       refine one_ (i := 1) (N := some 31) #[true, true, true, false, false, false] rfl rfl (by kernel_rfl) (by decide) (fun K hK => ?_)
       refine goes_ Try.func29 (by kernel_rfl) rfl #[.agg #[.string a0_0, .int .i64 a0_1, .int .i64 a0_2, .int .i64 a0_3, .string a0_4]] (by rfl) rfl rfl (by (try simp only [List.map_toArray, List.map_cons, List.map_nil]); rfl) ?_
       with_reducible refine (beadrollref11_Said.calls kj15 a0_0 a0_1 a0_2 a0_3 a0_4 t131 _ A23.out).mono ?_
       rintro e w27 ⟨rfl, hb⟩
       refine ⟨_, rfl, ?_⟩
       have n0_ := Aside0.mk (blk_below (g := gb126) (o := .cells #[.string a0_0, .int .i64 a0_1, .int .i64 a0_2, .int .i64 a0_3, .string a0_4] 24 (0, 0)) (by (with_reducible repeat ((refine blk_drewN ?_ _))); exact BK126.out) hb)
       have n1_ := Aside0.mk (blk_below (g := gb127) (o := .cells #[.string a1_0, .int .i64 a1_1, .int .i64 a1_2, .int .i64 a1_3, .string a1_4] 24 (0, 0)) (by (with_reducible repeat ((refine blk_drewN ?_ _))); exact BK127.out) hb)
       have n2_ := Aside0.mk (below_step (by repeat ((with_reducible (exact HB.out)))) hb)
       clear BK126
       clear BK127
       clear HB
       have BK126 := n0_
       have BK127 := n1_
       have HB := n2_
       clear n0_ n1_ n2_
       (try clear hb)
       refine hK.out _ _ ⟨(blk_cell BK126.out 0).trans rfl, (blk_cell BK126.out 1).trans rfl, (blk_cell BK126.out 2).trans rfl, (blk_cell BK126.out 3).trans rfl, (blk_cell BK126.out 4).trans rfl, (blk_cell BK127.out 0).trans rfl, (blk_cell BK127.out 1).trans rfl, (blk_cell BK127.out 2).trans rfl, (blk_cell BK127.out 3).trans rfl, (blk_cell BK127.out 4).trans rfl⟩ (fun hHeld => ?_)
       clear hK K
       refine norm_ (a' := ?_) ?_ ?_
       rotate_left
       ·show Act.put _ (some 31) _ = _
        simp only [Act.put, List.setIfInBounds_toArray, List.set_cons_zero, List.set_cons_succ, i64_w, i32_w]
        rfl
       refine one_ (i := 3) (N := some 33) #[true, true, true, true, false, false] rfl rfl (by kernel_rfl) (by decide) (fun K hK => ?_)
       refine goes_ Try.func29 (by kernel_rfl) rfl #[.agg #[.string a1_0, .int .i64 a1_1, .int .i64 a1_2, .int .i64 a1_3, .string a1_4]] (by rfl) rfl rfl (by (try simp only [List.map_toArray, List.map_cons, List.map_nil]); rfl) ?_
       with_reducible refine (beadrollref11_Said.calls kj15 a1_0 a1_1 a1_2 a1_3 a1_4 t132 _ A24.out).mono ?_
       rintro e w28 ⟨rfl, hb⟩
       refine ⟨_, rfl, ?_⟩
       have n0_ := Aside0.mk (blk_below (g := gb126) (o := .cells #[.string a0_0, .int .i64 a0_1, .int .i64 a0_2, .int .i64 a0_3, .string a0_4] 24 (0, 0)) (by (with_reducible repeat ((refine blk_drewN ?_ _))); exact BK126.out) hb)
       have n1_ := Aside0.mk (blk_below (g := gb127) (o := .cells #[.string a1_0, .int .i64 a1_1, .int .i64 a1_2, .int .i64 a1_3, .string a1_4] 24 (0, 0)) (by (with_reducible repeat ((refine blk_drewN ?_ _))); exact BK127.out) hb)
       have n2_ := Aside0.mk (below_step (by repeat ((with_reducible (exact HB.out)))) hb)
       clear BK126
       clear BK127
       clear HB
       have BK126 := n0_
       have BK127 := n1_
       have HB := n2_
       clear n0_ n1_ n2_
       (try clear hb)
       refine hK.out _ _ ⟨(blk_cell BK126.out 0).trans rfl, (blk_cell BK126.out 1).trans rfl, (blk_cell BK126.out 2).trans rfl, (blk_cell BK126.out 3).trans rfl, (blk_cell BK126.out 4).trans rfl, (blk_cell BK127.out 0).trans rfl, (blk_cell BK127.out 1).trans rfl, (blk_cell BK127.out 2).trans rfl, (blk_cell BK127.out 3).trans rfl, (blk_cell BK127.out 4).trans rfl⟩ (fun hHeld => ?_)
       clear hK K
       refine norm_ (a' := ?_) ?_ ?_
       rotate_left
       ·show Act.put _ (some 33) _ = _
        simp only [Act.put, List.setIfInBounds_toArray, List.set_cons_zero, List.set_cons_succ, i64_w, i32_w]
        rfl
       refine pure_ (i := 4) (N := some 6) (v := ?_) (a' := ?_) #[true, true, true, true, true, false] rfl rfl (by kernel_rfl) (fun _ _ _ h => h) (Or.inl ⟨by rfl, ?_⟩) ?_ ?_
       rotate_left
       ·intro w'
        go_simp
        with_reducible rfl
       rotate_left
       ·simp only [Act.put, List.setIfInBounds_toArray, List.set_cons_zero, List.set_cons_succ, i64_w, i32_w]
        rfl
       refine pure_ (i := 5) (N := some 7) (v := ?_) (a' := ?_) #[true, true, true, true, true, true] rfl rfl (by kernel_rfl) (fun _ _ _ h => h) (Or.inl ⟨by rfl, ?_⟩) ?_ ?_
       rotate_left
       ·intro w'
        go_simp
        with_reducible rfl
       rotate_left
       ·simp only [Act.put, List.setIfInBounds_toArray, List.set_cons_zero, List.set_cons_succ, i64_w, i32_w]
        rfl
       refine done_ (by kernel_rfl) ?_
       (try go_wp2)
       go_ret
       exact ⟨by rfl, by repeat ((with_reducible (exact HB.out)))⟩
      ·rw [if_neg c25] at H
       have c25b0 : (Op.bytesLess t131.toList t132.toList) = false := by simpa using c25
       clear c25
       by_cases c29 : (Op.bytesLess t132.toList t131.toList) = true
       ·rw [if_pos c29] at H
        have c29b0 : (Op.bytesLess t132.toList t131.toList) = true := c29
        have c29b8 : (t131.toList == t132.toList) = false := less_ne c29b0
        clear c29
        obtain rfl := Option.some.inj H
        (try go_wp2)
        have n0_ := Aside0.mk (blk_drew BK126.out)
        have n1_ := Aside0.mk (blk_drew BK127.out)
        have n2_ := Aside0.mk (below_drew1 HB.out)
        clear BK126
        clear BK127
        clear HB
        have BK126 := n0_
        have BK127 := n1_
        have HB := n2_
        clear n0_ n1_ n2_
        refine start_ (n := 6) (S := fun w' => w'.cell? ⟨gb126, 0, none⟩ = some (.string a0_0) ∧ w'.cell? ⟨gb126, 1, none⟩ = some (.int .i64 a0_1) ∧ w'.cell? ⟨gb126, 2, none⟩ = some (.int .i64 a0_2) ∧ w'.cell? ⟨gb126, 3, none⟩ = some (.int .i64 a0_3) ∧ w'.cell? ⟨gb126, 4, none⟩ = some (.string a0_4) ∧ w'.cell? ⟨gb127, 0, none⟩ = some (.string a1_0) ∧ w'.cell? ⟨gb127, 1, none⟩ = some (.int .i64 a1_1) ∧ w'.cell? ⟨gb127, 2, none⟩ = some (.int .i64 a1_2) ∧ w'.cell? ⟨gb127, 3, none⟩ = some (.int .i64 a1_3) ∧ w'.cell? ⟨gb127, 4, none⟩ = some (.string a1_4)) (ds := []) #[false, false, false, false, false, false] (by kernel_rfl) rfl rfl ⟨(blk_cell BK126.out 0).trans rfl, (blk_cell BK126.out 1).trans rfl, (blk_cell BK126.out 2).trans rfl, (blk_cell BK126.out 3).trans rfl, (blk_cell BK126.out 4).trans rfl, (blk_cell BK127.out 0).trans rfl, (blk_cell BK127.out 1).trans rfl, (blk_cell BK127.out 2).trans rfl, (blk_cell BK127.out 3).trans rfl, (blk_cell BK127.out 4).trans rfl⟩ (fun hHeld => ?_)
        generalize wc.drew = w30 at BK126 BK127 HB hHeld ⊢
        refine take_ (i := 0) (N := some 30) (v := ?_) (a' := ?_) #[true, false, false, false, false, false] rfl rfl (by kernel_rfl) (fun _ _ _ h => h) (Or.inl ⟨by rfl, ?_⟩) hHeld ?_ ?_
        rotate_left
        ·rintro w' ⟨s0, s1, s2, s3, s4, s5, s6, s7, s8, s9⟩
         go_simp
         with_reducible rfl
        rotate_left
        ·simp only [Act.put, List.setIfInBounds_toArray, List.set_cons_zero, List.set_cons_succ, i64_w, i32_w]
         rfl
        refine take_ (i := 2) (N := some 32) (v := ?_) (a' := ?_) #[true, false, true, false, false, false] rfl rfl (by kernel_rfl) (fun _ _ _ h => h) (Or.inl ⟨by rfl, ?_⟩) hHeld ?_ ?_
        rotate_left
        ·rintro w' ⟨s0, s1, s2, s3, s4, s5, s6, s7, s8, s9⟩
         go_simp
         with_reducible rfl
        rotate_left
        ·simp only [Act.put, List.setIfInBounds_toArray, List.set_cons_zero, List.set_cons_succ, i64_w, i32_w]
         rfl
        refine one_ (i := 1) (N := some 31) #[true, true, true, false, false, false] rfl rfl (by kernel_rfl) (by decide) (fun K hK => ?_)
        refine goes_ Try.func29 (by kernel_rfl) rfl #[.agg #[.string a0_0, .int .i64 a0_1, .int .i64 a0_2, .int .i64 a0_3, .string a0_4]] (by rfl) rfl rfl (by (try simp only [List.map_toArray, List.map_cons, List.map_nil]); rfl) ?_
        with_reducible refine (beadrollref11_Said.calls kj15 a0_0 a0_1 a0_2 a0_3 a0_4 t131 _ A23.out).mono ?_
        rintro e w31 ⟨rfl, hb⟩
        refine ⟨_, rfl, ?_⟩
        have n0_ := Aside0.mk (blk_below (g := gb126) (o := .cells #[.string a0_0, .int .i64 a0_1, .int .i64 a0_2, .int .i64 a0_3, .string a0_4] 24 (0, 0)) (by (with_reducible repeat ((refine blk_drewN ?_ _))); exact BK126.out) hb)
        have n1_ := Aside0.mk (blk_below (g := gb127) (o := .cells #[.string a1_0, .int .i64 a1_1, .int .i64 a1_2, .int .i64 a1_3, .string a1_4] 24 (0, 0)) (by (with_reducible repeat ((refine blk_drewN ?_ _))); exact BK127.out) hb)
        have n2_ := Aside0.mk (below_step (by repeat ((with_reducible (exact HB.out)))) hb)
        clear BK126
        clear BK127
        clear HB
        have BK126 := n0_
        have BK127 := n1_
        have HB := n2_
        clear n0_ n1_ n2_
        (try clear hb)
        refine hK.out _ _ ⟨(blk_cell BK126.out 0).trans rfl, (blk_cell BK126.out 1).trans rfl, (blk_cell BK126.out 2).trans rfl, (blk_cell BK126.out 3).trans rfl, (blk_cell BK126.out 4).trans rfl, (blk_cell BK127.out 0).trans rfl, (blk_cell BK127.out 1).trans rfl, (blk_cell BK127.out 2).trans rfl, (blk_cell BK127.out 3).trans rfl, (blk_cell BK127.out 4).trans rfl⟩ (fun hHeld => ?_)
        clear hK K
        refine norm_ (a' := ?_) ?_ ?_
        rotate_left
        ·show Act.put _ (some 31) _ = _
         simp only [Act.put, List.setIfInBounds_toArray, List.set_cons_zero, List.set_cons_succ, i64_w, i32_w]
         rfl
        refine one_ (i := 3) (N := some 33) #[true, true, true, true, false, false] rfl rfl (by kernel_rfl) (by decide) (fun K hK => ?_)
        refine goes_ Try.func29 (by kernel_rfl) rfl #[.agg #[.string a1_0, .int .i64 a1_1, .int .i64 a1_2, .int .i64 a1_3, .string a1_4]] (by rfl) rfl rfl (by (try simp only [List.map_toArray, List.map_cons, List.map_nil]); rfl) ?_
        with_reducible refine (beadrollref11_Said.calls kj15 a1_0 a1_1 a1_2 a1_3 a1_4 t132 _ A24.out).mono ?_
        rintro e w32 ⟨rfl, hb⟩
        refine ⟨_, rfl, ?_⟩
        have n0_ := Aside0.mk (blk_below (g := gb126) (o := .cells #[.string a0_0, .int .i64 a0_1, .int .i64 a0_2, .int .i64 a0_3, .string a0_4] 24 (0, 0)) (by (with_reducible repeat ((refine blk_drewN ?_ _))); exact BK126.out) hb)
        have n1_ := Aside0.mk (blk_below (g := gb127) (o := .cells #[.string a1_0, .int .i64 a1_1, .int .i64 a1_2, .int .i64 a1_3, .string a1_4] 24 (0, 0)) (by (with_reducible repeat ((refine blk_drewN ?_ _))); exact BK127.out) hb)
        have n2_ := Aside0.mk (below_step (by repeat ((with_reducible (exact HB.out)))) hb)
        clear BK126
        clear BK127
        clear HB
        have BK126 := n0_
        have BK127 := n1_
        have HB := n2_
        clear n0_ n1_ n2_
        (try clear hb)
        refine hK.out _ _ ⟨(blk_cell BK126.out 0).trans rfl, (blk_cell BK126.out 1).trans rfl, (blk_cell BK126.out 2).trans rfl, (blk_cell BK126.out 3).trans rfl, (blk_cell BK126.out 4).trans rfl, (blk_cell BK127.out 0).trans rfl, (blk_cell BK127.out 1).trans rfl, (blk_cell BK127.out 2).trans rfl, (blk_cell BK127.out 3).trans rfl, (blk_cell BK127.out 4).trans rfl⟩ (fun hHeld => ?_)
        clear hK K
        refine norm_ (a' := ?_) ?_ ?_
        rotate_left
        ·show Act.put _ (some 33) _ = _
         simp only [Act.put, List.setIfInBounds_toArray, List.set_cons_zero, List.set_cons_succ, i64_w, i32_w]
         rfl
        refine pure_ (i := 4) (N := some 6) (v := ?_) (a' := ?_) #[true, true, true, true, true, false] rfl rfl (by kernel_rfl) (fun _ _ _ h => h) (Or.inl ⟨by rfl, ?_⟩) ?_ ?_
        rotate_left
        ·intro w'
         go_simp
         with_reducible rfl
        rotate_left
        ·simp only [Act.put, List.setIfInBounds_toArray, List.set_cons_zero, List.set_cons_succ, i64_w, i32_w]
         rfl
        refine pure_ (i := 5) (N := some 7) (v := ?_) (a' := ?_) #[true, true, true, true, true, true] rfl rfl (by kernel_rfl) (fun _ _ _ h => h) (Or.inl ⟨by rfl, ?_⟩) ?_ ?_
        rotate_left
        ·intro w'
         go_simp
         with_reducible rfl
        rotate_left
        ·simp only [Act.put, List.setIfInBounds_toArray, List.set_cons_zero, List.set_cons_succ, i64_w, i32_w]
         rfl
        refine done_ (by kernel_rfl) ?_
        (try go_wp2)
        go_ret
        exact ⟨by rfl, by repeat ((with_reducible (exact HB.out)))⟩
       ·rw [if_neg c29] at H
        have c29b0 : (Op.bytesLess t132.toList t131.toList) = false := by simpa using c29
        (try have c29b8 : (t131.toList == t132.toList) = true := less_eq (by assumption) c29b0)
        clear c29
        obtain rfl := Option.some.inj H
        (try go_wp2)
        have n0_ := Aside0.mk (blk_drew BK126.out)
        have n1_ := Aside0.mk (blk_drew BK127.out)
        have n2_ := Aside0.mk (below_drew1 HB.out)
        clear BK126
        clear BK127
        clear HB
        have BK126 := n0_
        have BK127 := n1_
        have HB := n2_
        clear n0_ n1_ n2_
        refine start_ (n := 6) (S := fun w' => w'.cell? ⟨gb126, 0, none⟩ = some (.string a0_0) ∧ w'.cell? ⟨gb126, 1, none⟩ = some (.int .i64 a0_1) ∧ w'.cell? ⟨gb126, 2, none⟩ = some (.int .i64 a0_2) ∧ w'.cell? ⟨gb126, 3, none⟩ = some (.int .i64 a0_3) ∧ w'.cell? ⟨gb126, 4, none⟩ = some (.string a0_4) ∧ w'.cell? ⟨gb127, 0, none⟩ = some (.string a1_0) ∧ w'.cell? ⟨gb127, 1, none⟩ = some (.int .i64 a1_1) ∧ w'.cell? ⟨gb127, 2, none⟩ = some (.int .i64 a1_2) ∧ w'.cell? ⟨gb127, 3, none⟩ = some (.int .i64 a1_3) ∧ w'.cell? ⟨gb127, 4, none⟩ = some (.string a1_4)) (ds := []) #[false, false, false, false, false, false] (by kernel_rfl) rfl rfl ⟨(blk_cell BK126.out 0).trans rfl, (blk_cell BK126.out 1).trans rfl, (blk_cell BK126.out 2).trans rfl, (blk_cell BK126.out 3).trans rfl, (blk_cell BK126.out 4).trans rfl, (blk_cell BK127.out 0).trans rfl, (blk_cell BK127.out 1).trans rfl, (blk_cell BK127.out 2).trans rfl, (blk_cell BK127.out 3).trans rfl, (blk_cell BK127.out 4).trans rfl⟩ (fun hHeld => ?_)
        generalize wc.drew = w33 at BK126 BK127 HB hHeld ⊢
        refine take_ (i := 0) (N := some 30) (v := ?_) (a' := ?_) #[true, false, false, false, false, false] rfl rfl (by kernel_rfl) (fun _ _ _ h => h) (Or.inl ⟨by rfl, ?_⟩) hHeld ?_ ?_
        rotate_left
        ·rintro w' ⟨s0, s1, s2, s3, s4, s5, s6, s7, s8, s9⟩
         go_simp
         with_reducible rfl
        rotate_left
        ·simp only [Act.put, List.setIfInBounds_toArray, List.set_cons_zero, List.set_cons_succ, i64_w, i32_w]
         rfl
        refine take_ (i := 2) (N := some 32) (v := ?_) (a' := ?_) #[true, false, true, false, false, false] rfl rfl (by kernel_rfl) (fun _ _ _ h => h) (Or.inl ⟨by rfl, ?_⟩) hHeld ?_ ?_
        rotate_left
        ·rintro w' ⟨s0, s1, s2, s3, s4, s5, s6, s7, s8, s9⟩
         go_simp
         with_reducible rfl
        rotate_left
        ·simp only [Act.put, List.setIfInBounds_toArray, List.set_cons_zero, List.set_cons_succ, i64_w, i32_w]
         rfl
        refine one_ (i := 1) (N := some 31) #[true, true, true, false, false, false] rfl rfl (by kernel_rfl) (by decide) (fun K hK => ?_)
        refine goes_ Try.func29 (by kernel_rfl) rfl #[.agg #[.string a0_0, .int .i64 a0_1, .int .i64 a0_2, .int .i64 a0_3, .string a0_4]] (by rfl) rfl rfl (by (try simp only [List.map_toArray, List.map_cons, List.map_nil]); rfl) ?_
        with_reducible refine (beadrollref11_Said.calls kj15 a0_0 a0_1 a0_2 a0_3 a0_4 t131 _ A23.out).mono ?_
        rintro e w34 ⟨rfl, hb⟩
        refine ⟨_, rfl, ?_⟩
        have n0_ := Aside0.mk (blk_below (g := gb126) (o := .cells #[.string a0_0, .int .i64 a0_1, .int .i64 a0_2, .int .i64 a0_3, .string a0_4] 24 (0, 0)) (by (with_reducible repeat ((refine blk_drewN ?_ _))); exact BK126.out) hb)
        have n1_ := Aside0.mk (blk_below (g := gb127) (o := .cells #[.string a1_0, .int .i64 a1_1, .int .i64 a1_2, .int .i64 a1_3, .string a1_4] 24 (0, 0)) (by (with_reducible repeat ((refine blk_drewN ?_ _))); exact BK127.out) hb)
        have n2_ := Aside0.mk (below_step (by repeat ((with_reducible (exact HB.out)))) hb)
        clear BK126
        clear BK127
        clear HB
        have BK126 := n0_
        have BK127 := n1_
        have HB := n2_
        clear n0_ n1_ n2_
        (try clear hb)
        refine hK.out _ _ ⟨(blk_cell BK126.out 0).trans rfl, (blk_cell BK126.out 1).trans rfl, (blk_cell BK126.out 2).trans rfl, (blk_cell BK126.out 3).trans rfl, (blk_cell BK126.out 4).trans rfl, (blk_cell BK127.out 0).trans rfl, (blk_cell BK127.out 1).trans rfl, (blk_cell BK127.out 2).trans rfl, (blk_cell BK127.out 3).trans rfl, (blk_cell BK127.out 4).trans rfl⟩ (fun hHeld => ?_)
        clear hK K
        refine norm_ (a' := ?_) ?_ ?_
        rotate_left
        ·show Act.put _ (some 31) _ = _
         simp only [Act.put, List.setIfInBounds_toArray, List.set_cons_zero, List.set_cons_succ, i64_w, i32_w]
         rfl
        refine one_ (i := 3) (N := some 33) #[true, true, true, true, false, false] rfl rfl (by kernel_rfl) (by decide) (fun K hK => ?_)
        refine goes_ Try.func29 (by kernel_rfl) rfl #[.agg #[.string a1_0, .int .i64 a1_1, .int .i64 a1_2, .int .i64 a1_3, .string a1_4]] (by rfl) rfl rfl (by (try simp only [List.map_toArray, List.map_cons, List.map_nil]); rfl) ?_
        with_reducible refine (beadrollref11_Said.calls kj15 a1_0 a1_1 a1_2 a1_3 a1_4 t132 _ A24.out).mono ?_
        rintro e w35 ⟨rfl, hb⟩
        refine ⟨_, rfl, ?_⟩
        have n0_ := Aside0.mk (blk_below (g := gb126) (o := .cells #[.string a0_0, .int .i64 a0_1, .int .i64 a0_2, .int .i64 a0_3, .string a0_4] 24 (0, 0)) (by (with_reducible repeat ((refine blk_drewN ?_ _))); exact BK126.out) hb)
        have n1_ := Aside0.mk (blk_below (g := gb127) (o := .cells #[.string a1_0, .int .i64 a1_1, .int .i64 a1_2, .int .i64 a1_3, .string a1_4] 24 (0, 0)) (by (with_reducible repeat ((refine blk_drewN ?_ _))); exact BK127.out) hb)
        have n2_ := Aside0.mk (below_step (by repeat ((with_reducible (exact HB.out)))) hb)
        clear BK126
        clear BK127
        clear HB
        have BK126 := n0_
        have BK127 := n1_
        have HB := n2_
        clear n0_ n1_ n2_
        (try clear hb)
        refine hK.out _ _ ⟨(blk_cell BK126.out 0).trans rfl, (blk_cell BK126.out 1).trans rfl, (blk_cell BK126.out 2).trans rfl, (blk_cell BK126.out 3).trans rfl, (blk_cell BK126.out 4).trans rfl, (blk_cell BK127.out 0).trans rfl, (blk_cell BK127.out 1).trans rfl, (blk_cell BK127.out 2).trans rfl, (blk_cell BK127.out 3).trans rfl, (blk_cell BK127.out 4).trans rfl⟩ (fun hHeld => ?_)
        clear hK K
        refine norm_ (a' := ?_) ?_ ?_
        rotate_left
        ·show Act.put _ (some 33) _ = _
         simp only [Act.put, List.setIfInBounds_toArray, List.set_cons_zero, List.set_cons_succ, i64_w, i32_w]
         rfl
        refine pure_ (i := 4) (N := some 6) (v := ?_) (a' := ?_) #[true, true, true, true, true, false] rfl rfl (by kernel_rfl) (fun _ _ _ h => h) (Or.inl ⟨by rfl, ?_⟩) ?_ ?_
        rotate_left
        ·intro w'
         go_simp
         with_reducible rfl
        rotate_left
        ·simp only [Act.put, List.setIfInBounds_toArray, List.set_cons_zero, List.set_cons_succ, i64_w, i32_w]
         rfl
        refine pure_ (i := 5) (N := some 7) (v := ?_) (a' := ?_) #[true, true, true, true, true, true] rfl rfl (by kernel_rfl) (fun _ _ _ h => h) (Or.inl ⟨by rfl, ?_⟩) ?_ ?_
        rotate_left
        ·intro w'
         go_simp
         with_reducible rfl
        rotate_left
        ·simp only [Act.put, List.setIfInBounds_toArray, List.set_cons_zero, List.set_cons_succ, i64_w, i32_w]
         rfl
        refine done_ (by kernel_rfl) ?_
        (try go_wp2)
        go_ret
        exact ⟨by rfl, by repeat ((with_reducible (exact HB.out)))⟩
     ·rw [if_neg c22] at H
      have c22b0 : (x5_15 == 0) = false := beq_eq_false_iff_ne.mpr c22
      have c22b1 : (x5_15 != 0) = true := bne_iff_ne.mpr c22
      obtain rfl := Option.some.inj H
      go_wp2
      go_ret
      exact ⟨by rfl, by repeat ((with_reducible (exact HB.out)))⟩
end Go.Proofs.Ytnpiglojamhpiaa.PRr
namespace Go.Proofs.Ytnpiglojamhpiaa.Rrs
open Go.RowKit Go.Proofs.YtnpiglojamhpiaaW.PrintWords Go.Proofs.YtnpiglojamhpiaaW.PrintLast Go.Proofs.YtnpiglojamhpiaaW.PrintMore Go.Proofs.Ytnpiglojamhpiaa.Given Go.Proofs.Ytnpiglojamhpiaa.PRd Go.Proofs.Ytnpiglojamhpiaa.PRr Go.Proofs.Ytnpiglojamhpiaa.Oct Go.Proofs.Ytnpiglojamhpiaa.Name Go.Proofs.Ytnpiglojamhpiaa.Cmp Go.Proofs.Ytnpiglojamhpiaa.NameFacts Go.Proofs.Ytnpiglojamhpiaa.RdataFacts Go.Proofs.Ytnpiglojamhpiaa.SetLaw
set_option linter.unusedVariables false
theorem sign_f (a b : Int) : beadrollref11_sign.f a b = some (cmpI a b) := by
  unfold beadrollref11_sign.f cmpI
  repeat' split
  all_goals rfl
theorem rsaid_f (x : RR) (hx : x.f4.size ≤ 100000) (k : Nat) (hk : FU + 2000 ≤ k) : beadrollref11_Said.f k x.f0 x.f1 x.f2 x.f3 x.f4 = some (saidR x) := by
  unfold beadrollref11_Said.f saidR
  rw [rright_d x.f1 x.f4 (by omega) k hk, rfold_d x.f1 x.f4 (by omega) k hk]
  simp only [Option.bind_some]
  split <;> rfl
theorem rcmp_eq (x y : RR) (hx : rightB x.f0 = true) (hy : rightB y.f0 = true) (sx : x.f4.size ≤ 100000) (sy : y.f4.size ≤ 100000) (k : Nat) (hk : FU + 4000 ≤ k) : beadrollref11_Compare.f k x.f0 x.f1 x.f2 x.f3 x.f4 y.f0 y.f1 y.f2 y.f3 y.f4 = some (cmpRR x y) := by
  obtain ⟨l, gl, sl, el, kl⟩ := nameK_eq x hx
  obtain ⟨m, gm, sm, em, km⟩ := nameK_eq y hy
  have hk2 : 4000 ≤ k := Nat.le_trans (Nat.le_add_left _ _) hk
  have hF : FU + 2000 ≤ k - 2 := Nat.le_sub_of_add_le (Nat.le_trans (Nat.add_le_add_left (show 2000 + 2 ≤ 4000 by decide) FU) hk)
  generalize hFU : FU + 2000 = F at hF
  have hs1 : ∀ z : RR, z.f4.size ≤ 100000 → beadrollref11_Said.f (k - 2) z.f0 z.f1 z.f2 z.f3 z.f4 = some (saidR z) := fun z hz => rsaid_f z hz (k - 2) (by rw [hFU]; exact hF)
  clear hF hFU hk
  obtain ⟨k, rfl⟩ : ∃ j, k = j + 2 := ⟨k - 2, by omega⟩
  rw [Nat.add_sub_cancel] at hs1
  have hx1 := hs1 x sx
  have hy1 := hs1 y sy
  unfold beadrollref11_Compare.f
  rw [el] at hx1 ⊢
  rw [em] at hy1 ⊢
  rw [rcompare_yes l m gl gm sl sm _ (by omega), Option.bind_some]
  have hc : cmpN l m = cmpL (nameK x) (nameK y) := by rw [kl, km]; rfl
  simp only [beadrollref11_Compare.j0, beadrollref11_Compare.j1, sign_f, hx1, hy1, Option.bind_some, hc]
  unfold cmpRR thenC
  simp only []
  by_cases a0 : cmpL (nameK x) (nameK y) = 0
  · by_cases a1 : cmpI x.f1 y.f1 = 0
    · by_cases a2 : cmpI x.f2 y.f2 = 0
      · simp only [a0, a1, a2, if_true]
        rcases cmp_cases (saidR x).toList (saidR y).toList with ⟨h, e⟩ | ⟨h, e⟩ | ⟨h, e⟩
        · rw [e, if_pos h]
        · rw [e, h, if_neg (by rw [Given.less_self]; decide), if_neg (by rw [Given.less_self]; decide)]
        · rw [e]
          by_cases h2 : Op.bytesLess (saidR x).toList (saidR y).toList = true
          · rw [cmp_lt h2] at e; exact absurd e (by decide)
          · rw [if_neg h2, if_pos h]
      · simp only [a0, a1, a2, if_true, if_false]
    · simp only [a0, a1, if_true, if_false]
  · simp only [a0, if_false]
end Go.Proofs.Ytnpiglojamhpiaa.Rrs
namespace Go.Proofs.Ytnpiglojamhpiaa.Given
open Go.RowKit Go.Proofs.YtnpiglojamhpiaaW.PrintWords Go.Proofs.YtnpiglojamhpiaaW.PrintLast Go.Proofs.YtnpiglojamhpiaaW.PrintMore Go.Proofs.Ytnpiglojamhpiaa.PRd Go.Proofs.Ytnpiglojamhpiaa.PRr Go.Proofs.Ytnpiglojamhpiaa.Rrs
set_option linter.unusedVariables false
def slices_Clone.f (l0 : List (S24)) : Option (List (S24)) := if l0.length ≤ 1000000 then some l0 else none
theorem made_empty {α : Type} (d : Kd α) {w : World} {g : Nat} {t : TypeId} {base : Nat} {ok : Nat → Prop} (hg : base ≤ g) (ho : ok g) (h : w.heap[g]? = some (.cells #[] t (0, 0))) : Kd.R d t w base ok (.slice (some ⟨g, 0, none⟩) 0 0) [] :=
  ⟨fun k hk => by simp [Value.ownBlock] at hk; subst hk; exact ho, [], ⟨by simp, .inr ⟨g, 0, #[], rfl, hg, h, Nat.le_refl _, Nat.zero_le _, by simp, by simp⟩⟩, Reps.none _ _⟩
set_option maxHeartbeats 8000000 in
set_option maxRecDepth 100000 in
theorem slices_Clone.calls (A0 : Option Addr) (c0 : Nat) (l0 : List (S24)) (r : List (S24)) (w : World) (hr0 : Kd.C k24 w A0 l0.length l0) (hc0 : l0.length ≤ c0) (h : slices_Clone.f l0 = some r) :
    Calls Try.prog 18 #[.slice A0 l0.length c0] w fun e w' => ∃ v0_ : Value, e = .returned (v0_) ∧ Kd.R k24 24 w' w.heap.size (fun _ => True) v0_ r ∧ Below w.heap.size w w' := by
  unfold slices_Clone.f at h
  have hn : l0.length ≤ 1000000 := Classical.byContradiction fun hn => by rw [if_neg hn] at h; cases h
  rw [if_pos hn] at h
  injection h with h
  subst h
  have HR := Lib.hid hr0
  have hu41 := Try.underlying24
  have hu22 := Try.underlying22
  have q22 : ∀ (w : World) (a : Option Addr) (n c n' c' : Nat), (binOp .eql 22 (.slice a n c) (.slice none n' c')).run Try.prog w = .ok (.bool a.isNone) w := fun w a n c n' c' => Lib.run_eql_slice_nil w _ _ a n c n' c' hu22
  cases A0 with
  | none =>
    have hl : l0 = [] := List.eq_nil_of_length_eq_zero (Nat.eq_zero_of_not_pos fun hp => by
      obtain ⟨ad, h, _⟩ := hr0.2.2 hp
      cases h)
    subst hl
    clear hr0
    go_enter Try.func18, Try.ntmps18
    go_wp2_with fail
    go_ret
    exact ⟨_, rfl, Kd.R_nil _ _ _ _ _, Below.refl _ _⟩
  | some ad =>
    clear hr0
    have hB0 : Below w.heap.size w (w.alloc (.cells #[] 24)) := below_alloc (Below.refl _ _) _
    have hM : Kd.R k24 24 (w.alloc (.cells #[] 24)) w.heap.size (fun _ => True) (.slice (some ⟨w.heap.size, 0, none⟩) 0 0) [] := made_empty _ (Nat.le_refl _) trivial (by show (w.heap.push _)[w.heap.size]? = _; simp)
    have hC1 := Kd.C_below HR.out hB0
    have HM := Lib.hid hM
    have HB0 := Lib.hid hB0
    have HC1 := Lib.hid hC1
    clear hB0 hM hC1
    go_enter Try.func18, Try.ntmps18
    go_wp2_with (at_builtin; go_loud (refine Kd.R_append_rows (w0 := w) k24 w.heap.size rfl _ _ 22 24 _ 56 rfl hu22 info24 rfl (by decide) (by decide) _ [] l0 (some ad) l0.length c0 (fun _ => True) (fun _ => False) rfl rfl HM.out HC1.out (fun x cs h => by rw [k24_open h]; exact k24_mkM _ _ _ x) (fun k h => h.elim) (fun _ _ => trivial) HB0.out HB0.out.size (by simp; omega) ?_); intro v1 w1 hR1 hB1 hg1 hat1)
    go_ret
    exact ⟨_, rfl, hR1, hB1⟩
end Go.Proofs.Ytnpiglojamhpiaa.Given
namespace Go.Proofs.Ytnpiglojamhpiaa.Rrs
open Go.RowKit Go.Proofs.YtnpiglojamhpiaaW.PrintWords Go.Proofs.YtnpiglojamhpiaaW.PrintLast Go.Proofs.YtnpiglojamhpiaaW.PrintMore Go.Proofs.Ytnpiglojamhpiaa.Given Go.Proofs.Ytnpiglojamhpiaa.PRd Go.Proofs.Ytnpiglojamhpiaa.PRr
set_option linter.unusedVariables false
set_option linter.unusedSimpArgs false
abbrev tRR : Nat := 24
def cellsR (x : RR) : List Value := [.string x.f0, .int .i64 x.f1, .int .i64 x.f2, .int .i64 x.f3, .string x.f4]
def flat : List RR → List Value
  | [] => []
  | x :: l => cellsR x ++ flat l
theorem cellsR_length (x : RR) : (cellsR x).length = 5 := rfl
theorem flat_length : ∀ l, (flat l).length = l.length * 5
  | [] => rfl
  | x :: l => by rw [flat, List.length_append, flat_length l, cellsR_length, List.length_cons]; omega
theorem flat_append : ∀ a b, flat (a ++ b) = flat a ++ flat b
  | [], b => rfl
  | x :: a, b => by rw [List.cons_append, flat, flat, flat_append a b, List.append_assoc]
theorem flat_take (l : List RR) (i : Nat) (hi : i ≤ l.length) : (flat l).take (i * 5) = flat (l.take i) := by
  conv => lhs; rw [← List.take_append_drop i l, flat_append]
  rw [List.take_append_of_le_length (by rw [flat_length, List.length_take]; omega), List.take_of_length_le (by rw [flat_length, List.length_take]; omega)]
theorem flat_drop (l : List RR) (i : Nat) (hi : i ≤ l.length) : (flat l).drop (i * 5) = flat (l.drop i) := by
  conv => lhs; rw [← List.take_append_drop i l, flat_append]
  rw [List.drop_append_of_le_length (by rw [flat_length, List.length_take]; omega), List.drop_of_length_le (by rw [flat_length, List.length_take]; omega), List.nil_append]
theorem flat_one : ∀ (l : List RR), ∀ v ∈ flat l, v.oneCell' = true
  | [], v, h => by cases h
  | x :: l, v, h => by
    rcases List.mem_append.1 h with h | h
    · simp only [cellsR, List.mem_cons, List.not_mem_nil, or_false] at h
      rcases h with rfl | rfl | rfl | rfl | rfl <;> rfl
    · exact flat_one l v h
theorem reps_flat {R : RR → List Value → Prop} (hR : ∀ x cs, R x cs → cs = cellsR x) : ∀ (l : List RR) (inner : List Value), Reps R 5 l inner → inner = flat l
  | [], inner, h => List.eq_nil_of_length_eq_zero (by simpa using h.1)
  | x :: l, inner, h => by
    have h0 := hR _ _ (h.2 0 x rfl)
    simp only [Nat.zero_mul, List.drop_zero] at h0
    have h1 : Reps R 5 l (inner.drop 5) := ⟨by rw [List.length_drop, h.1, List.length_cons]; omega, fun j p hj => by
      rw [List.drop_drop, show 5 + j * 5 = (j + 1) * 5 by omega]; exact h.2 (j + 1) p (by simpa using hj)⟩
    rw [flat, ← h0, ← reps_flat hR l _ h1, List.take_append_drop]
theorem flat_reps {R : RR → List Value → Prop} (hR : ∀ x, R x (cellsR x)) (l : List RR) : Reps R 5 l (flat l) := by
  refine ⟨flat_length l, fun j p hj => ?_⟩
  obtain ⟨hl, e⟩ := List.getElem?_eq_some_iff.1 hj
  rw [flat_drop l j (by omega), List.drop_eq_getElem_cons hl, e, flat, List.take_append_of_le_length (by rw [cellsR_length]; exact Nat.le_refl 5), List.take_of_length_le (by rw [cellsR_length]; exact Nat.le_refl 5)]
  exact hR p
structure Row (w : World) (base g cap : Nat) (l : List RR) (rest : List Value) : Prop where
  blk : w.heap[g]? = some (.cells (flat l ++ rest).toArray tRR (0, 0))
  lo : base ≤ g
  fits : cap ≤ maxLen
  len : l.length * 5 + rest.length = cap * 5
theorem Row.of_R {w : World} {base : Nat} {ok : Nat → Prop} {v : Value} {l : List RR} (h : Kd.R kRR tRR w base ok v l) : (v = .slice none 0 0 ∧ l = []) ∨ ∃ g cap rest, v = .slice (some ⟨g, 0, none⟩) l.length cap ∧ ok g ∧ Row w base g cap l rest := by
  obtain ⟨h0, inner, ⟨h1, h2⟩, hr⟩ := h
  obtain rfl := reps_flat (fun x cs h => k24_openM h) l inner hr
  rcases h2 with ⟨rfl, h2⟩ | ⟨g, cap, cur, rfl, hg, hb, hn, hc, hs, ht⟩
  · exact .inl ⟨rfl, List.eq_nil_of_length_eq_zero h2⟩
  · have hs' : cur.size = cap * 5 := hs
    have hn' : l.length ≤ cap := hn
    have ht' : cur.toList.take (l.length * 5) = flat l := ht
    refine .inr ⟨g, cap, cur.toList.drop (l.length * 5), rfl, h0 g (by simp [Value.ownBlock]), ⟨?_, hg, hc, ?_⟩⟩
    · rw [← ht', List.take_append_drop, Array.toArray_toList]; exact hb
    · have e : cur.toList.length = cap * 5 := by simpa using hs'
      rw [List.length_drop, e]; clear h1 hr h0 hb hs ht hn ht'; omega
theorem Row.R {w : World} {base g cap : Nat} {l : List RR} {rest : List Value} {ok : Nat → Prop} (h : Row w base g cap l rest) (hg : ok g) : Kd.R kRR tRR w base ok (.slice (some ⟨g, 0, none⟩) l.length cap) l := by
  have hl := h.len
  refine ⟨fun k hk => by simp [Value.ownBlock] at hk; subst hk; exact hg, flat l, ⟨flat_length l, .inr ⟨g, cap, _, rfl, h.lo, h.blk, by omega, h.fits, ?_, ?_⟩⟩, flat_reps (fun x => k24_mkM _ _ _ x) l⟩
  · show (flat l ++ rest).toArray.size = cap * 5
    simp [flat_length]; omega
  · show (flat l ++ rest).toArray.toList.take (l.length * 5) = flat l
    rw [List.toList_toArray, List.take_append_of_le_length (by rw [flat_length]; exact Nat.le_refl _), List.take_of_length_le (by rw [flat_length]; exact Nat.le_refl _)]
theorem Row.cell {w : World} {base g cap : Nat} {l : List RR} {rest : List Value} (h : Row w base g cap l rest) (j : Nat) (u : Value) (hj : (flat l)[j]? = some u) : w.cell? ⟨g, j, none⟩ = some u := by
  rw [blk_cell h.blk j]
  have hl := (List.getElem?_eq_some_iff.1 hj).1
  show (flat l ++ rest).toArray[j]? = some u
  rw [List.getElem?_toArray, List.getElem?_append_left hl]; exact hj
theorem run_copy_rowK {P : Program} (w : World) (dT sT ty elem : TypeId) (sz g o dLen dCap : Nat) (a : Addr) (sLen sCap : Nat) (cur : List Value) (t : TypeId) (cs : List Value)
    (hu : P.underlying dT = some (.slice elem)) (hs : (P.info? elem).map (·.size) = some sz)
    (hg : w.heap[g]? = some (.cells cur.toArray t (0, 0))) (n : Nat) (hm : Nat.min sLen dLen = n) (hn : cs.length = n * sz)
    (hsrc : ∀ j v, cs[j]? = some v → w.cell? (a.add j) = some v) (hfit : o + cs.length ≤ cur.length) (h1 : ∀ v ∈ cs, v.oneCell' = true) :
    (Builtin.copy_ #[dT, sT] ty #[.slice (some ⟨g, o, none⟩) dLen dCap, .slice (some a) sLen sCap]).run P w =
      .ok (goInt n) (w.setRow g (cur.take o ++ cs ++ cur.drop (o + cs.length)).toArray) := by
  have hl := run_loadCells_list (P := P) w a cs hsrc
  have hst := run_storeCells_at P g o t cs 0 cur.toArray w hg (by simpa using hfit) h1
  cases hq : P.info? elem with
  | none => simp [hq] at hs
  | some i =>
    have hi : i.size = sz := by simpa [hq] using hs
    rw [hn] at hl
    simp [Builtin.copy_, run_underlying hu, Builtin.lenOf, Builtin.firstCells, sizeOf, typeInfo, hq, hi, hm, hl, hst]
theorem splice1 (l : List RR) (x : RR) (rest : List Value) (i : Nat) (hi : i ≤ l.length) (hr : 5 ≤ rest.length) :
    let c1 := (flat l ++ rest).take ((i + 1) * 5) ++ flat (l.drop i) ++ (flat l ++ rest).drop ((i + 1) * 5 + (flat (l.drop i)).length)
    c1.take (i * 5) ++ cellsR x ++ c1.drop (i * 5 + (cellsR x).length) = flat (l.take i ++ x :: l.drop i) ++ rest.drop 5 := by
  intro c1
  have hL : (flat l).length = l.length * 5 := flat_length l
  have h1 : ((flat l ++ rest).take ((i + 1) * 5)).length = (i + 1) * 5 := by rw [List.length_take, List.length_append, hL]; omega
  have h2 : c1.take (i * 5) = flat (l.take i) := by
    show List.take _ (_ ++ _ ++ _) = _
    rw [List.append_assoc, List.take_append_of_le_length (by rw [h1]; omega), List.take_take, Nat.min_eq_left (by omega), List.take_append_of_le_length (by rw [hL]; omega), flat_take l i hi]
  have h3 : c1.drop (i * 5 + (cellsR x).length) = flat (l.drop i) ++ rest.drop 5 := by
    show List.drop _ (_ ++ _ ++ _) = _
    rw [cellsR_length, show i * 5 + 5 = (i + 1) * 5 by omega, List.append_assoc, List.drop_append_of_le_length (by rw [h1]; exact Nat.le_refl _), List.drop_of_length_le (by rw [h1]; exact Nat.le_refl _), List.nil_append]
    congr 1
    rw [flat_length, List.length_drop, show (i + 1) * 5 + (l.length - i) * 5 = (flat l).length + 5 by rw [hL]; omega, List.drop_append]
    rw [List.drop_of_length_le (by omega), List.nil_append]
    congr 1
    omega
  rw [h2, h3, flat_append, flat]
  simp
end Go.Proofs.Ytnpiglojamhpiaa.Rrs
namespace Go.Proofs.Ytnpiglojamhpiaa.Rrs
open Go.RowKit Go.Proofs.YtnpiglojamhpiaaW.PrintWords Go.Proofs.YtnpiglojamhpiaaW.PrintLast Go.Proofs.YtnpiglojamhpiaaW.PrintMore Go.Proofs.Ytnpiglojamhpiaa.Given Go.Proofs.Ytnpiglojamhpiaa.PRd Go.Proofs.Ytnpiglojamhpiaa.PRr
set_option linter.unusedVariables false
set_option linter.unusedSimpArgs false
theorem one_reads {w : World} {gx : Nat} {x : RR} (hx : w.heap[gx]? = some (.cells (cellsR x).toArray tRR (0, 0))) : Kd.C kRR w (some ⟨gx, 0, none⟩) 1 [x] :=
  ⟨rfl, by decide, fun _ => ⟨⟨gx, 0, none⟩, rfl, fun j p hj => by
    obtain rfl : j = 0 := by have := (List.getElem?_eq_some_iff.1 hj).1; simp at this; exact this
    obtain rfl : x = p := by simpa using hj
    refine ⟨cellsR x, rfl, k24_mk w x, fun i u hu => ?_⟩
    rw [show (⟨gx, 0, none⟩ : Addr).add (0 * kRR.sz + i) = ⟨gx, i, none⟩ from by rw [Nat.zero_mul, Nat.zero_add, Addr.add_lit, Nat.zero_add], blk_cell hx i]
    rw [List.getElem?_toArray]; exact hu⟩⟩
theorem info_size : (Try.prog.info? 24).map (·.size) = some 5 := by kernel_rfl
theorem run_size : ∀ w, (sizeOf 24).run Try.prog w = .ok 5 w := fun w => by
  obtain ⟨i, hi, h⟩ := Option.map_eq_some_iff.1 info_size
  simp [sizeOf, typeInfo, hi, h]
theorem run_overlaps (w : World) (gx g o lb cb : Nat) (hne : gx ≠ g) (ca cb' : Array Value) (hx : w.heap[gx]? = some (.cells ca tRR (0, 0))) (hg : w.heap[g]? = some (.cells cb' tRR (0, 0))) (h0 : cb'.size ≠ 0) :
    (callFunc 31 #[.slice (some ⟨gx, 0, none⟩) 1 1, .slice (some ⟨g, o, none⟩) lb cb]).run Try.prog w = .ok (.value (.bool false)) w := by
  rw [run_callFunc_extern Try.func31 (by kernel_rfl) (by kernel_rfl) (by kernel_rfl) (e := Extern.SlicesOverlaps.overlaps #[22, 22] #[4]) (by kernel_rfl),
    Lib.run_overlaps_apart w 22 4 24 Try.underlying22 5 run_size ⟨gx, 0, none⟩ ⟨g, o, none⟩ 1 1 lb cb hne tRR tRR ca.size cb'.size (by simp [World.shape?, hx]) (by simp [World.shape?, hg]) h0 (by simp [World.frozen?, hx]) (by simp [World.frozen?, hx])]
  rfl
set_option maxHeartbeats 8000000 in
set_option maxRecDepth 100000 in
theorem insert_end (l : List RR) (x : RR) (hn : l.length ≤ 1000000) (base : Nat) (ok : Nat → Prop) (w0 w : World) (hB : Below base w0 w) (hbase : base ≤ w.heap.size) (A : Option Addr) (c : Nat) (HO : Kd.R kRR tRR w base ok (.slice A l.length c) l)
    (gx : Nat) (hx : w.heap[gx]? = some (.cells (cellsR x).toArray tRR (0, 0))) (hok : ∀ k, w.heap.size ≤ k → ok k) :
    Calls Try.prog 20 #[.slice A l.length c, .int .i64 (l.length : Nat), .slice (some ⟨gx, 0, none⟩) 1 1] w fun e w' => ∃ v', e = .returned v' ∧ Kd.R kRR tRR w' base ok v' (l ++ [x]) ∧ Below base w0 w' := by
  have hu22 := Try.underlying22
  have hu41 := Try.underlying24
  have HC := Lib.hid (one_reads hx)
  have HO' := Lib.hid HO
  have HB := Lib.hid hB
  have HBS := Lib.hid hbase
  have HOK := Lib.hid hok
  have hcl : l.length ≤ c := by
    obtain ⟨A', c', h1, h2, _⟩ := Kd.R_reads HO
    injection h1 with _ _ h1
    omega
  clear HO hB hbase hx hok
  have b1 : decide ((l.length : Int) ≤ (c : Int)) = true := decide_eq_true (by omega)
  go_enter Try.func20, Try.ntmps20
  go_wp2_with (at_builtin; refine Kd.R_append_rows (w0 := w0) kRR base rfl _ _ 22 24 _ 56 rfl hu22 info24 rfl (by decide) (by decide) _ l [x] (some ⟨gx, 0, none⟩) 1 1 ok (fun _ => False) rfl rfl HO'.out HC.out (fun x cs h => by rw [k24_open h]; exact k24_mkM _ _ _ x) (fun k h => h.elim) HOK.out HB.out HBS.out (by omega) ?_; intro v1 w1 hR1 hB1 hg1 hat1)
  all_goals (go_ret; exact ⟨_, rfl, hR1, hB1⟩)
set_option maxHeartbeats 8000000 in
set_option maxRecDepth 100000 in
theorem insert_shift (l : List RR) (x : RR) (hn : l.length ≤ 1000000) (i : Nat) (hi : i < l.length) (base : Nat) (ok : Nat → Prop) (w0 w : World) (hB : Below base w0 w) (hbase : base ≤ w.heap.size) (g c : Nat) (rest : List Value) (HO : Row w base g c l rest) (hg : ok g) (hroom : l.length + 1 ≤ c)
    (gx : Nat) (hx : w.heap[gx]? = some (.cells (cellsR x).toArray tRR (0, 0))) (hne : gx ≠ g) :
    Calls Try.prog 20 #[.slice (some ⟨g, 0, none⟩) l.length c, .int .i64 (i : Nat), .slice (some ⟨gx, 0, none⟩) 1 1] w fun e w' => ∃ v', e = .returned v' ∧ Kd.R kRR tRR w' base ok v' (l.take i ++ x :: l.drop i) ∧ Below base w0 w' := by
  have hu22 := Try.underlying22
  have hu41 := Try.underlying24
  have hlen := HO.len
  have hfit := HO.fits
  have hc63 : c ≤ 9223372036854775807 := by unfold maxLen at hfit; omega
  obtain ⟨n, hnn⟩ : ∃ n, l.length = n := ⟨_, rfl⟩
  have hLN := Lib.hid hnn
  have hdl : (flat (l.drop i)).length = (n - i) * 5 := by rw [flat_length, List.length_drop, hnn]
  obtain ⟨c1, hc1⟩ : ∃ c1, c1 = (flat l ++ rest).take ((i + 1) * 5) ++ flat (l.drop i) ++ (flat l ++ rest).drop ((i + 1) * 5 + (flat (l.drop i)).length) := ⟨_, rfl⟩
  have hall : (flat l ++ rest).length = c * 5 := by rw [List.length_append, flat_length]; omega
  have hc1l : c1.length = c * 5 := by
    rw [hc1, List.length_append, List.length_append, List.length_take, List.length_drop, hall, hdl]; omega
  have hsp := splice1 l x rest i (by omega) (by omega)
  rw [← hc1] at hsp
  have hcp1 : ∀ ty, (Builtin.copy_ #[22, 22] ty #[.slice (some ⟨g, (i + 1) * 5, none⟩) (n - i) (c - (i + 1)), .slice (some ⟨g, i * 5, none⟩) (n + 1 - i) (c - i)]).run Try.prog w.drew = .ok (goInt (n - i : Nat)) (w.drew.setRow g c1.toArray) := fun ty => by
    have h := run_copy_rowK (P := Try.prog) w.drew 22 22 ty 24 5 g ((i + 1) * 5) (n - i) (c - (i + 1)) ⟨g, i * 5, none⟩ (n + 1 - i) (c - i) (flat l ++ rest) tRR (flat (l.drop i)) hu22 info_size HO.blk (n - i) (by simp only [Nat.min_def]; split <;> omega) hdl
      (fun j v hj => by
        rw [Addr.add_lit]
        refine (HO.cell (i * 5 + j) v ?_)
        rw [← flat_drop l i (by omega), List.getElem?_drop] at hj
        exact hj) (by rw [hall, hdl]; omega) (flat_one _)
    rw [← hc1] at h
    exact h
  obtain ⟨W1, hW1⟩ : ∃ W1, W1 = w.drew.setRow g c1.toArray := ⟨_, rfl⟩
  rw [← hW1] at hcp1
  have hb1 : W1.heap[g]? = some (.cells c1.toArray tRR (0, 0)) := by rw [hW1]; exact setRow_heap _ g _ _ _ _ HO.blk
  have hx1 : W1.heap[gx]? = some (.cells (cellsR x).toArray tRR (0, 0)) := by rw [hW1, setRow_other _ _ _ _ hne]; exact hx
  have hcp2 : ∀ ty, (Builtin.copy_ #[22, 22] ty #[.slice (some ⟨g, i * 5, none⟩) (n + 1 - i) (c - i), .slice (some ⟨gx, 0, none⟩) 1 1]).run Try.prog W1 = .ok (goInt (1 : Nat)) (W1.setRow g (flat (l.take i ++ x :: l.drop i) ++ rest.drop 5).toArray) := fun ty => by
    have h := run_copy_rowK (P := Try.prog) W1 22 22 ty 24 5 g (i * 5) (n + 1 - i) (c - i) ⟨gx, 0, none⟩ 1 1 c1 tRR (cellsR x) hu22 info_size hb1 1 (by simp only [Nat.min_def]; split <;> omega) rfl
      (fun j v hj => by
        rw [Addr.add_lit, Nat.zero_add, blk_cell hx1 j, List.getElem?_toArray]
        exact hj) (by rw [hc1l, cellsR_length]; omega) (fun v hv => flat_one [x] v (by rw [flat, flat, List.append_nil]; exact hv))
    rw [hsp] at h
    exact h
  have hov := fun lb cb => run_overlaps w gx g ((i + 1) * 5) lb cb hne _ _ hx HO.blk (by rw [List.size_toArray, hall]; omega)
  have hins : (l.take i ++ x :: l.drop i).length = n + 1 := by rw [List.length_append, List.length_cons, List.length_take, List.length_drop]; omega
  obtain ⟨W2, hW2⟩ : ∃ W2, W2 = W1.setRow g (flat (l.take i ++ x :: l.drop i) ++ rest.drop 5).toArray := ⟨_, rfl⟩
  rw [← hW2] at hcp2
  have hfin : Row W2 base g c (l.take i ++ x :: l.drop i) (rest.drop 5) := ⟨by rw [hW2]; exact setRow_heap _ g _ _ _ _ hb1, HO.lo, HO.fits, by rw [hins, List.length_drop]; omega⟩
  have hgw : w.grownBy W2 (some g) := ⟨by rw [hW2, hW1]; rfl, by rw [hW2, hW1]; rfl, by rw [hW2, hW1]; rfl, by rw [hW2, hW1]; simp, fun k hk hkg => by
    have hkg' : k ≠ g := fun e => hkg (by rw [e])
    rw [hW2, setRow_other _ _ _ _ hkg', hW1, setRow_other _ _ _ _ hkg']; rfl⟩
  have hRF : Kd.R kRR tRR W2 base ok (.slice (some ⟨g, 0, none⟩) (n + 1) c) (l.take i ++ x :: l.drop i) := by rw [← hins]; exact hfin.R hg
  have hBF : Below base w0 W2 := hB.grown hgw hbase (fun k hk => by injection hk with hk; subst hk; exact HO.lo)
  have HRF := Lib.hid hRF
  have HBF := Lib.hid hBF
  rw [hnn] at hn hi hroom
  have hz1 : ¬ ((1 : Int) = 0) := by omega
  have hz2 : ¬ ((i : Int) = (n : Int)) := by omega
  have hw1 : IntKind.i64.wrap ((i : Int) + 1) = (i : Int) + 1 := by rw [IntKind.wrap_i64]; omega
  have hw2 : IntKind.i64.wrap ((n : Int) + 1) = (n : Int) + 1 := by rw [IntKind.wrap_i64]; omega
  have hb1' : (0 : Int) ≤ (i : Int) + 1 := by omega
  have hin : i ≤ n := by omega
  have htn : ((i : Int) + 1).toNat = i + 1 := by omega
  have htn2 : ((n : Int) + 1).toNat = n + 1 := by omega
  have hb2 : ¬ (c = i + 1) := by omega
  have hb3 : (i : Int) ≤ (n : Int) + 1 := by omega
  have hb4 : ¬ (c = i) := by omega
  have hb5 : ¬ ((c : Int) < (n : Int) + 1) := by omega
  have hb6 : ((i : Int) + 1) ≤ ((n : Int) + 1) := by omega
  have hb7 : ((n : Int) + 1) ≤ (c : Int) := by omega
  rw [hnn]
  clear hRF hBF hgw hfin hins hb1 hx1 hW1 hW2 hsp hc1 hall hc1l hdl hnn hlen hB HO hx
  go_enter Try.func20, Try.ntmps20
  have mixed : Try.prog.follows Departure.mixedOrders = true := by kernel_rfl
  have HCP1 := Lib.hid hcp1
  have HCP2 := Lib.hid hcp2
  have HOV := Lib.hid hov
  clear hcp1 hcp2 hov
  go_wp2_with fail
  rw [HOV.out]
  go_wp2_with fail
  go_region_law_o (refine step_copy_runI rfl _ _ 22 22 rfl _ _ (by simp [Act.eval, Act.put]) (by simp [Act.eval, Act.put]) (HCP1.out _) ?_)
  go_wp2_with fail
  rw [HCP2.out]
  go_wp2_with fail
  go_ret
  exact ⟨_, rfl, HRF.out, HBF.out⟩
theorem splice2 (l : List RR) (x : RR) (zs : List Value) (i : Nat) (hi : i ≤ l.length) (hz : (l.length + 1 - i) * 5 ≤ zs.length) :
    let c2 := (flat (l.take i) ++ zs).take (i * 5) ++ cellsR x ++ (flat (l.take i) ++ zs).drop (i * 5 + (cellsR x).length)
    c2.take ((i + 1) * 5) ++ flat (l.drop i) ++ c2.drop ((i + 1) * 5 + (flat (l.drop i)).length) = flat (l.take i ++ x :: l.drop i) ++ zs.drop ((l.length + 1 - i) * 5) := by
  intro c2
  have h1 : (flat (l.take i)).length = i * 5 := by rw [flat_length, List.length_take, Nat.min_eq_left hi]
  have h2 : c2 = flat (l.take i) ++ (cellsR x ++ zs.drop 5) := by
    show List.take _ _ ++ _ ++ List.drop _ _ = _
    rw [cellsR_length, List.take_append_of_le_length (by rw [h1]; exact Nat.le_refl _), List.take_of_length_le (by rw [h1]; exact Nat.le_refl _), List.drop_append, h1, List.drop_of_length_le (by rw [h1]; omega), List.nil_append, Nat.add_sub_cancel_left, List.append_assoc]
  have h3 : (flat (l.take i) ++ cellsR x).length = (i + 1) * 5 := by rw [List.length_append, h1, cellsR_length]; omega
  rw [h2, ← List.append_assoc, List.take_append_of_le_length (by rw [h3]; exact Nat.le_refl _), List.take_of_length_le (by rw [h3]; exact Nat.le_refl _), List.drop_append (l₁ := flat (l.take i) ++ cellsR x), h3, List.drop_of_length_le (l := flat (l.take i) ++ cellsR x) (by rw [h3]; omega), List.nil_append, Nat.add_sub_cancel_left, List.drop_drop, flat_append, flat, flat_length, List.length_drop]
  rw [show 5 + (l.length - i) * 5 = (l.length + 1 - i) * 5 by omega]
  simp only [List.append_assoc]
theorem info_parts_RR : ∃ i0, Try.prog.info? 24 = some i0 ∧ i0.zero = some (.agg #[.string ⟨#[]⟩, .int .i64 0, .int .i64 0, .int .i64 0, .string ⟨#[]⟩]) ∧ i0.size = 5 ∧ i0.bytes = 56 := by
  obtain ⟨i0, hi, h⟩ := Option.map_eq_some_iff.1 info24
  simp only [Prod.mk.injEq] at h
  exact ⟨i0, hi, h.1, h.2.1, h.2.2⟩
abbrev zRR : Value := .agg #[.string ⟨#[]⟩, .int .i64 0, .int .i64 0, .int .i64 0, .string ⟨#[]⟩]
set_option maxHeartbeats 8000000 in
set_option maxRecDepth 100000 in
theorem insert_grow (l : List RR) (x : RR) (hn : l.length ≤ 1000000) (i : Nat) (hi : i < l.length) (base : Nat) (ok : Nat → Prop) (w0 w : World) (hB : Below base w0 w) (hbase : base ≤ w.heap.size) (g c : Nat) (rest : List Value) (HO : Row w base g c l rest) (hok : ∀ k, w.heap.size ≤ k → ok k) (hroom : c < l.length + 1)
    (gx : Nat) (hx : w.heap[gx]? = some (.cells (cellsR x).toArray tRR (0, 0))) :
    Calls Try.prog 20 #[.slice (some ⟨g, 0, none⟩) l.length c, .int .i64 (i : Nat), .slice (some ⟨gx, 0, none⟩) 1 1] w fun e w' => ∃ v', e = .returned v' ∧ Kd.R kRR tRR w' base ok v' (l.take i ++ x :: l.drop i) ∧ Below base w0 w' := by
  have hu22 := Try.underlying22
  have hu3 := Try.underlying3
  have hlen := HO.len
  have hcl : l.length ≤ c := by omega
  obtain ⟨n, hnn⟩ : ∃ n, l.length = n := ⟨_, rfl⟩
  have hgw : g < w.heap.size := blk_lt HO.blk
  have hxw : gx < w.heap.size := blk_lt hx
  obtain ⟨i0, hi0, hz0, hzs, hzb⟩ := info_parts_RR
  obtain ⟨G0, hG0⟩ : ∃ G0, G0 = w.heap.size := ⟨_, rfl⟩
  obtain ⟨G, hG⟩ : ∃ G, G = grownCap w (n + 1) c 24 := ⟨_, rfl⟩
  have hGn : n + 1 ≤ G := by rw [hG]; exact grownCap_ge w _ _ _
  have hGM : G ≤ maxLen := by rw [hG]; exact grownCap_le_maxLen w (n + 1) c _ (by unfold maxLen; omega)
  have hG63 : G ≤ 9223372036854775807 := by unfold maxLen at hGM; omega
  obtain ⟨zs, hzz⟩ : ∃ zs, zs = (Builtin.zeroCells zRR.cells (n + 1 - i) ++ Builtin.zeroCells zRR.cells (G - (n + 1))).toList := ⟨_, rfl⟩
  have hzc : zRR.cells.size = 5 := rfl
  have hzl : zs.length = (G - i) * 5 := by
    rw [hzz, Array.length_toList, Array.size_append, size_zeroCells, size_zeroCells, hzc]; omega
  obtain ⟨W1, hW1⟩ : ∃ W1, W1 = w.drew.alloc (.cells (flat (l.take i) ++ zs).toArray tRR) := ⟨_, rfl⟩
  have hkk : (n : Int) + 1 - (i : Int) = ((n + 1 - i : Nat) : Int) := by omega
  have hik : i + (n + 1 - i) = n + 1 := by omega
  have htl : (flat (l.take i)).length = i * 5 := by rw [flat_length, List.length_take]; omega
  have hold : (Builtin.firstCells i0.size i (.slice (some ⟨g, 0, none⟩) i c)).run Try.prog w.drew = .ok (flat (l.take i)).toArray w.drew := by
    rw [hzs]
    exact run_firstCells_some w.drew 5 i ⟨g, 0, none⟩ i c (flat (l.take i)) htl (fun j v hj => by
      rw [Addr.add_lit, Nat.zero_add]
      rw [← flat_take l i (by omega), List.getElem?_take] at hj
      split at hj
      · exact HO.cell j v hj
      · cases hj)
  have hrz : ∀ ty, (Builtin.append_ #[22, 3] ty #[.slice (some ⟨g, 0, none⟩) i c, .int .i64 ((n : Int) + 1 - (i : Int))]).run Try.prog w = .ok (.slice (some ⟨G0, 0, none⟩) (n + 1) G) W1 := fun ty => by
    have h := Lib.run_append_grow_zeros (P := Try.prog) w 22 3 ty 24 i0 zRR .i64 .i64 hu22 hu3 hi0 hz0 (some ⟨g, 0, none⟩) i c _ hold (n + 1 - i) (by omega) (by omega) (by omega) (by omega) (by rw [hzb]; omega) (by rw [hzb, hik]; exact growslice_fits (by omega) (by omega))
    rw [hik, ← hG, ← hG0] at h
    rw [hkk, h, hW1, hzz]
    congr 3
    simp
  have hb1 : W1.heap[G0]? = some (.cells (flat (l.take i) ++ zs).toArray tRR (0, 0)) := by rw [hW1, hG0]; exact heap_alloc_new w.drew _
  have hx1 : W1.heap[gx]? = some (.cells (cellsR x).toArray tRR (0, 0)) := by rw [hW1]; exact (heap_alloc_old w.drew _ hxw).trans hx
  have hg1 : W1.heap[g]? = some (.cells (flat l ++ rest).toArray tRR (0, 0)) := by rw [hW1]; exact (heap_alloc_old w.drew _ hgw).trans HO.blk
  obtain ⟨c2, hc2⟩ : ∃ c2, c2 = (flat (l.take i) ++ zs).take (i * 5) ++ cellsR x ++ (flat (l.take i) ++ zs).drop (i * 5 + (cellsR x).length) := ⟨_, rfl⟩
  have hc2l : c2.length = G * 5 := by
    rw [hc2, List.length_append, List.length_append, List.length_take, List.length_drop, List.length_append, htl, hzl, cellsR_length]; omega
  have hsp := splice2 l x zs i (by omega) (by rw [hzl, hnn]; omega)
  rw [← hc2] at hsp
  obtain ⟨W2, hW2⟩ : ∃ W2, W2 = W1.setRow G0 c2.toArray := ⟨_, rfl⟩
  have hcp1 : ∀ ty, (Builtin.copy_ #[22, 22] ty #[.slice (some ⟨G0, i * 5, none⟩) (n + 1 - i) (G - i), .slice (some ⟨gx, 0, none⟩) 1 1]).run Try.prog W1 = .ok (goInt (1 : Nat)) W2 := fun ty => by
    have h := run_copy_rowK (P := Try.prog) W1 22 22 ty 24 5 G0 (i * 5) (n + 1 - i) (G - i) ⟨gx, 0, none⟩ 1 1 (flat (l.take i) ++ zs) tRR (cellsR x) hu22 info_size hb1 1 (by simp only [Nat.min_def]; split <;> omega) rfl
      (fun j v hj => by
        rw [Addr.add_lit, Nat.zero_add, blk_cell hx1 j, List.getElem?_toArray]
        exact hj) (by rw [List.length_append, htl, hzl, cellsR_length]; omega) (fun v hv => flat_one [x] v (by rw [flat, flat, List.append_nil]; exact hv))
    rw [← hc2, ← hW2] at h
    exact h
  have hb2 : W2.heap[G0]? = some (.cells c2.toArray tRR (0, 0)) := by rw [hW2]; exact setRow_heap _ G0 _ _ _ _ hb1
  have hg2 : W2.heap[g]? = some (.cells (flat l ++ rest).toArray tRR (0, 0)) := by rw [hW2, setRow_other _ _ _ _ (by omega)]; exact hg1
  have hgrow : Row W2 base g c l rest := ⟨hg2, HO.lo, HO.fits, HO.len⟩
  have hdl : (flat (l.drop i)).length = (n - i) * 5 := by rw [flat_length, List.length_drop, hnn]
  obtain ⟨W3, hW3⟩ : ∃ W3, W3 = W2.drew.setRow G0 (flat (l.take i ++ x :: l.drop i) ++ zs.drop ((l.length + 1 - i) * 5)).toArray := ⟨_, rfl⟩
  have hcp2 : ∀ ty, (Builtin.copy_ #[22, 22] ty #[.slice (some ⟨G0, (i + 1) * 5, none⟩) (n - i) (G - (i + 1)), .slice (some ⟨g, i * 5, none⟩) (n - i) (c - i)]).run Try.prog W2.drew = .ok (goInt (n - i : Nat)) W3 := fun ty => by
    have h := run_copy_rowK (P := Try.prog) W2.drew 22 22 ty 24 5 G0 ((i + 1) * 5) (n - i) (G - (i + 1)) ⟨g, i * 5, none⟩ (n - i) (c - i) c2 tRR (flat (l.drop i)) hu22 info_size hb2 (n - i) (by simp only [Nat.min_def]; split <;> omega) hdl
      (fun j v hj => by
        rw [Addr.add_lit]
        refine (hgrow.cell (i * 5 + j) v ?_)
        rw [← flat_drop l i (by omega), List.getElem?_drop] at hj
        exact hj) (by rw [hc2l, hdl]; omega) (flat_one _)
    rw [hsp, ← hW3] at h
    exact h
  have hins : (l.take i ++ x :: l.drop i).length = n + 1 := by rw [List.length_append, List.length_cons, List.length_take, List.length_drop]; omega
  have hfin : Row W3 base G0 G (l.take i ++ x :: l.drop i) (zs.drop ((l.length + 1 - i) * 5)) := ⟨by rw [hW3]; exact setRow_heap _ G0 _ _ _ _ hb2, by omega, hGM, by rw [hins, List.length_drop, hzl]; omega⟩
  have hgb : w.grownBy W3 none := ⟨by rw [hW3, hW2, hW1]; rfl, by rw [hW3, hW2, hW1]; rfl, by rw [hW3, hW2, hW1]; rfl, by rw [hW3, hW2, hW1]; simp, fun k hk hkg => by
    have hkg' : k ≠ G0 := by omega
    rw [hW3, setRow_other _ _ _ _ hkg']
    show W2.heap[k]? = _
    rw [hW2, setRow_other _ _ _ _ hkg', hW1]
    exact heap_alloc_old w.drew _ hk⟩
  have hRF : Kd.R kRR tRR W3 base ok (.slice (some ⟨G0, 0, none⟩) (n + 1) G) (l.take i ++ x :: l.drop i) := by rw [← hins]; exact hfin.R (hok _ (by omega))
  have hBF : Below base w0 W3 := hB.grown hgb hbase (fun k hk => by cases hk)
  have HRF := Lib.hid hRF
  have HBF := Lib.hid hBF
  have HRZ := Lib.hid hrz
  have HCP1 := Lib.hid hcp1
  have HCP2 := Lib.hid hcp2
  have mixed : Try.prog.follows Departure.mixedOrders = true := by kernel_rfl
  rw [hnn] at hn hi hroom hcl
  have hz1 : ¬ ((1 : Int) = 0) := by omega
  have hz2 : ¬ ((i : Int) = (n : Int)) := by omega
  have hw1 : IntKind.i64.wrap ((i : Int) + 1) = (i : Int) + 1 := by rw [IntKind.wrap_i64]; omega
  have hw2 : IntKind.i64.wrap ((n : Int) + 1) = (n : Int) + 1 := by rw [IntKind.wrap_i64]; omega
  have hw3 : IntKind.i64.wrap ((n : Int) + 1 - (i : Int)) = (n : Int) + 1 - (i : Int) := by rw [IntKind.wrap_i64]; omega
  have hb1' : (0 : Int) ≤ (i : Int) + 1 := by omega
  have hin : i ≤ n := by omega
  have htn : ((i : Int) + 1).toNat = i + 1 := by omega
  have hb3 : (i : Int) ≤ (n : Int) + 1 := by omega
  have hb4 : ¬ (c = i) := by omega
  have hb5 : (c : Int) < (n : Int) + 1 := by omega
  have hb6 : ((i : Int) + 1) ≤ ((n : Int) + 1) := by omega
  have hic : (i : Int) ≤ (c : Int) := by omega
  have hG1 : ¬ (G = i) := by omega
  have hG2 : ¬ (G = i + 1) := by omega
  rw [hnn]
  clear hRF hBF hgb hfin hins hb1 hb2 hx1 hg1 hg2 hW1 hW2 hW3 hsp hc2 hc2l hdl htl hnn hlen hB HO hx hrz hcp1 hcp2 hgrow hold hzz hzl hG hok hkk hik hG0
  go_enter Try.func20, Try.ntmps20
  go_wp2_with (at_builtin; refine Lib.wpList_append_run _ rfl _ _ _ _ rfl _ _ rfl rfl _ _ (HRZ.out _) ?_)
  rw [HCP1.out]
  go_wp2_with fail
  go_region_law_o (refine step_copy_runI rfl _ _ 22 22 rfl _ _ (by simp [Act.eval, Act.put]) (by simp [Act.eval, Act.put]) (HCP2.out _) ?_)
  go_wp2_with fail
  go_ret
  exact ⟨_, rfl, HRF.out, HBF.out⟩
theorem insert_any (l : List RR) (x : RR) (hn : l.length ≤ 1000000) (i : Nat) (hi : i ≤ l.length) (base : Nat) (ok : Nat → Prop) (w0 w : World) (hB : Below base w0 w) (hbase : base ≤ w.heap.size) (v : Value) (HO : Kd.R kRR tRR w base ok v l) (hok : ∀ k, w.heap.size ≤ k → ok k)
    (gx : Nat) (hx : w.heap[gx]? = some (.cells (cellsR x).toArray tRR (0, 0))) (hne : some gx ≠ v.ownBlock) :
    Calls Try.prog 20 #[v, .int .i64 (i : Nat), .slice (some ⟨gx, 0, none⟩) 1 1] w fun e w' => ∃ v', e = .returned v' ∧ Kd.R kRR tRR w' base ok v' (l.take i ++ x :: l.drop i) ∧ Below base w0 w' := by
  by_cases he : i = l.length
  · subst he
    obtain ⟨A, c, rfl⟩ := Kd.R_slice HO
    rw [List.take_of_length_le (Nat.le_refl _), List.drop_of_length_le (Nat.le_refl _)]
    exact insert_end l x hn base ok w0 w hB hbase A c HO gx hx hok
  · rcases Row.of_R HO with ⟨_, rfl⟩ | ⟨g, c, rest, rfl, hg, hr⟩
    · simp at hi; simp at he; omega
    · by_cases hc : l.length + 1 ≤ c
      · exact insert_shift l x hn i (by omega) base ok w0 w hB hbase g c rest hr hg hc gx hx (fun e => hne (by rw [e]; simp [Value.ownBlock]))
      · exact insert_grow l x hn i (by omega) base ok w0 w hB hbase g c rest hr hok (by omega) gx hx
end Go.Proofs.Ytnpiglojamhpiaa.Rrs
namespace Go.Proofs.Ytnpiglojamhpiaa.Rrs
open Go.RowKit Go.Proofs.YtnpiglojamhpiaaW.PrintWords Go.Proofs.YtnpiglojamhpiaaW.PrintLast Go.Proofs.YtnpiglojamhpiaaW.PrintMore Go.Proofs.Ytnpiglojamhpiaa.Given Go.Proofs.Ytnpiglojamhpiaa.PRd Go.Proofs.Ytnpiglojamhpiaa.PRr
set_option linter.unusedVariables false
set_option linter.unusedSimpArgs false
abbrev zeroR : RR := ⟨⟨#[]⟩, 0, 0, 0, ⟨#[]⟩⟩
theorem run_clear1 (w : World) (ty : TypeId) (g o cc : Nat) (cur : List Value) (hg : w.heap[g]? = some (.cells cur.toArray tRR (0, 0))) (hfit : o + 5 ≤ cur.length) :
    (Builtin.clear_ #[22] ty #[.slice (some ⟨g, o, none⟩) 1 cc]).run Try.prog w = .ok (.tuple #[]) (w.setRow g (cur.take o ++ cellsR zeroR ++ cur.drop (o + 5)).toArray) := by
  obtain ⟨i0, hi0, hz0, hzs, hzb⟩ := info_parts_RR
  have hu22 := Try.underlying22
  have hst := run_storeCells_at Try.prog g o tRR (cellsR zeroR) 0 cur.toArray w hg (by simpa [cellsR] using hfit) (fun v hv => flat_one [zeroR] v (by rw [flat, flat, List.append_nil]; exact hv))
  simp [Builtin.clear_, run_underlying hu22, zeroValue, typeInfo, hi0, hz0]
  have e : (Builtin.zeroCells zRR.cells 1).toList = cellsR zeroR := by first | (apply List.ext_getElem? ; intro j; match j with | 0 | 1 | 2 | 3 | 4 => (simp [Builtin.zeroCells, cellsR, Value.cells]; done) | j + 5 => (simp [Builtin.zeroCells, cellsR, Value.cells]; done)) | (simp [Builtin.zeroCells, cellsR, Value.cells, List.range_succ]; done)
  rw [e, hst]
  simp [cellsR]
theorem Row.clear {w : World} {base g cap : Nat} {l : List RR} {rest : List Value} (h : Row w base g cap l rest) (hr : 5 ≤ rest.length) :
    Row (w.setRow g ((flat l ++ rest).take (l.length * 5) ++ cellsR zeroR ++ (flat l ++ rest).drop (l.length * 5 + 5)).toArray) base g cap l (cellsR zeroR ++ rest.drop 5) := by
  have e : (flat l ++ rest).take (l.length * 5) ++ cellsR zeroR ++ (flat l ++ rest).drop (l.length * 5 + 5) = flat l ++ (cellsR zeroR ++ rest.drop 5) := by
    rw [List.take_append_of_le_length (by rw [flat_length]; exact Nat.le_refl _), List.take_of_length_le (by rw [flat_length]; exact Nat.le_refl _), List.drop_append (l₁ := flat l), flat_length, List.drop_of_length_le (l := flat l) (by rw [flat_length]; omega), List.nil_append, Nat.add_sub_cancel_left, List.append_assoc]
  rw [e]
  exact ⟨setRow_heap _ g _ _ _ _ h.blk, h.lo, h.fits, by rw [List.length_append, cellsR_length, List.length_drop]; have := h.len; omega⟩
set_option maxHeartbeats 8000000 in
set_option maxRecDepth 100000 in
theorem delete_any (l : List RR) (hn : l.length ≤ 1000000) (i : Nat) (hi : i < l.length) (base : Nat) (ok : Nat → Prop) (w0 w : World) (hB : Below base w0 w) (hbase : base ≤ w.heap.size) (g c : Nat) (HO : Kd.R kRR tRR w base ok (.slice (some ⟨g, 0, none⟩) l.length c) l) :
    Calls Try.prog 21 #[.slice (some ⟨g, 0, none⟩) l.length c, .int .i64 (i : Nat), .int .i64 ((i + 1 : Nat) : Int)] w fun e w' => ∃ v', e = .returned v' ∧ Kd.R kRR tRR w' base ok v' (l.eraseIdx i) ∧ Below base w0 w' := by
  have hu22 := Try.underlying22
  have hu41 := Try.underlying24
  obtain ⟨_, hlc, _⟩ := Kd.R_reads' HO
  obtain ⟨n, hnn⟩ : ∃ n, l.length = n := ⟨_, rfl⟩
  rw [hnn] at HO hi hn hlc
  have hfit : c ≤ 9223372036854775807 := by
    rcases Row.of_R (by rw [← hnn] at HO; exact HO) with ⟨h, _⟩ | ⟨g', c', rest, h, _, hr⟩
    · cases h
    · injection h with _ _ h
      have := hr.fits
      unfold maxLen at this
      omega
  have HOO := Lib.hid HO
  have HB := Lib.hid hB
  have HBS := Lib.hid hbase
  have HNN := Lib.hid hnn
  have mixed : Try.prog.follows Departure.mixedOrders = true := by kernel_rfl
  have hz2 : ¬ ((i : Int) = (i : Int) + 1) := by omega
  have hw1 : IntKind.i64.wrap ((i : Int) + 1) = (i : Int) + 1 := by rw [IntKind.wrap_i64]; omega
  have hb1 : (0 : Int) ≤ (i : Int) + 1 := by omega
  have hin : i ≤ n := by omega
  have htn : ((i : Int) + 1).toNat = i + 1 := by omega
  have hb3 : (i : Int) ≤ (i : Int) + 1 := by omega
  have hb6 : ((i : Int) + 1) ≤ (n : Int) := by omega
  have hb7 : (n : Int) ≤ (c : Int) := by omega
  have hci : ¬ (c = i) := by omega
  have hni : ¬ (n = i) := by omega
  have hic : (i : Int) ≤ (c : Int) := by omega
  have hcast : ((i + 1 : Nat) : Int) = (i : Int) + 1 := by omega
  rw [hnn, hcast]
  clear hnn HO hB hbase hcast
  go_enter Try.func21, Try.ntmps21
  go_wp2_with fail
  go_still_tail 6, (by kernel_rfl)
  change wpList _ _ _ _ _ w.drew
  have HO1 := Lib.hid (show Kd.R kRR tRR w.drew base ok (.slice (some ⟨g, 0, none⟩) n c) l from Kd.R_below HOO.out (below_drew1 (Below.refl _ _)))
  have HB1 := Lib.hid (show Below base w0 w.drew from HB.out.drew)
  go_wp2_with (at_builtin; refine Kd.R_delete (w0 := w0) kRR base rfl _ _ 22 24 rfl hu22 info_size rfl rfl (by first | rfl | (simp [Addr.add_lit]; done) | (simp [Addr.add_lit]; rfl)) rfl HO1.out hi HB1.out (by first | exact HBS.out | (show base ≤ w.heap.size; exact HBS.out)) ?_; intro w1 hR1 hB1 hg1)
  all_goals
    have hel : (l.eraseIdx i).length = n - 1 := by rw [List.length_eraseIdx, HNN.out, if_pos hi]
    rcases Row.of_R hR1 with ⟨hh, _⟩ | ⟨g', c', rest, hh, hg, hrow⟩
    · cases hh
    · injection hh with hA hlA hcc
      injection hA with hA
      injection hA with hA hA2 hA3
      subst hA hcc
      have hl := hrow.len
      have h5 : 5 ≤ rest.length := by omega
      have hc := fun cc => run_clear1 w1 0 g ((n - 1) * 5) cc _ hrow.blk (by rw [List.length_append, flat_length]; omega)
      have hfin := hrow.clear h5
      rw [hel] at hfin
      have hn1 : n - (n - 1) = 1 := by omega
      rw [hn1, hc]
      have hR := hfin.R hg
      have hgw : w1.grownBy (w1.setRow g ((flat (l.eraseIdx i) ++ rest).take ((n - 1) * 5) ++ cellsR zeroR ++ (flat (l.eraseIdx i) ++ rest).drop ((n - 1) * 5 + 5)).toArray) (some g) :=
        ⟨rfl, rfl, rfl, by simp, fun k hk hkg => setRow_other _ _ _ _ (fun e => hkg (by rw [e]))⟩
      have hBF := hB1.grown hgw (Nat.le_trans HBS.out (by have := hg1.size; exact this)) (fun k hk => by injection hk with hk; subst hk; exact hrow.lo)
      rw [hel] at hR
      have HRF := Lib.hid hR
      have HBF := Lib.hid hBF
      clear hR hBF hgw hfin hc hrow hR1 hB1 hg1
      generalize w1.setRow g ((flat (l.eraseIdx i) ++ rest).take ((n - 1) * 5) ++ cellsR zeroR ++ (flat (l.eraseIdx i) ++ rest).drop ((n - 1) * 5 + 5)).toArray = w2 at HRF HBF ⊢
      rw [Result.andThen_ok, Oper.upon_value]
      rename_i K1 hK1 K2 hK2
      refine hK2 _ _ ?_
      simp only [Act.put]
      go_wp2_with fail
      go_ret
      first | exact ⟨_, rfl, HRF.out, HBF.out⟩ | (have hc1 : c = i + 1 := (by assumption); have h2 := HRF.out; rw [hc1] at h2; exact ⟨_, rfl, h2, HBF.out⟩)
end Go.Proofs.Ytnpiglojamhpiaa.Rrs
namespace Go.Proofs.Ytnpiglojamhpiaa.Rrs
open Go.RowKit Go.Proofs.YtnpiglojamhpiaaW.PrintWords Go.Proofs.YtnpiglojamhpiaaW.PrintLast Go.Proofs.YtnpiglojamhpiaaW.PrintMore Go.Proofs.Ytnpiglojamhpiaa.Given Go.Proofs.Ytnpiglojamhpiaa.PRd Go.Proofs.Ytnpiglojamhpiaa.PRr
set_option linter.unusedVariables false
noncomputable def dropS (l : List RR) (x : RR) : List RR := if hit l x = true then l.eraseIdx (place l x) else l
end Go.Proofs.Ytnpiglojamhpiaa.Rrs
namespace Go.Proofs.Ytnpiglojamhpiaa.Given
open Go.RowKit Go.Proofs.YtnpiglojamhpiaaW.PrintWords Go.Proofs.YtnpiglojamhpiaaW.PrintLast Go.Proofs.YtnpiglojamhpiaaW.PrintMore Go.Proofs.Ytnpiglojamhpiaa.PRd Go.Proofs.Ytnpiglojamhpiaa.PRr Go.Proofs.Ytnpiglojamhpiaa.Rrs
set_option linter.unusedVariables false
open Classical in
noncomputable def rrset_Drop.f (l0 : List (S24)) (a1_0 : ByteArray) (a1_1 : Int) (a1_2 : Int) (a1_3 : Int) (a1_4 : ByteArray) : Option (List (S24) × Bool) :=
  if Splits l0 ⟨a1_0, a1_1, a1_2, a1_3, a1_4⟩ then some (dropS l0 ⟨a1_0, a1_1, a1_2, a1_3, a1_4⟩, hit l0 ⟨a1_0, a1_1, a1_2, a1_3, a1_4⟩) else none
set_option maxHeartbeats 8000000 in
set_option maxRecDepth 100000 in
theorem rrset_Drop.calls (A0 : Option Addr) (c0 : Nat) (l0 : List (S24)) (a1_0 : ByteArray) (a1_1 : Int) (a1_2 : Int) (a1_3 : Int) (a1_4 : ByteArray) (r1 : List (S24)) (r2 : Bool) (w : World) (hr0 : Kd.C k24 w A0 l0.length l0) (hc0 : l0.length ≤ c0) (h : rrset_Drop.f l0 a1_0 a1_1 a1_2 a1_3 a1_4 = some (r1, r2)) :
    Calls Try.prog 9 #[.slice A0 l0.length c0, .agg #[.string a1_0, .int .i64 a1_1, .int .i64 a1_2, .int .i64 a1_3, .string a1_4]] w fun e w' => ∃ v0_ : Value, e = .returned (.tuple #[v0_, .bool r2]) ∧ Kd.R k24 24 w' w.heap.size (fun _ => True) v0_ r1 ∧ Below w.heap.size w w' := by
  unfold rrset_Drop.f at h
  obtain ⟨x, hx⟩ : ∃ x : RR, (⟨a1_0, a1_1, a1_2, a1_3, a1_4⟩ : RR) = x := ⟨_, rfl⟩
  rw [hx] at h
  have hS : Splits l0 x := Classical.byContradiction fun hn => by rw [if_neg hn] at h; cases h
  rw [if_pos hS] at h
  injection h with h
  injection h with h1 h2
  have hat : rrset_at.f l0 a1_0 a1_1 a1_2 a1_3 a1_4 = some (((place l0 x : Nat) : Int), hit l0 x) := by unfold rrset_at.f; rw [hx, if_pos hS]
  have hcl : slices_Clone.f l0 = some l0 := by unfold slices_Clone.f; rw [if_pos hS.len]
  have HS := Lib.hid hS
  have H1 := Lib.hid h1
  have H2 := Lib.hid h2
  have HX := Lib.hid hx
  have HAT := Lib.hid hat
  have HCL := Lib.hid hcl
  have HR := Lib.hid hr0
  have HP := Lib.hid (place_le l0 x)
  clear h1 h2 hx hat hcl hS hr0
  have HB := Aside0.mk (Below.refl w.heap.size w)
  have hu41 := Try.underlying24
  go_enter Try.func9, Try.ntmps9
  go_wp2_with (first | ((with_reducible refine gate_dst (N := 3) rfl ?_); refine box_event ?hg (N := 3) ?hd (cs := #[.string a1_0, .int .i64 a1_1, .int .i64 a1_2, .int .i64 a1_3, .string a1_4]) (t := 24) ?hr ?_; (case hd => rfl); (case hg => rfl); (case hr => first | (go_simp; done) | (go_simp; rfl)); intro gb hg w3 hbox hb; have n0_ := Aside0.mk (below_step (HB.out) hb); have n1_ := Aside0.mk (hbox); have n2_ := Aside0.mk (show w.heap.size ≤ gb by rw [hg]; exact below_size HB.out); clear HB; have HB := n0_; have BK := n1_; have GE := n2_; clear n0_ n1_ n2_; clear hb hbox hg))
  refine (slices_Clone.calls A0 c0 l0 l0 w3 (Kd.C_below HR.out HB.out) hc0 HCL.out).mono ?_
  rintro e w4 ⟨v, rfl, hv, hb4⟩
  obtain ⟨A, c, rfl, hlc, hC⟩ := Kd.R_reads hv
  have HB4 := Lib.hid (below_then HB.out HB.out.size hb4)
  have BK4 := Lib.hid (blk_below BK.out hb4)
  have HV := Lib.hid (show Kd.R k24 24 w4 w3.heap.size (fun k => k ≠ gb) (.slice A l0.length c) l0 from Kd.R_mono (Kd.R_bound hv) fun k hk e => by have h1 := hk.2.1; have h2 := blk_lt BK.out; omega)
  have HS3 := Lib.hid HB.out.size
  have HC := Lib.hid hC
  clear hv hC hb4 HB BK
  have hcz0 : w4.cell? ⟨gb, 0, none⟩ = some (.string a1_0) := (blk_cell BK4.out 0).trans rfl
  have hcz1 : w4.cell? ⟨gb, 1, none⟩ = some (.int .i64 a1_1) := (blk_cell BK4.out 1).trans rfl
  have hcz2 : w4.cell? ⟨gb, 2, none⟩ = some (.int .i64 a1_2) := (blk_cell BK4.out 2).trans rfl
  have hcz3 : w4.cell? ⟨gb, 3, none⟩ = some (.int .i64 a1_3) := (blk_cell BK4.out 3).trans rfl
  have hcz4 : w4.cell? ⟨gb, 4, none⟩ = some (.string a1_4) := (blk_cell BK4.out 4).trans rfl
  go_wp2_with fail
  refine (rrset_at.calls A c l0 a1_0 a1_1 a1_2 a1_3 a1_4 _ _ w4 HC.out hlc HAT.out).mono ?_
  rintro e w5 ⟨rfl, hb5⟩
  have HB5 := Lib.hid (below_then HB4.out HB4.out.size hb5)
  have BK5 := Lib.hid (blk_below BK4.out hb5)
  have HV5 := Lib.hid (Kd.R_below HV.out hb5)
  have HSZ := Lib.hid hb5.size
  clear hb5 HB4 BK4 HV HC hcz0 hcz1 hcz2 hcz3 hcz4
  have hcz0 : w5.cell? ⟨gb, 0, none⟩ = some (.string a1_0) := (blk_cell BK5.out 0).trans rfl
  have hcz1 : w5.cell? ⟨gb, 1, none⟩ = some (.int .i64 a1_1) := (blk_cell BK5.out 1).trans rfl
  have hcz2 : w5.cell? ⟨gb, 2, none⟩ = some (.int .i64 a1_2) := (blk_cell BK5.out 2).trans rfl
  have hcz3 : w5.cell? ⟨gb, 3, none⟩ = some (.int .i64 a1_3) := (blk_cell BK5.out 3).trans rfl
  have hcz4 : w5.cell? ⟨gb, 4, none⟩ = some (.string a1_4) := (blk_cell BK5.out 4).trans rfl
  obtain ⟨p, hp⟩ : ∃ p, place l0 x = p := ⟨_, rfl⟩
  have HPP := Lib.hid hp
  cases hh : hit l0 x with
  | false =>
    have HH := Lib.hid hh
    rw [hp]
    clear hh hp
    have e1 : dropS l0 x = l0 := by unfold dropS; rw [HH.out, if_neg (by decide)]
    have E1 := Lib.hid (H1.out.symm.trans e1)
    have E2 := Lib.hid (H2.out.symm.trans HH.out)
    have HVF := Lib.hid (show Kd.R kRR tRR w5 w.heap.size (fun _ => True) (.slice A l0.length c) l0 from Kd.R_mono (Kd.R_lower HV5.out HS3.out) (fun _ _ => trivial))
    clear e1
    go_wp2_with fail
    go_ret2
    exact ⟨_, by rw [E2.out]; rfl, by rw [E1.out]; exact HVF.out, HB5.out⟩
  | true =>
    have HH := Lib.hid hh
    rw [hp]
    clear hh hp
    have hpl : p < l0.length := by
      have h := HH.out
      unfold hit at h
      rw [HPP.out] at h
      simp at h
      exact h.1
    rcases Row.of_R HV5.out with ⟨_, hn0⟩ | ⟨g, c', rest, hsl, hg, hrow⟩
    · rw [hn0] at hpl; simp at hpl
    · injection hsl with hA _ hcc
      subst hA hcc
      have hR5 : Kd.R kRR tRR w5 w.heap.size (fun _ => True) (.slice (some ⟨g, 0, none⟩) l0.length c) l0 := Kd.R_mono (Kd.R_lower HV5.out HS3.out) (fun _ _ => trivial)
      have hd := delete_any l0 HS.out.len p hpl w.heap.size (fun _ => True) w w5 HB5.out HB5.out.size g c hR5
      rw [show ((p + 1 : Nat) : Int) = (p : Int) + 1 by omega] at hd
      have HD := Lib.hid hd
      have hpn : p ≤ 1000000 := by have := HS.out.len; omega
      clear hd hR5 hrow
      go_wp2_with fail
      refine (HD.out).mono ?_
      rintro e w6 ⟨v', rfl, hv', hb6⟩
      have e1 : dropS l0 x = l0.eraseIdx p := by unfold dropS; rw [HH.out, if_pos rfl, HPP.out]
      have HV6 := Lib.hid hv'
      have HB6 := Lib.hid hb6
      have E1 := Lib.hid (H1.out.symm.trans e1)
      have E2 := Lib.hid (H2.out.symm.trans HH.out)
      clear hv' hb6 e1
      go_wp2_with fail
      go_ret2
      exact ⟨_, by rw [E2.out]; rfl, by rw [E1.out]; exact HV6.out, HB6.out⟩
end Go.Proofs.Ytnpiglojamhpiaa.Given
namespace Go.Proofs.Ytnpiglojamhpiaa.PRr
open Go.RowKit Go.Proofs.YtnpiglojamhpiaaW.PrintWords Go.Proofs.YtnpiglojamhpiaaW.PrintLast Go.Proofs.YtnpiglojamhpiaaW.PrintMore Go.Proofs.Ytnpiglojamhpiaa.Given Go.Proofs.Ytnpiglojamhpiaa.PRd
attribute [local go_sem] max2_int min2_int max_two min_two max_three min_three max_four min_four   -- for this text's walks alone
set_option linter.unusedVariables false
set_option linter.unusedSimpArgs false
theorem eqA24 (d : Nat) (w : World) (x0 y0 : ByteArray) (x1 y1 : Int) (x2 y2 : Int) (x3 y3 : Int) (x4 y4 : ByteArray) :
  (Op.equalIn (d + 2) 24 (.agg #[.string x0, .int .i64 x1, .int .i64 x2, .int .i64 x3, .string x4]) (.agg #[.string y0, .int .i64 y1, .int .i64 y2, .int .i64 y3, .string y4])).run Try.prog w = .ok (x0.toList == y0.toList && (x1 == y1 && (x2 == y2 && (x3 == y3 && (x4.toList == y4.toList))))) w := by
 refine eqA_of Try.underlying24 (by kernel_rfl) ?_
 refine eqf_cons (by rfl) (by go_simp; rfl) (by go_simp; rfl) (by go_simp) ?_
 refine eqf_cons (by rfl) (by go_simp; rfl) (by go_simp; rfl) (by go_simp) ?_
 refine eqf_cons (by rfl) (by go_simp; rfl) (by go_simp; rfl) (by go_simp) ?_
 refine eqf_cons (by rfl) (by go_simp; rfl) (by go_simp; rfl) (by go_simp) ?_
 exact eqf_last (by rfl) (by go_simp; rfl) (by go_simp; rfl) (by go_simp)
end Go.Proofs.Ytnpiglojamhpiaa.PRr
namespace Go.Proofs.Ytnpiglojamhpiaa.PRr
open Go.RowKit Go.Proofs.YtnpiglojamhpiaaW.PrintWords Go.Proofs.YtnpiglojamhpiaaW.PrintLast Go.Proofs.YtnpiglojamhpiaaW.PrintMore Go.Proofs.Ytnpiglojamhpiaa.Given Go.Proofs.Ytnpiglojamhpiaa.PRd
attribute [local go_sem] max2_int min2_int max_two min_two max_three min_three max_four min_four   -- for this text's walks alone
set_option linter.unusedVariables false
set_option linter.unusedSimpArgs false
def beadrollref11_One.f (k : Nat) (a0_0 : ByteArray) (a0_1 : Int) (a0_2 : Int) (a0_3 : Int) (a0_4 : ByteArray) (a1_0 : ByteArray) (a1_1 : Int) (a1_2 : Int) (a1_3 : Int) (a1_4 : ByteArray) : Option (Bool) := (beadrollref07_Alike.f k a0_0 a1_0).bind fun t135 => (if t135 = true then (if a0_1 = a1_1 then (if a0_2 = a1_2 then ((beadrollref11_Said.f k a0_0 a0_1 a0_2 a0_3 a0_4).bind fun t136 => ((beadrollref11_Said.f k a1_0 a1_1 a1_2 a1_3 a1_4).bind fun t137 => (some (t136.toList == t137.toList)))) else (some false)) else (some false)) else (some false))
def beadrollref11_One.T1 : Bool × List (List Nat × List Nat) := (true, [([], []), ([0], [0]), ([], []), ([2], [2]), ([1, 3], [1, 3]), ([4, 4], [4]), ([5], [5]), ([6, 5], [5, 6]), ([5], [5]), ([8, 5], [5, 8]), ([7, 9, 5], [5, 7, 9]), ([5, 10], [5, 10]), ([11, 5], [11]), ([12], [12]), ([13, 12], [12, 13]), ([12], [12]), ([15, 12], [12, 15]), ([14, 16, 12], [12, 14, 16]), ([12, 17], [12, 17]), ([18, 12], [18]), ([19], [19]), ([20, 19, 19], [19, 20]), ([19], [19]), ([22, 21, 19], [19, 22]), ([21, 23, 19], [19, 21, 23]), ([19, 24], [19, 24]), ([25, 23, 0, 1, 2, 3, 4, 5, 6, 7, 8, 9, 10, 11, 12, 13, 14, 15, 16, 17, 18, 19, 20, 21, 22, 23, 24, 25], [25])])
def beadrollref11_One.B1 : List Nat := [0, 1, 0, 4, 15, 31, 63, 127, 63, 319, 1023, 2047, 4095, 8191, 16383, 8191, 40959, 131071, 262143, 524287, 1048575, 2097151, 1048575, 8388607, 16777215, 33554431, 67108863]
theorem beadrollref11_One.tab1 : rtab .any (opsOf Try.f33 1) = beadrollref11_One.T1 := by kernel_rfl
theorem beadrollref11_One.bits1 : waitsOk beadrollref11_One.T1.2 beadrollref11_One.B1 = true := by kernel_rfl
set_option maxHeartbeats 8000000 in
set_option maxRecDepth 100000 in
theorem beadrollref11_One.calls (k : Nat) (a0_0 : ByteArray) (a0_1 : Int) (a0_2 : Int) (a0_3 : Int) (a0_4 : ByteArray) (a1_0 : ByteArray) (a1_1 : Int) (a1_2 : Int) (a1_3 : Int) (a1_4 : ByteArray) (r : Bool) (w : World) (h : beadrollref11_One.f k a0_0 a0_1 a0_2 a0_3 a0_4 a1_0 a1_1 a1_2 a1_3 a1_4 = some r) :
  Calls Try.prog 33 #[.agg #[.string a0_0, .int .i64 a0_1, .int .i64 a0_2, .int .i64 a0_3, .string a0_4], .agg #[.string a1_0, .int .i64 a1_1, .int .i64 a1_2, .int .i64 a1_3, .string a1_4]] w fun e w' => e = .returned (.bool r) ∧ Below w.heap.size w w' := by
 have hu24 := Try.underlying24
 have HB := Aside0.mk (Below.refl w.heap.size w)
 have H : ((beadrollref07_Alike.f k a0_0 a1_0).bind fun t135 => (if t135 = true then (if a0_1 = a1_1 then (if a0_2 = a1_2 then ((beadrollref11_Said.f k a0_0 a0_1 a0_2 a0_3 a0_4).bind fun t136 => ((beadrollref11_Said.f k a1_0 a1_1 a1_2 a1_3 a1_4).bind fun t137 => (some (t136.toList == t137.toList)))) else (some false)) else (some false)) else (some false))) = some r := h
 clear h
 replace H := Option.bind_eq_some_iff.mp H
 obtain ⟨t135, A30, H⟩ := H
 replace H : (if t135 = true then (if a0_1 = a1_1 then (if a0_2 = a1_2 then ((beadrollref11_Said.f k a0_0 a0_1 a0_2 a0_3 a0_4).bind fun t136 => ((beadrollref11_Said.f k a1_0 a1_1 a1_2 a1_3 a1_4).bind fun t137 => (some (t136.toList == t137.toList)))) else (some false)) else (some false)) else (some false)) = some r := H
 have A3 := Aside0.mk A30
 clear A30
 by_cases c4 : t135 = true
 ·subst c4
  have H1 : (if a0_1 = a1_1 then (if a0_2 = a1_2 then ((beadrollref11_Said.f k a0_0 a0_1 a0_2 a0_3 a0_4).bind fun t136 => ((beadrollref11_Said.f k a1_0 a1_1 a1_2 a1_3 a1_4).bind fun t137 => (some (t136.toList == t137.toList)))) else (some false)) else (some false)) = some r := by rw [if_pos rfl] at H; exact H
  clear H
  have H := H1
  clear H1
  by_cases c5 : a0_1 = a1_1
  ·rw [if_pos c5] at H
   have c5b0 : (a0_1 == a1_1) = true := beq_iff_eq.mpr c5
   have c5b1 : (a0_1 != a1_1) = false := bne_eq_false_iff_eq.mpr c5
   clear c5
   by_cases c6 : a0_2 = a1_2
   ·rw [if_pos c6] at H
    have c6b0 : (a0_2 == a1_2) = true := beq_iff_eq.mpr c6
    have c6b1 : (a0_2 != a1_2) = false := bne_eq_false_iff_eq.mpr c6
    clear c6
    replace H := Option.bind_eq_some_iff.mp H
    obtain ⟨t136, A70, H⟩ := H
    replace H : ((beadrollref11_Said.f k a1_0 a1_1 a1_2 a1_3 a1_4).bind fun t137 => (some (t136.toList == t137.toList))) = some r := H
    have A7 := Aside0.mk A70
    clear A70
    replace H := Option.bind_eq_some_iff.mp H
    obtain ⟨t137, A80, H⟩ := H
    replace H : (some (t136.toList == t137.toList)) = some r := H
    have A8 := Aside0.mk A80
    clear A80
    obtain rfl := Option.some.inj H
    go_enter Try.func33, Try.ntmps33
    (try go_wp2_with (first | ((with_reducible refine gate_dst (N := 2) rfl ?_); refine box_event ?hg (N := 2) ?hd (cs := #[.string a0_0, .int .i64 a0_1, .int .i64 a0_2, .int .i64 a0_3, .string a0_4]) (t := 24) ?hr ?_; (case hd => rfl); (case hg => rfl); (case hr => (go_simp; done)); intro gb133 hg w9 hbox hb; have n0_ := Aside0.mk (below_step (by repeat ((with_reducible (exact HB.out)))) hb); have n1_ := Aside0.mk (hbox); have n2_ := Aside0.mk ((by rw [hg]; exact (below_size (by repeat ((with_reducible (exact HB.out))))) : w.heap.size ≤ gb133)); have n3_ := Aside0.mk ((by rw [hg]; exact (below_size (by repeat ((with_reducible (exact HB.out))))) : w.heap.size ≤ gb133)); clear HB; have HB := n0_; have BK133 := n1_; have GW133 := n2_; have GE133 := n3_; clear n0_ n1_ n2_ n3_; clear hb hbox hg) | ((with_reducible refine gate_dst (N := 3) rfl ?_); refine box_event ?hg (N := 3) ?hd (cs := #[.string a1_0, .int .i64 a1_1, .int .i64 a1_2, .int .i64 a1_3, .string a1_4]) (t := 24) ?hr ?_; (case hd => rfl); (case hg => rfl); (case hr => (go_simp; done)); intro gb134 hg w10 hbox hb; have n0_ := Aside0.mk (blk_below (g := gb133) (o := .cells #[.string a0_0, .int .i64 a0_1, .int .i64 a0_2, .int .i64 a0_3, .string a0_4] 24 (0, 0)) (by (with_reducible repeat ((refine blk_drewN ?_ _))); exact BK133.out) hb); have n1_ := Aside0.mk (below_step (by repeat ((with_reducible (exact HB.out)))) hb); have n2_ := Aside0.mk (hbox); have n3_ := Aside0.mk ((by rw [hg]; exact (below_size (by repeat ((with_reducible (exact HB.out))))) : w.heap.size ≤ gb134)); have n4_ := Aside0.mk ((by rw [hg]; exact (below_size (by repeat ((with_reducible (exact HB.out))))) : w.heap.size ≤ gb134)); have n5_ := Aside0.mk ((by rw [hg]; exact Nat.ne_of_lt (blk_lt (g := gb133) (o := .cells #[.string a0_0, .int .i64 a0_1, .int .i64 a0_2, .int .i64 a0_3, .string a0_4] 24 (0, 0)) (by (with_reducible repeat ((refine blk_drewN ?_ _))); exact BK133.out)) : gb133 ≠ gb134)); have n6_ := Aside0.mk ((by rw [hg]; exact Nat.ne_of_gt (blk_lt (g := gb133) (o := .cells #[.string a0_0, .int .i64 a0_1, .int .i64 a0_2, .int .i64 a0_3, .string a0_4] 24 (0, 0)) (by (with_reducible repeat ((refine blk_drewN ?_ _))); exact BK133.out)) : gb134 ≠ gb133)); clear BK133; clear HB; have BK133 := n0_; have HB := n1_; have BK134 := n2_; have GW134 := n3_; have GE134 := n4_; have NB133_134 := n5_; have NB134_133 := n6_; clear n0_ n1_ n2_ n3_ n4_ n5_ n6_; clear hb hbox hg)))
    have n0_ := Aside0.mk (blk_drew BK133.out)
    have n1_ := Aside0.mk (blk_drew BK134.out)
    have n2_ := Aside0.mk (below_drew1 HB.out)
    clear BK133
    clear BK134
    clear HB
    have BK133 := n0_
    have BK134 := n1_
    have HB := n2_
    clear n0_ n1_ n2_
    refine start_ (n := 27) (S := fun w' => w'.cell? ⟨gb133, 0, none⟩ = some (.string a0_0) ∧ w'.cell? ⟨gb133, 1, none⟩ = some (.int .i64 a0_1) ∧ w'.cell? ⟨gb133, 2, none⟩ = some (.int .i64 a0_2) ∧ w'.cell? ⟨gb133, 3, none⟩ = some (.int .i64 a0_3) ∧ w'.cell? ⟨gb133, 4, none⟩ = some (.string a0_4) ∧ w'.cell? ⟨gb134, 0, none⟩ = some (.string a1_0) ∧ w'.cell? ⟨gb134, 1, none⟩ = some (.int .i64 a1_1) ∧ w'.cell? ⟨gb134, 2, none⟩ = some (.int .i64 a1_2) ∧ w'.cell? ⟨gb134, 3, none⟩ = some (.int .i64 a1_3) ∧ w'.cell? ⟨gb134, 4, none⟩ = some (.string a1_4)) (ds := []) #[false, false, false, false, false, false, false, false, false, false, false, false, false, false, false, false, false, false, false, false, false, false, false, false, false, false, false] (by kernel_rfl) rfl rfl ⟨(blk_cell BK133.out 0).trans rfl, (blk_cell BK133.out 1).trans rfl, (blk_cell BK133.out 2).trans rfl, (blk_cell BK133.out 3).trans rfl, (blk_cell BK133.out 4).trans rfl, (blk_cell BK134.out 0).trans rfl, (blk_cell BK134.out 1).trans rfl, (blk_cell BK134.out 2).trans rfl, (blk_cell BK134.out 3).trans rfl, (blk_cell BK134.out 4).trans rfl⟩ (fun hHeld => ?_); refine with_tabW beadrollref11_One.tab1 beadrollref11_One.bits1 (fun HT_ HW_ => ?_)
    generalize w10.drew = w11 at BK133 BK134 HB hHeld ⊢
    refine pure_ (i := 0) (N := some 5) (v := ?_) (a' := ?_) #[true, false, false, false, false, false, false, false, false, false, false, false, false, false, false, false, false, false, false, false, false, false, false, false, false, false, false] rfl rfl (any_of HT_.out (by kernel_rfl)) (fun _ _ _ h => h) (Or.inl ⟨by rfl, ?_⟩) ?_ ?_
    rotate_left
    ·intro w'
     go_simp
     with_reducible rfl
    rotate_left
    ·simp only [Act.put, List.setIfInBounds_toArray, List.set_cons_zero, List.set_cons_succ, i64_w, i32_w]
     rfl
    refine pure_ (i := 2) (N := some 7) (v := ?_) (a' := ?_) #[true, false, true, false, false, false, false, false, false, false, false, false, false, false, false, false, false, false, false, false, false, false, false, false, false, false, false] rfl rfl (any_of HT_.out (by kernel_rfl)) (fun _ _ _ h => h) (Or.inl ⟨by rfl, ?_⟩) ?_ ?_
    rotate_left
    ·intro w'
     go_simp
     with_reducible rfl
    rotate_left
    ·simp only [Act.put, List.setIfInBounds_toArray, List.set_cons_zero, List.set_cons_succ, i64_w, i32_w]
     rfl
    refine take_ (i := 1) (N := some 6) (v := ?_) (a' := ?_) #[true, true, true, false, false, false, false, false, false, false, false, false, false, false, false, false, false, false, false, false, false, false, false, false, false, false, false] rfl rfl (take_ofW HT_.out HW_.out (by kernel_rfl)) (fun _ _ _ h => h) (Or.inl ⟨by rfl, ?_⟩) hHeld ?_ ?_
    rotate_left
    ·rintro w' ⟨s0, s1, s2, s3, s4, s5, s6, s7, s8, s9⟩
     go_simp
     with_reducible rfl
    rotate_left
    ·simp only [Act.put, List.setIfInBounds_toArray, List.set_cons_zero, List.set_cons_succ, i64_w, i32_w]
     rfl
    refine take_ (i := 3) (N := some 8) (v := ?_) (a' := ?_) #[true, true, true, true, false, false, false, false, false, false, false, false, false, false, false, false, false, false, false, false, false, false, false, false, false, false, false] rfl rfl (take_ofW HT_.out HW_.out (by kernel_rfl)) (fun _ _ _ h => h) (Or.inl ⟨by rfl, ?_⟩) hHeld ?_ ?_
    rotate_left
    ·rintro w' ⟨s0, s1, s2, s3, s4, s5, s6, s7, s8, s9⟩
     go_simp
     with_reducible rfl
    rotate_left
    ·simp only [Act.put, List.setIfInBounds_toArray, List.set_cons_zero, List.set_cons_succ, i64_w, i32_w]
     rfl
    refine one_ (i := 4) (N := some 9) #[true, true, true, true, true, false, false, false, false, false, false, false, false, false, false, false, false, false, false, false, false, false, false, false, false, false, false] rfl rfl (one_of HT_.out (by kernel_rfl)) (by decide) (fun K hK => ?_)
    refine goes_ Try.func44 (by kernel_rfl) rfl #[.string a0_0, .string a1_0] (by rfl) rfl rfl (by (try simp only [List.map_toArray, List.map_cons, List.map_nil]); rfl) ?_
    with_reducible refine (beadrollref07_Alike.calls k a0_0 a1_0 true _ A3.out).mono ?_
    rintro e w12 ⟨rfl, hb⟩
    refine ⟨_, rfl, ?_⟩
    have n0_ := Aside0.mk (blk_below (g := gb133) (o := .cells #[.string a0_0, .int .i64 a0_1, .int .i64 a0_2, .int .i64 a0_3, .string a0_4] 24 (0, 0)) (by (with_reducible repeat ((refine blk_drewN ?_ _))); exact BK133.out) hb)
    have n1_ := Aside0.mk (blk_below (g := gb134) (o := .cells #[.string a1_0, .int .i64 a1_1, .int .i64 a1_2, .int .i64 a1_3, .string a1_4] 24 (0, 0)) (by (with_reducible repeat ((refine blk_drewN ?_ _))); exact BK134.out) hb)
    have n2_ := Aside0.mk (below_step (by repeat ((with_reducible (exact HB.out)))) hb)
    clear BK133
    clear BK134
    clear HB
    have BK133 := n0_
    have BK134 := n1_
    have HB := n2_
    clear n0_ n1_ n2_
    (try clear hb)
    refine hK.out _ _ ⟨(blk_cell BK133.out 0).trans rfl, (blk_cell BK133.out 1).trans rfl, (blk_cell BK133.out 2).trans rfl, (blk_cell BK133.out 3).trans rfl, (blk_cell BK133.out 4).trans rfl, (blk_cell BK134.out 0).trans rfl, (blk_cell BK134.out 1).trans rfl, (blk_cell BK134.out 2).trans rfl, (blk_cell BK134.out 3).trans rfl, (blk_cell BK134.out 4).trans rfl⟩ (fun hHeld => ?_)
    clear hK K
    refine norm_ (a' := ?_) ?_ ?_
    rotate_left
    ·show Act.put _ (some 9) _ = _
     simp only [Act.put, List.setIfInBounds_toArray, List.set_cons_zero, List.set_cons_succ, i64_w, i32_w]
     rfl
    refine pure_ (i := 5) (N := some 10) (v := ?_) (a' := ?_) #[true, true, true, true, true, true, false, false, false, false, false, false, false, false, false, false, false, false, false, false, false, false, false, false, false, false, false] rfl rfl (any_of HT_.out (by kernel_rfl)) (fun _ _ _ h => h) (Or.inl ⟨by rfl, ?_⟩) ?_ ?_
    rotate_left
    ·intro w'
     go_simp
     with_reducible rfl
    rotate_left
    ·simp only [Act.put, List.setIfInBounds_toArray, List.set_cons_zero, List.set_cons_succ, i64_w, i32_w]
     rfl
    refine pure_ (i := 6) (N := some 11) (v := ?_) (a' := ?_) #[true, true, true, true, true, true, true, false, false, false, false, false, false, false, false, false, false, false, false, false, false, false, false, false, false, false, false] rfl rfl (any_of HT_.out (by kernel_rfl)) (fun _ _ _ h => h) (Or.inl ⟨by rfl, ?_⟩) ?_ ?_
    rotate_left
    ·intro w'
     go_simp
     with_reducible rfl
    rotate_left
    ·simp only [Act.put, List.setIfInBounds_toArray, List.set_cons_zero, List.set_cons_succ, i64_w, i32_w]
     rfl
    refine pure_ (i := 8) (N := some 13) (v := ?_) (a' := ?_) #[true, true, true, true, true, true, true, false, true, false, false, false, false, false, false, false, false, false, false, false, false, false, false, false, false, false, false] rfl rfl (any_of HT_.out (by kernel_rfl)) (fun _ _ _ h => h) (Or.inl ⟨by rfl, ?_⟩) ?_ ?_
    rotate_left
    ·intro w'
     go_simp
     with_reducible rfl
    rotate_left
    ·simp only [Act.put, List.setIfInBounds_toArray, List.set_cons_zero, List.set_cons_succ, i64_w, i32_w]
     rfl
    refine take_ (i := 7) (N := some 12) (v := ?_) (a' := ?_) #[true, true, true, true, true, true, true, true, true, false, false, false, false, false, false, false, false, false, false, false, false, false, false, false, false, false, false] rfl rfl (take_ofW HT_.out HW_.out (by kernel_rfl)) (fun _ _ _ h => h) (Or.inl ⟨by rfl, ?_⟩) hHeld ?_ ?_
    rotate_left
    ·rintro w' ⟨s0, s1, s2, s3, s4, s5, s6, s7, s8, s9⟩
     go_simp
     with_reducible rfl
    rotate_left
    ·simp only [Act.put, List.setIfInBounds_toArray, List.set_cons_zero, List.set_cons_succ, i64_w, i32_w]
     rfl
    refine take_ (i := 9) (N := some 14) (v := ?_) (a' := ?_) #[true, true, true, true, true, true, true, true, true, true, false, false, false, false, false, false, false, false, false, false, false, false, false, false, false, false, false] rfl rfl (take_ofW HT_.out HW_.out (by kernel_rfl)) (fun _ _ _ h => h) (Or.inl ⟨by rfl, ?_⟩) hHeld ?_ ?_
    rotate_left
    ·rintro w' ⟨s0, s1, s2, s3, s4, s5, s6, s7, s8, s9⟩
     go_simp
     with_reducible rfl
    rotate_left
    ·simp only [Act.put, List.setIfInBounds_toArray, List.set_cons_zero, List.set_cons_succ, i64_w, i32_w]
     rfl
    refine pure_ (i := 10) (N := some 15) (v := ?_) (a' := ?_) #[true, true, true, true, true, true, true, true, true, true, true, false, false, false, false, false, false, false, false, false, false, false, false, false, false, false, false] rfl rfl (any_of HT_.out (by kernel_rfl)) (fun _ _ _ h => h) (Or.inl ⟨by rfl, ?_⟩) ?_ ?_
    rotate_left
    ·intro w'
     go_simp
     with_reducible rfl
    rotate_left
    ·simp only [Act.put, List.setIfInBounds_toArray, List.set_cons_zero, List.set_cons_succ, i64_w, i32_w]
     rfl
    refine pure_ (i := 11) (N := some 16) (v := ?_) (a' := ?_) #[true, true, true, true, true, true, true, true, true, true, true, true, false, false, false, false, false, false, false, false, false, false, false, false, false, false, false] rfl rfl (any_of HT_.out (by kernel_rfl)) (fun _ _ _ h => h) (Or.inl ⟨by rfl, ?_⟩) ?_ ?_
    rotate_left
    ·intro w'
     go_simp
     with_reducible rfl
    rotate_left
    ·simp only [Act.put, List.setIfInBounds_toArray, List.set_cons_zero, List.set_cons_succ, i64_w, i32_w]
     rfl
    refine pure_ (i := 12) (N := some 17) (v := ?_) (a' := ?_) #[true, true, true, true, true, true, true, true, true, true, true, true, true, false, false, false, false, false, false, false, false, false, false, false, false, false, false] rfl rfl (any_of HT_.out (by kernel_rfl)) (fun _ _ _ h => h) (Or.inl ⟨by rfl, ?_⟩) ?_ ?_
    rotate_left
    ·intro w'
     go_simp
     with_reducible rfl
    rotate_left
    ·simp only [Act.put, List.setIfInBounds_toArray, List.set_cons_zero, List.set_cons_succ, i64_w, i32_w]
     rfl
    refine pure_ (i := 13) (N := some 18) (v := ?_) (a' := ?_) #[true, true, true, true, true, true, true, true, true, true, true, true, true, true, false, false, false, false, false, false, false, false, false, false, false, false, false] rfl rfl (any_of HT_.out (by kernel_rfl)) (fun _ _ _ h => h) (Or.inl ⟨by rfl, ?_⟩) ?_ ?_
    rotate_left
    ·intro w'
     go_simp
     with_reducible rfl
    rotate_left
    ·simp only [Act.put, List.setIfInBounds_toArray, List.set_cons_zero, List.set_cons_succ, i64_w, i32_w]
     rfl
    refine pure_ (i := 15) (N := some 20) (v := ?_) (a' := ?_) #[true, true, true, true, true, true, true, true, true, true, true, true, true, true, false, true, false, false, false, false, false, false, false, false, false, false, false] rfl rfl (any_of HT_.out (by kernel_rfl)) (fun _ _ _ h => h) (Or.inl ⟨by rfl, ?_⟩) ?_ ?_
    rotate_left
    ·intro w'
     go_simp
     with_reducible rfl
    rotate_left
    ·simp only [Act.put, List.setIfInBounds_toArray, List.set_cons_zero, List.set_cons_succ, i64_w, i32_w]
     rfl
    refine take_ (i := 14) (N := some 19) (v := ?_) (a' := ?_) #[true, true, true, true, true, true, true, true, true, true, true, true, true, true, true, true, false, false, false, false, false, false, false, false, false, false, false] rfl rfl (take_ofW HT_.out HW_.out (by kernel_rfl)) (fun _ _ _ h => h) (Or.inl ⟨by rfl, ?_⟩) hHeld ?_ ?_
    rotate_left
    ·rintro w' ⟨s0, s1, s2, s3, s4, s5, s6, s7, s8, s9⟩
     go_simp
     with_reducible rfl
    rotate_left
    ·simp only [Act.put, List.setIfInBounds_toArray, List.set_cons_zero, List.set_cons_succ, i64_w, i32_w]
     rfl
    refine take_ (i := 16) (N := some 21) (v := ?_) (a' := ?_) #[true, true, true, true, true, true, true, true, true, true, true, true, true, true, true, true, true, false, false, false, false, false, false, false, false, false, false] rfl rfl (take_ofW HT_.out HW_.out (by kernel_rfl)) (fun _ _ _ h => h) (Or.inl ⟨by rfl, ?_⟩) hHeld ?_ ?_
    rotate_left
    ·rintro w' ⟨s0, s1, s2, s3, s4, s5, s6, s7, s8, s9⟩
     go_simp
     with_reducible rfl
    rotate_left
    ·simp only [Act.put, List.setIfInBounds_toArray, List.set_cons_zero, List.set_cons_succ, i64_w, i32_w]
     rfl
    refine pure_ (i := 17) (N := some 22) (v := ?_) (a' := ?_) #[true, true, true, true, true, true, true, true, true, true, true, true, true, true, true, true, true, true, false, false, false, false, false, false, false, false, false] rfl rfl (any_of HT_.out (by kernel_rfl)) (fun _ _ _ h => h) (Or.inl ⟨by rfl, ?_⟩) ?_ ?_
    rotate_left
    ·intro w'
     go_simp
     with_reducible rfl
    rotate_left
    ·simp only [Act.put, List.setIfInBounds_toArray, List.set_cons_zero, List.set_cons_succ, i64_w, i32_w]
     rfl
    refine pure_ (i := 18) (N := some 23) (v := ?_) (a' := ?_) #[true, true, true, true, true, true, true, true, true, true, true, true, true, true, true, true, true, true, true, false, false, false, false, false, false, false, false] rfl rfl (any_of HT_.out (by kernel_rfl)) (fun _ _ _ h => h) (Or.inl ⟨by rfl, ?_⟩) ?_ ?_
    rotate_left
    ·intro w'
     go_simp
     with_reducible rfl
    rotate_left
    ·simp only [Act.put, List.setIfInBounds_toArray, List.set_cons_zero, List.set_cons_succ, i64_w, i32_w]
     rfl
    refine pure_ (i := 19) (N := some 24) (v := ?_) (a' := ?_) #[true, true, true, true, true, true, true, true, true, true, true, true, true, true, true, true, true, true, true, true, false, false, false, false, false, false, false] rfl rfl (any_of HT_.out (by kernel_rfl)) (fun _ _ _ h => h) (Or.inl ⟨by rfl, ?_⟩) ?_ ?_
    rotate_left
    ·intro w'
     go_simp
     with_reducible rfl
    rotate_left
    ·simp only [Act.put, List.setIfInBounds_toArray, List.set_cons_zero, List.set_cons_succ, i64_w, i32_w]
     rfl
    refine take_ (i := 20) (N := some 25) (v := ?_) (a' := ?_) #[true, true, true, true, true, true, true, true, true, true, true, true, true, true, true, true, true, true, true, true, true, false, false, false, false, false, false] rfl rfl (take_ofW HT_.out HW_.out (by kernel_rfl)) (fun _ _ _ h => h) (Or.inl ⟨by rfl, ?_⟩) hHeld ?_ ?_
    rotate_left
    ·rintro w' ⟨s0, s1, s2, s3, s4, s5, s6, s7, s8, s9⟩
     go_simp
     with_reducible rfl
    rotate_left
    ·simp only [Act.put, List.setIfInBounds_toArray, List.set_cons_zero, List.set_cons_succ, i64_w, i32_w]
     rfl
    refine take_ (i := 22) (N := some 27) (v := ?_) (a' := ?_) #[true, true, true, true, true, true, true, true, true, true, true, true, true, true, true, true, true, true, true, true, true, false, true, false, false, false, false] rfl rfl (take_ofW HT_.out HW_.out (by kernel_rfl)) (fun _ _ _ h => h) (Or.inl ⟨by rfl, ?_⟩) hHeld ?_ ?_
    rotate_left
    ·rintro w' ⟨s0, s1, s2, s3, s4, s5, s6, s7, s8, s9⟩
     go_simp
     with_reducible rfl
    rotate_left
    ·simp only [Act.put, List.setIfInBounds_toArray, List.set_cons_zero, List.set_cons_succ, i64_w, i32_w]
     rfl
    refine one_ (i := 21) (N := some 26) #[true, true, true, true, true, true, true, true, true, true, true, true, true, true, true, true, true, true, true, true, true, true, true, false, false, false, false] rfl rfl (one_of HT_.out (by kernel_rfl)) (by decide) (fun K hK => ?_)
    refine goes_ Try.func29 (by kernel_rfl) rfl #[.agg #[.string a0_0, .int .i64 a0_1, .int .i64 a0_2, .int .i64 a0_3, .string a0_4]] (by rfl) rfl rfl (by (try simp only [List.map_toArray, List.map_cons, List.map_nil]); rfl) ?_
    with_reducible refine (beadrollref11_Said.calls k a0_0 a0_1 a0_2 a0_3 a0_4 t136 _ A7.out).mono ?_
    rintro e w13 ⟨rfl, hb⟩
    refine ⟨_, rfl, ?_⟩
    have n0_ := Aside0.mk (blk_below (g := gb133) (o := .cells #[.string a0_0, .int .i64 a0_1, .int .i64 a0_2, .int .i64 a0_3, .string a0_4] 24 (0, 0)) (by (with_reducible repeat ((refine blk_drewN ?_ _))); exact BK133.out) hb)
    have n1_ := Aside0.mk (blk_below (g := gb134) (o := .cells #[.string a1_0, .int .i64 a1_1, .int .i64 a1_2, .int .i64 a1_3, .string a1_4] 24 (0, 0)) (by (with_reducible repeat ((refine blk_drewN ?_ _))); exact BK134.out) hb)
    have n2_ := Aside0.mk (below_step (by repeat ((with_reducible (exact HB.out)))) hb)
    clear BK133
    clear BK134
    clear HB
    have BK133 := n0_
    have BK134 := n1_
    have HB := n2_
    clear n0_ n1_ n2_
    (try clear hb)
    refine hK.out _ _ ⟨(blk_cell BK133.out 0).trans rfl, (blk_cell BK133.out 1).trans rfl, (blk_cell BK133.out 2).trans rfl, (blk_cell BK133.out 3).trans rfl, (blk_cell BK133.out 4).trans rfl, (blk_cell BK134.out 0).trans rfl, (blk_cell BK134.out 1).trans rfl, (blk_cell BK134.out 2).trans rfl, (blk_cell BK134.out 3).trans rfl, (blk_cell BK134.out 4).trans rfl⟩ (fun hHeld => ?_)
    clear hK K
    refine norm_ (a' := ?_) ?_ ?_
    rotate_left
    ·show Act.put _ (some 26) _ = _
     simp only [Act.put, List.setIfInBounds_toArray, List.set_cons_zero, List.set_cons_succ, i64_w, i32_w]
     rfl
    refine one_ (i := 23) (N := some 28) #[true, true, true, true, true, true, true, true, true, true, true, true, true, true, true, true, true, true, true, true, true, true, true, true, false, false, false] rfl rfl (one_of HT_.out (by kernel_rfl)) (by decide) (fun K hK => ?_)
    refine goes_ Try.func29 (by kernel_rfl) rfl #[.agg #[.string a1_0, .int .i64 a1_1, .int .i64 a1_2, .int .i64 a1_3, .string a1_4]] (by rfl) rfl rfl (by (try simp only [List.map_toArray, List.map_cons, List.map_nil]); rfl) ?_
    with_reducible refine (beadrollref11_Said.calls k a1_0 a1_1 a1_2 a1_3 a1_4 t137 _ A8.out).mono ?_
    rintro e w14 ⟨rfl, hb⟩
    refine ⟨_, rfl, ?_⟩
    have n0_ := Aside0.mk (blk_below (g := gb133) (o := .cells #[.string a0_0, .int .i64 a0_1, .int .i64 a0_2, .int .i64 a0_3, .string a0_4] 24 (0, 0)) (by (with_reducible repeat ((refine blk_drewN ?_ _))); exact BK133.out) hb)
    have n1_ := Aside0.mk (blk_below (g := gb134) (o := .cells #[.string a1_0, .int .i64 a1_1, .int .i64 a1_2, .int .i64 a1_3, .string a1_4] 24 (0, 0)) (by (with_reducible repeat ((refine blk_drewN ?_ _))); exact BK134.out) hb)
    have n2_ := Aside0.mk (below_step (by repeat ((with_reducible (exact HB.out)))) hb)
    clear BK133
    clear BK134
    clear HB
    have BK133 := n0_
    have BK134 := n1_
    have HB := n2_
    clear n0_ n1_ n2_
    (try clear hb)
    refine hK.out _ _ ⟨(blk_cell BK133.out 0).trans rfl, (blk_cell BK133.out 1).trans rfl, (blk_cell BK133.out 2).trans rfl, (blk_cell BK133.out 3).trans rfl, (blk_cell BK133.out 4).trans rfl, (blk_cell BK134.out 0).trans rfl, (blk_cell BK134.out 1).trans rfl, (blk_cell BK134.out 2).trans rfl, (blk_cell BK134.out 3).trans rfl, (blk_cell BK134.out 4).trans rfl⟩ (fun hHeld => ?_)
    clear hK K
    refine norm_ (a' := ?_) ?_ ?_
    rotate_left
    ·show Act.put _ (some 28) _ = _
     simp only [Act.put, List.setIfInBounds_toArray, List.set_cons_zero, List.set_cons_succ, i64_w, i32_w]
     rfl
    refine pure_ (i := 24) (N := some 29) (v := ?_) (a' := ?_) #[true, true, true, true, true, true, true, true, true, true, true, true, true, true, true, true, true, true, true, true, true, true, true, true, true, false, false] rfl rfl (any_of HT_.out (by kernel_rfl)) (fun _ _ _ h => h) (Or.inl ⟨by rfl, ?_⟩) ?_ ?_
    rotate_left
    ·intro w'
     go_simp
     with_reducible rfl
    rotate_left
    ·simp only [Act.put, List.setIfInBounds_toArray, List.set_cons_zero, List.set_cons_succ, i64_w, i32_w]
     rfl
    refine pure_ (i := 25) (N := some 30) (v := ?_) (a' := ?_) #[true, true, true, true, true, true, true, true, true, true, true, true, true, true, true, true, true, true, true, true, true, true, true, true, true, true, false] rfl rfl (any_of HT_.out (by kernel_rfl)) (fun _ _ _ h => h) (Or.inl ⟨by rfl, ?_⟩) ?_ ?_
    rotate_left
    ·intro w'
     go_simp
     with_reducible rfl
    rotate_left
    ·simp only [Act.put, List.setIfInBounds_toArray, List.set_cons_zero, List.set_cons_succ, i64_w, i32_w]
     rfl
    refine pure_ (i := 26) (N := some 4) (v := ?_) (a' := ?_) #[true, true, true, true, true, true, true, true, true, true, true, true, true, true, true, true, true, true, true, true, true, true, true, true, true, true, true] rfl rfl (any_of HT_.out (by kernel_rfl)) (fun _ _ _ h => h) (Or.inl ⟨by rfl, ?_⟩) ?_ ?_
    rotate_left
    ·intro w'
     go_simp
     with_reducible rfl
    rotate_left
    ·simp only [Act.put, List.setIfInBounds_toArray, List.set_cons_zero, List.set_cons_succ, i64_w, i32_w]
     rfl
    refine done_ (done_of HT_.out (by kernel_rfl)) ?_
    (try go_wp2)
    go_ret
    exact ⟨by rfl, by repeat ((with_reducible (exact HB.out)))⟩
   ·rw [if_neg c6] at H
    have c6b0 : (a0_2 == a1_2) = false := beq_eq_false_iff_ne.mpr c6
    have c6b1 : (a0_2 != a1_2) = true := bne_iff_ne.mpr c6
    obtain rfl := Option.some.inj H
    go_enter Try.func33, Try.ntmps33
    (try go_wp2_with (first | ((with_reducible refine gate_dst (N := 2) rfl ?_); refine box_event ?hg (N := 2) ?hd (cs := #[.string a0_0, .int .i64 a0_1, .int .i64 a0_2, .int .i64 a0_3, .string a0_4]) (t := 24) ?hr ?_; (case hd => rfl); (case hg => rfl); (case hr => (go_simp; done)); intro gb133 hg w15 hbox hb; have n0_ := Aside0.mk (below_step (by repeat ((with_reducible (exact HB.out)))) hb); have n1_ := Aside0.mk (hbox); have n2_ := Aside0.mk ((by rw [hg]; exact (below_size (by repeat ((with_reducible (exact HB.out))))) : w.heap.size ≤ gb133)); have n3_ := Aside0.mk ((by rw [hg]; exact (below_size (by repeat ((with_reducible (exact HB.out))))) : w.heap.size ≤ gb133)); clear HB; have HB := n0_; have BK133 := n1_; have GW133 := n2_; have GE133 := n3_; clear n0_ n1_ n2_ n3_; clear hb hbox hg) | ((with_reducible refine gate_dst (N := 3) rfl ?_); refine box_event ?hg (N := 3) ?hd (cs := #[.string a1_0, .int .i64 a1_1, .int .i64 a1_2, .int .i64 a1_3, .string a1_4]) (t := 24) ?hr ?_; (case hd => rfl); (case hg => rfl); (case hr => (go_simp; done)); intro gb134 hg w16 hbox hb; have n0_ := Aside0.mk (blk_below (g := gb133) (o := .cells #[.string a0_0, .int .i64 a0_1, .int .i64 a0_2, .int .i64 a0_3, .string a0_4] 24 (0, 0)) (by (with_reducible repeat ((refine blk_drewN ?_ _))); exact BK133.out) hb); have n1_ := Aside0.mk (below_step (by repeat ((with_reducible (exact HB.out)))) hb); have n2_ := Aside0.mk (hbox); have n3_ := Aside0.mk ((by rw [hg]; exact (below_size (by repeat ((with_reducible (exact HB.out))))) : w.heap.size ≤ gb134)); have n4_ := Aside0.mk ((by rw [hg]; exact (below_size (by repeat ((with_reducible (exact HB.out))))) : w.heap.size ≤ gb134)); have n5_ := Aside0.mk ((by rw [hg]; exact Nat.ne_of_lt (blk_lt (g := gb133) (o := .cells #[.string a0_0, .int .i64 a0_1, .int .i64 a0_2, .int .i64 a0_3, .string a0_4] 24 (0, 0)) (by (with_reducible repeat ((refine blk_drewN ?_ _))); exact BK133.out)) : gb133 ≠ gb134)); have n6_ := Aside0.mk ((by rw [hg]; exact Nat.ne_of_gt (blk_lt (g := gb133) (o := .cells #[.string a0_0, .int .i64 a0_1, .int .i64 a0_2, .int .i64 a0_3, .string a0_4] 24 (0, 0)) (by (with_reducible repeat ((refine blk_drewN ?_ _))); exact BK133.out)) : gb134 ≠ gb133)); clear BK133; clear HB; have BK133 := n0_; have HB := n1_; have BK134 := n2_; have GW134 := n3_; have GE134 := n4_; have NB133_134 := n5_; have NB134_133 := n6_; clear n0_ n1_ n2_ n3_ n4_ n5_ n6_; clear hb hbox hg)))
    have n0_ := Aside0.mk (blk_drew BK133.out)
    have n1_ := Aside0.mk (blk_drew BK134.out)
    have n2_ := Aside0.mk (below_drew1 HB.out)
    clear BK133
    clear BK134
    clear HB
    have BK133 := n0_
    have BK134 := n1_
    have HB := n2_
    clear n0_ n1_ n2_
    refine start_ (n := 27) (S := fun w' => w'.cell? ⟨gb133, 0, none⟩ = some (.string a0_0) ∧ w'.cell? ⟨gb133, 1, none⟩ = some (.int .i64 a0_1) ∧ w'.cell? ⟨gb133, 2, none⟩ = some (.int .i64 a0_2) ∧ w'.cell? ⟨gb133, 3, none⟩ = some (.int .i64 a0_3) ∧ w'.cell? ⟨gb133, 4, none⟩ = some (.string a0_4) ∧ w'.cell? ⟨gb134, 0, none⟩ = some (.string a1_0) ∧ w'.cell? ⟨gb134, 1, none⟩ = some (.int .i64 a1_1) ∧ w'.cell? ⟨gb134, 2, none⟩ = some (.int .i64 a1_2) ∧ w'.cell? ⟨gb134, 3, none⟩ = some (.int .i64 a1_3) ∧ w'.cell? ⟨gb134, 4, none⟩ = some (.string a1_4)) (ds := []) #[false, false, false, false, false, false, false, false, false, false, false, false, false, false, false, false, false, false, false, false, false, false, false, false, false, false, false] (by kernel_rfl) rfl rfl ⟨(blk_cell BK133.out 0).trans rfl, (blk_cell BK133.out 1).trans rfl, (blk_cell BK133.out 2).trans rfl, (blk_cell BK133.out 3).trans rfl, (blk_cell BK133.out 4).trans rfl, (blk_cell BK134.out 0).trans rfl, (blk_cell BK134.out 1).trans rfl, (blk_cell BK134.out 2).trans rfl, (blk_cell BK134.out 3).trans rfl, (blk_cell BK134.out 4).trans rfl⟩ (fun hHeld => ?_); refine with_tabW beadrollref11_One.tab1 beadrollref11_One.bits1 (fun HT_ HW_ => ?_)
    generalize w16.drew = w17 at BK133 BK134 HB hHeld ⊢
    refine pure_ (i := 0) (N := some 5) (v := ?_) (a' := ?_) #[true, false, false, false, false, false, false, false, false, false, false, false, false, false, false, false, false, false, false, false, false, false, false, false, false, false, false] rfl rfl (any_of HT_.out (by kernel_rfl)) (fun _ _ _ h => h) (Or.inl ⟨by rfl, ?_⟩) ?_ ?_
    rotate_left
    ·intro w'
     go_simp
     with_reducible rfl
    rotate_left
    ·simp only [Act.put, List.setIfInBounds_toArray, List.set_cons_zero, List.set_cons_succ, i64_w, i32_w]
     rfl
    refine pure_ (i := 2) (N := some 7) (v := ?_) (a' := ?_) #[true, false, true, false, false, false, false, false, false, false, false, false, false, false, false, false, false, false, false, false, false, false, false, false, false, false, false] rfl rfl (any_of HT_.out (by kernel_rfl)) (fun _ _ _ h => h) (Or.inl ⟨by rfl, ?_⟩) ?_ ?_
    rotate_left
    ·intro w'
     go_simp
     with_reducible rfl
    rotate_left
    ·simp only [Act.put, List.setIfInBounds_toArray, List.set_cons_zero, List.set_cons_succ, i64_w, i32_w]
     rfl
    refine take_ (i := 1) (N := some 6) (v := ?_) (a' := ?_) #[true, true, true, false, false, false, false, false, false, false, false, false, false, false, false, false, false, false, false, false, false, false, false, false, false, false, false] rfl rfl (take_ofW HT_.out HW_.out (by kernel_rfl)) (fun _ _ _ h => h) (Or.inl ⟨by rfl, ?_⟩) hHeld ?_ ?_
    rotate_left
    ·rintro w' ⟨s0, s1, s2, s3, s4, s5, s6, s7, s8, s9⟩
     go_simp
     with_reducible rfl
    rotate_left
    ·simp only [Act.put, List.setIfInBounds_toArray, List.set_cons_zero, List.set_cons_succ, i64_w, i32_w]
     rfl
    refine take_ (i := 3) (N := some 8) (v := ?_) (a' := ?_) #[true, true, true, true, false, false, false, false, false, false, false, false, false, false, false, false, false, false, false, false, false, false, false, false, false, false, false] rfl rfl (take_ofW HT_.out HW_.out (by kernel_rfl)) (fun _ _ _ h => h) (Or.inl ⟨by rfl, ?_⟩) hHeld ?_ ?_
    rotate_left
    ·rintro w' ⟨s0, s1, s2, s3, s4, s5, s6, s7, s8, s9⟩
     go_simp
     with_reducible rfl
    rotate_left
    ·simp only [Act.put, List.setIfInBounds_toArray, List.set_cons_zero, List.set_cons_succ, i64_w, i32_w]
     rfl
    refine one_ (i := 4) (N := some 9) #[true, true, true, true, true, false, false, false, false, false, false, false, false, false, false, false, false, false, false, false, false, false, false, false, false, false, false] rfl rfl (one_of HT_.out (by kernel_rfl)) (by decide) (fun K hK => ?_)
    refine goes_ Try.func44 (by kernel_rfl) rfl #[.string a0_0, .string a1_0] (by rfl) rfl rfl (by (try simp only [List.map_toArray, List.map_cons, List.map_nil]); rfl) ?_
    with_reducible refine (beadrollref07_Alike.calls k a0_0 a1_0 true _ A3.out).mono ?_
    rintro e w18 ⟨rfl, hb⟩
    refine ⟨_, rfl, ?_⟩
    have n0_ := Aside0.mk (blk_below (g := gb133) (o := .cells #[.string a0_0, .int .i64 a0_1, .int .i64 a0_2, .int .i64 a0_3, .string a0_4] 24 (0, 0)) (by (with_reducible repeat ((refine blk_drewN ?_ _))); exact BK133.out) hb)
    have n1_ := Aside0.mk (blk_below (g := gb134) (o := .cells #[.string a1_0, .int .i64 a1_1, .int .i64 a1_2, .int .i64 a1_3, .string a1_4] 24 (0, 0)) (by (with_reducible repeat ((refine blk_drewN ?_ _))); exact BK134.out) hb)
    have n2_ := Aside0.mk (below_step (by repeat ((with_reducible (exact HB.out)))) hb)
    clear BK133
    clear BK134
    clear HB
    have BK133 := n0_
    have BK134 := n1_
    have HB := n2_
    clear n0_ n1_ n2_
    (try clear hb)
    refine hK.out _ _ ⟨(blk_cell BK133.out 0).trans rfl, (blk_cell BK133.out 1).trans rfl, (blk_cell BK133.out 2).trans rfl, (blk_cell BK133.out 3).trans rfl, (blk_cell BK133.out 4).trans rfl, (blk_cell BK134.out 0).trans rfl, (blk_cell BK134.out 1).trans rfl, (blk_cell BK134.out 2).trans rfl, (blk_cell BK134.out 3).trans rfl, (blk_cell BK134.out 4).trans rfl⟩ (fun hHeld => ?_)
    clear hK K
    refine norm_ (a' := ?_) ?_ ?_
    rotate_left
    ·show Act.put _ (some 9) _ = _
     simp only [Act.put, List.setIfInBounds_toArray, List.set_cons_zero, List.set_cons_succ, i64_w, i32_w]
     rfl
    refine pure_ (i := 5) (N := some 10) (v := ?_) (a' := ?_) #[true, true, true, true, true, true, false, false, false, false, false, false, false, false, false, false, false, false, false, false, false, false, false, false, false, false, false] rfl rfl (any_of HT_.out (by kernel_rfl)) (fun _ _ _ h => h) (Or.inl ⟨by rfl, ?_⟩) ?_ ?_
    rotate_left
    ·intro w'
     go_simp
     with_reducible rfl
    rotate_left
    ·simp only [Act.put, List.setIfInBounds_toArray, List.set_cons_zero, List.set_cons_succ, i64_w, i32_w]
     rfl
    refine pure_ (i := 6) (N := some 11) (v := ?_) (a' := ?_) #[true, true, true, true, true, true, true, false, false, false, false, false, false, false, false, false, false, false, false, false, false, false, false, false, false, false, false] rfl rfl (any_of HT_.out (by kernel_rfl)) (fun _ _ _ h => h) (Or.inl ⟨by rfl, ?_⟩) ?_ ?_
    rotate_left
    ·intro w'
     go_simp
     with_reducible rfl
    rotate_left
    ·simp only [Act.put, List.setIfInBounds_toArray, List.set_cons_zero, List.set_cons_succ, i64_w, i32_w]
     rfl
    refine pure_ (i := 8) (N := some 13) (v := ?_) (a' := ?_) #[true, true, true, true, true, true, true, false, true, false, false, false, false, false, false, false, false, false, false, false, false, false, false, false, false, false, false] rfl rfl (any_of HT_.out (by kernel_rfl)) (fun _ _ _ h => h) (Or.inl ⟨by rfl, ?_⟩) ?_ ?_
    rotate_left
    ·intro w'
     go_simp
     with_reducible rfl
    rotate_left
    ·simp only [Act.put, List.setIfInBounds_toArray, List.set_cons_zero, List.set_cons_succ, i64_w, i32_w]
     rfl
    refine take_ (i := 7) (N := some 12) (v := ?_) (a' := ?_) #[true, true, true, true, true, true, true, true, true, false, false, false, false, false, false, false, false, false, false, false, false, false, false, false, false, false, false] rfl rfl (take_ofW HT_.out HW_.out (by kernel_rfl)) (fun _ _ _ h => h) (Or.inl ⟨by rfl, ?_⟩) hHeld ?_ ?_
    rotate_left
    ·rintro w' ⟨s0, s1, s2, s3, s4, s5, s6, s7, s8, s9⟩
     go_simp
     with_reducible rfl
    rotate_left
    ·simp only [Act.put, List.setIfInBounds_toArray, List.set_cons_zero, List.set_cons_succ, i64_w, i32_w]
     rfl
    refine take_ (i := 9) (N := some 14) (v := ?_) (a' := ?_) #[true, true, true, true, true, true, true, true, true, true, false, false, false, false, false, false, false, false, false, false, false, false, false, false, false, false, false] rfl rfl (take_ofW HT_.out HW_.out (by kernel_rfl)) (fun _ _ _ h => h) (Or.inl ⟨by rfl, ?_⟩) hHeld ?_ ?_
    rotate_left
    ·rintro w' ⟨s0, s1, s2, s3, s4, s5, s6, s7, s8, s9⟩
     go_simp
     with_reducible rfl
    rotate_left
    ·simp only [Act.put, List.setIfInBounds_toArray, List.set_cons_zero, List.set_cons_succ, i64_w, i32_w]
     rfl
    refine pure_ (i := 10) (N := some 15) (v := ?_) (a' := ?_) #[true, true, true, true, true, true, true, true, true, true, true, false, false, false, false, false, false, false, false, false, false, false, false, false, false, false, false] rfl rfl (any_of HT_.out (by kernel_rfl)) (fun _ _ _ h => h) (Or.inl ⟨by rfl, ?_⟩) ?_ ?_
    rotate_left
    ·intro w'
     go_simp
     with_reducible rfl
    rotate_left
    ·simp only [Act.put, List.setIfInBounds_toArray, List.set_cons_zero, List.set_cons_succ, i64_w, i32_w]
     rfl
    refine pure_ (i := 11) (N := some 16) (v := ?_) (a' := ?_) #[true, true, true, true, true, true, true, true, true, true, true, true, false, false, false, false, false, false, false, false, false, false, false, false, false, false, false] rfl rfl (any_of HT_.out (by kernel_rfl)) (fun _ _ _ h => h) (Or.inl ⟨by rfl, ?_⟩) ?_ ?_
    rotate_left
    ·intro w'
     go_simp
     with_reducible rfl
    rotate_left
    ·simp only [Act.put, List.setIfInBounds_toArray, List.set_cons_zero, List.set_cons_succ, i64_w, i32_w]
     rfl
    refine pure_ (i := 12) (N := some 17) (v := ?_) (a' := ?_) #[true, true, true, true, true, true, true, true, true, true, true, true, true, false, false, false, false, false, false, false, false, false, false, false, false, false, false] rfl rfl (any_of HT_.out (by kernel_rfl)) (fun _ _ _ h => h) (Or.inl ⟨by rfl, ?_⟩) ?_ ?_
    rotate_left
    ·intro w'
     go_simp
     with_reducible rfl
    rotate_left
    ·simp only [Act.put, List.setIfInBounds_toArray, List.set_cons_zero, List.set_cons_succ, i64_w, i32_w]
     rfl
    refine pure_ (i := 13) (N := some 18) (v := ?_) (a' := ?_) #[true, true, true, true, true, true, true, true, true, true, true, true, true, true, false, false, false, false, false, false, false, false, false, false, false, false, false] rfl rfl (any_of HT_.out (by kernel_rfl)) (fun _ _ _ h => h) (Or.inl ⟨by rfl, ?_⟩) ?_ ?_
    rotate_left
    ·intro w'
     go_simp
     with_reducible rfl
    rotate_left
    ·simp only [Act.put, List.setIfInBounds_toArray, List.set_cons_zero, List.set_cons_succ, i64_w, i32_w]
     rfl
    refine pure_ (i := 15) (N := some 20) (v := ?_) (a' := ?_) #[true, true, true, true, true, true, true, true, true, true, true, true, true, true, false, true, false, false, false, false, false, false, false, false, false, false, false] rfl rfl (any_of HT_.out (by kernel_rfl)) (fun _ _ _ h => h) (Or.inl ⟨by rfl, ?_⟩) ?_ ?_
    rotate_left
    ·intro w'
     go_simp
     with_reducible rfl
    rotate_left
    ·simp only [Act.put, List.setIfInBounds_toArray, List.set_cons_zero, List.set_cons_succ, i64_w, i32_w]
     rfl
    refine take_ (i := 14) (N := some 19) (v := ?_) (a' := ?_) #[true, true, true, true, true, true, true, true, true, true, true, true, true, true, true, true, false, false, false, false, false, false, false, false, false, false, false] rfl rfl (take_ofW HT_.out HW_.out (by kernel_rfl)) (fun _ _ _ h => h) (Or.inl ⟨by rfl, ?_⟩) hHeld ?_ ?_
    rotate_left
    ·rintro w' ⟨s0, s1, s2, s3, s4, s5, s6, s7, s8, s9⟩
     go_simp
     with_reducible rfl
    rotate_left
    ·simp only [Act.put, List.setIfInBounds_toArray, List.set_cons_zero, List.set_cons_succ, i64_w, i32_w]
     rfl
    refine take_ (i := 16) (N := some 21) (v := ?_) (a' := ?_) #[true, true, true, true, true, true, true, true, true, true, true, true, true, true, true, true, true, false, false, false, false, false, false, false, false, false, false] rfl rfl (take_ofW HT_.out HW_.out (by kernel_rfl)) (fun _ _ _ h => h) (Or.inl ⟨by rfl, ?_⟩) hHeld ?_ ?_
    rotate_left
    ·rintro w' ⟨s0, s1, s2, s3, s4, s5, s6, s7, s8, s9⟩
     go_simp
     with_reducible rfl
    rotate_left
    ·simp only [Act.put, List.setIfInBounds_toArray, List.set_cons_zero, List.set_cons_succ, i64_w, i32_w]
     rfl
    refine pure_ (i := 17) (N := some 22) (v := ?_) (a' := ?_) #[true, true, true, true, true, true, true, true, true, true, true, true, true, true, true, true, true, true, false, false, false, false, false, false, false, false, false] rfl rfl (any_of HT_.out (by kernel_rfl)) (fun _ _ _ h => h) (Or.inl ⟨by rfl, ?_⟩) ?_ ?_
    rotate_left
    ·intro w'
     go_simp
     with_reducible rfl
    rotate_left
    ·simp only [Act.put, List.setIfInBounds_toArray, List.set_cons_zero, List.set_cons_succ, i64_w, i32_w]
     rfl
    refine pure_ (i := 18) (N := some 23) (v := ?_) (a' := ?_) #[true, true, true, true, true, true, true, true, true, true, true, true, true, true, true, true, true, true, true, false, false, false, false, false, false, false, false] rfl rfl (any_of HT_.out (by kernel_rfl)) (fun _ _ _ h => h) (Or.inl ⟨by rfl, ?_⟩) ?_ ?_
    rotate_left
    ·intro w'
     go_simp
     with_reducible rfl
    rotate_left
    ·simp only [Act.put, List.setIfInBounds_toArray, List.set_cons_zero, List.set_cons_succ, i64_w, i32_w]
     rfl
    refine pure_ (i := 19) (N := some 24) (v := ?_) (a' := ?_) #[true, true, true, true, true, true, true, true, true, true, true, true, true, true, true, true, true, true, true, true, false, false, false, false, false, false, false] rfl rfl (any_of HT_.out (by kernel_rfl)) (fun _ _ _ h => h) (Or.inl ⟨by rfl, ?_⟩) ?_ ?_
    rotate_left
    ·intro w'
     go_simp
     with_reducible rfl
    rotate_left
    ·simp only [Act.put, List.setIfInBounds_toArray, List.set_cons_zero, List.set_cons_succ, i64_w, i32_w]
     rfl
    refine pure_ (i := 20) (N := some 25) (v := undef) (a' := ?_) #[true, true, true, true, true, true, true, true, true, true, true, true, true, true, true, true, true, true, true, true, true, false, false, false, false, false, false] rfl rfl (any_of HT_.out (by kernel_rfl)) (fun _ _ _ h => h) (Or.inr ⟨by rfl, rfl⟩) ?_ ?_
    rotate_left
    ·simp only [Act.put, List.setIfInBounds_toArray, List.set_cons_zero, List.set_cons_succ, i64_w, i32_w]
     rfl
    refine pure_ (i := 21) (N := some 26) (v := undef) (a' := ?_) #[true, true, true, true, true, true, true, true, true, true, true, true, true, true, true, true, true, true, true, true, true, true, false, false, false, false, false] rfl rfl (any_of HT_.out (by kernel_rfl)) (fun _ _ _ h => h) (Or.inr ⟨by rfl, rfl⟩) ?_ ?_
    rotate_left
    ·simp only [Act.put, List.setIfInBounds_toArray, List.set_cons_zero, List.set_cons_succ, i64_w, i32_w]
     rfl
    refine pure_ (i := 22) (N := some 27) (v := undef) (a' := ?_) #[true, true, true, true, true, true, true, true, true, true, true, true, true, true, true, true, true, true, true, true, true, true, true, false, false, false, false] rfl rfl (any_of HT_.out (by kernel_rfl)) (fun _ _ _ h => h) (Or.inr ⟨by rfl, rfl⟩) ?_ ?_
    rotate_left
    ·simp only [Act.put, List.setIfInBounds_toArray, List.set_cons_zero, List.set_cons_succ, i64_w, i32_w]
     rfl
    refine pure_ (i := 23) (N := some 28) (v := undef) (a' := ?_) #[true, true, true, true, true, true, true, true, true, true, true, true, true, true, true, true, true, true, true, true, true, true, true, true, false, false, false] rfl rfl (any_of HT_.out (by kernel_rfl)) (fun _ _ _ h => h) (Or.inr ⟨by rfl, rfl⟩) ?_ ?_
    rotate_left
    ·simp only [Act.put, List.setIfInBounds_toArray, List.set_cons_zero, List.set_cons_succ, i64_w, i32_w]
     rfl
    refine pure_ (i := 24) (N := some 29) (v := undef) (a' := ?_) #[true, true, true, true, true, true, true, true, true, true, true, true, true, true, true, true, true, true, true, true, true, true, true, true, true, false, false] rfl rfl (any_of HT_.out (by kernel_rfl)) (fun _ _ _ h => h) (Or.inr ⟨by rfl, rfl⟩) ?_ ?_
    rotate_left
    ·simp only [Act.put, List.setIfInBounds_toArray, List.set_cons_zero, List.set_cons_succ, i64_w, i32_w]
     rfl
    refine pure_ (i := 25) (N := some 30) (v := ?_) (a' := ?_) #[true, true, true, true, true, true, true, true, true, true, true, true, true, true, true, true, true, true, true, true, true, true, true, true, true, true, false] rfl rfl (any_of HT_.out (by kernel_rfl)) (fun _ _ _ h => h) (Or.inl ⟨by rfl, ?_⟩) ?_ ?_
    rotate_left
    ·intro w'
     go_simp
     with_reducible rfl
    rotate_left
    ·simp only [Act.put, List.setIfInBounds_toArray, List.set_cons_zero, List.set_cons_succ, i64_w, i32_w]
     rfl
    refine pure_ (i := 26) (N := some 4) (v := ?_) (a' := ?_) #[true, true, true, true, true, true, true, true, true, true, true, true, true, true, true, true, true, true, true, true, true, true, true, true, true, true, true] rfl rfl (any_of HT_.out (by kernel_rfl)) (fun _ _ _ h => h) (Or.inl ⟨by rfl, ?_⟩) ?_ ?_
    rotate_left
    ·intro w'
     go_simp
     with_reducible rfl
    rotate_left
    ·simp only [Act.put, List.setIfInBounds_toArray, List.set_cons_zero, List.set_cons_succ, i64_w, i32_w]
     rfl
    refine done_ (done_of HT_.out (by kernel_rfl)) ?_
    (try go_wp2)
    go_ret
    exact ⟨by rfl, by repeat ((with_reducible (exact HB.out)))⟩
  ·rw [if_neg c5] at H
   have c5b0 : (a0_1 == a1_1) = false := beq_eq_false_iff_ne.mpr c5
   have c5b1 : (a0_1 != a1_1) = true := bne_iff_ne.mpr c5
   obtain rfl := Option.some.inj H
   go_enter Try.func33, Try.ntmps33
   (try go_wp2_with (first | ((with_reducible refine gate_dst (N := 2) rfl ?_); refine box_event ?hg (N := 2) ?hd (cs := #[.string a0_0, .int .i64 a0_1, .int .i64 a0_2, .int .i64 a0_3, .string a0_4]) (t := 24) ?hr ?_; (case hd => rfl); (case hg => rfl); (case hr => (go_simp; done)); intro gb133 hg w19 hbox hb; have n0_ := Aside0.mk (below_step (by repeat ((with_reducible (exact HB.out)))) hb); have n1_ := Aside0.mk (hbox); have n2_ := Aside0.mk ((by rw [hg]; exact (below_size (by repeat ((with_reducible (exact HB.out))))) : w.heap.size ≤ gb133)); have n3_ := Aside0.mk ((by rw [hg]; exact (below_size (by repeat ((with_reducible (exact HB.out))))) : w.heap.size ≤ gb133)); clear HB; have HB := n0_; have BK133 := n1_; have GW133 := n2_; have GE133 := n3_; clear n0_ n1_ n2_ n3_; clear hb hbox hg) | ((with_reducible refine gate_dst (N := 3) rfl ?_); refine box_event ?hg (N := 3) ?hd (cs := #[.string a1_0, .int .i64 a1_1, .int .i64 a1_2, .int .i64 a1_3, .string a1_4]) (t := 24) ?hr ?_; (case hd => rfl); (case hg => rfl); (case hr => (go_simp; done)); intro gb134 hg w20 hbox hb; have n0_ := Aside0.mk (blk_below (g := gb133) (o := .cells #[.string a0_0, .int .i64 a0_1, .int .i64 a0_2, .int .i64 a0_3, .string a0_4] 24 (0, 0)) (by (with_reducible repeat ((refine blk_drewN ?_ _))); exact BK133.out) hb); have n1_ := Aside0.mk (below_step (by repeat ((with_reducible (exact HB.out)))) hb); have n2_ := Aside0.mk (hbox); have n3_ := Aside0.mk ((by rw [hg]; exact (below_size (by repeat ((with_reducible (exact HB.out))))) : w.heap.size ≤ gb134)); have n4_ := Aside0.mk ((by rw [hg]; exact (below_size (by repeat ((with_reducible (exact HB.out))))) : w.heap.size ≤ gb134)); have n5_ := Aside0.mk ((by rw [hg]; exact Nat.ne_of_lt (blk_lt (g := gb133) (o := .cells #[.string a0_0, .int .i64 a0_1, .int .i64 a0_2, .int .i64 a0_3, .string a0_4] 24 (0, 0)) (by (with_reducible repeat ((refine blk_drewN ?_ _))); exact BK133.out)) : gb133 ≠ gb134)); have n6_ := Aside0.mk ((by rw [hg]; exact Nat.ne_of_gt (blk_lt (g := gb133) (o := .cells #[.string a0_0, .int .i64 a0_1, .int .i64 a0_2, .int .i64 a0_3, .string a0_4] 24 (0, 0)) (by (with_reducible repeat ((refine blk_drewN ?_ _))); exact BK133.out)) : gb134 ≠ gb133)); clear BK133; clear HB; have BK133 := n0_; have HB := n1_; have BK134 := n2_; have GW134 := n3_; have GE134 := n4_; have NB133_134 := n5_; have NB134_133 := n6_; clear n0_ n1_ n2_ n3_ n4_ n5_ n6_; clear hb hbox hg)))
   have n0_ := Aside0.mk (blk_drew BK133.out)
   have n1_ := Aside0.mk (blk_drew BK134.out)
   have n2_ := Aside0.mk (below_drew1 HB.out)
   clear BK133
   clear BK134
   clear HB
   have BK133 := n0_
   have BK134 := n1_
   have HB := n2_
   clear n0_ n1_ n2_
   refine start_ (n := 27) (S := fun w' => w'.cell? ⟨gb133, 0, none⟩ = some (.string a0_0) ∧ w'.cell? ⟨gb133, 1, none⟩ = some (.int .i64 a0_1) ∧ w'.cell? ⟨gb133, 2, none⟩ = some (.int .i64 a0_2) ∧ w'.cell? ⟨gb133, 3, none⟩ = some (.int .i64 a0_3) ∧ w'.cell? ⟨gb133, 4, none⟩ = some (.string a0_4) ∧ w'.cell? ⟨gb134, 0, none⟩ = some (.string a1_0) ∧ w'.cell? ⟨gb134, 1, none⟩ = some (.int .i64 a1_1) ∧ w'.cell? ⟨gb134, 2, none⟩ = some (.int .i64 a1_2) ∧ w'.cell? ⟨gb134, 3, none⟩ = some (.int .i64 a1_3) ∧ w'.cell? ⟨gb134, 4, none⟩ = some (.string a1_4)) (ds := []) #[false, false, false, false, false, false, false, false, false, false, false, false, false, false, false, false, false, false, false, false, false, false, false, false, false, false, false] (by kernel_rfl) rfl rfl ⟨(blk_cell BK133.out 0).trans rfl, (blk_cell BK133.out 1).trans rfl, (blk_cell BK133.out 2).trans rfl, (blk_cell BK133.out 3).trans rfl, (blk_cell BK133.out 4).trans rfl, (blk_cell BK134.out 0).trans rfl, (blk_cell BK134.out 1).trans rfl, (blk_cell BK134.out 2).trans rfl, (blk_cell BK134.out 3).trans rfl, (blk_cell BK134.out 4).trans rfl⟩ (fun hHeld => ?_); refine with_tabW beadrollref11_One.tab1 beadrollref11_One.bits1 (fun HT_ HW_ => ?_)
   generalize w20.drew = w21 at BK133 BK134 HB hHeld ⊢
   refine pure_ (i := 0) (N := some 5) (v := ?_) (a' := ?_) #[true, false, false, false, false, false, false, false, false, false, false, false, false, false, false, false, false, false, false, false, false, false, false, false, false, false, false] rfl rfl (any_of HT_.out (by kernel_rfl)) (fun _ _ _ h => h) (Or.inl ⟨by rfl, ?_⟩) ?_ ?_
   rotate_left
   ·intro w'
    go_simp
    with_reducible rfl
   rotate_left
   ·simp only [Act.put, List.setIfInBounds_toArray, List.set_cons_zero, List.set_cons_succ, i64_w, i32_w]
    rfl
   refine pure_ (i := 2) (N := some 7) (v := ?_) (a' := ?_) #[true, false, true, false, false, false, false, false, false, false, false, false, false, false, false, false, false, false, false, false, false, false, false, false, false, false, false] rfl rfl (any_of HT_.out (by kernel_rfl)) (fun _ _ _ h => h) (Or.inl ⟨by rfl, ?_⟩) ?_ ?_
   rotate_left
   ·intro w'
    go_simp
    with_reducible rfl
   rotate_left
   ·simp only [Act.put, List.setIfInBounds_toArray, List.set_cons_zero, List.set_cons_succ, i64_w, i32_w]
    rfl
   refine take_ (i := 1) (N := some 6) (v := ?_) (a' := ?_) #[true, true, true, false, false, false, false, false, false, false, false, false, false, false, false, false, false, false, false, false, false, false, false, false, false, false, false] rfl rfl (take_ofW HT_.out HW_.out (by kernel_rfl)) (fun _ _ _ h => h) (Or.inl ⟨by rfl, ?_⟩) hHeld ?_ ?_
   rotate_left
   ·rintro w' ⟨s0, s1, s2, s3, s4, s5, s6, s7, s8, s9⟩
    go_simp
    with_reducible rfl
   rotate_left
   ·simp only [Act.put, List.setIfInBounds_toArray, List.set_cons_zero, List.set_cons_succ, i64_w, i32_w]
    rfl
   refine take_ (i := 3) (N := some 8) (v := ?_) (a' := ?_) #[true, true, true, true, false, false, false, false, false, false, false, false, false, false, false, false, false, false, false, false, false, false, false, false, false, false, false] rfl rfl (take_ofW HT_.out HW_.out (by kernel_rfl)) (fun _ _ _ h => h) (Or.inl ⟨by rfl, ?_⟩) hHeld ?_ ?_
   rotate_left
   ·rintro w' ⟨s0, s1, s2, s3, s4, s5, s6, s7, s8, s9⟩
    go_simp
    with_reducible rfl
   rotate_left
   ·simp only [Act.put, List.setIfInBounds_toArray, List.set_cons_zero, List.set_cons_succ, i64_w, i32_w]
    rfl
   refine one_ (i := 4) (N := some 9) #[true, true, true, true, true, false, false, false, false, false, false, false, false, false, false, false, false, false, false, false, false, false, false, false, false, false, false] rfl rfl (one_of HT_.out (by kernel_rfl)) (by decide) (fun K hK => ?_)
   refine goes_ Try.func44 (by kernel_rfl) rfl #[.string a0_0, .string a1_0] (by rfl) rfl rfl (by (try simp only [List.map_toArray, List.map_cons, List.map_nil]); rfl) ?_
   with_reducible refine (beadrollref07_Alike.calls k a0_0 a1_0 true _ A3.out).mono ?_
   rintro e w22 ⟨rfl, hb⟩
   refine ⟨_, rfl, ?_⟩
   have n0_ := Aside0.mk (blk_below (g := gb133) (o := .cells #[.string a0_0, .int .i64 a0_1, .int .i64 a0_2, .int .i64 a0_3, .string a0_4] 24 (0, 0)) (by (with_reducible repeat ((refine blk_drewN ?_ _))); exact BK133.out) hb)
   have n1_ := Aside0.mk (blk_below (g := gb134) (o := .cells #[.string a1_0, .int .i64 a1_1, .int .i64 a1_2, .int .i64 a1_3, .string a1_4] 24 (0, 0)) (by (with_reducible repeat ((refine blk_drewN ?_ _))); exact BK134.out) hb)
   have n2_ := Aside0.mk (below_step (by repeat ((with_reducible (exact HB.out)))) hb)
   clear BK133
   clear BK134
   clear HB
   have BK133 := n0_
   have BK134 := n1_
   have HB := n2_
   clear n0_ n1_ n2_
   (try clear hb)
   refine hK.out _ _ ⟨(blk_cell BK133.out 0).trans rfl, (blk_cell BK133.out 1).trans rfl, (blk_cell BK133.out 2).trans rfl, (blk_cell BK133.out 3).trans rfl, (blk_cell BK133.out 4).trans rfl, (blk_cell BK134.out 0).trans rfl, (blk_cell BK134.out 1).trans rfl, (blk_cell BK134.out 2).trans rfl, (blk_cell BK134.out 3).trans rfl, (blk_cell BK134.out 4).trans rfl⟩ (fun hHeld => ?_)
   clear hK K
   refine norm_ (a' := ?_) ?_ ?_
   rotate_left
   ·show Act.put _ (some 9) _ = _
    simp only [Act.put, List.setIfInBounds_toArray, List.set_cons_zero, List.set_cons_succ, i64_w, i32_w]
    rfl
   refine pure_ (i := 5) (N := some 10) (v := ?_) (a' := ?_) #[true, true, true, true, true, true, false, false, false, false, false, false, false, false, false, false, false, false, false, false, false, false, false, false, false, false, false] rfl rfl (any_of HT_.out (by kernel_rfl)) (fun _ _ _ h => h) (Or.inl ⟨by rfl, ?_⟩) ?_ ?_
   rotate_left
   ·intro w'
    go_simp
    with_reducible rfl
   rotate_left
   ·simp only [Act.put, List.setIfInBounds_toArray, List.set_cons_zero, List.set_cons_succ, i64_w, i32_w]
    rfl
   refine pure_ (i := 6) (N := some 11) (v := ?_) (a' := ?_) #[true, true, true, true, true, true, true, false, false, false, false, false, false, false, false, false, false, false, false, false, false, false, false, false, false, false, false] rfl rfl (any_of HT_.out (by kernel_rfl)) (fun _ _ _ h => h) (Or.inl ⟨by rfl, ?_⟩) ?_ ?_
   rotate_left
   ·intro w'
    go_simp
    with_reducible rfl
   rotate_left
   ·simp only [Act.put, List.setIfInBounds_toArray, List.set_cons_zero, List.set_cons_succ, i64_w, i32_w]
    rfl
   refine pure_ (i := 8) (N := some 13) (v := ?_) (a' := ?_) #[true, true, true, true, true, true, true, false, true, false, false, false, false, false, false, false, false, false, false, false, false, false, false, false, false, false, false] rfl rfl (any_of HT_.out (by kernel_rfl)) (fun _ _ _ h => h) (Or.inl ⟨by rfl, ?_⟩) ?_ ?_
   rotate_left
   ·intro w'
    go_simp
    with_reducible rfl
   rotate_left
   ·simp only [Act.put, List.setIfInBounds_toArray, List.set_cons_zero, List.set_cons_succ, i64_w, i32_w]
    rfl
   refine take_ (i := 7) (N := some 12) (v := ?_) (a' := ?_) #[true, true, true, true, true, true, true, true, true, false, false, false, false, false, false, false, false, false, false, false, false, false, false, false, false, false, false] rfl rfl (take_ofW HT_.out HW_.out (by kernel_rfl)) (fun _ _ _ h => h) (Or.inl ⟨by rfl, ?_⟩) hHeld ?_ ?_
   rotate_left
   ·rintro w' ⟨s0, s1, s2, s3, s4, s5, s6, s7, s8, s9⟩
    go_simp
    with_reducible rfl
   rotate_left
   ·simp only [Act.put, List.setIfInBounds_toArray, List.set_cons_zero, List.set_cons_succ, i64_w, i32_w]
    rfl
   refine take_ (i := 9) (N := some 14) (v := ?_) (a' := ?_) #[true, true, true, true, true, true, true, true, true, true, false, false, false, false, false, false, false, false, false, false, false, false, false, false, false, false, false] rfl rfl (take_ofW HT_.out HW_.out (by kernel_rfl)) (fun _ _ _ h => h) (Or.inl ⟨by rfl, ?_⟩) hHeld ?_ ?_
   rotate_left
   ·rintro w' ⟨s0, s1, s2, s3, s4, s5, s6, s7, s8, s9⟩
    go_simp
    with_reducible rfl
   rotate_left
   ·simp only [Act.put, List.setIfInBounds_toArray, List.set_cons_zero, List.set_cons_succ, i64_w, i32_w]
    rfl
   refine pure_ (i := 10) (N := some 15) (v := ?_) (a' := ?_) #[true, true, true, true, true, true, true, true, true, true, true, false, false, false, false, false, false, false, false, false, false, false, false, false, false, false, false] rfl rfl (any_of HT_.out (by kernel_rfl)) (fun _ _ _ h => h) (Or.inl ⟨by rfl, ?_⟩) ?_ ?_
   rotate_left
   ·intro w'
    go_simp
    with_reducible rfl
   rotate_left
   ·simp only [Act.put, List.setIfInBounds_toArray, List.set_cons_zero, List.set_cons_succ, i64_w, i32_w]
    rfl
   refine pure_ (i := 11) (N := some 16) (v := ?_) (a' := ?_) #[true, true, true, true, true, true, true, true, true, true, true, true, false, false, false, false, false, false, false, false, false, false, false, false, false, false, false] rfl rfl (any_of HT_.out (by kernel_rfl)) (fun _ _ _ h => h) (Or.inl ⟨by rfl, ?_⟩) ?_ ?_
   rotate_left
   ·intro w'
    go_simp
    with_reducible rfl
   rotate_left
   ·simp only [Act.put, List.setIfInBounds_toArray, List.set_cons_zero, List.set_cons_succ, i64_w, i32_w]
    rfl
   refine pure_ (i := 12) (N := some 17) (v := ?_) (a' := ?_) #[true, true, true, true, true, true, true, true, true, true, true, true, true, false, false, false, false, false, false, false, false, false, false, false, false, false, false] rfl rfl (any_of HT_.out (by kernel_rfl)) (fun _ _ _ h => h) (Or.inl ⟨by rfl, ?_⟩) ?_ ?_
   rotate_left
   ·intro w'
    go_simp
    with_reducible rfl
   rotate_left
   ·simp only [Act.put, List.setIfInBounds_toArray, List.set_cons_zero, List.set_cons_succ, i64_w, i32_w]
    rfl
   refine pure_ (i := 13) (N := some 18) (v := undef) (a' := ?_) #[true, true, true, true, true, true, true, true, true, true, true, true, true, true, false, false, false, false, false, false, false, false, false, false, false, false, false] rfl rfl (any_of HT_.out (by kernel_rfl)) (fun _ _ _ h => h) (Or.inr ⟨by rfl, rfl⟩) ?_ ?_
   rotate_left
   ·simp only [Act.put, List.setIfInBounds_toArray, List.set_cons_zero, List.set_cons_succ, i64_w, i32_w]
    rfl
   refine pure_ (i := 14) (N := some 19) (v := undef) (a' := ?_) #[true, true, true, true, true, true, true, true, true, true, true, true, true, true, true, false, false, false, false, false, false, false, false, false, false, false, false] rfl rfl (any_of HT_.out (by kernel_rfl)) (fun _ _ _ h => h) (Or.inr ⟨by rfl, rfl⟩) ?_ ?_
   rotate_left
   ·simp only [Act.put, List.setIfInBounds_toArray, List.set_cons_zero, List.set_cons_succ, i64_w, i32_w]
    rfl
   refine pure_ (i := 15) (N := some 20) (v := undef) (a' := ?_) #[true, true, true, true, true, true, true, true, true, true, true, true, true, true, true, true, false, false, false, false, false, false, false, false, false, false, false] rfl rfl (any_of HT_.out (by kernel_rfl)) (fun _ _ _ h => h) (Or.inr ⟨by rfl, rfl⟩) ?_ ?_
   rotate_left
   ·simp only [Act.put, List.setIfInBounds_toArray, List.set_cons_zero, List.set_cons_succ, i64_w, i32_w]
    rfl
   refine pure_ (i := 16) (N := some 21) (v := undef) (a' := ?_) #[true, true, true, true, true, true, true, true, true, true, true, true, true, true, true, true, true, false, false, false, false, false, false, false, false, false, false] rfl rfl (any_of HT_.out (by kernel_rfl)) (fun _ _ _ h => h) (Or.inr ⟨by rfl, rfl⟩) ?_ ?_
   rotate_left
   ·simp only [Act.put, List.setIfInBounds_toArray, List.set_cons_zero, List.set_cons_succ, i64_w, i32_w]
    rfl
   refine pure_ (i := 17) (N := some 22) (v := undef) (a' := ?_) #[true, true, true, true, true, true, true, true, true, true, true, true, true, true, true, true, true, true, false, false, false, false, false, false, false, false, false] rfl rfl (any_of HT_.out (by kernel_rfl)) (fun _ _ _ h => h) (Or.inr ⟨by rfl, rfl⟩) ?_ ?_
   rotate_left
   ·simp only [Act.put, List.setIfInBounds_toArray, List.set_cons_zero, List.set_cons_succ, i64_w, i32_w]
    rfl
   refine pure_ (i := 18) (N := some 23) (v := ?_) (a' := ?_) #[true, true, true, true, true, true, true, true, true, true, true, true, true, true, true, true, true, true, true, false, false, false, false, false, false, false, false] rfl rfl (any_of HT_.out (by kernel_rfl)) (fun _ _ _ h => h) (Or.inl ⟨by rfl, ?_⟩) ?_ ?_
   rotate_left
   ·intro w'
    go_simp
    with_reducible rfl
   rotate_left
   ·simp only [Act.put, List.setIfInBounds_toArray, List.set_cons_zero, List.set_cons_succ, i64_w, i32_w]
    rfl
   refine pure_ (i := 19) (N := some 24) (v := ?_) (a' := ?_) #[true, true, true, true, true, true, true, true, true, true, true, true, true, true, true, true, true, true, true, true, false, false, false, false, false, false, false] rfl rfl (any_of HT_.out (by kernel_rfl)) (fun _ _ _ h => h) (Or.inl ⟨by rfl, ?_⟩) ?_ ?_
   rotate_left
   ·intro w'
    go_simp
    with_reducible rfl
   rotate_left
   ·simp only [Act.put, List.setIfInBounds_toArray, List.set_cons_zero, List.set_cons_succ, i64_w, i32_w]
    rfl
   refine pure_ (i := 20) (N := some 25) (v := undef) (a' := ?_) #[true, true, true, true, true, true, true, true, true, true, true, true, true, true, true, true, true, true, true, true, true, false, false, false, false, false, false] rfl rfl (any_of HT_.out (by kernel_rfl)) (fun _ _ _ h => h) (Or.inr ⟨by rfl, rfl⟩) ?_ ?_
   rotate_left
   ·simp only [Act.put, List.setIfInBounds_toArray, List.set_cons_zero, List.set_cons_succ, i64_w, i32_w]
    rfl
   refine pure_ (i := 21) (N := some 26) (v := undef) (a' := ?_) #[true, true, true, true, true, true, true, true, true, true, true, true, true, true, true, true, true, true, true, true, true, true, false, false, false, false, false] rfl rfl (any_of HT_.out (by kernel_rfl)) (fun _ _ _ h => h) (Or.inr ⟨by rfl, rfl⟩) ?_ ?_
   rotate_left
   ·simp only [Act.put, List.setIfInBounds_toArray, List.set_cons_zero, List.set_cons_succ, i64_w, i32_w]
    rfl
   refine pure_ (i := 22) (N := some 27) (v := undef) (a' := ?_) #[true, true, true, true, true, true, true, true, true, true, true, true, true, true, true, true, true, true, true, true, true, true, true, false, false, false, false] rfl rfl (any_of HT_.out (by kernel_rfl)) (fun _ _ _ h => h) (Or.inr ⟨by rfl, rfl⟩) ?_ ?_
   rotate_left
   ·simp only [Act.put, List.setIfInBounds_toArray, List.set_cons_zero, List.set_cons_succ, i64_w, i32_w]
    rfl
   refine pure_ (i := 23) (N := some 28) (v := undef) (a' := ?_) #[true, true, true, true, true, true, true, true, true, true, true, true, true, true, true, true, true, true, true, true, true, true, true, true, false, false, false] rfl rfl (any_of HT_.out (by kernel_rfl)) (fun _ _ _ h => h) (Or.inr ⟨by rfl, rfl⟩) ?_ ?_
   rotate_left
   ·simp only [Act.put, List.setIfInBounds_toArray, List.set_cons_zero, List.set_cons_succ, i64_w, i32_w]
    rfl
   refine pure_ (i := 24) (N := some 29) (v := undef) (a' := ?_) #[true, true, true, true, true, true, true, true, true, true, true, true, true, true, true, true, true, true, true, true, true, true, true, true, true, false, false] rfl rfl (any_of HT_.out (by kernel_rfl)) (fun _ _ _ h => h) (Or.inr ⟨by rfl, rfl⟩) ?_ ?_
   rotate_left
   ·simp only [Act.put, List.setIfInBounds_toArray, List.set_cons_zero, List.set_cons_succ, i64_w, i32_w]
    rfl
   refine pure_ (i := 25) (N := some 30) (v := ?_) (a' := ?_) #[true, true, true, true, true, true, true, true, true, true, true, true, true, true, true, true, true, true, true, true, true, true, true, true, true, true, false] rfl rfl (any_of HT_.out (by kernel_rfl)) (fun _ _ _ h => h) (Or.inl ⟨by rfl, ?_⟩) ?_ ?_
   rotate_left
   ·intro w'
    go_simp
    with_reducible rfl
   rotate_left
   ·simp only [Act.put, List.setIfInBounds_toArray, List.set_cons_zero, List.set_cons_succ, i64_w, i32_w]
    rfl
   refine pure_ (i := 26) (N := some 4) (v := ?_) (a' := ?_) #[true, true, true, true, true, true, true, true, true, true, true, true, true, true, true, true, true, true, true, true, true, true, true, true, true, true, true] rfl rfl (any_of HT_.out (by kernel_rfl)) (fun _ _ _ h => h) (Or.inl ⟨by rfl, ?_⟩) ?_ ?_
   rotate_left
   ·intro w'
    go_simp
    with_reducible rfl
   rotate_left
   ·simp only [Act.put, List.setIfInBounds_toArray, List.set_cons_zero, List.set_cons_succ, i64_w, i32_w]
    rfl
   refine done_ (done_of HT_.out (by kernel_rfl)) ?_
   (try go_wp2)
   go_ret
   exact ⟨by rfl, by repeat ((with_reducible (exact HB.out)))⟩
 ·replace c4 := Bool.eq_false_iff.mpr c4
  subst c4
  have H1 : (some false) = some r := by rw [if_neg (show ¬ (false = true) by decide)] at H; exact H
  clear H
  have H := H1
  clear H1
  obtain rfl := Option.some.inj H
  go_enter Try.func33, Try.ntmps33
  (try go_wp2_with (first | ((with_reducible refine gate_dst (N := 2) rfl ?_); refine box_event ?hg (N := 2) ?hd (cs := #[.string a0_0, .int .i64 a0_1, .int .i64 a0_2, .int .i64 a0_3, .string a0_4]) (t := 24) ?hr ?_; (case hd => rfl); (case hg => rfl); (case hr => (go_simp; done)); intro gb133 hg w23 hbox hb; have n0_ := Aside0.mk (below_step (by repeat ((with_reducible (exact HB.out)))) hb); have n1_ := Aside0.mk (hbox); have n2_ := Aside0.mk ((by rw [hg]; exact (below_size (by repeat ((with_reducible (exact HB.out))))) : w.heap.size ≤ gb133)); have n3_ := Aside0.mk ((by rw [hg]; exact (below_size (by repeat ((with_reducible (exact HB.out))))) : w.heap.size ≤ gb133)); clear HB; have HB := n0_; have BK133 := n1_; have GW133 := n2_; have GE133 := n3_; clear n0_ n1_ n2_ n3_; clear hb hbox hg) | ((with_reducible refine gate_dst (N := 3) rfl ?_); refine box_event ?hg (N := 3) ?hd (cs := #[.string a1_0, .int .i64 a1_1, .int .i64 a1_2, .int .i64 a1_3, .string a1_4]) (t := 24) ?hr ?_; (case hd => rfl); (case hg => rfl); (case hr => (go_simp; done)); intro gb134 hg w24 hbox hb; have n0_ := Aside0.mk (blk_below (g := gb133) (o := .cells #[.string a0_0, .int .i64 a0_1, .int .i64 a0_2, .int .i64 a0_3, .string a0_4] 24 (0, 0)) (by (with_reducible repeat ((refine blk_drewN ?_ _))); exact BK133.out) hb); have n1_ := Aside0.mk (below_step (by repeat ((with_reducible (exact HB.out)))) hb); have n2_ := Aside0.mk (hbox); have n3_ := Aside0.mk ((by rw [hg]; exact (below_size (by repeat ((with_reducible (exact HB.out))))) : w.heap.size ≤ gb134)); have n4_ := Aside0.mk ((by rw [hg]; exact (below_size (by repeat ((with_reducible (exact HB.out))))) : w.heap.size ≤ gb134)); have n5_ := Aside0.mk ((by rw [hg]; exact Nat.ne_of_lt (blk_lt (g := gb133) (o := .cells #[.string a0_0, .int .i64 a0_1, .int .i64 a0_2, .int .i64 a0_3, .string a0_4] 24 (0, 0)) (by (with_reducible repeat ((refine blk_drewN ?_ _))); exact BK133.out)) : gb133 ≠ gb134)); have n6_ := Aside0.mk ((by rw [hg]; exact Nat.ne_of_gt (blk_lt (g := gb133) (o := .cells #[.string a0_0, .int .i64 a0_1, .int .i64 a0_2, .int .i64 a0_3, .string a0_4] 24 (0, 0)) (by (with_reducible repeat ((refine blk_drewN ?_ _))); exact BK133.out)) : gb134 ≠ gb133)); clear BK133; clear HB; have BK133 := n0_; have HB := n1_; have BK134 := n2_; have GW134 := n3_; have GE134 := n4_; have NB133_134 := n5_; have NB134_133 := n6_; clear n0_ n1_ n2_ n3_ n4_ n5_ n6_; clear hb hbox hg)))
  have n0_ := Aside0.mk (blk_drew BK133.out)
  have n1_ := Aside0.mk (blk_drew BK134.out)
  have n2_ := Aside0.mk (below_drew1 HB.out)
  clear BK133
  clear BK134
  clear HB
  have BK133 := n0_
  have BK134 := n1_
  have HB := n2_
  clear n0_ n1_ n2_
  refine start_ (n := 27) (S := fun w' => w'.cell? ⟨gb133, 0, none⟩ = some (.string a0_0) ∧ w'.cell? ⟨gb133, 1, none⟩ = some (.int .i64 a0_1) ∧ w'.cell? ⟨gb133, 2, none⟩ = some (.int .i64 a0_2) ∧ w'.cell? ⟨gb133, 3, none⟩ = some (.int .i64 a0_3) ∧ w'.cell? ⟨gb133, 4, none⟩ = some (.string a0_4) ∧ w'.cell? ⟨gb134, 0, none⟩ = some (.string a1_0) ∧ w'.cell? ⟨gb134, 1, none⟩ = some (.int .i64 a1_1) ∧ w'.cell? ⟨gb134, 2, none⟩ = some (.int .i64 a1_2) ∧ w'.cell? ⟨gb134, 3, none⟩ = some (.int .i64 a1_3) ∧ w'.cell? ⟨gb134, 4, none⟩ = some (.string a1_4)) (ds := []) #[false, false, false, false, false, false, false, false, false, false, false, false, false, false, false, false, false, false, false, false, false, false, false, false, false, false, false] (by kernel_rfl) rfl rfl ⟨(blk_cell BK133.out 0).trans rfl, (blk_cell BK133.out 1).trans rfl, (blk_cell BK133.out 2).trans rfl, (blk_cell BK133.out 3).trans rfl, (blk_cell BK133.out 4).trans rfl, (blk_cell BK134.out 0).trans rfl, (blk_cell BK134.out 1).trans rfl, (blk_cell BK134.out 2).trans rfl, (blk_cell BK134.out 3).trans rfl, (blk_cell BK134.out 4).trans rfl⟩ (fun hHeld => ?_); refine with_tabW beadrollref11_One.tab1 beadrollref11_One.bits1 (fun HT_ HW_ => ?_)
  generalize w24.drew = w25 at BK133 BK134 HB hHeld ⊢
  refine pure_ (i := 0) (N := some 5) (v := ?_) (a' := ?_) #[true, false, false, false, false, false, false, false, false, false, false, false, false, false, false, false, false, false, false, false, false, false, false, false, false, false, false] rfl rfl (any_of HT_.out (by kernel_rfl)) (fun _ _ _ h => h) (Or.inl ⟨by rfl, ?_⟩) ?_ ?_
  rotate_left
  ·intro w'
   go_simp
   with_reducible rfl
  rotate_left
  ·simp only [Act.put, List.setIfInBounds_toArray, List.set_cons_zero, List.set_cons_succ, i64_w, i32_w]
   rfl
  refine pure_ (i := 2) (N := some 7) (v := ?_) (a' := ?_) #[true, false, true, false, false, false, false, false, false, false, false, false, false, false, false, false, false, false, false, false, false, false, false, false, false, false, false] rfl rfl (any_of HT_.out (by kernel_rfl)) (fun _ _ _ h => h) (Or.inl ⟨by rfl, ?_⟩) ?_ ?_
  rotate_left
  ·intro w'
   go_simp
   with_reducible rfl
  rotate_left
  ·simp only [Act.put, List.setIfInBounds_toArray, List.set_cons_zero, List.set_cons_succ, i64_w, i32_w]
   rfl
  refine take_ (i := 1) (N := some 6) (v := ?_) (a' := ?_) #[true, true, true, false, false, false, false, false, false, false, false, false, false, false, false, false, false, false, false, false, false, false, false, false, false, false, false] rfl rfl (take_ofW HT_.out HW_.out (by kernel_rfl)) (fun _ _ _ h => h) (Or.inl ⟨by rfl, ?_⟩) hHeld ?_ ?_
  rotate_left
  ·rintro w' ⟨s0, s1, s2, s3, s4, s5, s6, s7, s8, s9⟩
   go_simp
   with_reducible rfl
  rotate_left
  ·simp only [Act.put, List.setIfInBounds_toArray, List.set_cons_zero, List.set_cons_succ, i64_w, i32_w]
   rfl
  refine take_ (i := 3) (N := some 8) (v := ?_) (a' := ?_) #[true, true, true, true, false, false, false, false, false, false, false, false, false, false, false, false, false, false, false, false, false, false, false, false, false, false, false] rfl rfl (take_ofW HT_.out HW_.out (by kernel_rfl)) (fun _ _ _ h => h) (Or.inl ⟨by rfl, ?_⟩) hHeld ?_ ?_
  rotate_left
  ·rintro w' ⟨s0, s1, s2, s3, s4, s5, s6, s7, s8, s9⟩
   go_simp
   with_reducible rfl
  rotate_left
  ·simp only [Act.put, List.setIfInBounds_toArray, List.set_cons_zero, List.set_cons_succ, i64_w, i32_w]
   rfl
  refine one_ (i := 4) (N := some 9) #[true, true, true, true, true, false, false, false, false, false, false, false, false, false, false, false, false, false, false, false, false, false, false, false, false, false, false] rfl rfl (one_of HT_.out (by kernel_rfl)) (by decide) (fun K hK => ?_)
  refine goes_ Try.func44 (by kernel_rfl) rfl #[.string a0_0, .string a1_0] (by rfl) rfl rfl (by (try simp only [List.map_toArray, List.map_cons, List.map_nil]); rfl) ?_
  with_reducible refine (beadrollref07_Alike.calls k a0_0 a1_0 false _ A3.out).mono ?_
  rintro e w26 ⟨rfl, hb⟩
  refine ⟨_, rfl, ?_⟩
  have n0_ := Aside0.mk (blk_below (g := gb133) (o := .cells #[.string a0_0, .int .i64 a0_1, .int .i64 a0_2, .int .i64 a0_3, .string a0_4] 24 (0, 0)) (by (with_reducible repeat ((refine blk_drewN ?_ _))); exact BK133.out) hb)
  have n1_ := Aside0.mk (blk_below (g := gb134) (o := .cells #[.string a1_0, .int .i64 a1_1, .int .i64 a1_2, .int .i64 a1_3, .string a1_4] 24 (0, 0)) (by (with_reducible repeat ((refine blk_drewN ?_ _))); exact BK134.out) hb)
  have n2_ := Aside0.mk (below_step (by repeat ((with_reducible (exact HB.out)))) hb)
  clear BK133
  clear BK134
  clear HB
  have BK133 := n0_
  have BK134 := n1_
  have HB := n2_
  clear n0_ n1_ n2_
  (try clear hb)
  refine hK.out _ _ ⟨(blk_cell BK133.out 0).trans rfl, (blk_cell BK133.out 1).trans rfl, (blk_cell BK133.out 2).trans rfl, (blk_cell BK133.out 3).trans rfl, (blk_cell BK133.out 4).trans rfl, (blk_cell BK134.out 0).trans rfl, (blk_cell BK134.out 1).trans rfl, (blk_cell BK134.out 2).trans rfl, (blk_cell BK134.out 3).trans rfl, (blk_cell BK134.out 4).trans rfl⟩ (fun hHeld => ?_)
  clear hK K
  refine norm_ (a' := ?_) ?_ ?_
  rotate_left
  ·show Act.put _ (some 9) _ = _
   simp only [Act.put, List.setIfInBounds_toArray, List.set_cons_zero, List.set_cons_succ, i64_w, i32_w]
   rfl
  refine pure_ (i := 5) (N := some 10) (v := ?_) (a' := ?_) #[true, true, true, true, true, true, false, false, false, false, false, false, false, false, false, false, false, false, false, false, false, false, false, false, false, false, false] rfl rfl (any_of HT_.out (by kernel_rfl)) (fun _ _ _ h => h) (Or.inl ⟨by rfl, ?_⟩) ?_ ?_
  rotate_left
  ·intro w'
   go_simp
   with_reducible rfl
  rotate_left
  ·simp only [Act.put, List.setIfInBounds_toArray, List.set_cons_zero, List.set_cons_succ, i64_w, i32_w]
   rfl
  refine pure_ (i := 6) (N := some 11) (v := undef) (a' := ?_) #[true, true, true, true, true, true, true, false, false, false, false, false, false, false, false, false, false, false, false, false, false, false, false, false, false, false, false] rfl rfl (any_of HT_.out (by kernel_rfl)) (fun _ _ _ h => h) (Or.inr ⟨by rfl, rfl⟩) ?_ ?_
  rotate_left
  ·simp only [Act.put, List.setIfInBounds_toArray, List.set_cons_zero, List.set_cons_succ, i64_w, i32_w]
   rfl
  refine pure_ (i := 7) (N := some 12) (v := undef) (a' := ?_) #[true, true, true, true, true, true, true, true, false, false, false, false, false, false, false, false, false, false, false, false, false, false, false, false, false, false, false] rfl rfl (any_of HT_.out (by kernel_rfl)) (fun _ _ _ h => h) (Or.inr ⟨by rfl, rfl⟩) ?_ ?_
  rotate_left
  ·simp only [Act.put, List.setIfInBounds_toArray, List.set_cons_zero, List.set_cons_succ, i64_w, i32_w]
   rfl
  refine pure_ (i := 8) (N := some 13) (v := undef) (a' := ?_) #[true, true, true, true, true, true, true, true, true, false, false, false, false, false, false, false, false, false, false, false, false, false, false, false, false, false, false] rfl rfl (any_of HT_.out (by kernel_rfl)) (fun _ _ _ h => h) (Or.inr ⟨by rfl, rfl⟩) ?_ ?_
  rotate_left
  ·simp only [Act.put, List.setIfInBounds_toArray, List.set_cons_zero, List.set_cons_succ, i64_w, i32_w]
   rfl
  refine pure_ (i := 9) (N := some 14) (v := undef) (a' := ?_) #[true, true, true, true, true, true, true, true, true, true, false, false, false, false, false, false, false, false, false, false, false, false, false, false, false, false, false] rfl rfl (any_of HT_.out (by kernel_rfl)) (fun _ _ _ h => h) (Or.inr ⟨by rfl, rfl⟩) ?_ ?_
  rotate_left
  ·simp only [Act.put, List.setIfInBounds_toArray, List.set_cons_zero, List.set_cons_succ, i64_w, i32_w]
   rfl
  refine pure_ (i := 10) (N := some 15) (v := undef) (a' := ?_) #[true, true, true, true, true, true, true, true, true, true, true, false, false, false, false, false, false, false, false, false, false, false, false, false, false, false, false] rfl rfl (any_of HT_.out (by kernel_rfl)) (fun _ _ _ h => h) (Or.inr ⟨by rfl, rfl⟩) ?_ ?_
  rotate_left
  ·simp only [Act.put, List.setIfInBounds_toArray, List.set_cons_zero, List.set_cons_succ, i64_w, i32_w]
   rfl
  refine pure_ (i := 11) (N := some 16) (v := ?_) (a' := ?_) #[true, true, true, true, true, true, true, true, true, true, true, true, false, false, false, false, false, false, false, false, false, false, false, false, false, false, false] rfl rfl (any_of HT_.out (by kernel_rfl)) (fun _ _ _ h => h) (Or.inl ⟨by rfl, ?_⟩) ?_ ?_
  rotate_left
  ·intro w'
   go_simp
   with_reducible rfl
  rotate_left
  ·simp only [Act.put, List.setIfInBounds_toArray, List.set_cons_zero, List.set_cons_succ, i64_w, i32_w]
   rfl
  refine pure_ (i := 12) (N := some 17) (v := ?_) (a' := ?_) #[true, true, true, true, true, true, true, true, true, true, true, true, true, false, false, false, false, false, false, false, false, false, false, false, false, false, false] rfl rfl (any_of HT_.out (by kernel_rfl)) (fun _ _ _ h => h) (Or.inl ⟨by rfl, ?_⟩) ?_ ?_
  rotate_left
  ·intro w'
   go_simp
   with_reducible rfl
  rotate_left
  ·simp only [Act.put, List.setIfInBounds_toArray, List.set_cons_zero, List.set_cons_succ, i64_w, i32_w]
   rfl
  refine pure_ (i := 13) (N := some 18) (v := undef) (a' := ?_) #[true, true, true, true, true, true, true, true, true, true, true, true, true, true, false, false, false, false, false, false, false, false, false, false, false, false, false] rfl rfl (any_of HT_.out (by kernel_rfl)) (fun _ _ _ h => h) (Or.inr ⟨by rfl, rfl⟩) ?_ ?_
  rotate_left
  ·simp only [Act.put, List.setIfInBounds_toArray, List.set_cons_zero, List.set_cons_succ, i64_w, i32_w]
   rfl
  refine pure_ (i := 14) (N := some 19) (v := undef) (a' := ?_) #[true, true, true, true, true, true, true, true, true, true, true, true, true, true, true, false, false, false, false, false, false, false, false, false, false, false, false] rfl rfl (any_of HT_.out (by kernel_rfl)) (fun _ _ _ h => h) (Or.inr ⟨by rfl, rfl⟩) ?_ ?_
  rotate_left
  ·simp only [Act.put, List.setIfInBounds_toArray, List.set_cons_zero, List.set_cons_succ, i64_w, i32_w]
   rfl
  refine pure_ (i := 15) (N := some 20) (v := undef) (a' := ?_) #[true, true, true, true, true, true, true, true, true, true, true, true, true, true, true, true, false, false, false, false, false, false, false, false, false, false, false] rfl rfl (any_of HT_.out (by kernel_rfl)) (fun _ _ _ h => h) (Or.inr ⟨by rfl, rfl⟩) ?_ ?_
  rotate_left
  ·simp only [Act.put, List.setIfInBounds_toArray, List.set_cons_zero, List.set_cons_succ, i64_w, i32_w]
   rfl
  refine pure_ (i := 16) (N := some 21) (v := undef) (a' := ?_) #[true, true, true, true, true, true, true, true, true, true, true, true, true, true, true, true, true, false, false, false, false, false, false, false, false, false, false] rfl rfl (any_of HT_.out (by kernel_rfl)) (fun _ _ _ h => h) (Or.inr ⟨by rfl, rfl⟩) ?_ ?_
  rotate_left
  ·simp only [Act.put, List.setIfInBounds_toArray, List.set_cons_zero, List.set_cons_succ, i64_w, i32_w]
   rfl
  refine pure_ (i := 17) (N := some 22) (v := undef) (a' := ?_) #[true, true, true, true, true, true, true, true, true, true, true, true, true, true, true, true, true, true, false, false, false, false, false, false, false, false, false] rfl rfl (any_of HT_.out (by kernel_rfl)) (fun _ _ _ h => h) (Or.inr ⟨by rfl, rfl⟩) ?_ ?_
  rotate_left
  ·simp only [Act.put, List.setIfInBounds_toArray, List.set_cons_zero, List.set_cons_succ, i64_w, i32_w]
   rfl
  refine pure_ (i := 18) (N := some 23) (v := ?_) (a' := ?_) #[true, true, true, true, true, true, true, true, true, true, true, true, true, true, true, true, true, true, true, false, false, false, false, false, false, false, false] rfl rfl (any_of HT_.out (by kernel_rfl)) (fun _ _ _ h => h) (Or.inl ⟨by rfl, ?_⟩) ?_ ?_
  rotate_left
  ·intro w'
   go_simp
   with_reducible rfl
  rotate_left
  ·simp only [Act.put, List.setIfInBounds_toArray, List.set_cons_zero, List.set_cons_succ, i64_w, i32_w]
   rfl
  refine pure_ (i := 19) (N := some 24) (v := ?_) (a' := ?_) #[true, true, true, true, true, true, true, true, true, true, true, true, true, true, true, true, true, true, true, true, false, false, false, false, false, false, false] rfl rfl (any_of HT_.out (by kernel_rfl)) (fun _ _ _ h => h) (Or.inl ⟨by rfl, ?_⟩) ?_ ?_
  rotate_left
  ·intro w'
   go_simp
   with_reducible rfl
  rotate_left
  ·simp only [Act.put, List.setIfInBounds_toArray, List.set_cons_zero, List.set_cons_succ, i64_w, i32_w]
   rfl
  refine pure_ (i := 20) (N := some 25) (v := undef) (a' := ?_) #[true, true, true, true, true, true, true, true, true, true, true, true, true, true, true, true, true, true, true, true, true, false, false, false, false, false, false] rfl rfl (any_of HT_.out (by kernel_rfl)) (fun _ _ _ h => h) (Or.inr ⟨by rfl, rfl⟩) ?_ ?_
  rotate_left
  ·simp only [Act.put, List.setIfInBounds_toArray, List.set_cons_zero, List.set_cons_succ, i64_w, i32_w]
   rfl
  refine pure_ (i := 21) (N := some 26) (v := undef) (a' := ?_) #[true, true, true, true, true, true, true, true, true, true, true, true, true, true, true, true, true, true, true, true, true, true, false, false, false, false, false] rfl rfl (any_of HT_.out (by kernel_rfl)) (fun _ _ _ h => h) (Or.inr ⟨by rfl, rfl⟩) ?_ ?_
  rotate_left
  ·simp only [Act.put, List.setIfInBounds_toArray, List.set_cons_zero, List.set_cons_succ, i64_w, i32_w]
   rfl
  refine pure_ (i := 22) (N := some 27) (v := undef) (a' := ?_) #[true, true, true, true, true, true, true, true, true, true, true, true, true, true, true, true, true, true, true, true, true, true, true, false, false, false, false] rfl rfl (any_of HT_.out (by kernel_rfl)) (fun _ _ _ h => h) (Or.inr ⟨by rfl, rfl⟩) ?_ ?_
  rotate_left
  ·simp only [Act.put, List.setIfInBounds_toArray, List.set_cons_zero, List.set_cons_succ, i64_w, i32_w]
   rfl
  refine pure_ (i := 23) (N := some 28) (v := undef) (a' := ?_) #[true, true, true, true, true, true, true, true, true, true, true, true, true, true, true, true, true, true, true, true, true, true, true, true, false, false, false] rfl rfl (any_of HT_.out (by kernel_rfl)) (fun _ _ _ h => h) (Or.inr ⟨by rfl, rfl⟩) ?_ ?_
  rotate_left
  ·simp only [Act.put, List.setIfInBounds_toArray, List.set_cons_zero, List.set_cons_succ, i64_w, i32_w]
   rfl
  refine pure_ (i := 24) (N := some 29) (v := undef) (a' := ?_) #[true, true, true, true, true, true, true, true, true, true, true, true, true, true, true, true, true, true, true, true, true, true, true, true, true, false, false] rfl rfl (any_of HT_.out (by kernel_rfl)) (fun _ _ _ h => h) (Or.inr ⟨by rfl, rfl⟩) ?_ ?_
  rotate_left
  ·simp only [Act.put, List.setIfInBounds_toArray, List.set_cons_zero, List.set_cons_succ, i64_w, i32_w]
   rfl
  refine pure_ (i := 25) (N := some 30) (v := ?_) (a' := ?_) #[true, true, true, true, true, true, true, true, true, true, true, true, true, true, true, true, true, true, true, true, true, true, true, true, true, true, false] rfl rfl (any_of HT_.out (by kernel_rfl)) (fun _ _ _ h => h) (Or.inl ⟨by rfl, ?_⟩) ?_ ?_
  rotate_left
  ·intro w'
   go_simp
   with_reducible rfl
  rotate_left
  ·simp only [Act.put, List.setIfInBounds_toArray, List.set_cons_zero, List.set_cons_succ, i64_w, i32_w]
   rfl
  refine pure_ (i := 26) (N := some 4) (v := ?_) (a' := ?_) #[true, true, true, true, true, true, true, true, true, true, true, true, true, true, true, true, true, true, true, true, true, true, true, true, true, true, true] rfl rfl (any_of HT_.out (by kernel_rfl)) (fun _ _ _ h => h) (Or.inl ⟨by rfl, ?_⟩) ?_ ?_
  rotate_left
  ·intro w'
   go_simp
   with_reducible rfl
  rotate_left
  ·simp only [Act.put, List.setIfInBounds_toArray, List.set_cons_zero, List.set_cons_succ, i64_w, i32_w]
   rfl
  refine done_ (done_of HT_.out (by kernel_rfl)) ?_
  (try go_wp2)
  go_ret
  exact ⟨by rfl, by repeat ((with_reducible (exact HB.out)))⟩
end Go.Proofs.Ytnpiglojamhpiaa.PRr
namespace Go.Proofs.Ytnpiglojamhpiaa.PRr
open Go.RowKit Go.Proofs.YtnpiglojamhpiaaW.PrintWords Go.Proofs.YtnpiglojamhpiaaW.PrintLast Go.Proofs.YtnpiglojamhpiaaW.PrintMore Go.Proofs.Ytnpiglojamhpiaa.Given Go.Proofs.Ytnpiglojamhpiaa.PRd
attribute [local go_sem] max2_int min2_int max_two min_two max_three min_three max_four min_four   -- for this text's walks alone
set_option linter.unusedVariables false
set_option linter.unusedSimpArgs false
attribute [local go_sem high] eqA24
def beadrollref11_Same.l0 : Nat → List (S24) → List (S24) → Int → Option (Bool)
 | 0, _, _, _ => none
 | k + 1, x0, x1, x5 => if x5 < (x0.length : Int) then (if 0 ≤ x5 then (if x5 < (x1.length : Int) then (if (!((((rd_T24 x0 x5).f0).toList) == (((rd_T24 x1 x5).f0).toList)) || (!(((rd_T24 x0 x5).f1) == ((rd_T24 x1 x5).f1)) || (!(((rd_T24 x0 x5).f2) == ((rd_T24 x1 x5).f2)) || (!(((rd_T24 x0 x5).f3) == ((rd_T24 x1 x5).f3)) || (!((((rd_T24 x0 x5).f4).toList) == (((rd_T24 x1 x5).f4).toList))))))) = true then (some false) else (beadrollref11_Same.l0 k x0 x1 (wrap64 (x5 + 1)))) else (none)) else (none)) else (some true)
def beadrollref11_Same.f (k : Nat) (l0 : List (S24)) (l1 : List (S24)) : Option (Bool) := if (l0.length : Int) = (l1.length : Int) then (beadrollref11_Same.l0 k l0 l1 0) else (some false)
set_option maxHeartbeats 8000000 in
set_option maxRecDepth 100000 in
theorem beadrollref11_Same.calls (k : Nat) (A0 : Option Addr) (c0 : Nat) (l0 : List (S24)) (A1 : Option Addr) (c1 : Nat) (l1 : List (S24)) (r : Bool) (w : World) (hr0 : Kd.C k24 w A0 l0.length l0) (hc0 : l0.length ≤ c0) (hr1 : Kd.C k24 w A1 l1.length l1) (hc1 : l1.length ≤ c1) (h : beadrollref11_Same.f k l0 l1 = some r) :
  Calls Try.prog 14 #[.slice A0 l0.length c0, .slice A1 l1.length c1] w fun e w' => e = .returned (.bool r) ∧ Drawn0 w w' := by
 have hu24 := Try.underlying24
 have HR0 := Aside0.mk hr0
 have HC0 := Aside0.mk hc0
 clear hr0 hc0
 have HR1 := Aside0.mk hr1
 have HC1 := Aside0.mk hc1
 clear hr1 hc1
 have H : (if (l0.length : Int) = (l1.length : Int) then (beadrollref11_Same.l0 k l0 l1 0) else (some false)) = some r := h
 clear h
 by_cases c3 : (l0.length : Int) = (l1.length : Int)
 ·rw [if_pos c3] at H
  have c3b0 : ((l0.length : Int) == (l1.length : Int)) = true := beq_iff_eq.mpr c3
  have c3b1 : ((l0.length : Int) != (l1.length : Int)) = false := bne_eq_false_iff_eq.mpr c3
  have c3b2 : (l0.length == l1.length) = true := by (simp at c3 ⊢; omega)
  clear c3
  have H' := Aside0.mk H
  clear H
  go_enter Try.func14, Try.ntmps14
  go_wp2
  repeat (go_quiet (fail); try go_wp2)
  go_loopg [5] k (fun kq v5 w' => ∃ (x5_1 : Int), v5 = .int .i64 x5_1 ∧ Aside0 (beadrollref11_Same.l0 kq l0 l1 x5_1 = some r) ∧ Aside0 (kq ≤ k) ∧ Drawn0 w w')
  case atStart => exact ⟨(0), (by rfl), H', ⟨Nat.le_refl _⟩, by repeat ((exact Drawn0.refl _))⟩
  case round =>
   clear H'
   (try clear c3b0)
   (try clear c3b1)
   (try clear c3b2)
   obtain ⟨x5_1, rfl, HA, HK1, ⟨m1, rfl⟩⟩ := hrel
   cases gk with
   | zero => exact absurd HA.out (by simp [beadrollref11_Same.l0])
   | succ k1 =>
    have H := HA.out
    clear HA
    simp only [beadrollref11_Same.l0] at H
    by_cases c4 : x5_1 < (l0.length : Int)
    ·rw [if_pos c4] at H
     have c4b0 : decide (x5_1 < (l0.length : Int)) = true := decide_eq_true c4
     clear c4
     by_cases c5 : 0 ≤ x5_1
     ·rw [if_pos c5] at H
      have c5b0 : decide (0 ≤ x5_1) = true := decide_eq_true c5
      clear c5
      by_cases c6 : x5_1 < (l1.length : Int)
      ·rw [if_pos c6] at H
       have c6b0 : decide (x5_1 < (l1.length : Int)) = true := decide_eq_true c6
       clear c6
       by_cases c7 : (!((((rd_T24 l0 x5_1).f0).toList) == (((rd_T24 l1 x5_1).f0).toList)) || (!(((rd_T24 l0 x5_1).f1) == ((rd_T24 l1 x5_1).f1)) || (!(((rd_T24 l0 x5_1).f2) == ((rd_T24 l1 x5_1).f2)) || (!(((rd_T24 l0 x5_1).f3) == ((rd_T24 l1 x5_1).f3)) || (!((((rd_T24 l0 x5_1).f4).toList) == (((rd_T24 l1 x5_1).f4).toList))))))) = true
       ·rw [if_pos c7] at H
        have c7b0 : (!((((rd_T24 l0 x5_1).f0).toList) == (((rd_T24 l1 x5_1).f0).toList)) || (!(((rd_T24 l0 x5_1).f1) == ((rd_T24 l1 x5_1).f1)) || (!(((rd_T24 l0 x5_1).f2) == ((rd_T24 l1 x5_1).f2)) || (!(((rd_T24 l0 x5_1).f3) == ((rd_T24 l1 x5_1).f3)) || (!((((rd_T24 l0 x5_1).f4).toList) == (((rd_T24 l1 x5_1).f4).toList))))))) = true := c7
        clear c7
        obtain rfl := Option.some.inj H
        have p138 : 0 ≤ (x5_1 : Int) := of_decide_eq_true (by (with_reducible assumption))
        have q138 : x5_1 < (l0.length : Int) := of_decide_eq_true (by (with_reducible assumption))
        obtain ⟨ad138, e138, hx138_0, hx138_1, hx138_2, hx138_3, hx138_4⟩ := at_T24 HR0.out x5_1 p138 q138
        cases e138
        replace p138 := eq_true p138
        replace q138 := eq_true q138
        have p139 : 0 ≤ (x5_1 : Int) := of_decide_eq_true (by (with_reducible assumption))
        have q139 : x5_1 < (l1.length : Int) := of_decide_eq_true (by (with_reducible assumption))
        obtain ⟨ad139, e139, hx139_0, hx139_1, hx139_2, hx139_3, hx139_4⟩ := at_T24 HR1.out x5_1 p139 q139
        cases e139
        replace p139 := eq_true p139
        replace q139 := eq_true q139
        go_wp2
        repeat (go_quiet (fail); try go_wp2)
        go_ret
        exact ⟨by rfl, by repeat (first | exact Drawn0.refl _ | apply Drawn0.step)⟩
       ·rw [if_neg c7] at H
        have c7b0 : (!((((rd_T24 l0 x5_1).f0).toList) == (((rd_T24 l1 x5_1).f0).toList)) || (!(((rd_T24 l0 x5_1).f1) == ((rd_T24 l1 x5_1).f1)) || (!(((rd_T24 l0 x5_1).f2) == ((rd_T24 l1 x5_1).f2)) || (!(((rd_T24 l0 x5_1).f3) == ((rd_T24 l1 x5_1).f3)) || (!((((rd_T24 l0 x5_1).f4).toList) == (((rd_T24 l1 x5_1).f4).toList))))))) = false := by simpa using c7
        clear c7
        have H' := Aside0.mk H
        clear H
        have p138 : 0 ≤ (x5_1 : Int) := of_decide_eq_true (by (with_reducible assumption))
        have q138 : x5_1 < (l0.length : Int) := of_decide_eq_true (by (with_reducible assumption))
        obtain ⟨ad138, e138, hx138_0, hx138_1, hx138_2, hx138_3, hx138_4⟩ := at_T24 HR0.out x5_1 p138 q138
        cases e138
        replace p138 := eq_true p138
        replace q138 := eq_true q138
        have p139 : 0 ≤ (x5_1 : Int) := of_decide_eq_true (by (with_reducible assumption))
        have q139 : x5_1 < (l1.length : Int) := of_decide_eq_true (by (with_reducible assumption))
        obtain ⟨ad139, e139, hx139_0, hx139_1, hx139_2, hx139_3, hx139_4⟩ := at_T24 HR1.out x5_1 p139 q139
        cases e139
        replace p139 := eq_true p139
        replace q139 := eq_true q139
        go_wp2
        repeat (go_quiet (fail); try go_wp2)
        go_roundg k1
        case measure => have := HK1.out; omega
        case rel => exact ⟨(wrap64 (x5_1 + 1)), (by rfl), H', ⟨by have := HK1.out; omega⟩, by repeat (first | exact Drawn0.refl _ | apply Drawn0.step)⟩
      ·rw [if_neg c6] at H
       exact absurd H (by simp)
     ·rw [if_neg c5] at H
      exact absurd H (by simp)
    ·rw [if_neg c4] at H
     have c4b0 : decide (x5_1 < (l0.length : Int)) = false := decide_eq_false c4
     clear c4
     obtain rfl := Option.some.inj H
     go_wp2
     repeat (go_quiet (fail); try go_wp2)
     go_ret
     exact ⟨by rfl, by repeat (first | exact Drawn0.refl _ | apply Drawn0.step)⟩
 ·rw [if_neg c3] at H
  have c3b0 : ((l0.length : Int) == (l1.length : Int)) = false := beq_eq_false_iff_ne.mpr c3
  have c3b1 : ((l0.length : Int) != (l1.length : Int)) = true := bne_iff_ne.mpr c3
  have c3b2 : (l0.length == l1.length) = false := by (simp at c3 ⊢; omega)
  obtain rfl := Option.some.inj H
  go_enter Try.func14, Try.ntmps14
  go_wp2
  repeat (go_quiet (fail); try go_wp2)
  go_ret
  exact ⟨by rfl, by repeat ((exact Drawn0.refl _))⟩
def beadrollref13_Is.l0 : Nat → List (S24) → Int → Option (Bool)
 | 0, _, _ => none
 | k + 1, x0, x3 => if x3 < (x0.length : Int) then (if 0 ≤ (wrap64 (x3 - 1)) then (if (wrap64 (x3 - 1)) < (x0.length : Int) then (if 0 ≤ x3 then ((beadrollref11_Compare.f k ((rd_T24 x0 (wrap64 (x3 - 1))).f0) ((rd_T24 x0 (wrap64 (x3 - 1))).f1) ((rd_T24 x0 (wrap64 (x3 - 1))).f2) ((rd_T24 x0 (wrap64 (x3 - 1))).f3) ((rd_T24 x0 (wrap64 (x3 - 1))).f4) ((rd_T24 x0 x3).f0) ((rd_T24 x0 x3).f1) ((rd_T24 x0 x3).f2) ((rd_T24 x0 x3).f3) ((rd_T24 x0 x3).f4)).bind fun t142 => (if t142 = (-1) then (beadrollref13_Is.l0 k x0 (wrap64 (x3 + 1))) else (some false))) else (none)) else (none)) else (none)) else (some true)
def beadrollref13_Is.f (k : Nat) (l0 : List (S24)) : Option (Bool) := beadrollref13_Is.l0 k l0 1
def beadrollref13_Is.T4 : Bool × List (List Nat × List Nat) := (true, [([], []), ([], []), ([1], [1]), ([0, 2], [0, 2]), ([3], [3]), ([], []), ([], []), ([5, 6], [5, 6]), ([7], [7]), ([4, 8], [4, 8]), ([9], [9])])
def beadrollref13_Is.B4 : List Nat := [0, 0, 2, 7, 15, 0, 0, 96, 224, 511, 1023]
theorem beadrollref13_Is.tab4 : rtab .any (opsOf Try.f7 4) = beadrollref13_Is.T4 := by kernel_rfl
theorem beadrollref13_Is.bits4 : waitsOk beadrollref13_Is.T4.2 beadrollref13_Is.B4 = true := by kernel_rfl
set_option maxHeartbeats 8000000 in
set_option maxRecDepth 100000 in
theorem beadrollref13_Is.calls (k : Nat) (A0 : Option Addr) (c0 : Nat) (l0 : List (S24)) (r : Bool) (w : World) (hr0 : Kd.C k24 w A0 l0.length l0) (hc0 : l0.length ≤ c0) (h : beadrollref13_Is.f k l0 = some r) :
  Calls Try.prog 7 #[.slice A0 l0.length c0] w fun e w' => e = .returned (.bool r) ∧ Below w.heap.size w w' := by
 have hu24 := Try.underlying24
 have HR0 := Aside0.mk hr0
 have HC0 := Aside0.mk hc0
 clear hr0 hc0
 have HB := Aside0.mk (Below.refl w.heap.size w)
 have H : (beadrollref13_Is.l0 k l0 1) = some r := h
 clear h
 have H' := Aside0.mk H
 clear H
 go_enter Try.func7, Try.ntmps7
 go_wp2
 go_loopg [3] k (fun kq v3 w' => ∃ (x3_1 : Int), v3 = .int .i64 x3_1 ∧ Aside0 (beadrollref13_Is.l0 kq l0 x3_1 = some r) ∧ Aside0 (kq ≤ k) ∧ Aside0 (Below w.heap.size w w'))
 case atStart => exact ⟨(1), (by rfl), H', ⟨Nat.le_refl _⟩, ⟨by repeat ((with_reducible (exact HB.out)))⟩⟩
 case round =>
  clear H'
  obtain ⟨x3_1, rfl, HA, HK1, HB⟩ := hrel
  cases gk with
  | zero => exact absurd HA.out (by simp [beadrollref13_Is.l0])
  | succ k1 =>
   have H := HA.out
   clear HA
   simp only [beadrollref13_Is.l0] at H
   by_cases c2 : x3_1 < (l0.length : Int)
   ·rw [if_pos c2] at H
    have c2b0 : decide (x3_1 < (l0.length : Int)) = true := decide_eq_true c2
    clear c2
    obtain ⟨ji3, hji3⟩ : ∃ j_ : Int, (wrap64 (x3_1 - 1)) = j_ := ⟨_, rfl⟩
    replace H : (if 0 ≤ (ji3) then (if (ji3) < (l0.length : Int) then (if 0 ≤ x3_1 then ((beadrollref11_Compare.f k1 ((rd_T24 l0 (ji3)).f0) ((rd_T24 l0 (ji3)).f1) ((rd_T24 l0 (ji3)).f2) ((rd_T24 l0 (ji3)).f3) ((rd_T24 l0 (ji3)).f4) ((rd_T24 l0 x3_1).f0) ((rd_T24 l0 x3_1).f1) ((rd_T24 l0 x3_1).f2) ((rd_T24 l0 x3_1).f3) ((rd_T24 l0 x3_1).f4)).bind fun t142 => (if t142 = (-1) then (beadrollref13_Is.l0 k1 l0 (wrap64 (x3_1 + 1))) else (some false))) else (none)) else (none)) else (none)) = some r := by (rw [hji3] at H; exact H)
    have hji3w : (IntKind.i64.wrap (x3_1 - 1)) = ji3 := (i64_w _).trans hji3
    by_cases c4 : 0 ≤ (ji3)
    ·rw [if_pos c4] at H
     have c4b0 : decide (0 ≤ (ji3)) = true := decide_eq_true c4
     clear c4
     by_cases c5 : (ji3) < (l0.length : Int)
     ·rw [if_pos c5] at H
      have c5b0 : decide ((ji3) < (l0.length : Int)) = true := decide_eq_true c5
      clear c5
      by_cases c6 : 0 ≤ x3_1
      ·rw [if_pos c6] at H
       have c6b0 : decide (0 ≤ x3_1) = true := decide_eq_true c6
       clear c6
       replace H := Option.bind_eq_some_iff.mp H
       obtain ⟨t142, A70, H⟩ := H
       replace H : (if t142 = (-1) then (beadrollref13_Is.l0 k1 l0 (wrap64 (x3_1 + 1))) else (some false)) = some r := H
       have A7 := Aside0.mk A70
       clear A70
       by_cases c8 : t142 = (-1)
       ·rw [if_pos c8] at H
        have c8b0 : (t142 == (-1)) = true := beq_iff_eq.mpr c8
        have c8b1 : (t142 != (-1)) = false := bne_eq_false_iff_eq.mpr c8
        clear c8
        have H' := Aside0.mk H
        clear H
        (try go_wp2)
        have n0_ := Aside0.mk (below_drew1 HB.out)
        clear HB
        have HB := n0_
        clear n0_
        have p140 : 0 ≤ ((ji3) : Int) := of_decide_eq_true (by (with_reducible assumption))
        have q140 : (ji3) < (l0.length : Int) := of_decide_eq_true (by (with_reducible assumption))
        obtain ⟨ad140, e140, hx140_0, hx140_1, hx140_2, hx140_3, hx140_4⟩ := at_T24 HR0.out (ji3) p140 q140
        have hw140_4 := hx140_4
        have hw140_3 := hx140_3
        have hw140_2 := hx140_2
        have hw140_1 := hx140_1
        have hw140_0 := hx140_0
        cases e140
        replace hx140_0 := (HB.out.cell (World.block_lt_of_cell? w _ hx140_0)).trans hx140_0
        replace hx140_1 := (HB.out.cell (World.block_lt_of_cell? w _ hx140_1)).trans hx140_1
        replace hx140_2 := (HB.out.cell (World.block_lt_of_cell? w _ hx140_2)).trans hx140_2
        replace hx140_3 := (HB.out.cell (World.block_lt_of_cell? w _ hx140_3)).trans hx140_3
        replace hx140_4 := (HB.out.cell (World.block_lt_of_cell? w _ hx140_4)).trans hx140_4
        replace p140 := eq_true p140
        replace q140 := eq_true q140
        have p141 : 0 ≤ (x3_1 : Int) := of_decide_eq_true (by (with_reducible assumption))
        have q141 : x3_1 < (l0.length : Int) := of_decide_eq_true (by (with_reducible assumption))
        obtain ⟨ad141, e141, hx141_0, hx141_1, hx141_2, hx141_3, hx141_4⟩ := at_T24 HR0.out x3_1 p141 q141
        have hw141_4 := hx141_4
        have hw141_3 := hx141_3
        have hw141_2 := hx141_2
        have hw141_1 := hx141_1
        have hw141_0 := hx141_0
        obtain rfl : ad140 = ad141 := (by injection e141)
        replace hx141_0 := (HB.out.cell (World.block_lt_of_cell? w _ hx141_0)).trans hx141_0
        replace hx141_1 := (HB.out.cell (World.block_lt_of_cell? w _ hx141_1)).trans hx141_1
        replace hx141_2 := (HB.out.cell (World.block_lt_of_cell? w _ hx141_2)).trans hx141_2
        replace hx141_3 := (HB.out.cell (World.block_lt_of_cell? w _ hx141_3)).trans hx141_3
        replace hx141_4 := (HB.out.cell (World.block_lt_of_cell? w _ hx141_4)).trans hx141_4
        replace p141 := eq_true p141
        replace q141 := eq_true q141
        refine start_ (n := 11) (S := fun w' => w'.cell? (ad140.add (((ji3)).toNat * 5)) = some (.string ((rd_T24 l0 (ji3)).f0)) ∧ w'.cell? ⟨(ad140.add (((ji3)).toNat * 5)).block, (ad140.add (((ji3)).toNat * 5)).off + 1, none⟩ = some (.int .i64 ((rd_T24 l0 (ji3)).f1)) ∧ w'.cell? ⟨(ad140.add (((ji3)).toNat * 5)).block, (ad140.add (((ji3)).toNat * 5)).off + 2, none⟩ = some (.int .i64 ((rd_T24 l0 (ji3)).f2)) ∧ w'.cell? ⟨(ad140.add (((ji3)).toNat * 5)).block, (ad140.add (((ji3)).toNat * 5)).off + 3, none⟩ = some (.int .i64 ((rd_T24 l0 (ji3)).f3)) ∧ w'.cell? ⟨(ad140.add (((ji3)).toNat * 5)).block, (ad140.add (((ji3)).toNat * 5)).off + 4, none⟩ = some (.string ((rd_T24 l0 (ji3)).f4)) ∧ w'.cell? (ad140.add ((x3_1).toNat * 5)) = some (.string ((rd_T24 l0 x3_1).f0)) ∧ w'.cell? ⟨(ad140.add ((x3_1).toNat * 5)).block, (ad140.add ((x3_1).toNat * 5)).off + 1, none⟩ = some (.int .i64 ((rd_T24 l0 x3_1).f1)) ∧ w'.cell? ⟨(ad140.add ((x3_1).toNat * 5)).block, (ad140.add ((x3_1).toNat * 5)).off + 2, none⟩ = some (.int .i64 ((rd_T24 l0 x3_1).f2)) ∧ w'.cell? ⟨(ad140.add ((x3_1).toNat * 5)).block, (ad140.add ((x3_1).toNat * 5)).off + 3, none⟩ = some (.int .i64 ((rd_T24 l0 x3_1).f3)) ∧ w'.cell? ⟨(ad140.add ((x3_1).toNat * 5)).block, (ad140.add ((x3_1).toNat * 5)).off + 4, none⟩ = some (.string ((rd_T24 l0 x3_1).f4))) (ds := []) #[false, false, false, false, false, false, false, false, false, false, false] (by kernel_rfl) rfl rfl ⟨((HB.out.cell (World.block_lt_of_cell? w _ hw140_0)).trans hw140_0), ((HB.out.cell (World.block_lt_of_cell? w _ hw140_1)).trans hw140_1), ((HB.out.cell (World.block_lt_of_cell? w _ hw140_2)).trans hw140_2), ((HB.out.cell (World.block_lt_of_cell? w _ hw140_3)).trans hw140_3), ((HB.out.cell (World.block_lt_of_cell? w _ hw140_4)).trans hw140_4), ((HB.out.cell (World.block_lt_of_cell? w _ hw141_0)).trans hw141_0), ((HB.out.cell (World.block_lt_of_cell? w _ hw141_1)).trans hw141_1), ((HB.out.cell (World.block_lt_of_cell? w _ hw141_2)).trans hw141_2), ((HB.out.cell (World.block_lt_of_cell? w _ hw141_3)).trans hw141_3), ((HB.out.cell (World.block_lt_of_cell? w _ hw141_4)).trans hw141_4)⟩ (fun hHeld => ?_); refine with_tabW beadrollref13_Is.tab4 beadrollref13_Is.bits4 (fun HT_ HW_ => ?_)
        generalize wr.drew = w9 at HB hx140_0 hx140_1 hx140_2 hx140_3 hx140_4 hx141_0 hx141_1 hx141_2 hx141_3 hx141_4 hHeld ⊢
        refine pure_ (i := 0) (N := some 10) (v := ?_) (a' := ?_) #[true, false, false, false, false, false, false, false, false, false, false] rfl rfl (any_of HT_.out (by kernel_rfl)) (fun _ _ _ h => h) (Or.inl ⟨by rfl, ?_⟩) ?_ ?_
        rotate_left
        ·intro w'
         go_simp
         with_reducible rfl
        rotate_left
        ·simp only [Act.put, List.setIfInBounds_toArray, List.set_cons_zero, List.set_cons_succ, i64_w, i32_w]
         rfl
        refine pure_ (i := 1) (N := some 11) (v := ?_) (a' := ?_) #[true, true, false, false, false, false, false, false, false, false, false] rfl rfl (any_of HT_.out (by kernel_rfl)) (fun _ _ _ h => h) (Or.inl ⟨by rfl, ?_⟩) ?_ ?_
        rotate_left
        ·intro w'
         go_simp
         with_reducible rfl
        rotate_left
        ·simp only [Act.put, List.setIfInBounds_toArray, List.set_cons_zero, List.set_cons_succ, i64_w, i32_w]
         rfl
        refine pure_ (i := 2) (N := some 12) (v := ?_) (a' := ?_) #[true, true, true, false, false, false, false, false, false, false, false] rfl rfl (any_of HT_.out (by kernel_rfl)) (fun _ _ _ h => h) (Or.inl ⟨by rfl, ?_⟩) ?_ ?_
        rotate_left
        ·intro w'
         go_simp
         with_reducible rfl
        rotate_left
        ·simp only [Act.put, List.setIfInBounds_toArray, List.set_cons_zero, List.set_cons_succ, i64_w, i32_w]
         rfl
        refine pure_ (i := 3) (N := some 13) (v := ?_) (a' := ?_) #[true, true, true, true, false, false, false, false, false, false, false] rfl rfl (any_of HT_.out (by kernel_rfl)) (fun _ _ _ h => h) (Or.inl ⟨by rfl, ?_⟩) ?_ ?_
        rotate_left
        ·intro w'
         go_simp
         with_reducible rfl
        rotate_left
        ·simp only [Act.put, List.setIfInBounds_toArray, List.set_cons_zero, List.set_cons_succ, i64_w, i32_w]
         rfl
        refine pure_ (i := 5) (N := some 15) (v := ?_) (a' := ?_) #[true, true, true, true, false, true, false, false, false, false, false] rfl rfl (any_of HT_.out (by kernel_rfl)) (fun _ _ _ h => h) (Or.inl ⟨by rfl, ?_⟩) ?_ ?_
        rotate_left
        ·intro w'
         go_simp
         with_reducible rfl
        rotate_left
        ·simp only [Act.put, List.setIfInBounds_toArray, List.set_cons_zero, List.set_cons_succ, i64_w, i32_w]
         rfl
        refine pure_ (i := 6) (N := some 16) (v := ?_) (a' := ?_) #[true, true, true, true, false, true, true, false, false, false, false] rfl rfl (any_of HT_.out (by kernel_rfl)) (fun _ _ _ h => h) (Or.inl ⟨by rfl, ?_⟩) ?_ ?_
        rotate_left
        ·intro w'
         go_simp
         with_reducible rfl
        rotate_left
        ·simp only [Act.put, List.setIfInBounds_toArray, List.set_cons_zero, List.set_cons_succ, i64_w, i32_w]
         rfl
        refine pure_ (i := 7) (N := some 17) (v := ?_) (a' := ?_) #[true, true, true, true, false, true, true, true, false, false, false] rfl rfl (any_of HT_.out (by kernel_rfl)) (fun _ _ _ h => h) (Or.inl ⟨by rfl, ?_⟩) ?_ ?_
        rotate_left
        ·intro w'
         go_simp
         with_reducible rfl
        rotate_left
        ·simp only [Act.put, List.setIfInBounds_toArray, List.set_cons_zero, List.set_cons_succ, i64_w, i32_w]
         rfl
        refine take_ (i := 4) (N := some 14) (v := ?_) (a' := ?_) #[true, true, true, true, true, true, true, true, false, false, false] rfl rfl (take_ofW HT_.out HW_.out (by kernel_rfl)) (fun _ _ _ h => h) (Or.inl ⟨by rfl, ?_⟩) hHeld ?_ ?_
        rotate_left
        ·rintro w' ⟨s0, s1, s2, s3, s4, s5, s6, s7, s8, s9⟩
         go_simp
         with_reducible rfl
        rotate_left
        ·simp only [Act.put, List.setIfInBounds_toArray, List.set_cons_zero, List.set_cons_succ, i64_w, i32_w]
         rfl
        refine take_ (i := 8) (N := some 18) (v := ?_) (a' := ?_) #[true, true, true, true, true, true, true, true, true, false, false] rfl rfl (take_ofW HT_.out HW_.out (by kernel_rfl)) (fun _ _ _ h => h) (Or.inl ⟨by rfl, ?_⟩) hHeld ?_ ?_
        rotate_left
        ·rintro w' ⟨s0, s1, s2, s3, s4, s5, s6, s7, s8, s9⟩
         go_simp
         with_reducible rfl
        rotate_left
        ·simp only [Act.put, List.setIfInBounds_toArray, List.set_cons_zero, List.set_cons_succ, i64_w, i32_w]
         rfl
        refine one_ (i := 9) (N := some 19) #[true, true, true, true, true, true, true, true, true, true, false] rfl rfl (one_of HT_.out (by kernel_rfl)) (by decide) (fun K hK => ?_)
        refine goes_ Try.func17 (by kernel_rfl) rfl #[.agg #[.string ((rd_T24 l0 (ji3)).f0), .int .i64 ((rd_T24 l0 (ji3)).f1), .int .i64 ((rd_T24 l0 (ji3)).f2), .int .i64 ((rd_T24 l0 (ji3)).f3), .string ((rd_T24 l0 (ji3)).f4)], .agg #[.string ((rd_T24 l0 x3_1).f0), .int .i64 ((rd_T24 l0 x3_1).f1), .int .i64 ((rd_T24 l0 x3_1).f2), .int .i64 ((rd_T24 l0 x3_1).f3), .string ((rd_T24 l0 x3_1).f4)]] (by rfl) rfl rfl (by (try simp only [List.map_toArray, List.map_cons, List.map_nil]); rfl) ?_
        with_reducible refine (beadrollref11_Compare.calls k1 ((rd_T24 l0 (ji3)).f0) ((rd_T24 l0 (ji3)).f1) ((rd_T24 l0 (ji3)).f2) ((rd_T24 l0 (ji3)).f3) ((rd_T24 l0 (ji3)).f4) ((rd_T24 l0 x3_1).f0) ((rd_T24 l0 x3_1).f1) ((rd_T24 l0 x3_1).f2) ((rd_T24 l0 x3_1).f3) ((rd_T24 l0 x3_1).f4) t142 _ A7.out).mono ?_
        rintro e w10 ⟨rfl, hb⟩
        refine ⟨_, rfl, ?_⟩
        have n0_ := Aside0.mk (below_step (by repeat ((with_reducible (exact HB.out)))) hb)
        clear HB
        have HB := n0_
        clear n0_
        (try clear hb)
        refine hK.out _ _ ⟨((HB.out.cell (World.block_lt_of_cell? w _ hw140_0)).trans hw140_0), ((HB.out.cell (World.block_lt_of_cell? w _ hw140_1)).trans hw140_1), ((HB.out.cell (World.block_lt_of_cell? w _ hw140_2)).trans hw140_2), ((HB.out.cell (World.block_lt_of_cell? w _ hw140_3)).trans hw140_3), ((HB.out.cell (World.block_lt_of_cell? w _ hw140_4)).trans hw140_4), ((HB.out.cell (World.block_lt_of_cell? w _ hw141_0)).trans hw141_0), ((HB.out.cell (World.block_lt_of_cell? w _ hw141_1)).trans hw141_1), ((HB.out.cell (World.block_lt_of_cell? w _ hw141_2)).trans hw141_2), ((HB.out.cell (World.block_lt_of_cell? w _ hw141_3)).trans hw141_3), ((HB.out.cell (World.block_lt_of_cell? w _ hw141_4)).trans hw141_4)⟩ (fun hHeld => ?_)
        clear hK K
        refine norm_ (a' := ?_) ?_ ?_
        rotate_left
        ·show Act.put _ (some 19) _ = _
         simp only [Act.put, List.setIfInBounds_toArray, List.set_cons_zero, List.set_cons_succ, i64_w, i32_w]
         rfl
        refine pure_ (i := 10) (N := some 20) (v := ?_) (a' := ?_) #[true, true, true, true, true, true, true, true, true, true, true] rfl rfl (any_of HT_.out (by kernel_rfl)) (fun _ _ _ h => h) (Or.inl ⟨by rfl, ?_⟩) ?_ ?_
        rotate_left
        ·intro w'
         go_simp
         with_reducible rfl
        rotate_left
        ·simp only [Act.put, List.setIfInBounds_toArray, List.set_cons_zero, List.set_cons_succ, i64_w, i32_w]
         rfl
        refine done_ (done_of HT_.out (by kernel_rfl)) ?_
        (try go_wp2)
        go_roundg k1
        case measure => have := HK1.out; omega
        case rel => exact ⟨(wrap64 (x3_1 + 1)), (by rfl), H', ⟨by have := HK1.out; omega⟩, ⟨by repeat ((with_reducible (exact HB.out)))⟩⟩
       ·rw [if_neg c8] at H
        have c8b0 : (t142 == (-1)) = false := beq_eq_false_iff_ne.mpr c8
        have c8b1 : (t142 != (-1)) = true := bne_iff_ne.mpr c8
        obtain rfl := Option.some.inj H
        (try go_wp2)
        have n0_ := Aside0.mk (below_drew1 HB.out)
        clear HB
        have HB := n0_
        clear n0_
        have p140 : 0 ≤ ((ji3) : Int) := of_decide_eq_true (by (with_reducible assumption))
        have q140 : (ji3) < (l0.length : Int) := of_decide_eq_true (by (with_reducible assumption))
        obtain ⟨ad140, e140, hx140_0, hx140_1, hx140_2, hx140_3, hx140_4⟩ := at_T24 HR0.out (ji3) p140 q140
        have hw140_4 := hx140_4
        have hw140_3 := hx140_3
        have hw140_2 := hx140_2
        have hw140_1 := hx140_1
        have hw140_0 := hx140_0
        cases e140
        replace hx140_0 := (HB.out.cell (World.block_lt_of_cell? w _ hx140_0)).trans hx140_0
        replace hx140_1 := (HB.out.cell (World.block_lt_of_cell? w _ hx140_1)).trans hx140_1
        replace hx140_2 := (HB.out.cell (World.block_lt_of_cell? w _ hx140_2)).trans hx140_2
        replace hx140_3 := (HB.out.cell (World.block_lt_of_cell? w _ hx140_3)).trans hx140_3
        replace hx140_4 := (HB.out.cell (World.block_lt_of_cell? w _ hx140_4)).trans hx140_4
        replace p140 := eq_true p140
        replace q140 := eq_true q140
        have p141 : 0 ≤ (x3_1 : Int) := of_decide_eq_true (by (with_reducible assumption))
        have q141 : x3_1 < (l0.length : Int) := of_decide_eq_true (by (with_reducible assumption))
        obtain ⟨ad141, e141, hx141_0, hx141_1, hx141_2, hx141_3, hx141_4⟩ := at_T24 HR0.out x3_1 p141 q141
        have hw141_4 := hx141_4
        have hw141_3 := hx141_3
        have hw141_2 := hx141_2
        have hw141_1 := hx141_1
        have hw141_0 := hx141_0
        obtain rfl : ad140 = ad141 := (by injection e141)
        replace hx141_0 := (HB.out.cell (World.block_lt_of_cell? w _ hx141_0)).trans hx141_0
        replace hx141_1 := (HB.out.cell (World.block_lt_of_cell? w _ hx141_1)).trans hx141_1
        replace hx141_2 := (HB.out.cell (World.block_lt_of_cell? w _ hx141_2)).trans hx141_2
        replace hx141_3 := (HB.out.cell (World.block_lt_of_cell? w _ hx141_3)).trans hx141_3
        replace hx141_4 := (HB.out.cell (World.block_lt_of_cell? w _ hx141_4)).trans hx141_4
        replace p141 := eq_true p141
        replace q141 := eq_true q141
        refine start_ (n := 11) (S := fun w' => w'.cell? (ad140.add (((ji3)).toNat * 5)) = some (.string ((rd_T24 l0 (ji3)).f0)) ∧ w'.cell? ⟨(ad140.add (((ji3)).toNat * 5)).block, (ad140.add (((ji3)).toNat * 5)).off + 1, none⟩ = some (.int .i64 ((rd_T24 l0 (ji3)).f1)) ∧ w'.cell? ⟨(ad140.add (((ji3)).toNat * 5)).block, (ad140.add (((ji3)).toNat * 5)).off + 2, none⟩ = some (.int .i64 ((rd_T24 l0 (ji3)).f2)) ∧ w'.cell? ⟨(ad140.add (((ji3)).toNat * 5)).block, (ad140.add (((ji3)).toNat * 5)).off + 3, none⟩ = some (.int .i64 ((rd_T24 l0 (ji3)).f3)) ∧ w'.cell? ⟨(ad140.add (((ji3)).toNat * 5)).block, (ad140.add (((ji3)).toNat * 5)).off + 4, none⟩ = some (.string ((rd_T24 l0 (ji3)).f4)) ∧ w'.cell? (ad140.add ((x3_1).toNat * 5)) = some (.string ((rd_T24 l0 x3_1).f0)) ∧ w'.cell? ⟨(ad140.add ((x3_1).toNat * 5)).block, (ad140.add ((x3_1).toNat * 5)).off + 1, none⟩ = some (.int .i64 ((rd_T24 l0 x3_1).f1)) ∧ w'.cell? ⟨(ad140.add ((x3_1).toNat * 5)).block, (ad140.add ((x3_1).toNat * 5)).off + 2, none⟩ = some (.int .i64 ((rd_T24 l0 x3_1).f2)) ∧ w'.cell? ⟨(ad140.add ((x3_1).toNat * 5)).block, (ad140.add ((x3_1).toNat * 5)).off + 3, none⟩ = some (.int .i64 ((rd_T24 l0 x3_1).f3)) ∧ w'.cell? ⟨(ad140.add ((x3_1).toNat * 5)).block, (ad140.add ((x3_1).toNat * 5)).off + 4, none⟩ = some (.string ((rd_T24 l0 x3_1).f4))) (ds := []) #[false, false, false, false, false, false, false, false, false, false, false] (by kernel_rfl) rfl rfl ⟨((HB.out.cell (World.block_lt_of_cell? w _ hw140_0)).trans hw140_0), ((HB.out.cell (World.block_lt_of_cell? w _ hw140_1)).trans hw140_1), ((HB.out.cell (World.block_lt_of_cell? w _ hw140_2)).trans hw140_2), ((HB.out.cell (World.block_lt_of_cell? w _ hw140_3)).trans hw140_3), ((HB.out.cell (World.block_lt_of_cell? w _ hw140_4)).trans hw140_4), ((HB.out.cell (World.block_lt_of_cell? w _ hw141_0)).trans hw141_0), ((HB.out.cell (World.block_lt_of_cell? w _ hw141_1)).trans hw141_1), ((HB.out.cell (World.block_lt_of_cell? w _ hw141_2)).trans hw141_2), ((HB.out.cell (World.block_lt_of_cell? w _ hw141_3)).trans hw141_3), ((HB.out.cell (World.block_lt_of_cell? w _ hw141_4)).trans hw141_4)⟩ (fun hHeld => ?_); refine with_tabW beadrollref13_Is.tab4 beadrollref13_Is.bits4 (fun HT_ HW_ => ?_)
        generalize wr.drew = w11 at HB hx140_0 hx140_1 hx140_2 hx140_3 hx140_4 hx141_0 hx141_1 hx141_2 hx141_3 hx141_4 hHeld ⊢
        refine pure_ (i := 0) (N := some 10) (v := ?_) (a' := ?_) #[true, false, false, false, false, false, false, false, false, false, false] rfl rfl (any_of HT_.out (by kernel_rfl)) (fun _ _ _ h => h) (Or.inl ⟨by rfl, ?_⟩) ?_ ?_
        rotate_left
        ·intro w'
         go_simp
         with_reducible rfl
        rotate_left
        ·simp only [Act.put, List.setIfInBounds_toArray, List.set_cons_zero, List.set_cons_succ, i64_w, i32_w]
         rfl
        refine pure_ (i := 1) (N := some 11) (v := ?_) (a' := ?_) #[true, true, false, false, false, false, false, false, false, false, false] rfl rfl (any_of HT_.out (by kernel_rfl)) (fun _ _ _ h => h) (Or.inl ⟨by rfl, ?_⟩) ?_ ?_
        rotate_left
        ·intro w'
         go_simp
         with_reducible rfl
        rotate_left
        ·simp only [Act.put, List.setIfInBounds_toArray, List.set_cons_zero, List.set_cons_succ, i64_w, i32_w]
         rfl
        refine pure_ (i := 2) (N := some 12) (v := ?_) (a' := ?_) #[true, true, true, false, false, false, false, false, false, false, false] rfl rfl (any_of HT_.out (by kernel_rfl)) (fun _ _ _ h => h) (Or.inl ⟨by rfl, ?_⟩) ?_ ?_
        rotate_left
        ·intro w'
         go_simp
         with_reducible rfl
        rotate_left
        ·simp only [Act.put, List.setIfInBounds_toArray, List.set_cons_zero, List.set_cons_succ, i64_w, i32_w]
         rfl
        refine pure_ (i := 3) (N := some 13) (v := ?_) (a' := ?_) #[true, true, true, true, false, false, false, false, false, false, false] rfl rfl (any_of HT_.out (by kernel_rfl)) (fun _ _ _ h => h) (Or.inl ⟨by rfl, ?_⟩) ?_ ?_
        rotate_left
        ·intro w'
         go_simp
         with_reducible rfl
        rotate_left
        ·simp only [Act.put, List.setIfInBounds_toArray, List.set_cons_zero, List.set_cons_succ, i64_w, i32_w]
         rfl
        refine pure_ (i := 5) (N := some 15) (v := ?_) (a' := ?_) #[true, true, true, true, false, true, false, false, false, false, false] rfl rfl (any_of HT_.out (by kernel_rfl)) (fun _ _ _ h => h) (Or.inl ⟨by rfl, ?_⟩) ?_ ?_
        rotate_left
        ·intro w'
         go_simp
         with_reducible rfl
        rotate_left
        ·simp only [Act.put, List.setIfInBounds_toArray, List.set_cons_zero, List.set_cons_succ, i64_w, i32_w]
         rfl
        refine pure_ (i := 6) (N := some 16) (v := ?_) (a' := ?_) #[true, true, true, true, false, true, true, false, false, false, false] rfl rfl (any_of HT_.out (by kernel_rfl)) (fun _ _ _ h => h) (Or.inl ⟨by rfl, ?_⟩) ?_ ?_
        rotate_left
        ·intro w'
         go_simp
         with_reducible rfl
        rotate_left
        ·simp only [Act.put, List.setIfInBounds_toArray, List.set_cons_zero, List.set_cons_succ, i64_w, i32_w]
         rfl
        refine pure_ (i := 7) (N := some 17) (v := ?_) (a' := ?_) #[true, true, true, true, false, true, true, true, false, false, false] rfl rfl (any_of HT_.out (by kernel_rfl)) (fun _ _ _ h => h) (Or.inl ⟨by rfl, ?_⟩) ?_ ?_
        rotate_left
        ·intro w'
         go_simp
         with_reducible rfl
        rotate_left
        ·simp only [Act.put, List.setIfInBounds_toArray, List.set_cons_zero, List.set_cons_succ, i64_w, i32_w]
         rfl
        refine take_ (i := 4) (N := some 14) (v := ?_) (a' := ?_) #[true, true, true, true, true, true, true, true, false, false, false] rfl rfl (take_ofW HT_.out HW_.out (by kernel_rfl)) (fun _ _ _ h => h) (Or.inl ⟨by rfl, ?_⟩) hHeld ?_ ?_
        rotate_left
        ·rintro w' ⟨s0, s1, s2, s3, s4, s5, s6, s7, s8, s9⟩
         go_simp
         with_reducible rfl
        rotate_left
        ·simp only [Act.put, List.setIfInBounds_toArray, List.set_cons_zero, List.set_cons_succ, i64_w, i32_w]
         rfl
        refine take_ (i := 8) (N := some 18) (v := ?_) (a' := ?_) #[true, true, true, true, true, true, true, true, true, false, false] rfl rfl (take_ofW HT_.out HW_.out (by kernel_rfl)) (fun _ _ _ h => h) (Or.inl ⟨by rfl, ?_⟩) hHeld ?_ ?_
        rotate_left
        ·rintro w' ⟨s0, s1, s2, s3, s4, s5, s6, s7, s8, s9⟩
         go_simp
         with_reducible rfl
        rotate_left
        ·simp only [Act.put, List.setIfInBounds_toArray, List.set_cons_zero, List.set_cons_succ, i64_w, i32_w]
         rfl
        refine one_ (i := 9) (N := some 19) #[true, true, true, true, true, true, true, true, true, true, false] rfl rfl (one_of HT_.out (by kernel_rfl)) (by decide) (fun K hK => ?_)
        refine goes_ Try.func17 (by kernel_rfl) rfl #[.agg #[.string ((rd_T24 l0 (ji3)).f0), .int .i64 ((rd_T24 l0 (ji3)).f1), .int .i64 ((rd_T24 l0 (ji3)).f2), .int .i64 ((rd_T24 l0 (ji3)).f3), .string ((rd_T24 l0 (ji3)).f4)], .agg #[.string ((rd_T24 l0 x3_1).f0), .int .i64 ((rd_T24 l0 x3_1).f1), .int .i64 ((rd_T24 l0 x3_1).f2), .int .i64 ((rd_T24 l0 x3_1).f3), .string ((rd_T24 l0 x3_1).f4)]] (by rfl) rfl rfl (by (try simp only [List.map_toArray, List.map_cons, List.map_nil]); rfl) ?_
        with_reducible refine (beadrollref11_Compare.calls k1 ((rd_T24 l0 (ji3)).f0) ((rd_T24 l0 (ji3)).f1) ((rd_T24 l0 (ji3)).f2) ((rd_T24 l0 (ji3)).f3) ((rd_T24 l0 (ji3)).f4) ((rd_T24 l0 x3_1).f0) ((rd_T24 l0 x3_1).f1) ((rd_T24 l0 x3_1).f2) ((rd_T24 l0 x3_1).f3) ((rd_T24 l0 x3_1).f4) t142 _ A7.out).mono ?_
        rintro e w12 ⟨rfl, hb⟩
        refine ⟨_, rfl, ?_⟩
        have n0_ := Aside0.mk (below_step (by repeat ((with_reducible (exact HB.out)))) hb)
        clear HB
        have HB := n0_
        clear n0_
        (try clear hb)
        refine hK.out _ _ ⟨((HB.out.cell (World.block_lt_of_cell? w _ hw140_0)).trans hw140_0), ((HB.out.cell (World.block_lt_of_cell? w _ hw140_1)).trans hw140_1), ((HB.out.cell (World.block_lt_of_cell? w _ hw140_2)).trans hw140_2), ((HB.out.cell (World.block_lt_of_cell? w _ hw140_3)).trans hw140_3), ((HB.out.cell (World.block_lt_of_cell? w _ hw140_4)).trans hw140_4), ((HB.out.cell (World.block_lt_of_cell? w _ hw141_0)).trans hw141_0), ((HB.out.cell (World.block_lt_of_cell? w _ hw141_1)).trans hw141_1), ((HB.out.cell (World.block_lt_of_cell? w _ hw141_2)).trans hw141_2), ((HB.out.cell (World.block_lt_of_cell? w _ hw141_3)).trans hw141_3), ((HB.out.cell (World.block_lt_of_cell? w _ hw141_4)).trans hw141_4)⟩ (fun hHeld => ?_)
        clear hK K
        refine norm_ (a' := ?_) ?_ ?_
        rotate_left
        ·show Act.put _ (some 19) _ = _
         simp only [Act.put, List.setIfInBounds_toArray, List.set_cons_zero, List.set_cons_succ, i64_w, i32_w]
         rfl
        refine pure_ (i := 10) (N := some 20) (v := ?_) (a' := ?_) #[true, true, true, true, true, true, true, true, true, true, true] rfl rfl (any_of HT_.out (by kernel_rfl)) (fun _ _ _ h => h) (Or.inl ⟨by rfl, ?_⟩) ?_ ?_
        rotate_left
        ·intro w'
         go_simp
         with_reducible rfl
        rotate_left
        ·simp only [Act.put, List.setIfInBounds_toArray, List.set_cons_zero, List.set_cons_succ, i64_w, i32_w]
         rfl
        refine done_ (done_of HT_.out (by kernel_rfl)) ?_
        (try go_wp2)
        go_ret
        exact ⟨by rfl, by repeat ((with_reducible (exact HB.out)))⟩
      ·rw [if_neg c6] at H
       exact absurd H (by simp)
     ·rw [if_neg c5] at H
      exact absurd H (by simp)
    ·rw [if_neg c4] at H
     exact absurd H (by simp)
   ·rw [if_neg c2] at H
    have c2b0 : decide (x3_1 < (l0.length : Int)) = false := decide_eq_false c2
    clear c2
    obtain rfl := Option.some.inj H
    go_wp2
    go_ret
    exact ⟨by rfl, by repeat ((with_reducible (exact HB.out)))⟩
end Go.Proofs.Ytnpiglojamhpiaa.PRr
