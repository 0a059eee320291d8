/- Joined out of this session's own texts: contracts and facts that the claim's row is drawn from, each with its own conditions. -/
import Derived.Test.YtnpiglojamhpiaaJoined4
import Derived.Deep.QuietTactic
import Derived.BigQuiet
import Derived.Deep.Slices
import Derived.Deep.Fields
import Derived.ProofKit
import Derived.Test.YtnpiglojamhpiaaProg
import Derived.Below
import Derived.Deep.Draws
import Derived.Deep.AppendLies
import Derived.Maps.AppendAt
import Derived.OwnWalk
import Derived.Laws.BytesArg
import Derived.Laws.MakeOwn
import Derived.Laws.OwnMore
import Derived.Deep.OwnRows
import Derived.Tactics
import Derived.Lib.ConvBytes
import Derived.Laws.Slices
import Derived.WalkKit
import Derived.KernelRfl
import Derived.RowKit3
import Derived.Deep.LoopGhost
import Derived.WideLaws
import Derived.Deep.DeepCutAuto
import Derived.Deep.CutBlock
import Derived.Deep.RegionHeld3
import Derived.Laws.Rows
import Derived.Lib.AppendStr
import Derived.ArgAppend
import Derived.Laws.IdiomCopy
import Derived.OrdersHeld
import Derived.Laws.BitsLemmas
import Derived.RowKit
namespace Go.Proofs.Ytnpiglojamhpiaa.PRr
open Go.RowKit Go.Proofs.YtnpiglojamhpiaaW.PrintWords Go.Proofs.YtnpiglojamhpiaaW.PrintLast Go.Proofs.YtnpiglojamhpiaaW.PrintMore Go.Proofs.Ytnpiglojamhpiaa.Given Go.Proofs.Ytnpiglojamhpiaa.PRd
attribute [local go_sem] max2_int min2_int max_two min_two max_three min_three max_four min_four   -- for this text's walks alone
set_option linter.unusedVariables false
set_option linter.unusedSimpArgs false
mutual
def beadrollref13_Put.l0 : Nat → List (S24) → List (S24) → Bool → Int → ByteArray → Int → Int → Int → ByteArray → Option ((List (S24)))
 | 0, _, _, _, _, _, _, _, _, _ => none
 | k + 1, x0, x5, x6, x7, x144000, x144001, x144002, x144003, x144004 => if x7 < (x0.length : Int) then (if 0 ≤ x7 then ((beadrollref11_Compare.f k x144000 x144001 x144002 x144003 x144004 ((rd_T24 x0 x7).f0) ((rd_T24 x0 x7).f1) ((rd_T24 x0 x7).f2) ((rd_T24 x0 x7).f3) ((rd_T24 x0 x7).f4)).bind fun t148 => (if t148 ≤ 0 then (beadrollref13_Put.j1 k x0 x5 x6 x7 t148 (!x6) x144000 x144001 x144002 x144003 x144004) else (beadrollref13_Put.j1 k x0 x5 x6 x7 t148 false x144000 x144001 x144002 x144003 x144004))) else (none)) else (if x6 = true then (some x5) else (if x5.length < 2513169434916 then (some (x5 ++ [(⟨x144000, x144001, x144002, x144003, x144004⟩ : S24)])) else (none)))
def beadrollref13_Put.j1 : Nat → List (S24) → List (S24) → Bool → Int → Int → Bool → ByteArray → Int → Int → Int → ByteArray → Option ((List (S24)))
 | 0, _, _, _, _, _, _, _, _, _, _, _ => none
 | k + 1, x0, x5, x6, x7, x8, x26, x144000, x144001, x144002, x144003, x144004 => if x26 = true then (if x5.length < 2513169434916 then ((some (x5 ++ [(⟨x144000, x144001, x144002, x144003, x144004⟩ : S24)] : List (S24))).bind fun y149 => (if x8 = 0 then (beadrollref13_Put.l0 k x0 y149 true (wrap64 (x7 + 1)) x144000 x144001 x144002 x144003 x144004) else (if 0 ≤ x7 then (if x7 < (x0.length : Int) then (if y149.length < 2513169434916 then (beadrollref13_Put.l0 k x0 (y149 ++ [(⟨(rd_T24 x0 x7).f0, (rd_T24 x0 x7).f1, (rd_T24 x0 x7).f2, (rd_T24 x0 x7).f3, (rd_T24 x0 x7).f4⟩ : S24)]) true (wrap64 (x7 + 1)) x144000 x144001 x144002 x144003 x144004) else (none)) else (none)) else (none)))) else (none)) else (if x8 = 0 then (beadrollref13_Put.l0 k x0 x5 x6 (wrap64 (x7 + 1)) x144000 x144001 x144002 x144003 x144004) else (if 0 ≤ x7 then (if x7 < (x0.length : Int) then (if x5.length < 2513169434916 then (beadrollref13_Put.l0 k x0 (x5 ++ [(⟨(rd_T24 x0 x7).f0, (rd_T24 x0 x7).f1, (rd_T24 x0 x7).f2, (rd_T24 x0 x7).f3, (rd_T24 x0 x7).f4⟩ : S24)]) x6 (wrap64 (x7 + 1)) x144000 x144001 x144002 x144003 x144004) else (none)) else (none)) else (none)))
end
def beadrollref13_Put.f (k : Nat) (l0 : List (S24)) (a1_0 : ByteArray) (a1_1 : Int) (a1_2 : Int) (a1_3 : Int) (a1_4 : ByteArray) : Option ((List (S24))) := beadrollref13_Put.l0 k l0 ([] : List (S24)) false 0 a1_0 a1_1 a1_2 a1_3 a1_4
set_option maxHeartbeats 8000000 in
set_option maxRecDepth 100000 in
theorem beadrollref13_Put.calls (k : Nat) (A0 : Option Addr) (c0 : Nat) (l0 : List (S24)) (a1_0 : ByteArray) (a1_1 : Int) (a1_2 : Int) (a1_3 : Int) (a1_4 : ByteArray) (r : List (S24)) (w : World) (hr0 : Kd.C k24 w A0 l0.length l0) (hc0 : l0.length ≤ c0) (h : beadrollref13_Put.f k l0 a1_0 a1_1 a1_2 a1_3 a1_4 = some r) :
  Calls Try.prog 11 #[.slice A0 l0.length c0, .agg #[.string a1_0, .int .i64 a1_1, .int .i64 a1_2, .int .i64 a1_3, .string a1_4]] w fun e w' => ∃ v0_ : Value, e = .returned (v0_) ∧ Kd.R k24 24 w' w.heap.size (fun _ => True) v0_ r ∧ Below w.heap.size w w' := by
 have hu24 := Try.underlying24
 have HR0 := Aside0.mk hr0
 have HC0 := Aside0.mk hc0
 clear hr0 hc0
 have HB := Aside0.mk (Below.refl w.heap.size w)
 have H : (beadrollref13_Put.l0 k l0 ([] : List (S24)) false 0 a1_0 a1_1 a1_2 a1_3 a1_4) = some r := h
 clear h
 have H' := Aside0.mk H
 clear H
 go_enter Try.func11, Try.ntmps11
 go_wp2_with ((((with_reducible refine gate_dst (N := 3) rfl ?_); refine box_event ?hg (N := 3) ?hd (cs := #[.string a1_0, .int .i64 a1_1, .int .i64 a1_2, .int .i64 a1_3, .string a1_4]) (t := 24) ?hr ?_; (case hd => rfl); (case hg => rfl); (case hr => (go_simp; done)); intro gb143 hg w3 hbox hb; have n0_ := Aside0.mk (below_step (by repeat ((with_reducible (exact HB.out)))) hb); have n1_ := Aside0.mk (hbox); have n2_ := Aside0.mk ((by rw [hg]; exact (below_size (by repeat ((with_reducible (exact HB.out))))) : w.heap.size ≤ gb143)); have n3_ := Aside0.mk ((by rw [hg]; exact (below_size (by repeat ((with_reducible (exact HB.out))))) : w.heap.size ≤ gb143)); clear HB; have HB := n0_; have BK143 := n1_; have GW143 := n2_; have GE143 := n3_; clear n0_ n1_ n2_ n3_; clear hb hbox hg)))
 go_loopg [5, 6, 7] k (fun kq v5 v6 v7 w' => ∃ (x5_1 : List (S24)) (x6_1 : Bool) (x7_1 : Int), v6 = .bool x6_1 ∧ v7 = .int .i64 x7_1 ∧ Aside0 (beadrollref13_Put.l0 kq l0 x5_1 x6_1 x7_1 a1_0 a1_1 a1_2 a1_3 a1_4 = some r) ∧ Aside0 (kq ≤ k) ∧ Aside0 (Kd.R k24 24 w' w.heap.size (fun k_ => k_ ≠ gb143) v5 x5_1) ∧ Aside0 (w'.heap[gb143]? = some (.cells #[.string a1_0, .int .i64 a1_1, .int .i64 a1_2, .int .i64 a1_3, .string a1_4] 24 (0, 0))) ∧ Aside0 (Below w.heap.size w w'))
 case atStart => exact ⟨(([] : List (S24))), (false), (0), (by rfl), (by rfl), H', ⟨Nat.le_refl _⟩, ⟨by (exact Kd.R_nil _ _ _ _ _)⟩, ⟨by (with_reducible repeat ((refine blk_drewN ?_ _))); exact BK143.out⟩, ⟨by repeat ((with_reducible (exact HB.out)))⟩⟩
 case round =>
  clear H'
  obtain ⟨x5_1, x6_1, x7_1, rfl, rfl, HA, HK1, HO_5, BK143, HB⟩ := hrel
  cases gk with
  | zero => exact absurd HA.out (by simp [beadrollref13_Put.l0])
  | succ k1 =>
   have H := HA.out
   clear HA
   simp only [beadrollref13_Put.l0] at H
   by_cases c4 : x7_1 < (l0.length : Int)
   ·rw [if_pos c4] at H
    have c4b0 : decide (x7_1 < (l0.length : Int)) = true := decide_eq_true c4
    clear c4
    by_cases c5 : 0 ≤ x7_1
    ·rw [if_pos c5] at H
     have c5b0 : decide (0 ≤ x7_1) = true := decide_eq_true c5
     clear c5
     replace H := Option.bind_eq_some_iff.mp H
     obtain ⟨t148, A60, H⟩ := H
     replace H : (if t148 ≤ 0 then (beadrollref13_Put.j1 k1 l0 x5_1 x6_1 x7_1 t148 (!x6_1) a1_0 a1_1 a1_2 a1_3 a1_4) else (beadrollref13_Put.j1 k1 l0 x5_1 x6_1 x7_1 t148 false a1_0 a1_1 a1_2 a1_3 a1_4)) = some r := H
     have A6 := Aside0.mk A60
     clear A60
     have HC7 := Aside0.mk H
     clear H
     (try go_wp2)
     have n0_ := Aside0.mk (Kd.R_drew HO_5.out)
     have n1_ := Aside0.mk (blk_drew BK143.out)
     have n2_ := Aside0.mk (below_drew1 HB.out)
     clear HO_5
     clear BK143
     clear HB
     have HO_5 := n0_
     have BK143 := n1_
     have HB := n2_
     clear n0_ n1_ n2_
     have p147 : 0 ≤ (x7_1 : Int) := of_decide_eq_true (by (with_reducible assumption))
     have q147 : x7_1 < (l0.length : Int) := of_decide_eq_true (by (with_reducible assumption))
     obtain ⟨ad147, e147, hx147_0, hx147_1, hx147_2, hx147_3, hx147_4⟩ := at_T24 HR0.out x7_1 p147 q147
     have hw147_4 := hx147_4
     have hw147_3 := hx147_3
     have hw147_2 := hx147_2
     have hw147_1 := hx147_1
     have hw147_0 := hx147_0
     cases e147
     replace hx147_0 := (HB.out.cell (World.block_lt_of_cell? w _ hx147_0)).trans hx147_0
     replace hx147_1 := (HB.out.cell (World.block_lt_of_cell? w _ hx147_1)).trans hx147_1
     replace hx147_2 := (HB.out.cell (World.block_lt_of_cell? w _ hx147_2)).trans hx147_2
     replace hx147_3 := (HB.out.cell (World.block_lt_of_cell? w _ hx147_3)).trans hx147_3
     replace hx147_4 := (HB.out.cell (World.block_lt_of_cell? w _ hx147_4)).trans hx147_4
     replace p147 := eq_true p147
     replace q147 := eq_true q147
     refine start_ (n := 7) (S := fun w' => w'.cell? ⟨gb143, 0, none⟩ = some (.string a1_0) ∧ w'.cell? ⟨gb143, 1, none⟩ = some (.int .i64 a1_1) ∧ w'.cell? ⟨gb143, 2, none⟩ = some (.int .i64 a1_2) ∧ w'.cell? ⟨gb143, 3, none⟩ = some (.int .i64 a1_3) ∧ w'.cell? ⟨gb143, 4, none⟩ = some (.string a1_4) ∧ w'.cell? (ad147.add ((x7_1).toNat * 5)) = some (.string ((rd_T24 l0 x7_1).f0)) ∧ w'.cell? ⟨(ad147.add ((x7_1).toNat * 5)).block, (ad147.add ((x7_1).toNat * 5)).off + 1, none⟩ = some (.int .i64 ((rd_T24 l0 x7_1).f1)) ∧ w'.cell? ⟨(ad147.add ((x7_1).toNat * 5)).block, (ad147.add ((x7_1).toNat * 5)).off + 2, none⟩ = some (.int .i64 ((rd_T24 l0 x7_1).f2)) ∧ w'.cell? ⟨(ad147.add ((x7_1).toNat * 5)).block, (ad147.add ((x7_1).toNat * 5)).off + 3, none⟩ = some (.int .i64 ((rd_T24 l0 x7_1).f3)) ∧ w'.cell? ⟨(ad147.add ((x7_1).toNat * 5)).block, (ad147.add ((x7_1).toNat * 5)).off + 4, none⟩ = some (.string ((rd_T24 l0 x7_1).f4))) (ds := []) #[false, false, false, false, false, false, false] (by kernel_rfl) rfl rfl ⟨(blk_cell BK143.out 0).trans rfl, (blk_cell BK143.out 1).trans rfl, (blk_cell BK143.out 2).trans rfl, (blk_cell BK143.out 3).trans rfl, (blk_cell BK143.out 4).trans rfl, ((HB.out.cell (World.block_lt_of_cell? w _ hw147_0)).trans hw147_0), ((HB.out.cell (World.block_lt_of_cell? w _ hw147_1)).trans hw147_1), ((HB.out.cell (World.block_lt_of_cell? w _ hw147_2)).trans hw147_2), ((HB.out.cell (World.block_lt_of_cell? w _ hw147_3)).trans hw147_3), ((HB.out.cell (World.block_lt_of_cell? w _ hw147_4)).trans hw147_4)⟩ (fun hHeld => ?_)
     generalize wr.drew = w8 at HO_5 BK143 HB hx147_0 hx147_1 hx147_2 hx147_3 hx147_4 hHeld ⊢
     refine pure_ (i := 1) (N := some 16) (v := ?_) (a' := ?_) #[false, true, false, false, false, false, false] rfl rfl (by kernel_rfl) (fun _ _ _ h => h) (Or.inl ⟨by rfl, ?_⟩) ?_ ?_
     rotate_left
     ·intro w'
      go_simp
      with_reducible rfl
     rotate_left
     ·simp only [Act.put, List.setIfInBounds_toArray, List.set_cons_zero, List.set_cons_succ, i64_w, i32_w]
      rfl
     refine pure_ (i := 2) (N := some 17) (v := ?_) (a' := ?_) #[false, true, true, false, false, false, false] rfl rfl (by kernel_rfl) (fun _ _ _ h => h) (Or.inl ⟨by rfl, ?_⟩) ?_ ?_
     rotate_left
     ·intro w'
      go_simp
      with_reducible rfl
     rotate_left
     ·simp only [Act.put, List.setIfInBounds_toArray, List.set_cons_zero, List.set_cons_succ, i64_w, i32_w]
      rfl
     refine pure_ (i := 3) (N := some 18) (v := ?_) (a' := ?_) #[false, true, true, true, false, false, false] rfl rfl (by kernel_rfl) (fun _ _ _ h => h) (Or.inl ⟨by rfl, ?_⟩) ?_ ?_
     rotate_left
     ·intro w'
      go_simp
      with_reducible rfl
     rotate_left
     ·simp only [Act.put, List.setIfInBounds_toArray, List.set_cons_zero, List.set_cons_succ, i64_w, i32_w]
      rfl
     refine take_ (i := 0) (N := some 15) (v := ?_) (a' := ?_) #[true, true, true, true, false, false, false] rfl rfl (by kernel_rfl) (fun _ _ _ h => h) (Or.inl ⟨by rfl, ?_⟩) hHeld ?_ ?_
     rotate_left
     ·rintro w' ⟨s0, s1, s2, s3, s4, s5, s6, s7, s8, s9⟩
      go_simp
      with_reducible rfl
     rotate_left
     ·simp only [Act.put, List.setIfInBounds_toArray, List.set_cons_zero, List.set_cons_succ, i64_w, i32_w]
      rfl
     refine take_ (i := 4) (N := some 19) (v := ?_) (a' := ?_) #[true, true, true, true, true, false, false] rfl rfl (by kernel_rfl) (fun _ _ _ h => h) (Or.inl ⟨by rfl, ?_⟩) hHeld ?_ ?_
     rotate_left
     ·rintro w' ⟨s0, s1, s2, s3, s4, s5, s6, s7, s8, s9⟩
      go_simp
      with_reducible rfl
     rotate_left
     ·simp only [Act.put, List.setIfInBounds_toArray, List.set_cons_zero, List.set_cons_succ, i64_w, i32_w]
      rfl
     refine one_ (i := 5) (N := some 20) #[true, true, true, true, true, true, false] rfl rfl (by kernel_rfl) (by decide) (fun K hK => ?_)
     refine goes_ Try.func17 (by kernel_rfl) rfl #[.agg #[.string a1_0, .int .i64 a1_1, .int .i64 a1_2, .int .i64 a1_3, .string a1_4], .agg #[.string ((rd_T24 l0 x7_1).f0), .int .i64 ((rd_T24 l0 x7_1).f1), .int .i64 ((rd_T24 l0 x7_1).f2), .int .i64 ((rd_T24 l0 x7_1).f3), .string ((rd_T24 l0 x7_1).f4)]] (by rfl) rfl rfl (by (try simp only [List.map_toArray, List.map_cons, List.map_nil]); rfl) ?_
     with_reducible refine (beadrollref11_Compare.calls k1 a1_0 a1_1 a1_2 a1_3 a1_4 ((rd_T24 l0 x7_1).f0) ((rd_T24 l0 x7_1).f1) ((rd_T24 l0 x7_1).f2) ((rd_T24 l0 x7_1).f3) ((rd_T24 l0 x7_1).f4) t148 _ A6.out).mono ?_
     rintro e w9 ⟨rfl, hb⟩
     refine ⟨_, rfl, ?_⟩
     have n0_ := Aside0.mk (Kd.R_below (by (with_reducible repeat ((apply Kd.R_alloc))); exact HO_5.out) hb)
     have n1_ := Aside0.mk (blk_below (g := gb143) (o := .cells #[.string a1_0, .int .i64 a1_1, .int .i64 a1_2, .int .i64 a1_3, .string a1_4] 24 (0, 0)) (by (with_reducible repeat ((refine blk_drewN ?_ _))); exact BK143.out) hb)
     have n2_ := Aside0.mk (below_step (by repeat ((with_reducible (exact HB.out)))) hb)
     clear HO_5
     clear BK143
     clear HB
     have HO_5 := n0_
     have BK143 := n1_
     have HB := n2_
     clear n0_ n1_ n2_
     (try clear hb)
     refine hK.out _ _ ⟨(blk_cell BK143.out 0).trans rfl, (blk_cell BK143.out 1).trans rfl, (blk_cell BK143.out 2).trans rfl, (blk_cell BK143.out 3).trans rfl, (blk_cell BK143.out 4).trans rfl, ((HB.out.cell (World.block_lt_of_cell? w _ hw147_0)).trans hw147_0), ((HB.out.cell (World.block_lt_of_cell? w _ hw147_1)).trans hw147_1), ((HB.out.cell (World.block_lt_of_cell? w _ hw147_2)).trans hw147_2), ((HB.out.cell (World.block_lt_of_cell? w _ hw147_3)).trans hw147_3), ((HB.out.cell (World.block_lt_of_cell? w _ hw147_4)).trans hw147_4)⟩ (fun hHeld => ?_)
     clear hK K
     refine norm_ (a' := ?_) ?_ ?_
     rotate_left
     ·show Act.put _ (some 20) _ = _
      simp only [Act.put, List.setIfInBounds_toArray, List.set_cons_zero, List.set_cons_succ, i64_w, i32_w]
      rfl
     refine pure_ (i := 6) (N := some 8) (v := ?_) (a' := ?_) #[true, true, true, true, true, true, true] rfl rfl (by kernel_rfl) (fun _ _ _ h => h) (Or.inl ⟨by rfl, ?_⟩) ?_ ?_
     rotate_left
     ·intro w'
      go_simp
      with_reducible rfl
     rotate_left
     ·simp only [Act.put, List.setIfInBounds_toArray, List.set_cons_zero, List.set_cons_succ, i64_w, i32_w]
      rfl
     refine done_ (by kernel_rfl) ?_
     go_upto_region 7 with (fail)
     go_cut [26] (fun v26 wc => ∃ (kq : Nat) (x26_6 : Bool), v26 = .bool x26_6 ∧ Aside0 (beadrollref13_Put.j1 kq l0 x5_1 x6_1 x7_1 t148 x26_6 a1_0 a1_1 a1_2 a1_3 a1_4 = some r) ∧ Aside0 (kq ≤ k1) ∧ Aside0 (Kd.R k24 24 wc w.heap.size (fun k_ => k_ ≠ gb143) u5 x5_1) ∧ Aside0 (wc.heap[gb143]? = some (.cells #[.string a1_0, .int .i64 a1_1, .int .i64 a1_2, .int .i64 a1_3, .string a1_4] 24 (0, 0))) ∧ Aside0 (Below w.heap.size w wc))
     case first =>
      have H := HC7.out
      clear HC7
      by_cases c10 : t148 ≤ 0
      ·rw [if_pos c10] at H
       have c10b0 : decide (t148 ≤ 0) = true := decide_eq_true c10
       clear c10
       (skip)
       have H' := Aside0.mk H
       clear H
       go_wp2
       go_meet
       case rel => exact ⟨_, (!x6_1), (by rfl), H', ⟨by have := HK1.out; omega⟩, ⟨by (with_reducible repeat ((apply Kd.R_alloc))); exact HO_5.out⟩, ⟨by (with_reducible repeat ((refine blk_drewN ?_ _))); exact BK143.out⟩, ⟨by repeat ((with_reducible (exact HB.out)))⟩⟩
      ·rw [if_neg c10] at H
       have c10b0 : decide (t148 ≤ 0) = false := decide_eq_false c10
       clear c10
       (skip)
       have H' := Aside0.mk H
       clear H
       go_wp2
       go_meet
       case rel => exact ⟨_, (false), (by rfl), H', ⟨by have := HK1.out; omega⟩, ⟨by (with_reducible repeat ((apply Kd.R_alloc))); exact HO_5.out⟩, ⟨by (with_reducible repeat ((refine blk_drewN ?_ _))); exact BK143.out⟩, ⟨by repeat ((with_reducible (exact HB.out)))⟩⟩
     case rest =>
      clear HC7
      (try clear c4b0)
      (try clear c5b0)
      (try clear hx147_0)
      (try clear hx147_1)
      (try clear hx147_2)
      (try clear hx147_3)
      (try clear hx147_4)
      (try clear p147)
      (try clear q147)
      obtain ⟨kq, x26_6, rfl, HA, HJ6, HO_5, BK143, HB⟩ := hcut
      cases kq with
      | zero => exact absurd HA.out (by simp [beadrollref13_Put.j1])
      | succ kj6 =>
       have H := HA.out
       clear HA
       simp only [beadrollref13_Put.j1] at H
       by_cases c11 : x26_6 = true
       ·subst c11
        have H1 : (if x5_1.length < 2513169434916 then ((some (x5_1 ++ [(⟨a1_0, a1_1, a1_2, a1_3, a1_4⟩ : S24)] : List (S24))).bind fun y149 => (if t148 = 0 then (beadrollref13_Put.l0 kj6 l0 y149 true (wrap64 (x7_1 + 1)) a1_0 a1_1 a1_2 a1_3 a1_4) else (if 0 ≤ x7_1 then (if x7_1 < (l0.length : Int) then (if y149.length < 2513169434916 then (beadrollref13_Put.l0 kj6 l0 (y149 ++ [(⟨(rd_T24 l0 x7_1).f0, (rd_T24 l0 x7_1).f1, (rd_T24 l0 x7_1).f2, (rd_T24 l0 x7_1).f3, (rd_T24 l0 x7_1).f4⟩ : S24)]) true (wrap64 (x7_1 + 1)) a1_0 a1_1 a1_2 a1_3 a1_4) else (none)) else (none)) else (none)))) else (none)) = some r := by rw [if_pos rfl] at H; exact H
        clear H
        have H := H1
        clear H1
        by_cases c12 : x5_1.length < 2513169434916
        ·rw [if_pos c12] at H
         have LMc12 := Aside0.mk c12
         clear c12
         obtain ⟨y149, hy149⟩ : ∃ y_ : List (S24), y_ = (x5_1 ++ [(⟨a1_0, a1_1, a1_2, a1_3, a1_4⟩ : S24)]) := ⟨_, rfl⟩
         replace H : (if t148 = 0 then (beadrollref13_Put.l0 kj6 l0 y149 true (wrap64 (x7_1 + 1)) a1_0 a1_1 a1_2 a1_3 a1_4) else (if 0 ≤ x7_1 then (if x7_1 < (l0.length : Int) then (if y149.length < 2513169434916 then (beadrollref13_Put.l0 kj6 l0 (y149 ++ [(⟨(rd_T24 l0 x7_1).f0, (rd_T24 l0 x7_1).f1, (rd_T24 l0 x7_1).f2, (rd_T24 l0 x7_1).f3, (rd_T24 l0 x7_1).f4⟩ : S24)]) true (wrap64 (x7_1 + 1)) a1_0 a1_1 a1_2 a1_3 a1_4) else (none)) else (none)) else (none))) = some r := by (have H2_ := (Option.bind_some _ _).symm.trans H; rw [hy149]; with_reducible exact H2_)
         have Ny149 := Aside0.mk hy149
         clear hy149
         by_cases c13 : t148 = 0
         ·rw [if_pos c13] at H
          have c13b0 : (t148 == 0) = true := beq_iff_eq.mpr c13
          have c13b1 : (t148 != 0) = false := bne_eq_false_iff_eq.mpr c13
          clear c13
          have H' := Aside0.mk H
          clear H
          have hcz14_0 : wc.cell? ⟨gb143, 0, none⟩ = some (.string a1_0) := (blk_cell BK143.out 0).trans rfl
          have hcz14_1 : wc.cell? ⟨gb143, 1, none⟩ = some (.int .i64 a1_1) := (blk_cell BK143.out 1).trans rfl
          have hcz14_2 : wc.cell? ⟨gb143, 2, none⟩ = some (.int .i64 a1_2) := (blk_cell BK143.out 2).trans rfl
          have hcz14_3 : wc.cell? ⟨gb143, 3, none⟩ = some (.int .i64 a1_3) := (blk_cell BK143.out 3).trans rfl
          have hcz14_4 : wc.cell? ⟨gb143, 4, none⟩ = some (.string a1_4) := (blk_cell BK143.out 4).trans rfl
          have hfz14_0 := blk_frozen BK143.out 0
          have hfz14_1 := blk_frozen BK143.out 1
          have hfz14_2 := blk_frozen BK143.out 2
          have hfz14_3 := blk_frozen BK143.out 3
          have hfz14_4 := blk_frozen BK143.out 4
          go_wp2_with ((((with_reducible refine gate_builtin (b := .append) (xs := #[.tmp 27, .tmp 29]) rfl ?_); at_builtin; refine Kd.R_append k24 (w0 := w) w.heap.size rfl (.tmp 27) (.tmp 29) 22 24 (.agg #[(.string ⟨#[]⟩), (.int .i64 0), (.int .i64 0), (.int .i64 0), (.string ⟨#[]⟩)]) 56 rfl Try.underlying22 info24 rfl (by decide) (by omega) u5 x5_1 (⟨a1_0, a1_1, a1_2, a1_3, a1_4⟩ : S24) [.string a1_0, .int .i64 a1_1, .int .i64 a1_2, .int .i64 a1_3, .string a1_4] (fun k_ => k_ ≠ gb143) (fun _ => False) rfl rfl ?aP (fun _ hk => hk.elim) ?aF ?aO ?aB ?aS ?aL ?_; (case aP => exact k24_mkM _ _ _ (⟨a1_0, a1_1, a1_2, a1_3, a1_4⟩ : S24)); (case aB => exact (by repeat ((with_reducible (exact HB.out))))); (case aF => exact (fun k_ hk => Kd.freshB (g := gb143) (o := .cells #[.string a1_0, .int .i64 a1_1, .int .i64 a1_2, .int .i64 a1_3, .string a1_4] 24 (0, 0)) (by (with_reducible repeat ((refine blk_drewN ?_ _))); exact BK143.out) k_ hk)); (case aO => exact (by (with_reducible repeat ((apply Kd.R_alloc))); exact HO_5.out)); (case aS => exact (below_size (by repeat ((with_reducible (exact HB.out)))))); (case aL => have := LMc12.out; omega); intro v150 w15 ho hb hg hat; rw [← Ny149.out] at ho; have n0_ := Aside0.mk (blk_grown (g := gb143) (o := .cells #[.string a1_0, .int .i64 a1_1, .int .i64 a1_2, .int .i64 a1_3, .string a1_4] 24 (0, 0)) (by (with_reducible repeat ((refine blk_drewN ?_ _))); exact BK143.out) hg (Kd.R_away HO_5.out (fun _ hk => hk))); have n1_ := Aside0.mk (hb); have n2_ := Aside0.mk (ho); clear BK143; clear HB; clear HO_5; have BK143 := n0_; have HB := n1_; have HO151 := n2_; clear n0_ n1_ n2_; clear ho hb hg hat)))
          go_roundg kj6
          case measure => have := HK1.out; have := HJ6.out; omega
          case rel => exact ⟨(y149), (true), (wrap64 (x7_1 + 1)), (by rfl), (by rfl), H', ⟨by have := HK1.out; have := HJ6.out; omega⟩, ⟨by (with_reducible repeat ((apply Kd.R_alloc))); exact HO151.out⟩, ⟨by (with_reducible repeat ((refine blk_drewN ?_ _))); exact BK143.out⟩, ⟨by repeat ((with_reducible (exact HB.out)))⟩⟩
         ·rw [if_neg c13] at H
          have c13b0 : (t148 == 0) = false := beq_eq_false_iff_ne.mpr c13
          have c13b1 : (t148 != 0) = true := bne_iff_ne.mpr c13
          by_cases c16 : 0 ≤ x7_1
          ·rw [if_pos c16] at H
           have c16b0 : decide (0 ≤ x7_1) = true := decide_eq_true c16
           clear c16
           by_cases c17 : x7_1 < (l0.length : Int)
           ·rw [if_pos c17] at H
            have c17b0 : decide (x7_1 < (l0.length : Int)) = true := decide_eq_true c17
            clear c17
            by_cases c18 : y149.length < 2513169434916
            ·rw [if_pos c18] at H
             have LMc18 := Aside0.mk c18
             clear c18
             obtain ⟨y153, hy153⟩ : ∃ y_ : List (S24), y_ = (y149 ++ [(⟨(rd_T24 l0 x7_1).f0, (rd_T24 l0 x7_1).f1, (rd_T24 l0 x7_1).f2, (rd_T24 l0 x7_1).f3, (rd_T24 l0 x7_1).f4⟩ : S24)]) := ⟨_, rfl⟩
             replace H : (beadrollref13_Put.l0 kj6 l0 y153 true (wrap64 (x7_1 + 1)) a1_0 a1_1 a1_2 a1_3 a1_4) = some r := by (rw [hy153]; with_reducible exact H)
             have Ny153 := Aside0.mk hy153
             clear hy153
             have H' := Aside0.mk H
             clear H
             have hcz19_0 : wc.cell? ⟨gb143, 0, none⟩ = some (.string a1_0) := (blk_cell BK143.out 0).trans rfl
             have hcz19_1 : wc.cell? ⟨gb143, 1, none⟩ = some (.int .i64 a1_1) := (blk_cell BK143.out 1).trans rfl
             have hcz19_2 : wc.cell? ⟨gb143, 2, none⟩ = some (.int .i64 a1_2) := (blk_cell BK143.out 2).trans rfl
             have hcz19_3 : wc.cell? ⟨gb143, 3, none⟩ = some (.int .i64 a1_3) := (blk_cell BK143.out 3).trans rfl
             have hcz19_4 : wc.cell? ⟨gb143, 4, none⟩ = some (.string a1_4) := (blk_cell BK143.out 4).trans rfl
             have hfz19_0 := blk_frozen BK143.out 0
             have hfz19_1 := blk_frozen BK143.out 1
             have hfz19_2 := blk_frozen BK143.out 2
             have hfz19_3 := blk_frozen BK143.out 3
             have hfz19_4 := blk_frozen BK143.out 4
             go_wp2_with (first | ((with_reducible refine gate_builtin (b := .append) (xs := #[.tmp 27, .tmp 29]) rfl ?_); at_builtin; refine Kd.R_append k24 (w0 := w) w.heap.size rfl (.tmp 27) (.tmp 29) 22 24 (.agg #[(.string ⟨#[]⟩), (.int .i64 0), (.int .i64 0), (.int .i64 0), (.string ⟨#[]⟩)]) 56 rfl Try.underlying22 info24 rfl (by decide) (by omega) u5 x5_1 (⟨a1_0, a1_1, a1_2, a1_3, a1_4⟩ : S24) [.string a1_0, .int .i64 a1_1, .int .i64 a1_2, .int .i64 a1_3, .string a1_4] (fun k_ => k_ ≠ gb143) (fun _ => False) rfl rfl ?aP (fun _ hk => hk.elim) ?aF ?aO ?aB ?aS ?aL ?_; (case aP => exact k24_mkM _ _ _ (⟨a1_0, a1_1, a1_2, a1_3, a1_4⟩ : S24)); (case aB => exact (by repeat ((with_reducible (exact HB.out))))); (case aF => exact (fun k_ hk => Kd.freshB (g := gb143) (o := .cells #[.string a1_0, .int .i64 a1_1, .int .i64 a1_2, .int .i64 a1_3, .string a1_4] 24 (0, 0)) (by (with_reducible repeat ((refine blk_drewN ?_ _))); exact BK143.out) k_ hk)); (case aO => exact (by (with_reducible repeat ((apply Kd.R_alloc))); exact HO_5.out)); (case aS => exact (below_size (by repeat ((with_reducible (exact HB.out)))))); (case aL => have := LMc12.out; omega); intro v150 w20 ho hb hg hat; rw [← Ny149.out] at ho; have n0_ := Aside0.mk (blk_grown (g := gb143) (o := .cells #[.string a1_0, .int .i64 a1_1, .int .i64 a1_2, .int .i64 a1_3, .string a1_4] 24 (0, 0)) (by (with_reducible repeat ((refine blk_drewN ?_ _))); exact BK143.out) hg (Kd.R_away HO_5.out (fun _ hk => hk))); have n1_ := Aside0.mk (hb); have n2_ := Aside0.mk (ho); clear BK143; clear HB; clear HO_5; have BK143 := n0_; have HB := n1_; have HO151 := n2_; clear n0_ n1_ n2_; clear ho hb hg hat; have p152 : 0 ≤ (x7_1 : Int) := of_decide_eq_true (by (with_reducible assumption)); have q152 : x7_1 < (l0.length : Int) := of_decide_eq_true (by (with_reducible assumption)); obtain ⟨ad152, e152, hx152_0, hx152_1, hx152_2, hx152_3, hx152_4⟩ := at_T24 HR0.out x7_1 p152 q152; obtain rfl : ad147 = ad152 := (by injection e152); replace hx152_0 := (HB.out.cell (World.block_lt_of_cell? w _ hx152_0)).trans hx152_0; replace hx152_1 := (HB.out.cell (World.block_lt_of_cell? w _ hx152_1)).trans hx152_1; replace hx152_2 := (HB.out.cell (World.block_lt_of_cell? w _ hx152_2)).trans hx152_2; replace hx152_3 := (HB.out.cell (World.block_lt_of_cell? w _ hx152_3)).trans hx152_3; replace hx152_4 := (HB.out.cell (World.block_lt_of_cell? w _ hx152_4)).trans hx152_4; replace p152 := eq_true p152; replace q152 := eq_true q152) | ((with_reducible refine gate_builtin (b := .append) (xs := #[.tmp 33, .tmp 38]) rfl ?_); at_builtin; refine Kd.R_append k24 (w0 := w) w.heap.size rfl (.tmp 33) (.tmp 38) 22 24 (.agg #[(.string ⟨#[]⟩), (.int .i64 0), (.int .i64 0), (.int .i64 0), (.string ⟨#[]⟩)]) 56 rfl Try.underlying22 info24 rfl (by decide) (by omega) v150 y149 (⟨(rd_T24 l0 x7_1).f0, (rd_T24 l0 x7_1).f1, (rd_T24 l0 x7_1).f2, (rd_T24 l0 x7_1).f3, (rd_T24 l0 x7_1).f4⟩ : S24) [.string ((rd_T24 l0 x7_1).f0), .int .i64 ((rd_T24 l0 x7_1).f1), .int .i64 ((rd_T24 l0 x7_1).f2), .int .i64 ((rd_T24 l0 x7_1).f3), .string ((rd_T24 l0 x7_1).f4)] (fun k_ => k_ ≠ gb143) (fun _ => False) rfl rfl ?aP (fun _ hk => hk.elim) ?aF ?aO ?aB ?aS ?aL ?_; (case aP => exact k24_mkM _ _ _ (⟨(rd_T24 l0 x7_1).f0, (rd_T24 l0 x7_1).f1, (rd_T24 l0 x7_1).f2, (rd_T24 l0 x7_1).f3, (rd_T24 l0 x7_1).f4⟩ : S24)); (case aB => exact (by repeat ((with_reducible (exact HB.out))))); (case aF => exact (fun k_ hk => Kd.freshB (g := gb143) (o := .cells #[.string a1_0, .int .i64 a1_1, .int .i64 a1_2, .int .i64 a1_3, .string a1_4] 24 (0, 0)) (by (with_reducible repeat ((refine blk_drewN ?_ _))); exact BK143.out) k_ hk)); (case aO => exact (by (with_reducible repeat ((apply Kd.R_alloc))); exact HO151.out)); (case aS => exact (below_size (by repeat ((with_reducible (exact HB.out)))))); (case aL => have := LMc18.out; omega); intro v154 w21 ho hb hg hat; rw [← Ny153.out] at ho; have n0_ := Aside0.mk (blk_grown (g := gb143) (o := .cells #[.string a1_0, .int .i64 a1_1, .int .i64 a1_2, .int .i64 a1_3, .string a1_4] 24 (0, 0)) (by (with_reducible repeat ((refine blk_drewN ?_ _))); exact BK143.out) hg (Kd.R_away HO151.out (fun _ hk => hk))); have n1_ := Aside0.mk (hb); have n2_ := Aside0.mk (ho); clear BK143; clear HB; clear HO151; have BK143 := n0_; have HB := n1_; have HO155 := n2_; clear n0_ n1_ n2_; clear ho hb hg hat))
             go_roundg kj6
             case measure => have := HK1.out; have := HJ6.out; omega
             case rel => exact ⟨(y153), (true), (wrap64 (x7_1 + 1)), (by rfl), (by rfl), H', ⟨by have := HK1.out; have := HJ6.out; omega⟩, ⟨by (with_reducible repeat ((apply Kd.R_alloc))); exact HO155.out⟩, ⟨by (with_reducible repeat ((refine blk_drewN ?_ _))); exact BK143.out⟩, ⟨by repeat ((with_reducible (exact HB.out)))⟩⟩
            ·rw [if_neg c18] at H
             exact absurd H (by simp)
           ·rw [if_neg c17] at H
            exact absurd H (by simp)
          ·rw [if_neg c16] at H
           exact absurd H (by simp)
        ·rw [if_neg c12] at H
         exact absurd H (by simp)
       ·replace c11 := Bool.eq_false_iff.mpr c11
        subst c11
        have H1 : (if t148 = 0 then (beadrollref13_Put.l0 kj6 l0 x5_1 x6_1 (wrap64 (x7_1 + 1)) a1_0 a1_1 a1_2 a1_3 a1_4) else (if 0 ≤ x7_1 then (if x7_1 < (l0.length : Int) then (if x5_1.length < 2513169434916 then (beadrollref13_Put.l0 kj6 l0 (x5_1 ++ [(⟨(rd_T24 l0 x7_1).f0, (rd_T24 l0 x7_1).f1, (rd_T24 l0 x7_1).f2, (rd_T24 l0 x7_1).f3, (rd_T24 l0 x7_1).f4⟩ : S24)]) x6_1 (wrap64 (x7_1 + 1)) a1_0 a1_1 a1_2 a1_3 a1_4) else (none)) else (none)) else (none))) = some r := by rw [if_neg (show ¬ (false = true) by decide)] at H; exact H
        clear H
        have H := H1
        clear H1
        by_cases c22 : t148 = 0
        ·rw [if_pos c22] at H
         have c22b0 : (t148 == 0) = true := beq_iff_eq.mpr c22
         have c22b1 : (t148 != 0) = false := bne_eq_false_iff_eq.mpr c22
         clear c22
         have H' := Aside0.mk H
         clear H
         go_wp2
         go_roundg kj6
         case measure => have := HK1.out; have := HJ6.out; omega
         case rel => exact ⟨(x5_1), (x6_1), (wrap64 (x7_1 + 1)), (by rfl), (by rfl), H', ⟨by have := HK1.out; have := HJ6.out; omega⟩, ⟨by (with_reducible repeat ((apply Kd.R_alloc))); exact HO_5.out⟩, ⟨by (with_reducible repeat ((refine blk_drewN ?_ _))); exact BK143.out⟩, ⟨by repeat ((with_reducible (exact HB.out)))⟩⟩
        ·rw [if_neg c22] at H
         have c22b0 : (t148 == 0) = false := beq_eq_false_iff_ne.mpr c22
         have c22b1 : (t148 != 0) = true := bne_iff_ne.mpr c22
         by_cases c23 : 0 ≤ x7_1
         ·rw [if_pos c23] at H
          have c23b0 : decide (0 ≤ x7_1) = true := decide_eq_true c23
          clear c23
          by_cases c24 : x7_1 < (l0.length : Int)
          ·rw [if_pos c24] at H
           have c24b0 : decide (x7_1 < (l0.length : Int)) = true := decide_eq_true c24
           clear c24
           by_cases c25 : x5_1.length < 2513169434916
           ·rw [if_pos c25] at H
            have LMc25 := Aside0.mk c25
            clear c25
            obtain ⟨y157, hy157⟩ : ∃ y_ : List (S24), y_ = (x5_1 ++ [(⟨(rd_T24 l0 x7_1).f0, (rd_T24 l0 x7_1).f1, (rd_T24 l0 x7_1).f2, (rd_T24 l0 x7_1).f3, (rd_T24 l0 x7_1).f4⟩ : S24)]) := ⟨_, rfl⟩
            replace H : (beadrollref13_Put.l0 kj6 l0 y157 x6_1 (wrap64 (x7_1 + 1)) a1_0 a1_1 a1_2 a1_3 a1_4) = some r := by (rw [hy157]; with_reducible exact H)
            have Ny157 := Aside0.mk hy157
            clear hy157
            have H' := Aside0.mk H
            clear H
            have p156 : 0 ≤ (x7_1 : Int) := of_decide_eq_true (by (with_reducible assumption))
            have q156 : x7_1 < (l0.length : Int) := of_decide_eq_true (by (with_reducible assumption))
            obtain ⟨ad156, e156, hx156_0, hx156_1, hx156_2, hx156_3, hx156_4⟩ := at_T24 HR0.out x7_1 p156 q156
            obtain rfl : ad147 = ad156 := (by injection e156)
            replace hx156_0 := (HB.out.cell (World.block_lt_of_cell? w _ hx156_0)).trans hx156_0
            replace hx156_1 := (HB.out.cell (World.block_lt_of_cell? w _ hx156_1)).trans hx156_1
            replace hx156_2 := (HB.out.cell (World.block_lt_of_cell? w _ hx156_2)).trans hx156_2
            replace hx156_3 := (HB.out.cell (World.block_lt_of_cell? w _ hx156_3)).trans hx156_3
            replace hx156_4 := (HB.out.cell (World.block_lt_of_cell? w _ hx156_4)).trans hx156_4
            replace p156 := eq_true p156
            replace q156 := eq_true q156
            go_wp2_with ((((with_reducible refine gate_builtin (b := .append) (xs := #[.tmp 33, .tmp 38]) rfl ?_); at_builtin; refine Kd.R_append k24 (w0 := w) w.heap.size rfl (.tmp 33) (.tmp 38) 22 24 (.agg #[(.string ⟨#[]⟩), (.int .i64 0), (.int .i64 0), (.int .i64 0), (.string ⟨#[]⟩)]) 56 rfl Try.underlying22 info24 rfl (by decide) (by omega) u5 x5_1 (⟨(rd_T24 l0 x7_1).f0, (rd_T24 l0 x7_1).f1, (rd_T24 l0 x7_1).f2, (rd_T24 l0 x7_1).f3, (rd_T24 l0 x7_1).f4⟩ : S24) [.string ((rd_T24 l0 x7_1).f0), .int .i64 ((rd_T24 l0 x7_1).f1), .int .i64 ((rd_T24 l0 x7_1).f2), .int .i64 ((rd_T24 l0 x7_1).f3), .string ((rd_T24 l0 x7_1).f4)] (fun k_ => k_ ≠ gb143) (fun _ => False) rfl rfl ?aP (fun _ hk => hk.elim) ?aF ?aO ?aB ?aS ?aL ?_; (case aP => exact k24_mkM _ _ _ (⟨(rd_T24 l0 x7_1).f0, (rd_T24 l0 x7_1).f1, (rd_T24 l0 x7_1).f2, (rd_T24 l0 x7_1).f3, (rd_T24 l0 x7_1).f4⟩ : S24)); (case aB => exact (by repeat ((with_reducible (exact HB.out))))); (case aF => exact (fun k_ hk => Kd.freshB (g := gb143) (o := .cells #[.string a1_0, .int .i64 a1_1, .int .i64 a1_2, .int .i64 a1_3, .string a1_4] 24 (0, 0)) (by (with_reducible repeat ((refine blk_drewN ?_ _))); exact BK143.out) k_ hk)); (case aO => exact (by (with_reducible repeat ((apply Kd.R_alloc))); exact HO_5.out)); (case aS => exact (below_size (by repeat ((with_reducible (exact HB.out)))))); (case aL => have := LMc25.out; omega); intro v158 w26 ho hb hg hat; rw [← Ny157.out] at ho; have n0_ := Aside0.mk (blk_grown (g := gb143) (o := .cells #[.string a1_0, .int .i64 a1_1, .int .i64 a1_2, .int .i64 a1_3, .string a1_4] 24 (0, 0)) (by (with_reducible repeat ((refine blk_drewN ?_ _))); exact BK143.out) hg (Kd.R_away HO_5.out (fun _ hk => hk))); have n1_ := Aside0.mk (hb); have n2_ := Aside0.mk (ho); clear BK143; clear HB; clear HO_5; have BK143 := n0_; have HB := n1_; have HO159 := n2_; clear n0_ n1_ n2_; clear ho hb hg hat)))
            go_roundg kj6
            case measure => have := HK1.out; have := HJ6.out; omega
            case rel => exact ⟨(y157), (x6_1), (wrap64 (x7_1 + 1)), (by rfl), (by rfl), H', ⟨by have := HK1.out; have := HJ6.out; omega⟩, ⟨by (with_reducible repeat ((apply Kd.R_alloc))); exact HO159.out⟩, ⟨by (with_reducible repeat ((refine blk_drewN ?_ _))); exact BK143.out⟩, ⟨by repeat ((with_reducible (exact HB.out)))⟩⟩
           ·rw [if_neg c25] at H
            exact absurd H (by simp)
          ·rw [if_neg c24] at H
           exact absurd H (by simp)
         ·rw [if_neg c23] at H
          exact absurd H (by simp)
    ·rw [if_neg c5] at H
     exact absurd H (by simp)
   ·rw [if_neg c4] at H
    have c4b0 : decide (x7_1 < (l0.length : Int)) = false := decide_eq_false c4
    clear c4
    by_cases c27 : x6_1 = true
    ·subst c27
     have H1 : (some x5_1) = some r := by rw [if_pos rfl] at H; exact H
     clear H
     have H := H1
     clear H1
     obtain rfl := Option.some.inj H
     go_wp2
     go_ret
     exact ⟨_, by rfl, by (with_reducible repeat ((apply Kd.R_alloc))); exact Kd.R_mono HO_5.out (fun _ hk => trivial), by repeat ((with_reducible (exact HB.out)))⟩
    ·replace c27 := Bool.eq_false_iff.mpr c27
     subst c27
     have H1 : (if x5_1.length < 2513169434916 then (some (x5_1 ++ [(⟨a1_0, a1_1, a1_2, a1_3, a1_4⟩ : S24)])) else (none)) = some r := by rw [if_neg (show ¬ (false = true) by decide)] at H; exact H
     clear H
     have H := H1
     clear H1
     by_cases c28 : x5_1.length < 2513169434916
     ·rw [if_pos c28] at H
      have LMc28 := Aside0.mk c28
      clear c28
      obtain ⟨y144, hy144⟩ : ∃ y_ : List (S24), y_ = (x5_1 ++ [(⟨a1_0, a1_1, a1_2, a1_3, a1_4⟩ : S24)]) := ⟨_, rfl⟩
      replace H : (some y144) = some r := by (rw [hy144]; with_reducible exact H)
      have Ny144 := Aside0.mk hy144
      clear hy144
      obtain rfl := Option.some.inj H
      have hcz29_0 : wr.cell? ⟨gb143, 0, none⟩ = some (.string a1_0) := (blk_cell BK143.out 0).trans rfl
      have hcz29_1 : wr.cell? ⟨gb143, 1, none⟩ = some (.int .i64 a1_1) := (blk_cell BK143.out 1).trans rfl
      have hcz29_2 : wr.cell? ⟨gb143, 2, none⟩ = some (.int .i64 a1_2) := (blk_cell BK143.out 2).trans rfl
      have hcz29_3 : wr.cell? ⟨gb143, 3, none⟩ = some (.int .i64 a1_3) := (blk_cell BK143.out 3).trans rfl
      have hcz29_4 : wr.cell? ⟨gb143, 4, none⟩ = some (.string a1_4) := (blk_cell BK143.out 4).trans rfl
      have hfz29_0 := blk_frozen BK143.out 0
      have hfz29_1 := blk_frozen BK143.out 1
      have hfz29_2 := blk_frozen BK143.out 2
      have hfz29_3 := blk_frozen BK143.out 3
      have hfz29_4 := blk_frozen BK143.out 4
      go_wp2_with ((((with_reducible refine gate_builtin (b := .append) (xs := #[.tmp 42, .tmp 44]) rfl ?_); at_builtin; refine Kd.R_append k24 (w0 := w) w.heap.size rfl (.tmp 42) (.tmp 44) 22 24 (.agg #[(.string ⟨#[]⟩), (.int .i64 0), (.int .i64 0), (.int .i64 0), (.string ⟨#[]⟩)]) 56 rfl Try.underlying22 info24 rfl (by decide) (by omega) u5 x5_1 (⟨a1_0, a1_1, a1_2, a1_3, a1_4⟩ : S24) [.string a1_0, .int .i64 a1_1, .int .i64 a1_2, .int .i64 a1_3, .string a1_4] (fun k_ => k_ ≠ gb143) (fun _ => False) rfl rfl ?aP (fun _ hk => hk.elim) ?aF ?aO ?aB ?aS ?aL ?_; (case aP => exact k24_mkM _ _ _ (⟨a1_0, a1_1, a1_2, a1_3, a1_4⟩ : S24)); (case aB => exact (by repeat ((with_reducible (exact HB.out))))); (case aF => exact (fun k_ hk => Kd.freshB (g := gb143) (o := .cells #[.string a1_0, .int .i64 a1_1, .int .i64 a1_2, .int .i64 a1_3, .string a1_4] 24 (0, 0)) (by (with_reducible repeat ((refine blk_drewN ?_ _))); exact BK143.out) k_ hk)); (case aO => exact (by (with_reducible repeat ((apply Kd.R_alloc))); exact HO_5.out)); (case aS => exact (below_size (by repeat ((with_reducible (exact HB.out)))))); (case aL => have := LMc28.out; omega); intro v145 w30 ho hb hg hat; rw [← Ny144.out] at ho; have n0_ := Aside0.mk (blk_grown (g := gb143) (o := .cells #[.string a1_0, .int .i64 a1_1, .int .i64 a1_2, .int .i64 a1_3, .string a1_4] 24 (0, 0)) (by (with_reducible repeat ((refine blk_drewN ?_ _))); exact BK143.out) hg (Kd.R_away HO_5.out (fun _ hk => hk))); have n1_ := Aside0.mk (hb); have n2_ := Aside0.mk (ho); clear BK143; clear HB; clear HO_5; have BK143 := n0_; have HB := n1_; have HO146 := n2_; clear n0_ n1_ n2_; clear ho hb hg hat)))
      go_ret
      exact ⟨_, by rfl, by (with_reducible repeat ((apply Kd.R_alloc))); exact Kd.R_mono HO146.out (fun _ hk => trivial), by repeat ((with_reducible (exact HB.out)))⟩
     ·rw [if_neg c28] at H
      exact absurd H (by simp)
def beadrollref13_find.l0 : Nat → List (S24) → Int → ByteArray → Int → Int → Int → ByteArray → Option (Int)
 | 0, _, _, _, _, _, _, _ => none
 | k + 1, x0, x5, x161000, x161001, x161002, x161003, x161004 => if x5 < (x0.length : Int) then (if 0 ≤ x5 then ((beadrollref11_One.f k ((rd_T24 x0 x5).f0) ((rd_T24 x0 x5).f1) ((rd_T24 x0 x5).f2) ((rd_T24 x0 x5).f3) ((rd_T24 x0 x5).f4) x161000 x161001 x161002 x161003 x161004).bind fun t162 => (if t162 = true then (some x5) else (beadrollref13_find.l0 k x0 (wrap64 (x5 + 1)) x161000 x161001 x161002 x161003 x161004))) else (none)) else (some (-1))
def beadrollref13_find.f (k : Nat) (l0 : List (S24)) (a1_0 : ByteArray) (a1_1 : Int) (a1_2 : Int) (a1_3 : Int) (a1_4 : ByteArray) : Option (Int) := beadrollref13_find.l0 k l0 0 a1_0 a1_1 a1_2 a1_3 a1_4
set_option maxHeartbeats 8000000 in
set_option maxRecDepth 100000 in
theorem beadrollref13_find.calls (k : Nat) (A0 : Option Addr) (c0 : Nat) (l0 : List (S24)) (a1_0 : ByteArray) (a1_1 : Int) (a1_2 : Int) (a1_3 : Int) (a1_4 : ByteArray) (r : Int) (w : World) (hr0 : Kd.C k24 w A0 l0.length l0) (hc0 : l0.length ≤ c0) (h : beadrollref13_find.f k l0 a1_0 a1_1 a1_2 a1_3 a1_4 = some r) :
  Calls Try.prog 22 #[.slice A0 l0.length c0, .agg #[.string a1_0, .int .i64 a1_1, .int .i64 a1_2, .int .i64 a1_3, .string a1_4]] w fun e w' => e = .returned (.int .i64 r) ∧ Below w.heap.size w w' := by
 have hu24 := Try.underlying24
 have HR0 := Aside0.mk hr0
 have HC0 := Aside0.mk hc0
 clear hr0 hc0
 have HB := Aside0.mk (Below.refl w.heap.size w)
 have H : (beadrollref13_find.l0 k l0 0 a1_0 a1_1 a1_2 a1_3 a1_4) = some r := h
 clear h
 have H' := Aside0.mk H
 clear H
 go_enter Try.func22, Try.ntmps22
 go_wp2_with ((((with_reducible refine gate_dst (N := 3) rfl ?_); refine box_event ?hg (N := 3) ?hd (cs := #[.string a1_0, .int .i64 a1_1, .int .i64 a1_2, .int .i64 a1_3, .string a1_4]) (t := 24) ?hr ?_; (case hd => rfl); (case hg => rfl); (case hr => (go_simp; done)); intro gb160 hg w3 hbox hb; have n0_ := Aside0.mk (below_step (by repeat ((with_reducible (exact HB.out)))) hb); have n1_ := Aside0.mk (hbox); have n2_ := Aside0.mk ((by rw [hg]; exact (below_size (by repeat ((with_reducible (exact HB.out))))) : w.heap.size ≤ gb160)); have n3_ := Aside0.mk ((by rw [hg]; exact (below_size (by repeat ((with_reducible (exact HB.out))))) : w.heap.size ≤ gb160)); clear HB; have HB := n0_; have BK160 := n1_; have GW160 := n2_; have GE160 := n3_; clear n0_ n1_ n2_ n3_; clear hb hbox hg)))
 go_loopg [5] k (fun kq v5 w' => ∃ (x5_1 : Int), v5 = .int .i64 x5_1 ∧ Aside0 (beadrollref13_find.l0 kq l0 x5_1 a1_0 a1_1 a1_2 a1_3 a1_4 = some r) ∧ Aside0 (kq ≤ k) ∧ Aside0 (w'.heap[gb160]? = some (.cells #[.string a1_0, .int .i64 a1_1, .int .i64 a1_2, .int .i64 a1_3, .string a1_4] 24 (0, 0))) ∧ Aside0 (Below w.heap.size w w'))
 case atStart => exact ⟨(0), (by rfl), H', ⟨Nat.le_refl _⟩, ⟨by (with_reducible repeat ((refine blk_drewN ?_ _))); exact BK160.out⟩, ⟨by repeat ((with_reducible (exact HB.out)))⟩⟩
 case round =>
  clear H'
  obtain ⟨x5_1, rfl, HA, HK1, BK160, HB⟩ := hrel
  cases gk with
  | zero => exact absurd HA.out (by simp [beadrollref13_find.l0])
  | succ k1 =>
   have H := HA.out
   clear HA
   simp only [beadrollref13_find.l0] at H
   by_cases c4 : x5_1 < (l0.length : Int)
   ·rw [if_pos c4] at H
    have c4b0 : decide (x5_1 < (l0.length : Int)) = true := decide_eq_true c4
    clear c4
    by_cases c5 : 0 ≤ x5_1
    ·rw [if_pos c5] at H
     have c5b0 : decide (0 ≤ x5_1) = true := decide_eq_true c5
     clear c5
     replace H := Option.bind_eq_some_iff.mp H
     obtain ⟨t162, A60, H⟩ := H
     replace H : (if t162 = true then (some x5_1) else (beadrollref13_find.l0 k1 l0 (wrap64 (x5_1 + 1)) a1_0 a1_1 a1_2 a1_3 a1_4)) = some r := H
     have A6 := Aside0.mk A60
     clear A60
     by_cases c7 : t162 = true
     ·subst c7
      have H1 : (some x5_1) = some r := by rw [if_pos rfl] at H; exact H
      clear H
      have H := H1
      clear H1
      obtain rfl := Option.some.inj H
      (try go_wp2)
      have n0_ := Aside0.mk (blk_drew BK160.out)
      have n1_ := Aside0.mk (below_drew1 HB.out)
      clear BK160
      clear HB
      have BK160 := n0_
      have HB := n1_
      clear n0_ n1_
      have p161 : 0 ≤ (x5_1 : Int) := of_decide_eq_true (by (with_reducible assumption))
      have q161 : x5_1 < (l0.length : Int) := of_decide_eq_true (by (with_reducible assumption))
      obtain ⟨ad161, e161, hx161_0, hx161_1, hx161_2, hx161_3, hx161_4⟩ := at_T24 HR0.out x5_1 p161 q161
      have hw161_4 := hx161_4
      have hw161_3 := hx161_3
      have hw161_2 := hx161_2
      have hw161_1 := hx161_1
      have hw161_0 := hx161_0
      cases e161
      replace hx161_0 := (HB.out.cell (World.block_lt_of_cell? w _ hx161_0)).trans hx161_0
      replace hx161_1 := (HB.out.cell (World.block_lt_of_cell? w _ hx161_1)).trans hx161_1
      replace hx161_2 := (HB.out.cell (World.block_lt_of_cell? w _ hx161_2)).trans hx161_2
      replace hx161_3 := (HB.out.cell (World.block_lt_of_cell? w _ hx161_3)).trans hx161_3
      replace hx161_4 := (HB.out.cell (World.block_lt_of_cell? w _ hx161_4)).trans hx161_4
      replace p161 := eq_true p161
      replace q161 := eq_true q161
      refine start_ (n := 6) (S := fun w' => w'.cell? ⟨gb160, 0, none⟩ = some (.string a1_0) ∧ w'.cell? ⟨gb160, 1, none⟩ = some (.int .i64 a1_1) ∧ w'.cell? ⟨gb160, 2, none⟩ = some (.int .i64 a1_2) ∧ w'.cell? ⟨gb160, 3, none⟩ = some (.int .i64 a1_3) ∧ w'.cell? ⟨gb160, 4, none⟩ = some (.string a1_4) ∧ w'.cell? (ad161.add ((x5_1).toNat * 5)) = some (.string ((rd_T24 l0 x5_1).f0)) ∧ w'.cell? ⟨(ad161.add ((x5_1).toNat * 5)).block, (ad161.add ((x5_1).toNat * 5)).off + 1, none⟩ = some (.int .i64 ((rd_T24 l0 x5_1).f1)) ∧ w'.cell? ⟨(ad161.add ((x5_1).toNat * 5)).block, (ad161.add ((x5_1).toNat * 5)).off + 2, none⟩ = some (.int .i64 ((rd_T24 l0 x5_1).f2)) ∧ w'.cell? ⟨(ad161.add ((x5_1).toNat * 5)).block, (ad161.add ((x5_1).toNat * 5)).off + 3, none⟩ = some (.int .i64 ((rd_T24 l0 x5_1).f3)) ∧ w'.cell? ⟨(ad161.add ((x5_1).toNat * 5)).block, (ad161.add ((x5_1).toNat * 5)).off + 4, none⟩ = some (.string ((rd_T24 l0 x5_1).f4))) (ds := []) #[false, false, false, false, false, false] (by kernel_rfl) rfl rfl ⟨(blk_cell BK160.out 0).trans rfl, (blk_cell BK160.out 1).trans rfl, (blk_cell BK160.out 2).trans rfl, (blk_cell BK160.out 3).trans rfl, (blk_cell BK160.out 4).trans rfl, ((HB.out.cell (World.block_lt_of_cell? w _ hw161_0)).trans hw161_0), ((HB.out.cell (World.block_lt_of_cell? w _ hw161_1)).trans hw161_1), ((HB.out.cell (World.block_lt_of_cell? w _ hw161_2)).trans hw161_2), ((HB.out.cell (World.block_lt_of_cell? w _ hw161_3)).trans hw161_3), ((HB.out.cell (World.block_lt_of_cell? w _ hw161_4)).trans hw161_4)⟩ (fun hHeld => ?_)
      generalize wr.drew = w8 at BK160 HB hx161_0 hx161_1 hx161_2 hx161_3 hx161_4 hHeld ⊢
      refine pure_ (i := 0) (N := some 12) (v := ?_) (a' := ?_) #[true, false, false, false, false, false] rfl rfl (by kernel_rfl) (fun _ _ _ h => h) (Or.inl ⟨by rfl, ?_⟩) ?_ ?_
      rotate_left
      ·intro w'
       go_simp
       with_reducible rfl
      rotate_left
      ·simp only [Act.put, List.setIfInBounds_toArray, List.set_cons_zero, List.set_cons_succ, i64_w, i32_w]
       rfl
      refine pure_ (i := 1) (N := some 13) (v := ?_) (a' := ?_) #[true, true, false, false, false, false] rfl rfl (by kernel_rfl) (fun _ _ _ h => h) (Or.inl ⟨by rfl, ?_⟩) ?_ ?_
      rotate_left
      ·intro w'
       go_simp
       with_reducible rfl
      rotate_left
      ·simp only [Act.put, List.setIfInBounds_toArray, List.set_cons_zero, List.set_cons_succ, i64_w, i32_w]
       rfl
      refine pure_ (i := 2) (N := some 14) (v := ?_) (a' := ?_) #[true, true, true, false, false, false] rfl rfl (by kernel_rfl) (fun _ _ _ h => h) (Or.inl ⟨by rfl, ?_⟩) ?_ ?_
      rotate_left
      ·intro w'
       go_simp
       with_reducible rfl
      rotate_left
      ·simp only [Act.put, List.setIfInBounds_toArray, List.set_cons_zero, List.set_cons_succ, i64_w, i32_w]
       rfl
      refine take_ (i := 3) (N := some 15) (v := ?_) (a' := ?_) #[true, true, true, true, false, false] rfl rfl (by kernel_rfl) (fun _ _ _ h => h) (Or.inl ⟨by rfl, ?_⟩) hHeld ?_ ?_
      rotate_left
      ·rintro w' ⟨s0, s1, s2, s3, s4, s5, s6, s7, s8, s9⟩
       go_simp
       with_reducible rfl
      rotate_left
      ·simp only [Act.put, List.setIfInBounds_toArray, List.set_cons_zero, List.set_cons_succ, i64_w, i32_w]
       rfl
      refine take_ (i := 4) (N := some 16) (v := ?_) (a' := ?_) #[true, true, true, true, true, false] rfl rfl (by kernel_rfl) (fun _ _ _ h => h) (Or.inl ⟨by rfl, ?_⟩) hHeld ?_ ?_
      rotate_left
      ·rintro w' ⟨s0, s1, s2, s3, s4, s5, s6, s7, s8, s9⟩
       go_simp
       with_reducible rfl
      rotate_left
      ·simp only [Act.put, List.setIfInBounds_toArray, List.set_cons_zero, List.set_cons_succ, i64_w, i32_w]
       rfl
      refine one_ (i := 5) (N := some 17) #[true, true, true, true, true, true] rfl rfl (by kernel_rfl) (by decide) (fun K hK => ?_)
      refine goes_ Try.func33 (by kernel_rfl) rfl #[.agg #[.string ((rd_T24 l0 x5_1).f0), .int .i64 ((rd_T24 l0 x5_1).f1), .int .i64 ((rd_T24 l0 x5_1).f2), .int .i64 ((rd_T24 l0 x5_1).f3), .string ((rd_T24 l0 x5_1).f4)], .agg #[.string a1_0, .int .i64 a1_1, .int .i64 a1_2, .int .i64 a1_3, .string a1_4]] (by rfl) rfl rfl (by (try simp only [List.map_toArray, List.map_cons, List.map_nil]); rfl) ?_
      with_reducible refine (beadrollref11_One.calls k1 ((rd_T24 l0 x5_1).f0) ((rd_T24 l0 x5_1).f1) ((rd_T24 l0 x5_1).f2) ((rd_T24 l0 x5_1).f3) ((rd_T24 l0 x5_1).f4) a1_0 a1_1 a1_2 a1_3 a1_4 true _ A6.out).mono ?_
      rintro e w9 ⟨rfl, hb⟩
      refine ⟨_, rfl, ?_⟩
      have n0_ := Aside0.mk (blk_below (g := gb160) (o := .cells #[.string a1_0, .int .i64 a1_1, .int .i64 a1_2, .int .i64 a1_3, .string a1_4] 24 (0, 0)) (by (with_reducible repeat ((refine blk_drewN ?_ _))); exact BK160.out) hb)
      have n1_ := Aside0.mk (below_step (by repeat ((with_reducible (exact HB.out)))) hb)
      clear BK160
      clear HB
      have BK160 := n0_
      have HB := n1_
      clear n0_ n1_
      (try clear hb)
      refine hK.out _ _ ⟨(blk_cell BK160.out 0).trans rfl, (blk_cell BK160.out 1).trans rfl, (blk_cell BK160.out 2).trans rfl, (blk_cell BK160.out 3).trans rfl, (blk_cell BK160.out 4).trans rfl, ((HB.out.cell (World.block_lt_of_cell? w _ hw161_0)).trans hw161_0), ((HB.out.cell (World.block_lt_of_cell? w _ hw161_1)).trans hw161_1), ((HB.out.cell (World.block_lt_of_cell? w _ hw161_2)).trans hw161_2), ((HB.out.cell (World.block_lt_of_cell? w _ hw161_3)).trans hw161_3), ((HB.out.cell (World.block_lt_of_cell? w _ hw161_4)).trans hw161_4)⟩ (fun hHeld => ?_)
      clear hK K
      refine norm_ (a' := ?_) ?_ ?_
      rotate_left
      ·show Act.put _ (some 17) _ = _
       simp only [Act.put, List.setIfInBounds_toArray, List.set_cons_zero, List.set_cons_succ, i64_w, i32_w]
       rfl
      refine done_ (by kernel_rfl) ?_
      (try go_wp2)
      go_ret
      exact ⟨by rfl, by repeat ((with_reducible (exact HB.out)))⟩
     ·replace c7 := Bool.eq_false_iff.mpr c7
      subst c7
      have H1 : (beadrollref13_find.l0 k1 l0 (wrap64 (x5_1 + 1)) a1_0 a1_1 a1_2 a1_3 a1_4) = some r := by rw [if_neg (show ¬ (false = true) by decide)] at H; exact H
      clear H
      have H := H1
      clear H1
      have H' := Aside0.mk H
      clear H
      (try go_wp2)
      have n0_ := Aside0.mk (blk_drew BK160.out)
      have n1_ := Aside0.mk (below_drew1 HB.out)
      clear BK160
      clear HB
      have BK160 := n0_
      have HB := n1_
      clear n0_ n1_
      have p161 : 0 ≤ (x5_1 : Int) := of_decide_eq_true (by (with_reducible assumption))
      have q161 : x5_1 < (l0.length : Int) := of_decide_eq_true (by (with_reducible assumption))
      obtain ⟨ad161, e161, hx161_0, hx161_1, hx161_2, hx161_3, hx161_4⟩ := at_T24 HR0.out x5_1 p161 q161
      have hw161_4 := hx161_4
      have hw161_3 := hx161_3
      have hw161_2 := hx161_2
      have hw161_1 := hx161_1
      have hw161_0 := hx161_0
      cases e161
      replace hx161_0 := (HB.out.cell (World.block_lt_of_cell? w _ hx161_0)).trans hx161_0
      replace hx161_1 := (HB.out.cell (World.block_lt_of_cell? w _ hx161_1)).trans hx161_1
      replace hx161_2 := (HB.out.cell (World.block_lt_of_cell? w _ hx161_2)).trans hx161_2
      replace hx161_3 := (HB.out.cell (World.block_lt_of_cell? w _ hx161_3)).trans hx161_3
      replace hx161_4 := (HB.out.cell (World.block_lt_of_cell? w _ hx161_4)).trans hx161_4
      replace p161 := eq_true p161
      replace q161 := eq_true q161
      refine start_ (n := 6) (S := fun w' => w'.cell? ⟨gb160, 0, none⟩ = some (.string a1_0) ∧ w'.cell? ⟨gb160, 1, none⟩ = some (.int .i64 a1_1) ∧ w'.cell? ⟨gb160, 2, none⟩ = some (.int .i64 a1_2) ∧ w'.cell? ⟨gb160, 3, none⟩ = some (.int .i64 a1_3) ∧ w'.cell? ⟨gb160, 4, none⟩ = some (.string a1_4) ∧ w'.cell? (ad161.add ((x5_1).toNat * 5)) = some (.string ((rd_T24 l0 x5_1).f0)) ∧ w'.cell? ⟨(ad161.add ((x5_1).toNat * 5)).block, (ad161.add ((x5_1).toNat * 5)).off + 1, none⟩ = some (.int .i64 ((rd_T24 l0 x5_1).f1)) ∧ w'.cell? ⟨(ad161.add ((x5_1).toNat * 5)).block, (ad161.add ((x5_1).toNat * 5)).off + 2, none⟩ = some (.int .i64 ((rd_T24 l0 x5_1).f2)) ∧ w'.cell? ⟨(ad161.add ((x5_1).toNat * 5)).block, (ad161.add ((x5_1).toNat * 5)).off + 3, none⟩ = some (.int .i64 ((rd_T24 l0 x5_1).f3)) ∧ w'.cell? ⟨(ad161.add ((x5_1).toNat * 5)).block, (ad161.add ((x5_1).toNat * 5)).off + 4, none⟩ = some (.string ((rd_T24 l0 x5_1).f4))) (ds := []) #[false, false, false, false, false, false] (by kernel_rfl) rfl rfl ⟨(blk_cell BK160.out 0).trans rfl, (blk_cell BK160.out 1).trans rfl, (blk_cell BK160.out 2).trans rfl, (blk_cell BK160.out 3).trans rfl, (blk_cell BK160.out 4).trans rfl, ((HB.out.cell (World.block_lt_of_cell? w _ hw161_0)).trans hw161_0), ((HB.out.cell (World.block_lt_of_cell? w _ hw161_1)).trans hw161_1), ((HB.out.cell (World.block_lt_of_cell? w _ hw161_2)).trans hw161_2), ((HB.out.cell (World.block_lt_of_cell? w _ hw161_3)).trans hw161_3), ((HB.out.cell (World.block_lt_of_cell? w _ hw161_4)).trans hw161_4)⟩ (fun hHeld => ?_)
      generalize wr.drew = w10 at BK160 HB hx161_0 hx161_1 hx161_2 hx161_3 hx161_4 hHeld ⊢
      refine pure_ (i := 0) (N := some 12) (v := ?_) (a' := ?_) #[true, false, false, false, false, false] rfl rfl (by kernel_rfl) (fun _ _ _ h => h) (Or.inl ⟨by rfl, ?_⟩) ?_ ?_
      rotate_left
      ·intro w'
       go_simp
       with_reducible rfl
      rotate_left
      ·simp only [Act.put, List.setIfInBounds_toArray, List.set_cons_zero, List.set_cons_succ, i64_w, i32_w]
       rfl
      refine pure_ (i := 1) (N := some 13) (v := ?_) (a' := ?_) #[true, true, false, false, false, false] rfl rfl (by kernel_rfl) (fun _ _ _ h => h) (Or.inl ⟨by rfl, ?_⟩) ?_ ?_
      rotate_left
      ·intro w'
       go_simp
       with_reducible rfl
      rotate_left
      ·simp only [Act.put, List.setIfInBounds_toArray, List.set_cons_zero, List.set_cons_succ, i64_w, i32_w]
       rfl
      refine pure_ (i := 2) (N := some 14) (v := ?_) (a' := ?_) #[true, true, true, false, false, false] rfl rfl (by kernel_rfl) (fun _ _ _ h => h) (Or.inl ⟨by rfl, ?_⟩) ?_ ?_
      rotate_left
      ·intro w'
       go_simp
       with_reducible rfl
      rotate_left
      ·simp only [Act.put, List.setIfInBounds_toArray, List.set_cons_zero, List.set_cons_succ, i64_w, i32_w]
       rfl
      refine take_ (i := 3) (N := some 15) (v := ?_) (a' := ?_) #[true, true, true, true, false, false] rfl rfl (by kernel_rfl) (fun _ _ _ h => h) (Or.inl ⟨by rfl, ?_⟩) hHeld ?_ ?_
      rotate_left
      ·rintro w' ⟨s0, s1, s2, s3, s4, s5, s6, s7, s8, s9⟩
       go_simp
       with_reducible rfl
      rotate_left
      ·simp only [Act.put, List.setIfInBounds_toArray, List.set_cons_zero, List.set_cons_succ, i64_w, i32_w]
       rfl
      refine take_ (i := 4) (N := some 16) (v := ?_) (a' := ?_) #[true, true, true, true, true, false] rfl rfl (by kernel_rfl) (fun _ _ _ h => h) (Or.inl ⟨by rfl, ?_⟩) hHeld ?_ ?_
      rotate_left
      ·rintro w' ⟨s0, s1, s2, s3, s4, s5, s6, s7, s8, s9⟩
       go_simp
       with_reducible rfl
      rotate_left
      ·simp only [Act.put, List.setIfInBounds_toArray, List.set_cons_zero, List.set_cons_succ, i64_w, i32_w]
       rfl
      refine one_ (i := 5) (N := some 17) #[true, true, true, true, true, true] rfl rfl (by kernel_rfl) (by decide) (fun K hK => ?_)
      refine goes_ Try.func33 (by kernel_rfl) rfl #[.agg #[.string ((rd_T24 l0 x5_1).f0), .int .i64 ((rd_T24 l0 x5_1).f1), .int .i64 ((rd_T24 l0 x5_1).f2), .int .i64 ((rd_T24 l0 x5_1).f3), .string ((rd_T24 l0 x5_1).f4)], .agg #[.string a1_0, .int .i64 a1_1, .int .i64 a1_2, .int .i64 a1_3, .string a1_4]] (by rfl) rfl rfl (by (try simp only [List.map_toArray, List.map_cons, List.map_nil]); rfl) ?_
      with_reducible refine (beadrollref11_One.calls k1 ((rd_T24 l0 x5_1).f0) ((rd_T24 l0 x5_1).f1) ((rd_T24 l0 x5_1).f2) ((rd_T24 l0 x5_1).f3) ((rd_T24 l0 x5_1).f4) a1_0 a1_1 a1_2 a1_3 a1_4 false _ A6.out).mono ?_
      rintro e w11 ⟨rfl, hb⟩
      refine ⟨_, rfl, ?_⟩
      have n0_ := Aside0.mk (blk_below (g := gb160) (o := .cells #[.string a1_0, .int .i64 a1_1, .int .i64 a1_2, .int .i64 a1_3, .string a1_4] 24 (0, 0)) (by (with_reducible repeat ((refine blk_drewN ?_ _))); exact BK160.out) hb)
      have n1_ := Aside0.mk (below_step (by repeat ((with_reducible (exact HB.out)))) hb)
      clear BK160
      clear HB
      have BK160 := n0_
      have HB := n1_
      clear n0_ n1_
      (try clear hb)
      refine hK.out _ _ ⟨(blk_cell BK160.out 0).trans rfl, (blk_cell BK160.out 1).trans rfl, (blk_cell BK160.out 2).trans rfl, (blk_cell BK160.out 3).trans rfl, (blk_cell BK160.out 4).trans rfl, ((HB.out.cell (World.block_lt_of_cell? w _ hw161_0)).trans hw161_0), ((HB.out.cell (World.block_lt_of_cell? w _ hw161_1)).trans hw161_1), ((HB.out.cell (World.block_lt_of_cell? w _ hw161_2)).trans hw161_2), ((HB.out.cell (World.block_lt_of_cell? w _ hw161_3)).trans hw161_3), ((HB.out.cell (World.block_lt_of_cell? w _ hw161_4)).trans hw161_4)⟩ (fun hHeld => ?_)
      clear hK K
      refine norm_ (a' := ?_) ?_ ?_
      rotate_left
      ·show Act.put _ (some 17) _ = _
       simp only [Act.put, List.setIfInBounds_toArray, List.set_cons_zero, List.set_cons_succ, i64_w, i32_w]
       rfl
      refine done_ (by kernel_rfl) ?_
      (try go_wp2)
      go_roundg k1
      case measure => have := HK1.out; omega
      case rel => exact ⟨(wrap64 (x5_1 + 1)), (by rfl), H', ⟨by have := HK1.out; omega⟩, ⟨by (with_reducible repeat ((refine blk_drewN ?_ _))); exact BK160.out⟩, ⟨by repeat ((with_reducible (exact HB.out)))⟩⟩
    ·rw [if_neg c5] at H
     exact absurd H (by simp)
   ·rw [if_neg c4] at H
    have c4b0 : decide (x5_1 < (l0.length : Int)) = false := decide_eq_false c4
    clear c4
    obtain rfl := Option.some.inj H
    go_wp2
    go_ret
    exact ⟨by rfl, by repeat ((with_reducible (exact HB.out)))⟩
def beadrollref13_Find.f (k : Nat) (l0 : List (S24)) (a1_0 : ByteArray) (a1_1 : Int) (a1_2 : Int) (a1_3 : Int) (a1_4 : ByteArray) : Option (ByteArray × Int × Int × Int × ByteArray × Bool) := (beadrollref13_find.f k l0 a1_0 a1_1 a1_2 a1_3 a1_4).bind fun t184 => (if t184 < 0 then (some ((⟨#[]⟩ : ByteArray), 0, 0, 0, (⟨#[]⟩ : ByteArray), false)) else (if 0 ≤ t184 then (if t184 < (l0.length : Int) then (some ((rd_T24 l0 t184).f0, (rd_T24 l0 t184).f1, (rd_T24 l0 t184).f2, (rd_T24 l0 t184).f3, (rd_T24 l0 t184).f4, true)) else (none)) else (none)))
set_option maxHeartbeats 8000000 in
set_option maxRecDepth 100000 in
theorem beadrollref13_Find.calls (k : Nat) (A0 : Option Addr) (c0 : Nat) (l0 : List (S24)) (a1_0 : ByteArray) (a1_1 : Int) (a1_2 : Int) (a1_3 : Int) (a1_4 : ByteArray) (r1 : ByteArray) (r2 : Int) (r3 : Int) (r4 : Int) (r5 : ByteArray) (r6 : Bool) (w : World) (hr0 : Kd.C k24 w A0 l0.length l0) (hc0 : l0.length ≤ c0) (h : beadrollref13_Find.f k l0 a1_0 a1_1 a1_2 a1_3 a1_4 = some (r1, r2, r3, r4, r5, r6)) :
  Calls Try.prog 13 #[.slice A0 l0.length c0, .agg #[.string a1_0, .int .i64 a1_1, .int .i64 a1_2, .int .i64 a1_3, .string a1_4]] w fun e w' => e = .returned (.tuple #[.agg #[.string r1, .int .i64 r2, .int .i64 r3, .int .i64 r4, .string r5], .bool r6]) ∧ Below w.heap.size w w' := by
 have hu24 := Try.underlying24
 have HR0 := Aside0.mk hr0
 have HC0 := Aside0.mk hc0
 clear hr0 hc0
 have HB := Aside0.mk (Below.refl w.heap.size w)
 have H : ((beadrollref13_find.f k l0 a1_0 a1_1 a1_2 a1_3 a1_4).bind fun t184 => (if t184 < 0 then (some ((⟨#[]⟩ : ByteArray), 0, 0, 0, (⟨#[]⟩ : ByteArray), false)) else (if 0 ≤ t184 then (if t184 < (l0.length : Int) then (some ((rd_T24 l0 t184).f0, (rd_T24 l0 t184).f1, (rd_T24 l0 t184).f2, (rd_T24 l0 t184).f3, (rd_T24 l0 t184).f4, true)) else (none)) else (none)))) = some (r1, r2, r3, r4, r5, r6) := h
 clear h
 replace H := Option.bind_eq_some_iff.mp H
 obtain ⟨t184, A30, H⟩ := H
 replace H : (if t184 < 0 then (some ((⟨#[]⟩ : ByteArray), 0, 0, 0, (⟨#[]⟩ : ByteArray), false)) else (if 0 ≤ t184 then (if t184 < (l0.length : Int) then (some ((rd_T24 l0 t184).f0, (rd_T24 l0 t184).f1, (rd_T24 l0 t184).f2, (rd_T24 l0 t184).f3, (rd_T24 l0 t184).f4, true)) else (none)) else (none))) = some (r1, r2, r3, r4, r5, r6) := H
 have A3 := Aside0.mk A30
 clear A30
 by_cases c4 : t184 < 0
 ·rw [if_pos c4] at H
  have c4b0 : decide (t184 < 0) = true := decide_eq_true c4
  clear c4
  simp only [Option.some.injEq, Prod.mk.injEq] at H
  obtain ⟨rfl, rfl, rfl, rfl, rfl, rfl⟩ := H
  go_enter Try.func13, Try.ntmps13
  go_wp2_with (first | ((with_reducible refine gate_dst (N := 3) rfl ?_); refine box_event ?hg (N := 3) ?hd (cs := #[.string a1_0, .int .i64 a1_1, .int .i64 a1_2, .int .i64 a1_3, .string a1_4]) (t := 24) ?hr ?_; (case hd => rfl); (case hg => rfl); (case hr => (go_simp; done)); intro gb182 hg w5 hbox hb; have n0_ := Aside0.mk (below_step (by repeat ((with_reducible (exact HB.out)))) hb); have n1_ := Aside0.mk (hbox); have n2_ := Aside0.mk ((by rw [hg]; exact (below_size (by repeat ((with_reducible (exact HB.out))))) : w.heap.size ≤ gb182)); have n3_ := Aside0.mk ((by rw [hg]; exact (below_size (by repeat ((with_reducible (exact HB.out))))) : w.heap.size ≤ gb182)); clear HB; have HB := n0_; have BK182 := n1_; have GW182 := n2_; have GE182 := n3_; clear n0_ n1_ n2_ n3_; clear hb hbox hg) | ((with_reducible refine gate_dst (N := 4) rfl ?_); refine box_event ?hg (N := 4) ?hd (cs := #[.string (⟨#[]⟩ : ByteArray), .int .i64 0, .int .i64 0, .int .i64 0, .string (⟨#[]⟩ : ByteArray)]) (t := 24) ?hr ?_; (case hd => rfl); (case hg => rfl); (case hr => (go_simp; done)); intro gb183 hg w6 hbox hb; have n0_ := Aside0.mk (blk_below (g := gb182) (o := .cells #[.string a1_0, .int .i64 a1_1, .int .i64 a1_2, .int .i64 a1_3, .string a1_4] 24 (0, 0)) (by (with_reducible repeat ((refine blk_drewN ?_ _))); exact BK182.out) hb); have n1_ := Aside0.mk (below_step (by repeat ((with_reducible (exact HB.out)))) hb); have n2_ := Aside0.mk (hbox); have n3_ := Aside0.mk ((by rw [hg]; exact (below_size (by repeat ((with_reducible (exact HB.out))))) : w.heap.size ≤ gb183)); have n4_ := Aside0.mk ((by rw [hg]; exact (below_size (by repeat ((with_reducible (exact HB.out))))) : w.heap.size ≤ gb183)); have n5_ := Aside0.mk ((by rw [hg]; exact Nat.ne_of_lt (blk_lt (g := gb182) (o := .cells #[.string a1_0, .int .i64 a1_1, .int .i64 a1_2, .int .i64 a1_3, .string a1_4] 24 (0, 0)) (by (with_reducible repeat ((refine blk_drewN ?_ _))); exact BK182.out)) : gb182 ≠ gb183)); have n6_ := Aside0.mk ((by rw [hg]; exact Nat.ne_of_gt (blk_lt (g := gb182) (o := .cells #[.string a1_0, .int .i64 a1_1, .int .i64 a1_2, .int .i64 a1_3, .string a1_4] 24 (0, 0)) (by (with_reducible repeat ((refine blk_drewN ?_ _))); exact BK182.out)) : gb183 ≠ gb182)); clear BK182; clear HB; have BK182 := n0_; have HB := n1_; have BK183 := n2_; have GW183 := n3_; have GE183 := n4_; have NB182_183 := n5_; have NB183_182 := n6_; clear n0_ n1_ n2_ n3_ n4_ n5_ n6_; clear hb hbox hg; have hnb7 := NB182_183.out; have hnc7 := NB183_182.out; have hcz8_0 : w6.cell? ⟨gb182, 0, none⟩ = some (.string a1_0) := (blk_cell BK182.out 0).trans rfl; have hcz8_1 : w6.cell? ⟨gb182, 1, none⟩ = some (.int .i64 a1_1) := (blk_cell BK182.out 1).trans rfl; have hcz8_2 : w6.cell? ⟨gb182, 2, none⟩ = some (.int .i64 a1_2) := (blk_cell BK182.out 2).trans rfl; have hcz8_3 : w6.cell? ⟨gb182, 3, none⟩ = some (.int .i64 a1_3) := (blk_cell BK182.out 3).trans rfl; have hcz8_4 : w6.cell? ⟨gb182, 4, none⟩ = some (.string a1_4) := (blk_cell BK182.out 4).trans rfl; have hfz8_0 := blk_frozen BK182.out 0; have hfz8_1 := blk_frozen BK182.out 1; have hfz8_2 := blk_frozen BK182.out 2; have hfz8_3 := blk_frozen BK182.out 3; have hfz8_4 := blk_frozen BK182.out 4) | ((with_reducible refine gate_callee (f := 22) rfl ?_); refine goesL_ (some 9) rfl rfl Try.func22 (by kernel_rfl) rfl #[.slice A0 l0.length c0, .agg #[.string a1_0, .int .i64 a1_1, .int .i64 a1_2, .int .i64 a1_3, .string a1_4]] rfl (by (try simp only [List.map_toArray, List.map_cons, List.map_nil]); rfl) ?_; (with_reducible refine (beadrollref13_find.calls k _ _ l0 a1_0 a1_1 a1_2 a1_3 a1_4 t184 _ ?side1 ?side2 A3.out).mono ?_); (case side1 => repeat ((exact (Kd.C_below HR0.out HB.out)))); (case side2 => exact HC0.out); rintro e w9 ⟨rfl, hb⟩; refine ⟨_, rfl, ?_⟩; have n0_ := Aside0.mk (blk_below (g := gb182) (o := .cells #[.string a1_0, .int .i64 a1_1, .int .i64 a1_2, .int .i64 a1_3, .string a1_4] 24 (0, 0)) (by (with_reducible repeat ((refine blk_drewN ?_ _))); exact BK182.out) hb); have n1_ := Aside0.mk (blk_below (g := gb183) (o := .cells #[.string (⟨#[]⟩ : ByteArray), .int .i64 0, .int .i64 0, .int .i64 0, .string (⟨#[]⟩ : ByteArray)] 24 (0, 0)) (by (with_reducible repeat ((refine blk_drewN ?_ _))); exact BK183.out) hb); have n2_ := Aside0.mk (below_step (by repeat ((with_reducible (exact HB.out)))) hb); clear BK182; clear BK183; clear HB; have BK182 := n0_; have BK183 := n1_; have HB := n2_; clear n0_ n1_ n2_; (try clear hb); have hcz10_0 : w9.cell? ⟨gb183, 0, none⟩ = some (.string (⟨#[]⟩ : ByteArray)) := (blk_cell BK183.out 0).trans rfl; have hcz10_1 : w9.cell? ⟨gb183, 1, none⟩ = some (.int .i64 0) := (blk_cell BK183.out 1).trans rfl; have hcz10_2 : w9.cell? ⟨gb183, 2, none⟩ = some (.int .i64 0) := (blk_cell BK183.out 2).trans rfl; have hcz10_3 : w9.cell? ⟨gb183, 3, none⟩ = some (.int .i64 0) := (blk_cell BK183.out 3).trans rfl; have hcz10_4 : w9.cell? ⟨gb183, 4, none⟩ = some (.string (⟨#[]⟩ : ByteArray)) := (blk_cell BK183.out 4).trans rfl; have hfz10_0 := blk_frozen BK183.out 0; have hfz10_1 := blk_frozen BK183.out 1; have hfz10_2 := blk_frozen BK183.out 2; have hfz10_3 := blk_frozen BK183.out 3; have hfz10_4 := blk_frozen BK183.out 4))
  refine bodyPost_ret (results_ct rfl _ _ gb183 24 #[.string (⟨#[]⟩ : ByteArray), .int .i64 0, .int .i64 0, .int .i64 0, .string (⟨#[]⟩ : ByteArray)] (0, 0) _ rfl (by (with_reducible repeat ((refine blk_drewN ?_ _))); refine blk_put (cs := #[.string (⟨#[]⟩ : ByteArray), .int .i64 0, .int .i64 0, .int .i64 0, .string (⟨#[]⟩ : ByteArray)]) ?_ 4 _ rfl; (with_reducible repeat ((refine blk_drewN ?_ _))); refine blk_put (cs := #[.string (⟨#[]⟩ : ByteArray), .int .i64 0, .int .i64 0, .int .i64 0, .string (⟨#[]⟩ : ByteArray)]) ?_ 3 _ rfl; (with_reducible repeat ((refine blk_drewN ?_ _))); refine blk_put (cs := #[.string (⟨#[]⟩ : ByteArray), .int .i64 0, .int .i64 0, .int .i64 0, .string (⟨#[]⟩ : ByteArray)]) ?_ 2 _ rfl; (with_reducible repeat ((refine blk_drewN ?_ _))); refine blk_put (cs := #[.string (⟨#[]⟩ : ByteArray), .int .i64 0, .int .i64 0, .int .i64 0, .string (⟨#[]⟩ : ByteArray)]) ?_ 1 _ rfl; (with_reducible repeat ((refine blk_drewN ?_ _))); refine blk_put (cs := #[.string (⟨#[]⟩ : ByteArray), .int .i64 0, .int .i64 0, .int .i64 0, .string (⟨#[]⟩ : ByteArray)]) ?_ 0 _ rfl; (with_reducible repeat ((refine blk_drewN ?_ _))); exact BK183.out) Try.underlying24 rfl (by kernel_rfl)) rfl ?_
  exact ⟨by rfl, by repeat ((with_reducible first | exact HB.out | refine below_set ?_ GE183.out))⟩
 ·rw [if_neg c4] at H
  have c4b0 : decide (t184 < 0) = false := decide_eq_false c4
  clear c4
  by_cases c11 : 0 ≤ t184
  ·rw [if_pos c11] at H
   have c11b0 : decide (0 ≤ t184) = true := decide_eq_true c11
   clear c11
   by_cases c12 : t184 < (l0.length : Int)
   ·rw [if_pos c12] at H
    have c12b0 : decide (t184 < (l0.length : Int)) = true := decide_eq_true c12
    clear c12
    simp only [Option.some.injEq, Prod.mk.injEq] at H
    obtain ⟨rfl, rfl, rfl, rfl, rfl, rfl⟩ := H
    go_enter Try.func13, Try.ntmps13
    go_wp2_with (first | ((with_reducible refine gate_dst (N := 3) rfl ?_); refine box_event ?hg (N := 3) ?hd (cs := #[.string a1_0, .int .i64 a1_1, .int .i64 a1_2, .int .i64 a1_3, .string a1_4]) (t := 24) ?hr ?_; (case hd => rfl); (case hg => rfl); (case hr => (go_simp; done)); intro gb182 hg w13 hbox hb; have n0_ := Aside0.mk (below_step (by repeat ((with_reducible (exact HB.out)))) hb); have n1_ := Aside0.mk (hbox); have n2_ := Aside0.mk ((by rw [hg]; exact (below_size (by repeat ((with_reducible (exact HB.out))))) : w.heap.size ≤ gb182)); have n3_ := Aside0.mk ((by rw [hg]; exact (below_size (by repeat ((with_reducible (exact HB.out))))) : w.heap.size ≤ gb182)); clear HB; have HB := n0_; have BK182 := n1_; have GW182 := n2_; have GE182 := n3_; clear n0_ n1_ n2_ n3_; clear hb hbox hg) | ((with_reducible refine gate_dst (N := 4) rfl ?_); refine box_event ?hg (N := 4) ?hd (cs := #[.string (⟨#[]⟩ : ByteArray), .int .i64 0, .int .i64 0, .int .i64 0, .string (⟨#[]⟩ : ByteArray)]) (t := 24) ?hr ?_; (case hd => rfl); (case hg => rfl); (case hr => (go_simp; done)); intro gb183 hg w14 hbox hb; have n0_ := Aside0.mk (blk_below (g := gb182) (o := .cells #[.string a1_0, .int .i64 a1_1, .int .i64 a1_2, .int .i64 a1_3, .string a1_4] 24 (0, 0)) (by (with_reducible repeat ((refine blk_drewN ?_ _))); exact BK182.out) hb); have n1_ := Aside0.mk (below_step (by repeat ((with_reducible (exact HB.out)))) hb); have n2_ := Aside0.mk (hbox); have n3_ := Aside0.mk ((by rw [hg]; exact (below_size (by repeat ((with_reducible (exact HB.out))))) : w.heap.size ≤ gb183)); have n4_ := Aside0.mk ((by rw [hg]; exact (below_size (by repeat ((with_reducible (exact HB.out))))) : w.heap.size ≤ gb183)); have n5_ := Aside0.mk ((by rw [hg]; exact Nat.ne_of_lt (blk_lt (g := gb182) (o := .cells #[.string a1_0, .int .i64 a1_1, .int .i64 a1_2, .int .i64 a1_3, .string a1_4] 24 (0, 0)) (by (with_reducible repeat ((refine blk_drewN ?_ _))); exact BK182.out)) : gb182 ≠ gb183)); have n6_ := Aside0.mk ((by rw [hg]; exact Nat.ne_of_gt (blk_lt (g := gb182) (o := .cells #[.string a1_0, .int .i64 a1_1, .int .i64 a1_2, .int .i64 a1_3, .string a1_4] 24 (0, 0)) (by (with_reducible repeat ((refine blk_drewN ?_ _))); exact BK182.out)) : gb183 ≠ gb182)); clear BK182; clear HB; have BK182 := n0_; have HB := n1_; have BK183 := n2_; have GW183 := n3_; have GE183 := n4_; have NB182_183 := n5_; have NB183_182 := n6_; clear n0_ n1_ n2_ n3_ n4_ n5_ n6_; clear hb hbox hg; have hnb15 := NB182_183.out; have hnc15 := NB183_182.out; have hcz16_0 : w14.cell? ⟨gb182, 0, none⟩ = some (.string a1_0) := (blk_cell BK182.out 0).trans rfl; have hcz16_1 : w14.cell? ⟨gb182, 1, none⟩ = some (.int .i64 a1_1) := (blk_cell BK182.out 1).trans rfl; have hcz16_2 : w14.cell? ⟨gb182, 2, none⟩ = some (.int .i64 a1_2) := (blk_cell BK182.out 2).trans rfl; have hcz16_3 : w14.cell? ⟨gb182, 3, none⟩ = some (.int .i64 a1_3) := (blk_cell BK182.out 3).trans rfl; have hcz16_4 : w14.cell? ⟨gb182, 4, none⟩ = some (.string a1_4) := (blk_cell BK182.out 4).trans rfl; have hfz16_0 := blk_frozen BK182.out 0; have hfz16_1 := blk_frozen BK182.out 1; have hfz16_2 := blk_frozen BK182.out 2; have hfz16_3 := blk_frozen BK182.out 3; have hfz16_4 := blk_frozen BK182.out 4) | ((with_reducible refine gate_callee (f := 22) rfl ?_); refine goesL_ (some 9) rfl rfl Try.func22 (by kernel_rfl) rfl #[.slice A0 l0.length c0, .agg #[.string a1_0, .int .i64 a1_1, .int .i64 a1_2, .int .i64 a1_3, .string a1_4]] rfl (by (try simp only [List.map_toArray, List.map_cons, List.map_nil]); rfl) ?_; (with_reducible refine (beadrollref13_find.calls k _ _ l0 a1_0 a1_1 a1_2 a1_3 a1_4 t184 _ ?side1 ?side2 A3.out).mono ?_); (case side1 => repeat ((exact (Kd.C_below HR0.out HB.out)))); (case side2 => exact HC0.out); rintro e w17 ⟨rfl, hb⟩; refine ⟨_, rfl, ?_⟩; have n0_ := Aside0.mk (blk_below (g := gb182) (o := .cells #[.string a1_0, .int .i64 a1_1, .int .i64 a1_2, .int .i64 a1_3, .string a1_4] 24 (0, 0)) (by (with_reducible repeat ((refine blk_drewN ?_ _))); exact BK182.out) hb); have n1_ := Aside0.mk (blk_below (g := gb183) (o := .cells #[.string (⟨#[]⟩ : ByteArray), .int .i64 0, .int .i64 0, .int .i64 0, .string (⟨#[]⟩ : ByteArray)] 24 (0, 0)) (by (with_reducible repeat ((refine blk_drewN ?_ _))); exact BK183.out) hb); have n2_ := Aside0.mk (below_step (by repeat ((with_reducible (exact HB.out)))) hb); clear BK182; clear BK183; clear HB; have BK182 := n0_; have BK183 := n1_; have HB := n2_; clear n0_ n1_ n2_; (try clear hb); have p185 : 0 ≤ (t184 : Int) := of_decide_eq_true (by (with_reducible assumption)); have q185 : t184 < (l0.length : Int) := of_decide_eq_true (by (with_reducible assumption)); obtain ⟨ad185, e185, hx185_0, hx185_1, hx185_2, hx185_3, hx185_4⟩ := at_T24 HR0.out t184 p185 q185; cases e185; replace hx185_0 := (HB.out.cell (World.block_lt_of_cell? w _ hx185_0)).trans hx185_0; replace hx185_1 := (HB.out.cell (World.block_lt_of_cell? w _ hx185_1)).trans hx185_1; replace hx185_2 := (HB.out.cell (World.block_lt_of_cell? w _ hx185_2)).trans hx185_2; replace hx185_3 := (HB.out.cell (World.block_lt_of_cell? w _ hx185_3)).trans hx185_3; replace hx185_4 := (HB.out.cell (World.block_lt_of_cell? w _ hx185_4)).trans hx185_4; replace p185 := eq_true p185; replace q185 := eq_true q185; have hcz18_0 : w17.cell? ⟨gb183, 0, none⟩ = some (.string (⟨#[]⟩ : ByteArray)) := (blk_cell BK183.out 0).trans rfl; have hcz18_1 : w17.cell? ⟨gb183, 1, none⟩ = some (.int .i64 0) := (blk_cell BK183.out 1).trans rfl; have hcz18_2 : w17.cell? ⟨gb183, 2, none⟩ = some (.int .i64 0) := (blk_cell BK183.out 2).trans rfl; have hcz18_3 : w17.cell? ⟨gb183, 3, none⟩ = some (.int .i64 0) := (blk_cell BK183.out 3).trans rfl; have hcz18_4 : w17.cell? ⟨gb183, 4, none⟩ = some (.string (⟨#[]⟩ : ByteArray)) := (blk_cell BK183.out 4).trans rfl; have hfz18_0 := blk_frozen BK183.out 0; have hfz18_1 := blk_frozen BK183.out 1; have hfz18_2 := blk_frozen BK183.out 2; have hfz18_3 := blk_frozen BK183.out 3; have hfz18_4 := blk_frozen BK183.out 4))
    refine bodyPost_ret (results_ct rfl _ _ gb183 24 #[.string ((rd_T24 l0 t184).f0), .int .i64 ((rd_T24 l0 t184).f1), .int .i64 ((rd_T24 l0 t184).f2), .int .i64 ((rd_T24 l0 t184).f3), .string ((rd_T24 l0 t184).f4)] (0, 0) _ rfl (by (with_reducible repeat ((refine blk_drewN ?_ _))); refine blk_put (cs := #[.string ((rd_T24 l0 t184).f0), .int .i64 ((rd_T24 l0 t184).f1), .int .i64 ((rd_T24 l0 t184).f2), .int .i64 ((rd_T24 l0 t184).f3), .string (⟨#[]⟩ : ByteArray)]) ?_ 4 _ rfl; (with_reducible repeat ((refine blk_drewN ?_ _))); refine blk_put (cs := #[.string ((rd_T24 l0 t184).f0), .int .i64 ((rd_T24 l0 t184).f1), .int .i64 ((rd_T24 l0 t184).f2), .int .i64 0, .string (⟨#[]⟩ : ByteArray)]) ?_ 3 _ rfl; (with_reducible repeat ((refine blk_drewN ?_ _))); refine blk_put (cs := #[.string ((rd_T24 l0 t184).f0), .int .i64 ((rd_T24 l0 t184).f1), .int .i64 0, .int .i64 0, .string (⟨#[]⟩ : ByteArray)]) ?_ 2 _ rfl; (with_reducible repeat ((refine blk_drewN ?_ _))); refine blk_put (cs := #[.string ((rd_T24 l0 t184).f0), .int .i64 0, .int .i64 0, .int .i64 0, .string (⟨#[]⟩ : ByteArray)]) ?_ 1 _ rfl; (with_reducible repeat ((refine blk_drewN ?_ _))); refine blk_put (cs := #[.string (⟨#[]⟩ : ByteArray), .int .i64 0, .int .i64 0, .int .i64 0, .string (⟨#[]⟩ : ByteArray)]) ?_ 0 _ rfl; (with_reducible repeat ((refine blk_drewN ?_ _))); exact BK183.out) Try.underlying24 rfl (by kernel_rfl)) rfl ?_
    exact ⟨by rfl, by repeat ((with_reducible first | exact HB.out | refine below_set ?_ GE183.out))⟩
   ·rw [if_neg c12] at H
    exact absurd H (by simp)
  ·rw [if_neg c11] at H
   exact absurd H (by simp)
end Go.Proofs.Ytnpiglojamhpiaa.PRr
namespace Go.Proofs.Ytnpiglojamhpiaa.PRr
open Go.RowKit Go.Proofs.YtnpiglojamhpiaaW.PrintWords Go.Proofs.YtnpiglojamhpiaaW.PrintLast Go.Proofs.YtnpiglojamhpiaaW.PrintMore Go.Proofs.Ytnpiglojamhpiaa.Given Go.Proofs.Ytnpiglojamhpiaa.PRd
attribute [local go_sem] max2_int min2_int max_two min_two max_three min_three max_four min_four   -- for this text's walks alone
set_option linter.unusedVariables false
set_option linter.unusedSimpArgs false
def beadrollref13_Rights.l0 : Nat → List (S24) → Int → Option (Bool)
 | 0, _, _ => none
 | k + 1, x0, x3 => if x3 < (x0.length : Int) then (if 0 ≤ x3 then (if (((rd_T24 x0 x3).f4).size : Int) > 2000 then (some false) else ((beadrollref11_Right.f k ((rd_T24 x0 x3).f0) ((rd_T24 x0 x3).f1) ((rd_T24 x0 x3).f2) ((rd_T24 x0 x3).f3) ((rd_T24 x0 x3).f4)).bind fun t188 => (if t188 = true then (beadrollref13_Rights.l0 k x0 (wrap64 (x3 + 1))) else (some false)))) else (none)) else (some (decide ((x0.length : Int) ≤ 30)))
def beadrollref13_Rights.f (k : Nat) (l0 : List (S24)) : Option (Bool) := beadrollref13_Rights.l0 k l0 0
set_option maxHeartbeats 8000000 in
set_option maxRecDepth 100000 in
theorem beadrollref13_Rights.calls (k : Nat) (A0 : Option Addr) (c0 : Nat) (l0 : List (S24)) (r : Bool) (w : World) (hr0 : Kd.C k24 w A0 l0.length l0) (hc0 : l0.length ≤ c0) (h : beadrollref13_Rights.f k l0 = some r) :
  Calls Try.prog 6 #[.slice A0 l0.length c0] w fun e w' => e = .returned (.bool r) ∧ Below w.heap.size w w' := by
 have hu24 := Try.underlying24
 have HR0 := Aside0.mk hr0
 have HC0 := Aside0.mk hc0
 clear hr0 hc0
 have HB := Aside0.mk (Below.refl w.heap.size w)
 have H : (beadrollref13_Rights.l0 k l0 0) = some r := h
 clear h
 have H' := Aside0.mk H
 clear H
 go_enter Try.func6, Try.ntmps6
 go_wp2
 go_loopg [3] k (fun kq v3 w' => ∃ (x3_1 : Int), v3 = .int .i64 x3_1 ∧ Aside0 (beadrollref13_Rights.l0 kq l0 x3_1 = some r) ∧ Aside0 (kq ≤ k) ∧ Aside0 (Below w.heap.size w w'))
 case atStart => exact ⟨(0), (by rfl), H', ⟨Nat.le_refl _⟩, ⟨by repeat ((with_reducible (exact HB.out)))⟩⟩
 case round =>
  clear H'
  obtain ⟨x3_1, rfl, HA, HK1, HB⟩ := hrel
  cases gk with
  | zero => exact absurd HA.out (by simp [beadrollref13_Rights.l0])
  | succ k1 =>
   have H := HA.out
   clear HA
   simp only [beadrollref13_Rights.l0] at H
   by_cases c2 : x3_1 < (l0.length : Int)
   ·rw [if_pos c2] at H
    have c2b0 : decide (x3_1 < (l0.length : Int)) = true := decide_eq_true c2
    clear c2
    by_cases c3 : 0 ≤ x3_1
    ·rw [if_pos c3] at H
     have c3b0 : decide (0 ≤ x3_1) = true := decide_eq_true c3
     clear c3
     by_cases c4 : (((rd_T24 l0 x3_1).f4).size : Int) > 2000
     ·rw [if_pos c4] at H
      have c4b0 : decide (2000 < (((rd_T24 l0 x3_1).f4).size : Int)) = true := decide_eq_true c4
      have c4b1 : decide (2000 < ((rd_T24 l0 x3_1).f4).size) = true := decide_eq_true (by omega)
      clear c4
      obtain rfl := Option.some.inj H
      have p186 : 0 ≤ (x3_1 : Int) := of_decide_eq_true (by (with_reducible assumption))
      have q186 : x3_1 < (l0.length : Int) := of_decide_eq_true (by (with_reducible assumption))
      obtain ⟨ad186, e186, hx186_0, hx186_1, hx186_2, hx186_3, hx186_4⟩ := at_T24 HR0.out x3_1 p186 q186
      cases e186
      replace hx186_0 := (HB.out.cell (World.block_lt_of_cell? w _ hx186_0)).trans hx186_0
      replace hx186_1 := (HB.out.cell (World.block_lt_of_cell? w _ hx186_1)).trans hx186_1
      replace hx186_2 := (HB.out.cell (World.block_lt_of_cell? w _ hx186_2)).trans hx186_2
      replace hx186_3 := (HB.out.cell (World.block_lt_of_cell? w _ hx186_3)).trans hx186_3
      replace hx186_4 := (HB.out.cell (World.block_lt_of_cell? w _ hx186_4)).trans hx186_4
      replace p186 := eq_true p186
      replace q186 := eq_true q186
      go_wp2
      go_ret
      exact ⟨by rfl, by repeat ((with_reducible (exact HB.out)))⟩
     ·rw [if_neg c4] at H
      have c4b0 : decide (2000 < (((rd_T24 l0 x3_1).f4).size : Int)) = false := decide_eq_false c4
      have c4b1 : decide (2000 < ((rd_T24 l0 x3_1).f4).size) = false := decide_eq_false (by omega)
      clear c4
      replace H := Option.bind_eq_some_iff.mp H
      obtain ⟨t188, A50, H⟩ := H
      replace H : (if t188 = true then (beadrollref13_Rights.l0 k1 l0 (wrap64 (x3_1 + 1))) else (some false)) = some r := H
      have A5 := Aside0.mk A50
      clear A50
      by_cases c6 : t188 = true
      ·subst c6
       have H1 : (beadrollref13_Rights.l0 k1 l0 (wrap64 (x3_1 + 1))) = some r := by rw [if_pos rfl] at H; exact H
       clear H
       have H := H1
       clear H1
       have H' := Aside0.mk H
       clear H
       have p186 : 0 ≤ (x3_1 : Int) := of_decide_eq_true (by (with_reducible assumption))
       have q186 : x3_1 < (l0.length : Int) := of_decide_eq_true (by (with_reducible assumption))
       obtain ⟨ad186, e186, hx186_0, hx186_1, hx186_2, hx186_3, hx186_4⟩ := at_T24 HR0.out x3_1 p186 q186
       cases e186
       replace hx186_0 := (HB.out.cell (World.block_lt_of_cell? w _ hx186_0)).trans hx186_0
       replace hx186_1 := (HB.out.cell (World.block_lt_of_cell? w _ hx186_1)).trans hx186_1
       replace hx186_2 := (HB.out.cell (World.block_lt_of_cell? w _ hx186_2)).trans hx186_2
       replace hx186_3 := (HB.out.cell (World.block_lt_of_cell? w _ hx186_3)).trans hx186_3
       replace hx186_4 := (HB.out.cell (World.block_lt_of_cell? w _ hx186_4)).trans hx186_4
       replace p186 := eq_true p186
       replace q186 := eq_true q186
       have p187 : 0 ≤ (x3_1 : Int) := of_decide_eq_true (by (with_reducible assumption))
       have q187 : x3_1 < (l0.length : Int) := of_decide_eq_true (by (with_reducible assumption))
       obtain ⟨ad187, e187, hx187_0, hx187_1, hx187_2, hx187_3, hx187_4⟩ := at_T24 HR0.out x3_1 p187 q187
       obtain rfl : ad186 = ad187 := (by injection e187)
       replace hx187_0 := (HB.out.cell (World.block_lt_of_cell? w _ hx187_0)).trans hx187_0
       replace hx187_1 := (HB.out.cell (World.block_lt_of_cell? w _ hx187_1)).trans hx187_1
       replace hx187_2 := (HB.out.cell (World.block_lt_of_cell? w _ hx187_2)).trans hx187_2
       replace hx187_3 := (HB.out.cell (World.block_lt_of_cell? w _ hx187_3)).trans hx187_3
       replace hx187_4 := (HB.out.cell (World.block_lt_of_cell? w _ hx187_4)).trans hx187_4
       replace p187 := eq_true p187
       replace q187 := eq_true q187
       go_wp2_with (((go_at_call 16; (with_reducible refine (beadrollref11_Right.calls k1 ((rd_T24 l0 x3_1).f0) ((rd_T24 l0 x3_1).f1) ((rd_T24 l0 x3_1).f2) ((rd_T24 l0 x3_1).f3) ((rd_T24 l0 x3_1).f4) true _ A5.out).mono ?_); rintro e w7 ⟨rfl, hb⟩; have n0_ := Aside0.mk (below_step (by repeat ((with_reducible (exact HB.out)))) hb); clear HB; have HB := n0_; clear n0_; (try clear hb))))
       go_roundg k1
       case measure => have := HK1.out; omega
       case rel => exact ⟨(wrap64 (x3_1 + 1)), (by rfl), H', ⟨by have := HK1.out; omega⟩, ⟨by repeat ((with_reducible (exact HB.out)))⟩⟩
      ·replace c6 := Bool.eq_false_iff.mpr c6
       subst c6
       have H1 : (some false) = some r := by rw [if_neg (show ¬ (false = true) by decide)] at H; exact H
       clear H
       have H := H1
       clear H1
       obtain rfl := Option.some.inj H
       have p186 : 0 ≤ (x3_1 : Int) := of_decide_eq_true (by (with_reducible assumption))
       have q186 : x3_1 < (l0.length : Int) := of_decide_eq_true (by (with_reducible assumption))
       obtain ⟨ad186, e186, hx186_0, hx186_1, hx186_2, hx186_3, hx186_4⟩ := at_T24 HR0.out x3_1 p186 q186
       cases e186
       replace hx186_0 := (HB.out.cell (World.block_lt_of_cell? w _ hx186_0)).trans hx186_0
       replace hx186_1 := (HB.out.cell (World.block_lt_of_cell? w _ hx186_1)).trans hx186_1
       replace hx186_2 := (HB.out.cell (World.block_lt_of_cell? w _ hx186_2)).trans hx186_2
       replace hx186_3 := (HB.out.cell (World.block_lt_of_cell? w _ hx186_3)).trans hx186_3
       replace hx186_4 := (HB.out.cell (World.block_lt_of_cell? w _ hx186_4)).trans hx186_4
       replace p186 := eq_true p186
       replace q186 := eq_true q186
       have p187 : 0 ≤ (x3_1 : Int) := of_decide_eq_true (by (with_reducible assumption))
       have q187 : x3_1 < (l0.length : Int) := of_decide_eq_true (by (with_reducible assumption))
       obtain ⟨ad187, e187, hx187_0, hx187_1, hx187_2, hx187_3, hx187_4⟩ := at_T24 HR0.out x3_1 p187 q187
       obtain rfl : ad186 = ad187 := (by injection e187)
       replace hx187_0 := (HB.out.cell (World.block_lt_of_cell? w _ hx187_0)).trans hx187_0
       replace hx187_1 := (HB.out.cell (World.block_lt_of_cell? w _ hx187_1)).trans hx187_1
       replace hx187_2 := (HB.out.cell (World.block_lt_of_cell? w _ hx187_2)).trans hx187_2
       replace hx187_3 := (HB.out.cell (World.block_lt_of_cell? w _ hx187_3)).trans hx187_3
       replace hx187_4 := (HB.out.cell (World.block_lt_of_cell? w _ hx187_4)).trans hx187_4
       replace p187 := eq_true p187
       replace q187 := eq_true q187
       go_wp2_with (((go_at_call 16; (with_reducible refine (beadrollref11_Right.calls k1 ((rd_T24 l0 x3_1).f0) ((rd_T24 l0 x3_1).f1) ((rd_T24 l0 x3_1).f2) ((rd_T24 l0 x3_1).f3) ((rd_T24 l0 x3_1).f4) false _ A5.out).mono ?_); rintro e w8 ⟨rfl, hb⟩; have n0_ := Aside0.mk (below_step (by repeat ((with_reducible (exact HB.out)))) hb); clear HB; have HB := n0_; clear n0_; (try clear hb))))
       go_ret
       exact ⟨by rfl, by repeat ((with_reducible (exact HB.out)))⟩
    ·rw [if_neg c3] at H
     exact absurd H (by simp)
   ·rw [if_neg c2] at H
    have c2b0 : decide (x3_1 < (l0.length : Int)) = false := decide_eq_false c2
    clear c2
    obtain rfl := Option.some.inj H
    go_wp2
    go_ret
    exact ⟨by rfl, by repeat ((with_reducible (exact HB.out)))⟩
end Go.Proofs.Ytnpiglojamhpiaa.PRr
namespace Go.Proofs.Ytnpiglojamhpiaa.Rrs
open Go.RowKit Go.Proofs.YtnpiglojamhpiaaW.PrintWords Go.Proofs.YtnpiglojamhpiaaW.PrintLast Go.Proofs.YtnpiglojamhpiaaW.PrintMore Go.Proofs.Ytnpiglojamhpiaa.Given Go.Proofs.Ytnpiglojamhpiaa.PRd Go.Proofs.Ytnpiglojamhpiaa.PRr
set_option linter.unusedVariables false
theorem set_block {w : World} {g : Nat} {cur : List Value} (h : w.heap[g]? = some (.cells cur.toArray tRR (0, 0))) (k : Nat) (v : Value) : (w.setCell ⟨g, k, none⟩ v).heap[g]? = some (.cells (cur.set k v).toArray tRR (0, 0)) := by
  rw [setCell_eq_setRow w g k cur.toArray tRR (0, 0) v h, setRow_heap w g _ _ _ _ h]
  simp
theorem flat_set (a0 a1 a2 a3 a4 : Value) (x : RR) (hx : cellsR x = [a0, a1, a2, a3, a4]) : ∀ (l : List RR) (rest : List Value) (p : Nat), p < l.length →
    (((((flat l ++ rest).set (p * 5) a0).set (p * 5 + 1) a1).set (p * 5 + 2) a2).set (p * 5 + 3) a3).set (p * 5 + 4) a4 = flat (l.set p x) ++ rest
  | [], _, p, h => by simp at h
  | y :: l, rest, 0, _ => by
    show _ = cellsR x ++ flat l ++ rest
    rw [hx]
    rfl
  | y :: l, rest, p + 1, h => by
    have ih := flat_set a0 a1 a2 a3 a4 x hx l rest p (by simpa using h)
    show _ = cellsR y ++ flat (l.set p x) ++ rest
    rw [List.append_assoc, ← ih]
    have e : (p + 1) * 5 = p * 5 + 5 := by omega
    rw [e]
    rfl
theorem Row.put {w : World} {base g cap : Nat} {l : List RR} {rest : List Value} (h : Row w base g cap l rest) (x : RR) (p : Nat) (hp : p < l.length) (a0 a1 a2 a3 a4 : Value) (hx : cellsR x = [a0, a1, a2, a3, a4]) :
    Row (((((w.setCell ⟨g, p * 5, none⟩ a0).setCell ⟨g, p * 5 + 1, none⟩ a1).setCell ⟨g, p * 5 + 2, none⟩ a2).setCell ⟨g, p * 5 + 3, none⟩ a3).setCell ⟨g, p * 5 + 4, none⟩ a4) base g cap (l.set p x) rest := by
  have hb := set_block (set_block (set_block (set_block (set_block h.blk (p * 5) a0) (p * 5 + 1) a1) (p * 5 + 2) a2) (p * 5 + 3) a3) (p * 5 + 4) a4
  rw [flat_set a0 a1 a2 a3 a4 x hx l rest p hp] at hb
  exact ⟨hb, h.lo, h.fits, by rw [List.length_set]; exact h.len⟩
def eqR (x y : RR) : Bool := x.f0.toList == y.f0.toList && (x.f1 == y.f1 && (x.f2 == y.f2 && (x.f3 == y.f3 && (x.f4.toList == y.f4.toList))))
noncomputable def putS (l : List RR) (x : RR) : List RR := if hit l x = true then l.set (place l x) x else l.take (place l x) ++ x :: l.drop (place l x)
noncomputable def putB (l : List RR) (x : RR) : Bool := if hit l x = true then !(eqR (rdR l (place l x : Nat)) x) else true
end Go.Proofs.Ytnpiglojamhpiaa.Rrs
namespace Go.Proofs.Ytnpiglojamhpiaa.Given
open Go.RowKit Go.Proofs.YtnpiglojamhpiaaW.PrintWords Go.Proofs.YtnpiglojamhpiaaW.PrintLast Go.Proofs.YtnpiglojamhpiaaW.PrintMore Go.Proofs.Ytnpiglojamhpiaa.PRd Go.Proofs.Ytnpiglojamhpiaa.PRr Go.Proofs.Ytnpiglojamhpiaa.Rrs
set_option linter.unusedVariables false
open Classical in
noncomputable def rrset_Put.f (l0 : List (S24)) (a1_0 : ByteArray) (a1_1 : Int) (a1_2 : Int) (a1_3 : Int) (a1_4 : ByteArray) : Option (List (S24) × Bool) :=
  if Splits l0 ⟨a1_0, a1_1, a1_2, a1_3, a1_4⟩ then some (putS l0 ⟨a1_0, a1_1, a1_2, a1_3, a1_4⟩, putB l0 ⟨a1_0, a1_1, a1_2, a1_3, a1_4⟩) else none
attribute [local go_sem high] eqA24
set_option maxHeartbeats 8000000 in
set_option maxRecDepth 100000 in
theorem rrset_Put.calls (A0 : Option Addr) (c0 : Nat) (l0 : List (S24)) (a1_0 : ByteArray) (a1_1 : Int) (a1_2 : Int) (a1_3 : Int) (a1_4 : ByteArray) (r1 : List (S24)) (r2 : Bool) (w : World) (hr0 : Kd.C k24 w A0 l0.length l0) (hc0 : l0.length ≤ c0) (h : rrset_Put.f l0 a1_0 a1_1 a1_2 a1_3 a1_4 = some (r1, r2)) :
    Calls Try.prog 8 #[.slice A0 l0.length c0, .agg #[.string a1_0, .int .i64 a1_1, .int .i64 a1_2, .int .i64 a1_3, .string a1_4]] w fun e w' => ∃ v0_ : Value, e = .returned (.tuple #[v0_, .bool r2]) ∧ Kd.R k24 24 w' w.heap.size (fun _ => True) v0_ r1 ∧ Below w.heap.size w w' := by
  unfold rrset_Put.f at h
  obtain ⟨x, hx⟩ : ∃ x : RR, (⟨a1_0, a1_1, a1_2, a1_3, a1_4⟩ : RR) = x := ⟨_, rfl⟩
  rw [hx] at h
  have hS : Splits l0 x := Classical.byContradiction fun hn => by rw [if_neg hn] at h; cases h
  rw [if_pos hS] at h
  injection h with h
  injection h with h1 h2
  have hat : rrset_at.f l0 a1_0 a1_1 a1_2 a1_3 a1_4 = some (((place l0 x : Nat) : Int), hit l0 x) := by unfold rrset_at.f; rw [hx, if_pos hS]
  have hcl : slices_Clone.f l0 = some l0 := by unfold slices_Clone.f; rw [if_pos hS.len]
  have HS := Lib.hid hS
  have H1 := Lib.hid h1
  have H2 := Lib.hid h2
  have HX := Lib.hid hx
  have HAT := Lib.hid hat
  have HCL := Lib.hid hcl
  have HR := Lib.hid hr0
  have HP := Lib.hid (place_le l0 x)
  clear h1 h2 hx hat hcl hS hr0
  have HB := Aside0.mk (Below.refl w.heap.size w)
  have hu41 := Try.underlying24
  go_enter Try.func8, Try.ntmps8
  go_wp2_with (first | ((with_reducible refine gate_dst (N := 3) rfl ?_); refine box_event ?hg (N := 3) ?hd (cs := #[.string a1_0, .int .i64 a1_1, .int .i64 a1_2, .int .i64 a1_3, .string a1_4]) (t := 24) ?hr ?_; (case hd => rfl); (case hg => rfl); (case hr => first | (go_simp; done) | (go_simp; rfl)); intro gb hg w3 hbox hb; have n0_ := Aside0.mk (below_step (HB.out) hb); have n1_ := Aside0.mk (hbox); have n2_ := Aside0.mk (show w.heap.size ≤ gb by rw [hg]; exact below_size HB.out); clear HB; have HB := n0_; have BK := n1_; have GE := n2_; clear n0_ n1_ n2_; clear hb hbox hg))
  refine (slices_Clone.calls A0 c0 l0 l0 w3 (Kd.C_below HR.out HB.out) hc0 HCL.out).mono ?_
  rintro e w4 ⟨v, rfl, hv, hb4⟩
  obtain ⟨A, c, rfl, hlc, hC⟩ := Kd.R_reads hv
  have HB4 := Lib.hid (below_then HB.out HB.out.size hb4)
  have BK4 := Lib.hid (blk_below BK.out hb4)
  have HV := Lib.hid (show Kd.R k24 24 w4 w3.heap.size (fun k => k ≠ gb) (.slice A l0.length c) l0 from Kd.R_mono (Kd.R_bound hv) fun k hk e => by have h1 := hk.2.1; have h2 := blk_lt BK.out; omega)
  have HS3 := Lib.hid HB.out.size
  have HC := Lib.hid hC
  clear hv hC hb4 HB BK
  have hcz0 : w4.cell? ⟨gb, 0, none⟩ = some (.string a1_0) := (blk_cell BK4.out 0).trans rfl
  have hcz1 : w4.cell? ⟨gb, 1, none⟩ = some (.int .i64 a1_1) := (blk_cell BK4.out 1).trans rfl
  have hcz2 : w4.cell? ⟨gb, 2, none⟩ = some (.int .i64 a1_2) := (blk_cell BK4.out 2).trans rfl
  have hcz3 : w4.cell? ⟨gb, 3, none⟩ = some (.int .i64 a1_3) := (blk_cell BK4.out 3).trans rfl
  have hcz4 : w4.cell? ⟨gb, 4, none⟩ = some (.string a1_4) := (blk_cell BK4.out 4).trans rfl
  go_wp2_with fail
  refine (rrset_at.calls A c l0 a1_0 a1_1 a1_2 a1_3 a1_4 _ _ w4 HC.out hlc HAT.out).mono ?_
  rintro e w5 ⟨rfl, hb5⟩
  have HB5 := Lib.hid (below_then HB4.out HB4.out.size hb5)
  have BK5 := Lib.hid (blk_below BK4.out hb5)
  have HV5 := Lib.hid (Kd.R_below HV.out hb5)
  have HSZ := Lib.hid hb5.size
  clear hb5 HB4 BK4 HV HC hcz0 hcz1 hcz2 hcz3 hcz4
  have hcz0 : w5.cell? ⟨gb, 0, none⟩ = some (.string a1_0) := (blk_cell BK5.out 0).trans rfl
  have hcz1 : w5.cell? ⟨gb, 1, none⟩ = some (.int .i64 a1_1) := (blk_cell BK5.out 1).trans rfl
  have hcz2 : w5.cell? ⟨gb, 2, none⟩ = some (.int .i64 a1_2) := (blk_cell BK5.out 2).trans rfl
  have hcz3 : w5.cell? ⟨gb, 3, none⟩ = some (.int .i64 a1_3) := (blk_cell BK5.out 3).trans rfl
  have hcz4 : w5.cell? ⟨gb, 4, none⟩ = some (.string a1_4) := (blk_cell BK5.out 4).trans rfl
  obtain ⟨p, hp⟩ : ∃ p, place l0 x = p := ⟨_, rfl⟩
  have HPP := Lib.hid hp
  cases hh : hit l0 x with
  | false =>
    have HH := Lib.hid hh
    rw [hp]
    clear hh hp
    go_wp2_with fail
    have hR5 : Kd.R kRR tRR (w5.alloc (.cells (cellsR x).toArray tRR)) w.heap.size (fun _ => True) (.slice A l0.length c) l0 := Kd.R_mono (Kd.R_lower (Kd.R_below HV5.out (below_alloc (Below.refl _ _) _)) HS3.out) (fun _ _ => trivial)
    have hB5 : Below w.heap.size w (w5.alloc (.cells (cellsR x).toArray tRR)) := below_alloc HB5.out _
    have hne : some w5.heap.size ≠ (Value.slice A l0.length c).ownBlock := fun e => by
      have h1 := (Kd.R_bound HV5.out).1 _ e.symm
      omega
    have hi := insert_any l0 x HS.out.len p (by rw [← HPP.out]; exact HP.out) w.heap.size (fun _ => True) w (w5.alloc (.cells (cellsR x).toArray tRR)) hB5 hB5.size _ hR5 (fun _ _ => trivial) w5.heap.size (by show (w5.heap.push _)[w5.heap.size]? = _; simp) hne
    have hxc : cellsR x = [.string a1_0, .int .i64 a1_1, .int .i64 a1_2, .int .i64 a1_3, .string a1_4] := by rw [← HX.out]; rfl
    rw [hxc] at hi
    have HI := Lib.hid hi
    clear hi hR5 hB5 hne hxc hcz0 hcz1 hcz2 hcz3 hcz4
    refine (HI.out).mono ?_
    rintro e w6 ⟨v', rfl, hv', hb6⟩
    have e1 : putS l0 x = l0.take p ++ x :: l0.drop p := by unfold putS; rw [HH.out, if_neg (by decide), HPP.out]
    have e2 : putB l0 x = true := by unfold putB; rw [HH.out, if_neg (by decide)]
    have HV6 := Lib.hid hv'
    have HB6 := Lib.hid hb6
    have E1 := Lib.hid (H1.out.symm.trans e1)
    have E2 := Lib.hid (H2.out.symm.trans e2)
    clear hv' hb6 e1 e2
    go_wp2_with fail
    go_ret2
    exact ⟨_, by rw [E2.out]; rfl, by rw [E1.out]; exact HV6.out, HB6.out⟩
  | true =>
    have HH := Lib.hid hh
    rw [hp]
    clear hh hp
    have hpl : p < l0.length := by
      have h := HH.out
      unfold hit at h
      rw [HPP.out] at h
      simp at h
      exact h.1
    rcases Row.of_R HV5.out with ⟨_, hn0⟩ | ⟨g, c', rest, hsl, hg, hrow⟩
    · rw [hn0] at hpl; simp at hpl
    · injection hsl with hA _ hcc
      subst hA hcc
      have p1 : (0 : Int) ≤ (p : Int) := by omega
      have q1 : (p : Int) < (l0.length : Int) := by omega
      obtain ⟨ad, e1, hx0, hx1, hx2, hx3, hx4⟩ := at_T24 (Kd.R_reads' HV5.out).2.2 (p : Int) p1 q1
      cases e1
      rw [Int.toNat_natCast] at hx0 hx1 hx2 hx3 hx4
      have hgw : (g : Nat) ≠ gb := hg
      have b0 := blk_frozen hrow.blk (p * 5)
      have b1 := blk_frozen hrow.blk (p * 5 + 1)
      have b2 := blk_frozen hrow.blk (p * 5 + 2)
      have b3 := blk_frozen hrow.blk (p * 5 + 3)
      have b4 := blk_frozen hrow.blk (p * 5 + 4)
      simp only [Addr.add_lit, Nat.zero_add] at hx0 hx1 hx2 hx3 hx4
      have HROW := Lib.hid hrow
      clear hrow
      go_wp2_with fail
      go_quiet (fail)
      go_wp2_with fail
      have hxc : cellsR x = [.string a1_0, .int .i64 a1_1, .int .i64 a1_2, .int .i64 a1_3, .string a1_4] := by rw [← HX.out]; rfl
      have hrow2 : Row (w5.drewN nq) w.heap.size g c l0 rest := ⟨HROW.out.blk, Nat.le_trans HS3.out HROW.out.lo, HROW.out.fits, HROW.out.len⟩
      have hfin := hrow2.put x p hpl _ _ _ _ _ hxc
      have hge : w.heap.size ≤ g := Nat.le_trans HS3.out HROW.out.lo
      have hBF : Below w.heap.size w ((((((w5.drewN nq).setCell ⟨g, p * 5, none⟩ (.string a1_0)).setCell ⟨g, p * 5 + 1, none⟩ (.int .i64 a1_1)).setCell ⟨g, p * 5 + 2, none⟩ (.int .i64 a1_2)).setCell ⟨g, p * 5 + 3, none⟩ (.int .i64 a1_3)).setCell ⟨g, p * 5 + 4, none⟩ (.string a1_4)) :=
        below_set (below_set (below_set (below_set (below_set (pw_below_drewN HB5.out _) hge) hge) hge) hge) hge
      have e1 : putS l0 x = l0.set p x := by unfold putS; rw [HH.out, if_pos rfl, HPP.out]
      have e2 : putB l0 x = !(eqR (rdR l0 (p : Nat)) x) := by unfold putB; rw [HH.out, if_pos rfl, HPP.out]
      have hr2 : r2 = !(eqR (rdR l0 (p : Nat)) x) := H2.out.symm.trans e2
      have hr1 : r1 = l0.set p x := H1.out.symm.trans e1
      have hR := hfin.R (ok := fun _ => True) trivial
      rw [List.length_set, ← hr1] at hR
      have HRR := Lib.hid hR
      have HBF := Lib.hid hBF
      have HR2 := Lib.hid hr2
      clear hR hBF hr1 hr2 e1 e2 hfin hrow2 hxc
      go_ret2
      refine ⟨_, ?_, HRR.out, HBF.out⟩
      rw [HR2.out, ← HX.out]
      show _ = Ending.returned (Value.tuple #[_, Value.bool (!(_ == _ && (_ == _ && (_ == _ && (_ == _ && (_ == _))))))])
      simp only [Bool.not_and]
      rfl
end Go.Proofs.Ytnpiglojamhpiaa.Given
namespace Go.Proofs.Ytnpiglojamhpiaa.Rrs
open Go.RowKit Go.Proofs.YtnpiglojamhpiaaW.PrintWords Go.Proofs.YtnpiglojamhpiaaW.PrintLast Go.Proofs.YtnpiglojamhpiaaW.PrintMore Go.Proofs.Ytnpiglojamhpiaa.Given Go.Proofs.Ytnpiglojamhpiaa.PRd Go.Proofs.Ytnpiglojamhpiaa.PRr Go.Proofs.Ytnpiglojamhpiaa.Oct Go.Proofs.Ytnpiglojamhpiaa.Name Go.Proofs.Ytnpiglojamhpiaa.Cmp Go.Proofs.Ytnpiglojamhpiaa.NameFacts Go.Proofs.Ytnpiglojamhpiaa.RdataFacts Go.Proofs.Ytnpiglojamhpiaa.SetLaw
set_option linter.unusedVariables false
def fine (x : RR) : Prop := rightB x.f0 = true ∧ x.f4.size ≤ 100000
def rcO (k : Nat) (x y : RR) : Option Int := beadrollref11_Compare.f k x.f0 x.f1 x.f2 x.f3 x.f4 y.f0 y.f1 y.f2 y.f3 y.f4
theorem ev_rcmp (x y : RR) (hx : fine x) (hy : fine y) : Ev (fun k => rcO k x y) (cmpRR x y) := ⟨FU + 4000, fun k hk => rcmp_eq x y hx.1 hy.1 hx.2 hy.2 k hk⟩
theorem cmpC_fine {x y : RR} (hx : fine x) (hy : fine y) : cmpC x y = cmpRR x y := cmpC_is x y hx.1 hy.1 hx.2 hy.2
theorem Ev.const {α : Type} {o : Option α} {r : α} (h : o = some r) : Ev (fun _ => o) r := ⟨0, fun _ _ => h⟩
def typedB (c : Int) (d : ByteArray) : Bool := if c = 1 then true else if c = 254 then !d.toList.isEmpty else false
def rightRR (x : RR) : Bool := rightB x.f0 && (decide (0 ≤ x.f1) && (decide (x.f1 ≤ 65535) && (decide (0 ≤ x.f2) && (decide (x.f2 ≤ 65535) && (decide (0 ≤ x.f3) && (decide (x.f3 ≤ 2147483647) && (decide (x.f4.size ≤ 65535) && (!typedB x.f2 x.f4 || rightD x.f1 x.f4))))))))
theorem rightRR_fine {x : RR} (h : rightRR x = true) : fine x := by
  unfold rightRR at h
  simp only [Bool.and_eq_true, decide_eq_true_eq] at h
  exact ⟨h.1, by omega⟩
theorem typed_f (c : Int) (d : ByteArray) : beadrollref11_typed.f c d.toList.isEmpty = some (typedB c d) := by
  unfold beadrollref11_typed.f typedB
  repeat' split
  all_goals rfl
theorem ev_rdright (t : Int) (d : ByteArray) (h : d.size ≤ 1000000) : Ev (fun k => beadrollref10_Right.f k t d) (rightD t d) := ⟨FU + 2000, fun k hk => rright_d t d h k hk⟩
theorem ev_rnright (n : ByteArray) : Ev (fun k => beadrollref07_Right.f k n) (rightB n) := ⟨600, fun k hk => rright_f n k hk⟩
theorem ev_rright_j (b : Bool) (x : RR) (h : b = false → x.f4.size ≤ 1000000) : Ev (fun k => beadrollref11_Right.j0 k b x.f0 x.f1 x.f2 x.f3 x.f4) (!b && (!typedB x.f2 x.f4 || rightD x.f1 x.f4)) := by
  have hs : ∀ k, beadrollref11_Right.j0 (k + 1) b x.f0 x.f1 x.f2 x.f3 x.f4 = if b = true then some false else (beadrollref11_typed.f x.f2 x.f4.toList.isEmpty).bind fun t => if t = true then (beadrollref10_Right.f k x.f1 x.f4).bind fun u => some u else some true := fun k => by
    simp only [beadrollref11_Right.j0]
  refine Ev.step hs ?_
  cases b
  · simp only [typed_f, Option.bind_some, Bool.false_eq_true, if_false]
    cases ht : typedB x.f2 x.f4
    · simp only [Bool.false_eq_true, if_false]
      exact Ev.now _
    · simp only [if_true]
      refine Ev.bind (ev_rdright _ _ (h rfl)) ?_
      exact Ev.now _
  · simp only [if_true]
    exact Ev.now _
theorem ev_rright (x : RR) : Ev (fun k => beadrollref11_Right.f k x.f0 x.f1 x.f2 x.f3 x.f4) (rightRR x) := by
  have hs : ∀ k, beadrollref11_Right.f k x.f0 x.f1 x.f2 x.f3 x.f4 = (beadrollref07_Right.f k x.f0).bind fun t => beadrollref11_Right.j0 k (!(t && (decide (0 ≤ x.f1) && (decide (x.f1 ≤ 65535) && (decide (0 ≤ x.f2) && (decide (x.f2 ≤ 65535) && (decide (0 ≤ x.f3) && (decide (x.f3 ≤ 2147483647) && decide (x.f4.size ≤ 65535))))))))) x.f0 x.f1 x.f2 x.f3 x.f4 := fun k => by
    unfold beadrollref11_Right.f
    congr 1
    funext t
    by_cases h1 : x.f1 < 0
    · simp [h1, show ¬ (0 ≤ x.f1) by omega]
    by_cases h2 : x.f1 > 65535
    · simp [h1, h2, show ¬ (x.f1 ≤ 65535) by omega]
    by_cases h3 : x.f2 < 0
    · simp [h1, h2, h3, show ¬ (0 ≤ x.f2) by omega]
    by_cases h4 : x.f2 > 65535
    · simp [h1, h2, h3, h4, show ¬ (x.f2 ≤ 65535) by omega]
    by_cases h5 : x.f3 < 0
    · simp [h1, h2, h3, h4, h5, show ¬ (0 ≤ x.f3) by omega]
    by_cases h6 : x.f3 > 2147483647
    · simp [h1, h2, h3, h4, h5, h6, show ¬ (x.f3 ≤ 2147483647) by omega]
    have e7 : decide ((x.f4.size : Int) > 65535) = !decide (x.f4.size ≤ 65535) := by
      by_cases h7 : x.f4.size ≤ 65535
      · rw [decide_eq_true h7, decide_eq_false (by omega)]; rfl
      · rw [decide_eq_false h7, decide_eq_true (by omega)]; rfl
    rw [if_neg h1, if_neg h2, if_neg h3, if_neg h4, if_neg h5, if_neg h6, e7]
    cases t
    · simp
    · simp [show 0 ≤ x.f1 by omega, show x.f1 ≤ 65535 by omega, show 0 ≤ x.f2 by omega, show x.f2 ≤ 65535 by omega, show 0 ≤ x.f3 by omega, show x.f3 ≤ 2147483647 by omega]
  refine Ev.congr hs (Ev.bind (ev_rnright x.f0) ?_)
  refine (?_ : (!(!(rightB x.f0 && _)) && _) = rightRR x) ▸ ev_rright_j _ x ?_
  · unfold rightRR
    simp only [Bool.not_not, Bool.and_assoc]
  · intro h
    simp only [Bool.not_eq_false', Bool.and_eq_true, decide_eq_true_eq] at h
    omega
def chain {α : Type} (c : α → α → Int) : List α → Bool
  | [] => true
  | [_] => true
  | a :: b :: l => decide (c a b < 0) && chain c (b :: l)
theorem chain_iff {α : Type} {c : α → α → Int} (O : POrd c) : ∀ l : List α, chain c l = true ↔ IsSet c l
  | [] => by simp [chain, IsSet]
  | [a] => by simp [chain, IsSet]
  | a :: b :: l => by
    have ih := chain_iff O (b :: l)
    rw [chain, Bool.and_eq_true, decide_eq_true_eq, ih]
    constructor
    · rintro ⟨h1, h2⟩
      refine List.pairwise_cons.mpr ⟨fun y hy => ?_, h2⟩
      rcases List.mem_cons.mp hy with rfl | hy
      · exact h1
      · exact O.trans _ _ _ h1 ((List.pairwise_cons.mp h2).1 y hy)
    · intro h
      exact ⟨(List.pairwise_cons.mp h).1 b (List.mem_cons_self ..), (List.pairwise_cons.mp h).2⟩
theorem drop_two {α : Type} (l : List α) (i : Nat) (h : i + 1 < l.length) : l.drop i = l[i] :: l[i + 1] :: l.drop (i + 2) := by
  rw [List.drop_eq_getElem_cons (by omega), List.drop_eq_getElem_cons (by omega)]
theorem ris_loop (l : List RR) (hl : ∀ y ∈ l, fine y) (hn : l.length ≤ 1000000) : ∀ (d i : Nat), l.length ≤ i + d → Ev (fun k => beadrollref13_Is.l0 k l ((i + 1 : Nat) : Int)) (chain cmpRR (l.drop i)) := by
  intro d
  induction d with
  | zero =>
    intro i hd
    refine Ev.step (f := fun _ => some true) (fun k => by simp only [beadrollref13_Is.l0]; rw [if_neg (by omega)]) ?_
    rw [List.drop_of_length_le (by omega)]
    exact Ev.now _
  | succ d ih =>
    intro i hd
    by_cases hi : i + 1 < l.length
    · have e0 : wrap64 (((i + 1 : Nat) : Int) - 1) = (i : Int) := by unfold wrap64; omega
      have e1 : wrap64 (((i + 1 : Nat) : Int) + 1) = ((i + 1 + 1 : Nat) : Int) := by unfold wrap64; omega
      have hs : ∀ k, beadrollref13_Is.l0 (k + 1) l ((i + 1 : Nat) : Int) = (rcO k (rdR l (i : Nat)) (rdR l ((i + 1 : Nat) : Int))).bind fun t => if t = -1 then beadrollref13_Is.l0 k l ((i + 1 + 1 : Nat) : Int) else some false := fun k => by
        simp only [beadrollref13_Is.l0, e0, e1]
        rw [if_pos (by omega), if_pos (by omega), if_pos (by omega), if_pos (by omega)]
        rfl
      refine Ev.step hs ?_
      rw [rdR_get l i (by omega), rdR_get l (i + 1) hi]
      refine Ev.bind (ev_rcmp _ _ (hl _ (List.getElem_mem _)) (hl _ (List.getElem_mem _))) ?_
      rw [drop_two l i hi, chain, ← List.drop_eq_getElem_cons hi]
      by_cases hc : cmpRR l[i] l[i + 1] = -1
      · rw [decide_eq_true (by omega), Bool.true_and]
        simp only [hc, if_true]
        exact ih (i + 1) (by omega)
      · have := ordRR.vals l[i] l[i + 1]
        rw [decide_eq_false (by omega), Bool.false_and]
        simp only [hc, if_false]
        exact Ev.now _
    · refine Ev.step (f := fun _ => some true) (fun k => by simp only [beadrollref13_Is.l0]; rw [if_neg (by omega)]) ?_
      have : (l.drop i).length ≤ 1 := by rw [List.length_drop]; omega
      have e : chain cmpRR (l.drop i) = true := by
        match h : l.drop i, this with
        | [], _ => rfl
        | [_], _ => rfl
        | _ :: _ :: _, h' => simp at h'
      rw [e]
      exact Ev.now _
theorem ev_ris (l : List RR) (hl : ∀ y ∈ l, fine y) (hn : l.length ≤ 1000000) : Ev (fun k => beadrollref13_Is.f k l) (chain cmpRR l) := by
  have h := ris_loop l hl hn l.length 0 (by omega)
  rw [List.drop_zero] at h
  exact h
def rightsB (l : List RR) : Bool := l.all (fun y => decide (y.f4.size ≤ 2000) && rightRR y) && decide (l.length ≤ 30)
theorem rights_loop (l : List RR) (hn : l.length ≤ 9223372036854775807) : ∀ (d i : Nat), l.length ≤ i + d → i ≤ l.length → Ev (fun k => beadrollref13_Rights.l0 k l (i : Int)) ((l.drop i).all (fun y => decide (y.f4.size ≤ 2000) && rightRR y) && decide (l.length ≤ 30)) := by
  have hend : ∀ i : Nat, l.length ≤ i → Ev (fun k => beadrollref13_Rights.l0 k l (i : Int)) ((l.drop i).all (fun y => decide (y.f4.size ≤ 2000) && rightRR y) && decide (l.length ≤ 30)) := by
    intro i hd
    have e : decide ((l.length : Int) ≤ 30) = decide (l.length ≤ 30) := by
      by_cases h : l.length ≤ 30
      · rw [decide_eq_true h, decide_eq_true (by omega)]
      · rw [decide_eq_false h, decide_eq_false (by omega)]
    refine Ev.step (f := fun _ => some (decide (l.length ≤ 30))) (fun k => by simp only [beadrollref13_Rights.l0]; rw [if_neg (by omega), e]) ?_
    rw [List.drop_of_length_le (by omega), List.all_nil, Bool.true_and]
    exact Ev.now _
  intro d
  induction d with
  | zero => exact fun i hd _ => hend i (by omega)
  | succ d ih =>
    intro i hd hi0
    by_cases hi : i < l.length
    · have e1 : wrap64 ((i : Int) + 1) = ((i + 1 : Nat) : Int) := by unfold wrap64; omega
      have hs : ∀ k, beadrollref13_Rights.l0 (k + 1) l (i : Int) = if ((rdR l (i : Nat)).f4.size : Int) > 2000 then some false else (beadrollref11_Right.f k (rdR l (i : Nat)).f0 (rdR l (i : Nat)).f1 (rdR l (i : Nat)).f2 (rdR l (i : Nat)).f3 (rdR l (i : Nat)).f4).bind fun t => if t = true then beadrollref13_Rights.l0 k l ((i + 1 : Nat) : Int) else some false := fun k => by
        simp only [beadrollref13_Rights.l0, e1]
        rw [if_pos (by omega), if_pos (by omega)]
      refine Ev.step hs ?_
      rw [rdR_get l i hi, List.drop_eq_getElem_cons hi, List.all_cons]
      by_cases hz : (l[i].f4.size : Int) > 2000
      · rw [decide_eq_false (show ¬ l[i].f4.size ≤ 2000 by omega)]
        simp only [hz, if_true, Bool.false_and]
        exact Ev.now _
      · rw [decide_eq_true (show l[i].f4.size ≤ 2000 by omega)]
        simp only [hz, if_false, Bool.true_and]
        refine Ev.bind (ev_rright l[i]) ?_
        cases hr : rightRR l[i]
        · simp only [Bool.false_eq_true, if_false, Bool.false_and]
          exact Ev.now _
        · simp only [if_true, Bool.true_and]
          exact ih (i + 1) (by omega) (by omega)
    · exact hend i (by omega)
theorem ev_rights (l : List RR) (hn : l.length ≤ 9223372036854775807) : Ev (fun k => beadrollref13_Rights.f k l) (rightsB l) := by
  have h := rights_loop l hn l.length 0 (by omega) (by omega)
  rw [List.drop_zero] at h
  exact h
theorem rights_fine {l : List RR} (h : rightsB l = true) : (∀ y ∈ l, fine y) ∧ l.length ≤ 30 ∧ ∀ y ∈ l, rightRR y = true := by
  unfold rightsB at h
  simp only [Bool.and_eq_true, List.all_eq_true, decide_eq_true_eq] at h
  exact ⟨fun y hy => rightRR_fine (h.1 y hy).2, h.2, fun y hy => (h.1 y hy).2⟩
theorem eqR_iff (x y : RR) : eqR x y = true ↔ x = y := by
  obtain ⟨a0, a1, a2, a3, a4⟩ := x
  obtain ⟨b0, b1, b2, b3, b4⟩ := y
  unfold eqR
  simp only [Bool.and_eq_true, beq_iff_eq, toList_inj]
  constructor
  · rintro ⟨rfl, rfl, rfl, rfl, rfl⟩; rfl
  · intro h; injection h with h0 h1 h2 h3 h4; exact ⟨h0, h1, h2, h3, h4⟩
theorem neR_eq (x y : RR) : (!(x.f0.toList == y.f0.toList) || (!(x.f1 == y.f1) || (!(x.f2 == y.f2) || (!(x.f3 == y.f3) || (!(x.f4.toList == y.f4.toList)))))) = !eqR x y := by
  unfold eqR
  simp only [Bool.not_and]
theorem same_loop (l m : List RR) (hlm : l.length = m.length) (hn : l.length ≤ 9223372036854775807) : ∀ (d i : Nat), l.length ≤ i + d → i ≤ l.length → ∃ b, Ev (fun k => beadrollref11_Same.l0 k l m (i : Int)) b ∧ (b = true ↔ l.drop i = m.drop i) := by
  have hend : ∀ i : Nat, l.length ≤ i → ∃ b, Ev (fun k => beadrollref11_Same.l0 k l m (i : Int)) b ∧ (b = true ↔ l.drop i = m.drop i) := by
    intro i hd
    refine ⟨true, Ev.step (f := fun _ => some true) (fun k => by simp only [beadrollref11_Same.l0]; rw [if_neg (by omega)]) (Ev.now _), ?_⟩
    rw [List.drop_of_length_le (by omega), List.drop_of_length_le (by omega)]
    simp
  intro d
  induction d with
  | zero => exact fun i hd _ => hend i (by omega)
  | succ d ih =>
    intro i hd hi0
    by_cases hi : i < l.length
    · have him : i < m.length := by omega
      have e1 : wrap64 ((i : Int) + 1) = ((i + 1 : Nat) : Int) := by unfold wrap64; omega
      have hs : ∀ k, beadrollref11_Same.l0 (k + 1) l m (i : Int) = if (!eqR l[i] m[i]) = true then some false else beadrollref11_Same.l0 k l m ((i + 1 : Nat) : Int) := fun k => by
        simp only [beadrollref11_Same.l0, e1]
        rw [if_pos (by omega), if_pos (by omega), if_pos (by omega)]
        have hq := neR_eq (rdR l (i : Nat)) (rdR m (i : Nat))
        rw [show (!((rdR l (i : Nat)).f0.toList == (rdR m (i : Nat)).f0.toList) || _) = _ from hq, rdR_get l i hi, rdR_get m i him]
      obtain ⟨b, hb, hiff⟩ := ih (i + 1) (by omega) (by omega)
      rw [List.drop_eq_getElem_cons hi, List.drop_eq_getElem_cons him]
      cases he : eqR l[i] m[i]
      · refine ⟨false, Ev.step hs ?_, ?_⟩
        · simp only [he, Bool.not_false, if_true]
          exact Ev.now _
        · have : ¬ l[i] = m[i] := fun e => by rw [(eqR_iff _ _).mpr e] at he; cases he
          exact ⟨fun e => Bool.noConfusion e, fun e => absurd (List.cons.inj e).1 this⟩
      · refine ⟨b, Ev.step hs ?_, ?_⟩
        · simp only [he, Bool.not_true, Bool.false_eq_true, if_false]
          exact hb
        · rw [(eqR_iff _ _).mp he, hiff]
          exact ⟨fun e => by rw [e], fun e => (List.cons.inj e).2⟩
    · exact hend i (by omega)
open Classical in
theorem ev_same (l m : List RR) (hn : l.length ≤ 9223372036854775807) : Ev (fun k => beadrollref11_Same.f k l m) (decide (l = m)) := by
  unfold beadrollref11_Same.f
  by_cases h : l.length = m.length
  · obtain ⟨b, hb, hiff⟩ := same_loop l m h hn l.length 0 (by omega) (by omega)
    have e : b = decide (l = m) := by
      rw [List.drop_zero, List.drop_zero] at hiff
      by_cases hlm : l = m
      · rw [decide_eq_true hlm]; exact hiff.mpr hlm
      · rw [decide_eq_false hlm]; cases b; rfl; exact absurd (hiff.mp rfl) hlm
    rw [← e]
    simp only [show ((l.length : Int) = (m.length : Int)) from by omega, if_true]
    exact hb
  · have hlm : ¬ l = m := fun e => h (by rw [e])
    rw [decide_eq_false hlm]
    simp only [show ¬ ((l.length : Int) = (m.length : Int)) from by omega, if_false]
    exact Ev.now _
end Go.Proofs.Ytnpiglojamhpiaa.Rrs
namespace Go.Proofs.Ytnpiglojamhpiaa.SetLaw
set_option linter.unusedVariables false
theorem put_split {α : Type} {c : α → α → Int} (O : POrd c) : ∀ (a b : List α) (x : α), (∀ y ∈ a, c y x < 0) → put c (a ++ b) x = a ++ put c b x
  | [], b, x, _ => rfl
  | y :: a, b, x, h => by
    have h1 := h y (List.mem_cons_self ..)
    have h2 := O.flip y x
    rw [List.cons_append, put, if_neg (by omega), if_neg (by omega), put_split O a b x (fun z hz => h z (List.mem_cons_of_mem _ hz)), List.cons_append]
theorem drop_split {α : Type} {c : α → α → Int} (O : POrd c) (a b : List α) (x : α) (h : ∀ y ∈ a, c y x < 0) : drop c (a ++ b) x = a ++ drop c b x := by
  unfold drop
  rw [List.filter_append]
  congr 1
  rw [List.filter_eq_self]
  intro y hy
  have h1 := h y hy
  have h2 := O.flip y x
  rw [decide_eq_false (by omega)]; rfl
theorem drop_head {α : Type} {c : α → α → Int} (O : POrd c) {y : α} {b : List α} {x : α} (hs : IsSet c (y :: b)) (h : c y x = 0) : drop c (y :: b) x = b := by
  have h' := O.symm h
  unfold drop
  rw [List.filter_cons, decide_eq_true h']
  simp only [Bool.not_true, Bool.false_eq_true, if_false]
  rw [List.filter_eq_self]
  intro z hz
  have := O.lt_of_eq_of_lt h' ((List.pairwise_cons.mp hs).1 z hz)
  rw [decide_eq_false (by omega)]; rfl
end Go.Proofs.Ytnpiglojamhpiaa.SetLaw
namespace Go.Proofs.Ytnpiglojamhpiaa.Rrs
open Go.RowKit Go.Proofs.YtnpiglojamhpiaaW.PrintWords Go.Proofs.YtnpiglojamhpiaaW.PrintLast Go.Proofs.YtnpiglojamhpiaaW.PrintMore Go.Proofs.Ytnpiglojamhpiaa.Given Go.Proofs.Ytnpiglojamhpiaa.PRd Go.Proofs.Ytnpiglojamhpiaa.PRr Go.Proofs.Ytnpiglojamhpiaa.Oct Go.Proofs.Ytnpiglojamhpiaa.Name Go.Proofs.Ytnpiglojamhpiaa.Cmp Go.Proofs.Ytnpiglojamhpiaa.NameFacts Go.Proofs.Ytnpiglojamhpiaa.RdataFacts Go.Proofs.Ytnpiglojamhpiaa.SetLaw
set_option linter.unusedVariables false
structure SetOf (l : List RR) : Prop where
  all : ∀ y ∈ l, fine y
  len : l.length ≤ 1000000
  set : IsSet cmpRR l
theorem SetOf.splits {l : List RR} (h : SetOf l) {x : RR} (hx : fine x) : Splits l x := splits_set l x h.all hx h.len h.set
section
variable {l : List RR} {x : RR} (h : SetOf l) (hx : fine x)
include h hx
theorem place_lo : ∀ y ∈ l.take (place l x), cmpRR y x < 0 := by
  intro y hy
  obtain ⟨i, hi, rfl⟩ := List.getElem_of_mem hy
  have hi1 : i < place l x := by rw [List.length_take] at hi; omega
  have hil : i < l.length := by rw [List.length_take] at hi; omega
  have h1 := (h.splits hx).lo i hi1
  rw [rdR_get l i hil, cmpC_fine (h.all _ (List.getElem_mem _)) hx] at h1
  rw [List.getElem_take]; exact h1
theorem place_at (hp : place l x < l.length) : 0 ≤ cmpRR l[place l x] x := by
  have h1 := (h.splits hx).hi (place l x) (Nat.le_refl _) hp
  rw [rdR_get l _ hp, cmpC_fine (h.all _ (List.getElem_mem _)) hx] at h1
  exact h1
theorem hit_is : hit l x = true ↔ ∃ hp : place l x < l.length, cmpRR l[place l x] x = 0 := by
  unfold hit
  by_cases hp : place l x < l.length
  · rw [decide_eq_true hp, Bool.true_and, rdR_get l _ hp, cmpC_fine (h.all _ (List.getElem_mem _)) hx, beq_iff_eq]
    exact ⟨fun e => ⟨hp, e⟩, fun ⟨_, e⟩ => e⟩
  · rw [decide_eq_false hp, Bool.false_and]
    exact ⟨fun e => by simp at e, fun ⟨e, _⟩ => absurd e hp⟩
omit hx in
theorem tail_set (hp : place l x < l.length) : IsSet cmpRR (l[place l x] :: l.drop (place l x + 1)) := by
  rw [← List.drop_eq_getElem_cons hp]
  exact h.set.sublist (List.drop_sublist _ _)
theorem putS_eq : putS l x = put cmpRR l x := by
  have e := put_split ordRR (l.take (place l x)) (l.drop (place l x)) x (place_lo h hx)
  rw [List.take_append_drop] at e
  rw [e]
  unfold putS
  by_cases hh : hit l x = true
  · rw [if_pos hh]
    obtain ⟨hp, h0⟩ := (hit_is h hx).mp hh
    have h1 := ordRR.flip l[place l x] x
    rw [List.drop_eq_getElem_cons hp, put, if_neg (by omega), if_pos (by omega), List.set_eq_take_append_cons_drop, if_pos hp]
  · rw [if_neg hh]
    by_cases hp : place l x < l.length
    · have h1 := place_at h hx hp
      have h2 : ¬ cmpRR l[place l x] x = 0 := fun e => hh ((hit_is h hx).mpr ⟨hp, e⟩)
      have h3 := ordRR.flip l[place l x] x
      rw [List.drop_eq_getElem_cons hp, put, if_pos (by omega)]
    · rw [List.drop_of_length_le (by omega), put]
theorem dropS_eq : dropS l x = drop cmpRR l x := by
  have e := drop_split ordRR (l.take (place l x)) (l.drop (place l x)) x (place_lo h hx)
  rw [List.take_append_drop] at e
  unfold dropS
  by_cases hh : hit l x = true
  · rw [if_pos hh, e]
    obtain ⟨hp, h0⟩ := (hit_is h hx).mp hh
    rw [List.drop_eq_getElem_cons hp, drop_head ordRR (tail_set h hp) h0, List.eraseIdx_eq_take_drop_succ]
  · rw [if_neg hh]
    refine (drop_none (find_none.mpr fun y hy => ?_)).symm
    have hf := ordRR.flip y x
    rw [← List.take_append_drop (place l x) l] at hy
    rcases List.mem_append.mp hy with hy | hy
    · have := place_lo h hx y hy; omega
    · by_cases hp : place l x < l.length
      · have h1 := place_at h hx hp
        have h2 : ¬ cmpRR l[place l x] x = 0 := fun e => hh ((hit_is h hx).mpr ⟨hp, e⟩)
        have h3 := ordRR.flip l[place l x] x
        rw [List.drop_eq_getElem_cons hp] at hy
        rcases List.mem_cons.mp hy with rfl | hy
        · omega
        · have h4 := (List.pairwise_cons.mp (tail_set h hp)).1 y hy
          have := ordRR.trans x _ y (by omega) h4
          omega
      · rw [List.drop_of_length_le (by omega)] at hy; cases hy
theorem find_hit : find cmpRR l x = if hit l x = true then some (rdR l (place l x : Nat)) else none := by
  by_cases hh : hit l x = true
  · rw [if_pos hh]
    obtain ⟨hp, h0⟩ := (hit_is h hx).mp hh
    rw [rdR_get l _ hp]
    exact find_of_mem ordRR h.set (List.getElem_mem _) (ordRR.symm h0)
  · rw [if_neg hh]
    have e := dropS_eq h hx
    unfold dropS at e
    rw [if_neg hh] at e
    rw [find_none]
    intro y hy h0
    rw [e] at hy
    unfold drop at hy
    have := (List.mem_filter.mp hy).2
    rw [decide_eq_true h0] at this
    cases this
theorem SetOf.put (hn : l.length < 1000000) : SetOf (SetLaw.put cmpRR l x) where
  all y hy := by
    rcases mem_put hy with rfl | hy
    · exact hx
    · exact h.all y hy
  len := by
    have h1 := put_length ordRR h.set x
    have h2 : (drop cmpRR l x).length ≤ l.length := by unfold drop; exact List.length_filter_le _ _
    omega
  set := put_set ordRR h.set x
omit hx in
theorem SetOf.drop : SetOf (SetLaw.drop cmpRR l x) where
  all y hy := h.all y (by unfold SetLaw.drop at hy; exact (List.mem_filter.mp hy).1)
  len := Nat.le_trans (by unfold SetLaw.drop; exact List.length_filter_le _ _) h.len
  set := drop_set h.set x
theorem at_f : rrset_at.f l x.f0 x.f1 x.f2 x.f3 x.f4 = some (((place l x : Nat) : Int), hit l x) := by
  unfold rrset_at.f
  rw [if_pos (h.splits hx)]
theorem put_f : rrset_Put.f l x.f0 x.f1 x.f2 x.f3 x.f4 = some (SetLaw.put cmpRR l x, putB l x) := by
  unfold rrset_Put.f
  rw [if_pos (h.splits hx)]
  show some (putS l x, putB l x) = _
  rw [putS_eq h hx]
theorem drop_f : rrset_Drop.f l x.f0 x.f1 x.f2 x.f3 x.f4 = some (SetLaw.drop cmpRR l x, (find cmpRR l x).isSome) := by
  unfold rrset_Drop.f
  rw [if_pos (h.splits hx)]
  show some (dropS l x, hit l x) = _
  rw [dropS_eq h hx, find_hit h hx]
  cases hit l x <;> rfl
theorem putB_is : putB l x = true ↔ ¬ SetLaw.put cmpRR l x = l := by
  have e := find_hit h hx
  unfold putB
  by_cases hh : hit l x = true
  · rw [if_pos hh, Bool.not_eq_true']
    rw [if_pos hh] at e
    obtain ⟨hm, h0⟩ := find_mem e
    constructor
    · intro h1 h2
      have h3 : find cmpRR (SetLaw.put cmpRR l x) x = some x := by rw [find_put ordRR h.set, if_pos (ordRR.refl x)]
      rw [h2, e] at h3
      rw [Option.some.inj h3, (eqR_iff x x).mpr rfl] at h1
      cases h1
    · intro h1
      cases hq : eqR (rdR l (place l x : Nat)) x
      · rfl
      · rw [(eqR_iff _ _).mp hq] at hm
        exact absurd (put_same ordRR h.set hm) h1
  · rw [if_neg hh]
    rw [if_neg hh] at e
    refine ⟨fun _ h2 => ?_, fun _ => rfl⟩
    have h3 : find cmpRR (SetLaw.put cmpRR l x) x = some x := by rw [find_put ordRR h.set, if_pos (ordRR.refl x)]
    rw [h2, e] at h3
    cases h3
end
end Go.Proofs.Ytnpiglojamhpiaa.Rrs
namespace Go.Proofs.Ytnpiglojamhpiaa.RowStructs
open Go.RowKit Go.ChangeShapes Go.WideShapes Go.Deep Go.Proofs.YtnpiglojamhpiaaW.PrintWords
set_option linter.unusedVariables false
section
variable {H : Type} {enc : TypeId × Value → H} {P : Program} {W : World} {base : Nat} {spare : Nat → Bool} {held : Bool}
theorem fields_of {e : TypeId} {fs : Array Field} {fuel : Nat} {cs : List Value} {x : DataW H × List MemPlace} (he : P.underlying e = some (.struct fs)) (hone : oneCellFields P fs = true) (hC : P.cellsOf e = fs.size)
    (h : DataW.trod enc P W base spare held fuel e cs = some x) : cs.length = fs.size ∧ ∃ n, ∀ (j : Nat) (f : Field), fs[j]? = some f → ∃ v y, cs[j]? = some v ∧ DataW.trod enc P W base spare held n f.type [v] = some y := by
  obtain ⟨ys, n, _, _, hl, hyl, hf⟩ := DataW.trod_struct he h
  refine ⟨hl.trans hC, n, fun j f hj => ?_⟩
  obtain ⟨ho, hk⟩ := hone_of hone j f hj
  have hjl : j < fs.size := (Array.getElem?_eq_some_iff.1 hj).1
  have hcl : j < cs.length := by omega
  have hyj : j < ys.length := by omega
  have h1 := hf j f hj
  rw [ho, hk, List.drop_eq_getElem_cons hcl, List.take_succ_cons, List.take_zero] at h1
  exact ⟨cs[j], ys[j], List.getElem?_eq_getElem hcl, h1.trans (List.getElem?_eq_getElem hyj)⟩
theorem list_of {S : Type} (n : Nat) (R : Nat → S → Prop) (h : ∀ i, i < n → ∃ s, R i s) : ∃ l : List S, l.length = n ∧ ∀ i s, l[i]? = some s → R i s := by
  induction n with
  | zero => exact ⟨[], rfl, fun i s hs => by simp at hs⟩
  | succ n ih =>
    obtain ⟨l, hl, hr⟩ := ih fun i hi => h i (by omega)
    obtain ⟨s, hs⟩ := h n (by omega)
    refine ⟨l ++ [s], by simp [hl], fun i t ht => ?_⟩
    by_cases hi : i < n
    · rw [List.getElem?_append_left (by omega)] at ht; exact hr i t ht
    · rw [List.getElem?_append_right (by omega)] at ht
      by_cases e : i = n
      · subst e; rw [hl, Nat.sub_self] at ht; simp at ht; subst ht; exact hs
      · rw [List.getElem?_eq_none (by simp; omega)] at ht; cases ht
theorem structs_of {S : Type} (k : Kd S) (good : S → Prop) {t e : TypeId} {a : Option Addr} {len cap : Nat} {d : DataW H} {ps : List MemPlace} (hu : P.underlying t = some (.slice e)) (hC : P.cellsOf e = k.sz) (hpos : 0 < k.sz)
    (open1 : ∀ fuel cs x, DataW.trod enc P W base spare held fuel e cs = some x → ∃ s, k.K W s cs ∧ good s) (h : DataW.Trod enc P W base spare held t (.slice a len cap) d ps) :
    ∃ l : List S, len = l.length ∧ Kd.C k W a l.length l ∧ l.length ≤ cap ∧ l.length ≤ maxLen ∧ ∀ s ∈ l, good s := by
  obtain ⟨fuel, hf⟩ := h
  rcases open_slice hu hf with ⟨hcs, _⟩ | ⟨x, l, c, m, n, D, Pl, hcs, _, hl, hm, hmm, _, hi⟩
  · simp [Value.cells] at hcs
    obtain ⟨rfl, rfl, rfl⟩ := hcs
    exact ⟨[], rfl, Kd.C_nil _ _, Nat.le_refl _, Nat.zero_le _, by simp⟩
  · simp [Value.cells] at hcs
    obtain ⟨rfl, rfl, rfl⟩ := hcs
    have hlm : len ≤ m := by rw [hmm]; split <;> omega
    obtain ⟨L, hL, hR⟩ := list_of len (fun i s => good s ∧ ∃ cs', k.K W s cs' ∧ cs'.length = k.sz ∧ ∀ j u, cs'[j]? = some u → W.cell? (x.add (i * k.sz + j)) = some u) (fun i hi' => by
      obtain ⟨cs', hc, ht⟩ := hi i (by omega)
      obtain ⟨s, hs, hg⟩ := open1 _ _ _ ht
      rw [hC] at hc
      obtain ⟨_, hcl, hat⟩ := World.cells?_some hc
      refine ⟨s, hg, cs', hs, hcl, fun j u hj => ?_⟩
      have hjl : j < k.sz := by rw [← hcl]; exact (List.getElem?_eq_some_iff.1 hj).1
      have := hat j hjl
      rw [← Go.Deep.add_add]; rw [this]; exact hj)
    refine ⟨L, hL.symm, ⟨rfl, by unfold maxLen at hm; omega, fun _ => ⟨x, rfl, fun j p hp => ?_⟩⟩, by omega, by omega, fun s hs => ?_⟩
    · obtain ⟨_, c, h1, h2, h3⟩ := hR j p hp
      exact ⟨c, h2, h1, h3⟩
    · obtain ⟨i, hi', he⟩ := List.getElem_of_mem hs
      exact (hR i s (by rw [List.getElem?_eq_getElem hi', he])).1
end
end Go.Proofs.Ytnpiglojamhpiaa.RowStructs
namespace Go.Proofs.Ytnpiglojamhpiaa.RowStructs
open Go.RowKit Go.ChangeShapes Go.WideShapes Go.Deep Go.Proofs.YtnpiglojamhpiaaW.PrintWords Go.Proofs.Ytnpiglojamhpiaa.PRd Go.Proofs.Ytnpiglojamhpiaa.PRr
set_option linter.unusedVariables false
structure GoodRR (s : S24) : Prop where
  n0 : s.f0.size ≤ maxLen
  n4 : s.f4.size ≤ maxLen
  i1 : (Lit.int .i64 s.f1).wf = true
  i2 : (Lit.int .i64 s.f2).wf = true
  i3 : (Lit.int .i64 s.f3).wf = true
section
variable {H : Type} {enc : TypeId × Value → H} {W : World} {base : Nat} {spare : Nat → Bool} {held : Bool}
theorem rr_of {fuel : Nat} {cs : List Value} {x : DataW H × List MemPlace} (h : DataW.trod enc Try.prog W base spare held fuel 24 cs = some x) : ∃ s : S24, cs = [.string s.f0, .int .i64 s.f1, .int .i64 s.f2, .int .i64 s.f3, .string s.f4] ∧ GoodRR s := by
  obtain ⟨hl, n, hf⟩ := fields_of Try.underlying24 (by kernel_rfl) (by kernel_rfl) h
  obtain ⟨v0, y0, c0, h0⟩ := hf 0 _ rfl
  obtain ⟨v1, y1, c1, h1⟩ := hf 1 _ rfl
  obtain ⟨v2, y2, c2, h2⟩ := hf 2 _ rfl
  obtain ⟨v3, y3, c3, h3⟩ := hf 3 _ rfl
  obtain ⟨v4, y4, c4, h4⟩ := hf 4 _ rfl
  obtain ⟨s, e0, _, g0⟩ := DataW.trod_string Try.underlying9 h0
  obtain ⟨a, e1, _, g1⟩ := DataW.trod_int Try.underlying3 h1
  obtain ⟨b, e2, _, g2⟩ := DataW.trod_int Try.underlying3 h2
  obtain ⟨c, e3, _, g3⟩ := DataW.trod_int Try.underlying3 h3
  obtain ⟨d, e4, _, g4⟩ := DataW.trod_string Try.underlying9 h4
  obtain rfl : v0 = .string s := by simpa using e0
  obtain rfl : v1 = .int .i64 a := by simpa using e1
  obtain rfl : v2 = .int .i64 b := by simpa using e2
  obtain rfl : v3 = .int .i64 c := by simpa using e3
  obtain rfl : v4 = .string d := by simpa using e4
  have : cs = [.string s, .int .i64 a, .int .i64 b, .int .i64 c, .string d] := by
    match cs, hl with
    | [p, q, r, t, u], _ => simp at c0 c1 c2 c3 c4; rw [c0, c1, c2, c3, c4]
  exact ⟨⟨s, a, b, c, d⟩, this, ⟨g0, g4, g1, g2, g3⟩⟩
theorem of_T24 {t : TypeId} {a : Option Addr} {len cap : Nat} {d : DataW H} {ps : List MemPlace} (hu : Try.prog.underlying t = some (.slice 24)) (h : DataW.Trod enc Try.prog W base spare held t (.slice a len cap) d ps) :
    ∃ l : List S24, len = l.length ∧ Kd.C k24 W a l.length l ∧ l.length ≤ cap ∧ l.length ≤ maxLen ∧ ∀ s ∈ l, GoodRR s :=
  structs_of k24 GoodRR hu (by kernel_rfl) (by decide) (fun _ _ _ h => by
    obtain ⟨s, rfl, hg⟩ := rr_of h
    exact ⟨s, k24_mk W s, hg⟩) h
set_option maxRecDepth 100000 in
theorem by_T24 {r : Reach} {b0 : Nat} {v : Value} {d : DataW H} {ps : List MemPlace} (hv : Value.okWide Try.prog W r b0 24 v) (h : DataW.Trod enc Try.prog W base spare held 24 v d ps) :
    ∃ s : S24, v = .agg #[.string s.f0, .int .i64 s.f1, .int .i64 s.f2, .int .i64 s.f3, .string s.f4] ∧ GoodRR s := by
  obtain ⟨cs, rfl, _⟩ := okWide_struct Try.underlying24 hv
  obtain ⟨fuel, hf⟩ := h
  obtain ⟨s, e, hg⟩ := rr_of hf
  refine ⟨s, ?_, hg⟩
  congr 1
  have e' : cs.toList = [.string s.f0, .int .i64 s.f1, .int .i64 s.f2, .int .i64 s.f3, .string s.f4] := by simpa [Value.cells] using e
  rw [← Array.toArray_toList (xs := cs), e']
end
end Go.Proofs.Ytnpiglojamhpiaa.RowStructs
namespace Go.Proofs.Ytnpiglojamhpiaa.PRs
open Go.RowKit Go.Proofs.YtnpiglojamhpiaaW.PrintWords Go.Proofs.YtnpiglojamhpiaaW.PrintLast Go.Proofs.YtnpiglojamhpiaaW.PrintMore Go.Proofs.Ytnpiglojamhpiaa.Given Go.Proofs.Ytnpiglojamhpiaa.PRd Go.Proofs.Ytnpiglojamhpiaa.PRr
attribute [local go_sem] max2_int min2_int max_two min_two max_three min_three max_four min_four   -- for this text's walks alone
set_option linter.unusedVariables false
set_option linter.unusedSimpArgs false
def errW : Option Int → Value
 | none => .nilIface
 | some c => .iface 0 (.int .i64 c)
theorem errW_none : errW none = .nilIface := rfl
theorem errW_some (c : Int) : errW (some c) = .iface 0 (.int .i64 c) := rfl
end Go.Proofs.Ytnpiglojamhpiaa.PRs
namespace Go.Proofs.Ytnpiglojamhpiaa.PRs
open Go.RowKit Go.Proofs.YtnpiglojamhpiaaW.PrintWords Go.Proofs.YtnpiglojamhpiaaW.PrintLast Go.Proofs.YtnpiglojamhpiaaW.PrintMore Go.Proofs.Ytnpiglojamhpiaa.Given Go.Proofs.Ytnpiglojamhpiaa.PRd Go.Proofs.Ytnpiglojamhpiaa.PRr
attribute [local go_sem] max2_int min2_int max_two min_two max_three min_three max_four min_four   -- for this text's walks alone
set_option linter.unusedVariables false
set_option linter.unusedSimpArgs false
theorem eqA24 (d : Nat) (w : World) (x0 y0 : ByteArray) (x1 y1 : Int) (x2 y2 : Int) (x3 y3 : Int) (x4 y4 : ByteArray) :
  (Op.equalIn (d + 2) 24 (.agg #[.string x0, .int .i64 x1, .int .i64 x2, .int .i64 x3, .string x4]) (.agg #[.string y0, .int .i64 y1, .int .i64 y2, .int .i64 y3, .string y4])).run Try.prog w = .ok (x0.toList == y0.toList && (x1 == y1 && (x2 == y2 && (x3 == y3 && (x4.toList == y4.toList))))) w := by
 refine eqA_of Try.underlying24 (by kernel_rfl) ?_
 refine eqf_cons (by rfl) (by go_simp; rfl) (by go_simp; rfl) (by go_simp) ?_
 refine eqf_cons (by rfl) (by go_simp; rfl) (by go_simp; rfl) (by go_simp) ?_
 refine eqf_cons (by rfl) (by go_simp; rfl) (by go_simp; rfl) (by go_simp) ?_
 refine eqf_cons (by rfl) (by go_simp; rfl) (by go_simp; rfl) (by go_simp) ?_
 exact eqf_last (by rfl) (by go_simp; rfl) (by go_simp; rfl) (by go_simp)
end Go.Proofs.Ytnpiglojamhpiaa.PRs
namespace Go.Proofs.Ytnpiglojamhpiaa.PRs
open Go.RowKit Go.Proofs.YtnpiglojamhpiaaW.PrintWords Go.Proofs.YtnpiglojamhpiaaW.PrintLast Go.Proofs.YtnpiglojamhpiaaW.PrintMore Go.Proofs.Ytnpiglojamhpiaa.Given Go.Proofs.Ytnpiglojamhpiaa.PRd Go.Proofs.Ytnpiglojamhpiaa.PRr
attribute [local go_sem] max2_int min2_int max_two min_two max_three min_three max_four min_four   -- for this text's walks alone
set_option linter.unusedVariables false
set_option linter.unusedSimpArgs false
attribute [local go_sem high] eqA24
noncomputable def beadrolllaw13_awake.f  : Option (Bool) := (rrset_Put.f ([] : List (S24)) (⟨#[1, 97, 0]⟩ : ByteArray) 1 1 0 (⟨#[97, 98, 99, 100]⟩ : ByteArray)).bind fun bt102 => (if bt102.2 = true then (if (bt102.1.length : Int) = 1 then (if 0 < (bt102.1.length : Int) then (some ((((rd_T24 bt102.1 0).f0).toList) == ([1, 97, 0] : List UInt8) && (((rd_T24 bt102.1 0).f1) == 1 && (((rd_T24 bt102.1 0).f2) == 1 && (((rd_T24 bt102.1 0).f3) == 0 && ((((rd_T24 bt102.1 0).f4).toList) == ([97, 98, 99, 100] : List UInt8))))))) else (none)) else (none)) else (none))
set_option maxHeartbeats 8000000 in
set_option maxRecDepth 100000 in
theorem beadrolllaw13_awake.calls  (r : Bool) (w : World) (h : beadrolllaw13_awake.f  = some r) :
  Calls Try.prog 5 #[] w fun e w' => e = .returned (.bool r) ∧ Below w.heap.size w w' := by
 have hu24 := Try.underlying24
 have HB := Aside0.mk (Below.refl w.heap.size w)
 have H : ((rrset_Put.f ([] : List (S24)) (⟨#[1, 97, 0]⟩ : ByteArray) 1 1 0 (⟨#[97, 98, 99, 100]⟩ : ByteArray)).bind fun bt102 => (if bt102.2 = true then (if (bt102.1.length : Int) = 1 then (if 0 < (bt102.1.length : Int) then (some ((((rd_T24 bt102.1 0).f0).toList) == ([1, 97, 0] : List UInt8) && (((rd_T24 bt102.1 0).f1) == 1 && (((rd_T24 bt102.1 0).f2) == 1 && (((rd_T24 bt102.1 0).f3) == 0 && ((((rd_T24 bt102.1 0).f4).toList) == ([97, 98, 99, 100] : List UInt8))))))) else (none)) else (none)) else (none))) = some r := h
 clear h
 replace H := Option.bind_eq_some_iff.mp H
 obtain ⟨⟨t102, t105⟩, A10, H⟩ := H
 replace H : (if t105 = true then (if (t102.length : Int) = 1 then (if 0 < (t102.length : Int) then (some ((((rd_T24 t102 0).f0).toList) == ([1, 97, 0] : List UInt8) && (((rd_T24 t102 0).f1) == 1 && (((rd_T24 t102 0).f2) == 1 && (((rd_T24 t102 0).f3) == 0 && ((((rd_T24 t102 0).f4).toList) == ([97, 98, 99, 100] : List UInt8))))))) else (none)) else (none)) else (none)) = some r := H
 have A1 := Aside0.mk A10
 clear A10
 by_cases c2 : t105 = true
 ·subst c2
  have H1 : (if (t102.length : Int) = 1 then (if 0 < (t102.length : Int) then (some ((((rd_T24 t102 0).f0).toList) == ([1, 97, 0] : List UInt8) && (((rd_T24 t102 0).f1) == 1 && (((rd_T24 t102 0).f2) == 1 && (((rd_T24 t102 0).f3) == 0 && ((((rd_T24 t102 0).f4).toList) == ([97, 98, 99, 100] : List UInt8))))))) else (none)) else (none)) = some r := by rw [if_pos rfl] at H; exact H
  clear H
  have H := H1
  clear H1
  by_cases c3 : (t102.length : Int) = 1
  ·rw [if_pos c3] at H
   have c3b0 : ((t102.length : Int) == 1) = true := beq_iff_eq.mpr c3
   have c3b1 : ((t102.length : Int) != 1) = false := bne_eq_false_iff_eq.mpr c3
   clear c3
   by_cases c4 : 0 < (t102.length : Int)
   ·rw [if_pos c4] at H
    have c4b0 : decide (0 < (t102.length : Int)) = true := decide_eq_true c4
    have c4b1 : decide (0 < t102.length) = true := decide_eq_true (by omega)
    clear c4
    obtain rfl := Option.some.inj H
    go_enter Try.func5, Try.ntmps5
    go_wp2_with (first | ((with_reducible refine gate_dst (N := 1) rfl ?_); (try (refine gate_guard (by rfl) ?_; dsimp only)); refine box_event ?hg (N := 1) ?hd (cs := #[.string (⟨#[]⟩ : ByteArray), .int .i64 0, .int .i64 0, .int .i64 0, .string (⟨#[]⟩ : ByteArray)]) (t := 24) ?hr ?_; (case hd => rfl); (case hg => rfl); (case hr => (go_simp; done)); intro gb101 hg w5 hbox hb; have n0_ := Aside0.mk (below_step (by repeat ((with_reducible (exact HB.out)))) hb); have n1_ := Aside0.mk (hbox); have n2_ := Aside0.mk ((by rw [hg]; exact (below_size (by repeat ((with_reducible (exact HB.out))))) : w.heap.size ≤ gb101)); have n3_ := Aside0.mk ((by rw [hg]; exact (below_size (by repeat ((with_reducible (exact HB.out))))) : w.heap.size ≤ gb101)); clear HB; have HB := n0_; have BK101 := n1_; have GW101 := n2_; have GE101 := n3_; clear n0_ n1_ n2_ n3_; clear hb hbox hg; have hcz6_0 : w5.cell? ⟨gb101, 0, none⟩ = some (.string (⟨#[]⟩ : ByteArray)) := (blk_cell BK101.out 0).trans rfl; have hcz6_1 : w5.cell? ⟨gb101, 1, none⟩ = some (.int .i64 0) := (blk_cell BK101.out 1).trans rfl; have hcz6_2 : w5.cell? ⟨gb101, 2, none⟩ = some (.int .i64 0) := (blk_cell BK101.out 2).trans rfl; have hcz6_3 : w5.cell? ⟨gb101, 3, none⟩ = some (.int .i64 0) := (blk_cell BK101.out 3).trans rfl; have hcz6_4 : w5.cell? ⟨gb101, 4, none⟩ = some (.string (⟨#[]⟩ : ByteArray)) := (blk_cell BK101.out 4).trans rfl; have hfz6_0 := blk_frozen BK101.out 0; have hfz6_1 := blk_frozen BK101.out 1; have hfz6_2 := blk_frozen BK101.out 2; have hfz6_3 := blk_frozen BK101.out 3; have hfz6_4 := blk_frozen BK101.out 4) | (go_at_call 8; (refine (rrset_Put.calls _ _ ([] : List (S24)) (⟨#[1, 97, 0]⟩ : ByteArray) 1 1 0 (⟨#[97, 98, 99, 100]⟩ : ByteArray) t102 true _ ?side1 ?side2 A1.out).mono ?_); (case side1 => exact Kd.C_nil _ _); (case side2 => exact Nat.le_refl _); rintro e w7 ⟨v103, rfl, ho0, hb⟩; have n0_ := Aside0.mk (Kd.R_lower (Kd.R_newB ho0 (g := gb101) (o := .cells #[.string (⟨#[1, 97, 0]⟩ : ByteArray), .int .i64 1, .int .i64 1, .int .i64 0, .string (⟨#[97, 98, 99, 100]⟩ : ByteArray)] 24 (0, 0)) (by (with_reducible repeat ((refine blk_drewN ?_ _))); refine blk_put (cs := #[.string (⟨#[1, 97, 0]⟩ : ByteArray), .int .i64 1, .int .i64 1, .int .i64 0, .string (⟨#[]⟩ : ByteArray)]) ?_ 4 _ rfl; (with_reducible repeat ((refine blk_drewN ?_ _))); refine blk_put (cs := #[.string (⟨#[1, 97, 0]⟩ : ByteArray), .int .i64 1, .int .i64 1, .int .i64 0, .string (⟨#[]⟩ : ByteArray)]) ?_ 3 _ rfl; (with_reducible repeat ((refine blk_drewN ?_ _))); refine blk_put (cs := #[.string (⟨#[1, 97, 0]⟩ : ByteArray), .int .i64 1, .int .i64 0, .int .i64 0, .string (⟨#[]⟩ : ByteArray)]) ?_ 2 _ rfl; (with_reducible repeat ((refine blk_drewN ?_ _))); refine blk_put (cs := #[.string (⟨#[1, 97, 0]⟩ : ByteArray), .int .i64 0, .int .i64 0, .int .i64 0, .string (⟨#[]⟩ : ByteArray)]) ?_ 1 _ rfl; (with_reducible repeat ((refine blk_drewN ?_ _))); refine blk_put (cs := #[.string (⟨#[]⟩ : ByteArray), .int .i64 0, .int .i64 0, .int .i64 0, .string (⟨#[]⟩ : ByteArray)]) ?_ 0 _ rfl; (with_reducible repeat ((refine blk_drewN ?_ _))); exact BK101.out)) (below_size (by repeat ((with_reducible first | exact HB.out | refine below_set ?_ GE101.out))))); have n1_ := Aside0.mk (blk_below (g := gb101) (o := .cells #[.string (⟨#[1, 97, 0]⟩ : ByteArray), .int .i64 1, .int .i64 1, .int .i64 0, .string (⟨#[97, 98, 99, 100]⟩ : ByteArray)] 24 (0, 0)) (by (with_reducible repeat ((refine blk_drewN ?_ _))); refine blk_put (cs := #[.string (⟨#[1, 97, 0]⟩ : ByteArray), .int .i64 1, .int .i64 1, .int .i64 0, .string (⟨#[]⟩ : ByteArray)]) ?_ 4 _ rfl; (with_reducible repeat ((refine blk_drewN ?_ _))); refine blk_put (cs := #[.string (⟨#[1, 97, 0]⟩ : ByteArray), .int .i64 1, .int .i64 1, .int .i64 0, .string (⟨#[]⟩ : ByteArray)]) ?_ 3 _ rfl; (with_reducible repeat ((refine blk_drewN ?_ _))); refine blk_put (cs := #[.string (⟨#[1, 97, 0]⟩ : ByteArray), .int .i64 1, .int .i64 0, .int .i64 0, .string (⟨#[]⟩ : ByteArray)]) ?_ 2 _ rfl; (with_reducible repeat ((refine blk_drewN ?_ _))); refine blk_put (cs := #[.string (⟨#[1, 97, 0]⟩ : ByteArray), .int .i64 0, .int .i64 0, .int .i64 0, .string (⟨#[]⟩ : ByteArray)]) ?_ 1 _ rfl; (with_reducible repeat ((refine blk_drewN ?_ _))); refine blk_put (cs := #[.string (⟨#[]⟩ : ByteArray), .int .i64 0, .int .i64 0, .int .i64 0, .string (⟨#[]⟩ : ByteArray)]) ?_ 0 _ rfl; (with_reducible repeat ((refine blk_drewN ?_ _))); exact BK101.out) hb); have n2_ := Aside0.mk (below_step (by repeat ((with_reducible first | exact HB.out | refine below_set ?_ GE101.out))) hb); clear BK101; clear HB; have HO104 := n0_; have BK101 := n1_; have HB := n2_; clear n0_ n1_ n2_; (try clear hb); (try clear ho0); obtain ⟨Ao8, co8, eo8⟩ := Kd.R_slice HO104.out; subst eo8; have p106 : 0 ≤ (0 : Int) := (by omega); have q106 : 0 < (t102.length : Int) := of_decide_eq_true (by (with_reducible assumption)); obtain ⟨ad106, e106, hx106_0, hx106_1, hx106_2, hx106_3, hx106_4⟩ := at_T24 (Kd.R_reads' HO104.out).2.2 0 p106 q106; cases e106; have qi106 : (0 < t102.length) = True := eq_true (by omega); (try rw [show ((0 : Int)).toNat = 0 from rfl] at hx106_0); (try rw [show 0 * 5 = 0 from rfl] at hx106_0); (try rw [Addr.add_zero'] at hx106_0); (try rw [show ((0 : Int)).toNat = 0 from rfl] at hx106_1); (try rw [show 0 * 5 = 0 from rfl] at hx106_1); (try rw [Addr.add_zero'] at hx106_1); (try rw [show ((0 : Int)).toNat = 0 from rfl] at hx106_2); (try rw [show 0 * 5 = 0 from rfl] at hx106_2); (try rw [Addr.add_zero'] at hx106_2); (try rw [show ((0 : Int)).toNat = 0 from rfl] at hx106_3); (try rw [show 0 * 5 = 0 from rfl] at hx106_3); (try rw [Addr.add_zero'] at hx106_3); (try rw [show ((0 : Int)).toNat = 0 from rfl] at hx106_4); (try rw [show 0 * 5 = 0 from rfl] at hx106_4); (try rw [Addr.add_zero'] at hx106_4); replace p106 := eq_true p106; replace q106 := eq_true q106; have hcz9_0 : w7.cell? ⟨gb101, 0, none⟩ = some (.string (⟨#[1, 97, 0]⟩ : ByteArray)) := (blk_cell BK101.out 0).trans rfl; have hcz9_1 : w7.cell? ⟨gb101, 1, none⟩ = some (.int .i64 1) := (blk_cell BK101.out 1).trans rfl; have hcz9_2 : w7.cell? ⟨gb101, 2, none⟩ = some (.int .i64 1) := (blk_cell BK101.out 2).trans rfl; have hcz9_3 : w7.cell? ⟨gb101, 3, none⟩ = some (.int .i64 0) := (blk_cell BK101.out 3).trans rfl; have hcz9_4 : w7.cell? ⟨gb101, 4, none⟩ = some (.string (⟨#[97, 98, 99, 100]⟩ : ByteArray)) := (blk_cell BK101.out 4).trans rfl; have hfz9_0 := blk_frozen BK101.out 0; have hfz9_1 := blk_frozen BK101.out 1; have hfz9_2 := blk_frozen BK101.out 2; have hfz9_3 := blk_frozen BK101.out 3; have hfz9_4 := blk_frozen BK101.out 4))
    repeat (go_quiet ((((with_reducible refine gate_dst (N := 1) rfl ?_); refine box_event ?hg (N := 1) ?hd (cs := #[.string (⟨#[]⟩ : ByteArray), .int .i64 0, .int .i64 0, .int .i64 0, .string (⟨#[]⟩ : ByteArray)]) (t := 24) ?hr ?_; (case hd => rfl); (case hg => rfl); (case hr => (go_simp; done)); intro gb101 hg w5 hbox hb; have n0_ := Aside0.mk (below_step (by repeat ((with_reducible (exact HB.out)))) hb); have n1_ := Aside0.mk (hbox); have n2_ := Aside0.mk ((by rw [hg]; exact (below_size (by repeat ((with_reducible (exact HB.out))))) : w.heap.size ≤ gb101)); have n3_ := Aside0.mk ((by rw [hg]; exact (below_size (by repeat ((with_reducible (exact HB.out))))) : w.heap.size ≤ gb101)); clear HB; have HB := n0_; have BK101 := n1_; have GW101 := n2_; have GE101 := n3_; clear n0_ n1_ n2_ n3_; clear hb hbox hg; have hcz6_0 : w5.cell? ⟨gb101, 0, none⟩ = some (.string (⟨#[]⟩ : ByteArray)) := (blk_cell BK101.out 0).trans rfl; have hcz6_1 : w5.cell? ⟨gb101, 1, none⟩ = some (.int .i64 0) := (blk_cell BK101.out 1).trans rfl; have hcz6_2 : w5.cell? ⟨gb101, 2, none⟩ = some (.int .i64 0) := (blk_cell BK101.out 2).trans rfl; have hcz6_3 : w5.cell? ⟨gb101, 3, none⟩ = some (.int .i64 0) := (blk_cell BK101.out 3).trans rfl; have hcz6_4 : w5.cell? ⟨gb101, 4, none⟩ = some (.string (⟨#[]⟩ : ByteArray)) := (blk_cell BK101.out 4).trans rfl; have hfz6_0 := blk_frozen BK101.out 0; have hfz6_1 := blk_frozen BK101.out 1; have hfz6_2 := blk_frozen BK101.out 2; have hfz6_3 := blk_frozen BK101.out 3; have hfz6_4 := blk_frozen BK101.out 4))); try go_wp2_with ((((with_reducible refine gate_dst (N := 1) rfl ?_); refine box_event ?hg (N := 1) ?hd (cs := #[.string (⟨#[]⟩ : ByteArray), .int .i64 0, .int .i64 0, .int .i64 0, .string (⟨#[]⟩ : ByteArray)]) (t := 24) ?hr ?_; (case hd => rfl); (case hg => rfl); (case hr => (go_simp; done)); intro gb101 hg w5 hbox hb; have n0_ := Aside0.mk (below_step (by repeat ((with_reducible (exact HB.out)))) hb); have n1_ := Aside0.mk (hbox); have n2_ := Aside0.mk ((by rw [hg]; exact (below_size (by repeat ((with_reducible (exact HB.out))))) : w.heap.size ≤ gb101)); have n3_ := Aside0.mk ((by rw [hg]; exact (below_size (by repeat ((with_reducible (exact HB.out))))) : w.heap.size ≤ gb101)); clear HB; have HB := n0_; have BK101 := n1_; have GW101 := n2_; have GE101 := n3_; clear n0_ n1_ n2_ n3_; clear hb hbox hg; have hcz6_0 : w5.cell? ⟨gb101, 0, none⟩ = some (.string (⟨#[]⟩ : ByteArray)) := (blk_cell BK101.out 0).trans rfl; have hcz6_1 : w5.cell? ⟨gb101, 1, none⟩ = some (.int .i64 0) := (blk_cell BK101.out 1).trans rfl; have hcz6_2 : w5.cell? ⟨gb101, 2, none⟩ = some (.int .i64 0) := (blk_cell BK101.out 2).trans rfl; have hcz6_3 : w5.cell? ⟨gb101, 3, none⟩ = some (.int .i64 0) := (blk_cell BK101.out 3).trans rfl; have hcz6_4 : w5.cell? ⟨gb101, 4, none⟩ = some (.string (⟨#[]⟩ : ByteArray)) := (blk_cell BK101.out 4).trans rfl; have hfz6_0 := blk_frozen BK101.out 0; have hfz6_1 := blk_frozen BK101.out 1; have hfz6_2 := blk_frozen BK101.out 2; have hfz6_3 := blk_frozen BK101.out 3; have hfz6_4 := blk_frozen BK101.out 4))))
    go_ret
    exact ⟨by rfl, by repeat ((with_reducible first | exact HB.out | apply pw_below_drewN))⟩
   ·rw [if_neg c4] at H
    exact absurd H (by simp)
  ·rw [if_neg c3] at H
   exact absurd H (by simp)
 ·replace c2 := Bool.eq_false_iff.mpr c2
  subst c2
  have H1 : (none) = some r := by rw [if_neg (show ¬ (false = true) by decide)] at H; exact H
  clear H
  have H := H1
  clear H1
  exact absurd H (by simp)
noncomputable def rrset_Find.f (l0 : List (S24)) (a1_0 : ByteArray) (a1_1 : Int) (a1_2 : Int) (a1_3 : Int) (a1_4 : ByteArray) : Option (ByteArray × Int × Int × Int × ByteArray × Bool) := (rrset_at.f l0 a1_0 a1_1 a1_2 a1_3 a1_4).bind fun bt109 => (if bt109.2 = true then (if 0 ≤ bt109.1 then (if bt109.1 < (l0.length : Int) then (some ((rd_T24 l0 bt109.1).f0, (rd_T24 l0 bt109.1).f1, (rd_T24 l0 bt109.1).f2, (rd_T24 l0 bt109.1).f3, (rd_T24 l0 bt109.1).f4, true)) else (none)) else (none)) else (some ((⟨#[]⟩ : ByteArray), 0, 0, 0, (⟨#[]⟩ : ByteArray), false)))
set_option maxHeartbeats 8000000 in
set_option maxRecDepth 100000 in
theorem rrset_Find.calls (A0 : Option Addr) (c0 : Nat) (l0 : List (S24)) (a1_0 : ByteArray) (a1_1 : Int) (a1_2 : Int) (a1_3 : Int) (a1_4 : ByteArray) (r1 : ByteArray) (r2 : Int) (r3 : Int) (r4 : Int) (r5 : ByteArray) (r6 : Bool) (w : World) (hr0 : Kd.C k24 w A0 l0.length l0) (hc0 : l0.length ≤ c0) (h : rrset_Find.f l0 a1_0 a1_1 a1_2 a1_3 a1_4 = some (r1, r2, r3, r4, r5, r6)) :
  Calls Try.prog 10 #[.slice A0 l0.length c0, .agg #[.string a1_0, .int .i64 a1_1, .int .i64 a1_2, .int .i64 a1_3, .string a1_4]] w fun e w' => e = .returned (.tuple #[.agg #[.string r1, .int .i64 r2, .int .i64 r3, .int .i64 r4, .string r5], .bool r6]) ∧ Below w.heap.size w w' := by
 have hu24 := Try.underlying24
 have HR0 := Aside0.mk hr0
 have HC0 := Aside0.mk hc0
 clear hr0 hc0
 have HB := Aside0.mk (Below.refl w.heap.size w)
 have H : ((rrset_at.f l0 a1_0 a1_1 a1_2 a1_3 a1_4).bind fun bt109 => (if bt109.2 = true then (if 0 ≤ bt109.1 then (if bt109.1 < (l0.length : Int) then (some ((rd_T24 l0 bt109.1).f0, (rd_T24 l0 bt109.1).f1, (rd_T24 l0 bt109.1).f2, (rd_T24 l0 bt109.1).f3, (rd_T24 l0 bt109.1).f4, true)) else (none)) else (none)) else (some ((⟨#[]⟩ : ByteArray), 0, 0, 0, (⟨#[]⟩ : ByteArray), false)))) = some (r1, r2, r3, r4, r5, r6) := h
 clear h
 replace H := Option.bind_eq_some_iff.mp H
 obtain ⟨⟨t109, t110⟩, A30, H⟩ := H
 replace H : (if t110 = true then (if 0 ≤ t109 then (if t109 < (l0.length : Int) then (some ((rd_T24 l0 t109).f0, (rd_T24 l0 t109).f1, (rd_T24 l0 t109).f2, (rd_T24 l0 t109).f3, (rd_T24 l0 t109).f4, true)) else (none)) else (none)) else (some ((⟨#[]⟩ : ByteArray), 0, 0, 0, (⟨#[]⟩ : ByteArray), false))) = some (r1, r2, r3, r4, r5, r6) := H
 have A3 := Aside0.mk A30
 clear A30
 by_cases c4 : t110 = true
 ·subst c4
  have H1 : (if 0 ≤ t109 then (if t109 < (l0.length : Int) then (some ((rd_T24 l0 t109).f0, (rd_T24 l0 t109).f1, (rd_T24 l0 t109).f2, (rd_T24 l0 t109).f3, (rd_T24 l0 t109).f4, true)) else (none)) else (none)) = some (r1, r2, r3, r4, r5, r6) := by rw [if_pos rfl] at H; exact H
  clear H
  have H := H1
  clear H1
  by_cases c5 : 0 ≤ t109
  ·rw [if_pos c5] at H
   have c5b0 : decide (0 ≤ t109) = true := decide_eq_true c5
   clear c5
   by_cases c6 : t109 < (l0.length : Int)
   ·rw [if_pos c6] at H
    have c6b0 : decide (t109 < (l0.length : Int)) = true := decide_eq_true c6
    clear c6
    simp only [Option.some.injEq, Prod.mk.injEq] at H
    obtain ⟨rfl, rfl, rfl, rfl, rfl, rfl⟩ := H
    go_enter Try.func10, Try.ntmps10
    go_wp2_with (first | ((with_reducible refine gate_dst (N := 3) rfl ?_); refine box_event ?hg (N := 3) ?hd (cs := #[.string a1_0, .int .i64 a1_1, .int .i64 a1_2, .int .i64 a1_3, .string a1_4]) (t := 24) ?hr ?_; (case hd => rfl); (case hg => rfl); (case hr => (go_simp; done)); intro gb107 hg w7 hbox hb; have n0_ := Aside0.mk (below_step (by repeat ((with_reducible (exact HB.out)))) hb); have n1_ := Aside0.mk (hbox); have n2_ := Aside0.mk ((by rw [hg]; exact (below_size (by repeat ((with_reducible (exact HB.out))))) : w.heap.size ≤ gb107)); have n3_ := Aside0.mk ((by rw [hg]; exact (below_size (by repeat ((with_reducible (exact HB.out))))) : w.heap.size ≤ gb107)); clear HB; have HB := n0_; have BK107 := n1_; have GW107 := n2_; have GE107 := n3_; clear n0_ n1_ n2_ n3_; clear hb hbox hg) | ((with_reducible refine gate_dst (N := 4) rfl ?_); refine box_event ?hg (N := 4) ?hd (cs := #[.string (⟨#[]⟩ : ByteArray), .int .i64 0, .int .i64 0, .int .i64 0, .string (⟨#[]⟩ : ByteArray)]) (t := 24) ?hr ?_; (case hd => rfl); (case hg => rfl); (case hr => (go_simp; done)); intro gb108 hg w8 hbox hb; have n0_ := Aside0.mk (blk_below (g := gb107) (o := .cells #[.string a1_0, .int .i64 a1_1, .int .i64 a1_2, .int .i64 a1_3, .string a1_4] 24 (0, 0)) (by (with_reducible repeat ((refine blk_drewN ?_ _))); exact BK107.out) hb); have n1_ := Aside0.mk (below_step (by repeat ((with_reducible (exact HB.out)))) hb); have n2_ := Aside0.mk (hbox); have n3_ := Aside0.mk ((by rw [hg]; exact (below_size (by repeat ((with_reducible (exact HB.out))))) : w.heap.size ≤ gb108)); have n4_ := Aside0.mk ((by rw [hg]; exact (below_size (by repeat ((with_reducible (exact HB.out))))) : w.heap.size ≤ gb108)); have n5_ := Aside0.mk ((by rw [hg]; exact Nat.ne_of_lt (blk_lt (g := gb107) (o := .cells #[.string a1_0, .int .i64 a1_1, .int .i64 a1_2, .int .i64 a1_3, .string a1_4] 24 (0, 0)) (by (with_reducible repeat ((refine blk_drewN ?_ _))); exact BK107.out)) : gb107 ≠ gb108)); have n6_ := Aside0.mk ((by rw [hg]; exact Nat.ne_of_gt (blk_lt (g := gb107) (o := .cells #[.string a1_0, .int .i64 a1_1, .int .i64 a1_2, .int .i64 a1_3, .string a1_4] 24 (0, 0)) (by (with_reducible repeat ((refine blk_drewN ?_ _))); exact BK107.out)) : gb108 ≠ gb107)); clear BK107; clear HB; have BK107 := n0_; have HB := n1_; have BK108 := n2_; have GW108 := n3_; have GE108 := n4_; have NB107_108 := n5_; have NB108_107 := n6_; clear n0_ n1_ n2_ n3_ n4_ n5_ n6_; clear hb hbox hg; have hnb9 := NB107_108.out; have hnc9 := NB108_107.out; have hcz10_0 : w8.cell? ⟨gb107, 0, none⟩ = some (.string a1_0) := (blk_cell BK107.out 0).trans rfl; have hcz10_1 : w8.cell? ⟨gb107, 1, none⟩ = some (.int .i64 a1_1) := (blk_cell BK107.out 1).trans rfl; have hcz10_2 : w8.cell? ⟨gb107, 2, none⟩ = some (.int .i64 a1_2) := (blk_cell BK107.out 2).trans rfl; have hcz10_3 : w8.cell? ⟨gb107, 3, none⟩ = some (.int .i64 a1_3) := (blk_cell BK107.out 3).trans rfl; have hcz10_4 : w8.cell? ⟨gb107, 4, none⟩ = some (.string a1_4) := (blk_cell BK107.out 4).trans rfl; have hfz10_0 := blk_frozen BK107.out 0; have hfz10_1 := blk_frozen BK107.out 1; have hfz10_2 := blk_frozen BK107.out 2; have hfz10_3 := blk_frozen BK107.out 3; have hfz10_4 := blk_frozen BK107.out 4) | ((with_reducible refine gate_callee (f := 19) rfl ?_); refine goesL_ (some 11) rfl rfl Try.func19 (by kernel_rfl) rfl #[.slice A0 l0.length c0, .agg #[.string a1_0, .int .i64 a1_1, .int .i64 a1_2, .int .i64 a1_3, .string a1_4]] rfl (by (try simp only [List.map_toArray, List.map_cons, List.map_nil]); rfl) ?_; (with_reducible refine (rrset_at.calls _ _ l0 a1_0 a1_1 a1_2 a1_3 a1_4 t109 true _ ?side1 ?side2 A3.out).mono ?_); (case side1 => repeat ((exact (Kd.C_below HR0.out HB.out)))); (case side2 => exact HC0.out); rintro e w11 ⟨rfl, hb⟩; refine ⟨_, rfl, ?_⟩; have n0_ := Aside0.mk (blk_below (g := gb107) (o := .cells #[.string a1_0, .int .i64 a1_1, .int .i64 a1_2, .int .i64 a1_3, .string a1_4] 24 (0, 0)) (by (with_reducible repeat ((refine blk_drewN ?_ _))); exact BK107.out) hb); have n1_ := Aside0.mk (blk_below (g := gb108) (o := .cells #[.string (⟨#[]⟩ : ByteArray), .int .i64 0, .int .i64 0, .int .i64 0, .string (⟨#[]⟩ : ByteArray)] 24 (0, 0)) (by (with_reducible repeat ((refine blk_drewN ?_ _))); exact BK108.out) hb); have n2_ := Aside0.mk (below_step (by repeat ((with_reducible (exact HB.out)))) hb); clear BK107; clear BK108; clear HB; have BK107 := n0_; have BK108 := n1_; have HB := n2_; clear n0_ n1_ n2_; (try clear hb); have p111 : 0 ≤ (t109 : Int) := of_decide_eq_true (by (with_reducible assumption)); have q111 : t109 < (l0.length : Int) := of_decide_eq_true (by (with_reducible assumption)); obtain ⟨ad111, e111, hx111_0, hx111_1, hx111_2, hx111_3, hx111_4⟩ := at_T24 HR0.out t109 p111 q111; cases e111; replace hx111_0 := (HB.out.cell (World.block_lt_of_cell? w _ hx111_0)).trans hx111_0; replace hx111_1 := (HB.out.cell (World.block_lt_of_cell? w _ hx111_1)).trans hx111_1; replace hx111_2 := (HB.out.cell (World.block_lt_of_cell? w _ hx111_2)).trans hx111_2; replace hx111_3 := (HB.out.cell (World.block_lt_of_cell? w _ hx111_3)).trans hx111_3; replace hx111_4 := (HB.out.cell (World.block_lt_of_cell? w _ hx111_4)).trans hx111_4; replace p111 := eq_true p111; replace q111 := eq_true q111; have hcz12_0 : w11.cell? ⟨gb108, 0, none⟩ = some (.string (⟨#[]⟩ : ByteArray)) := (blk_cell BK108.out 0).trans rfl; have hcz12_1 : w11.cell? ⟨gb108, 1, none⟩ = some (.int .i64 0) := (blk_cell BK108.out 1).trans rfl; have hcz12_2 : w11.cell? ⟨gb108, 2, none⟩ = some (.int .i64 0) := (blk_cell BK108.out 2).trans rfl; have hcz12_3 : w11.cell? ⟨gb108, 3, none⟩ = some (.int .i64 0) := (blk_cell BK108.out 3).trans rfl; have hcz12_4 : w11.cell? ⟨gb108, 4, none⟩ = some (.string (⟨#[]⟩ : ByteArray)) := (blk_cell BK108.out 4).trans rfl; have hfz12_0 := blk_frozen BK108.out 0; have hfz12_1 := blk_frozen BK108.out 1; have hfz12_2 := blk_frozen BK108.out 2; have hfz12_3 := blk_frozen BK108.out 3; have hfz12_4 := blk_frozen BK108.out 4))
    refine bodyPost_ret (results_ct rfl _ _ gb108 24 #[.string ((rd_T24 l0 t109).f0), .int .i64 ((rd_T24 l0 t109).f1), .int .i64 ((rd_T24 l0 t109).f2), .int .i64 ((rd_T24 l0 t109).f3), .string ((rd_T24 l0 t109).f4)] (0, 0) _ rfl (by (with_reducible repeat ((refine blk_drewN ?_ _))); refine blk_put (cs := #[.string ((rd_T24 l0 t109).f0), .int .i64 ((rd_T24 l0 t109).f1), .int .i64 ((rd_T24 l0 t109).f2), .int .i64 ((rd_T24 l0 t109).f3), .string (⟨#[]⟩ : ByteArray)]) ?_ 4 _ rfl; (with_reducible repeat ((refine blk_drewN ?_ _))); refine blk_put (cs := #[.string ((rd_T24 l0 t109).f0), .int .i64 ((rd_T24 l0 t109).f1), .int .i64 ((rd_T24 l0 t109).f2), .int .i64 0, .string (⟨#[]⟩ : ByteArray)]) ?_ 3 _ rfl; (with_reducible repeat ((refine blk_drewN ?_ _))); refine blk_put (cs := #[.string ((rd_T24 l0 t109).f0), .int .i64 ((rd_T24 l0 t109).f1), .int .i64 0, .int .i64 0, .string (⟨#[]⟩ : ByteArray)]) ?_ 2 _ rfl; (with_reducible repeat ((refine blk_drewN ?_ _))); refine blk_put (cs := #[.string ((rd_T24 l0 t109).f0), .int .i64 0, .int .i64 0, .int .i64 0, .string (⟨#[]⟩ : ByteArray)]) ?_ 1 _ rfl; (with_reducible repeat ((refine blk_drewN ?_ _))); refine blk_put (cs := #[.string (⟨#[]⟩ : ByteArray), .int .i64 0, .int .i64 0, .int .i64 0, .string (⟨#[]⟩ : ByteArray)]) ?_ 0 _ rfl; (with_reducible repeat ((refine blk_drewN ?_ _))); exact BK108.out) Try.underlying24 rfl (by kernel_rfl)) rfl ?_
    exact ⟨by rfl, by repeat ((with_reducible first | exact HB.out | refine below_set ?_ GE108.out))⟩
   ·rw [if_neg c6] at H
    exact absurd H (by simp)
  ·rw [if_neg c5] at H
   exact absurd H (by simp)
 ·replace c4 := Bool.eq_false_iff.mpr c4
  subst c4
  have H1 : (some ((⟨#[]⟩ : ByteArray), 0, 0, 0, (⟨#[]⟩ : ByteArray), false)) = some (r1, r2, r3, r4, r5, r6) := by rw [if_neg (show ¬ (false = true) by decide)] at H; exact H
  clear H
  have H := H1
  clear H1
  simp only [Option.some.injEq, Prod.mk.injEq] at H
  obtain ⟨rfl, rfl, rfl, rfl, rfl, rfl⟩ := H
  go_enter Try.func10, Try.ntmps10
  go_wp2_with (first | ((with_reducible refine gate_dst (N := 3) rfl ?_); refine box_event ?hg (N := 3) ?hd (cs := #[.string a1_0, .int .i64 a1_1, .int .i64 a1_2, .int .i64 a1_3, .string a1_4]) (t := 24) ?hr ?_; (case hd => rfl); (case hg => rfl); (case hr => (go_simp; done)); intro gb107 hg w13 hbox hb; have n0_ := Aside0.mk (below_step (by repeat ((with_reducible (exact HB.out)))) hb); have n1_ := Aside0.mk (hbox); have n2_ := Aside0.mk ((by rw [hg]; exact (below_size (by repeat ((with_reducible (exact HB.out))))) : w.heap.size ≤ gb107)); have n3_ := Aside0.mk ((by rw [hg]; exact (below_size (by repeat ((with_reducible (exact HB.out))))) : w.heap.size ≤ gb107)); clear HB; have HB := n0_; have BK107 := n1_; have GW107 := n2_; have GE107 := n3_; clear n0_ n1_ n2_ n3_; clear hb hbox hg) | ((with_reducible refine gate_dst (N := 4) rfl ?_); refine box_event ?hg (N := 4) ?hd (cs := #[.string (⟨#[]⟩ : ByteArray), .int .i64 0, .int .i64 0, .int .i64 0, .string (⟨#[]⟩ : ByteArray)]) (t := 24) ?hr ?_; (case hd => rfl); (case hg => rfl); (case hr => (go_simp; done)); intro gb108 hg w14 hbox hb; have n0_ := Aside0.mk (blk_below (g := gb107) (o := .cells #[.string a1_0, .int .i64 a1_1, .int .i64 a1_2, .int .i64 a1_3, .string a1_4] 24 (0, 0)) (by (with_reducible repeat ((refine blk_drewN ?_ _))); exact BK107.out) hb); have n1_ := Aside0.mk (below_step (by repeat ((with_reducible (exact HB.out)))) hb); have n2_ := Aside0.mk (hbox); have n3_ := Aside0.mk ((by rw [hg]; exact (below_size (by repeat ((with_reducible (exact HB.out))))) : w.heap.size ≤ gb108)); have n4_ := Aside0.mk ((by rw [hg]; exact (below_size (by repeat ((with_reducible (exact HB.out))))) : w.heap.size ≤ gb108)); have n5_ := Aside0.mk ((by rw [hg]; exact Nat.ne_of_lt (blk_lt (g := gb107) (o := .cells #[.string a1_0, .int .i64 a1_1, .int .i64 a1_2, .int .i64 a1_3, .string a1_4] 24 (0, 0)) (by (with_reducible repeat ((refine blk_drewN ?_ _))); exact BK107.out)) : gb107 ≠ gb108)); have n6_ := Aside0.mk ((by rw [hg]; exact Nat.ne_of_gt (blk_lt (g := gb107) (o := .cells #[.string a1_0, .int .i64 a1_1, .int .i64 a1_2, .int .i64 a1_3, .string a1_4] 24 (0, 0)) (by (with_reducible repeat ((refine blk_drewN ?_ _))); exact BK107.out)) : gb108 ≠ gb107)); clear BK107; clear HB; have BK107 := n0_; have HB := n1_; have BK108 := n2_; have GW108 := n3_; have GE108 := n4_; have NB107_108 := n5_; have NB108_107 := n6_; clear n0_ n1_ n2_ n3_ n4_ n5_ n6_; clear hb hbox hg; have hnb15 := NB107_108.out; have hnc15 := NB108_107.out; have hcz16_0 : w14.cell? ⟨gb107, 0, none⟩ = some (.string a1_0) := (blk_cell BK107.out 0).trans rfl; have hcz16_1 : w14.cell? ⟨gb107, 1, none⟩ = some (.int .i64 a1_1) := (blk_cell BK107.out 1).trans rfl; have hcz16_2 : w14.cell? ⟨gb107, 2, none⟩ = some (.int .i64 a1_2) := (blk_cell BK107.out 2).trans rfl; have hcz16_3 : w14.cell? ⟨gb107, 3, none⟩ = some (.int .i64 a1_3) := (blk_cell BK107.out 3).trans rfl; have hcz16_4 : w14.cell? ⟨gb107, 4, none⟩ = some (.string a1_4) := (blk_cell BK107.out 4).trans rfl; have hfz16_0 := blk_frozen BK107.out 0; have hfz16_1 := blk_frozen BK107.out 1; have hfz16_2 := blk_frozen BK107.out 2; have hfz16_3 := blk_frozen BK107.out 3; have hfz16_4 := blk_frozen BK107.out 4) | ((with_reducible refine gate_callee (f := 19) rfl ?_); refine goesL_ (some 11) rfl rfl Try.func19 (by kernel_rfl) rfl #[.slice A0 l0.length c0, .agg #[.string a1_0, .int .i64 a1_1, .int .i64 a1_2, .int .i64 a1_3, .string a1_4]] rfl (by (try simp only [List.map_toArray, List.map_cons, List.map_nil]); rfl) ?_; (with_reducible refine (rrset_at.calls _ _ l0 a1_0 a1_1 a1_2 a1_3 a1_4 t109 false _ ?side1 ?side2 A3.out).mono ?_); (case side1 => repeat ((exact (Kd.C_below HR0.out HB.out)))); (case side2 => exact HC0.out); rintro e w17 ⟨rfl, hb⟩; refine ⟨_, rfl, ?_⟩; have n0_ := Aside0.mk (blk_below (g := gb107) (o := .cells #[.string a1_0, .int .i64 a1_1, .int .i64 a1_2, .int .i64 a1_3, .string a1_4] 24 (0, 0)) (by (with_reducible repeat ((refine blk_drewN ?_ _))); exact BK107.out) hb); have n1_ := Aside0.mk (blk_below (g := gb108) (o := .cells #[.string (⟨#[]⟩ : ByteArray), .int .i64 0, .int .i64 0, .int .i64 0, .string (⟨#[]⟩ : ByteArray)] 24 (0, 0)) (by (with_reducible repeat ((refine blk_drewN ?_ _))); exact BK108.out) hb); have n2_ := Aside0.mk (below_step (by repeat ((with_reducible (exact HB.out)))) hb); clear BK107; clear BK108; clear HB; have BK107 := n0_; have BK108 := n1_; have HB := n2_; clear n0_ n1_ n2_; (try clear hb); have hcz18_0 : w17.cell? ⟨gb108, 0, none⟩ = some (.string (⟨#[]⟩ : ByteArray)) := (blk_cell BK108.out 0).trans rfl; have hcz18_1 : w17.cell? ⟨gb108, 1, none⟩ = some (.int .i64 0) := (blk_cell BK108.out 1).trans rfl; have hcz18_2 : w17.cell? ⟨gb108, 2, none⟩ = some (.int .i64 0) := (blk_cell BK108.out 2).trans rfl; have hcz18_3 : w17.cell? ⟨gb108, 3, none⟩ = some (.int .i64 0) := (blk_cell BK108.out 3).trans rfl; have hcz18_4 : w17.cell? ⟨gb108, 4, none⟩ = some (.string (⟨#[]⟩ : ByteArray)) := (blk_cell BK108.out 4).trans rfl; have hfz18_0 := blk_frozen BK108.out 0; have hfz18_1 := blk_frozen BK108.out 1; have hfz18_2 := blk_frozen BK108.out 2; have hfz18_3 := blk_frozen BK108.out 3; have hfz18_4 := blk_frozen BK108.out 4))
  refine bodyPost_ret (results_ct rfl _ _ gb108 24 #[.string (⟨#[]⟩ : ByteArray), .int .i64 0, .int .i64 0, .int .i64 0, .string (⟨#[]⟩ : ByteArray)] (0, 0) _ rfl (by (with_reducible repeat ((refine blk_drewN ?_ _))); refine blk_put (cs := #[.string (⟨#[]⟩ : ByteArray), .int .i64 0, .int .i64 0, .int .i64 0, .string (⟨#[]⟩ : ByteArray)]) ?_ 4 _ rfl; (with_reducible repeat ((refine blk_drewN ?_ _))); refine blk_put (cs := #[.string (⟨#[]⟩ : ByteArray), .int .i64 0, .int .i64 0, .int .i64 0, .string (⟨#[]⟩ : ByteArray)]) ?_ 3 _ rfl; (with_reducible repeat ((refine blk_drewN ?_ _))); refine blk_put (cs := #[.string (⟨#[]⟩ : ByteArray), .int .i64 0, .int .i64 0, .int .i64 0, .string (⟨#[]⟩ : ByteArray)]) ?_ 2 _ rfl; (with_reducible repeat ((refine blk_drewN ?_ _))); refine blk_put (cs := #[.string (⟨#[]⟩ : ByteArray), .int .i64 0, .int .i64 0, .int .i64 0, .string (⟨#[]⟩ : ByteArray)]) ?_ 1 _ rfl; (with_reducible repeat ((refine blk_drewN ?_ _))); refine blk_put (cs := #[.string (⟨#[]⟩ : ByteArray), .int .i64 0, .int .i64 0, .int .i64 0, .string (⟨#[]⟩ : ByteArray)]) ?_ 0 _ rfl; (with_reducible repeat ((refine blk_drewN ?_ _))); exact BK108.out) Try.underlying24 rfl (by kernel_rfl)) rfl ?_
  exact ⟨by rfl, by repeat ((with_reducible first | exact HB.out | refine below_set ?_ GE108.out))⟩
def rrset_Is.T4 : Bool × List (List Nat × List Nat) := (true, [([], []), ([], []), ([1], [1]), ([0, 2], [0, 2]), ([3], [3]), ([], []), ([], []), ([5, 6], [5, 6]), ([7], [7]), ([4, 8], [4, 8]), ([9], [9])])
def rrset_Is.B4 : List Nat := [0, 0, 2, 7, 15, 0, 0, 96, 224, 511, 1023]
theorem rrset_Is.tab4 : rtab .any (opsOf Try.f15 4) = rrset_Is.T4 := by kernel_rfl
theorem rrset_Is.bits4 : waitsOk rrset_Is.T4.2 rrset_Is.B4 = true := by kernel_rfl
end Go.Proofs.Ytnpiglojamhpiaa.PRs
namespace Go.Proofs.Ytnpiglojamhpiaa.Rrs
open Go.RowKit Go.Proofs.YtnpiglojamhpiaaW.PrintWords Go.Proofs.YtnpiglojamhpiaaW.PrintLast Go.Proofs.YtnpiglojamhpiaaW.PrintMore Go.Proofs.Ytnpiglojamhpiaa.Given Go.Proofs.Ytnpiglojamhpiaa.PRd Go.Proofs.Ytnpiglojamhpiaa.PRr Go.Proofs.Ytnpiglojamhpiaa.PRs Go.Proofs.Ytnpiglojamhpiaa.Oct Go.Proofs.Ytnpiglojamhpiaa.Name Go.Proofs.Ytnpiglojamhpiaa.Cmp Go.Proofs.Ytnpiglojamhpiaa.NameFacts Go.Proofs.Ytnpiglojamhpiaa.RdataFacts Go.Proofs.Ytnpiglojamhpiaa.SetLaw
set_option linter.unusedVariables false
def foundT : Option RR → ByteArray × Int × Int × Int × ByteArray × Bool
  | some y => (y.f0, y.f1, y.f2, y.f3, y.f4, true)
  | none => (⟨#[]⟩, 0, 0, 0, ⟨#[]⟩, false)
theorem Find_f {l : List RR} {x : RR} (h : SetOf l) (hx : fine x) : rrset_Find.f l x.f0 x.f1 x.f2 x.f3 x.f4 = some (foundT (find cmpRR l x)) := by
  unfold rrset_Find.f
  rw [at_f h hx, Option.bind_some, find_hit h hx]
  by_cases hh : hit l x = true
  · obtain ⟨hp, _⟩ := (hit_is h hx).mp hh
    simp only [hh, if_true]
    rw [if_pos (by omega), if_pos (by omega)]
    rfl
  · simp only [hh, Bool.false_eq_true, if_false]
    rfl
theorem setOf_nil : SetOf [] := ⟨fun y hy => by (cases hy), Nat.zero_le _, List.Pairwise.nil⟩
theorem awake_f : beadrolllaw13_awake.f = some true := by
  have hx : fine (⟨⟨#[1, 97, 0]⟩, 1, 1, 0, ⟨#[97, 98, 99, 100]⟩⟩ : RR) := ⟨by kernel_rfl, by decide⟩
  have e : rrset_Put.f ([] : List RR) (⟨#[1, 97, 0]⟩ : ByteArray) 1 1 0 (⟨#[97, 98, 99, 100]⟩ : ByteArray) = _ := put_f setOf_nil hx
  have hb : putB [] (⟨⟨#[1, 97, 0]⟩, 1, 1, 0, ⟨#[97, 98, 99, 100]⟩⟩ : RR) = true := (putB_is setOf_nil hx).mpr (by rw [put]; simp)
  unfold beadrolllaw13_awake.f
  have t1 : (⟨#[1, 97, 0]⟩ : ByteArray).toList = [1, 97, 0] := by kernel_rfl
  have t2 : (⟨#[97, 98, 99, 100]⟩ : ByteArray).toList = [97, 98, 99, 100] := by kernel_rfl
  have r0 : rdR [(⟨⟨#[1, 97, 0]⟩, 1, 1, 0, ⟨#[97, 98, 99, 100]⟩⟩ : RR)] 0 = ⟨⟨#[1, 97, 0]⟩, 1, 1, 0, ⟨#[97, 98, 99, 100]⟩⟩ := rfl
  rw [e, hb, put]
  simp only [Option.bind_some, if_true, r0, t1, t2, List.length_singleton]
  rfl
end Go.Proofs.Ytnpiglojamhpiaa.Rrs
namespace Go.Proofs.Ytnpiglojamhpiaa.PRq
open Go.RowKit Go.Proofs.YtnpiglojamhpiaaW.PrintWords Go.Proofs.YtnpiglojamhpiaaW.PrintLast Go.Proofs.YtnpiglojamhpiaaW.PrintMore Go.Proofs.Ytnpiglojamhpiaa.Given Go.Proofs.Ytnpiglojamhpiaa.PRd Go.Proofs.Ytnpiglojamhpiaa.PRr
attribute [local go_sem] max2_int min2_int max_two min_two max_three min_three max_four min_four   -- for this text's walks alone
set_option linter.unusedVariables false
set_option linter.unusedSimpArgs false
def errW : Option Int → Value
 | none => .nilIface
 | some c => .iface 0 (.int .i64 c)
theorem errW_none : errW none = .nilIface := rfl
theorem errW_some (c : Int) : errW (some c) = .iface 0 (.int .i64 c) := rfl
end Go.Proofs.Ytnpiglojamhpiaa.PRq
namespace Go.Proofs.Ytnpiglojamhpiaa.PRq
open Go.RowKit Go.Proofs.YtnpiglojamhpiaaW.PrintWords Go.Proofs.YtnpiglojamhpiaaW.PrintLast Go.Proofs.YtnpiglojamhpiaaW.PrintMore Go.Proofs.Ytnpiglojamhpiaa.Given Go.Proofs.Ytnpiglojamhpiaa.PRd Go.Proofs.Ytnpiglojamhpiaa.PRr
attribute [local go_sem] max2_int min2_int max_two min_two max_three min_three max_four min_four   -- for this text's walks alone
set_option linter.unusedVariables false
set_option linter.unusedSimpArgs false
noncomputable def beadrollref13_Drop.f (k : Nat) (l0 : List (S24)) (a1_0 : ByteArray) (a1_1 : Int) (a1_2 : Int) (a1_3 : Int) (a1_4 : ByteArray) : Option ((List (S24)) × Bool) := (beadrollref13_find.f k l0 a1_0 a1_1 a1_2 a1_3 a1_4).bind fun t102 => (if t102 < 0 then (none) else ((some (([] : List (S24)) : List (S24))).bind fun y103 => (if 0 ≤ t102 then (if t102 ≤ (l0.length : Int) then ((some (l0.take (t102 : Int).toNat : List (S24))).bind fun y106 => (if y103.length + y106.length < 2513169434916 then ((some (y103 ++ y106 : List (S24))).bind fun y110 => (if 0 ≤ (wrap64 (t102 + 1)) then (if (wrap64 (t102 + 1)) ≤ (l0.length : Int) then ((some (l0.drop ((wrap64 (t102 + 1)) : Int).toNat : List (S24))).bind fun y113 => (if y110.length + y113.length < 2513169434916 then (some ((y110 ++ y113), true)) else (none))) else (none)) else (none))) else (none))) else (none)) else (none))))
def beadrollref13_Drop.T4 : Bool × List (List Nat × List Nat) := (true, [([], []), ([], []), ([], []), ([1, 2], [1, 2]), ([0, 3], [0, 3]), ([], []), ([], []), ([6], [6]), ([5, 7], [5, 7]), ([4, 8, 4], [4, 8]), ([9, 9, 0, 1, 2, 3, 4, 5, 6, 7, 8, 9], [9]), ([10, 0, 1, 2, 3, 4, 5, 6, 7, 8, 9, 10], [])])
def beadrollref13_Drop.B4 : List Nat := [0, 0, 0, 6, 15, 0, 0, 64, 224, 511, 1023, 2047]
theorem beadrollref13_Drop.tab4 : rtab .any (opsOf Try.f12 4) = beadrollref13_Drop.T4 := by kernel_rfl
theorem beadrollref13_Drop.bits4 : waitsOk beadrollref13_Drop.T4.2 beadrollref13_Drop.B4 = true := by kernel_rfl
set_option maxHeartbeats 8000000 in
set_option maxRecDepth 100000 in
theorem beadrollref13_Drop.calls (k : Nat) (A0 : Option Addr) (c0 : Nat) (l0 : List (S24)) (a1_0 : ByteArray) (a1_1 : Int) (a1_2 : Int) (a1_3 : Int) (a1_4 : ByteArray) (r1 : List (S24)) (r2 : Bool) (w : World) (hr0 : Kd.C k24 w A0 l0.length l0) (hc0 : l0.length ≤ c0) (h : beadrollref13_Drop.f k l0 a1_0 a1_1 a1_2 a1_3 a1_4 = some (r1, r2)) :
  Calls Try.prog 12 #[.slice A0 l0.length c0, .agg #[.string a1_0, .int .i64 a1_1, .int .i64 a1_2, .int .i64 a1_3, .string a1_4]] w fun e w' => ∃ v0_ : Value, e = .returned (.tuple #[v0_, .bool r2]) ∧ Kd.R k24 24 w' w.heap.size (fun _ => True) v0_ r1 ∧ Below w.heap.size w w' := by
 have hu24 := Try.underlying24
 have HR0 := Aside0.mk hr0
 have HC0 := Aside0.mk hc0
 clear hr0 hc0
 have HB := Aside0.mk (Below.refl w.heap.size w)
 have H : ((beadrollref13_find.f k l0 a1_0 a1_1 a1_2 a1_3 a1_4).bind fun t102 => (if t102 < 0 then (none) else ((some (([] : List (S24)) : List (S24))).bind fun y103 => (if 0 ≤ t102 then (if t102 ≤ (l0.length : Int) then ((some (l0.take (t102 : Int).toNat : List (S24))).bind fun y106 => (if y103.length + y106.length < 2513169434916 then ((some (y103 ++ y106 : List (S24))).bind fun y110 => (if 0 ≤ (wrap64 (t102 + 1)) then (if (wrap64 (t102 + 1)) ≤ (l0.length : Int) then ((some (l0.drop ((wrap64 (t102 + 1)) : Int).toNat : List (S24))).bind fun y113 => (if y110.length + y113.length < 2513169434916 then (some ((y110 ++ y113), true)) else (none))) else (none)) else (none))) else (none))) else (none)) else (none))))) = some (r1, r2) := h
 clear h
 replace H := Option.bind_eq_some_iff.mp H
 obtain ⟨t102, A30, H⟩ := H
 replace H : (if t102 < 0 then (none) else ((some (([] : List (S24)) : List (S24))).bind fun y103 => (if 0 ≤ t102 then (if t102 ≤ (l0.length : Int) then ((some (l0.take (t102 : Int).toNat : List (S24))).bind fun y106 => (if y103.length + y106.length < 2513169434916 then ((some (y103 ++ y106 : List (S24))).bind fun y110 => (if 0 ≤ (wrap64 (t102 + 1)) then (if (wrap64 (t102 + 1)) ≤ (l0.length : Int) then ((some (l0.drop ((wrap64 (t102 + 1)) : Int).toNat : List (S24))).bind fun y113 => (if y110.length + y113.length < 2513169434916 then (some ((y110 ++ y113), true)) else (none))) else (none)) else (none))) else (none))) else (none)) else (none)))) = some (r1, r2) := H
 have A3 := Aside0.mk A30
 clear A30
 by_cases c4 : t102 < 0
 ·rw [if_pos c4] at H
  exact absurd H (by simp)
 ·rw [if_neg c4] at H
  have c4b0 : decide (t102 < 0) = false := decide_eq_false c4
  clear c4
  obtain ⟨y103, hy103⟩ : ∃ y_ : List (S24), y_ = (([] : List (S24))) := ⟨_, rfl⟩
  replace H : (if 0 ≤ t102 then (if t102 ≤ (l0.length : Int) then ((some (l0.take (t102 : Int).toNat : List (S24))).bind fun y106 => (if y103.length + y106.length < 2513169434916 then ((some (y103 ++ y106 : List (S24))).bind fun y110 => (if 0 ≤ (wrap64 (t102 + 1)) then (if (wrap64 (t102 + 1)) ≤ (l0.length : Int) then ((some (l0.drop ((wrap64 (t102 + 1)) : Int).toNat : List (S24))).bind fun y113 => (if y110.length + y113.length < 2513169434916 then (some ((y110 ++ y113), true)) else (none))) else (none)) else (none))) else (none))) else (none)) else (none)) = some (r1, r2) := by (have H2_ := (Option.bind_some _ _).symm.trans H; rw [hy103]; with_reducible exact H2_)
  have Ny103 := Aside0.mk hy103
  clear hy103
  by_cases c5 : 0 ≤ t102
  ·rw [if_pos c5] at H
   have c5b0 := eq_true c5
   have c5b1 : decide (0 ≤ t102) = true := decide_eq_true c5
   clear c5
   by_cases c6 : t102 ≤ (l0.length : Int)
   ·rw [if_pos c6] at H
    have c6b0 := eq_true c6
    have c6b1 : decide (t102 ≤ (l0.length : Int)) = true := decide_eq_true c6
    clear c6
    obtain ⟨y106, hy106⟩ : ∃ y_ : List (S24), y_ = (l0.take (t102 : Int).toNat) := ⟨_, rfl⟩
    replace H : (if y103.length + y106.length < 2513169434916 then ((some (y103 ++ y106 : List (S24))).bind fun y110 => (if 0 ≤ (wrap64 (t102 + 1)) then (if (wrap64 (t102 + 1)) ≤ (l0.length : Int) then ((some (l0.drop ((wrap64 (t102 + 1)) : Int).toNat : List (S24))).bind fun y113 => (if y110.length + y113.length < 2513169434916 then (some ((y110 ++ y113), true)) else (none))) else (none)) else (none))) else (none)) = some (r1, r2) := by (have H2_ := (Option.bind_some _ _).symm.trans H; rw [hy106]; with_reducible exact H2_)
    have Ny106 := Aside0.mk hy106
    clear hy106
    by_cases c7 : y103.length + y106.length < 2513169434916
    ·rw [if_pos c7] at H
     have LMc7 := Aside0.mk c7
     clear c7
     obtain ⟨y110, hy110⟩ : ∃ y_ : List (S24), y_ = (y103 ++ y106) := ⟨_, rfl⟩
     replace H : (if 0 ≤ (wrap64 (t102 + 1)) then (if (wrap64 (t102 + 1)) ≤ (l0.length : Int) then ((some (l0.drop ((wrap64 (t102 + 1)) : Int).toNat : List (S24))).bind fun y113 => (if y110.length + y113.length < 2513169434916 then (some ((y110 ++ y113), true)) else (none))) else (none)) else (none)) = some (r1, r2) := by (have H2_ := (Option.bind_some _ _).symm.trans H; rw [hy110]; with_reducible exact H2_)
     have Ny110 := Aside0.mk hy110
     clear hy110
     obtain ⟨ji8, hji8⟩ : ∃ j_ : Int, (wrap64 (t102 + 1)) = j_ := ⟨_, rfl⟩
     replace H : (if 0 ≤ (ji8) then (if (ji8) ≤ (l0.length : Int) then ((some (l0.drop ((ji8) : Int).toNat : List (S24))).bind fun y113 => (if y110.length + y113.length < 2513169434916 then (some ((y110 ++ y113), true)) else (none))) else (none)) else (none)) = some (r1, r2) := by (rw [hji8] at H; exact H)
     have hji8w : (IntKind.i64.wrap (t102 + 1)) = ji8 := (i64_w _).trans hji8
     by_cases c9 : 0 ≤ (ji8)
     ·rw [if_pos c9] at H
      have c9b0 := eq_true c9
      have c9b1 : decide (0 ≤ (ji8)) = true := decide_eq_true c9
      clear c9
      by_cases c10 : (ji8) ≤ (l0.length : Int)
      ·rw [if_pos c10] at H
       have c10b0 := eq_true c10
       have c10b1 : decide ((ji8) ≤ (l0.length : Int)) = true := decide_eq_true c10
       clear c10
       obtain ⟨y113, hy113⟩ : ∃ y_ : List (S24), y_ = (l0.drop ((ji8) : Int).toNat) := ⟨_, rfl⟩
       replace H : (if y110.length + y113.length < 2513169434916 then (some ((y110 ++ y113), true)) else (none)) = some (r1, r2) := by (have H2_ := (Option.bind_some _ _).symm.trans H; rw [hy113]; with_reducible exact H2_)
       have Ny113 := Aside0.mk hy113
       clear hy113
       by_cases c11 : y110.length + y113.length < 2513169434916
       ·rw [if_pos c11] at H
        have LMc11 := Aside0.mk c11
        clear c11
        obtain ⟨y117, hy117⟩ : ∃ y_ : List (S24), y_ = (y110 ++ y113) := ⟨_, rfl⟩
        replace H : (some (y117, true)) = some (r1, r2) := by (rw [hy117]; with_reducible exact H)
        have Ny117 := Aside0.mk hy117
        clear hy117
        simp only [Option.some.injEq, Prod.mk.injEq] at H
        obtain ⟨rfl, rfl⟩ := H
        go_enter Try.func12, Try.ntmps12
        (try go_wp2_with (first | ((with_reducible refine gate_dst (N := 3) rfl ?_); refine box_event ?hg (N := 3) ?hd (cs := #[.string a1_0, .int .i64 a1_1, .int .i64 a1_2, .int .i64 a1_3, .string a1_4]) (t := 24) ?hr ?_; (case hd => rfl); (case hg => rfl); (case hr => (go_simp; done)); intro gb101 hg w12 hbox hb; have n0_ := Aside0.mk (below_step (by repeat ((with_reducible (exact HB.out)))) hb); have n1_ := Aside0.mk (hbox); have n2_ := Aside0.mk ((by rw [hg]; exact (below_size (by repeat ((with_reducible (exact HB.out))))) : w.heap.size ≤ gb101)); have n3_ := Aside0.mk ((by rw [hg]; exact (below_size (by repeat ((with_reducible (exact HB.out))))) : w.heap.size ≤ gb101)); clear HB; have HB := n0_; have BK101 := n1_; have GW101 := n2_; have GE101 := n3_; clear n0_ n1_ n2_ n3_; clear hb hbox hg; have hcz13_0 : w12.cell? ⟨gb101, 0, none⟩ = some (.string a1_0) := (blk_cell BK101.out 0).trans rfl; have hcz13_1 : w12.cell? ⟨gb101, 1, none⟩ = some (.int .i64 a1_1) := (blk_cell BK101.out 1).trans rfl; have hcz13_2 : w12.cell? ⟨gb101, 2, none⟩ = some (.int .i64 a1_2) := (blk_cell BK101.out 2).trans rfl; have hcz13_3 : w12.cell? ⟨gb101, 3, none⟩ = some (.int .i64 a1_3) := (blk_cell BK101.out 3).trans rfl; have hcz13_4 : w12.cell? ⟨gb101, 4, none⟩ = some (.string a1_4) := (blk_cell BK101.out 4).trans rfl; have hfz13_0 := blk_frozen BK101.out 0; have hfz13_1 := blk_frozen BK101.out 1; have hfz13_2 := blk_frozen BK101.out 2; have hfz13_3 := blk_frozen BK101.out 3; have hfz13_4 := blk_frozen BK101.out 4) | ((with_reducible refine gate_callee (f := 22) rfl ?_); refine goesL_ (some 9) rfl rfl Try.func22 (by kernel_rfl) rfl #[.slice A0 l0.length c0, .agg #[.string a1_0, .int .i64 a1_1, .int .i64 a1_2, .int .i64 a1_3, .string a1_4]] rfl (by (try simp only [List.map_toArray, List.map_cons, List.map_nil]); rfl) ?_; (with_reducible refine (beadrollref13_find.calls k _ _ l0 a1_0 a1_1 a1_2 a1_3 a1_4 t102 _ ?side1 ?side2 A3.out).mono ?_); (case side1 => repeat ((exact (Kd.C_below HR0.out HB.out)))); (case side2 => exact HC0.out); rintro e w14 ⟨rfl, hb⟩; refine ⟨_, rfl, ?_⟩; have n0_ := Aside0.mk (blk_below (g := gb101) (o := .cells #[.string a1_0, .int .i64 a1_1, .int .i64 a1_2, .int .i64 a1_3, .string a1_4] 24 (0, 0)) (by (with_reducible repeat ((refine blk_drewN ?_ _))); exact BK101.out) hb); have n1_ := Aside0.mk (below_step (by repeat ((with_reducible (exact HB.out)))) hb); clear BK101; clear HB; have BK101 := n0_; have HB := n1_; clear n0_ n1_; (try clear hb))))
        have n0_ := Aside0.mk (blk_drew BK101.out)
        have n1_ := Aside0.mk (below_drew1 HB.out)
        clear BK101
        clear HB
        have BK101 := n0_
        have HB := n1_
        clear n0_ n1_
        have q16 : (t102 : Int) ≤ ((l0.length : Int) : Int) := of_decide_eq_true (by (with_reducible assumption))
        obtain ⟨i016, hi016, _, hsz16, _⟩ := info_parts info24
        have hroom16 : l0.length ≤ c0 := HC0.out
        have hC16 : Kd.C k24 _ A0 l0.length l0 := HR0.out
        have hcut16 := cut_to (P := Try.prog) 22 24 .i64 Try.underlying22 hi016 A0 l0.length c0 t102 (of_decide_eq_true (by (with_reducible assumption))) q16 hroom16
        have hr16 := Kd.C_take (m := (t102 : Int).toNat) hC16 (by omega)
        have hy16 : y106.length = (t102 : Int).toNat := (by rw [Ny106.out, List.length_take]; omega)
        rw [← Ny106.out] at hr16
        rw [← hy16] at hcut16
        have HR109 := Aside0.mk hr16
        have HC109 := Aside0.mk (show y106.length ≤ c0 from by omega)
        clear hr16 hC16 hroom16 hi016 hsz16
        have KY16 := Aside0.mk hy16
        clear hy16
        replace q16 := eq_true q16
        have q17 : ((ji8) : Int) ≤ ((l0.length : Int) : Int) := of_decide_eq_true (by (with_reducible assumption))
        obtain ⟨i017, hi017, _, hsz17, _⟩ := info_parts info24
        have hroom17 : l0.length ≤ c0 := HC0.out
        have hC17 : Kd.C k24 _ A0 l0.length l0 := HR0.out
        have q017 : (0 : Int) ≤ ((ji8) : Int) := of_decide_eq_true (by (with_reducible assumption))
        have hcut17 := cut_from (P := Try.prog) 22 24 .i64 Try.underlying22 hi017 5 hsz17 A0 l0.length c0 (ji8) q017 q17
        have hr17 := Kd.C_drop (m := ((ji8) : Int).toNat) (c := c0) hC17 (by omega) hroom17
        obtain ⟨A17, hA17⟩ : ∃ A1, A1 = (if c0 = ((ji8) : Int).toNat then A0 else (A0 : Option Addr).map (·.add (((ji8) : Int).toNat * 5))) := ⟨_, rfl⟩
        obtain ⟨c17, hc17⟩ : ∃ c1, c1 = c0 - ((ji8) : Int).toNat := ⟨_, rfl⟩
        have hy17 : y113.length = l0.length - ((ji8) : Int).toNat := (by rw [Ny113.out, List.length_drop] <;> omega)
        rw [show (l0).drop ((ji8) : Int).toNat = y113 from Ny113.out.symm] at hr17
        replace hr17 : Kd.C k24 _ A17 y113.length y113 := (by rw [hA17]; exact hr17)
        rw [← hy17, ← hA17, ← hc17] at hcut17
        have HR116 := Aside0.mk hr17
        have HC116 := Aside0.mk (show y113.length ≤ c17 from by rw [hy17, hc17]; exact Nat.sub_le_sub_right hroom17 _)
        clear hr17 hC17 hroom17 hi017 hsz17 hc17
        have KY17 := Aside0.mk hy17
        have KA17 := Aside0.mk hA17
        clear hy17 hA17
        replace q17 := eq_true q17
        refine start_ (n := 12) (S := fun w' => True) (ds := []) #[false, false, false, false, false, false, false, false, false, false, false, false] (by kernel_rfl) rfl rfl trivial (fun hHeld => ?_); refine with_tabW beadrollref13_Drop.tab4 beadrollref13_Drop.bits4 (fun HT_ HW_ => ?_)
        generalize w14.drew = w15 at BK101 HB HR109 HR116 hHeld ⊢
        refine pure_ (i := 1) (N := some 14) (v := ?_) (a' := ?_) #[false, true, false, false, false, false, false, false, false, false, false, false] rfl rfl (any_of HT_.out (by kernel_rfl)) (fun _ _ _ h => h) (Or.inl ⟨by rfl, ?_⟩) ?_ ?_
        rotate_left
        ·intro w'
         go_simp
         with_reducible rfl
        rotate_left
        ·simp only [Act.put, List.setIfInBounds_toArray, List.set_cons_zero, List.set_cons_succ, i64_w, i32_w]
         rfl
        refine pure_ (i := 2) (N := some 15) (v := ?_) (a' := ?_) #[false, true, true, false, false, false, false, false, false, false, false, false] rfl rfl (any_of HT_.out (by kernel_rfl)) (fun _ _ _ h => h) (Or.inl ⟨by rfl, ?_⟩) ?_ ?_
        rotate_left
        ·intro w'
         go_simp
         with_reducible rfl
        rotate_left
        ·simp only [Act.put, List.setIfInBounds_toArray, List.set_cons_zero, List.set_cons_succ, i64_w, i32_w]
         rfl
        refine pure_ (i := 3) (N := some 16) (v := ?_) (a' := ?_) #[false, true, true, true, false, false, false, false, false, false, false, false] rfl rfl (any_of HT_.out (by kernel_rfl)) (fun _ _ _ h => h) (Or.inl ⟨by rfl, ?_⟩) ?_ ?_
        rotate_left
        ·intro w'
         go_simp
         with_reducible rfl
        rotate_left
        ·simp only [Act.put, List.setIfInBounds_toArray, List.set_cons_zero, List.set_cons_succ, i64_w, i32_w]
         rfl
        refine pure_ (i := 5) (N := some 18) (v := ?_) (a' := ?_) #[false, true, true, true, false, true, false, false, false, false, false, false] rfl rfl (any_of HT_.out (by kernel_rfl)) (fun _ _ _ h => h) (Or.inl ⟨by rfl, ?_⟩) ?_ ?_
        rotate_left
        ·intro w'
         go_simp
         with_reducible rfl
        rotate_left
        ·simp only [Act.put, List.setIfInBounds_toArray, List.set_cons_zero, List.set_cons_succ, i64_w, i32_w]
         rfl
        refine pure_ (i := 6) (N := some 19) (v := ?_) (a' := ?_) #[false, true, true, true, false, true, true, false, false, false, false, false] rfl rfl (any_of HT_.out (by kernel_rfl)) (fun _ _ _ h => h) (Or.inl ⟨by rfl, ?_⟩) ?_ ?_
        rotate_left
        ·intro w'
         go_simp
         with_reducible rfl
        rotate_left
        ·simp only [Act.put, List.setIfInBounds_toArray, List.set_cons_zero, List.set_cons_succ, i64_w, i32_w]
         rfl
        refine pure_ (i := 7) (N := some 20) (v := ?_) (a' := ?_) #[false, true, true, true, false, true, true, true, false, false, false, false] rfl rfl (any_of HT_.out (by kernel_rfl)) (fun _ _ _ h => h) (Or.inl ⟨by rfl, ?_⟩) ?_ ?_
        rotate_left
        ·intro w'
         go_simp
         with_reducible rfl
        rotate_left
        ·simp only [Act.put, List.setIfInBounds_toArray, List.set_cons_zero, List.set_cons_succ, i64_w, i32_w]
         rfl
        refine pure_ (i := 8) (N := some 21) (v := ?_) (a' := ?_) #[false, true, true, true, false, true, true, true, true, false, false, false] rfl rfl (any_of HT_.out (by kernel_rfl)) (fun _ _ _ h => h) (Or.inl ⟨by rfl, ?_⟩) ?_ ?_
        rotate_left
        ·intro w'
         go_simp
         with_reducible rfl
        rotate_left
        ·simp only [Act.put, List.setIfInBounds_toArray, List.set_cons_zero, List.set_cons_succ, i64_w, i32_w]
         rfl
        refine one_ (i := 0) (N := some 13) #[true, true, true, true, false, true, true, true, true, false, false, false] rfl rfl (one_of HT_.out (by kernel_rfl)) (by decide) (fun K hK => ?_)
        refine Kd.R_lit_step k24 _ 24 ?hg (N := 13) ?hd (xs := ([] : List (S24))) (inner := []) (ok := fun _ => True) (okp := fun _ => True) ?hr ?hp (fun _ hk => hk) trivial (Below.refl _ _) (Nat.le_refl _) (by simp) ?_; (case hd => rfl); (case hg => rfl); (case hr => (go_simp; done)); (case hp => exact (Reps.none _ _))
        intro v104 w18 ho19 hb hg_ hnew_
        clear hg_ hnew_
        ((rw [← Ny103.out] at ho19))
        have n0_ := Aside0.mk (Kd.R_lower (Kd.R_newB ho19 (g := gb101) (o := .cells #[.string a1_0, .int .i64 a1_1, .int .i64 a1_2, .int .i64 a1_3, .string a1_4] 24 (0, 0)) (by (with_reducible repeat ((refine blk_drewN ?_ _))); exact BK101.out)) (below_size (by repeat ((with_reducible (exact HB.out))))))
        have n1_ := Aside0.mk (blk_below (g := gb101) (o := .cells #[.string a1_0, .int .i64 a1_1, .int .i64 a1_2, .int .i64 a1_3, .string a1_4] 24 (0, 0)) (by (with_reducible repeat ((refine blk_drewN ?_ _))); exact BK101.out) hb)
        have n2_ := Aside0.mk (below_step (by repeat ((with_reducible (exact HB.out)))) hb)
        clear BK101
        clear HB
        have HO105 := n0_
        have BK101 := n1_
        have HB := n2_
        clear n0_ n1_ n2_
        clear hb ho19
        refine hK.out _ _ trivial (fun hHeld => ?_)
        clear hK K
        refine norm_ (a' := ?_) ?_ ?_
        rotate_left
        ·show Act.put _ (some 13) _ = _
         simp only [Act.put, List.setIfInBounds_toArray, List.set_cons_zero, List.set_cons_succ, i64_w, i32_w]
         rfl
        refine one_ (i := 4) (N := some 17) #[true, true, true, true, true, true, true, true, true, false, false, false] rfl rfl (one_of HT_.out (by kernel_rfl)) (by decide) (fun K hK => ?_)
        refine Kd.R_append_rows_step k24 (w0 := w) w.heap.size (by rfl) (.tmp 13) (.tmp 16) 22 24 (.agg #[(.string ⟨#[]⟩), (.int .i64 0), (.int .i64 0), (.int .i64 0), (.string ⟨#[]⟩)]) 56 rfl Try.underlying22 info24 rfl (by decide) (by omega) v104 y103 y106 _ _ _ (fun k_ => k_ ≠ gb101) (fun _ => False) rfl rfl ?aO ?aR (fun _ _ h => h) (fun _ h => h.elim) ?aF ?aB ?aS ?aL ?_
        (case aR => repeat ((exact (Kd.C_below HR109.out HB.out))))
        (case aB => exact (by repeat ((with_reducible (exact HB.out)))))
        (case aF => exact (fun k_ hk => Kd.freshB (g := gb101) (o := .cells #[.string a1_0, .int .i64 a1_1, .int .i64 a1_2, .int .i64 a1_3, .string a1_4] 24 (0, 0)) (by (with_reducible repeat ((refine blk_drewN ?_ _))); exact BK101.out) k_ hk))
        (case aO => exact (by (with_reducible repeat ((apply Kd.R_alloc))); exact Kd.R_mono HO105.out (fun _ hk => hk.2)))
        (case aS => exact (below_size (by repeat ((with_reducible (exact HB.out))))))
        (case aL => have := LMc7.out; omega)
        intro v111 w20 ho hb hg hat
        rw [← Ny110.out] at ho
        have n0_ := Aside0.mk (blk_grown (g := gb101) (o := .cells #[.string a1_0, .int .i64 a1_1, .int .i64 a1_2, .int .i64 a1_3, .string a1_4] 24 (0, 0)) (by (with_reducible repeat ((refine blk_drewN ?_ _))); exact BK101.out) hg (Kd.R_away HO105.out (fun _ hk => hk.2)))
        have n1_ := Aside0.mk (hb)
        have n2_ := Aside0.mk (ho)
        clear BK101
        clear HB
        clear HO105
        have BK101 := n0_
        have HB := n1_
        have HO112 := n2_
        clear n0_ n1_ n2_
        clear ho hb hg hat
        refine hK.out _ _ trivial (fun hHeld => ?_)
        clear hK K
        refine norm_ (a' := ?_) ?_ ?_
        rotate_left
        ·show Act.put _ (some 17) _ = _
         simp only [Act.put, List.setIfInBounds_toArray, List.set_cons_zero, List.set_cons_succ, i64_w, i32_w]
         rfl
        refine one_ (i := 9) (N := some 22) #[true, true, true, true, true, true, true, true, true, true, false, false] rfl rfl (one_of HT_.out (by kernel_rfl)) (by decide) (fun K hK => ?_)
        refine Kd.R_append_rows_step k24 (w0 := w) w.heap.size (by rfl) (.tmp 17) (.tmp 21) 22 24 (.agg #[(.string ⟨#[]⟩), (.int .i64 0), (.int .i64 0), (.int .i64 0), (.string ⟨#[]⟩)]) 56 rfl Try.underlying22 info24 rfl (by decide) (by omega) v111 y110 y113 _ _ _ (fun k_ => k_ ≠ gb101) (fun _ => False) rfl rfl ?aO ?aR (fun _ _ h => h) (fun _ h => h.elim) ?aF ?aB ?aS ?aL ?_
        (case aR => repeat ((exact (Kd.C_below HR116.out HB.out))))
        (case aB => exact (by repeat ((with_reducible (exact HB.out)))))
        (case aF => exact (fun k_ hk => Kd.freshB (g := gb101) (o := .cells #[.string a1_0, .int .i64 a1_1, .int .i64 a1_2, .int .i64 a1_3, .string a1_4] 24 (0, 0)) (by (with_reducible repeat ((refine blk_drewN ?_ _))); exact BK101.out) k_ hk))
        (case aO => exact (by (with_reducible repeat ((apply Kd.R_alloc))); exact HO112.out))
        (case aS => exact (below_size (by repeat ((with_reducible (exact HB.out))))))
        (case aL => have := LMc11.out; omega)
        intro v118 w21 ho hb hg hat
        rw [← Ny117.out] at ho
        have n0_ := Aside0.mk (blk_grown (g := gb101) (o := .cells #[.string a1_0, .int .i64 a1_1, .int .i64 a1_2, .int .i64 a1_3, .string a1_4] 24 (0, 0)) (by (with_reducible repeat ((refine blk_drewN ?_ _))); exact BK101.out) hg (Kd.R_away HO112.out (fun _ hk => hk)))
        have n1_ := Aside0.mk (hb)
        have n2_ := Aside0.mk (ho)
        clear BK101
        clear HB
        clear HO112
        have BK101 := n0_
        have HB := n1_
        have HO119 := n2_
        clear n0_ n1_ n2_
        clear ho hb hg hat
        refine hK.out _ _ trivial (fun hHeld => ?_)
        clear hK K
        refine norm_ (a' := ?_) ?_ ?_
        rotate_left
        ·show Act.put _ (some 22) _ = _
         simp only [Act.put, List.setIfInBounds_toArray, List.set_cons_zero, List.set_cons_succ, i64_w, i32_w]
         rfl
        refine pure_ (i := 10) (N := some 4) (v := ?_) (a' := ?_) #[true, true, true, true, true, true, true, true, true, true, true, false] rfl rfl (any_of HT_.out (by kernel_rfl)) (fun _ _ _ h => h) (Or.inl ⟨by rfl, ?_⟩) ?_ ?_
        rotate_left
        ·intro w'
         go_simp
         with_reducible rfl
        rotate_left
        ·simp only [Act.put, List.setIfInBounds_toArray, List.set_cons_zero, List.set_cons_succ, i64_w, i32_w]
         rfl
        refine pure_ (i := 11) (N := some 5) (v := ?_) (a' := ?_) #[true, true, true, true, true, true, true, true, true, true, true, true] rfl rfl (any_of HT_.out (by kernel_rfl)) (fun _ _ _ h => h) (Or.inl ⟨by rfl, ?_⟩) ?_ ?_
        rotate_left
        ·intro w'
         go_simp
         with_reducible rfl
        rotate_left
        ·simp only [Act.put, List.setIfInBounds_toArray, List.set_cons_zero, List.set_cons_succ, i64_w, i32_w]
         rfl
        refine done_ (done_of HT_.out (by kernel_rfl)) ?_
        (try go_wp2)
        go_ret2
        exact ⟨_, by rfl, by (with_reducible repeat ((apply Kd.R_alloc))); exact Kd.R_mono HO119.out (fun _ hk => trivial), by repeat ((with_reducible (exact HB.out)))⟩
       ·rw [if_neg c11] at H
        exact absurd H (by simp)
      ·rw [if_neg c10] at H
       exact absurd H (by simp)
     ·rw [if_neg c9] at H
      exact absurd H (by simp)
    ·rw [if_neg c7] at H
     exact absurd H (by simp)
   ·rw [if_neg c6] at H
    exact absurd H (by simp)
  ·rw [if_neg c5] at H
   exact absurd H (by simp)
end Go.Proofs.Ytnpiglojamhpiaa.PRq
namespace Go.Proofs.Ytnpiglojamhpiaa.Given
open Go.RowKit Go.Proofs.YtnpiglojamhpiaaW.PrintWords Go.Proofs.YtnpiglojamhpiaaW.PrintLast Go.Proofs.YtnpiglojamhpiaaW.PrintMore Go.Proofs.Ytnpiglojamhpiaa.PRd Go.Proofs.Ytnpiglojamhpiaa.PRr
set_option linter.unusedVariables false
noncomputable def beadrollref13_Drop.f (k : Nat) (l0 : List (S24)) (a1_0 : ByteArray) (a1_1 : Int) (a1_2 : Int) (a1_3 : Int) (a1_4 : ByteArray) : Option (List (S24) × Bool) :=
  (beadrollref13_find.f k l0 a1_0 a1_1 a1_2 a1_3 a1_4).bind fun t => if t < 0 then some (l0, false) else PRq.beadrollref13_Drop.f k l0 a1_0 a1_1 a1_2 a1_3 a1_4
theorem heapRR : Kd.Heap k24 := Kd.heap_iso _ (Kd.heap_pair Kd.heap_string (Kd.heap_pair (Kd.heap_int _) (Kd.heap_pair (Kd.heap_int _) (Kd.heap_pair (Kd.heap_int _) Kd.heap_string))))
set_option maxHeartbeats 8000000 in
set_option maxRecDepth 100000 in
theorem beadrollref13_Drop.calls (k : Nat) (A0 : Option Addr) (c0 : Nat) (l0 : List (S24)) (a1_0 : ByteArray) (a1_1 : Int) (a1_2 : Int) (a1_3 : Int) (a1_4 : ByteArray) (r1 : List (S24)) (r2 : Bool) (w : World) (hr0 : Kd.C k24 w A0 l0.length l0) (hc0 : l0.length ≤ c0) (h : beadrollref13_Drop.f k l0 a1_0 a1_1 a1_2 a1_3 a1_4 = some (r1, r2)) :
    Calls Try.prog 12 #[.slice A0 l0.length c0, .agg #[.string a1_0, .int .i64 a1_1, .int .i64 a1_2, .int .i64 a1_3, .string a1_4]] w fun e w' => ∃ v0_ : Value, e = .returned (.tuple #[v0_, .bool r2]) ∧ Kd.V k24 24 w' w.heap.size (fun _ => True) v0_ r1 ∧ Below w.heap.size w w' := by
  unfold beadrollref13_Drop.f at h
  obtain ⟨t, ht, h⟩ := Option.bind_eq_some_iff.mp h
  by_cases h0 : t < 0
  · rw [if_pos h0] at h
    injection h with h
    injection h with h1 h2
    subst h1 h2
    have hV : ∀ w', Below w.heap.size w w' → Kd.V k24 24 w' w.heap.size (fun _ => True) (.slice A0 l0.length c0) l0 := fun w' hb => Kd.V_mk hc0 (Kd.F_below (fun W' hW => heapRR.C (fun k hk => hW k trivial hk) hr0) hb)
    have HV := Lib.hid hV
    have HT := Lib.hid ht
    have HR := Lib.hid hr0
    have h0b : decide (t < 0) = true := decide_eq_true h0
    clear hV ht hr0
    have HB := Aside0.mk (Below.refl w.heap.size w)
    have hu41 := Try.underlying24
    go_enter Try.func12, Try.ntmps12
    go_wp2_with (first | ((with_reducible refine gate_dst (N := 3) rfl ?_); refine box_event ?hg (N := 3) ?hd (cs := #[.string a1_0, .int .i64 a1_1, .int .i64 a1_2, .int .i64 a1_3, .string a1_4]) (t := 24) ?hr ?_; (case hd => rfl); (case hg => rfl); (case hr => first | (go_simp; done) | (go_simp; rfl)); intro gb hg w3 hbox hb; have n0_ := Aside0.mk (below_step (HB.out) hb); have n1_ := Aside0.mk (hbox); have n2_ := Aside0.mk (show w.heap.size ≤ gb by rw [hg]; exact below_size HB.out); clear HB; have HB := n0_; have BK := n1_; have GE := n2_; clear n0_ n1_ n2_; clear hb hbox hg; have hcz0 : w3.cell? ⟨gb, 0, none⟩ = some (.string a1_0) := (blk_cell BK.out 0).trans rfl; have hcz1 : w3.cell? ⟨gb, 1, none⟩ = some (.int .i64 a1_1) := (blk_cell BK.out 1).trans rfl; have hcz2 : w3.cell? ⟨gb, 2, none⟩ = some (.int .i64 a1_2) := (blk_cell BK.out 2).trans rfl; have hcz3 : w3.cell? ⟨gb, 3, none⟩ = some (.int .i64 a1_3) := (blk_cell BK.out 3).trans rfl; have hcz4 : w3.cell? ⟨gb, 4, none⟩ = some (.string a1_4) := (blk_cell BK.out 4).trans rfl))
    refine (beadrollref13_find.calls k A0 c0 l0 a1_0 a1_1 a1_2 a1_3 a1_4 t w3 (Kd.C_below HR.out HB.out) hc0 HT.out).mono ?_
    rintro e w4 ⟨rfl, hb4⟩
    have HB4 := Lib.hid (below_then HB.out HB.out.size hb4)
    clear hb4 HB
    go_wp2_with fail
    go_ret2
    exact ⟨_, rfl, HV.out _ HB4.out, HB4.out⟩
  · rw [if_neg h0] at h
    refine (PRq.beadrollref13_Drop.calls k A0 c0 l0 a1_0 a1_1 a1_2 a1_3 a1_4 r1 r2 w hr0 hc0 h).mono ?_
    rintro e w1 ⟨v, rfl, hv, hb⟩
    exact ⟨v, rfl, Kd.R_V hv, hb⟩
end Go.Proofs.Ytnpiglojamhpiaa.Given
namespace Go.Proofs.Ytnpiglojamhpiaa.PRp
open Go.RowKit Go.Proofs.YtnpiglojamhpiaaW.PrintWords Go.Proofs.YtnpiglojamhpiaaW.PrintLast Go.Proofs.YtnpiglojamhpiaaW.PrintMore Go.Proofs.Ytnpiglojamhpiaa.Given Go.Proofs.Ytnpiglojamhpiaa.PRd Go.Proofs.Ytnpiglojamhpiaa.PRr Go.Proofs.Ytnpiglojamhpiaa.PRs
attribute [local go_sem] max2_int min2_int max_two min_two max_three min_three max_four min_four   -- for this text's walks alone
set_option linter.unusedVariables false
set_option linter.unusedSimpArgs false
def errW : Option Int → Value
 | none => .nilIface
 | some c => .iface 0 (.int .i64 c)
theorem errW_none : errW none = .nilIface := rfl
theorem errW_some (c : Int) : errW (some c) = .iface 0 (.int .i64 c) := rfl
end Go.Proofs.Ytnpiglojamhpiaa.PRp
namespace Go.Proofs.Ytnpiglojamhpiaa.PRp
open Go.RowKit Go.Proofs.YtnpiglojamhpiaaW.PrintWords Go.Proofs.YtnpiglojamhpiaaW.PrintLast Go.Proofs.YtnpiglojamhpiaaW.PrintMore Go.Proofs.Ytnpiglojamhpiaa.Given Go.Proofs.Ytnpiglojamhpiaa.PRd Go.Proofs.Ytnpiglojamhpiaa.PRr Go.Proofs.Ytnpiglojamhpiaa.PRs
attribute [local go_sem] max2_int min2_int max_two min_two max_three min_three max_four min_four   -- for this text's walks alone
set_option linter.unusedVariables false
set_option linter.unusedSimpArgs false
theorem eqA24 (d : Nat) (w : World) (x0 y0 : ByteArray) (x1 y1 : Int) (x2 y2 : Int) (x3 y3 : Int) (x4 y4 : ByteArray) :
  (Op.equalIn (d + 2) 24 (.agg #[.string x0, .int .i64 x1, .int .i64 x2, .int .i64 x3, .string x4]) (.agg #[.string y0, .int .i64 y1, .int .i64 y2, .int .i64 y3, .string y4])).run Try.prog w = .ok (x0.toList == y0.toList && (x1 == y1 && (x2 == y2 && (x3 == y3 && (x4.toList == y4.toList))))) w := by
 refine eqA_of Try.underlying24 (by kernel_rfl) ?_
 refine eqf_cons (by rfl) (by go_simp; rfl) (by go_simp; rfl) (by go_simp) ?_
 refine eqf_cons (by rfl) (by go_simp; rfl) (by go_simp; rfl) (by go_simp) ?_
 refine eqf_cons (by rfl) (by go_simp; rfl) (by go_simp; rfl) (by go_simp) ?_
 refine eqf_cons (by rfl) (by go_simp; rfl) (by go_simp; rfl) (by go_simp) ?_
 exact eqf_last (by rfl) (by go_simp; rfl) (by go_simp; rfl) (by go_simp)
end Go.Proofs.Ytnpiglojamhpiaa.PRp
namespace Go.Proofs.Ytnpiglojamhpiaa.PRp
open Go.RowKit Go.Proofs.YtnpiglojamhpiaaW.PrintWords Go.Proofs.YtnpiglojamhpiaaW.PrintLast Go.Proofs.YtnpiglojamhpiaaW.PrintMore Go.Proofs.Ytnpiglojamhpiaa.Given Go.Proofs.Ytnpiglojamhpiaa.PRd Go.Proofs.Ytnpiglojamhpiaa.PRr Go.Proofs.Ytnpiglojamhpiaa.PRs
attribute [local go_sem] max2_int min2_int max_two min_two max_three min_three max_four min_four   -- for this text's walks alone
set_option linter.unusedVariables false
set_option linter.unusedSimpArgs false
attribute [local go_sem high] eqA24
noncomputable def beadrolllaw13_RrsetPuts.j0 : Nat → List (S24) → Bool → ByteArray → Int → Int → Int → ByteArray → Option (Bool)
 | 0, _, _, _, _, _, _, _ => none
 | k + 1, x0, x33, x102000, x102001, x102002, x102003, x102004 => if x33 = true then ((beadrolllaw13_awake.f).bind fun t109 => (some t109)) else ((rrset_Put.f x0 x102000 x102001 x102002 x102003 x102004).bind fun bt110 => ((rrset_Drop.f x0 x102000 x102001 x102002 x102003 x102004).bind fun bt114 => ((rrset_Find.f x0 x102000 x102001 x102002 x102003 x102004).bind fun bt118 => ((beadrollref13_Put.f k x0 x102000 x102001 x102002 x102003 x102004).bind fun t125 => ((beadrollref13_Drop.f k x0 x102000 x102001 x102002 x102003 x102004).bind fun bt128 => ((beadrollref13_Find.f k x0 x102000 x102001 x102002 x102003 x102004).bind fun bt132 => ((beadrollref11_Same.f k bt110.1 t125).bind fun t139 => (if t139 = true then ((beadrollref11_Same.f k x0 t125).bind fun t140 => (if (bt110.2 == (!t140)) = true then ((beadrollref11_Same.f k bt114.1 bt128.1).bind fun t141 => (if t141 = true then (if (bt114.2 == bt128.2) = true then (if (bt118.1.toList == bt132.1.toList && (bt118.2.1 == bt132.2.1 && (bt118.2.2.1 == bt132.2.2.1 && (bt118.2.2.2.1 == bt132.2.2.2.1 && (bt118.2.2.2.2.1.toList == bt132.2.2.2.2.1.toList))))) = true then (some (bt118.2.2.2.2.2 == bt132.2.2.2.2.2)) else (none)) else (none)) else (none))) else (none))) else (none)))))))))
noncomputable def beadrolllaw13_RrsetPuts.f (k : Nat) (l0 : List (S24)) (a1_0 : ByteArray) (a1_1 : Int) (a1_2 : Int) (a1_3 : Int) (a1_4 : ByteArray) : Option (Bool) := (beadrolllaw13_awake.f).bind fun t102 => (if t102 = true then ((beadrollref13_Rights.f k l0).bind fun t103 => (if t103 = true then ((beadrollref13_Is.f k l0).bind fun t104 => (if t104 = true then ((beadrollref13_Rights.f k (([(⟨a1_0, a1_1, a1_2, a1_3, a1_4⟩ : S24)] : List (S24)))).bind fun t108 => (beadrolllaw13_RrsetPuts.j0 k l0 (!t108) a1_0 a1_1 a1_2 a1_3 a1_4)) else (beadrolllaw13_RrsetPuts.j0 k l0 true a1_0 a1_1 a1_2 a1_3 a1_4))) else (beadrolllaw13_RrsetPuts.j0 k l0 true a1_0 a1_1 a1_2 a1_3 a1_4))) else (beadrolllaw13_RrsetPuts.j0 k l0 true a1_0 a1_1 a1_2 a1_3 a1_4))
set_option maxHeartbeats 8000000 in
set_option maxRecDepth 100000 in
theorem beadrolllaw13_RrsetPuts.calls (k : Nat) (A0 : Option Addr) (c0 : Nat) (l0 : List (S24)) (a1_0 : ByteArray) (a1_1 : Int) (a1_2 : Int) (a1_3 : Int) (a1_4 : ByteArray) (r : Bool) (w : World) (hr0 : Kd.C k24 w A0 l0.length l0) (hc0 : l0.length ≤ c0) (h : beadrolllaw13_RrsetPuts.f k l0 a1_0 a1_1 a1_2 a1_3 a1_4 = some r) :
  Calls Try.prog 3 #[.slice A0 l0.length c0, .agg #[.string a1_0, .int .i64 a1_1, .int .i64 a1_2, .int .i64 a1_3, .string a1_4]] w fun e w' => e = .returned (.bool r) ∧ Below w.heap.size w w' := by
 have hu24 := Try.underlying24
 have HR0 := Aside0.mk hr0
 have HC0 := Aside0.mk hc0
 clear hr0 hc0
 have HB := Aside0.mk (Below.refl w.heap.size w)
 have H : ((beadrolllaw13_awake.f).bind fun t102 => (if t102 = true then ((beadrollref13_Rights.f k l0).bind fun t103 => (if t103 = true then ((beadrollref13_Is.f k l0).bind fun t104 => (if t104 = true then ((beadrollref13_Rights.f k (([(⟨a1_0, a1_1, a1_2, a1_3, a1_4⟩ : S24)] : List (S24)))).bind fun t108 => (beadrolllaw13_RrsetPuts.j0 k l0 (!t108) a1_0 a1_1 a1_2 a1_3 a1_4)) else (beadrolllaw13_RrsetPuts.j0 k l0 true a1_0 a1_1 a1_2 a1_3 a1_4))) else (beadrolllaw13_RrsetPuts.j0 k l0 true a1_0 a1_1 a1_2 a1_3 a1_4))) else (beadrolllaw13_RrsetPuts.j0 k l0 true a1_0 a1_1 a1_2 a1_3 a1_4))) = some r := h
 clear h
 have HC3 := Aside0.mk H
 clear H
 go_enter Try.func3, Try.ntmps3
 go_upto_region 1 with ((((with_reducible refine gate_dst (N := 3) rfl ?_); (try (refine gate_guard (by rfl) ?_; dsimp only)); refine box_event ?hg (N := 3) ?hd (cs := #[.string a1_0, .int .i64 a1_1, .int .i64 a1_2, .int .i64 a1_3, .string a1_4]) (t := 24) ?hr ?_; (case hd => rfl); (case hg => rfl); (case hr => (go_simp; done)); intro gb101 hg w4 hbox hb; have n0_ := Aside0.mk (below_step (by repeat ((with_reducible (exact HB.out)))) hb); have n1_ := Aside0.mk (hbox); have n2_ := Aside0.mk ((by rw [hg]; exact (below_size (by repeat ((with_reducible (exact HB.out))))) : w.heap.size ≤ gb101)); have n3_ := Aside0.mk ((by rw [hg]; exact (below_size (by repeat ((with_reducible (exact HB.out))))) : w.heap.size ≤ gb101)); clear HB; have HB := n0_; have BK101 := n1_; have GW101 := n2_; have GE101 := n3_; clear n0_ n1_ n2_ n3_; clear hb hbox hg)))
 go_cut [33] (fun v33 wc => ∃ (kq : Nat) (x33_2 : Bool), v33 = .bool x33_2 ∧ Aside0 (beadrolllaw13_RrsetPuts.j0 kq l0 x33_2 a1_0 a1_1 a1_2 a1_3 a1_4 = some r) ∧ Aside0 (kq ≤ k) ∧ Aside0 (wc.heap[gb101]? = some (.cells #[.string a1_0, .int .i64 a1_1, .int .i64 a1_2, .int .i64 a1_3, .string a1_4] 24 (0, 0))) ∧ Aside0 (Below w.heap.size w wc))
 case first =>
  have H := HC3.out
  clear HC3
  replace H := Option.bind_eq_some_iff.mp H
  obtain ⟨t102, A50, H⟩ := H
  replace H : (if t102 = true then ((beadrollref13_Rights.f k l0).bind fun t103 => (if t103 = true then ((beadrollref13_Is.f k l0).bind fun t104 => (if t104 = true then ((beadrollref13_Rights.f k (([(⟨a1_0, a1_1, a1_2, a1_3, a1_4⟩ : S24)] : List (S24)))).bind fun t108 => (beadrolllaw13_RrsetPuts.j0 k l0 (!t108) a1_0 a1_1 a1_2 a1_3 a1_4)) else (beadrolllaw13_RrsetPuts.j0 k l0 true a1_0 a1_1 a1_2 a1_3 a1_4))) else (beadrolllaw13_RrsetPuts.j0 k l0 true a1_0 a1_1 a1_2 a1_3 a1_4))) else (beadrolllaw13_RrsetPuts.j0 k l0 true a1_0 a1_1 a1_2 a1_3 a1_4)) = some r := H
  have A5 := Aside0.mk A50
  clear A50
  by_cases c6 : t102 = true
  ·subst c6
   have H1 : ((beadrollref13_Rights.f k l0).bind fun t103 => (if t103 = true then ((beadrollref13_Is.f k l0).bind fun t104 => (if t104 = true then ((beadrollref13_Rights.f k (([(⟨a1_0, a1_1, a1_2, a1_3, a1_4⟩ : S24)] : List (S24)))).bind fun t108 => (beadrolllaw13_RrsetPuts.j0 k l0 (!t108) a1_0 a1_1 a1_2 a1_3 a1_4)) else (beadrolllaw13_RrsetPuts.j0 k l0 true a1_0 a1_1 a1_2 a1_3 a1_4))) else (beadrolllaw13_RrsetPuts.j0 k l0 true a1_0 a1_1 a1_2 a1_3 a1_4))) = some r := by rw [if_pos rfl] at H; exact H
   clear H
   have H := H1
   clear H1
   replace H := Option.bind_eq_some_iff.mp H
   obtain ⟨t103, A70, H⟩ := H
   replace H : (if t103 = true then ((beadrollref13_Is.f k l0).bind fun t104 => (if t104 = true then ((beadrollref13_Rights.f k (([(⟨a1_0, a1_1, a1_2, a1_3, a1_4⟩ : S24)] : List (S24)))).bind fun t108 => (beadrolllaw13_RrsetPuts.j0 k l0 (!t108) a1_0 a1_1 a1_2 a1_3 a1_4)) else (beadrolllaw13_RrsetPuts.j0 k l0 true a1_0 a1_1 a1_2 a1_3 a1_4))) else (beadrolllaw13_RrsetPuts.j0 k l0 true a1_0 a1_1 a1_2 a1_3 a1_4)) = some r := H
   have A7 := Aside0.mk A70
   clear A70
   by_cases c8 : t103 = true
   ·subst c8
    have H1 : ((beadrollref13_Is.f k l0).bind fun t104 => (if t104 = true then ((beadrollref13_Rights.f k (([(⟨a1_0, a1_1, a1_2, a1_3, a1_4⟩ : S24)] : List (S24)))).bind fun t108 => (beadrolllaw13_RrsetPuts.j0 k l0 (!t108) a1_0 a1_1 a1_2 a1_3 a1_4)) else (beadrolllaw13_RrsetPuts.j0 k l0 true a1_0 a1_1 a1_2 a1_3 a1_4))) = some r := by rw [if_pos rfl] at H; exact H
    clear H
    have H := H1
    clear H1
    replace H := Option.bind_eq_some_iff.mp H
    obtain ⟨t104, A90, H⟩ := H
    replace H : (if t104 = true then ((beadrollref13_Rights.f k (([(⟨a1_0, a1_1, a1_2, a1_3, a1_4⟩ : S24)] : List (S24)))).bind fun t108 => (beadrolllaw13_RrsetPuts.j0 k l0 (!t108) a1_0 a1_1 a1_2 a1_3 a1_4)) else (beadrolllaw13_RrsetPuts.j0 k l0 true a1_0 a1_1 a1_2 a1_3 a1_4)) = some r := H
    have A9 := Aside0.mk A90
    clear A90
    by_cases c10 : t104 = true
    ·subst c10
     have H1 : ((beadrollref13_Rights.f k (([(⟨a1_0, a1_1, a1_2, a1_3, a1_4⟩ : S24)] : List (S24)))).bind fun t108 => (beadrolllaw13_RrsetPuts.j0 k l0 (!t108) a1_0 a1_1 a1_2 a1_3 a1_4)) = some r := by rw [if_pos rfl] at H; exact H
     clear H
     have H := H1
     clear H1
     obtain ⟨y105, hy105⟩ : ∃ y_ : List (S24), y_ = (([(⟨a1_0, a1_1, a1_2, a1_3, a1_4⟩ : S24)] : List (S24))) := ⟨_, rfl⟩
     replace H : ((beadrollref13_Rights.f k y105).bind fun t108 => (beadrolllaw13_RrsetPuts.j0 k l0 (!t108) a1_0 a1_1 a1_2 a1_3 a1_4)) = some r := by (rw [hy105]; with_reducible exact H)
     have Ny105 := Aside0.mk hy105
     clear hy105
     replace H := Option.bind_eq_some_iff.mp H
     obtain ⟨t108, A110, H⟩ := H
     replace H : (beadrolllaw13_RrsetPuts.j0 k l0 (!t108) a1_0 a1_1 a1_2 a1_3 a1_4) = some r := H
     have A11 := Aside0.mk A110
     clear A110
     have H' := Aside0.mk H
     clear H
     go_wp2_with (first | ((with_reducible refine gate_callee (f := 5) rfl ?_); refine goesL_ (some 16) rfl rfl Try.func5 (by kernel_rfl) rfl #[] rfl (by (try simp only [List.map_toArray, List.map_cons, List.map_nil]); done) ?_; (with_reducible refine (beadrolllaw13_awake.calls  true _ A5.out).mono ?_); rintro e w12 ⟨rfl, hb⟩; refine ⟨_, rfl, ?_⟩; have n0_ := Aside0.mk (blk_below (g := gb101) (o := .cells #[.string a1_0, .int .i64 a1_1, .int .i64 a1_2, .int .i64 a1_3, .string a1_4] 24 (0, 0)) (by (with_reducible repeat ((refine blk_drewN ?_ _))); exact BK101.out) hb); have n1_ := Aside0.mk (below_step (by repeat ((with_reducible (exact HB.out)))) hb); clear BK101; clear HB; have BK101 := n0_; have HB := n1_; clear n0_ n1_; (try clear hb)) | (go_at_call 6; (with_reducible refine (beadrollref13_Rights.calls k _ _ l0 true _ ?side1 ?side2 A7.out).mono ?_); (case side1 => repeat ((exact (Kd.C_below HR0.out HB.out)))); (case side2 => exact HC0.out); rintro e w13 ⟨rfl, hb⟩; have n0_ := Aside0.mk (blk_below (g := gb101) (o := .cells #[.string a1_0, .int .i64 a1_1, .int .i64 a1_2, .int .i64 a1_3, .string a1_4] 24 (0, 0)) (by (with_reducible repeat ((refine blk_drewN ?_ _))); exact BK101.out) hb); have n1_ := Aside0.mk (below_step (by repeat ((with_reducible (exact HB.out)))) hb); clear BK101; clear HB; have BK101 := n0_; have HB := n1_; clear n0_ n1_; (try clear hb)) | (go_at_call 7; (with_reducible refine (beadrollref13_Is.calls k _ _ l0 true _ ?side1 ?side2 A9.out).mono ?_); (case side1 => repeat ((exact (Kd.C_below HR0.out HB.out)))); (case side2 => exact HC0.out); rintro e w14 ⟨rfl, hb⟩; have n0_ := Aside0.mk (blk_below (g := gb101) (o := .cells #[.string a1_0, .int .i64 a1_1, .int .i64 a1_2, .int .i64 a1_3, .string a1_4] 24 (0, 0)) (by (with_reducible repeat ((refine blk_drewN ?_ _))); exact BK101.out) hb); have n1_ := Aside0.mk (below_step (by repeat ((with_reducible (exact HB.out)))) hb); clear BK101; clear HB; have BK101 := n0_; have HB := n1_; clear n0_ n1_; (try clear hb); have hcz15_0 : w14.cell? ⟨gb101, 0, none⟩ = some (.string a1_0) := (blk_cell BK101.out 0).trans rfl; have hcz15_1 : w14.cell? ⟨gb101, 1, none⟩ = some (.int .i64 a1_1) := (blk_cell BK101.out 1).trans rfl; have hcz15_2 : w14.cell? ⟨gb101, 2, none⟩ = some (.int .i64 a1_2) := (blk_cell BK101.out 2).trans rfl; have hcz15_3 : w14.cell? ⟨gb101, 3, none⟩ = some (.int .i64 a1_3) := (blk_cell BK101.out 3).trans rfl; have hcz15_4 : w14.cell? ⟨gb101, 4, none⟩ = some (.string a1_4) := (blk_cell BK101.out 4).trans rfl; have hfz15_0 := blk_frozen BK101.out 0; have hfz15_1 := blk_frozen BK101.out 1; have hfz15_2 := blk_frozen BK101.out 2; have hfz15_3 := blk_frozen BK101.out 3; have hfz15_4 := blk_frozen BK101.out 4) | ((with_reducible refine gate_dst (N := 30) rfl ?_); (try (refine gate_guard (by rfl) ?_; dsimp only)); refine Kd.R_lit k24 _ 24 ?hg (N := 30) ?hd (xs := ([(⟨a1_0, a1_1, a1_2, a1_3, a1_4⟩ : S24)] : List (S24))) (inner := [.string a1_0, .int .i64 a1_1, .int .i64 a1_2, .int .i64 a1_3, .string a1_4]) (ok := fun _ => True) (okp := fun _ => True) ?hr ?hp (fun _ hk => hk) trivial (Below.refl _ _) (Nat.le_refl _) (by simp) ?_; (case hd => rfl); (case hg => rfl); (case hr => (go_simp; done)); (case hp => exact (Reps.c5 (show Kd.M k24 _ _ _ (⟨a1_0, a1_1, a1_2, a1_3, a1_4⟩ : S24) [.string a1_0, .int .i64 a1_1, .int .i64 a1_2, .int .i64 a1_3, .string a1_4] from (k24_mkM _ _ _ (⟨a1_0, a1_1, a1_2, a1_3, a1_4⟩ : S24) )) (Reps.none _ _))); intro v106 w16 ho17 hb hg_ hnew_; clear hg_ hnew_; ((rw [← Ny105.out] at ho17)); have n0_ := Aside0.mk (Kd.R_lower (Kd.R_newB ho17 (g := gb101) (o := .cells #[.string a1_0, .int .i64 a1_1, .int .i64 a1_2, .int .i64 a1_3, .string a1_4] 24 (0, 0)) (by (with_reducible repeat ((refine blk_drewN ?_ _))); exact BK101.out)) (below_size (by repeat ((with_reducible (exact HB.out)))))); have n1_ := Aside0.mk (blk_below (g := gb101) (o := .cells #[.string a1_0, .int .i64 a1_1, .int .i64 a1_2, .int .i64 a1_3, .string a1_4] 24 (0, 0)) (by (with_reducible repeat ((refine blk_drewN ?_ _))); exact BK101.out) hb); have n2_ := Aside0.mk (below_step (by repeat ((with_reducible (exact HB.out)))) hb); clear BK101; clear HB; have HO107 := n0_; have BK101 := n1_; have HB := n2_; clear n0_ n1_ n2_; clear hb ho17; obtain ⟨Ao18, co18, eo18⟩ := Kd.R_slice HO107.out; subst eo18) | (go_at_call 6; (with_reducible refine (beadrollref13_Rights.calls k _ _ y105 t108 _ ?side1 ?side2 A11.out).mono ?_); (case side1 => repeat ((exact (Kd.R_reads' HO107.out).2.2))); (case side2 => exact (Kd.R_reads' HO107.out).2.1); rintro e w19 ⟨rfl, hb⟩; have n0_ := Aside0.mk (Kd.R_below (by (with_reducible repeat ((apply Kd.R_alloc))); exact HO107.out) hb); have n1_ := Aside0.mk (blk_below (g := gb101) (o := .cells #[.string a1_0, .int .i64 a1_1, .int .i64 a1_2, .int .i64 a1_3, .string a1_4] 24 (0, 0)) (by (with_reducible repeat ((refine blk_drewN ?_ _))); exact BK101.out) hb); have n2_ := Aside0.mk (below_step (by repeat ((with_reducible (exact HB.out)))) hb); clear HO107; clear BK101; clear HB; have HO107 := n0_; have BK101 := n1_; have HB := n2_; clear n0_ n1_ n2_; (try clear hb)))
     go_meet
     case rel => exact ⟨_, (!t108), (by rfl), H', ⟨by omega⟩, ⟨by (with_reducible repeat ((refine blk_drewN ?_ _))); exact BK101.out⟩, ⟨by repeat ((with_reducible (exact HB.out)))⟩⟩
    ·replace c10 := Bool.eq_false_iff.mpr c10
     subst c10
     have H1 : (beadrolllaw13_RrsetPuts.j0 k l0 true a1_0 a1_1 a1_2 a1_3 a1_4) = some r := by rw [if_neg (show ¬ (false = true) by decide)] at H; exact H
     clear H
     have H := H1
     clear H1
     have H' := Aside0.mk H
     clear H
     go_wp2_with (first | ((with_reducible refine gate_callee (f := 5) rfl ?_); refine goesL_ (some 16) rfl rfl Try.func5 (by kernel_rfl) rfl #[] rfl (by (try simp only [List.map_toArray, List.map_cons, List.map_nil]); done) ?_; (with_reducible refine (beadrolllaw13_awake.calls  true _ A5.out).mono ?_); rintro e w20 ⟨rfl, hb⟩; refine ⟨_, rfl, ?_⟩; have n0_ := Aside0.mk (blk_below (g := gb101) (o := .cells #[.string a1_0, .int .i64 a1_1, .int .i64 a1_2, .int .i64 a1_3, .string a1_4] 24 (0, 0)) (by (with_reducible repeat ((refine blk_drewN ?_ _))); exact BK101.out) hb); have n1_ := Aside0.mk (below_step (by repeat ((with_reducible (exact HB.out)))) hb); clear BK101; clear HB; have BK101 := n0_; have HB := n1_; clear n0_ n1_; (try clear hb)) | (go_at_call 6; (with_reducible refine (beadrollref13_Rights.calls k _ _ l0 true _ ?side1 ?side2 A7.out).mono ?_); (case side1 => repeat ((exact (Kd.C_below HR0.out HB.out)))); (case side2 => exact HC0.out); rintro e w21 ⟨rfl, hb⟩; have n0_ := Aside0.mk (blk_below (g := gb101) (o := .cells #[.string a1_0, .int .i64 a1_1, .int .i64 a1_2, .int .i64 a1_3, .string a1_4] 24 (0, 0)) (by (with_reducible repeat ((refine blk_drewN ?_ _))); exact BK101.out) hb); have n1_ := Aside0.mk (below_step (by repeat ((with_reducible (exact HB.out)))) hb); clear BK101; clear HB; have BK101 := n0_; have HB := n1_; clear n0_ n1_; (try clear hb)) | (go_at_call 7; (with_reducible refine (beadrollref13_Is.calls k _ _ l0 false _ ?side1 ?side2 A9.out).mono ?_); (case side1 => repeat ((exact (Kd.C_below HR0.out HB.out)))); (case side2 => exact HC0.out); rintro e w22 ⟨rfl, hb⟩; have n0_ := Aside0.mk (blk_below (g := gb101) (o := .cells #[.string a1_0, .int .i64 a1_1, .int .i64 a1_2, .int .i64 a1_3, .string a1_4] 24 (0, 0)) (by (with_reducible repeat ((refine blk_drewN ?_ _))); exact BK101.out) hb); have n1_ := Aside0.mk (below_step (by repeat ((with_reducible (exact HB.out)))) hb); clear BK101; clear HB; have BK101 := n0_; have HB := n1_; clear n0_ n1_; (try clear hb)))
     go_meet
     case rel => exact ⟨_, (true), (by rfl), H', ⟨by omega⟩, ⟨by (with_reducible repeat ((refine blk_drewN ?_ _))); exact BK101.out⟩, ⟨by repeat ((with_reducible (exact HB.out)))⟩⟩
   ·replace c8 := Bool.eq_false_iff.mpr c8
    subst c8
    have H1 : (beadrolllaw13_RrsetPuts.j0 k l0 true a1_0 a1_1 a1_2 a1_3 a1_4) = some r := by rw [if_neg (show ¬ (false = true) by decide)] at H; exact H
    clear H
    have H := H1
    clear H1
    have H' := Aside0.mk H
    clear H
    go_wp2_with (first | ((with_reducible refine gate_callee (f := 5) rfl ?_); refine goesL_ (some 16) rfl rfl Try.func5 (by kernel_rfl) rfl #[] rfl (by (try simp only [List.map_toArray, List.map_cons, List.map_nil]); done) ?_; (with_reducible refine (beadrolllaw13_awake.calls  true _ A5.out).mono ?_); rintro e w23 ⟨rfl, hb⟩; refine ⟨_, rfl, ?_⟩; have n0_ := Aside0.mk (blk_below (g := gb101) (o := .cells #[.string a1_0, .int .i64 a1_1, .int .i64 a1_2, .int .i64 a1_3, .string a1_4] 24 (0, 0)) (by (with_reducible repeat ((refine blk_drewN ?_ _))); exact BK101.out) hb); have n1_ := Aside0.mk (below_step (by repeat ((with_reducible (exact HB.out)))) hb); clear BK101; clear HB; have BK101 := n0_; have HB := n1_; clear n0_ n1_; (try clear hb)) | (go_at_call 6; (with_reducible refine (beadrollref13_Rights.calls k _ _ l0 false _ ?side1 ?side2 A7.out).mono ?_); (case side1 => repeat ((exact (Kd.C_below HR0.out HB.out)))); (case side2 => exact HC0.out); rintro e w24 ⟨rfl, hb⟩; have n0_ := Aside0.mk (blk_below (g := gb101) (o := .cells #[.string a1_0, .int .i64 a1_1, .int .i64 a1_2, .int .i64 a1_3, .string a1_4] 24 (0, 0)) (by (with_reducible repeat ((refine blk_drewN ?_ _))); exact BK101.out) hb); have n1_ := Aside0.mk (below_step (by repeat ((with_reducible (exact HB.out)))) hb); clear BK101; clear HB; have BK101 := n0_; have HB := n1_; clear n0_ n1_; (try clear hb)))
    go_meet
    case rel => exact ⟨_, (true), (by rfl), H', ⟨by omega⟩, ⟨by (with_reducible repeat ((refine blk_drewN ?_ _))); exact BK101.out⟩, ⟨by repeat ((with_reducible (exact HB.out)))⟩⟩
  ·replace c6 := Bool.eq_false_iff.mpr c6
   subst c6
   have H1 : (beadrolllaw13_RrsetPuts.j0 k l0 true a1_0 a1_1 a1_2 a1_3 a1_4) = some r := by rw [if_neg (show ¬ (false = true) by decide)] at H; exact H
   clear H
   have H := H1
   clear H1
   have H' := Aside0.mk H
   clear H
   go_wp2_with ((((with_reducible refine gate_callee (f := 5) rfl ?_); refine goesL_ (some 16) rfl rfl Try.func5 (by kernel_rfl) rfl #[] rfl (by (try simp only [List.map_toArray, List.map_cons, List.map_nil]); done) ?_; (with_reducible refine (beadrolllaw13_awake.calls  false _ A5.out).mono ?_); rintro e w25 ⟨rfl, hb⟩; refine ⟨_, rfl, ?_⟩; have n0_ := Aside0.mk (blk_below (g := gb101) (o := .cells #[.string a1_0, .int .i64 a1_1, .int .i64 a1_2, .int .i64 a1_3, .string a1_4] 24 (0, 0)) (by (with_reducible repeat ((refine blk_drewN ?_ _))); exact BK101.out) hb); have n1_ := Aside0.mk (below_step (by repeat ((with_reducible (exact HB.out)))) hb); clear BK101; clear HB; have BK101 := n0_; have HB := n1_; clear n0_ n1_; (try clear hb))))
   go_meet
   case rel => exact ⟨_, (true), (by rfl), H', ⟨by omega⟩, ⟨by (with_reducible repeat ((refine blk_drewN ?_ _))); exact BK101.out⟩, ⟨by repeat ((with_reducible (exact HB.out)))⟩⟩
 case rest =>
  clear HC3
  obtain ⟨kq, x33_2, rfl, HA, HJ2, BK101, HB⟩ := hcut
  cases kq with
  | zero => exact absurd HA.out (by simp [beadrolllaw13_RrsetPuts.j0])
  | succ kj2 =>
   have H := HA.out
   clear HA
   simp only [beadrolllaw13_RrsetPuts.j0] at H
   by_cases c26 : x33_2 = true
   ·subst c26
    have H1 : ((beadrolllaw13_awake.f).bind fun t109 => (some t109)) = some r := by rw [if_pos rfl] at H; exact H
    clear H
    have H := H1
    clear H1
    replace H := Option.bind_eq_some_iff.mp H
    obtain ⟨t109, A270, H⟩ := H
    replace H : (some t109) = some r := H
    have A27 := Aside0.mk A270
    clear A270
    obtain rfl := Option.some.inj H
    go_wp2_with ((((with_reducible refine gate_callee (f := 5) rfl ?_); refine goesL_ (some 34) rfl rfl Try.func5 (by kernel_rfl) rfl #[] rfl (by (try simp only [List.map_toArray, List.map_cons, List.map_nil]); done) ?_; (with_reducible refine (beadrolllaw13_awake.calls  t109 _ A27.out).mono ?_); rintro e w28 ⟨rfl, hb⟩; refine ⟨_, rfl, ?_⟩; have n0_ := Aside0.mk (blk_below (g := gb101) (o := .cells #[.string a1_0, .int .i64 a1_1, .int .i64 a1_2, .int .i64 a1_3, .string a1_4] 24 (0, 0)) (by (with_reducible repeat ((refine blk_drewN ?_ _))); exact BK101.out) hb); have n1_ := Aside0.mk (below_step (by repeat ((with_reducible (exact HB.out)))) hb); clear BK101; clear HB; have BK101 := n0_; have HB := n1_; clear n0_ n1_; (try clear hb))))
    go_ret
    exact ⟨by rfl, by repeat ((with_reducible (exact HB.out)))⟩
   ·replace c26 := Bool.eq_false_iff.mpr c26
    subst c26
    have H1 : ((rrset_Put.f l0 a1_0 a1_1 a1_2 a1_3 a1_4).bind fun bt110 => ((rrset_Drop.f l0 a1_0 a1_1 a1_2 a1_3 a1_4).bind fun bt114 => ((rrset_Find.f l0 a1_0 a1_1 a1_2 a1_3 a1_4).bind fun bt118 => ((beadrollref13_Put.f kj2 l0 a1_0 a1_1 a1_2 a1_3 a1_4).bind fun t125 => ((beadrollref13_Drop.f kj2 l0 a1_0 a1_1 a1_2 a1_3 a1_4).bind fun bt128 => ((beadrollref13_Find.f kj2 l0 a1_0 a1_1 a1_2 a1_3 a1_4).bind fun bt132 => ((beadrollref11_Same.f kj2 bt110.1 t125).bind fun t139 => (if t139 = true then ((beadrollref11_Same.f kj2 l0 t125).bind fun t140 => (if (bt110.2 == (!t140)) = true then ((beadrollref11_Same.f kj2 bt114.1 bt128.1).bind fun t141 => (if t141 = true then (if (bt114.2 == bt128.2) = true then (if (bt118.1.toList == bt132.1.toList && (bt118.2.1 == bt132.2.1 && (bt118.2.2.1 == bt132.2.2.1 && (bt118.2.2.2.1 == bt132.2.2.2.1 && (bt118.2.2.2.2.1.toList == bt132.2.2.2.2.1.toList))))) = true then (some (bt118.2.2.2.2.2 == bt132.2.2.2.2.2)) else (none)) else (none)) else (none))) else (none))) else (none))))))))) = some r := by rw [if_neg (show ¬ (false = true) by decide)] at H; exact H
    clear H
    have H := H1
    clear H1
    replace H := Option.bind_eq_some_iff.mp H
    obtain ⟨⟨t110, t113⟩, A290, H⟩ := H
    replace H : ((rrset_Drop.f l0 a1_0 a1_1 a1_2 a1_3 a1_4).bind fun bt114 => ((rrset_Find.f l0 a1_0 a1_1 a1_2 a1_3 a1_4).bind fun bt118 => ((beadrollref13_Put.f kj2 l0 a1_0 a1_1 a1_2 a1_3 a1_4).bind fun t125 => ((beadrollref13_Drop.f kj2 l0 a1_0 a1_1 a1_2 a1_3 a1_4).bind fun bt128 => ((beadrollref13_Find.f kj2 l0 a1_0 a1_1 a1_2 a1_3 a1_4).bind fun bt132 => ((beadrollref11_Same.f kj2 t110 t125).bind fun t139 => (if t139 = true then ((beadrollref11_Same.f kj2 l0 t125).bind fun t140 => (if (t113 == (!t140)) = true then ((beadrollref11_Same.f kj2 bt114.1 bt128.1).bind fun t141 => (if t141 = true then (if (bt114.2 == bt128.2) = true then (if (bt118.1.toList == bt132.1.toList && (bt118.2.1 == bt132.2.1 && (bt118.2.2.1 == bt132.2.2.1 && (bt118.2.2.2.1 == bt132.2.2.2.1 && (bt118.2.2.2.2.1.toList == bt132.2.2.2.2.1.toList))))) = true then (some (bt118.2.2.2.2.2 == bt132.2.2.2.2.2)) else (none)) else (none)) else (none))) else (none))) else (none)))))))) = some r := H
    have A29 := Aside0.mk A290
    clear A290
    replace H := Option.bind_eq_some_iff.mp H
    obtain ⟨⟨t114, t117⟩, A300, H⟩ := H
    replace H : ((rrset_Find.f l0 a1_0 a1_1 a1_2 a1_3 a1_4).bind fun bt118 => ((beadrollref13_Put.f kj2 l0 a1_0 a1_1 a1_2 a1_3 a1_4).bind fun t125 => ((beadrollref13_Drop.f kj2 l0 a1_0 a1_1 a1_2 a1_3 a1_4).bind fun bt128 => ((beadrollref13_Find.f kj2 l0 a1_0 a1_1 a1_2 a1_3 a1_4).bind fun bt132 => ((beadrollref11_Same.f kj2 t110 t125).bind fun t139 => (if t139 = true then ((beadrollref11_Same.f kj2 l0 t125).bind fun t140 => (if (t113 == (!t140)) = true then ((beadrollref11_Same.f kj2 t114 bt128.1).bind fun t141 => (if t141 = true then (if (t117 == bt128.2) = true then (if (bt118.1.toList == bt132.1.toList && (bt118.2.1 == bt132.2.1 && (bt118.2.2.1 == bt132.2.2.1 && (bt118.2.2.2.1 == bt132.2.2.2.1 && (bt118.2.2.2.2.1.toList == bt132.2.2.2.2.1.toList))))) = true then (some (bt118.2.2.2.2.2 == bt132.2.2.2.2.2)) else (none)) else (none)) else (none))) else (none))) else (none))))))) = some r := H
    have A30 := Aside0.mk A300
    clear A300
    replace H := Option.bind_eq_some_iff.mp H
    obtain ⟨⟨t118, t119, t120, t121, t122, t123⟩, A310, H⟩ := H
    replace H : ((beadrollref13_Put.f kj2 l0 a1_0 a1_1 a1_2 a1_3 a1_4).bind fun t125 => ((beadrollref13_Drop.f kj2 l0 a1_0 a1_1 a1_2 a1_3 a1_4).bind fun bt128 => ((beadrollref13_Find.f kj2 l0 a1_0 a1_1 a1_2 a1_3 a1_4).bind fun bt132 => ((beadrollref11_Same.f kj2 t110 t125).bind fun t139 => (if t139 = true then ((beadrollref11_Same.f kj2 l0 t125).bind fun t140 => (if (t113 == (!t140)) = true then ((beadrollref11_Same.f kj2 t114 bt128.1).bind fun t141 => (if t141 = true then (if (t117 == bt128.2) = true then (if (t118.toList == bt132.1.toList && (t119 == bt132.2.1 && (t120 == bt132.2.2.1 && (t121 == bt132.2.2.2.1 && (t122.toList == bt132.2.2.2.2.1.toList))))) = true then (some (t123 == bt132.2.2.2.2.2)) else (none)) else (none)) else (none))) else (none))) else (none)))))) = some r := H
    have A31 := Aside0.mk A310
    clear A310
    replace H := Option.bind_eq_some_iff.mp H
    obtain ⟨t125, A320, H⟩ := H
    replace H : ((beadrollref13_Drop.f kj2 l0 a1_0 a1_1 a1_2 a1_3 a1_4).bind fun bt128 => ((beadrollref13_Find.f kj2 l0 a1_0 a1_1 a1_2 a1_3 a1_4).bind fun bt132 => ((beadrollref11_Same.f kj2 t110 t125).bind fun t139 => (if t139 = true then ((beadrollref11_Same.f kj2 l0 t125).bind fun t140 => (if (t113 == (!t140)) = true then ((beadrollref11_Same.f kj2 t114 bt128.1).bind fun t141 => (if t141 = true then (if (t117 == bt128.2) = true then (if (t118.toList == bt132.1.toList && (t119 == bt132.2.1 && (t120 == bt132.2.2.1 && (t121 == bt132.2.2.2.1 && (t122.toList == bt132.2.2.2.2.1.toList))))) = true then (some (t123 == bt132.2.2.2.2.2)) else (none)) else (none)) else (none))) else (none))) else (none))))) = some r := H
    have A32 := Aside0.mk A320
    clear A320
    replace H := Option.bind_eq_some_iff.mp H
    obtain ⟨⟨t128, t131⟩, A330, H⟩ := H
    replace H : ((beadrollref13_Find.f kj2 l0 a1_0 a1_1 a1_2 a1_3 a1_4).bind fun bt132 => ((beadrollref11_Same.f kj2 t110 t125).bind fun t139 => (if t139 = true then ((beadrollref11_Same.f kj2 l0 t125).bind fun t140 => (if (t113 == (!t140)) = true then ((beadrollref11_Same.f kj2 t114 t128).bind fun t141 => (if t141 = true then (if (t117 == t131) = true then (if (t118.toList == bt132.1.toList && (t119 == bt132.2.1 && (t120 == bt132.2.2.1 && (t121 == bt132.2.2.2.1 && (t122.toList == bt132.2.2.2.2.1.toList))))) = true then (some (t123 == bt132.2.2.2.2.2)) else (none)) else (none)) else (none))) else (none))) else (none)))) = some r := H
    have A33 := Aside0.mk A330
    clear A330
    replace H := Option.bind_eq_some_iff.mp H
    obtain ⟨⟨t132, t133, t134, t135, t136, t137⟩, A340, H⟩ := H
    replace H : ((beadrollref11_Same.f kj2 t110 t125).bind fun t139 => (if t139 = true then ((beadrollref11_Same.f kj2 l0 t125).bind fun t140 => (if (t113 == (!t140)) = true then ((beadrollref11_Same.f kj2 t114 t128).bind fun t141 => (if t141 = true then (if (t117 == t131) = true then (if (t118.toList == t132.toList && (t119 == t133 && (t120 == t134 && (t121 == t135 && (t122.toList == t136.toList))))) = true then (some (t123 == t137)) else (none)) else (none)) else (none))) else (none))) else (none))) = some r := H
    have A34 := Aside0.mk A340
    clear A340
    replace H := Option.bind_eq_some_iff.mp H
    obtain ⟨t139, A350, H⟩ := H
    replace H : (if t139 = true then ((beadrollref11_Same.f kj2 l0 t125).bind fun t140 => (if (t113 == (!t140)) = true then ((beadrollref11_Same.f kj2 t114 t128).bind fun t141 => (if t141 = true then (if (t117 == t131) = true then (if (t118.toList == t132.toList && (t119 == t133 && (t120 == t134 && (t121 == t135 && (t122.toList == t136.toList))))) = true then (some (t123 == t137)) else (none)) else (none)) else (none))) else (none))) else (none)) = some r := H
    have A35 := Aside0.mk A350
    clear A350
    by_cases c36 : t139 = true
    ·subst c36
     have H1 : ((beadrollref11_Same.f kj2 l0 t125).bind fun t140 => (if (t113 == (!t140)) = true then ((beadrollref11_Same.f kj2 t114 t128).bind fun t141 => (if t141 = true then (if (t117 == t131) = true then (if (t118.toList == t132.toList && (t119 == t133 && (t120 == t134 && (t121 == t135 && (t122.toList == t136.toList))))) = true then (some (t123 == t137)) else (none)) else (none)) else (none))) else (none))) = some r := by rw [if_pos rfl] at H; exact H
     clear H
     have H := H1
     clear H1
     replace H := Option.bind_eq_some_iff.mp H
     obtain ⟨t140, A370, H⟩ := H
     replace H : (if (t113 == (!t140)) = true then ((beadrollref11_Same.f kj2 t114 t128).bind fun t141 => (if t141 = true then (if (t117 == t131) = true then (if (t118.toList == t132.toList && (t119 == t133 && (t120 == t134 && (t121 == t135 && (t122.toList == t136.toList))))) = true then (some (t123 == t137)) else (none)) else (none)) else (none))) else (none)) = some r := H
     have A37 := Aside0.mk A370
     clear A370
     by_cases c38 : (t113 == (!t140)) = true
     ·rw [if_pos c38] at H
      have c38b0 : (t113 == (!t140)) = true := c38
      (try (have c38b1 : decide (t113 = (!t140)) = true := by simpa using c38))
      (try (have c38b2 : (t113 == (!t140)) = true := by simpa using c38))
      clear c38
      replace H := Option.bind_eq_some_iff.mp H
      obtain ⟨t141, A390, H⟩ := H
      replace H : (if t141 = true then (if (t117 == t131) = true then (if (t118.toList == t132.toList && (t119 == t133 && (t120 == t134 && (t121 == t135 && (t122.toList == t136.toList))))) = true then (some (t123 == t137)) else (none)) else (none)) else (none)) = some r := H
      have A39 := Aside0.mk A390
      clear A390
      by_cases c40 : t141 = true
      ·subst c40
       have H1 : (if (t117 == t131) = true then (if (t118.toList == t132.toList && (t119 == t133 && (t120 == t134 && (t121 == t135 && (t122.toList == t136.toList))))) = true then (some (t123 == t137)) else (none)) else (none)) = some r := by rw [if_pos rfl] at H; exact H
       clear H
       have H := H1
       clear H1
       by_cases c41 : (t117 == t131) = true
       ·rw [if_pos c41] at H
        have c41b0 : (t117 == t131) = true := c41
        (try (have c41b1 : decide (t117 = t131) = true := by simpa using c41))
        (try (have c41b2 : (t117 == t131) = true := by simpa using c41))
        clear c41
        by_cases c42 : (t118.toList == t132.toList && (t119 == t133 && (t120 == t134 && (t121 == t135 && (t122.toList == t136.toList))))) = true
        ·rw [if_pos c42] at H
         have c42b0 : (t118.toList == t132.toList && (t119 == t133 && (t120 == t134 && (t121 == t135 && (t122.toList == t136.toList))))) = true := c42
         (try (have c42b1 : decide (t118.toList = t132.toList && (t119 == t133 && (t120 == t134 && (t121 == t135 && (t122.toList == t136.toList))))) = true := by simpa using c42))
         (try (have c42b2 : (t118.toList == t132.toList && (t119 == t133 && (t120 == t134 && (t121 == t135 && (t122.toList == t136.toList))))) = true := by simpa using c42))
         clear c42
         obtain rfl := Option.some.inj H
         have hcz43_0 : wc.cell? ⟨gb101, 0, none⟩ = some (.string a1_0) := (blk_cell BK101.out 0).trans rfl
         have hcz43_1 : wc.cell? ⟨gb101, 1, none⟩ = some (.int .i64 a1_1) := (blk_cell BK101.out 1).trans rfl
         have hcz43_2 : wc.cell? ⟨gb101, 2, none⟩ = some (.int .i64 a1_2) := (blk_cell BK101.out 2).trans rfl
         have hcz43_3 : wc.cell? ⟨gb101, 3, none⟩ = some (.int .i64 a1_3) := (blk_cell BK101.out 3).trans rfl
         have hcz43_4 : wc.cell? ⟨gb101, 4, none⟩ = some (.string a1_4) := (blk_cell BK101.out 4).trans rfl
         have hfz43_0 := blk_frozen BK101.out 0
         have hfz43_1 := blk_frozen BK101.out 1
         have hfz43_2 := blk_frozen BK101.out 2
         have hfz43_3 := blk_frozen BK101.out 3
         have hfz43_4 := blk_frozen BK101.out 4
         go_wp2_with (first | ((with_reducible refine gate_callee (f := 8) rfl ?_); refine goesL_ (some 38) rfl rfl Try.func8 (by kernel_rfl) rfl #[.slice A0 l0.length c0, .agg #[.string a1_0, .int .i64 a1_1, .int .i64 a1_2, .int .i64 a1_3, .string a1_4]] rfl (by (try simp only [List.map_toArray, List.map_cons, List.map_nil]); rfl) ?_; (with_reducible refine (rrset_Put.calls _ _ l0 a1_0 a1_1 a1_2 a1_3 a1_4 t110 t113 _ ?side1 ?side2 A29.out).mono ?_); (case side1 => repeat ((exact (Kd.C_below HR0.out HB.out)))); (case side2 => exact HC0.out); rintro e w44 ⟨v111, rfl, ho0, hb⟩; refine ⟨_, rfl, ?_⟩; have n0_ := Aside0.mk (Kd.R_lower (Kd.R_newB ho0 (g := gb101) (o := .cells #[.string a1_0, .int .i64 a1_1, .int .i64 a1_2, .int .i64 a1_3, .string a1_4] 24 (0, 0)) (by (with_reducible repeat ((refine blk_drewN ?_ _))); exact BK101.out)) (below_size (by repeat ((with_reducible (exact HB.out)))))); have n1_ := Aside0.mk (blk_below (g := gb101) (o := .cells #[.string a1_0, .int .i64 a1_1, .int .i64 a1_2, .int .i64 a1_3, .string a1_4] 24 (0, 0)) (by (with_reducible repeat ((refine blk_drewN ?_ _))); exact BK101.out) hb); have n2_ := Aside0.mk (below_step (by repeat ((with_reducible (exact HB.out)))) hb); clear BK101; clear HB; have HO112 := n0_; have BK101 := n1_; have HB := n2_; clear n0_ n1_ n2_; (try clear hb); (try clear ho0); have hcz45_0 : w44.cell? ⟨gb101, 0, none⟩ = some (.string a1_0) := (blk_cell BK101.out 0).trans rfl; have hcz45_1 : w44.cell? ⟨gb101, 1, none⟩ = some (.int .i64 a1_1) := (blk_cell BK101.out 1).trans rfl; have hcz45_2 : w44.cell? ⟨gb101, 2, none⟩ = some (.int .i64 a1_2) := (blk_cell BK101.out 2).trans rfl; have hcz45_3 : w44.cell? ⟨gb101, 3, none⟩ = some (.int .i64 a1_3) := (blk_cell BK101.out 3).trans rfl; have hcz45_4 : w44.cell? ⟨gb101, 4, none⟩ = some (.string a1_4) := (blk_cell BK101.out 4).trans rfl; have hfz45_0 := blk_frozen BK101.out 0; have hfz45_1 := blk_frozen BK101.out 1; have hfz45_2 := blk_frozen BK101.out 2; have hfz45_3 := blk_frozen BK101.out 3; have hfz45_4 := blk_frozen BK101.out 4) | ((with_reducible refine gate_callee (f := 9) rfl ?_); refine goesL_ (some 44) rfl rfl Try.func9 (by kernel_rfl) rfl #[.slice A0 l0.length c0, .agg #[.string a1_0, .int .i64 a1_1, .int .i64 a1_2, .int .i64 a1_3, .string a1_4]] rfl (by (try simp only [List.map_toArray, List.map_cons, List.map_nil]); rfl) ?_; (with_reducible refine (rrset_Drop.calls _ _ l0 a1_0 a1_1 a1_2 a1_3 a1_4 t114 t117 _ ?side1 ?side2 A30.out).mono ?_); (case side1 => repeat ((exact (Kd.C_below HR0.out HB.out)))); (case side2 => exact HC0.out); rintro e w46 ⟨v115, rfl, ho0, hb⟩; refine ⟨_, rfl, ?_⟩; have n0_ := Aside0.mk (Kd.R_elder' (by (with_reducible repeat ((apply Kd.R_alloc))); exact HO112.out) (Kd.R_base ho0) hb); have n1_ := Aside0.mk (Kd.R_lower (Kd.R_newB (Kd.R_new' ho0 (Kd.R_lt (by (with_reducible repeat ((apply Kd.R_alloc))); exact HO112.out))) (g := gb101) (o := .cells #[.string a1_0, .int .i64 a1_1, .int .i64 a1_2, .int .i64 a1_3, .string a1_4] 24 (0, 0)) (by (with_reducible repeat ((refine blk_drewN ?_ _))); exact BK101.out)) (below_size (by repeat ((with_reducible (exact HB.out)))))); have n2_ := Aside0.mk (blk_below (g := gb101) (o := .cells #[.string a1_0, .int .i64 a1_1, .int .i64 a1_2, .int .i64 a1_3, .string a1_4] 24 (0, 0)) (by (with_reducible repeat ((refine blk_drewN ?_ _))); exact BK101.out) hb); have n3_ := Aside0.mk (below_step (by repeat ((with_reducible (exact HB.out)))) hb); clear HO112; clear BK101; clear HB; have HO112 := n0_; have HO116 := n1_; have BK101 := n2_; have HB := n3_; clear n0_ n1_ n2_ n3_; (try clear hb); (try clear ho0); have hcz47_0 : w46.cell? ⟨gb101, 0, none⟩ = some (.string a1_0) := (blk_cell BK101.out 0).trans rfl; have hcz47_1 : w46.cell? ⟨gb101, 1, none⟩ = some (.int .i64 a1_1) := (blk_cell BK101.out 1).trans rfl; have hcz47_2 : w46.cell? ⟨gb101, 2, none⟩ = some (.int .i64 a1_2) := (blk_cell BK101.out 2).trans rfl; have hcz47_3 : w46.cell? ⟨gb101, 3, none⟩ = some (.int .i64 a1_3) := (blk_cell BK101.out 3).trans rfl; have hcz47_4 : w46.cell? ⟨gb101, 4, none⟩ = some (.string a1_4) := (blk_cell BK101.out 4).trans rfl; have hfz47_0 := blk_frozen BK101.out 0; have hfz47_1 := blk_frozen BK101.out 1; have hfz47_2 := blk_frozen BK101.out 2; have hfz47_3 := blk_frozen BK101.out 3; have hfz47_4 := blk_frozen BK101.out 4) | ((with_reducible refine gate_callee (f := 10) rfl ?_); refine goesL_ (some 50) rfl rfl Try.func10 (by kernel_rfl) rfl #[.slice A0 l0.length c0, .agg #[.string a1_0, .int .i64 a1_1, .int .i64 a1_2, .int .i64 a1_3, .string a1_4]] rfl (by (try simp only [List.map_toArray, List.map_cons, List.map_nil]); rfl) ?_; (with_reducible refine (rrset_Find.calls _ _ l0 a1_0 a1_1 a1_2 a1_3 a1_4 t118 t119 t120 t121 t122 t123 _ ?side1 ?side2 A31.out).mono ?_); (case side1 => repeat ((exact (Kd.C_below HR0.out HB.out)))); (case side2 => exact HC0.out); rintro e w48 ⟨rfl, hb⟩; refine ⟨_, rfl, ?_⟩; have n0_ := Aside0.mk (Kd.R_below (by (with_reducible repeat ((apply Kd.R_alloc))); exact HO112.out) hb); have n1_ := Aside0.mk (Kd.R_below (by (with_reducible repeat ((apply Kd.R_alloc))); exact HO116.out) hb); have n2_ := Aside0.mk (blk_below (g := gb101) (o := .cells #[.string a1_0, .int .i64 a1_1, .int .i64 a1_2, .int .i64 a1_3, .string a1_4] 24 (0, 0)) (by (with_reducible repeat ((refine blk_drewN ?_ _))); exact BK101.out) hb); have n3_ := Aside0.mk (below_step (by repeat ((with_reducible (exact HB.out)))) hb); clear HO112; clear HO116; clear BK101; clear HB; have HO112 := n0_; have HO116 := n1_; have BK101 := n2_; have HB := n3_; clear n0_ n1_ n2_ n3_; (try clear hb)) | ((with_reducible refine gate_dst (N := 9) rfl ?_); (try (refine gate_guard (by rfl) ?_; dsimp only)); refine box_event ?hg (N := 9) ?hd (cs := #[.string (⟨#[]⟩ : ByteArray), .int .i64 0, .int .i64 0, .int .i64 0, .string (⟨#[]⟩ : ByteArray)]) (t := 24) ?hr ?_; (case hd => rfl); (case hg => rfl); (case hr => (go_simp; done)); intro gb124 hg w49 hbox hb; have n0_ := Aside0.mk (Kd.R_below (Kd.R_elderB (by (with_reducible repeat ((apply Kd.R_alloc))); exact HO112.out) gb124 (Nat.le_of_eq hg.symm)) hb); have n1_ := Aside0.mk (Kd.R_below (Kd.R_elderB (by (with_reducible repeat ((apply Kd.R_alloc))); exact HO116.out) gb124 (Nat.le_of_eq hg.symm)) hb); have n2_ := Aside0.mk (blk_below (g := gb101) (o := .cells #[.string a1_0, .int .i64 a1_1, .int .i64 a1_2, .int .i64 a1_3, .string a1_4] 24 (0, 0)) (by (with_reducible repeat ((refine blk_drewN ?_ _))); exact BK101.out) hb); have n3_ := Aside0.mk (below_step (by repeat ((with_reducible (exact HB.out)))) hb); have n4_ := Aside0.mk (hbox); have n5_ := Aside0.mk ((by rw [hg]; exact (below_size (by repeat ((with_reducible (exact HB.out))))) : w.heap.size ≤ gb124)); have n6_ := Aside0.mk ((by rw [hg]; exact (below_size (by repeat ((with_reducible (exact HB.out))))) : w.heap.size ≤ gb124)); have n7_ := Aside0.mk ((by rw [hg]; exact Nat.ne_of_lt (blk_lt (g := gb101) (o := .cells #[.string a1_0, .int .i64 a1_1, .int .i64 a1_2, .int .i64 a1_3, .string a1_4] 24 (0, 0)) (by (with_reducible repeat ((refine blk_drewN ?_ _))); exact BK101.out)) : gb101 ≠ gb124)); have n8_ := Aside0.mk ((by rw [hg]; exact Nat.ne_of_gt (blk_lt (g := gb101) (o := .cells #[.string a1_0, .int .i64 a1_1, .int .i64 a1_2, .int .i64 a1_3, .string a1_4] 24 (0, 0)) (by (with_reducible repeat ((refine blk_drewN ?_ _))); exact BK101.out)) : gb124 ≠ gb101)); clear HO112; clear HO116; clear BK101; clear HB; have HO112 := n0_; have HO116 := n1_; have BK101 := n2_; have HB := n3_; have BK124 := n4_; have GW124 := n5_; have GE124 := n6_; have NB101_124 := n7_; have NB124_101 := n8_; clear n0_ n1_ n2_ n3_ n4_ n5_ n6_ n7_ n8_; clear hb hbox hg; have hnb50 := NB124_101.out; have hnc50 := NB101_124.out; have hcz51_0 : w49.cell? ⟨gb124, 0, none⟩ = some (.string (⟨#[]⟩ : ByteArray)) := (blk_cell BK124.out 0).trans rfl; have hcz51_1 : w49.cell? ⟨gb124, 1, none⟩ = some (.int .i64 0) := (blk_cell BK124.out 1).trans rfl; have hcz51_2 : w49.cell? ⟨gb124, 2, none⟩ = some (.int .i64 0) := (blk_cell BK124.out 2).trans rfl; have hcz51_3 : w49.cell? ⟨gb124, 3, none⟩ = some (.int .i64 0) := (blk_cell BK124.out 3).trans rfl; have hcz51_4 : w49.cell? ⟨gb124, 4, none⟩ = some (.string (⟨#[]⟩ : ByteArray)) := (blk_cell BK124.out 4).trans rfl; have hfz51_0 := blk_frozen BK124.out 0; have hfz51_1 := blk_frozen BK124.out 1; have hfz51_2 := blk_frozen BK124.out 2; have hfz51_3 := blk_frozen BK124.out 3; have hfz51_4 := blk_frozen BK124.out 4; have hcz52_0 : w49.cell? ⟨gb101, 0, none⟩ = some (.string a1_0) := (blk_cell BK101.out 0).trans rfl; have hcz52_1 : w49.cell? ⟨gb101, 1, none⟩ = some (.int .i64 a1_1) := (blk_cell BK101.out 1).trans rfl; have hcz52_2 : w49.cell? ⟨gb101, 2, none⟩ = some (.int .i64 a1_2) := (blk_cell BK101.out 2).trans rfl; have hcz52_3 : w49.cell? ⟨gb101, 3, none⟩ = some (.int .i64 a1_3) := (blk_cell BK101.out 3).trans rfl; have hcz52_4 : w49.cell? ⟨gb101, 4, none⟩ = some (.string a1_4) := (blk_cell BK101.out 4).trans rfl; have hfz52_0 := blk_frozen BK101.out 0; have hfz52_1 := blk_frozen BK101.out 1; have hfz52_2 := blk_frozen BK101.out 2; have hfz52_3 := blk_frozen BK101.out 3; have hfz52_4 := blk_frozen BK101.out 4) | ((with_reducible refine gate_callee (f := 11) rfl ?_); refine goesL_ (some 55) rfl rfl Try.func11 (by kernel_rfl) rfl #[.slice A0 l0.length c0, .agg #[.string a1_0, .int .i64 a1_1, .int .i64 a1_2, .int .i64 a1_3, .string a1_4]] rfl (by (try simp only [List.map_toArray, List.map_cons, List.map_nil]); rfl) ?_; (with_reducible refine (beadrollref13_Put.calls kj2 _ _ l0 a1_0 a1_1 a1_2 a1_3 a1_4 t125 _ ?side1 ?side2 A32.out).mono ?_); (case side1 => exact Kd.C_below HR0.out (by repeat ((with_reducible first | exact HB.out | refine below_set ?_ GE124.out)))); (case side2 => exact HC0.out); rintro e w53 ⟨v126, rfl, ho0, hb⟩; refine ⟨_, rfl, ?_⟩; have n0_ := Aside0.mk (Kd.R_elder' (by (with_reducible repeat ((apply Kd.R_alloc))); exact (Kd.R_mono (Kd.R_far (p := ⟨gb124, 4, none⟩) (Kd.R_far (p := ⟨gb124, 3, none⟩) (Kd.R_far (p := ⟨gb124, 2, none⟩) (Kd.R_far (p := ⟨gb124, 1, none⟩) (Kd.R_far (p := ⟨gb124, 0, none⟩) (Kd.R_mono HO112.out (fun k_ hk => (⟨hk, hk.2⟩ : _ ∧ k_ ≠ gb124))) (fun _ hk => hk.2) (.string t118)) (fun _ hk => hk.2) (.int .i64 t119)) (fun _ hk => hk.2) (.int .i64 t120)) (fun _ hk => hk.2) (.int .i64 t121)) (fun _ hk => hk.2) (.string t122)) (fun _ h_ => h_.1))) (Kd.R_base ho0) hb); have n1_ := Aside0.mk (Kd.R_elder' (by (with_reducible repeat ((apply Kd.R_alloc))); exact (Kd.R_mono (Kd.R_far (p := ⟨gb124, 4, none⟩) (Kd.R_far (p := ⟨gb124, 3, none⟩) (Kd.R_far (p := ⟨gb124, 2, none⟩) (Kd.R_far (p := ⟨gb124, 1, none⟩) (Kd.R_far (p := ⟨gb124, 0, none⟩) (Kd.R_mono HO116.out (fun k_ hk => (⟨hk, hk.2⟩ : _ ∧ k_ ≠ gb124))) (fun _ hk => hk.2) (.string t118)) (fun _ hk => hk.2) (.int .i64 t119)) (fun _ hk => hk.2) (.int .i64 t120)) (fun _ hk => hk.2) (.int .i64 t121)) (fun _ hk => hk.2) (.string t122)) (fun _ h_ => h_.1))) (Kd.R_base ho0) hb); have n2_ := Aside0.mk (Kd.R_lower (Kd.R_newB (Kd.R_newB (Kd.R_new' (Kd.R_new' ho0 (Kd.R_lt (by (with_reducible repeat ((apply Kd.R_alloc))); exact (Kd.R_mono (Kd.R_far (p := ⟨gb124, 4, none⟩) (Kd.R_far (p := ⟨gb124, 3, none⟩) (Kd.R_far (p := ⟨gb124, 2, none⟩) (Kd.R_far (p := ⟨gb124, 1, none⟩) (Kd.R_far (p := ⟨gb124, 0, none⟩) (Kd.R_mono HO112.out (fun k_ hk => (⟨hk, hk.2⟩ : _ ∧ k_ ≠ gb124))) (fun _ hk => hk.2) (.string t118)) (fun _ hk => hk.2) (.int .i64 t119)) (fun _ hk => hk.2) (.int .i64 t120)) (fun _ hk => hk.2) (.int .i64 t121)) (fun _ hk => hk.2) (.string t122)) (fun _ h_ => h_.1))))) (Kd.R_lt (by (with_reducible repeat ((apply Kd.R_alloc))); exact (Kd.R_mono (Kd.R_far (p := ⟨gb124, 4, none⟩) (Kd.R_far (p := ⟨gb124, 3, none⟩) (Kd.R_far (p := ⟨gb124, 2, none⟩) (Kd.R_far (p := ⟨gb124, 1, none⟩) (Kd.R_far (p := ⟨gb124, 0, none⟩) (Kd.R_mono HO116.out (fun k_ hk => (⟨hk, hk.2⟩ : _ ∧ k_ ≠ gb124))) (fun _ hk => hk.2) (.string t118)) (fun _ hk => hk.2) (.int .i64 t119)) (fun _ hk => hk.2) (.int .i64 t120)) (fun _ hk => hk.2) (.int .i64 t121)) (fun _ hk => hk.2) (.string t122)) (fun _ h_ => h_.1))))) (g := gb101) (o := .cells #[.string a1_0, .int .i64 a1_1, .int .i64 a1_2, .int .i64 a1_3, .string a1_4] 24 (0, 0)) (by (with_reducible repeat ((refine blk_drewN ?_ _))); refine blk_far ?_ NB101_124.out _; (with_reducible repeat ((refine blk_drewN ?_ _))); refine blk_far ?_ NB101_124.out _; (with_reducible repeat ((refine blk_drewN ?_ _))); refine blk_far ?_ NB101_124.out _; (with_reducible repeat ((refine blk_drewN ?_ _))); refine blk_far ?_ NB101_124.out _; (with_reducible repeat ((refine blk_drewN ?_ _))); refine blk_far ?_ NB101_124.out _; (with_reducible repeat ((refine blk_drewN ?_ _))); exact BK101.out)) (g := gb124) (o := .cells #[.string t118, .int .i64 t119, .int .i64 t120, .int .i64 t121, .string t122] 24 (0, 0)) (by (with_reducible repeat ((refine blk_drewN ?_ _))); refine blk_put (cs := #[.string t118, .int .i64 t119, .int .i64 t120, .int .i64 t121, .string (⟨#[]⟩ : ByteArray)]) ?_ 4 _ rfl; (with_reducible repeat ((refine blk_drewN ?_ _))); refine blk_put (cs := #[.string t118, .int .i64 t119, .int .i64 t120, .int .i64 0, .string (⟨#[]⟩ : ByteArray)]) ?_ 3 _ rfl; (with_reducible repeat ((refine blk_drewN ?_ _))); refine blk_put (cs := #[.string t118, .int .i64 t119, .int .i64 0, .int .i64 0, .string (⟨#[]⟩ : ByteArray)]) ?_ 2 _ rfl; (with_reducible repeat ((refine blk_drewN ?_ _))); refine blk_put (cs := #[.string t118, .int .i64 0, .int .i64 0, .int .i64 0, .string (⟨#[]⟩ : ByteArray)]) ?_ 1 _ rfl; (with_reducible repeat ((refine blk_drewN ?_ _))); refine blk_put (cs := #[.string (⟨#[]⟩ : ByteArray), .int .i64 0, .int .i64 0, .int .i64 0, .string (⟨#[]⟩ : ByteArray)]) ?_ 0 _ rfl; (with_reducible repeat ((refine blk_drewN ?_ _))); exact BK124.out)) (below_size (by repeat ((with_reducible first | exact HB.out | refine below_set ?_ GE124.out))))); have n3_ := Aside0.mk (blk_below (g := gb101) (o := .cells #[.string a1_0, .int .i64 a1_1, .int .i64 a1_2, .int .i64 a1_3, .string a1_4] 24 (0, 0)) (by (with_reducible repeat ((refine blk_drewN ?_ _))); refine blk_far ?_ NB101_124.out _; (with_reducible repeat ((refine blk_drewN ?_ _))); refine blk_far ?_ NB101_124.out _; (with_reducible repeat ((refine blk_drewN ?_ _))); refine blk_far ?_ NB101_124.out _; (with_reducible repeat ((refine blk_drewN ?_ _))); refine blk_far ?_ NB101_124.out _; (with_reducible repeat ((refine blk_drewN ?_ _))); refine blk_far ?_ NB101_124.out _; (with_reducible repeat ((refine blk_drewN ?_ _))); exact BK101.out) hb); have n4_ := Aside0.mk (blk_below (g := gb124) (o := .cells #[.string t118, .int .i64 t119, .int .i64 t120, .int .i64 t121, .string t122] 24 (0, 0)) (by (with_reducible repeat ((refine blk_drewN ?_ _))); refine blk_put (cs := #[.string t118, .int .i64 t119, .int .i64 t120, .int .i64 t121, .string (⟨#[]⟩ : ByteArray)]) ?_ 4 _ rfl; (with_reducible repeat ((refine blk_drewN ?_ _))); refine blk_put (cs := #[.string t118, .int .i64 t119, .int .i64 t120, .int .i64 0, .string (⟨#[]⟩ : ByteArray)]) ?_ 3 _ rfl; (with_reducible repeat ((refine blk_drewN ?_ _))); refine blk_put (cs := #[.string t118, .int .i64 t119, .int .i64 0, .int .i64 0, .string (⟨#[]⟩ : ByteArray)]) ?_ 2 _ rfl; (with_reducible repeat ((refine blk_drewN ?_ _))); refine blk_put (cs := #[.string t118, .int .i64 0, .int .i64 0, .int .i64 0, .string (⟨#[]⟩ : ByteArray)]) ?_ 1 _ rfl; (with_reducible repeat ((refine blk_drewN ?_ _))); refine blk_put (cs := #[.string (⟨#[]⟩ : ByteArray), .int .i64 0, .int .i64 0, .int .i64 0, .string (⟨#[]⟩ : ByteArray)]) ?_ 0 _ rfl; (with_reducible repeat ((refine blk_drewN ?_ _))); exact BK124.out) hb); have n5_ := Aside0.mk (below_step (by repeat ((with_reducible first | exact HB.out | refine below_set ?_ GE124.out))) hb); clear HO112; clear HO116; clear BK101; clear BK124; clear HB; have HO112 := n0_; have HO116 := n1_; have HO127 := n2_; have BK101 := n3_; have BK124 := n4_; have HB := n5_; clear n0_ n1_ n2_ n3_ n4_ n5_; (try clear hb); (try clear ho0); have hcz54_0 : w53.cell? ⟨gb101, 0, none⟩ = some (.string a1_0) := (blk_cell BK101.out 0).trans rfl; have hcz54_1 : w53.cell? ⟨gb101, 1, none⟩ = some (.int .i64 a1_1) := (blk_cell BK101.out 1).trans rfl; have hcz54_2 : w53.cell? ⟨gb101, 2, none⟩ = some (.int .i64 a1_2) := (blk_cell BK101.out 2).trans rfl; have hcz54_3 : w53.cell? ⟨gb101, 3, none⟩ = some (.int .i64 a1_3) := (blk_cell BK101.out 3).trans rfl; have hcz54_4 : w53.cell? ⟨gb101, 4, none⟩ = some (.string a1_4) := (blk_cell BK101.out 4).trans rfl; have hfz54_0 := blk_frozen BK101.out 0; have hfz54_1 := blk_frozen BK101.out 1; have hfz54_2 := blk_frozen BK101.out 2; have hfz54_3 := blk_frozen BK101.out 3; have hfz54_4 := blk_frozen BK101.out 4) | ((with_reducible refine gate_callee (f := 12) rfl ?_); refine goesL_ (some 59) rfl rfl Try.func12 (by kernel_rfl) rfl #[.slice A0 l0.length c0, .agg #[.string a1_0, .int .i64 a1_1, .int .i64 a1_2, .int .i64 a1_3, .string a1_4]] rfl (by (try simp only [List.map_toArray, List.map_cons, List.map_nil]); rfl) ?_; (with_reducible refine (beadrollref13_Drop.calls kj2 _ _ l0 a1_0 a1_1 a1_2 a1_3 a1_4 t128 t131 _ ?side1 ?side2 A33.out).mono ?_); (case side1 => repeat ((exact (Kd.C_below HR0.out HB.out)))); (case side2 => exact HC0.out); rintro e w55 ⟨v129, rfl, ho0, hb⟩; refine ⟨_, rfl, ?_⟩; have n0_ := Aside0.mk (Kd.R_below (by (with_reducible repeat ((apply Kd.R_alloc))); exact HO112.out) hb); have n1_ := Aside0.mk (Kd.R_below (by (with_reducible repeat ((apply Kd.R_alloc))); exact HO116.out) hb); have n2_ := Aside0.mk (Kd.R_below (by (with_reducible repeat ((apply Kd.R_alloc))); exact HO127.out) hb); have n3_ := Aside0.mk (Kd.V_lower (base' := w.heap.size) ho0 (below_size (by repeat ((with_reducible (exact HB.out)))))); have n4_ := Aside0.mk (blk_below (g := gb101) (o := .cells #[.string a1_0, .int .i64 a1_1, .int .i64 a1_2, .int .i64 a1_3, .string a1_4] 24 (0, 0)) (by (with_reducible repeat ((refine blk_drewN ?_ _))); exact BK101.out) hb); have n5_ := Aside0.mk (blk_below (g := gb124) (o := .cells #[.string t118, .int .i64 t119, .int .i64 t120, .int .i64 t121, .string t122] 24 (0, 0)) (by (with_reducible repeat ((refine blk_drewN ?_ _))); exact BK124.out) hb); have n6_ := Aside0.mk (below_step (by repeat ((with_reducible (exact HB.out)))) hb); clear HO112; clear HO116; clear HO127; clear BK101; clear BK124; clear HB; have HO112 := n0_; have HO116 := n1_; have HO127 := n2_; have HO130 := n3_; have BK101 := n4_; have BK124 := n5_; have HB := n6_; clear n0_ n1_ n2_ n3_ n4_ n5_ n6_; (try clear hb); (try clear ho0); have hcz56_0 : w55.cell? ⟨gb101, 0, none⟩ = some (.string a1_0) := (blk_cell BK101.out 0).trans rfl; have hcz56_1 : w55.cell? ⟨gb101, 1, none⟩ = some (.int .i64 a1_1) := (blk_cell BK101.out 1).trans rfl; have hcz56_2 : w55.cell? ⟨gb101, 2, none⟩ = some (.int .i64 a1_2) := (blk_cell BK101.out 2).trans rfl; have hcz56_3 : w55.cell? ⟨gb101, 3, none⟩ = some (.int .i64 a1_3) := (blk_cell BK101.out 3).trans rfl; have hcz56_4 : w55.cell? ⟨gb101, 4, none⟩ = some (.string a1_4) := (blk_cell BK101.out 4).trans rfl; have hfz56_0 := blk_frozen BK101.out 0; have hfz56_1 := blk_frozen BK101.out 1; have hfz56_2 := blk_frozen BK101.out 2; have hfz56_3 := blk_frozen BK101.out 3; have hfz56_4 := blk_frozen BK101.out 4) | ((with_reducible refine gate_callee (f := 13) rfl ?_); refine goesL_ (some 65) rfl rfl Try.func13 (by kernel_rfl) rfl #[.slice A0 l0.length c0, .agg #[.string a1_0, .int .i64 a1_1, .int .i64 a1_2, .int .i64 a1_3, .string a1_4]] rfl (by (try simp only [List.map_toArray, List.map_cons, List.map_nil]); rfl) ?_; (with_reducible refine (beadrollref13_Find.calls kj2 _ _ l0 a1_0 a1_1 a1_2 a1_3 a1_4 t132 t133 t134 t135 t136 t137 _ ?side1 ?side2 A34.out).mono ?_); (case side1 => repeat ((exact (Kd.C_below HR0.out HB.out)))); (case side2 => exact HC0.out); rintro e w57 ⟨rfl, hb⟩; refine ⟨_, rfl, ?_⟩; have n0_ := Aside0.mk (Kd.R_below (by (with_reducible repeat ((apply Kd.R_alloc))); exact HO112.out) hb); have n1_ := Aside0.mk (Kd.R_below (by (with_reducible repeat ((apply Kd.R_alloc))); exact HO116.out) hb); have n2_ := Aside0.mk (Kd.R_below (by (with_reducible repeat ((apply Kd.R_alloc))); exact HO127.out) hb); have n3_ := Aside0.mk (Kd.V_below (by (with_reducible repeat ((apply Kd.V_alloc))); exact HO130.out) hb); have n4_ := Aside0.mk (blk_below (g := gb101) (o := .cells #[.string a1_0, .int .i64 a1_1, .int .i64 a1_2, .int .i64 a1_3, .string a1_4] 24 (0, 0)) (by (with_reducible repeat ((refine blk_drewN ?_ _))); exact BK101.out) hb); have n5_ := Aside0.mk (blk_below (g := gb124) (o := .cells #[.string t118, .int .i64 t119, .int .i64 t120, .int .i64 t121, .string t122] 24 (0, 0)) (by (with_reducible repeat ((refine blk_drewN ?_ _))); exact BK124.out) hb); have n6_ := Aside0.mk (below_step (by repeat ((with_reducible (exact HB.out)))) hb); clear HO112; clear HO116; clear HO127; clear HO130; clear BK101; clear BK124; clear HB; have HO112 := n0_; have HO116 := n1_; have HO127 := n2_; have HO130 := n3_; have BK101 := n4_; have BK124 := n5_; have HB := n6_; clear n0_ n1_ n2_ n3_ n4_ n5_ n6_; (try clear hb)) | ((with_reducible refine gate_dst (N := 14) rfl ?_); (try (refine gate_guard (by rfl) ?_; dsimp only)); refine box_event ?hg (N := 14) ?hd (cs := #[.string (⟨#[]⟩ : ByteArray), .int .i64 0, .int .i64 0, .int .i64 0, .string (⟨#[]⟩ : ByteArray)]) (t := 24) ?hr ?_; (case hd => rfl); (case hg => rfl); (case hr => (go_simp; done)); intro gb138 hg w58 hbox hb; have n0_ := Aside0.mk (Kd.R_below (Kd.R_elderB (by (with_reducible repeat ((apply Kd.R_alloc))); exact HO112.out) gb138 (Nat.le_of_eq hg.symm)) hb); have n1_ := Aside0.mk (Kd.R_below (Kd.R_elderB (by (with_reducible repeat ((apply Kd.R_alloc))); exact HO116.out) gb138 (Nat.le_of_eq hg.symm)) hb); have n2_ := Aside0.mk (Kd.R_below (Kd.R_elderB (by (with_reducible repeat ((apply Kd.R_alloc))); exact HO127.out) gb138 (Nat.le_of_eq hg.symm)) hb); have n3_ := Aside0.mk (Kd.V_below (Kd.V_elderB (by (with_reducible repeat ((apply Kd.V_alloc))); exact HO130.out) gb138 (Nat.le_of_eq hg.symm)) hb); have n4_ := Aside0.mk (blk_below (g := gb101) (o := .cells #[.string a1_0, .int .i64 a1_1, .int .i64 a1_2, .int .i64 a1_3, .string a1_4] 24 (0, 0)) (by (with_reducible repeat ((refine blk_drewN ?_ _))); exact BK101.out) hb); have n5_ := Aside0.mk (blk_below (g := gb124) (o := .cells #[.string t118, .int .i64 t119, .int .i64 t120, .int .i64 t121, .string t122] 24 (0, 0)) (by (with_reducible repeat ((refine blk_drewN ?_ _))); exact BK124.out) hb); have n6_ := Aside0.mk (below_step (by repeat ((with_reducible (exact HB.out)))) hb); have n7_ := Aside0.mk (hbox); have n8_ := Aside0.mk ((by rw [hg]; exact (below_size (by repeat ((with_reducible (exact HB.out))))) : w.heap.size ≤ gb138)); have n9_ := Aside0.mk ((by rw [hg]; exact (below_size (by repeat ((with_reducible (exact HB.out))))) : w.heap.size ≤ gb138)); have n10_ := Aside0.mk ((by rw [hg]; exact Nat.ne_of_lt (blk_lt (g := gb101) (o := .cells #[.string a1_0, .int .i64 a1_1, .int .i64 a1_2, .int .i64 a1_3, .string a1_4] 24 (0, 0)) (by (with_reducible repeat ((refine blk_drewN ?_ _))); exact BK101.out)) : gb101 ≠ gb138)); have n11_ := Aside0.mk ((by rw [hg]; exact Nat.ne_of_gt (blk_lt (g := gb101) (o := .cells #[.string a1_0, .int .i64 a1_1, .int .i64 a1_2, .int .i64 a1_3, .string a1_4] 24 (0, 0)) (by (with_reducible repeat ((refine blk_drewN ?_ _))); exact BK101.out)) : gb138 ≠ gb101)); have n12_ := Aside0.mk ((by rw [hg]; exact Nat.ne_of_lt (blk_lt (g := gb124) (o := .cells #[.string t118, .int .i64 t119, .int .i64 t120, .int .i64 t121, .string t122] 24 (0, 0)) (by (with_reducible repeat ((refine blk_drewN ?_ _))); exact BK124.out)) : gb124 ≠ gb138)); have n13_ := Aside0.mk ((by rw [hg]; exact Nat.ne_of_gt (blk_lt (g := gb124) (o := .cells #[.string t118, .int .i64 t119, .int .i64 t120, .int .i64 t121, .string t122] 24 (0, 0)) (by (with_reducible repeat ((refine blk_drewN ?_ _))); exact BK124.out)) : gb138 ≠ gb124)); clear HO112; clear HO116; clear HO127; clear HO130; clear BK101; clear BK124; clear HB; have HO112 := n0_; have HO116 := n1_; have HO127 := n2_; have HO130 := n3_; have BK101 := n4_; have BK124 := n5_; have HB := n6_; have BK138 := n7_; have GW138 := n8_; have GE138 := n9_; have NB101_138 := n10_; have NB138_101 := n11_; have NB124_138 := n12_; have NB138_124 := n13_; clear n0_ n1_ n2_ n3_ n4_ n5_ n6_ n7_ n8_ n9_ n10_ n11_ n12_ n13_; clear hb hbox hg; have hnb59 := NB138_101.out; have hnc59 := NB101_138.out; have hnb60 := NB138_124.out; have hnc60 := NB124_138.out; have hcz61_0 : w58.cell? ⟨gb138, 0, none⟩ = some (.string (⟨#[]⟩ : ByteArray)) := (blk_cell BK138.out 0).trans rfl; have hcz61_1 : w58.cell? ⟨gb138, 1, none⟩ = some (.int .i64 0) := (blk_cell BK138.out 1).trans rfl; have hcz61_2 : w58.cell? ⟨gb138, 2, none⟩ = some (.int .i64 0) := (blk_cell BK138.out 2).trans rfl; have hcz61_3 : w58.cell? ⟨gb138, 3, none⟩ = some (.int .i64 0) := (blk_cell BK138.out 3).trans rfl; have hcz61_4 : w58.cell? ⟨gb138, 4, none⟩ = some (.string (⟨#[]⟩ : ByteArray)) := (blk_cell BK138.out 4).trans rfl; have hfz61_0 := blk_frozen BK138.out 0; have hfz61_1 := blk_frozen BK138.out 1; have hfz61_2 := blk_frozen BK138.out 2; have hfz61_3 := blk_frozen BK138.out 3; have hfz61_4 := blk_frozen BK138.out 4; obtain ⟨Ao62, co62, eo62⟩ := Kd.R_slice HO112.out; subst eo62; obtain ⟨Ao63, co63, eo63⟩ := Kd.R_slice HO127.out; subst eo63) | ((with_reducible refine gate_callee (f := 14) rfl ?_); refine goesL_ (some 70) rfl rfl Try.func14 (by kernel_rfl) rfl #[.slice Ao62 t110.length co62, .slice Ao63 t125.length co63] rfl (by (try simp only [List.map_toArray, List.map_cons, List.map_nil]); rfl) ?_; (with_reducible refine (beadrollref11_Same.calls kj2 _ _ t110 _ _ t125 true _ ?side1 ?side2 ?side3 ?side4 A35.out).mono ?_); (case side1 => refine (Kd.R_reads' (e := 24) (base := w.heap.size) (ok := fun k_ => (((((True ∧ k_ ≠ gb101) ∧ some k_ ≠ (v115 : Value).ownBlock) ∧ k_ ≠ gb124) ∧ some k_ ≠ (.slice Ao63 t125.length co63 : Value).ownBlock) ∧ k_ ≠ gb138)) (n := t110.length) (c := co62) ?_).2.2; exact (by (with_reducible repeat ((apply Kd.R_alloc))); exact (Kd.R_mono (Kd.R_far (p := ⟨gb138, 4, none⟩) (Kd.R_far (p := ⟨gb138, 3, none⟩) (Kd.R_far (p := ⟨gb138, 2, none⟩) (Kd.R_far (p := ⟨gb138, 1, none⟩) (Kd.R_far (p := ⟨gb138, 0, none⟩) (Kd.R_mono HO112.out (fun k_ hk => (⟨hk, hk.2⟩ : _ ∧ k_ ≠ gb138))) (fun _ hk => hk.2) (.string t132)) (fun _ hk => hk.2) (.int .i64 t133)) (fun _ hk => hk.2) (.int .i64 t134)) (fun _ hk => hk.2) (.int .i64 t135)) (fun _ hk => hk.2) (.string t136)) (fun _ h_ => h_.1)))); (case side2 => exact (Kd.R_reads' HO112.out).2.1); (case side3 => refine (Kd.R_reads' (e := 24) (base := w.heap.size) (ok := fun k_ => (((((True ∧ some k_ ≠ (.slice Ao62 t110.length co62 : Value).ownBlock) ∧ some k_ ≠ (v115 : Value).ownBlock) ∧ k_ ≠ gb101) ∧ k_ ≠ gb124) ∧ k_ ≠ gb138)) (n := t125.length) (c := co63) ?_).2.2; exact (by (with_reducible repeat ((apply Kd.R_alloc))); exact (Kd.R_mono (Kd.R_far (p := ⟨gb138, 4, none⟩) (Kd.R_far (p := ⟨gb138, 3, none⟩) (Kd.R_far (p := ⟨gb138, 2, none⟩) (Kd.R_far (p := ⟨gb138, 1, none⟩) (Kd.R_far (p := ⟨gb138, 0, none⟩) (Kd.R_mono HO127.out (fun k_ hk => (⟨hk, hk.2⟩ : _ ∧ k_ ≠ gb138))) (fun _ hk => hk.2) (.string t132)) (fun _ hk => hk.2) (.int .i64 t133)) (fun _ hk => hk.2) (.int .i64 t134)) (fun _ hk => hk.2) (.int .i64 t135)) (fun _ hk => hk.2) (.string t136)) (fun _ h_ => h_.1)))); (case side4 => exact (Kd.R_reads' HO127.out).2.1); rintro e w' ⟨rfl, ⟨nd, rfl⟩⟩; refine ⟨_, rfl, ?_⟩) | (go_at_call 14; (with_reducible refine (beadrollref11_Same.calls kj2 _ _ l0 _ _ t125 t140 _ ?side1 ?side2 ?side3 ?side4 A37.out).mono ?_); (case side1 => exact Kd.C_below HR0.out (by repeat ((with_reducible first | exact HB.out | apply pw_below_drewN | refine below_set ?_ GE138.out)))); (case side2 => exact HC0.out); (case side3 => refine (Kd.R_reads' (e := 24) (base := w.heap.size) (ok := fun k_ => (((((True ∧ some k_ ≠ (.slice Ao62 t110.length co62 : Value).ownBlock) ∧ some k_ ≠ (v115 : Value).ownBlock) ∧ k_ ≠ gb101) ∧ k_ ≠ gb124) ∧ k_ ≠ gb138)) (n := t125.length) (c := co63) ?_).2.2; exact (by (with_reducible repeat ((apply Kd.R_drewN))); exact (Kd.R_mono (Kd.R_far (p := ⟨gb138, 4, none⟩) (Kd.R_far (p := ⟨gb138, 3, none⟩) (Kd.R_far (p := ⟨gb138, 2, none⟩) (Kd.R_far (p := ⟨gb138, 1, none⟩) (Kd.R_far (p := ⟨gb138, 0, none⟩) (Kd.R_mono HO127.out (fun k_ hk => (⟨hk, hk.2⟩ : _ ∧ k_ ≠ gb138))) (fun _ hk => hk.2) (.string t132)) (fun _ hk => hk.2) (.int .i64 t133)) (fun _ hk => hk.2) (.int .i64 t134)) (fun _ hk => hk.2) (.int .i64 t135)) (fun _ hk => hk.2) (.string t136)) (fun _ h_ => h_.1)))); (case side4 => exact (Kd.R_reads' HO127.out).2.1); rintro e w' ⟨rfl, ⟨nd, rfl⟩⟩; obtain ⟨Ao64, co64, eo64⟩ := Kd.R_slice HO116.out; subst eo64; obtain ⟨Ao65, co65, eo65⟩ := Kd.V_slice HO130.out; subst eo65) | (go_at_call 14; (with_reducible refine (beadrollref11_Same.calls kj2 _ _ t114 _ _ t128 true _ ?side1 ?side2 ?side3 ?side4 A39.out).mono ?_); (case side1 => refine (Kd.R_reads' (e := 24) (base := w.heap.size) (ok := fun k_ => (((((True ∧ some k_ ≠ (.slice Ao62 t110.length co62 : Value).ownBlock) ∧ k_ ≠ gb101) ∧ k_ ≠ gb124) ∧ some k_ ≠ (.slice Ao63 t125.length co63 : Value).ownBlock) ∧ k_ ≠ gb138)) (n := t114.length) (c := co64) ?_).2.2; exact (by (with_reducible repeat ((apply Kd.R_drewN))); exact (Kd.R_mono (Kd.R_far (p := ⟨gb138, 4, none⟩) (Kd.R_far (p := ⟨gb138, 3, none⟩) (Kd.R_far (p := ⟨gb138, 2, none⟩) (Kd.R_far (p := ⟨gb138, 1, none⟩) (Kd.R_far (p := ⟨gb138, 0, none⟩) (Kd.R_mono HO116.out (fun k_ hk => (⟨hk, hk.2⟩ : _ ∧ k_ ≠ gb138))) (fun _ hk => hk.2) (.string t132)) (fun _ hk => hk.2) (.int .i64 t133)) (fun _ hk => hk.2) (.int .i64 t134)) (fun _ hk => hk.2) (.int .i64 t135)) (fun _ hk => hk.2) (.string t136)) (fun _ h_ => h_.1)))); (case side2 => exact (Kd.R_reads' HO116.out).2.1); (case side3 => refine (Kd.V_reads' (e := 24) (base := w.heap.size) (ok := fun k_ => (True ∧ k_ ≠ gb138)) (n := t128.length) (c := co65) ?_).2.2; exact (by (with_reducible repeat ((apply Kd.V_drewN))); exact (Kd.V_mono (Kd.V_far (p := ⟨gb138, 4, none⟩) (Kd.V_far (p := ⟨gb138, 3, none⟩) (Kd.V_far (p := ⟨gb138, 2, none⟩) (Kd.V_far (p := ⟨gb138, 1, none⟩) (Kd.V_far (p := ⟨gb138, 0, none⟩) (Kd.V_mono HO130.out (fun k_ hk => (⟨hk, hk.2⟩ : _ ∧ k_ ≠ gb138))) (fun _ hk => hk.2) (.string t132)) (fun _ hk => hk.2) (.int .i64 t133)) (fun _ hk => hk.2) (.int .i64 t134)) (fun _ hk => hk.2) (.int .i64 t135)) (fun _ hk => hk.2) (.string t136)) (fun _ h_ => h_.1)))); (case side4 => exact (Kd.V_reads' HO130.out).2.1); rintro e w' ⟨rfl, ⟨nd, rfl⟩⟩; have hcz66_0 : w58.cell? ⟨gb124, 0, none⟩ = some (.string t118) := (blk_cell BK124.out 0).trans rfl; have hcz66_1 : w58.cell? ⟨gb124, 1, none⟩ = some (.int .i64 t119) := (blk_cell BK124.out 1).trans rfl; have hcz66_2 : w58.cell? ⟨gb124, 2, none⟩ = some (.int .i64 t120) := (blk_cell BK124.out 2).trans rfl; have hcz66_3 : w58.cell? ⟨gb124, 3, none⟩ = some (.int .i64 t121) := (blk_cell BK124.out 3).trans rfl; have hcz66_4 : w58.cell? ⟨gb124, 4, none⟩ = some (.string t122) := (blk_cell BK124.out 4).trans rfl; have hfz66_0 := blk_frozen BK124.out 0; have hfz66_1 := blk_frozen BK124.out 1; have hfz66_2 := blk_frozen BK124.out 2; have hfz66_3 := blk_frozen BK124.out 3; have hfz66_4 := blk_frozen BK124.out 4))
         go_ret
         exact ⟨by rfl, by repeat ((with_reducible first | exact HB.out | apply pw_below_drewN | refine below_set ?_ GE138.out))⟩
        ·rw [if_neg c42] at H
         exact absurd H (by simp)
       ·rw [if_neg c41] at H
        exact absurd H (by simp)
      ·replace c40 := Bool.eq_false_iff.mpr c40
       subst c40
       have H1 : (none) = some r := by rw [if_neg (show ¬ (false = true) by decide)] at H; exact H
       clear H
       have H := H1
       clear H1
       exact absurd H (by simp)
     ·rw [if_neg c38] at H
      exact absurd H (by simp)
    ·replace c36 := Bool.eq_false_iff.mpr c36
     subst c36
     have H1 : (none) = some r := by rw [if_neg (show ¬ (false = true) by decide)] at H; exact H
     clear H
     have H := H1
     clear H1
     exact absurd H (by simp)
end Go.Proofs.Ytnpiglojamhpiaa.PRp
namespace Go.Proofs.Ytnpiglojamhpiaa.Rrs
open Go.RowKit Go.Proofs.YtnpiglojamhpiaaW.PrintWords Go.Proofs.YtnpiglojamhpiaaW.PrintLast Go.Proofs.YtnpiglojamhpiaaW.PrintMore Go.Proofs.Ytnpiglojamhpiaa.Given Go.Proofs.Ytnpiglojamhpiaa.PRd Go.Proofs.Ytnpiglojamhpiaa.PRr Go.Proofs.Ytnpiglojamhpiaa.Oct Go.Proofs.Ytnpiglojamhpiaa.Name Go.Proofs.Ytnpiglojamhpiaa.Cmp Go.Proofs.Ytnpiglojamhpiaa.NameFacts Go.Proofs.Ytnpiglojamhpiaa.RdataFacts Go.Proofs.Ytnpiglojamhpiaa.SetLaw
set_option linter.unusedVariables false
theorem thenC_zero {α : Type} {c d : α → α → Int} {a b : α} : thenC c d a b = 0 ↔ c a b = 0 ∧ d a b = 0 := by
  unfold thenC
  split
  · rename_i h; exact ⟨fun e => ⟨h, e⟩, fun e => e.2⟩
  · rename_i h; exact ⟨fun e => absurd e h, fun e => absurd e.1 h⟩
theorem cmpRR_zero (x y : RR) : cmpRR x y = 0 ↔ nameK x = nameK y ∧ x.f1 = y.f1 ∧ x.f2 = y.f2 ∧ (saidR x).toList = (saidR y).toList := by
  unfold cmpRR
  rw [thenC_zero, thenC_zero, thenC_zero]
  have z : ∀ {β : Type} {c : β → β → Int} (O : Ord c) (a b : β), c a b = 0 ↔ a = b := fun O a b => ⟨O.zero a b, fun e => by rw [e]; exact O.self b⟩
  rw [z cmpL_ord, z cmpI_ord, z cmpI_ord, z cmp_ord]
open Classical in
theorem ev_one (x y : RR) (hx : fine x) (hy : fine y) : Ev (fun k => beadrollref11_One.f k x.f0 x.f1 x.f2 x.f3 x.f4 y.f0 y.f1 y.f2 y.f3 y.f4) (decide (cmpRR x y = 0)) := by
  obtain ⟨l, gl, sl, el, kl⟩ := nameK_eq x hx.1
  obtain ⟨m, gm, sm, em, km⟩ := nameK_eq y hy.1
  have hz := cmpRR_zero x y
  have ha : Ev (fun k => beadrollref07_Alike.f k x.f0 y.f0) (decide (nameK x = nameK y)) := ⟨700, fun k hk => by
    show beadrollref07_Alike.f k x.f0 y.f0 = _
    rw [el, em, ralike_yes l m gl gm sl sm k hk, kl, km]
    congr 1
    by_cases h : l.map lowS = m.map lowS
    · rw [decide_eq_true h, decide_eq_true (by rw [h])]
    · rw [decide_eq_false h, decide_eq_false (fun e => h (List.reverse_inj.mp e))]⟩
  unfold beadrollref11_One.f
  refine Ev.bind ha ?_
  by_cases h0 : nameK x = nameK y
  · simp only [h0, decide_true, if_true]
    by_cases h1 : x.f1 = y.f1
    · by_cases h2 : x.f2 = y.f2
      · simp only [if_pos h1, if_pos h2]
        refine Ev.bind (a := saidR x) ⟨FU + 2000, fun k hk => rsaid_f x hx.2 k hk⟩ ?_
        refine Ev.bind (a := saidR y) ⟨FU + 2000, fun k hk => rsaid_f y hy.2 k hk⟩ ?_
        refine Ev.const ?_
        congr 1
        by_cases h3 : (saidR x).toList = (saidR y).toList
        · rw [decide_eq_true (hz.mpr ⟨h0, h1, h2, h3⟩), h3, beq_self_eq_true]
        · rw [decide_eq_false (fun e => h3 (hz.mp e).2.2.2)]
          exact beq_eq_false_iff_ne.mpr h3
      · simp only [if_pos h1, if_neg h2]
        rw [decide_eq_false (fun e => h2 (hz.mp e).2.2.1)]
        exact Ev.now _
    · simp only [if_neg h1]
      rw [decide_eq_false (fun e => h1 (hz.mp e).2.1)]
      exact Ev.now _
  · simp only [h0, decide_false, Bool.false_eq_true, if_false]
    rw [decide_eq_false (fun e => h0 (hz.mp e).1)]
    exact Ev.now _
theorem find_loop (l : List RR) (x : RR) (hl : ∀ y ∈ l, fine y) (hx : fine x) (hn : l.length ≤ 1000000) : ∀ (d i : Nat), l.length ≤ i + d → i ≤ l.length → ∃ t, Ev (fun k => beadrollref13_find.l0 k l (i : Int) x.f0 x.f1 x.f2 x.f3 x.f4) t ∧ ((t = -1 ∧ ∀ y ∈ l.drop i, ¬ cmpRR y x = 0) ∨ ∃ (j : Nat) (hj : j < l.length), t = j ∧ cmpRR l[j] x = 0) := by
  have hend : ∀ i : Nat, l.length ≤ i → ∃ t, Ev (fun k => beadrollref13_find.l0 k l (i : Int) x.f0 x.f1 x.f2 x.f3 x.f4) t ∧ ((t = -1 ∧ ∀ y ∈ l.drop i, ¬ cmpRR y x = 0) ∨ ∃ (j : Nat) (hj : j < l.length), t = j ∧ cmpRR l[j] x = 0) := by
    intro i hd
    refine ⟨-1, Ev.step (f := fun _ => some (-1)) (fun k => by simp only [beadrollref13_find.l0]; rw [if_neg (by omega)]) (Ev.now _), .inl ⟨rfl, ?_⟩⟩
    rw [List.drop_of_length_le hd]
    intro y hy; cases hy
  intro d
  induction d with
  | zero => exact fun i hd _ => hend i (by omega)
  | succ d ih =>
    intro i hd hi0
    by_cases hi : i < l.length
    · have e1 : wrap64 ((i : Int) + 1) = ((i + 1 : Nat) : Int) := by unfold wrap64; omega
      have hr := rdR_get l i hi
      have hs : ∀ k, beadrollref13_find.l0 (k + 1) l (i : Int) x.f0 x.f1 x.f2 x.f3 x.f4 = (beadrollref11_One.f k (rdR l (i : Int)).f0 (rdR l (i : Int)).f1 (rdR l (i : Int)).f2 (rdR l (i : Int)).f3 (rdR l (i : Int)).f4 x.f0 x.f1 x.f2 x.f3 x.f4).bind fun t => if t = true then some (i : Int) else beadrollref13_find.l0 k l ((i + 1 : Nat) : Int) x.f0 x.f1 x.f2 x.f3 x.f4 := fun k => by
        simp only [beadrollref13_find.l0, e1]
        rw [if_pos (by omega), if_pos (by omega)]
        all_goals rfl
      rw [hr] at hs
      by_cases h0 : cmpRR l[i] x = 0
      · refine ⟨i, Ev.step hs (Ev.bind (ev_one _ _ (hl _ (List.getElem_mem _)) hx) ?_), .inr ⟨i, hi, rfl, h0⟩⟩
        simp only [h0, decide_true, if_true]
        first | done | exact Ev.now _
      · obtain ⟨t, ht, hc⟩ := ih (i + 1) (by omega) (by omega)
        refine ⟨t, Ev.step hs (Ev.bind (ev_one _ _ (hl _ (List.getElem_mem _)) hx) ?_), ?_⟩
        · simp only [h0, decide_false, Bool.false_eq_true, if_false]
          exact ht
        · rcases hc with ⟨rfl, hc⟩ | hc
          · refine .inl ⟨rfl, fun y hy => ?_⟩
            rw [List.drop_eq_getElem_cons hi] at hy
            rcases List.mem_cons.mp hy with rfl | hy
            · exact h0
            · exact hc y hy
          · exact .inr hc
    · exact hend i (by omega)
theorem ev_find (l : List RR) (x : RR) (hl : ∀ y ∈ l, fine y) (hx : fine x) (hn : l.length ≤ 1000000) : ∃ t, Ev (fun k => beadrollref13_find.f k l x.f0 x.f1 x.f2 x.f3 x.f4) t ∧ ((t = -1 ∧ find cmpRR l x = none) ∨ ∃ (j : Nat) (hj : j < l.length), t = j ∧ cmpRR l[j] x = 0) := by
  obtain ⟨t, ht, h⟩ := find_loop l x hl hx hn l.length 0 (by omega) (by omega)
  refine ⟨t, ht, ?_⟩
  rcases h with ⟨h1, h2⟩ | h
  · refine .inl ⟨h1, find_none.mpr fun y hy e => h2 y (by rw [List.drop_zero]; exact hy) (ordRR.symm e)⟩
  · exact .inr h
theorem ev_Find (l : List RR) (x : RR) (h : SetOf l) (hx : fine x) : Ev (fun k => beadrollref13_Find.f k l x.f0 x.f1 x.f2 x.f3 x.f4) (foundT (find cmpRR l x)) := by
  obtain ⟨t, ht, hc⟩ := ev_find l x h.all hx h.len
  unfold beadrollref13_Find.f
  refine Ev.bind ht ?_
  rcases hc with ⟨rfl, hc⟩ | ⟨j, hj, rfl, h0⟩
  · simp only [show ((-1 : Int) < 0) from by omega, if_true]
    rw [hc]
    exact Ev.now _
  · simp only [show ¬ ((j : Int) < 0) from by omega, show (0 : Int) ≤ (j : Int) from by omega, show (j : Int) < (l.length : Int) from by omega, if_true, if_false]
    rw [find_of_mem ordRR h.set (List.getElem_mem hj) (ordRR.symm h0)]
    refine Ev.const ?_
    show some ((rdR l (j : Nat)).f0, (rdR l (j : Nat)).f1, (rdR l (j : Nat)).f2, (rdR l (j : Nat)).f3, (rdR l (j : Nat)).f4, true) = _
    rw [rdR_get l j hj]
    rfl
theorem take_lo (l : List RR) (x : RR) (h : IsSet cmpRR l) (j : Nat) (hj : j < l.length) (h0 : cmpRR l[j] x = 0) : ∀ y ∈ l.take j, cmpRR y x < 0 := by
  intro y hy
  have e : l = l.take j ++ (l[j] :: l.drop (j + 1)) := by rw [← List.drop_eq_getElem_cons hj, List.take_append_drop]
  have h1 : IsSet cmpRR (l.take j ++ (l[j] :: l.drop (j + 1))) := e ▸ h
  exact ordRR.lt_of_lt_of_eq ((List.pairwise_append.mp h1).2.2 y hy _ (List.mem_cons_self ..)) h0
theorem ev_Drop (l : List RR) (x : RR) (h : SetOf l) (hx : fine x) : Ev (fun k => Given.beadrollref13_Drop.f k l x.f0 x.f1 x.f2 x.f3 x.f4) (drop cmpRR l x, (find cmpRR l x).isSome) := by
  obtain ⟨t, ht, hc⟩ := ev_find l x h.all hx h.len
  have hn := h.len
  unfold Given.beadrollref13_Drop.f
  refine Ev.bind ht ?_
  rcases hc with ⟨rfl, hc⟩ | ⟨j, hj, rfl, h0⟩
  · simp only [show ((-1 : Int) < 0) from by omega, if_true]
    rw [hc, drop_none hc]
    exact Ev.now _
  · simp only [show ¬ ((j : Int) < 0) from by omega, if_false]
    rw [find_of_mem ordRR h.set (List.getElem_mem hj) (ordRR.symm h0)]
    have e1 : wrap64 ((j : Int) + 1) = ((j + 1 : Nat) : Int) := by unfold wrap64; omega
    have hd : drop cmpRR l x = l.take j ++ l.drop (j + 1) := by
      have e := drop_split ordRR (l.take j) (l.drop j) x (take_lo l x h.set j hj h0)
      rw [List.take_append_drop] at e
      rw [e, List.drop_eq_getElem_cons hj, drop_head ordRR (by rw [← List.drop_eq_getElem_cons hj]; exact h.set.sublist (List.drop_sublist _ _)) h0]
    unfold PRq.beadrollref13_Drop.f
    refine Ev.bind ht ?_
    refine Ev.const ?_
    have l1 : (l.take j).length ≤ l.length := by rw [List.length_take]; omega
    have l2 : (l.drop (j + 1)).length ≤ l.length := by rw [List.length_drop]; omega
    rw [if_neg (by omega), Option.bind_some, if_pos (by omega), if_pos (by omega), Option.bind_some, Int.toNat_natCast, List.nil_append, if_pos (by simp only [List.length_nil]; omega), Option.bind_some, e1, if_pos (by omega), if_pos (by omega), Option.bind_some, Int.toNat_natCast, if_pos (by omega), hd]
    rfl
theorem put_rest (l : List RR) (x : RR) (hl : ∀ y ∈ l, fine y) (hx : fine x) (hn : l.length ≤ 1000000) : ∀ (d i : Nat) (out : List RR), l.length ≤ i + d → out.length ≤ i + 1 → (∀ y ∈ l.drop i, cmpRR x y < 0) → Ev (fun k => beadrollref13_Put.l0 k l out true (i : Int) x.f0 x.f1 x.f2 x.f3 x.f4) (out ++ l.drop i) := by
  intro d
  induction d with
  | zero =>
    intro i out hd _ _
    refine Ev.step (f := fun _ => some out) (fun k => by rw [beadrollref13_Put.l0]; rw [if_neg (by omega), if_pos rfl]) ?_
    rw [List.drop_of_length_le (by omega), List.append_nil]
    exact Ev.now _
  | succ d ih =>
    intro i out hd ho hlt
    by_cases hi : i < l.length
    · have e1 : wrap64 ((i : Int) + 1) = ((i + 1 : Nat) : Int) := by unfold wrap64; omega
      have hr := rdR_get l i hi
      have h0 : cmpRR x l[i] < 0 := hlt _ (by rw [List.drop_eq_getElem_cons hi]; exact List.mem_cons_self ..)
      have hs : ∀ k, beadrollref13_Put.l0 (k + 1) l out true (i : Int) x.f0 x.f1 x.f2 x.f3 x.f4 = (rcO k x (rdR l (i : Int))).bind fun t => if t ≤ 0 then beadrollref13_Put.j1 k l out true (i : Int) t false x.f0 x.f1 x.f2 x.f3 x.f4 else beadrollref13_Put.j1 k l out true (i : Int) t false x.f0 x.f1 x.f2 x.f3 x.f4 := fun k => by
        rw [beadrollref13_Put.l0]
        rw [if_pos (by omega), if_pos (by omega)]
        all_goals rfl
      rw [hr] at hs
      refine Ev.step hs (Ev.bind (ev_rcmp _ _ hx (hl _ (List.getElem_mem _))) ?_)
      simp only [show cmpRR x l[i] ≤ 0 from by omega, if_true]
      have hj : ∀ k, beadrollref13_Put.j1 (k + 1) l out true (i : Int) (cmpRR x l[i]) false x.f0 x.f1 x.f2 x.f3 x.f4 = beadrollref13_Put.l0 k l (out ++ [rdR l (i : Int)]) true ((i + 1 : Nat) : Int) x.f0 x.f1 x.f2 x.f3 x.f4 := fun k => by
        rw [beadrollref13_Put.j1, e1]
        rw [if_neg (by decide), if_neg (by omega), if_pos (by omega), if_pos (by omega), if_pos (by omega)]
        all_goals rfl
      rw [hr] at hj
      refine Ev.step hj ?_
      rw [List.drop_eq_getElem_cons hi, show out ++ l[i] :: l.drop (i + 1) = (out ++ [l[i]]) ++ l.drop (i + 1) from by simp]
      refine ih (i + 1) _ (by omega) (by rw [List.length_append, List.length_singleton]; omega) (fun y hy => hlt y ?_)
      rw [List.drop_eq_getElem_cons hi]; exact List.mem_cons_of_mem _ hy
    · refine Ev.step (f := fun _ => some out) (fun k => by rw [beadrollref13_Put.l0]; rw [if_neg (by omega), if_pos rfl]) ?_
      rw [List.drop_of_length_le (by omega), List.append_nil]
      exact Ev.now _
theorem put_loop (l : List RR) (x : RR) (h : SetOf l) (hx : fine x) : ∀ (d i : Nat) (out : List RR), l.length ≤ i + d → i ≤ l.length → out.length ≤ i → Ev (fun k => beadrollref13_Put.l0 k l out false (i : Int) x.f0 x.f1 x.f2 x.f3 x.f4) (out ++ put cmpRR (l.drop i) x) := by
  have hn := h.len
  have hend : ∀ (i : Nat) (out : List RR), l.length ≤ i → out.length ≤ 1000001 → Ev (fun k => beadrollref13_Put.l0 k l out false (i : Int) x.f0 x.f1 x.f2 x.f3 x.f4) (out ++ put cmpRR (l.drop i) x) := by
    intro i out hd ho
    refine Ev.step (f := fun _ => some (out ++ [x])) (fun k => by rw [beadrollref13_Put.l0]; rw [if_neg (by omega), if_neg (by decide), if_pos (by omega)]) ?_
    rw [List.drop_of_length_le hd, put]
    exact Ev.now _
  intro d
  induction d with
  | zero => exact fun i out hd hi0 ho => hend i out (by omega) (by omega)
  | succ d ih =>
    intro i out hd hi0 ho
    by_cases hi : i < l.length
    · have e1 : wrap64 ((i : Int) + 1) = ((i + 1 : Nat) : Int) := by unfold wrap64; omega
      have hr := rdR_get l i hi
      have hset : IsSet cmpRR (l[i] :: l.drop (i + 1)) := by rw [← List.drop_eq_getElem_cons hi]; exact h.set.sublist (List.drop_sublist _ _)
      have hab := (List.pairwise_cons.mp hset).1
      have hs : ∀ k, beadrollref13_Put.l0 (k + 1) l out false (i : Int) x.f0 x.f1 x.f2 x.f3 x.f4 = (rcO k x (rdR l (i : Int))).bind fun t => if t ≤ 0 then beadrollref13_Put.j1 k l out false (i : Int) t true x.f0 x.f1 x.f2 x.f3 x.f4 else beadrollref13_Put.j1 k l out false (i : Int) t false x.f0 x.f1 x.f2 x.f3 x.f4 := fun k => by
        rw [beadrollref13_Put.l0]
        rw [if_pos (by omega), if_pos (by omega)]
        all_goals rfl
      rw [hr] at hs
      refine Ev.step hs (Ev.bind (ev_rcmp _ _ hx (h.all _ (List.getElem_mem _))) ?_)
      rw [List.drop_eq_getElem_cons hi, put]
      by_cases hlt : cmpRR x l[i] < 0
      · rw [if_pos hlt]
        simp only [show cmpRR x l[i] ≤ 0 from by omega, if_true]
        have hj : ∀ k, beadrollref13_Put.j1 (k + 1) l out false (i : Int) (cmpRR x l[i]) true x.f0 x.f1 x.f2 x.f3 x.f4 = beadrollref13_Put.l0 k l ((out ++ [x]) ++ [rdR l (i : Int)]) true ((i + 1 : Nat) : Int) x.f0 x.f1 x.f2 x.f3 x.f4 := fun k => by
          rw [beadrollref13_Put.j1, e1]
          rw [if_pos rfl, if_pos (by omega), Option.bind_some, if_neg (by omega), if_pos (by omega), if_pos (by omega), if_pos (by rw [List.length_append, List.length_singleton]; omega)]
          all_goals rfl
        rw [hr] at hj
        refine Ev.step hj ?_
        rw [show out ++ x :: l[i] :: l.drop (i + 1) = (out ++ [x] ++ [l[i]]) ++ l.drop (i + 1) from by simp]
        exact put_rest l x h.all hx hn d (i + 1) _ (by omega) (by simp only [List.length_append, List.length_singleton]; omega) (fun y hy => ordRR.trans x _ y hlt (hab y hy))
      · rw [if_neg hlt]
        by_cases h0 : cmpRR x l[i] = 0
        · rw [if_pos h0]
          simp only [show cmpRR x l[i] ≤ 0 from by omega, if_true]
          have hj : ∀ k, beadrollref13_Put.j1 (k + 1) l out false (i : Int) (cmpRR x l[i]) true x.f0 x.f1 x.f2 x.f3 x.f4 = beadrollref13_Put.l0 k l (out ++ [x]) true ((i + 1 : Nat) : Int) x.f0 x.f1 x.f2 x.f3 x.f4 := fun k => by
            rw [beadrollref13_Put.j1, e1]
            rw [if_pos rfl, if_pos (by omega), Option.bind_some, if_pos h0]
          refine Ev.step hj ?_
          rw [show out ++ x :: l.drop (i + 1) = (out ++ [x]) ++ l.drop (i + 1) from by simp]
          exact put_rest l x h.all hx hn d (i + 1) _ (by omega) (by simp only [List.length_append, List.length_singleton]; omega) (fun y hy => ordRR.lt_of_eq_of_lt h0 (hab y hy))
        · rw [if_neg h0]
          simp only [show ¬ cmpRR x l[i] ≤ 0 from by omega, if_false]
          have hj : ∀ k, beadrollref13_Put.j1 (k + 1) l out false (i : Int) (cmpRR x l[i]) false x.f0 x.f1 x.f2 x.f3 x.f4 = beadrollref13_Put.l0 k l (out ++ [rdR l (i : Int)]) false ((i + 1 : Nat) : Int) x.f0 x.f1 x.f2 x.f3 x.f4 := fun k => by
            rw [beadrollref13_Put.j1, e1]
            rw [if_neg (by decide), if_neg h0, if_pos (by omega), if_pos (by omega), if_pos (by omega)]
            all_goals rfl
          rw [hr] at hj
          refine Ev.step hj ?_
          rw [show out ++ l[i] :: put cmpRR (l.drop (i + 1)) x = (out ++ [l[i]]) ++ put cmpRR (l.drop (i + 1)) x from by simp]
          exact ih (i + 1) _ (by omega) (by omega) (by simp only [List.length_append, List.length_singleton]; omega)
    · exact hend i out (by omega) (by omega)
theorem ev_Put (l : List RR) (x : RR) (h : SetOf l) (hx : fine x) : Ev (fun k => beadrollref13_Put.f k l x.f0 x.f1 x.f2 x.f3 x.f4) (put cmpRR l x) := by
  have := put_loop l x h hx l.length 0 [] (by omega) (Nat.zero_le _) (Nat.le_refl _)
  rw [List.drop_zero, List.nil_append] at this
  exact this
end Go.Proofs.Ytnpiglojamhpiaa.Rrs
namespace Go.Proofs.Ytnpiglojamhpiaa.Pure
open Go.RowKit Go.Proofs.YtnpiglojamhpiaaW.PrintWords Go.Proofs.YtnpiglojamhpiaaW.PrintLast Go.Proofs.YtnpiglojamhpiaaW.PrintMore Go.Proofs.Ytnpiglojamhpiaa.Given Go.Proofs.Ytnpiglojamhpiaa.PRd Go.Proofs.Ytnpiglojamhpiaa.PRr Go.Proofs.Ytnpiglojamhpiaa.PRs Go.Proofs.Ytnpiglojamhpiaa.PRp Go.Proofs.Ytnpiglojamhpiaa.SetLaw Go.Proofs.Ytnpiglojamhpiaa.Rrs Go.Proofs.Ytnpiglojamhpiaa.RowStructs
set_option linter.unusedVariables false
open Classical in
theorem puts_yes (l : List RR) (x : RR) (h : SetOf l) (hx : fine x) (hn : l.length ≤ 1000) : Ev (fun k => beadrolllaw13_RrsetPuts.j0 k l false x.f0 x.f1 x.f2 x.f3 x.f4) true := by
  have ha : SetOf (put cmpRR l x) := h.put hx (by omega)
  have hc : SetOf (drop cmpRR l x) := h.drop
  have hal := ha.len
  have hcl := hc.len
  refine Ev.step (fun k => by rw [beadrolllaw13_RrsetPuts.j0, if_neg (by decide), put_f h hx, Option.bind_some, drop_f h hx, Option.bind_some, Find_f h hx, Option.bind_some]) ?_
  refine Ev.bind (ev_Put l x h hx) ?_
  refine Ev.bind (ev_Drop l x h hx) ?_
  refine Ev.bind (ev_Find l x h hx) ?_
  refine Ev.bind (ev_same (put cmpRR l x) (put cmpRR l x) (by omega)) ?_
  simp only [decide_true, if_true]
  refine Ev.bind (ev_same l (put cmpRR l x) (by omega)) ?_
  have hb : (putB l x == !decide (l = put cmpRR l x)) = true := by
    by_cases e : l = put cmpRR l x
    · have : putB l x = false := Bool.eq_false_iff.mpr fun h1 => (putB_is h hx).mp h1 e.symm
      rw [this, decide_eq_true e]; rfl
    · have : putB l x = true := (putB_is h hx).mpr fun e1 => e e1.symm
      rw [this, decide_eq_false e]; rfl
  simp only [hb, if_true]
  refine Ev.bind (ev_same (drop cmpRR l x) (drop cmpRR l x) (by omega)) ?_
  simp only [decide_true, if_true, beq_self_eq_true, Bool.and_self]
  exact Ev.now _
theorem puts_off (l : List RR) (x : RR) : Ev (fun k => beadrolllaw13_RrsetPuts.j0 k l true x.f0 x.f1 x.f2 x.f3 x.f4) true :=
  Ev.step (f := fun _ => some true) (fun k => by rw [beadrolllaw13_RrsetPuts.j0, if_pos rfl, awake_f]; rfl) (Ev.now _)
theorem RrsetPuts (l : List RR) (x : RR) (hm : l.length ≤ maxLen) (hs : ∀ s ∈ l, GoodRR s) (hx : GoodRR x) : ∃ k, beadrolllaw13_RrsetPuts.f k l x.f0 x.f1 x.f2 x.f3 x.f4 = some true := by
  refine Ev.rounds ?_
  unfold maxLen at hm
  unfold beadrolllaw13_RrsetPuts.f
  simp only [awake_f, Option.bind_some, if_true]
  refine Ev.bind (ev_rights l (by omega)) ?_
  cases hr : rightsB l
  · simp only [Bool.false_eq_true, if_false]
    exact puts_off l x
  · obtain ⟨hl, hn, _⟩ := rights_fine hr
    simp only [if_true]
    refine Ev.bind (ev_ris l hl (by omega)) ?_
    cases hc : chain cmpRR l
    · simp only [Bool.false_eq_true, if_false]
      exact puts_off l x
    · simp only [if_true]
      refine Ev.bind (ev_rights [x] (by simp)) ?_
      cases hr1 : rightsB [x]
      · exact puts_off l x
      · obtain ⟨h1, _, _⟩ := rights_fine hr1
        exact puts_yes l x ⟨hl, by omega, (chain_iff ordRR l).mp hc⟩ (h1 x (List.mem_cons_self ..)) (by omega)
end Go.Proofs.Ytnpiglojamhpiaa.Pure
