/- Joined out of this session's own texts: contracts and facts that the claim's row is drawn from, each with its own conditions. -/
import Derived.Test.YtehdkopjgcoclaaJoined3
namespace Go.Proofs.Ytehdkopjgcoclaa.PSo
open Go.RowKit Go.Proofs.YtehdkopjgcoclaaW.PrintWords Go.Proofs.YtehdkopjgcoclaaW.PrintLast Go.Proofs.YtehdkopjgcoclaaW.PrintMore Go.Proofs.Ytehdkopjgcoclaa.Given Go.Proofs.Ytehdkopjgcoclaa.PRd Go.Proofs.Ytehdkopjgcoclaa.PRr
attribute [local go_sem] max2_int min2_int max_two min_two max_three min_three max_four min_four   -- for this text's walks alone
set_option linter.unusedVariables false
set_option linter.unusedSimpArgs false
mutual
def api_RR_79.l0 : Nat → List (S33) → Int → Int → Int → Option ((List (S33)))
 | 0, _, _, _, _ => none
 | k + 1, x0, x1, x10, x11 => if x10 < x11 then (if 0 ≤ (wrap64 ((IntKind.u64.wrap (wrap64 (x10 + x11))) / 2)) then (if (wrap64 ((IntKind.u64.wrap (wrap64 (x10 + x11))) / 2)) < (x0.length : Int) then (if 0 ≤ x1 then (if x1 < (x0.length : Int) then ((record_Compare.f k ((rd_T33 x0 (wrap64 ((IntKind.u64.wrap (wrap64 (x10 + x11))) / 2))).f0) ((rd_T33 x0 (wrap64 ((IntKind.u64.wrap (wrap64 (x10 + x11))) / 2))).f1) ((rd_T33 x0 (wrap64 ((IntKind.u64.wrap (wrap64 (x10 + x11))) / 2))).f2) ((rd_T33 x0 (wrap64 ((IntKind.u64.wrap (wrap64 (x10 + x11))) / 2))).f3) ((rd_T33 x0 (wrap64 ((IntKind.u64.wrap (wrap64 (x10 + x11))) / 2))).f4) ((rd_T33 x0 x1).f0) ((rd_T33 x0 x1).f1) ((rd_T33 x0 x1).f2) ((rd_T33 x0 x1).f3) ((rd_T33 x0 x1).f4)).bind fun t121 => (if t121 < 0 then (api_RR_79.l0 k x0 x1 (wrap64 ((wrap64 ((IntKind.u64.wrap (wrap64 (x10 + x11))) / 2)) + 1)) x11) else (api_RR_79.l0 k x0 x1 x10 (wrap64 ((IntKind.u64.wrap (wrap64 (x10 + x11))) / 2))))) else (none)) else (none)) else (none)) else (none)) else (api_RR_79.l1 k x0 x10 x1)
def api_RR_79.l1 : Nat → List (S33) → Int → Int → Option ((List (S33)))
 | 0, _, _, _ => none
 | k + 1, x0, x10, x13 => if x13 < (wrap64 (x10 - 1)) then (if 0 ≤ (wrap64 (x13 + 1)) then (if (wrap64 (x13 + 1)) < (x0.length : Int) then (if 0 ≤ x13 then (if x13 < (x0.length : Int) then (api_RR_79.l1 k ((x0.set (x13 : Int).toNat (⟨(rd_T33 x0 (wrap64 (x13 + 1))).f0, (rd_T33 x0 (wrap64 (x13 + 1))).f1, (rd_T33 x0 (wrap64 (x13 + 1))).f2, (rd_T33 x0 (wrap64 (x13 + 1))).f3, (rd_T33 x0 (wrap64 (x13 + 1))).f4⟩ : S33)).set ((wrap64 (x13 + 1)) : Int).toNat (⟨(rd_T33 x0 x13).f0, (rd_T33 x0 x13).f1, (rd_T33 x0 x13).f2, (rd_T33 x0 x13).f3, (rd_T33 x0 x13).f4⟩ : S33)) x10 (wrap64 (x13 + 1))) else (none)) else (none)) else (none)) else (none)) else (some x0)
def api_RR_79.l2 : Nat → List (S33) → Int → Int → Int → Option ((List (S33)))
 | 0, _, _, _, _ => none
 | k + 1, x0, x2, x14, x15 => if x14 < x15 then (if 0 ≤ x2 then (if x2 < (x0.length : Int) then (if 0 ≤ (wrap64 ((IntKind.u64.wrap (wrap64 (x14 + x15))) / 2)) then (if (wrap64 ((IntKind.u64.wrap (wrap64 (x14 + x15))) / 2)) < (x0.length : Int) then ((record_Compare.f k ((rd_T33 x0 x2).f0) ((rd_T33 x0 x2).f1) ((rd_T33 x0 x2).f2) ((rd_T33 x0 x2).f3) ((rd_T33 x0 x2).f4) ((rd_T33 x0 (wrap64 ((IntKind.u64.wrap (wrap64 (x14 + x15))) / 2))).f0) ((rd_T33 x0 (wrap64 ((IntKind.u64.wrap (wrap64 (x14 + x15))) / 2))).f1) ((rd_T33 x0 (wrap64 ((IntKind.u64.wrap (wrap64 (x14 + x15))) / 2))).f2) ((rd_T33 x0 (wrap64 ((IntKind.u64.wrap (wrap64 (x14 + x15))) / 2))).f3) ((rd_T33 x0 (wrap64 ((IntKind.u64.wrap (wrap64 (x14 + x15))) / 2))).f4)).bind fun t128 => (if t128 < 0 then (api_RR_79.l2 k x0 x2 x14 (wrap64 ((IntKind.u64.wrap (wrap64 (x14 + x15))) / 2))) else (api_RR_79.l2 k x0 x2 (wrap64 ((wrap64 ((IntKind.u64.wrap (wrap64 (x14 + x15))) / 2)) + 1)) x15))) else (none)) else (none)) else (none)) else (none)) else (api_RR_79.l3 k x0 x14 x2)
def api_RR_79.l3 : Nat → List (S33) → Int → Int → Option ((List (S33)))
 | 0, _, _, _ => none
 | k + 1, x0, x14, x17 => if x17 > x14 then (if 0 ≤ (wrap64 (x17 - 1)) then (if (wrap64 (x17 - 1)) < (x0.length : Int) then (if 0 ≤ x17 then (if x17 < (x0.length : Int) then (api_RR_79.l3 k ((x0.set (x17 : Int).toNat (⟨(rd_T33 x0 (wrap64 (x17 - 1))).f0, (rd_T33 x0 (wrap64 (x17 - 1))).f1, (rd_T33 x0 (wrap64 (x17 - 1))).f2, (rd_T33 x0 (wrap64 (x17 - 1))).f3, (rd_T33 x0 (wrap64 (x17 - 1))).f4⟩ : S33)).set ((wrap64 (x17 - 1)) : Int).toNat (⟨(rd_T33 x0 x17).f0, (rd_T33 x0 x17).f1, (rd_T33 x0 x17).f2, (rd_T33 x0 x17).f3, (rd_T33 x0 x17).f4⟩ : S33)) x14 (wrap64 (x17 - 1))) else (none)) else (none)) else (none)) else (none)) else (some x0)
def api_RR_79.j4 : Nat → List (S33) → Int → Int → Int → Int → Int → Int → Int → Int → Option ((List (S33)))
 | 0, _, _, _, _, _, _, _, _, _ => none
 | k + 1, x0, x1, x2, x3, x4, x18, x19, x20, x21 => api_RR_79.l4 k x0 x1 x2 x3 x4 x18 x19 x20 x21 (wrap64 (x19 - 1))
def api_RR_79.l4 : Nat → List (S33) → Int → Int → Int → Int → Int → Int → Int → Int → Int → Option ((List (S33)))
 | 0, _, _, _, _, _, _, _, _, _, _ => none
 | k + 1, x0, x1, x2, x3, x4, x18, x19, x20, x21, x22 => if x20 < x21 then (if 0 ≤ (wrap64 (x22 - (wrap64 ((IntKind.u64.wrap (wrap64 (x20 + x21))) / 2)))) then (if (wrap64 (x22 - (wrap64 ((IntKind.u64.wrap (wrap64 (x20 + x21))) / 2)))) < (x0.length : Int) then (if 0 ≤ (wrap64 ((IntKind.u64.wrap (wrap64 (x20 + x21))) / 2)) then (if (wrap64 ((IntKind.u64.wrap (wrap64 (x20 + x21))) / 2)) < (x0.length : Int) then ((record_Compare.f k ((rd_T33 x0 (wrap64 (x22 - (wrap64 ((IntKind.u64.wrap (wrap64 (x20 + x21))) / 2))))).f0) ((rd_T33 x0 (wrap64 (x22 - (wrap64 ((IntKind.u64.wrap (wrap64 (x20 + x21))) / 2))))).f1) ((rd_T33 x0 (wrap64 (x22 - (wrap64 ((IntKind.u64.wrap (wrap64 (x20 + x21))) / 2))))).f2) ((rd_T33 x0 (wrap64 (x22 - (wrap64 ((IntKind.u64.wrap (wrap64 (x20 + x21))) / 2))))).f3) ((rd_T33 x0 (wrap64 (x22 - (wrap64 ((IntKind.u64.wrap (wrap64 (x20 + x21))) / 2))))).f4) ((rd_T33 x0 (wrap64 ((IntKind.u64.wrap (wrap64 (x20 + x21))) / 2))).f0) ((rd_T33 x0 (wrap64 ((IntKind.u64.wrap (wrap64 (x20 + x21))) / 2))).f1) ((rd_T33 x0 (wrap64 ((IntKind.u64.wrap (wrap64 (x20 + x21))) / 2))).f2) ((rd_T33 x0 (wrap64 ((IntKind.u64.wrap (wrap64 (x20 + x21))) / 2))).f3) ((rd_T33 x0 (wrap64 ((IntKind.u64.wrap (wrap64 (x20 + x21))) / 2))).f4)).bind fun t135 => (if t135 < 0 then (api_RR_79.l4 k x0 x1 x2 x3 x4 x18 x19 x20 (wrap64 ((IntKind.u64.wrap (wrap64 (x20 + x21))) / 2)) x22) else (api_RR_79.l4 k x0 x1 x2 x3 x4 x18 x19 (wrap64 ((wrap64 ((IntKind.u64.wrap (wrap64 (x20 + x21))) / 2)) + 1)) x21 x22))) else (none)) else (none)) else (none)) else (none)) else (if x20 < x2 then (api_RR_79.j6 k x0 x1 x2 x3 x4 x18 x20 (wrap64 (x19 - x20)) (decide (x2 < (wrap64 (x19 - x20))))) else (api_RR_79.j6 k x0 x1 x2 x3 x4 x18 x20 (wrap64 (x19 - x20)) false))
def api_RR_79.j6 : Nat → List (S33) → Int → Int → Int → Int → Int → Int → Int → Bool → Option ((List (S33)))
 | 0, _, _, _, _, _, _, _, _, _ => none
 | k + 1, x0, x1, x2, x3, x4, x18, x20, x24, x185 => if x185 = true then ((api_RR_92.f k x0 x20 x2 x24 x4).bind fun t136 => (api_RR_79.j7 k t136 x1 x3 x4 x18 x20 x24)) else (api_RR_79.j7 k x0 x1 x3 x4 x18 x20 x24)
def api_RR_79.j7 : Nat → List (S33) → Int → Int → Int → Int → Int → Int → Option ((List (S33)))
 | 0, _, _, _, _, _, _, _ => none
 | k + 1, x0, x1, x3, x4, x18, x20, x24 => if x1 < x20 then (api_RR_79.j8 k x0 x1 x3 x4 x18 x20 x24 (decide (x20 < x18))) else (api_RR_79.j8 k x0 x1 x3 x4 x18 x20 x24 false)
def api_RR_79.j8 : Nat → List (S33) → Int → Int → Int → Int → Int → Int → Bool → Option ((List (S33)))
 | 0, _, _, _, _, _, _, _, _ => none
 | k + 1, x0, x1, x3, x4, x18, x20, x24, x199 => if x199 = true then ((api_RR_79.f k x0 x1 x20 x18 x4).bind fun t137 => (if x18 < x24 then (if x24 < x3 then ((api_RR_79.f k t137 x18 x24 x3 x4).bind fun t138 => (some t138)) else (some t137)) else (some t137))) else (if x18 < x24 then (if x24 < x3 then ((api_RR_79.f k x0 x18 x24 x3 x4).bind fun t139 => (some t139)) else (some x0)) else (some x0))
def api_RR_79.f : Nat → List (S33) → Int → Int → Int → Int → Option ((List (S33)))
 | 0, _, _, _, _, _ => none
 | k + 1, l0, a1, a2, a3, a4 => if (wrap64 (a2 - a1)) = 1 then (api_RR_79.l0 k l0 a1 a2 a3) else (if (wrap64 (a3 - a2)) = 1 then (api_RR_79.l2 k l0 a2 a1 a2) else (if a2 > (wrap64 ((IntKind.u64.wrap (wrap64 (a1 + a3))) / 2)) then (api_RR_79.j4 k l0 a1 a2 a3 a4 (wrap64 ((IntKind.u64.wrap (wrap64 (a1 + a3))) / 2)) (wrap64 ((wrap64 ((IntKind.u64.wrap (wrap64 (a1 + a3))) / 2)) + a2)) (wrap64 ((wrap64 ((wrap64 ((IntKind.u64.wrap (wrap64 (a1 + a3))) / 2)) + a2)) - a3)) (wrap64 ((IntKind.u64.wrap (wrap64 (a1 + a3))) / 2))) else (api_RR_79.j4 k l0 a1 a2 a3 a4 (wrap64 ((IntKind.u64.wrap (wrap64 (a1 + a3))) / 2)) (wrap64 ((wrap64 ((IntKind.u64.wrap (wrap64 (a1 + a3))) / 2)) + a2)) a1 a2)))
end
def api_RR_79.T5 : Bool × List (List Nat × List Nat) := (true, [([], []), ([], []), ([], []), ([1, 2], [1, 2]), ([3], [3]), ([], []), ([], []), ([5, 6], [5, 6]), ([7], [7]), ([0, 4, 8], [0, 4, 8]), ([9], [9])])
def api_RR_79.B5 : List Nat := [0, 0, 0, 6, 14, 0, 0, 96, 224, 511, 1023]
theorem api_RR_79.tab5 : rtab .any (opsOf Try.f79 5) = api_RR_79.T5 := by kernel_rfl
theorem api_RR_79.bits5 : waitsOk api_RR_79.T5.2 api_RR_79.B5 = true := by kernel_rfl
def api_RR_79.T11 : Bool × List (List Nat × List Nat) := (true, [([], []), ([], []), ([], []), ([], []), ([3], [3]), ([], []), ([], []), ([6], [6]), ([5, 7], [5, 7]), ([8], [8]), ([], []), ([], []), ([10, 11], [10, 11]), ([12], [12]), ([0, 1, 0, 1, 5, 6, 7, 8, 9, 13], [0, 1]), ([14, 9, 0, 1, 5, 6, 7, 8, 9, 13], [9, 14]), ([2, 4, 0, 1, 2, 3, 4, 5, 6, 7, 8, 9, 10, 11, 12, 13, 14, 15], [2, 4]), ([16, 13, 15, 0, 1, 2, 3, 4, 5, 6, 7, 8, 9, 10, 11, 12, 13, 14, 15], [13, 16])])
def api_RR_79.B11 : List Nat := [0, 0, 0, 0, 8, 0, 0, 64, 224, 480, 0, 0, 3072, 7168, 16355, 32739, 65535, 131071]
theorem api_RR_79.tab11 : rtab .any (opsOf Try.f79 11) = api_RR_79.T11 := by kernel_rfl
theorem api_RR_79.bits11 : waitsOk api_RR_79.T11.2 api_RR_79.B11 = true := by kernel_rfl
def api_RR_79.T17 : Bool × List (List Nat × List Nat) := (true, [([], []), ([], []), ([], []), ([1, 2], [1, 2]), ([3], [3]), ([], []), ([], []), ([5, 6], [5, 6]), ([7], [7]), ([0, 4, 8], [0, 4, 8]), ([9], [9]), ([10], [10])])
def api_RR_79.B17 : List Nat := [0, 0, 0, 6, 14, 0, 0, 96, 224, 511, 1023, 2047]
theorem api_RR_79.tab17 : rtab .any (opsOf Try.f79 17) = api_RR_79.T17 := by kernel_rfl
theorem api_RR_79.bits17 : waitsOk api_RR_79.T17.2 api_RR_79.B17 = true := by kernel_rfl
def api_RR_79.T23 : Bool × List (List Nat × List Nat) := (true, [([], []), ([], []), ([], []), ([], []), ([3], [3]), ([], []), ([], []), ([6], [6]), ([5, 7], [5, 7]), ([8], [8]), ([], []), ([], []), ([10, 11], [10, 11]), ([12], [12]), ([0, 1, 0, 1, 5, 6, 7, 8, 9, 13], [0, 1]), ([14, 9, 0, 1, 5, 6, 7, 8, 9, 13], [9, 14]), ([2, 4, 0, 1, 2, 3, 4, 5, 6, 7, 8, 9, 10, 11, 12, 13, 14, 15], [2, 4]), ([16, 13, 15, 0, 1, 2, 3, 4, 5, 6, 7, 8, 9, 10, 11, 12, 13, 14, 15], [13, 16])])
def api_RR_79.B23 : List Nat := [0, 0, 0, 0, 8, 0, 0, 64, 224, 480, 0, 0, 3072, 7168, 16355, 32739, 65535, 131071]
theorem api_RR_79.tab23 : rtab .any (opsOf Try.f79 23) = api_RR_79.T23 := by kernel_rfl
theorem api_RR_79.bits23 : waitsOk api_RR_79.T23.2 api_RR_79.B23 = true := by kernel_rfl
def api_RR_79.T35 : Bool × List (List Nat × List Nat) := (true, [([], []), ([], []), ([], []), ([], []), ([2, 3], [2, 3]), ([1, 4], [1, 4]), ([5], [5]), ([], []), ([], []), ([7, 8], [7, 8]), ([9], [9]), ([0, 6, 10], [0, 6, 10]), ([11], [11]), ([12], [12])])
def api_RR_79.B35 : List Nat := [0, 0, 0, 0, 12, 30, 62, 0, 0, 384, 896, 2047, 4095, 8191]
theorem api_RR_79.tab35 : rtab .any (opsOf Try.f79 35) = api_RR_79.T35 := by kernel_rfl
theorem api_RR_79.bits35 : waitsOk api_RR_79.T35.2 api_RR_79.B35 = true := by kernel_rfl
set_option maxHeartbeats 40000000 in
set_option maxRecDepth 100000 in
theorem api_RR_79.calls (k : Nat) : ∀ (P0_ : Nat → Prop) (u9000_ : Value) (l0 : List (S33)) (a1 : Int) (a2 : Int) (a3 : Int) (a4 : Int) (r : List (S33)) (w0 w : World) (hB : Below w0.heap.size w0 w) (ho0 : Kd.R k33 33 w w0.heap.size P0_ u9000_ l0) (h : api_RR_79.f k l0 a1 a2 a3 a4 = some r),
  Calls Try.prog 79 #[u9000_, .int .i64 a1, .int .i64 a2, .int .i64 a3, .func (.func 44) #[] #[]] w fun e w' => e = .returned (.tuple #[]) ∧ Kd.R k33 33 w' w0.heap.size (fun k_ => (P0_ k_ ∨ w.heap.size ≤ k_)) u9000_ r ∧ Below w0.heap.size w0 w' ∧ Kept w w' (fun k_ => P0_ k_) := by
 induction k using Nat.strongRecOn with
 | _ k ih =>
 intro P0_ u9000_ l0 a1 a2 a3 a4 r w0 w hB ho0 h
 cases k with
 | zero => exact absurd h (by simp [api_RR_79.f])
 | succ k =>
 simp only [api_RR_79.f] at h
 have hu33 := Try.underlying33
 have HO0 := Aside0.mk (show Kd.R k33 33 w w0.heap.size (fun k_ => (P0_ k_ ∨ w.heap.size ≤ k_)) u9000_ l0 from Kd.R_mono ho0 (fun k_ hk => (.inl hk)))
 have HK := Aside0.mk (Kept.refl w (fun k_ => P0_ k_))
 have HW0 := Aside0.mk hB.size
 have HB := Aside0.mk hB
 clear hB
 have H : (if (wrap64 (a2 - a1)) = 1 then (api_RR_79.l0 k l0 a1 a2 a3) else (if (wrap64 (a3 - a2)) = 1 then (api_RR_79.l2 k l0 a2 a1 a2) else (if a2 > (wrap64 ((IntKind.u64.wrap (wrap64 (a1 + a3))) / 2)) then (api_RR_79.j4 k l0 a1 a2 a3 a4 (wrap64 ((IntKind.u64.wrap (wrap64 (a1 + a3))) / 2)) (wrap64 ((wrap64 ((IntKind.u64.wrap (wrap64 (a1 + a3))) / 2)) + a2)) (wrap64 ((wrap64 ((wrap64 ((IntKind.u64.wrap (wrap64 (a1 + a3))) / 2)) + a2)) - a3)) (wrap64 ((IntKind.u64.wrap (wrap64 (a1 + a3))) / 2))) else (api_RR_79.j4 k l0 a1 a2 a3 a4 (wrap64 ((IntKind.u64.wrap (wrap64 (a1 + a3))) / 2)) (wrap64 ((wrap64 ((IntKind.u64.wrap (wrap64 (a1 + a3))) / 2)) + a2)) a1 a2)))) = some r := h
 clear h
 by_cases c6 : (wrap64 (a2 - a1)) = 1
 ·rw [if_pos c6] at H
  have c6b0 : ((wrap64 (a2 - a1)) == 1) = true := beq_iff_eq.mpr c6
  have c6b1 : ((wrap64 (a2 - a1)) != 1) = false := bne_eq_false_iff_eq.mpr c6
  clear c6
  have H' := Aside0.mk H
  clear H
  go_enter Try.func79, Try.ntmps79
  go_wp2
  go_loopg [10, 11] k (fun kq v10 v11 w' => ∃ (x10_1 : Int) (x11_1 : Int), v10 = .int .i64 x10_1 ∧ v11 = .int .i64 x11_1 ∧ Aside0 (api_RR_79.l0 kq l0 a1 x10_1 x11_1 = some r) ∧ Aside0 (kq ≤ k) ∧ Aside0 (Kd.R k33 33 w' w0.heap.size (fun k_ => (P0_ k_ ∨ w.heap.size ≤ k_)) u9000_ l0) ∧ Aside0 (Kept w w' (fun k_ => P0_ k_)) ∧ Aside0 (Below w0.heap.size w0 w'))
  case atStart => exact ⟨(a2), (a3), (by rfl), (by rfl), H', ⟨Nat.le_refl _⟩, ⟨by (with_reducible repeat ((apply Kd.R_alloc))); exact HO0.out⟩, ⟨by repeat ((with_reducible (exact HK.out)))⟩, ⟨by repeat ((with_reducible (exact HB.out)))⟩⟩
  case round =>
   clear H'
   (try clear c6b0)
   (try clear c6b1)
   obtain ⟨x10_1, x11_1, rfl, rfl, HA, HK1, HO_0, HK, HB⟩ := hrel
   cases gk with
   | zero => exact absurd HA.out (by simp [api_RR_79.l0])
   | succ k1 =>
    have H := HA.out
    clear HA
    simp only [api_RR_79.l0] at H
    by_cases c7 : x10_1 < x11_1
    ·rw [if_pos c7] at H
     have c7b0 : decide (x10_1 < x11_1) = true := decide_eq_true c7
     clear c7
     obtain ⟨ji8, hji8⟩ : ∃ j_ : Int, (wrap64 ((IntKind.u64.wrap (wrap64 (x10_1 + x11_1))) / 2)) = j_ := ⟨_, rfl⟩
     replace H : (if 0 ≤ (ji8) then (if (ji8) < (l0.length : Int) then (if 0 ≤ a1 then (if a1 < (l0.length : Int) then ((record_Compare.f k1 ((rd_T33 l0 (ji8)).f0) ((rd_T33 l0 (ji8)).f1) ((rd_T33 l0 (ji8)).f2) ((rd_T33 l0 (ji8)).f3) ((rd_T33 l0 (ji8)).f4) ((rd_T33 l0 a1).f0) ((rd_T33 l0 a1).f1) ((rd_T33 l0 a1).f2) ((rd_T33 l0 a1).f3) ((rd_T33 l0 a1).f4)).bind fun t121 => (if t121 < 0 then (api_RR_79.l0 k1 l0 a1 (wrap64 ((ji8) + 1)) x11_1) else (api_RR_79.l0 k1 l0 a1 x10_1 ji8))) else (none)) else (none)) else (none)) else (none)) = some r := by (rw [hji8] at H; exact H)
     have hji8w : (IntKind.i64.wrap ((IntKind.u64.wrap (wrap64 (x10_1 + x11_1))) / 2)) = ji8 := (i64_w _).trans hji8
     by_cases c9 : 0 ≤ (ji8)
     ·rw [if_pos c9] at H
      have c9b0 : decide (0 ≤ (ji8)) = true := decide_eq_true c9
      clear c9
      by_cases c10 : (ji8) < (l0.length : Int)
      ·rw [if_pos c10] at H
       have c10b0 : decide ((ji8) < (l0.length : Int)) = true := decide_eq_true c10
       clear c10
       by_cases c11 : 0 ≤ a1
       ·rw [if_pos c11] at H
        have c11b0 : decide (0 ≤ a1) = true := decide_eq_true c11
        clear c11
        by_cases c12 : a1 < (l0.length : Int)
        ·rw [if_pos c12] at H
         have c12b0 : decide (a1 < (l0.length : Int)) = true := decide_eq_true c12
         clear c12
         replace H := Option.bind_eq_some_iff.mp H
         obtain ⟨t121, A130, H⟩ := H
         replace H : (if t121 < 0 then (api_RR_79.l0 k1 l0 a1 (wrap64 ((ji8) + 1)) x11_1) else (api_RR_79.l0 k1 l0 a1 x10_1 ji8)) = some r := H
         have A13 := Aside0.mk A130
         clear A130
         by_cases c14 : t121 < 0
         ·rw [if_pos c14] at H
          have c14b0 : decide (t121 < 0) = true := decide_eq_true c14
          clear c14
          have H' := Aside0.mk H
          clear H
          (try go_wp2)
          have n0_ := Aside0.mk (Kd.R_drew HO_0.out)
          have n1_ := Aside0.mk (Kept.drew HK.out)
          have n2_ := Aside0.mk (below_drew1 HB.out)
          clear HO_0
          clear HK
          clear HB
          have HO_0 := n0_
          have HK := n1_
          have HB := n2_
          clear n0_ n1_ n2_
          obtain ⟨Ao16, co16, eo16⟩ := Kd.R_slice HO_0.out
          ((subst eo16))
          have p119 : 0 ≤ ((ji8) : Int) := of_decide_eq_true (by (with_reducible assumption))
          have q119 : (ji8) < (l0.length : Int) := of_decide_eq_true (by (with_reducible assumption))
          obtain ⟨ad119, e119, hx119_0, hx119_1, hx119_2, hx119_3, hx119_4⟩ := at_T33 (Kd.R_reads' HO_0.out).2.2 (ji8) p119 q119
          cases e119
          replace p119 := eq_true p119
          replace q119 := eq_true q119
          have p120 : 0 ≤ (a1 : Int) := of_decide_eq_true (by (with_reducible assumption))
          have q120 : a1 < (l0.length : Int) := of_decide_eq_true (by (with_reducible assumption))
          obtain ⟨ad120, e120, hx120_0, hx120_1, hx120_2, hx120_3, hx120_4⟩ := at_T33 (Kd.R_reads' HO_0.out).2.2 a1 p120 q120
          obtain rfl : ad119 = ad120 := (by injection e120)
          replace p120 := eq_true p120
          replace q120 := eq_true q120
          refine start_ (n := 11) (S := fun w' => w'.cell? (ad119.add (((ji8)).toNat * 5)) = some (.string ((rd_T33 l0 (ji8)).f0)) ∧ w'.cell? ⟨(ad119.add (((ji8)).toNat * 5)).block, (ad119.add (((ji8)).toNat * 5)).off + 1, none⟩ = some (.int .i64 ((rd_T33 l0 (ji8)).f1)) ∧ w'.cell? ⟨(ad119.add (((ji8)).toNat * 5)).block, (ad119.add (((ji8)).toNat * 5)).off + 2, none⟩ = some (.int .i64 ((rd_T33 l0 (ji8)).f2)) ∧ w'.cell? ⟨(ad119.add (((ji8)).toNat * 5)).block, (ad119.add (((ji8)).toNat * 5)).off + 3, none⟩ = some (.int .i64 ((rd_T33 l0 (ji8)).f3)) ∧ w'.cell? ⟨(ad119.add (((ji8)).toNat * 5)).block, (ad119.add (((ji8)).toNat * 5)).off + 4, none⟩ = some (.string ((rd_T33 l0 (ji8)).f4)) ∧ w'.cell? (ad119.add ((a1).toNat * 5)) = some (.string ((rd_T33 l0 a1).f0)) ∧ w'.cell? ⟨(ad119.add ((a1).toNat * 5)).block, (ad119.add ((a1).toNat * 5)).off + 1, none⟩ = some (.int .i64 ((rd_T33 l0 a1).f1)) ∧ w'.cell? ⟨(ad119.add ((a1).toNat * 5)).block, (ad119.add ((a1).toNat * 5)).off + 2, none⟩ = some (.int .i64 ((rd_T33 l0 a1).f2)) ∧ w'.cell? ⟨(ad119.add ((a1).toNat * 5)).block, (ad119.add ((a1).toNat * 5)).off + 3, none⟩ = some (.int .i64 ((rd_T33 l0 a1).f3)) ∧ w'.cell? ⟨(ad119.add ((a1).toNat * 5)).block, (ad119.add ((a1).toNat * 5)).off + 4, none⟩ = some (.string ((rd_T33 l0 a1).f4))) (ds := []) #[false, false, false, false, false, false, false, false, false, false, false] (by kernel_rfl) rfl rfl ⟨hx119_0, hx119_1, hx119_2, hx119_3, hx119_4, hx120_0, hx120_1, hx120_2, hx120_3, hx120_4⟩ (fun hHeld => ?_); refine with_tabW api_RR_79.tab5 api_RR_79.bits5 (fun HT_ HW_ => ?_)
          generalize wr.drew = w15 at HO_0 HK HB hx119_0 hx119_1 hx119_2 hx119_3 hx119_4 hx120_0 hx120_1 hx120_2 hx120_3 hx120_4 hHeld ⊢
          refine pure_ (i := 0) (N := some 40) (v := ?_) (a' := ?_) #[true, false, false, false, false, false, false, false, false, false, false] rfl rfl (any_of HT_.out (by kernel_rfl)) (fun _ _ _ h => h) (Or.inl ⟨by rfl, ?_⟩) ?_ ?_
          rotate_left
          ·intro w'
           go_simp
           with_reducible rfl
          rotate_left
          ·simp only [Act.put, List.setIfInBounds_toArray, List.set_cons_zero, List.set_cons_succ, i64_w, i32_w]
           rfl
          refine pure_ (i := 1) (N := some 41) (v := ?_) (a' := ?_) #[true, true, false, false, false, false, false, false, false, false, false] rfl rfl (any_of HT_.out (by kernel_rfl)) (fun _ _ _ h => h) (Or.inl ⟨by rfl, ?_⟩) ?_ ?_
          rotate_left
          ·intro w'
           go_simp
           with_reducible rfl
          rotate_left
          ·simp only [Act.put, List.setIfInBounds_toArray, List.set_cons_zero, List.set_cons_succ, i64_w, i32_w]
           rfl
          refine pure_ (i := 2) (N := some 42) (v := ?_) (a' := ?_) #[true, true, true, false, false, false, false, false, false, false, false] rfl rfl (any_of HT_.out (by kernel_rfl)) (fun _ _ _ h => h) (Or.inl ⟨by rfl, ?_⟩) ?_ ?_
          rotate_left
          ·intro w'
           go_simp
           with_reducible rfl
          rotate_left
          ·simp only [Act.put, List.setIfInBounds_toArray, List.set_cons_zero, List.set_cons_succ, i64_w, i32_w]
           rfl
          refine pure_ (i := 3) (N := some 43) (v := ?_) (a' := ?_) #[true, true, true, true, false, false, false, false, false, false, false] rfl rfl (any_of HT_.out (by kernel_rfl)) (fun _ _ _ h => h) (Or.inl ⟨by rfl, ?_⟩) ?_ ?_
          rotate_left
          ·intro w'
           go_simp
           with_reducible rfl
          rotate_left
          ·simp only [Act.put, List.setIfInBounds_toArray, List.set_cons_zero, List.set_cons_succ, i64_w, i32_w]
           rfl
          refine pure_ (i := 5) (N := some 45) (v := ?_) (a' := ?_) #[true, true, true, true, false, true, false, false, false, false, false] rfl rfl (any_of HT_.out (by kernel_rfl)) (fun _ _ _ h => h) (Or.inl ⟨by rfl, ?_⟩) ?_ ?_
          rotate_left
          ·intro w'
           go_simp
           with_reducible rfl
          rotate_left
          ·simp only [Act.put, List.setIfInBounds_toArray, List.set_cons_zero, List.set_cons_succ, i64_w, i32_w]
           rfl
          refine pure_ (i := 6) (N := some 46) (v := ?_) (a' := ?_) #[true, true, true, true, false, true, true, false, false, false, false] rfl rfl (any_of HT_.out (by kernel_rfl)) (fun _ _ _ h => h) (Or.inl ⟨by rfl, ?_⟩) ?_ ?_
          rotate_left
          ·intro w'
           go_simp
           with_reducible rfl
          rotate_left
          ·simp only [Act.put, List.setIfInBounds_toArray, List.set_cons_zero, List.set_cons_succ, i64_w, i32_w]
           rfl
          refine pure_ (i := 7) (N := some 47) (v := ?_) (a' := ?_) #[true, true, true, true, false, true, true, true, false, false, false] rfl rfl (any_of HT_.out (by kernel_rfl)) (fun _ _ _ h => h) (Or.inl ⟨by rfl, ?_⟩) ?_ ?_
          rotate_left
          ·intro w'
           go_simp
           with_reducible rfl
          rotate_left
          ·simp only [Act.put, List.setIfInBounds_toArray, List.set_cons_zero, List.set_cons_succ, i64_w, i32_w]
           rfl
          refine take_ (i := 4) (N := some 44) (v := ?_) (a' := ?_) #[true, true, true, true, true, true, true, true, false, false, false] rfl rfl (take_ofW HT_.out HW_.out (by kernel_rfl)) (fun _ _ _ h => h) (Or.inl ⟨by rfl, ?_⟩) hHeld ?_ ?_
          rotate_left
          ·rintro w' ⟨s0, s1, s2, s3, s4, s5, s6, s7, s8, s9⟩
           go_simp
           with_reducible rfl
          rotate_left
          ·simp only [Act.put, List.setIfInBounds_toArray, List.set_cons_zero, List.set_cons_succ, i64_w, i32_w]
           rfl
          refine take_ (i := 8) (N := some 48) (v := ?_) (a' := ?_) #[true, true, true, true, true, true, true, true, true, false, false] rfl rfl (take_ofW HT_.out HW_.out (by kernel_rfl)) (fun _ _ _ h => h) (Or.inl ⟨by rfl, ?_⟩) hHeld ?_ ?_
          rotate_left
          ·rintro w' ⟨s0, s1, s2, s3, s4, s5, s6, s7, s8, s9⟩
           go_simp
           with_reducible rfl
          rotate_left
          ·simp only [Act.put, List.setIfInBounds_toArray, List.set_cons_zero, List.set_cons_succ, i64_w, i32_w]
           rfl
          refine one_ (i := 9) (N := some 49) #[true, true, true, true, true, true, true, true, true, true, false] rfl rfl (one_of HT_.out (by kernel_rfl)) (by decide) (fun K hK => ?_)
          refine goesT_ Try.func44 (by kernel_rfl) rfl #[.agg #[.string ((rd_T33 l0 (ji8)).f0), .int .i64 ((rd_T33 l0 (ji8)).f1), .int .i64 ((rd_T33 l0 (ji8)).f2), .int .i64 ((rd_T33 l0 (ji8)).f3), .string ((rd_T33 l0 (ji8)).f4)], .agg #[.string ((rd_T33 l0 a1).f0), .int .i64 ((rd_T33 l0 a1).f1), .int .i64 ((rd_T33 l0 a1).f2), .int .i64 ((rd_T33 l0 a1).f3), .string ((rd_T33 l0 a1).f4)]] (by rfl) rfl rfl rfl (by (try simp only [List.map_toArray, List.map_cons, List.map_nil]); rfl) ?_
          with_reducible refine (record_Compare.calls k1 ((rd_T33 l0 (ji8)).f0) ((rd_T33 l0 (ji8)).f1) ((rd_T33 l0 (ji8)).f2) ((rd_T33 l0 (ji8)).f3) ((rd_T33 l0 (ji8)).f4) ((rd_T33 l0 a1).f0) ((rd_T33 l0 a1).f1) ((rd_T33 l0 a1).f2) ((rd_T33 l0 a1).f3) ((rd_T33 l0 a1).f4) t121 _ A13.out).mono ?_
          rintro e w17 ⟨rfl, hb⟩
          have HS0_ := (hb.cell (World.block_lt_of_cell? _ _ (hHeld.1))).trans (hHeld.1)
          have HS1_ := (hb.cell (World.block_lt_of_cell? _ _ (hHeld.2.1))).trans (hHeld.2.1)
          have HS2_ := (hb.cell (World.block_lt_of_cell? _ _ (hHeld.2.2.1))).trans (hHeld.2.2.1)
          have HS3_ := (hb.cell (World.block_lt_of_cell? _ _ (hHeld.2.2.2.1))).trans (hHeld.2.2.2.1)
          have HS4_ := (hb.cell (World.block_lt_of_cell? _ _ (hHeld.2.2.2.2.1))).trans (hHeld.2.2.2.2.1)
          have HS5_ := (hb.cell (World.block_lt_of_cell? _ _ (hHeld.2.2.2.2.2.1))).trans (hHeld.2.2.2.2.2.1)
          have HS6_ := (hb.cell (World.block_lt_of_cell? _ _ (hHeld.2.2.2.2.2.2.1))).trans (hHeld.2.2.2.2.2.2.1)
          have HS7_ := (hb.cell (World.block_lt_of_cell? _ _ (hHeld.2.2.2.2.2.2.2.1))).trans (hHeld.2.2.2.2.2.2.2.1)
          have HS8_ := (hb.cell (World.block_lt_of_cell? _ _ (hHeld.2.2.2.2.2.2.2.2.1))).trans (hHeld.2.2.2.2.2.2.2.2.1)
          have HS9_ := (hb.cell (World.block_lt_of_cell? _ _ (hHeld.2.2.2.2.2.2.2.2.2))).trans (hHeld.2.2.2.2.2.2.2.2.2)
          refine ⟨_, rfl, ?_⟩
          have n0_ := Aside0.mk (Kd.R_below (by (with_reducible repeat ((apply Kd.R_alloc))); exact HO_0.out) hb)
          have n1_ := Aside0.mk (Kept.below (S := (fun k_ => P0_ k_)) (by repeat ((with_reducible (exact HK.out)))) hb)
          have n2_ := Aside0.mk (below_step (by repeat ((with_reducible (exact HB.out)))) hb)
          clear HO_0
          clear HK
          clear HB
          have HO_0 := n0_
          have HK := n1_
          have HB := n2_
          clear n0_ n1_ n2_
          (try clear hb)
          refine hK.out _ _ ⟨HS0_, HS1_, HS2_, HS3_, HS4_, HS5_, HS6_, HS7_, HS8_, HS9_⟩ (fun hHeld => ?_)
          clear hK K
          refine norm_ (a' := ?_) ?_ ?_
          rotate_left
          ·show Act.put _ (some 49) _ = _
           simp only [Act.put, List.setIfInBounds_toArray, List.set_cons_zero, List.set_cons_succ, i64_w, i32_w]
           rfl
          refine pure_ (i := 10) (N := some 50) (v := ?_) (a' := ?_) #[true, true, true, true, true, true, true, true, true, true, true] rfl rfl (any_of HT_.out (by kernel_rfl)) (fun _ _ _ h => h) (Or.inl ⟨by rfl, ?_⟩) ?_ ?_
          rotate_left
          ·intro w'
           go_simp
           with_reducible rfl
          rotate_left
          ·simp only [Act.put, List.setIfInBounds_toArray, List.set_cons_zero, List.set_cons_succ, i64_w, i32_w]
           rfl
          refine done_ (done_of HT_.out (by kernel_rfl)) ?_
          (try go_wp2)
          go_roundg k1
          case measure => have := HK1.out; omega
          case rel => exact ⟨(wrap64 ((ji8) + 1)), (x11_1), (by rfl), (by rfl), H', ⟨by have := HK1.out; omega⟩, ⟨by (with_reducible repeat ((apply Kd.R_alloc))); exact HO_0.out⟩, ⟨by repeat ((with_reducible (exact HK.out)))⟩, ⟨by repeat ((with_reducible (exact HB.out)))⟩⟩
         ·rw [if_neg c14] at H
          have c14b0 : decide (t121 < 0) = false := decide_eq_false c14
          clear c14
          have H' := Aside0.mk H
          clear H
          (try go_wp2)
          have n0_ := Aside0.mk (Kd.R_drew HO_0.out)
          have n1_ := Aside0.mk (Kept.drew HK.out)
          have n2_ := Aside0.mk (below_drew1 HB.out)
          clear HO_0
          clear HK
          clear HB
          have HO_0 := n0_
          have HK := n1_
          have HB := n2_
          clear n0_ n1_ n2_
          obtain ⟨Ao19, co19, eo19⟩ := Kd.R_slice HO_0.out
          ((subst eo19))
          have p119 : 0 ≤ ((ji8) : Int) := of_decide_eq_true (by (with_reducible assumption))
          have q119 : (ji8) < (l0.length : Int) := of_decide_eq_true (by (with_reducible assumption))
          obtain ⟨ad119, e119, hx119_0, hx119_1, hx119_2, hx119_3, hx119_4⟩ := at_T33 (Kd.R_reads' HO_0.out).2.2 (ji8) p119 q119
          cases e119
          replace p119 := eq_true p119
          replace q119 := eq_true q119
          have p120 : 0 ≤ (a1 : Int) := of_decide_eq_true (by (with_reducible assumption))
          have q120 : a1 < (l0.length : Int) := of_decide_eq_true (by (with_reducible assumption))
          obtain ⟨ad120, e120, hx120_0, hx120_1, hx120_2, hx120_3, hx120_4⟩ := at_T33 (Kd.R_reads' HO_0.out).2.2 a1 p120 q120
          obtain rfl : ad119 = ad120 := (by injection e120)
          replace p120 := eq_true p120
          replace q120 := eq_true q120
          refine start_ (n := 11) (S := fun w' => w'.cell? (ad119.add (((ji8)).toNat * 5)) = some (.string ((rd_T33 l0 (ji8)).f0)) ∧ w'.cell? ⟨(ad119.add (((ji8)).toNat * 5)).block, (ad119.add (((ji8)).toNat * 5)).off + 1, none⟩ = some (.int .i64 ((rd_T33 l0 (ji8)).f1)) ∧ w'.cell? ⟨(ad119.add (((ji8)).toNat * 5)).block, (ad119.add (((ji8)).toNat * 5)).off + 2, none⟩ = some (.int .i64 ((rd_T33 l0 (ji8)).f2)) ∧ w'.cell? ⟨(ad119.add (((ji8)).toNat * 5)).block, (ad119.add (((ji8)).toNat * 5)).off + 3, none⟩ = some (.int .i64 ((rd_T33 l0 (ji8)).f3)) ∧ w'.cell? ⟨(ad119.add (((ji8)).toNat * 5)).block, (ad119.add (((ji8)).toNat * 5)).off + 4, none⟩ = some (.string ((rd_T33 l0 (ji8)).f4)) ∧ w'.cell? (ad119.add ((a1).toNat * 5)) = some (.string ((rd_T33 l0 a1).f0)) ∧ w'.cell? ⟨(ad119.add ((a1).toNat * 5)).block, (ad119.add ((a1).toNat * 5)).off + 1, none⟩ = some (.int .i64 ((rd_T33 l0 a1).f1)) ∧ w'.cell? ⟨(ad119.add ((a1).toNat * 5)).block, (ad119.add ((a1).toNat * 5)).off + 2, none⟩ = some (.int .i64 ((rd_T33 l0 a1).f2)) ∧ w'.cell? ⟨(ad119.add ((a1).toNat * 5)).block, (ad119.add ((a1).toNat * 5)).off + 3, none⟩ = some (.int .i64 ((rd_T33 l0 a1).f3)) ∧ w'.cell? ⟨(ad119.add ((a1).toNat * 5)).block, (ad119.add ((a1).toNat * 5)).off + 4, none⟩ = some (.string ((rd_T33 l0 a1).f4))) (ds := []) #[false, false, false, false, false, false, false, false, false, false, false] (by kernel_rfl) rfl rfl ⟨hx119_0, hx119_1, hx119_2, hx119_3, hx119_4, hx120_0, hx120_1, hx120_2, hx120_3, hx120_4⟩ (fun hHeld => ?_); refine with_tabW api_RR_79.tab5 api_RR_79.bits5 (fun HT_ HW_ => ?_)
          generalize wr.drew = w18 at HO_0 HK HB hx119_0 hx119_1 hx119_2 hx119_3 hx119_4 hx120_0 hx120_1 hx120_2 hx120_3 hx120_4 hHeld ⊢
          refine pure_ (i := 0) (N := some 40) (v := ?_) (a' := ?_) #[true, false, false, false, false, false, false, false, false, false, false] rfl rfl (any_of HT_.out (by kernel_rfl)) (fun _ _ _ h => h) (Or.inl ⟨by rfl, ?_⟩) ?_ ?_
          rotate_left
          ·intro w'
           go_simp
           with_reducible rfl
          rotate_left
          ·simp only [Act.put, List.setIfInBounds_toArray, List.set_cons_zero, List.set_cons_succ, i64_w, i32_w]
           rfl
          refine pure_ (i := 1) (N := some 41) (v := ?_) (a' := ?_) #[true, true, false, false, false, false, false, false, false, false, false] rfl rfl (any_of HT_.out (by kernel_rfl)) (fun _ _ _ h => h) (Or.inl ⟨by rfl, ?_⟩) ?_ ?_
          rotate_left
          ·intro w'
           go_simp
           with_reducible rfl
          rotate_left
          ·simp only [Act.put, List.setIfInBounds_toArray, List.set_cons_zero, List.set_cons_succ, i64_w, i32_w]
           rfl
          refine pure_ (i := 2) (N := some 42) (v := ?_) (a' := ?_) #[true, true, true, false, false, false, false, false, false, false, false] rfl rfl (any_of HT_.out (by kernel_rfl)) (fun _ _ _ h => h) (Or.inl ⟨by rfl, ?_⟩) ?_ ?_
          rotate_left
          ·intro w'
           go_simp
           with_reducible rfl
          rotate_left
          ·simp only [Act.put, List.setIfInBounds_toArray, List.set_cons_zero, List.set_cons_succ, i64_w, i32_w]
           rfl
          refine pure_ (i := 3) (N := some 43) (v := ?_) (a' := ?_) #[true, true, true, true, false, false, false, false, false, false, false] rfl rfl (any_of HT_.out (by kernel_rfl)) (fun _ _ _ h => h) (Or.inl ⟨by rfl, ?_⟩) ?_ ?_
          rotate_left
          ·intro w'
           go_simp
           with_reducible rfl
          rotate_left
          ·simp only [Act.put, List.setIfInBounds_toArray, List.set_cons_zero, List.set_cons_succ, i64_w, i32_w]
           rfl
          refine pure_ (i := 5) (N := some 45) (v := ?_) (a' := ?_) #[true, true, true, true, false, true, false, false, false, false, false] rfl rfl (any_of HT_.out (by kernel_rfl)) (fun _ _ _ h => h) (Or.inl ⟨by rfl, ?_⟩) ?_ ?_
          rotate_left
          ·intro w'
           go_simp
           with_reducible rfl
          rotate_left
          ·simp only [Act.put, List.setIfInBounds_toArray, List.set_cons_zero, List.set_cons_succ, i64_w, i32_w]
           rfl
          refine pure_ (i := 6) (N := some 46) (v := ?_) (a' := ?_) #[true, true, true, true, false, true, true, false, false, false, false] rfl rfl (any_of HT_.out (by kernel_rfl)) (fun _ _ _ h => h) (Or.inl ⟨by rfl, ?_⟩) ?_ ?_
          rotate_left
          ·intro w'
           go_simp
           with_reducible rfl
          rotate_left
          ·simp only [Act.put, List.setIfInBounds_toArray, List.set_cons_zero, List.set_cons_succ, i64_w, i32_w]
           rfl
          refine pure_ (i := 7) (N := some 47) (v := ?_) (a' := ?_) #[true, true, true, true, false, true, true, true, false, false, false] rfl rfl (any_of HT_.out (by kernel_rfl)) (fun _ _ _ h => h) (Or.inl ⟨by rfl, ?_⟩) ?_ ?_
          rotate_left
          ·intro w'
           go_simp
           with_reducible rfl
          rotate_left
          ·simp only [Act.put, List.setIfInBounds_toArray, List.set_cons_zero, List.set_cons_succ, i64_w, i32_w]
           rfl
          refine take_ (i := 4) (N := some 44) (v := ?_) (a' := ?_) #[true, true, true, true, true, true, true, true, false, false, false] rfl rfl (take_ofW HT_.out HW_.out (by kernel_rfl)) (fun _ _ _ h => h) (Or.inl ⟨by rfl, ?_⟩) hHeld ?_ ?_
          rotate_left
          ·rintro w' ⟨s0, s1, s2, s3, s4, s5, s6, s7, s8, s9⟩
           go_simp
           with_reducible rfl
          rotate_left
          ·simp only [Act.put, List.setIfInBounds_toArray, List.set_cons_zero, List.set_cons_succ, i64_w, i32_w]
           rfl
          refine take_ (i := 8) (N := some 48) (v := ?_) (a' := ?_) #[true, true, true, true, true, true, true, true, true, false, false] rfl rfl (take_ofW HT_.out HW_.out (by kernel_rfl)) (fun _ _ _ h => h) (Or.inl ⟨by rfl, ?_⟩) hHeld ?_ ?_
          rotate_left
          ·rintro w' ⟨s0, s1, s2, s3, s4, s5, s6, s7, s8, s9⟩
           go_simp
           with_reducible rfl
          rotate_left
          ·simp only [Act.put, List.setIfInBounds_toArray, List.set_cons_zero, List.set_cons_succ, i64_w, i32_w]
           rfl
          refine one_ (i := 9) (N := some 49) #[true, true, true, true, true, true, true, true, true, true, false] rfl rfl (one_of HT_.out (by kernel_rfl)) (by decide) (fun K hK => ?_)
          refine goesT_ Try.func44 (by kernel_rfl) rfl #[.agg #[.string ((rd_T33 l0 (ji8)).f0), .int .i64 ((rd_T33 l0 (ji8)).f1), .int .i64 ((rd_T33 l0 (ji8)).f2), .int .i64 ((rd_T33 l0 (ji8)).f3), .string ((rd_T33 l0 (ji8)).f4)], .agg #[.string ((rd_T33 l0 a1).f0), .int .i64 ((rd_T33 l0 a1).f1), .int .i64 ((rd_T33 l0 a1).f2), .int .i64 ((rd_T33 l0 a1).f3), .string ((rd_T33 l0 a1).f4)]] (by rfl) rfl rfl rfl (by (try simp only [List.map_toArray, List.map_cons, List.map_nil]); rfl) ?_
          with_reducible refine (record_Compare.calls k1 ((rd_T33 l0 (ji8)).f0) ((rd_T33 l0 (ji8)).f1) ((rd_T33 l0 (ji8)).f2) ((rd_T33 l0 (ji8)).f3) ((rd_T33 l0 (ji8)).f4) ((rd_T33 l0 a1).f0) ((rd_T33 l0 a1).f1) ((rd_T33 l0 a1).f2) ((rd_T33 l0 a1).f3) ((rd_T33 l0 a1).f4) t121 _ A13.out).mono ?_
          rintro e w20 ⟨rfl, hb⟩
          have HS0_ := (hb.cell (World.block_lt_of_cell? _ _ (hHeld.1))).trans (hHeld.1)
          have HS1_ := (hb.cell (World.block_lt_of_cell? _ _ (hHeld.2.1))).trans (hHeld.2.1)
          have HS2_ := (hb.cell (World.block_lt_of_cell? _ _ (hHeld.2.2.1))).trans (hHeld.2.2.1)
          have HS3_ := (hb.cell (World.block_lt_of_cell? _ _ (hHeld.2.2.2.1))).trans (hHeld.2.2.2.1)
          have HS4_ := (hb.cell (World.block_lt_of_cell? _ _ (hHeld.2.2.2.2.1))).trans (hHeld.2.2.2.2.1)
          have HS5_ := (hb.cell (World.block_lt_of_cell? _ _ (hHeld.2.2.2.2.2.1))).trans (hHeld.2.2.2.2.2.1)
          have HS6_ := (hb.cell (World.block_lt_of_cell? _ _ (hHeld.2.2.2.2.2.2.1))).trans (hHeld.2.2.2.2.2.2.1)
          have HS7_ := (hb.cell (World.block_lt_of_cell? _ _ (hHeld.2.2.2.2.2.2.2.1))).trans (hHeld.2.2.2.2.2.2.2.1)
          have HS8_ := (hb.cell (World.block_lt_of_cell? _ _ (hHeld.2.2.2.2.2.2.2.2.1))).trans (hHeld.2.2.2.2.2.2.2.2.1)
          have HS9_ := (hb.cell (World.block_lt_of_cell? _ _ (hHeld.2.2.2.2.2.2.2.2.2))).trans (hHeld.2.2.2.2.2.2.2.2.2)
          refine ⟨_, rfl, ?_⟩
          have n0_ := Aside0.mk (Kd.R_below (by (with_reducible repeat ((apply Kd.R_alloc))); exact HO_0.out) hb)
          have n1_ := Aside0.mk (Kept.below (S := (fun k_ => P0_ k_)) (by repeat ((with_reducible (exact HK.out)))) hb)
          have n2_ := Aside0.mk (below_step (by repeat ((with_reducible (exact HB.out)))) hb)
          clear HO_0
          clear HK
          clear HB
          have HO_0 := n0_
          have HK := n1_
          have HB := n2_
          clear n0_ n1_ n2_
          (try clear hb)
          refine hK.out _ _ ⟨HS0_, HS1_, HS2_, HS3_, HS4_, HS5_, HS6_, HS7_, HS8_, HS9_⟩ (fun hHeld => ?_)
          clear hK K
          refine norm_ (a' := ?_) ?_ ?_
          rotate_left
          ·show Act.put _ (some 49) _ = _
           simp only [Act.put, List.setIfInBounds_toArray, List.set_cons_zero, List.set_cons_succ, i64_w, i32_w]
           rfl
          refine pure_ (i := 10) (N := some 50) (v := ?_) (a' := ?_) #[true, true, true, true, true, true, true, true, true, true, true] rfl rfl (any_of HT_.out (by kernel_rfl)) (fun _ _ _ h => h) (Or.inl ⟨by rfl, ?_⟩) ?_ ?_
          rotate_left
          ·intro w'
           go_simp
           with_reducible rfl
          rotate_left
          ·simp only [Act.put, List.setIfInBounds_toArray, List.set_cons_zero, List.set_cons_succ, i64_w, i32_w]
           rfl
          refine done_ (done_of HT_.out (by kernel_rfl)) ?_
          (try go_wp2)
          go_roundg k1
          case measure => have := HK1.out; omega
          case rel => exact ⟨(x10_1), (ji8), (by rfl), (by rfl), H', ⟨by have := HK1.out; omega⟩, ⟨by (with_reducible repeat ((apply Kd.R_alloc))); exact HO_0.out⟩, ⟨by repeat ((with_reducible (exact HK.out)))⟩, ⟨by repeat ((with_reducible (exact HB.out)))⟩⟩
        ·rw [if_neg c12] at H
         exact absurd H (by simp)
       ·rw [if_neg c11] at H
        exact absurd H (by simp)
      ·rw [if_neg c10] at H
       exact absurd H (by simp)
     ·rw [if_neg c9] at H
      exact absurd H (by simp)
    ·rw [if_neg c7] at H
     have c7b0 : decide (x10_1 < x11_1) = false := decide_eq_false c7
     clear c7
     have H' := Aside0.mk H
     clear H
     go_wp2
     go_loopg [13] k1 (fun kq v13 w' => ∃ (x0_2 : List (S33)) (x13_2 : Int), v13 = .int .i64 x13_2 ∧ Aside0 (api_RR_79.l1 kq x0_2 x10_1 x13_2 = some r) ∧ Aside0 (kq ≤ k1) ∧ Aside0 (Kd.R k33 33 w' w0.heap.size (fun k_ => (P0_ k_ ∨ w.heap.size ≤ k_)) u9000_ x0_2) ∧ Aside0 (Kept w w' (fun k_ => P0_ k_)) ∧ Aside0 (Below w0.heap.size w0 w'))
     case atStart => exact ⟨(l0), (a1), (by rfl), H', ⟨Nat.le_refl _⟩, ⟨by (with_reducible repeat ((apply Kd.R_alloc))); exact HO_0.out⟩, ⟨by repeat ((with_reducible (exact HK.out)))⟩, ⟨by repeat ((with_reducible (exact HB.out)))⟩⟩
     case round =>
      clear H'
      (try clear c7b0)
      obtain ⟨x0_2, x13_2, rfl, HA, HK2, HO_0, HK, HB⟩ := hrel
      cases gk with
      | zero => exact absurd HA.out (by simp [api_RR_79.l1])
      | succ k2 =>
       have H := HA.out
       clear HA
       simp only [api_RR_79.l1] at H
       by_cases c21 : x13_2 < (wrap64 (x10_1 - 1))
       ·rw [if_pos c21] at H
        have c21b0 : decide (x13_2 < (wrap64 (x10_1 - 1))) = true := decide_eq_true c21
        clear c21
        obtain ⟨ji22, hji22⟩ : ∃ j_ : Int, (wrap64 (x13_2 + 1)) = j_ := ⟨_, rfl⟩
        replace H : (if 0 ≤ (ji22) then (if (ji22) < (x0_2.length : Int) then (if 0 ≤ x13_2 then (if x13_2 < (x0_2.length : Int) then (api_RR_79.l1 k2 ((x0_2.set (x13_2 : Int).toNat (⟨(rd_T33 x0_2 (ji22)).f0, (rd_T33 x0_2 (ji22)).f1, (rd_T33 x0_2 (ji22)).f2, (rd_T33 x0_2 (ji22)).f3, (rd_T33 x0_2 (ji22)).f4⟩ : S33)).set ((ji22) : Int).toNat (⟨(rd_T33 x0_2 x13_2).f0, (rd_T33 x0_2 x13_2).f1, (rd_T33 x0_2 x13_2).f2, (rd_T33 x0_2 x13_2).f3, (rd_T33 x0_2 x13_2).f4⟩ : S33)) x10_1 ji22) else (none)) else (none)) else (none)) else (none)) = some r := by (rw [hji22] at H; exact H)
        have hji22w : (IntKind.i64.wrap (x13_2 + 1)) = ji22 := (i64_w _).trans hji22
        by_cases c23 : 0 ≤ (ji22)
        ·rw [if_pos c23] at H
         have c23b0 : decide (0 ≤ (ji22)) = true := decide_eq_true c23
         clear c23
         by_cases c24 : (ji22) < (x0_2.length : Int)
         ·rw [if_pos c24] at H
          have c24b0 : decide ((ji22) < (x0_2.length : Int)) = true := decide_eq_true c24
          clear c24
          by_cases c25 : 0 ≤ x13_2
          ·rw [if_pos c25] at H
           have c25b0 : decide (0 ≤ x13_2) = true := decide_eq_true c25
           clear c25
           by_cases c26 : x13_2 < (x0_2.length : Int)
           ·rw [if_pos c26] at H
            have c26b0 : decide (x13_2 < (x0_2.length : Int)) = true := decide_eq_true c26
            clear c26
            obtain ⟨y124, hy124⟩ : ∃ y_ : List (S33), y_ = (x0_2.set (x13_2 : Int).toNat (⟨(rd_T33 x0_2 (ji22)).f0, (rd_T33 x0_2 (ji22)).f1, (rd_T33 x0_2 (ji22)).f2, (rd_T33 x0_2 (ji22)).f3, (rd_T33 x0_2 (ji22)).f4⟩ : S33)) := ⟨_, rfl⟩
            replace H : (api_RR_79.l1 k2 (y124.set ((ji22) : Int).toNat (⟨(rd_T33 x0_2 x13_2).f0, (rd_T33 x0_2 x13_2).f1, (rd_T33 x0_2 x13_2).f2, (rd_T33 x0_2 x13_2).f3, (rd_T33 x0_2 x13_2).f4⟩ : S33)) x10_1 ji22) = some r := by (rw [hy124]; with_reducible exact H)
            have Ny124 := Aside0.mk hy124
            clear hy124
            obtain ⟨y125, hy125⟩ : ∃ y_ : List (S33), y_ = (y124.set ((ji22) : Int).toNat (⟨(rd_T33 x0_2 x13_2).f0, (rd_T33 x0_2 x13_2).f1, (rd_T33 x0_2 x13_2).f2, (rd_T33 x0_2 x13_2).f3, (rd_T33 x0_2 x13_2).f4⟩ : S33)) := ⟨_, rfl⟩
            replace H : (api_RR_79.l1 k2 y125 x10_1 ji22) = some r := by (rw [hy125]; with_reducible exact H)
            have Ny125 := Aside0.mk hy125
            clear hy125
            have H' := Aside0.mk H
            clear H
            (try go_wp2)
            have n0_ := Aside0.mk (Kd.R_drew HO_0.out)
            have n1_ := Aside0.mk (Kept.drew HK.out)
            have n2_ := Aside0.mk (below_drew1 HB.out)
            clear HO_0
            clear HK
            clear HB
            have HO_0 := n0_
            have HK := n1_
            have HB := n2_
            clear n0_ n1_ n2_
            obtain ⟨Ao30, co30, eo30⟩ := Kd.R_slice HO_0.out
            ((subst eo30))
            have p122 : 0 ≤ ((ji22) : Int) := of_decide_eq_true (by (with_reducible assumption))
            have q122 : (ji22) < (x0_2.length : Int) := of_decide_eq_true (by (with_reducible assumption))
            obtain ⟨ad122, e122, hx122_0, hx122_1, hx122_2, hx122_3, hx122_4⟩ := at_T33 (Kd.R_reads' HO_0.out).2.2 (ji22) p122 q122
            cases e122
            replace p122 := eq_true p122
            replace q122 := eq_true q122
            have p123 : 0 ≤ (x13_2 : Int) := of_decide_eq_true (by (with_reducible assumption))
            have q123 : x13_2 < (x0_2.length : Int) := of_decide_eq_true (by (with_reducible assumption))
            obtain ⟨ad123, e123, hx123_0, hx123_1, hx123_2, hx123_3, hx123_4⟩ := at_T33 (Kd.R_reads' HO_0.out).2.2 x13_2 p123 q123
            obtain rfl : ad122 = ad123 := (by injection e123)
            replace p123 := eq_true p123
            replace q123 := eq_true q123
            have p27 : 0 ≤ (x13_2 : Int) := of_decide_eq_true (by (with_reducible assumption))
            have q27 : (x13_2 : Int) < ((x0_2.length : Int) : Int) := of_decide_eq_true (by (with_reducible assumption))
            obtain ⟨go27, co27, eo27, gb27, gl27, cl27, HG27⟩ := Kd.R_form HO_0.out (by omega)
            ((cases eo27))
            have GB27 := Aside0.mk gb27
            have GG27 := Aside0.mk HG27
            clear gb27 gl27 HG27
            have HMgo27 := Aside0.mk (show (P0_ go27 ∨ w.heap.size ≤ go27) from (HO_0.out.1 _ rfl))
            ((simp only [add_plain] at hx122_0))
            ((simp only [add_plain] at hx122_1))
            ((simp only [add_plain] at hx122_2))
            ((simp only [add_plain] at hx122_3))
            ((simp only [add_plain] at hx122_4))
            ((simp only [add_plain] at hx123_0))
            ((simp only [add_plain] at hx123_1))
            ((simp only [add_plain] at hx123_2))
            ((simp only [add_plain] at hx123_3))
            ((simp only [add_plain] at hx123_4))
            obtain ⟨ce27, hcl27, hM27, hcc27, hfr27⟩ := Kd.R_elem HO_0.out z33 (x13_2 : Int) p27 q27
            obtain rfl := k33_openM hM27
            have hx27_0 : World.cell? _ ⟨go27, (x13_2 : Int).toNat * 5, none⟩ = some (.string ((rd_T33 x0_2 x13_2).f0)) := hcc27 0 _ rfl
            have hx27_1 : World.cell? _ ⟨go27, (x13_2 : Int).toNat * 5 + 1, none⟩ = some (.int .i64 ((rd_T33 x0_2 x13_2).f1)) := hcc27 1 _ rfl
            have hx27_2 : World.cell? _ ⟨go27, (x13_2 : Int).toNat * 5 + 2, none⟩ = some (.int .i64 ((rd_T33 x0_2 x13_2).f2)) := hcc27 2 _ rfl
            have hx27_3 : World.cell? _ ⟨go27, (x13_2 : Int).toNat * 5 + 3, none⟩ = some (.int .i64 ((rd_T33 x0_2 x13_2).f3)) := hcc27 3 _ rfl
            have hx27_4 : World.cell? _ ⟨go27, (x13_2 : Int).toNat * 5 + 4, none⟩ = some (.string ((rd_T33 x0_2 x13_2).f4)) := hcc27 4 _ rfl
            have hf27_0 : World.frozen? _ ⟨go27, (x13_2 : Int).toNat * 5, none⟩ = false := hfr27 0
            have hf27_1 : World.frozen? _ ⟨go27, (x13_2 : Int).toNat * 5 + 1, none⟩ = false := hfr27 1
            have hf27_2 : World.frozen? _ ⟨go27, (x13_2 : Int).toNat * 5 + 2, none⟩ = false := hfr27 2
            have hf27_3 : World.frozen? _ ⟨go27, (x13_2 : Int).toNat * 5 + 3, none⟩ = false := hfr27 3
            have hf27_4 : World.frozen? _ ⟨go27, (x13_2 : Int).toNat * 5 + 4, none⟩ = false := hfr27 4
            clear hcl27 hcc27 hfr27 hM27
            replace p27 := eq_true p27
            replace q27 := eq_true q27
            obtain ⟨ce31, hcl31, hM31, hcc31, hfr31⟩ := Kd.R_elem HO_0.out z33 (x13_2 : Int) (of_decide_eq_true (by (with_reducible assumption))) (by have h_ : (x13_2 : Int) < ((x0_2.length : Int) : Int) := of_decide_eq_true (by (with_reducible assumption)); (exact h_))
            obtain rfl := k33_openM hM31
            have HP31 := (Kd.R_seg HO_0.out (x13_2 : Int) (of_decide_eq_true (by (with_reducible assumption))) (by have h_ : (x13_2 : Int) < ((x0_2.length : Int) : Int) := of_decide_eq_true (by (with_reducible assumption)); (exact h_)) (seg := [.string ((rd_T33 x0_2 (ji22)).f0), .int .i64 ((rd_T33 x0_2 (ji22)).f1), .int .i64 ((rd_T33 x0_2 (ji22)).f2), .int .i64 ((rd_T33 x0_2 (ji22)).f3), .string ((rd_T33 x0_2 (ji22)).f4)]) (j := 0) hcl31 hcc31 (show 5 ≤ 5 from by decide) (x' := (⟨(rd_T33 x0_2 (ji22)).f0, (rd_T33 x0_2 (ji22)).f1, (rd_T33 x0_2 (ji22)).f2, (rd_T33 x0_2 (ji22)).f3, (rd_T33 x0_2 (ji22)).f4⟩ : S33)) (k33_mkM _ _ _ (⟨(rd_T33 x0_2 (ji22)).f0, (rd_T33 x0_2 (ji22)).f1, (rd_T33 x0_2 (ji22)).f2, (rd_T33 x0_2 (ji22)).f3, (rd_T33 x0_2 (ji22)).f4⟩ : S33) ) (fun _ hk => hk)).1
            rw [← Ny124.out] at HP31
            have HQ31 := Aside0.mk HP31
            clear hcl31 hcc31 hfr31 hM31 HP31
            have p28 : 0 ≤ ((ji22) : Int) := of_decide_eq_true (by (with_reducible assumption))
            have q28 : ((ji22) : Int) < ((x0_2.length : Int) : Int) := of_decide_eq_true (by (with_reducible assumption))
            obtain ⟨ce28, hcl28, hM28, hcc28, hfr28⟩ := Kd.R_elem HQ31.out z33 ((ji22) : Int) p28 q28
            obtain rfl := k33_openM hM28
            have hx28_0 : World.cell? _ ⟨go27, ((ji22) : Int).toNat * 5, none⟩ = some (.string ((rd_T33 y124 (ji22)).f0)) := hcc28 0 _ rfl
            have hx28_1 : World.cell? _ ⟨go27, ((ji22) : Int).toNat * 5 + 1, none⟩ = some (.int .i64 ((rd_T33 y124 (ji22)).f1)) := hcc28 1 _ rfl
            have hx28_2 : World.cell? _ ⟨go27, ((ji22) : Int).toNat * 5 + 2, none⟩ = some (.int .i64 ((rd_T33 y124 (ji22)).f2)) := hcc28 2 _ rfl
            have hx28_3 : World.cell? _ ⟨go27, ((ji22) : Int).toNat * 5 + 3, none⟩ = some (.int .i64 ((rd_T33 y124 (ji22)).f3)) := hcc28 3 _ rfl
            have hx28_4 : World.cell? _ ⟨go27, ((ji22) : Int).toNat * 5 + 4, none⟩ = some (.string ((rd_T33 y124 (ji22)).f4)) := hcc28 4 _ rfl
            have hf28_0 : World.frozen? _ ⟨go27, ((ji22) : Int).toNat * 5, none⟩ = false := hfr28 0
            have hf28_1 : World.frozen? _ ⟨go27, ((ji22) : Int).toNat * 5 + 1, none⟩ = false := hfr28 1
            have hf28_2 : World.frozen? _ ⟨go27, ((ji22) : Int).toNat * 5 + 2, none⟩ = false := hfr28 2
            have hf28_3 : World.frozen? _ ⟨go27, ((ji22) : Int).toNat * 5 + 3, none⟩ = false := hfr28 3
            have hf28_4 : World.frozen? _ ⟨go27, ((ji22) : Int).toNat * 5 + 4, none⟩ = false := hfr28 4
            clear hcl28 hcc28 hfr28 hM28
            replace p28 := eq_true p28
            replace q28 := eq_true q28
            obtain ⟨ce32, hcl32, hM32, hcc32, hfr32⟩ := Kd.R_elem HQ31.out z33 ((ji22) : Int) (of_decide_eq_true (by (with_reducible assumption))) (by have h_ : ((ji22) : Int) < ((x0_2.length : Int) : Int) := of_decide_eq_true (by (with_reducible assumption)); (exact h_))
            obtain rfl := k33_openM hM32
            have HP32 := (Kd.R_seg HQ31.out ((ji22) : Int) (of_decide_eq_true (by (with_reducible assumption))) (by have h_ : ((ji22) : Int) < ((x0_2.length : Int) : Int) := of_decide_eq_true (by (with_reducible assumption)); (exact h_)) (seg := [.string ((rd_T33 x0_2 x13_2).f0), .int .i64 ((rd_T33 x0_2 x13_2).f1), .int .i64 ((rd_T33 x0_2 x13_2).f2), .int .i64 ((rd_T33 x0_2 x13_2).f3), .string ((rd_T33 x0_2 x13_2).f4)]) (j := 0) hcl32 hcc32 (show 5 ≤ 5 from by decide) (x' := (⟨(rd_T33 x0_2 x13_2).f0, (rd_T33 x0_2 x13_2).f1, (rd_T33 x0_2 x13_2).f2, (rd_T33 x0_2 x13_2).f3, (rd_T33 x0_2 x13_2).f4⟩ : S33)) (k33_mkM _ _ _ (⟨(rd_T33 x0_2 x13_2).f0, (rd_T33 x0_2 x13_2).f1, (rd_T33 x0_2 x13_2).f2, (rd_T33 x0_2 x13_2).f3, (rd_T33 x0_2 x13_2).f4⟩ : S33) ) (fun _ hk => hk)).1
            rw [← Ny125.out] at HP32
            have HQ32 := Aside0.mk HP32
            clear hcl32 hcc32 hfr32 hM32 HP32
            refine start_ (n := 18) (S := fun w' => w'.cell? ⟨go27, (((ji22)).toNat * 5), none⟩ = some (.string ((rd_T33 x0_2 (ji22)).f0)) ∧ w'.cell? ⟨go27, (((ji22)).toNat * 5) + 1, none⟩ = some (.int .i64 ((rd_T33 x0_2 (ji22)).f1)) ∧ w'.cell? ⟨go27, (((ji22)).toNat * 5) + 2, none⟩ = some (.int .i64 ((rd_T33 x0_2 (ji22)).f2)) ∧ w'.cell? ⟨go27, (((ji22)).toNat * 5) + 3, none⟩ = some (.int .i64 ((rd_T33 x0_2 (ji22)).f3)) ∧ w'.cell? ⟨go27, (((ji22)).toNat * 5) + 4, none⟩ = some (.string ((rd_T33 x0_2 (ji22)).f4)) ∧ w'.cell? ⟨go27, ((x13_2).toNat * 5), none⟩ = some (.string ((rd_T33 x0_2 x13_2).f0)) ∧ w'.cell? ⟨go27, ((x13_2).toNat * 5) + 1, none⟩ = some (.int .i64 ((rd_T33 x0_2 x13_2).f1)) ∧ w'.cell? ⟨go27, ((x13_2).toNat * 5) + 2, none⟩ = some (.int .i64 ((rd_T33 x0_2 x13_2).f2)) ∧ w'.cell? ⟨go27, ((x13_2).toNat * 5) + 3, none⟩ = some (.int .i64 ((rd_T33 x0_2 x13_2).f3)) ∧ w'.cell? ⟨go27, ((x13_2).toNat * 5) + 4, none⟩ = some (.string ((rd_T33 x0_2 x13_2).f4))) (ds := [15, 17]) #[false, false, false, false, false, false, false, false, false, false, false, false, false, false, false, false, false, false] (by kernel_rfl) rfl rfl ⟨hx122_0, hx122_1, hx122_2, hx122_3, hx122_4, hx123_0, hx123_1, hx123_2, hx123_3, hx123_4⟩ (fun hHeld => ?_); refine with_tabW api_RR_79.tab11 api_RR_79.bits11 (fun HT_ HW_ => ?_)
            generalize wr.drew = w29 at HO_0 HK HB GG27 HQ31 HQ32 hf27_0 hf27_1 hf27_2 hf27_3 hf27_4 hf28_0 hf28_1 hf28_2 hf28_3 hf28_4 hx122_0 hx122_1 hx122_2 hx122_3 hx122_4 hx123_0 hx123_1 hx123_2 hx123_3 hx123_4 hx27_0 hx27_1 hx27_2 hx27_3 hx27_4 hx28_0 hx28_1 hx28_2 hx28_3 hx28_4 hHeld ⊢
            (try simp [go_sem, World.setCells, (show k33.sz = 5 from rfl)] at hf28_0 hf28_1 hf28_2 hf28_3 hf28_4 hx28_0 hx28_1 hx28_2 hx28_3 hx28_4)
            refine pure_ (i := 0) (N := some 61) (v := ?_) (a' := ?_) #[true, false, false, false, false, false, false, false, false, false, false, false, false, false, false, false, false, false] rfl rfl (any_of HT_.out (by kernel_rfl)) (fun _ _ _ h => h) (Or.inl ⟨by rfl, ?_⟩) ?_ ?_
            rotate_left
            ·intro w'
             go_simp
             with_reducible rfl
            rotate_left
            ·simp only [Act.put, List.setIfInBounds_toArray, List.set_cons_zero, List.set_cons_succ, i64_w, i32_w]
             rfl
            refine pure_ (i := 1) (N := some 62) (v := ?_) (a' := ?_) #[true, true, false, false, false, false, false, false, false, false, false, false, false, false, false, false, false, false] rfl rfl (any_of HT_.out (by kernel_rfl)) (fun _ _ _ h => h) (Or.inl ⟨by rfl, ?_⟩) ?_ ?_
            rotate_left
            ·intro w'
             go_simp
             with_reducible rfl
            rotate_left
            ·simp only [Act.put, List.setIfInBounds_toArray, List.set_cons_zero, List.set_cons_succ, i64_w, i32_w]
             rfl
            refine pure_ (i := 2) (N := some 63) (v := ?_) (a' := ?_) #[true, true, true, false, false, false, false, false, false, false, false, false, false, false, false, false, false, false] rfl rfl (any_of HT_.out (by kernel_rfl)) (fun _ _ _ h => h) (Or.inl ⟨by rfl, ?_⟩) ?_ ?_
            rotate_left
            ·intro w'
             go_simp
             with_reducible rfl
            rotate_left
            ·simp only [Act.put, List.setIfInBounds_toArray, List.set_cons_zero, List.set_cons_succ, i64_w, i32_w]
             rfl
            refine pure_ (i := 3) (N := some 64) (v := ?_) (a' := ?_) #[true, true, true, true, false, false, false, false, false, false, false, false, false, false, false, false, false, false] rfl rfl (any_of HT_.out (by kernel_rfl)) (fun _ _ _ h => h) (Or.inl ⟨by rfl, ?_⟩) ?_ ?_
            rotate_left
            ·intro w'
             go_simp
             with_reducible rfl
            rotate_left
            ·simp only [Act.put, List.setIfInBounds_toArray, List.set_cons_zero, List.set_cons_succ, i64_w, i32_w]
             rfl
            refine pure_ (i := 4) (N := some 65) (v := ?_) (a' := ?_) #[true, true, true, true, true, false, false, false, false, false, false, false, false, false, false, false, false, false] rfl rfl (any_of HT_.out (by kernel_rfl)) (fun _ _ _ h => h) (Or.inl ⟨by rfl, ?_⟩) ?_ ?_
            rotate_left
            ·intro w'
             go_simp
             with_reducible rfl
            rotate_left
            ·simp only [Act.put, List.setIfInBounds_toArray, List.set_cons_zero, List.set_cons_succ, i64_w, i32_w]
             rfl
            refine pure_ (i := 5) (N := some 66) (v := ?_) (a' := ?_) #[true, true, true, true, true, true, false, false, false, false, false, false, false, false, false, false, false, false] rfl rfl (any_of HT_.out (by kernel_rfl)) (fun _ _ _ h => h) (Or.inl ⟨by rfl, ?_⟩) ?_ ?_
            rotate_left
            ·intro w'
             go_simp
             with_reducible rfl
            rotate_left
            ·simp only [Act.put, List.setIfInBounds_toArray, List.set_cons_zero, List.set_cons_succ, i64_w, i32_w]
             rfl
            refine pure_ (i := 6) (N := some 67) (v := ?_) (a' := ?_) #[true, true, true, true, true, true, true, false, false, false, false, false, false, false, false, false, false, false] rfl rfl (any_of HT_.out (by kernel_rfl)) (fun _ _ _ h => h) (Or.inl ⟨by rfl, ?_⟩) ?_ ?_
            rotate_left
            ·intro w'
             go_simp
             with_reducible rfl
            rotate_left
            ·simp only [Act.put, List.setIfInBounds_toArray, List.set_cons_zero, List.set_cons_succ, i64_w, i32_w]
             rfl
            refine pure_ (i := 7) (N := some 68) (v := ?_) (a' := ?_) #[true, true, true, true, true, true, true, true, false, false, false, false, false, false, false, false, false, false] rfl rfl (any_of HT_.out (by kernel_rfl)) (fun _ _ _ h => h) (Or.inl ⟨by rfl, ?_⟩) ?_ ?_
            rotate_left
            ·intro w'
             go_simp
             with_reducible rfl
            rotate_left
            ·simp only [Act.put, List.setIfInBounds_toArray, List.set_cons_zero, List.set_cons_succ, i64_w, i32_w]
             rfl
            refine pure_ (i := 8) (N := some 69) (v := ?_) (a' := ?_) #[true, true, true, true, true, true, true, true, true, false, false, false, false, false, false, false, false, false] rfl rfl (any_of HT_.out (by kernel_rfl)) (fun _ _ _ h => h) (Or.inl ⟨by rfl, ?_⟩) ?_ ?_
            rotate_left
            ·intro w'
             go_simp
             with_reducible rfl
            rotate_left
            ·simp only [Act.put, List.setIfInBounds_toArray, List.set_cons_zero, List.set_cons_succ, i64_w, i32_w]
             rfl
            refine pure_ (i := 10) (N := some 71) (v := ?_) (a' := ?_) #[true, true, true, true, true, true, true, true, true, false, true, false, false, false, false, false, false, false] rfl rfl (any_of HT_.out (by kernel_rfl)) (fun _ _ _ h => h) (Or.inl ⟨by rfl, ?_⟩) ?_ ?_
            rotate_left
            ·intro w'
             go_simp
             with_reducible rfl
            rotate_left
            ·simp only [Act.put, List.setIfInBounds_toArray, List.set_cons_zero, List.set_cons_succ, i64_w, i32_w]
             rfl
            refine pure_ (i := 11) (N := some 72) (v := ?_) (a' := ?_) #[true, true, true, true, true, true, true, true, true, false, true, true, false, false, false, false, false, false] rfl rfl (any_of HT_.out (by kernel_rfl)) (fun _ _ _ h => h) (Or.inl ⟨by rfl, ?_⟩) ?_ ?_
            rotate_left
            ·intro w'
             go_simp
             with_reducible rfl
            rotate_left
            ·simp only [Act.put, List.setIfInBounds_toArray, List.set_cons_zero, List.set_cons_succ, i64_w, i32_w]
             rfl
            refine pure_ (i := 12) (N := some 73) (v := ?_) (a' := ?_) #[true, true, true, true, true, true, true, true, true, false, true, true, true, false, false, false, false, false] rfl rfl (any_of HT_.out (by kernel_rfl)) (fun _ _ _ h => h) (Or.inl ⟨by rfl, ?_⟩) ?_ ?_
            rotate_left
            ·intro w'
             go_simp
             with_reducible rfl
            rotate_left
            ·simp only [Act.put, List.setIfInBounds_toArray, List.set_cons_zero, List.set_cons_succ, i64_w, i32_w]
             rfl
            refine take_ (i := 9) (N := some 70) (v := ?_) (a' := ?_) #[true, true, true, true, true, true, true, true, true, true, true, true, true, false, false, false, false, false] rfl rfl (take_ofW HT_.out HW_.out (by kernel_rfl)) (fun _ _ _ h => h) (Or.inl ⟨by rfl, ?_⟩) hHeld ?_ ?_
            rotate_left
            ·rintro w' ⟨s0, s1, s2, s3, s4, s5, s6, s7, s8, s9⟩
             go_simp
             with_reducible rfl
            rotate_left
            ·simp only [Act.put, List.setIfInBounds_toArray, List.set_cons_zero, List.set_cons_succ, i64_w, i32_w]
             rfl
            refine take_ (i := 13) (N := some 74) (v := ?_) (a' := ?_) #[true, true, true, true, true, true, true, true, true, true, true, true, true, true, false, false, false, false] rfl rfl (take_ofW HT_.out HW_.out (by kernel_rfl)) (fun _ _ _ h => h) (Or.inl ⟨by rfl, ?_⟩) hHeld ?_ ?_
            rotate_left
            ·rintro w' ⟨s0, s1, s2, s3, s4, s5, s6, s7, s8, s9⟩
             go_simp
             with_reducible rfl
            rotate_left
            ·simp only [Act.put, List.setIfInBounds_toArray, List.set_cons_zero, List.set_cons_succ, i64_w, i32_w]
             rfl
            refine pure_ (i := 14) (N := some 75) (v := ?_) (a' := ?_) #[true, true, true, true, true, true, true, true, true, true, true, true, true, true, true, false, false, false] rfl rfl (any_of HT_.out (by kernel_rfl)) (fun _ _ _ h => h) (Or.inl ⟨by rfl, ?_⟩) ?_ ?_
            rotate_left
            ·intro w'
             go_simp
             with_reducible rfl
            rotate_left
            ·simp only [Act.put, List.setIfInBounds_toArray, List.set_cons_zero, List.set_cons_succ, i64_w, i32_w]
             rfl
            refine last_ (i := 15) (N := none) #[true, true, true, true, true, true, true, true, true, true, true, true, true, true, true, true, false, false] rfl rfl (one_of HT_.out (by kernel_rfl)) (by decide) (fun K hK => ?_)
            refine skip_ (w1 := ?_) (by rfl) rfl ?_ ?_
            rotate_left
            ·go_simp
             rfl
            refine hK.out _ _ ?_
            clear hK K
            refine pure_ (i := 16) (N := some 76) (v := ?_) (a' := ?_) #[true, true, true, true, true, true, true, true, true, true, true, true, true, true, true, true, true, false] rfl rfl (any_of HT_.out (by kernel_rfl)) (fun _ _ _ h => h) (Or.inl ⟨by rfl, ?_⟩) ?_ ?_
            rotate_left
            ·intro w'
             go_simp
             with_reducible rfl
            rotate_left
            ·simp only [Act.put, List.setIfInBounds_toArray, List.set_cons_zero, List.set_cons_succ, i64_w, i32_w]
             rfl
            refine last_ (i := 17) (N := none) #[true, true, true, true, true, true, true, true, true, true, true, true, true, true, true, true, true, true] rfl rfl (one_of HT_.out (by kernel_rfl)) (by decide) (fun K hK => ?_)
            refine skip_ (w1 := ?_) (by rfl) rfl ?_ ?_
            rotate_left
            ·go_simp
             rfl
            refine hK.out _ _ ?_
            clear hK K
            refine done_ (done_of HT_.out (by kernel_rfl)) ?_
            (try go_wp2)
            go_roundg k2
            case measure => have := HK1.out; have := HK2.out; omega
            case rel => exact ⟨(y125), (ji22), (by rfl), H', ⟨by have := HK1.out; have := HK2.out; omega⟩, ⟨by (with_reducible repeat ((apply Kd.R_alloc))); exact HQ32.out⟩, ⟨by repeat ((with_reducible first | exact HK.out | refine Kept.setCell ?_ HMgo27.out _))⟩, ⟨by repeat ((with_reducible first | exact HB.out | refine below_set ?_ GB27.out))⟩⟩
           ·rw [if_neg c26] at H
            exact absurd H (by simp)
          ·rw [if_neg c25] at H
           exact absurd H (by simp)
         ·rw [if_neg c24] at H
          exact absurd H (by simp)
        ·rw [if_neg c23] at H
         exact absurd H (by simp)
       ·rw [if_neg c21] at H
        have c21b0 : decide (x13_2 < (wrap64 (x10_1 - 1))) = false := decide_eq_false c21
        clear c21
        obtain rfl := Option.some.inj H
        go_wp2
        (refine bodyPost_ret (results_none rfl _ _ _) rfl ?_)
        exact ⟨by rfl, by (with_reducible repeat ((apply Kd.R_alloc))); exact HO_0.out, by repeat ((with_reducible (exact HB.out))), by repeat ((with_reducible (exact HK.out)))⟩
 ·rw [if_neg c6] at H
  have c6b0 : ((wrap64 (a2 - a1)) == 1) = false := beq_eq_false_iff_ne.mpr c6
  have c6b1 : ((wrap64 (a2 - a1)) != 1) = true := bne_iff_ne.mpr c6
  by_cases c33 : (wrap64 (a3 - a2)) = 1
  ·rw [if_pos c33] at H
   have c33b0 : ((wrap64 (a3 - a2)) == 1) = true := beq_iff_eq.mpr c33
   have c33b1 : ((wrap64 (a3 - a2)) != 1) = false := bne_eq_false_iff_eq.mpr c33
   clear c33
   have H' := Aside0.mk H
   clear H
   go_enter Try.func79, Try.ntmps79
   go_wp2
   go_loopg [14, 15] k (fun kq v14 v15 w' => ∃ (x14_1 : Int) (x15_1 : Int), v14 = .int .i64 x14_1 ∧ v15 = .int .i64 x15_1 ∧ Aside0 (api_RR_79.l2 kq l0 a2 x14_1 x15_1 = some r) ∧ Aside0 (kq ≤ k) ∧ Aside0 (Kd.R k33 33 w' w0.heap.size (fun k_ => (P0_ k_ ∨ w.heap.size ≤ k_)) u9000_ l0) ∧ Aside0 (Kept w w' (fun k_ => P0_ k_)) ∧ Aside0 (Below w0.heap.size w0 w'))
   case atStart => exact ⟨(a1), (a2), (by rfl), (by rfl), H', ⟨Nat.le_refl _⟩, ⟨by (with_reducible repeat ((apply Kd.R_alloc))); exact HO0.out⟩, ⟨by repeat ((with_reducible (exact HK.out)))⟩, ⟨by repeat ((with_reducible (exact HB.out)))⟩⟩
   case round =>
    clear H'
    (try clear c6)
    (try clear c6b0)
    (try clear c6b1)
    (try clear c33b0)
    (try clear c33b1)
    obtain ⟨x14_1, x15_1, rfl, rfl, HA, HK1, HO_0, HK, HB⟩ := hrel
    cases gk with
    | zero => exact absurd HA.out (by simp [api_RR_79.l2])
    | succ k1 =>
     have H := HA.out
     clear HA
     simp only [api_RR_79.l2] at H
     by_cases c34 : x14_1 < x15_1
     ·rw [if_pos c34] at H
      have c34b0 : decide (x14_1 < x15_1) = true := decide_eq_true c34
      clear c34
      by_cases c35 : 0 ≤ a2
      ·rw [if_pos c35] at H
       have c35b0 : decide (0 ≤ a2) = true := decide_eq_true c35
       clear c35
       by_cases c36 : a2 < (l0.length : Int)
       ·rw [if_pos c36] at H
        have c36b0 : decide (a2 < (l0.length : Int)) = true := decide_eq_true c36
        clear c36
        obtain ⟨ji37, hji37⟩ : ∃ j_ : Int, (wrap64 ((IntKind.u64.wrap (wrap64 (x14_1 + x15_1))) / 2)) = j_ := ⟨_, rfl⟩
        replace H : (if 0 ≤ (ji37) then (if (ji37) < (l0.length : Int) then ((record_Compare.f k1 ((rd_T33 l0 a2).f0) ((rd_T33 l0 a2).f1) ((rd_T33 l0 a2).f2) ((rd_T33 l0 a2).f3) ((rd_T33 l0 a2).f4) ((rd_T33 l0 (ji37)).f0) ((rd_T33 l0 (ji37)).f1) ((rd_T33 l0 (ji37)).f2) ((rd_T33 l0 (ji37)).f3) ((rd_T33 l0 (ji37)).f4)).bind fun t128 => (if t128 < 0 then (api_RR_79.l2 k1 l0 a2 x14_1 ji37) else (api_RR_79.l2 k1 l0 a2 (wrap64 ((ji37) + 1)) x15_1))) else (none)) else (none)) = some r := by (rw [hji37] at H; exact H)
        have hji37w : (IntKind.i64.wrap ((IntKind.u64.wrap (wrap64 (x14_1 + x15_1))) / 2)) = ji37 := (i64_w _).trans hji37
        by_cases c38 : 0 ≤ (ji37)
        ·rw [if_pos c38] at H
         have c38b0 : decide (0 ≤ (ji37)) = true := decide_eq_true c38
         clear c38
         by_cases c39 : (ji37) < (l0.length : Int)
         ·rw [if_pos c39] at H
          have c39b0 : decide ((ji37) < (l0.length : Int)) = true := decide_eq_true c39
          clear c39
          replace H := Option.bind_eq_some_iff.mp H
          obtain ⟨t128, A400, H⟩ := H
          replace H : (if t128 < 0 then (api_RR_79.l2 k1 l0 a2 x14_1 ji37) else (api_RR_79.l2 k1 l0 a2 (wrap64 ((ji37) + 1)) x15_1)) = some r := H
          have A40 := Aside0.mk A400
          clear A400
          by_cases c41 : t128 < 0
          ·rw [if_pos c41] at H
           have c41b0 : decide (t128 < 0) = true := decide_eq_true c41
           clear c41
           have H' := Aside0.mk H
           clear H
           (try go_wp2)
           have n0_ := Aside0.mk (Kd.R_drew HO_0.out)
           have n1_ := Aside0.mk (Kept.drew HK.out)
           have n2_ := Aside0.mk (below_drew1 HB.out)
           clear HO_0
           clear HK
           clear HB
           have HO_0 := n0_
           have HK := n1_
           have HB := n2_
           clear n0_ n1_ n2_
           obtain ⟨Ao43, co43, eo43⟩ := Kd.R_slice HO_0.out
           ((subst eo43))
           have p126 : 0 ≤ (a2 : Int) := of_decide_eq_true (by (with_reducible assumption))
           have q126 : a2 < (l0.length : Int) := of_decide_eq_true (by (with_reducible assumption))
           obtain ⟨ad126, e126, hx126_0, hx126_1, hx126_2, hx126_3, hx126_4⟩ := at_T33 (Kd.R_reads' HO_0.out).2.2 a2 p126 q126
           cases e126
           replace p126 := eq_true p126
           replace q126 := eq_true q126
           have p127 : 0 ≤ ((ji37) : Int) := of_decide_eq_true (by (with_reducible assumption))
           have q127 : (ji37) < (l0.length : Int) := of_decide_eq_true (by (with_reducible assumption))
           obtain ⟨ad127, e127, hx127_0, hx127_1, hx127_2, hx127_3, hx127_4⟩ := at_T33 (Kd.R_reads' HO_0.out).2.2 (ji37) p127 q127
           obtain rfl : ad126 = ad127 := (by injection e127)
           replace p127 := eq_true p127
           replace q127 := eq_true q127
           refine start_ (n := 12) (S := fun w' => w'.cell? (ad126.add ((a2).toNat * 5)) = some (.string ((rd_T33 l0 a2).f0)) ∧ w'.cell? ⟨(ad126.add ((a2).toNat * 5)).block, (ad126.add ((a2).toNat * 5)).off + 1, none⟩ = some (.int .i64 ((rd_T33 l0 a2).f1)) ∧ w'.cell? ⟨(ad126.add ((a2).toNat * 5)).block, (ad126.add ((a2).toNat * 5)).off + 2, none⟩ = some (.int .i64 ((rd_T33 l0 a2).f2)) ∧ w'.cell? ⟨(ad126.add ((a2).toNat * 5)).block, (ad126.add ((a2).toNat * 5)).off + 3, none⟩ = some (.int .i64 ((rd_T33 l0 a2).f3)) ∧ w'.cell? ⟨(ad126.add ((a2).toNat * 5)).block, (ad126.add ((a2).toNat * 5)).off + 4, none⟩ = some (.string ((rd_T33 l0 a2).f4)) ∧ w'.cell? (ad126.add (((ji37)).toNat * 5)) = some (.string ((rd_T33 l0 (ji37)).f0)) ∧ w'.cell? ⟨(ad126.add (((ji37)).toNat * 5)).block, (ad126.add (((ji37)).toNat * 5)).off + 1, none⟩ = some (.int .i64 ((rd_T33 l0 (ji37)).f1)) ∧ w'.cell? ⟨(ad126.add (((ji37)).toNat * 5)).block, (ad126.add (((ji37)).toNat * 5)).off + 2, none⟩ = some (.int .i64 ((rd_T33 l0 (ji37)).f2)) ∧ w'.cell? ⟨(ad126.add (((ji37)).toNat * 5)).block, (ad126.add (((ji37)).toNat * 5)).off + 3, none⟩ = some (.int .i64 ((rd_T33 l0 (ji37)).f3)) ∧ w'.cell? ⟨(ad126.add (((ji37)).toNat * 5)).block, (ad126.add (((ji37)).toNat * 5)).off + 4, none⟩ = some (.string ((rd_T33 l0 (ji37)).f4))) (ds := []) #[false, false, false, false, false, false, false, false, false, false, false, false] (by kernel_rfl) rfl rfl ⟨hx126_0, hx126_1, hx126_2, hx126_3, hx126_4, hx127_0, hx127_1, hx127_2, hx127_3, hx127_4⟩ (fun hHeld => ?_); refine with_tabW api_RR_79.tab17 api_RR_79.bits17 (fun HT_ HW_ => ?_)
           generalize wr.drew = w42 at HO_0 HK HB hx126_0 hx126_1 hx126_2 hx126_3 hx126_4 hx127_0 hx127_1 hx127_2 hx127_3 hx127_4 hHeld ⊢
           refine pure_ (i := 0) (N := some 92) (v := ?_) (a' := ?_) #[true, false, false, false, false, false, false, false, false, false, false, false] rfl rfl (any_of HT_.out (by kernel_rfl)) (fun _ _ _ h => h) (Or.inl ⟨by rfl, ?_⟩) ?_ ?_
           rotate_left
           ·intro w'
            go_simp
            with_reducible rfl
           rotate_left
           ·simp only [Act.put, List.setIfInBounds_toArray, List.set_cons_zero, List.set_cons_succ, i64_w, i32_w]
            rfl
           refine pure_ (i := 1) (N := some 93) (v := ?_) (a' := ?_) #[true, true, false, false, false, false, false, false, false, false, false, false] rfl rfl (any_of HT_.out (by kernel_rfl)) (fun _ _ _ h => h) (Or.inl ⟨by rfl, ?_⟩) ?_ ?_
           rotate_left
           ·intro w'
            go_simp
            with_reducible rfl
           rotate_left
           ·simp only [Act.put, List.setIfInBounds_toArray, List.set_cons_zero, List.set_cons_succ, i64_w, i32_w]
            rfl
           refine pure_ (i := 2) (N := some 94) (v := ?_) (a' := ?_) #[true, true, true, false, false, false, false, false, false, false, false, false] rfl rfl (any_of HT_.out (by kernel_rfl)) (fun _ _ _ h => h) (Or.inl ⟨by rfl, ?_⟩) ?_ ?_
           rotate_left
           ·intro w'
            go_simp
            with_reducible rfl
           rotate_left
           ·simp only [Act.put, List.setIfInBounds_toArray, List.set_cons_zero, List.set_cons_succ, i64_w, i32_w]
            rfl
           refine pure_ (i := 3) (N := some 95) (v := ?_) (a' := ?_) #[true, true, true, true, false, false, false, false, false, false, false, false] rfl rfl (any_of HT_.out (by kernel_rfl)) (fun _ _ _ h => h) (Or.inl ⟨by rfl, ?_⟩) ?_ ?_
           rotate_left
           ·intro w'
            go_simp
            with_reducible rfl
           rotate_left
           ·simp only [Act.put, List.setIfInBounds_toArray, List.set_cons_zero, List.set_cons_succ, i64_w, i32_w]
            rfl
           refine pure_ (i := 5) (N := some 97) (v := ?_) (a' := ?_) #[true, true, true, true, false, true, false, false, false, false, false, false] rfl rfl (any_of HT_.out (by kernel_rfl)) (fun _ _ _ h => h) (Or.inl ⟨by rfl, ?_⟩) ?_ ?_
           rotate_left
           ·intro w'
            go_simp
            with_reducible rfl
           rotate_left
           ·simp only [Act.put, List.setIfInBounds_toArray, List.set_cons_zero, List.set_cons_succ, i64_w, i32_w]
            rfl
           refine pure_ (i := 6) (N := some 98) (v := ?_) (a' := ?_) #[true, true, true, true, false, true, true, false, false, false, false, false] rfl rfl (any_of HT_.out (by kernel_rfl)) (fun _ _ _ h => h) (Or.inl ⟨by rfl, ?_⟩) ?_ ?_
           rotate_left
           ·intro w'
            go_simp
            with_reducible rfl
           rotate_left
           ·simp only [Act.put, List.setIfInBounds_toArray, List.set_cons_zero, List.set_cons_succ, i64_w, i32_w]
            rfl
           refine pure_ (i := 7) (N := some 99) (v := ?_) (a' := ?_) #[true, true, true, true, false, true, true, true, false, false, false, false] rfl rfl (any_of HT_.out (by kernel_rfl)) (fun _ _ _ h => h) (Or.inl ⟨by rfl, ?_⟩) ?_ ?_
           rotate_left
           ·intro w'
            go_simp
            with_reducible rfl
           rotate_left
           ·simp only [Act.put, List.setIfInBounds_toArray, List.set_cons_zero, List.set_cons_succ, i64_w, i32_w]
            rfl
           refine take_ (i := 4) (N := some 96) (v := ?_) (a' := ?_) #[true, true, true, true, true, true, true, true, false, false, false, false] rfl rfl (take_ofW HT_.out HW_.out (by kernel_rfl)) (fun _ _ _ h => h) (Or.inl ⟨by rfl, ?_⟩) hHeld ?_ ?_
           rotate_left
           ·rintro w' ⟨s0, s1, s2, s3, s4, s5, s6, s7, s8, s9⟩
            go_simp
            with_reducible rfl
           rotate_left
           ·simp only [Act.put, List.setIfInBounds_toArray, List.set_cons_zero, List.set_cons_succ, i64_w, i32_w]
            rfl
           refine take_ (i := 8) (N := some 100) (v := ?_) (a' := ?_) #[true, true, true, true, true, true, true, true, true, false, false, false] rfl rfl (take_ofW HT_.out HW_.out (by kernel_rfl)) (fun _ _ _ h => h) (Or.inl ⟨by rfl, ?_⟩) hHeld ?_ ?_
           rotate_left
           ·rintro w' ⟨s0, s1, s2, s3, s4, s5, s6, s7, s8, s9⟩
            go_simp
            with_reducible rfl
           rotate_left
           ·simp only [Act.put, List.setIfInBounds_toArray, List.set_cons_zero, List.set_cons_succ, i64_w, i32_w]
            rfl
           refine one_ (i := 9) (N := some 101) #[true, true, true, true, true, true, true, true, true, true, false, false] rfl rfl (one_of HT_.out (by kernel_rfl)) (by decide) (fun K hK => ?_)
           refine goesT_ Try.func44 (by kernel_rfl) rfl #[.agg #[.string ((rd_T33 l0 a2).f0), .int .i64 ((rd_T33 l0 a2).f1), .int .i64 ((rd_T33 l0 a2).f2), .int .i64 ((rd_T33 l0 a2).f3), .string ((rd_T33 l0 a2).f4)], .agg #[.string ((rd_T33 l0 (ji37)).f0), .int .i64 ((rd_T33 l0 (ji37)).f1), .int .i64 ((rd_T33 l0 (ji37)).f2), .int .i64 ((rd_T33 l0 (ji37)).f3), .string ((rd_T33 l0 (ji37)).f4)]] (by rfl) rfl rfl rfl (by (try simp only [List.map_toArray, List.map_cons, List.map_nil]); rfl) ?_
           with_reducible refine (record_Compare.calls k1 ((rd_T33 l0 a2).f0) ((rd_T33 l0 a2).f1) ((rd_T33 l0 a2).f2) ((rd_T33 l0 a2).f3) ((rd_T33 l0 a2).f4) ((rd_T33 l0 (ji37)).f0) ((rd_T33 l0 (ji37)).f1) ((rd_T33 l0 (ji37)).f2) ((rd_T33 l0 (ji37)).f3) ((rd_T33 l0 (ji37)).f4) t128 _ A40.out).mono ?_
           rintro e w44 ⟨rfl, hb⟩
           have HS0_ := (hb.cell (World.block_lt_of_cell? _ _ (hHeld.1))).trans (hHeld.1)
           have HS1_ := (hb.cell (World.block_lt_of_cell? _ _ (hHeld.2.1))).trans (hHeld.2.1)
           have HS2_ := (hb.cell (World.block_lt_of_cell? _ _ (hHeld.2.2.1))).trans (hHeld.2.2.1)
           have HS3_ := (hb.cell (World.block_lt_of_cell? _ _ (hHeld.2.2.2.1))).trans (hHeld.2.2.2.1)
           have HS4_ := (hb.cell (World.block_lt_of_cell? _ _ (hHeld.2.2.2.2.1))).trans (hHeld.2.2.2.2.1)
           have HS5_ := (hb.cell (World.block_lt_of_cell? _ _ (hHeld.2.2.2.2.2.1))).trans (hHeld.2.2.2.2.2.1)
           have HS6_ := (hb.cell (World.block_lt_of_cell? _ _ (hHeld.2.2.2.2.2.2.1))).trans (hHeld.2.2.2.2.2.2.1)
           have HS7_ := (hb.cell (World.block_lt_of_cell? _ _ (hHeld.2.2.2.2.2.2.2.1))).trans (hHeld.2.2.2.2.2.2.2.1)
           have HS8_ := (hb.cell (World.block_lt_of_cell? _ _ (hHeld.2.2.2.2.2.2.2.2.1))).trans (hHeld.2.2.2.2.2.2.2.2.1)
           have HS9_ := (hb.cell (World.block_lt_of_cell? _ _ (hHeld.2.2.2.2.2.2.2.2.2))).trans (hHeld.2.2.2.2.2.2.2.2.2)
           refine ⟨_, rfl, ?_⟩
           have n0_ := Aside0.mk (Kd.R_below (by (with_reducible repeat ((apply Kd.R_alloc))); exact HO_0.out) hb)
           have n1_ := Aside0.mk (Kept.below (S := (fun k_ => P0_ k_)) (by repeat ((with_reducible (exact HK.out)))) hb)
           have n2_ := Aside0.mk (below_step (by repeat ((with_reducible (exact HB.out)))) hb)
           clear HO_0
           clear HK
           clear HB
           have HO_0 := n0_
           have HK := n1_
           have HB := n2_
           clear n0_ n1_ n2_
           (try clear hb)
           refine hK.out _ _ ⟨HS0_, HS1_, HS2_, HS3_, HS4_, HS5_, HS6_, HS7_, HS8_, HS9_⟩ (fun hHeld => ?_)
           clear hK K
           refine norm_ (a' := ?_) ?_ ?_
           rotate_left
           ·show Act.put _ (some 101) _ = _
            simp only [Act.put, List.setIfInBounds_toArray, List.set_cons_zero, List.set_cons_succ, i64_w, i32_w]
            rfl
           refine pure_ (i := 10) (N := some 102) (v := ?_) (a' := ?_) #[true, true, true, true, true, true, true, true, true, true, true, false] rfl rfl (any_of HT_.out (by kernel_rfl)) (fun _ _ _ h => h) (Or.inl ⟨by rfl, ?_⟩) ?_ ?_
           rotate_left
           ·intro w'
            go_simp
            with_reducible rfl
           rotate_left
           ·simp only [Act.put, List.setIfInBounds_toArray, List.set_cons_zero, List.set_cons_succ, i64_w, i32_w]
            rfl
           refine pure_ (i := 11) (N := some 103) (v := ?_) (a' := ?_) #[true, true, true, true, true, true, true, true, true, true, true, true] rfl rfl (any_of HT_.out (by kernel_rfl)) (fun _ _ _ h => h) (Or.inl ⟨by rfl, ?_⟩) ?_ ?_
           rotate_left
           ·intro w'
            go_simp
            with_reducible rfl
           rotate_left
           ·simp only [Act.put, List.setIfInBounds_toArray, List.set_cons_zero, List.set_cons_succ, i64_w, i32_w]
            rfl
           refine done_ (done_of HT_.out (by kernel_rfl)) ?_
           (try go_wp2)
           go_roundg k1
           case measure => have := HK1.out; omega
           case rel => exact ⟨(x14_1), (ji37), (by rfl), (by rfl), H', ⟨by have := HK1.out; omega⟩, ⟨by (with_reducible repeat ((apply Kd.R_alloc))); exact HO_0.out⟩, ⟨by repeat ((with_reducible (exact HK.out)))⟩, ⟨by repeat ((with_reducible (exact HB.out)))⟩⟩
          ·rw [if_neg c41] at H
           have c41b0 : decide (t128 < 0) = false := decide_eq_false c41
           clear c41
           have H' := Aside0.mk H
           clear H
           (try go_wp2)
           have n0_ := Aside0.mk (Kd.R_drew HO_0.out)
           have n1_ := Aside0.mk (Kept.drew HK.out)
           have n2_ := Aside0.mk (below_drew1 HB.out)
           clear HO_0
           clear HK
           clear HB
           have HO_0 := n0_
           have HK := n1_
           have HB := n2_
           clear n0_ n1_ n2_
           obtain ⟨Ao46, co46, eo46⟩ := Kd.R_slice HO_0.out
           ((subst eo46))
           have p126 : 0 ≤ (a2 : Int) := of_decide_eq_true (by (with_reducible assumption))
           have q126 : a2 < (l0.length : Int) := of_decide_eq_true (by (with_reducible assumption))
           obtain ⟨ad126, e126, hx126_0, hx126_1, hx126_2, hx126_3, hx126_4⟩ := at_T33 (Kd.R_reads' HO_0.out).2.2 a2 p126 q126
           cases e126
           replace p126 := eq_true p126
           replace q126 := eq_true q126
           have p127 : 0 ≤ ((ji37) : Int) := of_decide_eq_true (by (with_reducible assumption))
           have q127 : (ji37) < (l0.length : Int) := of_decide_eq_true (by (with_reducible assumption))
           obtain ⟨ad127, e127, hx127_0, hx127_1, hx127_2, hx127_3, hx127_4⟩ := at_T33 (Kd.R_reads' HO_0.out).2.2 (ji37) p127 q127
           obtain rfl : ad126 = ad127 := (by injection e127)
           replace p127 := eq_true p127
           replace q127 := eq_true q127
           refine start_ (n := 12) (S := fun w' => w'.cell? (ad126.add ((a2).toNat * 5)) = some (.string ((rd_T33 l0 a2).f0)) ∧ w'.cell? ⟨(ad126.add ((a2).toNat * 5)).block, (ad126.add ((a2).toNat * 5)).off + 1, none⟩ = some (.int .i64 ((rd_T33 l0 a2).f1)) ∧ w'.cell? ⟨(ad126.add ((a2).toNat * 5)).block, (ad126.add ((a2).toNat * 5)).off + 2, none⟩ = some (.int .i64 ((rd_T33 l0 a2).f2)) ∧ w'.cell? ⟨(ad126.add ((a2).toNat * 5)).block, (ad126.add ((a2).toNat * 5)).off + 3, none⟩ = some (.int .i64 ((rd_T33 l0 a2).f3)) ∧ w'.cell? ⟨(ad126.add ((a2).toNat * 5)).block, (ad126.add ((a2).toNat * 5)).off + 4, none⟩ = some (.string ((rd_T33 l0 a2).f4)) ∧ w'.cell? (ad126.add (((ji37)).toNat * 5)) = some (.string ((rd_T33 l0 (ji37)).f0)) ∧ w'.cell? ⟨(ad126.add (((ji37)).toNat * 5)).block, (ad126.add (((ji37)).toNat * 5)).off + 1, none⟩ = some (.int .i64 ((rd_T33 l0 (ji37)).f1)) ∧ w'.cell? ⟨(ad126.add (((ji37)).toNat * 5)).block, (ad126.add (((ji37)).toNat * 5)).off + 2, none⟩ = some (.int .i64 ((rd_T33 l0 (ji37)).f2)) ∧ w'.cell? ⟨(ad126.add (((ji37)).toNat * 5)).block, (ad126.add (((ji37)).toNat * 5)).off + 3, none⟩ = some (.int .i64 ((rd_T33 l0 (ji37)).f3)) ∧ w'.cell? ⟨(ad126.add (((ji37)).toNat * 5)).block, (ad126.add (((ji37)).toNat * 5)).off + 4, none⟩ = some (.string ((rd_T33 l0 (ji37)).f4))) (ds := []) #[false, false, false, false, false, false, false, false, false, false, false, false] (by kernel_rfl) rfl rfl ⟨hx126_0, hx126_1, hx126_2, hx126_3, hx126_4, hx127_0, hx127_1, hx127_2, hx127_3, hx127_4⟩ (fun hHeld => ?_); refine with_tabW api_RR_79.tab17 api_RR_79.bits17 (fun HT_ HW_ => ?_)
           generalize wr.drew = w45 at HO_0 HK HB hx126_0 hx126_1 hx126_2 hx126_3 hx126_4 hx127_0 hx127_1 hx127_2 hx127_3 hx127_4 hHeld ⊢
           refine pure_ (i := 0) (N := some 92) (v := ?_) (a' := ?_) #[true, false, false, false, false, false, false, false, false, false, false, false] rfl rfl (any_of HT_.out (by kernel_rfl)) (fun _ _ _ h => h) (Or.inl ⟨by rfl, ?_⟩) ?_ ?_
           rotate_left
           ·intro w'
            go_simp
            with_reducible rfl
           rotate_left
           ·simp only [Act.put, List.setIfInBounds_toArray, List.set_cons_zero, List.set_cons_succ, i64_w, i32_w]
            rfl
           refine pure_ (i := 1) (N := some 93) (v := ?_) (a' := ?_) #[true, true, false, false, false, false, false, false, false, false, false, false] rfl rfl (any_of HT_.out (by kernel_rfl)) (fun _ _ _ h => h) (Or.inl ⟨by rfl, ?_⟩) ?_ ?_
           rotate_left
           ·intro w'
            go_simp
            with_reducible rfl
           rotate_left
           ·simp only [Act.put, List.setIfInBounds_toArray, List.set_cons_zero, List.set_cons_succ, i64_w, i32_w]
            rfl
           refine pure_ (i := 2) (N := some 94) (v := ?_) (a' := ?_) #[true, true, true, false, false, false, false, false, false, false, false, false] rfl rfl (any_of HT_.out (by kernel_rfl)) (fun _ _ _ h => h) (Or.inl ⟨by rfl, ?_⟩) ?_ ?_
           rotate_left
           ·intro w'
            go_simp
            with_reducible rfl
           rotate_left
           ·simp only [Act.put, List.setIfInBounds_toArray, List.set_cons_zero, List.set_cons_succ, i64_w, i32_w]
            rfl
           refine pure_ (i := 3) (N := some 95) (v := ?_) (a' := ?_) #[true, true, true, true, false, false, false, false, false, false, false, false] rfl rfl (any_of HT_.out (by kernel_rfl)) (fun _ _ _ h => h) (Or.inl ⟨by rfl, ?_⟩) ?_ ?_
           rotate_left
           ·intro w'
            go_simp
            with_reducible rfl
           rotate_left
           ·simp only [Act.put, List.setIfInBounds_toArray, List.set_cons_zero, List.set_cons_succ, i64_w, i32_w]
            rfl
           refine pure_ (i := 5) (N := some 97) (v := ?_) (a' := ?_) #[true, true, true, true, false, true, false, false, false, false, false, false] rfl rfl (any_of HT_.out (by kernel_rfl)) (fun _ _ _ h => h) (Or.inl ⟨by rfl, ?_⟩) ?_ ?_
           rotate_left
           ·intro w'
            go_simp
            with_reducible rfl
           rotate_left
           ·simp only [Act.put, List.setIfInBounds_toArray, List.set_cons_zero, List.set_cons_succ, i64_w, i32_w]
            rfl
           refine pure_ (i := 6) (N := some 98) (v := ?_) (a' := ?_) #[true, true, true, true, false, true, true, false, false, false, false, false] rfl rfl (any_of HT_.out (by kernel_rfl)) (fun _ _ _ h => h) (Or.inl ⟨by rfl, ?_⟩) ?_ ?_
           rotate_left
           ·intro w'
            go_simp
            with_reducible rfl
           rotate_left
           ·simp only [Act.put, List.setIfInBounds_toArray, List.set_cons_zero, List.set_cons_succ, i64_w, i32_w]
            rfl
           refine pure_ (i := 7) (N := some 99) (v := ?_) (a' := ?_) #[true, true, true, true, false, true, true, true, false, false, false, false] rfl rfl (any_of HT_.out (by kernel_rfl)) (fun _ _ _ h => h) (Or.inl ⟨by rfl, ?_⟩) ?_ ?_
           rotate_left
           ·intro w'
            go_simp
            with_reducible rfl
           rotate_left
           ·simp only [Act.put, List.setIfInBounds_toArray, List.set_cons_zero, List.set_cons_succ, i64_w, i32_w]
            rfl
           refine take_ (i := 4) (N := some 96) (v := ?_) (a' := ?_) #[true, true, true, true, true, true, true, true, false, false, false, false] rfl rfl (take_ofW HT_.out HW_.out (by kernel_rfl)) (fun _ _ _ h => h) (Or.inl ⟨by rfl, ?_⟩) hHeld ?_ ?_
           rotate_left
           ·rintro w' ⟨s0, s1, s2, s3, s4, s5, s6, s7, s8, s9⟩
            go_simp
            with_reducible rfl
           rotate_left
           ·simp only [Act.put, List.setIfInBounds_toArray, List.set_cons_zero, List.set_cons_succ, i64_w, i32_w]
            rfl
           refine take_ (i := 8) (N := some 100) (v := ?_) (a' := ?_) #[true, true, true, true, true, true, true, true, true, false, false, false] rfl rfl (take_ofW HT_.out HW_.out (by kernel_rfl)) (fun _ _ _ h => h) (Or.inl ⟨by rfl, ?_⟩) hHeld ?_ ?_
           rotate_left
           ·rintro w' ⟨s0, s1, s2, s3, s4, s5, s6, s7, s8, s9⟩
            go_simp
            with_reducible rfl
           rotate_left
           ·simp only [Act.put, List.setIfInBounds_toArray, List.set_cons_zero, List.set_cons_succ, i64_w, i32_w]
            rfl
           refine one_ (i := 9) (N := some 101) #[true, true, true, true, true, true, true, true, true, true, false, false] rfl rfl (one_of HT_.out (by kernel_rfl)) (by decide) (fun K hK => ?_)
           refine goesT_ Try.func44 (by kernel_rfl) rfl #[.agg #[.string ((rd_T33 l0 a2).f0), .int .i64 ((rd_T33 l0 a2).f1), .int .i64 ((rd_T33 l0 a2).f2), .int .i64 ((rd_T33 l0 a2).f3), .string ((rd_T33 l0 a2).f4)], .agg #[.string ((rd_T33 l0 (ji37)).f0), .int .i64 ((rd_T33 l0 (ji37)).f1), .int .i64 ((rd_T33 l0 (ji37)).f2), .int .i64 ((rd_T33 l0 (ji37)).f3), .string ((rd_T33 l0 (ji37)).f4)]] (by rfl) rfl rfl rfl (by (try simp only [List.map_toArray, List.map_cons, List.map_nil]); rfl) ?_
           with_reducible refine (record_Compare.calls k1 ((rd_T33 l0 a2).f0) ((rd_T33 l0 a2).f1) ((rd_T33 l0 a2).f2) ((rd_T33 l0 a2).f3) ((rd_T33 l0 a2).f4) ((rd_T33 l0 (ji37)).f0) ((rd_T33 l0 (ji37)).f1) ((rd_T33 l0 (ji37)).f2) ((rd_T33 l0 (ji37)).f3) ((rd_T33 l0 (ji37)).f4) t128 _ A40.out).mono ?_
           rintro e w47 ⟨rfl, hb⟩
           have HS0_ := (hb.cell (World.block_lt_of_cell? _ _ (hHeld.1))).trans (hHeld.1)
           have HS1_ := (hb.cell (World.block_lt_of_cell? _ _ (hHeld.2.1))).trans (hHeld.2.1)
           have HS2_ := (hb.cell (World.block_lt_of_cell? _ _ (hHeld.2.2.1))).trans (hHeld.2.2.1)
           have HS3_ := (hb.cell (World.block_lt_of_cell? _ _ (hHeld.2.2.2.1))).trans (hHeld.2.2.2.1)
           have HS4_ := (hb.cell (World.block_lt_of_cell? _ _ (hHeld.2.2.2.2.1))).trans (hHeld.2.2.2.2.1)
           have HS5_ := (hb.cell (World.block_lt_of_cell? _ _ (hHeld.2.2.2.2.2.1))).trans (hHeld.2.2.2.2.2.1)
           have HS6_ := (hb.cell (World.block_lt_of_cell? _ _ (hHeld.2.2.2.2.2.2.1))).trans (hHeld.2.2.2.2.2.2.1)
           have HS7_ := (hb.cell (World.block_lt_of_cell? _ _ (hHeld.2.2.2.2.2.2.2.1))).trans (hHeld.2.2.2.2.2.2.2.1)
           have HS8_ := (hb.cell (World.block_lt_of_cell? _ _ (hHeld.2.2.2.2.2.2.2.2.1))).trans (hHeld.2.2.2.2.2.2.2.2.1)
           have HS9_ := (hb.cell (World.block_lt_of_cell? _ _ (hHeld.2.2.2.2.2.2.2.2.2))).trans (hHeld.2.2.2.2.2.2.2.2.2)
           refine ⟨_, rfl, ?_⟩
           have n0_ := Aside0.mk (Kd.R_below (by (with_reducible repeat ((apply Kd.R_alloc))); exact HO_0.out) hb)
           have n1_ := Aside0.mk (Kept.below (S := (fun k_ => P0_ k_)) (by repeat ((with_reducible (exact HK.out)))) hb)
           have n2_ := Aside0.mk (below_step (by repeat ((with_reducible (exact HB.out)))) hb)
           clear HO_0
           clear HK
           clear HB
           have HO_0 := n0_
           have HK := n1_
           have HB := n2_
           clear n0_ n1_ n2_
           (try clear hb)
           refine hK.out _ _ ⟨HS0_, HS1_, HS2_, HS3_, HS4_, HS5_, HS6_, HS7_, HS8_, HS9_⟩ (fun hHeld => ?_)
           clear hK K
           refine norm_ (a' := ?_) ?_ ?_
           rotate_left
           ·show Act.put _ (some 101) _ = _
            simp only [Act.put, List.setIfInBounds_toArray, List.set_cons_zero, List.set_cons_succ, i64_w, i32_w]
            rfl
           refine pure_ (i := 10) (N := some 102) (v := ?_) (a' := ?_) #[true, true, true, true, true, true, true, true, true, true, true, false] rfl rfl (any_of HT_.out (by kernel_rfl)) (fun _ _ _ h => h) (Or.inl ⟨by rfl, ?_⟩) ?_ ?_
           rotate_left
           ·intro w'
            go_simp
            with_reducible rfl
           rotate_left
           ·simp only [Act.put, List.setIfInBounds_toArray, List.set_cons_zero, List.set_cons_succ, i64_w, i32_w]
            rfl
           refine pure_ (i := 11) (N := some 103) (v := ?_) (a' := ?_) #[true, true, true, true, true, true, true, true, true, true, true, true] rfl rfl (any_of HT_.out (by kernel_rfl)) (fun _ _ _ h => h) (Or.inl ⟨by rfl, ?_⟩) ?_ ?_
           rotate_left
           ·intro w'
            go_simp
            with_reducible rfl
           rotate_left
           ·simp only [Act.put, List.setIfInBounds_toArray, List.set_cons_zero, List.set_cons_succ, i64_w, i32_w]
            rfl
           refine done_ (done_of HT_.out (by kernel_rfl)) ?_
           (try go_wp2)
           go_roundg k1
           case measure => have := HK1.out; omega
           case rel => exact ⟨(wrap64 ((ji37) + 1)), (x15_1), (by rfl), (by rfl), H', ⟨by have := HK1.out; omega⟩, ⟨by (with_reducible repeat ((apply Kd.R_alloc))); exact HO_0.out⟩, ⟨by repeat ((with_reducible (exact HK.out)))⟩, ⟨by repeat ((with_reducible (exact HB.out)))⟩⟩
         ·rw [if_neg c39] at H
          exact absurd H (by simp)
        ·rw [if_neg c38] at H
         exact absurd H (by simp)
       ·rw [if_neg c36] at H
        exact absurd H (by simp)
      ·rw [if_neg c35] at H
       exact absurd H (by simp)
     ·rw [if_neg c34] at H
      have c34b0 : decide (x14_1 < x15_1) = false := decide_eq_false c34
      clear c34
      have H' := Aside0.mk H
      clear H
      go_wp2
      go_loopg [17] k1 (fun kq v17 w' => ∃ (x0_2 : List (S33)) (x17_2 : Int), v17 = .int .i64 x17_2 ∧ Aside0 (api_RR_79.l3 kq x0_2 x14_1 x17_2 = some r) ∧ Aside0 (kq ≤ k1) ∧ Aside0 (Kd.R k33 33 w' w0.heap.size (fun k_ => (P0_ k_ ∨ w.heap.size ≤ k_)) u9000_ x0_2) ∧ Aside0 (Kept w w' (fun k_ => P0_ k_)) ∧ Aside0 (Below w0.heap.size w0 w'))
      case atStart => exact ⟨(l0), (a2), (by rfl), H', ⟨Nat.le_refl _⟩, ⟨by (with_reducible repeat ((apply Kd.R_alloc))); exact HO_0.out⟩, ⟨by repeat ((with_reducible (exact HK.out)))⟩, ⟨by repeat ((with_reducible (exact HB.out)))⟩⟩
      case round =>
       clear H'
       (try clear c34b0)
       obtain ⟨x0_2, x17_2, rfl, HA, HK2, HO_0, HK, HB⟩ := hrel
       cases gk with
       | zero => exact absurd HA.out (by simp [api_RR_79.l3])
       | succ k2 =>
        have H := HA.out
        clear HA
        simp only [api_RR_79.l3] at H
        by_cases c48 : x17_2 > x14_1
        ·rw [if_pos c48] at H
         have c48b0 : decide (x14_1 < x17_2) = true := decide_eq_true c48
         clear c48
         obtain ⟨ji49, hji49⟩ : ∃ j_ : Int, (wrap64 (x17_2 - 1)) = j_ := ⟨_, rfl⟩
         replace H : (if 0 ≤ (ji49) then (if (ji49) < (x0_2.length : Int) then (if 0 ≤ x17_2 then (if x17_2 < (x0_2.length : Int) then (api_RR_79.l3 k2 ((x0_2.set (x17_2 : Int).toNat (⟨(rd_T33 x0_2 (ji49)).f0, (rd_T33 x0_2 (ji49)).f1, (rd_T33 x0_2 (ji49)).f2, (rd_T33 x0_2 (ji49)).f3, (rd_T33 x0_2 (ji49)).f4⟩ : S33)).set ((ji49) : Int).toNat (⟨(rd_T33 x0_2 x17_2).f0, (rd_T33 x0_2 x17_2).f1, (rd_T33 x0_2 x17_2).f2, (rd_T33 x0_2 x17_2).f3, (rd_T33 x0_2 x17_2).f4⟩ : S33)) x14_1 ji49) else (none)) else (none)) else (none)) else (none)) = some r := by (rw [hji49] at H; exact H)
         have hji49w : (IntKind.i64.wrap (x17_2 - 1)) = ji49 := (i64_w _).trans hji49
         by_cases c50 : 0 ≤ (ji49)
         ·rw [if_pos c50] at H
          have c50b0 : decide (0 ≤ (ji49)) = true := decide_eq_true c50
          clear c50
          by_cases c51 : (ji49) < (x0_2.length : Int)
          ·rw [if_pos c51] at H
           have c51b0 : decide ((ji49) < (x0_2.length : Int)) = true := decide_eq_true c51
           clear c51
           by_cases c52 : 0 ≤ x17_2
           ·rw [if_pos c52] at H
            have c52b0 : decide (0 ≤ x17_2) = true := decide_eq_true c52
            clear c52
            by_cases c53 : x17_2 < (x0_2.length : Int)
            ·rw [if_pos c53] at H
             have c53b0 : decide (x17_2 < (x0_2.length : Int)) = true := decide_eq_true c53
             clear c53
             obtain ⟨y131, hy131⟩ : ∃ y_ : List (S33), y_ = (x0_2.set (x17_2 : Int).toNat (⟨(rd_T33 x0_2 (ji49)).f0, (rd_T33 x0_2 (ji49)).f1, (rd_T33 x0_2 (ji49)).f2, (rd_T33 x0_2 (ji49)).f3, (rd_T33 x0_2 (ji49)).f4⟩ : S33)) := ⟨_, rfl⟩
             replace H : (api_RR_79.l3 k2 (y131.set ((ji49) : Int).toNat (⟨(rd_T33 x0_2 x17_2).f0, (rd_T33 x0_2 x17_2).f1, (rd_T33 x0_2 x17_2).f2, (rd_T33 x0_2 x17_2).f3, (rd_T33 x0_2 x17_2).f4⟩ : S33)) x14_1 ji49) = some r := by (rw [hy131]; with_reducible exact H)
             have Ny131 := Aside0.mk hy131
             clear hy131
             obtain ⟨y132, hy132⟩ : ∃ y_ : List (S33), y_ = (y131.set ((ji49) : Int).toNat (⟨(rd_T33 x0_2 x17_2).f0, (rd_T33 x0_2 x17_2).f1, (rd_T33 x0_2 x17_2).f2, (rd_T33 x0_2 x17_2).f3, (rd_T33 x0_2 x17_2).f4⟩ : S33)) := ⟨_, rfl⟩
             replace H : (api_RR_79.l3 k2 y132 x14_1 ji49) = some r := by (rw [hy132]; with_reducible exact H)
             have Ny132 := Aside0.mk hy132
             clear hy132
             have H' := Aside0.mk H
             clear H
             (try go_wp2)
             have n0_ := Aside0.mk (Kd.R_drew HO_0.out)
             have n1_ := Aside0.mk (Kept.drew HK.out)
             have n2_ := Aside0.mk (below_drew1 HB.out)
             clear HO_0
             clear HK
             clear HB
             have HO_0 := n0_
             have HK := n1_
             have HB := n2_
             clear n0_ n1_ n2_
             obtain ⟨Ao57, co57, eo57⟩ := Kd.R_slice HO_0.out
             ((subst eo57))
             have p129 : 0 ≤ ((ji49) : Int) := of_decide_eq_true (by (with_reducible assumption))
             have q129 : (ji49) < (x0_2.length : Int) := of_decide_eq_true (by (with_reducible assumption))
             obtain ⟨ad129, e129, hx129_0, hx129_1, hx129_2, hx129_3, hx129_4⟩ := at_T33 (Kd.R_reads' HO_0.out).2.2 (ji49) p129 q129
             cases e129
             replace p129 := eq_true p129
             replace q129 := eq_true q129
             have p130 : 0 ≤ (x17_2 : Int) := of_decide_eq_true (by (with_reducible assumption))
             have q130 : x17_2 < (x0_2.length : Int) := of_decide_eq_true (by (with_reducible assumption))
             obtain ⟨ad130, e130, hx130_0, hx130_1, hx130_2, hx130_3, hx130_4⟩ := at_T33 (Kd.R_reads' HO_0.out).2.2 x17_2 p130 q130
             obtain rfl : ad129 = ad130 := (by injection e130)
             replace p130 := eq_true p130
             replace q130 := eq_true q130
             have p54 : 0 ≤ (x17_2 : Int) := of_decide_eq_true (by (with_reducible assumption))
             have q54 : (x17_2 : Int) < ((x0_2.length : Int) : Int) := of_decide_eq_true (by (with_reducible assumption))
             obtain ⟨go54, co54, eo54, gb54, gl54, cl54, HG54⟩ := Kd.R_form HO_0.out (by omega)
             ((cases eo54))
             have GB54 := Aside0.mk gb54
             have GG54 := Aside0.mk HG54
             clear gb54 gl54 HG54
             have HMgo54 := Aside0.mk (show (P0_ go54 ∨ w.heap.size ≤ go54) from (HO_0.out.1 _ rfl))
             ((simp only [add_plain] at hx129_0))
             ((simp only [add_plain] at hx129_1))
             ((simp only [add_plain] at hx129_2))
             ((simp only [add_plain] at hx129_3))
             ((simp only [add_plain] at hx129_4))
             ((simp only [add_plain] at hx130_0))
             ((simp only [add_plain] at hx130_1))
             ((simp only [add_plain] at hx130_2))
             ((simp only [add_plain] at hx130_3))
             ((simp only [add_plain] at hx130_4))
             obtain ⟨ce54, hcl54, hM54, hcc54, hfr54⟩ := Kd.R_elem HO_0.out z33 (x17_2 : Int) p54 q54
             obtain rfl := k33_openM hM54
             have hx54_0 : World.cell? _ ⟨go54, (x17_2 : Int).toNat * 5, none⟩ = some (.string ((rd_T33 x0_2 x17_2).f0)) := hcc54 0 _ rfl
             have hx54_1 : World.cell? _ ⟨go54, (x17_2 : Int).toNat * 5 + 1, none⟩ = some (.int .i64 ((rd_T33 x0_2 x17_2).f1)) := hcc54 1 _ rfl
             have hx54_2 : World.cell? _ ⟨go54, (x17_2 : Int).toNat * 5 + 2, none⟩ = some (.int .i64 ((rd_T33 x0_2 x17_2).f2)) := hcc54 2 _ rfl
             have hx54_3 : World.cell? _ ⟨go54, (x17_2 : Int).toNat * 5 + 3, none⟩ = some (.int .i64 ((rd_T33 x0_2 x17_2).f3)) := hcc54 3 _ rfl
             have hx54_4 : World.cell? _ ⟨go54, (x17_2 : Int).toNat * 5 + 4, none⟩ = some (.string ((rd_T33 x0_2 x17_2).f4)) := hcc54 4 _ rfl
             have hf54_0 : World.frozen? _ ⟨go54, (x17_2 : Int).toNat * 5, none⟩ = false := hfr54 0
             have hf54_1 : World.frozen? _ ⟨go54, (x17_2 : Int).toNat * 5 + 1, none⟩ = false := hfr54 1
             have hf54_2 : World.frozen? _ ⟨go54, (x17_2 : Int).toNat * 5 + 2, none⟩ = false := hfr54 2
             have hf54_3 : World.frozen? _ ⟨go54, (x17_2 : Int).toNat * 5 + 3, none⟩ = false := hfr54 3
             have hf54_4 : World.frozen? _ ⟨go54, (x17_2 : Int).toNat * 5 + 4, none⟩ = false := hfr54 4
             clear hcl54 hcc54 hfr54 hM54
             replace p54 := eq_true p54
             replace q54 := eq_true q54
             obtain ⟨ce58, hcl58, hM58, hcc58, hfr58⟩ := Kd.R_elem HO_0.out z33 (x17_2 : Int) (of_decide_eq_true (by (with_reducible assumption))) (by have h_ : (x17_2 : Int) < ((x0_2.length : Int) : Int) := of_decide_eq_true (by (with_reducible assumption)); (exact h_))
             obtain rfl := k33_openM hM58
             have HP58 := (Kd.R_seg HO_0.out (x17_2 : Int) (of_decide_eq_true (by (with_reducible assumption))) (by have h_ : (x17_2 : Int) < ((x0_2.length : Int) : Int) := of_decide_eq_true (by (with_reducible assumption)); (exact h_)) (seg := [.string ((rd_T33 x0_2 (ji49)).f0), .int .i64 ((rd_T33 x0_2 (ji49)).f1), .int .i64 ((rd_T33 x0_2 (ji49)).f2), .int .i64 ((rd_T33 x0_2 (ji49)).f3), .string ((rd_T33 x0_2 (ji49)).f4)]) (j := 0) hcl58 hcc58 (show 5 ≤ 5 from by decide) (x' := (⟨(rd_T33 x0_2 (ji49)).f0, (rd_T33 x0_2 (ji49)).f1, (rd_T33 x0_2 (ji49)).f2, (rd_T33 x0_2 (ji49)).f3, (rd_T33 x0_2 (ji49)).f4⟩ : S33)) (k33_mkM _ _ _ (⟨(rd_T33 x0_2 (ji49)).f0, (rd_T33 x0_2 (ji49)).f1, (rd_T33 x0_2 (ji49)).f2, (rd_T33 x0_2 (ji49)).f3, (rd_T33 x0_2 (ji49)).f4⟩ : S33) ) (fun _ hk => hk)).1
             rw [← Ny131.out] at HP58
             have HQ58 := Aside0.mk HP58
             clear hcl58 hcc58 hfr58 hM58 HP58
             have p55 : 0 ≤ ((ji49) : Int) := of_decide_eq_true (by (with_reducible assumption))
             have q55 : ((ji49) : Int) < ((x0_2.length : Int) : Int) := of_decide_eq_true (by (with_reducible assumption))
             obtain ⟨ce55, hcl55, hM55, hcc55, hfr55⟩ := Kd.R_elem HQ58.out z33 ((ji49) : Int) p55 q55
             obtain rfl := k33_openM hM55
             have hx55_0 : World.cell? _ ⟨go54, ((ji49) : Int).toNat * 5, none⟩ = some (.string ((rd_T33 y131 (ji49)).f0)) := hcc55 0 _ rfl
             have hx55_1 : World.cell? _ ⟨go54, ((ji49) : Int).toNat * 5 + 1, none⟩ = some (.int .i64 ((rd_T33 y131 (ji49)).f1)) := hcc55 1 _ rfl
             have hx55_2 : World.cell? _ ⟨go54, ((ji49) : Int).toNat * 5 + 2, none⟩ = some (.int .i64 ((rd_T33 y131 (ji49)).f2)) := hcc55 2 _ rfl
             have hx55_3 : World.cell? _ ⟨go54, ((ji49) : Int).toNat * 5 + 3, none⟩ = some (.int .i64 ((rd_T33 y131 (ji49)).f3)) := hcc55 3 _ rfl
             have hx55_4 : World.cell? _ ⟨go54, ((ji49) : Int).toNat * 5 + 4, none⟩ = some (.string ((rd_T33 y131 (ji49)).f4)) := hcc55 4 _ rfl
             have hf55_0 : World.frozen? _ ⟨go54, ((ji49) : Int).toNat * 5, none⟩ = false := hfr55 0
             have hf55_1 : World.frozen? _ ⟨go54, ((ji49) : Int).toNat * 5 + 1, none⟩ = false := hfr55 1
             have hf55_2 : World.frozen? _ ⟨go54, ((ji49) : Int).toNat * 5 + 2, none⟩ = false := hfr55 2
             have hf55_3 : World.frozen? _ ⟨go54, ((ji49) : Int).toNat * 5 + 3, none⟩ = false := hfr55 3
             have hf55_4 : World.frozen? _ ⟨go54, ((ji49) : Int).toNat * 5 + 4, none⟩ = false := hfr55 4
             clear hcl55 hcc55 hfr55 hM55
             replace p55 := eq_true p55
             replace q55 := eq_true q55
             obtain ⟨ce59, hcl59, hM59, hcc59, hfr59⟩ := Kd.R_elem HQ58.out z33 ((ji49) : Int) (of_decide_eq_true (by (with_reducible assumption))) (by have h_ : ((ji49) : Int) < ((x0_2.length : Int) : Int) := of_decide_eq_true (by (with_reducible assumption)); (exact h_))
             obtain rfl := k33_openM hM59
             have HP59 := (Kd.R_seg HQ58.out ((ji49) : Int) (of_decide_eq_true (by (with_reducible assumption))) (by have h_ : ((ji49) : Int) < ((x0_2.length : Int) : Int) := of_decide_eq_true (by (with_reducible assumption)); (exact h_)) (seg := [.string ((rd_T33 x0_2 x17_2).f0), .int .i64 ((rd_T33 x0_2 x17_2).f1), .int .i64 ((rd_T33 x0_2 x17_2).f2), .int .i64 ((rd_T33 x0_2 x17_2).f3), .string ((rd_T33 x0_2 x17_2).f4)]) (j := 0) hcl59 hcc59 (show 5 ≤ 5 from by decide) (x' := (⟨(rd_T33 x0_2 x17_2).f0, (rd_T33 x0_2 x17_2).f1, (rd_T33 x0_2 x17_2).f2, (rd_T33 x0_2 x17_2).f3, (rd_T33 x0_2 x17_2).f4⟩ : S33)) (k33_mkM _ _ _ (⟨(rd_T33 x0_2 x17_2).f0, (rd_T33 x0_2 x17_2).f1, (rd_T33 x0_2 x17_2).f2, (rd_T33 x0_2 x17_2).f3, (rd_T33 x0_2 x17_2).f4⟩ : S33) ) (fun _ hk => hk)).1
             rw [← Ny132.out] at HP59
             have HQ59 := Aside0.mk HP59
             clear hcl59 hcc59 hfr59 hM59 HP59
             refine start_ (n := 18) (S := fun w' => w'.cell? ⟨go54, (((ji49)).toNat * 5), none⟩ = some (.string ((rd_T33 x0_2 (ji49)).f0)) ∧ w'.cell? ⟨go54, (((ji49)).toNat * 5) + 1, none⟩ = some (.int .i64 ((rd_T33 x0_2 (ji49)).f1)) ∧ w'.cell? ⟨go54, (((ji49)).toNat * 5) + 2, none⟩ = some (.int .i64 ((rd_T33 x0_2 (ji49)).f2)) ∧ w'.cell? ⟨go54, (((ji49)).toNat * 5) + 3, none⟩ = some (.int .i64 ((rd_T33 x0_2 (ji49)).f3)) ∧ w'.cell? ⟨go54, (((ji49)).toNat * 5) + 4, none⟩ = some (.string ((rd_T33 x0_2 (ji49)).f4)) ∧ w'.cell? ⟨go54, ((x17_2).toNat * 5), none⟩ = some (.string ((rd_T33 x0_2 x17_2).f0)) ∧ w'.cell? ⟨go54, ((x17_2).toNat * 5) + 1, none⟩ = some (.int .i64 ((rd_T33 x0_2 x17_2).f1)) ∧ w'.cell? ⟨go54, ((x17_2).toNat * 5) + 2, none⟩ = some (.int .i64 ((rd_T33 x0_2 x17_2).f2)) ∧ w'.cell? ⟨go54, ((x17_2).toNat * 5) + 3, none⟩ = some (.int .i64 ((rd_T33 x0_2 x17_2).f3)) ∧ w'.cell? ⟨go54, ((x17_2).toNat * 5) + 4, none⟩ = some (.string ((rd_T33 x0_2 x17_2).f4))) (ds := [15, 17]) #[false, false, false, false, false, false, false, false, false, false, false, false, false, false, false, false, false, false] (by kernel_rfl) rfl rfl ⟨hx129_0, hx129_1, hx129_2, hx129_3, hx129_4, hx130_0, hx130_1, hx130_2, hx130_3, hx130_4⟩ (fun hHeld => ?_); refine with_tabW api_RR_79.tab23 api_RR_79.bits23 (fun HT_ HW_ => ?_)
             generalize wr.drew = w56 at HO_0 HK HB GG54 HQ58 HQ59 hf54_0 hf54_1 hf54_2 hf54_3 hf54_4 hf55_0 hf55_1 hf55_2 hf55_3 hf55_4 hx129_0 hx129_1 hx129_2 hx129_3 hx129_4 hx130_0 hx130_1 hx130_2 hx130_3 hx130_4 hx54_0 hx54_1 hx54_2 hx54_3 hx54_4 hx55_0 hx55_1 hx55_2 hx55_3 hx55_4 hHeld ⊢
             (try simp [go_sem, World.setCells, (show k33.sz = 5 from rfl)] at hf55_0 hf55_1 hf55_2 hf55_3 hf55_4 hx55_0 hx55_1 hx55_2 hx55_3 hx55_4)
             refine pure_ (i := 0) (N := some 113) (v := ?_) (a' := ?_) #[true, false, false, false, false, false, false, false, false, false, false, false, false, false, false, false, false, false] rfl rfl (any_of HT_.out (by kernel_rfl)) (fun _ _ _ h => h) (Or.inl ⟨by rfl, ?_⟩) ?_ ?_
             rotate_left
             ·intro w'
              go_simp
              with_reducible rfl
             rotate_left
             ·simp only [Act.put, List.setIfInBounds_toArray, List.set_cons_zero, List.set_cons_succ, i64_w, i32_w]
              rfl
             refine pure_ (i := 1) (N := some 114) (v := ?_) (a' := ?_) #[true, true, false, false, false, false, false, false, false, false, false, false, false, false, false, false, false, false] rfl rfl (any_of HT_.out (by kernel_rfl)) (fun _ _ _ h => h) (Or.inl ⟨by rfl, ?_⟩) ?_ ?_
             rotate_left
             ·intro w'
              go_simp
              with_reducible rfl
             rotate_left
             ·simp only [Act.put, List.setIfInBounds_toArray, List.set_cons_zero, List.set_cons_succ, i64_w, i32_w]
              rfl
             refine pure_ (i := 2) (N := some 115) (v := ?_) (a' := ?_) #[true, true, true, false, false, false, false, false, false, false, false, false, false, false, false, false, false, false] rfl rfl (any_of HT_.out (by kernel_rfl)) (fun _ _ _ h => h) (Or.inl ⟨by rfl, ?_⟩) ?_ ?_
             rotate_left
             ·intro w'
              go_simp
              with_reducible rfl
             rotate_left
             ·simp only [Act.put, List.setIfInBounds_toArray, List.set_cons_zero, List.set_cons_succ, i64_w, i32_w]
              rfl
             refine pure_ (i := 3) (N := some 116) (v := ?_) (a' := ?_) #[true, true, true, true, false, false, false, false, false, false, false, false, false, false, false, false, false, false] rfl rfl (any_of HT_.out (by kernel_rfl)) (fun _ _ _ h => h) (Or.inl ⟨by rfl, ?_⟩) ?_ ?_
             rotate_left
             ·intro w'
              go_simp
              with_reducible rfl
             rotate_left
             ·simp only [Act.put, List.setIfInBounds_toArray, List.set_cons_zero, List.set_cons_succ, i64_w, i32_w]
              rfl
             refine pure_ (i := 4) (N := some 117) (v := ?_) (a' := ?_) #[true, true, true, true, true, false, false, false, false, false, false, false, false, false, false, false, false, false] rfl rfl (any_of HT_.out (by kernel_rfl)) (fun _ _ _ h => h) (Or.inl ⟨by rfl, ?_⟩) ?_ ?_
             rotate_left
             ·intro w'
              go_simp
              with_reducible rfl
             rotate_left
             ·simp only [Act.put, List.setIfInBounds_toArray, List.set_cons_zero, List.set_cons_succ, i64_w, i32_w]
              rfl
             refine pure_ (i := 5) (N := some 118) (v := ?_) (a' := ?_) #[true, true, true, true, true, true, false, false, false, false, false, false, false, false, false, false, false, false] rfl rfl (any_of HT_.out (by kernel_rfl)) (fun _ _ _ h => h) (Or.inl ⟨by rfl, ?_⟩) ?_ ?_
             rotate_left
             ·intro w'
              go_simp
              with_reducible rfl
             rotate_left
             ·simp only [Act.put, List.setIfInBounds_toArray, List.set_cons_zero, List.set_cons_succ, i64_w, i32_w]
              rfl
             refine pure_ (i := 6) (N := some 119) (v := ?_) (a' := ?_) #[true, true, true, true, true, true, true, false, false, false, false, false, false, false, false, false, false, false] rfl rfl (any_of HT_.out (by kernel_rfl)) (fun _ _ _ h => h) (Or.inl ⟨by rfl, ?_⟩) ?_ ?_
             rotate_left
             ·intro w'
              go_simp
              with_reducible rfl
             rotate_left
             ·simp only [Act.put, List.setIfInBounds_toArray, List.set_cons_zero, List.set_cons_succ, i64_w, i32_w]
              rfl
             refine pure_ (i := 7) (N := some 120) (v := ?_) (a' := ?_) #[true, true, true, true, true, true, true, true, false, false, false, false, false, false, false, false, false, false] rfl rfl (any_of HT_.out (by kernel_rfl)) (fun _ _ _ h => h) (Or.inl ⟨by rfl, ?_⟩) ?_ ?_
             rotate_left
             ·intro w'
              go_simp
              with_reducible rfl
             rotate_left
             ·simp only [Act.put, List.setIfInBounds_toArray, List.set_cons_zero, List.set_cons_succ, i64_w, i32_w]
              rfl
             refine pure_ (i := 8) (N := some 121) (v := ?_) (a' := ?_) #[true, true, true, true, true, true, true, true, true, false, false, false, false, false, false, false, false, false] rfl rfl (any_of HT_.out (by kernel_rfl)) (fun _ _ _ h => h) (Or.inl ⟨by rfl, ?_⟩) ?_ ?_
             rotate_left
             ·intro w'
              go_simp
              with_reducible rfl
             rotate_left
             ·simp only [Act.put, List.setIfInBounds_toArray, List.set_cons_zero, List.set_cons_succ, i64_w, i32_w]
              rfl
             refine pure_ (i := 10) (N := some 123) (v := ?_) (a' := ?_) #[true, true, true, true, true, true, true, true, true, false, true, false, false, false, false, false, false, false] rfl rfl (any_of HT_.out (by kernel_rfl)) (fun _ _ _ h => h) (Or.inl ⟨by rfl, ?_⟩) ?_ ?_
             rotate_left
             ·intro w'
              go_simp
              with_reducible rfl
             rotate_left
             ·simp only [Act.put, List.setIfInBounds_toArray, List.set_cons_zero, List.set_cons_succ, i64_w, i32_w]
              rfl
             refine pure_ (i := 11) (N := some 124) (v := ?_) (a' := ?_) #[true, true, true, true, true, true, true, true, true, false, true, true, false, false, false, false, false, false] rfl rfl (any_of HT_.out (by kernel_rfl)) (fun _ _ _ h => h) (Or.inl ⟨by rfl, ?_⟩) ?_ ?_
             rotate_left
             ·intro w'
              go_simp
              with_reducible rfl
             rotate_left
             ·simp only [Act.put, List.setIfInBounds_toArray, List.set_cons_zero, List.set_cons_succ, i64_w, i32_w]
              rfl
             refine pure_ (i := 12) (N := some 125) (v := ?_) (a' := ?_) #[true, true, true, true, true, true, true, true, true, false, true, true, true, false, false, false, false, false] rfl rfl (any_of HT_.out (by kernel_rfl)) (fun _ _ _ h => h) (Or.inl ⟨by rfl, ?_⟩) ?_ ?_
             rotate_left
             ·intro w'
              go_simp
              with_reducible rfl
             rotate_left
             ·simp only [Act.put, List.setIfInBounds_toArray, List.set_cons_zero, List.set_cons_succ, i64_w, i32_w]
              rfl
             refine take_ (i := 9) (N := some 122) (v := ?_) (a' := ?_) #[true, true, true, true, true, true, true, true, true, true, true, true, true, false, false, false, false, false] rfl rfl (take_ofW HT_.out HW_.out (by kernel_rfl)) (fun _ _ _ h => h) (Or.inl ⟨by rfl, ?_⟩) hHeld ?_ ?_
             rotate_left
             ·rintro w' ⟨s0, s1, s2, s3, s4, s5, s6, s7, s8, s9⟩
              go_simp
              with_reducible rfl
             rotate_left
             ·simp only [Act.put, List.setIfInBounds_toArray, List.set_cons_zero, List.set_cons_succ, i64_w, i32_w]
              rfl
             refine take_ (i := 13) (N := some 126) (v := ?_) (a' := ?_) #[true, true, true, true, true, true, true, true, true, true, true, true, true, true, false, false, false, false] rfl rfl (take_ofW HT_.out HW_.out (by kernel_rfl)) (fun _ _ _ h => h) (Or.inl ⟨by rfl, ?_⟩) hHeld ?_ ?_
             rotate_left
             ·rintro w' ⟨s0, s1, s2, s3, s4, s5, s6, s7, s8, s9⟩
              go_simp
              with_reducible rfl
             rotate_left
             ·simp only [Act.put, List.setIfInBounds_toArray, List.set_cons_zero, List.set_cons_succ, i64_w, i32_w]
              rfl
             refine pure_ (i := 14) (N := some 127) (v := ?_) (a' := ?_) #[true, true, true, true, true, true, true, true, true, true, true, true, true, true, true, false, false, false] rfl rfl (any_of HT_.out (by kernel_rfl)) (fun _ _ _ h => h) (Or.inl ⟨by rfl, ?_⟩) ?_ ?_
             rotate_left
             ·intro w'
              go_simp
              with_reducible rfl
             rotate_left
             ·simp only [Act.put, List.setIfInBounds_toArray, List.set_cons_zero, List.set_cons_succ, i64_w, i32_w]
              rfl
             refine last_ (i := 15) (N := none) #[true, true, true, true, true, true, true, true, true, true, true, true, true, true, true, true, false, false] rfl rfl (one_of HT_.out (by kernel_rfl)) (by decide) (fun K hK => ?_)
             refine skip_ (w1 := ?_) (by rfl) rfl ?_ ?_
             rotate_left
             ·go_simp
              rfl
             refine hK.out _ _ ?_
             clear hK K
             refine pure_ (i := 16) (N := some 128) (v := ?_) (a' := ?_) #[true, true, true, true, true, true, true, true, true, true, true, true, true, true, true, true, true, false] rfl rfl (any_of HT_.out (by kernel_rfl)) (fun _ _ _ h => h) (Or.inl ⟨by rfl, ?_⟩) ?_ ?_
             rotate_left
             ·intro w'
              go_simp
              with_reducible rfl
             rotate_left
             ·simp only [Act.put, List.setIfInBounds_toArray, List.set_cons_zero, List.set_cons_succ, i64_w, i32_w]
              rfl
             refine last_ (i := 17) (N := none) #[true, true, true, true, true, true, true, true, true, true, true, true, true, true, true, true, true, true] rfl rfl (one_of HT_.out (by kernel_rfl)) (by decide) (fun K hK => ?_)
             refine skip_ (w1 := ?_) (by rfl) rfl ?_ ?_
             rotate_left
             ·go_simp
              rfl
             refine hK.out _ _ ?_
             clear hK K
             refine done_ (done_of HT_.out (by kernel_rfl)) ?_
             (try go_wp2)
             go_roundg k2
             case measure => have := HK1.out; have := HK2.out; omega
             case rel => exact ⟨(y132), (ji49), (by rfl), H', ⟨by have := HK1.out; have := HK2.out; omega⟩, ⟨by (with_reducible repeat ((apply Kd.R_alloc))); exact HQ59.out⟩, ⟨by repeat ((with_reducible first | exact HK.out | refine Kept.setCell ?_ HMgo54.out _))⟩, ⟨by repeat ((with_reducible first | exact HB.out | refine below_set ?_ GB54.out))⟩⟩
            ·rw [if_neg c53] at H
             exact absurd H (by simp)
           ·rw [if_neg c52] at H
            exact absurd H (by simp)
          ·rw [if_neg c51] at H
           exact absurd H (by simp)
         ·rw [if_neg c50] at H
          exact absurd H (by simp)
        ·rw [if_neg c48] at H
         have c48b0 : decide (x14_1 < x17_2) = false := decide_eq_false c48
         clear c48
         obtain rfl := Option.some.inj H
         go_wp2
         (refine bodyPost_ret (results_none rfl _ _ _) rfl ?_)
         exact ⟨by rfl, by (with_reducible repeat ((apply Kd.R_alloc))); exact HO_0.out, by repeat ((with_reducible (exact HB.out))), by repeat ((with_reducible (exact HK.out)))⟩
  ·rw [if_neg c33] at H
   have c33b0 : ((wrap64 (a3 - a2)) == 1) = false := beq_eq_false_iff_ne.mpr c33
   have c33b1 : ((wrap64 (a3 - a2)) != 1) = true := bne_iff_ne.mpr c33
   have HC60 := Aside0.mk H
   clear H
   go_enter Try.func79, Try.ntmps79
   go_upto_if 140 with (fail)
   go_cut [20, 21] (fun v20 v21 wc => ∃ (kq : Nat) (x20_59 : Int) (x21_59 : Int), v20 = .int .i64 x20_59 ∧ v21 = .int .i64 x21_59 ∧ Aside0 (api_RR_79.j4 kq l0 a1 a2 a3 a4 (wrap64 ((IntKind.u64.wrap (wrap64 (a1 + a3))) / 2)) (wrap64 ((wrap64 ((IntKind.u64.wrap (wrap64 (a1 + a3))) / 2)) + a2)) x20_59 x21_59 = some r) ∧ Aside0 (kq ≤ k) ∧ Aside0 (Kd.R k33 33 wc w0.heap.size (fun k_ => (P0_ k_ ∨ w.heap.size ≤ k_)) u9000_ l0) ∧ Aside0 (Kept w wc (fun k_ => P0_ k_)) ∧ Aside0 (Below w0.heap.size w0 wc))
   case first =>
    have H := HC60.out
    clear HC60
    by_cases c61 : a2 > (wrap64 ((IntKind.u64.wrap (wrap64 (a1 + a3))) / 2))
    ·rw [if_pos c61] at H
     have c61b0 : decide ((wrap64 ((IntKind.u64.wrap (wrap64 (a1 + a3))) / 2)) < a2) = true := decide_eq_true c61
     clear c61
     ((rw [c61b0]))
     have H' := Aside0.mk H
     clear H
     go_wp2
     go_meet
     case rel => exact ⟨_, (wrap64 ((wrap64 ((wrap64 ((IntKind.u64.wrap (wrap64 (a1 + a3))) / 2)) + a2)) - a3)), (wrap64 ((IntKind.u64.wrap (wrap64 (a1 + a3))) / 2)), (by rfl), (by rfl), H', ⟨by omega⟩, ⟨by (with_reducible repeat ((apply Kd.R_alloc))); exact HO0.out⟩, ⟨by repeat ((with_reducible (exact HK.out)))⟩, ⟨by repeat ((with_reducible (exact HB.out)))⟩⟩
    ·rw [if_neg c61] at H
     have c61b0 : decide ((wrap64 ((IntKind.u64.wrap (wrap64 (a1 + a3))) / 2)) < a2) = false := decide_eq_false c61
     clear c61
     ((rw [c61b0]))
     have H' := Aside0.mk H
     clear H
     go_wp2
     go_meet
     case rel => exact ⟨_, (a1), (a2), (by rfl), (by rfl), H', ⟨by omega⟩, ⟨by (with_reducible repeat ((apply Kd.R_alloc))); exact HO0.out⟩, ⟨by repeat ((with_reducible (exact HK.out)))⟩, ⟨by repeat ((with_reducible (exact HB.out)))⟩⟩
   case rest =>
    clear HC60
    (try clear c6)
    (try clear c6b0)
    (try clear c6b1)
    (try clear c33)
    (try clear c33b0)
    (try clear c33b1)
    obtain ⟨kq, x20_59, x21_59, rfl, rfl, HA, HJ59, HO_0, HK, HB⟩ := hcut
    cases kq with
    | zero => exact absurd HA.out (by simp [api_RR_79.j4])
    | succ kj59 =>
     have H := HA.out
     clear HA
     simp only [api_RR_79.j4] at H
     have H' := Aside0.mk H
     clear H
     go_wp2
     go_loopg [20, 21] kj59 (fun kq v20 v21 w' => ∃ (x20_2 : Int) (x21_2 : Int), v20 = .int .i64 x20_2 ∧ v21 = .int .i64 x21_2 ∧ Aside0 (api_RR_79.l4 kq l0 a1 a2 a3 a4 (wrap64 ((IntKind.u64.wrap (wrap64 (a1 + a3))) / 2)) (wrap64 ((wrap64 ((IntKind.u64.wrap (wrap64 (a1 + a3))) / 2)) + a2)) x20_2 x21_2 (wrap64 ((wrap64 ((wrap64 ((IntKind.u64.wrap (wrap64 (a1 + a3))) / 2)) + a2)) - 1)) = some r) ∧ Aside0 (kq ≤ kj59) ∧ Aside0 (Kd.R k33 33 w' w0.heap.size (fun k_ => (P0_ k_ ∨ w.heap.size ≤ k_)) u9000_ l0) ∧ Aside0 (Kept w w' (fun k_ => P0_ k_)) ∧ Aside0 (Below w0.heap.size w0 w'))
     case atStart => exact ⟨(x20_59), (x21_59), (by rfl), (by rfl), H', ⟨Nat.le_refl _⟩, ⟨by (with_reducible repeat ((apply Kd.R_alloc))); exact HO_0.out⟩, ⟨by repeat ((with_reducible (exact HK.out)))⟩, ⟨by repeat ((with_reducible (exact HB.out)))⟩⟩
     case round =>
      clear H'
      obtain ⟨x20_2, x21_2, rfl, rfl, HA, HK2, HO_0, HK, HB⟩ := hrel
      cases gk with
      | zero => exact absurd HA.out (by simp [api_RR_79.l4])
      | succ k2 =>
       have H := HA.out
       clear HA
       simp only [api_RR_79.l4] at H
       by_cases c62 : x20_2 < x21_2
       ·rw [if_pos c62] at H
        have c62b0 : decide (x20_2 < x21_2) = true := decide_eq_true c62
        clear c62
        obtain ⟨ji63, hji63⟩ : ∃ j_ : Int, (wrap64 ((wrap64 ((wrap64 ((wrap64 ((IntKind.u64.wrap (wrap64 (a1 + a3))) / 2)) + a2)) - 1)) - (wrap64 ((IntKind.u64.wrap (wrap64 (x20_2 + x21_2))) / 2)))) = j_ := ⟨_, rfl⟩
        replace H : (if 0 ≤ (ji63) then (if (ji63) < (l0.length : Int) then (if 0 ≤ (wrap64 ((IntKind.u64.wrap (wrap64 (x20_2 + x21_2))) / 2)) then (if (wrap64 ((IntKind.u64.wrap (wrap64 (x20_2 + x21_2))) / 2)) < (l0.length : Int) then ((record_Compare.f k2 ((rd_T33 l0 (ji63)).f0) ((rd_T33 l0 (ji63)).f1) ((rd_T33 l0 (ji63)).f2) ((rd_T33 l0 (ji63)).f3) ((rd_T33 l0 (ji63)).f4) ((rd_T33 l0 (wrap64 ((IntKind.u64.wrap (wrap64 (x20_2 + x21_2))) / 2))).f0) ((rd_T33 l0 (wrap64 ((IntKind.u64.wrap (wrap64 (x20_2 + x21_2))) / 2))).f1) ((rd_T33 l0 (wrap64 ((IntKind.u64.wrap (wrap64 (x20_2 + x21_2))) / 2))).f2) ((rd_T33 l0 (wrap64 ((IntKind.u64.wrap (wrap64 (x20_2 + x21_2))) / 2))).f3) ((rd_T33 l0 (wrap64 ((IntKind.u64.wrap (wrap64 (x20_2 + x21_2))) / 2))).f4)).bind fun t135 => (if t135 < 0 then (api_RR_79.l4 k2 l0 a1 a2 a3 a4 (wrap64 ((IntKind.u64.wrap (wrap64 (a1 + a3))) / 2)) (wrap64 ((wrap64 ((IntKind.u64.wrap (wrap64 (a1 + a3))) / 2)) + a2)) x20_2 (wrap64 ((IntKind.u64.wrap (wrap64 (x20_2 + x21_2))) / 2)) (wrap64 ((wrap64 ((wrap64 ((IntKind.u64.wrap (wrap64 (a1 + a3))) / 2)) + a2)) - 1))) else (api_RR_79.l4 k2 l0 a1 a2 a3 a4 (wrap64 ((IntKind.u64.wrap (wrap64 (a1 + a3))) / 2)) (wrap64 ((wrap64 ((IntKind.u64.wrap (wrap64 (a1 + a3))) / 2)) + a2)) (wrap64 ((wrap64 ((IntKind.u64.wrap (wrap64 (x20_2 + x21_2))) / 2)) + 1)) x21_2 (wrap64 ((wrap64 ((wrap64 ((IntKind.u64.wrap (wrap64 (a1 + a3))) / 2)) + a2)) - 1))))) else (none)) else (none)) else (none)) else (none)) = some r := by (rw [hji63] at H; exact H)
        have hji63w : (IntKind.i64.wrap ((wrap64 ((wrap64 ((wrap64 ((IntKind.u64.wrap (wrap64 (a1 + a3))) / 2)) + a2)) - 1)) - (wrap64 ((IntKind.u64.wrap (wrap64 (x20_2 + x21_2))) / 2)))) = ji63 := (i64_w _).trans hji63
        by_cases c64 : 0 ≤ (ji63)
        ·rw [if_pos c64] at H
         have c64b0 : decide (0 ≤ (ji63)) = true := decide_eq_true c64
         clear c64
         by_cases c65 : (ji63) < (l0.length : Int)
         ·rw [if_pos c65] at H
          have c65b0 : decide ((ji63) < (l0.length : Int)) = true := decide_eq_true c65
          clear c65
          obtain ⟨ji66, hji66⟩ : ∃ j_ : Int, (wrap64 ((IntKind.u64.wrap (wrap64 (x20_2 + x21_2))) / 2)) = j_ := ⟨_, rfl⟩
          replace H : (if 0 ≤ (ji66) then (if (ji66) < (l0.length : Int) then ((record_Compare.f k2 ((rd_T33 l0 (ji63)).f0) ((rd_T33 l0 (ji63)).f1) ((rd_T33 l0 (ji63)).f2) ((rd_T33 l0 (ji63)).f3) ((rd_T33 l0 (ji63)).f4) ((rd_T33 l0 (ji66)).f0) ((rd_T33 l0 (ji66)).f1) ((rd_T33 l0 (ji66)).f2) ((rd_T33 l0 (ji66)).f3) ((rd_T33 l0 (ji66)).f4)).bind fun t135 => (if t135 < 0 then (api_RR_79.l4 k2 l0 a1 a2 a3 a4 (wrap64 ((IntKind.u64.wrap (wrap64 (a1 + a3))) / 2)) (wrap64 ((wrap64 ((IntKind.u64.wrap (wrap64 (a1 + a3))) / 2)) + a2)) x20_2 ji66 (wrap64 ((wrap64 ((wrap64 ((IntKind.u64.wrap (wrap64 (a1 + a3))) / 2)) + a2)) - 1))) else (api_RR_79.l4 k2 l0 a1 a2 a3 a4 (wrap64 ((IntKind.u64.wrap (wrap64 (a1 + a3))) / 2)) (wrap64 ((wrap64 ((IntKind.u64.wrap (wrap64 (a1 + a3))) / 2)) + a2)) (wrap64 ((ji66) + 1)) x21_2 (wrap64 ((wrap64 ((wrap64 ((IntKind.u64.wrap (wrap64 (a1 + a3))) / 2)) + a2)) - 1))))) else (none)) else (none)) = some r := by (rw [hji66] at H; exact H)
          have hji66w : (IntKind.i64.wrap ((IntKind.u64.wrap (wrap64 (x20_2 + x21_2))) / 2)) = ji66 := (i64_w _).trans hji66
          have hji63xji66 : (wrap64 ((wrap64 ((wrap64 ((wrap64 ((IntKind.u64.wrap (wrap64 (a1 + a3))) / 2)) + a2)) - 1)) - ji66)) = ji63 := by rw [← hji66]; exact hji63
          have hji63yji66 : (IntKind.i64.wrap ((wrap64 ((wrap64 ((wrap64 ((IntKind.u64.wrap (wrap64 (a1 + a3))) / 2)) + a2)) - 1)) - ji66)) = ji63 := (i64_w _).trans hji63xji66
          by_cases c67 : 0 ≤ (ji66)
          ·rw [if_pos c67] at H
           have c67b0 : decide (0 ≤ (ji66)) = true := decide_eq_true c67
           clear c67
           by_cases c68 : (ji66) < (l0.length : Int)
           ·rw [if_pos c68] at H
            have c68b0 : decide ((ji66) < (l0.length : Int)) = true := decide_eq_true c68
            clear c68
            replace H := Option.bind_eq_some_iff.mp H
            obtain ⟨t135, A690, H⟩ := H
            replace H : (if t135 < 0 then (api_RR_79.l4 k2 l0 a1 a2 a3 a4 (wrap64 ((IntKind.u64.wrap (wrap64 (a1 + a3))) / 2)) (wrap64 ((wrap64 ((IntKind.u64.wrap (wrap64 (a1 + a3))) / 2)) + a2)) x20_2 ji66 (wrap64 ((wrap64 ((wrap64 ((IntKind.u64.wrap (wrap64 (a1 + a3))) / 2)) + a2)) - 1))) else (api_RR_79.l4 k2 l0 a1 a2 a3 a4 (wrap64 ((IntKind.u64.wrap (wrap64 (a1 + a3))) / 2)) (wrap64 ((wrap64 ((IntKind.u64.wrap (wrap64 (a1 + a3))) / 2)) + a2)) (wrap64 ((ji66) + 1)) x21_2 (wrap64 ((wrap64 ((wrap64 ((IntKind.u64.wrap (wrap64 (a1 + a3))) / 2)) + a2)) - 1)))) = some r := H
            have A69 := Aside0.mk A690
            clear A690
            by_cases c70 : t135 < 0
            ·as_aux_lemma =>
             rw [if_pos c70] at H
             have c70b0 : decide (t135 < 0) = true := decide_eq_true c70
             clear c70
             have H' := Aside0.mk H
             clear H
             (try go_wp2)
             have n0_ := Aside0.mk (Kd.R_drew HO_0.out)
             have n1_ := Aside0.mk (Kept.drew HK.out)
             have n2_ := Aside0.mk (below_drew1 HB.out)
             clear HO_0
             clear HK
             clear HB
             have HO_0 := n0_
             have HK := n1_
             have HB := n2_
             clear n0_ n1_ n2_
             obtain ⟨Ao72, co72, eo72⟩ := Kd.R_slice HO_0.out
             ((subst eo72))
             have p133 : 0 ≤ ((ji63) : Int) := of_decide_eq_true (by (with_reducible assumption))
             have q133 : (ji63) < (l0.length : Int) := of_decide_eq_true (by (with_reducible assumption))
             obtain ⟨ad133, e133, hx133_0, hx133_1, hx133_2, hx133_3, hx133_4⟩ := at_T33 (Kd.R_reads' HO_0.out).2.2 (ji63) p133 q133
             cases e133
             replace p133 := eq_true p133
             replace q133 := eq_true q133
             have p134 : 0 ≤ ((ji66) : Int) := of_decide_eq_true (by (with_reducible assumption))
             have q134 : (ji66) < (l0.length : Int) := of_decide_eq_true (by (with_reducible assumption))
             obtain ⟨ad134, e134, hx134_0, hx134_1, hx134_2, hx134_3, hx134_4⟩ := at_T33 (Kd.R_reads' HO_0.out).2.2 (ji66) p134 q134
             obtain rfl : ad133 = ad134 := (by injection e134)
             replace p134 := eq_true p134
             replace q134 := eq_true q134
             refine start_ (n := 14) (S := fun w' => w'.cell? (ad133.add (((ji63)).toNat * 5)) = some (.string ((rd_T33 l0 (ji63)).f0)) ∧ w'.cell? ⟨(ad133.add (((ji63)).toNat * 5)).block, (ad133.add (((ji63)).toNat * 5)).off + 1, none⟩ = some (.int .i64 ((rd_T33 l0 (ji63)).f1)) ∧ w'.cell? ⟨(ad133.add (((ji63)).toNat * 5)).block, (ad133.add (((ji63)).toNat * 5)).off + 2, none⟩ = some (.int .i64 ((rd_T33 l0 (ji63)).f2)) ∧ w'.cell? ⟨(ad133.add (((ji63)).toNat * 5)).block, (ad133.add (((ji63)).toNat * 5)).off + 3, none⟩ = some (.int .i64 ((rd_T33 l0 (ji63)).f3)) ∧ w'.cell? ⟨(ad133.add (((ji63)).toNat * 5)).block, (ad133.add (((ji63)).toNat * 5)).off + 4, none⟩ = some (.string ((rd_T33 l0 (ji63)).f4)) ∧ w'.cell? (ad133.add (((ji66)).toNat * 5)) = some (.string ((rd_T33 l0 (ji66)).f0)) ∧ w'.cell? ⟨(ad133.add (((ji66)).toNat * 5)).block, (ad133.add (((ji66)).toNat * 5)).off + 1, none⟩ = some (.int .i64 ((rd_T33 l0 (ji66)).f1)) ∧ w'.cell? ⟨(ad133.add (((ji66)).toNat * 5)).block, (ad133.add (((ji66)).toNat * 5)).off + 2, none⟩ = some (.int .i64 ((rd_T33 l0 (ji66)).f2)) ∧ w'.cell? ⟨(ad133.add (((ji66)).toNat * 5)).block, (ad133.add (((ji66)).toNat * 5)).off + 3, none⟩ = some (.int .i64 ((rd_T33 l0 (ji66)).f3)) ∧ w'.cell? ⟨(ad133.add (((ji66)).toNat * 5)).block, (ad133.add (((ji66)).toNat * 5)).off + 4, none⟩ = some (.string ((rd_T33 l0 (ji66)).f4))) (ds := []) #[false, false, false, false, false, false, false, false, false, false, false, false, false, false] (by kernel_rfl) rfl rfl ⟨hx133_0, hx133_1, hx133_2, hx133_3, hx133_4, hx134_0, hx134_1, hx134_2, hx134_3, hx134_4⟩ (fun hHeld => ?_); refine with_tabW api_RR_79.tab35 api_RR_79.bits35 (fun HT_ HW_ => ?_)
             generalize wr.drew = w71 at HO_0 HK HB hx133_0 hx133_1 hx133_2 hx133_3 hx133_4 hx134_0 hx134_1 hx134_2 hx134_3 hx134_4 hHeld ⊢
             refine pure_ (i := 0) (N := some 158) (v := ?_) (a' := ?_) #[true, false, false, false, false, false, false, false, false, false, false, false, false, false] rfl rfl (any_of HT_.out (by kernel_rfl)) (fun _ _ _ h => h) (Or.inl ⟨by rfl, ?_⟩) ?_ ?_
             rotate_left
             ·intro w'
              go_simp
              with_reducible rfl
             rotate_left
             ·simp only [Act.put, List.setIfInBounds_toArray, List.set_cons_zero, List.set_cons_succ, i64_w, i32_w]
              rfl
             refine pure_ (i := 1) (N := some 159) (v := ?_) (a' := ?_) #[true, true, false, false, false, false, false, false, false, false, false, false, false, false] rfl rfl (any_of HT_.out (by kernel_rfl)) (fun _ _ _ h => h) (Or.inl ⟨by rfl, ?_⟩) ?_ ?_
             rotate_left
             ·intro w'
              go_simp
              with_reducible rfl
             rotate_left
             ·simp only [Act.put, List.setIfInBounds_toArray, List.set_cons_zero, List.set_cons_succ, i64_w, i32_w]
              rfl
             refine pure_ (i := 2) (N := some 160) (v := ?_) (a' := ?_) #[true, true, true, false, false, false, false, false, false, false, false, false, false, false] rfl rfl (any_of HT_.out (by kernel_rfl)) (fun _ _ _ h => h) (Or.inl ⟨by rfl, ?_⟩) ?_ ?_
             rotate_left
             ·intro w'
              go_simp
              with_reducible rfl
             rotate_left
             ·simp only [Act.put, List.setIfInBounds_toArray, List.set_cons_zero, List.set_cons_succ, i64_w, i32_w]
              rfl
             refine pure_ (i := 3) (N := some 161) (v := ?_) (a' := ?_) #[true, true, true, true, false, false, false, false, false, false, false, false, false, false] rfl rfl (any_of HT_.out (by kernel_rfl)) (fun _ _ _ h => h) (Or.inl ⟨by rfl, ?_⟩) ?_ ?_
             rotate_left
             ·intro w'
              go_simp
              with_reducible rfl
             rotate_left
             ·simp only [Act.put, List.setIfInBounds_toArray, List.set_cons_zero, List.set_cons_succ, i64_w, i32_w]
              rfl
             refine pure_ (i := 4) (N := some 162) (v := ?_) (a' := ?_) #[true, true, true, true, true, false, false, false, false, false, false, false, false, false] rfl rfl (any_of HT_.out (by kernel_rfl)) (fun _ _ _ h => h) (Or.inl ⟨by rfl, ?_⟩) ?_ ?_
             rotate_left
             ·intro w'
              go_simp
              with_reducible rfl
             rotate_left
             ·simp only [Act.put, List.setIfInBounds_toArray, List.set_cons_zero, List.set_cons_succ, i64_w, i32_w]
              rfl
             refine pure_ (i := 5) (N := some 163) (v := ?_) (a' := ?_) #[true, true, true, true, true, true, false, false, false, false, false, false, false, false] rfl rfl (any_of HT_.out (by kernel_rfl)) (fun _ _ _ h => h) (Or.inl ⟨by rfl, ?_⟩) ?_ ?_
             rotate_left
             ·intro w'
              go_simp
              with_reducible rfl
             rotate_left
             ·simp only [Act.put, List.setIfInBounds_toArray, List.set_cons_zero, List.set_cons_succ, i64_w, i32_w]
              rfl
             refine pure_ (i := 7) (N := some 165) (v := ?_) (a' := ?_) #[true, true, true, true, true, true, false, true, false, false, false, false, false, false] rfl rfl (any_of HT_.out (by kernel_rfl)) (fun _ _ _ h => h) (Or.inl ⟨by rfl, ?_⟩) ?_ ?_
             rotate_left
             ·intro w'
              go_simp
              with_reducible rfl
             rotate_left
             ·simp only [Act.put, List.setIfInBounds_toArray, List.set_cons_zero, List.set_cons_succ, i64_w, i32_w]
              rfl
             refine pure_ (i := 8) (N := some 166) (v := ?_) (a' := ?_) #[true, true, true, true, true, true, false, true, true, false, false, false, false, false] rfl rfl (any_of HT_.out (by kernel_rfl)) (fun _ _ _ h => h) (Or.inl ⟨by rfl, ?_⟩) ?_ ?_
             rotate_left
             ·intro w'
              go_simp
              with_reducible rfl
             rotate_left
             ·simp only [Act.put, List.setIfInBounds_toArray, List.set_cons_zero, List.set_cons_succ, i64_w, i32_w]
              rfl
             refine pure_ (i := 9) (N := some 167) (v := ?_) (a' := ?_) #[true, true, true, true, true, true, false, true, true, true, false, false, false, false] rfl rfl (any_of HT_.out (by kernel_rfl)) (fun _ _ _ h => h) (Or.inl ⟨by rfl, ?_⟩) ?_ ?_
             rotate_left
             ·intro w'
              go_simp
              with_reducible rfl
             rotate_left
             ·simp only [Act.put, List.setIfInBounds_toArray, List.set_cons_zero, List.set_cons_succ, i64_w, i32_w]
              rfl
             refine take_ (i := 6) (N := some 164) (v := ?_) (a' := ?_) #[true, true, true, true, true, true, true, true, true, true, false, false, false, false] rfl rfl (take_ofW HT_.out HW_.out (by kernel_rfl)) (fun _ _ _ h => h) (Or.inl ⟨by rfl, ?_⟩) hHeld ?_ ?_
             rotate_left
             ·rintro w' ⟨s0, s1, s2, s3, s4, s5, s6, s7, s8, s9⟩
              go_simp
              with_reducible rfl
             rotate_left
             ·simp only [Act.put, List.setIfInBounds_toArray, List.set_cons_zero, List.set_cons_succ, i64_w, i32_w]
              rfl
             refine take_ (i := 10) (N := some 168) (v := ?_) (a' := ?_) #[true, true, true, true, true, true, true, true, true, true, true, false, false, false] rfl rfl (take_ofW HT_.out HW_.out (by kernel_rfl)) (fun _ _ _ h => h) (Or.inl ⟨by rfl, ?_⟩) hHeld ?_ ?_
             rotate_left
             ·rintro w' ⟨s0, s1, s2, s3, s4, s5, s6, s7, s8, s9⟩
              go_simp
              with_reducible rfl
             rotate_left
             ·simp only [Act.put, List.setIfInBounds_toArray, List.set_cons_zero, List.set_cons_succ, i64_w, i32_w]
              rfl
             refine one_ (i := 11) (N := some 169) #[true, true, true, true, true, true, true, true, true, true, true, true, false, false] rfl rfl (one_of HT_.out (by kernel_rfl)) (by decide) (fun K hK => ?_)
             refine goesT_ Try.func44 (by kernel_rfl) rfl #[.agg #[.string ((rd_T33 l0 (ji63)).f0), .int .i64 ((rd_T33 l0 (ji63)).f1), .int .i64 ((rd_T33 l0 (ji63)).f2), .int .i64 ((rd_T33 l0 (ji63)).f3), .string ((rd_T33 l0 (ji63)).f4)], .agg #[.string ((rd_T33 l0 (ji66)).f0), .int .i64 ((rd_T33 l0 (ji66)).f1), .int .i64 ((rd_T33 l0 (ji66)).f2), .int .i64 ((rd_T33 l0 (ji66)).f3), .string ((rd_T33 l0 (ji66)).f4)]] (by rfl) rfl rfl rfl (by (try simp only [List.map_toArray, List.map_cons, List.map_nil]); rfl) ?_
             with_reducible refine (record_Compare.calls k2 ((rd_T33 l0 (ji63)).f0) ((rd_T33 l0 (ji63)).f1) ((rd_T33 l0 (ji63)).f2) ((rd_T33 l0 (ji63)).f3) ((rd_T33 l0 (ji63)).f4) ((rd_T33 l0 (ji66)).f0) ((rd_T33 l0 (ji66)).f1) ((rd_T33 l0 (ji66)).f2) ((rd_T33 l0 (ji66)).f3) ((rd_T33 l0 (ji66)).f4) t135 _ A69.out).mono ?_
             rintro e w73 ⟨rfl, hb⟩
             have HS0_ := (hb.cell (World.block_lt_of_cell? _ _ (hHeld.1))).trans (hHeld.1)
             have HS1_ := (hb.cell (World.block_lt_of_cell? _ _ (hHeld.2.1))).trans (hHeld.2.1)
             have HS2_ := (hb.cell (World.block_lt_of_cell? _ _ (hHeld.2.2.1))).trans (hHeld.2.2.1)
             have HS3_ := (hb.cell (World.block_lt_of_cell? _ _ (hHeld.2.2.2.1))).trans (hHeld.2.2.2.1)
             have HS4_ := (hb.cell (World.block_lt_of_cell? _ _ (hHeld.2.2.2.2.1))).trans (hHeld.2.2.2.2.1)
             have HS5_ := (hb.cell (World.block_lt_of_cell? _ _ (hHeld.2.2.2.2.2.1))).trans (hHeld.2.2.2.2.2.1)
             have HS6_ := (hb.cell (World.block_lt_of_cell? _ _ (hHeld.2.2.2.2.2.2.1))).trans (hHeld.2.2.2.2.2.2.1)
             have HS7_ := (hb.cell (World.block_lt_of_cell? _ _ (hHeld.2.2.2.2.2.2.2.1))).trans (hHeld.2.2.2.2.2.2.2.1)
             have HS8_ := (hb.cell (World.block_lt_of_cell? _ _ (hHeld.2.2.2.2.2.2.2.2.1))).trans (hHeld.2.2.2.2.2.2.2.2.1)
             have HS9_ := (hb.cell (World.block_lt_of_cell? _ _ (hHeld.2.2.2.2.2.2.2.2.2))).trans (hHeld.2.2.2.2.2.2.2.2.2)
             refine ⟨_, rfl, ?_⟩
             have n0_ := Aside0.mk (Kd.R_below (by (with_reducible repeat ((apply Kd.R_alloc))); exact HO_0.out) hb)
             have n1_ := Aside0.mk (Kept.below (S := (fun k_ => P0_ k_)) (by repeat ((with_reducible (exact HK.out)))) hb)
             have n2_ := Aside0.mk (below_step (by repeat ((with_reducible (exact HB.out)))) hb)
             clear HO_0
             clear HK
             clear HB
             have HO_0 := n0_
             have HK := n1_
             have HB := n2_
             clear n0_ n1_ n2_
             (try clear hb)
             refine hK.out _ _ ⟨HS0_, HS1_, HS2_, HS3_, HS4_, HS5_, HS6_, HS7_, HS8_, HS9_⟩ (fun hHeld => ?_)
             clear hK K
             refine norm_ (a' := ?_) ?_ ?_
             rotate_left
             ·show Act.put _ (some 169) _ = _
              simp only [Act.put, List.setIfInBounds_toArray, List.set_cons_zero, List.set_cons_succ, i64_w, i32_w]
              rfl
             refine pure_ (i := 12) (N := some 170) (v := ?_) (a' := ?_) #[true, true, true, true, true, true, true, true, true, true, true, true, true, false] rfl rfl (any_of HT_.out (by kernel_rfl)) (fun _ _ _ h => h) (Or.inl ⟨by rfl, ?_⟩) ?_ ?_
             rotate_left
             ·intro w'
              go_simp
              with_reducible rfl
             rotate_left
             ·simp only [Act.put, List.setIfInBounds_toArray, List.set_cons_zero, List.set_cons_succ, i64_w, i32_w]
              rfl
             refine pure_ (i := 13) (N := some 171) (v := ?_) (a' := ?_) #[true, true, true, true, true, true, true, true, true, true, true, true, true, true] rfl rfl (any_of HT_.out (by kernel_rfl)) (fun _ _ _ h => h) (Or.inl ⟨by rfl, ?_⟩) ?_ ?_
             rotate_left
             ·intro w'
              go_simp
              with_reducible rfl
             rotate_left
             ·simp only [Act.put, List.setIfInBounds_toArray, List.set_cons_zero, List.set_cons_succ, i64_w, i32_w]
              rfl
             refine done_ (done_of HT_.out (by kernel_rfl)) ?_
             (try go_wp2)
             go_roundg k2
             case measure => have := HJ59.out; have := HK2.out; omega
             case rel => exact ⟨(x20_2), (ji66), (by rfl), (by rfl), H', ⟨by have := HJ59.out; have := HK2.out; omega⟩, ⟨by (with_reducible repeat ((apply Kd.R_alloc))); exact HO_0.out⟩, ⟨by repeat ((with_reducible (exact HK.out)))⟩, ⟨by repeat ((with_reducible (exact HB.out)))⟩⟩
            ·as_aux_lemma =>
             rw [if_neg c70] at H
             have c70b0 : decide (t135 < 0) = false := decide_eq_false c70
             clear c70
             have H' := Aside0.mk H
             clear H
             (try go_wp2)
             have n0_ := Aside0.mk (Kd.R_drew HO_0.out)
             have n1_ := Aside0.mk (Kept.drew HK.out)
             have n2_ := Aside0.mk (below_drew1 HB.out)
             clear HO_0
             clear HK
             clear HB
             have HO_0 := n0_
             have HK := n1_
             have HB := n2_
             clear n0_ n1_ n2_
             obtain ⟨Ao75, co75, eo75⟩ := Kd.R_slice HO_0.out
             ((subst eo75))
             have p133 : 0 ≤ ((ji63) : Int) := of_decide_eq_true (by (with_reducible assumption))
             have q133 : (ji63) < (l0.length : Int) := of_decide_eq_true (by (with_reducible assumption))
             obtain ⟨ad133, e133, hx133_0, hx133_1, hx133_2, hx133_3, hx133_4⟩ := at_T33 (Kd.R_reads' HO_0.out).2.2 (ji63) p133 q133
             cases e133
             replace p133 := eq_true p133
             replace q133 := eq_true q133
             have p134 : 0 ≤ ((ji66) : Int) := of_decide_eq_true (by (with_reducible assumption))
             have q134 : (ji66) < (l0.length : Int) := of_decide_eq_true (by (with_reducible assumption))
             obtain ⟨ad134, e134, hx134_0, hx134_1, hx134_2, hx134_3, hx134_4⟩ := at_T33 (Kd.R_reads' HO_0.out).2.2 (ji66) p134 q134
             obtain rfl : ad133 = ad134 := (by injection e134)
             replace p134 := eq_true p134
             replace q134 := eq_true q134
             refine start_ (n := 14) (S := fun w' => w'.cell? (ad133.add (((ji63)).toNat * 5)) = some (.string ((rd_T33 l0 (ji63)).f0)) ∧ w'.cell? ⟨(ad133.add (((ji63)).toNat * 5)).block, (ad133.add (((ji63)).toNat * 5)).off + 1, none⟩ = some (.int .i64 ((rd_T33 l0 (ji63)).f1)) ∧ w'.cell? ⟨(ad133.add (((ji63)).toNat * 5)).block, (ad133.add (((ji63)).toNat * 5)).off + 2, none⟩ = some (.int .i64 ((rd_T33 l0 (ji63)).f2)) ∧ w'.cell? ⟨(ad133.add (((ji63)).toNat * 5)).block, (ad133.add (((ji63)).toNat * 5)).off + 3, none⟩ = some (.int .i64 ((rd_T33 l0 (ji63)).f3)) ∧ w'.cell? ⟨(ad133.add (((ji63)).toNat * 5)).block, (ad133.add (((ji63)).toNat * 5)).off + 4, none⟩ = some (.string ((rd_T33 l0 (ji63)).f4)) ∧ w'.cell? (ad133.add (((ji66)).toNat * 5)) = some (.string ((rd_T33 l0 (ji66)).f0)) ∧ w'.cell? ⟨(ad133.add (((ji66)).toNat * 5)).block, (ad133.add (((ji66)).toNat * 5)).off + 1, none⟩ = some (.int .i64 ((rd_T33 l0 (ji66)).f1)) ∧ w'.cell? ⟨(ad133.add (((ji66)).toNat * 5)).block, (ad133.add (((ji66)).toNat * 5)).off + 2, none⟩ = some (.int .i64 ((rd_T33 l0 (ji66)).f2)) ∧ w'.cell? ⟨(ad133.add (((ji66)).toNat * 5)).block, (ad133.add (((ji66)).toNat * 5)).off + 3, none⟩ = some (.int .i64 ((rd_T33 l0 (ji66)).f3)) ∧ w'.cell? ⟨(ad133.add (((ji66)).toNat * 5)).block, (ad133.add (((ji66)).toNat * 5)).off + 4, none⟩ = some (.string ((rd_T33 l0 (ji66)).f4))) (ds := []) #[false, false, false, false, false, false, false, false, false, false, false, false, false, false] (by kernel_rfl) rfl rfl ⟨hx133_0, hx133_1, hx133_2, hx133_3, hx133_4, hx134_0, hx134_1, hx134_2, hx134_3, hx134_4⟩ (fun hHeld => ?_); refine with_tabW api_RR_79.tab35 api_RR_79.bits35 (fun HT_ HW_ => ?_)
             generalize wr.drew = w74 at HO_0 HK HB hx133_0 hx133_1 hx133_2 hx133_3 hx133_4 hx134_0 hx134_1 hx134_2 hx134_3 hx134_4 hHeld ⊢
             refine pure_ (i := 0) (N := some 158) (v := ?_) (a' := ?_) #[true, false, false, false, false, false, false, false, false, false, false, false, false, false] rfl rfl (any_of HT_.out (by kernel_rfl)) (fun _ _ _ h => h) (Or.inl ⟨by rfl, ?_⟩) ?_ ?_
             rotate_left
             ·intro w'
              go_simp
              with_reducible rfl
             rotate_left
             ·simp only [Act.put, List.setIfInBounds_toArray, List.set_cons_zero, List.set_cons_succ, i64_w, i32_w]
              rfl
             refine pure_ (i := 1) (N := some 159) (v := ?_) (a' := ?_) #[true, true, false, false, false, false, false, false, false, false, false, false, false, false] rfl rfl (any_of HT_.out (by kernel_rfl)) (fun _ _ _ h => h) (Or.inl ⟨by rfl, ?_⟩) ?_ ?_
             rotate_left
             ·intro w'
              go_simp
              with_reducible rfl
             rotate_left
             ·simp only [Act.put, List.setIfInBounds_toArray, List.set_cons_zero, List.set_cons_succ, i64_w, i32_w]
              rfl
             refine pure_ (i := 2) (N := some 160) (v := ?_) (a' := ?_) #[true, true, true, false, false, false, false, false, false, false, false, false, false, false] rfl rfl (any_of HT_.out (by kernel_rfl)) (fun _ _ _ h => h) (Or.inl ⟨by rfl, ?_⟩) ?_ ?_
             rotate_left
             ·intro w'
              go_simp
              with_reducible rfl
             rotate_left
             ·simp only [Act.put, List.setIfInBounds_toArray, List.set_cons_zero, List.set_cons_succ, i64_w, i32_w]
              rfl
             refine pure_ (i := 3) (N := some 161) (v := ?_) (a' := ?_) #[true, true, true, true, false, false, false, false, false, false, false, false, false, false] rfl rfl (any_of HT_.out (by kernel_rfl)) (fun _ _ _ h => h) (Or.inl ⟨by rfl, ?_⟩) ?_ ?_
             rotate_left
             ·intro w'
              go_simp
              with_reducible rfl
             rotate_left
             ·simp only [Act.put, List.setIfInBounds_toArray, List.set_cons_zero, List.set_cons_succ, i64_w, i32_w]
              rfl
             refine pure_ (i := 4) (N := some 162) (v := ?_) (a' := ?_) #[true, true, true, true, true, false, false, false, false, false, false, false, false, false] rfl rfl (any_of HT_.out (by kernel_rfl)) (fun _ _ _ h => h) (Or.inl ⟨by rfl, ?_⟩) ?_ ?_
             rotate_left
             ·intro w'
              go_simp
              with_reducible rfl
             rotate_left
             ·simp only [Act.put, List.setIfInBounds_toArray, List.set_cons_zero, List.set_cons_succ, i64_w, i32_w]
              rfl
             refine pure_ (i := 5) (N := some 163) (v := ?_) (a' := ?_) #[true, true, true, true, true, true, false, false, false, false, false, false, false, false] rfl rfl (any_of HT_.out (by kernel_rfl)) (fun _ _ _ h => h) (Or.inl ⟨by rfl, ?_⟩) ?_ ?_
             rotate_left
             ·intro w'
              go_simp
              with_reducible rfl
             rotate_left
             ·simp only [Act.put, List.setIfInBounds_toArray, List.set_cons_zero, List.set_cons_succ, i64_w, i32_w]
              rfl
             refine pure_ (i := 7) (N := some 165) (v := ?_) (a' := ?_) #[true, true, true, true, true, true, false, true, false, false, false, false, false, false] rfl rfl (any_of HT_.out (by kernel_rfl)) (fun _ _ _ h => h) (Or.inl ⟨by rfl, ?_⟩) ?_ ?_
             rotate_left
             ·intro w'
              go_simp
              with_reducible rfl
             rotate_left
             ·simp only [Act.put, List.setIfInBounds_toArray, List.set_cons_zero, List.set_cons_succ, i64_w, i32_w]
              rfl
             refine pure_ (i := 8) (N := some 166) (v := ?_) (a' := ?_) #[true, true, true, true, true, true, false, true, true, false, false, false, false, false] rfl rfl (any_of HT_.out (by kernel_rfl)) (fun _ _ _ h => h) (Or.inl ⟨by rfl, ?_⟩) ?_ ?_
             rotate_left
             ·intro w'
              go_simp
              with_reducible rfl
             rotate_left
             ·simp only [Act.put, List.setIfInBounds_toArray, List.set_cons_zero, List.set_cons_succ, i64_w, i32_w]
              rfl
             refine pure_ (i := 9) (N := some 167) (v := ?_) (a' := ?_) #[true, true, true, true, true, true, false, true, true, true, false, false, false, false] rfl rfl (any_of HT_.out (by kernel_rfl)) (fun _ _ _ h => h) (Or.inl ⟨by rfl, ?_⟩) ?_ ?_
             rotate_left
             ·intro w'
              go_simp
              with_reducible rfl
             rotate_left
             ·simp only [Act.put, List.setIfInBounds_toArray, List.set_cons_zero, List.set_cons_succ, i64_w, i32_w]
              rfl
             refine take_ (i := 6) (N := some 164) (v := ?_) (a' := ?_) #[true, true, true, true, true, true, true, true, true, true, false, false, false, false] rfl rfl (take_ofW HT_.out HW_.out (by kernel_rfl)) (fun _ _ _ h => h) (Or.inl ⟨by rfl, ?_⟩) hHeld ?_ ?_
             rotate_left
             ·rintro w' ⟨s0, s1, s2, s3, s4, s5, s6, s7, s8, s9⟩
              go_simp
              with_reducible rfl
             rotate_left
             ·simp only [Act.put, List.setIfInBounds_toArray, List.set_cons_zero, List.set_cons_succ, i64_w, i32_w]
              rfl
             refine take_ (i := 10) (N := some 168) (v := ?_) (a' := ?_) #[true, true, true, true, true, true, true, true, true, true, true, false, false, false] rfl rfl (take_ofW HT_.out HW_.out (by kernel_rfl)) (fun _ _ _ h => h) (Or.inl ⟨by rfl, ?_⟩) hHeld ?_ ?_
             rotate_left
             ·rintro w' ⟨s0, s1, s2, s3, s4, s5, s6, s7, s8, s9⟩
              go_simp
              with_reducible rfl
             rotate_left
             ·simp only [Act.put, List.setIfInBounds_toArray, List.set_cons_zero, List.set_cons_succ, i64_w, i32_w]
              rfl
             refine one_ (i := 11) (N := some 169) #[true, true, true, true, true, true, true, true, true, true, true, true, false, false] rfl rfl (one_of HT_.out (by kernel_rfl)) (by decide) (fun K hK => ?_)
             refine goesT_ Try.func44 (by kernel_rfl) rfl #[.agg #[.string ((rd_T33 l0 (ji63)).f0), .int .i64 ((rd_T33 l0 (ji63)).f1), .int .i64 ((rd_T33 l0 (ji63)).f2), .int .i64 ((rd_T33 l0 (ji63)).f3), .string ((rd_T33 l0 (ji63)).f4)], .agg #[.string ((rd_T33 l0 (ji66)).f0), .int .i64 ((rd_T33 l0 (ji66)).f1), .int .i64 ((rd_T33 l0 (ji66)).f2), .int .i64 ((rd_T33 l0 (ji66)).f3), .string ((rd_T33 l0 (ji66)).f4)]] (by rfl) rfl rfl rfl (by (try simp only [List.map_toArray, List.map_cons, List.map_nil]); rfl) ?_
             with_reducible refine (record_Compare.calls k2 ((rd_T33 l0 (ji63)).f0) ((rd_T33 l0 (ji63)).f1) ((rd_T33 l0 (ji63)).f2) ((rd_T33 l0 (ji63)).f3) ((rd_T33 l0 (ji63)).f4) ((rd_T33 l0 (ji66)).f0) ((rd_T33 l0 (ji66)).f1) ((rd_T33 l0 (ji66)).f2) ((rd_T33 l0 (ji66)).f3) ((rd_T33 l0 (ji66)).f4) t135 _ A69.out).mono ?_
             rintro e w76 ⟨rfl, hb⟩
             have HS0_ := (hb.cell (World.block_lt_of_cell? _ _ (hHeld.1))).trans (hHeld.1)
             have HS1_ := (hb.cell (World.block_lt_of_cell? _ _ (hHeld.2.1))).trans (hHeld.2.1)
             have HS2_ := (hb.cell (World.block_lt_of_cell? _ _ (hHeld.2.2.1))).trans (hHeld.2.2.1)
             have HS3_ := (hb.cell (World.block_lt_of_cell? _ _ (hHeld.2.2.2.1))).trans (hHeld.2.2.2.1)
             have HS4_ := (hb.cell (World.block_lt_of_cell? _ _ (hHeld.2.2.2.2.1))).trans (hHeld.2.2.2.2.1)
             have HS5_ := (hb.cell (World.block_lt_of_cell? _ _ (hHeld.2.2.2.2.2.1))).trans (hHeld.2.2.2.2.2.1)
             have HS6_ := (hb.cell (World.block_lt_of_cell? _ _ (hHeld.2.2.2.2.2.2.1))).trans (hHeld.2.2.2.2.2.2.1)
             have HS7_ := (hb.cell (World.block_lt_of_cell? _ _ (hHeld.2.2.2.2.2.2.2.1))).trans (hHeld.2.2.2.2.2.2.2.1)
             have HS8_ := (hb.cell (World.block_lt_of_cell? _ _ (hHeld.2.2.2.2.2.2.2.2.1))).trans (hHeld.2.2.2.2.2.2.2.2.1)
             have HS9_ := (hb.cell (World.block_lt_of_cell? _ _ (hHeld.2.2.2.2.2.2.2.2.2))).trans (hHeld.2.2.2.2.2.2.2.2.2)
             refine ⟨_, rfl, ?_⟩
             have n0_ := Aside0.mk (Kd.R_below (by (with_reducible repeat ((apply Kd.R_alloc))); exact HO_0.out) hb)
             have n1_ := Aside0.mk (Kept.below (S := (fun k_ => P0_ k_)) (by repeat ((with_reducible (exact HK.out)))) hb)
             have n2_ := Aside0.mk (below_step (by repeat ((with_reducible (exact HB.out)))) hb)
             clear HO_0
             clear HK
             clear HB
             have HO_0 := n0_
             have HK := n1_
             have HB := n2_
             clear n0_ n1_ n2_
             (try clear hb)
             refine hK.out _ _ ⟨HS0_, HS1_, HS2_, HS3_, HS4_, HS5_, HS6_, HS7_, HS8_, HS9_⟩ (fun hHeld => ?_)
             clear hK K
             refine norm_ (a' := ?_) ?_ ?_
             rotate_left
             ·show Act.put _ (some 169) _ = _
              simp only [Act.put, List.setIfInBounds_toArray, List.set_cons_zero, List.set_cons_succ, i64_w, i32_w]
              rfl
             refine pure_ (i := 12) (N := some 170) (v := ?_) (a' := ?_) #[true, true, true, true, true, true, true, true, true, true, true, true, true, false] rfl rfl (any_of HT_.out (by kernel_rfl)) (fun _ _ _ h => h) (Or.inl ⟨by rfl, ?_⟩) ?_ ?_
             rotate_left
             ·intro w'
              go_simp
              with_reducible rfl
             rotate_left
             ·simp only [Act.put, List.setIfInBounds_toArray, List.set_cons_zero, List.set_cons_succ, i64_w, i32_w]
              rfl
             refine pure_ (i := 13) (N := some 171) (v := ?_) (a' := ?_) #[true, true, true, true, true, true, true, true, true, true, true, true, true, true] rfl rfl (any_of HT_.out (by kernel_rfl)) (fun _ _ _ h => h) (Or.inl ⟨by rfl, ?_⟩) ?_ ?_
             rotate_left
             ·intro w'
              go_simp
              with_reducible rfl
             rotate_left
             ·simp only [Act.put, List.setIfInBounds_toArray, List.set_cons_zero, List.set_cons_succ, i64_w, i32_w]
              rfl
             refine done_ (done_of HT_.out (by kernel_rfl)) ?_
             (try go_wp2)
             go_roundg k2
             case measure => have := HJ59.out; have := HK2.out; omega
             case rel => exact ⟨(wrap64 ((ji66) + 1)), (x21_2), (by rfl), (by rfl), H', ⟨by have := HJ59.out; have := HK2.out; omega⟩, ⟨by (with_reducible repeat ((apply Kd.R_alloc))); exact HO_0.out⟩, ⟨by repeat ((with_reducible (exact HK.out)))⟩, ⟨by repeat ((with_reducible (exact HB.out)))⟩⟩
           ·rw [if_neg c68] at H
            exact absurd H (by simp)
          ·rw [if_neg c67] at H
           exact absurd H (by simp)
         ·rw [if_neg c65] at H
          exact absurd H (by simp)
        ·rw [if_neg c64] at H
         exact absurd H (by simp)
       ·rw [if_neg c62] at H
        have c62b0 : decide (x20_2 < x21_2) = false := decide_eq_false c62
        clear c62
        have HC77 := Aside0.mk H
        clear H
        go_upto_region 39 with (fail)
        go_cut [185] (fun v185 wc => ∃ (kq : Nat) (x185_76 : Bool), v185 = .bool x185_76 ∧ Aside0 (api_RR_79.j6 kq l0 a1 a2 a3 a4 (wrap64 ((IntKind.u64.wrap (wrap64 (a1 + a3))) / 2)) x20_2 (wrap64 ((wrap64 ((wrap64 ((IntKind.u64.wrap (wrap64 (a1 + a3))) / 2)) + a2)) - x20_2)) x185_76 = some r) ∧ Aside0 (kq ≤ k2) ∧ Aside0 (Kd.R k33 33 wc w0.heap.size (fun k_ => (P0_ k_ ∨ w.heap.size ≤ k_)) u9000_ l0) ∧ Aside0 (Kept w wc (fun k_ => P0_ k_)) ∧ Aside0 (Below w0.heap.size w0 wc))
        case first =>
         have H := HC77.out
         clear HC77
         by_cases c78 : x20_2 < a2
         ·rw [if_pos c78] at H
          have c78b0 : decide (x20_2 < a2) = true := decide_eq_true c78
          clear c78
          (skip)
          have H' := Aside0.mk H
          clear H
          go_wp2
          go_meet
          case rel => exact ⟨_, (decide (a2 < (wrap64 ((wrap64 ((wrap64 ((IntKind.u64.wrap (wrap64 (a1 + a3))) / 2)) + a2)) - x20_2)))), (by rfl), H', ⟨by have := HJ59.out; have := HK2.out; omega⟩, ⟨by (with_reducible repeat ((apply Kd.R_alloc))); exact HO_0.out⟩, ⟨by repeat ((with_reducible (exact HK.out)))⟩, ⟨by repeat ((with_reducible (exact HB.out)))⟩⟩
         ·rw [if_neg c78] at H
          have c78b0 : decide (x20_2 < a2) = false := decide_eq_false c78
          clear c78
          (skip)
          have H' := Aside0.mk H
          clear H
          go_wp2
          go_meet
          case rel => exact ⟨_, (false), (by rfl), H', ⟨by have := HJ59.out; have := HK2.out; omega⟩, ⟨by (with_reducible repeat ((apply Kd.R_alloc))); exact HO_0.out⟩, ⟨by repeat ((with_reducible (exact HK.out)))⟩, ⟨by repeat ((with_reducible (exact HB.out)))⟩⟩
        case rest =>
         as_aux_lemma =>
         clear HC77
         (try clear c62b0)
         obtain ⟨kq, x185_76, rfl, HA, HJ76, HO_0, HK, HB⟩ := hcut
         cases kq with
         | zero => exact absurd HA.out (by simp [api_RR_79.j6])
         | succ kj76 =>
          have H := HA.out
          clear HA
          simp only [api_RR_79.j6] at H
          have HC79 := Aside0.mk H
          clear H
          go_upto_if 185 with (fail)
          go_cut [] (fun wc => ∃ (kq : Nat) (x0_78 : List (S33)), Aside0 (api_RR_79.j7 kq x0_78 a1 a3 a4 (wrap64 ((IntKind.u64.wrap (wrap64 (a1 + a3))) / 2)) x20_2 (wrap64 ((wrap64 ((wrap64 ((IntKind.u64.wrap (wrap64 (a1 + a3))) / 2)) + a2)) - x20_2)) = some r) ∧ Aside0 (kq ≤ kj76) ∧ Aside0 (Kd.R k33 33 wc w0.heap.size (fun k_ => (P0_ k_ ∨ w.heap.size ≤ k_)) u9000_ x0_78) ∧ Aside0 (Kept w wc (fun k_ => P0_ k_)) ∧ Aside0 (Below w0.heap.size w0 wc))
          case first =>
           have H := HC79.out
           clear HC79
           by_cases c80 : x185_76 = true
           ·subst c80
            have H1 : ((api_RR_92.f kj76 l0 x20_2 a2 (wrap64 ((wrap64 ((wrap64 ((IntKind.u64.wrap (wrap64 (a1 + a3))) / 2)) + a2)) - x20_2)) a4).bind fun t136 => (api_RR_79.j7 kj76 t136 a1 a3 a4 (wrap64 ((IntKind.u64.wrap (wrap64 (a1 + a3))) / 2)) x20_2 (wrap64 ((wrap64 ((wrap64 ((IntKind.u64.wrap (wrap64 (a1 + a3))) / 2)) + a2)) - x20_2)))) = some r := by rw [if_pos rfl] at H; exact H
            clear H
            have H := H1
            clear H1
            replace H := Option.bind_eq_some_iff.mp H
            obtain ⟨t136, A810, H⟩ := H
            replace H : (api_RR_79.j7 kj76 t136 a1 a3 a4 (wrap64 ((IntKind.u64.wrap (wrap64 (a1 + a3))) / 2)) x20_2 (wrap64 ((wrap64 ((wrap64 ((IntKind.u64.wrap (wrap64 (a1 + a3))) / 2)) + a2)) - x20_2))) = some r := H
            have A81 := Aside0.mk A810
            clear A810
            have H' := Aside0.mk H
            clear H
            obtain ⟨Ao82, co82, eo82⟩ := Kd.R_slice HO_0.out
            subst eo82
            go_wp2_with ((((with_reducible refine gate_callee (f := 92) rfl ?_); refine goesL_ (some 191) rfl rfl Try.func92 (by kernel_rfl) rfl #[.slice Ao82 l0.length co82, .int .i64 x20_2, .int .i64 a2, .int .i64 (wrap64 ((wrap64 ((wrap64 ((IntKind.u64.wrap (wrap64 (a1 + a3))) / 2)) + a2)) - x20_2)), .func (.func 44) #[] #[]] rfl (by (try simp only [List.map_toArray, List.map_cons, List.map_nil]); rfl) ?_; (with_reducible refine (api_RR_92.calls kj76 (fun k_ => some k_ = (.slice Ao82 l0.length co82 : Value).ownBlock) (.slice Ao82 l0.length co82) l0 x20_2 a2 (wrap64 ((wrap64 ((wrap64 ((IntKind.u64.wrap (wrap64 (a1 + a3))) / 2)) + a2)) - x20_2)) a4 t136 w0 _ ?side1 ?side2 A81.out).mono ?_); (case side1 => repeat ((with_reducible (exact HB.out)))); (case side2 => exact Kd.R_tight rfl HO_0.out); rintro e w83 ⟨rfl, hy0, hb, hkp⟩; refine ⟨_, rfl, ?_⟩; have n0_ := Aside0.mk (Kd.R_reok rfl hy0 (fun k_ e_ => HO_0.out.1 k_ e_)); have n1_ := Aside0.mk (Kept.then_ (S := (fun k_ => P0_ k_)) (by repeat ((with_reducible (exact HK.out)))) hkp (fun k_ hs_ => (fun e_ => (HO_0.out.1 k_ e_.symm)) hs_)); have n2_ := Aside0.mk (hb); clear HO_0; clear HK; clear HB; have HO_0 := n0_; have HK := n1_; have HB := n2_; clear n0_ n1_ n2_; (try clear hb); (try clear hkp); (try clear hy0))))
            go_meet
            case rel => exact ⟨_, (t136), H', ⟨by have := HJ59.out; have := HK2.out; have := HJ76.out; omega⟩, ⟨by (with_reducible repeat ((apply Kd.R_alloc))); exact HO_0.out⟩, ⟨by repeat ((with_reducible (exact HK.out)))⟩, ⟨by repeat ((with_reducible (exact HB.out)))⟩⟩
           ·replace c80 := Bool.eq_false_iff.mpr c80
            subst c80
            have H1 : (api_RR_79.j7 kj76 l0 a1 a3 a4 (wrap64 ((IntKind.u64.wrap (wrap64 (a1 + a3))) / 2)) x20_2 (wrap64 ((wrap64 ((wrap64 ((IntKind.u64.wrap (wrap64 (a1 + a3))) / 2)) + a2)) - x20_2))) = some r := by rw [if_neg (show ¬ (false = true) by decide)] at H; exact H
            clear H
            have H := H1
            clear H1
            have H' := Aside0.mk H
            clear H
            go_wp2
            go_meet
            case rel => exact ⟨_, (l0), H', ⟨by have := HJ59.out; have := HK2.out; have := HJ76.out; omega⟩, ⟨by (with_reducible repeat ((apply Kd.R_alloc))); exact HO_0.out⟩, ⟨by repeat ((with_reducible (exact HK.out)))⟩, ⟨by repeat ((with_reducible (exact HB.out)))⟩⟩
          case rest =>
           clear HC79
           obtain ⟨kq, x0_78, HA, HJ78, HO_0, HK, HB⟩ := hcut
           cases kq with
           | zero => exact absurd HA.out (by simp [api_RR_79.j7])
           | succ kj78 =>
            have H := HA.out
            clear HA
            simp only [api_RR_79.j7] at H
            have HC84 := Aside0.mk H
            clear H
            go_upto_region 41 with (fail)
            go_cut [199] (fun v199 wc => ∃ (kq : Nat) (x199_83 : Bool), v199 = .bool x199_83 ∧ Aside0 (api_RR_79.j8 kq x0_78 a1 a3 a4 (wrap64 ((IntKind.u64.wrap (wrap64 (a1 + a3))) / 2)) x20_2 (wrap64 ((wrap64 ((wrap64 ((IntKind.u64.wrap (wrap64 (a1 + a3))) / 2)) + a2)) - x20_2)) x199_83 = some r) ∧ Aside0 (kq ≤ kj78) ∧ Aside0 (Kd.R k33 33 wc w0.heap.size (fun k_ => (P0_ k_ ∨ w.heap.size ≤ k_)) u9000_ x0_78) ∧ Aside0 (Kept w wc (fun k_ => P0_ k_)) ∧ Aside0 (Below w0.heap.size w0 wc))
            case first =>
             have H := HC84.out
             clear HC84
             by_cases c85 : a1 < x20_2
             ·rw [if_pos c85] at H
              have c85b0 : decide (a1 < x20_2) = true := decide_eq_true c85
              clear c85
              (skip)
              have H' := Aside0.mk H
              clear H
              go_wp2
              go_meet
              case rel => exact ⟨_, (decide (x20_2 < (wrap64 ((IntKind.u64.wrap (wrap64 (a1 + a3))) / 2)))), (by rfl), H', ⟨by have := HJ59.out; have := HK2.out; have := HJ76.out; have := HJ78.out; omega⟩, ⟨by (with_reducible repeat ((apply Kd.R_alloc))); exact HO_0.out⟩, ⟨by repeat ((with_reducible (exact HK.out)))⟩, ⟨by repeat ((with_reducible (exact HB.out)))⟩⟩
             ·rw [if_neg c85] at H
              have c85b0 : decide (a1 < x20_2) = false := decide_eq_false c85
              clear c85
              (skip)
              have H' := Aside0.mk H
              clear H
              go_wp2
              go_meet
              case rel => exact ⟨_, (false), (by rfl), H', ⟨by have := HJ59.out; have := HK2.out; have := HJ76.out; have := HJ78.out; omega⟩, ⟨by (with_reducible repeat ((apply Kd.R_alloc))); exact HO_0.out⟩, ⟨by repeat ((with_reducible (exact HK.out)))⟩, ⟨by repeat ((with_reducible (exact HB.out)))⟩⟩
            case rest =>
             clear HC84
             obtain ⟨kq, x199_83, rfl, HA, HJ83, HO_0, HK, HB⟩ := hcut
             cases kq with
             | zero => exact absurd HA.out (by simp [api_RR_79.j8])
             | succ kj83 =>
              have H := HA.out
              clear HA
              simp only [api_RR_79.j8] at H
              by_cases c86 : x199_83 = true
              ·subst c86
               have H1 : ((api_RR_79.f kj83 x0_78 a1 x20_2 (wrap64 ((IntKind.u64.wrap (wrap64 (a1 + a3))) / 2)) a4).bind fun t137 => (if (wrap64 ((IntKind.u64.wrap (wrap64 (a1 + a3))) / 2)) < (wrap64 ((wrap64 ((wrap64 ((IntKind.u64.wrap (wrap64 (a1 + a3))) / 2)) + a2)) - x20_2)) then (if (wrap64 ((wrap64 ((wrap64 ((IntKind.u64.wrap (wrap64 (a1 + a3))) / 2)) + a2)) - x20_2)) < a3 then ((api_RR_79.f kj83 t137 (wrap64 ((IntKind.u64.wrap (wrap64 (a1 + a3))) / 2)) (wrap64 ((wrap64 ((wrap64 ((IntKind.u64.wrap (wrap64 (a1 + a3))) / 2)) + a2)) - x20_2)) a3 a4).bind fun t138 => (some t138)) else (some t137)) else (some t137))) = some r := by rw [if_pos rfl] at H; exact H
               clear H
               have H := H1
               clear H1
               replace H := Option.bind_eq_some_iff.mp H
               obtain ⟨t137, A870, H⟩ := H
               replace H : (if (wrap64 ((IntKind.u64.wrap (wrap64 (a1 + a3))) / 2)) < (wrap64 ((wrap64 ((wrap64 ((IntKind.u64.wrap (wrap64 (a1 + a3))) / 2)) + a2)) - x20_2)) then (if (wrap64 ((wrap64 ((wrap64 ((IntKind.u64.wrap (wrap64 (a1 + a3))) / 2)) + a2)) - x20_2)) < a3 then ((api_RR_79.f kj83 t137 (wrap64 ((IntKind.u64.wrap (wrap64 (a1 + a3))) / 2)) (wrap64 ((wrap64 ((wrap64 ((IntKind.u64.wrap (wrap64 (a1 + a3))) / 2)) + a2)) - x20_2)) a3 a4).bind fun t138 => (some t138)) else (some t137)) else (some t137)) = some r := H
               have A87 := Aside0.mk A870
               clear A870
               by_cases c88 : (wrap64 ((IntKind.u64.wrap (wrap64 (a1 + a3))) / 2)) < (wrap64 ((wrap64 ((wrap64 ((IntKind.u64.wrap (wrap64 (a1 + a3))) / 2)) + a2)) - x20_2))
               ·rw [if_pos c88] at H
                have c88b0 : decide ((wrap64 ((IntKind.u64.wrap (wrap64 (a1 + a3))) / 2)) < (wrap64 ((wrap64 ((wrap64 ((IntKind.u64.wrap (wrap64 (a1 + a3))) / 2)) + a2)) - x20_2))) = true := decide_eq_true c88
                clear c88
                by_cases c89 : (wrap64 ((wrap64 ((wrap64 ((IntKind.u64.wrap (wrap64 (a1 + a3))) / 2)) + a2)) - x20_2)) < a3
                ·rw [if_pos c89] at H
                 have c89b0 : decide ((wrap64 ((wrap64 ((wrap64 ((IntKind.u64.wrap (wrap64 (a1 + a3))) / 2)) + a2)) - x20_2)) < a3) = true := decide_eq_true c89
                 clear c89
                 replace H := Option.bind_eq_some_iff.mp H
                 obtain ⟨t138, A900, H⟩ := H
                 replace H : (some t138) = some r := H
                 have A90 := Aside0.mk A900
                 clear A900
                 obtain rfl := Option.some.inj H
                 obtain ⟨Ao91, co91, eo91⟩ := Kd.R_slice HO_0.out
                 subst eo91
                 go_wp2_with (first | ((with_reducible refine gate_callee (f := 79) rfl ?_); refine goesL_ (some 205) rfl rfl Try.func79 (by kernel_rfl) rfl #[.slice Ao91 x0_78.length co91, .int .i64 a1, .int .i64 x20_2, .int .i64 (wrap64 ((IntKind.u64.wrap (wrap64 (a1 + a3))) / 2)), .func (.func 44) #[] #[]] rfl (by (try simp only [List.map_toArray, List.map_cons, List.map_nil]); rfl) ?_; (with_reducible refine (ih kj83 (by have := HJ59.out; have := HK2.out; have := HJ76.out; have := HJ78.out; have := HJ83.out; omega) (fun k_ => some k_ = (.slice Ao91 x0_78.length co91 : Value).ownBlock) (.slice Ao91 x0_78.length co91) x0_78 a1 x20_2 (wrap64 ((IntKind.u64.wrap (wrap64 (a1 + a3))) / 2)) a4 t137 w0 _ ?side1 ?side2 A87.out).mono ?_); (case side1 => repeat ((with_reducible (exact HB.out)))); (case side2 => exact Kd.R_tight rfl HO_0.out); rintro e w92 ⟨rfl, hy0, hb, hkp⟩; refine ⟨_, rfl, ?_⟩; have n0_ := Aside0.mk (Kd.R_reok rfl hy0 (fun k_ e_ => HO_0.out.1 k_ e_)); have n1_ := Aside0.mk (Kept.then_ (S := (fun k_ => P0_ k_)) (by repeat ((with_reducible (exact HK.out)))) hkp (fun k_ hs_ => (fun e_ => (HO_0.out.1 k_ e_.symm)) hs_)); have n2_ := Aside0.mk (hb); clear HO_0; clear HK; clear HB; have HO_0 := n0_; have HK := n1_; have HB := n2_; clear n0_ n1_ n2_; (try clear hb); (try clear hkp); (try clear hy0)) | ((with_reducible refine gate_callee (f := 79) rfl ?_); refine goesL_ (some 219) rfl rfl Try.func79 (by kernel_rfl) rfl #[.slice Ao91 x0_78.length co91, .int .i64 (wrap64 ((IntKind.u64.wrap (wrap64 (a1 + a3))) / 2)), .int .i64 (wrap64 ((wrap64 ((wrap64 ((IntKind.u64.wrap (wrap64 (a1 + a3))) / 2)) + a2)) - x20_2)), .int .i64 a3, .func (.func 44) #[] #[]] rfl (by (try simp only [List.map_toArray, List.map_cons, List.map_nil]); rfl) ?_; (with_reducible refine (ih kj83 (by have := HJ59.out; have := HK2.out; have := HJ76.out; have := HJ78.out; have := HJ83.out; omega) (fun k_ => some k_ = (.slice Ao91 x0_78.length co91 : Value).ownBlock) (.slice Ao91 x0_78.length co91) t137 (wrap64 ((IntKind.u64.wrap (wrap64 (a1 + a3))) / 2)) (wrap64 ((wrap64 ((wrap64 ((IntKind.u64.wrap (wrap64 (a1 + a3))) / 2)) + a2)) - x20_2)) a3 a4 t138 w0 _ ?side1 ?side2 A90.out).mono ?_); (case side1 => repeat ((with_reducible (exact HB.out)))); (case side2 => exact Kd.R_tight rfl HO_0.out); rintro e w93 ⟨rfl, hy0, hb, hkp⟩; refine ⟨_, rfl, ?_⟩; have n0_ := Aside0.mk (Kd.R_reok rfl hy0 (fun k_ e_ => HO_0.out.1 k_ e_)); have n1_ := Aside0.mk (Kept.then_ (S := (fun k_ => P0_ k_)) (by repeat ((with_reducible (exact HK.out)))) hkp (fun k_ hs_ => (fun e_ => (HO_0.out.1 k_ e_.symm)) hs_)); have n2_ := Aside0.mk (hb); clear HO_0; clear HK; clear HB; have HO_0 := n0_; have HK := n1_; have HB := n2_; clear n0_ n1_ n2_; (try clear hb); (try clear hkp); (try clear hy0)))
                 go_end0
                 exact ⟨by rfl, by (with_reducible repeat ((apply Kd.R_alloc))); exact HO_0.out, by repeat ((with_reducible (exact HB.out))), by repeat ((with_reducible (exact HK.out)))⟩
                ·rw [if_neg c89] at H
                 have c89b0 : decide ((wrap64 ((wrap64 ((wrap64 ((IntKind.u64.wrap (wrap64 (a1 + a3))) / 2)) + a2)) - x20_2)) < a3) = false := decide_eq_false c89
                 clear c89
                 obtain rfl := Option.some.inj H
                 obtain ⟨Ao94, co94, eo94⟩ := Kd.R_slice HO_0.out
                 subst eo94
                 go_wp2_with ((((with_reducible refine gate_callee (f := 79) rfl ?_); refine goesL_ (some 205) rfl rfl Try.func79 (by kernel_rfl) rfl #[.slice Ao94 x0_78.length co94, .int .i64 a1, .int .i64 x20_2, .int .i64 (wrap64 ((IntKind.u64.wrap (wrap64 (a1 + a3))) / 2)), .func (.func 44) #[] #[]] rfl (by (try simp only [List.map_toArray, List.map_cons, List.map_nil]); rfl) ?_; (with_reducible refine (ih kj83 (by have := HJ59.out; have := HK2.out; have := HJ76.out; have := HJ78.out; have := HJ83.out; omega) (fun k_ => some k_ = (.slice Ao94 x0_78.length co94 : Value).ownBlock) (.slice Ao94 x0_78.length co94) x0_78 a1 x20_2 (wrap64 ((IntKind.u64.wrap (wrap64 (a1 + a3))) / 2)) a4 t137 w0 _ ?side1 ?side2 A87.out).mono ?_); (case side1 => repeat ((with_reducible (exact HB.out)))); (case side2 => exact Kd.R_tight rfl HO_0.out); rintro e w95 ⟨rfl, hy0, hb, hkp⟩; refine ⟨_, rfl, ?_⟩; have n0_ := Aside0.mk (Kd.R_reok rfl hy0 (fun k_ e_ => HO_0.out.1 k_ e_)); have n1_ := Aside0.mk (Kept.then_ (S := (fun k_ => P0_ k_)) (by repeat ((with_reducible (exact HK.out)))) hkp (fun k_ hs_ => (fun e_ => (HO_0.out.1 k_ e_.symm)) hs_)); have n2_ := Aside0.mk (hb); clear HO_0; clear HK; clear HB; have HO_0 := n0_; have HK := n1_; have HB := n2_; clear n0_ n1_ n2_; (try clear hb); (try clear hkp); (try clear hy0))))
                 go_end0
                 exact ⟨by rfl, by (with_reducible repeat ((apply Kd.R_alloc))); exact HO_0.out, by repeat ((with_reducible (exact HB.out))), by repeat ((with_reducible (exact HK.out)))⟩
               ·rw [if_neg c88] at H
                have c88b0 : decide ((wrap64 ((IntKind.u64.wrap (wrap64 (a1 + a3))) / 2)) < (wrap64 ((wrap64 ((wrap64 ((IntKind.u64.wrap (wrap64 (a1 + a3))) / 2)) + a2)) - x20_2))) = false := decide_eq_false c88
                clear c88
                obtain rfl := Option.some.inj H
                obtain ⟨Ao96, co96, eo96⟩ := Kd.R_slice HO_0.out
                subst eo96
                go_wp2_with ((((with_reducible refine gate_callee (f := 79) rfl ?_); refine goesL_ (some 205) rfl rfl Try.func79 (by kernel_rfl) rfl #[.slice Ao96 x0_78.length co96, .int .i64 a1, .int .i64 x20_2, .int .i64 (wrap64 ((IntKind.u64.wrap (wrap64 (a1 + a3))) / 2)), .func (.func 44) #[] #[]] rfl (by (try simp only [List.map_toArray, List.map_cons, List.map_nil]); rfl) ?_; (with_reducible refine (ih kj83 (by have := HJ59.out; have := HK2.out; have := HJ76.out; have := HJ78.out; have := HJ83.out; omega) (fun k_ => some k_ = (.slice Ao96 x0_78.length co96 : Value).ownBlock) (.slice Ao96 x0_78.length co96) x0_78 a1 x20_2 (wrap64 ((IntKind.u64.wrap (wrap64 (a1 + a3))) / 2)) a4 t137 w0 _ ?side1 ?side2 A87.out).mono ?_); (case side1 => repeat ((with_reducible (exact HB.out)))); (case side2 => exact Kd.R_tight rfl HO_0.out); rintro e w97 ⟨rfl, hy0, hb, hkp⟩; refine ⟨_, rfl, ?_⟩; have n0_ := Aside0.mk (Kd.R_reok rfl hy0 (fun k_ e_ => HO_0.out.1 k_ e_)); have n1_ := Aside0.mk (Kept.then_ (S := (fun k_ => P0_ k_)) (by repeat ((with_reducible (exact HK.out)))) hkp (fun k_ hs_ => (fun e_ => (HO_0.out.1 k_ e_.symm)) hs_)); have n2_ := Aside0.mk (hb); clear HO_0; clear HK; clear HB; have HO_0 := n0_; have HK := n1_; have HB := n2_; clear n0_ n1_ n2_; (try clear hb); (try clear hkp); (try clear hy0))))
                go_end0
                exact ⟨by rfl, by (with_reducible repeat ((apply Kd.R_alloc))); exact HO_0.out, by repeat ((with_reducible (exact HB.out))), by repeat ((with_reducible (exact HK.out)))⟩
              ·replace c86 := Bool.eq_false_iff.mpr c86
               subst c86
               have H1 : (if (wrap64 ((IntKind.u64.wrap (wrap64 (a1 + a3))) / 2)) < (wrap64 ((wrap64 ((wrap64 ((IntKind.u64.wrap (wrap64 (a1 + a3))) / 2)) + a2)) - x20_2)) then (if (wrap64 ((wrap64 ((wrap64 ((IntKind.u64.wrap (wrap64 (a1 + a3))) / 2)) + a2)) - x20_2)) < a3 then ((api_RR_79.f kj83 x0_78 (wrap64 ((IntKind.u64.wrap (wrap64 (a1 + a3))) / 2)) (wrap64 ((wrap64 ((wrap64 ((IntKind.u64.wrap (wrap64 (a1 + a3))) / 2)) + a2)) - x20_2)) a3 a4).bind fun t139 => (some t139)) else (some x0_78)) else (some x0_78)) = some r := by rw [if_neg (show ¬ (false = true) by decide)] at H; exact H
               clear H
               have H := H1
               clear H1
               by_cases c98 : (wrap64 ((IntKind.u64.wrap (wrap64 (a1 + a3))) / 2)) < (wrap64 ((wrap64 ((wrap64 ((IntKind.u64.wrap (wrap64 (a1 + a3))) / 2)) + a2)) - x20_2))
               ·rw [if_pos c98] at H
                have c98b0 : decide ((wrap64 ((IntKind.u64.wrap (wrap64 (a1 + a3))) / 2)) < (wrap64 ((wrap64 ((wrap64 ((IntKind.u64.wrap (wrap64 (a1 + a3))) / 2)) + a2)) - x20_2))) = true := decide_eq_true c98
                clear c98
                by_cases c99 : (wrap64 ((wrap64 ((wrap64 ((IntKind.u64.wrap (wrap64 (a1 + a3))) / 2)) + a2)) - x20_2)) < a3
                ·rw [if_pos c99] at H
                 have c99b0 : decide ((wrap64 ((wrap64 ((wrap64 ((IntKind.u64.wrap (wrap64 (a1 + a3))) / 2)) + a2)) - x20_2)) < a3) = true := decide_eq_true c99
                 clear c99
                 replace H := Option.bind_eq_some_iff.mp H
                 obtain ⟨t139, A1000, H⟩ := H
                 replace H : (some t139) = some r := H
                 have A100 := Aside0.mk A1000
                 clear A1000
                 obtain rfl := Option.some.inj H
                 obtain ⟨Ao101, co101, eo101⟩ := Kd.R_slice HO_0.out
                 subst eo101
                 go_wp2_with ((((with_reducible refine gate_callee (f := 79) rfl ?_); refine goesL_ (some 219) rfl rfl Try.func79 (by kernel_rfl) rfl #[.slice Ao101 x0_78.length co101, .int .i64 (wrap64 ((IntKind.u64.wrap (wrap64 (a1 + a3))) / 2)), .int .i64 (wrap64 ((wrap64 ((wrap64 ((IntKind.u64.wrap (wrap64 (a1 + a3))) / 2)) + a2)) - x20_2)), .int .i64 a3, .func (.func 44) #[] #[]] rfl (by (try simp only [List.map_toArray, List.map_cons, List.map_nil]); rfl) ?_; (with_reducible refine (ih kj83 (by have := HJ59.out; have := HK2.out; have := HJ76.out; have := HJ78.out; have := HJ83.out; omega) (fun k_ => some k_ = (.slice Ao101 x0_78.length co101 : Value).ownBlock) (.slice Ao101 x0_78.length co101) x0_78 (wrap64 ((IntKind.u64.wrap (wrap64 (a1 + a3))) / 2)) (wrap64 ((wrap64 ((wrap64 ((IntKind.u64.wrap (wrap64 (a1 + a3))) / 2)) + a2)) - x20_2)) a3 a4 t139 w0 _ ?side1 ?side2 A100.out).mono ?_); (case side1 => repeat ((with_reducible (exact HB.out)))); (case side2 => exact Kd.R_tight rfl HO_0.out); rintro e w102 ⟨rfl, hy0, hb, hkp⟩; refine ⟨_, rfl, ?_⟩; have n0_ := Aside0.mk (Kd.R_reok rfl hy0 (fun k_ e_ => HO_0.out.1 k_ e_)); have n1_ := Aside0.mk (Kept.then_ (S := (fun k_ => P0_ k_)) (by repeat ((with_reducible (exact HK.out)))) hkp (fun k_ hs_ => (fun e_ => (HO_0.out.1 k_ e_.symm)) hs_)); have n2_ := Aside0.mk (hb); clear HO_0; clear HK; clear HB; have HO_0 := n0_; have HK := n1_; have HB := n2_; clear n0_ n1_ n2_; (try clear hb); (try clear hkp); (try clear hy0))))
                 go_end0
                 exact ⟨by rfl, by (with_reducible repeat ((apply Kd.R_alloc))); exact HO_0.out, by repeat ((with_reducible (exact HB.out))), by repeat ((with_reducible (exact HK.out)))⟩
                ·rw [if_neg c99] at H
                 have c99b0 : decide ((wrap64 ((wrap64 ((wrap64 ((IntKind.u64.wrap (wrap64 (a1 + a3))) / 2)) + a2)) - x20_2)) < a3) = false := decide_eq_false c99
                 clear c99
                 obtain rfl := Option.some.inj H
                 go_wp2
                 go_end0
                 exact ⟨by rfl, by (with_reducible repeat ((apply Kd.R_alloc))); exact HO_0.out, by repeat ((with_reducible (exact HB.out))), by repeat ((with_reducible (exact HK.out)))⟩
               ·rw [if_neg c98] at H
                have c98b0 : decide ((wrap64 ((IntKind.u64.wrap (wrap64 (a1 + a3))) / 2)) < (wrap64 ((wrap64 ((wrap64 ((IntKind.u64.wrap (wrap64 (a1 + a3))) / 2)) + a2)) - x20_2))) = false := decide_eq_false c98
                clear c98
                obtain rfl := Option.some.inj H
                go_wp2
                go_end0
                exact ⟨by rfl, by (with_reducible repeat ((apply Kd.R_alloc))); exact HO_0.out, by repeat ((with_reducible (exact HB.out))), by repeat ((with_reducible (exact HK.out)))⟩
end Go.Proofs.Ytehdkopjgcoclaa.PSo
namespace Go.Proofs.Ytehdkopjgcoclaa.PSo
open Go.RowKit Go.Proofs.YtehdkopjgcoclaaW.PrintWords Go.Proofs.YtehdkopjgcoclaaW.PrintLast Go.Proofs.YtehdkopjgcoclaaW.PrintMore Go.Proofs.Ytehdkopjgcoclaa.Given Go.Proofs.Ytehdkopjgcoclaa.PRd Go.Proofs.Ytehdkopjgcoclaa.PRr
attribute [local go_sem] max2_int min2_int max_two min_two max_three min_three max_four min_four   -- for this text's walks alone
set_option linter.unusedVariables false
set_option linter.unusedSimpArgs false
mutual
def api_RR_63.l0 : Nat → List (S33) → Int → Int → Int → Int → Int → Option ((List (S33)))
 | 0, _, _, _, _, _, _ => none
 | k + 1, x0, x1, x2, x6, x7, x8 => if x8 ≤ x1 then ((api_RR_78.f k x0 x7 x8 x2).bind fun t140 => (api_RR_63.l0 k t140 x1 x2 x6 x8 (wrap64 (x8 + x6)))) else ((api_RR_78.f k x0 x7 x1 x2).bind fun t141 => (api_RR_63.l1 k t141 x1 x2 x6))
def api_RR_63.l1 : Nat → List (S33) → Int → Int → Int → Option ((List (S33)))
 | 0, _, _, _, _ => none
 | k + 1, x0, x1, x2, x6 => if x6 < x1 then (api_RR_63.l2 k x0 x1 x2 x6 0 (wrap64 (2 * x6))) else (some x0)
def api_RR_63.l2 : Nat → List (S33) → Int → Int → Int → Int → Int → Option ((List (S33)))
 | 0, _, _, _, _, _, _ => none
 | k + 1, x0, x1, x2, x6, x7, x8 => if x8 ≤ x1 then ((api_RR_79.f k x0 x7 (wrap64 (x7 + x6)) x8 x2).bind fun t142 => (api_RR_63.l2 k t142 x1 x2 x6 x8 (wrap64 (x8 + (wrap64 (2 * x6)))))) else (if (wrap64 (x7 + x6)) < x1 then ((api_RR_79.f k x0 x7 (wrap64 (x7 + x6)) x1 x2).bind fun t143 => (api_RR_63.l1 k t143 x1 x2 (wrap64 (x6 * 2)))) else (api_RR_63.l1 k x0 x1 x2 (wrap64 (x6 * 2))))
end
def api_RR_63.f (k : Nat) (l0 : List (S33)) (a1 : Int) (a2 : Int) : Option ((List (S33))) := api_RR_63.l0 k l0 a1 a2 20 0 20
set_option maxHeartbeats 8000000 in
set_option maxRecDepth 100000 in
theorem api_RR_63.calls (k : Nat) (P0_ : Nat → Prop) (u9000_ : Value) (l0 : List (S33)) (a1 : Int) (a2 : Int) (r : List (S33)) (w0 w : World) (hB : Below w0.heap.size w0 w) (ho0 : Kd.R k33 33 w w0.heap.size P0_ u9000_ l0) (h : api_RR_63.f k l0 a1 a2 = some r) :
  Calls Try.prog 63 #[u9000_, .int .i64 a1, .func (.func 44) #[] #[]] w fun e w' => e = .returned (.tuple #[]) ∧ Kd.R k33 33 w' w0.heap.size (fun k_ => (P0_ k_ ∨ w.heap.size ≤ k_)) u9000_ r ∧ Below w0.heap.size w0 w' ∧ Kept w w' (fun k_ => P0_ k_) := by
 have HO0 := Aside0.mk (show Kd.R k33 33 w w0.heap.size (fun k_ => (P0_ k_ ∨ w.heap.size ≤ k_)) u9000_ l0 from Kd.R_mono ho0 (fun k_ hk => (.inl hk)))
 have HK := Aside0.mk (Kept.refl w (fun k_ => P0_ k_))
 have HW0 := Aside0.mk hB.size
 have HB := Aside0.mk hB
 clear hB
 have H : (api_RR_63.l0 k l0 a1 a2 20 0 20) = some r := h
 clear h
 have H' := Aside0.mk H
 clear H
 go_enter Try.func63, Try.ntmps63
 go_wp2
 go_loopg [7, 8] k (fun kq v7 v8 w' => ∃ (x0_1 : List (S33)) (x7_1 : Int) (x8_1 : Int), v7 = .int .i64 x7_1 ∧ v8 = .int .i64 x8_1 ∧ Aside0 (api_RR_63.l0 kq x0_1 a1 a2 20 x7_1 x8_1 = some r) ∧ Aside0 (kq ≤ k) ∧ Aside0 (Kd.R k33 33 w' w0.heap.size (fun k_ => (P0_ k_ ∨ w.heap.size ≤ k_)) u9000_ x0_1) ∧ Aside0 (Kept w w' (fun k_ => P0_ k_)) ∧ Aside0 (Below w0.heap.size w0 w'))
 case atStart => exact ⟨(l0), (0), (20), (by rfl), (by rfl), H', ⟨Nat.le_refl _⟩, ⟨by (with_reducible repeat ((apply Kd.R_alloc))); exact HO0.out⟩, ⟨by repeat ((with_reducible (exact HK.out)))⟩, ⟨by repeat ((with_reducible (exact HB.out)))⟩⟩
 case round =>
  clear H'
  obtain ⟨x0_1, x7_1, x8_1, rfl, rfl, HA, HK1, HO_0, HK, HB⟩ := hrel
  cases gk with
  | zero => exact absurd HA.out (by simp [api_RR_63.l0])
  | succ k1 =>
   have H := HA.out
   clear HA
   simp only [api_RR_63.l0] at H
   by_cases c4 : x8_1 ≤ a1
   ·rw [if_pos c4] at H
    have c4b0 : decide (x8_1 ≤ a1) = true := decide_eq_true c4
    clear c4
    replace H := Option.bind_eq_some_iff.mp H
    obtain ⟨t140, A50, H⟩ := H
    replace H : (api_RR_63.l0 k1 t140 a1 a2 20 x8_1 (wrap64 (x8_1 + 20))) = some r := H
    have A5 := Aside0.mk A50
    clear A50
    have H' := Aside0.mk H
    clear H
    obtain ⟨Ao6, co6, eo6⟩ := Kd.R_slice HO_0.out
    subst eo6
    go_wp2_with ((((with_reducible refine gate_callee (f := 78) rfl ?_); refine goesL_ (some 18) rfl rfl Try.func78 (by kernel_rfl) rfl #[.slice Ao6 x0_1.length co6, .int .i64 x7_1, .int .i64 x8_1, .func (.func 44) #[] #[]] rfl (by (try simp only [List.map_toArray, List.map_cons, List.map_nil]); rfl) ?_; (with_reducible refine (api_RR_78.calls k1 (fun k_ => some k_ = (.slice Ao6 x0_1.length co6 : Value).ownBlock) (.slice Ao6 x0_1.length co6) x0_1 x7_1 x8_1 a2 t140 w0 _ ?side1 ?side2 A5.out).mono ?_); (case side1 => repeat ((with_reducible (exact HB.out)))); (case side2 => exact Kd.R_tight rfl HO_0.out); rintro e w7 ⟨rfl, hy0, hb, hkp⟩; refine ⟨_, rfl, ?_⟩; have n0_ := Aside0.mk (Kd.R_reok rfl hy0 (fun k_ e_ => HO_0.out.1 k_ e_)); have n1_ := Aside0.mk (Kept.then_ (S := (fun k_ => P0_ k_)) (by repeat ((with_reducible (exact HK.out)))) hkp (fun k_ hs_ => (fun e_ => (HO_0.out.1 k_ e_.symm)) hs_)); have n2_ := Aside0.mk (hb); clear HO_0; clear HK; clear HB; have HO_0 := n0_; have HK := n1_; have HB := n2_; clear n0_ n1_ n2_; (try clear hb); (try clear hkp); (try clear hy0))))
    go_roundg k1
    case measure => have := HK1.out; omega
    case rel => exact ⟨(t140), (x8_1), (wrap64 (x8_1 + 20)), (by rfl), (by rfl), H', ⟨by have := HK1.out; omega⟩, ⟨by (with_reducible repeat ((apply Kd.R_alloc))); exact HO_0.out⟩, ⟨by repeat ((with_reducible (exact HK.out)))⟩, ⟨by repeat ((with_reducible (exact HB.out)))⟩⟩
   ·rw [if_neg c4] at H
    have c4b0 : decide (x8_1 ≤ a1) = false := decide_eq_false c4
    clear c4
    replace H := Option.bind_eq_some_iff.mp H
    obtain ⟨t141, A80, H⟩ := H
    replace H : (api_RR_63.l1 k1 t141 a1 a2 20) = some r := H
    have A8 := Aside0.mk A80
    clear A80
    have H' := Aside0.mk H
    clear H
    obtain ⟨Ao9, co9, eo9⟩ := Kd.R_slice HO_0.out
    subst eo9
    go_wp2_with ((((with_reducible refine gate_callee (f := 78) rfl ?_); refine goesL_ (some 27) rfl rfl Try.func78 (by kernel_rfl) rfl #[.slice Ao9 x0_1.length co9, .int .i64 x7_1, .int .i64 a1, .func (.func 44) #[] #[]] rfl (by (try simp only [List.map_toArray, List.map_cons, List.map_nil]); rfl) ?_; (with_reducible refine (api_RR_78.calls k1 (fun k_ => some k_ = (.slice Ao9 x0_1.length co9 : Value).ownBlock) (.slice Ao9 x0_1.length co9) x0_1 x7_1 a1 a2 t141 w0 _ ?side1 ?side2 A8.out).mono ?_); (case side1 => repeat ((with_reducible (exact HB.out)))); (case side2 => exact Kd.R_tight rfl HO_0.out); rintro e w10 ⟨rfl, hy0, hb, hkp⟩; refine ⟨_, rfl, ?_⟩; have n0_ := Aside0.mk (Kd.R_reok rfl hy0 (fun k_ e_ => HO_0.out.1 k_ e_)); have n1_ := Aside0.mk (Kept.then_ (S := (fun k_ => P0_ k_)) (by repeat ((with_reducible (exact HK.out)))) hkp (fun k_ hs_ => (fun e_ => (HO_0.out.1 k_ e_.symm)) hs_)); have n2_ := Aside0.mk (hb); clear HO_0; clear HK; clear HB; have HO_0 := n0_; have HK := n1_; have HB := n2_; clear n0_ n1_ n2_; (try clear hb); (try clear hkp); (try clear hy0))))
    go_simp
    go_loopg [6] k1 (fun kq v6 w' => ∃ (x0_2 : List (S33)) (x6_2 : Int), v6 = .int .i64 x6_2 ∧ Aside0 (api_RR_63.l1 kq x0_2 a1 a2 x6_2 = some r) ∧ Aside0 (kq ≤ k1) ∧ Aside0 (Kd.R k33 33 w' w0.heap.size (fun k_ => (P0_ k_ ∨ w.heap.size ≤ k_)) (.slice Ao9 x0_1.length co9) x0_2) ∧ Aside0 (Kept w w' (fun k_ => P0_ k_)) ∧ Aside0 (Below w0.heap.size w0 w'))
    case atStart => exact ⟨(t141), (20), (by rfl), H', ⟨Nat.le_refl _⟩, ⟨by (with_reducible repeat ((apply Kd.R_alloc))); exact HO_0.out⟩, ⟨by repeat ((with_reducible (exact HK.out)))⟩, ⟨by repeat ((with_reducible (exact HB.out)))⟩⟩
    case round =>
     clear H'
     (try clear c4b0)
     obtain ⟨x0_2, x6_2, rfl, HA, HK2, HO_0, HK, HB⟩ := hrel
     have hl0_2 := (Kd.R_reads' HO_0.out).1
     rw [hl0_2] at HO_0
     (try simp only [hl0_2])
     cases gk with
     | zero => exact absurd HA.out (by simp [api_RR_63.l1])
     | succ k2 =>
      have H := HA.out
      clear HA
      simp only [api_RR_63.l1] at H
      by_cases c11 : x6_2 < a1
      ·rw [if_pos c11] at H
       have c11b0 : decide (x6_2 < a1) = true := decide_eq_true c11
       clear c11
       have H' := Aside0.mk H
       clear H
       go_wp2
       go_loopg [7, 8] k2 (fun kq v7 v8 w' => ∃ (x0_3 : List (S33)) (x7_3 : Int) (x8_3 : Int), v7 = .int .i64 x7_3 ∧ v8 = .int .i64 x8_3 ∧ Aside0 (api_RR_63.l2 kq x0_3 a1 a2 x6_2 x7_3 x8_3 = some r) ∧ Aside0 (kq ≤ k2) ∧ Aside0 (Kd.R k33 33 w' w0.heap.size (fun k_ => (P0_ k_ ∨ w.heap.size ≤ k_)) (.slice Ao9 x0_2.length co9) x0_3) ∧ Aside0 (Kept w w' (fun k_ => P0_ k_)) ∧ Aside0 (Below w0.heap.size w0 w'))
       case atStart => exact ⟨(x0_2), (0), (wrap64 (2 * x6_2)), (by rfl), (by rfl), H', ⟨Nat.le_refl _⟩, ⟨by (with_reducible repeat ((apply Kd.R_alloc))); exact HO_0.out⟩, ⟨by repeat ((with_reducible (exact HK.out)))⟩, ⟨by repeat ((with_reducible (exact HB.out)))⟩⟩
       case round =>
        clear H'
        (try clear c11b0)
        obtain ⟨x0_3, x7_3, x8_3, rfl, rfl, HA, HK3, HO_0, HK, HB⟩ := hrel
        have hl0_3 := (Kd.R_reads' HO_0.out).1
        rw [hl0_3] at HO_0
        (try simp only [hl0_3])
        cases gk with
        | zero => exact absurd HA.out (by simp [api_RR_63.l2])
        | succ k3 =>
         have H := HA.out
         clear HA
         simp only [api_RR_63.l2] at H
         by_cases c12 : x8_3 ≤ a1
         ·rw [if_pos c12] at H
          have c12b0 : decide (x8_3 ≤ a1) = true := decide_eq_true c12
          clear c12
          replace H := Option.bind_eq_some_iff.mp H
          obtain ⟨t142, A130, H⟩ := H
          replace H : (api_RR_63.l2 k3 t142 a1 a2 x6_2 x8_3 (wrap64 (x8_3 + (wrap64 (2 * x6_2))))) = some r := H
          have A13 := Aside0.mk A130
          clear A130
          have H' := Aside0.mk H
          clear H
          go_wp2_with ((((with_reducible refine gate_callee (f := 79) rfl ?_); refine goesL_ (some 43) rfl rfl Try.func79 (by kernel_rfl) rfl #[.slice Ao9 x0_3.length co9, .int .i64 x7_3, .int .i64 (wrap64 (x7_3 + x6_2)), .int .i64 x8_3, .func (.func 44) #[] #[]] rfl (by (try simp only [List.map_toArray, List.map_cons, List.map_nil]); rfl) ?_; (with_reducible refine (api_RR_79.calls k3 (fun k_ => some k_ = (.slice Ao9 x0_3.length co9 : Value).ownBlock) (.slice Ao9 x0_3.length co9) x0_3 x7_3 (wrap64 (x7_3 + x6_2)) x8_3 a2 t142 w0 _ ?side1 ?side2 A13.out).mono ?_); (case side1 => repeat ((with_reducible (exact HB.out)))); (case side2 => exact Kd.R_tight rfl HO_0.out); rintro e w14 ⟨rfl, hy0, hb, hkp⟩; refine ⟨_, rfl, ?_⟩; have n0_ := Aside0.mk (Kd.R_reok rfl hy0 (fun k_ e_ => HO_0.out.1 k_ e_)); have n1_ := Aside0.mk (Kept.then_ (S := (fun k_ => P0_ k_)) (by repeat ((with_reducible (exact HK.out)))) hkp (fun k_ hs_ => (fun e_ => (HO_0.out.1 k_ e_.symm)) hs_)); have n2_ := Aside0.mk (hb); clear HO_0; clear HK; clear HB; have HO_0 := n0_; have HK := n1_; have HB := n2_; clear n0_ n1_ n2_; (try clear hb); (try clear hkp); (try clear hy0))))
          (try simp only [← hl0_3])
          go_roundg k3
          case measure => have := HK1.out; have := HK2.out; have := HK3.out; omega
          case rel => exact ⟨(t142), (x8_3), (wrap64 (x8_3 + (wrap64 (2 * x6_2)))), (by rfl), (by rfl), H', ⟨by have := HK1.out; have := HK2.out; have := HK3.out; omega⟩, ⟨by (try simp only [hl0_3]); (with_reducible repeat ((apply Kd.R_alloc))); exact HO_0.out⟩, ⟨by repeat ((with_reducible (exact HK.out)))⟩, ⟨by repeat ((with_reducible (exact HB.out)))⟩⟩
         ·rw [if_neg c12] at H
          have c12b0 : decide (x8_3 ≤ a1) = false := decide_eq_false c12
          clear c12
          by_cases c15 : (wrap64 (x7_3 + x6_2)) < a1
          ·rw [if_pos c15] at H
           have c15b0 : decide ((wrap64 (x7_3 + x6_2)) < a1) = true := decide_eq_true c15
           clear c15
           replace H := Option.bind_eq_some_iff.mp H
           obtain ⟨t143, A160, H⟩ := H
           replace H : (api_RR_63.l1 k3 t143 a1 a2 (wrap64 (x6_2 * 2))) = some r := H
           have A16 := Aside0.mk A160
           clear A160
           have H' := Aside0.mk H
           clear H
           go_wp2_with ((((with_reducible refine gate_callee (f := 79) rfl ?_); refine goesL_ (some 60) rfl rfl Try.func79 (by kernel_rfl) rfl #[.slice Ao9 x0_3.length co9, .int .i64 x7_3, .int .i64 (wrap64 (x7_3 + x6_2)), .int .i64 a1, .func (.func 44) #[] #[]] rfl (by (try simp only [List.map_toArray, List.map_cons, List.map_nil]); rfl) ?_; (with_reducible refine (api_RR_79.calls k3 (fun k_ => some k_ = (.slice Ao9 x0_3.length co9 : Value).ownBlock) (.slice Ao9 x0_3.length co9) x0_3 x7_3 (wrap64 (x7_3 + x6_2)) a1 a2 t143 w0 _ ?side1 ?side2 A16.out).mono ?_); (case side1 => repeat ((with_reducible (exact HB.out)))); (case side2 => exact Kd.R_tight rfl HO_0.out); rintro e w17 ⟨rfl, hy0, hb, hkp⟩; refine ⟨_, rfl, ?_⟩; have n0_ := Aside0.mk (Kd.R_reok rfl hy0 (fun k_ e_ => HO_0.out.1 k_ e_)); have n1_ := Aside0.mk (Kept.then_ (S := (fun k_ => P0_ k_)) (by repeat ((with_reducible (exact HK.out)))) hkp (fun k_ hs_ => (fun e_ => (HO_0.out.1 k_ e_.symm)) hs_)); have n2_ := Aside0.mk (hb); clear HO_0; clear HK; clear HB; have HO_0 := n0_; have HK := n1_; have HB := n2_; clear n0_ n1_ n2_; (try clear hb); (try clear hkp); (try clear hy0))))
           (try simp only [← hl0_2, ← hl0_3])
           go_roundg k3
           case measure => have := HK1.out; have := HK2.out; have := HK3.out; omega
           case rel => exact ⟨(t143), (wrap64 (x6_2 * 2)), (by rfl), H', ⟨by have := HK1.out; have := HK2.out; have := HK3.out; omega⟩, ⟨by (try simp only [hl0_2]); (try simp only [hl0_3]); (with_reducible repeat ((apply Kd.R_alloc))); exact HO_0.out⟩, ⟨by repeat ((with_reducible (exact HK.out)))⟩, ⟨by repeat ((with_reducible (exact HB.out)))⟩⟩
          ·rw [if_neg c15] at H
           have c15b0 : decide ((wrap64 (x7_3 + x6_2)) < a1) = false := decide_eq_false c15
           clear c15
           have H' := Aside0.mk H
           clear H
           go_wp2
           (try simp only [← hl0_2, ← hl0_3])
           go_roundg k3
           case measure => have := HK1.out; have := HK2.out; have := HK3.out; omega
           case rel => exact ⟨(x0_3), (wrap64 (x6_2 * 2)), (by rfl), H', ⟨by have := HK1.out; have := HK2.out; have := HK3.out; omega⟩, ⟨by (try simp only [hl0_2]); (try simp only [hl0_3]); (with_reducible repeat ((apply Kd.R_alloc))); exact HO_0.out⟩, ⟨by repeat ((with_reducible (exact HK.out)))⟩, ⟨by repeat ((with_reducible (exact HB.out)))⟩⟩
      ·rw [if_neg c11] at H
       have c11b0 : decide (x6_2 < a1) = false := decide_eq_false c11
       clear c11
       obtain rfl := Option.some.inj H
       go_wp2
       go_end0
       exact ⟨by rfl, (by (exact (by (with_reducible repeat ((apply Kd.R_alloc))); exact HO_0.out))), by repeat ((with_reducible (exact HB.out))), by repeat ((with_reducible (exact HK.out)))⟩
def api_RR_43.f (k : Nat) (l0 : List (S33)) (a1 : Int) : Option ((List (S33))) := (api_RR_63.f k l0 (l0.length : Int) a1).bind fun t144 => (some t144)
set_option maxHeartbeats 8000000 in
set_option maxRecDepth 100000 in
theorem api_RR_43.calls (k : Nat) (P0_ : Nat → Prop) (u9000_ : Value) (l0 : List (S33)) (a1 : Int) (r : List (S33)) (w0 w : World) (hB : Below w0.heap.size w0 w) (ho0 : Kd.R k33 33 w w0.heap.size P0_ u9000_ l0) (h : api_RR_43.f k l0 a1 = some r) :
  Calls Try.prog 43 #[u9000_, .func (.func 44) #[] #[]] w fun e w' => e = .returned (.tuple #[]) ∧ Kd.R k33 33 w' w0.heap.size (fun k_ => (P0_ k_ ∨ w.heap.size ≤ k_)) u9000_ r ∧ Below w0.heap.size w0 w' ∧ Kept w w' (fun k_ => P0_ k_) := by
 have HO0 := Aside0.mk (show Kd.R k33 33 w w0.heap.size (fun k_ => (P0_ k_ ∨ w.heap.size ≤ k_)) u9000_ l0 from Kd.R_mono ho0 (fun k_ hk => (.inl hk)))
 have HK := Aside0.mk (Kept.refl w (fun k_ => P0_ k_))
 have HW0 := Aside0.mk hB.size
 have HB := Aside0.mk hB
 clear hB
 have H : ((api_RR_63.f k l0 (l0.length : Int) a1).bind fun t144 => (some t144)) = some r := h
 clear h
 replace H := Option.bind_eq_some_iff.mp H
 obtain ⟨t144, A30, H⟩ := H
 replace H : (some t144) = some r := H
 have A3 := Aside0.mk A30
 clear A30
 obtain rfl := Option.some.inj H
 obtain ⟨Ao4, co4, eo4⟩ := Kd.R_slice HO0.out
 subst eo4
 go_enter Try.func43, Try.ntmps43
 go_wp2_with ((((with_reducible refine gate_callee (f := 63) rfl ?_); refine goesL_ (some 8) rfl rfl Try.func63 (by kernel_rfl) rfl #[.slice Ao4 l0.length co4, .int .i64 (l0.length : Int), .func (.func 44) #[] #[]] rfl (by (try simp only [List.map_toArray, List.map_cons, List.map_nil]); rfl) ?_; (with_reducible refine (api_RR_63.calls k (fun k_ => some k_ = (.slice Ao4 l0.length co4 : Value).ownBlock) (.slice Ao4 l0.length co4) l0 (l0.length : Int) a1 t144 w0 _ ?side1 ?side2 A3.out).mono ?_); (case side1 => repeat ((with_reducible (exact HB.out)))); (case side2 => exact Kd.R_tight rfl HO0.out); rintro e w5 ⟨rfl, hy0, hb, hkp⟩; refine ⟨_, rfl, ?_⟩; have n0_ := Aside0.mk (Kd.R_reok rfl hy0 (fun k_ e_ => HO0.out.1 k_ e_)); have n1_ := Aside0.mk (Kept.then_ (S := (fun k_ => P0_ k_)) (by repeat ((with_reducible (exact HK.out)))) hkp (fun k_ hs_ => (fun e_ => (HO0.out.1 k_ e_.symm)) hs_)); have n2_ := Aside0.mk (hb); clear HO0; clear HK; clear HB; have HO0 := n0_; have HK := n1_; have HB := n2_; clear n0_ n1_ n2_; (try clear hb); (try clear hkp); (try clear hy0))))
 go_end0
 exact ⟨by rfl, by (with_reducible repeat ((apply Kd.R_alloc))); exact HO0.out, by repeat ((with_reducible (exact HB.out))), by repeat ((with_reducible (exact HK.out)))⟩
def rrset_Of_1.f (k : Nat) (a0_0 : ByteArray) (a0_1 : Int) (a0_2 : Int) (a0_3 : Int) (a0_4 : ByteArray) (a1_0 : ByteArray) (a1_1 : Int) (a1_2 : Int) (a1_3 : Int) (a1_4 : ByteArray) : Option (Bool) := (record_Compare.f k a0_0 a0_1 a0_2 a0_3 a0_4 a1_0 a1_1 a1_2 a1_3 a1_4).bind fun t147 => (some (t147 == 0))
set_option maxHeartbeats 8000000 in
set_option maxRecDepth 100000 in
theorem rrset_Of_1.calls (k : Nat) (a0_0 : ByteArray) (a0_1 : Int) (a0_2 : Int) (a0_3 : Int) (a0_4 : ByteArray) (a1_0 : ByteArray) (a1_1 : Int) (a1_2 : Int) (a1_3 : Int) (a1_4 : ByteArray) (r : Bool) (w : World) (h : rrset_Of_1.f k a0_0 a0_1 a0_2 a0_3 a0_4 a1_0 a1_1 a1_2 a1_3 a1_4 = some r) :
  Calls Try.prog 46 #[.agg #[.string a0_0, .int .i64 a0_1, .int .i64 a0_2, .int .i64 a0_3, .string a0_4], .agg #[.string a1_0, .int .i64 a1_1, .int .i64 a1_2, .int .i64 a1_3, .string a1_4]] w fun e w' => e = .returned (.bool r) ∧ Below w.heap.size w w' := by
 have hu33 := Try.underlying33
 have HB := Aside0.mk (Below.refl w.heap.size w)
 have H : ((record_Compare.f k a0_0 a0_1 a0_2 a0_3 a0_4 a1_0 a1_1 a1_2 a1_3 a1_4).bind fun t147 => (some (t147 == 0))) = some r := h
 clear h
 replace H := Option.bind_eq_some_iff.mp H
 obtain ⟨t147, A30, H⟩ := H
 replace H : (some (t147 == 0)) = some r := H
 have A3 := Aside0.mk A30
 clear A30
 obtain rfl := Option.some.inj H
 go_enter Try.func46, Try.ntmps46
 go_wp2_with (first | ((with_reducible refine gate_dst (N := 2) rfl ?_); refine box_event ?hg (N := 2) ?hd (cs := #[.string a0_0, .int .i64 a0_1, .int .i64 a0_2, .int .i64 a0_3, .string a0_4]) (t := 33) ?hr ?_; (case hd => rfl); (case hg => rfl); (case hr => (go_simp; done)); intro gb145 hg w4 hbox hb; have n0_ := Aside0.mk (below_step (by repeat ((with_reducible (exact HB.out)))) hb); have n1_ := Aside0.mk (hbox); have n2_ := Aside0.mk ((by rw [hg]; exact (below_size (by repeat ((with_reducible (exact HB.out))))) : w.heap.size ≤ gb145)); have n3_ := Aside0.mk ((by rw [hg]; exact (below_size (by repeat ((with_reducible (exact HB.out))))) : w.heap.size ≤ gb145)); clear HB; have HB := n0_; have BK145 := n1_; have GW145 := n2_; have GE145 := n3_; clear n0_ n1_ n2_ n3_; clear hb hbox hg) | ((with_reducible refine gate_dst (N := 3) rfl ?_); refine box_event ?hg (N := 3) ?hd (cs := #[.string a1_0, .int .i64 a1_1, .int .i64 a1_2, .int .i64 a1_3, .string a1_4]) (t := 33) ?hr ?_; (case hd => rfl); (case hg => rfl); (case hr => (go_simp; done)); intro gb146 hg w5 hbox hb; have n0_ := Aside0.mk (blk_below (g := gb145) (o := .cells #[.string a0_0, .int .i64 a0_1, .int .i64 a0_2, .int .i64 a0_3, .string a0_4] 33 (0, 0)) (by (with_reducible repeat ((refine blk_drewN ?_ _))); exact BK145.out) hb); have n1_ := Aside0.mk (below_step (by repeat ((with_reducible (exact HB.out)))) hb); have n2_ := Aside0.mk (hbox); have n3_ := Aside0.mk ((by rw [hg]; exact (below_size (by repeat ((with_reducible (exact HB.out))))) : w.heap.size ≤ gb146)); have n4_ := Aside0.mk ((by rw [hg]; exact (below_size (by repeat ((with_reducible (exact HB.out))))) : w.heap.size ≤ gb146)); have n5_ := Aside0.mk ((by rw [hg]; exact Nat.ne_of_lt (blk_lt (g := gb145) (o := .cells #[.string a0_0, .int .i64 a0_1, .int .i64 a0_2, .int .i64 a0_3, .string a0_4] 33 (0, 0)) (by (with_reducible repeat ((refine blk_drewN ?_ _))); exact BK145.out)) : gb145 ≠ gb146)); have n6_ := Aside0.mk ((by rw [hg]; exact Nat.ne_of_gt (blk_lt (g := gb145) (o := .cells #[.string a0_0, .int .i64 a0_1, .int .i64 a0_2, .int .i64 a0_3, .string a0_4] 33 (0, 0)) (by (with_reducible repeat ((refine blk_drewN ?_ _))); exact BK145.out)) : gb146 ≠ gb145)); clear BK145; clear HB; have BK145 := n0_; have HB := n1_; have BK146 := n2_; have GW146 := n3_; have GE146 := n4_; have NB145_146 := n5_; have NB146_145 := n6_; clear n0_ n1_ n2_ n3_ n4_ n5_ n6_; clear hb hbox hg; have hnb6 := NB145_146.out; have hnc6 := NB146_145.out; have hcz7_0 : w5.cell? ⟨gb145, 0, none⟩ = some (.string a0_0) := (blk_cell BK145.out 0).trans rfl; have hcz7_1 : w5.cell? ⟨gb145, 1, none⟩ = some (.int .i64 a0_1) := (blk_cell BK145.out 1).trans rfl; have hcz7_2 : w5.cell? ⟨gb145, 2, none⟩ = some (.int .i64 a0_2) := (blk_cell BK145.out 2).trans rfl; have hcz7_3 : w5.cell? ⟨gb145, 3, none⟩ = some (.int .i64 a0_3) := (blk_cell BK145.out 3).trans rfl; have hcz7_4 : w5.cell? ⟨gb145, 4, none⟩ = some (.string a0_4) := (blk_cell BK145.out 4).trans rfl; have hfz7_0 := blk_frozen BK145.out 0; have hfz7_1 := blk_frozen BK145.out 1; have hfz7_2 := blk_frozen BK145.out 2; have hfz7_3 := blk_frozen BK145.out 3; have hfz7_4 := blk_frozen BK145.out 4; have hcz8_0 : w5.cell? ⟨gb146, 0, none⟩ = some (.string a1_0) := (blk_cell BK146.out 0).trans rfl; have hcz8_1 : w5.cell? ⟨gb146, 1, none⟩ = some (.int .i64 a1_1) := (blk_cell BK146.out 1).trans rfl; have hcz8_2 : w5.cell? ⟨gb146, 2, none⟩ = some (.int .i64 a1_2) := (blk_cell BK146.out 2).trans rfl; have hcz8_3 : w5.cell? ⟨gb146, 3, none⟩ = some (.int .i64 a1_3) := (blk_cell BK146.out 3).trans rfl; have hcz8_4 : w5.cell? ⟨gb146, 4, none⟩ = some (.string a1_4) := (blk_cell BK146.out 4).trans rfl; have hfz8_0 := blk_frozen BK146.out 0; have hfz8_1 := blk_frozen BK146.out 1; have hfz8_2 := blk_frozen BK146.out 2; have hfz8_3 := blk_frozen BK146.out 3; have hfz8_4 := blk_frozen BK146.out 4) | ((with_reducible refine gate_callee (f := 44) rfl ?_); refine goesL_ (some 7) rfl rfl Try.func44 (by kernel_rfl) rfl #[.agg #[.string a0_0, .int .i64 a0_1, .int .i64 a0_2, .int .i64 a0_3, .string a0_4], .agg #[.string a1_0, .int .i64 a1_1, .int .i64 a1_2, .int .i64 a1_3, .string a1_4]] rfl (by (try simp only [List.map_toArray, List.map_cons, List.map_nil]); rfl) ?_; (with_reducible refine (record_Compare.calls k a0_0 a0_1 a0_2 a0_3 a0_4 a1_0 a1_1 a1_2 a1_3 a1_4 t147 _ A3.out).mono ?_); rintro e w9 ⟨rfl, hb⟩; refine ⟨_, rfl, ?_⟩; have n0_ := Aside0.mk (blk_below (g := gb145) (o := .cells #[.string a0_0, .int .i64 a0_1, .int .i64 a0_2, .int .i64 a0_3, .string a0_4] 33 (0, 0)) (by (with_reducible repeat ((refine blk_drewN ?_ _))); exact BK145.out) hb); have n1_ := Aside0.mk (blk_below (g := gb146) (o := .cells #[.string a1_0, .int .i64 a1_1, .int .i64 a1_2, .int .i64 a1_3, .string a1_4] 33 (0, 0)) (by (with_reducible repeat ((refine blk_drewN ?_ _))); exact BK146.out) hb); have n2_ := Aside0.mk (below_step (by repeat ((with_reducible (exact HB.out)))) hb); clear BK145; clear BK146; clear HB; have BK145 := n0_; have BK146 := n1_; have HB := n2_; clear n0_ n1_ n2_; (try clear hb)))
 go_ret
 exact ⟨by rfl, by repeat ((with_reducible (exact HB.out)))⟩
end Go.Proofs.Ytehdkopjgcoclaa.PSo
namespace Go.Proofs.Ytehdkopjgcoclaa.Rrs
open Go.RowKit Go.Proofs.YtehdkopjgcoclaaW.PrintWords Go.Proofs.YtehdkopjgcoclaaW.PrintLast Go.Proofs.YtehdkopjgcoclaaW.PrintMore Go.Proofs.Ytehdkopjgcoclaa.Given Go.Proofs.Ytehdkopjgcoclaa.PRd Go.Proofs.Ytehdkopjgcoclaa.PRr Go.Proofs.Ytehdkopjgcoclaa.PSo Go.Proofs.Ytehdkopjgcoclaa.NameFacts Go.Proofs.Ytehdkopjgcoclaa.SetLaw
set_option linter.unusedVariables false
theorem rd_seg {l p s : List RR} {x : RR} {i : Nat} (e : l = p ++ x :: s) (hi : i = p.length) : rdR l (i : Nat) = x := by
  subst e
  subst hi
  rw [rdR_get _ _ (by simp)]
  simp
theorem w64 {x : Int} {n : Nat} (h : x = (n : Int)) (hn : n ≤ 9223372036854775807) : wrap64 x = (n : Int) := by rw [h]; unfold wrap64; omega
theorem half (i j : Nat) (h : i + j ≤ 4000000) : wrap64 ((IntKind.u64.wrap (wrap64 ((i : Int) + (j : Int)))) / 2) = (((i + j) / 2 : Nat) : Int) := by
  have e1 : wrap64 ((i : Int) + (j : Int)) = ((i + j : Nat) : Int) := w64 (by omega) (by omega)
  have e2 : ((i + j : Nat) : Int) % 2 ^ 64 = ((i + j : Nat) : Int) := by omega
  have e3 : IntKind.u64.wrap ((i + j : Nat) : Int) = ((i + j : Nat) : Int) := by
    simp only [IntKind.wrap, IntKind.bits, IntKind.signed, e2]; rw [if_neg (by simp)]
  rw [e1, e3]
  exact w64 (by omega) (by omega)
theorem sw_set (l : List RR) (i j : Nat) (hi : i < l.length) (hj : j < l.length) : (l.set i (rdR l (j : Nat))).set j (rdR l (i : Nat)) = sw l i j := by
  unfold sw
  rw [List.getElem?_eq_getElem hi, List.getElem?_eq_getElem hj, rdR_get l i hi, rdR_get l j hj]
theorem ev_cmpR (l : List RR) (hl : ∀ y ∈ l, fine y) (i j : Nat) (hi : i < l.length) (hj : j < l.length) : Ev (fun k => cmpO k (rdR l (i : Nat)) (rdR l (j : Nat))) (cmpRR (rdR l (i : Nat)) (rdR l (j : Nat))) := by
  rw [rdR_get l i hi, rdR_get l j hj]
  exact ev_cmp _ _ (hl _ (List.getElem_mem _)) (hl _ (List.getElem_mem _))
theorem swr_loop (l : List RR) (hn : l.length ≤ 1000000) (a b n : Nat) (z : Int) (h1 : a + n ≤ b) (h2 : b + n ≤ l.length) : ∀ (d i : Nat), i + d = n → Ev (fun k => api_RR_98.l0 k (swR l a b i) (a : Int) (b : Int) (n : Int) (i : Int)) (swR l a b n) := by
  intro d
  induction d with
  | zero =>
    intro i hi
    obtain rfl : i = n := by omega
    exact Ev.step (f := fun _ => some (swR l a b i)) (fun k => by simp only [api_RR_98.l0]; rw [if_neg (by omega)]) (Ev.now _)
  | succ d ih =>
    intro i hi
    have hl := swR_length l a b i
    have ea : wrap64 ((a : Int) + (i : Int)) = ((a + i : Nat) : Int) := w64 (by omega) (by omega)
    have eb : wrap64 ((b : Int) + (i : Int)) = ((b + i : Nat) : Int) := w64 (by omega) (by omega)
    have ei : wrap64 ((i : Int) + 1) = ((i + 1 : Nat) : Int) := w64 (by omega) (by omega)
    have hs := sw_set (swR l a b i) (a + i) (b + i) (by omega) (by omega)
    refine Ev.step (f := fun k => api_RR_98.l0 k (swR l a b (i + 1)) (a : Int) (b : Int) (n : Int) ((i + 1 : Nat) : Int)) (fun k => ?_) (ih (i + 1) (by omega))
    simp only [api_RR_98.l0, ea, eb, ei]
    rw [if_pos (by omega), if_pos (by omega), if_pos (by rw [hl]; omega), if_pos (by omega), if_pos (by rw [hl]; omega)]
    rw [swR, ← hs]
    rfl
theorem ev_swr (l : List RR) (hn : l.length ≤ 1000000) (a b n : Nat) (z : Int) (h1 : a + n ≤ b) (h2 : b + n ≤ l.length) : Ev (fun k => api_RR_98.f k l (a : Int) (b : Int) (n : Int) z) (swR l a b n) :=
  swr_loop l hn a b n z h1 h2 n 0 (by omega)
theorem rot_loop (m : Nat) (z : Int) : ∀ (s i j : Nat) (l : List RR), i + j ≤ s → 0 < i → 0 < j → i ≤ m → m + j ≤ l.length → l.length ≤ 1000000 → ∃ l', Rot l l' m i j ∧ Ev (fun k => api_RR_92.l0 k l (m : Int) z (i : Int) (j : Int)) l' := by
  intro s
  induction s with
  | zero => intro i j l h; omega
  | succ s ih =>
    intro i j l hs hi hj him hm hn
    have e1 : wrap64 ((m : Int) - (i : Int)) = ((m - i : Nat) : Int) := w64 (by omega) (by omega)
    by_cases h0 : i = j
    · subst h0
      refine ⟨_, rot_same l m i him hm, Ev.step (f := fun k => (api_RR_98.f k l ((m - i : Nat) : Int) (m : Int) (i : Int) z).bind fun t => some t) (fun k => by simp only [api_RR_92.l0, e1]; rw [if_pos trivial]) ?_⟩
      exact Ev.bind (ev_swr l hn (m - i) m i z (by omega) (by omega)) (Ev.now _)
    · by_cases h1 : j < i
      · have e2 : wrap64 ((i : Int) - (j : Int)) = ((i - j : Nat) : Int) := w64 (by omega) (by omega)
        obtain ⟨l', hr, he⟩ := ih (i - j) j (swR l (m - i) m j) (by omega) (by omega) hj (by omega) (by rw [swR_length]; omega) (by rw [swR_length]; omega)
        refine ⟨l', rot_left h1 him hm hr, Ev.step (f := fun k => (api_RR_98.f k l ((m - i : Nat) : Int) (m : Int) (j : Int) z).bind fun t => api_RR_92.l0 k t (m : Int) z ((i - j : Nat) : Int) (j : Int)) (fun k => by simp only [api_RR_92.l0, e1, e2]; rw [if_neg (by omega), if_pos (by omega)]) ?_⟩
        exact Ev.bind (ev_swr l hn (m - i) m j z (by omega) (by omega)) he
      · have e2 : wrap64 ((j : Int) - (i : Int)) = ((j - i : Nat) : Int) := w64 (by omega) (by omega)
        have e3 : wrap64 (wrap64 ((m : Int) + (j : Int)) - (i : Int)) = ((m + j - i : Nat) : Int) := by
          rw [show wrap64 ((m : Int) + (j : Int)) = ((m + j : Nat) : Int) from w64 (by omega) (by omega)]
          exact w64 (by omega) (by omega)
        obtain ⟨l', hr, he⟩ := ih i (j - i) (swR l (m - i) (m + j - i) i) (by omega) hi (by omega) him (by rw [swR_length]; omega) (by rw [swR_length]; omega)
        refine ⟨l', rot_right (by omega) him hm hr, Ev.step (f := fun k => (api_RR_98.f k l ((m - i : Nat) : Int) ((m + j - i : Nat) : Int) (i : Int) z).bind fun t => api_RR_92.l0 k t (m : Int) z (i : Int) ((j - i : Nat) : Int)) (fun k => by simp only [api_RR_92.l0, e1, e2, e3]; rw [if_neg (by omega), if_neg (by omega)]) ?_⟩
        exact Ev.bind (ev_swr l hn (m - i) (m + j - i) i z (by omega) (by omega)) he
theorem ev_rot (p u v s : List RR) (z : Int) (hu : 0 < u.length) (hv : 0 < v.length) (hn : (p ++ (u ++ (v ++ s))).length ≤ 1000000) :
    Ev (fun k => api_RR_92.f k (p ++ (u ++ (v ++ s))) (p.length : Int) ((p.length + u.length : Nat) : Int) ((p.length + u.length + v.length : Nat) : Int) z) (p ++ (v ++ (u ++ s))) := by
  have hl : (p ++ (u ++ (v ++ s))).length = p.length + u.length + v.length + s.length := by simp; omega
  have e1 : wrap64 (((p.length + u.length : Nat) : Int) - (p.length : Int)) = (u.length : Int) := w64 (by omega) (by omega)
  have e2 : wrap64 (((p.length + u.length + v.length : Nat) : Int) - ((p.length + u.length : Nat) : Int)) = (v.length : Int) := w64 (by omega) (by omega)
  obtain ⟨l', hr, he⟩ := rot_loop (p.length + u.length) z (u.length + v.length) u.length v.length _ (Nat.le_refl _) hu hv (by omega) (by omega) hn
  rw [rot_lists hr] at he
  refine Ev.congr (fun k => ?_) he
  unfold api_RR_92.f
  rw [e1, e2]
theorem ins_in (a b i : Nat) (z : Int) (p t : List RR) (x : RR) (hp : p.length = a) : ∀ (n : Nat) (m1 m2 : List RR), m1.length = n → Sorted cmpRR (m1 ++ m2) → (∀ y ∈ m2, cmpRR x y < 0) → (∀ y ∈ p ++ ((m1 ++ x :: m2) ++ t), fine y) →
    (p ++ ((m1 ++ x :: m2) ++ t)).length ≤ 1000000 → i ≤ 1000000 → ∃ m', StableOf cmpRR ((m1 ++ m2) ++ [x]) m' ∧ m'.length = m1.length + m2.length + 1 ∧ (∀ y ∈ m', y ∈ m1 ++ x :: m2) ∧
      ∀ r, Ev (fun k => api_RR_78.l0 k (p ++ (m' ++ t)) (a : Int) (b : Int) ((i + 1 : Nat) : Int)) r → Ev (fun k => api_RR_78.l1 k (p ++ ((m1 ++ x :: m2) ++ t)) (a : Int) (b : Int) (i : Int) ((a + m1.length : Nat) : Int)) r := by
  intro n
  induction n with
  | zero =>
    intro m1 m2 h0 hs h2 hf hn hi
    obtain rfl := List.length_eq_zero_iff.mp h0
    have e1 : wrap64 ((i : Int) + 1) = ((i + 1 : Nat) : Int) := w64 (by omega) (by omega)
    refine ⟨[] ++ x :: m2, stable_insert ordRR hs (fun y hy => by cases hy) h2, by simp, fun y hy => hy, fun r hr => ?_⟩
    refine Ev.step (f := fun k => api_RR_78.l0 k (p ++ (([] ++ x :: m2) ++ t)) (a : Int) (b : Int) ((i + 1 : Nat) : Int)) (fun k => by simp only [api_RR_78.l1, e1]; rw [if_neg (by simp)]) hr
  | succ n ih =>
    intro m1 m2 h0 hs h2 hf hn hi
    obtain ⟨m0, y, rfl⟩ : ∃ m0 y, m1 = m0 ++ [y] := ⟨m1.dropLast, m1.getLast (by intro e; rw [e] at h0; cases h0), (List.dropLast_concat_getLast (by intro e; rw [e] at h0; cases h0)).symm⟩
    have hm0 : m0.length = n := by simpa using h0
    have hlen : (p ++ (((m0 ++ [y]) ++ x :: m2) ++ t)).length = a + n + 1 + 1 + m2.length + t.length := by simp [hp, hm0]; omega
    have e1 : wrap64 ((i : Int) + 1) = ((i + 1 : Nat) : Int) := w64 (by omega) (by omega)
    have ej : wrap64 (((a + (m0 ++ [y]).length : Nat) : Int) - 1) = ((a + n : Nat) : Int) := w64 (by simp [hm0]; omega) (by omega)
    have el : p ++ (((m0 ++ [y]) ++ x :: m2) ++ t) = (p ++ m0) ++ y :: x :: (m2 ++ t) := by simp
    have hpm : (p ++ m0).length = a + n := by simp [hp, hm0]
    have ry : rdR (p ++ (((m0 ++ [y]) ++ x :: m2) ++ t)) ((a + n : Nat) : Int) = y := rd_seg el hpm.symm
    have rx : rdR (p ++ (((m0 ++ [y]) ++ x :: m2) ++ t)) ((a + (m0 ++ [y]).length : Nat) : Int) = x := rd_seg (p := (p ++ m0) ++ [y]) (s := m2 ++ t) (by rw [el]; simp) (by simp [hp, hm0])
    have hj : a + (m0 ++ [y]).length = a + n + 1 := by simp [hm0]; omega
    have hfx : fine x := hf x (by simp)
    have hfy : fine y := hf y (by simp)
    have hsw : ((p ++ (((m0 ++ [y]) ++ x :: m2) ++ t)).set (a + n + 1) y).set (a + n) x = p ++ ((m0 ++ x :: (y :: m2)) ++ t) := by
      rw [el, sw_adj (p ++ m0) (m2 ++ t) y x (a + n) hpm.symm]; simp
    have hstep : ∀ k, api_RR_78.l1 (k + 1) (p ++ (((m0 ++ [y]) ++ x :: m2) ++ t)) (a : Int) (b : Int) (i : Int) ((a + (m0 ++ [y]).length : Nat) : Int) =
        (cmpO k x y).bind fun c => if c < 0 then api_RR_78.l1 k (p ++ ((m0 ++ x :: (y :: m2)) ++ t)) (a : Int) (b : Int) (i : Int) ((a + m0.length : Nat) : Int) else api_RR_78.l0 k (p ++ (((m0 ++ [y]) ++ x :: m2) ++ t)) (a : Int) (b : Int) ((i + 1 : Nat) : Int) := fun k => by
      simp only [api_RR_78.l1, ej, e1]
      rw [if_pos (by omega), if_pos (by omega), if_pos (by omega), if_pos (by omega), if_pos (by omega)]
      have hset : ((p ++ (((m0 ++ [y]) ++ x :: m2) ++ t)).set ((a + (m0 ++ [y]).length : Nat) : Int).toNat (rdR (p ++ (((m0 ++ [y]) ++ x :: m2) ++ t)) ((a + n : Nat) : Int))).set ((a + n : Nat) : Int).toNat (rdR (p ++ (((m0 ++ [y]) ++ x :: m2) ++ t)) ((a + (m0 ++ [y]).length : Nat) : Int)) = p ++ ((m0 ++ x :: (y :: m2)) ++ t) := by
        rw [ry, rx, Int.toNat_natCast, Int.toNat_natCast, hj, hsw]
      show ((cmpO k (rdR (p ++ (((m0 ++ [y]) ++ x :: m2) ++ t)) ((a + (m0 ++ [y]).length : Nat) : Int)) (rdR (p ++ (((m0 ++ [y]) ++ x :: m2) ++ t)) ((a + n : Nat) : Int))).bind fun c => if c < 0 then api_RR_78.l1 k (((p ++ (((m0 ++ [y]) ++ x :: m2) ++ t)).set ((a + (m0 ++ [y]).length : Nat) : Int).toNat (rdR (p ++ (((m0 ++ [y]) ++ x :: m2) ++ t)) ((a + n : Nat) : Int))).set ((a + n : Nat) : Int).toNat (rdR (p ++ (((m0 ++ [y]) ++ x :: m2) ++ t)) ((a + (m0 ++ [y]).length : Nat) : Int))) (a : Int) (b : Int) (i : Int) ((a + n : Nat) : Int) else _) = _
      rw [hset, ry, rx, hm0]
    by_cases hc : cmpRR x y < 0
    · obtain ⟨m', h3, h4, h5, h6⟩ := ih m0 (y :: m2) hm0 (by simpa using hs) (fun w hw => by
        rcases List.mem_cons.mp hw with rfl | hw
        · exact hc
        · exact h2 w hw) (fun w hw => hf w (by simp at hw ⊢; rcases hw with h | h | h | h | h | h <;> simp [h])) (by simp at hn ⊢; omega) hi
      refine ⟨m', by simpa using h3, by rw [h4]; simp; omega, fun w hw => ?_, fun r hr => Ev.step hstep (Ev.bind (ev_cmp x y hfx hfy) ?_)⟩
      · have := h5 w hw
        simp at this ⊢
        rcases this with h | h | h | h <;> simp [h]
      · simp only [hc, if_true]
        exact h6 r hr
    · refine ⟨(m0 ++ [y]) ++ x :: m2, stable_insert ordRR hs (fun w hw => ?_) h2, by simp; omega, fun w hw => hw, fun r hr => Ev.step hstep (Ev.bind (ev_cmp x y hfx hfy) ?_)⟩
      · have h7 : cmpRR y x ≤ 0 := by have := ordRR.flip x y; omega
        rcases List.mem_append.mp hw with hw | hw
        · have h8 : Sorted cmpRR (m0 ++ [y]) := sorted_left hs
          exact ordRR.le_trans (sorted_between h8 w hw y (by simp)) h7
        · rw [List.mem_singleton] at hw
          rw [hw]; exact h7
      · simp only [hc, if_false]
        exact hr
theorem ins_out (a b : Nat) (z : Int) (p s : List RR) (hp : p.length = a) : ∀ (n : Nat) (m r : List RR), r.length = n → a + m.length + n = b → 0 < m.length → Sorted cmpRR m → (∀ y ∈ p ++ ((m ++ r) ++ s), fine y) → (p ++ ((m ++ r) ++ s)).length ≤ 1000000 →
    ∃ m', StableOf cmpRR (m ++ r) m' ∧ m'.length = m.length + n ∧ Ev (fun k => api_RR_78.l0 k (p ++ ((m ++ r) ++ s)) (a : Int) (b : Int) ((a + m.length : Nat) : Int)) (p ++ (m' ++ s)) := by
  intro n
  induction n with
  | zero =>
    intro m r h0 hb hm hs hf hn
    obtain rfl := List.length_eq_zero_iff.mp h0
    rw [List.append_nil]
    exact ⟨m, StableOf.refl_of hs, by omega, Ev.step (f := fun _ => some (p ++ (m ++ s))) (fun k => by simp only [api_RR_78.l0]; rw [if_neg (by omega)]) (Ev.now _)⟩
  | succ n ih =>
    intro m r h0 hb hm hs hf hn
    obtain ⟨x, r, rfl⟩ : ∃ x r', r = x :: r' := by cases r with | nil => cases h0 | cons x r => exact ⟨x, r, rfl⟩
    have h0' : r.length = n := by simpa using h0
    have hl : (p ++ ((m ++ x :: r) ++ s)).length = a + m.length + 1 + n + s.length := by simp [hp, h0']; omega
    obtain ⟨m', h3, h4, h5, h6⟩ := ins_in a b (a + m.length) z p (r ++ s) x hp m.length m [] rfl (by simpa using hs) (fun y hy => by cases hy) (by simpa using hf) (by simpa using hn) (by omega)
    rw [List.append_nil] at h3
    have hperm : ∀ y ∈ m', y ∈ p ++ ((m ++ x :: r) ++ s) := fun y hy => by
      have := h5 y hy
      simp at this ⊢
      rcases this with h | h <;> simp [h]
    obtain ⟨m'', g1, g2, g3⟩ := ih m' r h0' (by simp at h4; omega) (by omega) h3.1 (fun y hy => by
      rcases List.mem_append.mp hy with hy | hy
      · exact hf y (by simp [hy])
      · rcases List.mem_append.mp hy with hy | hy
        · rcases List.mem_append.mp hy with hy | hy
          · exact hf y (hperm y hy)
          · exact hf y (by simp [hy])
        · exact hf y (by simp [hy])) (by simp [hp, h4, h0'] at hn ⊢; omega)
    refine ⟨m'', ⟨g1.1, fun w => ?_⟩, by simp at h4; omega, ?_⟩
    · rw [g1.2, cls_append, h3.2, ← cls_append]; simp
    · have e : p ++ ((m ++ x :: r) ++ s) = p ++ ((m ++ x :: []) ++ (r ++ s)) := by simp
      refine Ev.step (f := fun k => api_RR_78.l1 k (p ++ ((m ++ x :: []) ++ (r ++ s))) (a : Int) (b : Int) ((a + m.length : Nat) : Int) ((a + m.length : Nat) : Int)) (fun k => by simp only [api_RR_78.l0]; rw [if_pos (by omega), e]) (h6 _ ?_)
      have e2 : p ++ (m' ++ (r ++ s)) = p ++ ((m' ++ r) ++ s) := by simp
      have e3 : a + m.length + 1 = a + m'.length := by simp at h4; omega
      rw [e2, e3]
      exact g3
theorem ev_ins (p l s : List RR) (z : Int) (hf : ∀ y ∈ p ++ (l ++ s), fine y) (hn : (p ++ (l ++ s)).length ≤ 1000000) :
    ∃ m, StableOf cmpRR l m ∧ m.length = l.length ∧ Ev (fun k => api_RR_78.f k (p ++ (l ++ s)) (p.length : Int) ((p.length + l.length : Nat) : Int) z) (p ++ (m ++ s)) := by
  have hl : (p ++ (l ++ s)).length = p.length + l.length + s.length := by simp; omega
  have e1 : wrap64 ((p.length : Int) + 1) = ((p.length + 1 : Nat) : Int) := w64 (by omega) (by omega)
  cases l with
  | nil =>
    refine ⟨[], StableOf.refl_of List.Pairwise.nil, rfl, ?_⟩
    refine Ev.congr (f := fun k => api_RR_78.l0 k (p ++ ([] ++ s)) (p.length : Int) ((p.length + [].length : Nat) : Int) ((p.length + 1 : Nat) : Int)) (fun k => by unfold api_RR_78.f; rw [e1]) ?_
    exact Ev.step (f := fun _ => some (p ++ ([] ++ s))) (fun k => by simp only [api_RR_78.l0]; rw [if_neg (by simp; omega)]) (Ev.now _)
  | cons x l =>
    obtain ⟨m, h1, h2, h3⟩ := ins_out p.length (p.length + (x :: l).length) z p s rfl l.length [x] l rfl (by simp; omega) (by simp) (List.pairwise_singleton _ _) (by simpa using hf) (by simpa using hn)
    refine ⟨m, by simpa using h1, by rw [h2]; simp; omega, ?_⟩
    refine Ev.congr (f := fun k => api_RR_78.l0 k (p ++ (([x] ++ l) ++ s)) (p.length : Int) ((p.length + (x :: l).length : Nat) : Int) ((p.length + [x].length : Nat) : Int)) (fun k => by unfold api_RR_78.f; rw [e1]; rfl) h3
theorem rd_in (p l s : List RR) (t : Nat) (ht : t < l.length) : rdR (p ++ (l ++ s)) ((p.length + t : Nat) : Int) = l[t] := by
  refine rd_seg (p := p ++ l.take t) (s := l.drop (t + 1) ++ s) ?_ (by rw [List.length_append, List.length_take]; omega)
  have e : l = l.take t ++ l[t] :: l.drop (t + 1) := by rw [← List.drop_eq_getElem_cons ht, List.take_append_drop]
  calc p ++ (l ++ s) = p ++ ((l.take t ++ l[t] :: l.drop (t + 1)) ++ s) := by rw [← e]
    _ = _ := by simp only [List.append_assoc, List.cons_append]
theorem sh_right (x : RR) (t : List RR) : ∀ (v q : List RR) (i : Nat), i = q.length + v.length + 1 → (q ++ x :: (v ++ t)).length ≤ 1000000 → Ev (fun k => api_RR_79.l1 k (q ++ x :: (v ++ t)) (i : Int) (q.length : Int)) (q ++ (v ++ x :: t)) := by
  intro v
  induction v with
  | nil =>
    intro q i hi hn
    have e1 : wrap64 ((i : Int) - 1) = (q.length : Int) := w64 (by simp at hi; omega) (by simp at hn; omega)
    exact Ev.step (f := fun _ => some (q ++ ([] ++ x :: t))) (fun k => by simp only [api_RR_79.l1, e1]; rw [if_neg (by omega)]; rfl) (Ev.now _)
  | cons y v ih =>
    intro q i hi hn
    have hl : (q ++ x :: ((y :: v) ++ t)).length = q.length + v.length + t.length + 2 := by simp; omega
    have e1 : wrap64 ((i : Int) - 1) = ((q.length + v.length + 1 : Nat) : Int) := w64 (by simp at hi; omega) (by omega)
    have e2 : wrap64 ((q.length : Int) + 1) = ((q.length + 1 : Nat) : Int) := w64 (by omega) (by omega)
    have rx : rdR (q ++ x :: ((y :: v) ++ t)) (q.length : Int) = x := rd_seg (i := q.length) rfl rfl
    have ry : rdR (q ++ x :: ((y :: v) ++ t)) ((q.length + 1 : Nat) : Int) = y := rd_seg (p := q ++ [x]) (s := v ++ t) (by simp) (by simp)
    have hsw : ((q ++ x :: ((y :: v) ++ t)).set q.length y).set (q.length + 1) x = (q ++ [y]) ++ x :: (v ++ t) := by
      rw [show q ++ x :: ((y :: v) ++ t) = q ++ x :: y :: (v ++ t) by simp, sw_adj2 q (v ++ t) x y q.length rfl]; simp
    have h := ih (q ++ [y]) i (by simp at hi ⊢; omega) (by simp at hn ⊢; omega)
    refine Ev.step (f := fun k => api_RR_79.l1 k ((q ++ [y]) ++ x :: (v ++ t)) (i : Int) ((q ++ [y]).length : Int)) (fun k => ?_) ?_
    · simp only [api_RR_79.l1, e1, e2]
      rw [if_pos (by omega), if_pos (by omega), if_pos (by omega), if_pos (by omega), if_pos (by omega)]
      show api_RR_79.l1 k (((q ++ x :: ((y :: v) ++ t)).set (q.length : Int).toNat (rdR (q ++ x :: ((y :: v) ++ t)) ((q.length + 1 : Nat) : Int))).set ((q.length + 1 : Nat) : Int).toNat (rdR (q ++ x :: ((y :: v) ++ t)) (q.length : Int))) (i : Int) ((q.length + 1 : Nat) : Int) = _
      rw [rx, ry, Int.toNat_natCast, Int.toNat_natCast, hsw]
      simp
    · have e : q ++ ((y :: v) ++ x :: t) = (q ++ [y]) ++ (v ++ x :: t) := by simp
      rw [e]; exact h
theorem sh_left (y : RR) : ∀ (n : Nat) (v q t : List RR), v.length = n → (q ++ (v ++ y :: t)).length ≤ 1000000 → Ev (fun k => api_RR_79.l3 k (q ++ (v ++ y :: t)) (q.length : Int) ((q.length + v.length : Nat) : Int)) (q ++ y :: (v ++ t)) := by
  intro n
  induction n with
  | zero =>
    intro v q t hv hn
    obtain rfl := List.length_eq_zero_iff.mp hv
    exact Ev.step (f := fun _ => some (q ++ ([] ++ y :: t))) (fun k => by simp only [api_RR_79.l3]; rw [if_neg (by simp)]) (Ev.now _)
  | succ n ih =>
    intro v q t hv hn
    obtain ⟨v, w, rfl⟩ : ∃ v0 w, v = v0 ++ [w] := ⟨v.dropLast, v.getLast (by intro e; rw [e] at hv; cases hv), (List.dropLast_concat_getLast (by intro e; rw [e] at hv; cases hv)).symm⟩
    have hv' : v.length = n := by simpa using hv
    have hl : (q ++ ((v ++ [w]) ++ y :: t)).length = q.length + n + t.length + 2 := by simp [hv']; omega
    have hj : q.length + (v ++ [w]).length = q.length + n + 1 := by simp [hv']; omega
    have e1 : wrap64 (((q.length + (v ++ [w]).length : Nat) : Int) - 1) = ((q.length + n : Nat) : Int) := w64 (by omega) (by omega)
    have el : q ++ ((v ++ [w]) ++ y :: t) = (q ++ v) ++ w :: y :: t := by simp
    have hqv : (q ++ v).length = q.length + n := by simp [hv']
    have rw_ : rdR (q ++ ((v ++ [w]) ++ y :: t)) ((q.length + n : Nat) : Int) = w := rd_seg el hqv.symm
    have ry : rdR (q ++ ((v ++ [w]) ++ y :: t)) ((q.length + (v ++ [w]).length : Nat) : Int) = y := rd_seg (p := (q ++ v) ++ [w]) (s := t) (by rw [el]; simp) (by simp [hv'])
    have hsw : ((q ++ ((v ++ [w]) ++ y :: t)).set (q.length + n + 1) w).set (q.length + n) y = q ++ (v ++ y :: (w :: t)) := by
      rw [el, sw_adj (q ++ v) t w y (q.length + n) hqv.symm]; simp
    have h := ih v q (w :: t) hv' (by simp at hn ⊢; omega)
    refine Ev.step (f := fun k => api_RR_79.l3 k (q ++ (v ++ y :: (w :: t))) (q.length : Int) ((q.length + v.length : Nat) : Int)) (fun k => ?_) ?_
    · simp only [api_RR_79.l3, e1]
      rw [if_pos (by omega), if_pos (by omega), if_pos (by omega), if_pos (by omega), if_pos (by omega)]
      show api_RR_79.l3 k (((q ++ ((v ++ [w]) ++ y :: t)).set ((q.length + (v ++ [w]).length : Nat) : Int).toNat (rdR (q ++ ((v ++ [w]) ++ y :: t)) ((q.length + n : Nat) : Int))).set ((q.length + n : Nat) : Int).toNat (rdR (q ++ ((v ++ [w]) ++ y :: t)) ((q.length + (v ++ [w]).length : Nat) : Int))) (q.length : Int) ((q.length + n : Nat) : Int) = _
      rw [rw_, ry, Int.toNat_natCast, Int.toNat_natCast, hj, hsw, hv']
    · have e : q ++ y :: ((v ++ [w]) ++ t) = q ++ y :: (v ++ (w :: t)) := by simp
      rw [e]; exact h
theorem low_step (l : List RR) (hn : l.length ≤ 1000000) (a i j h k : Nat) (hh : (i + j) / 2 = h) (hij : i < j) (hj : j ≤ l.length) (ha : a < l.length) : api_RR_79.l0 (k + 1) l (a : Int) (i : Int) (j : Int) = (cmpO k (rdR l (h : Nat)) (rdR l (a : Nat))).bind fun c => if c < 0 then api_RR_79.l0 k l (a : Int) ((h + 1 : Nat) : Int) (j : Int) else api_RR_79.l0 k l (a : Int) (i : Int) (h : Int) := by
  have h1 : h < l.length := by omega
  have c1 : (i : Int) < (j : Int) := by omega
  have c2 : (0 : Int) ≤ (h : Int) := by omega
  have c3 : (h : Int) < (l.length : Int) := by omega
  have c4 : (0 : Int) ≤ (a : Int) := by omega
  have c5 : (a : Int) < (l.length : Int) := by omega
  have e2 : wrap64 ((h : Int) + 1) = ((h + 1 : Nat) : Int) := w64 (by omega) (by omega)
  have e1 := half i j (by omega)
  rw [hh] at e1
  simp only [api_RR_79.l0, e1, e2]
  rw [if_pos c1, if_pos c2, if_pos c3, if_pos c4, if_pos c5]
  rfl
theorem high_step (l : List RR) (hn : l.length ≤ 1000000) (m i j h k : Nat) (hh : (i + j) / 2 = h) (hij : i < j) (hj : j ≤ l.length) (ha : m < l.length) : api_RR_79.l2 (k + 1) l (m : Int) (i : Int) (j : Int) = (cmpO k (rdR l (m : Nat)) (rdR l (h : Nat))).bind fun c => if c < 0 then api_RR_79.l2 k l (m : Int) (i : Int) (h : Int) else api_RR_79.l2 k l (m : Int) ((h + 1 : Nat) : Int) (j : Int) := by
  have h1 : h < l.length := by omega
  have c1 : (i : Int) < (j : Int) := by omega
  have c2 : (0 : Int) ≤ (h : Int) := by omega
  have c3 : (h : Int) < (l.length : Int) := by omega
  have c4 : (0 : Int) ≤ (m : Int) := by omega
  have c5 : (m : Int) < (l.length : Int) := by omega
  have e2 : wrap64 ((h : Int) + 1) = ((h + 1 : Nat) : Int) := w64 (by omega) (by omega)
  have e1 := half i j (by omega)
  rw [hh] at e1
  simp only [api_RR_79.l2, e1, e2]
  rw [if_pos c1, if_pos c4, if_pos c5, if_pos c2, if_pos c3]
  rfl
theorem find_low (l : List RR) (hl : ∀ y ∈ l, fine y) (hn : l.length ≤ 1000000) (a m b : Nat) (ha : a < l.length) (hb : b ≤ l.length) (hmono : ∀ t t', m ≤ t → t < t' → t' < b → cmpRR (rdR l (t' : Nat)) (rdR l (a : Nat)) < 0 → cmpRR (rdR l (t : Nat)) (rdR l (a : Nat)) < 0) :
    ∀ (d i j : Nat), j - i ≤ d → m ≤ i → i ≤ j → j ≤ b → (∀ t, m ≤ t → t < i → cmpRR (rdR l (t : Nat)) (rdR l (a : Nat)) < 0) → (∀ t, j ≤ t → t < b → 0 ≤ cmpRR (rdR l (t : Nat)) (rdR l (a : Nat))) →
    ∃ i' : Nat, m ≤ i' ∧ i' ≤ b ∧ (∀ t, m ≤ t → t < i' → cmpRR (rdR l (t : Nat)) (rdR l (a : Nat)) < 0) ∧ (∀ t, i' ≤ t → t < b → 0 ≤ cmpRR (rdR l (t : Nat)) (rdR l (a : Nat))) ∧
      ∀ r, Ev (fun k => api_RR_79.l1 k l (i' : Int) (a : Int)) r → Ev (fun k => api_RR_79.l0 k l (a : Int) (i : Int) (j : Int)) r := by
  intro d
  induction d with
  | zero =>
    intro i j hd h1 h2 h3 h4 h5
    obtain rfl : i = j := by omega
    exact ⟨i, h1, h3, h4, h5, fun r hr => Ev.step (fun k => by simp only [api_RR_79.l0]; rw [if_neg (by omega)]) hr⟩
  | succ d ih =>
    intro i j hd h1 h2 h3 h4 h5
    by_cases hij : i < j
    · obtain ⟨h, hh⟩ : ∃ h, (i + j) / 2 = h := ⟨_, rfl⟩
      have hs := fun k => low_step l hn a i j h k hh hij (by omega) ha
      by_cases hc : cmpRR (rdR l (h : Nat)) (rdR l (a : Nat)) < 0
      · obtain ⟨i', g1, g2, g3, g4, g5⟩ := ih (h + 1) j (by omega) (by omega) (by omega) h3 (fun t ht1 ht2 => by
          by_cases e : t = h
          · rw [e]; exact hc
          · exact hmono t h ht1 (by omega) (by omega) hc) h5
        refine ⟨i', g1, g2, g3, g4, fun r hr => Ev.step hs (Ev.bind (ev_cmpR l hl h a (by omega) ha) ?_)⟩
        simp only [hc, if_true]
        exact g5 r hr
      · obtain ⟨i', g1, g2, g3, g4, g5⟩ := ih i h (by omega) h1 (by omega) (by omega) h4 (fun t ht1 ht2 => by
          by_cases e : t = h
          · rw [e]; omega
          · exact Int.not_lt.mp fun hh => hc (hmono h t (by omega) (by omega) ht2 hh))
        refine ⟨i', g1, g2, g3, g4, fun r hr => Ev.step hs (Ev.bind (ev_cmpR l hl h a (by omega) ha) ?_)⟩
        simp only [hc, if_false]
        exact g5 r hr
    · obtain rfl : i = j := by omega
      exact ⟨i, h1, h3, h4, h5, fun r hr => Ev.step (fun k => by simp only [api_RR_79.l0]; rw [if_neg (by omega)]) hr⟩
theorem find_high (l : List RR) (hl : ∀ y ∈ l, fine y) (hn : l.length ≤ 1000000) (a m : Nat) (hm : m < l.length) (hmono : ∀ t t', a ≤ t → t < t' → t' < m → cmpRR (rdR l (m : Nat)) (rdR l (t : Nat)) < 0 → cmpRR (rdR l (m : Nat)) (rdR l (t' : Nat)) < 0) :
    ∀ (d i j : Nat), j - i ≤ d → a ≤ i → i ≤ j → j ≤ m → (∀ t, a ≤ t → t < i → 0 ≤ cmpRR (rdR l (m : Nat)) (rdR l (t : Nat))) → (∀ t, j ≤ t → t < m → cmpRR (rdR l (m : Nat)) (rdR l (t : Nat)) < 0) →
    ∃ i' : Nat, a ≤ i' ∧ i' ≤ m ∧ (∀ t, a ≤ t → t < i' → 0 ≤ cmpRR (rdR l (m : Nat)) (rdR l (t : Nat))) ∧ (∀ t, i' ≤ t → t < m → cmpRR (rdR l (m : Nat)) (rdR l (t : Nat)) < 0) ∧
      ∀ r, Ev (fun k => api_RR_79.l3 k l (i' : Int) (m : Int)) r → Ev (fun k => api_RR_79.l2 k l (m : Int) (i : Int) (j : Int)) r := by
  intro d
  induction d with
  | zero =>
    intro i j hd h1 h2 h3 h4 h5
    obtain rfl : i = j := by omega
    exact ⟨i, h1, h3, h4, h5, fun r hr => Ev.step (fun k => by simp only [api_RR_79.l2]; rw [if_neg (by omega)]) hr⟩
  | succ d ih =>
    intro i j hd h1 h2 h3 h4 h5
    by_cases hij : i < j
    · obtain ⟨h, hh⟩ : ∃ h, (i + j) / 2 = h := ⟨_, rfl⟩
      have hs := fun k => high_step l hn m i j h k hh hij (by omega) hm
      by_cases hc : cmpRR (rdR l (m : Nat)) (rdR l (h : Nat)) < 0
      · obtain ⟨i', g1, g2, g3, g4, g5⟩ := ih i h (by omega) h1 (by omega) (by omega) h4 (fun t ht1 ht2 => by
          by_cases e : t = h
          · rw [e]; exact hc
          · exact hmono h t (by omega) (by omega) ht2 hc)
        refine ⟨i', g1, g2, g3, g4, fun r hr => Ev.step hs (Ev.bind (ev_cmpR l hl m h hm (by omega)) ?_)⟩
        simp only [hc, if_true]
        exact g5 r hr
      · obtain ⟨i', g1, g2, g3, g4, g5⟩ := ih (h + 1) j (by omega) (by omega) (by omega) h3 (fun t ht1 ht2 => by
          by_cases e : t = h
          · rw [e]; omega
          · exact Int.not_lt.mp fun hh => hc (hmono t h ht1 (by omega) (by omega) hh)) h5
        refine ⟨i', g1, g2, g3, g4, fun r hr => Ev.step hs (Ev.bind (ev_cmpR l hl m h hm (by omega)) ?_)⟩
        simp only [hc, if_false]
        exact g5 r hr
    · obtain rfl : i = j := by omega
      exact ⟨i, h1, h3, h4, h5, fun r hr => Ev.step (fun k => by simp only [api_RR_79.l2]; rw [if_neg (by omega)]) hr⟩
theorem sorted_get {l : List RR} (h : Sorted cmpRR l) (i j : Nat) (hij : i < j) (hj : j < l.length) : cmpRR (l[i]'(by omega)) l[j] ≤ 0 := List.pairwise_iff_getElem.mp h i j (by omega) hj hij
theorem sym_one (z : Int) (p r s : List RR) (x : RR) (hr : 0 < r.length) (hs : Sorted cmpRR r) (hf : ∀ y ∈ p ++ ([x] ++ (r ++ s)), fine y) (hn : (p ++ ([x] ++ (r ++ s))).length ≤ 1000000) :
    ∃ m, StableOf cmpRR ([x] ++ r) m ∧ m.length = 1 + r.length ∧ Ev (fun k => api_RR_79.f k (p ++ ([x] ++ (r ++ s))) (p.length : Int) ((p.length + 1 : Nat) : Int) ((p.length + 1 + r.length : Nat) : Int) z) (p ++ (m ++ s)) := by
  have hl : (p ++ ([x] ++ (r ++ s))).length = p.length + 1 + r.length + s.length := by simp; omega
  have e0 : p ++ ([x] ++ (r ++ s)) = (p ++ [x]) ++ (r ++ s) := by simp
  have hp1 : (p ++ [x]).length = p.length + 1 := by simp
  have rx : rdR (p ++ ([x] ++ (r ++ s))) (p.length : Int) = x := rd_seg (i := p.length) (s := r ++ s) rfl rfl
  have rr : ∀ t (ht : t < r.length), rdR (p ++ ([x] ++ (r ++ s))) ((p.length + 1 + t : Nat) : Int) = r[t] := fun t ht => by
    rw [e0, ← hp1]; exact rd_in (p ++ [x]) r s t ht
  have e1 : wrap64 (((p.length + 1 : Nat) : Int) - (p.length : Int)) = 1 := w64 (n := 1) (by omega) (by omega)
  obtain ⟨i, g1, g2, g3, g4, g5⟩ := find_low _ hf hn p.length (p.length + 1) (p.length + 1 + r.length) (by omega) (by omega) (fun t t' h1 h2 h3 h4 => by
    obtain ⟨u, rfl⟩ : ∃ u, t = p.length + 1 + u := ⟨t - (p.length + 1), by omega⟩
    obtain ⟨u', rfl⟩ : ∃ u, t' = p.length + 1 + u := ⟨t' - (p.length + 1), by omega⟩
    rw [rr u (by omega)]
    rw [rr u' (by omega)] at h4
    have := sorted_get hs u u' (by omega) (by omega)
    by_cases e : cmpRR r[u] r[u'] = 0
    · rw [ordRR.cong _ _ _ e]; exact h4
    · exact ordRR.trans _ _ _ (by omega) h4) r.length (p.length + 1) (p.length + 1 + r.length) (by omega) (Nat.le_refl _) (by omega) (Nat.le_refl _) (fun t h1 h2 => by omega) (fun t h1 h2 => by omega)
  obtain ⟨q, rfl⟩ : ∃ q, i = p.length + 1 + q := ⟨i - (p.length + 1), by omega⟩
  have hq : q ≤ r.length := by omega
  have hlt : (r.take q).length = q := by rw [List.length_take]; omega
  refine ⟨r.take q ++ x :: r.drop q, ?_, by simp; omega, ?_⟩
  · have := stable_front ordRR (r1 := r.take q) (r2 := r.drop q) (x := x) (by rw [List.take_append_drop]; exact hs) (fun y hy => by
      obtain ⟨t, ht, rfl⟩ := List.getElem_of_mem hy
      rw [hlt] at ht
      have := g3 (p.length + 1 + t) (by omega) (by omega)
      rw [rr t (by omega), rx] at this
      rw [List.getElem_take]; exact this) (fun y hy => by
      obtain ⟨t, ht, rfl⟩ := List.getElem_of_mem hy
      rw [List.length_drop] at ht
      have := g4 (p.length + 1 + (q + t)) (by omega) (by omega)
      rw [rr (q + t) (by omega), rx] at this
      rw [List.getElem_drop]; exact this)
    rw [List.take_append_drop] at this
    exact this
  · have h := sh_right x (r.drop q ++ s) (r.take q) p (p.length + 1 + q) (by rw [hlt]; omega) (by simp at hn ⊢; omega)
    have e2 : p ++ x :: (r.take q ++ (r.drop q ++ s)) = p ++ ([x] ++ (r ++ s)) := by
      rw [← List.append_assoc (r.take q), List.take_append_drop]; rfl
    have e3 : p ++ (r.take q ++ x :: (r.drop q ++ s)) = p ++ ((r.take q ++ x :: r.drop q) ++ s) := by simp
    rw [e2, e3] at h
    exact Ev.step (f := fun k => api_RR_79.l0 k (p ++ ([x] ++ (r ++ s))) (p.length : Int) ((p.length + 1 : Nat) : Int) ((p.length + 1 + r.length : Nat) : Int)) (fun k => by simp only [api_RR_79.f, e1]; rw [if_pos trivial]) (g5 _ h)
theorem sym_two (z : Int) (p l s : List RR) (y : RR) (hl1 : 1 < l.length) (hs : Sorted cmpRR l) (hf : ∀ w ∈ p ++ (l ++ ([y] ++ s)), fine w) (hn : (p ++ (l ++ ([y] ++ s))).length ≤ 1000000) :
    ∃ m, StableOf cmpRR (l ++ [y]) m ∧ m.length = l.length + 1 ∧ Ev (fun k => api_RR_79.f k (p ++ (l ++ ([y] ++ s))) (p.length : Int) ((p.length + l.length : Nat) : Int) ((p.length + l.length + 1 : Nat) : Int) z) (p ++ (m ++ s)) := by
  have hl : (p ++ (l ++ ([y] ++ s))).length = p.length + l.length + 1 + s.length := by simp; omega
  have ry : rdR (p ++ (l ++ ([y] ++ s))) ((p.length + l.length : Nat) : Int) = y := rd_seg (p := p ++ l) (s := s) (by simp) (by simp)
  have rl : ∀ t (ht : t < l.length), rdR (p ++ (l ++ ([y] ++ s))) ((p.length + t : Nat) : Int) = l[t] := fun t ht => rd_in p l _ t ht
  have e1 : wrap64 (((p.length + l.length : Nat) : Int) - (p.length : Int)) = (l.length : Int) := w64 (by omega) (by omega)
  have e2 : wrap64 (((p.length + l.length + 1 : Nat) : Int) - ((p.length + l.length : Nat) : Int)) = 1 := w64 (n := 1) (by omega) (by omega)
  obtain ⟨i, g1, g2, g3, g4, g5⟩ := find_high _ hf hn p.length (p.length + l.length) (by omega) (fun t t' h1 h2 h3 h4 => by
    obtain ⟨u, rfl⟩ : ∃ u, t = p.length + u := ⟨t - p.length, by omega⟩
    obtain ⟨u', rfl⟩ : ∃ u, t' = p.length + u := ⟨t' - p.length, by omega⟩
    rw [rl u' (by omega)]
    rw [rl u (by omega)] at h4
    have := sorted_get hs u u' (by omega) (by omega)
    by_cases e : cmpRR l[u] l[u'] = 0
    · rw [← ordRR.congr _ _ _ e]; exact h4
    · exact ordRR.trans _ _ _ h4 (by omega)) l.length p.length (p.length + l.length) (by omega) (Nat.le_refl _) (by omega) (Nat.le_refl _) (fun t h1 h2 => by omega) (fun t h1 h2 => by omega)
  obtain ⟨q, rfl⟩ : ∃ q, i = p.length + q := ⟨i - p.length, by omega⟩
  have hq : q ≤ l.length := by omega
  have hlt : (l.take q).length = q := by rw [List.length_take]; omega
  refine ⟨l.take q ++ y :: l.drop q, ?_, by simp; omega, ?_⟩
  · have := stable_insert ordRR (l1 := l.take q) (l2 := l.drop q) (x := y) (by rw [List.take_append_drop]; exact hs) (fun w hw => by
      obtain ⟨t, ht, rfl⟩ := List.getElem_of_mem hw
      rw [hlt] at ht
      have := g3 (p.length + t) (by omega) (by omega)
      rw [rl t (by omega), ry] at this
      rw [List.getElem_take]
      have := ordRR.flip y l[t]
      omega) (fun w hw => by
      obtain ⟨t, ht, rfl⟩ := List.getElem_of_mem hw
      rw [List.length_drop] at ht
      have := g4 (p.length + (q + t)) (by omega) (by omega)
      rw [rl (q + t) (by omega), ry] at this
      rw [List.getElem_drop]; exact this)
    rw [List.take_append_drop] at this
    exact this
  · have h := sh_left y (l.drop q).length (l.drop q) (p ++ l.take q) s rfl (by simp at hn ⊢; omega)
    have e3 : (p ++ l.take q) ++ (l.drop q ++ y :: s) = p ++ (l ++ ([y] ++ s)) := by
      rw [List.append_assoc, ← List.append_assoc (l.take q), List.take_append_drop]; rfl
    have e4 : (p ++ l.take q) ++ y :: (l.drop q ++ s) = p ++ ((l.take q ++ y :: l.drop q) ++ s) := by simp
    have e5 : (p ++ l.take q).length = p.length + q := by simp; omega
    have e6 : p.length + q + (l.drop q).length = p.length + l.length := by rw [List.length_drop]; omega
    rw [e3, e4, e5, e6] at h
    exact Ev.step (f := fun k => api_RR_79.l2 k (p ++ (l ++ ([y] ++ s))) ((p.length + l.length : Nat) : Int) (p.length : Int) ((p.length + l.length : Nat) : Int)) (fun k => by simp only [api_RR_79.f, e1, e2]; rw [if_neg (by omega), if_pos trivial]) (g5 _ h)
theorem part_step (l : List RR) (hn : l.length ≤ 1000000) (a m b : Int) (z mid n : Int) (st r h pp k : Nat) (hh : (st + r) / 2 = h) (hij : st < r) (h2 : h ≤ pp) (h3 : pp - h < l.length) (h4 : h < l.length) : api_RR_79.l4 (k + 1) l a m b z mid n (st : Int) (r : Int) (pp : Int) =
    (cmpO k (rdR l ((pp - h : Nat) : Int)) (rdR l (h : Nat))).bind fun c => if c < 0 then api_RR_79.l4 k l a m b z mid n (st : Int) (h : Int) (pp : Int) else api_RR_79.l4 k l a m b z mid n ((h + 1 : Nat) : Int) (r : Int) (pp : Int) := by
  have c1 : (st : Int) < (r : Int) := by omega
  have c2 : (0 : Int) ≤ ((pp - h : Nat) : Int) := by omega
  have c3 : ((pp - h : Nat) : Int) < (l.length : Int) := by omega
  have c4 : (0 : Int) ≤ (h : Int) := by omega
  have c5 : (h : Int) < (l.length : Int) := by omega
  have e2 : wrap64 ((h : Int) + 1) = ((h + 1 : Nat) : Int) := w64 (by omega) (by omega)
  have e3 : wrap64 ((pp : Int) - (h : Int)) = ((pp - h : Nat) : Int) := w64 (by omega) (by omega)
  have hr : st + r ≤ 4000000 := by omega
  have e1 := half st r hr
  rw [hh] at e1
  simp only [api_RR_79.l4, e1, e2, e3]
  rw [if_pos c1, if_pos c2, if_pos c3, if_pos c4, if_pos c5]
  rfl
theorem find_part (l : List RR) (hl : ∀ y ∈ l, fine y) (hn : l.length ≤ 1000000) (a m b : Int) (z mid n : Int) (lo hi pp : Nat) (hlo : lo ≤ hi) (hpp : hi ≤ pp + 1) (hh1 : hi ≤ l.length) (hh2 : ∀ c, lo ≤ c → c < hi → pp - c < l.length)
    (hmono : ∀ c c', lo ≤ c → c < c' → c' < hi → cmpRR (rdR l ((pp - c : Nat) : Int)) (rdR l (c : Nat)) < 0 → cmpRR (rdR l ((pp - c' : Nat) : Int)) (rdR l (c' : Nat)) < 0) :
    ∀ (d st r : Nat), r - st ≤ d → lo ≤ st → st ≤ r → r ≤ hi → (∀ c, lo ≤ c → c < st → 0 ≤ cmpRR (rdR l ((pp - c : Nat) : Int)) (rdR l (c : Nat))) → (∀ c, r ≤ c → c < hi → cmpRR (rdR l ((pp - c : Nat) : Int)) (rdR l (c : Nat)) < 0) →
    ∃ s' : Nat, lo ≤ s' ∧ s' ≤ hi ∧ (∀ c, lo ≤ c → c < s' → 0 ≤ cmpRR (rdR l ((pp - c : Nat) : Int)) (rdR l (c : Nat))) ∧ (∀ c, s' ≤ c → c < hi → cmpRR (rdR l ((pp - c : Nat) : Int)) (rdR l (c : Nat)) < 0) ∧
      ∀ res, Ev (fun k => if (s' : Int) < m then api_RR_79.j6 k l a m b z mid (s' : Int) (wrap64 (n - (s' : Int))) (decide (m < wrap64 (n - (s' : Int)))) else api_RR_79.j6 k l a m b z mid (s' : Int) (wrap64 (n - (s' : Int))) false) res →
        Ev (fun k => api_RR_79.l4 k l a m b z mid n (st : Int) (r : Int) (pp : Int)) res := by
  intro d
  induction d with
  | zero =>
    intro st r hd h1 h2 h3 h4 h5
    obtain rfl : st = r := by omega
    exact ⟨st, h1, h3, h4, h5, fun res hr => Ev.step (fun k => by simp only [api_RR_79.l4]; rw [if_neg (by omega)]) hr⟩
  | succ d ih =>
    intro st r hd h1 h2 h3 h4 h5
    by_cases hij : st < r
    · obtain ⟨h, hh⟩ : ∃ h, (st + r) / 2 = h := ⟨_, rfl⟩
      have k1 : lo ≤ h := by omega
      have k2 : h < hi := by omega
      have k3 : pp - h < l.length := hh2 h k1 k2
      have k4 : h < l.length := by omega
      have hs := fun k => part_step l hn a m b z mid n st r h pp k hh hij (by omega) k3 k4
      by_cases hc : cmpRR (rdR l ((pp - h : Nat) : Int)) (rdR l (h : Nat)) < 0
      · obtain ⟨i', g1, g2, g3, g4, g5⟩ := ih st h (by omega) h1 (by omega) (by omega) h4 (fun t ht1 ht2 => by
          by_cases e : t = h
          · rw [e]; exact hc
          · exact hmono h t k1 (by omega) ht2 hc)
        refine ⟨i', g1, g2, g3, g4, fun r hr => Ev.step hs (Ev.bind (ev_cmpR l hl _ h k3 k4) ?_)⟩
        simp only [hc, if_true]
        exact g5 r hr
      · obtain ⟨i', g1, g2, g3, g4, g5⟩ := ih (h + 1) r (by omega) (by omega) (by omega) h3 (fun t ht1 ht2 => by
          by_cases e : t = h
          · rw [e]; omega
          · exact Int.not_lt.mp fun hh => hc (hmono t h ht1 (by omega) k2 hh)) h5
        refine ⟨i', g1, g2, g3, g4, fun r hr => Ev.step hs (Ev.bind (ev_cmpR l hl _ h k3 k4) ?_)⟩
        simp only [hc, if_false]
        exact g5 r hr
    · obtain rfl : st = r := by omega
      exact ⟨st, h1, h3, h4, h5, fun res hr => Ev.step (fun k => by simp only [api_RR_79.l4]; rw [if_neg (by omega)]) hr⟩
def SymIH (z : Int) (n : Nat) : Prop := ∀ (p l r s : List RR), l.length + r.length < n → 0 < l.length → 0 < r.length → Sorted cmpRR l → Sorted cmpRR r → (∀ y ∈ p ++ (l ++ (r ++ s)), fine y) → (p ++ (l ++ (r ++ s))).length ≤ 1000000 →
    ∃ m, StableOf cmpRR (l ++ r) m ∧ m.length = l.length + r.length ∧ Ev (fun k => api_RR_79.f k (p ++ (l ++ (r ++ s))) (p.length : Int) ((p.length + l.length : Nat) : Int) ((p.length + l.length + r.length : Nat) : Int) z) (p ++ (m ++ s))
theorem sym_may (z : Int) (n : Nat) (IH : SymIH z n) (p l r s : List RR) (h : l.length + r.length < n) (hl : Sorted cmpRR l) (hr : Sorted cmpRR r) (hf : ∀ y ∈ p ++ (l ++ (r ++ s)), fine y) (hn : (p ++ (l ++ (r ++ s))).length ≤ 1000000) :
    ∃ m, StableOf cmpRR (l ++ r) m ∧ m.length = l.length + r.length ∧ (0 < l.length → 0 < r.length → Ev (fun k => api_RR_79.f k (p ++ (l ++ (r ++ s))) (p.length : Int) ((p.length + l.length : Nat) : Int) ((p.length + l.length + r.length : Nat) : Int) z) (p ++ (m ++ s))) ∧
      ((l.length = 0 ∨ r.length = 0) → m = l ++ r) := by
  by_cases h1 : 0 < l.length
  · by_cases h2 : 0 < r.length
    · obtain ⟨m, g1, g2, g3⟩ := IH p l r s h h1 h2 hl hr hf hn
      exact ⟨m, g1, g2, fun _ _ => g3, fun e => by omega⟩
    · obtain rfl := List.length_eq_zero_iff.mp (show r.length = 0 by omega)
      exact ⟨l ++ [], StableOf.refl_of (by rw [List.append_nil]; exact hl), by simp, fun _ e => by simp at e, fun _ => rfl⟩
  · obtain rfl := List.length_eq_zero_iff.mp (show l.length = 0 by omega)
    exact ⟨[] ++ r, StableOf.refl_of hr, by simp, fun e => by simp at e, fun _ => rfl⟩
theorem sym_tail (z : Int) (n : Nat) (IH : SymIH z n) (p l1 r1 l2 r2 s : List RR) (h1 : l1.length + r1.length < n) (h2 : l2.length + r2.length < n) (hl1 : Sorted cmpRR l1) (hr1 : Sorted cmpRR r1) (hl2 : Sorted cmpRR l2) (hr2 : Sorted cmpRR r2)
    (hf : ∀ y ∈ p ++ (l1 ++ (r1 ++ (l2 ++ (r2 ++ s)))), fine y) (hn : (p ++ (l1 ++ (r1 ++ (l2 ++ (r2 ++ s))))).length ≤ 1000000) :
    ∃ m1 m2, StableOf cmpRR (l1 ++ r1) m1 ∧ StableOf cmpRR (l2 ++ r2) m2 ∧ m1.length = l1.length + r1.length ∧ m2.length = l2.length + r2.length ∧
      Ev (fun k => api_RR_79.j7 k (p ++ (l1 ++ (r1 ++ (l2 ++ (r2 ++ s))))) (p.length : Int) ((p.length + l1.length + r1.length + l2.length + r2.length : Nat) : Int) z ((p.length + l1.length + r1.length : Nat) : Int) ((p.length + l1.length : Nat) : Int) ((p.length + l1.length + r1.length + l2.length : Nat) : Int)) (p ++ ((m1 ++ m2) ++ s)) := by
  obtain ⟨m1, a1, a2, a3, a4⟩ := sym_may z n IH p l1 r1 (l2 ++ (r2 ++ s)) h1 hl1 hr1 hf hn
  have hpm : (p ++ m1).length = p.length + l1.length + r1.length := by simp [a2]; omega
  have e1 : (p ++ m1) ++ (l2 ++ (r2 ++ s)) = p ++ (m1 ++ (l2 ++ (r2 ++ s))) := by simp
  have hmem : ∀ y ∈ m1, y ∈ l1 ++ r1 := fun y hy => a1.mem ordRR hy
  obtain ⟨m2, b1, b2, b3, b4⟩ := sym_may z n IH (p ++ m1) l2 r2 s h2 hl2 hr2 (fun y hy => by
      rw [e1] at hy
      rcases List.mem_append.mp hy with hy | hy
      · exact hf y (by simp [hy])
      · rcases List.mem_append.mp hy with hy | hy
        · have := hmem y hy
          rcases List.mem_append.mp this with h | h <;> exact hf y (by simp [h])
        · exact hf y (by simp at hy ⊢; rcases hy with h | h | h <;> simp [h])) (by rw [e1]; simp [a2] at hn ⊢; omega)
  refine ⟨m1, m2, a1, b1, a2, b2, ?_⟩
  have e2 : (p ++ m1) ++ (m2 ++ s) = p ++ ((m1 ++ m2) ++ s) := by simp
  rw [hpm, e1, e2] at b3
  -- the second merge, over the first one's row
  have second : Ev (fun k => if ((p.length + l1.length + r1.length : Nat) : Int) < ((p.length + l1.length + r1.length + l2.length : Nat) : Int) then (if ((p.length + l1.length + r1.length + l2.length : Nat) : Int) < ((p.length + l1.length + r1.length + l2.length + r2.length : Nat) : Int) then ((api_RR_79.f k (p ++ (m1 ++ (l2 ++ (r2 ++ s)))) ((p.length + l1.length + r1.length : Nat) : Int) ((p.length + l1.length + r1.length + l2.length : Nat) : Int) ((p.length + l1.length + r1.length + l2.length + r2.length : Nat) : Int) z).bind fun t138 => (some t138)) else (some (p ++ (m1 ++ (l2 ++ (r2 ++ s)))))) else (some (p ++ (m1 ++ (l2 ++ (r2 ++ s)))))) (p ++ ((m1 ++ m2) ++ s)) := by
    by_cases c1 : 0 < l2.length
    · by_cases c2 : 0 < r2.length
      · have d1 : ((p.length + l1.length + r1.length : Nat) : Int) < ((p.length + l1.length + r1.length + l2.length : Nat) : Int) := by omega
        have d2 : ((p.length + l1.length + r1.length + l2.length : Nat) : Int) < ((p.length + l1.length + r1.length + l2.length + r2.length : Nat) : Int) := by omega
        simp only [d1, d2, if_true]
        exact Ev.bind (b3 c1 c2) (Ev.now _)
      · have d1 : ((p.length + l1.length + r1.length : Nat) : Int) < ((p.length + l1.length + r1.length + l2.length : Nat) : Int) := by omega
        have d2 : ¬ ((p.length + l1.length + r1.length + l2.length : Nat) : Int) < ((p.length + l1.length + r1.length + l2.length + r2.length : Nat) : Int) := by omega
        simp only [d1, d2, if_true, if_false]
        have e := b4 (.inr (by omega))
        rw [e]
        have : p ++ (m1 ++ (l2 ++ (r2 ++ s))) = p ++ ((m1 ++ (l2 ++ r2)) ++ s) := by simp
        rw [this]
        exact Ev.now _
    · have d1 : ¬ ((p.length + l1.length + r1.length : Nat) : Int) < ((p.length + l1.length + r1.length + l2.length : Nat) : Int) := by omega
      simp only [d1, if_false]
      have e := b4 (.inl (by omega))
      rw [e]
      have : p ++ (m1 ++ (l2 ++ (r2 ++ s))) = p ++ ((m1 ++ (l2 ++ r2)) ++ s) := by simp
      rw [this]
      exact Ev.now _
  by_cases c1 : 0 < l1.length
  · by_cases c2 : 0 < r1.length
    · have d1 : (p.length : Int) < ((p.length + l1.length : Nat) : Int) := by omega
      have d2 : ((p.length + l1.length : Nat) : Int) < ((p.length + l1.length + r1.length : Nat) : Int) := by omega
      refine Ev.step (f := fun k => api_RR_79.j8 k (p ++ (l1 ++ (r1 ++ (l2 ++ (r2 ++ s))))) (p.length : Int) ((p.length + l1.length + r1.length + l2.length + r2.length : Nat) : Int) z ((p.length + l1.length + r1.length : Nat) : Int) ((p.length + l1.length : Nat) : Int) ((p.length + l1.length + r1.length + l2.length : Nat) : Int) true) (fun k => by simp only [api_RR_79.j7, d1, d2, if_true, decide_true]) ?_
      refine Ev.step (fun k => by simp only [api_RR_79.j8, if_true]; rfl) (Ev.bind (a3 c1 c2) ?_)
      exact second
    · have d1 : (p.length : Int) < ((p.length + l1.length : Nat) : Int) := by omega
      have d2 : ¬ ((p.length + l1.length : Nat) : Int) < ((p.length + l1.length + r1.length : Nat) : Int) := by omega
      have e := a4 (.inr (by omega))
      have e3 : p ++ (l1 ++ (r1 ++ (l2 ++ (r2 ++ s)))) = p ++ (m1 ++ (l2 ++ (r2 ++ s))) := by rw [e]; simp
      refine Ev.step (f := fun k => api_RR_79.j8 k (p ++ (l1 ++ (r1 ++ (l2 ++ (r2 ++ s))))) (p.length : Int) ((p.length + l1.length + r1.length + l2.length + r2.length : Nat) : Int) z ((p.length + l1.length + r1.length : Nat) : Int) ((p.length + l1.length : Nat) : Int) ((p.length + l1.length + r1.length + l2.length : Nat) : Int) false) (fun k => by simp only [api_RR_79.j7, d1, d2, if_true, decide_false]) ?_
      rw [e3]
      exact Ev.step (fun k => by simp only [api_RR_79.j8, Bool.false_eq_true, if_false]) second
  · have d1 : ¬ (p.length : Int) < ((p.length + l1.length : Nat) : Int) := by omega
    have e := a4 (.inl (by omega))
    have e3 : p ++ (l1 ++ (r1 ++ (l2 ++ (r2 ++ s)))) = p ++ (m1 ++ (l2 ++ (r2 ++ s))) := by rw [e]; simp
    refine Ev.step (f := fun k => api_RR_79.j8 k (p ++ (l1 ++ (r1 ++ (l2 ++ (r2 ++ s))))) (p.length : Int) ((p.length + l1.length + r1.length + l2.length + r2.length : Nat) : Int) z ((p.length + l1.length + r1.length : Nat) : Int) ((p.length + l1.length : Nat) : Int) ((p.length + l1.length + r1.length + l2.length : Nat) : Int) false) (fun k => by simp only [api_RR_79.j7, d1, if_false]) ?_
    rw [e3]
    exact Ev.step (fun k => by simp only [api_RR_79.j8, Bool.false_eq_true, if_false]) second
theorem sym_gt (x0 : List RR) (z : Int) (P A B H : Nat) (h0 : 0 < A + B) (ha : ¬ A = 1) (hb : ¬ B = 1) (hH : (A + B) / 2 = H) (hn : P + A + B ≤ 1000000) (hc : A > H) (res : List RR)
    (h : Ev (fun k => api_RR_79.l4 k x0 (P : Int) ((P + A : Nat) : Int) ((P + A + B : Nat) : Int) z ((P + H : Nat) : Int) ((P + H + (P + A) : Nat) : Int) ((P + H - B : Nat) : Int) ((P + H : Nat) : Int) ((P + H + (P + A) - 1 : Nat) : Int)) res) : Ev (fun k => api_RR_79.f k x0 (P : Int) ((P + A : Nat) : Int) ((P + A + B : Nat) : Int) z) res := by
  have hmid : (P + (P + A + B)) / 2 = P + H := by omega
  have w1 : wrap64 (((P + A : Nat) : Int) - (P : Int)) = (A : Int) := w64 (by omega) (by omega)
  have w2 : wrap64 (((P + A + B : Nat) : Int) - ((P + A : Nat) : Int)) = (B : Int) := w64 (by omega) (by omega)
  have w4 : wrap64 (((P + H : Nat) : Int) + ((P + A : Nat) : Int)) = ((P + H + (P + A) : Nat) : Int) := w64 (by omega) (by omega)
  have w5 : wrap64 (((P + H + (P + A) : Nat) : Int) - 1) = ((P + H + (P + A) - 1 : Nat) : Int) := w64 (by omega) (by omega)
  have w6 : wrap64 (((P + H + (P + A) : Nat) : Int) - ((P + A + B : Nat) : Int)) = ((P + H - B : Nat) : Int) := w64 (by omega) (by omega)
  have k1 : ¬ ((A : Int) = 1) := by omega
  have k2 : ¬ ((B : Int) = 1) := by omega
  have k3 : ((P + A : Nat) : Int) > ((P + H : Nat) : Int) := by omega
  have w3 := half P (P + A + B) (by omega)
  rw [hmid] at w3
  refine Ev.step (f := fun k => api_RR_79.j4 k x0 (P : Int) ((P + A : Nat) : Int) ((P + A + B : Nat) : Int) z ((P + H : Nat) : Int) ((P + H + (P + A) : Nat) : Int) ((P + H - B : Nat) : Int) ((P + H : Nat) : Int)) (fun k => by simp only [api_RR_79.f, w1, w2, w3, w4, w6]; rw [if_neg k1, if_neg k2, if_pos k3]) ?_
  exact Ev.step (fun k => by simp only [api_RR_79.j4, w5]) h
theorem sym_le (x0 : List RR) (z : Int) (P A B H : Nat) (h0 : 0 < A + B) (ha : ¬ A = 1) (hb : ¬ B = 1) (hH : (A + B) / 2 = H) (hn : P + A + B ≤ 1000000) (hc : ¬ A > H) (res : List RR)
    (h : Ev (fun k => api_RR_79.l4 k x0 (P : Int) ((P + A : Nat) : Int) ((P + A + B : Nat) : Int) z ((P + H : Nat) : Int) ((P + H + (P + A) : Nat) : Int) (P : Int) ((P + A : Nat) : Int) ((P + H + (P + A) - 1 : Nat) : Int)) res) : Ev (fun k => api_RR_79.f k x0 (P : Int) ((P + A : Nat) : Int) ((P + A + B : Nat) : Int) z) res := by
  have hmid : (P + (P + A + B)) / 2 = P + H := by omega
  have w1 : wrap64 (((P + A : Nat) : Int) - (P : Int)) = (A : Int) := w64 (by omega) (by omega)
  have w2 : wrap64 (((P + A + B : Nat) : Int) - ((P + A : Nat) : Int)) = (B : Int) := w64 (by omega) (by omega)
  have w4 : wrap64 (((P + H : Nat) : Int) + ((P + A : Nat) : Int)) = ((P + H + (P + A) : Nat) : Int) := w64 (by omega) (by omega)
  have k1 : ¬ ((A : Int) = 1) := by omega
  have k2 : ¬ ((B : Int) = 1) := by omega
  have k3 : ¬ ((P + A : Nat) : Int) > ((P + H : Nat) : Int) := by omega
  have hpos : 1 ≤ P + H + (P + A) := by omega
  have w5 : wrap64 (((P + H + (P + A) : Nat) : Int) - 1) = ((P + H + (P + A) - 1 : Nat) : Int) := w64 (by omega) (by omega)
  have w3 := half P (P + A + B) (by omega)
  rw [hmid] at w3
  refine Ev.step (f := fun k => api_RR_79.j4 k x0 (P : Int) ((P + A : Nat) : Int) ((P + A + B : Nat) : Int) z ((P + H : Nat) : Int) ((P + H + (P + A) : Nat) : Int) (P : Int) ((P + A : Nat) : Int)) (fun k => by simp only [api_RR_79.f, w1, w2, w3, w4]; rw [if_neg k1, if_neg k2, if_neg k3]) ?_
  exact Ev.step (fun k => by simp only [api_RR_79.j4, w5]) h
theorem ev_sym (z : Int) : ∀ (n : Nat), SymIH z n := by
  intro n
  induction n with
  | zero => intro p l r s h; omega
  | succ n ih =>
    intro p l r s h hl0 hr0 hsl hsr hf hn
    by_cases h1 : l.length = 1
    · obtain ⟨x, rfl⟩ := List.length_eq_one_iff.mp h1
      obtain ⟨m, g1, g2, g3⟩ := sym_one z p r s x hr0 hsr hf hn
      exact ⟨m, g1, g2, g3⟩
    by_cases h2 : r.length = 1
    · obtain ⟨y, rfl⟩ := List.length_eq_one_iff.mp h2
      obtain ⟨m, g1, g2, g3⟩ := sym_two z p l s y (by omega) hsl hf hn
      exact ⟨m, g1, g2, g3⟩
    have hl : (p ++ (l ++ (r ++ s))).length = p.length + l.length + r.length + s.length := by simp; omega
    obtain ⟨P, hP⟩ : ∃ P, p.length = P := ⟨_, rfl⟩
    obtain ⟨A, hA⟩ : ∃ A, l.length = A := ⟨_, rfl⟩
    obtain ⟨B, hB⟩ : ∃ B, r.length = B := ⟨_, rfl⟩
    obtain ⟨H, hH⟩ : ∃ H, (A + B) / 2 = H := ⟨_, rfl⟩
    have hmid : (P + (P + A + B)) / 2 = P + H := by omega
    have rl : ∀ t (ht : t < A), rdR (p ++ (l ++ (r ++ s))) ((P + t : Nat) : Int) = l[t]'(by omega) := fun t ht => by
      have ht1 : t < l.length := by omega
      have h := rd_in p l (r ++ s) t ht1
      rw [hP] at h
      exact h
    have e0 : p ++ (l ++ (r ++ s)) = (p ++ l) ++ (r ++ s) := by simp
    have hpl : (p ++ l).length = P + A := by simp [hP, hA]
    have rr : ∀ t (ht : t < B), rdR (p ++ (l ++ (r ++ s))) ((P + A + t : Nat) : Int) = r[t]'(by omega) := fun t ht => by
      have ht1 : t < r.length := by omega
      have h := rd_in (p ++ l) r s t ht1
      rw [hpl, ← e0] at h
      exact h
    -- the halves
    obtain ⟨lo, hlo⟩ : ∃ lo, (if A > H then P + H - B else P) = lo := ⟨_, rfl⟩
    obtain ⟨hi, hhi⟩ : ∃ hi, (if A > H then P + H else P + A) = hi := ⟨_, rfl⟩
    have blo : P ≤ lo ∧ (lo = P ∨ lo + B = P + H) ∧ P + H ≤ lo + B := by rw [← hlo]; split <;> omega
    have bhi : hi ≤ P + H ∧ hi ≤ P + A ∧ (hi = P + H ∨ hi = P + A) ∧ lo ≤ hi := by rw [← hhi, ← hlo]; split <;> omega
    have hpp : P + H + (P + A) - 1 = P + H + (P + A) - 1 := rfl
    have key : ∀ c, lo ≤ c → c < hi → ∃ (hu : c - P < A) (hv : P + H - 1 - c < B), rdR (p ++ (l ++ (r ++ s))) ((P + H + (P + A) - 1 - c : Nat) : Int) = r[P + H - 1 - c]'(by omega) ∧ rdR (p ++ (l ++ (r ++ s))) (c : Nat) = l[c - P]'(by omega) := fun c c1 c2 => by
      have hu : c - P < A := by omega
      have hv : P + H - 1 - c < B := by omega
      refine ⟨hu, hv, ?_, ?_⟩
      · rw [show P + H + (P + A) - 1 - c = P + A + (P + H - 1 - c) by omega]; exact rr _ hv
      · have := rl (c - P) hu
        rw [show P + (c - P) = c by omega] at this
        exact this
    obtain ⟨q, g1, g2, g3, g4, g5⟩ := find_part _ hf hn (P : Int) ((P + A : Nat) : Int) ((P + A + B : Nat) : Int) z ((P + H : Nat) : Int) ((P + H + (P + A) : Nat) : Int) lo hi (P + H + (P + A) - 1) bhi.2.2.2 (by omega) (by omega) (fun c c1 c2 => by omega)
      (fun c c' k1 k2 k3 k4 => by
        obtain ⟨u1, v1, x1, y1⟩ := key c k1 (by omega)
        obtain ⟨u2, v2, x2, y2⟩ := key c' (by omega) k3
        rw [x1, y1] at k4
        rw [x2, y2]
        have s1 := sorted_get hsl (c - P) (c' - P) (by omega) (by omega)
        have s2 := sorted_get hsr (P + H - 1 - c') (P + H - 1 - c) (by omega) (by omega)
        have s3 : cmpRR (r[P + H - 1 - c']'(by omega)) (l[c - P]'(by omega)) < 0 := by
          by_cases e : cmpRR (r[P + H - 1 - c']'(by omega)) (r[P + H - 1 - c]'(by omega)) = 0
          · exact ordRR.lt_of_eq_of_lt e k4
          · exact ordRR.trans _ _ _ (by omega) k4
        by_cases e : cmpRR (l[c - P]'(by omega)) (l[c' - P]'(by omega)) = 0
        · exact ordRR.lt_of_lt_of_eq s3 e
        · exact ordRR.trans _ _ _ s3 (by omega)) (hi - lo) lo hi (Nat.le_refl _) (Nat.le_refl _) bhi.2.2.2 (Nat.le_refl _) (fun c c1 c2 => by omega) (fun c c1 c2 => by omega)
    -- q: where the first half of l ends
    obtain ⟨u, hu⟩ : ∃ u, q = P + u := ⟨q - P, by omega⟩
    have hua : u ≤ A := by omega
    have huh : u ≤ H := by omega
    have hvb : H - u ≤ B := by omega
    have ltake : (l.take u).length = u := by rw [List.length_take]; omega
    have ldrop : (l.drop u).length = A - u := by rw [List.length_drop]; omega
    have rtake : (r.take (H - u)).length = H - u := by rw [List.length_take]; omega
    have rdrop : (r.drop (H - u)).length = B - (H - u) := by rw [List.length_drop]; omega
    have sl : Sorted cmpRR (l.take u ++ l.drop u) := by rw [List.take_append_drop]; exact hsl
    have sr : Sorted cmpRR (r.take (H - u) ++ r.drop (H - u)) := by rw [List.take_append_drop]; exact hsr
    have c1 : ∀ x ∈ l.take u, ∀ y ∈ r.drop (H - u), cmpRR x y ≤ 0 := fun x hx y hy => by
      obtain ⟨i, hi1, rfl⟩ := List.getElem_of_mem hx
      obtain ⟨j, hj1, rfl⟩ := List.getElem_of_mem hy
      rw [ltake] at hi1
      rw [rdrop] at hj1
      rw [List.getElem_take, List.getElem_drop]
      have hq : lo ≤ q - 1 ∧ q - 1 < q := by omega
      obtain ⟨u2, v2, x2, y2⟩ := key (q - 1) hq.1 (by omega)
      have k := g3 (q - 1) hq.1 hq.2
      rw [x2, y2] at k
      have k' := ordRR.flip (l[q - 1 - P]'(by omega)) (r[P + H - 1 - (q - 1)]'(by omega))
      have a1 : cmpRR (l[i]'(by omega)) (l[q - 1 - P]'(by omega)) ≤ 0 := by
        by_cases e : i = q - 1 - P
        · subst e; rw [ordRR.refl]; omega
        · exact sorted_get hsl i (q - 1 - P) (by omega) (by omega)
      have a2 : cmpRR (r[P + H - 1 - (q - 1)]'(by omega)) (r[H - u + j]'(by omega)) ≤ 0 := by
        by_cases e : P + H - 1 - (q - 1) = H - u + j
        · simp only [e]; rw [ordRR.refl]; omega
        · exact sorted_get hsr _ _ (by omega) (by omega)
      exact ordRR.le_trans (ordRR.le_trans a1 (by omega)) a2
    have c2 : ∀ y ∈ r.take (H - u), ∀ x ∈ l.drop u, cmpRR y x < 0 := fun y hy x hx => by
      obtain ⟨i, hi1, rfl⟩ := List.getElem_of_mem hx
      obtain ⟨j, hj1, rfl⟩ := List.getElem_of_mem hy
      rw [ldrop] at hi1
      rw [rtake] at hj1
      rw [List.getElem_take, List.getElem_drop]
      obtain ⟨u2, v2, x2, y2⟩ := key q g1 (by omega)
      have k := g4 q (Nat.le_refl _) (by omega)
      rw [x2, y2] at k
      have a1 : cmpRR (l[q - P]'(by omega)) (l[u + i]'(by omega)) ≤ 0 := by
        by_cases e : q - P = u + i
        · simp only [e]; rw [ordRR.refl]; omega
        · exact sorted_get hsl _ _ (by omega) (by omega)
      have a2 : cmpRR (r[j]'(by omega)) (r[P + H - 1 - q]'(by omega)) ≤ 0 := by
        by_cases e : j = P + H - 1 - q
        · subst e; rw [ordRR.refl]; omega
        · exact sorted_get hsr _ _ (by omega) (by omega)
      have a3 : cmpRR (r[j]'(by omega)) (l[q - P]'(by omega)) < 0 := by
        by_cases e : cmpRR (r[j]'(by omega)) (r[P + H - 1 - q]'(by omega)) = 0
        · exact ordRR.lt_of_eq_of_lt e k
        · exact ordRR.trans _ _ _ (by omega) k
      by_cases e : cmpRR (l[q - P]'(by omega)) (l[u + i]'(by omega)) = 0
      · exact ordRR.lt_of_lt_of_eq a3 e
      · exact ordRR.trans _ _ _ a3 (by omega)
    have hturn : (p ++ (l.take u ++ (r.take (H - u) ++ (l.drop u ++ (r.drop (H - u) ++ s))))).length = (p ++ (l ++ (r ++ s))).length := by
      rw [hl]; simp only [List.length_append, ltake, ldrop, rtake, rdrop]; omega
    obtain ⟨m1, m2, b1, b2, b3, b4, b5⟩ := sym_tail z n ih p (l.take u) (r.take (H - u)) (l.drop u) (r.drop (H - u)) s (by omega) (by omega) (sorted_left sl) (sorted_left sr) (sorted_right sl) (sorted_right sr) (fun y hy => by
        refine hf y ?_
        have q1 : ∀ w, w ∈ l.take u → w ∈ l := fun w => List.mem_of_mem_take
        have q2 : ∀ w, w ∈ l.drop u → w ∈ l := fun w => List.mem_of_mem_drop
        have q3 : ∀ w, w ∈ r.take (H - u) → w ∈ r := fun w => List.mem_of_mem_take
        have q4 : ∀ w, w ∈ r.drop (H - u) → w ∈ r := fun w => List.mem_of_mem_drop
        simp only [List.mem_append] at hy ⊢
        rcases hy with h | h | h | h | h | h
        · exact .inl h
        · exact .inr (.inl (q1 _ h))
        · exact .inr (.inr (.inl (q3 _ h)))
        · exact .inr (.inl (q2 _ h))
        · exact .inr (.inr (.inl (q4 _ h)))
        · exact .inr (.inr (.inr h))) (by rw [hturn]; exact hn)
    have st := stable_halves ordRR sl sr c1 c2 b1 b2
    rw [List.take_append_drop, List.take_append_drop] at st
    refine ⟨m1 ++ m2, st, by simp only [List.length_append, b3, b4, ltake, ldrop, rtake, rdrop]; omega, ?_⟩
    rw [ltake, rtake, ldrop, rdrop, hP] at b5
    have n1 : P + u + (H - u) = P + H := by omega
    have n2 : P + H + (A - u) + (B - (H - u)) = P + A + B := by omega
    have n3 : P + H + (A - u) = P + A + (H - u) := by omega
    rw [n1, n2, n3, ← hu] at b5
    have w7 : wrap64 (((P + H + (P + A) : Nat) : Int) - (q : Int)) = ((P + A + (H - u) : Nat) : Int) := w64 (by omega) (by omega)
    -- behind the search
    have hj6 : Ev (fun k => if (q : Int) < ((P + A : Nat) : Int) then api_RR_79.j6 k (p ++ (l ++ (r ++ s))) (P : Int) ((P + A : Nat) : Int) ((P + A + B : Nat) : Int) z ((P + H : Nat) : Int) (q : Int) (wrap64 (((P + H + (P + A) : Nat) : Int) - (q : Int))) (decide (((P + A : Nat) : Int) < wrap64 (((P + H + (P + A) : Nat) : Int) - (q : Int)))) else api_RR_79.j6 k (p ++ (l ++ (r ++ s))) (P : Int) ((P + A : Nat) : Int) ((P + A + B : Nat) : Int) z ((P + H : Nat) : Int) (q : Int) (wrap64 (((P + H + (P + A) : Nat) : Int) - (q : Int))) false) (p ++ ((m1 ++ m2) ++ s)) := by
      rw [w7]
      have off : (A ≤ u ∨ H ≤ u) → Ev (fun k => api_RR_79.j6 k (p ++ (l ++ (r ++ s))) (P : Int) ((P + A : Nat) : Int) ((P + A + B : Nat) : Int) z ((P + H : Nat) : Int) (q : Int) ((P + A + (H - u) : Nat) : Int) false) (p ++ ((m1 ++ m2) ++ s)) := fun ho => by
        have e : p ++ (l ++ (r ++ s)) = p ++ (l.take u ++ (r.take (H - u) ++ (l.drop u ++ (r.drop (H - u) ++ s)))) := by
          rcases ho with ho | ho
          · rw [List.take_of_length_le (by omega : l.length ≤ u), List.drop_of_length_le (by omega : l.length ≤ u), List.nil_append, ← List.append_assoc (r.take (H - u)), List.take_append_drop]
          · rw [show H - u = 0 by omega, List.take_zero, List.drop_zero, List.nil_append, ← List.append_assoc (l.take u), List.take_append_drop]
        rw [e]
        exact Ev.step (fun k => by simp only [api_RR_79.j6, Bool.false_eq_true, if_false]) b5
      by_cases d1 : (q : Int) < ((P + A : Nat) : Int)
      · simp only [d1, if_true]
        by_cases d2 : ((P + A : Nat) : Int) < ((P + A + (H - u) : Nat) : Int)
        · rw [decide_eq_true d2]
          have hrot := ev_rot (p ++ l.take u) (l.drop u) (r.take (H - u)) (r.drop (H - u) ++ s) z (by omega) (by omega) (by
            have e : (p ++ l.take u) ++ (l.drop u ++ (r.take (H - u) ++ (r.drop (H - u) ++ s))) = p ++ (l ++ (r ++ s)) := by
              rw [List.append_assoc, ← List.append_assoc (l.take u), List.take_append_drop, ← List.append_assoc (r.take (H - u)), List.take_append_drop]
            rw [e]; exact hn)
          have e : (p ++ l.take u) ++ (l.drop u ++ (r.take (H - u) ++ (r.drop (H - u) ++ s))) = p ++ (l ++ (r ++ s)) := by
            rw [List.append_assoc, ← List.append_assoc (l.take u), List.take_append_drop, ← List.append_assoc (r.take (H - u)), List.take_append_drop]
          have e' : (p ++ l.take u) ++ (r.take (H - u) ++ (l.drop u ++ (r.drop (H - u) ++ s))) = p ++ (l.take u ++ (r.take (H - u) ++ (l.drop u ++ (r.drop (H - u) ++ s)))) := by simp only [List.append_assoc]
          have f1 : (p ++ l.take u).length = q := by rw [List.length_append, ltake]; omega
          rw [e, e', f1, ldrop, rtake, show q + (A - u) = P + A by omega] at hrot
          exact Ev.step (fun k => by simp only [api_RR_79.j6, if_true]; rfl) (Ev.bind hrot b5)
        · rw [decide_eq_false d2]
          exact off (by omega)
      · simp only [d1, if_false]
        exact off (by omega)
    have hfin := g5 _ hj6
    rw [hP, hA, hB]
    have n1' : ¬ A = 1 := fun e => h1 (by omega)
    have n2' : ¬ B = 1 := fun e => h2 (by omega)
    have nb : P + A + B ≤ 1000000 := by omega
    clear hj6 g5 hf hn key rl rr c1 c2 st b1 b2 ih g3 g4 hsl hsr sl sr b5 w7
    by_cases hc : A > H
    · rw [if_pos hc] at hlo hhi
      rw [← hhi, ← hlo] at hfin
      exact sym_gt _ z P A B H (by omega) n1' n2' hH nb hc _ hfin
    · rw [if_neg hc] at hlo hhi
      rw [← hhi, ← hlo] at hfin
      exact sym_le _ z P A B H (by omega) n1' n2' hH nb hc _ hfin
theorem drop_parts (q : List RR) (s : Nat) : q = q.take s ++ ((q.drop s).take s ++ q.drop (2 * s)) := by
  conv => lhs; rw [← List.take_append_drop s q, ← List.take_append_drop s (q.drop s), List.drop_drop]
  rw [show s + s = 2 * s by omega]
theorem pass (z : Int) (l : List RR) (s : Nat) (hs : 0 < s) (hs2 : s ≤ 1000000) (hn : l.length ≤ 1000000) (hf : ∀ y ∈ l, fine y) (hB : Blocks cmpRR s l) : ∀ (d t : Nat) (p : List RR), p.length = t * (2 * s) → p.length ≤ l.length → l.length - p.length ≤ d → Blocks cmpRR (2 * s) p →
    (∀ x, cls cmpRR p x = cls cmpRR (l.take p.length) x) → ∃ l', l'.length = l.length ∧ Blocks cmpRR (2 * s) l' ∧ (∀ x, cls cmpRR l' x = cls cmpRR l x) ∧
      ∀ r, Ev (fun k => api_RR_63.l1 k l' (l.length : Int) z ((2 * s : Nat) : Int)) r → Ev (fun k => api_RR_63.l2 k (p ++ l.drop p.length) (l.length : Int) z (s : Int) (p.length : Int) ((p.length + 2 * s : Nat) : Int)) r := by
  intro d
  induction d with
  | zero =>
    intro t p ht hp hd hbp hc
    have hq : l.drop p.length = [] := List.drop_of_length_le (by omega)
    have e1 : wrap64 ((p.length : Int) + (s : Int)) = ((p.length + s : Nat) : Int) := w64 (by omega) (by omega)
    have e2 : wrap64 ((s : Int) * 2) = ((2 * s : Nat) : Int) := w64 (by omega) (by omega)
    rw [hq, List.append_nil]
    refine ⟨p, by omega, hbp, fun x => by rw [hc, List.take_of_length_le (by omega)], fun r hr => ?_⟩
    exact Ev.step (fun k => by simp only [api_RR_63.l2, e1, e2]; rw [if_neg (by omega), if_neg (by omega)]) hr
  | succ d ih =>
    intro t p ht hp hd hbp hc
    obtain ⟨a, ha⟩ : ∃ a, p.length = a := ⟨_, rfl⟩
    obtain ⟨q, hq⟩ : ∃ q, l.drop a = q := ⟨_, rfl⟩
    have hql : q.length = l.length - a := by rw [← hq, List.length_drop]
    have hlq : l = l.take a ++ q := by rw [← hq, List.take_append_drop]
    have hqf : ∀ y ∈ q, fine y := fun y hy => hf y (by rw [hlq]; exact List.mem_append_right _ hy)
    have hpf : ∀ y ∈ p, fine y := fun y hy => by
      have h1 : y ∈ l.take p.length := mem_of_cls ordRR hc hy
      exact hf y (List.mem_of_mem_take h1)
    have e1 : wrap64 ((a : Int) + (s : Int)) = ((a + s : Nat) : Int) := w64 (by omega) (by omega)
    have e2 : wrap64 ((s : Int) * 2) = ((2 * s : Nat) : Int) := w64 (by omega) (by omega)
    have e3 : wrap64 (2 * (s : Int)) = ((2 * s : Nat) : Int) := w64 (by omega) (by omega)
    have e4 : wrap64 (((a + 2 * s : Nat) : Int) + ((2 * s : Nat) : Int)) = ((a + 2 * s + 2 * s : Nat) : Int) := w64 (by omega) (by omega)
    have s1 : Sorted cmpRR (q.take s) := by
      have := hB (2 * t)
      rw [show 2 * t * s = a by rw [← ha, ht]; rw [Nat.mul_comm 2 t, Nat.mul_assoc], hq] at this
      exact this
    have s2 : Sorted cmpRR ((q.drop s).take s) := by
      have := hB (2 * t + 1)
      rw [show (2 * t + 1) * s = a + s by rw [← ha, ht, Nat.add_mul, Nat.one_mul, Nat.mul_comm 2 t, Nat.mul_assoc], ← List.drop_drop, hq] at this
      exact this
    have hpq : (p ++ q).length = l.length := by rw [List.length_append, hql]; omega
    have hfpq : ∀ y ∈ p ++ q, fine y := fun y hy => by
      rcases List.mem_append.mp hy with h | h
      · exact hpf y h
      · exact hqf y h
    rw [ha] at hc hp hd ⊢
    rw [hq]
    by_cases hb : a + 2 * s ≤ l.length
    · have hsym := ev_sym z (s + s + 1) p (q.take s) ((q.drop s).take s) (q.drop (2 * s)) (by simp only [List.length_take, List.length_drop]; omega) (by rw [List.length_take]; omega) (by rw [List.length_take, List.length_drop]; omega) s1 s2
        (by rw [← drop_parts]; exact hfpq) (by rw [← drop_parts, hpq]; exact hn)
      obtain ⟨m, g1, g2, g3⟩ := hsym
      have l1 : (q.take s).length = s := by rw [List.length_take]; omega
      have l2 : ((q.drop s).take s).length = s := by rw [List.length_take, List.length_drop]; omega
      rw [l1, l2] at g2
      rw [← drop_parts, l1, l2, ha] at g3
      have hpm : (p ++ m).length = a + 2 * s := by rw [List.length_append, ha, g2]; omega
      have htk : l.take (a + 2 * s) = l.take a ++ (q.take s ++ (q.drop s).take s) := by
        conv => lhs; rw [hlq]
        rw [List.take_append, List.length_take, List.take_of_length_le (by rw [List.length_take]; omega), Nat.min_eq_left hp, show a + 2 * s - a = s + s by omega, List.take_add]
      obtain ⟨l', k1, k2, k3, k4⟩ := ih (t + 1) (p ++ m) (by rw [hpm, ← ha, ht, Nat.add_mul, Nat.one_mul]) (by omega) (by omega) (blocks_snoc hbp (by rw [ha] at ht ⊢; exact ht) g1.1 (by omega)) (fun x => by
        rw [hpm, htk, cls_append, hc, g1.2, cls_append cmpRR (l.take a)])
      refine ⟨l', k1, k2, k3, fun r hr => ?_⟩
      have := k4 r hr
      rw [hpm, ← List.drop_drop, hq, List.append_assoc] at this
      refine Ev.step (f := fun k => (api_RR_79.f k (p ++ q) (a : Int) ((a + s : Nat) : Int) ((a + 2 * s : Nat) : Int) z).bind fun t142 => api_RR_63.l2 k t142 (l.length : Int) z (s : Int) ((a + 2 * s : Nat) : Int) ((a + 2 * s + 2 * s : Nat) : Int)) (fun k => by simp only [api_RR_63.l2, e1, e3, e4]; rw [if_pos (by omega)]) ?_
      rw [show a + s + s = a + 2 * s by omega] at g3
      exact Ev.bind g3 this
    · by_cases hc2 : a + s < l.length
      · have hsym := ev_sym z (s + s + 1) p (q.take s) (q.drop s) [] (by simp only [List.length_take, List.length_drop]; omega) (by rw [List.length_take]; omega) (by rw [List.length_drop]; omega) s1
          (by have := s2; rw [List.take_of_length_le (by rw [List.length_drop]; omega)] at this; exact this)
          (by rw [List.append_nil, List.take_append_drop]; exact hfpq) (by rw [List.append_nil, List.take_append_drop, hpq]; exact hn)
        obtain ⟨m, g1, g2, g3⟩ := hsym
        have l1 : (q.take s).length = s := by rw [List.length_take]; omega
        have l2 : (q.drop s).length = l.length - a - s := by rw [List.length_drop]; omega
        rw [List.take_append_drop] at g1
        rw [l1, l2] at g2
        rw [List.append_nil, List.append_nil, List.take_append_drop, l1, l2, ha, show a + s + (l.length - a - s) = l.length by omega] at g3
        refine ⟨p ++ m, by rw [List.length_append, ha, g2]; omega, blocks_snoc hbp (by rw [ha] at ht ⊢; exact ht) g1.1 (by omega), fun x => ?_, fun r hr => ?_⟩
        · rw [cls_append, hc, g1.2, ← cls_append, ← hlq]
        · refine Ev.step (f := fun k => (api_RR_79.f k (p ++ q) (a : Int) ((a + s : Nat) : Int) (l.length : Int) z).bind fun t143 => api_RR_63.l1 k t143 (l.length : Int) z ((2 * s : Nat) : Int)) (fun k => by simp only [api_RR_63.l2, e1, e2]; rw [if_neg (by omega), if_pos (by omega)]) ?_
          exact Ev.bind g3 hr
      · refine ⟨p ++ q, hpq, blocks_snoc hbp (by rw [ha] at ht ⊢; exact ht) (by have := s1; rw [List.take_of_length_le (by omega)] at this; exact this) (by omega), fun x => ?_, fun r hr => ?_⟩
        · rw [cls_append, hc, ← cls_append, ← hlq]
        · exact Ev.step (fun k => by simp only [api_RR_63.l2, e1, e2]; rw [if_neg (by omega), if_neg (by omega)]) hr
theorem rounds_ (z : Int) (N : Nat) (hN : N ≤ 1000000) (l0 : List RR) : ∀ (d s : Nat) (l : List RR), N - s ≤ d → 0 < s → s ≤ 2000000 → l.length = N → (∀ y ∈ l, fine y) → Blocks cmpRR s l → (∀ x, cls cmpRR l x = cls cmpRR l0 x) →
    ∃ m, StableOf cmpRR l0 m ∧ m.length = N ∧ Ev (fun k => api_RR_63.l1 k l (N : Int) z (s : Int)) m := by
  intro d
  induction d with
  | zero =>
    intro s l hd hs hs2 hl hf hB hc
    exact ⟨l, ⟨blocks_all hB (by omega), hc⟩, hl, Ev.step (f := fun _ => some l) (fun k => by simp only [api_RR_63.l1]; rw [if_neg (by omega)]) (Ev.now _)⟩
  | succ d ih =>
    intro s l hd hs hs2 hl hf hB hc
    by_cases h : s < N
    · have e3 : wrap64 (2 * (s : Int)) = ((2 * s : Nat) : Int) := w64 (by omega) (by omega)
      obtain ⟨l', k1, k2, k3, k4⟩ := pass z l s hs (by omega) (by omega) hf hB l.length 0 [] (by simp) (by simp) (by simp) (blocks_nil _) (fun x => by simp)
      obtain ⟨m, g1, g2, g3⟩ := ih (2 * s) l' (by omega) (by omega) (by omega) (by omega) (fun y hy => hf y (mem_of_cls ordRR k3 hy)) k2 (fun x => (k3 x).trans (hc x))
      refine ⟨m, g1, g2, ?_⟩
      have := k4 m (by rw [hl]; exact g3)
      simp only [List.length_nil, List.nil_append, List.drop_zero, Nat.zero_add] at this
      refine Ev.step (fun k => by simp only [api_RR_63.l1, e3]; rw [if_pos (by omega)]) ?_
      · rw [hl] at this
        exact this
    · exact ⟨l, ⟨blocks_all hB (by omega), hc⟩, hl, Ev.step (f := fun _ => some l) (fun k => by simp only [api_RR_63.l1]; rw [if_neg (by omega)]) (Ev.now _)⟩
theorem firsts_ (z : Int) (l : List RR) (hn : l.length ≤ 1000000) (hf : ∀ y ∈ l, fine y) : ∀ (d t : Nat) (p : List RR), p.length = t * 20 → p.length ≤ l.length → l.length - p.length ≤ d → Blocks cmpRR 20 p →
    (∀ x, cls cmpRR p x = cls cmpRR (l.take p.length) x) → ∃ l', l'.length = l.length ∧ Blocks cmpRR 20 l' ∧ (∀ x, cls cmpRR l' x = cls cmpRR l x) ∧
      ∀ r, Ev (fun k => api_RR_63.l1 k l' (l.length : Int) z 20) r → Ev (fun k => api_RR_63.l0 k (p ++ l.drop p.length) (l.length : Int) z 20 (p.length : Int) ((p.length + 20 : Nat) : Int)) r := by
  intro d
  induction d with
  | zero =>
    intro t p ht hp hd hbp hc
    have hq : l.drop p.length = [] := List.drop_of_length_le (by omega)
    have hpf : ∀ y ∈ p, fine y := fun y hy => by
      have h1 : y ∈ l.take p.length := mem_of_cls ordRR hc hy
      exact hf y (List.mem_of_mem_take h1)
    obtain ⟨m, g1, g2, g3⟩ := ev_ins p [] [] z (by simpa using hpf) (by simp; omega)
    have hm : m = [] := List.length_eq_zero_iff.mp (by simpa using g2)
    subst hm
    simp only [List.append_nil, List.length_nil, Nat.add_zero] at g3
    rw [hq, List.append_nil]
    refine ⟨p, by omega, hbp, fun x => by rw [hc, List.take_of_length_le (by omega)], fun r hr => ?_⟩
    have hpl : p.length = l.length := by omega
    refine Ev.step (f := fun k => (api_RR_78.f k p (p.length : Int) (p.length : Int) z).bind fun t141 => api_RR_63.l1 k t141 (l.length : Int) z 20) (fun k => by simp only [api_RR_63.l0]; rw [if_neg (by omega), hpl]) ?_
    exact Ev.bind g3 hr
  | succ d ih =>
    intro t p ht hp hd hbp hc
    obtain ⟨a, ha⟩ : ∃ a, p.length = a := ⟨_, rfl⟩
    obtain ⟨q, hq⟩ : ∃ q, l.drop a = q := ⟨_, rfl⟩
    have hql : q.length = l.length - a := by rw [← hq, List.length_drop]
    have hlq : l = l.take a ++ q := by rw [← hq, List.take_append_drop]
    have hqf : ∀ y ∈ q, fine y := fun y hy => hf y (by rw [hlq]; exact List.mem_append_right _ hy)
    have hpf : ∀ y ∈ p, fine y := fun y hy => by
      have h1 : y ∈ l.take p.length := mem_of_cls ordRR hc hy
      exact hf y (List.mem_of_mem_take h1)
    have hpq : (p ++ q).length = l.length := by rw [List.length_append, hql]; omega
    have hfpq : ∀ y ∈ p ++ q, fine y := fun y hy => by
      rcases List.mem_append.mp hy with h | h
      · exact hpf y h
      · exact hqf y h
    rw [ha] at hc hp hd ⊢
    rw [hq]
    by_cases hb : a + 20 ≤ l.length
    · obtain ⟨m, g1, g2, g3⟩ := ev_ins p (q.take 20) (q.drop 20) z (by rw [List.take_append_drop]; exact hfpq) (by rw [List.take_append_drop, hpq]; exact hn)
      have l1 : (q.take 20).length = 20 := by rw [List.length_take]; omega
      rw [l1] at g2
      rw [List.take_append_drop, l1, ha] at g3
      have hpm : (p ++ m).length = a + 20 := by rw [List.length_append, ha, g2]
      have htk : l.take (a + 20) = l.take a ++ q.take 20 := by
        conv => lhs; rw [hlq]
        rw [List.take_append, List.length_take, List.take_of_length_le (by rw [List.length_take]; omega), Nat.min_eq_left hp, show a + 20 - a = 20 by omega]
      obtain ⟨l', k1, k2, k3, k4⟩ := ih (t + 1) (p ++ m) (by rw [hpm, ← ha, ht]; omega) (by omega) (by omega) (blocks_snoc hbp (by rw [ha] at ht ⊢; exact ht) g1.1 (by omega)) (fun x => by
        rw [hpm, htk, cls_append, hc, g1.2, ← cls_append])
      refine ⟨l', k1, k2, k3, fun r hr => ?_⟩
      have := k4 r hr
      rw [hpm, ← List.drop_drop, hq, List.append_assoc] at this
      have e4 : wrap64 (((a + 20 : Nat) : Int) + 20) = ((a + 20 + 20 : Nat) : Int) := w64 (by omega) (by omega)
      refine Ev.step (f := fun k => (api_RR_78.f k (p ++ q) (a : Int) ((a + 20 : Nat) : Int) z).bind fun t140 => api_RR_63.l0 k t140 (l.length : Int) z 20 ((a + 20 : Nat) : Int) ((a + 20 + 20 : Nat) : Int)) (fun k => by simp only [api_RR_63.l0, e4]; rw [if_pos (by omega)]) ?_
      exact Ev.bind g3 this
    · obtain ⟨m, g1, g2, g3⟩ := ev_ins p q [] z (by rw [List.append_nil]; exact hfpq) (by rw [List.append_nil, hpq]; exact hn)
      rw [List.append_nil, List.append_nil, ha, hql, show a + (l.length - a) = l.length by omega] at g3
      refine ⟨p ++ m, by rw [List.length_append, ha, g2]; omega, blocks_snoc hbp (by rw [ha] at ht ⊢; exact ht) g1.1 (by omega), fun x => ?_, fun r hr => ?_⟩
      · rw [cls_append, hc, g1.2, ← cls_append, ← hlq]
      · refine Ev.step (f := fun k => (api_RR_78.f k (p ++ q) (a : Int) (l.length : Int) z).bind fun t141 => api_RR_63.l1 k t141 (l.length : Int) z 20) (fun k => by simp only [api_RR_63.l0]; rw [if_neg (by omega)]) ?_
        exact Ev.bind g3 hr
theorem ev_stable (l : List RR) (z : Int) (hn : l.length ≤ 1000000) (hf : ∀ y ∈ l, fine y) : ∃ m, StableOf cmpRR l m ∧ m.length = l.length ∧ Ev (fun k => api_RR_43.f k l z) m := by
  obtain ⟨l', k1, k2, k3, k4⟩ := firsts_ z l hn hf l.length 0 [] (by simp) (by simp) (by simp) (blocks_nil _) (fun x => by simp)
  obtain ⟨m, g1, g2, g3⟩ := rounds_ z l.length hn l l.length 20 l' (by omega) (by omega) (by omega) k1 (fun y hy => hf y (mem_of_cls ordRR k3 hy)) k2 k3
  refine ⟨m, g1, g2, ?_⟩
  have := k4 m g3
  simp only [List.length_nil, List.nil_append, List.drop_zero, Nat.zero_add] at this
  unfold api_RR_43.f
  refine Ev.bind (a := m) ?_ (Ev.now _)
  exact this
theorem rev_loop (l : List RR) (hn : l.length ≤ 1000000) : ∀ (d i : Nat) (m : List RR), l.length = 2 * i + d → m.length = l.length → (∀ t, m[t]? = if t < i ∨ l.length - i ≤ t ∧ t < l.length then l[l.length - 1 - t]? else l[t]?) →
    Ev (fun k => api_RR_42.l0 k m (i : Int) (wrap64 ((l.length : Int) - 1 - (i : Int)))) l.reverse := by
  intro d
  induction d using Nat.strongRecOn with
  | _ d ih =>
    intro i m hd hm hg
    by_cases h : 2 ≤ d
    · have ej : wrap64 ((l.length : Int) - 1 - (i : Int)) = ((l.length - 1 - i : Nat) : Int) := w64 (by omega) (by omega)
      have e1 : wrap64 ((i : Int) + 1) = ((i + 1 : Nat) : Int) := w64 (by omega) (by omega)
      have e2 : wrap64 (((l.length - 1 - i : Nat) : Int) - 1) = wrap64 ((l.length : Int) - 1 - ((i + 1 : Nat) : Int)) := by congr 1; omega
      have hs := sw_set m i (l.length - 1 - i) (by omega) (by omega)
      have hgs := sw_get m i (l.length - 1 - i) (by omega) (by omega)
      refine Ev.step (f := fun k => api_RR_42.l0 k (sw m i (l.length - 1 - i)) ((i + 1 : Nat) : Int) (wrap64 ((l.length : Int) - 1 - ((i + 1 : Nat) : Int)))) (fun k => ?_) (ih (d - 2) (by omega) (i + 1) _ (by omega) (by rw [sw_length]; exact hm) (fun t => ?_))
      · rw [ej]
        simp only [api_RR_42.l0, e1, e2]
        rw [if_pos (by omega), if_pos (by omega), if_pos (by omega), if_pos (by omega), if_pos (by omega), ← hs]
        rfl
      · rw [hgs, hg, hg, hg]
        repeat' split
        all_goals first | rfl | (exfalso; omega) | (refine congrArg (fun k => l[k]?) ?_; omega)
    · refine Ev.step (f := fun _ => some m) (fun k => ?_) ?_
      · have : ¬ (i : Int) < wrap64 ((l.length : Int) - 1 - (i : Int)) := by
          unfold wrap64; omega
        simp only [api_RR_42.l0]
        rw [if_neg this]
      · have : m = l.reverse := List.ext_getElem? fun t => by
          rw [hg]
          by_cases ht : t < l.length
          · rw [List.getElem?_reverse ht]
            split
            · rfl
            · refine congrArg (fun k => l[k]?) ?_; omega
          · rw [if_neg (by omega), List.getElem?_eq_none (by omega), List.getElem?_eq_none (by rw [List.length_reverse]; omega)]
        rw [this]
        exact Ev.now _
theorem ev_rev (l : List RR) (hn : l.length ≤ 1000000) : Ev (fun k => api_RR_42.f k l) l.reverse := by
  have h := rev_loop l hn l.length 0 l (by omega) rfl (fun t => by
    rw [if_neg (by omega)])
  have e : (l.length : Int) - 1 - ((0 : Nat) : Int) = (l.length : Int) - 1 := by omega
  rw [e] at h
  exact h
end Go.Proofs.Ytehdkopjgcoclaa.Rrs
