/- Contracts and facts that the claim's row is drawn from, each with its own conditions. -/
import Derived.Test.YtehdkopjgcoclaaJoined5
import Derived.Deep.Slices
import Derived.Deep.Fields
import Derived.ProofKit
namespace Go.Proofs.Ytehdkopjgcoclaa.PZn
open Go.RowKit Go.Proofs.YtehdkopjgcoclaaW.PrintWords Go.Proofs.YtehdkopjgcoclaaW.PrintLast Go.Proofs.YtehdkopjgcoclaaW.PrintMore Go.Proofs.Ytehdkopjgcoclaa.Given Go.Proofs.Ytehdkopjgcoclaa.PRd Go.Proofs.Ytehdkopjgcoclaa.PRr Go.Proofs.Ytehdkopjgcoclaa.PZo Go.Proofs.Ytehdkopjgcoclaa.PZf Go.Proofs.Ytehdkopjgcoclaa.PZh
attribute [local go_sem] max2_int min2_int max_two min_two max_three min_three max_four min_four   -- for this text's walks alone
set_option linter.unusedVariables false
set_option linter.unusedSimpArgs false
mutual
noncomputable def beadrolllaw14_ZoneTurns.j0 : Nat → ByteArray → List (S33) → Int → Bool → Option (Bool)
 | 0, _, _, _, _ => none
 | k + 1, x0, x1, x2, x20 => if x20 = true then ((beadrolllaw14_awake.f k).bind fun t103 => (some t103)) else ((zone_New.f k x0 x1).bind fun bt104 => (if bt104.2.2.2 = 0 then ((zone_Zone_All.f bt104.1 bt104.2.1 bt104.2.2.1).bind fun t111 => ((some (([] : List (S33)) : List (S33))).bind fun y114 => (if y114.length + t111.length < 2513169434916 then (beadrolllaw14_ZoneTurns.l0 k x0 x2 t111 (y114 ++ t111) 0) else (none)))) else (some true)))
noncomputable def beadrolllaw14_ZoneTurns.l0 : Nat → ByteArray → Int → List (S33) → List (S33) → Int → Option (Bool)
 | 0, _, _, _, _, _ => none
 | k + 1, x0, x2, x9, x10, x11 => if x11 < (x9.length : Int) then (if (x9.length : Int) = 0 then (none) else (if 0 ≤ (Int.tmod (wrap64 (x11 + (wrap64 (x2)))) (x9.length : Int)) then (if (Int.tmod (wrap64 (x11 + (wrap64 (x2)))) (x9.length : Int)) < (x9.length : Int) then (if x10.length < 2513169434916 then (beadrolllaw14_ZoneTurns.l0 k x0 x2 x9 (x10 ++ [(⟨(rd_T33 x9 (Int.tmod (wrap64 (x11 + (wrap64 (x2)))) (x9.length : Int))).f0, (rd_T33 x9 (Int.tmod (wrap64 (x11 + (wrap64 (x2)))) (x9.length : Int))).f1, (rd_T33 x9 (Int.tmod (wrap64 (x11 + (wrap64 (x2)))) (x9.length : Int))).f2, (rd_T33 x9 (Int.tmod (wrap64 (x11 + (wrap64 (x2)))) (x9.length : Int))).f3, (rd_T33 x9 (Int.tmod (wrap64 (x11 + (wrap64 (x2)))) (x9.length : Int))).f4⟩ : S33)]) (wrap64 (x11 + 1))) else (none)) else (none)) else (none))) else ((zone_New.f k x0 x10).bind fun bt124 => (if bt124.2.2.2 = 0 then ((zone_Zone_All.f bt124.1 bt124.2.1 bt124.2.2.1).bind fun t131 => ((beadrollref11_Same.f k t131 x9).bind fun t134 => (if t134 = true then (some (decide ((x9.length : Int) ≥ 2))) else (some false)))) else (some false)))
end
noncomputable def beadrolllaw14_ZoneTurns.f (k : Nat) (a0 : ByteArray) (l1 : List (S33)) (a2 : Int) : Option (Bool) := (beadrolllaw14_awake.f k).bind fun t101 => (if t101 = true then ((beadrollref14_Few.f k l1).bind fun t102 => (beadrolllaw14_ZoneTurns.j0 k a0 l1 a2 (!t102))) else (beadrolllaw14_ZoneTurns.j0 k a0 l1 a2 true))
set_option maxHeartbeats 8000000 in
set_option maxRecDepth 100000 in
theorem beadrolllaw14_ZoneTurns.calls (k : Nat) (a0 : ByteArray) (A1 : Option Addr) (c1 : Nat) (l1 : List (S33)) (a2 : Int) (r : Bool) (w : World) (hr1 : Kd.C k33 w A1 l1.length l1) (hc1 : l1.length ≤ c1) (h : beadrolllaw14_ZoneTurns.f k a0 l1 a2 = some r) :
  Calls Try.prog 4 #[.string a0, .slice A1 l1.length c1, .int .u8 a2] w fun e w' => e = .returned (.bool r) ∧ Below w.heap.size w w' := by
 have hu27 := Try.underlying27
 have hu33 := Try.underlying33
 have HR1 := Aside0.mk hr1
 have HC1 := Aside0.mk hc1
 clear hr1 hc1
 have HB := Aside0.mk (Below.refl w.heap.size w)
 have H : ((beadrolllaw14_awake.f k).bind fun t101 => (if t101 = true then ((beadrollref14_Few.f k l1).bind fun t102 => (beadrolllaw14_ZoneTurns.j0 k a0 l1 a2 (!t102))) else (beadrolllaw14_ZoneTurns.j0 k a0 l1 a2 true))) = some r := h
 clear h
 have HC4 := Aside0.mk H
 clear H
 go_enter Try.func4, Try.ntmps4
 go_upto_region 1 with (fail)
 go_cut [20] (fun v20 wc => ∃ (kq : Nat) (x20_3 : Bool), v20 = .bool x20_3 ∧ Aside0 (beadrolllaw14_ZoneTurns.j0 kq a0 l1 a2 x20_3 = some r) ∧ Aside0 (kq ≤ k) ∧ Aside0 (Below w.heap.size w wc))
 case first =>
  have H := HC4.out
  clear HC4
  replace H := Option.bind_eq_some_iff.mp H
  obtain ⟨t101, A50, H⟩ := H
  replace H : (if t101 = true then ((beadrollref14_Few.f k l1).bind fun t102 => (beadrolllaw14_ZoneTurns.j0 k a0 l1 a2 (!t102))) else (beadrolllaw14_ZoneTurns.j0 k a0 l1 a2 true)) = some r := H
  have A5 := Aside0.mk A50
  clear A50
  by_cases c6 : t101 = true
  ·subst c6
   have H1 : ((beadrollref14_Few.f k l1).bind fun t102 => (beadrolllaw14_ZoneTurns.j0 k a0 l1 a2 (!t102))) = some r := by rw [if_pos rfl] at H; exact H
   clear H
   have H := H1
   clear H1
   replace H := Option.bind_eq_some_iff.mp H
   obtain ⟨t102, A70, H⟩ := H
   replace H : (beadrolllaw14_ZoneTurns.j0 k a0 l1 a2 (!t102)) = some r := H
   have A7 := Aside0.mk A70
   clear A70
   have H' := Aside0.mk H
   clear H
   go_wp2_with (first | ((with_reducible refine gate_callee (f := 6) rfl ?_); refine goesL_ (some 14) rfl rfl Try.func6 (by kernel_rfl) rfl #[] rfl (by (try simp only [List.map_toArray, List.map_cons, List.map_nil]); first | done | rfl | (simp only [List.length_drop, List.length_take]; rfl)) ?_; (with_reducible refine (beadrolllaw14_awake.calls k  true _ A5.out).mono ?_); rintro e w8 ⟨rfl, hb⟩; refine ⟨_, rfl, ?_⟩; have n0_ := Aside0.mk (below_step (by repeat (first | (with_reducible first | exact HB.out | apply below_alloc | apply pw_below_drewN | apply below_drew1) | exact HB.out)) hb); clear HB; have HB := n0_; clear n0_; (try clear hb); (try clear hb2); (try clear hk); (try clear hi)) | (go_at_call 9; (with_reducible refine (beadrollref14_Few.calls k _ _ l1 t102 _ ?side1 ?side2 A7.out).mono ?_); (case side1 => repeat (first | exact (Kd.C_below HR1.out HB.out) | (with_reducible refine Kd.C_alloc ?_ _) | (with_reducible refine Kd.C_drewN ?_ _) | (with_reducible refine Kd.C_drew ?_))); (case side2 => exact HC1.out); rintro e w' ⟨rfl, ⟨nd, rfl⟩⟩))
   go_meet
   case rel => exact ⟨_, (!t102), (by first | rfl | (simp; done) | (simp [*]; done)), H', ⟨by first | omega | exact Nat.le_refl _⟩, ⟨by repeat (first | (with_reducible first | exact HB.out | apply below_alloc | apply pw_below_drewN | apply below_drew1) | exact HB.out)⟩⟩
  ·replace c6 := Bool.eq_false_iff.mpr c6
   subst c6
   have H1 : (beadrolllaw14_ZoneTurns.j0 k a0 l1 a2 true) = some r := by rw [if_neg (show ¬ (false = true) by decide)] at H; exact H
   clear H
   have H := H1
   clear H1
   have H' := Aside0.mk H
   clear H
   go_wp2_with (first | ((with_reducible refine gate_callee (f := 6) rfl ?_); refine goesL_ (some 14) rfl rfl Try.func6 (by kernel_rfl) rfl #[] rfl (by (try simp only [List.map_toArray, List.map_cons, List.map_nil]); first | done | rfl | (simp only [List.length_drop, List.length_take]; rfl)) ?_; (with_reducible refine (beadrolllaw14_awake.calls k  false _ A5.out).mono ?_); rintro e w9 ⟨rfl, hb⟩; refine ⟨_, rfl, ?_⟩; have n0_ := Aside0.mk (below_step (by repeat (first | (with_reducible first | exact HB.out | apply below_alloc | apply pw_below_drewN | apply below_drew1) | exact HB.out)) hb); clear HB; have HB := n0_; clear n0_; (try clear hb); (try clear hb2); (try clear hk); (try clear hi)))
   go_meet
   case rel => exact ⟨_, (true), (by first | rfl | (simp; done) | (simp [*]; done)), H', ⟨by first | omega | exact Nat.le_refl _⟩, ⟨by repeat (first | (with_reducible first | exact HB.out | apply below_alloc | apply pw_below_drewN | apply below_drew1) | exact HB.out)⟩⟩
 case rest =>
  clear HC4
  try clear c1
  try clear p2
  try clear c4
  try clear c6
  obtain ⟨kq, x20_3, rfl, HA, HJ3, HB⟩ := hcut
  cases kq with
  | zero => exact absurd HA.out (by simp [beadrolllaw14_ZoneTurns.j0])
  | succ kj3 =>
   have H := HA.out
   clear HA
   simp only [beadrolllaw14_ZoneTurns.j0] at H
   by_cases c10 : x20_3 = true
   ·subst c10
    have H1 : ((beadrolllaw14_awake.f kj3).bind fun t103 => (some t103)) = some r := by rw [if_pos rfl] at H; exact H
    clear H
    have H := H1
    clear H1
    replace H := Option.bind_eq_some_iff.mp H
    obtain ⟨t103, A110, H⟩ := H
    replace H : (some t103) = some r := H
    have A11 := Aside0.mk A110
    clear A110
    obtain rfl := Option.some.inj H
    go_wp2_with (first | ((with_reducible refine gate_callee (f := 6) rfl ?_); refine goesL_ (some 21) rfl rfl Try.func6 (by kernel_rfl) rfl #[] rfl (by (try simp only [List.map_toArray, List.map_cons, List.map_nil]); first | done | rfl | (simp only [List.length_drop, List.length_take]; rfl)) ?_; (with_reducible refine (beadrolllaw14_awake.calls kj3  t103 _ A11.out).mono ?_); rintro e w12 ⟨rfl, hb⟩; refine ⟨_, rfl, ?_⟩; have n0_ := Aside0.mk (below_step (by repeat (first | (with_reducible first | exact HB.out | apply below_alloc | apply pw_below_drewN | apply below_drew1) | exact HB.out)) hb); clear HB; have HB := n0_; clear n0_; (try clear hb); (try clear hb2); (try clear hk); (try clear hi)))
    go_ret
    exact ⟨by first | rfl | (simp [errW_none, errW_some] <;> rfl) | (simp [*, errW_none, errW_some] <;> rfl), by repeat (first | (with_reducible first | exact HB.out | apply below_alloc | apply pw_below_drewN | apply below_drew1) | exact HB.out)⟩
   ·replace c10 := Bool.eq_false_iff.mpr c10
    subst c10
    have H1 : ((zone_New.f kj3 a0 l1).bind fun bt104 => (if bt104.2.2.2 = 0 then ((zone_Zone_All.f bt104.1 bt104.2.1 bt104.2.2.1).bind fun t111 => ((some (([] : List (S33)) : List (S33))).bind fun y114 => (if y114.length + t111.length < 2513169434916 then (beadrolllaw14_ZoneTurns.l0 kj3 a0 a2 t111 (y114 ++ t111) 0) else (none)))) else (some true))) = some r := by rw [if_neg (show ¬ (false = true) by decide)] at H; exact H
    clear H
    have H := H1
    clear H1
    replace H := Option.bind_eq_some_iff.mp H
    obtain ⟨⟨t104, t105, t108, t109⟩, A130, H⟩ := H
    replace H : (if t109 = 0 then ((zone_Zone_All.f t104 t105 t108).bind fun t111 => ((some (([] : List (S33)) : List (S33))).bind fun y114 => (if y114.length + t111.length < 2513169434916 then (beadrolllaw14_ZoneTurns.l0 kj3 a0 a2 t111 (y114 ++ t111) 0) else (none)))) else (some true)) = some r := H
    have A13 := Aside0.mk A130
    clear A130
    by_cases c14 : t109 = 0
    ·rw [if_pos c14] at H
     have c14b0 : (t109 == 0) = true := beq_iff_eq.mpr c14
     have c14b1 : (t109 != 0) = false := bne_eq_false_iff_eq.mpr c14
     clear c14
     replace H := Option.bind_eq_some_iff.mp H
     obtain ⟨t111, A150, H⟩ := H
     replace H : ((some (([] : List (S33)) : List (S33))).bind fun y114 => (if y114.length + t111.length < 2513169434916 then (beadrolllaw14_ZoneTurns.l0 kj3 a0 a2 t111 (y114 ++ t111) 0) else (none))) = some r := H
     have A15 := Aside0.mk A150
     clear A150
     obtain ⟨y114, hy114⟩ : ∃ y_ : List (S33), y_ = (([] : List (S33))) := ⟨_, rfl⟩
     replace H : (if y114.length + t111.length < 2513169434916 then (beadrolllaw14_ZoneTurns.l0 kj3 a0 a2 t111 (y114 ++ t111) 0) else (none)) = some r := by first | (rw [hy114]; with_reducible exact H) | (have H2_ := (Option.bind_some _ _).symm.trans H; rw [hy114]; with_reducible exact H2_) | (have H2_ := (Option.bind_some _ _).symm.trans H; with_reducible exact H2_) | with_reducible exact H | (rw [hy114]; exact H) | exact H
     have Ny114 := Aside0.mk hy114
     clear hy114
     by_cases c16 : y114.length + t111.length < 2513169434916
     ·rw [if_pos c16] at H
      have LMc16 := Aside0.mk c16
      clear c16
      obtain ⟨y117, hy117⟩ : ∃ y_ : List (S33), y_ = (y114 ++ t111) := ⟨_, rfl⟩
      replace H : (beadrolllaw14_ZoneTurns.l0 kj3 a0 a2 t111 y117 0) = some r := by first | (rw [hy117]; with_reducible exact H) | (have H2_ := (Option.bind_some _ _).symm.trans H; rw [hy117]; with_reducible exact H2_) | (have H2_ := (Option.bind_some _ _).symm.trans H; with_reducible exact H2_) | with_reducible exact H | (rw [hy117]; exact H) | exact H
      have Ny117 := Aside0.mk hy117
      clear hy117
      have H' := Aside0.mk H
      clear H
      go_wp2_with (first | ((with_reducible refine gate_callee (f := 10) rfl ?_); refine goesL_ (some 25) rfl rfl Try.func10 (by kernel_rfl) rfl #[.string a0, .slice A1 l1.length c1] rfl (by (try simp only [List.map_toArray, List.map_cons, List.map_nil]); first | done | rfl | (simp only [List.length_drop, List.length_take]; rfl)) ?_; (with_reducible refine (zone_New.calls kj3 a0 _ _ l1 t104 t105 t108 t109 _ ?side1 ?side2 A13.out).mono ?_); (case side1 => repeat (first | exact (Kd.C_below HR1.out HB.out) | (with_reducible refine Kd.C_alloc ?_ _) | (with_reducible refine Kd.C_drewN ?_ _) | (with_reducible refine Kd.C_drew ?_))); (case side2 => exact HC1.out); rintro e w17 ⟨v106, rfl, ho0, hb⟩; refine ⟨_, rfl, ?_⟩; have n0_ := Aside0.mk (Kd.R_lower ho0 (below_size (by repeat (first | (with_reducible first | exact HB.out | apply below_alloc | apply pw_below_drewN | apply below_drew1) | exact HB.out)))); have n1_ := Aside0.mk (below_step (by repeat (first | (with_reducible first | exact HB.out | apply below_alloc | apply pw_below_drewN | apply below_drew1) | exact HB.out)) hb); clear HB; have HO107 := n0_; have HB := n1_; clear n0_ n1_; (try clear hb); (try clear hb2); (try clear hk); (try clear hi); (try clear ho0)) | ((with_reducible refine gate_dst (N := 7) rfl ?_); (try (refine gate_guard (by rfl) ?_; dsimp only)); refine box_event ?hg (N := 7) ?hd (cs := #[.string (⟨#[]⟩ : ByteArray), .slice none 0 0, .int .i64 0]) (t := 27) ?hr ?_; (case hd => rfl); (case hg => rfl); (case hr => first | (go_simp; done) | (go_simp; rfl)); intro gb110 hg w18 hbox hb; have n0_ := Aside0.mk (Kd.R_below (by (with_reducible repeat (first | apply Kd.R_alloc | apply Kd.R_drewN | apply Kd.R_drew)); exact HO107.out) hb); have n1_ := Aside0.mk (below_step (by repeat (first | (with_reducible first | exact HB.out | apply below_alloc | apply pw_below_drewN | apply below_drew1) | exact HB.out)) hb); have n2_ := Aside0.mk (hbox); have n3_ := Aside0.mk ((by rw [hg]; exact (below_size (by repeat (first | (with_reducible first | exact HB.out | apply below_alloc | apply pw_below_drewN | apply below_drew1) | exact HB.out))) : w.heap.size ≤ gb110)); have n4_ := Aside0.mk ((by rw [hg]; exact (below_size (by repeat (first | (with_reducible first | exact HB.out | apply below_alloc | apply pw_below_drewN | apply below_drew1) | exact HB.out))) : w.heap.size ≤ gb110)); clear HO107; clear HB; have HO107 := n0_; have HB := n1_; have BK110 := n2_; have GW110 := n3_; have GE110 := n4_; clear n0_ n1_ n2_ n3_ n4_; clear hb hbox hg; have hcz19_0 : w18.cell? ⟨gb110, 0, none⟩ = some (.string (⟨#[]⟩ : ByteArray)) := (blk_cell BK110.out 0).trans rfl; have hcz19_1 : w18.cell? ⟨gb110, 1, none⟩ = some (.slice none 0 0) := (blk_cell BK110.out 1).trans rfl; have hcz19_2 : w18.cell? ⟨gb110, 2, none⟩ = some (.int .i64 0) := (blk_cell BK110.out 2).trans rfl; have hfz19_0 := blk_frozen BK110.out 0; have hfz19_1 := blk_frozen BK110.out 1; have hfz19_2 := blk_frozen BK110.out 2; obtain ⟨Ao20, co20, eo20⟩ := Kd.R_slice HO107.out; subst eo20) | ((with_reducible refine gate_callee (f := 11) rfl ?_); refine goesL_ (some 31) rfl rfl Try.func11 (by kernel_rfl) rfl #[.agg #[.string t104, .slice Ao20 t105.length co20, .int .i64 t108]] rfl (by (try simp only [List.map_toArray, List.map_cons, List.map_nil]); first | done | rfl | (simp only [List.length_drop, List.length_take]; rfl)) ?_; (with_reducible refine (zone_Zone_All.calls t104 _ _ t105 t108 t111 _ ?side1 ?side2 A15.out).mono ?_); (case side1 => refine (Kd.R_reads' (e := 33) (base := w.heap.size) (ok := fun k_ => True) (n := t105.length) (c := co20) ?_).2.2; exact (by (with_reducible repeat (first | apply Kd.R_alloc | apply Kd.R_drewN | apply Kd.R_drew)); exact (Kd.R_mono (Kd.R_far (p := ⟨gb110, 2, none⟩) (Kd.R_far (p := ⟨gb110, 1, none⟩) (Kd.R_far (p := ⟨gb110, 0, none⟩) (Kd.R_types HO107.out BK110.out (by decide)) (fun _ hk => hk.2) (.string t104)) (fun _ hk => hk.2) (.slice Ao20 t105.length co20)) (fun _ hk => hk.2) (.int .i64 t108)) (fun _ h_ => h_.1)))); (case side2 => exact (Kd.R_reads' HO107.out).2.1); rintro e w21 ⟨v112, rfl, ho0, hb⟩; refine ⟨_, rfl, ?_⟩; have n0_ := Aside0.mk (Kd.R_elder' (by (with_reducible repeat (first | apply Kd.R_alloc | apply Kd.R_drewN | apply Kd.R_drew)); exact (Kd.R_mono (Kd.R_far (p := ⟨gb110, 2, none⟩) (Kd.R_far (p := ⟨gb110, 1, none⟩) (Kd.R_far (p := ⟨gb110, 0, none⟩) (Kd.R_types HO107.out BK110.out (by decide)) (fun _ hk => hk.2) (.string t104)) (fun _ hk => hk.2) (.slice Ao20 t105.length co20)) (fun _ hk => hk.2) (.int .i64 t108)) (fun _ h_ => h_.1))) (Kd.R_base ho0) hb); have n1_ := Aside0.mk (Kd.R_lower (Kd.R_new' ho0 (Kd.R_lt (by (with_reducible repeat (first | apply Kd.R_alloc | apply Kd.R_drewN | apply Kd.R_drew)); exact (Kd.R_mono (Kd.R_far (p := ⟨gb110, 2, none⟩) (Kd.R_far (p := ⟨gb110, 1, none⟩) (Kd.R_far (p := ⟨gb110, 0, none⟩) (Kd.R_types HO107.out BK110.out (by decide)) (fun _ hk => hk.2) (.string t104)) (fun _ hk => hk.2) (.slice Ao20 t105.length co20)) (fun _ hk => hk.2) (.int .i64 t108)) (fun _ h_ => h_.1))))) (below_size (by repeat (first | (with_reducible first | exact HB.out | apply below_alloc | apply pw_below_drewN | apply below_drew1 | refine below_set ?_ GE110.out) | exact HB.out)))); have n2_ := Aside0.mk (blk_below (g := gb110) (o := .cells #[.string t104, .slice Ao20 t105.length co20, .int .i64 t108] 27 (0, 0)) (by (with_reducible repeat (first | refine blk_drewN ?_ _ | refine blk_drew ?_ | refine blk_alloc ?_ _)); refine blk_put (cs := #[.string t104, .slice Ao20 t105.length co20, .int .i64 0]) ?_ 2 _ rfl; (with_reducible repeat (first | refine blk_drewN ?_ _ | refine blk_drew ?_ | refine blk_alloc ?_ _)); refine blk_put (cs := #[.string t104, .slice none 0 0, .int .i64 0]) ?_ 1 _ rfl; (with_reducible repeat (first | refine blk_drewN ?_ _ | refine blk_drew ?_ | refine blk_alloc ?_ _)); refine blk_put (cs := #[.string (⟨#[]⟩ : ByteArray), .slice none 0 0, .int .i64 0]) ?_ 0 _ rfl; (with_reducible repeat (first | refine blk_drewN ?_ _ | refine blk_drew ?_ | refine blk_alloc ?_ _)); exact BK110.out) hb); have n3_ := Aside0.mk (below_step (by repeat (first | (with_reducible first | exact HB.out | apply below_alloc | apply pw_below_drewN | apply below_drew1 | refine below_set ?_ GE110.out) | exact HB.out)) hb); clear HO107; clear BK110; clear HB; have HO107 := n0_; have HO113 := n1_; have BK110 := n2_; have HB := n3_; clear n0_ n1_ n2_ n3_; (try clear hb); (try clear hb2); (try clear hk); (try clear hi); (try clear ho0)) | ((with_reducible refine gate_dst (N := 32) rfl ?_); (try (refine gate_guard (by rfl) ?_; dsimp only)); refine Kd.R_lit k33 _ 33 ?hg (N := 32) ?hd (xs := ([] : List (S33))) (inner := []) (ok := fun _ => True) (okp := fun _ => True) ?hr ?hp (fun _ hk => hk) trivial (Below.refl _ _) (Nat.le_refl _) (by simp) ?_; (case hd => rfl); (case hg => rfl); (case hr => first | (go_simp; done) | (go_simp; rfl)); (case hp => exact (Reps.none _ _)); intro v115 w22 ho23 hb hg_ hnew_; clear hg_ hnew_; (first | rw [← Ny114.out] at ho23 | (simp only [Int.reduceToNat] at ho23; rw [← Ny114.out] at ho23)); have n0_ := Aside0.mk (Kd.R_elder' (by (with_reducible repeat (first | apply Kd.R_alloc | apply Kd.R_drewN | apply Kd.R_drew)); exact HO107.out) (Kd.R_base ho23) hb); have n1_ := Aside0.mk (Kd.R_elder' (by (with_reducible repeat (first | apply Kd.R_alloc | apply Kd.R_drewN | apply Kd.R_drew)); exact HO113.out) (Kd.R_base ho23) hb); have n2_ := Aside0.mk (Kd.R_lower (Kd.R_new' (Kd.R_new' ho23 (Kd.R_lt (by (with_reducible repeat (first | apply Kd.R_alloc | apply Kd.R_drewN | apply Kd.R_drew)); exact HO107.out))) (Kd.R_lt (by (with_reducible repeat (first | apply Kd.R_alloc | apply Kd.R_drewN | apply Kd.R_drew)); exact HO113.out))) (below_size (by repeat (first | (with_reducible first | exact HB.out | apply below_alloc | apply pw_below_drewN | apply below_drew1 | refine below_set ?_ GE110.out) | exact HB.out)))); have n3_ := Aside0.mk (blk_below (g := gb110) (o := .cells #[.string t104, .slice Ao20 t105.length co20, .int .i64 t108] 27 (0, 0)) (by (with_reducible repeat (first | refine blk_drewN ?_ _ | refine blk_drew ?_ | refine blk_alloc ?_ _)); exact BK110.out) hb); have n4_ := Aside0.mk (below_step (by repeat (first | (with_reducible first | exact HB.out | apply below_alloc | apply pw_below_drewN | apply below_drew1 | refine below_set ?_ GE110.out) | exact HB.out)) hb); clear HO107; clear HO113; clear BK110; clear HB; have HO107 := n0_; have HO113 := n1_; have HO116 := n2_; have BK110 := n3_; have HB := n4_; clear n0_ n1_ n2_ n3_ n4_; clear hb ho23; obtain ⟨Ao25, co25, eo25⟩ := Kd.R_slice HO113.out; subst eo25) | ((with_reducible refine gate_builtin (b := .append) (xs := #[.tmp 32, .tmp 33]) rfl ?_); (try (refine gate_guard (by rfl) ?_; dsimp only)); at_builtin; refine Kd.R_append_rows k33 (w0 := w) w.heap.size rfl (.tmp 32) (.tmp 33) 24 33 (.agg #[(.string ⟨#[]⟩), (.int .i64 0), (.int .i64 0), (.int .i64 0), (.string ⟨#[]⟩)]) 56 rfl Try.underlying24 info33 rfl (by decide) (by omega) v115 y114 t111 _ _ _ (fun k_ => some k_ ≠ (.slice Ao20 t105.length co20 : Value).ownBlock ∧ some k_ ≠ (.slice Ao25 t111.length co25 : Value).ownBlock) (fun _ => False) rfl rfl ?aO ?aR (fun _ _ h => h) (fun _ h => h.elim) ?aF ?aB ?aS ?aL ?_; (case aR => repeat (first | exact (Kd.R_reads' HO113.out).2.2 | (with_reducible refine Kd.C_alloc ?_ _) | (with_reducible refine Kd.C_drewN ?_ _) | (with_reducible refine Kd.C_drew ?_))); (case aB => exact (by repeat (first | (with_reducible first | exact HB.out | apply below_alloc | apply pw_below_drewN | apply below_drew1 | refine below_set ?_ GE110.out) | exact HB.out))); (case aF => exact (fun k_ hk => ⟨Kd.fresh' (Kd.R_lt (by (with_reducible repeat (first | apply Kd.R_alloc | apply Kd.R_drewN | apply Kd.R_drew)); exact HO107.out)) k_ hk, Kd.fresh' (Kd.R_lt (by (with_reducible repeat (first | apply Kd.R_alloc | apply Kd.R_drewN | apply Kd.R_drew)); exact HO113.out)) k_ hk⟩)); (case aO => exact (by (with_reducible repeat (first | apply Kd.R_alloc | apply Kd.R_drewN | apply Kd.R_drew)); exact Kd.R_mono HO116.out (fun _ hk => ⟨hk.1.2, hk.2⟩))); (case aS => exact (below_size (by repeat (first | (with_reducible first | exact HB.out | apply below_alloc | apply pw_below_drewN | apply below_drew1 | refine below_set ?_ GE110.out) | exact HB.out)))); (case aL => have := LMc16.out; omega); intro v118 w24 ho hb hg hat; rw [← Ny117.out] at ho; have n0_ := Aside0.mk (Kd.R_after (ok := (fun k_ => some k_ ≠ (.slice Ao25 t111.length co25 : Value).ownBlock)) (by (with_reducible repeat (first | apply Kd.R_alloc | apply Kd.R_drewN | apply Kd.R_drew)); exact Kd.R_mono HO107.out (fun _ hk => ⟨hk.1.2, hk.2⟩)) hg hat); have n1_ := Aside0.mk (blk_grown (g := gb110) (o := .cells #[.string t104, .slice Ao20 t105.length co20, .int .i64 t108] 27 (0, 0)) (by (with_reducible repeat (first | refine blk_drewN ?_ _ | refine blk_drew ?_ | refine blk_alloc ?_ _)); exact BK110.out) hg (Kd.R_ne HO116.out BK110.out (by decide))); have n2_ := Aside0.mk (Kd.R_after (ok := (fun k_ => some k_ ≠ (.slice Ao20 t105.length co20 : Value).ownBlock)) (by (with_reducible repeat (first | apply Kd.R_alloc | apply Kd.R_drewN | apply Kd.R_drew)); exact Kd.R_mono HO113.out (fun _ hk => ⟨hk.1.2, hk.2⟩)) hg hat); have n3_ := Aside0.mk (hb); have n4_ := Aside0.mk (ho); clear HO107; clear BK110; clear HO113; clear HB; clear HO116; have HO107 := n0_; have BK110 := n1_; have HO113 := n2_; have HB := n3_; have HO119 := n4_; clear n0_ n1_ n2_ n3_ n4_; clear ho hb hg hat))
      go_loopg [10, 11] kj3 (fun kq v10 v11 w' => ∃ (x10_2 : List (S33)) (x11_2 : Int), v11 = .int .i64 x11_2 ∧ Aside0 (beadrolllaw14_ZoneTurns.l0 kq a0 a2 t111 x10_2 x11_2 = some r) ∧ Aside0 (kq ≤ kj3) ∧ Aside0 (Kd.R k33 33 w' w.heap.size (fun k_ => some k_ ≠ (v10 : Value).ownBlock ∧ some k_ ≠ ((.slice Ao20 t105.length co20) : Value).ownBlock) (.slice Ao25 t111.length co25) t111) ∧ Aside0 (Kd.R k33 33 w' w.heap.size (fun k_ => some k_ ≠ ((.slice Ao25 t111.length co25) : Value).ownBlock ∧ some k_ ≠ ((.slice Ao20 t105.length co20) : Value).ownBlock) v10 x10_2) ∧ Aside0 (Kd.R k33 33 w' w.heap.size (fun k_ => some k_ ≠ ((.slice Ao25 t111.length co25) : Value).ownBlock ∧ some k_ ≠ (v10 : Value).ownBlock) (.slice Ao20 t105.length co20) t105) ∧ Aside0 (w'.heap[gb110]? = some (.cells #[.string t104, (.slice Ao20 t105.length co20), .int .i64 t108] 27 (0, 0))) ∧ Aside0 (Below w.heap.size w w'))
      case atStart => exact ⟨(y117), (0), (by first | rfl | (simp; done) | (simp [*]; done)), H', ⟨Nat.le_refl _⟩, ⟨by (with_reducible repeat (first | apply Kd.R_alloc | apply Kd.R_drewN | apply Kd.R_drew)); exact Kd.R_mono HO113.out (fun _ hk => ⟨hk.2, hk.1⟩)⟩, ⟨by (with_reducible repeat (first | apply Kd.R_alloc | apply Kd.R_drewN | apply Kd.R_drew)); exact Kd.R_mono HO119.out (fun _ hk => ⟨hk.2, hk.1⟩)⟩, ⟨by (with_reducible repeat (first | apply Kd.R_alloc | apply Kd.R_drewN | apply Kd.R_drew)); exact HO107.out⟩, ⟨by (with_reducible repeat (first | refine blk_drewN ?_ _ | refine blk_drew ?_ | refine blk_alloc ?_ _)); exact BK110.out⟩, ⟨by repeat (first | (with_reducible first | exact HB.out | apply below_alloc | apply pw_below_drewN | apply below_drew1 | refine below_set ?_ GE110.out) | exact HB.out)⟩⟩
      case round =>
       clear H'
       try clear c1
       try clear p2
       try clear c4
       try clear c6
       try clear c10
       try clear c11
       try clear c14
       try clear c14b0
       try clear c14b1
       try clear c16
       try clear hcz19_0
       try clear hcz19_1
       try clear hcz19_2
       try clear hfz19_0
       try clear hfz19_1
       try clear hfz19_2
       try clear p2
       obtain ⟨x10_2, x11_2, rfl, HA, HK2, HO_9, HO_10, HO_111001, BK110, HB⟩ := hrel
       cases gk with
       | zero => exact absurd HA.out (by simp [beadrolllaw14_ZoneTurns.l0])
       | succ k2 =>
        have H := HA.out
        clear HA
        simp only [beadrolllaw14_ZoneTurns.l0] at H
        by_cases c26 : x11_2 < (t111.length : Int)
        ·rw [if_pos c26] at H
         have c26b0 : decide (x11_2 < (t111.length : Int)) = true := decide_eq_true c26
         clear c26
         by_cases c27 : (t111.length : Int) = 0
         ·rw [if_pos c27] at H
          exact absurd H (by simp)
         ·rw [if_neg c27] at H
          have c27b0 : ((t111.length : Int) == 0) = false := beq_eq_false_iff_ne.mpr c27
          have c27b1 : ((t111.length : Int) != 0) = true := bne_iff_ne.mpr c27
          have c27b2 : ¬ (t111 = []) := fun h_ => c27 (by rw [h_]; rfl)
          obtain ⟨ji28, hji28⟩ : ∃ j_ : Int, (Int.tmod (wrap64 (x11_2 + (wrap64 (a2)))) (t111.length : Int)) = j_ := ⟨_, rfl⟩
          replace H : (if 0 ≤ (ji28) then (if (ji28) < (t111.length : Int) then (if x10_2.length < 2513169434916 then (beadrolllaw14_ZoneTurns.l0 k2 a0 a2 t111 (x10_2 ++ [(⟨(rd_T33 t111 (ji28)).f0, (rd_T33 t111 (ji28)).f1, (rd_T33 t111 (ji28)).f2, (rd_T33 t111 (ji28)).f3, (rd_T33 t111 (ji28)).f4⟩ : S33)]) (wrap64 (x11_2 + 1))) else (none)) else (none)) else (none)) = some r := by first | (rw [hji28] at H; exact H) | (simp only [hji28] at H ⊢; exact H)
          by_cases c29 : 0 ≤ (ji28)
          ·rw [if_pos c29] at H
           have c29b0 : decide (0 ≤ (ji28)) = true := decide_eq_true c29
           clear c29
           by_cases c30 : (ji28) < (t111.length : Int)
           ·rw [if_pos c30] at H
            have c30b0 : decide ((ji28) < (t111.length : Int)) = true := decide_eq_true c30
            clear c30
            by_cases c31 : x10_2.length < 2513169434916
            ·rw [if_pos c31] at H
             have LMc31 := Aside0.mk c31
             clear c31
             obtain ⟨y121, hy121⟩ : ∃ y_ : List (S33), y_ = (x10_2 ++ [(⟨(rd_T33 t111 (ji28)).f0, (rd_T33 t111 (ji28)).f1, (rd_T33 t111 (ji28)).f2, (rd_T33 t111 (ji28)).f3, (rd_T33 t111 (ji28)).f4⟩ : S33)]) := ⟨_, rfl⟩
             replace H : (beadrolllaw14_ZoneTurns.l0 k2 a0 a2 t111 y121 (wrap64 (x11_2 + 1))) = some r := by first | (rw [hy121]; with_reducible exact H) | (have H2_ := (Option.bind_some _ _).symm.trans H; rw [hy121]; with_reducible exact H2_) | (have H2_ := (Option.bind_some _ _).symm.trans H; with_reducible exact H2_) | with_reducible exact H | (rw [hy121]; exact H) | exact H
             have Ny121 := Aside0.mk hy121
             clear hy121
             have H' := Aside0.mk H
             clear H
             have p120 : 0 ≤ ((ji28) : Int) := of_decide_eq_true (by first | (with_reducible assumption) | assumption)
             have q120 : (ji28) < (t111.length : Int) := of_decide_eq_true (by first | (with_reducible assumption) | assumption)
             obtain ⟨ad120, e120, hx120_0, hx120_1, hx120_2, hx120_3, hx120_4⟩ := at_T33 (Kd.R_reads' HO_9.out).2.2 (ji28) p120 q120
             cases e120
             replace p120 := eq_true p120
             replace q120 := eq_true q120
             go_wp2_with (first | ((with_reducible refine gate_builtin (b := .append) (xs := #[.tmp 41, .tmp 52]) rfl ?_); (try (refine gate_guard (by rfl) ?_; dsimp only)); at_builtin; refine Kd.R_append k33 (w0 := w) w.heap.size rfl (.tmp 41) (.tmp 52) 24 33 (.agg #[(.string ⟨#[]⟩), (.int .i64 0), (.int .i64 0), (.int .i64 0), (.string ⟨#[]⟩)]) 56 rfl Try.underlying24 info33 rfl (by decide) (by omega) u10 x10_2 (⟨(rd_T33 t111 (ji28)).f0, (rd_T33 t111 (ji28)).f1, (rd_T33 t111 (ji28)).f2, (rd_T33 t111 (ji28)).f3, (rd_T33 t111 (ji28)).f4⟩ : S33) [.string ((rd_T33 t111 (ji28)).f0), .int .i64 ((rd_T33 t111 (ji28)).f1), .int .i64 ((rd_T33 t111 (ji28)).f2), .int .i64 ((rd_T33 t111 (ji28)).f3), .string ((rd_T33 t111 (ji28)).f4)] (fun k_ => some k_ ≠ (.slice (some ad120) t111.length co25 : Value).ownBlock ∧ some k_ ≠ (.slice Ao20 t105.length co20 : Value).ownBlock) (fun _ => False) rfl rfl ?aP (fun _ hk => hk.elim) ?aF ?aO ?aB ?aS ?aL ?_; (case aP => exact k33_mkM _ _ _ (⟨(rd_T33 t111 (ji28)).f0, (rd_T33 t111 (ji28)).f1, (rd_T33 t111 (ji28)).f2, (rd_T33 t111 (ji28)).f3, (rd_T33 t111 (ji28)).f4⟩ : S33)); (case aB => exact (by repeat (first | (with_reducible first | exact HB.out | apply below_alloc | apply pw_below_drewN | apply below_drew1 | refine below_set ?_ GE110.out) | exact HB.out))); (case aF => exact (fun k_ hk => ⟨Kd.fresh' (Kd.R_lt (by (with_reducible repeat (first | apply Kd.R_alloc | apply Kd.R_drewN | apply Kd.R_drew)); exact HO_9.out)) k_ hk, Kd.fresh' (Kd.R_lt (by (with_reducible repeat (first | apply Kd.R_alloc | apply Kd.R_drewN | apply Kd.R_drew)); exact HO_111001.out)) k_ hk⟩)); (case aO => exact (by (with_reducible repeat (first | apply Kd.R_alloc | apply Kd.R_drewN | apply Kd.R_drew)); exact HO_10.out)); (case aS => exact (below_size (by repeat (first | (with_reducible first | exact HB.out | apply below_alloc | apply pw_below_drewN | apply below_drew1 | refine below_set ?_ GE110.out) | exact HB.out)))); (case aL => have := LMc31.out; omega); intro v122 w32 ho hb hg hat; rw [← Ny121.out] at ho; have n0_ := Aside0.mk (Kd.R_after (ok := (fun k_ => some k_ ≠ (.slice Ao20 t105.length co20 : Value).ownBlock)) (by (with_reducible repeat (first | apply Kd.R_alloc | apply Kd.R_drewN | apply Kd.R_drew)); exact Kd.R_mono HO_9.out (fun _ hk => ⟨hk.2, hk.1⟩)) hg hat); have n1_ := Aside0.mk (Kd.R_after (ok := (fun k_ => some k_ ≠ (.slice (some ad120) t111.length co25 : Value).ownBlock)) (by (with_reducible repeat (first | apply Kd.R_alloc | apply Kd.R_drewN | apply Kd.R_drew)); exact HO_111001.out) hg hat); have n2_ := Aside0.mk (blk_grown (g := gb110) (o := .cells #[.string t104, .slice Ao20 t105.length co20, .int .i64 t108] 27 (0, 0)) (by (with_reducible repeat (first | refine blk_drewN ?_ _ | refine blk_drew ?_ | refine blk_alloc ?_ _)); exact BK110.out) hg (Kd.R_ne HO_10.out BK110.out (by decide))); have n3_ := Aside0.mk (hb); have n4_ := Aside0.mk (ho); clear HO_9; clear HO_111001; clear BK110; clear HB; clear HO_10; have HO_9 := n0_; have HO_111001 := n1_; have BK110 := n2_; have HB := n3_; have HO123 := n4_; clear n0_ n1_ n2_ n3_ n4_; clear ho hb hg hat))
             go_roundg k2
             case measure => have := HJ3.out; have := HK2.out; omega
             case rel => exact ⟨(y121), (wrap64 (x11_2 + 1)), (by first | rfl | (simp; done) | (simp [*]; done)), H', ⟨by have := HJ3.out; have := HK2.out; omega⟩, ⟨by (with_reducible repeat (first | apply Kd.R_alloc | apply Kd.R_drewN | apply Kd.R_drew)); exact Kd.R_mono HO_9.out (fun _ hk => ⟨hk.2, hk.1⟩)⟩, ⟨by (with_reducible repeat (first | apply Kd.R_alloc | apply Kd.R_drewN | apply Kd.R_drew)); exact HO123.out⟩, ⟨by (with_reducible repeat (first | apply Kd.R_alloc | apply Kd.R_drewN | apply Kd.R_drew)); exact HO_111001.out⟩, ⟨by (with_reducible repeat (first | refine blk_drewN ?_ _ | refine blk_drew ?_ | refine blk_alloc ?_ _)); exact BK110.out⟩, ⟨by repeat (first | (with_reducible first | exact HB.out | apply below_alloc | apply pw_below_drewN | apply below_drew1 | refine below_set ?_ GE110.out) | exact HB.out)⟩⟩
            ·rw [if_neg c31] at H
             exact absurd H (by simp)
           ·rw [if_neg c30] at H
            exact absurd H (by simp)
          ·rw [if_neg c29] at H
           exact absurd H (by simp)
        ·rw [if_neg c26] at H
         have c26b0 : decide (x11_2 < (t111.length : Int)) = false := decide_eq_false c26
         clear c26
         replace H := Option.bind_eq_some_iff.mp H
         obtain ⟨⟨t124, t125, t128, t129⟩, A330, H⟩ := H
         replace H : (if t129 = 0 then ((zone_Zone_All.f t124 t125 t128).bind fun t131 => ((beadrollref11_Same.f k2 t131 t111).bind fun t134 => (if t134 = true then (some (decide ((t111.length : Int) ≥ 2))) else (some false)))) else (some false)) = some r := H
         have A33 := Aside0.mk A330
         clear A330
         by_cases c34 : t129 = 0
         ·rw [if_pos c34] at H
          have c34b0 : (t129 == 0) = true := beq_iff_eq.mpr c34
          have c34b1 : (t129 != 0) = false := bne_eq_false_iff_eq.mpr c34
          clear c34
          replace H := Option.bind_eq_some_iff.mp H
          obtain ⟨t131, A350, H⟩ := H
          replace H : ((beadrollref11_Same.f k2 t131 t111).bind fun t134 => (if t134 = true then (some (decide ((t111.length : Int) ≥ 2))) else (some false))) = some r := H
          have A35 := Aside0.mk A350
          clear A350
          replace H := Option.bind_eq_some_iff.mp H
          obtain ⟨t134, A360, H⟩ := H
          replace H : (if t134 = true then (some (decide ((t111.length : Int) ≥ 2))) else (some false)) = some r := H
          have A36 := Aside0.mk A360
          clear A360
          by_cases c37 : t134 = true
          ·subst c37
           have H1 : (some (decide ((t111.length : Int) ≥ 2))) = some r := by rw [if_pos rfl] at H; exact H
           clear H
           have H := H1
           clear H1
           obtain rfl := Option.some.inj H
           obtain ⟨Ao38, co38, eo38⟩ := Kd.R_slice HO_10.out
           subst eo38
           go_wp2_with (first | ((with_reducible refine gate_callee (f := 10) rfl ?_); refine goesL_ (some 57) rfl rfl Try.func10 (by kernel_rfl) rfl #[.string a0, .slice Ao38 x10_2.length co38] rfl (by (try simp only [List.map_toArray, List.map_cons, List.map_nil]); first | done | rfl | (simp only [List.length_drop, List.length_take]; rfl)) ?_; (with_reducible refine (zone_New.calls k2 a0 _ _ x10_2 t124 t125 t128 t129 _ ?side1 ?side2 A33.out).mono ?_); (case side1 => repeat (first | exact (Kd.R_reads' HO_10.out).2.2 | (with_reducible refine Kd.C_alloc ?_ _) | (with_reducible refine Kd.C_drewN ?_ _) | (with_reducible refine Kd.C_drew ?_))); (case side2 => exact (Kd.R_reads' HO_10.out).2.1); rintro e w39 ⟨v126, rfl, ho0, hb⟩; refine ⟨_, rfl, ?_⟩; have n0_ := Aside0.mk (Kd.R_elder' (by (with_reducible repeat (first | apply Kd.R_alloc | apply Kd.R_drewN | apply Kd.R_drew)); exact HO_9.out) (Kd.R_base ho0) hb); have n1_ := Aside0.mk (Kd.R_elder' (by (with_reducible repeat (first | apply Kd.R_alloc | apply Kd.R_drewN | apply Kd.R_drew)); exact HO_10.out) (Kd.R_base ho0) hb); have n2_ := Aside0.mk (Kd.R_elder' (by (with_reducible repeat (first | apply Kd.R_alloc | apply Kd.R_drewN | apply Kd.R_drew)); exact HO_111001.out) (Kd.R_base ho0) hb); have n3_ := Aside0.mk (Kd.R_lower (Kd.R_new' (Kd.R_new' (Kd.R_new' ho0 (Kd.R_lt (by (with_reducible repeat (first | apply Kd.R_alloc | apply Kd.R_drewN | apply Kd.R_drew)); exact HO_9.out))) (Kd.R_lt (by (with_reducible repeat (first | apply Kd.R_alloc | apply Kd.R_drewN | apply Kd.R_drew)); exact HO_10.out))) (Kd.R_lt (by (with_reducible repeat (first | apply Kd.R_alloc | apply Kd.R_drewN | apply Kd.R_drew)); exact HO_111001.out))) (below_size (by repeat (first | (with_reducible first | exact HB.out | apply below_alloc | apply pw_below_drewN | apply below_drew1 | refine below_set ?_ GE110.out) | exact HB.out)))); have n4_ := Aside0.mk (blk_below (g := gb110) (o := .cells #[.string t104, .slice Ao20 t105.length co20, .int .i64 t108] 27 (0, 0)) (by (with_reducible repeat (first | refine blk_drewN ?_ _ | refine blk_drew ?_ | refine blk_alloc ?_ _)); exact BK110.out) hb); have n5_ := Aside0.mk (below_step (by repeat (first | (with_reducible first | exact HB.out | apply below_alloc | apply pw_below_drewN | apply below_drew1 | refine below_set ?_ GE110.out) | exact HB.out)) hb); clear HO_9; clear HO_10; clear HO_111001; clear BK110; clear HB; have HO_9 := n0_; have HO_10 := n1_; have HO_111001 := n2_; have HO127 := n3_; have BK110 := n4_; have HB := n5_; clear n0_ n1_ n2_ n3_ n4_ n5_; (try clear hb); (try clear hb2); (try clear hk); (try clear hi); (try clear ho0)) | ((with_reducible refine gate_dst (N := 12) rfl ?_); (try (refine gate_guard (by rfl) ?_; dsimp only)); refine box_event ?hg (N := 12) ?hd (cs := #[.string (⟨#[]⟩ : ByteArray), .slice none 0 0, .int .i64 0]) (t := 27) ?hr ?_; (case hd => rfl); (case hg => rfl); (case hr => first | (go_simp; done) | (go_simp; rfl)); intro gb130 hg w40 hbox hb; have n0_ := Aside0.mk (Kd.R_below (by (with_reducible repeat (first | apply Kd.R_alloc | apply Kd.R_drewN | apply Kd.R_drew)); exact HO_9.out) hb); have n1_ := Aside0.mk (Kd.R_below (by (with_reducible repeat (first | apply Kd.R_alloc | apply Kd.R_drewN | apply Kd.R_drew)); exact HO_10.out) hb); have n2_ := Aside0.mk (Kd.R_below (by (with_reducible repeat (first | apply Kd.R_alloc | apply Kd.R_drewN | apply Kd.R_drew)); exact HO_111001.out) hb); have n3_ := Aside0.mk (Kd.R_below (by (with_reducible repeat (first | apply Kd.R_alloc | apply Kd.R_drewN | apply Kd.R_drew)); exact HO127.out) hb); have n4_ := Aside0.mk (blk_below (g := gb110) (o := .cells #[.string t104, .slice Ao20 t105.length co20, .int .i64 t108] 27 (0, 0)) (by (with_reducible repeat (first | refine blk_drewN ?_ _ | refine blk_drew ?_ | refine blk_alloc ?_ _)); exact BK110.out) hb); have n5_ := Aside0.mk (below_step (by repeat (first | (with_reducible first | exact HB.out | apply below_alloc | apply pw_below_drewN | apply below_drew1 | refine below_set ?_ GE110.out) | exact HB.out)) hb); have n6_ := Aside0.mk (hbox); have n7_ := Aside0.mk ((by rw [hg]; exact (below_size (by repeat (first | (with_reducible first | exact HB.out | apply below_alloc | apply pw_below_drewN | apply below_drew1 | refine below_set ?_ GE110.out) | exact HB.out))) : w.heap.size ≤ gb130)); have n8_ := Aside0.mk ((by rw [hg]; exact (below_size (by repeat (first | (with_reducible first | exact HB.out | apply below_alloc | apply pw_below_drewN | apply below_drew1 | refine below_set ?_ GE110.out) | exact HB.out))) : w.heap.size ≤ gb130)); have n9_ := Aside0.mk ((by rw [hg]; exact Nat.ne_of_lt (blk_lt (g := gb110) (o := .cells #[.string t104, .slice Ao20 t105.length co20, .int .i64 t108] 27 (0, 0)) (by (with_reducible repeat (first | refine blk_drewN ?_ _ | refine blk_drew ?_ | refine blk_alloc ?_ _)); exact BK110.out)) : gb110 ≠ gb130)); have n10_ := Aside0.mk ((by rw [hg]; exact Nat.ne_of_gt (blk_lt (g := gb110) (o := .cells #[.string t104, .slice Ao20 t105.length co20, .int .i64 t108] 27 (0, 0)) (by (with_reducible repeat (first | refine blk_drewN ?_ _ | refine blk_drew ?_ | refine blk_alloc ?_ _)); exact BK110.out)) : gb130 ≠ gb110)); clear HO_9; clear HO_10; clear HO_111001; clear HO127; clear BK110; clear HB; have HO_9 := n0_; have HO_10 := n1_; have HO_111001 := n2_; have HO127 := n3_; have BK110 := n4_; have HB := n5_; have BK130 := n6_; have GW130 := n7_; have GE130 := n8_; have NB110_130 := n9_; have NB130_110 := n10_; clear n0_ n1_ n2_ n3_ n4_ n5_ n6_ n7_ n8_ n9_ n10_; clear hb hbox hg; have hnb41 := NB130_110.out; have hnc41 := NB110_130.out; have hcz42_0 : w40.cell? ⟨gb130, 0, none⟩ = some (.string (⟨#[]⟩ : ByteArray)) := (blk_cell BK130.out 0).trans rfl; have hcz42_1 : w40.cell? ⟨gb130, 1, none⟩ = some (.slice none 0 0) := (blk_cell BK130.out 1).trans rfl; have hcz42_2 : w40.cell? ⟨gb130, 2, none⟩ = some (.int .i64 0) := (blk_cell BK130.out 2).trans rfl; have hfz42_0 := blk_frozen BK130.out 0; have hfz42_1 := blk_frozen BK130.out 1; have hfz42_2 := blk_frozen BK130.out 2; obtain ⟨Ao43, co43, eo43⟩ := Kd.R_slice HO127.out; subst eo43) | (go_at_call 11; (with_reducible refine (zone_Zone_All.calls t124 _ _ t125 t128 t131 _ ?side1 ?side2 A35.out).mono ?_); (case side1 => refine (Kd.R_reads' (e := 33) (base := w.heap.size) (ok := fun k_ => (((True ∧ some k_ ≠ (.slice Ao25 t111.length co25 : Value).ownBlock) ∧ some k_ ≠ (.slice Ao38 x10_2.length co38 : Value).ownBlock) ∧ some k_ ≠ (.slice Ao20 t105.length co20 : Value).ownBlock)) (n := t125.length) (c := co43) ?_).2.2; exact (by (with_reducible repeat (first | apply Kd.R_alloc | apply Kd.R_drewN | apply Kd.R_drew)); exact (Kd.R_mono (Kd.R_far (p := ⟨gb130, 2, none⟩) (Kd.R_far (p := ⟨gb130, 1, none⟩) (Kd.R_far (p := ⟨gb130, 0, none⟩) (Kd.R_types HO127.out BK130.out (by decide)) (fun _ hk => hk.2) (.string t124)) (fun _ hk => hk.2) (.slice Ao43 t125.length co43)) (fun _ hk => hk.2) (.int .i64 t128)) (fun _ h_ => h_.1)))); (case side2 => exact (Kd.R_reads' HO127.out).2.1); rintro e w44 ⟨v132, rfl, ho0, hb⟩; have n0_ := Aside0.mk (Kd.R_elder' (by (with_reducible repeat (first | apply Kd.R_alloc | apply Kd.R_drewN | apply Kd.R_drew)); exact (Kd.R_mono (Kd.R_far (p := ⟨gb130, 2, none⟩) (Kd.R_far (p := ⟨gb130, 1, none⟩) (Kd.R_far (p := ⟨gb130, 0, none⟩) (Kd.R_types HO_9.out BK130.out (by decide)) (fun _ hk => hk.2) (.string t124)) (fun _ hk => hk.2) (.slice Ao43 t125.length co43)) (fun _ hk => hk.2) (.int .i64 t128)) (fun _ h_ => h_.1))) (Kd.R_base ho0) hb); have n1_ := Aside0.mk (Kd.R_elder' (by (with_reducible repeat (first | apply Kd.R_alloc | apply Kd.R_drewN | apply Kd.R_drew)); exact (Kd.R_mono (Kd.R_far (p := ⟨gb130, 2, none⟩) (Kd.R_far (p := ⟨gb130, 1, none⟩) (Kd.R_far (p := ⟨gb130, 0, none⟩) (Kd.R_types HO_10.out BK130.out (by decide)) (fun _ hk => hk.2) (.string t124)) (fun _ hk => hk.2) (.slice Ao43 t125.length co43)) (fun _ hk => hk.2) (.int .i64 t128)) (fun _ h_ => h_.1))) (Kd.R_base ho0) hb); have n2_ := Aside0.mk (Kd.R_elder' (by (with_reducible repeat (first | apply Kd.R_alloc | apply Kd.R_drewN | apply Kd.R_drew)); exact (Kd.R_mono (Kd.R_far (p := ⟨gb130, 2, none⟩) (Kd.R_far (p := ⟨gb130, 1, none⟩) (Kd.R_far (p := ⟨gb130, 0, none⟩) (Kd.R_types HO_111001.out BK130.out (by decide)) (fun _ hk => hk.2) (.string t124)) (fun _ hk => hk.2) (.slice Ao43 t125.length co43)) (fun _ hk => hk.2) (.int .i64 t128)) (fun _ h_ => h_.1))) (Kd.R_base ho0) hb); have n3_ := Aside0.mk (Kd.R_elder' (by (with_reducible repeat (first | apply Kd.R_alloc | apply Kd.R_drewN | apply Kd.R_drew)); exact (Kd.R_mono (Kd.R_far (p := ⟨gb130, 2, none⟩) (Kd.R_far (p := ⟨gb130, 1, none⟩) (Kd.R_far (p := ⟨gb130, 0, none⟩) (Kd.R_types HO127.out BK130.out (by decide)) (fun _ hk => hk.2) (.string t124)) (fun _ hk => hk.2) (.slice Ao43 t125.length co43)) (fun _ hk => hk.2) (.int .i64 t128)) (fun _ h_ => h_.1))) (Kd.R_base ho0) hb); have n4_ := Aside0.mk (Kd.R_lower (Kd.R_new' (Kd.R_new' (Kd.R_new' (Kd.R_new' ho0 (Kd.R_lt (by (with_reducible repeat (first | apply Kd.R_alloc | apply Kd.R_drewN | apply Kd.R_drew)); exact (Kd.R_mono (Kd.R_far (p := ⟨gb130, 2, none⟩) (Kd.R_far (p := ⟨gb130, 1, none⟩) (Kd.R_far (p := ⟨gb130, 0, none⟩) (Kd.R_types HO_9.out BK130.out (by decide)) (fun _ hk => hk.2) (.string t124)) (fun _ hk => hk.2) (.slice Ao43 t125.length co43)) (fun _ hk => hk.2) (.int .i64 t128)) (fun _ h_ => h_.1))))) (Kd.R_lt (by (with_reducible repeat (first | apply Kd.R_alloc | apply Kd.R_drewN | apply Kd.R_drew)); exact (Kd.R_mono (Kd.R_far (p := ⟨gb130, 2, none⟩) (Kd.R_far (p := ⟨gb130, 1, none⟩) (Kd.R_far (p := ⟨gb130, 0, none⟩) (Kd.R_types HO_10.out BK130.out (by decide)) (fun _ hk => hk.2) (.string t124)) (fun _ hk => hk.2) (.slice Ao43 t125.length co43)) (fun _ hk => hk.2) (.int .i64 t128)) (fun _ h_ => h_.1))))) (Kd.R_lt (by (with_reducible repeat (first | apply Kd.R_alloc | apply Kd.R_drewN | apply Kd.R_drew)); exact (Kd.R_mono (Kd.R_far (p := ⟨gb130, 2, none⟩) (Kd.R_far (p := ⟨gb130, 1, none⟩) (Kd.R_far (p := ⟨gb130, 0, none⟩) (Kd.R_types HO_111001.out BK130.out (by decide)) (fun _ hk => hk.2) (.string t124)) (fun _ hk => hk.2) (.slice Ao43 t125.length co43)) (fun _ hk => hk.2) (.int .i64 t128)) (fun _ h_ => h_.1))))) (Kd.R_lt (by (with_reducible repeat (first | apply Kd.R_alloc | apply Kd.R_drewN | apply Kd.R_drew)); exact (Kd.R_mono (Kd.R_far (p := ⟨gb130, 2, none⟩) (Kd.R_far (p := ⟨gb130, 1, none⟩) (Kd.R_far (p := ⟨gb130, 0, none⟩) (Kd.R_types HO127.out BK130.out (by decide)) (fun _ hk => hk.2) (.string t124)) (fun _ hk => hk.2) (.slice Ao43 t125.length co43)) (fun _ hk => hk.2) (.int .i64 t128)) (fun _ h_ => h_.1))))) (below_size (by repeat (first | (with_reducible first | exact HB.out | apply below_alloc | apply pw_below_drewN | apply below_drew1 | refine below_set ?_ GE110.out | refine below_set ?_ GE130.out) | exact HB.out)))); have n5_ := Aside0.mk (blk_below (g := gb110) (o := .cells #[.string t104, .slice Ao20 t105.length co20, .int .i64 t108] 27 (0, 0)) (by (with_reducible repeat (first | refine blk_drewN ?_ _ | refine blk_drew ?_ | refine blk_alloc ?_ _)); refine blk_far ?_ NB110_130.out _; (with_reducible repeat (first | refine blk_drewN ?_ _ | refine blk_drew ?_ | refine blk_alloc ?_ _)); refine blk_far ?_ NB110_130.out _; (with_reducible repeat (first | refine blk_drewN ?_ _ | refine blk_drew ?_ | refine blk_alloc ?_ _)); refine blk_far ?_ NB110_130.out _; (with_reducible repeat (first | refine blk_drewN ?_ _ | refine blk_drew ?_ | refine blk_alloc ?_ _)); exact BK110.out) hb); have n6_ := Aside0.mk (blk_below (g := gb130) (o := .cells #[.string t124, .slice Ao43 t125.length co43, .int .i64 t128] 27 (0, 0)) (by (with_reducible repeat (first | refine blk_drewN ?_ _ | refine blk_drew ?_ | refine blk_alloc ?_ _)); refine blk_put (cs := #[.string t124, .slice Ao43 t125.length co43, .int .i64 0]) ?_ 2 _ rfl; (with_reducible repeat (first | refine blk_drewN ?_ _ | refine blk_drew ?_ | refine blk_alloc ?_ _)); refine blk_put (cs := #[.string t124, .slice none 0 0, .int .i64 0]) ?_ 1 _ rfl; (with_reducible repeat (first | refine blk_drewN ?_ _ | refine blk_drew ?_ | refine blk_alloc ?_ _)); refine blk_put (cs := #[.string (⟨#[]⟩ : ByteArray), .slice none 0 0, .int .i64 0]) ?_ 0 _ rfl; (with_reducible repeat (first | refine blk_drewN ?_ _ | refine blk_drew ?_ | refine blk_alloc ?_ _)); exact BK130.out) hb); have n7_ := Aside0.mk (below_step (by repeat (first | (with_reducible first | exact HB.out | apply below_alloc | apply pw_below_drewN | apply below_drew1 | refine below_set ?_ GE110.out | refine below_set ?_ GE130.out) | exact HB.out)) hb); clear HO_9; clear HO_10; clear HO_111001; clear HO127; clear BK110; clear BK130; clear HB; have HO_9 := n0_; have HO_10 := n1_; have HO_111001 := n2_; have HO127 := n3_; have HO133 := n4_; have BK110 := n5_; have BK130 := n6_; have HB := n7_; clear n0_ n1_ n2_ n3_ n4_ n5_ n6_ n7_; (try clear hb); (try clear hb2); (try clear hk); (try clear hi); (try clear ho0); obtain ⟨Ao45, co45, eo45⟩ := Kd.R_slice HO133.out; subst eo45) | (go_at_call 12; (with_reducible refine (beadrollref11_Same.calls k2 _ _ t131 _ _ t111 true _ ?side1 ?side2 ?side3 ?side4 A36.out).mono ?_); (case side1 => repeat (first | exact (Kd.R_reads' HO133.out).2.2 | (with_reducible refine Kd.C_alloc ?_ _) | (with_reducible refine Kd.C_drewN ?_ _) | (with_reducible refine Kd.C_drew ?_))); (case side2 => exact (Kd.R_reads' HO133.out).2.1); (case side3 => repeat (first | exact (Kd.R_reads' HO_9.out).2.2 | (with_reducible refine Kd.C_alloc ?_ _) | (with_reducible refine Kd.C_drewN ?_ _) | (with_reducible refine Kd.C_drew ?_))); (case side4 => exact (Kd.R_reads' HO_9.out).2.1); rintro e w' ⟨rfl, ⟨nd, rfl⟩⟩))
           go_ret
           exact ⟨by first | rfl | (simp [errW_none, errW_some] <;> rfl) | (simp [*, errW_none, errW_some] <;> rfl), by repeat (first | (with_reducible first | exact HB.out | apply below_alloc | apply pw_below_drewN | apply below_drew1 | refine below_set ?_ GE110.out | refine below_set ?_ GE130.out) | exact HB.out)⟩
          ·replace c37 := Bool.eq_false_iff.mpr c37
           subst c37
           have H1 : (some false) = some r := by rw [if_neg (show ¬ (false = true) by decide)] at H; exact H
           clear H
           have H := H1
           clear H1
           obtain rfl := Option.some.inj H
           obtain ⟨Ao46, co46, eo46⟩ := Kd.R_slice HO_10.out
           subst eo46
           go_wp2_with (first | ((with_reducible refine gate_callee (f := 10) rfl ?_); refine goesL_ (some 57) rfl rfl Try.func10 (by kernel_rfl) rfl #[.string a0, .slice Ao46 x10_2.length co46] rfl (by (try simp only [List.map_toArray, List.map_cons, List.map_nil]); first | done | rfl | (simp only [List.length_drop, List.length_take]; rfl)) ?_; (with_reducible refine (zone_New.calls k2 a0 _ _ x10_2 t124 t125 t128 t129 _ ?side1 ?side2 A33.out).mono ?_); (case side1 => repeat (first | exact (Kd.R_reads' HO_10.out).2.2 | (with_reducible refine Kd.C_alloc ?_ _) | (with_reducible refine Kd.C_drewN ?_ _) | (with_reducible refine Kd.C_drew ?_))); (case side2 => exact (Kd.R_reads' HO_10.out).2.1); rintro e w47 ⟨v126, rfl, ho0, hb⟩; refine ⟨_, rfl, ?_⟩; have n0_ := Aside0.mk (Kd.R_elder' (by (with_reducible repeat (first | apply Kd.R_alloc | apply Kd.R_drewN | apply Kd.R_drew)); exact HO_9.out) (Kd.R_base ho0) hb); have n1_ := Aside0.mk (Kd.R_elder' (by (with_reducible repeat (first | apply Kd.R_alloc | apply Kd.R_drewN | apply Kd.R_drew)); exact HO_10.out) (Kd.R_base ho0) hb); have n2_ := Aside0.mk (Kd.R_elder' (by (with_reducible repeat (first | apply Kd.R_alloc | apply Kd.R_drewN | apply Kd.R_drew)); exact HO_111001.out) (Kd.R_base ho0) hb); have n3_ := Aside0.mk (Kd.R_lower (Kd.R_new' (Kd.R_new' (Kd.R_new' ho0 (Kd.R_lt (by (with_reducible repeat (first | apply Kd.R_alloc | apply Kd.R_drewN | apply Kd.R_drew)); exact HO_9.out))) (Kd.R_lt (by (with_reducible repeat (first | apply Kd.R_alloc | apply Kd.R_drewN | apply Kd.R_drew)); exact HO_10.out))) (Kd.R_lt (by (with_reducible repeat (first | apply Kd.R_alloc | apply Kd.R_drewN | apply Kd.R_drew)); exact HO_111001.out))) (below_size (by repeat (first | (with_reducible first | exact HB.out | apply below_alloc | apply pw_below_drewN | apply below_drew1 | refine below_set ?_ GE110.out) | exact HB.out)))); have n4_ := Aside0.mk (blk_below (g := gb110) (o := .cells #[.string t104, .slice Ao20 t105.length co20, .int .i64 t108] 27 (0, 0)) (by (with_reducible repeat (first | refine blk_drewN ?_ _ | refine blk_drew ?_ | refine blk_alloc ?_ _)); exact BK110.out) hb); have n5_ := Aside0.mk (below_step (by repeat (first | (with_reducible first | exact HB.out | apply below_alloc | apply pw_below_drewN | apply below_drew1 | refine below_set ?_ GE110.out) | exact HB.out)) hb); clear HO_9; clear HO_10; clear HO_111001; clear BK110; clear HB; have HO_9 := n0_; have HO_10 := n1_; have HO_111001 := n2_; have HO127 := n3_; have BK110 := n4_; have HB := n5_; clear n0_ n1_ n2_ n3_ n4_ n5_; (try clear hb); (try clear hb2); (try clear hk); (try clear hi); (try clear ho0)) | ((with_reducible refine gate_dst (N := 12) rfl ?_); (try (refine gate_guard (by rfl) ?_; dsimp only)); refine box_event ?hg (N := 12) ?hd (cs := #[.string (⟨#[]⟩ : ByteArray), .slice none 0 0, .int .i64 0]) (t := 27) ?hr ?_; (case hd => rfl); (case hg => rfl); (case hr => first | (go_simp; done) | (go_simp; rfl)); intro gb130 hg w48 hbox hb; have n0_ := Aside0.mk (Kd.R_below (by (with_reducible repeat (first | apply Kd.R_alloc | apply Kd.R_drewN | apply Kd.R_drew)); exact HO_9.out) hb); have n1_ := Aside0.mk (Kd.R_below (by (with_reducible repeat (first | apply Kd.R_alloc | apply Kd.R_drewN | apply Kd.R_drew)); exact HO_10.out) hb); have n2_ := Aside0.mk (Kd.R_below (by (with_reducible repeat (first | apply Kd.R_alloc | apply Kd.R_drewN | apply Kd.R_drew)); exact HO_111001.out) hb); have n3_ := Aside0.mk (Kd.R_below (by (with_reducible repeat (first | apply Kd.R_alloc | apply Kd.R_drewN | apply Kd.R_drew)); exact HO127.out) hb); have n4_ := Aside0.mk (blk_below (g := gb110) (o := .cells #[.string t104, .slice Ao20 t105.length co20, .int .i64 t108] 27 (0, 0)) (by (with_reducible repeat (first | refine blk_drewN ?_ _ | refine blk_drew ?_ | refine blk_alloc ?_ _)); exact BK110.out) hb); have n5_ := Aside0.mk (below_step (by repeat (first | (with_reducible first | exact HB.out | apply below_alloc | apply pw_below_drewN | apply below_drew1 | refine below_set ?_ GE110.out) | exact HB.out)) hb); have n6_ := Aside0.mk (hbox); have n7_ := Aside0.mk ((by rw [hg]; exact (below_size (by repeat (first | (with_reducible first | exact HB.out | apply below_alloc | apply pw_below_drewN | apply below_drew1 | refine below_set ?_ GE110.out) | exact HB.out))) : w.heap.size ≤ gb130)); have n8_ := Aside0.mk ((by rw [hg]; exact (below_size (by repeat (first | (with_reducible first | exact HB.out | apply below_alloc | apply pw_below_drewN | apply below_drew1 | refine below_set ?_ GE110.out) | exact HB.out))) : w.heap.size ≤ gb130)); have n9_ := Aside0.mk ((by rw [hg]; exact Nat.ne_of_lt (blk_lt (g := gb110) (o := .cells #[.string t104, .slice Ao20 t105.length co20, .int .i64 t108] 27 (0, 0)) (by (with_reducible repeat (first | refine blk_drewN ?_ _ | refine blk_drew ?_ | refine blk_alloc ?_ _)); exact BK110.out)) : gb110 ≠ gb130)); have n10_ := Aside0.mk ((by rw [hg]; exact Nat.ne_of_gt (blk_lt (g := gb110) (o := .cells #[.string t104, .slice Ao20 t105.length co20, .int .i64 t108] 27 (0, 0)) (by (with_reducible repeat (first | refine blk_drewN ?_ _ | refine blk_drew ?_ | refine blk_alloc ?_ _)); exact BK110.out)) : gb130 ≠ gb110)); clear HO_9; clear HO_10; clear HO_111001; clear HO127; clear BK110; clear HB; have HO_9 := n0_; have HO_10 := n1_; have HO_111001 := n2_; have HO127 := n3_; have BK110 := n4_; have HB := n5_; have BK130 := n6_; have GW130 := n7_; have GE130 := n8_; have NB110_130 := n9_; have NB130_110 := n10_; clear n0_ n1_ n2_ n3_ n4_ n5_ n6_ n7_ n8_ n9_ n10_; clear hb hbox hg; have hnb49 := NB130_110.out; have hnc49 := NB110_130.out; have hcz50_0 : w48.cell? ⟨gb130, 0, none⟩ = some (.string (⟨#[]⟩ : ByteArray)) := (blk_cell BK130.out 0).trans rfl; have hcz50_1 : w48.cell? ⟨gb130, 1, none⟩ = some (.slice none 0 0) := (blk_cell BK130.out 1).trans rfl; have hcz50_2 : w48.cell? ⟨gb130, 2, none⟩ = some (.int .i64 0) := (blk_cell BK130.out 2).trans rfl; have hfz50_0 := blk_frozen BK130.out 0; have hfz50_1 := blk_frozen BK130.out 1; have hfz50_2 := blk_frozen BK130.out 2; obtain ⟨Ao51, co51, eo51⟩ := Kd.R_slice HO127.out; subst eo51) | (go_at_call 11; (with_reducible refine (zone_Zone_All.calls t124 _ _ t125 t128 t131 _ ?side1 ?side2 A35.out).mono ?_); (case side1 => refine (Kd.R_reads' (e := 33) (base := w.heap.size) (ok := fun k_ => (((True ∧ some k_ ≠ (.slice Ao25 t111.length co25 : Value).ownBlock) ∧ some k_ ≠ (.slice Ao46 x10_2.length co46 : Value).ownBlock) ∧ some k_ ≠ (.slice Ao20 t105.length co20 : Value).ownBlock)) (n := t125.length) (c := co51) ?_).2.2; exact (by (with_reducible repeat (first | apply Kd.R_alloc | apply Kd.R_drewN | apply Kd.R_drew)); exact (Kd.R_mono (Kd.R_far (p := ⟨gb130, 2, none⟩) (Kd.R_far (p := ⟨gb130, 1, none⟩) (Kd.R_far (p := ⟨gb130, 0, none⟩) (Kd.R_types HO127.out BK130.out (by decide)) (fun _ hk => hk.2) (.string t124)) (fun _ hk => hk.2) (.slice Ao51 t125.length co51)) (fun _ hk => hk.2) (.int .i64 t128)) (fun _ h_ => h_.1)))); (case side2 => exact (Kd.R_reads' HO127.out).2.1); rintro e w52 ⟨v132, rfl, ho0, hb⟩; have n0_ := Aside0.mk (Kd.R_elder' (by (with_reducible repeat (first | apply Kd.R_alloc | apply Kd.R_drewN | apply Kd.R_drew)); exact (Kd.R_mono (Kd.R_far (p := ⟨gb130, 2, none⟩) (Kd.R_far (p := ⟨gb130, 1, none⟩) (Kd.R_far (p := ⟨gb130, 0, none⟩) (Kd.R_types HO_9.out BK130.out (by decide)) (fun _ hk => hk.2) (.string t124)) (fun _ hk => hk.2) (.slice Ao51 t125.length co51)) (fun _ hk => hk.2) (.int .i64 t128)) (fun _ h_ => h_.1))) (Kd.R_base ho0) hb); have n1_ := Aside0.mk (Kd.R_elder' (by (with_reducible repeat (first | apply Kd.R_alloc | apply Kd.R_drewN | apply Kd.R_drew)); exact (Kd.R_mono (Kd.R_far (p := ⟨gb130, 2, none⟩) (Kd.R_far (p := ⟨gb130, 1, none⟩) (Kd.R_far (p := ⟨gb130, 0, none⟩) (Kd.R_types HO_10.out BK130.out (by decide)) (fun _ hk => hk.2) (.string t124)) (fun _ hk => hk.2) (.slice Ao51 t125.length co51)) (fun _ hk => hk.2) (.int .i64 t128)) (fun _ h_ => h_.1))) (Kd.R_base ho0) hb); have n2_ := Aside0.mk (Kd.R_elder' (by (with_reducible repeat (first | apply Kd.R_alloc | apply Kd.R_drewN | apply Kd.R_drew)); exact (Kd.R_mono (Kd.R_far (p := ⟨gb130, 2, none⟩) (Kd.R_far (p := ⟨gb130, 1, none⟩) (Kd.R_far (p := ⟨gb130, 0, none⟩) (Kd.R_types HO_111001.out BK130.out (by decide)) (fun _ hk => hk.2) (.string t124)) (fun _ hk => hk.2) (.slice Ao51 t125.length co51)) (fun _ hk => hk.2) (.int .i64 t128)) (fun _ h_ => h_.1))) (Kd.R_base ho0) hb); have n3_ := Aside0.mk (Kd.R_elder' (by (with_reducible repeat (first | apply Kd.R_alloc | apply Kd.R_drewN | apply Kd.R_drew)); exact (Kd.R_mono (Kd.R_far (p := ⟨gb130, 2, none⟩) (Kd.R_far (p := ⟨gb130, 1, none⟩) (Kd.R_far (p := ⟨gb130, 0, none⟩) (Kd.R_types HO127.out BK130.out (by decide)) (fun _ hk => hk.2) (.string t124)) (fun _ hk => hk.2) (.slice Ao51 t125.length co51)) (fun _ hk => hk.2) (.int .i64 t128)) (fun _ h_ => h_.1))) (Kd.R_base ho0) hb); have n4_ := Aside0.mk (Kd.R_lower (Kd.R_new' (Kd.R_new' (Kd.R_new' (Kd.R_new' ho0 (Kd.R_lt (by (with_reducible repeat (first | apply Kd.R_alloc | apply Kd.R_drewN | apply Kd.R_drew)); exact (Kd.R_mono (Kd.R_far (p := ⟨gb130, 2, none⟩) (Kd.R_far (p := ⟨gb130, 1, none⟩) (Kd.R_far (p := ⟨gb130, 0, none⟩) (Kd.R_types HO_9.out BK130.out (by decide)) (fun _ hk => hk.2) (.string t124)) (fun _ hk => hk.2) (.slice Ao51 t125.length co51)) (fun _ hk => hk.2) (.int .i64 t128)) (fun _ h_ => h_.1))))) (Kd.R_lt (by (with_reducible repeat (first | apply Kd.R_alloc | apply Kd.R_drewN | apply Kd.R_drew)); exact (Kd.R_mono (Kd.R_far (p := ⟨gb130, 2, none⟩) (Kd.R_far (p := ⟨gb130, 1, none⟩) (Kd.R_far (p := ⟨gb130, 0, none⟩) (Kd.R_types HO_10.out BK130.out (by decide)) (fun _ hk => hk.2) (.string t124)) (fun _ hk => hk.2) (.slice Ao51 t125.length co51)) (fun _ hk => hk.2) (.int .i64 t128)) (fun _ h_ => h_.1))))) (Kd.R_lt (by (with_reducible repeat (first | apply Kd.R_alloc | apply Kd.R_drewN | apply Kd.R_drew)); exact (Kd.R_mono (Kd.R_far (p := ⟨gb130, 2, none⟩) (Kd.R_far (p := ⟨gb130, 1, none⟩) (Kd.R_far (p := ⟨gb130, 0, none⟩) (Kd.R_types HO_111001.out BK130.out (by decide)) (fun _ hk => hk.2) (.string t124)) (fun _ hk => hk.2) (.slice Ao51 t125.length co51)) (fun _ hk => hk.2) (.int .i64 t128)) (fun _ h_ => h_.1))))) (Kd.R_lt (by (with_reducible repeat (first | apply Kd.R_alloc | apply Kd.R_drewN | apply Kd.R_drew)); exact (Kd.R_mono (Kd.R_far (p := ⟨gb130, 2, none⟩) (Kd.R_far (p := ⟨gb130, 1, none⟩) (Kd.R_far (p := ⟨gb130, 0, none⟩) (Kd.R_types HO127.out BK130.out (by decide)) (fun _ hk => hk.2) (.string t124)) (fun _ hk => hk.2) (.slice Ao51 t125.length co51)) (fun _ hk => hk.2) (.int .i64 t128)) (fun _ h_ => h_.1))))) (below_size (by repeat (first | (with_reducible first | exact HB.out | apply below_alloc | apply pw_below_drewN | apply below_drew1 | refine below_set ?_ GE110.out | refine below_set ?_ GE130.out) | exact HB.out)))); have n5_ := Aside0.mk (blk_below (g := gb110) (o := .cells #[.string t104, .slice Ao20 t105.length co20, .int .i64 t108] 27 (0, 0)) (by (with_reducible repeat (first | refine blk_drewN ?_ _ | refine blk_drew ?_ | refine blk_alloc ?_ _)); refine blk_far ?_ NB110_130.out _; (with_reducible repeat (first | refine blk_drewN ?_ _ | refine blk_drew ?_ | refine blk_alloc ?_ _)); refine blk_far ?_ NB110_130.out _; (with_reducible repeat (first | refine blk_drewN ?_ _ | refine blk_drew ?_ | refine blk_alloc ?_ _)); refine blk_far ?_ NB110_130.out _; (with_reducible repeat (first | refine blk_drewN ?_ _ | refine blk_drew ?_ | refine blk_alloc ?_ _)); exact BK110.out) hb); have n6_ := Aside0.mk (blk_below (g := gb130) (o := .cells #[.string t124, .slice Ao51 t125.length co51, .int .i64 t128] 27 (0, 0)) (by (with_reducible repeat (first | refine blk_drewN ?_ _ | refine blk_drew ?_ | refine blk_alloc ?_ _)); refine blk_put (cs := #[.string t124, .slice Ao51 t125.length co51, .int .i64 0]) ?_ 2 _ rfl; (with_reducible repeat (first | refine blk_drewN ?_ _ | refine blk_drew ?_ | refine blk_alloc ?_ _)); refine blk_put (cs := #[.string t124, .slice none 0 0, .int .i64 0]) ?_ 1 _ rfl; (with_reducible repeat (first | refine blk_drewN ?_ _ | refine blk_drew ?_ | refine blk_alloc ?_ _)); refine blk_put (cs := #[.string (⟨#[]⟩ : ByteArray), .slice none 0 0, .int .i64 0]) ?_ 0 _ rfl; (with_reducible repeat (first | refine blk_drewN ?_ _ | refine blk_drew ?_ | refine blk_alloc ?_ _)); exact BK130.out) hb); have n7_ := Aside0.mk (below_step (by repeat (first | (with_reducible first | exact HB.out | apply below_alloc | apply pw_below_drewN | apply below_drew1 | refine below_set ?_ GE110.out | refine below_set ?_ GE130.out) | exact HB.out)) hb); clear HO_9; clear HO_10; clear HO_111001; clear HO127; clear BK110; clear BK130; clear HB; have HO_9 := n0_; have HO_10 := n1_; have HO_111001 := n2_; have HO127 := n3_; have HO133 := n4_; have BK110 := n5_; have BK130 := n6_; have HB := n7_; clear n0_ n1_ n2_ n3_ n4_ n5_ n6_ n7_; (try clear hb); (try clear hb2); (try clear hk); (try clear hi); (try clear ho0); obtain ⟨Ao53, co53, eo53⟩ := Kd.R_slice HO133.out; subst eo53) | (go_at_call 12; (with_reducible refine (beadrollref11_Same.calls k2 _ _ t131 _ _ t111 false _ ?side1 ?side2 ?side3 ?side4 A36.out).mono ?_); (case side1 => repeat (first | exact (Kd.R_reads' HO133.out).2.2 | (with_reducible refine Kd.C_alloc ?_ _) | (with_reducible refine Kd.C_drewN ?_ _) | (with_reducible refine Kd.C_drew ?_))); (case side2 => exact (Kd.R_reads' HO133.out).2.1); (case side3 => repeat (first | exact (Kd.R_reads' HO_9.out).2.2 | (with_reducible refine Kd.C_alloc ?_ _) | (with_reducible refine Kd.C_drewN ?_ _) | (with_reducible refine Kd.C_drew ?_))); (case side4 => exact (Kd.R_reads' HO_9.out).2.1); rintro e w' ⟨rfl, ⟨nd, rfl⟩⟩))
           go_ret
           exact ⟨by first | rfl | (simp [errW_none, errW_some] <;> rfl) | (simp [*, errW_none, errW_some] <;> rfl), by repeat (first | (with_reducible first | exact HB.out | apply below_alloc | apply pw_below_drewN | apply below_drew1 | refine below_set ?_ GE110.out | refine below_set ?_ GE130.out) | exact HB.out)⟩
         ·rw [if_neg c34] at H
          have c34b0 : (t129 == 0) = false := beq_eq_false_iff_ne.mpr c34
          have c34b1 : (t129 != 0) = true := bne_iff_ne.mpr c34
          obtain rfl := Option.some.inj H
          obtain ⟨Ao54, co54, eo54⟩ := Kd.R_slice HO_10.out
          subst eo54
          go_wp2_with (first | ((with_reducible refine gate_callee (f := 10) rfl ?_); refine goesL_ (some 57) rfl rfl Try.func10 (by kernel_rfl) rfl #[.string a0, .slice Ao54 x10_2.length co54] rfl (by (try simp only [List.map_toArray, List.map_cons, List.map_nil]); first | done | rfl | (simp only [List.length_drop, List.length_take]; rfl)) ?_; (with_reducible refine (zone_New.calls k2 a0 _ _ x10_2 t124 t125 t128 t129 _ ?side1 ?side2 A33.out).mono ?_); (case side1 => repeat (first | exact (Kd.R_reads' HO_10.out).2.2 | (with_reducible refine Kd.C_alloc ?_ _) | (with_reducible refine Kd.C_drewN ?_ _) | (with_reducible refine Kd.C_drew ?_))); (case side2 => exact (Kd.R_reads' HO_10.out).2.1); rintro e w55 ⟨v126, rfl, ho0, hb⟩; refine ⟨_, rfl, ?_⟩; have n0_ := Aside0.mk (Kd.R_elder' (by (with_reducible repeat (first | apply Kd.R_alloc | apply Kd.R_drewN | apply Kd.R_drew)); exact HO_9.out) (Kd.R_base ho0) hb); have n1_ := Aside0.mk (Kd.R_elder' (by (with_reducible repeat (first | apply Kd.R_alloc | apply Kd.R_drewN | apply Kd.R_drew)); exact HO_10.out) (Kd.R_base ho0) hb); have n2_ := Aside0.mk (Kd.R_elder' (by (with_reducible repeat (first | apply Kd.R_alloc | apply Kd.R_drewN | apply Kd.R_drew)); exact HO_111001.out) (Kd.R_base ho0) hb); have n3_ := Aside0.mk (Kd.R_lower (Kd.R_new' (Kd.R_new' (Kd.R_new' ho0 (Kd.R_lt (by (with_reducible repeat (first | apply Kd.R_alloc | apply Kd.R_drewN | apply Kd.R_drew)); exact HO_9.out))) (Kd.R_lt (by (with_reducible repeat (first | apply Kd.R_alloc | apply Kd.R_drewN | apply Kd.R_drew)); exact HO_10.out))) (Kd.R_lt (by (with_reducible repeat (first | apply Kd.R_alloc | apply Kd.R_drewN | apply Kd.R_drew)); exact HO_111001.out))) (below_size (by repeat (first | (with_reducible first | exact HB.out | apply below_alloc | apply pw_below_drewN | apply below_drew1 | refine below_set ?_ GE110.out) | exact HB.out)))); have n4_ := Aside0.mk (blk_below (g := gb110) (o := .cells #[.string t104, .slice Ao20 t105.length co20, .int .i64 t108] 27 (0, 0)) (by (with_reducible repeat (first | refine blk_drewN ?_ _ | refine blk_drew ?_ | refine blk_alloc ?_ _)); exact BK110.out) hb); have n5_ := Aside0.mk (below_step (by repeat (first | (with_reducible first | exact HB.out | apply below_alloc | apply pw_below_drewN | apply below_drew1 | refine below_set ?_ GE110.out) | exact HB.out)) hb); clear HO_9; clear HO_10; clear HO_111001; clear BK110; clear HB; have HO_9 := n0_; have HO_10 := n1_; have HO_111001 := n2_; have HO127 := n3_; have BK110 := n4_; have HB := n5_; clear n0_ n1_ n2_ n3_ n4_ n5_; (try clear hb); (try clear hb2); (try clear hk); (try clear hi); (try clear ho0)) | ((with_reducible refine gate_dst (N := 12) rfl ?_); (try (refine gate_guard (by rfl) ?_; dsimp only)); refine box_event ?hg (N := 12) ?hd (cs := #[.string (⟨#[]⟩ : ByteArray), .slice none 0 0, .int .i64 0]) (t := 27) ?hr ?_; (case hd => rfl); (case hg => rfl); (case hr => first | (go_simp; done) | (go_simp; rfl)); intro gb130 hg w56 hbox hb; have n0_ := Aside0.mk (Kd.R_below (by (with_reducible repeat (first | apply Kd.R_alloc | apply Kd.R_drewN | apply Kd.R_drew)); exact HO_9.out) hb); have n1_ := Aside0.mk (Kd.R_below (by (with_reducible repeat (first | apply Kd.R_alloc | apply Kd.R_drewN | apply Kd.R_drew)); exact HO_10.out) hb); have n2_ := Aside0.mk (Kd.R_below (by (with_reducible repeat (first | apply Kd.R_alloc | apply Kd.R_drewN | apply Kd.R_drew)); exact HO_111001.out) hb); have n3_ := Aside0.mk (Kd.R_below (by (with_reducible repeat (first | apply Kd.R_alloc | apply Kd.R_drewN | apply Kd.R_drew)); exact HO127.out) hb); have n4_ := Aside0.mk (blk_below (g := gb110) (o := .cells #[.string t104, .slice Ao20 t105.length co20, .int .i64 t108] 27 (0, 0)) (by (with_reducible repeat (first | refine blk_drewN ?_ _ | refine blk_drew ?_ | refine blk_alloc ?_ _)); exact BK110.out) hb); have n5_ := Aside0.mk (below_step (by repeat (first | (with_reducible first | exact HB.out | apply below_alloc | apply pw_below_drewN | apply below_drew1 | refine below_set ?_ GE110.out) | exact HB.out)) hb); have n6_ := Aside0.mk (hbox); have n7_ := Aside0.mk ((by rw [hg]; exact (below_size (by repeat (first | (with_reducible first | exact HB.out | apply below_alloc | apply pw_below_drewN | apply below_drew1 | refine below_set ?_ GE110.out) | exact HB.out))) : w.heap.size ≤ gb130)); have n8_ := Aside0.mk ((by rw [hg]; exact (below_size (by repeat (first | (with_reducible first | exact HB.out | apply below_alloc | apply pw_below_drewN | apply below_drew1 | refine below_set ?_ GE110.out) | exact HB.out))) : w.heap.size ≤ gb130)); have n9_ := Aside0.mk ((by rw [hg]; exact Nat.ne_of_lt (blk_lt (g := gb110) (o := .cells #[.string t104, .slice Ao20 t105.length co20, .int .i64 t108] 27 (0, 0)) (by (with_reducible repeat (first | refine blk_drewN ?_ _ | refine blk_drew ?_ | refine blk_alloc ?_ _)); exact BK110.out)) : gb110 ≠ gb130)); have n10_ := Aside0.mk ((by rw [hg]; exact Nat.ne_of_gt (blk_lt (g := gb110) (o := .cells #[.string t104, .slice Ao20 t105.length co20, .int .i64 t108] 27 (0, 0)) (by (with_reducible repeat (first | refine blk_drewN ?_ _ | refine blk_drew ?_ | refine blk_alloc ?_ _)); exact BK110.out)) : gb130 ≠ gb110)); clear HO_9; clear HO_10; clear HO_111001; clear HO127; clear BK110; clear HB; have HO_9 := n0_; have HO_10 := n1_; have HO_111001 := n2_; have HO127 := n3_; have BK110 := n4_; have HB := n5_; have BK130 := n6_; have GW130 := n7_; have GE130 := n8_; have NB110_130 := n9_; have NB130_110 := n10_; clear n0_ n1_ n2_ n3_ n4_ n5_ n6_ n7_ n8_ n9_ n10_; clear hb hbox hg; have hnb57 := NB130_110.out; have hnc57 := NB110_130.out; have hcz58_0 : w56.cell? ⟨gb130, 0, none⟩ = some (.string (⟨#[]⟩ : ByteArray)) := (blk_cell BK130.out 0).trans rfl; have hcz58_1 : w56.cell? ⟨gb130, 1, none⟩ = some (.slice none 0 0) := (blk_cell BK130.out 1).trans rfl; have hcz58_2 : w56.cell? ⟨gb130, 2, none⟩ = some (.int .i64 0) := (blk_cell BK130.out 2).trans rfl; have hfz58_0 := blk_frozen BK130.out 0; have hfz58_1 := blk_frozen BK130.out 1; have hfz58_2 := blk_frozen BK130.out 2; obtain ⟨Ao59, co59, eo59⟩ := Kd.R_slice HO127.out; subst eo59))
          go_ret
          exact ⟨by first | rfl | (simp [errW_none, errW_some] <;> rfl) | (simp [*, errW_none, errW_some] <;> rfl), by repeat (first | (with_reducible first | exact HB.out | apply below_alloc | apply pw_below_drewN | apply below_drew1 | refine below_set ?_ GE110.out | refine below_set ?_ GE130.out) | exact HB.out)⟩
     ·rw [if_neg c16] at H
      exact absurd H (by simp)
    ·rw [if_neg c14] at H
     have c14b0 : (t109 == 0) = false := beq_eq_false_iff_ne.mpr c14
     have c14b1 : (t109 != 0) = true := bne_iff_ne.mpr c14
     obtain rfl := Option.some.inj H
     go_wp2_with (first | ((with_reducible refine gate_callee (f := 10) rfl ?_); refine goesL_ (some 25) rfl rfl Try.func10 (by kernel_rfl) rfl #[.string a0, .slice A1 l1.length c1] rfl (by (try simp only [List.map_toArray, List.map_cons, List.map_nil]); first | done | rfl | (simp only [List.length_drop, List.length_take]; rfl)) ?_; (with_reducible refine (zone_New.calls kj3 a0 _ _ l1 t104 t105 t108 t109 _ ?side1 ?side2 A13.out).mono ?_); (case side1 => repeat (first | exact (Kd.C_below HR1.out HB.out) | (with_reducible refine Kd.C_alloc ?_ _) | (with_reducible refine Kd.C_drewN ?_ _) | (with_reducible refine Kd.C_drew ?_))); (case side2 => exact HC1.out); rintro e w60 ⟨v106, rfl, ho0, hb⟩; refine ⟨_, rfl, ?_⟩; have n0_ := Aside0.mk (Kd.R_lower ho0 (below_size (by repeat (first | (with_reducible first | exact HB.out | apply below_alloc | apply pw_below_drewN | apply below_drew1) | exact HB.out)))); have n1_ := Aside0.mk (below_step (by repeat (first | (with_reducible first | exact HB.out | apply below_alloc | apply pw_below_drewN | apply below_drew1) | exact HB.out)) hb); clear HB; have HO107 := n0_; have HB := n1_; clear n0_ n1_; (try clear hb); (try clear hb2); (try clear hk); (try clear hi); (try clear ho0)) | ((with_reducible refine gate_dst (N := 7) rfl ?_); (try (refine gate_guard (by rfl) ?_; dsimp only)); refine box_event ?hg (N := 7) ?hd (cs := #[.string (⟨#[]⟩ : ByteArray), .slice none 0 0, .int .i64 0]) (t := 27) ?hr ?_; (case hd => rfl); (case hg => rfl); (case hr => first | (go_simp; done) | (go_simp; rfl)); intro gb110 hg w61 hbox hb; have n0_ := Aside0.mk (Kd.R_below (by (with_reducible repeat (first | apply Kd.R_alloc | apply Kd.R_drewN | apply Kd.R_drew)); exact HO107.out) hb); have n1_ := Aside0.mk (below_step (by repeat (first | (with_reducible first | exact HB.out | apply below_alloc | apply pw_below_drewN | apply below_drew1) | exact HB.out)) hb); have n2_ := Aside0.mk (hbox); have n3_ := Aside0.mk ((by rw [hg]; exact (below_size (by repeat (first | (with_reducible first | exact HB.out | apply below_alloc | apply pw_below_drewN | apply below_drew1) | exact HB.out))) : w.heap.size ≤ gb110)); have n4_ := Aside0.mk ((by rw [hg]; exact (below_size (by repeat (first | (with_reducible first | exact HB.out | apply below_alloc | apply pw_below_drewN | apply below_drew1) | exact HB.out))) : w.heap.size ≤ gb110)); clear HO107; clear HB; have HO107 := n0_; have HB := n1_; have BK110 := n2_; have GW110 := n3_; have GE110 := n4_; clear n0_ n1_ n2_ n3_ n4_; clear hb hbox hg; have hcz62_0 : w61.cell? ⟨gb110, 0, none⟩ = some (.string (⟨#[]⟩ : ByteArray)) := (blk_cell BK110.out 0).trans rfl; have hcz62_1 : w61.cell? ⟨gb110, 1, none⟩ = some (.slice none 0 0) := (blk_cell BK110.out 1).trans rfl; have hcz62_2 : w61.cell? ⟨gb110, 2, none⟩ = some (.int .i64 0) := (blk_cell BK110.out 2).trans rfl; have hfz62_0 := blk_frozen BK110.out 0; have hfz62_1 := blk_frozen BK110.out 1; have hfz62_2 := blk_frozen BK110.out 2; obtain ⟨Ao63, co63, eo63⟩ := Kd.R_slice HO107.out; subst eo63))
     go_ret
     exact ⟨by first | rfl | (simp [errW_none, errW_some] <;> rfl) | (simp [*, errW_none, errW_some] <;> rfl), by repeat (first | (with_reducible first | exact HB.out | apply below_alloc | apply pw_below_drewN | apply below_drew1 | refine below_set ?_ GE110.out) | exact HB.out)⟩
end Go.Proofs.Ytehdkopjgcoclaa.PZn
namespace Go.Proofs.Ytehdkopjgcoclaa.RowStructs
open Go.RowKit Go.ChangeShapes Go.WideShapes Go.Deep Go.Proofs.YtehdkopjgcoclaaW.PrintWords
set_option linter.unusedVariables false
section
variable {H : Type} {enc : TypeId × Value → H} {P : Program} {W : World} {base : Nat} {spare : Nat → Bool} {held : Bool}
theorem fields_of {e : TypeId} {fs : Array Field} {fuel : Nat} {cs : List Value} {x : DataW H × List MemPlace} (he : P.underlying e = some (.struct fs)) (hone : oneCellFields P fs = true) (hC : P.cellsOf e = fs.size)
    (h : DataW.trod enc P W base spare held fuel e cs = some x) : cs.length = fs.size ∧ ∃ n, ∀ (j : Nat) (f : Field), fs[j]? = some f → ∃ v y, cs[j]? = some v ∧ DataW.trod enc P W base spare held n f.type [v] = some y := by
  obtain ⟨ys, n, _, _, hl, hyl, hf⟩ := DataW.trod_struct he h
  refine ⟨hl.trans hC, n, fun j f hj => ?_⟩
  obtain ⟨ho, hk⟩ := hone_of hone j f hj
  have hjl : j < fs.size := (Array.getElem?_eq_some_iff.1 hj).1
  have hcl : j < cs.length := by omega
  have hyj : j < ys.length := by omega
  have h1 := hf j f hj
  rw [ho, hk, List.drop_eq_getElem_cons hcl, List.take_succ_cons, List.take_zero] at h1
  exact ⟨cs[j], ys[j], List.getElem?_eq_getElem hcl, h1.trans (List.getElem?_eq_getElem hyj)⟩
theorem list_of {S : Type} (n : Nat) (R : Nat → S → Prop) (h : ∀ i, i < n → ∃ s, R i s) : ∃ l : List S, l.length = n ∧ ∀ i s, l[i]? = some s → R i s := by
  induction n with
  | zero => exact ⟨[], rfl, fun i s hs => by simp at hs⟩
  | succ n ih =>
    obtain ⟨l, hl, hr⟩ := ih fun i hi => h i (by omega)
    obtain ⟨s, hs⟩ := h n (by omega)
    refine ⟨l ++ [s], by simp [hl], fun i t ht => ?_⟩
    by_cases hi : i < n
    · rw [List.getElem?_append_left (by omega)] at ht; exact hr i t ht
    · rw [List.getElem?_append_right (by omega)] at ht
      by_cases e : i = n
      · subst e; rw [hl, Nat.sub_self] at ht; simp at ht; subst ht; exact hs
      · rw [List.getElem?_eq_none (by simp; omega)] at ht; cases ht
theorem structs_of {S : Type} (k : Kd S) (good : S → Prop) {t e : TypeId} {a : Option Addr} {len cap : Nat} {d : DataW H} {ps : List MemPlace} (hu : P.underlying t = some (.slice e)) (hC : P.cellsOf e = k.sz) (hpos : 0 < k.sz)
    (open1 : ∀ fuel cs x, DataW.trod enc P W base spare held fuel e cs = some x → ∃ s, k.K W s cs ∧ good s) (h : DataW.Trod enc P W base spare held t (.slice a len cap) d ps) :
    ∃ l : List S, len = l.length ∧ Kd.C k W a l.length l ∧ l.length ≤ cap ∧ l.length ≤ maxLen ∧ ∀ s ∈ l, good s := by
  obtain ⟨fuel, hf⟩ := h
  rcases open_slice hu hf with ⟨hcs, _⟩ | ⟨x, l, c, m, n, D, Pl, hcs, _, hl, hm, hmm, _, hi⟩
  · simp [Value.cells] at hcs
    obtain ⟨rfl, rfl, rfl⟩ := hcs
    exact ⟨[], rfl, Kd.C_nil _ _, Nat.le_refl _, Nat.zero_le _, by simp⟩
  · simp [Value.cells] at hcs
    obtain ⟨rfl, rfl, rfl⟩ := hcs
    have hlm : len ≤ m := by rw [hmm]; split <;> omega
    obtain ⟨L, hL, hR⟩ := list_of len (fun i s => good s ∧ ∃ cs', k.K W s cs' ∧ cs'.length = k.sz ∧ ∀ j u, cs'[j]? = some u → W.cell? (x.add (i * k.sz + j)) = some u) (fun i hi' => by
      obtain ⟨cs', hc, ht⟩ := hi i (by omega)
      obtain ⟨s, hs, hg⟩ := open1 _ _ _ ht
      rw [hC] at hc
      obtain ⟨_, hcl, hat⟩ := World.cells?_some hc
      refine ⟨s, hg, cs', hs, hcl, fun j u hj => ?_⟩
      have hjl : j < k.sz := by rw [← hcl]; exact (List.getElem?_eq_some_iff.1 hj).1
      have := hat j hjl
      rw [← Go.Deep.add_add]; rw [this]; exact hj)
    refine ⟨L, hL.symm, ⟨rfl, by unfold maxLen at hm; omega, fun _ => ⟨x, rfl, fun j p hp => ?_⟩⟩, by omega, by omega, fun s hs => ?_⟩
    · obtain ⟨_, c, h1, h2, h3⟩ := hR j p hp
      exact ⟨c, h2, h1, h3⟩
    · obtain ⟨i, hi', he⟩ := List.getElem_of_mem hs
      exact (hR i s (by rw [List.getElem?_eq_getElem hi', he])).1
end
end Go.Proofs.Ytehdkopjgcoclaa.RowStructs
namespace Go.Proofs.Ytehdkopjgcoclaa.RowStructs
open Go.RowKit Go.ChangeShapes Go.WideShapes Go.Deep Go.Proofs.YtehdkopjgcoclaaW.PrintWords Go.Proofs.Ytehdkopjgcoclaa.PRd Go.Proofs.Ytehdkopjgcoclaa.PRr
set_option linter.unusedVariables false
structure GoodRR (s : S33) : Prop where
  n0 : s.f0.size ≤ maxLen
  n4 : s.f4.size ≤ maxLen
  i1 : (Lit.int .i64 s.f1).wf = true
  i2 : (Lit.int .i64 s.f2).wf = true
  i3 : (Lit.int .i64 s.f3).wf = true
section
variable {H : Type} {enc : TypeId × Value → H} {W : World} {base : Nat} {spare : Nat → Bool} {held : Bool}
theorem rr_of {fuel : Nat} {cs : List Value} {x : DataW H × List MemPlace} (h : DataW.trod enc Try.prog W base spare held fuel 33 cs = some x) : ∃ s : S33, cs = [.string s.f0, .int .i64 s.f1, .int .i64 s.f2, .int .i64 s.f3, .string s.f4] ∧ GoodRR s := by
  obtain ⟨hl, n, hf⟩ := fields_of Try.underlying33 (by kernel_rfl) (by kernel_rfl) h
  obtain ⟨v0, y0, c0, h0⟩ := hf 0 _ rfl
  obtain ⟨v1, y1, c1, h1⟩ := hf 1 _ rfl
  obtain ⟨v2, y2, c2, h2⟩ := hf 2 _ rfl
  obtain ⟨v3, y3, c3, h3⟩ := hf 3 _ rfl
  obtain ⟨v4, y4, c4, h4⟩ := hf 4 _ rfl
  obtain ⟨s, e0, _, g0⟩ := DataW.trod_string Try.underlying9 h0
  obtain ⟨a, e1, _, g1⟩ := DataW.trod_int Try.underlying3 h1
  obtain ⟨b, e2, _, g2⟩ := DataW.trod_int Try.underlying3 h2
  obtain ⟨c, e3, _, g3⟩ := DataW.trod_int Try.underlying3 h3
  obtain ⟨d, e4, _, g4⟩ := DataW.trod_string Try.underlying9 h4
  obtain rfl : v0 = .string s := by simpa using e0
  obtain rfl : v1 = .int .i64 a := by simpa using e1
  obtain rfl : v2 = .int .i64 b := by simpa using e2
  obtain rfl : v3 = .int .i64 c := by simpa using e3
  obtain rfl : v4 = .string d := by simpa using e4
  have : cs = [.string s, .int .i64 a, .int .i64 b, .int .i64 c, .string d] := by
    match cs, hl with
    | [p, q, r, t, u], _ => simp at c0 c1 c2 c3 c4; rw [c0, c1, c2, c3, c4]
  exact ⟨⟨s, a, b, c, d⟩, this, ⟨g0, g4, g1, g2, g3⟩⟩
theorem of_T33 {t : TypeId} {a : Option Addr} {len cap : Nat} {d : DataW H} {ps : List MemPlace} (hu : Try.prog.underlying t = some (.slice 33)) (h : DataW.Trod enc Try.prog W base spare held t (.slice a len cap) d ps) :
    ∃ l : List S33, len = l.length ∧ Kd.C k33 W a l.length l ∧ l.length ≤ cap ∧ l.length ≤ maxLen ∧ ∀ s ∈ l, GoodRR s :=
  structs_of k33 GoodRR hu (by kernel_rfl) (by decide) (fun _ _ _ h => by
    obtain ⟨s, rfl, hg⟩ := rr_of h
    exact ⟨s, k33_mk W s, hg⟩) h
end
end Go.Proofs.Ytehdkopjgcoclaa.RowStructs
namespace Go.Proofs.Ytehdkopjgcoclaa.Rrs
open Go.RowKit Go.Proofs.YtehdkopjgcoclaaW.PrintWords Go.Proofs.YtehdkopjgcoclaaW.PrintLast Go.Proofs.YtehdkopjgcoclaaW.PrintMore Go.Proofs.Ytehdkopjgcoclaa.Given Go.Proofs.Ytehdkopjgcoclaa.PRd Go.Proofs.Ytehdkopjgcoclaa.PRr Go.Proofs.Ytehdkopjgcoclaa.PZo Go.Proofs.Ytehdkopjgcoclaa.PZf Go.Proofs.Ytehdkopjgcoclaa.PZh Go.Proofs.Ytehdkopjgcoclaa.PZn Go.Proofs.Ytehdkopjgcoclaa.Name Go.Proofs.Ytehdkopjgcoclaa.NameFacts Go.Proofs.Ytehdkopjgcoclaa.SetLaw
set_option linter.unusedVariables false
theorem ofL_more {s : List RR} (h : IsSet cmpRR s) : ∀ m : List RR, (∀ y ∈ m, y ∈ s) → m.foldl (put cmpRR) s = s := by
  intro m
  induction m with
  | nil => exact fun _ => rfl
  | cons y m ih =>
    intro hm
    rw [List.foldl_cons, put_same ordRR h (hm y (List.mem_cons_self ..))]
    exact ih fun z hz => hm z (List.mem_cons_of_mem _ hz)
theorem ofL_app {s : List RR} (h : IsSet cmpRR s) (m : List RR) (hm : ∀ y ∈ m, y ∈ s) : ofL cmpRR (s ++ m) = s := by
  have h0 := ofL_self ordRR h
  unfold ofL at h0 ⊢
  rw [List.foldl_append, h0, ofL_more h m hm]
theorem newP_app {a : ByteArray} {s : List RR} (h : ZoneOf a s) (m : List RR) (hm : ∀ y ∈ m, y ∈ s) : newP a (s ++ m) = (a, s, soaI s, 0) := by
  unfold newP
  rw [ofL_app h.set.set m hm, zone_is h.set, h.zone, h.apex, if_pos, if_pos rfl]
  rw [Bool.true_and, List.all_eq_true]
  intro y hy
  rcases List.mem_append.mp hy with hy | hy
  · exact h.right y hy
  · exact h.right y (hm y hy)
theorem zone_two {a : ByteArray} {s : List RR} (h : ZoneOf a s) : 2 ≤ s.length := by
  have hz := h.zone
  rw [← zone_is h.set] at hz
  unfold zoneB at hz
  simp only [Bool.and_eq_true, beq_iff_eq, Bool.not_eq_true', List.isEmpty_eq_false_iff] at hz
  obtain ⟨_, h1, _, h2, _⟩ := hz
  obtain ⟨y, _, hy, hy6⟩ := one_six h1
  obtain ⟨z, hz⟩ := List.exists_mem_of_ne_nil _ h2
  have hz2 : z ∈ s ∧ z.f1 = 2 := by
    unfold setL typedL atL at hz
    simp only [List.mem_filter, beq_iff_eq] at hz
    exact ⟨hz.1.1, hz.2⟩
  match s, hy, hz2.1 with
  | [x], hy, hz => rw [List.mem_singleton] at hy hz; rw [hy] at hy6; rw [hz] at hz2; omega
  | _ :: _ :: _, _, _ => simp
open Classical in
theorem ev_same_self' (s : List RR) (hn : s.length ≤ 1000000) : Ev (fun k => beadrollref11_Same.f k s s) true := by
  have := ev_same s s (by omega)
  rw [decide_eq_true rfl] at this
  exact this
theorem zturns_loop {a : ByteArray} {s : List RR} (h : ZoneOf a s) (hs : s.length ≤ 30) (u : Int) (hu : 0 ≤ u ∧ u ≤ 255) : ∀ (d i : Nat) (m : List RR), i + d = s.length → m.length = i → (∀ y ∈ m, y ∈ s) → Ev (fun k => beadrolllaw14_ZoneTurns.l0 k a u s (s ++ m) (i : Int)) true := by
  intro d
  induction d with
  | zero =>
    intro i m hd hm hy
    have hst : ∀ k, beadrolllaw14_ZoneTurns.l0 (k + 1) a u s (s ++ m) (i : Int) = (zone_New.f k a (s ++ m)).bind fun p => if p.2.2.2 = 0 then ((zone_Zone_All.f p.1 p.2.1 p.2.2.1).bind fun t => (beadrollref11_Same.f k t s).bind fun t => if t = true then some (decide ((s.length : Int) ≥ 2)) else some false) else some false := fun k => by
      rw [beadrolllaw14_ZoneTurns.l0, if_neg (by omega)]
    have hnew := ev_new a (s ++ m) (by rw [List.length_append]; omega)
    rw [newP_app h m hy] at hnew
    refine Ev.step hst (Ev.bind hnew ?_)
    simp only [if_true]
    rw [all_f a s _ h.set.len]
    simp only [Option.bind_some]
    refine Ev.bind (ev_same_self' s h.set.len) ?_
    simp only [if_true]
    rw [decide_eq_true (by have := zone_two h; omega)]
    exact Ev.now _
  | succ d ih =>
    intro i m hd hm hy
    have hu1 : wrap64 u = u := by unfold wrap64; omega
    have hu2 : wrap64 ((i : Int) + u) = (i : Int) + u := by unfold wrap64; omega
    have e1 : wrap64 ((i : Int) + 1) = ((i + 1 : Nat) : Int) := by unfold wrap64; omega
    obtain ⟨j, hj⟩ : ∃ j : Nat, Int.tmod ((i : Int) + u) (s.length : Int) = (j : Int) := ⟨(Int.tmod ((i : Int) + u) (s.length : Int)).toNat, by rw [Int.toNat_of_nonneg (Int.tmod_nonneg _ (by omega))]⟩
    have hj2 : j < s.length := by
      have := Int.tmod_lt_of_pos ((i : Int) + u) (show (0 : Int) < (s.length : Int) by omega)
      omega
    have hst : ∀ k, beadrolllaw14_ZoneTurns.l0 (k + 1) a u s (s ++ m) (i : Int) = beadrolllaw14_ZoneTurns.l0 k a u s (s ++ (m ++ [s[j]])) ((i + 1 : Nat) : Int) := fun k => by
      rw [beadrolllaw14_ZoneTurns.l0, hu1, hu2, hj, e1, if_pos (by omega), if_neg (by omega), if_pos (by omega), if_pos (by omega), if_pos (by rw [List.length_append]; omega)]
      show beadrolllaw14_ZoneTurns.l0 k a u s ((s ++ m) ++ [rdR s (j : Nat)]) _ = _
      rw [rdR_get s j hj2, List.append_assoc]
    refine Ev.step hst (ih (i + 1) (m ++ [s[j]]) (by omega) (by simp [hm]) fun y hy' => ?_)
    rcases List.mem_append.mp hy' with hy' | hy'
    · exact hy y hy'
    · rw [List.mem_singleton.mp hy']; exact List.getElem_mem _
end Go.Proofs.Ytehdkopjgcoclaa.Rrs
namespace Go.Proofs.Ytehdkopjgcoclaa.Pure
open Go.RowKit Go.Proofs.YtehdkopjgcoclaaW.PrintWords Go.Proofs.Ytehdkopjgcoclaa.Given Go.Proofs.Ytehdkopjgcoclaa.PRd Go.Proofs.Ytehdkopjgcoclaa.PRr Go.Proofs.Ytehdkopjgcoclaa.PZf Go.Proofs.Ytehdkopjgcoclaa.PZh Go.Proofs.Ytehdkopjgcoclaa.PZn Go.Proofs.Ytehdkopjgcoclaa.Rrs Go.Proofs.Ytehdkopjgcoclaa.RowStructs
set_option linter.unusedVariables false
theorem ZoneTurns (a : ByteArray) (l : List RR) (u : Int) (ha : a.size ≤ 140737488351232) (hm : l.length ≤ maxLen) (hs : ∀ s ∈ l, GoodRR s) (hu : (Lit.int .u8 u).wf = true) : ∃ k, beadrolllaw14_ZoneTurns.f k a l u = some true := by
  refine Ev.rounds ?_
  unfold maxLen at hm
  have hu2 : 0 ≤ u ∧ u ≤ 255 := by simp [Lit.wf, IntKind.min, IntKind.max, IntKind.signed, IntKind.bits] at hu; omega
  have hoff : Ev (fun k => beadrolllaw14_ZoneTurns.j0 k a l u true) true := Ev.step (f := fun k => (beadrolllaw14_awake.f k).bind fun t => some t) (fun k => by rw [beadrolllaw14_ZoneTurns.j0, if_pos rfl]) (Ev.bind ev_awake14 (Ev.now _))
  unfold beadrolllaw14_ZoneTurns.f
  refine Ev.bind ev_awake14 ?_
  simp only [if_true]
  obtain ⟨b, hb, hl⟩ := ev_few l (by omega)
  refine Ev.bind hb ?_
  cases b
  · exact hoff
  · have hl := hl rfl
    have hst : ∀ k, beadrolllaw14_ZoneTurns.j0 (k + 1) a l u false = (zone_New.f k a l).bind fun p => if p.2.2.2 = 0 then ((PZo.zone_Zone_All.f p.1 p.2.1 p.2.2.1).bind fun t => if ([] : List RR).length + t.length < 2513169434916 then beadrolllaw14_ZoneTurns.l0 k a u t ([] ++ t) 0 else none) else some true := fun k => by
      rw [beadrolllaw14_ZoneTurns.j0, if_neg (by decide)]; rfl
    refine Ev.step hst (Ev.bind (ev_new a l (by omega)) ?_)
    rcases new_both a l (by omega) with ⟨s, hS, hsl, e1, e2, _⟩ | ⟨e, he, e1, e2⟩
    · rw [e1]
      simp only [if_true]
      rw [all_f a s _ hS.set.len]
      simp only [Option.bind_some, List.nil_append, List.length_nil, Nat.zero_add]
      simp only [if_pos (show s.length < 2513169434916 by omega)]
      have := zturns_loop hS (by omega) u hu2 s.length 0 [] (by omega) rfl (fun y hy => by cases hy)
      rw [List.append_nil] at this
      exact this
    · rw [e1]
      simp only [he, if_false]
      exact Ev.now _
end Go.Proofs.Ytehdkopjgcoclaa.Pure
