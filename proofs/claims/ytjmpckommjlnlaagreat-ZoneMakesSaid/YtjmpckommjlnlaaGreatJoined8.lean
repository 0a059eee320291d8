/- Contracts and facts that the claim's row is drawn from, each with its own conditions. -/
import Derived.Test.YtjmpckommjlnlaaGreatJoined7
import Derived.Deep.Slices
import Derived.Deep.Fields
import Derived.ProofKit
namespace Go.Proofs.YtjmpckommjlnlaaGreat.PZm
open Go.RowKit Go.Proofs.YtjmpckommjlnlaaGreatW.PrintWords Go.Proofs.YtjmpckommjlnlaaGreatW.PrintLast Go.Proofs.YtjmpckommjlnlaaGreatW.PrintMore Go.Proofs.YtjmpckommjlnlaaGreat.Given Go.Proofs.YtjmpckommjlnlaaGreat.PRd Go.Proofs.YtjmpckommjlnlaaGreat.PRr Go.Proofs.YtjmpckommjlnlaaGreat.PZo Go.Proofs.YtjmpckommjlnlaaGreat.PZf Go.Proofs.YtjmpckommjlnlaaGreat.PZe Go.Proofs.YtjmpckommjlnlaaGreat.PZh
attribute [local go_sem] max2_int min2_int max_two min_two max_three min_three max_four min_four   -- for this text's walks alone
set_option linter.unusedVariables false
set_option linter.unusedSimpArgs false
attribute [local go_sem high] eqA35 eqA38
mutual
noncomputable def beadrolllaw14_ZoneMakes.j0 : Nat → ByteArray → List (S35) → Bool → Option (Bool)
 | 0, _, _, _ => none
 | k + 1, x0, x1, x24 => if x24 = true then ((beadrolllaw14_awake.f k).bind fun t144 => (some t144)) else ((zone_New.f k x0 x1).bind fun bt145 => ((beadrollref14_New.f k x0 x1).bind fun bt152 => (if bt145.2.2.2 = bt152.2.2 then (beadrolllaw14_ZoneMakes.j1 k x0 bt145.2.2.2 bt152.2.2 (bt152.2.2 != 0) bt145.1 bt145.2.1 bt145.2.2.1 bt152.1 bt152.2.1) else (beadrolllaw14_ZoneMakes.j1 k x0 bt145.2.2.2 bt152.2.2 true bt145.1 bt145.2.1 bt145.2.2.1 bt152.1 bt152.2.1))))
noncomputable def beadrolllaw14_ZoneMakes.j1 : Nat → ByteArray → Int → Int → Bool → ByteArray → List (S35) → Int → ByteArray → List (S35) → Option (Bool)
 | 0, _, _, _, _, _, _, _, _, _ => none
 | k + 1, x0, x6, x8, x44, x152000, x152001, x152002, x158000, x158001 => if x44 = true then (some (x6 == x8)) else ((zone_Zone_Soa.f x152000 x152001 x152002).bind fun bt158 => ((beadrollref14_Zone_Soa.f k x158000 x158001).bind fun bt172 => ((zone_Zone_Apex.f x152000 x152001 x152002).bind fun t186 => (if t186.toList = x0.toList then ((zone_Zone_All.f x152000 x152001 x152002).bind fun t187 => ((beadrollref11_Same.f k t187 x158001).bind fun t190 => (if t190 = true then ((zone_Zone_Names.f x152000 x152001 x152002).bind fun t191 => ((beadrollref14_Zone_Names.f k x158000 x158001).bind fun t194 => ((beadrollref01_Texts.f k t191 t194).bind fun t197 => (if t197 = true then (if (bt158.1.toList == bt172.1.toList && (bt158.2.1 == bt172.2.1 && (bt158.2.2.1 == bt172.2.2.1 && (bt158.2.2.2.1 == bt172.2.2.2.1 && (bt158.2.2.2.2.1.toList == bt172.2.2.2.2.1.toList))))) = true then (some (bt158.2.2.2.2.2.1.toList == bt172.2.2.2.2.2.1.toList && (bt158.2.2.2.2.2.2.1.toList == bt172.2.2.2.2.2.2.1.toList && (bt158.2.2.2.2.2.2.2.1 == bt172.2.2.2.2.2.2.2.1 && (bt158.2.2.2.2.2.2.2.2.1 == bt172.2.2.2.2.2.2.2.2.1 && (bt158.2.2.2.2.2.2.2.2.2.1 == bt172.2.2.2.2.2.2.2.2.2.1 && (bt158.2.2.2.2.2.2.2.2.2.2.1 == bt172.2.2.2.2.2.2.2.2.2.2.1 && (bt158.2.2.2.2.2.2.2.2.2.2.2 == bt172.2.2.2.2.2.2.2.2.2.2.2)))))))) else (none)) else (none))))) else (none)))) else (none)))))
end
noncomputable def beadrolllaw14_ZoneMakes.f (k : Nat) (a0 : ByteArray) (l1 : List (S35)) : Option (Bool) := (beadrolllaw14_awake.f k).bind fun t142 => (if t142 = true then ((beadrollref14_Few.f k l1).bind fun t143 => (if t143 = true then (beadrolllaw14_ZoneMakes.j0 k a0 l1 (decide ((a0.size : Int) > 600))) else (beadrolllaw14_ZoneMakes.j0 k a0 l1 true))) else (beadrolllaw14_ZoneMakes.j0 k a0 l1 true))
def beadrolllaw14_ZoneMakes.T9 : Bool × List (List Nat × List Nat) := (true, [([], []), ([0], [0]), ([], []), ([1, 2], [1, 2]), ([3, 1], [3]), ([4], [4]), ([5, 4, 4], [4, 5]), ([4], [4]), ([7, 4], [4, 7]), ([6, 8, 6, 4], [4, 6, 8]), ([4, 9], [4, 9]), ([10, 9], [10]), ([11], [11]), ([12, 11, 11], [11, 12]), ([11], [11]), ([14, 13, 11], [11, 14]), ([13, 15, 15, 11], [11, 13, 15]), ([11, 16], [11, 16]), ([17, 16], [17]), ([18], [18]), ([18], [18]), ([19, 20, 18], [18, 19, 20]), ([18, 21], [18, 21]), ([22, 18], [22]), ([23], [23]), ([23], [23]), ([24, 25, 23], [23, 24, 25]), ([23, 26], [23, 26]), ([27, 23, 0, 1, 2, 3, 4, 5, 6, 7, 8, 9, 10, 11, 12, 13, 14, 15, 16, 17, 18, 19, 20, 21, 22, 23, 24, 25, 26, 27], [27])])
def beadrolllaw14_ZoneMakes.B9 : List Nat := [0, 1, 0, 7, 15, 31, 63, 31, 159, 511, 1023, 2047, 4095, 8191, 4095, 32767, 65535, 131071, 262143, 524287, 524287, 2097151, 4194303, 8388607, 16777215, 16777215, 67108863, 134217727, 268435455]
theorem beadrolllaw14_ZoneMakes.tab9 : rtab .any (opsOf Tryz.f3 9) = beadrolllaw14_ZoneMakes.T9 := by kernel_rfl
theorem beadrolllaw14_ZoneMakes.bits9 : waitsOk beadrolllaw14_ZoneMakes.T9.2 beadrolllaw14_ZoneMakes.B9 = true := by kernel_rfl
set_option maxHeartbeats 8000000 in
set_option maxRecDepth 100000 in
theorem beadrolllaw14_ZoneMakes.calls (k : Nat) (a0 : ByteArray) (A1 : Option Addr) (c1 : Nat) (l1 : List (S35)) (r : Bool) (w : World) (hr1 : Kd.C k35 w A1 l1.length l1) (hc1 : l1.length ≤ c1) (h : beadrolllaw14_ZoneMakes.f k a0 l1 = some r) :
  Calls Tryz.prog 3 #[.string a0, .slice A1 l1.length c1] w fun e w' => e = .returned (.bool r) ∧ Below w.heap.size w w' := by
 have hu26 := Tryz.underlying26
 have hu31 := Tryz.underlying31
 have hu35 := Tryz.underlying35
 have hu38 := Tryz.underlying38
 have HR1 := Aside0.mk hr1
 have HC1 := Aside0.mk hc1
 clear hr1 hc1
 have HB := Aside0.mk (Below.refl w.heap.size w)
 have H : ((beadrolllaw14_awake.f k).bind fun t142 => (if t142 = true then ((beadrollref14_Few.f k l1).bind fun t143 => (if t143 = true then (beadrolllaw14_ZoneMakes.j0 k a0 l1 (decide ((a0.size : Int) > 600))) else (beadrolllaw14_ZoneMakes.j0 k a0 l1 true))) else (beadrolllaw14_ZoneMakes.j0 k a0 l1 true))) = some r := h
 clear h
 have HC3 := Aside0.mk H
 clear H
 go_enter Tryz.func3, Tryz.ntmps3
 go_upto_region 1 with (fail)
 go_cut [24] (fun v24 wc => ∃ (kq : Nat) (x24_2 : Bool), v24 = .bool x24_2 ∧ Aside0 (beadrolllaw14_ZoneMakes.j0 kq a0 l1 x24_2 = some r) ∧ Aside0 (kq ≤ k) ∧ Aside0 (Below w.heap.size w wc))
 case first =>
  have H := HC3.out
  clear HC3
  replace H := Option.bind_eq_some_iff.mp H
  obtain ⟨t142, A40, H⟩ := H
  replace H : (if t142 = true then ((beadrollref14_Few.f k l1).bind fun t143 => (if t143 = true then (beadrolllaw14_ZoneMakes.j0 k a0 l1 (decide ((a0.size : Int) > 600))) else (beadrolllaw14_ZoneMakes.j0 k a0 l1 true))) else (beadrolllaw14_ZoneMakes.j0 k a0 l1 true)) = some r := H
  have A4 := Aside0.mk A40
  clear A40
  by_cases c5 : t142 = true
  ·subst c5
   have H1 : ((beadrollref14_Few.f k l1).bind fun t143 => (if t143 = true then (beadrolllaw14_ZoneMakes.j0 k a0 l1 (decide ((a0.size : Int) > 600))) else (beadrolllaw14_ZoneMakes.j0 k a0 l1 true))) = some r := by rw [if_pos rfl] at H; exact H
   clear H
   have H := H1
   clear H1
   replace H := Option.bind_eq_some_iff.mp H
   obtain ⟨t143, A60, H⟩ := H
   replace H : (if t143 = true then (beadrolllaw14_ZoneMakes.j0 k a0 l1 (decide ((a0.size : Int) > 600))) else (beadrolllaw14_ZoneMakes.j0 k a0 l1 true)) = some r := H
   have A6 := Aside0.mk A60
   clear A60
   by_cases c7 : t143 = true
   ·subst c7
    have H1 : (beadrolllaw14_ZoneMakes.j0 k a0 l1 (decide ((a0.size : Int) > 600))) = some r := by rw [if_pos rfl] at H; exact H
    clear H
    have H := H1
    clear H1
    have H' := Aside0.mk H
    clear H
    go_wp2_with (first | ((with_reducible refine gate_callee (f := 15) rfl ?_); refine goesL_ (some 13) rfl rfl Tryz.func15 (by kernel_rfl) rfl #[] rfl (by (try simp only [List.map_toArray, List.map_cons, List.map_nil]); first | done | rfl | (simp only [List.length_drop, List.length_take]; rfl)) ?_; (with_reducible refine (beadrolllaw14_awake.calls k  true _ A4.out).mono ?_); rintro e w8 ⟨rfl, hb⟩; refine ⟨_, rfl, ?_⟩; have n0_ := Aside0.mk (below_step (by repeat (first | (with_reducible first | exact HB.out | apply below_alloc | apply pw_below_drewN | apply below_drew1) | exact HB.out)) hb); clear HB; have HB := n0_; clear n0_; (try clear hb); (try clear hb2); (try clear hk); (try clear hi)) | (go_at_call 16; (with_reducible refine (beadrollref14_Few.calls k _ _ l1 true _ ?side1 ?side2 A6.out).mono ?_); (case side1 => repeat (first | exact (Kd.C_below HR1.out HB.out) | (with_reducible refine Kd.C_alloc ?_ _) | (with_reducible refine Kd.C_drewN ?_ _) | (with_reducible refine Kd.C_drew ?_))); (case side2 => exact HC1.out); rintro e w' ⟨rfl, ⟨nd, rfl⟩⟩))
    go_meet
    case rel => exact ⟨_, (decide ((a0.size : Int) > 600)), (by first | rfl | (simp; done) | (simp [*]; done)), H', ⟨by first | omega | exact Nat.le_refl _⟩, ⟨by repeat (first | (with_reducible first | exact HB.out | apply below_alloc | apply pw_below_drewN | apply below_drew1) | exact HB.out)⟩⟩
   ·replace c7 := Bool.eq_false_iff.mpr c7
    subst c7
    have H1 : (beadrolllaw14_ZoneMakes.j0 k a0 l1 true) = some r := by rw [if_neg (show ¬ (false = true) by decide)] at H; exact H
    clear H
    have H := H1
    clear H1
    have H' := Aside0.mk H
    clear H
    go_wp2_with (first | ((with_reducible refine gate_callee (f := 15) rfl ?_); refine goesL_ (some 13) rfl rfl Tryz.func15 (by kernel_rfl) rfl #[] rfl (by (try simp only [List.map_toArray, List.map_cons, List.map_nil]); first | done | rfl | (simp only [List.length_drop, List.length_take]; rfl)) ?_; (with_reducible refine (beadrolllaw14_awake.calls k  true _ A4.out).mono ?_); rintro e w9 ⟨rfl, hb⟩; refine ⟨_, rfl, ?_⟩; have n0_ := Aside0.mk (below_step (by repeat (first | (with_reducible first | exact HB.out | apply below_alloc | apply pw_below_drewN | apply below_drew1) | exact HB.out)) hb); clear HB; have HB := n0_; clear n0_; (try clear hb); (try clear hb2); (try clear hk); (try clear hi)) | (go_at_call 16; (with_reducible refine (beadrollref14_Few.calls k _ _ l1 false _ ?side1 ?side2 A6.out).mono ?_); (case side1 => repeat (first | exact (Kd.C_below HR1.out HB.out) | (with_reducible refine Kd.C_alloc ?_ _) | (with_reducible refine Kd.C_drewN ?_ _) | (with_reducible refine Kd.C_drew ?_))); (case side2 => exact HC1.out); rintro e w' ⟨rfl, ⟨nd, rfl⟩⟩))
    go_meet
    case rel => exact ⟨_, (true), (by first | rfl | (simp; done) | (simp [*]; done)), H', ⟨by first | omega | exact Nat.le_refl _⟩, ⟨by repeat (first | (with_reducible first | exact HB.out | apply below_alloc | apply pw_below_drewN | apply below_drew1) | exact HB.out)⟩⟩
  ·replace c5 := Bool.eq_false_iff.mpr c5
   subst c5
   have H1 : (beadrolllaw14_ZoneMakes.j0 k a0 l1 true) = some r := by rw [if_neg (show ¬ (false = true) by decide)] at H; exact H
   clear H
   have H := H1
   clear H1
   have H' := Aside0.mk H
   clear H
   go_wp2_with (first | ((with_reducible refine gate_callee (f := 15) rfl ?_); refine goesL_ (some 13) rfl rfl Tryz.func15 (by kernel_rfl) rfl #[] rfl (by (try simp only [List.map_toArray, List.map_cons, List.map_nil]); first | done | rfl | (simp only [List.length_drop, List.length_take]; rfl)) ?_; (with_reducible refine (beadrolllaw14_awake.calls k  false _ A4.out).mono ?_); rintro e w10 ⟨rfl, hb⟩; refine ⟨_, rfl, ?_⟩; have n0_ := Aside0.mk (below_step (by repeat (first | (with_reducible first | exact HB.out | apply below_alloc | apply pw_below_drewN | apply below_drew1) | exact HB.out)) hb); clear HB; have HB := n0_; clear n0_; (try clear hb); (try clear hb2); (try clear hk); (try clear hi)))
   go_meet
   case rel => exact ⟨_, (true), (by first | rfl | (simp; done) | (simp [*]; done)), H', ⟨by first | omega | exact Nat.le_refl _⟩, ⟨by repeat (first | (with_reducible first | exact HB.out | apply below_alloc | apply pw_below_drewN | apply below_drew1) | exact HB.out)⟩⟩
 case rest =>
  clear HC3
  try clear c1
  try clear p2
  try clear c3
  try clear c5
  try clear c7
  obtain ⟨kq, x24_2, rfl, HA, HJ2, HB⟩ := hcut
  cases kq with
  | zero => exact absurd HA.out (by simp [beadrolllaw14_ZoneMakes.j0])
  | succ kj2 =>
   have H := HA.out
   clear HA
   simp only [beadrolllaw14_ZoneMakes.j0] at H
   by_cases c11 : x24_2 = true
   ·subst c11
    have H1 : ((beadrolllaw14_awake.f kj2).bind fun t144 => (some t144)) = some r := by rw [if_pos rfl] at H; exact H
    clear H
    have H := H1
    clear H1
    replace H := Option.bind_eq_some_iff.mp H
    obtain ⟨t144, A120, H⟩ := H
    replace H : (some t144) = some r := H
    have A12 := Aside0.mk A120
    clear A120
    obtain rfl := Option.some.inj H
    go_wp2_with (first | ((with_reducible refine gate_callee (f := 15) rfl ?_); refine goesL_ (some 25) rfl rfl Tryz.func15 (by kernel_rfl) rfl #[] rfl (by (try simp only [List.map_toArray, List.map_cons, List.map_nil]); first | done | rfl | (simp only [List.length_drop, List.length_take]; rfl)) ?_; (with_reducible refine (beadrolllaw14_awake.calls kj2  t144 _ A12.out).mono ?_); rintro e w13 ⟨rfl, hb⟩; refine ⟨_, rfl, ?_⟩; have n0_ := Aside0.mk (below_step (by repeat (first | (with_reducible first | exact HB.out | apply below_alloc | apply pw_below_drewN | apply below_drew1) | exact HB.out)) hb); clear HB; have HB := n0_; clear n0_; (try clear hb); (try clear hb2); (try clear hk); (try clear hi)))
    go_ret
    exact ⟨by first | rfl | (simp [errW_none, errW_some] <;> rfl) | (simp [*, errW_none, errW_some] <;> rfl), by repeat (first | (with_reducible first | exact HB.out | apply below_alloc | apply pw_below_drewN | apply below_drew1) | exact HB.out)⟩
   ·replace c11 := Bool.eq_false_iff.mpr c11
    subst c11
    have H1 : ((zone_New.f kj2 a0 l1).bind fun bt145 => ((beadrollref14_New.f kj2 a0 l1).bind fun bt152 => (if bt145.2.2.2 = bt152.2.2 then (beadrolllaw14_ZoneMakes.j1 kj2 a0 bt145.2.2.2 bt152.2.2 (bt152.2.2 != 0) bt145.1 bt145.2.1 bt145.2.2.1 bt152.1 bt152.2.1) else (beadrolllaw14_ZoneMakes.j1 kj2 a0 bt145.2.2.2 bt152.2.2 true bt145.1 bt145.2.1 bt145.2.2.1 bt152.1 bt152.2.1)))) = some r := by rw [if_neg (show ¬ (false = true) by decide)] at H; exact H
    clear H
    have H := H1
    clear H1
    replace H := Option.bind_eq_some_iff.mp H
    obtain ⟨⟨t145, t146, t149, t150⟩, A140, H⟩ := H
    replace H : ((beadrollref14_New.f kj2 a0 l1).bind fun bt152 => (if t150 = bt152.2.2 then (beadrolllaw14_ZoneMakes.j1 kj2 a0 t150 bt152.2.2 (bt152.2.2 != 0) t145 t146 t149 bt152.1 bt152.2.1) else (beadrolllaw14_ZoneMakes.j1 kj2 a0 t150 bt152.2.2 true t145 t146 t149 bt152.1 bt152.2.1))) = some r := H
    have A14 := Aside0.mk A140
    clear A140
    replace H := Option.bind_eq_some_iff.mp H
    obtain ⟨⟨t152, t153, t156⟩, A150, H⟩ := H
    replace H : (if t150 = t156 then (beadrolllaw14_ZoneMakes.j1 kj2 a0 t150 t156 (t156 != 0) t145 t146 t149 t152 t153) else (beadrolllaw14_ZoneMakes.j1 kj2 a0 t150 t156 true t145 t146 t149 t152 t153)) = some r := H
    have A15 := Aside0.mk A150
    clear A150
    have HC16 := Aside0.mk H
    clear H
    go_upto_region 5 with (first | ((with_reducible refine gate_callee (f := 17) rfl ?_); refine goesL_ (some 29) rfl rfl Tryz.func17 (by kernel_rfl) rfl #[.string a0, .slice A1 l1.length c1] rfl (by (try simp only [List.map_toArray, List.map_cons, List.map_nil]); first | done | rfl | (simp only [List.length_drop, List.length_take]; rfl)) ?_; (with_reducible refine (zone_New.calls kj2 a0 _ _ l1 t145 t146 t149 t150 _ ?side1 ?side2 A14.out).mono ?_); (case side1 => repeat (first | exact (Kd.C_below HR1.out HB.out) | (with_reducible refine Kd.C_alloc ?_ _) | (with_reducible refine Kd.C_drewN ?_ _) | (with_reducible refine Kd.C_drew ?_))); (case side2 => exact HC1.out); rintro e w17 ⟨v147, rfl, ho0, hb⟩; refine ⟨_, rfl, ?_⟩; have n0_ := Aside0.mk (Kd.R_lower ho0 (below_size (by repeat (first | (with_reducible first | exact HB.out | apply below_alloc | apply pw_below_drewN | apply below_drew1) | exact HB.out)))); have n1_ := Aside0.mk (below_step (by repeat (first | (with_reducible first | exact HB.out | apply below_alloc | apply pw_below_drewN | apply below_drew1) | exact HB.out)) hb); clear HB; have HO148 := n0_; have HB := n1_; clear n0_ n1_; (try clear hb); (try clear hb2); (try clear hk); (try clear hi); (try clear ho0)) | ((with_reducible refine gate_dst (N := 5) rfl ?_); (try (refine gate_guard (by rfl) ?_; dsimp only)); refine box_event ?hg (N := 5) ?hd (cs := #[.string (⟨#[]⟩ : ByteArray), .slice none 0 0, .int .i64 0]) (t := 26) ?hr ?_; (case hd => rfl); (case hg => rfl); (case hr => first | (go_simp; done) | (go_simp; rfl)); intro gb151 hg w18 hbox hb; have n0_ := Aside0.mk (Kd.R_below (by (with_reducible repeat (first | apply Kd.R_alloc | apply Kd.R_drewN | apply Kd.R_drew)); exact HO148.out) hb); have n1_ := Aside0.mk (below_step (by repeat (first | (with_reducible first | exact HB.out | apply below_alloc | apply pw_below_drewN | apply below_drew1) | exact HB.out)) hb); have n2_ := Aside0.mk (hbox); have n3_ := Aside0.mk ((by rw [hg]; exact (below_size (by repeat (first | (with_reducible first | exact HB.out | apply below_alloc | apply pw_below_drewN | apply below_drew1) | exact HB.out))) : w.heap.size ≤ gb151)); have n4_ := Aside0.mk ((by rw [hg]; exact (below_size (by repeat (first | (with_reducible first | exact HB.out | apply below_alloc | apply pw_below_drewN | apply below_drew1) | exact HB.out))) : w.heap.size ≤ gb151)); clear HO148; clear HB; have HO148 := n0_; have HB := n1_; have BK151 := n2_; have GW151 := n3_; have GE151 := n4_; clear n0_ n1_ n2_ n3_ n4_; clear hb hbox hg; have hcz19_0 : w18.cell? ⟨gb151, 0, none⟩ = some (.string (⟨#[]⟩ : ByteArray)) := (blk_cell BK151.out 0).trans rfl; have hcz19_1 : w18.cell? ⟨gb151, 1, none⟩ = some (.slice none 0 0) := (blk_cell BK151.out 1).trans rfl; have hcz19_2 : w18.cell? ⟨gb151, 2, none⟩ = some (.int .i64 0) := (blk_cell BK151.out 2).trans rfl; have hfz19_0 := blk_frozen BK151.out 0; have hfz19_1 := blk_frozen BK151.out 1; have hfz19_2 := blk_frozen BK151.out 2; obtain ⟨Ao20, co20, eo20⟩ := Kd.R_slice HO148.out; subst eo20) | ((with_reducible refine gate_callee (f := 18) rfl ?_); refine goesL_ (some 35) rfl rfl Tryz.func18 (by kernel_rfl) rfl #[.string a0, .slice A1 l1.length c1] rfl (by (try simp only [List.map_toArray, List.map_cons, List.map_nil]); first | done | rfl | (simp only [List.length_drop, List.length_take]; rfl)) ?_; (with_reducible refine (beadrollref14_New.calls kj2 a0 _ _ l1 t152 t153 t156 _ ?side1 ?side2 A15.out).mono ?_); (case side1 => exact Kd.C_below HR1.out (by repeat (first | (with_reducible first | exact HB.out | apply below_alloc | apply pw_below_drewN | apply below_drew1 | refine below_set ?_ GE151.out) | exact HB.out))); (case side2 => exact HC1.out); rintro e w21 ⟨v154, rfl, ho0, hb⟩; refine ⟨_, rfl, ?_⟩; have n0_ := Aside0.mk (Kd.R_elder' (by (with_reducible repeat (first | apply Kd.R_alloc | apply Kd.R_drewN | apply Kd.R_drew)); exact (Kd.R_mono (Kd.R_far (p := ⟨gb151, 2, none⟩) (Kd.R_far (p := ⟨gb151, 1, none⟩) (Kd.R_far (p := ⟨gb151, 0, none⟩) (Kd.R_types HO148.out BK151.out (by decide)) (fun _ hk => hk.2) (.string t145)) (fun _ hk => hk.2) (.slice Ao20 t146.length co20)) (fun _ hk => hk.2) (.int .i64 t149)) (fun _ h_ => h_.1))) (Kd.R_base ho0) hb); have n1_ := Aside0.mk (Kd.R_lower (Kd.R_new' ho0 (Kd.R_lt (by (with_reducible repeat (first | apply Kd.R_alloc | apply Kd.R_drewN | apply Kd.R_drew)); exact (Kd.R_mono (Kd.R_far (p := ⟨gb151, 2, none⟩) (Kd.R_far (p := ⟨gb151, 1, none⟩) (Kd.R_far (p := ⟨gb151, 0, none⟩) (Kd.R_types HO148.out BK151.out (by decide)) (fun _ hk => hk.2) (.string t145)) (fun _ hk => hk.2) (.slice Ao20 t146.length co20)) (fun _ hk => hk.2) (.int .i64 t149)) (fun _ h_ => h_.1))))) (below_size (by repeat (first | (with_reducible first | exact HB.out | apply below_alloc | apply pw_below_drewN | apply below_drew1 | refine below_set ?_ GE151.out) | exact HB.out)))); have n2_ := Aside0.mk (blk_below (g := gb151) (o := .cells #[.string t145, .slice Ao20 t146.length co20, .int .i64 t149] 26 (0, 0)) (by (with_reducible repeat (first | refine blk_drewN ?_ _ | refine blk_drew ?_ | refine blk_alloc ?_ _)); refine blk_put (cs := #[.string t145, .slice Ao20 t146.length co20, .int .i64 0]) ?_ 2 _ rfl; (with_reducible repeat (first | refine blk_drewN ?_ _ | refine blk_drew ?_ | refine blk_alloc ?_ _)); refine blk_put (cs := #[.string t145, .slice none 0 0, .int .i64 0]) ?_ 1 _ rfl; (with_reducible repeat (first | refine blk_drewN ?_ _ | refine blk_drew ?_ | refine blk_alloc ?_ _)); refine blk_put (cs := #[.string (⟨#[]⟩ : ByteArray), .slice none 0 0, .int .i64 0]) ?_ 0 _ rfl; (with_reducible repeat (first | refine blk_drewN ?_ _ | refine blk_drew ?_ | refine blk_alloc ?_ _)); exact BK151.out) hb); have n3_ := Aside0.mk (below_step (by repeat (first | (with_reducible first | exact HB.out | apply below_alloc | apply pw_below_drewN | apply below_drew1 | refine below_set ?_ GE151.out) | exact HB.out)) hb); clear HO148; clear BK151; clear HB; have HO148 := n0_; have HO155 := n1_; have BK151 := n2_; have HB := n3_; clear n0_ n1_ n2_ n3_; (try clear hb); (try clear hb2); (try clear hk); (try clear hi); (try clear ho0)) | ((with_reducible refine gate_dst (N := 7) rfl ?_); (try (refine gate_guard (by rfl) ?_; dsimp only)); refine box_event ?hg (N := 7) ?hd (cs := #[.string (⟨#[]⟩ : ByteArray), .slice none 0 0]) (t := 31) ?hr ?_; (case hd => rfl); (case hg => rfl); (case hr => first | (go_simp; done) | (go_simp; rfl)); intro gb157 hg w22 hbox hb; have n0_ := Aside0.mk (Kd.R_below (by (with_reducible repeat (first | apply Kd.R_alloc | apply Kd.R_drewN | apply Kd.R_drew)); exact HO148.out) hb); have n1_ := Aside0.mk (Kd.R_below (by (with_reducible repeat (first | apply Kd.R_alloc | apply Kd.R_drewN | apply Kd.R_drew)); exact HO155.out) hb); have n2_ := Aside0.mk (blk_below (g := gb151) (o := .cells #[.string t145, .slice Ao20 t146.length co20, .int .i64 t149] 26 (0, 0)) (by (with_reducible repeat (first | refine blk_drewN ?_ _ | refine blk_drew ?_ | refine blk_alloc ?_ _)); exact BK151.out) hb); have n3_ := Aside0.mk (below_step (by repeat (first | (with_reducible first | exact HB.out | apply below_alloc | apply pw_below_drewN | apply below_drew1 | refine below_set ?_ GE151.out) | exact HB.out)) hb); have n4_ := Aside0.mk (hbox); have n5_ := Aside0.mk ((by rw [hg]; exact (below_size (by repeat (first | (with_reducible first | exact HB.out | apply below_alloc | apply pw_below_drewN | apply below_drew1 | refine below_set ?_ GE151.out) | exact HB.out))) : w.heap.size ≤ gb157)); have n6_ := Aside0.mk ((by rw [hg]; exact (below_size (by repeat (first | (with_reducible first | exact HB.out | apply below_alloc | apply pw_below_drewN | apply below_drew1 | refine below_set ?_ GE151.out) | exact HB.out))) : w.heap.size ≤ gb157)); have n7_ := Aside0.mk ((by rw [hg]; exact Nat.ne_of_lt (blk_lt (g := gb151) (o := .cells #[.string t145, .slice Ao20 t146.length co20, .int .i64 t149] 26 (0, 0)) (by (with_reducible repeat (first | refine blk_drewN ?_ _ | refine blk_drew ?_ | refine blk_alloc ?_ _)); exact BK151.out)) : gb151 ≠ gb157)); have n8_ := Aside0.mk ((by rw [hg]; exact Nat.ne_of_gt (blk_lt (g := gb151) (o := .cells #[.string t145, .slice Ao20 t146.length co20, .int .i64 t149] 26 (0, 0)) (by (with_reducible repeat (first | refine blk_drewN ?_ _ | refine blk_drew ?_ | refine blk_alloc ?_ _)); exact BK151.out)) : gb157 ≠ gb151)); clear HO148; clear HO155; clear BK151; clear HB; have HO148 := n0_; have HO155 := n1_; have BK151 := n2_; have HB := n3_; have BK157 := n4_; have GW157 := n5_; have GE157 := n6_; have NB151_157 := n7_; have NB157_151 := n8_; clear n0_ n1_ n2_ n3_ n4_ n5_ n6_ n7_ n8_; clear hb hbox hg; have hnb23 := NB157_151.out; have hnc23 := NB151_157.out; have hcz24_0 : w22.cell? ⟨gb157, 0, none⟩ = some (.string (⟨#[]⟩ : ByteArray)) := (blk_cell BK157.out 0).trans rfl; have hcz24_1 : w22.cell? ⟨gb157, 1, none⟩ = some (.slice none 0 0) := (blk_cell BK157.out 1).trans rfl; have hfz24_0 := blk_frozen BK157.out 0; have hfz24_1 := blk_frozen BK157.out 1; obtain ⟨Ao25, co25, eo25⟩ := Kd.R_slice HO155.out; subst eo25))
    (try simp only [Act.put, List.setIfInBounds_toArray, List.set_cons_zero, List.set_cons_succ])
    go_cut [44] (fun v44 wc => ∃ (kq : Nat) (x44_15 : Bool), v44 = .bool x44_15 ∧ Aside0 (beadrolllaw14_ZoneMakes.j1 kq a0 t150 t156 x44_15 t145 t146 t149 t152 t153 = some r) ∧ Aside0 (kq ≤ kj2) ∧ Aside0 (Kd.R k35 35 wc w.heap.size (fun k_ => some k_ ≠ ((.slice Ao25 t153.length co25) : Value).ownBlock) (.slice Ao20 t146.length co20) t146) ∧ Aside0 (Kd.R k35 35 wc w.heap.size (fun k_ => some k_ ≠ ((.slice Ao20 t146.length co20) : Value).ownBlock) (.slice Ao25 t153.length co25) t153) ∧ Aside0 (wc.heap[gb151]? = some (.cells #[.string t145, (.slice Ao20 t146.length co20), .int .i64 t149] 26 (0, 0))) ∧ Aside0 (wc.heap[gb157]? = some (.cells #[.string t152, (.slice Ao25 t153.length co25)] 31 (0, 0))) ∧ Aside0 (Below w.heap.size w wc))
    case first =>
     have H := HC16.out
     clear HC16
     by_cases c26 : t150 = t156
     ·rw [if_pos c26] at H
      have c26b0 : (t150 == t156) = true := beq_iff_eq.mpr c26
      have c26b1 : (t150 != t156) = false := bne_eq_false_iff_eq.mpr c26
      clear c26
      (first | rw [c26b0] | (simp only [i64_w, i32_w]; rw [c26b0]) | skip)
      have H' := Aside0.mk H
      clear H
      go_wp2
      go_meet
      case rel => exact ⟨_, ((t156 != 0)), (by first | rfl | (simp; done) | (simp [*]; done)), H', ⟨by have := HJ2.out; first | omega | exact Nat.le_refl _⟩, ⟨by (with_reducible repeat (first | apply Kd.R_alloc | apply Kd.R_drewN | apply Kd.R_drew)); exact Kd.R_mono (Kd.R_far (p := ⟨gb157, 1, none⟩) (Kd.R_far (p := ⟨gb157, 0, none⟩) (Kd.R_types HO148.out BK157.out (by decide)) (fun _ hk => hk.2) (.string t152)) (fun _ hk => hk.2) (.slice Ao25 t153.length co25)) (fun _ hk => hk.1.2)⟩, ⟨by (with_reducible repeat (first | apply Kd.R_alloc | apply Kd.R_drewN | apply Kd.R_drew)); exact Kd.R_mono (Kd.R_far (p := ⟨gb157, 1, none⟩) (Kd.R_far (p := ⟨gb157, 0, none⟩) (Kd.R_types HO155.out BK157.out (by decide)) (fun _ hk => hk.2) (.string t152)) (fun _ hk => hk.2) (.slice Ao25 t153.length co25)) (fun _ hk => hk.1.2)⟩, ⟨by (with_reducible repeat (first | refine blk_drewN ?_ _ | refine blk_drew ?_ | refine blk_alloc ?_ _)); refine blk_far ?_ NB151_157.out _; (with_reducible repeat (first | refine blk_drewN ?_ _ | refine blk_drew ?_ | refine blk_alloc ?_ _)); refine blk_far ?_ NB151_157.out _; (with_reducible repeat (first | refine blk_drewN ?_ _ | refine blk_drew ?_ | refine blk_alloc ?_ _)); exact BK151.out⟩, ⟨by (with_reducible repeat (first | refine blk_drewN ?_ _ | refine blk_drew ?_ | refine blk_alloc ?_ _)); refine blk_put (cs := #[.string t152, .slice none 0 0]) ?_ 1 _ rfl; (with_reducible repeat (first | refine blk_drewN ?_ _ | refine blk_drew ?_ | refine blk_alloc ?_ _)); refine blk_put (cs := #[.string (⟨#[]⟩ : ByteArray), .slice none 0 0]) ?_ 0 _ rfl; (with_reducible repeat (first | refine blk_drewN ?_ _ | refine blk_drew ?_ | refine blk_alloc ?_ _)); exact BK157.out⟩, ⟨by repeat (first | (with_reducible first | exact HB.out | apply below_alloc | apply pw_below_drewN | apply below_drew1 | refine below_set ?_ GE151.out | refine below_set ?_ GE157.out) | exact HB.out)⟩⟩
     ·rw [if_neg c26] at H
      have c26b0 : (t150 == t156) = false := beq_eq_false_iff_ne.mpr c26
      have c26b1 : (t150 != t156) = true := bne_iff_ne.mpr c26
      (first | rw [c26b0] | (simp only [i64_w, i32_w]; rw [c26b0]) | skip)
      have H' := Aside0.mk H
      clear H
      go_wp2
      go_meet
      case rel => exact ⟨_, (true), (by first | rfl | (simp; done) | (simp [*]; done)), H', ⟨by have := HJ2.out; first | omega | exact Nat.le_refl _⟩, ⟨by (with_reducible repeat (first | apply Kd.R_alloc | apply Kd.R_drewN | apply Kd.R_drew)); exact Kd.R_mono (Kd.R_far (p := ⟨gb157, 1, none⟩) (Kd.R_far (p := ⟨gb157, 0, none⟩) (Kd.R_types HO148.out BK157.out (by decide)) (fun _ hk => hk.2) (.string t152)) (fun _ hk => hk.2) (.slice Ao25 t153.length co25)) (fun _ hk => hk.1.2)⟩, ⟨by (with_reducible repeat (first | apply Kd.R_alloc | apply Kd.R_drewN | apply Kd.R_drew)); exact Kd.R_mono (Kd.R_far (p := ⟨gb157, 1, none⟩) (Kd.R_far (p := ⟨gb157, 0, none⟩) (Kd.R_types HO155.out BK157.out (by decide)) (fun _ hk => hk.2) (.string t152)) (fun _ hk => hk.2) (.slice Ao25 t153.length co25)) (fun _ hk => hk.1.2)⟩, ⟨by (with_reducible repeat (first | refine blk_drewN ?_ _ | refine blk_drew ?_ | refine blk_alloc ?_ _)); refine blk_far ?_ NB151_157.out _; (with_reducible repeat (first | refine blk_drewN ?_ _ | refine blk_drew ?_ | refine blk_alloc ?_ _)); refine blk_far ?_ NB151_157.out _; (with_reducible repeat (first | refine blk_drewN ?_ _ | refine blk_drew ?_ | refine blk_alloc ?_ _)); exact BK151.out⟩, ⟨by (with_reducible repeat (first | refine blk_drewN ?_ _ | refine blk_drew ?_ | refine blk_alloc ?_ _)); refine blk_put (cs := #[.string t152, .slice none 0 0]) ?_ 1 _ rfl; (with_reducible repeat (first | refine blk_drewN ?_ _ | refine blk_drew ?_ | refine blk_alloc ?_ _)); refine blk_put (cs := #[.string (⟨#[]⟩ : ByteArray), .slice none 0 0]) ?_ 0 _ rfl; (with_reducible repeat (first | refine blk_drewN ?_ _ | refine blk_drew ?_ | refine blk_alloc ?_ _)); exact BK157.out⟩, ⟨by repeat (first | (with_reducible first | exact HB.out | apply below_alloc | apply pw_below_drewN | apply below_drew1 | refine below_set ?_ GE151.out | refine below_set ?_ GE157.out) | exact HB.out)⟩⟩
    case rest =>
     clear HC16
     try clear c1
     try clear c2
     try clear p2
     try clear c3
     try clear c5
     try clear c7
     try clear c11
     try clear c15
     try clear c17
     try clear c18
     try clear c23
     try clear c26
     try clear c26b0
     try clear c26b1
     try clear hcz19_0
     try clear hcz19_1
     try clear hcz19_2
     try clear hcz24_0
     try clear hcz24_1
     try clear hfz19_0
     try clear hfz19_1
     try clear hfz19_2
     try clear hfz24_0
     try clear hfz24_1
     try clear p2
     obtain ⟨kq, x44_15, rfl, HA, HJ15, HO_152001, HO_158001, BK151, BK157, HB⟩ := hcut
     cases kq with
     | zero => exact absurd HA.out (by simp [beadrolllaw14_ZoneMakes.j1])
     | succ kj15 =>
      have H := HA.out
      clear HA
      simp only [beadrolllaw14_ZoneMakes.j1] at H
      by_cases c27 : x44_15 = true
      ·subst c27
       have H1 : (some (t150 == t156)) = some r := by rw [if_pos rfl] at H; exact H
       clear H
       have H := H1
       clear H1
       obtain rfl := Option.some.inj H
       go_wp2
       go_ret
       exact ⟨by first | rfl | (simp [errW_none, errW_some] <;> rfl) | (simp [*, errW_none, errW_some] <;> rfl), by repeat (first | (with_reducible first | exact HB.out | apply below_alloc | apply pw_below_drewN | apply below_drew1 | refine below_set ?_ GE151.out | refine below_set ?_ GE157.out) | exact HB.out)⟩
      ·replace c27 := Bool.eq_false_iff.mpr c27
       subst c27
       have H1 : ((zone_Zone_Soa.f t145 t146 t149).bind fun bt158 => ((beadrollref14_Zone_Soa.f kj15 t152 t153).bind fun bt172 => ((zone_Zone_Apex.f t145 t146 t149).bind fun t186 => (if t186.toList = a0.toList then ((zone_Zone_All.f t145 t146 t149).bind fun t187 => ((beadrollref11_Same.f kj15 t187 t153).bind fun t190 => (if t190 = true then ((zone_Zone_Names.f t145 t146 t149).bind fun t191 => ((beadrollref14_Zone_Names.f kj15 t152 t153).bind fun t194 => ((beadrollref01_Texts.f kj15 t191 t194).bind fun t197 => (if t197 = true then (if (bt158.1.toList == bt172.1.toList && (bt158.2.1 == bt172.2.1 && (bt158.2.2.1 == bt172.2.2.1 && (bt158.2.2.2.1 == bt172.2.2.2.1 && (bt158.2.2.2.2.1.toList == bt172.2.2.2.2.1.toList))))) = true then (some (bt158.2.2.2.2.2.1.toList == bt172.2.2.2.2.2.1.toList && (bt158.2.2.2.2.2.2.1.toList == bt172.2.2.2.2.2.2.1.toList && (bt158.2.2.2.2.2.2.2.1 == bt172.2.2.2.2.2.2.2.1 && (bt158.2.2.2.2.2.2.2.2.1 == bt172.2.2.2.2.2.2.2.2.1 && (bt158.2.2.2.2.2.2.2.2.2.1 == bt172.2.2.2.2.2.2.2.2.2.1 && (bt158.2.2.2.2.2.2.2.2.2.2.1 == bt172.2.2.2.2.2.2.2.2.2.2.1 && (bt158.2.2.2.2.2.2.2.2.2.2.2 == bt172.2.2.2.2.2.2.2.2.2.2.2)))))))) else (none)) else (none))))) else (none)))) else (none))))) = some r := by rw [if_neg (show ¬ (false = true) by decide)] at H; exact H
       clear H
       have H := H1
       clear H1
       replace H := Option.bind_eq_some_iff.mp H
       obtain ⟨⟨t158, t159, t160, t161, t162, t163, t164, t165, t166, t167, t168, t169⟩, A280, H⟩ := H
       replace H : ((beadrollref14_Zone_Soa.f kj15 t152 t153).bind fun bt172 => ((zone_Zone_Apex.f t145 t146 t149).bind fun t186 => (if t186.toList = a0.toList then ((zone_Zone_All.f t145 t146 t149).bind fun t187 => ((beadrollref11_Same.f kj15 t187 t153).bind fun t190 => (if t190 = true then ((zone_Zone_Names.f t145 t146 t149).bind fun t191 => ((beadrollref14_Zone_Names.f kj15 t152 t153).bind fun t194 => ((beadrollref01_Texts.f kj15 t191 t194).bind fun t197 => (if t197 = true then (if (t158.toList == bt172.1.toList && (t159 == bt172.2.1 && (t160 == bt172.2.2.1 && (t161 == bt172.2.2.2.1 && (t162.toList == bt172.2.2.2.2.1.toList))))) = true then (some (t163.toList == bt172.2.2.2.2.2.1.toList && (t164.toList == bt172.2.2.2.2.2.2.1.toList && (t165 == bt172.2.2.2.2.2.2.2.1 && (t166 == bt172.2.2.2.2.2.2.2.2.1 && (t167 == bt172.2.2.2.2.2.2.2.2.2.1 && (t168 == bt172.2.2.2.2.2.2.2.2.2.2.1 && (t169 == bt172.2.2.2.2.2.2.2.2.2.2.2)))))))) else (none)) else (none))))) else (none)))) else (none)))) = some r := H
       have A28 := Aside0.mk A280
       clear A280
       replace H := Option.bind_eq_some_iff.mp H
       obtain ⟨⟨t172, t173, t174, t175, t176, t177, t178, t179, t180, t181, t182, t183⟩, A290, H⟩ := H
       replace H : ((zone_Zone_Apex.f t145 t146 t149).bind fun t186 => (if t186.toList = a0.toList then ((zone_Zone_All.f t145 t146 t149).bind fun t187 => ((beadrollref11_Same.f kj15 t187 t153).bind fun t190 => (if t190 = true then ((zone_Zone_Names.f t145 t146 t149).bind fun t191 => ((beadrollref14_Zone_Names.f kj15 t152 t153).bind fun t194 => ((beadrollref01_Texts.f kj15 t191 t194).bind fun t197 => (if t197 = true then (if (t158.toList == t172.toList && (t159 == t173 && (t160 == t174 && (t161 == t175 && (t162.toList == t176.toList))))) = true then (some (t163.toList == t177.toList && (t164.toList == t178.toList && (t165 == t179 && (t166 == t180 && (t167 == t181 && (t168 == t182 && (t169 == t183)))))))) else (none)) else (none))))) else (none)))) else (none))) = some r := H
       have A29 := Aside0.mk A290
       clear A290
       replace H := Option.bind_eq_some_iff.mp H
       obtain ⟨t186, A300, H⟩ := H
       replace H : (if t186.toList = a0.toList then ((zone_Zone_All.f t145 t146 t149).bind fun t187 => ((beadrollref11_Same.f kj15 t187 t153).bind fun t190 => (if t190 = true then ((zone_Zone_Names.f t145 t146 t149).bind fun t191 => ((beadrollref14_Zone_Names.f kj15 t152 t153).bind fun t194 => ((beadrollref01_Texts.f kj15 t191 t194).bind fun t197 => (if t197 = true then (if (t158.toList == t172.toList && (t159 == t173 && (t160 == t174 && (t161 == t175 && (t162.toList == t176.toList))))) = true then (some (t163.toList == t177.toList && (t164.toList == t178.toList && (t165 == t179 && (t166 == t180 && (t167 == t181 && (t168 == t182 && (t169 == t183)))))))) else (none)) else (none))))) else (none)))) else (none)) = some r := H
       have A30 := Aside0.mk A300
       clear A300
       by_cases c31 : t186.toList = a0.toList
       ·rw [if_pos c31] at H
        have c31b0 : (t186.toList == a0.toList) = true := beq_iff_eq.mpr c31
        have c31b1 : (t186.toList != a0.toList) = false := bne_eq_false_iff_eq.mpr c31
        clear c31
        replace H := Option.bind_eq_some_iff.mp H
        obtain ⟨t187, A320, H⟩ := H
        replace H : ((beadrollref11_Same.f kj15 t187 t153).bind fun t190 => (if t190 = true then ((zone_Zone_Names.f t145 t146 t149).bind fun t191 => ((beadrollref14_Zone_Names.f kj15 t152 t153).bind fun t194 => ((beadrollref01_Texts.f kj15 t191 t194).bind fun t197 => (if t197 = true then (if (t158.toList == t172.toList && (t159 == t173 && (t160 == t174 && (t161 == t175 && (t162.toList == t176.toList))))) = true then (some (t163.toList == t177.toList && (t164.toList == t178.toList && (t165 == t179 && (t166 == t180 && (t167 == t181 && (t168 == t182 && (t169 == t183)))))))) else (none)) else (none))))) else (none))) = some r := H
        have A32 := Aside0.mk A320
        clear A320
        replace H := Option.bind_eq_some_iff.mp H
        obtain ⟨t190, A330, H⟩ := H
        replace H : (if t190 = true then ((zone_Zone_Names.f t145 t146 t149).bind fun t191 => ((beadrollref14_Zone_Names.f kj15 t152 t153).bind fun t194 => ((beadrollref01_Texts.f kj15 t191 t194).bind fun t197 => (if t197 = true then (if (t158.toList == t172.toList && (t159 == t173 && (t160 == t174 && (t161 == t175 && (t162.toList == t176.toList))))) = true then (some (t163.toList == t177.toList && (t164.toList == t178.toList && (t165 == t179 && (t166 == t180 && (t167 == t181 && (t168 == t182 && (t169 == t183)))))))) else (none)) else (none))))) else (none)) = some r := H
        have A33 := Aside0.mk A330
        clear A330
        by_cases c34 : t190 = true
        ·subst c34
         have H1 : ((zone_Zone_Names.f t145 t146 t149).bind fun t191 => ((beadrollref14_Zone_Names.f kj15 t152 t153).bind fun t194 => ((beadrollref01_Texts.f kj15 t191 t194).bind fun t197 => (if t197 = true then (if (t158.toList == t172.toList && (t159 == t173 && (t160 == t174 && (t161 == t175 && (t162.toList == t176.toList))))) = true then (some (t163.toList == t177.toList && (t164.toList == t178.toList && (t165 == t179 && (t166 == t180 && (t167 == t181 && (t168 == t182 && (t169 == t183)))))))) else (none)) else (none))))) = some r := by rw [if_pos rfl] at H; exact H
         clear H
         have H := H1
         clear H1
         replace H := Option.bind_eq_some_iff.mp H
         obtain ⟨t191, A350, H⟩ := H
         replace H : ((beadrollref14_Zone_Names.f kj15 t152 t153).bind fun t194 => ((beadrollref01_Texts.f kj15 t191 t194).bind fun t197 => (if t197 = true then (if (t158.toList == t172.toList && (t159 == t173 && (t160 == t174 && (t161 == t175 && (t162.toList == t176.toList))))) = true then (some (t163.toList == t177.toList && (t164.toList == t178.toList && (t165 == t179 && (t166 == t180 && (t167 == t181 && (t168 == t182 && (t169 == t183)))))))) else (none)) else (none)))) = some r := H
         have A35 := Aside0.mk A350
         clear A350
         replace H := Option.bind_eq_some_iff.mp H
         obtain ⟨t194, A360, H⟩ := H
         replace H : ((beadrollref01_Texts.f kj15 t191 t194).bind fun t197 => (if t197 = true then (if (t158.toList == t172.toList && (t159 == t173 && (t160 == t174 && (t161 == t175 && (t162.toList == t176.toList))))) = true then (some (t163.toList == t177.toList && (t164.toList == t178.toList && (t165 == t179 && (t166 == t180 && (t167 == t181 && (t168 == t182 && (t169 == t183)))))))) else (none)) else (none))) = some r := H
         have A36 := Aside0.mk A360
         clear A360
         replace H := Option.bind_eq_some_iff.mp H
         obtain ⟨t197, A370, H⟩ := H
         replace H : (if t197 = true then (if (t158.toList == t172.toList && (t159 == t173 && (t160 == t174 && (t161 == t175 && (t162.toList == t176.toList))))) = true then (some (t163.toList == t177.toList && (t164.toList == t178.toList && (t165 == t179 && (t166 == t180 && (t167 == t181 && (t168 == t182 && (t169 == t183)))))))) else (none)) else (none)) = some r := H
         have A37 := Aside0.mk A370
         clear A370
         by_cases c38 : t197 = true
         ·subst c38
          have H1 : (if (t158.toList == t172.toList && (t159 == t173 && (t160 == t174 && (t161 == t175 && (t162.toList == t176.toList))))) = true then (some (t163.toList == t177.toList && (t164.toList == t178.toList && (t165 == t179 && (t166 == t180 && (t167 == t181 && (t168 == t182 && (t169 == t183)))))))) else (none)) = some r := by rw [if_pos rfl] at H; exact H
          clear H
          have H := H1
          clear H1
          by_cases c39 : (t158.toList == t172.toList && (t159 == t173 && (t160 == t174 && (t161 == t175 && (t162.toList == t176.toList))))) = true
          ·rw [if_pos c39] at H
           have c39b0 : (t158.toList == t172.toList && (t159 == t173 && (t160 == t174 && (t161 == t175 && (t162.toList == t176.toList))))) = true := c39
           (try (have c39b1 : decide (t158.toList = t172.toList && (t159 == t173 && (t160 == t174 && (t161 == t175 && (t162.toList == t176.toList))))) = true := by simpa using c39))
           (try (have c39b2 : (t158.toList == t172.toList && (t159 == t173 && (t160 == t174 && (t161 == t175 && (t162.toList == t176.toList))))) = true := by simpa using c39))
           clear c39
           obtain rfl := Option.some.inj H
           have hnb40 := NB151_157.out
           have hnc40 := NB157_151.out
           have hcz41_0 : wc.cell? ⟨gb151, 0, none⟩ = some (.string t145) := (blk_cell BK151.out 0).trans rfl
           have hcz41_1 : wc.cell? ⟨gb151, 1, none⟩ = some (.slice Ao20 t146.length co20) := (blk_cell BK151.out 1).trans rfl
           have hcz41_2 : wc.cell? ⟨gb151, 2, none⟩ = some (.int .i64 t149) := (blk_cell BK151.out 2).trans rfl
           have hfz41_0 := blk_frozen BK151.out 0
           have hfz41_1 := blk_frozen BK151.out 1
           have hfz41_2 := blk_frozen BK151.out 2
           try go_wp2_with (first | ((with_reducible refine gate_callee (f := 19) rfl ?_); refine goesL_ (some 50) rfl rfl Tryz.func19 (by kernel_rfl) rfl #[.agg #[.string t145, .slice Ao20 t146.length co20, .int .i64 t149]] rfl (by (try simp only [List.map_toArray, List.map_cons, List.map_nil]); first | done | rfl | (simp only [List.length_drop, List.length_take]; rfl)) ?_; (with_reducible refine (zone_Zone_Soa.calls t145 _ _ t146 t149 t158 t159 t160 t161 t162 t163 t164 t165 t166 t167 t168 t169 _ ?side1 ?side2 A28.out).mono ?_); (case side1 => repeat (first | exact (Kd.R_reads' HO_152001.out).2.2 | (with_reducible refine Kd.C_alloc ?_ _) | (with_reducible refine Kd.C_drewN ?_ _) | (with_reducible refine Kd.C_drew ?_))); (case side2 => exact (Kd.R_reads' HO_152001.out).2.1); rintro e w42 ⟨rfl, hb⟩; refine ⟨_, rfl, ?_⟩; have n0_ := Aside0.mk (Kd.R_below (by (with_reducible repeat (first | apply Kd.R_alloc | apply Kd.R_drewN | apply Kd.R_drew)); exact HO_152001.out) hb); have n1_ := Aside0.mk (Kd.R_below (by (with_reducible repeat (first | apply Kd.R_alloc | apply Kd.R_drewN | apply Kd.R_drew)); exact HO_158001.out) hb); have n2_ := Aside0.mk (blk_below (g := gb151) (o := .cells #[.string t145, .slice Ao20 t146.length co20, .int .i64 t149] 26 (0, 0)) (by (with_reducible repeat (first | refine blk_drewN ?_ _ | refine blk_drew ?_ | refine blk_alloc ?_ _)); exact BK151.out) hb); have n3_ := Aside0.mk (blk_below (g := gb157) (o := .cells #[.string t152, .slice Ao25 t153.length co25] 31 (0, 0)) (by (with_reducible repeat (first | refine blk_drewN ?_ _ | refine blk_drew ?_ | refine blk_alloc ?_ _)); exact BK157.out) hb); have n4_ := Aside0.mk (below_step (by repeat (first | (with_reducible first | exact HB.out | apply below_alloc | apply pw_below_drewN | apply below_drew1 | refine below_set ?_ GE151.out | refine below_set ?_ GE157.out) | exact HB.out)) hb); clear HO_152001; clear HO_158001; clear BK151; clear BK157; clear HB; have HO_152001 := n0_; have HO_158001 := n1_; have BK151 := n2_; have BK157 := n3_; have HB := n4_; clear n0_ n1_ n2_ n3_ n4_; (try clear hb); (try clear hb2); (try clear hk); (try clear hi)) | ((with_reducible refine gate_dst (N := 9) rfl ?_); (try (refine gate_guard (by rfl) ?_; dsimp only)); refine box_event ?hg (N := 9) ?hd (cs := #[.string (⟨#[]⟩ : ByteArray), .int .i64 0, .int .i64 0, .int .i64 0, .string (⟨#[]⟩ : ByteArray)]) (t := 35) ?hr ?_; (case hd => rfl); (case hg => rfl); (case hr => first | (go_simp; done) | (go_simp; rfl)); intro gb170 hg w43 hbox hb; have n0_ := Aside0.mk (Kd.R_below (Kd.R_elderB (by (with_reducible repeat (first | apply Kd.R_alloc | apply Kd.R_drewN | apply Kd.R_drew)); exact HO_152001.out) gb170 (Nat.le_of_eq hg.symm)) hb); have n1_ := Aside0.mk (Kd.R_below (Kd.R_elderB (by (with_reducible repeat (first | apply Kd.R_alloc | apply Kd.R_drewN | apply Kd.R_drew)); exact HO_158001.out) gb170 (Nat.le_of_eq hg.symm)) hb); have n2_ := Aside0.mk (blk_below (g := gb151) (o := .cells #[.string t145, .slice Ao20 t146.length co20, .int .i64 t149] 26 (0, 0)) (by (with_reducible repeat (first | refine blk_drewN ?_ _ | refine blk_drew ?_ | refine blk_alloc ?_ _)); exact BK151.out) hb); have n3_ := Aside0.mk (blk_below (g := gb157) (o := .cells #[.string t152, .slice Ao25 t153.length co25] 31 (0, 0)) (by (with_reducible repeat (first | refine blk_drewN ?_ _ | refine blk_drew ?_ | refine blk_alloc ?_ _)); exact BK157.out) hb); have n4_ := Aside0.mk (below_step (by repeat (first | (with_reducible first | exact HB.out | apply below_alloc | apply pw_below_drewN | apply below_drew1 | refine below_set ?_ GE151.out | refine below_set ?_ GE157.out) | exact HB.out)) hb); have n5_ := Aside0.mk (hbox); have n6_ := Aside0.mk ((by rw [hg]; exact (below_size (by repeat (first | (with_reducible first | exact HB.out | apply below_alloc | apply pw_below_drewN | apply below_drew1 | refine below_set ?_ GE151.out | refine below_set ?_ GE157.out) | exact HB.out))) : w.heap.size ≤ gb170)); have n7_ := Aside0.mk ((by rw [hg]; exact (below_size (by repeat (first | (with_reducible first | exact HB.out | apply below_alloc | apply pw_below_drewN | apply below_drew1 | refine below_set ?_ GE151.out | refine below_set ?_ GE157.out) | exact HB.out))) : w.heap.size ≤ gb170)); have n8_ := Aside0.mk ((by rw [hg]; exact Nat.ne_of_lt (blk_lt (g := gb151) (o := .cells #[.string t145, .slice Ao20 t146.length co20, .int .i64 t149] 26 (0, 0)) (by (with_reducible repeat (first | refine blk_drewN ?_ _ | refine blk_drew ?_ | refine blk_alloc ?_ _)); exact BK151.out)) : gb151 ≠ gb170)); have n9_ := Aside0.mk ((by rw [hg]; exact Nat.ne_of_gt (blk_lt (g := gb151) (o := .cells #[.string t145, .slice Ao20 t146.length co20, .int .i64 t149] 26 (0, 0)) (by (with_reducible repeat (first | refine blk_drewN ?_ _ | refine blk_drew ?_ | refine blk_alloc ?_ _)); exact BK151.out)) : gb170 ≠ gb151)); have n10_ := Aside0.mk ((by rw [hg]; exact Nat.ne_of_lt (blk_lt (g := gb157) (o := .cells #[.string t152, .slice Ao25 t153.length co25] 31 (0, 0)) (by (with_reducible repeat (first | refine blk_drewN ?_ _ | refine blk_drew ?_ | refine blk_alloc ?_ _)); exact BK157.out)) : gb157 ≠ gb170)); have n11_ := Aside0.mk ((by rw [hg]; exact Nat.ne_of_gt (blk_lt (g := gb157) (o := .cells #[.string t152, .slice Ao25 t153.length co25] 31 (0, 0)) (by (with_reducible repeat (first | refine blk_drewN ?_ _ | refine blk_drew ?_ | refine blk_alloc ?_ _)); exact BK157.out)) : gb170 ≠ gb157)); clear HO_152001; clear HO_158001; clear BK151; clear BK157; clear HB; have HO_152001 := n0_; have HO_158001 := n1_; have BK151 := n2_; have BK157 := n3_; have HB := n4_; have BK170 := n5_; have GW170 := n6_; have GE170 := n7_; have NB151_170 := n8_; have NB170_151 := n9_; have NB157_170 := n10_; have NB170_157 := n11_; clear n0_ n1_ n2_ n3_ n4_ n5_ n6_ n7_ n8_ n9_ n10_ n11_; clear hb hbox hg) | ((with_reducible refine gate_dst (N := 10) rfl ?_); (try (refine gate_guard (by rfl) ?_; dsimp only)); refine box_event ?hg (N := 10) ?hd (cs := #[.string (⟨#[]⟩ : ByteArray), .string (⟨#[]⟩ : ByteArray), .int .u32 0, .int .u32 0, .int .u32 0, .int .u32 0, .int .u32 0]) (t := 38) ?hr ?_; (case hd => rfl); (case hg => rfl); (case hr => first | (go_simp; done) | (go_simp; rfl)); intro gb171 hg w44 hbox hb; have n0_ := Aside0.mk (Kd.R_below (by (with_reducible repeat (first | apply Kd.R_alloc | apply Kd.R_drewN | apply Kd.R_drew)); exact HO_152001.out) hb); have n1_ := Aside0.mk (Kd.R_below (by (with_reducible repeat (first | apply Kd.R_alloc | apply Kd.R_drewN | apply Kd.R_drew)); exact HO_158001.out) hb); have n2_ := Aside0.mk (blk_below (g := gb151) (o := .cells #[.string t145, .slice Ao20 t146.length co20, .int .i64 t149] 26 (0, 0)) (by (with_reducible repeat (first | refine blk_drewN ?_ _ | refine blk_drew ?_ | refine blk_alloc ?_ _)); exact BK151.out) hb); have n3_ := Aside0.mk (blk_below (g := gb157) (o := .cells #[.string t152, .slice Ao25 t153.length co25] 31 (0, 0)) (by (with_reducible repeat (first | refine blk_drewN ?_ _ | refine blk_drew ?_ | refine blk_alloc ?_ _)); exact BK157.out) hb); have n4_ := Aside0.mk (blk_below (g := gb170) (o := .cells #[.string (⟨#[]⟩ : ByteArray), .int .i64 0, .int .i64 0, .int .i64 0, .string (⟨#[]⟩ : ByteArray)] 35 (0, 0)) (by (with_reducible repeat (first | refine blk_drewN ?_ _ | refine blk_drew ?_ | refine blk_alloc ?_ _)); exact BK170.out) hb); have n5_ := Aside0.mk (below_step (by repeat (first | (with_reducible first | exact HB.out | apply below_alloc | apply pw_below_drewN | apply below_drew1 | refine below_set ?_ GE151.out | refine below_set ?_ GE157.out | refine below_set ?_ GE170.out) | exact HB.out)) hb); have n6_ := Aside0.mk (hbox); have n7_ := Aside0.mk ((by rw [hg]; exact (below_size (by repeat (first | (with_reducible first | exact HB.out | apply below_alloc | apply pw_below_drewN | apply below_drew1 | refine below_set ?_ GE151.out | refine below_set ?_ GE157.out | refine below_set ?_ GE170.out) | exact HB.out))) : w.heap.size ≤ gb171)); have n8_ := Aside0.mk ((by rw [hg]; exact (below_size (by repeat (first | (with_reducible first | exact HB.out | apply below_alloc | apply pw_below_drewN | apply below_drew1 | refine below_set ?_ GE151.out | refine below_set ?_ GE157.out | refine below_set ?_ GE170.out) | exact HB.out))) : w.heap.size ≤ gb171)); have n9_ := Aside0.mk ((by rw [hg]; exact Nat.ne_of_lt (blk_lt (g := gb151) (o := .cells #[.string t145, .slice Ao20 t146.length co20, .int .i64 t149] 26 (0, 0)) (by (with_reducible repeat (first | refine blk_drewN ?_ _ | refine blk_drew ?_ | refine blk_alloc ?_ _)); exact BK151.out)) : gb151 ≠ gb171)); have n10_ := Aside0.mk ((by rw [hg]; exact Nat.ne_of_gt (blk_lt (g := gb151) (o := .cells #[.string t145, .slice Ao20 t146.length co20, .int .i64 t149] 26 (0, 0)) (by (with_reducible repeat (first | refine blk_drewN ?_ _ | refine blk_drew ?_ | refine blk_alloc ?_ _)); exact BK151.out)) : gb171 ≠ gb151)); have n11_ := Aside0.mk ((by rw [hg]; exact Nat.ne_of_lt (blk_lt (g := gb157) (o := .cells #[.string t152, .slice Ao25 t153.length co25] 31 (0, 0)) (by (with_reducible repeat (first | refine blk_drewN ?_ _ | refine blk_drew ?_ | refine blk_alloc ?_ _)); exact BK157.out)) : gb157 ≠ gb171)); have n12_ := Aside0.mk ((by rw [hg]; exact Nat.ne_of_gt (blk_lt (g := gb157) (o := .cells #[.string t152, .slice Ao25 t153.length co25] 31 (0, 0)) (by (with_reducible repeat (first | refine blk_drewN ?_ _ | refine blk_drew ?_ | refine blk_alloc ?_ _)); exact BK157.out)) : gb171 ≠ gb157)); have n13_ := Aside0.mk ((by rw [hg]; exact Nat.ne_of_lt (blk_lt (g := gb170) (o := .cells #[.string (⟨#[]⟩ : ByteArray), .int .i64 0, .int .i64 0, .int .i64 0, .string (⟨#[]⟩ : ByteArray)] 35 (0, 0)) (by (with_reducible repeat (first | refine blk_drewN ?_ _ | refine blk_drew ?_ | refine blk_alloc ?_ _)); exact BK170.out)) : gb170 ≠ gb171)); have n14_ := Aside0.mk ((by rw [hg]; exact Nat.ne_of_gt (blk_lt (g := gb170) (o := .cells #[.string (⟨#[]⟩ : ByteArray), .int .i64 0, .int .i64 0, .int .i64 0, .string (⟨#[]⟩ : ByteArray)] 35 (0, 0)) (by (with_reducible repeat (first | refine blk_drewN ?_ _ | refine blk_drew ?_ | refine blk_alloc ?_ _)); exact BK170.out)) : gb171 ≠ gb170)); clear HO_152001; clear HO_158001; clear BK151; clear BK157; clear BK170; clear HB; have HO_152001 := n0_; have HO_158001 := n1_; have BK151 := n2_; have BK157 := n3_; have BK170 := n4_; have HB := n5_; have BK171 := n6_; have GW171 := n7_; have GE171 := n8_; have NB151_171 := n9_; have NB171_151 := n10_; have NB157_171 := n11_; have NB171_157 := n12_; have NB170_171 := n13_; have NB171_170 := n14_; clear n0_ n1_ n2_ n3_ n4_ n5_ n6_ n7_ n8_ n9_ n10_ n11_ n12_ n13_ n14_; clear hb hbox hg; have hnb45 := NB170_151.out; have hnc45 := NB151_170.out; have hnb46 := NB170_157.out; have hnc46 := NB157_170.out; have hnb47 := NB170_171.out; have hnc47 := NB171_170.out; have hcz48_0 : w44.cell? ⟨gb170, 0, none⟩ = some (.string (⟨#[]⟩ : ByteArray)) := (blk_cell BK170.out 0).trans rfl; have hcz48_1 : w44.cell? ⟨gb170, 1, none⟩ = some (.int .i64 0) := (blk_cell BK170.out 1).trans rfl; have hcz48_2 : w44.cell? ⟨gb170, 2, none⟩ = some (.int .i64 0) := (blk_cell BK170.out 2).trans rfl; have hcz48_3 : w44.cell? ⟨gb170, 3, none⟩ = some (.int .i64 0) := (blk_cell BK170.out 3).trans rfl; have hcz48_4 : w44.cell? ⟨gb170, 4, none⟩ = some (.string (⟨#[]⟩ : ByteArray)) := (blk_cell BK170.out 4).trans rfl; have hfz48_0 := blk_frozen BK170.out 0; have hfz48_1 := blk_frozen BK170.out 1; have hfz48_2 := blk_frozen BK170.out 2; have hfz48_3 := blk_frozen BK170.out 3; have hfz48_4 := blk_frozen BK170.out 4; have hnb49 := NB171_151.out; have hnc49 := NB151_171.out; have hnb50 := NB171_157.out; have hnc50 := NB157_171.out; have hcz51_0 : w44.cell? ⟨gb171, 0, none⟩ = some (.string (⟨#[]⟩ : ByteArray)) := (blk_cell BK171.out 0).trans rfl; have hcz51_1 : w44.cell? ⟨gb171, 1, none⟩ = some (.string (⟨#[]⟩ : ByteArray)) := (blk_cell BK171.out 1).trans rfl; have hcz51_2 : w44.cell? ⟨gb171, 2, none⟩ = some (.int .u32 0) := (blk_cell BK171.out 2).trans rfl; have hcz51_3 : w44.cell? ⟨gb171, 3, none⟩ = some (.int .u32 0) := (blk_cell BK171.out 3).trans rfl; have hcz51_4 : w44.cell? ⟨gb171, 4, none⟩ = some (.int .u32 0) := (blk_cell BK171.out 4).trans rfl; have hcz51_5 : w44.cell? ⟨gb171, 5, none⟩ = some (.int .u32 0) := (blk_cell BK171.out 5).trans rfl; have hcz51_6 : w44.cell? ⟨gb171, 6, none⟩ = some (.int .u32 0) := (blk_cell BK171.out 6).trans rfl; have hfz51_0 := blk_frozen BK171.out 0; have hfz51_1 := blk_frozen BK171.out 1; have hfz51_2 := blk_frozen BK171.out 2; have hfz51_3 := blk_frozen BK171.out 3; have hfz51_4 := blk_frozen BK171.out 4; have hfz51_5 := blk_frozen BK171.out 5; have hfz51_6 := blk_frozen BK171.out 6; have hcz52_0 : w44.cell? ⟨gb157, 0, none⟩ = some (.string t152) := (blk_cell BK157.out 0).trans rfl; have hcz52_1 : w44.cell? ⟨gb157, 1, none⟩ = some (.slice Ao25 t153.length co25) := (blk_cell BK157.out 1).trans rfl; have hfz52_0 := blk_frozen BK157.out 0; have hfz52_1 := blk_frozen BK157.out 1) | ((with_reducible refine gate_callee (f := 20) rfl ?_); refine goesL_ (some 55) rfl rfl Tryz.func20 (by kernel_rfl) rfl #[.agg #[.string t152, .slice Ao25 t153.length co25]] rfl (by (try simp only [List.map_toArray, List.map_cons, List.map_nil]); first | done | rfl | (simp only [List.length_drop, List.length_take]; rfl)) ?_; (with_reducible refine (beadrollref14_Zone_Soa.calls kj15 t152 _ _ t153 t172 t173 t174 t175 t176 t177 t178 t179 t180 t181 t182 t183 _ ?side1 ?side2 A29.out).mono ?_); (case side1 => refine (Kd.R_reads' (e := 35) (base := w.heap.size) (ok := fun k_ => (some k_ ≠ (.slice Ao20 t146.length co20 : Value).ownBlock ∧ k_ ≠ gb170)) (n := t153.length) (c := co25) ?_).2.2; exact (by (with_reducible repeat (first | apply Kd.R_alloc | apply Kd.R_drewN | apply Kd.R_drew)); exact (Kd.R_mono (Kd.R_mono (Kd.R_far (p := ⟨gb171, 6, none⟩) (Kd.R_far (p := ⟨gb171, 5, none⟩) (Kd.R_far (p := ⟨gb171, 4, none⟩) (Kd.R_far (p := ⟨gb171, 3, none⟩) (Kd.R_far (p := ⟨gb171, 2, none⟩) (Kd.R_far (p := ⟨gb171, 1, none⟩) (Kd.R_far (p := ⟨gb171, 0, none⟩) (Kd.R_far (p := ⟨gb170, 4, none⟩) (Kd.R_far (p := ⟨gb170, 3, none⟩) (Kd.R_far (p := ⟨gb170, 2, none⟩) (Kd.R_far (p := ⟨gb170, 1, none⟩) (Kd.R_far (p := ⟨gb170, 0, none⟩) (Kd.R_types (Kd.R_mono HO_158001.out (fun k_ hk => (⟨hk, hk.2⟩ : _ ∧ k_ ≠ gb170))) BK171.out (by decide)) (fun _ hk => hk.1.2) (.string t158)) (fun _ hk => hk.1.2) (.int .i64 t159)) (fun _ hk => hk.1.2) (.int .i64 t160)) (fun _ hk => hk.1.2) (.int .i64 t161)) (fun _ hk => hk.1.2) (.string t162)) (fun _ hk => hk.2) (.string t163)) (fun _ hk => hk.2) (.string t164)) (fun _ hk => hk.2) (.int .u32 t165)) (fun _ hk => hk.2) (.int .u32 t166)) (fun _ hk => hk.2) (.int .u32 t167)) (fun _ hk => hk.2) (.int .u32 t168)) (fun _ hk => hk.2) (.int .u32 t169)) (fun _ h_ => h_.1)) (fun _ h_ => h_.1)))); (case side2 => exact (Kd.R_reads' HO_158001.out).2.1); rintro e w53 ⟨rfl, hb⟩; refine ⟨_, rfl, ?_⟩; have n0_ := Aside0.mk (Kd.R_below (by (with_reducible repeat (first | apply Kd.R_alloc | apply Kd.R_drewN | apply Kd.R_drew)); exact (Kd.R_mono (Kd.R_mono (Kd.R_far (p := ⟨gb171, 6, none⟩) (Kd.R_far (p := ⟨gb171, 5, none⟩) (Kd.R_far (p := ⟨gb171, 4, none⟩) (Kd.R_far (p := ⟨gb171, 3, none⟩) (Kd.R_far (p := ⟨gb171, 2, none⟩) (Kd.R_far (p := ⟨gb171, 1, none⟩) (Kd.R_far (p := ⟨gb171, 0, none⟩) (Kd.R_far (p := ⟨gb170, 4, none⟩) (Kd.R_far (p := ⟨gb170, 3, none⟩) (Kd.R_far (p := ⟨gb170, 2, none⟩) (Kd.R_far (p := ⟨gb170, 1, none⟩) (Kd.R_far (p := ⟨gb170, 0, none⟩) (Kd.R_types (Kd.R_mono HO_152001.out (fun k_ hk => (⟨hk, hk.2⟩ : _ ∧ k_ ≠ gb170))) BK171.out (by decide)) (fun _ hk => hk.1.2) (.string t158)) (fun _ hk => hk.1.2) (.int .i64 t159)) (fun _ hk => hk.1.2) (.int .i64 t160)) (fun _ hk => hk.1.2) (.int .i64 t161)) (fun _ hk => hk.1.2) (.string t162)) (fun _ hk => hk.2) (.string t163)) (fun _ hk => hk.2) (.string t164)) (fun _ hk => hk.2) (.int .u32 t165)) (fun _ hk => hk.2) (.int .u32 t166)) (fun _ hk => hk.2) (.int .u32 t167)) (fun _ hk => hk.2) (.int .u32 t168)) (fun _ hk => hk.2) (.int .u32 t169)) (fun _ h_ => h_.1)) (fun _ h_ => h_.1))) hb); have n1_ := Aside0.mk (Kd.R_below (by (with_reducible repeat (first | apply Kd.R_alloc | apply Kd.R_drewN | apply Kd.R_drew)); exact (Kd.R_mono (Kd.R_mono (Kd.R_far (p := ⟨gb171, 6, none⟩) (Kd.R_far (p := ⟨gb171, 5, none⟩) (Kd.R_far (p := ⟨gb171, 4, none⟩) (Kd.R_far (p := ⟨gb171, 3, none⟩) (Kd.R_far (p := ⟨gb171, 2, none⟩) (Kd.R_far (p := ⟨gb171, 1, none⟩) (Kd.R_far (p := ⟨gb171, 0, none⟩) (Kd.R_far (p := ⟨gb170, 4, none⟩) (Kd.R_far (p := ⟨gb170, 3, none⟩) (Kd.R_far (p := ⟨gb170, 2, none⟩) (Kd.R_far (p := ⟨gb170, 1, none⟩) (Kd.R_far (p := ⟨gb170, 0, none⟩) (Kd.R_types (Kd.R_mono HO_158001.out (fun k_ hk => (⟨hk, hk.2⟩ : _ ∧ k_ ≠ gb170))) BK171.out (by decide)) (fun _ hk => hk.1.2) (.string t158)) (fun _ hk => hk.1.2) (.int .i64 t159)) (fun _ hk => hk.1.2) (.int .i64 t160)) (fun _ hk => hk.1.2) (.int .i64 t161)) (fun _ hk => hk.1.2) (.string t162)) (fun _ hk => hk.2) (.string t163)) (fun _ hk => hk.2) (.string t164)) (fun _ hk => hk.2) (.int .u32 t165)) (fun _ hk => hk.2) (.int .u32 t166)) (fun _ hk => hk.2) (.int .u32 t167)) (fun _ hk => hk.2) (.int .u32 t168)) (fun _ hk => hk.2) (.int .u32 t169)) (fun _ h_ => h_.1)) (fun _ h_ => h_.1))) hb); have n2_ := Aside0.mk (blk_below (g := gb151) (o := .cells #[.string t145, .slice Ao20 t146.length co20, .int .i64 t149] 26 (0, 0)) (by (with_reducible repeat (first | refine blk_drewN ?_ _ | refine blk_drew ?_ | refine blk_alloc ?_ _)); refine blk_far ?_ NB151_171.out _; (with_reducible repeat (first | refine blk_drewN ?_ _ | refine blk_drew ?_ | refine blk_alloc ?_ _)); refine blk_far ?_ NB151_171.out _; (with_reducible repeat (first | refine blk_drewN ?_ _ | refine blk_drew ?_ | refine blk_alloc ?_ _)); refine blk_far ?_ NB151_171.out _; (with_reducible repeat (first | refine blk_drewN ?_ _ | refine blk_drew ?_ | refine blk_alloc ?_ _)); refine blk_far ?_ NB151_171.out _; (with_reducible repeat (first | refine blk_drewN ?_ _ | refine blk_drew ?_ | refine blk_alloc ?_ _)); refine blk_far ?_ NB151_171.out _; (with_reducible repeat (first | refine blk_drewN ?_ _ | refine blk_drew ?_ | refine blk_alloc ?_ _)); refine blk_far ?_ NB151_171.out _; (with_reducible repeat (first | refine blk_drewN ?_ _ | refine blk_drew ?_ | refine blk_alloc ?_ _)); refine blk_far ?_ NB151_171.out _; (with_reducible repeat (first | refine blk_drewN ?_ _ | refine blk_drew ?_ | refine blk_alloc ?_ _)); refine blk_far ?_ NB151_170.out _; (with_reducible repeat (first | refine blk_drewN ?_ _ | refine blk_drew ?_ | refine blk_alloc ?_ _)); refine blk_far ?_ NB151_170.out _; (with_reducible repeat (first | refine blk_drewN ?_ _ | refine blk_drew ?_ | refine blk_alloc ?_ _)); refine blk_far ?_ NB151_170.out _; (with_reducible repeat (first | refine blk_drewN ?_ _ | refine blk_drew ?_ | refine blk_alloc ?_ _)); refine blk_far ?_ NB151_170.out _; (with_reducible repeat (first | refine blk_drewN ?_ _ | refine blk_drew ?_ | refine blk_alloc ?_ _)); refine blk_far ?_ NB151_170.out _; (with_reducible repeat (first | refine blk_drewN ?_ _ | refine blk_drew ?_ | refine blk_alloc ?_ _)); exact BK151.out) hb); have n3_ := Aside0.mk (blk_below (g := gb157) (o := .cells #[.string t152, .slice Ao25 t153.length co25] 31 (0, 0)) (by (with_reducible repeat (first | refine blk_drewN ?_ _ | refine blk_drew ?_ | refine blk_alloc ?_ _)); refine blk_far ?_ NB157_171.out _; (with_reducible repeat (first | refine blk_drewN ?_ _ | refine blk_drew ?_ | refine blk_alloc ?_ _)); refine blk_far ?_ NB157_171.out _; (with_reducible repeat (first | refine blk_drewN ?_ _ | refine blk_drew ?_ | refine blk_alloc ?_ _)); refine blk_far ?_ NB157_171.out _; (with_reducible repeat (first | refine blk_drewN ?_ _ | refine blk_drew ?_ | refine blk_alloc ?_ _)); refine blk_far ?_ NB157_171.out _; (with_reducible repeat (first | refine blk_drewN ?_ _ | refine blk_drew ?_ | refine blk_alloc ?_ _)); refine blk_far ?_ NB157_171.out _; (with_reducible repeat (first | refine blk_drewN ?_ _ | refine blk_drew ?_ | refine blk_alloc ?_ _)); refine blk_far ?_ NB157_171.out _; (with_reducible repeat (first | refine blk_drewN ?_ _ | refine blk_drew ?_ | refine blk_alloc ?_ _)); refine blk_far ?_ NB157_171.out _; (with_reducible repeat (first | refine blk_drewN ?_ _ | refine blk_drew ?_ | refine blk_alloc ?_ _)); refine blk_far ?_ NB157_170.out _; (with_reducible repeat (first | refine blk_drewN ?_ _ | refine blk_drew ?_ | refine blk_alloc ?_ _)); refine blk_far ?_ NB157_170.out _; (with_reducible repeat (first | refine blk_drewN ?_ _ | refine blk_drew ?_ | refine blk_alloc ?_ _)); refine blk_far ?_ NB157_170.out _; (with_reducible repeat (first | refine blk_drewN ?_ _ | refine blk_drew ?_ | refine blk_alloc ?_ _)); refine blk_far ?_ NB157_170.out _; (with_reducible repeat (first | refine blk_drewN ?_ _ | refine blk_drew ?_ | refine blk_alloc ?_ _)); refine blk_far ?_ NB157_170.out _; (with_reducible repeat (first | refine blk_drewN ?_ _ | refine blk_drew ?_ | refine blk_alloc ?_ _)); exact BK157.out) hb); have n4_ := Aside0.mk (blk_below (g := gb170) (o := .cells #[.string t158, .int .i64 t159, .int .i64 t160, .int .i64 t161, .string t162] 35 (0, 0)) (by (with_reducible repeat (first | refine blk_drewN ?_ _ | refine blk_drew ?_ | refine blk_alloc ?_ _)); refine blk_far ?_ NB170_171.out _; (with_reducible repeat (first | refine blk_drewN ?_ _ | refine blk_drew ?_ | refine blk_alloc ?_ _)); refine blk_far ?_ NB170_171.out _; (with_reducible repeat (first | refine blk_drewN ?_ _ | refine blk_drew ?_ | refine blk_alloc ?_ _)); refine blk_far ?_ NB170_171.out _; (with_reducible repeat (first | refine blk_drewN ?_ _ | refine blk_drew ?_ | refine blk_alloc ?_ _)); refine blk_far ?_ NB170_171.out _; (with_reducible repeat (first | refine blk_drewN ?_ _ | refine blk_drew ?_ | refine blk_alloc ?_ _)); refine blk_far ?_ NB170_171.out _; (with_reducible repeat (first | refine blk_drewN ?_ _ | refine blk_drew ?_ | refine blk_alloc ?_ _)); refine blk_far ?_ NB170_171.out _; (with_reducible repeat (first | refine blk_drewN ?_ _ | refine blk_drew ?_ | refine blk_alloc ?_ _)); refine blk_far ?_ NB170_171.out _; (with_reducible repeat (first | refine blk_drewN ?_ _ | refine blk_drew ?_ | refine blk_alloc ?_ _)); refine blk_put (cs := #[.string t158, .int .i64 t159, .int .i64 t160, .int .i64 t161, .string (⟨#[]⟩ : ByteArray)]) ?_ 4 _ rfl; (with_reducible repeat (first | refine blk_drewN ?_ _ | refine blk_drew ?_ | refine blk_alloc ?_ _)); refine blk_put (cs := #[.string t158, .int .i64 t159, .int .i64 t160, .int .i64 0, .string (⟨#[]⟩ : ByteArray)]) ?_ 3 _ rfl; (with_reducible repeat (first | refine blk_drewN ?_ _ | refine blk_drew ?_ | refine blk_alloc ?_ _)); refine blk_put (cs := #[.string t158, .int .i64 t159, .int .i64 0, .int .i64 0, .string (⟨#[]⟩ : ByteArray)]) ?_ 2 _ rfl; (with_reducible repeat (first | refine blk_drewN ?_ _ | refine blk_drew ?_ | refine blk_alloc ?_ _)); refine blk_put (cs := #[.string t158, .int .i64 0, .int .i64 0, .int .i64 0, .string (⟨#[]⟩ : ByteArray)]) ?_ 1 _ rfl; (with_reducible repeat (first | refine blk_drewN ?_ _ | refine blk_drew ?_ | refine blk_alloc ?_ _)); refine blk_put (cs := #[.string (⟨#[]⟩ : ByteArray), .int .i64 0, .int .i64 0, .int .i64 0, .string (⟨#[]⟩ : ByteArray)]) ?_ 0 _ rfl; (with_reducible repeat (first | refine blk_drewN ?_ _ | refine blk_drew ?_ | refine blk_alloc ?_ _)); exact BK170.out) hb); have n5_ := Aside0.mk (blk_below (g := gb171) (o := .cells #[.string t163, .string t164, .int .u32 t165, .int .u32 t166, .int .u32 t167, .int .u32 t168, .int .u32 t169] 38 (0, 0)) (by (with_reducible repeat (first | refine blk_drewN ?_ _ | refine blk_drew ?_ | refine blk_alloc ?_ _)); refine blk_put (cs := #[.string t163, .string t164, .int .u32 t165, .int .u32 t166, .int .u32 t167, .int .u32 t168, .int .u32 0]) ?_ 6 _ rfl; (with_reducible repeat (first | refine blk_drewN ?_ _ | refine blk_drew ?_ | refine blk_alloc ?_ _)); refine blk_put (cs := #[.string t163, .string t164, .int .u32 t165, .int .u32 t166, .int .u32 t167, .int .u32 0, .int .u32 0]) ?_ 5 _ rfl; (with_reducible repeat (first | refine blk_drewN ?_ _ | refine blk_drew ?_ | refine blk_alloc ?_ _)); refine blk_put (cs := #[.string t163, .string t164, .int .u32 t165, .int .u32 t166, .int .u32 0, .int .u32 0, .int .u32 0]) ?_ 4 _ rfl; (with_reducible repeat (first | refine blk_drewN ?_ _ | refine blk_drew ?_ | refine blk_alloc ?_ _)); refine blk_put (cs := #[.string t163, .string t164, .int .u32 t165, .int .u32 0, .int .u32 0, .int .u32 0, .int .u32 0]) ?_ 3 _ rfl; (with_reducible repeat (first | refine blk_drewN ?_ _ | refine blk_drew ?_ | refine blk_alloc ?_ _)); refine blk_put (cs := #[.string t163, .string t164, .int .u32 0, .int .u32 0, .int .u32 0, .int .u32 0, .int .u32 0]) ?_ 2 _ rfl; (with_reducible repeat (first | refine blk_drewN ?_ _ | refine blk_drew ?_ | refine blk_alloc ?_ _)); refine blk_put (cs := #[.string t163, .string (⟨#[]⟩ : ByteArray), .int .u32 0, .int .u32 0, .int .u32 0, .int .u32 0, .int .u32 0]) ?_ 1 _ rfl; (with_reducible repeat (first | refine blk_drewN ?_ _ | refine blk_drew ?_ | refine blk_alloc ?_ _)); refine blk_put (cs := #[.string (⟨#[]⟩ : ByteArray), .string (⟨#[]⟩ : ByteArray), .int .u32 0, .int .u32 0, .int .u32 0, .int .u32 0, .int .u32 0]) ?_ 0 _ rfl; (with_reducible repeat (first | refine blk_drewN ?_ _ | refine blk_drew ?_ | refine blk_alloc ?_ _)); refine blk_far ?_ NB171_170.out _; (with_reducible repeat (first | refine blk_drewN ?_ _ | refine blk_drew ?_ | refine blk_alloc ?_ _)); refine blk_far ?_ NB171_170.out _; (with_reducible repeat (first | refine blk_drewN ?_ _ | refine blk_drew ?_ | refine blk_alloc ?_ _)); refine blk_far ?_ NB171_170.out _; (with_reducible repeat (first | refine blk_drewN ?_ _ | refine blk_drew ?_ | refine blk_alloc ?_ _)); refine blk_far ?_ NB171_170.out _; (with_reducible repeat (first | refine blk_drewN ?_ _ | refine blk_drew ?_ | refine blk_alloc ?_ _)); refine blk_far ?_ NB171_170.out _; (with_reducible repeat (first | refine blk_drewN ?_ _ | refine blk_drew ?_ | refine blk_alloc ?_ _)); exact BK171.out) hb); have n6_ := Aside0.mk (below_step (by repeat (first | (with_reducible first | exact HB.out | apply below_alloc | apply pw_below_drewN | apply below_drew1 | refine below_set ?_ GE151.out | refine below_set ?_ GE157.out | refine below_set ?_ GE170.out | refine below_set ?_ GE171.out) | exact HB.out)) hb); clear HO_152001; clear HO_158001; clear BK151; clear BK157; clear BK170; clear BK171; clear HB; have HO_152001 := n0_; have HO_158001 := n1_; have BK151 := n2_; have BK157 := n3_; have BK170 := n4_; have BK171 := n5_; have HB := n6_; clear n0_ n1_ n2_ n3_ n4_ n5_ n6_; (try clear hb); (try clear hb2); (try clear hk); (try clear hi)) | ((with_reducible refine gate_dst (N := 11) rfl ?_); (try (refine gate_guard (by rfl) ?_; dsimp only)); refine box_event ?hg (N := 11) ?hd (cs := #[.string (⟨#[]⟩ : ByteArray), .int .i64 0, .int .i64 0, .int .i64 0, .string (⟨#[]⟩ : ByteArray)]) (t := 35) ?hr ?_; (case hd => rfl); (case hg => rfl); (case hr => first | (go_simp; done) | (go_simp; rfl)); intro gb184 hg w54 hbox hb; have n0_ := Aside0.mk (Kd.R_below (Kd.R_elderB (by (with_reducible repeat (first | apply Kd.R_alloc | apply Kd.R_drewN | apply Kd.R_drew)); exact HO_152001.out) gb184 (Nat.le_of_eq hg.symm)) hb); have n1_ := Aside0.mk (Kd.R_below (Kd.R_elderB (by (with_reducible repeat (first | apply Kd.R_alloc | apply Kd.R_drewN | apply Kd.R_drew)); exact HO_158001.out) gb184 (Nat.le_of_eq hg.symm)) hb); have n2_ := Aside0.mk (blk_below (g := gb151) (o := .cells #[.string t145, .slice Ao20 t146.length co20, .int .i64 t149] 26 (0, 0)) (by (with_reducible repeat (first | refine blk_drewN ?_ _ | refine blk_drew ?_ | refine blk_alloc ?_ _)); exact BK151.out) hb); have n3_ := Aside0.mk (blk_below (g := gb157) (o := .cells #[.string t152, .slice Ao25 t153.length co25] 31 (0, 0)) (by (with_reducible repeat (first | refine blk_drewN ?_ _ | refine blk_drew ?_ | refine blk_alloc ?_ _)); exact BK157.out) hb); have n4_ := Aside0.mk (blk_below (g := gb170) (o := .cells #[.string t158, .int .i64 t159, .int .i64 t160, .int .i64 t161, .string t162] 35 (0, 0)) (by (with_reducible repeat (first | refine blk_drewN ?_ _ | refine blk_drew ?_ | refine blk_alloc ?_ _)); exact BK170.out) hb); have n5_ := Aside0.mk (blk_below (g := gb171) (o := .cells #[.string t163, .string t164, .int .u32 t165, .int .u32 t166, .int .u32 t167, .int .u32 t168, .int .u32 t169] 38 (0, 0)) (by (with_reducible repeat (first | refine blk_drewN ?_ _ | refine blk_drew ?_ | refine blk_alloc ?_ _)); exact BK171.out) hb); have n6_ := Aside0.mk (below_step (by repeat (first | (with_reducible first | exact HB.out | apply below_alloc | apply pw_below_drewN | apply below_drew1 | refine below_set ?_ GE151.out | refine below_set ?_ GE157.out | refine below_set ?_ GE170.out | refine below_set ?_ GE171.out) | exact HB.out)) hb); have n7_ := Aside0.mk (hbox); have n8_ := Aside0.mk ((by rw [hg]; exact (below_size (by repeat (first | (with_reducible first | exact HB.out | apply below_alloc | apply pw_below_drewN | apply below_drew1 | refine below_set ?_ GE151.out | refine below_set ?_ GE157.out | refine below_set ?_ GE170.out | refine below_set ?_ GE171.out) | exact HB.out))) : w.heap.size ≤ gb184)); have n9_ := Aside0.mk ((by rw [hg]; exact (below_size (by repeat (first | (with_reducible first | exact HB.out | apply below_alloc | apply pw_below_drewN | apply below_drew1 | refine below_set ?_ GE151.out | refine below_set ?_ GE157.out | refine below_set ?_ GE170.out | refine below_set ?_ GE171.out) | exact HB.out))) : w.heap.size ≤ gb184)); have n10_ := Aside0.mk ((by rw [hg]; exact Nat.ne_of_lt (blk_lt (g := gb151) (o := .cells #[.string t145, .slice Ao20 t146.length co20, .int .i64 t149] 26 (0, 0)) (by (with_reducible repeat (first | refine blk_drewN ?_ _ | refine blk_drew ?_ | refine blk_alloc ?_ _)); exact BK151.out)) : gb151 ≠ gb184)); have n11_ := Aside0.mk ((by rw [hg]; exact Nat.ne_of_gt (blk_lt (g := gb151) (o := .cells #[.string t145, .slice Ao20 t146.length co20, .int .i64 t149] 26 (0, 0)) (by (with_reducible repeat (first | refine blk_drewN ?_ _ | refine blk_drew ?_ | refine blk_alloc ?_ _)); exact BK151.out)) : gb184 ≠ gb151)); have n12_ := Aside0.mk ((by rw [hg]; exact Nat.ne_of_lt (blk_lt (g := gb157) (o := .cells #[.string t152, .slice Ao25 t153.length co25] 31 (0, 0)) (by (with_reducible repeat (first | refine blk_drewN ?_ _ | refine blk_drew ?_ | refine blk_alloc ?_ _)); exact BK157.out)) : gb157 ≠ gb184)); have n13_ := Aside0.mk ((by rw [hg]; exact Nat.ne_of_gt (blk_lt (g := gb157) (o := .cells #[.string t152, .slice Ao25 t153.length co25] 31 (0, 0)) (by (with_reducible repeat (first | refine blk_drewN ?_ _ | refine blk_drew ?_ | refine blk_alloc ?_ _)); exact BK157.out)) : gb184 ≠ gb157)); have n14_ := Aside0.mk ((by rw [hg]; exact Nat.ne_of_lt (blk_lt (g := gb170) (o := .cells #[.string t158, .int .i64 t159, .int .i64 t160, .int .i64 t161, .string t162] 35 (0, 0)) (by (with_reducible repeat (first | refine blk_drewN ?_ _ | refine blk_drew ?_ | refine blk_alloc ?_ _)); exact BK170.out)) : gb170 ≠ gb184)); have n15_ := Aside0.mk ((by rw [hg]; exact Nat.ne_of_gt (blk_lt (g := gb170) (o := .cells #[.string t158, .int .i64 t159, .int .i64 t160, .int .i64 t161, .string t162] 35 (0, 0)) (by (with_reducible repeat (first | refine blk_drewN ?_ _ | refine blk_drew ?_ | refine blk_alloc ?_ _)); exact BK170.out)) : gb184 ≠ gb170)); have n16_ := Aside0.mk ((by rw [hg]; exact Nat.ne_of_lt (blk_lt (g := gb171) (o := .cells #[.string t163, .string t164, .int .u32 t165, .int .u32 t166, .int .u32 t167, .int .u32 t168, .int .u32 t169] 38 (0, 0)) (by (with_reducible repeat (first | refine blk_drewN ?_ _ | refine blk_drew ?_ | refine blk_alloc ?_ _)); exact BK171.out)) : gb171 ≠ gb184)); have n17_ := Aside0.mk ((by rw [hg]; exact Nat.ne_of_gt (blk_lt (g := gb171) (o := .cells #[.string t163, .string t164, .int .u32 t165, .int .u32 t166, .int .u32 t167, .int .u32 t168, .int .u32 t169] 38 (0, 0)) (by (with_reducible repeat (first | refine blk_drewN ?_ _ | refine blk_drew ?_ | refine blk_alloc ?_ _)); exact BK171.out)) : gb184 ≠ gb171)); clear HO_152001; clear HO_158001; clear BK151; clear BK157; clear BK170; clear BK171; clear HB; have HO_152001 := n0_; have HO_158001 := n1_; have BK151 := n2_; have BK157 := n3_; have BK170 := n4_; have BK171 := n5_; have HB := n6_; have BK184 := n7_; have GW184 := n8_; have GE184 := n9_; have NB151_184 := n10_; have NB184_151 := n11_; have NB157_184 := n12_; have NB184_157 := n13_; have NB170_184 := n14_; have NB184_170 := n15_; have NB171_184 := n16_; have NB184_171 := n17_; clear n0_ n1_ n2_ n3_ n4_ n5_ n6_ n7_ n8_ n9_ n10_ n11_ n12_ n13_ n14_ n15_ n16_ n17_; clear hb hbox hg) | ((with_reducible refine gate_dst (N := 12) rfl ?_); (try (refine gate_guard (by rfl) ?_; dsimp only)); refine box_event ?hg (N := 12) ?hd (cs := #[.string (⟨#[]⟩ : ByteArray), .string (⟨#[]⟩ : ByteArray), .int .u32 0, .int .u32 0, .int .u32 0, .int .u32 0, .int .u32 0]) (t := 38) ?hr ?_; (case hd => rfl); (case hg => rfl); (case hr => first | (go_simp; done) | (go_simp; rfl)); intro gb185 hg w55 hbox hb; have n0_ := Aside0.mk (Kd.R_below (by (with_reducible repeat (first | apply Kd.R_alloc | apply Kd.R_drewN | apply Kd.R_drew)); exact HO_152001.out) hb); have n1_ := Aside0.mk (Kd.R_below (by (with_reducible repeat (first | apply Kd.R_alloc | apply Kd.R_drewN | apply Kd.R_drew)); exact HO_158001.out) hb); have n2_ := Aside0.mk (blk_below (g := gb151) (o := .cells #[.string t145, .slice Ao20 t146.length co20, .int .i64 t149] 26 (0, 0)) (by (with_reducible repeat (first | refine blk_drewN ?_ _ | refine blk_drew ?_ | refine blk_alloc ?_ _)); exact BK151.out) hb); have n3_ := Aside0.mk (blk_below (g := gb157) (o := .cells #[.string t152, .slice Ao25 t153.length co25] 31 (0, 0)) (by (with_reducible repeat (first | refine blk_drewN ?_ _ | refine blk_drew ?_ | refine blk_alloc ?_ _)); exact BK157.out) hb); have n4_ := Aside0.mk (blk_below (g := gb170) (o := .cells #[.string t158, .int .i64 t159, .int .i64 t160, .int .i64 t161, .string t162] 35 (0, 0)) (by (with_reducible repeat (first | refine blk_drewN ?_ _ | refine blk_drew ?_ | refine blk_alloc ?_ _)); exact BK170.out) hb); have n5_ := Aside0.mk (blk_below (g := gb171) (o := .cells #[.string t163, .string t164, .int .u32 t165, .int .u32 t166, .int .u32 t167, .int .u32 t168, .int .u32 t169] 38 (0, 0)) (by (with_reducible repeat (first | refine blk_drewN ?_ _ | refine blk_drew ?_ | refine blk_alloc ?_ _)); exact BK171.out) hb); have n6_ := Aside0.mk (blk_below (g := gb184) (o := .cells #[.string (⟨#[]⟩ : ByteArray), .int .i64 0, .int .i64 0, .int .i64 0, .string (⟨#[]⟩ : ByteArray)] 35 (0, 0)) (by (with_reducible repeat (first | refine blk_drewN ?_ _ | refine blk_drew ?_ | refine blk_alloc ?_ _)); exact BK184.out) hb); have n7_ := Aside0.mk (below_step (by repeat (first | (with_reducible first | exact HB.out | apply below_alloc | apply pw_below_drewN | apply below_drew1 | refine below_set ?_ GE151.out | refine below_set ?_ GE157.out | refine below_set ?_ GE170.out | refine below_set ?_ GE171.out | refine below_set ?_ GE184.out) | exact HB.out)) hb); have n8_ := Aside0.mk (hbox); have n9_ := Aside0.mk ((by rw [hg]; exact (below_size (by repeat (first | (with_reducible first | exact HB.out | apply below_alloc | apply pw_below_drewN | apply below_drew1 | refine below_set ?_ GE151.out | refine below_set ?_ GE157.out | refine below_set ?_ GE170.out | refine below_set ?_ GE171.out | refine below_set ?_ GE184.out) | exact HB.out))) : w.heap.size ≤ gb185)); have n10_ := Aside0.mk ((by rw [hg]; exact (below_size (by repeat (first | (with_reducible first | exact HB.out | apply below_alloc | apply pw_below_drewN | apply below_drew1 | refine below_set ?_ GE151.out | refine below_set ?_ GE157.out | refine below_set ?_ GE170.out | refine below_set ?_ GE171.out | refine below_set ?_ GE184.out) | exact HB.out))) : w.heap.size ≤ gb185)); have n11_ := Aside0.mk ((by rw [hg]; exact Nat.ne_of_lt (blk_lt (g := gb151) (o := .cells #[.string t145, .slice Ao20 t146.length co20, .int .i64 t149] 26 (0, 0)) (by (with_reducible repeat (first | refine blk_drewN ?_ _ | refine blk_drew ?_ | refine blk_alloc ?_ _)); exact BK151.out)) : gb151 ≠ gb185)); have n12_ := Aside0.mk ((by rw [hg]; exact Nat.ne_of_gt (blk_lt (g := gb151) (o := .cells #[.string t145, .slice Ao20 t146.length co20, .int .i64 t149] 26 (0, 0)) (by (with_reducible repeat (first | refine blk_drewN ?_ _ | refine blk_drew ?_ | refine blk_alloc ?_ _)); exact BK151.out)) : gb185 ≠ gb151)); have n13_ := Aside0.mk ((by rw [hg]; exact Nat.ne_of_lt (blk_lt (g := gb157) (o := .cells #[.string t152, .slice Ao25 t153.length co25] 31 (0, 0)) (by (with_reducible repeat (first | refine blk_drewN ?_ _ | refine blk_drew ?_ | refine blk_alloc ?_ _)); exact BK157.out)) : gb157 ≠ gb185)); have n14_ := Aside0.mk ((by rw [hg]; exact Nat.ne_of_gt (blk_lt (g := gb157) (o := .cells #[.string t152, .slice Ao25 t153.length co25] 31 (0, 0)) (by (with_reducible repeat (first | refine blk_drewN ?_ _ | refine blk_drew ?_ | refine blk_alloc ?_ _)); exact BK157.out)) : gb185 ≠ gb157)); have n15_ := Aside0.mk ((by rw [hg]; exact Nat.ne_of_lt (blk_lt (g := gb170) (o := .cells #[.string t158, .int .i64 t159, .int .i64 t160, .int .i64 t161, .string t162] 35 (0, 0)) (by (with_reducible repeat (first | refine blk_drewN ?_ _ | refine blk_drew ?_ | refine blk_alloc ?_ _)); exact BK170.out)) : gb170 ≠ gb185)); have n16_ := Aside0.mk ((by rw [hg]; exact Nat.ne_of_gt (blk_lt (g := gb170) (o := .cells #[.string t158, .int .i64 t159, .int .i64 t160, .int .i64 t161, .string t162] 35 (0, 0)) (by (with_reducible repeat (first | refine blk_drewN ?_ _ | refine blk_drew ?_ | refine blk_alloc ?_ _)); exact BK170.out)) : gb185 ≠ gb170)); have n17_ := Aside0.mk ((by rw [hg]; exact Nat.ne_of_lt (blk_lt (g := gb171) (o := .cells #[.string t163, .string t164, .int .u32 t165, .int .u32 t166, .int .u32 t167, .int .u32 t168, .int .u32 t169] 38 (0, 0)) (by (with_reducible repeat (first | refine blk_drewN ?_ _ | refine blk_drew ?_ | refine blk_alloc ?_ _)); exact BK171.out)) : gb171 ≠ gb185)); have n18_ := Aside0.mk ((by rw [hg]; exact Nat.ne_of_gt (blk_lt (g := gb171) (o := .cells #[.string t163, .string t164, .int .u32 t165, .int .u32 t166, .int .u32 t167, .int .u32 t168, .int .u32 t169] 38 (0, 0)) (by (with_reducible repeat (first | refine blk_drewN ?_ _ | refine blk_drew ?_ | refine blk_alloc ?_ _)); exact BK171.out)) : gb185 ≠ gb171)); have n19_ := Aside0.mk ((by rw [hg]; exact Nat.ne_of_lt (blk_lt (g := gb184) (o := .cells #[.string (⟨#[]⟩ : ByteArray), .int .i64 0, .int .i64 0, .int .i64 0, .string (⟨#[]⟩ : ByteArray)] 35 (0, 0)) (by (with_reducible repeat (first | refine blk_drewN ?_ _ | refine blk_drew ?_ | refine blk_alloc ?_ _)); exact BK184.out)) : gb184 ≠ gb185)); have n20_ := Aside0.mk ((by rw [hg]; exact Nat.ne_of_gt (blk_lt (g := gb184) (o := .cells #[.string (⟨#[]⟩ : ByteArray), .int .i64 0, .int .i64 0, .int .i64 0, .string (⟨#[]⟩ : ByteArray)] 35 (0, 0)) (by (with_reducible repeat (first | refine blk_drewN ?_ _ | refine blk_drew ?_ | refine blk_alloc ?_ _)); exact BK184.out)) : gb185 ≠ gb184)); clear HO_152001; clear HO_158001; clear BK151; clear BK157; clear BK170; clear BK171; clear BK184; clear HB; have HO_152001 := n0_; have HO_158001 := n1_; have BK151 := n2_; have BK157 := n3_; have BK170 := n4_; have BK171 := n5_; have BK184 := n6_; have HB := n7_; have BK185 := n8_; have GW185 := n9_; have GE185 := n10_; have NB151_185 := n11_; have NB185_151 := n12_; have NB157_185 := n13_; have NB185_157 := n14_; have NB170_185 := n15_; have NB185_170 := n16_; have NB171_185 := n17_; have NB185_171 := n18_; have NB184_185 := n19_; have NB185_184 := n20_; clear n0_ n1_ n2_ n3_ n4_ n5_ n6_ n7_ n8_ n9_ n10_ n11_ n12_ n13_ n14_ n15_ n16_ n17_ n18_ n19_ n20_; clear hb hbox hg; have hnb56 := NB184_151.out; have hnc56 := NB151_184.out; have hnb57 := NB184_157.out; have hnc57 := NB157_184.out; have hnb58 := NB184_170.out; have hnc58 := NB170_184.out; have hnb59 := NB184_171.out; have hnc59 := NB171_184.out; have hnb60 := NB184_185.out; have hnc60 := NB185_184.out; have hcz61_0 : w55.cell? ⟨gb184, 0, none⟩ = some (.string (⟨#[]⟩ : ByteArray)) := (blk_cell BK184.out 0).trans rfl; have hcz61_1 : w55.cell? ⟨gb184, 1, none⟩ = some (.int .i64 0) := (blk_cell BK184.out 1).trans rfl; have hcz61_2 : w55.cell? ⟨gb184, 2, none⟩ = some (.int .i64 0) := (blk_cell BK184.out 2).trans rfl; have hcz61_3 : w55.cell? ⟨gb184, 3, none⟩ = some (.int .i64 0) := (blk_cell BK184.out 3).trans rfl; have hcz61_4 : w55.cell? ⟨gb184, 4, none⟩ = some (.string (⟨#[]⟩ : ByteArray)) := (blk_cell BK184.out 4).trans rfl; have hfz61_0 := blk_frozen BK184.out 0; have hfz61_1 := blk_frozen BK184.out 1; have hfz61_2 := blk_frozen BK184.out 2; have hfz61_3 := blk_frozen BK184.out 3; have hfz61_4 := blk_frozen BK184.out 4; have hnb62 := NB185_151.out; have hnc62 := NB151_185.out; have hnb63 := NB185_157.out; have hnc63 := NB157_185.out; have hnb64 := NB185_170.out; have hnc64 := NB170_185.out; have hnb65 := NB185_171.out; have hnc65 := NB171_185.out; have hcz66_0 : w55.cell? ⟨gb185, 0, none⟩ = some (.string (⟨#[]⟩ : ByteArray)) := (blk_cell BK185.out 0).trans rfl; have hcz66_1 : w55.cell? ⟨gb185, 1, none⟩ = some (.string (⟨#[]⟩ : ByteArray)) := (blk_cell BK185.out 1).trans rfl; have hcz66_2 : w55.cell? ⟨gb185, 2, none⟩ = some (.int .u32 0) := (blk_cell BK185.out 2).trans rfl; have hcz66_3 : w55.cell? ⟨gb185, 3, none⟩ = some (.int .u32 0) := (blk_cell BK185.out 3).trans rfl; have hcz66_4 : w55.cell? ⟨gb185, 4, none⟩ = some (.int .u32 0) := (blk_cell BK185.out 4).trans rfl; have hcz66_5 : w55.cell? ⟨gb185, 5, none⟩ = some (.int .u32 0) := (blk_cell BK185.out 5).trans rfl; have hcz66_6 : w55.cell? ⟨gb185, 6, none⟩ = some (.int .u32 0) := (blk_cell BK185.out 6).trans rfl; have hfz66_0 := blk_frozen BK185.out 0; have hfz66_1 := blk_frozen BK185.out 1; have hfz66_2 := blk_frozen BK185.out 2; have hfz66_3 := blk_frozen BK185.out 3; have hfz66_4 := blk_frozen BK185.out 4; have hfz66_5 := blk_frozen BK185.out 5; have hfz66_6 := blk_frozen BK185.out 6))
           have n0_ : Aside0 (Kd.R k35 35 ((((((((((((w55.setCell ⟨gb184, 0, none⟩ (.string t172)).setCell ⟨gb184, 1, none⟩ (.int .i64 t173)).setCell ⟨gb184, 2, none⟩ (.int .i64 t174)).setCell ⟨gb184, 3, none⟩ (.int .i64 t175)).setCell ⟨gb184, 4, none⟩ (.string t176)).setCell ⟨gb185, 0, none⟩ (.string t177)).setCell ⟨gb185, 1, none⟩ (.string t178)).setCell ⟨gb185, 2, none⟩ (.int .u32 t179)).setCell ⟨gb185, 3, none⟩ (.int .u32 t180)).setCell ⟨gb185, 4, none⟩ (.int .u32 t181)).setCell ⟨gb185, 5, none⟩ (.int .u32 t182)).setCell ⟨gb185, 6, none⟩ (.int .u32 t183)) w.heap.size (fun k_ => some k_ ≠ (.slice Ao25 t153.length co25 : Value).ownBlock ∧ k_ ≠ gb170 ∧ k_ ≠ gb184) (.slice Ao20 t146.length co20) t146) := ⟨by (with_reducible repeat (first | apply Kd.R_alloc | apply Kd.R_drewN | apply Kd.R_drew)); exact Kd.R_mono (Kd.R_far (p := ⟨gb185, 6, none⟩) (Kd.R_far (p := ⟨gb185, 5, none⟩) (Kd.R_far (p := ⟨gb185, 4, none⟩) (Kd.R_far (p := ⟨gb185, 3, none⟩) (Kd.R_far (p := ⟨gb185, 2, none⟩) (Kd.R_far (p := ⟨gb185, 1, none⟩) (Kd.R_far (p := ⟨gb185, 0, none⟩) (Kd.R_far (p := ⟨gb184, 4, none⟩) (Kd.R_far (p := ⟨gb184, 3, none⟩) (Kd.R_far (p := ⟨gb184, 2, none⟩) (Kd.R_far (p := ⟨gb184, 1, none⟩) (Kd.R_far (p := ⟨gb184, 0, none⟩) (Kd.R_types (Kd.R_mono HO_152001.out (fun k_ hk => (⟨hk, hk.2⟩ : _ ∧ k_ ≠ gb184))) BK185.out (by decide)) (fun _ hk => hk.1.2) (.string t172)) (fun _ hk => hk.1.2) (.int .i64 t173)) (fun _ hk => hk.1.2) (.int .i64 t174)) (fun _ hk => hk.1.2) (.int .i64 t175)) (fun _ hk => hk.1.2) (.string t176)) (fun _ hk => hk.2) (.string t177)) (fun _ hk => hk.2) (.string t178)) (fun _ hk => hk.2) (.int .u32 t179)) (fun _ hk => hk.2) (.int .u32 t180)) (fun _ hk => hk.2) (.int .u32 t181)) (fun _ hk => hk.2) (.int .u32 t182)) (fun _ hk => hk.2) (.int .u32 t183)) (fun _ hk => ⟨hk.1.1.1.1, ⟨hk.1.1.1.2, hk.1.1.2⟩⟩)⟩
           have n1_ : Aside0 (Kd.R k35 35 ((((((((((((w55.setCell ⟨gb184, 0, none⟩ (.string t172)).setCell ⟨gb184, 1, none⟩ (.int .i64 t173)).setCell ⟨gb184, 2, none⟩ (.int .i64 t174)).setCell ⟨gb184, 3, none⟩ (.int .i64 t175)).setCell ⟨gb184, 4, none⟩ (.string t176)).setCell ⟨gb185, 0, none⟩ (.string t177)).setCell ⟨gb185, 1, none⟩ (.string t178)).setCell ⟨gb185, 2, none⟩ (.int .u32 t179)).setCell ⟨gb185, 3, none⟩ (.int .u32 t180)).setCell ⟨gb185, 4, none⟩ (.int .u32 t181)).setCell ⟨gb185, 5, none⟩ (.int .u32 t182)).setCell ⟨gb185, 6, none⟩ (.int .u32 t183)) w.heap.size (fun k_ => some k_ ≠ (.slice Ao20 t146.length co20 : Value).ownBlock ∧ k_ ≠ gb170 ∧ k_ ≠ gb184) (.slice Ao25 t153.length co25) t153) := ⟨by (with_reducible repeat (first | apply Kd.R_alloc | apply Kd.R_drewN | apply Kd.R_drew)); exact Kd.R_mono (Kd.R_far (p := ⟨gb185, 6, none⟩) (Kd.R_far (p := ⟨gb185, 5, none⟩) (Kd.R_far (p := ⟨gb185, 4, none⟩) (Kd.R_far (p := ⟨gb185, 3, none⟩) (Kd.R_far (p := ⟨gb185, 2, none⟩) (Kd.R_far (p := ⟨gb185, 1, none⟩) (Kd.R_far (p := ⟨gb185, 0, none⟩) (Kd.R_far (p := ⟨gb184, 4, none⟩) (Kd.R_far (p := ⟨gb184, 3, none⟩) (Kd.R_far (p := ⟨gb184, 2, none⟩) (Kd.R_far (p := ⟨gb184, 1, none⟩) (Kd.R_far (p := ⟨gb184, 0, none⟩) (Kd.R_types (Kd.R_mono HO_158001.out (fun k_ hk => (⟨hk, hk.2⟩ : _ ∧ k_ ≠ gb184))) BK185.out (by decide)) (fun _ hk => hk.1.2) (.string t172)) (fun _ hk => hk.1.2) (.int .i64 t173)) (fun _ hk => hk.1.2) (.int .i64 t174)) (fun _ hk => hk.1.2) (.int .i64 t175)) (fun _ hk => hk.1.2) (.string t176)) (fun _ hk => hk.2) (.string t177)) (fun _ hk => hk.2) (.string t178)) (fun _ hk => hk.2) (.int .u32 t179)) (fun _ hk => hk.2) (.int .u32 t180)) (fun _ hk => hk.2) (.int .u32 t181)) (fun _ hk => hk.2) (.int .u32 t182)) (fun _ hk => hk.2) (.int .u32 t183)) (fun _ hk => ⟨hk.1.1.1.1, ⟨hk.1.1.1.2, hk.1.1.2⟩⟩)⟩
           have n2_ : Aside0 (((((((((((((w55.setCell ⟨gb184, 0, none⟩ (.string t172)).setCell ⟨gb184, 1, none⟩ (.int .i64 t173)).setCell ⟨gb184, 2, none⟩ (.int .i64 t174)).setCell ⟨gb184, 3, none⟩ (.int .i64 t175)).setCell ⟨gb184, 4, none⟩ (.string t176)).setCell ⟨gb185, 0, none⟩ (.string t177)).setCell ⟨gb185, 1, none⟩ (.string t178)).setCell ⟨gb185, 2, none⟩ (.int .u32 t179)).setCell ⟨gb185, 3, none⟩ (.int .u32 t180)).setCell ⟨gb185, 4, none⟩ (.int .u32 t181)).setCell ⟨gb185, 5, none⟩ (.int .u32 t182)).setCell ⟨gb185, 6, none⟩ (.int .u32 t183)).heap[gb151]? = some (.cells #[.string t145, .slice Ao20 t146.length co20, .int .i64 t149] 26 (0, 0))) := ⟨by (with_reducible repeat (first | refine blk_drewN ?_ _ | refine blk_drew ?_ | refine blk_alloc ?_ _)); refine blk_far ?_ NB151_185.out _; (with_reducible repeat (first | refine blk_drewN ?_ _ | refine blk_drew ?_ | refine blk_alloc ?_ _)); refine blk_far ?_ NB151_185.out _; (with_reducible repeat (first | refine blk_drewN ?_ _ | refine blk_drew ?_ | refine blk_alloc ?_ _)); refine blk_far ?_ NB151_185.out _; (with_reducible repeat (first | refine blk_drewN ?_ _ | refine blk_drew ?_ | refine blk_alloc ?_ _)); refine blk_far ?_ NB151_185.out _; (with_reducible repeat (first | refine blk_drewN ?_ _ | refine blk_drew ?_ | refine blk_alloc ?_ _)); refine blk_far ?_ NB151_185.out _; (with_reducible repeat (first | refine blk_drewN ?_ _ | refine blk_drew ?_ | refine blk_alloc ?_ _)); refine blk_far ?_ NB151_185.out _; (with_reducible repeat (first | refine blk_drewN ?_ _ | refine blk_drew ?_ | refine blk_alloc ?_ _)); refine blk_far ?_ NB151_185.out _; (with_reducible repeat (first | refine blk_drewN ?_ _ | refine blk_drew ?_ | refine blk_alloc ?_ _)); refine blk_far ?_ NB151_184.out _; (with_reducible repeat (first | refine blk_drewN ?_ _ | refine blk_drew ?_ | refine blk_alloc ?_ _)); refine blk_far ?_ NB151_184.out _; (with_reducible repeat (first | refine blk_drewN ?_ _ | refine blk_drew ?_ | refine blk_alloc ?_ _)); refine blk_far ?_ NB151_184.out _; (with_reducible repeat (first | refine blk_drewN ?_ _ | refine blk_drew ?_ | refine blk_alloc ?_ _)); refine blk_far ?_ NB151_184.out _; (with_reducible repeat (first | refine blk_drewN ?_ _ | refine blk_drew ?_ | refine blk_alloc ?_ _)); refine blk_far ?_ NB151_184.out _; (with_reducible repeat (first | refine blk_drewN ?_ _ | refine blk_drew ?_ | refine blk_alloc ?_ _)); exact BK151.out⟩
           have n3_ : Aside0 (((((((((((((w55.setCell ⟨gb184, 0, none⟩ (.string t172)).setCell ⟨gb184, 1, none⟩ (.int .i64 t173)).setCell ⟨gb184, 2, none⟩ (.int .i64 t174)).setCell ⟨gb184, 3, none⟩ (.int .i64 t175)).setCell ⟨gb184, 4, none⟩ (.string t176)).setCell ⟨gb185, 0, none⟩ (.string t177)).setCell ⟨gb185, 1, none⟩ (.string t178)).setCell ⟨gb185, 2, none⟩ (.int .u32 t179)).setCell ⟨gb185, 3, none⟩ (.int .u32 t180)).setCell ⟨gb185, 4, none⟩ (.int .u32 t181)).setCell ⟨gb185, 5, none⟩ (.int .u32 t182)).setCell ⟨gb185, 6, none⟩ (.int .u32 t183)).heap[gb157]? = some (.cells #[.string t152, .slice Ao25 t153.length co25] 31 (0, 0))) := ⟨by (with_reducible repeat (first | refine blk_drewN ?_ _ | refine blk_drew ?_ | refine blk_alloc ?_ _)); refine blk_far ?_ NB157_185.out _; (with_reducible repeat (first | refine blk_drewN ?_ _ | refine blk_drew ?_ | refine blk_alloc ?_ _)); refine blk_far ?_ NB157_185.out _; (with_reducible repeat (first | refine blk_drewN ?_ _ | refine blk_drew ?_ | refine blk_alloc ?_ _)); refine blk_far ?_ NB157_185.out _; (with_reducible repeat (first | refine blk_drewN ?_ _ | refine blk_drew ?_ | refine blk_alloc ?_ _)); refine blk_far ?_ NB157_185.out _; (with_reducible repeat (first | refine blk_drewN ?_ _ | refine blk_drew ?_ | refine blk_alloc ?_ _)); refine blk_far ?_ NB157_185.out _; (with_reducible repeat (first | refine blk_drewN ?_ _ | refine blk_drew ?_ | refine blk_alloc ?_ _)); refine blk_far ?_ NB157_185.out _; (with_reducible repeat (first | refine blk_drewN ?_ _ | refine blk_drew ?_ | refine blk_alloc ?_ _)); refine blk_far ?_ NB157_185.out _; (with_reducible repeat (first | refine blk_drewN ?_ _ | refine blk_drew ?_ | refine blk_alloc ?_ _)); refine blk_far ?_ NB157_184.out _; (with_reducible repeat (first | refine blk_drewN ?_ _ | refine blk_drew ?_ | refine blk_alloc ?_ _)); refine blk_far ?_ NB157_184.out _; (with_reducible repeat (first | refine blk_drewN ?_ _ | refine blk_drew ?_ | refine blk_alloc ?_ _)); refine blk_far ?_ NB157_184.out _; (with_reducible repeat (first | refine blk_drewN ?_ _ | refine blk_drew ?_ | refine blk_alloc ?_ _)); refine blk_far ?_ NB157_184.out _; (with_reducible repeat (first | refine blk_drewN ?_ _ | refine blk_drew ?_ | refine blk_alloc ?_ _)); refine blk_far ?_ NB157_184.out _; (with_reducible repeat (first | refine blk_drewN ?_ _ | refine blk_drew ?_ | refine blk_alloc ?_ _)); exact BK157.out⟩
           have n4_ : Aside0 (((((((((((((w55.setCell ⟨gb184, 0, none⟩ (.string t172)).setCell ⟨gb184, 1, none⟩ (.int .i64 t173)).setCell ⟨gb184, 2, none⟩ (.int .i64 t174)).setCell ⟨gb184, 3, none⟩ (.int .i64 t175)).setCell ⟨gb184, 4, none⟩ (.string t176)).setCell ⟨gb185, 0, none⟩ (.string t177)).setCell ⟨gb185, 1, none⟩ (.string t178)).setCell ⟨gb185, 2, none⟩ (.int .u32 t179)).setCell ⟨gb185, 3, none⟩ (.int .u32 t180)).setCell ⟨gb185, 4, none⟩ (.int .u32 t181)).setCell ⟨gb185, 5, none⟩ (.int .u32 t182)).setCell ⟨gb185, 6, none⟩ (.int .u32 t183)).heap[gb170]? = some (.cells #[.string t158, .int .i64 t159, .int .i64 t160, .int .i64 t161, .string t162] 35 (0, 0))) := ⟨by (with_reducible repeat (first | refine blk_drewN ?_ _ | refine blk_drew ?_ | refine blk_alloc ?_ _)); refine blk_far ?_ NB170_185.out _; (with_reducible repeat (first | refine blk_drewN ?_ _ | refine blk_drew ?_ | refine blk_alloc ?_ _)); refine blk_far ?_ NB170_185.out _; (with_reducible repeat (first | refine blk_drewN ?_ _ | refine blk_drew ?_ | refine blk_alloc ?_ _)); refine blk_far ?_ NB170_185.out _; (with_reducible repeat (first | refine blk_drewN ?_ _ | refine blk_drew ?_ | refine blk_alloc ?_ _)); refine blk_far ?_ NB170_185.out _; (with_reducible repeat (first | refine blk_drewN ?_ _ | refine blk_drew ?_ | refine blk_alloc ?_ _)); refine blk_far ?_ NB170_185.out _; (with_reducible repeat (first | refine blk_drewN ?_ _ | refine blk_drew ?_ | refine blk_alloc ?_ _)); refine blk_far ?_ NB170_185.out _; (with_reducible repeat (first | refine blk_drewN ?_ _ | refine blk_drew ?_ | refine blk_alloc ?_ _)); refine blk_far ?_ NB170_185.out _; (with_reducible repeat (first | refine blk_drewN ?_ _ | refine blk_drew ?_ | refine blk_alloc ?_ _)); refine blk_far ?_ NB170_184.out _; (with_reducible repeat (first | refine blk_drewN ?_ _ | refine blk_drew ?_ | refine blk_alloc ?_ _)); refine blk_far ?_ NB170_184.out _; (with_reducible repeat (first | refine blk_drewN ?_ _ | refine blk_drew ?_ | refine blk_alloc ?_ _)); refine blk_far ?_ NB170_184.out _; (with_reducible repeat (first | refine blk_drewN ?_ _ | refine blk_drew ?_ | refine blk_alloc ?_ _)); refine blk_far ?_ NB170_184.out _; (with_reducible repeat (first | refine blk_drewN ?_ _ | refine blk_drew ?_ | refine blk_alloc ?_ _)); refine blk_far ?_ NB170_184.out _; (with_reducible repeat (first | refine blk_drewN ?_ _ | refine blk_drew ?_ | refine blk_alloc ?_ _)); exact BK170.out⟩
           have n5_ : Aside0 (((((((((((((w55.setCell ⟨gb184, 0, none⟩ (.string t172)).setCell ⟨gb184, 1, none⟩ (.int .i64 t173)).setCell ⟨gb184, 2, none⟩ (.int .i64 t174)).setCell ⟨gb184, 3, none⟩ (.int .i64 t175)).setCell ⟨gb184, 4, none⟩ (.string t176)).setCell ⟨gb185, 0, none⟩ (.string t177)).setCell ⟨gb185, 1, none⟩ (.string t178)).setCell ⟨gb185, 2, none⟩ (.int .u32 t179)).setCell ⟨gb185, 3, none⟩ (.int .u32 t180)).setCell ⟨gb185, 4, none⟩ (.int .u32 t181)).setCell ⟨gb185, 5, none⟩ (.int .u32 t182)).setCell ⟨gb185, 6, none⟩ (.int .u32 t183)).heap[gb171]? = some (.cells #[.string t163, .string t164, .int .u32 t165, .int .u32 t166, .int .u32 t167, .int .u32 t168, .int .u32 t169] 38 (0, 0))) := ⟨by (with_reducible repeat (first | refine blk_drewN ?_ _ | refine blk_drew ?_ | refine blk_alloc ?_ _)); refine blk_far ?_ NB171_185.out _; (with_reducible repeat (first | refine blk_drewN ?_ _ | refine blk_drew ?_ | refine blk_alloc ?_ _)); refine blk_far ?_ NB171_185.out _; (with_reducible repeat (first | refine blk_drewN ?_ _ | refine blk_drew ?_ | refine blk_alloc ?_ _)); refine blk_far ?_ NB171_185.out _; (with_reducible repeat (first | refine blk_drewN ?_ _ | refine blk_drew ?_ | refine blk_alloc ?_ _)); refine blk_far ?_ NB171_185.out _; (with_reducible repeat (first | refine blk_drewN ?_ _ | refine blk_drew ?_ | refine blk_alloc ?_ _)); refine blk_far ?_ NB171_185.out _; (with_reducible repeat (first | refine blk_drewN ?_ _ | refine blk_drew ?_ | refine blk_alloc ?_ _)); refine blk_far ?_ NB171_185.out _; (with_reducible repeat (first | refine blk_drewN ?_ _ | refine blk_drew ?_ | refine blk_alloc ?_ _)); refine blk_far ?_ NB171_185.out _; (with_reducible repeat (first | refine blk_drewN ?_ _ | refine blk_drew ?_ | refine blk_alloc ?_ _)); refine blk_far ?_ NB171_184.out _; (with_reducible repeat (first | refine blk_drewN ?_ _ | refine blk_drew ?_ | refine blk_alloc ?_ _)); refine blk_far ?_ NB171_184.out _; (with_reducible repeat (first | refine blk_drewN ?_ _ | refine blk_drew ?_ | refine blk_alloc ?_ _)); refine blk_far ?_ NB171_184.out _; (with_reducible repeat (first | refine blk_drewN ?_ _ | refine blk_drew ?_ | refine blk_alloc ?_ _)); refine blk_far ?_ NB171_184.out _; (with_reducible repeat (first | refine blk_drewN ?_ _ | refine blk_drew ?_ | refine blk_alloc ?_ _)); refine blk_far ?_ NB171_184.out _; (with_reducible repeat (first | refine blk_drewN ?_ _ | refine blk_drew ?_ | refine blk_alloc ?_ _)); exact BK171.out⟩
           have n6_ : Aside0 (((((((((((((w55.setCell ⟨gb184, 0, none⟩ (.string t172)).setCell ⟨gb184, 1, none⟩ (.int .i64 t173)).setCell ⟨gb184, 2, none⟩ (.int .i64 t174)).setCell ⟨gb184, 3, none⟩ (.int .i64 t175)).setCell ⟨gb184, 4, none⟩ (.string t176)).setCell ⟨gb185, 0, none⟩ (.string t177)).setCell ⟨gb185, 1, none⟩ (.string t178)).setCell ⟨gb185, 2, none⟩ (.int .u32 t179)).setCell ⟨gb185, 3, none⟩ (.int .u32 t180)).setCell ⟨gb185, 4, none⟩ (.int .u32 t181)).setCell ⟨gb185, 5, none⟩ (.int .u32 t182)).setCell ⟨gb185, 6, none⟩ (.int .u32 t183)).heap[gb184]? = some (.cells #[.string t172, .int .i64 t173, .int .i64 t174, .int .i64 t175, .string t176] 35 (0, 0))) := ⟨by (with_reducible repeat (first | refine blk_drewN ?_ _ | refine blk_drew ?_ | refine blk_alloc ?_ _)); refine blk_far ?_ NB184_185.out _; (with_reducible repeat (first | refine blk_drewN ?_ _ | refine blk_drew ?_ | refine blk_alloc ?_ _)); refine blk_far ?_ NB184_185.out _; (with_reducible repeat (first | refine blk_drewN ?_ _ | refine blk_drew ?_ | refine blk_alloc ?_ _)); refine blk_far ?_ NB184_185.out _; (with_reducible repeat (first | refine blk_drewN ?_ _ | refine blk_drew ?_ | refine blk_alloc ?_ _)); refine blk_far ?_ NB184_185.out _; (with_reducible repeat (first | refine blk_drewN ?_ _ | refine blk_drew ?_ | refine blk_alloc ?_ _)); refine blk_far ?_ NB184_185.out _; (with_reducible repeat (first | refine blk_drewN ?_ _ | refine blk_drew ?_ | refine blk_alloc ?_ _)); refine blk_far ?_ NB184_185.out _; (with_reducible repeat (first | refine blk_drewN ?_ _ | refine blk_drew ?_ | refine blk_alloc ?_ _)); refine blk_far ?_ NB184_185.out _; (with_reducible repeat (first | refine blk_drewN ?_ _ | refine blk_drew ?_ | refine blk_alloc ?_ _)); refine blk_put (cs := #[.string t172, .int .i64 t173, .int .i64 t174, .int .i64 t175, .string (⟨#[]⟩ : ByteArray)]) ?_ 4 _ rfl; (with_reducible repeat (first | refine blk_drewN ?_ _ | refine blk_drew ?_ | refine blk_alloc ?_ _)); refine blk_put (cs := #[.string t172, .int .i64 t173, .int .i64 t174, .int .i64 0, .string (⟨#[]⟩ : ByteArray)]) ?_ 3 _ rfl; (with_reducible repeat (first | refine blk_drewN ?_ _ | refine blk_drew ?_ | refine blk_alloc ?_ _)); refine blk_put (cs := #[.string t172, .int .i64 t173, .int .i64 0, .int .i64 0, .string (⟨#[]⟩ : ByteArray)]) ?_ 2 _ rfl; (with_reducible repeat (first | refine blk_drewN ?_ _ | refine blk_drew ?_ | refine blk_alloc ?_ _)); refine blk_put (cs := #[.string t172, .int .i64 0, .int .i64 0, .int .i64 0, .string (⟨#[]⟩ : ByteArray)]) ?_ 1 _ rfl; (with_reducible repeat (first | refine blk_drewN ?_ _ | refine blk_drew ?_ | refine blk_alloc ?_ _)); refine blk_put (cs := #[.string (⟨#[]⟩ : ByteArray), .int .i64 0, .int .i64 0, .int .i64 0, .string (⟨#[]⟩ : ByteArray)]) ?_ 0 _ rfl; (with_reducible repeat (first | refine blk_drewN ?_ _ | refine blk_drew ?_ | refine blk_alloc ?_ _)); exact BK184.out⟩
           have n7_ : Aside0 (((((((((((((w55.setCell ⟨gb184, 0, none⟩ (.string t172)).setCell ⟨gb184, 1, none⟩ (.int .i64 t173)).setCell ⟨gb184, 2, none⟩ (.int .i64 t174)).setCell ⟨gb184, 3, none⟩ (.int .i64 t175)).setCell ⟨gb184, 4, none⟩ (.string t176)).setCell ⟨gb185, 0, none⟩ (.string t177)).setCell ⟨gb185, 1, none⟩ (.string t178)).setCell ⟨gb185, 2, none⟩ (.int .u32 t179)).setCell ⟨gb185, 3, none⟩ (.int .u32 t180)).setCell ⟨gb185, 4, none⟩ (.int .u32 t181)).setCell ⟨gb185, 5, none⟩ (.int .u32 t182)).setCell ⟨gb185, 6, none⟩ (.int .u32 t183)).heap[gb185]? = some (.cells #[.string t177, .string t178, .int .u32 t179, .int .u32 t180, .int .u32 t181, .int .u32 t182, .int .u32 t183] 38 (0, 0))) := ⟨by (with_reducible repeat (first | refine blk_drewN ?_ _ | refine blk_drew ?_ | refine blk_alloc ?_ _)); refine blk_put (cs := #[.string t177, .string t178, .int .u32 t179, .int .u32 t180, .int .u32 t181, .int .u32 t182, .int .u32 0]) ?_ 6 _ rfl; (with_reducible repeat (first | refine blk_drewN ?_ _ | refine blk_drew ?_ | refine blk_alloc ?_ _)); refine blk_put (cs := #[.string t177, .string t178, .int .u32 t179, .int .u32 t180, .int .u32 t181, .int .u32 0, .int .u32 0]) ?_ 5 _ rfl; (with_reducible repeat (first | refine blk_drewN ?_ _ | refine blk_drew ?_ | refine blk_alloc ?_ _)); refine blk_put (cs := #[.string t177, .string t178, .int .u32 t179, .int .u32 t180, .int .u32 0, .int .u32 0, .int .u32 0]) ?_ 4 _ rfl; (with_reducible repeat (first | refine blk_drewN ?_ _ | refine blk_drew ?_ | refine blk_alloc ?_ _)); refine blk_put (cs := #[.string t177, .string t178, .int .u32 t179, .int .u32 0, .int .u32 0, .int .u32 0, .int .u32 0]) ?_ 3 _ rfl; (with_reducible repeat (first | refine blk_drewN ?_ _ | refine blk_drew ?_ | refine blk_alloc ?_ _)); refine blk_put (cs := #[.string t177, .string t178, .int .u32 0, .int .u32 0, .int .u32 0, .int .u32 0, .int .u32 0]) ?_ 2 _ rfl; (with_reducible repeat (first | refine blk_drewN ?_ _ | refine blk_drew ?_ | refine blk_alloc ?_ _)); refine blk_put (cs := #[.string t177, .string (⟨#[]⟩ : ByteArray), .int .u32 0, .int .u32 0, .int .u32 0, .int .u32 0, .int .u32 0]) ?_ 1 _ rfl; (with_reducible repeat (first | refine blk_drewN ?_ _ | refine blk_drew ?_ | refine blk_alloc ?_ _)); refine blk_put (cs := #[.string (⟨#[]⟩ : ByteArray), .string (⟨#[]⟩ : ByteArray), .int .u32 0, .int .u32 0, .int .u32 0, .int .u32 0, .int .u32 0]) ?_ 0 _ rfl; (with_reducible repeat (first | refine blk_drewN ?_ _ | refine blk_drew ?_ | refine blk_alloc ?_ _)); refine blk_far ?_ NB185_184.out _; (with_reducible repeat (first | refine blk_drewN ?_ _ | refine blk_drew ?_ | refine blk_alloc ?_ _)); refine blk_far ?_ NB185_184.out _; (with_reducible repeat (first | refine blk_drewN ?_ _ | refine blk_drew ?_ | refine blk_alloc ?_ _)); refine blk_far ?_ NB185_184.out _; (with_reducible repeat (first | refine blk_drewN ?_ _ | refine blk_drew ?_ | refine blk_alloc ?_ _)); refine blk_far ?_ NB185_184.out _; (with_reducible repeat (first | refine blk_drewN ?_ _ | refine blk_drew ?_ | refine blk_alloc ?_ _)); refine blk_far ?_ NB185_184.out _; (with_reducible repeat (first | refine blk_drewN ?_ _ | refine blk_drew ?_ | refine blk_alloc ?_ _)); exact BK185.out⟩
           have n8_ : Aside0 (Below w.heap.size w ((((((((((((w55.setCell ⟨gb184, 0, none⟩ (.string t172)).setCell ⟨gb184, 1, none⟩ (.int .i64 t173)).setCell ⟨gb184, 2, none⟩ (.int .i64 t174)).setCell ⟨gb184, 3, none⟩ (.int .i64 t175)).setCell ⟨gb184, 4, none⟩ (.string t176)).setCell ⟨gb185, 0, none⟩ (.string t177)).setCell ⟨gb185, 1, none⟩ (.string t178)).setCell ⟨gb185, 2, none⟩ (.int .u32 t179)).setCell ⟨gb185, 3, none⟩ (.int .u32 t180)).setCell ⟨gb185, 4, none⟩ (.int .u32 t181)).setCell ⟨gb185, 5, none⟩ (.int .u32 t182)).setCell ⟨gb185, 6, none⟩ (.int .u32 t183))) := ⟨by repeat (first | (with_reducible first | exact HB.out | apply below_alloc | apply pw_below_drewN | apply below_drew1 | refine below_set ?_ GE151.out | refine below_set ?_ GE157.out | refine below_set ?_ GE170.out | refine below_set ?_ GE171.out | refine below_set ?_ GE184.out | refine below_set ?_ GE185.out) | exact HB.out)⟩
           (try clear HO_152001)
           (try clear HO_158001)
           (try clear BK151)
           (try clear BK157)
           (try clear BK170)
           (try clear BK171)
           (try clear BK184)
           (try clear BK185)
           (try clear HB)
           generalize ((((((((((((w55.setCell ⟨gb184, 0, none⟩ (.string t172)).setCell ⟨gb184, 1, none⟩ (.int .i64 t173)).setCell ⟨gb184, 2, none⟩ (.int .i64 t174)).setCell ⟨gb184, 3, none⟩ (.int .i64 t175)).setCell ⟨gb184, 4, none⟩ (.string t176)).setCell ⟨gb185, 0, none⟩ (.string t177)).setCell ⟨gb185, 1, none⟩ (.string t178)).setCell ⟨gb185, 2, none⟩ (.int .u32 t179)).setCell ⟨gb185, 3, none⟩ (.int .u32 t180)).setCell ⟨gb185, 4, none⟩ (.int .u32 t181)).setCell ⟨gb185, 5, none⟩ (.int .u32 t182)).setCell ⟨gb185, 6, none⟩ (.int .u32 t183)) = w67 at n0_ n1_ n2_ n3_ n4_ n5_ n6_ n7_ n8_ ⊢
           have HO_152001 := n0_
           have HO_158001 := n1_
           have BK151 := n2_
           have BK157 := n3_
           have BK170 := n4_
           have BK171 := n5_
           have BK184 := n6_
           have BK185 := n7_
           have HB := n8_
           clear n0_ n1_ n2_ n3_ n4_ n5_ n6_ n7_ n8_
           have n0_ := Aside0.mk (Kd.R_drew HO_152001.out)
           have n1_ := Aside0.mk (Kd.R_drew HO_158001.out)
           have n2_ := Aside0.mk (blk_drew BK151.out)
           have n3_ := Aside0.mk (blk_drew BK157.out)
           have n4_ := Aside0.mk (blk_drew BK170.out)
           have n5_ := Aside0.mk (blk_drew BK171.out)
           have n6_ := Aside0.mk (blk_drew BK184.out)
           have n7_ := Aside0.mk (blk_drew BK185.out)
           have n8_ := Aside0.mk (below_drew1 HB.out)
           clear HO_152001
           clear HO_158001
           clear BK151
           clear BK157
           clear BK170
           clear BK171
           clear BK184
           clear BK185
           clear HB
           have HO_152001 := n0_
           have HO_158001 := n1_
           have BK151 := n2_
           have BK157 := n3_
           have BK170 := n4_
           have BK171 := n5_
           have BK184 := n6_
           have BK185 := n7_
           have HB := n8_
           clear n0_ n1_ n2_ n3_ n4_ n5_ n6_ n7_ n8_
           refine start_ (n := 29) (S := fun w' => w'.cell? ⟨gb151, 0, none⟩ = some (.string t145) ∧ w'.cell? ⟨gb151, 1, none⟩ = some (.slice Ao20 t146.length co20) ∧ w'.cell? ⟨gb151, 2, none⟩ = some (.int .i64 t149) ∧ w'.cell? ⟨gb157, 0, none⟩ = some (.string t152) ∧ w'.cell? ⟨gb157, 1, none⟩ = some (.slice Ao25 t153.length co25) ∧ w'.cell? ⟨gb170, 0, none⟩ = some (.string t158) ∧ w'.cell? ⟨gb170, 1, none⟩ = some (.int .i64 t159) ∧ w'.cell? ⟨gb170, 2, none⟩ = some (.int .i64 t160) ∧ w'.cell? ⟨gb170, 3, none⟩ = some (.int .i64 t161) ∧ w'.cell? ⟨gb170, 4, none⟩ = some (.string t162) ∧ w'.cell? ⟨gb184, 0, none⟩ = some (.string t172) ∧ w'.cell? ⟨gb184, 1, none⟩ = some (.int .i64 t173) ∧ w'.cell? ⟨gb184, 2, none⟩ = some (.int .i64 t174) ∧ w'.cell? ⟨gb184, 3, none⟩ = some (.int .i64 t175) ∧ w'.cell? ⟨gb184, 4, none⟩ = some (.string t176) ∧ w'.cell? ⟨gb171, 0, none⟩ = some (.string t163) ∧ w'.cell? ⟨gb171, 1, none⟩ = some (.string t164) ∧ w'.cell? ⟨gb171, 2, none⟩ = some (.int .u32 t165) ∧ w'.cell? ⟨gb171, 3, none⟩ = some (.int .u32 t166) ∧ w'.cell? ⟨gb171, 4, none⟩ = some (.int .u32 t167) ∧ w'.cell? ⟨gb171, 5, none⟩ = some (.int .u32 t168) ∧ w'.cell? ⟨gb171, 6, none⟩ = some (.int .u32 t169) ∧ w'.cell? ⟨gb185, 0, none⟩ = some (.string t177) ∧ w'.cell? ⟨gb185, 1, none⟩ = some (.string t178) ∧ w'.cell? ⟨gb185, 2, none⟩ = some (.int .u32 t179) ∧ w'.cell? ⟨gb185, 3, none⟩ = some (.int .u32 t180) ∧ w'.cell? ⟨gb185, 4, none⟩ = some (.int .u32 t181) ∧ w'.cell? ⟨gb185, 5, none⟩ = some (.int .u32 t182) ∧ w'.cell? ⟨gb185, 6, none⟩ = some (.int .u32 t183)) (ds := []) #[false, false, false, false, false, false, false, false, false, false, false, false, false, false, false, false, false, false, false, false, false, false, false, false, false, false, false, false, false] (by kernel_rfl) rfl rfl ⟨(blk_cell BK151.out 0).trans rfl, (blk_cell BK151.out 1).trans rfl, (blk_cell BK151.out 2).trans rfl, (blk_cell BK157.out 0).trans rfl, (blk_cell BK157.out 1).trans rfl, (blk_cell BK170.out 0).trans rfl, (blk_cell BK170.out 1).trans rfl, (blk_cell BK170.out 2).trans rfl, (blk_cell BK170.out 3).trans rfl, (blk_cell BK170.out 4).trans rfl, (blk_cell BK184.out 0).trans rfl, (blk_cell BK184.out 1).trans rfl, (blk_cell BK184.out 2).trans rfl, (blk_cell BK184.out 3).trans rfl, (blk_cell BK184.out 4).trans rfl, (blk_cell BK171.out 0).trans rfl, (blk_cell BK171.out 1).trans rfl, (blk_cell BK171.out 2).trans rfl, (blk_cell BK171.out 3).trans rfl, (blk_cell BK171.out 4).trans rfl, (blk_cell BK171.out 5).trans rfl, (blk_cell BK171.out 6).trans rfl, (blk_cell BK185.out 0).trans rfl, (blk_cell BK185.out 1).trans rfl, (blk_cell BK185.out 2).trans rfl, (blk_cell BK185.out 3).trans rfl, (blk_cell BK185.out 4).trans rfl, (blk_cell BK185.out 5).trans rfl, (blk_cell BK185.out 6).trans rfl⟩ (fun hHeld => ?_); refine with_tabW beadrolllaw14_ZoneMakes.tab9 beadrolllaw14_ZoneMakes.bits9 (fun HT_ HW_ => ?_)
           generalize w67.drew = w68 at HO_152001 HO_158001 BK151 BK157 BK170 BK171 BK184 BK185 HB hHeld ⊢
           refine pure_ (i := 2) (N := some 60) (v := ?_) (a' := ?_) #[false, false, true, false, false, false, false, false, false, false, false, false, false, false, false, false, false, false, false, false, false, false, false, false, false, false, false, false, false] rfl rfl (any_of HT_.out (by kernel_rfl)) (fun _ _ _ h => h) (Or.inl ⟨by rfl, ?_⟩) ?_ ?_
           rotate_left
           ·intro w'
            go_simp
            with_reducible rfl
           rotate_left
           ·simp only [Act.put, List.setIfInBounds_toArray, List.set_cons_zero, List.set_cons_succ, i64_w, i32_w]
            rfl
           refine take_ (i := 0) (N := some 58) (v := ?_) (a' := ?_) #[true, false, true, false, false, false, false, false, false, false, false, false, false, false, false, false, false, false, false, false, false, false, false, false, false, false, false, false, false] rfl rfl (take_ofW HT_.out HW_.out (by kernel_rfl)) (fun _ _ _ h => h) (Or.inl ⟨by rfl, ?_⟩) hHeld ?_ ?_
           rotate_left
           ·rintro w' ⟨s0, s1, s2, s3, s4, s5, s6, s7, s8, s9, s10, s11, s12, s13, s14, s15, s16, s17, s18, s19, s20, s21, s22, s23, s24, s25, s26, s27, s28⟩
            go_simp
            with_reducible rfl
           rotate_left
           ·simp only [Act.put, List.setIfInBounds_toArray, List.set_cons_zero, List.set_cons_succ, i64_w, i32_w]
            rfl
           refine one_ (i := 1) (N := some 59) #[true, true, true, false, false, false, false, false, false, false, false, false, false, false, false, false, false, false, false, false, false, false, false, false, false, false, false, false, false] rfl rfl (one_of HT_.out (by kernel_rfl)) (by decide) (fun K hK => ?_)
           refine goes_ Tryz.func21 (by kernel_rfl) rfl #[.agg #[.string t145, .slice Ao20 t146.length co20, .int .i64 t149]] (by rfl) rfl rfl (by (try simp only [List.map_toArray, List.map_cons, List.map_nil]); first | done | rfl | (simp only [List.length_drop, List.length_take]; rfl)) ?_
           with_reducible refine (zone_Zone_Apex.calls t145 _ _ t146 t149 t186 _ ?side1 ?side2 A30.out).mono ?_
           (case side1 => repeat (first | exact (Kd.R_reads' HO_152001.out).2.2 | (with_reducible refine Kd.C_alloc ?_ _) | (with_reducible refine Kd.C_drewN ?_ _) | (with_reducible refine Kd.C_drew ?_)))
           (case side2 => exact (Kd.R_reads' HO_152001.out).2.1)
           rintro e w69 ⟨rfl, hb⟩
           refine ⟨_, rfl, ?_⟩
           have n0_ := Aside0.mk (Kd.R_below (by (with_reducible repeat (first | apply Kd.R_alloc | apply Kd.R_drewN | apply Kd.R_drew)); exact HO_152001.out) hb)
           have n1_ := Aside0.mk (Kd.R_below (by (with_reducible repeat (first | apply Kd.R_alloc | apply Kd.R_drewN | apply Kd.R_drew)); exact HO_158001.out) hb)
           have n2_ := Aside0.mk (blk_below (g := gb151) (o := .cells #[.string t145, .slice Ao20 t146.length co20, .int .i64 t149] 26 (0, 0)) (by (with_reducible repeat (first | refine blk_drewN ?_ _ | refine blk_drew ?_ | refine blk_alloc ?_ _)); exact BK151.out) hb)
           have n3_ := Aside0.mk (blk_below (g := gb157) (o := .cells #[.string t152, .slice Ao25 t153.length co25] 31 (0, 0)) (by (with_reducible repeat (first | refine blk_drewN ?_ _ | refine blk_drew ?_ | refine blk_alloc ?_ _)); exact BK157.out) hb)
           have n4_ := Aside0.mk (blk_below (g := gb170) (o := .cells #[.string t158, .int .i64 t159, .int .i64 t160, .int .i64 t161, .string t162] 35 (0, 0)) (by (with_reducible repeat (first | refine blk_drewN ?_ _ | refine blk_drew ?_ | refine blk_alloc ?_ _)); exact BK170.out) hb)
           have n5_ := Aside0.mk (blk_below (g := gb171) (o := .cells #[.string t163, .string t164, .int .u32 t165, .int .u32 t166, .int .u32 t167, .int .u32 t168, .int .u32 t169] 38 (0, 0)) (by (with_reducible repeat (first | refine blk_drewN ?_ _ | refine blk_drew ?_ | refine blk_alloc ?_ _)); exact BK171.out) hb)
           have n6_ := Aside0.mk (blk_below (g := gb184) (o := .cells #[.string t172, .int .i64 t173, .int .i64 t174, .int .i64 t175, .string t176] 35 (0, 0)) (by (with_reducible repeat (first | refine blk_drewN ?_ _ | refine blk_drew ?_ | refine blk_alloc ?_ _)); exact BK184.out) hb)
           have n7_ := Aside0.mk (blk_below (g := gb185) (o := .cells #[.string t177, .string t178, .int .u32 t179, .int .u32 t180, .int .u32 t181, .int .u32 t182, .int .u32 t183] 38 (0, 0)) (by (with_reducible repeat (first | refine blk_drewN ?_ _ | refine blk_drew ?_ | refine blk_alloc ?_ _)); exact BK185.out) hb)
           have n8_ := Aside0.mk (below_step (by repeat (first | (with_reducible first | exact HB.out | apply below_alloc | apply pw_below_drewN | apply below_drew1 | refine below_set ?_ GE151.out | refine below_set ?_ GE157.out | refine below_set ?_ GE170.out | refine below_set ?_ GE171.out | refine below_set ?_ GE184.out | refine below_set ?_ GE185.out) | exact HB.out)) hb)
           clear HO_152001
           clear HO_158001
           clear BK151
           clear BK157
           clear BK170
           clear BK171
           clear BK184
           clear BK185
           clear HB
           have HO_152001 := n0_
           have HO_158001 := n1_
           have BK151 := n2_
           have BK157 := n3_
           have BK170 := n4_
           have BK171 := n5_
           have BK184 := n6_
           have BK185 := n7_
           have HB := n8_
           clear n0_ n1_ n2_ n3_ n4_ n5_ n6_ n7_ n8_
           (try clear hb)
           (try clear hb2)
           (try clear hk)
           (try clear hi)
           refine hK.out _ _ ⟨(blk_cell BK151.out 0).trans rfl, (blk_cell BK151.out 1).trans rfl, (blk_cell BK151.out 2).trans rfl, (blk_cell BK157.out 0).trans rfl, (blk_cell BK157.out 1).trans rfl, (blk_cell BK170.out 0).trans rfl, (blk_cell BK170.out 1).trans rfl, (blk_cell BK170.out 2).trans rfl, (blk_cell BK170.out 3).trans rfl, (blk_cell BK170.out 4).trans rfl, (blk_cell BK184.out 0).trans rfl, (blk_cell BK184.out 1).trans rfl, (blk_cell BK184.out 2).trans rfl, (blk_cell BK184.out 3).trans rfl, (blk_cell BK184.out 4).trans rfl, (blk_cell BK171.out 0).trans rfl, (blk_cell BK171.out 1).trans rfl, (blk_cell BK171.out 2).trans rfl, (blk_cell BK171.out 3).trans rfl, (blk_cell BK171.out 4).trans rfl, (blk_cell BK171.out 5).trans rfl, (blk_cell BK171.out 6).trans rfl, (blk_cell BK185.out 0).trans rfl, (blk_cell BK185.out 1).trans rfl, (blk_cell BK185.out 2).trans rfl, (blk_cell BK185.out 3).trans rfl, (blk_cell BK185.out 4).trans rfl, (blk_cell BK185.out 5).trans rfl, (blk_cell BK185.out 6).trans rfl⟩ (fun hHeld => ?_)
           clear hK K
           refine norm_ (a' := ?_) ?_ ?_
           rotate_left
           ·show Act.put _ (some 59) _ = _
            simp only [Act.put, List.setIfInBounds_toArray, List.set_cons_zero, List.set_cons_succ, i64_w, i32_w]
            rfl
           refine pure_ (i := 3) (N := some 61) (v := ?_) (a' := ?_) #[true, true, true, true, false, false, false, false, false, false, false, false, false, false, false, false, false, false, false, false, false, false, false, false, false, false, false, false, false] rfl rfl (any_of HT_.out (by kernel_rfl)) (fun _ _ _ h => h) (Or.inl ⟨by rfl, ?_⟩) ?_ ?_
           rotate_left
           ·intro w'
            go_simp
            with_reducible rfl
           rotate_left
           ·simp only [Act.put, List.setIfInBounds_toArray, List.set_cons_zero, List.set_cons_succ, i64_w, i32_w]
            rfl
           refine pure_ (i := 4) (N := some 62) (v := ?_) (a' := ?_) #[true, true, true, true, true, false, false, false, false, false, false, false, false, false, false, false, false, false, false, false, false, false, false, false, false, false, false, false, false] rfl rfl (any_of HT_.out (by kernel_rfl)) (fun _ _ _ h => h) (Or.inl ⟨by rfl, ?_⟩) ?_ ?_
           rotate_left
           ·intro w'
            go_simp
            with_reducible rfl
           rotate_left
           ·simp only [Act.put, List.setIfInBounds_toArray, List.set_cons_zero, List.set_cons_succ, i64_w, i32_w]
            rfl
           refine pure_ (i := 7) (N := some 65) (v := ?_) (a' := ?_) #[true, true, true, true, true, false, false, true, false, false, false, false, false, false, false, false, false, false, false, false, false, false, false, false, false, false, false, false, false] rfl rfl (any_of HT_.out (by kernel_rfl)) (fun _ _ _ h => h) (Or.inl ⟨by rfl, ?_⟩) ?_ ?_
           rotate_left
           ·intro w'
            go_simp
            with_reducible rfl
           rotate_left
           ·simp only [Act.put, List.setIfInBounds_toArray, List.set_cons_zero, List.set_cons_succ, i64_w, i32_w]
            rfl
           refine take_ (i := 5) (N := some 63) (v := ?_) (a' := ?_) #[true, true, true, true, true, true, false, true, false, false, false, false, false, false, false, false, false, false, false, false, false, false, false, false, false, false, false, false, false] rfl rfl (take_ofW HT_.out HW_.out (by kernel_rfl)) (fun _ _ _ h => h) (Or.inl ⟨by rfl, ?_⟩) hHeld ?_ ?_
           rotate_left
           ·rintro w' ⟨s0, s1, s2, s3, s4, s5, s6, s7, s8, s9, s10, s11, s12, s13, s14, s15, s16, s17, s18, s19, s20, s21, s22, s23, s24, s25, s26, s27, s28⟩
            go_simp
            with_reducible rfl
           rotate_left
           ·simp only [Act.put, List.setIfInBounds_toArray, List.set_cons_zero, List.set_cons_succ, i64_w, i32_w]
            rfl
           refine take_ (i := 8) (N := some 66) (v := ?_) (a' := ?_) #[true, true, true, true, true, true, false, true, true, false, false, false, false, false, false, false, false, false, false, false, false, false, false, false, false, false, false, false, false] rfl rfl (take_ofW HT_.out HW_.out (by kernel_rfl)) (fun _ _ _ h => h) (Or.inl ⟨by rfl, ?_⟩) hHeld ?_ ?_
           rotate_left
           ·rintro w' ⟨s0, s1, s2, s3, s4, s5, s6, s7, s8, s9, s10, s11, s12, s13, s14, s15, s16, s17, s18, s19, s20, s21, s22, s23, s24, s25, s26, s27, s28⟩
            go_simp
            with_reducible rfl
           rotate_left
           ·simp only [Act.put, List.setIfInBounds_toArray, List.set_cons_zero, List.set_cons_succ, i64_w, i32_w]
            rfl
           refine one_ (i := 6) (N := some 64) #[true, true, true, true, true, true, true, true, true, false, false, false, false, false, false, false, false, false, false, false, false, false, false, false, false, false, false, false, false] rfl rfl (one_of HT_.out (by kernel_rfl)) (by decide) (fun K hK => ?_)
           refine goes_ Tryz.func23 (by kernel_rfl) rfl #[.agg #[.string t145, .slice Ao20 t146.length co20, .int .i64 t149]] (by rfl) rfl rfl (by (try simp only [List.map_toArray, List.map_cons, List.map_nil]); first | done | rfl | (simp only [List.length_drop, List.length_take]; rfl)) ?_
           with_reducible refine (zone_Zone_All.calls t145 _ _ t146 t149 t187 _ ?side1 ?side2 A32.out).mono ?_
           (case side1 => repeat (first | exact (Kd.R_reads' HO_152001.out).2.2 | (with_reducible refine Kd.C_alloc ?_ _) | (with_reducible refine Kd.C_drewN ?_ _) | (with_reducible refine Kd.C_drew ?_)))
           (case side2 => exact (Kd.R_reads' HO_152001.out).2.1)
           rintro e w70 ⟨v188, rfl, ho0, hb⟩
           refine ⟨_, rfl, ?_⟩
           have n0_ := Aside0.mk (Kd.R_elder' (by (with_reducible repeat (first | apply Kd.R_alloc | apply Kd.R_drewN | apply Kd.R_drew)); exact HO_152001.out) (Kd.R_base ho0) hb)
           have n1_ := Aside0.mk (Kd.R_elder' (by (with_reducible repeat (first | apply Kd.R_alloc | apply Kd.R_drewN | apply Kd.R_drew)); exact HO_158001.out) (Kd.R_base ho0) hb)
           have n2_ := Aside0.mk (Kd.R_lower (Kd.R_newB (Kd.R_newB (Kd.R_new' (Kd.R_new' ho0 (Kd.R_lt (by (with_reducible repeat (first | apply Kd.R_alloc | apply Kd.R_drewN | apply Kd.R_drew)); exact HO_152001.out))) (Kd.R_lt (by (with_reducible repeat (first | apply Kd.R_alloc | apply Kd.R_drewN | apply Kd.R_drew)); exact HO_158001.out))) (g := gb170) (o := .cells #[.string t158, .int .i64 t159, .int .i64 t160, .int .i64 t161, .string t162] 35 (0, 0)) (by (with_reducible repeat (first | refine blk_drewN ?_ _ | refine blk_drew ?_ | refine blk_alloc ?_ _)); exact BK170.out)) (g := gb184) (o := .cells #[.string t172, .int .i64 t173, .int .i64 t174, .int .i64 t175, .string t176] 35 (0, 0)) (by (with_reducible repeat (first | refine blk_drewN ?_ _ | refine blk_drew ?_ | refine blk_alloc ?_ _)); exact BK184.out)) (below_size (by repeat (first | (with_reducible first | exact HB.out | apply below_alloc | apply pw_below_drewN | apply below_drew1 | refine below_set ?_ GE151.out | refine below_set ?_ GE157.out | refine below_set ?_ GE170.out | refine below_set ?_ GE171.out | refine below_set ?_ GE184.out | refine below_set ?_ GE185.out) | exact HB.out))))
           have n3_ := Aside0.mk (blk_below (g := gb151) (o := .cells #[.string t145, .slice Ao20 t146.length co20, .int .i64 t149] 26 (0, 0)) (by (with_reducible repeat (first | refine blk_drewN ?_ _ | refine blk_drew ?_ | refine blk_alloc ?_ _)); exact BK151.out) hb)
           have n4_ := Aside0.mk (blk_below (g := gb157) (o := .cells #[.string t152, .slice Ao25 t153.length co25] 31 (0, 0)) (by (with_reducible repeat (first | refine blk_drewN ?_ _ | refine blk_drew ?_ | refine blk_alloc ?_ _)); exact BK157.out) hb)
           have n5_ := Aside0.mk (blk_below (g := gb170) (o := .cells #[.string t158, .int .i64 t159, .int .i64 t160, .int .i64 t161, .string t162] 35 (0, 0)) (by (with_reducible repeat (first | refine blk_drewN ?_ _ | refine blk_drew ?_ | refine blk_alloc ?_ _)); exact BK170.out) hb)
           have n6_ := Aside0.mk (blk_below (g := gb171) (o := .cells #[.string t163, .string t164, .int .u32 t165, .int .u32 t166, .int .u32 t167, .int .u32 t168, .int .u32 t169] 38 (0, 0)) (by (with_reducible repeat (first | refine blk_drewN ?_ _ | refine blk_drew ?_ | refine blk_alloc ?_ _)); exact BK171.out) hb)
           have n7_ := Aside0.mk (blk_below (g := gb184) (o := .cells #[.string t172, .int .i64 t173, .int .i64 t174, .int .i64 t175, .string t176] 35 (0, 0)) (by (with_reducible repeat (first | refine blk_drewN ?_ _ | refine blk_drew ?_ | refine blk_alloc ?_ _)); exact BK184.out) hb)
           have n8_ := Aside0.mk (blk_below (g := gb185) (o := .cells #[.string t177, .string t178, .int .u32 t179, .int .u32 t180, .int .u32 t181, .int .u32 t182, .int .u32 t183] 38 (0, 0)) (by (with_reducible repeat (first | refine blk_drewN ?_ _ | refine blk_drew ?_ | refine blk_alloc ?_ _)); exact BK185.out) hb)
           have n9_ := Aside0.mk (below_step (by repeat (first | (with_reducible first | exact HB.out | apply below_alloc | apply pw_below_drewN | apply below_drew1 | refine below_set ?_ GE151.out | refine below_set ?_ GE157.out | refine below_set ?_ GE170.out | refine below_set ?_ GE171.out | refine below_set ?_ GE184.out | refine below_set ?_ GE185.out) | exact HB.out)) hb)
           clear HO_152001
           clear HO_158001
           clear BK151
           clear BK157
           clear BK170
           clear BK171
           clear BK184
           clear BK185
           clear HB
           have HO_152001 := n0_
           have HO_158001 := n1_
           have HO189 := n2_
           have BK151 := n3_
           have BK157 := n4_
           have BK170 := n5_
           have BK171 := n6_
           have BK184 := n7_
           have BK185 := n8_
           have HB := n9_
           clear n0_ n1_ n2_ n3_ n4_ n5_ n6_ n7_ n8_ n9_
           (try clear hb)
           (try clear hb2)
           (try clear hk)
           (try clear hi)
           (try clear ho0)
           obtain ⟨Ao71, co71, eo71⟩ := Kd.R_slice HO189.out
           (first | subst eo71 | (injection eo71 with f1_ f2_ f3_; have f4_ := f1_.symm; have f5_ := f3_.symm; clear f1_ f2_ f3_; subst f4_; subst f5_))
           refine hK.out _ _ ⟨(blk_cell BK151.out 0).trans rfl, (blk_cell BK151.out 1).trans rfl, (blk_cell BK151.out 2).trans rfl, (blk_cell BK157.out 0).trans rfl, (blk_cell BK157.out 1).trans rfl, (blk_cell BK170.out 0).trans rfl, (blk_cell BK170.out 1).trans rfl, (blk_cell BK170.out 2).trans rfl, (blk_cell BK170.out 3).trans rfl, (blk_cell BK170.out 4).trans rfl, (blk_cell BK184.out 0).trans rfl, (blk_cell BK184.out 1).trans rfl, (blk_cell BK184.out 2).trans rfl, (blk_cell BK184.out 3).trans rfl, (blk_cell BK184.out 4).trans rfl, (blk_cell BK171.out 0).trans rfl, (blk_cell BK171.out 1).trans rfl, (blk_cell BK171.out 2).trans rfl, (blk_cell BK171.out 3).trans rfl, (blk_cell BK171.out 4).trans rfl, (blk_cell BK171.out 5).trans rfl, (blk_cell BK171.out 6).trans rfl, (blk_cell BK185.out 0).trans rfl, (blk_cell BK185.out 1).trans rfl, (blk_cell BK185.out 2).trans rfl, (blk_cell BK185.out 3).trans rfl, (blk_cell BK185.out 4).trans rfl, (blk_cell BK185.out 5).trans rfl, (blk_cell BK185.out 6).trans rfl⟩ (fun hHeld => ?_)
           clear hK K
           refine norm_ (a' := ?_) ?_ ?_
           rotate_left
           ·show Act.put _ (some 64) _ = _
            simp only [Act.put, List.setIfInBounds_toArray, List.set_cons_zero, List.set_cons_succ, i64_w, i32_w]
            rfl
           refine one_ (i := 9) (N := some 67) #[true, true, true, true, true, true, true, true, true, true, false, false, false, false, false, false, false, false, false, false, false, false, false, false, false, false, false, false, false] rfl rfl (one_of HT_.out (by kernel_rfl)) (by decide) (fun K hK => ?_)
           refine goes_ Tryz.func22 (by kernel_rfl) rfl #[.slice Ao71 t187.length co71, .slice Ao25 t153.length co25] (by rfl) rfl rfl (by (try simp only [List.map_toArray, List.map_cons, List.map_nil]); first | done | rfl | (simp only [List.length_drop, List.length_take]; rfl)) ?_
           with_reducible refine (beadrollref11_Same.calls kj15 _ _ t187 _ _ t153 true _ ?side1 ?side2 ?side3 ?side4 A33.out).mono ?_
           (case side1 => repeat (first | exact (Kd.R_reads' HO189.out).2.2 | (with_reducible refine Kd.C_alloc ?_ _) | (with_reducible refine Kd.C_drewN ?_ _) | (with_reducible refine Kd.C_drew ?_)))
           (case side2 => exact (Kd.R_reads' HO189.out).2.1)
           (case side3 => repeat (first | exact (Kd.R_reads' HO_158001.out).2.2 | (with_reducible refine Kd.C_alloc ?_ _) | (with_reducible refine Kd.C_drewN ?_ _) | (with_reducible refine Kd.C_drew ?_)))
           (case side4 => exact (Kd.R_reads' HO_158001.out).2.1)
           rintro e w' ⟨rfl, ⟨nd, rfl⟩⟩
           refine ⟨_, rfl, ?_⟩
           refine hK.out _ _ ⟨(blk_cell BK151.out 0).trans rfl, (blk_cell BK151.out 1).trans rfl, (blk_cell BK151.out 2).trans rfl, (blk_cell BK157.out 0).trans rfl, (blk_cell BK157.out 1).trans rfl, (blk_cell BK170.out 0).trans rfl, (blk_cell BK170.out 1).trans rfl, (blk_cell BK170.out 2).trans rfl, (blk_cell BK170.out 3).trans rfl, (blk_cell BK170.out 4).trans rfl, (blk_cell BK184.out 0).trans rfl, (blk_cell BK184.out 1).trans rfl, (blk_cell BK184.out 2).trans rfl, (blk_cell BK184.out 3).trans rfl, (blk_cell BK184.out 4).trans rfl, (blk_cell BK171.out 0).trans rfl, (blk_cell BK171.out 1).trans rfl, (blk_cell BK171.out 2).trans rfl, (blk_cell BK171.out 3).trans rfl, (blk_cell BK171.out 4).trans rfl, (blk_cell BK171.out 5).trans rfl, (blk_cell BK171.out 6).trans rfl, (blk_cell BK185.out 0).trans rfl, (blk_cell BK185.out 1).trans rfl, (blk_cell BK185.out 2).trans rfl, (blk_cell BK185.out 3).trans rfl, (blk_cell BK185.out 4).trans rfl, (blk_cell BK185.out 5).trans rfl, (blk_cell BK185.out 6).trans rfl⟩ (fun hHeld => ?_)
           clear hK K
           refine norm_ (a' := ?_) ?_ ?_
           rotate_left
           ·show Act.put _ (some 67) _ = _
            simp only [Act.put, List.setIfInBounds_toArray, List.set_cons_zero, List.set_cons_succ, i64_w, i32_w]
            rfl
           refine pure_ (i := 10) (N := some 68) (v := ?_) (a' := ?_) #[true, true, true, true, true, true, true, true, true, true, true, false, false, false, false, false, false, false, false, false, false, false, false, false, false, false, false, false, false] rfl rfl (any_of HT_.out (by kernel_rfl)) (fun _ _ _ h => h) (Or.inl ⟨by rfl, ?_⟩) ?_ ?_
           rotate_left
           ·intro w'
            go_simp
            with_reducible rfl
           rotate_left
           ·simp only [Act.put, List.setIfInBounds_toArray, List.set_cons_zero, List.set_cons_succ, i64_w, i32_w]
            rfl
           refine pure_ (i := 11) (N := some 69) (v := ?_) (a' := ?_) #[true, true, true, true, true, true, true, true, true, true, true, true, false, false, false, false, false, false, false, false, false, false, false, false, false, false, false, false, false] rfl rfl (any_of HT_.out (by kernel_rfl)) (fun _ _ _ h => h) (Or.inl ⟨by rfl, ?_⟩) ?_ ?_
           rotate_left
           ·intro w'
            go_simp
            with_reducible rfl
           rotate_left
           ·simp only [Act.put, List.setIfInBounds_toArray, List.set_cons_zero, List.set_cons_succ, i64_w, i32_w]
            rfl
           refine take_ (i := 12) (N := some 70) (v := ?_) (a' := ?_) #[true, true, true, true, true, true, true, true, true, true, true, true, true, false, false, false, false, false, false, false, false, false, false, false, false, false, false, false, false] rfl rfl (take_ofW HT_.out HW_.out (by kernel_rfl)) (fun _ _ _ h => h) (Or.inl ⟨by rfl, ?_⟩) hHeld ?_ ?_
           rotate_left
           ·rintro w' ⟨s0, s1, s2, s3, s4, s5, s6, s7, s8, s9, s10, s11, s12, s13, s14, s15, s16, s17, s18, s19, s20, s21, s22, s23, s24, s25, s26, s27, s28⟩
            go_simp
            with_reducible rfl
           rotate_left
           ·simp only [Act.put, List.setIfInBounds_toArray, List.set_cons_zero, List.set_cons_succ, i64_w, i32_w]
            rfl
           refine take_ (i := 14) (N := some 72) (v := ?_) (a' := ?_) #[true, true, true, true, true, true, true, true, true, true, true, true, true, false, true, false, false, false, false, false, false, false, false, false, false, false, false, false, false] rfl rfl (take_ofW HT_.out HW_.out (by kernel_rfl)) (fun _ _ _ h => h) (Or.inl ⟨by rfl, ?_⟩) hHeld ?_ ?_
           rotate_left
           ·rintro w' ⟨s0, s1, s2, s3, s4, s5, s6, s7, s8, s9, s10, s11, s12, s13, s14, s15, s16, s17, s18, s19, s20, s21, s22, s23, s24, s25, s26, s27, s28⟩
            go_simp
            with_reducible rfl
           rotate_left
           ·simp only [Act.put, List.setIfInBounds_toArray, List.set_cons_zero, List.set_cons_succ, i64_w, i32_w]
            rfl
           refine one_ (i := 13) (N := some 71) #[true, true, true, true, true, true, true, true, true, true, true, true, true, true, true, false, false, false, false, false, false, false, false, false, false, false, false, false, false] rfl rfl (one_of HT_.out (by kernel_rfl)) (by decide) (fun K hK => ?_)
           refine goes_ Tryz.func25 (by kernel_rfl) rfl #[.agg #[.string t145, .slice Ao20 t146.length co20, .int .i64 t149]] (by rfl) rfl rfl (by (try simp only [List.map_toArray, List.map_cons, List.map_nil]); first | done | rfl | (simp only [List.length_drop, List.length_take]; rfl)) ?_
           with_reducible refine (zone_Zone_Names.calls t145 _ _ t146 t149 t191 _ ?side1 ?side2 A35.out).mono ?_
           (case side1 => repeat (first | exact (Kd.R_reads' HO_152001.out).2.2 | (with_reducible refine Kd.C_alloc ?_ _) | (with_reducible refine Kd.C_drewN ?_ _) | (with_reducible refine Kd.C_drew ?_)))
           (case side2 => exact (Kd.R_reads' HO_152001.out).2.1)
           rintro e w72 ⟨v192, rfl, ho0, hb⟩
           refine ⟨_, rfl, ?_⟩
           have n0_ := Aside0.mk (Kd.R_below (by (with_reducible repeat (first | apply Kd.R_alloc | apply Kd.R_drewN | apply Kd.R_drew)); exact HO_152001.out) hb)
           have n1_ := Aside0.mk (Kd.R_below (by (with_reducible repeat (first | apply Kd.R_alloc | apply Kd.R_drewN | apply Kd.R_drew)); exact HO_158001.out) hb)
           have n2_ := Aside0.mk (Kd.R_below (by (with_reducible repeat (first | apply Kd.R_alloc | apply Kd.R_drewN | apply Kd.R_drew)); exact HO189.out) hb)
           have n3_ := Aside0.mk (Kd.R_lower ho0 (below_size (by repeat (first | (with_reducible first | exact HB.out | apply below_alloc | apply pw_below_drewN | apply below_drew1 | refine below_set ?_ GE151.out | refine below_set ?_ GE157.out | refine below_set ?_ GE170.out | refine below_set ?_ GE171.out | refine below_set ?_ GE184.out | refine below_set ?_ GE185.out) | exact HB.out))))
           have n4_ := Aside0.mk (blk_below (g := gb151) (o := .cells #[.string t145, .slice Ao20 t146.length co20, .int .i64 t149] 26 (0, 0)) (by (with_reducible repeat (first | refine blk_drewN ?_ _ | refine blk_drew ?_ | refine blk_alloc ?_ _)); exact BK151.out) hb)
           have n5_ := Aside0.mk (blk_below (g := gb157) (o := .cells #[.string t152, .slice Ao25 t153.length co25] 31 (0, 0)) (by (with_reducible repeat (first | refine blk_drewN ?_ _ | refine blk_drew ?_ | refine blk_alloc ?_ _)); exact BK157.out) hb)
           have n6_ := Aside0.mk (blk_below (g := gb170) (o := .cells #[.string t158, .int .i64 t159, .int .i64 t160, .int .i64 t161, .string t162] 35 (0, 0)) (by (with_reducible repeat (first | refine blk_drewN ?_ _ | refine blk_drew ?_ | refine blk_alloc ?_ _)); exact BK170.out) hb)
           have n7_ := Aside0.mk (blk_below (g := gb171) (o := .cells #[.string t163, .string t164, .int .u32 t165, .int .u32 t166, .int .u32 t167, .int .u32 t168, .int .u32 t169] 38 (0, 0)) (by (with_reducible repeat (first | refine blk_drewN ?_ _ | refine blk_drew ?_ | refine blk_alloc ?_ _)); exact BK171.out) hb)
           have n8_ := Aside0.mk (blk_below (g := gb184) (o := .cells #[.string t172, .int .i64 t173, .int .i64 t174, .int .i64 t175, .string t176] 35 (0, 0)) (by (with_reducible repeat (first | refine blk_drewN ?_ _ | refine blk_drew ?_ | refine blk_alloc ?_ _)); exact BK184.out) hb)
           have n9_ := Aside0.mk (blk_below (g := gb185) (o := .cells #[.string t177, .string t178, .int .u32 t179, .int .u32 t180, .int .u32 t181, .int .u32 t182, .int .u32 t183] 38 (0, 0)) (by (with_reducible repeat (first | refine blk_drewN ?_ _ | refine blk_drew ?_ | refine blk_alloc ?_ _)); exact BK185.out) hb)
           have n10_ := Aside0.mk (below_step (by repeat (first | (with_reducible first | exact HB.out | apply below_alloc | apply pw_below_drewN | apply below_drew1 | refine below_set ?_ GE151.out | refine below_set ?_ GE157.out | refine below_set ?_ GE170.out | refine below_set ?_ GE171.out | refine below_set ?_ GE184.out | refine below_set ?_ GE185.out) | exact HB.out)) hb)
           clear HO_152001
           clear HO_158001
           clear HO189
           clear BK151
           clear BK157
           clear BK170
           clear BK171
           clear BK184
           clear BK185
           clear HB
           have HO_152001 := n0_
           have HO_158001 := n1_
           have HO189 := n2_
           have HO193 := n3_
           have BK151 := n4_
           have BK157 := n5_
           have BK170 := n6_
           have BK171 := n7_
           have BK184 := n8_
           have BK185 := n9_
           have HB := n10_
           clear n0_ n1_ n2_ n3_ n4_ n5_ n6_ n7_ n8_ n9_ n10_
           (try clear hb)
           (try clear hb2)
           (try clear hk)
           (try clear hi)
           (try clear ho0)
           refine hK.out _ _ ⟨(blk_cell BK151.out 0).trans rfl, (blk_cell BK151.out 1).trans rfl, (blk_cell BK151.out 2).trans rfl, (blk_cell BK157.out 0).trans rfl, (blk_cell BK157.out 1).trans rfl, (blk_cell BK170.out 0).trans rfl, (blk_cell BK170.out 1).trans rfl, (blk_cell BK170.out 2).trans rfl, (blk_cell BK170.out 3).trans rfl, (blk_cell BK170.out 4).trans rfl, (blk_cell BK184.out 0).trans rfl, (blk_cell BK184.out 1).trans rfl, (blk_cell BK184.out 2).trans rfl, (blk_cell BK184.out 3).trans rfl, (blk_cell BK184.out 4).trans rfl, (blk_cell BK171.out 0).trans rfl, (blk_cell BK171.out 1).trans rfl, (blk_cell BK171.out 2).trans rfl, (blk_cell BK171.out 3).trans rfl, (blk_cell BK171.out 4).trans rfl, (blk_cell BK171.out 5).trans rfl, (blk_cell BK171.out 6).trans rfl, (blk_cell BK185.out 0).trans rfl, (blk_cell BK185.out 1).trans rfl, (blk_cell BK185.out 2).trans rfl, (blk_cell BK185.out 3).trans rfl, (blk_cell BK185.out 4).trans rfl, (blk_cell BK185.out 5).trans rfl, (blk_cell BK185.out 6).trans rfl⟩ (fun hHeld => ?_)
           clear hK K
           refine norm_ (a' := ?_) ?_ ?_
           rotate_left
           ·show Act.put _ (some 71) _ = _
            simp only [Act.put, List.setIfInBounds_toArray, List.set_cons_zero, List.set_cons_succ, i64_w, i32_w]
            rfl
           refine one_ (i := 15) (N := some 73) #[true, true, true, true, true, true, true, true, true, true, true, true, true, true, true, true, false, false, false, false, false, false, false, false, false, false, false, false, false] rfl rfl (one_of HT_.out (by kernel_rfl)) (by decide) (fun K hK => ?_)
           refine goes_ Tryz.func26 (by kernel_rfl) rfl #[.agg #[.string t152, .slice Ao25 t153.length co25]] (by rfl) rfl rfl (by (try simp only [List.map_toArray, List.map_cons, List.map_nil]); first | done | rfl | (simp only [List.length_drop, List.length_take]; rfl)) ?_
           with_reducible refine (beadrollref14_Zone_Names.calls kj15 t152 _ _ t153 t194 _ ?side1 ?side2 A36.out).mono ?_
           (case side1 => repeat (first | exact (Kd.R_reads' HO_158001.out).2.2 | (with_reducible refine Kd.C_alloc ?_ _) | (with_reducible refine Kd.C_drewN ?_ _) | (with_reducible refine Kd.C_drew ?_)))
           (case side2 => exact (Kd.R_reads' HO_158001.out).2.1)
           rintro e w73 ⟨v195, rfl, ho0, hb⟩
           refine ⟨_, rfl, ?_⟩
           have n0_ := Aside0.mk (Kd.R_below (by (with_reducible repeat (first | apply Kd.R_alloc | apply Kd.R_drewN | apply Kd.R_drew)); exact HO_152001.out) hb)
           have n1_ := Aside0.mk (Kd.R_below (by (with_reducible repeat (first | apply Kd.R_alloc | apply Kd.R_drewN | apply Kd.R_drew)); exact HO_158001.out) hb)
           have n2_ := Aside0.mk (Kd.R_below (by (with_reducible repeat (first | apply Kd.R_alloc | apply Kd.R_drewN | apply Kd.R_drew)); exact HO189.out) hb)
           have n3_ := Aside0.mk (Kd.R_elder' (by (with_reducible repeat (first | apply Kd.R_alloc | apply Kd.R_drewN | apply Kd.R_drew)); exact HO193.out) (Kd.R_base ho0) hb)
           have n4_ := Aside0.mk (Kd.R_lower (Kd.R_new' ho0 (Kd.R_lt (by (with_reducible repeat (first | apply Kd.R_alloc | apply Kd.R_drewN | apply Kd.R_drew)); exact HO193.out))) (below_size (by repeat (first | (with_reducible first | exact HB.out | apply below_alloc | apply pw_below_drewN | apply below_drew1 | refine below_set ?_ GE151.out | refine below_set ?_ GE157.out | refine below_set ?_ GE170.out | refine below_set ?_ GE171.out | refine below_set ?_ GE184.out | refine below_set ?_ GE185.out) | exact HB.out))))
           have n5_ := Aside0.mk (blk_below (g := gb151) (o := .cells #[.string t145, .slice Ao20 t146.length co20, .int .i64 t149] 26 (0, 0)) (by (with_reducible repeat (first | refine blk_drewN ?_ _ | refine blk_drew ?_ | refine blk_alloc ?_ _)); exact BK151.out) hb)
           have n6_ := Aside0.mk (blk_below (g := gb157) (o := .cells #[.string t152, .slice Ao25 t153.length co25] 31 (0, 0)) (by (with_reducible repeat (first | refine blk_drewN ?_ _ | refine blk_drew ?_ | refine blk_alloc ?_ _)); exact BK157.out) hb)
           have n7_ := Aside0.mk (blk_below (g := gb170) (o := .cells #[.string t158, .int .i64 t159, .int .i64 t160, .int .i64 t161, .string t162] 35 (0, 0)) (by (with_reducible repeat (first | refine blk_drewN ?_ _ | refine blk_drew ?_ | refine blk_alloc ?_ _)); exact BK170.out) hb)
           have n8_ := Aside0.mk (blk_below (g := gb171) (o := .cells #[.string t163, .string t164, .int .u32 t165, .int .u32 t166, .int .u32 t167, .int .u32 t168, .int .u32 t169] 38 (0, 0)) (by (with_reducible repeat (first | refine blk_drewN ?_ _ | refine blk_drew ?_ | refine blk_alloc ?_ _)); exact BK171.out) hb)
           have n9_ := Aside0.mk (blk_below (g := gb184) (o := .cells #[.string t172, .int .i64 t173, .int .i64 t174, .int .i64 t175, .string t176] 35 (0, 0)) (by (with_reducible repeat (first | refine blk_drewN ?_ _ | refine blk_drew ?_ | refine blk_alloc ?_ _)); exact BK184.out) hb)
           have n10_ := Aside0.mk (blk_below (g := gb185) (o := .cells #[.string t177, .string t178, .int .u32 t179, .int .u32 t180, .int .u32 t181, .int .u32 t182, .int .u32 t183] 38 (0, 0)) (by (with_reducible repeat (first | refine blk_drewN ?_ _ | refine blk_drew ?_ | refine blk_alloc ?_ _)); exact BK185.out) hb)
           have n11_ := Aside0.mk (below_step (by repeat (first | (with_reducible first | exact HB.out | apply below_alloc | apply pw_below_drewN | apply below_drew1 | refine below_set ?_ GE151.out | refine below_set ?_ GE157.out | refine below_set ?_ GE170.out | refine below_set ?_ GE171.out | refine below_set ?_ GE184.out | refine below_set ?_ GE185.out) | exact HB.out)) hb)
           clear HO_152001
           clear HO_158001
           clear HO189
           clear HO193
           clear BK151
           clear BK157
           clear BK170
           clear BK171
           clear BK184
           clear BK185
           clear HB
           have HO_152001 := n0_
           have HO_158001 := n1_
           have HO189 := n2_
           have HO193 := n3_
           have HO196 := n4_
           have BK151 := n5_
           have BK157 := n6_
           have BK170 := n7_
           have BK171 := n8_
           have BK184 := n9_
           have BK185 := n10_
           have HB := n11_
           clear n0_ n1_ n2_ n3_ n4_ n5_ n6_ n7_ n8_ n9_ n10_ n11_
           (try clear hb)
           (try clear hb2)
           (try clear hk)
           (try clear hi)
           (try clear ho0)
           obtain ⟨Ao74, co74, eo74⟩ := Kd.R_slice HO193.out
           (first | subst eo74 | (injection eo74 with f1_ f2_ f3_; have f4_ := f1_.symm; have f5_ := f3_.symm; clear f1_ f2_ f3_; subst f4_; subst f5_))
           obtain ⟨Ao75, co75, eo75⟩ := Kd.R_slice HO196.out
           (first | subst eo75 | (injection eo75 with f1_ f2_ f3_; have f4_ := f1_.symm; have f5_ := f3_.symm; clear f1_ f2_ f3_; subst f4_; subst f5_))
           refine hK.out _ _ ⟨(blk_cell BK151.out 0).trans rfl, (blk_cell BK151.out 1).trans rfl, (blk_cell BK151.out 2).trans rfl, (blk_cell BK157.out 0).trans rfl, (blk_cell BK157.out 1).trans rfl, (blk_cell BK170.out 0).trans rfl, (blk_cell BK170.out 1).trans rfl, (blk_cell BK170.out 2).trans rfl, (blk_cell BK170.out 3).trans rfl, (blk_cell BK170.out 4).trans rfl, (blk_cell BK184.out 0).trans rfl, (blk_cell BK184.out 1).trans rfl, (blk_cell BK184.out 2).trans rfl, (blk_cell BK184.out 3).trans rfl, (blk_cell BK184.out 4).trans rfl, (blk_cell BK171.out 0).trans rfl, (blk_cell BK171.out 1).trans rfl, (blk_cell BK171.out 2).trans rfl, (blk_cell BK171.out 3).trans rfl, (blk_cell BK171.out 4).trans rfl, (blk_cell BK171.out 5).trans rfl, (blk_cell BK171.out 6).trans rfl, (blk_cell BK185.out 0).trans rfl, (blk_cell BK185.out 1).trans rfl, (blk_cell BK185.out 2).trans rfl, (blk_cell BK185.out 3).trans rfl, (blk_cell BK185.out 4).trans rfl, (blk_cell BK185.out 5).trans rfl, (blk_cell BK185.out 6).trans rfl⟩ (fun hHeld => ?_)
           clear hK K
           refine norm_ (a' := ?_) ?_ ?_
           rotate_left
           ·show Act.put _ (some 73) _ = _
            simp only [Act.put, List.setIfInBounds_toArray, List.set_cons_zero, List.set_cons_succ, i64_w, i32_w]
            rfl
           refine one_ (i := 16) (N := some 74) #[true, true, true, true, true, true, true, true, true, true, true, true, true, true, true, true, true, false, false, false, false, false, false, false, false, false, false, false, false] rfl rfl (one_of HT_.out (by kernel_rfl)) (by decide) (fun K hK => ?_)
           refine goes_ Tryz.func24 (by kernel_rfl) rfl #[.slice Ao74 t191.length co74, .slice Ao75 t194.length co75] (by rfl) rfl rfl (by (try simp only [List.map_toArray, List.map_cons, List.map_nil]); first | done | rfl | (simp only [List.length_drop, List.length_take]; rfl)) ?_
           with_reducible refine (beadrollref01_Texts.calls kj15 _ _ t191 _ _ t194 true _ ?side1 ?side2 ?side3 ?side4 A37.out).mono ?_
           (case side1 => repeat (first | exact (Kd.R_reads' HO193.out).2.2 | (with_reducible refine Kd.C_alloc ?_ _) | (with_reducible refine Kd.C_drewN ?_ _) | (with_reducible refine Kd.C_drew ?_)))
           (case side2 => exact (Kd.R_reads' HO193.out).2.1)
           (case side3 => repeat (first | exact (Kd.R_reads' HO196.out).2.2 | (with_reducible refine Kd.C_alloc ?_ _) | (with_reducible refine Kd.C_drewN ?_ _) | (with_reducible refine Kd.C_drew ?_)))
           (case side4 => exact (Kd.R_reads' HO196.out).2.1)
           rintro e w' ⟨rfl, ⟨nd, rfl⟩⟩
           refine ⟨_, rfl, ?_⟩
           refine hK.out _ _ ⟨(blk_cell BK151.out 0).trans rfl, (blk_cell BK151.out 1).trans rfl, (blk_cell BK151.out 2).trans rfl, (blk_cell BK157.out 0).trans rfl, (blk_cell BK157.out 1).trans rfl, (blk_cell BK170.out 0).trans rfl, (blk_cell BK170.out 1).trans rfl, (blk_cell BK170.out 2).trans rfl, (blk_cell BK170.out 3).trans rfl, (blk_cell BK170.out 4).trans rfl, (blk_cell BK184.out 0).trans rfl, (blk_cell BK184.out 1).trans rfl, (blk_cell BK184.out 2).trans rfl, (blk_cell BK184.out 3).trans rfl, (blk_cell BK184.out 4).trans rfl, (blk_cell BK171.out 0).trans rfl, (blk_cell BK171.out 1).trans rfl, (blk_cell BK171.out 2).trans rfl, (blk_cell BK171.out 3).trans rfl, (blk_cell BK171.out 4).trans rfl, (blk_cell BK171.out 5).trans rfl, (blk_cell BK171.out 6).trans rfl, (blk_cell BK185.out 0).trans rfl, (blk_cell BK185.out 1).trans rfl, (blk_cell BK185.out 2).trans rfl, (blk_cell BK185.out 3).trans rfl, (blk_cell BK185.out 4).trans rfl, (blk_cell BK185.out 5).trans rfl, (blk_cell BK185.out 6).trans rfl⟩ (fun hHeld => ?_)
           clear hK K
           refine norm_ (a' := ?_) ?_ ?_
           rotate_left
           ·show Act.put _ (some 74) _ = _
            simp only [Act.put, List.setIfInBounds_toArray, List.set_cons_zero, List.set_cons_succ, i64_w, i32_w]
            rfl
           refine pure_ (i := 17) (N := some 75) (v := ?_) (a' := ?_) #[true, true, true, true, true, true, true, true, true, true, true, true, true, true, true, true, true, true, false, false, false, false, false, false, false, false, false, false, false] rfl rfl (any_of HT_.out (by kernel_rfl)) (fun _ _ _ h => h) (Or.inl ⟨by rfl, ?_⟩) ?_ ?_
           rotate_left
           ·intro w'
            go_simp
            with_reducible rfl
           rotate_left
           ·simp only [Act.put, List.setIfInBounds_toArray, List.set_cons_zero, List.set_cons_succ, i64_w, i32_w]
            rfl
           refine pure_ (i := 18) (N := some 76) (v := ?_) (a' := ?_) #[true, true, true, true, true, true, true, true, true, true, true, true, true, true, true, true, true, true, true, false, false, false, false, false, false, false, false, false, false] rfl rfl (any_of HT_.out (by kernel_rfl)) (fun _ _ _ h => h) (Or.inl ⟨by rfl, ?_⟩) ?_ ?_
           rotate_left
           ·intro w'
            go_simp
            with_reducible rfl
           rotate_left
           ·simp only [Act.put, List.setIfInBounds_toArray, List.set_cons_zero, List.set_cons_succ, i64_w, i32_w]
            rfl
           refine take_ (i := 19) (N := some 77) (v := ?_) (a' := ?_) #[true, true, true, true, true, true, true, true, true, true, true, true, true, true, true, true, true, true, true, true, false, false, false, false, false, false, false, false, false] rfl rfl (take_ofW HT_.out HW_.out (by kernel_rfl)) (fun _ _ _ h => h) (Or.inl ⟨by rfl, ?_⟩) hHeld ?_ ?_
           rotate_left
           ·rintro w' ⟨s0, s1, s2, s3, s4, s5, s6, s7, s8, s9, s10, s11, s12, s13, s14, s15, s16, s17, s18, s19, s20, s21, s22, s23, s24, s25, s26, s27, s28⟩
            go_simp
            with_reducible rfl
           rotate_left
           ·simp only [Act.put, List.setIfInBounds_toArray, List.set_cons_zero, List.set_cons_succ, i64_w, i32_w]
            rfl
           refine take_ (i := 20) (N := some 78) (v := ?_) (a' := ?_) #[true, true, true, true, true, true, true, true, true, true, true, true, true, true, true, true, true, true, true, true, true, false, false, false, false, false, false, false, false] rfl rfl (take_ofW HT_.out HW_.out (by kernel_rfl)) (fun _ _ _ h => h) (Or.inl ⟨by rfl, ?_⟩) hHeld ?_ ?_
           rotate_left
           ·rintro w' ⟨s0, s1, s2, s3, s4, s5, s6, s7, s8, s9, s10, s11, s12, s13, s14, s15, s16, s17, s18, s19, s20, s21, s22, s23, s24, s25, s26, s27, s28⟩
            go_simp
            with_reducible rfl
           rotate_left
           ·simp only [Act.put, List.setIfInBounds_toArray, List.set_cons_zero, List.set_cons_succ, i64_w, i32_w]
            rfl
           refine pure_ (i := 21) (N := some 79) (v := ?_) (a' := ?_) #[true, true, true, true, true, true, true, true, true, true, true, true, true, true, true, true, true, true, true, true, true, true, false, false, false, false, false, false, false] rfl rfl (any_of HT_.out (by kernel_rfl)) (fun _ _ _ h => h) (Or.inl ⟨by rfl, ?_⟩) ?_ ?_
           rotate_left
           ·intro w'
            go_simp
            with_reducible rfl
           rotate_left
           ·simp only [Act.put, List.setIfInBounds_toArray, List.set_cons_zero, List.set_cons_succ, i64_w, i32_w]
            rfl
           refine pure_ (i := 22) (N := some 80) (v := ?_) (a' := ?_) #[true, true, true, true, true, true, true, true, true, true, true, true, true, true, true, true, true, true, true, true, true, true, true, false, false, false, false, false, false] rfl rfl (any_of HT_.out (by kernel_rfl)) (fun _ _ _ h => h) (Or.inl ⟨by rfl, ?_⟩) ?_ ?_
           rotate_left
           ·intro w'
            go_simp
            with_reducible rfl
           rotate_left
           ·simp only [Act.put, List.setIfInBounds_toArray, List.set_cons_zero, List.set_cons_succ, i64_w, i32_w]
            rfl
           refine pure_ (i := 23) (N := some 81) (v := ?_) (a' := ?_) #[true, true, true, true, true, true, true, true, true, true, true, true, true, true, true, true, true, true, true, true, true, true, true, true, false, false, false, false, false] rfl rfl (any_of HT_.out (by kernel_rfl)) (fun _ _ _ h => h) (Or.inl ⟨by rfl, ?_⟩) ?_ ?_
           rotate_left
           ·intro w'
            go_simp
            with_reducible rfl
           rotate_left
           ·simp only [Act.put, List.setIfInBounds_toArray, List.set_cons_zero, List.set_cons_succ, i64_w, i32_w]
            rfl
           refine take_ (i := 24) (N := some 82) (v := ?_) (a' := ?_) #[true, true, true, true, true, true, true, true, true, true, true, true, true, true, true, true, true, true, true, true, true, true, true, true, true, false, false, false, false] rfl rfl (take_ofW HT_.out HW_.out (by kernel_rfl)) (fun _ _ _ h => h) (Or.inl ⟨by rfl, ?_⟩) hHeld ?_ ?_
           rotate_left
           ·rintro w' ⟨s0, s1, s2, s3, s4, s5, s6, s7, s8, s9, s10, s11, s12, s13, s14, s15, s16, s17, s18, s19, s20, s21, s22, s23, s24, s25, s26, s27, s28⟩
            go_simp
            with_reducible rfl
           rotate_left
           ·simp only [Act.put, List.setIfInBounds_toArray, List.set_cons_zero, List.set_cons_succ, i64_w, i32_w]
            rfl
           refine take_ (i := 25) (N := some 83) (v := ?_) (a' := ?_) #[true, true, true, true, true, true, true, true, true, true, true, true, true, true, true, true, true, true, true, true, true, true, true, true, true, true, false, false, false] rfl rfl (take_ofW HT_.out HW_.out (by kernel_rfl)) (fun _ _ _ h => h) (Or.inl ⟨by rfl, ?_⟩) hHeld ?_ ?_
           rotate_left
           ·rintro w' ⟨s0, s1, s2, s3, s4, s5, s6, s7, s8, s9, s10, s11, s12, s13, s14, s15, s16, s17, s18, s19, s20, s21, s22, s23, s24, s25, s26, s27, s28⟩
            go_simp
            with_reducible rfl
           rotate_left
           ·simp only [Act.put, List.setIfInBounds_toArray, List.set_cons_zero, List.set_cons_succ, i64_w, i32_w]
            rfl
           refine pure_ (i := 26) (N := some 84) (v := ?_) (a' := ?_) #[true, true, true, true, true, true, true, true, true, true, true, true, true, true, true, true, true, true, true, true, true, true, true, true, true, true, true, false, false] rfl rfl (any_of HT_.out (by kernel_rfl)) (fun _ _ _ h => h) (Or.inl ⟨by rfl, ?_⟩) ?_ ?_
           rotate_left
           ·intro w'
            go_simp
            with_reducible rfl
           rotate_left
           ·simp only [Act.put, List.setIfInBounds_toArray, List.set_cons_zero, List.set_cons_succ, i64_w, i32_w]
            rfl
           refine pure_ (i := 27) (N := some 85) (v := ?_) (a' := ?_) #[true, true, true, true, true, true, true, true, true, true, true, true, true, true, true, true, true, true, true, true, true, true, true, true, true, true, true, true, false] rfl rfl (any_of HT_.out (by kernel_rfl)) (fun _ _ _ h => h) (Or.inl ⟨by rfl, ?_⟩) ?_ ?_
           rotate_left
           ·intro w'
            go_simp
            with_reducible rfl
           rotate_left
           ·simp only [Act.put, List.setIfInBounds_toArray, List.set_cons_zero, List.set_cons_succ, i64_w, i32_w]
            rfl
           refine pure_ (i := 28) (N := some 4) (v := ?_) (a' := ?_) #[true, true, true, true, true, true, true, true, true, true, true, true, true, true, true, true, true, true, true, true, true, true, true, true, true, true, true, true, true] rfl rfl (any_of HT_.out (by kernel_rfl)) (fun _ _ _ h => h) (Or.inl ⟨by rfl, ?_⟩) ?_ ?_
           rotate_left
           ·intro w'
            go_simp
            with_reducible rfl
           rotate_left
           ·simp only [Act.put, List.setIfInBounds_toArray, List.set_cons_zero, List.set_cons_succ, i64_w, i32_w]
            rfl
           refine done_ (done_of HT_.out (by kernel_rfl)) ?_
           try go_wp2
           go_ret
           exact ⟨by first | rfl | (simp [errW_none, errW_some] <;> rfl) | (simp [*, errW_none, errW_some] <;> rfl), by repeat (first | (with_reducible first | exact HB.out | apply below_alloc | apply pw_below_drewN | apply below_drew1 | refine below_set ?_ GE151.out | refine below_set ?_ GE157.out | refine below_set ?_ GE170.out | refine below_set ?_ GE171.out | refine below_set ?_ GE184.out | refine below_set ?_ GE185.out) | exact HB.out)⟩
          ·rw [if_neg c39] at H
           exact absurd H (by simp)
         ·replace c38 := Bool.eq_false_iff.mpr c38
          subst c38
          have H1 : (none) = some r := by rw [if_neg (show ¬ (false = true) by decide)] at H; exact H
          clear H
          have H := H1
          clear H1
          exact absurd H (by simp)
        ·replace c34 := Bool.eq_false_iff.mpr c34
         subst c34
         have H1 : (none) = some r := by rw [if_neg (show ¬ (false = true) by decide)] at H; exact H
         clear H
         have H := H1
         clear H1
         exact absurd H (by simp)
       ·rw [if_neg c31] at H
        exact absurd H (by simp)
end Go.Proofs.YtjmpckommjlnlaaGreat.PZm
namespace Go.Proofs.YtjmpckommjlnlaaGreat.RowStructs
open Go.RowKit Go.ChangeShapes Go.WideShapes Go.Deep Go.Proofs.YtjmpckommjlnlaaGreatW.PrintWords
set_option linter.unusedVariables false
section
variable {H : Type} {enc : TypeId × Value → H} {P : Program} {W : World} {base : Nat} {spare : Nat → Bool} {held : Bool}
theorem fields_of {e : TypeId} {fs : Array Field} {fuel : Nat} {cs : List Value} {x : DataW H × List MemPlace} (he : P.underlying e = some (.struct fs)) (hone : oneCellFields P fs = true) (hC : P.cellsOf e = fs.size)
    (h : DataW.trod enc P W base spare held fuel e cs = some x) : cs.length = fs.size ∧ ∃ n, ∀ (j : Nat) (f : Field), fs[j]? = some f → ∃ v y, cs[j]? = some v ∧ DataW.trod enc P W base spare held n f.type [v] = some y := by
  obtain ⟨ys, n, _, _, hl, hyl, hf⟩ := DataW.trod_struct he h
  refine ⟨hl.trans hC, n, fun j f hj => ?_⟩
  obtain ⟨ho, hk⟩ := hone_of hone j f hj
  have hjl : j < fs.size := (Array.getElem?_eq_some_iff.1 hj).1
  have hcl : j < cs.length := by omega
  have hyj : j < ys.length := by omega
  have h1 := hf j f hj
  rw [ho, hk, List.drop_eq_getElem_cons hcl, List.take_succ_cons, List.take_zero] at h1
  exact ⟨cs[j], ys[j], List.getElem?_eq_getElem hcl, h1.trans (List.getElem?_eq_getElem hyj)⟩
theorem list_of {S : Type} (n : Nat) (R : Nat → S → Prop) (h : ∀ i, i < n → ∃ s, R i s) : ∃ l : List S, l.length = n ∧ ∀ i s, l[i]? = some s → R i s := by
  induction n with
  | zero => exact ⟨[], rfl, fun i s hs => by simp at hs⟩
  | succ n ih =>
    obtain ⟨l, hl, hr⟩ := ih fun i hi => h i (by omega)
    obtain ⟨s, hs⟩ := h n (by omega)
    refine ⟨l ++ [s], by simp [hl], fun i t ht => ?_⟩
    by_cases hi : i < n
    · rw [List.getElem?_append_left (by omega)] at ht; exact hr i t ht
    · rw [List.getElem?_append_right (by omega)] at ht
      by_cases e : i = n
      · subst e; rw [hl, Nat.sub_self] at ht; simp at ht; subst ht; exact hs
      · rw [List.getElem?_eq_none (by simp; omega)] at ht; cases ht
theorem structs_of {S : Type} (k : Kd S) (good : S → Prop) {t e : TypeId} {a : Option Addr} {len cap : Nat} {d : DataW H} {ps : List MemPlace} (hu : P.underlying t = some (.slice e)) (hC : P.cellsOf e = k.sz) (hpos : 0 < k.sz)
    (open1 : ∀ fuel cs x, DataW.trod enc P W base spare held fuel e cs = some x → ∃ s, k.K W s cs ∧ good s) (h : DataW.Trod enc P W base spare held t (.slice a len cap) d ps) :
    ∃ l : List S, len = l.length ∧ Kd.C k W a l.length l ∧ l.length ≤ cap ∧ l.length ≤ maxLen ∧ ∀ s ∈ l, good s := by
  obtain ⟨fuel, hf⟩ := h
  rcases open_slice hu hf with ⟨hcs, _⟩ | ⟨x, l, c, m, n, D, Pl, hcs, _, hl, hm, hmm, _, hi⟩
  · simp [Value.cells] at hcs
    obtain ⟨rfl, rfl, rfl⟩ := hcs
    exact ⟨[], rfl, Kd.C_nil _ _, Nat.le_refl _, Nat.zero_le _, by simp⟩
  · simp [Value.cells] at hcs
    obtain ⟨rfl, rfl, rfl⟩ := hcs
    have hlm : len ≤ m := by rw [hmm]; split <;> omega
    obtain ⟨L, hL, hR⟩ := list_of len (fun i s => good s ∧ ∃ cs', k.K W s cs' ∧ cs'.length = k.sz ∧ ∀ j u, cs'[j]? = some u → W.cell? (x.add (i * k.sz + j)) = some u) (fun i hi' => by
      obtain ⟨cs', hc, ht⟩ := hi i (by omega)
      obtain ⟨s, hs, hg⟩ := open1 _ _ _ ht
      rw [hC] at hc
      obtain ⟨_, hcl, hat⟩ := World.cells?_some hc
      refine ⟨s, hg, cs', hs, hcl, fun j u hj => ?_⟩
      have hjl : j < k.sz := by rw [← hcl]; exact (List.getElem?_eq_some_iff.1 hj).1
      have := hat j hjl
      rw [← Go.Deep.add_add]; rw [this]; exact hj)
    refine ⟨L, hL.symm, ⟨rfl, by unfold maxLen at hm; omega, fun _ => ⟨x, rfl, fun j p hp => ?_⟩⟩, by omega, by omega, fun s hs => ?_⟩
    · obtain ⟨_, c, h1, h2, h3⟩ := hR j p hp
      exact ⟨c, h2, h1, h3⟩
    · obtain ⟨i, hi', he⟩ := List.getElem_of_mem hs
      exact (hR i s (by rw [List.getElem?_eq_getElem hi', he])).1
end
end Go.Proofs.YtjmpckommjlnlaaGreat.RowStructs
namespace Go.Proofs.YtjmpckommjlnlaaGreat.RowStructs
open Go.RowKit Go.ChangeShapes Go.WideShapes Go.Deep Go.Proofs.YtjmpckommjlnlaaGreatW.PrintWords Go.Proofs.YtjmpckommjlnlaaGreat.PRd Go.Proofs.YtjmpckommjlnlaaGreat.PRr
set_option linter.unusedVariables false
structure GoodRR (s : S35) : Prop where
  n0 : s.f0.size ≤ maxLen
  n4 : s.f4.size ≤ maxLen
  i1 : (Lit.int .i64 s.f1).wf = true
  i2 : (Lit.int .i64 s.f2).wf = true
  i3 : (Lit.int .i64 s.f3).wf = true
section
variable {H : Type} {enc : TypeId × Value → H} {W : World} {base : Nat} {spare : Nat → Bool} {held : Bool}
theorem rr_of {fuel : Nat} {cs : List Value} {x : DataW H × List MemPlace} (h : DataW.trod enc Tryz.prog W base spare held fuel 35 cs = some x) : ∃ s : S35, cs = [.string s.f0, .int .i64 s.f1, .int .i64 s.f2, .int .i64 s.f3, .string s.f4] ∧ GoodRR s := by
  obtain ⟨hl, n, hf⟩ := fields_of Tryz.underlying35 (by kernel_rfl) (by kernel_rfl) h
  obtain ⟨v0, y0, c0, h0⟩ := hf 0 _ rfl
  obtain ⟨v1, y1, c1, h1⟩ := hf 1 _ rfl
  obtain ⟨v2, y2, c2, h2⟩ := hf 2 _ rfl
  obtain ⟨v3, y3, c3, h3⟩ := hf 3 _ rfl
  obtain ⟨v4, y4, c4, h4⟩ := hf 4 _ rfl
  obtain ⟨s, e0, _, g0⟩ := DataW.trod_string Tryz.underlying9 h0
  obtain ⟨a, e1, _, g1⟩ := DataW.trod_int Tryz.underlying3 h1
  obtain ⟨b, e2, _, g2⟩ := DataW.trod_int Tryz.underlying3 h2
  obtain ⟨c, e3, _, g3⟩ := DataW.trod_int Tryz.underlying3 h3
  obtain ⟨d, e4, _, g4⟩ := DataW.trod_string Tryz.underlying9 h4
  obtain rfl : v0 = .string s := by simpa using e0
  obtain rfl : v1 = .int .i64 a := by simpa using e1
  obtain rfl : v2 = .int .i64 b := by simpa using e2
  obtain rfl : v3 = .int .i64 c := by simpa using e3
  obtain rfl : v4 = .string d := by simpa using e4
  have : cs = [.string s, .int .i64 a, .int .i64 b, .int .i64 c, .string d] := by
    match cs, hl with
    | [p, q, r, t, u], _ => simp at c0 c1 c2 c3 c4; rw [c0, c1, c2, c3, c4]
  exact ⟨⟨s, a, b, c, d⟩, this, ⟨g0, g4, g1, g2, g3⟩⟩
theorem of_T35 {t : TypeId} {a : Option Addr} {len cap : Nat} {d : DataW H} {ps : List MemPlace} (hu : Tryz.prog.underlying t = some (.slice 35)) (h : DataW.Trod enc Tryz.prog W base spare held t (.slice a len cap) d ps) :
    ∃ l : List S35, len = l.length ∧ Kd.C k35 W a l.length l ∧ l.length ≤ cap ∧ l.length ≤ maxLen ∧ ∀ s ∈ l, GoodRR s :=
  structs_of k35 GoodRR hu (by kernel_rfl) (by decide) (fun _ _ _ h => by
    obtain ⟨s, rfl, hg⟩ := rr_of h
    exact ⟨s, k35_mk W s, hg⟩) h
end
end Go.Proofs.YtjmpckommjlnlaaGreat.RowStructs
namespace Go.Proofs.YtjmpckommjlnlaaGreat.Pure
open Go.RowKit Go.Proofs.YtjmpckommjlnlaaGreatW.PrintWords Go.Proofs.YtjmpckommjlnlaaGreat.Given Go.Proofs.YtjmpckommjlnlaaGreat.PRd Go.Proofs.YtjmpckommjlnlaaGreat.PRr Go.Proofs.YtjmpckommjlnlaaGreat.PZf Go.Proofs.YtjmpckommjlnlaaGreat.PZh Go.Proofs.YtjmpckommjlnlaaGreat.PZm Go.Proofs.YtjmpckommjlnlaaGreat.Rrs Go.Proofs.YtjmpckommjlnlaaGreat.RowStructs
set_option linter.unusedVariables false
theorem makes_off (a : ByteArray) (l : List RR) : Ev (fun k => beadrolllaw14_ZoneMakes.j0 k a l true) true :=
  Ev.step (f := fun k => (beadrolllaw14_awake.f k).bind fun t => some t) (fun k => by rw [beadrolllaw14_ZoneMakes.j0, if_pos rfl]) (Ev.bind ev_awake14 (Ev.now _))
theorem ZoneMakes (a : ByteArray) (l : List RR) (ha : a.size ≤ 140737488351232) (hm : l.length ≤ maxLen) (hs : ∀ s ∈ l, GoodRR s) : ∃ k, beadrolllaw14_ZoneMakes.f k a l = some true := by
  refine Ev.rounds ?_
  unfold maxLen at hm
  unfold beadrolllaw14_ZoneMakes.f
  refine Ev.bind ev_awake14 ?_
  simp only [if_true]
  obtain ⟨b, hb, hl⟩ := ev_few l (by omega)
  refine Ev.bind hb ?_
  cases b
  · simp only [Bool.false_eq_true, if_false]
    exact makes_off a l
  · have hl := hl rfl
    simp only [if_true]
    by_cases hz : (a.size : Int) > 600
    · rw [decide_eq_true hz]; exact makes_off a l
    · rw [decide_eq_false hz]
      have hst : ∀ k, beadrolllaw14_ZoneMakes.j0 (k + 1) a l false = (zone_New.f k a l).bind fun p => (beadrollref14_New.f k a l).bind fun q => if p.2.2.2 = q.2.2 then beadrolllaw14_ZoneMakes.j1 k a p.2.2.2 q.2.2 (q.2.2 != 0) p.1 p.2.1 p.2.2.1 q.1 q.2.1 else beadrolllaw14_ZoneMakes.j1 k a p.2.2.2 q.2.2 true p.1 p.2.1 p.2.2.1 q.1 q.2.1 := fun k => by
        rw [beadrolllaw14_ZoneMakes.j0, if_neg (by decide)]
      refine Ev.step hst (Ev.bind (ev_new a l (by omega)) (Ev.bind (ev_rnew a l (by omega)) ?_))
      rcases new_both a l (by omega) with ⟨s, hS, hsl, e1, e2, _⟩ | ⟨e, he, e1, e2⟩
      · rw [e1, e2]
        simp only [if_true, bne_self_eq_false]
        obtain ⟨j, hj, ej, hy, _, _, hr⟩ := hS.soa
        have hp := psoa_at a s j hj hr
        rw [← ej] at hp
        have hq := ev_rsoa a s s[j] hS.set.len hy hr
        refine Ev.step (f := fun k => (zone_Zone_Soa.f a s (soaI s)).bind fun bt158 => (beadrollref14_Zone_Soa.f k a s).bind fun bt172 => (zone_Zone_Apex.f a s (soaI s)).bind fun t186 => if t186.toList = a.toList then ((PZo.zone_Zone_All.f a s (soaI s)).bind fun t187 => (beadrollref11_Same.f k t187 s).bind fun t190 => if t190 = true then ((zone_Zone_Names.f a s (soaI s)).bind fun t191 => (beadrollref14_Zone_Names.f k a s).bind fun t194 => (beadrollref01_Texts.f k t191 t194).bind fun t197 => if t197 = true then (if (bt158.1.toList == bt172.1.toList && (bt158.2.1 == bt172.2.1 && (bt158.2.2.1 == bt172.2.2.1 && (bt158.2.2.2.1 == bt172.2.2.2.1 && (bt158.2.2.2.2.1.toList == bt172.2.2.2.2.1.toList))))) = true then (some (bt158.2.2.2.2.2.1.toList == bt172.2.2.2.2.2.1.toList && (bt158.2.2.2.2.2.2.1.toList == bt172.2.2.2.2.2.2.1.toList && (bt158.2.2.2.2.2.2.2.1 == bt172.2.2.2.2.2.2.2.1 && (bt158.2.2.2.2.2.2.2.2.1 == bt172.2.2.2.2.2.2.2.2.1 && (bt158.2.2.2.2.2.2.2.2.2.1 == bt172.2.2.2.2.2.2.2.2.2.1 && (bt158.2.2.2.2.2.2.2.2.2.2.1 == bt172.2.2.2.2.2.2.2.2.2.2.1 && (bt158.2.2.2.2.2.2.2.2.2.2.2 == bt172.2.2.2.2.2.2.2.2.2.2.2)))))))) else none) else none) else none) else none) (fun k => by rw [beadrolllaw14_ZoneMakes.j1, if_neg (by decide)]) ?_
        have hap : zone_Zone_Apex.f a s (soaI s) = some a := rfl
        simp only [hp, hap, all_f a s _ hS.set.len, pnames_f a s _ hS.set.len, Option.bind_some]
        refine Ev.bind hq ?_
        simp only [if_true]
        refine Ev.bind (ev_same s s (by have := hS.set.len; omega)) ?_
        simp only [decide_true, if_true]
        refine Ev.bind (ev_rnames a s hS.set.len) ?_
        refine Ev.bind (ev_texts _ _ ?_) ?_
        · unfold namesL
          rw [List.length_map]
          have := StrRows.compact_le ((s.map fun x => RdataFacts.foldN x.f0).map fun b : ByteArray => b.data.toList)
          rw [List.length_map, List.length_map] at this
          have := hS.set.len
          omega
        simp only [decide_true, if_true, beq_self_eq_true, Bool.and_self]
        exact Ev.now _
      · rw [e1, e2]
        simp only [if_true]
        rw [show (e != 0) = true from bne_iff_ne.mpr he]
        refine Ev.step (f := fun _ => some (e == e)) (fun k => by rw [beadrolllaw14_ZoneMakes.j1, if_pos rfl]) ?_
        rw [beq_self_eq_true]
        exact Ev.now _
end Go.Proofs.YtjmpckommjlnlaaGreat.Pure
