/- Joined out of this session's own texts: contracts and facts that the claim's row is drawn from, each with its own conditions. -/
import Derived.Test.YtekbecpcbfhdmaaJoined0
import Derived.Test.YtekbecpcbfhdmaaJoined1
import Derived.Outline
import Derived.Lib.Hide
import Derived.Deep.QuietTactic
import Derived.BigQuiet
import Derived.Test.YtekbecpcbfhdmaaWWords
import Derived.Deep.Slices
import Derived.Deep.Fields
import Derived.ProofKit
import Derived.SliceStrings
-- Written by this session's program gprint.py out of the translation; Lean checks it.
namespace Go.Proofs.Ytekbecpcbfhdmaa.PPak
open Go.RowKit Go.Proofs.YtekbecpcbfhdmaaW.PrintWords Go.Proofs.YtekbecpcbfhdmaaW.PrintLast Go.Proofs.YtekbecpcbfhdmaaW.PrintMore Go.Proofs.Ytekbecpcbfhdmaa.Given
attribute [local go_sem] max2_int min2_int max_two min_two max_three min_three max_four min_four   -- for this text's walks alone
set_option linter.unusedVariables false
set_option linter.unusedSimpArgs false

/-! ### octets_Join: function 20 -/
mutual
def octets_Join.j0 : Nat → List Int → List Int → Bool → Option (ByteArray × Int)
  | 0, _, _, _ => none
  | k + 1, x0, x1, x18 => if x18 = true then (some ((⟨#[]⟩ : ByteArray), 1)) else (octets_Join.l0 k x0 ([] : List Int) x1 (x1.length : Int) 0)
def octets_Join.l0 : Nat → List Int → List Int → List Int → Int → Int → Option (ByteArray × Int)
  | 0, _, _, _, _, _ => none
  | k + 1, x0, x6, x19, x20, x21 => if x21 < x20 then (if 0 ≤ x21 then (if x21 < (x19.length : Int) then (if x21 < (x0.length : Int) then ((octets_most.f (rd x19 x21)).bind fun t147 => (if (rd x0 x21) > t147 then (some ((⟨#[]⟩ : ByteArray), 1)) else ((octets_bytes.f k (rd x0 x21) (rd x19 x21)).bind fun t149 => (if x6.length + t149.length < 140737488355328 then (octets_Join.l0 k x0 (x6 ++ t149) x19 x20 (wrap64 (x21 + 1))) else (none))))) else (none)) else (none)) else (none)) else (some (strOfNums x6, 0))
end
def octets_Join.f (k : Nat) (l0 : List Int) (l1 : List Int) : Option (ByteArray × Int) := (octets_whole.f k l1).bind fun t144 => (if t144 = true then (octets_Join.j0 k l0 l1 ((l0.length : Int) != (l1.length : Int))) else (octets_Join.j0 k l0 l1 true))
theorem octets_Join.mono_l : ∀ k, (∀ y0 y1 y2, LeO (octets_Join.j0 k y0 y1 y2) (octets_Join.j0 (k + 1) y0 y1 y2)) ∧ (∀ y0 y1 y2 y3 y4, LeO (octets_Join.l0 k y0 y1 y2 y3 y4) (octets_Join.l0 (k + 1) y0 y1 y2 y3 y4))
  | 0 => ⟨fun _ _ _ r h => by simp [octets_Join.j0] at h, fun _ _ _ _ _ r h => by simp [octets_Join.l0] at h⟩
  | k + 1 => by
    obtain ⟨ih0, ih1⟩ := octets_Join.mono_l k
    refine ⟨?_, ?_⟩
    · intro y0 y1 y2
      unfold octets_Join.j0
      repeat' first
      | (with_reducible exact ih0 _ _ _)
      | (with_reducible exact ih1 _ _ _ _ _)
      | (with_reducible exact octets_bytes.mono _ _ _)
      | (with_reducible exact octets_whole.mono _ _)
      | (with_reducible exact LeO.refl _)
      | (with_reducible exact LeO.none _)
      | (with_reducible refine LeO.ite ?_ ?_)
      | (with_reducible refine LeO.bind ?_ (fun _ => ?_))
      | exact ih0 _ _ _
      | exact ih1 _ _ _ _ _
      | exact octets_bytes.mono _ _ _
      | exact octets_whole.mono _ _
      | exact LeO.none _
      | refine LeO.ite ?_ ?_
      | refine LeO.bind ?_ (fun _ => ?_)
    · intro y0 y1 y2 y3 y4
      unfold octets_Join.l0
      repeat' first
      | (with_reducible exact ih0 _ _ _)
      | (with_reducible exact ih1 _ _ _ _ _)
      | (with_reducible exact octets_bytes.mono _ _ _)
      | (with_reducible exact octets_whole.mono _ _)
      | (with_reducible exact LeO.refl _)
      | (with_reducible exact LeO.none _)
      | (with_reducible refine LeO.ite ?_ ?_)
      | (with_reducible refine LeO.bind ?_ (fun _ => ?_))
      | exact ih0 _ _ _
      | exact ih1 _ _ _ _ _
      | exact octets_bytes.mono _ _ _
      | exact octets_whole.mono _ _
      | exact LeO.none _
      | refine LeO.ite ?_ ?_
      | refine LeO.bind ?_ (fun _ => ?_)
theorem octets_Join.mono : ∀ a0 a1 k, LeO (octets_Join.f k a0 a1) (octets_Join.f (k + 1) a0 a1) := by
  intro a0 a1 k
  obtain ⟨ih0, ih1⟩ := octets_Join.mono_l k
  unfold octets_Join.f
  repeat' first
      | (with_reducible exact ih0 _ _ _)
      | (with_reducible exact ih1 _ _ _ _ _)
      | (with_reducible exact octets_bytes.mono _ _ _)
      | (with_reducible exact octets_whole.mono _ _)
      | (with_reducible exact LeO.refl _)
      | (with_reducible exact LeO.none _)
      | (with_reducible refine LeO.ite ?_ ?_)
      | (with_reducible refine LeO.bind ?_ (fun _ => ?_))
      | exact ih0 _ _ _
      | exact ih1 _ _ _ _ _
      | exact octets_bytes.mono _ _ _
      | exact octets_whole.mono _ _
      | exact LeO.none _
      | refine LeO.ite ?_ ?_
      | refine LeO.bind ?_ (fun _ => ?_)
set_option maxHeartbeats 8000000 in
set_option maxRecDepth 100000 in
theorem octets_Join.calls (k : Nat) (A0 : Option Addr) (c0 : Nat) (l0 : List Int) (A1 : Option Addr) (c1 : Nat) (l1 : List Int) (r1 : ByteArray) (r2 : Int) (w : World) (hr0 : Kd.C (Kd.int .u64) w A0 l0.length l0) (hc0 : l0.length ≤ c0) (hr1 : Kd.C (Kd.int .i64) w A1 l1.length l1) (hc1 : l1.length ≤ c1) (h : octets_Join.f k l0 l1 = some (r1, r2)) :
    Calls Try.prog 20 #[.slice A0 l0.length c0, .slice A1 l1.length c1] w fun e w' => e = .returned (.tuple #[.string r1, .int .i64 r2]) ∧ Below w.heap.size w w' := by
  have HR0 := Aside0.mk hr0
  have HC0 := Aside0.mk hc0
  clear hr0 hc0
  have HR1 := Aside0.mk hr1
  have HC1 := Aside0.mk hc1
  clear hr1 hc1
  have HB := Aside0.mk (Below.refl w.heap.size w)
  have H : ((octets_whole.f k l1).bind fun t144 => (if t144 = true then (octets_Join.j0 k l0 l1 ((l0.length : Int) != (l1.length : Int))) else (octets_Join.j0 k l0 l1 true))) = some (r1, r2) := h
  clear h
  have HC3 := Aside0.mk H
  clear H
  go_enter Try.func20, Try.ntmps20
  go_upto_region 1 with (fail)
  repeat (go_quiet (fail); go_upto_region 1 with (fail))
  go_cut [18] (fun v18 wc => ∃ (kq : Nat) (x18_2 : Bool), v18 = .bool x18_2 ∧ Aside0 (octets_Join.j0 kq l0 l1 x18_2 = some (r1, r2)) ∧ Aside0 (kq ≤ k) ∧ Aside0 (Below w.heap.size w wc))
  case first =>
    have H := HC3.out
    clear HC3
    replace H := Option.bind_eq_some_iff.mp H
    obtain ⟨t144, A40, H⟩ := H
    replace H : (if t144 = true then (octets_Join.j0 k l0 l1 ((l0.length : Int) != (l1.length : Int))) else (octets_Join.j0 k l0 l1 true)) = some (r1, r2) := H
    have A4 := Aside0.mk A40
    clear A40
    by_cases c5 : t144 = true
    · subst c5
      have H1 : (octets_Join.j0 k l0 l1 ((l0.length : Int) != (l1.length : Int))) = some (r1, r2) := by rw [if_pos rfl] at H; exact H
      clear H
      have H := H1
      clear H1
      have H' := Aside0.mk H
      clear H
      go_wp2_with (first | (go_at_call 26; (with_reducible refine (octets_whole.calls k _ _ l1 true _ ?side1 ?side2 A4.out).mono ?_); (case side1 => repeat (first | exact (Kd.C_below HR1.out HB.out) | (with_reducible refine Kd.C_alloc ?_ _) | (with_reducible refine Kd.C_drewN ?_ _) | (with_reducible refine Kd.C_drew ?_))); (case side2 => exact HC1.out); rintro e w' ⟨rfl, ⟨nd, rfl⟩⟩; (try first | exact ⟨rfl, _, World.drewN_drewN _ _ _⟩ | exact ⟨rfl, _, Eq.trans (World.drewN_drewN _ _ _) (congrArg (World.drewN _) (Nat.add_assoc _ _ _))⟩)))
      repeat (go_quiet (first | (go_at_call 26; (with_reducible refine (octets_whole.calls k _ _ l1 true _ ?side1 ?side2 A4.out).mono ?_); (case side1 => repeat (first | exact (Kd.C_below HR1.out HB.out) | (with_reducible refine Kd.C_alloc ?_ _) | (with_reducible refine Kd.C_drewN ?_ _) | (with_reducible refine Kd.C_drew ?_))); (case side2 => exact HC1.out); rintro e w' ⟨rfl, ⟨nd, rfl⟩⟩; (try first | exact ⟨rfl, _, World.drewN_drewN _ _ _⟩ | exact ⟨rfl, _, Eq.trans (World.drewN_drewN _ _ _) (congrArg (World.drewN _) (Nat.add_assoc _ _ _))⟩))); try go_wp2_with (first | (go_at_call 26; (with_reducible refine (octets_whole.calls k _ _ l1 true _ ?side1 ?side2 A4.out).mono ?_); (case side1 => repeat (first | exact (Kd.C_below HR1.out HB.out) | (with_reducible refine Kd.C_alloc ?_ _) | (with_reducible refine Kd.C_drewN ?_ _) | (with_reducible refine Kd.C_drew ?_))); (case side2 => exact HC1.out); rintro e w' ⟨rfl, ⟨nd, rfl⟩⟩; (try first | exact ⟨rfl, _, World.drewN_drewN _ _ _⟩ | exact ⟨rfl, _, Eq.trans (World.drewN_drewN _ _ _) (congrArg (World.drewN _) (Nat.add_assoc _ _ _))⟩))))
      go_meet
      case rel => exact ⟨_, (((l0.length : Int) != (l1.length : Int))), (by first | rfl | (simp; done) | (simp [*]; done)), H', ⟨by first | omega | exact Nat.le_refl _⟩, ⟨by repeat (first | (with_reducible first | exact HB.out | apply below_alloc | apply pw_below_drewN | apply below_drew1) | exact HB.out)⟩⟩
    · replace c5 := Bool.eq_false_iff.mpr c5
      subst c5
      have H1 : (octets_Join.j0 k l0 l1 true) = some (r1, r2) := by rw [if_neg (show ¬ (false = true) by decide)] at H; exact H
      clear H
      have H := H1
      clear H1
      have H' := Aside0.mk H
      clear H
      go_wp2_with (first | (go_at_call 26; (with_reducible refine (octets_whole.calls k _ _ l1 false _ ?side1 ?side2 A4.out).mono ?_); (case side1 => repeat (first | exact (Kd.C_below HR1.out HB.out) | (with_reducible refine Kd.C_alloc ?_ _) | (with_reducible refine Kd.C_drewN ?_ _) | (with_reducible refine Kd.C_drew ?_))); (case side2 => exact HC1.out); rintro e w' ⟨rfl, ⟨nd, rfl⟩⟩; (try first | exact ⟨rfl, _, World.drewN_drewN _ _ _⟩ | exact ⟨rfl, _, Eq.trans (World.drewN_drewN _ _ _) (congrArg (World.drewN _) (Nat.add_assoc _ _ _))⟩)))
      repeat (go_quiet (first | (go_at_call 26; (with_reducible refine (octets_whole.calls k _ _ l1 false _ ?side1 ?side2 A4.out).mono ?_); (case side1 => repeat (first | exact (Kd.C_below HR1.out HB.out) | (with_reducible refine Kd.C_alloc ?_ _) | (with_reducible refine Kd.C_drewN ?_ _) | (with_reducible refine Kd.C_drew ?_))); (case side2 => exact HC1.out); rintro e w' ⟨rfl, ⟨nd, rfl⟩⟩; (try first | exact ⟨rfl, _, World.drewN_drewN _ _ _⟩ | exact ⟨rfl, _, Eq.trans (World.drewN_drewN _ _ _) (congrArg (World.drewN _) (Nat.add_assoc _ _ _))⟩))); try go_wp2_with (first | (go_at_call 26; (with_reducible refine (octets_whole.calls k _ _ l1 false _ ?side1 ?side2 A4.out).mono ?_); (case side1 => repeat (first | exact (Kd.C_below HR1.out HB.out) | (with_reducible refine Kd.C_alloc ?_ _) | (with_reducible refine Kd.C_drewN ?_ _) | (with_reducible refine Kd.C_drew ?_))); (case side2 => exact HC1.out); rintro e w' ⟨rfl, ⟨nd, rfl⟩⟩; (try first | exact ⟨rfl, _, World.drewN_drewN _ _ _⟩ | exact ⟨rfl, _, Eq.trans (World.drewN_drewN _ _ _) (congrArg (World.drewN _) (Nat.add_assoc _ _ _))⟩))))
      go_meet
      case rel => exact ⟨_, (true), (by first | rfl | (simp; done) | (simp [*]; done)), H', ⟨by first | omega | exact Nat.le_refl _⟩, ⟨by repeat (first | (with_reducible first | exact HB.out | apply below_alloc | apply pw_below_drewN | apply below_drew1) | exact HB.out)⟩⟩
  case rest =>
    clear HC3
    try clear c1
    try clear c2
    try clear p2
    try clear c5
    obtain ⟨kq, x18_2, rfl, HA, HJ2, HB⟩ := hcut
    cases kq with
    | zero => exact absurd HA.out (by simp [octets_Join.j0])
    | succ kj2 =>
      have H := HA.out
      clear HA
      simp only [octets_Join.j0] at H
      by_cases c6 : x18_2 = true
      · subst c6
        have H1 : (some ((⟨#[]⟩ : ByteArray), 1)) = some (r1, r2) := by rw [if_pos rfl] at H; exact H
        clear H
        have H := H1
        clear H1
        simp only [Option.some.injEq, Prod.mk.injEq] at H
        obtain ⟨rfl, rfl⟩ := H
        go_wp2
        repeat (go_quiet (fail); try go_wp2)
        go_ret2
        exact ⟨by first | rfl | (simp [errW_none, errW_some] <;> rfl) | (simp [*, errW_none, errW_some] <;> rfl), by repeat (first | (with_reducible first | exact HB.out | apply below_alloc | apply pw_below_drewN | apply below_drew1) | exact HB.out)⟩
      · replace c6 := Bool.eq_false_iff.mpr c6
        subst c6
        have H1 : (octets_Join.l0 kj2 l0 ([] : List Int) l1 (l1.length : Int) 0) = some (r1, r2) := by rw [if_neg (show ¬ (false = true) by decide)] at H; exact H
        clear H
        have H := H1
        clear H1
        have H' := Aside0.mk H
        clear H
        go_wp2
        repeat (go_quiet (fail); try go_wp2)
        go_loopg [6, 21] kj2 (fun kq v6 v21 w' => ∃ (x6_2 : List Int) (x21_2 : Int), v21 = .int .i64 x21_2 ∧ Aside0 (octets_Join.l0 kq l0 x6_2 l1 (l1.length : Int) x21_2 = some (r1, r2)) ∧ Aside0 (kq ≤ kj2) ∧ Aside0 (Kd.R (Kd.int .u8) 5 w' w.heap.size (fun _ => True) v6 x6_2) ∧ Aside0 (Below w.heap.size w w'))
        case atStart => exact ⟨(([] : List Int)), (0), (by first | rfl | (simp; done) | (simp [*]; done)), H', ⟨Nat.le_refl _⟩, ⟨by first | exact Kd.R_nil _ _ _ _ _ | exact Kd.N_nil _ _ _ _ _ | exact Kd.V_nil _ _ _ _ _ | exact Kd.Q_nil _ _ _ _ _ | exact Kd.S_nil _ _ _ _ _⟩, ⟨by repeat (first | (with_reducible first | exact HB.out | apply below_alloc | apply pw_below_drewN | apply below_drew1) | exact HB.out)⟩⟩
        case round =>
          clear H'
          try clear c1
          try clear c2
          try clear p2
          try clear c5
          try clear c6
          try clear p2
          obtain ⟨x6_2, x21_2, rfl, HA, HK2, HO_6, HB⟩ := hrel
          cases gk with
          | zero => exact absurd HA.out (by simp [octets_Join.l0])
          | succ k2 =>
            have H := HA.out
            clear HA
            simp only [octets_Join.l0] at H
            by_cases c7 : x21_2 < (l1.length : Int)
            · rw [if_pos c7] at H
              have c7b0 : decide (x21_2 < (l1.length : Int)) = true := decide_eq_true c7
              clear c7
              by_cases c8 : 0 ≤ x21_2
              · rw [if_pos c8] at H
                have c8b0 : decide (0 ≤ x21_2) = true := decide_eq_true c8
                clear c8
                by_cases c9 : x21_2 < (l1.length : Int)
                · rw [if_pos c9] at H
                  have c9b0 : decide (x21_2 < (l1.length : Int)) = true := decide_eq_true c9
                  clear c9
                  by_cases c10 : x21_2 < (l0.length : Int)
                  · rw [if_pos c10] at H
                    have c10b0 : decide (x21_2 < (l0.length : Int)) = true := decide_eq_true c10
                    clear c10
                    replace H := Option.bind_eq_some_iff.mp H
                    obtain ⟨t147, A110, H⟩ := H
                    replace H : (if (rd l0 x21_2) > t147 then (some ((⟨#[]⟩ : ByteArray), 1)) else ((octets_bytes.f k2 (rd l0 x21_2) (rd l1 x21_2)).bind fun t149 => (if x6_2.length + t149.length < 140737488355328 then (octets_Join.l0 k2 l0 (x6_2 ++ t149) l1 (l1.length : Int) (wrap64 (x21_2 + 1))) else (none)))) = some (r1, r2) := H
                    have A11 := Aside0.mk A110
                    clear A110
                    by_cases c12 : (rd l0 x21_2) > t147
                    · rw [if_pos c12] at H
                      have c12b0 : decide (t147 < (rd l0 x21_2)) = true := decide_eq_true c12
                      clear c12
                      simp only [Option.some.injEq, Prod.mk.injEq] at H
                      obtain ⟨rfl, rfl⟩ := H
                      have p145 : 0 ≤ (x21_2 : Int) := of_decide_eq_true (by first | (with_reducible assumption) | assumption)
                      have q145 : x21_2 < (l1.length : Int) := of_decide_eq_true (by first | (with_reducible assumption) | assumption)
                      obtain ⟨ad145, e145, hx145_0⟩ := Kd.at_int HR1.out x21_2 p145 q145
                      cases e145
                      replace hx145_0 := (HB.out.cell (World.block_lt_of_cell? w _ hx145_0)).trans hx145_0
                      replace p145 := eq_true p145
                      replace q145 := eq_true q145
                      have p146 : 0 ≤ (x21_2 : Int) := of_decide_eq_true (by first | (with_reducible assumption) | assumption)
                      have q146 : x21_2 < (l0.length : Int) := of_decide_eq_true (by first | (with_reducible assumption) | assumption)
                      obtain ⟨ad146, e146, hx146_0⟩ := Kd.at_int HR0.out x21_2 p146 q146
                      cases e146
                      replace hx146_0 := (HB.out.cell (World.block_lt_of_cell? w _ hx146_0)).trans hx146_0
                      replace p146 := eq_true p146
                      replace q146 := eq_true q146
                      go_wp2_with (first | (go_at_call 27; (with_reducible refine (octets_most.calls (rd l1 x21_2) t147 _ A11.out).mono ?_); rintro e w' ⟨rfl, ⟨nd, rfl⟩⟩; (try first | exact ⟨rfl, _, World.drewN_drewN _ _ _⟩ | exact ⟨rfl, _, Eq.trans (World.drewN_drewN _ _ _) (congrArg (World.drewN _) (Nat.add_assoc _ _ _))⟩)))
                      repeat (go_quiet (first | (go_at_call 27; (with_reducible refine (octets_most.calls (rd l1 x21_2) t147 _ A11.out).mono ?_); rintro e w' ⟨rfl, ⟨nd, rfl⟩⟩; (try first | exact ⟨rfl, _, World.drewN_drewN _ _ _⟩ | exact ⟨rfl, _, Eq.trans (World.drewN_drewN _ _ _) (congrArg (World.drewN _) (Nat.add_assoc _ _ _))⟩))); try go_wp2_with (first | (go_at_call 27; (with_reducible refine (octets_most.calls (rd l1 x21_2) t147 _ A11.out).mono ?_); rintro e w' ⟨rfl, ⟨nd, rfl⟩⟩; (try first | exact ⟨rfl, _, World.drewN_drewN _ _ _⟩ | exact ⟨rfl, _, Eq.trans (World.drewN_drewN _ _ _) (congrArg (World.drewN _) (Nat.add_assoc _ _ _))⟩))))
                      go_ret2
                      exact ⟨by first | rfl | (simp [errW_none, errW_some] <;> rfl) | (simp [*, errW_none, errW_some] <;> rfl), by repeat (first | (with_reducible first | exact HB.out | apply below_alloc | apply pw_below_drewN | apply below_drew1) | exact HB.out)⟩
                    · rw [if_neg c12] at H
                      have c12b0 : decide (t147 < (rd l0 x21_2)) = false := decide_eq_false c12
                      clear c12
                      replace H := Option.bind_eq_some_iff.mp H
                      obtain ⟨t149, A130, H⟩ := H
                      replace H : (if x6_2.length + t149.length < 140737488355328 then (octets_Join.l0 k2 l0 (x6_2 ++ t149) l1 (l1.length : Int) (wrap64 (x21_2 + 1))) else (none)) = some (r1, r2) := H
                      have A13 := Aside0.mk A130
                      clear A130
                      by_cases c14 : x6_2.length + t149.length < 140737488355328
                      · rw [if_pos c14] at H
                        have LMc14 := Aside0.mk c14
                        clear c14
                        obtain ⟨y152, hy152⟩ : ∃ y_ : List Int, y_ = (x6_2 ++ t149) := ⟨_, rfl⟩
                        replace H : (octets_Join.l0 k2 l0 y152 l1 (l1.length : Int) (wrap64 (x21_2 + 1))) = some (r1, r2) := by first | (rw [hy152]; with_reducible exact H) | (have H2_ := (Option.bind_some _ _).symm.trans H; rw [hy152]; with_reducible exact H2_) | (have H2_ := (Option.bind_some _ _).symm.trans H; with_reducible exact H2_) | with_reducible exact H | (rw [hy152]; exact H) | exact H
                        have Ny152 := Aside0.mk hy152
                        clear hy152
                        have H' := Aside0.mk H
                        clear H
                        have p145 : 0 ≤ (x21_2 : Int) := of_decide_eq_true (by first | (with_reducible assumption) | assumption)
                        have q145 : x21_2 < (l1.length : Int) := of_decide_eq_true (by first | (with_reducible assumption) | assumption)
                        obtain ⟨ad145, e145, hx145_0⟩ := Kd.at_int HR1.out x21_2 p145 q145
                        cases e145
                        replace hx145_0 := (HB.out.cell (World.block_lt_of_cell? w _ hx145_0)).trans hx145_0
                        replace p145 := eq_true p145
                        replace q145 := eq_true q145
                        have p146 : 0 ≤ (x21_2 : Int) := of_decide_eq_true (by first | (with_reducible assumption) | assumption)
                        have q146 : x21_2 < (l0.length : Int) := of_decide_eq_true (by first | (with_reducible assumption) | assumption)
                        obtain ⟨ad146, e146, hx146_0⟩ := Kd.at_int HR0.out x21_2 p146 q146
                        cases e146
                        replace hx146_0 := (HB.out.cell (World.block_lt_of_cell? w _ hx146_0)).trans hx146_0
                        replace p146 := eq_true p146
                        replace q146 := eq_true q146
                        go_wp2_with (first | (go_at_call 27; (with_reducible refine (octets_most.calls (rd l1 x21_2) t147 _ A11.out).mono ?_); rintro e w' ⟨rfl, ⟨nd, rfl⟩⟩; (try first | exact ⟨rfl, _, World.drewN_drewN _ _ _⟩ | exact ⟨rfl, _, Eq.trans (World.drewN_drewN _ _ _) (congrArg (World.drewN _) (Nat.add_assoc _ _ _))⟩); have p148 : 0 ≤ (x21_2 : Int) := of_decide_eq_true (by first | (with_reducible assumption) | assumption); have q148 : x21_2 < (l0.length : Int) := of_decide_eq_true (by first | (with_reducible assumption) | assumption); obtain ⟨ad148, e148, hx148_0⟩ := Kd.at_int HR0.out x21_2 p148 q148; obtain rfl : ad146 = ad148 := (by injection e148); replace hx148_0 := (HB.out.cell (World.block_lt_of_cell? w _ hx148_0)).trans hx148_0; replace p148 := eq_true p148; replace q148 := eq_true q148) | (go_at_call 28; (with_reducible refine (octets_bytes.calls k2 (rd l0 x21_2) (rd l1 x21_2) t149 _ A13.out).mono ?_); rintro e w15 ⟨v150, rfl, ho0, hb⟩; have n0_ := Aside0.mk (Kd.R_elder' (by (with_reducible repeat (first | apply Kd.R_alloc | apply Kd.R_drewN | apply Kd.R_drew)); exact HO_6.out) (Kd.R_base ho0) hb); have n1_ := Aside0.mk (Kd.R_lower (Kd.R_new' ho0 (Kd.R_lt (by (with_reducible repeat (first | apply Kd.R_alloc | apply Kd.R_drewN | apply Kd.R_drew)); exact HO_6.out))) (below_size (by repeat (first | (with_reducible first | exact HB.out | apply below_alloc | apply pw_below_drewN | apply below_drew1) | exact HB.out)))); have n2_ := Aside0.mk (below_step (by repeat (first | (with_reducible first | exact HB.out | apply below_alloc | apply pw_below_drewN | apply below_drew1) | exact HB.out)) hb); clear HO_6; clear HB; have HO_6 := n0_; have HO151 := n1_; have HB := n2_; clear n0_ n1_ n2_; (try clear hb); (try clear hb2); (try clear hk); (try clear hi); (try clear ho0); obtain ⟨Ao17, co17, eo17⟩ := Kd.R_slice HO151.out; subst eo17) | ((with_reducible refine gate_builtin (b := .append) (xs := #[.tmp 33, .tmp 39]) rfl ?_); (try (refine gate_guard (by rfl) ?_; dsimp only)); at_builtin; refine Kd.R_append_rows (Kd.int .u8) (w0 := w) w.heap.size rfl (.tmp 33) (.tmp 39) 44 5 (.int .u8 0) 1 rfl Try.underlying44 info5 rfl (by decide) (by omega) u6 x6_2 t149 _ _ _ (fun k_ => some k_ ≠ (.slice Ao17 t149.length co17 : Value).ownBlock) (fun _ => False) rfl rfl ?aO ?aR (fun _ _ h => h) (fun _ h => h.elim) ?aF ?aB ?aS ?aL ?_; (case aR => repeat (first | exact (Kd.R_reads' HO151.out).2.2 | (with_reducible refine Kd.C_alloc ?_ _) | (with_reducible refine Kd.C_drewN ?_ _) | (with_reducible refine Kd.C_drew ?_))); (case aB => exact (by repeat (first | (with_reducible first | exact HB.out | apply below_alloc | apply pw_below_drewN | apply below_drew1) | exact HB.out))); (case aF => exact (fun k_ hk => Kd.fresh' (Kd.R_lt (by (with_reducible repeat (first | apply Kd.R_alloc | apply Kd.R_drewN | apply Kd.R_drew)); exact HO151.out)) k_ hk)); (case aO => exact (by (with_reducible repeat (first | apply Kd.R_alloc | apply Kd.R_drewN | apply Kd.R_drew)); exact Kd.R_mono HO_6.out (fun _ hk => hk.2))); (case aS => exact (below_size (by repeat (first | (with_reducible first | exact HB.out | apply below_alloc | apply pw_below_drewN | apply below_drew1) | exact HB.out)))); (case aL => have := LMc14.out; omega); intro v153 w16 ho hb hg hat; rw [← Ny152.out] at ho; have n0_ := Aside0.mk (Kd.R_after (ok := (fun _ => True)) (by (with_reducible repeat (first | apply Kd.R_alloc | apply Kd.R_drewN | apply Kd.R_drew)); exact HO151.out) hg hat); have n1_ := Aside0.mk (hb); have n2_ := Aside0.mk (ho); clear HO151; clear HB; clear HO_6; have HO151 := n0_; have HB := n1_; have HO154 := n2_; clear n0_ n1_ n2_; clear ho hb hg hat))
                        repeat (go_quiet (first | (go_at_call 27; (with_reducible refine (octets_most.calls (rd l1 x21_2) t147 _ A11.out).mono ?_); rintro e w' ⟨rfl, ⟨nd, rfl⟩⟩; (try first | exact ⟨rfl, _, World.drewN_drewN _ _ _⟩ | exact ⟨rfl, _, Eq.trans (World.drewN_drewN _ _ _) (congrArg (World.drewN _) (Nat.add_assoc _ _ _))⟩); have p148 : 0 ≤ (x21_2 : Int) := of_decide_eq_true (by first | (with_reducible assumption) | assumption); have q148 : x21_2 < (l0.length : Int) := of_decide_eq_true (by first | (with_reducible assumption) | assumption); obtain ⟨ad148, e148, hx148_0⟩ := Kd.at_int HR0.out x21_2 p148 q148; obtain rfl : ad146 = ad148 := (by injection e148); replace hx148_0 := (HB.out.cell (World.block_lt_of_cell? w _ hx148_0)).trans hx148_0; replace p148 := eq_true p148; replace q148 := eq_true q148) | (go_at_call 28; (with_reducible refine (octets_bytes.calls k2 (rd l0 x21_2) (rd l1 x21_2) t149 _ A13.out).mono ?_); rintro e w15 ⟨v150, rfl, ho0, hb⟩; have n0_ := Aside0.mk (Kd.R_elder' (by (with_reducible repeat (first | apply Kd.R_alloc | apply Kd.R_drewN | apply Kd.R_drew)); exact HO_6.out) (Kd.R_base ho0) hb); have n1_ := Aside0.mk (Kd.R_lower (Kd.R_new' ho0 (Kd.R_lt (by (with_reducible repeat (first | apply Kd.R_alloc | apply Kd.R_drewN | apply Kd.R_drew)); exact HO_6.out))) (below_size (by repeat (first | (with_reducible first | exact HB.out | apply below_alloc | apply pw_below_drewN | apply below_drew1) | exact HB.out)))); have n2_ := Aside0.mk (below_step (by repeat (first | (with_reducible first | exact HB.out | apply below_alloc | apply pw_below_drewN | apply below_drew1) | exact HB.out)) hb); clear HO_6; clear HB; have HO_6 := n0_; have HO151 := n1_; have HB := n2_; clear n0_ n1_ n2_; (try clear hb); (try clear hb2); (try clear hk); (try clear hi); (try clear ho0); obtain ⟨Ao17, co17, eo17⟩ := Kd.R_slice HO151.out; subst eo17) | ((with_reducible refine gate_builtin (b := .append) (xs := #[.tmp 33, .tmp 39]) rfl ?_); (try (refine gate_guard (by rfl) ?_; dsimp only)); at_builtin; refine Kd.R_append_rows (Kd.int .u8) (w0 := w) w.heap.size rfl (.tmp 33) (.tmp 39) 44 5 (.int .u8 0) 1 rfl Try.underlying44 info5 rfl (by decide) (by omega) u6 x6_2 t149 _ _ _ (fun k_ => some k_ ≠ (.slice Ao17 t149.length co17 : Value).ownBlock) (fun _ => False) rfl rfl ?aO ?aR (fun _ _ h => h) (fun _ h => h.elim) ?aF ?aB ?aS ?aL ?_; (case aR => repeat (first | exact (Kd.R_reads' HO151.out).2.2 | (with_reducible refine Kd.C_alloc ?_ _) | (with_reducible refine Kd.C_drewN ?_ _) | (with_reducible refine Kd.C_drew ?_))); (case aB => exact (by repeat (first | (with_reducible first | exact HB.out | apply below_alloc | apply pw_below_drewN | apply below_drew1) | exact HB.out))); (case aF => exact (fun k_ hk => Kd.fresh' (Kd.R_lt (by (with_reducible repeat (first | apply Kd.R_alloc | apply Kd.R_drewN | apply Kd.R_drew)); exact HO151.out)) k_ hk)); (case aO => exact (by (with_reducible repeat (first | apply Kd.R_alloc | apply Kd.R_drewN | apply Kd.R_drew)); exact Kd.R_mono HO_6.out (fun _ hk => hk.2))); (case aS => exact (below_size (by repeat (first | (with_reducible first | exact HB.out | apply below_alloc | apply pw_below_drewN | apply below_drew1) | exact HB.out)))); (case aL => have := LMc14.out; omega); intro v153 w16 ho hb hg hat; rw [← Ny152.out] at ho; have n0_ := Aside0.mk (Kd.R_after (ok := (fun _ => True)) (by (with_reducible repeat (first | apply Kd.R_alloc | apply Kd.R_drewN | apply Kd.R_drew)); exact HO151.out) hg hat); have n1_ := Aside0.mk (hb); have n2_ := Aside0.mk (ho); clear HO151; clear HB; clear HO_6; have HO151 := n0_; have HB := n1_; have HO154 := n2_; clear n0_ n1_ n2_; clear ho hb hg hat)); try go_wp2_with (first | (go_at_call 27; (with_reducible refine (octets_most.calls (rd l1 x21_2) t147 _ A11.out).mono ?_); rintro e w' ⟨rfl, ⟨nd, rfl⟩⟩; (try first | exact ⟨rfl, _, World.drewN_drewN _ _ _⟩ | exact ⟨rfl, _, Eq.trans (World.drewN_drewN _ _ _) (congrArg (World.drewN _) (Nat.add_assoc _ _ _))⟩); have p148 : 0 ≤ (x21_2 : Int) := of_decide_eq_true (by first | (with_reducible assumption) | assumption); have q148 : x21_2 < (l0.length : Int) := of_decide_eq_true (by first | (with_reducible assumption) | assumption); obtain ⟨ad148, e148, hx148_0⟩ := Kd.at_int HR0.out x21_2 p148 q148; obtain rfl : ad146 = ad148 := (by injection e148); replace hx148_0 := (HB.out.cell (World.block_lt_of_cell? w _ hx148_0)).trans hx148_0; replace p148 := eq_true p148; replace q148 := eq_true q148) | (go_at_call 28; (with_reducible refine (octets_bytes.calls k2 (rd l0 x21_2) (rd l1 x21_2) t149 _ A13.out).mono ?_); rintro e w15 ⟨v150, rfl, ho0, hb⟩; have n0_ := Aside0.mk (Kd.R_elder' (by (with_reducible repeat (first | apply Kd.R_alloc | apply Kd.R_drewN | apply Kd.R_drew)); exact HO_6.out) (Kd.R_base ho0) hb); have n1_ := Aside0.mk (Kd.R_lower (Kd.R_new' ho0 (Kd.R_lt (by (with_reducible repeat (first | apply Kd.R_alloc | apply Kd.R_drewN | apply Kd.R_drew)); exact HO_6.out))) (below_size (by repeat (first | (with_reducible first | exact HB.out | apply below_alloc | apply pw_below_drewN | apply below_drew1) | exact HB.out)))); have n2_ := Aside0.mk (below_step (by repeat (first | (with_reducible first | exact HB.out | apply below_alloc | apply pw_below_drewN | apply below_drew1) | exact HB.out)) hb); clear HO_6; clear HB; have HO_6 := n0_; have HO151 := n1_; have HB := n2_; clear n0_ n1_ n2_; (try clear hb); (try clear hb2); (try clear hk); (try clear hi); (try clear ho0); obtain ⟨Ao17, co17, eo17⟩ := Kd.R_slice HO151.out; subst eo17) | ((with_reducible refine gate_builtin (b := .append) (xs := #[.tmp 33, .tmp 39]) rfl ?_); (try (refine gate_guard (by rfl) ?_; dsimp only)); at_builtin; refine Kd.R_append_rows (Kd.int .u8) (w0 := w) w.heap.size rfl (.tmp 33) (.tmp 39) 44 5 (.int .u8 0) 1 rfl Try.underlying44 info5 rfl (by decide) (by omega) u6 x6_2 t149 _ _ _ (fun k_ => some k_ ≠ (.slice Ao17 t149.length co17 : Value).ownBlock) (fun _ => False) rfl rfl ?aO ?aR (fun _ _ h => h) (fun _ h => h.elim) ?aF ?aB ?aS ?aL ?_; (case aR => repeat (first | exact (Kd.R_reads' HO151.out).2.2 | (with_reducible refine Kd.C_alloc ?_ _) | (with_reducible refine Kd.C_drewN ?_ _) | (with_reducible refine Kd.C_drew ?_))); (case aB => exact (by repeat (first | (with_reducible first | exact HB.out | apply below_alloc | apply pw_below_drewN | apply below_drew1) | exact HB.out))); (case aF => exact (fun k_ hk => Kd.fresh' (Kd.R_lt (by (with_reducible repeat (first | apply Kd.R_alloc | apply Kd.R_drewN | apply Kd.R_drew)); exact HO151.out)) k_ hk)); (case aO => exact (by (with_reducible repeat (first | apply Kd.R_alloc | apply Kd.R_drewN | apply Kd.R_drew)); exact Kd.R_mono HO_6.out (fun _ hk => hk.2))); (case aS => exact (below_size (by repeat (first | (with_reducible first | exact HB.out | apply below_alloc | apply pw_below_drewN | apply below_drew1) | exact HB.out)))); (case aL => have := LMc14.out; omega); intro v153 w16 ho hb hg hat; rw [← Ny152.out] at ho; have n0_ := Aside0.mk (Kd.R_after (ok := (fun _ => True)) (by (with_reducible repeat (first | apply Kd.R_alloc | apply Kd.R_drewN | apply Kd.R_drew)); exact HO151.out) hg hat); have n1_ := Aside0.mk (hb); have n2_ := Aside0.mk (ho); clear HO151; clear HB; clear HO_6; have HO151 := n0_; have HB := n1_; have HO154 := n2_; clear n0_ n1_ n2_; clear ho hb hg hat)))
                        go_roundg k2
                        case measure => have := HJ2.out; have := HK2.out; omega
                        case rel => exact ⟨(y152), (wrap64 (x21_2 + 1)), (by first | rfl | (simp; done) | (simp [*]; done)), H', ⟨by have := HJ2.out; have := HK2.out; omega⟩, ⟨by (with_reducible repeat (first | apply Kd.R_alloc | apply Kd.R_drewN | apply Kd.R_drew)); exact Kd.R_mono HO154.out (fun _ hk => trivial)⟩, ⟨by repeat (first | (with_reducible first | exact HB.out | apply below_alloc | apply pw_below_drewN | apply below_drew1) | exact HB.out)⟩⟩
                      · rw [if_neg c14] at H
                        exact absurd H (by simp)
                  · rw [if_neg c10] at H
                    exact absurd H (by simp)
                · rw [if_neg c9] at H
                  exact absurd H (by simp)
              · rw [if_neg c8] at H
                exact absurd H (by simp)
            · rw [if_neg c7] at H
              have c7b0 : decide (x21_2 < (l1.length : Int)) = false := decide_eq_false c7
              clear c7
              simp only [Option.some.injEq, Prod.mk.injEq] at H
              obtain ⟨rfl, rfl⟩ := H
              have hcv18 := own_string (P := Try.prog) Try.underlying44 Try.underlying5 Try.underlying9 (Kd.own_of_R HO_6.out)
              go_wp2
              repeat (go_quiet (fail); try go_wp2)
              go_ret2
              exact ⟨by first | rfl | (simp [errW_none, errW_some] <;> rfl) | (simp [*, errW_none, errW_some] <;> rfl), by repeat (first | (with_reducible first | exact HB.out | apply below_alloc | apply pw_below_drewN | apply below_drew1) | exact HB.out)⟩

-- NOT PRINTED: function 12 (pack_Packer_Name)

/-! ### beadrollref09_Packer_find: function 23 -/
def beadrollref09_Packer_find.l0 : Nat → ByteArray → Int → ByteArray → List (S62) → Option (Int)
  | 0, _, _, _, _ => none
  | k + 1, x1, x5, x156000, x156001 => if x5 < (x156001.length : Int) then (if 0 ≤ x5 then (if ((rd_T62 x156001 x5).f0).toList = x1.toList then (some ((rd_T62 x156001 x5).f1)) else (beadrollref09_Packer_find.l0 k x1 (wrap64 (x5 + 1)) x156000 x156001)) else (none)) else (some (-1))
def beadrollref09_Packer_find.f (k : Nat) (a0_0 : ByteArray) (l0_1 : List (S62)) (a1 : ByteArray) : Option (Int) := beadrollref09_Packer_find.l0 k a1 0 a0_0 l0_1
theorem beadrollref09_Packer_find.mono_l : ∀ k, (∀ y0 y1 y2 y3, LeO (beadrollref09_Packer_find.l0 k y0 y1 y2 y3) (beadrollref09_Packer_find.l0 (k + 1) y0 y1 y2 y3))
  | 0 => fun _ _ _ _ r h => by simp [beadrollref09_Packer_find.l0] at h
  | k + 1 => by
    have ih0 := beadrollref09_Packer_find.mono_l k
    · intro y0 y1 y2 y3
      unfold beadrollref09_Packer_find.l0
      repeat' first
      | (with_reducible exact ih0 _ _ _ _)
      | (with_reducible exact LeO.refl _)
      | (with_reducible exact LeO.none _)
      | (with_reducible refine LeO.ite ?_ ?_)
      | (with_reducible refine LeO.bind ?_ (fun _ => ?_))
      | exact ih0 _ _ _ _
      | exact LeO.none _
      | refine LeO.ite ?_ ?_
      | refine LeO.bind ?_ (fun _ => ?_)
theorem beadrollref09_Packer_find.mono : ∀ a0 a1 a2 k, LeO (beadrollref09_Packer_find.f k a0 a1 a2) (beadrollref09_Packer_find.f (k + 1) a0 a1 a2) := by
  intro a0 a1 a2 k
  have ih0 := beadrollref09_Packer_find.mono_l k
  unfold beadrollref09_Packer_find.f
  repeat' first
      | (with_reducible exact ih0 _ _ _ _)
      | (with_reducible exact LeO.refl _)
      | (with_reducible exact LeO.none _)
      | (with_reducible refine LeO.ite ?_ ?_)
      | (with_reducible refine LeO.bind ?_ (fun _ => ?_))
      | exact ih0 _ _ _ _
      | exact LeO.none _
      | refine LeO.ite ?_ ?_
      | refine LeO.bind ?_ (fun _ => ?_)
set_option maxHeartbeats 8000000 in
set_option maxRecDepth 100000 in
theorem beadrollref09_Packer_find.calls (k : Nat) (a0_0 : ByteArray) (A0_1 : Option Addr) (c0_1 : Nat) (l0_1 : List (S62)) (a1 : ByteArray) (r : Int) (w : World) (hr0_1 : Kd.C k62 w A0_1 l0_1.length l0_1) (hc0_1 : l0_1.length ≤ c0_1) (h : beadrollref09_Packer_find.f k a0_0 l0_1 a1 = some r) :
    Calls Try.prog 23 #[.agg #[.string a0_0, .slice A0_1 l0_1.length c0_1], .string a1] w fun e w' => e = .returned (.int .i64 r) ∧ Below w.heap.size w w' := by
  have hu29 := Try.underlying29
  have HR0_1 := Aside0.mk hr0_1
  have HC0_1 := Aside0.mk hc0_1
  clear hr0_1 hc0_1
  have HB := Aside0.mk (Below.refl w.heap.size w)
  have H : (beadrollref09_Packer_find.l0 k a1 0 a0_0 l0_1) = some r := h
  clear h
  have H' := Aside0.mk H
  clear H
  go_enter Try.func23, Try.ntmps23
  go_wp2_with (first | ((with_reducible refine gate_dst (N := 2) rfl ?_); refine box_event ?hg (N := 2) ?hd (cs := #[.string a0_0, .slice A0_1 l0_1.length c0_1]) (t := 29) ?hr ?_; (case hd => rfl); (case hg => rfl); (case hr => first | (go_simp; done) | (go_simp; rfl)); intro gb155 hg w3 hbox hb; have n0_ := Aside0.mk (below_step (by repeat (first | (with_reducible first | exact HB.out | apply below_alloc | apply pw_below_drewN | apply below_drew1) | exact HB.out)) hb); have n1_ := Aside0.mk (hbox); have n2_ := Aside0.mk ((by rw [hg]; exact (below_size (by repeat (first | (with_reducible first | exact HB.out | apply below_alloc | apply pw_below_drewN | apply below_drew1) | exact HB.out))) : w.heap.size ≤ gb155)); have n3_ := Aside0.mk ((by rw [hg]; exact (below_size (by repeat (first | (with_reducible first | exact HB.out | apply below_alloc | apply pw_below_drewN | apply below_drew1) | exact HB.out))) : w.heap.size ≤ gb155)); clear HB; have HB := n0_; have BK155 := n1_; have GW155 := n2_; have GE155 := n3_; clear n0_ n1_ n2_ n3_; clear hb hbox hg))
  go_loopg [5] k (fun kq v5 w' => ∃ (x5_1 : Int), v5 = .int .i64 x5_1 ∧ Aside0 (beadrollref09_Packer_find.l0 kq a1 x5_1 a0_0 l0_1 = some r) ∧ Aside0 (kq ≤ k) ∧ Aside0 (w'.heap[gb155]? = some (.cells #[.string a0_0, (.slice A0_1 l0_1.length c0_1)] 29 (0, 0))) ∧ Aside0 (Below w.heap.size w w'))
  case atStart => exact ⟨(0), (by first | rfl | (simp; done) | (simp [*]; done)), H', ⟨Nat.le_refl _⟩, ⟨by (with_reducible repeat (first | refine blk_drewN ?_ _ | refine blk_drew ?_ | refine blk_alloc ?_ _)); exact BK155.out⟩, ⟨by repeat (first | (with_reducible first | exact HB.out | apply below_alloc | apply pw_below_drewN | apply below_drew1 | refine below_set ?_ GE155.out) | exact HB.out)⟩⟩
  case round =>
    clear H'
    try clear c2
    try clear p2
    obtain ⟨x5_1, rfl, HA, HK1, BK155, HB⟩ := hrel
    cases gk with
    | zero => exact absurd HA.out (by simp [beadrollref09_Packer_find.l0])
    | succ k1 =>
      have H := HA.out
      clear HA
      simp only [beadrollref09_Packer_find.l0] at H
      by_cases c4 : x5_1 < (l0_1.length : Int)
      · rw [if_pos c4] at H
        have c4b0 : decide (x5_1 < (l0_1.length : Int)) = true := decide_eq_true c4
        clear c4
        by_cases c5 : 0 ≤ x5_1
        · rw [if_pos c5] at H
          have c5b0 : decide (0 ≤ x5_1) = true := decide_eq_true c5
          clear c5
          by_cases c6 : ((rd_T62 l0_1 x5_1).f0).toList = a1.toList
          · rw [if_pos c6] at H
            have c6b0 : (((rd_T62 l0_1 x5_1).f0).toList == a1.toList) = true := beq_iff_eq.mpr c6
            have c6b1 : (((rd_T62 l0_1 x5_1).f0).toList != a1.toList) = false := bne_eq_false_iff_eq.mpr c6
            clear c6
            obtain rfl := Option.some.inj H
            have hcz7_0 : wr.cell? ⟨gb155, 0, none⟩ = some (.string a0_0) := (blk_cell BK155.out 0).trans rfl
            have hcz7_1 : wr.cell? ⟨gb155, 1, none⟩ = some (.slice A0_1 l0_1.length c0_1) := (blk_cell BK155.out 1).trans rfl
            have hfz7_0 := blk_frozen BK155.out 0
            have hfz7_1 := blk_frozen BK155.out 1
            have p156 : 0 ≤ (x5_1 : Int) := of_decide_eq_true (by first | (with_reducible assumption) | assumption)
            have q156 : x5_1 < (l0_1.length : Int) := of_decide_eq_true (by first | (with_reducible assumption) | assumption)
            obtain ⟨ad156, e156, hx156_0, hx156_1⟩ := at_T62 HR0_1.out x5_1 p156 q156
            cases e156
            replace hx156_0 := (HB.out.cell (World.block_lt_of_cell? w _ hx156_0)).trans hx156_0
            replace hx156_1 := (HB.out.cell (World.block_lt_of_cell? w _ hx156_1)).trans hx156_1
            replace p156 := eq_true p156
            replace q156 := eq_true q156
            have p157 : 0 ≤ (x5_1 : Int) := of_decide_eq_true (by first | (with_reducible assumption) | assumption)
            have q157 : x5_1 < (l0_1.length : Int) := of_decide_eq_true (by first | (with_reducible assumption) | assumption)
            obtain ⟨ad157, e157, hx157_0, hx157_1⟩ := at_T62 HR0_1.out x5_1 p157 q157
            obtain rfl : ad156 = ad157 := (by injection e157)
            replace hx157_0 := (HB.out.cell (World.block_lt_of_cell? w _ hx157_0)).trans hx157_0
            replace hx157_1 := (HB.out.cell (World.block_lt_of_cell? w _ hx157_1)).trans hx157_1
            replace p157 := eq_true p157
            replace q157 := eq_true q157
            go_wp2
            go_ret
            exact ⟨by first | rfl | (simp [errW_none, errW_some] <;> rfl) | (simp [*, errW_none, errW_some] <;> rfl), by repeat (first | (with_reducible first | exact HB.out | apply below_alloc | apply pw_below_drewN | apply below_drew1 | refine below_set ?_ GE155.out) | exact HB.out)⟩
          · rw [if_neg c6] at H
            have c6b0 : (((rd_T62 l0_1 x5_1).f0).toList == a1.toList) = false := beq_eq_false_iff_ne.mpr c6
            have c6b1 : (((rd_T62 l0_1 x5_1).f0).toList != a1.toList) = true := bne_iff_ne.mpr c6
            have H' := Aside0.mk H
            clear H
            have hcz8_0 : wr.cell? ⟨gb155, 0, none⟩ = some (.string a0_0) := (blk_cell BK155.out 0).trans rfl
            have hcz8_1 : wr.cell? ⟨gb155, 1, none⟩ = some (.slice A0_1 l0_1.length c0_1) := (blk_cell BK155.out 1).trans rfl
            have hfz8_0 := blk_frozen BK155.out 0
            have hfz8_1 := blk_frozen BK155.out 1
            have p156 : 0 ≤ (x5_1 : Int) := of_decide_eq_true (by first | (with_reducible assumption) | assumption)
            have q156 : x5_1 < (l0_1.length : Int) := of_decide_eq_true (by first | (with_reducible assumption) | assumption)
            obtain ⟨ad156, e156, hx156_0, hx156_1⟩ := at_T62 HR0_1.out x5_1 p156 q156
            cases e156
            replace hx156_0 := (HB.out.cell (World.block_lt_of_cell? w _ hx156_0)).trans hx156_0
            replace hx156_1 := (HB.out.cell (World.block_lt_of_cell? w _ hx156_1)).trans hx156_1
            replace p156 := eq_true p156
            replace q156 := eq_true q156
            go_wp2
            go_roundg k1
            case measure => have := HK1.out; omega
            case rel => exact ⟨(wrap64 (x5_1 + 1)), (by first | rfl | (simp; done) | (simp [*]; done)), H', ⟨by have := HK1.out; omega⟩, ⟨by (with_reducible repeat (first | refine blk_drewN ?_ _ | refine blk_drew ?_ | refine blk_alloc ?_ _)); exact BK155.out⟩, ⟨by repeat (first | (with_reducible first | exact HB.out | apply below_alloc | apply pw_below_drewN | apply below_drew1 | refine below_set ?_ GE155.out) | exact HB.out)⟩⟩
        · rw [if_neg c5] at H
          exact absurd H (by simp)
      · rw [if_neg c4] at H
        have c4b0 : decide (x5_1 < (l0_1.length : Int)) = false := decide_eq_false c4
        clear c4
        obtain rfl := Option.some.inj H
        have hcz9_0 : wr.cell? ⟨gb155, 0, none⟩ = some (.string a0_0) := (blk_cell BK155.out 0).trans rfl
        have hcz9_1 : wr.cell? ⟨gb155, 1, none⟩ = some (.slice A0_1 l0_1.length c0_1) := (blk_cell BK155.out 1).trans rfl
        have hfz9_0 := blk_frozen BK155.out 0
        have hfz9_1 := blk_frozen BK155.out 1
        go_wp2
        go_ret
        exact ⟨by first | rfl | (simp [errW_none, errW_some] <;> rfl) | (simp [*, errW_none, errW_some] <;> rfl), by repeat (first | (with_reducible first | exact HB.out | apply below_alloc | apply pw_below_drewN | apply below_drew1 | refine below_set ?_ GE155.out) | exact HB.out)⟩

end Go.Proofs.Ytekbecpcbfhdmaa.PPak
-- Written by this session's program gprint.py out of the translation; Lean checks it.
namespace Go.Proofs.Ytekbecpcbfhdmaa.PPak
open Go.RowKit Go.Proofs.YtekbecpcbfhdmaaW.PrintWords Go.Proofs.YtekbecpcbfhdmaaW.PrintLast Go.Proofs.YtekbecpcbfhdmaaW.PrintMore Go.Proofs.Ytekbecpcbfhdmaa.Given
attribute [local go_sem] max2_int min2_int max_two min_two max_three min_three max_four min_four   -- for this text's walks alone
set_option linter.unusedVariables false
set_option linter.unusedSimpArgs false

/-! ### beadrollref09_Packer_Name: function 14 -/
mutual
def beadrollref09_Packer_Name.l0 : Nat → ByteArray → Bool → ByteArray → List (S62) → Option (ByteArray × (List (S62)))
  | 0, _, _, _, _ => none
  | k + 1, x1, x2, x159000, x159001 => if x1.toList = ([0] : List UInt8) then (if x159000.size + 1 ≤ 9223372036854775807 then (some (x159000 ++ (⟨#[0]⟩ : ByteArray), x159001)) else (none)) else ((beadrollref09_Packer_find.f k x159000 x159001 x1).bind fun t160 => (if t160 ≥ 0 then (beadrollref09_Packer_Name.j1 k x1 x2 t160 x2 x159000 x159001) else (beadrollref09_Packer_Name.j1 k x1 x2 t160 false x159000 x159001)))
def beadrollref09_Packer_Name.j1 : Nat → ByteArray → Bool → Int → Bool → ByteArray → List (S62) → Option (ByteArray × (List (S62)))
  | 0, _, _, _, _, _, _ => none
  | k + 1, x1, x2, x7, x18, x159000, x159001 => if x18 = true then ((some (([(wrap64 (192 + (wrap64 (Int.tdiv x7 256)))) % 256, (Int.tmod x7 256) % 256] : List Int) : List Int)).bind fun y161 => (if x159000.size + (strOfNums y161).size ≤ 9223372036854775807 then (some (x159000 ++ (strOfNums y161), x159001)) else (none))) else (if x7 < 0 then (if (x159000.size : Int) < 16384 then ((some (([] : List (S62)) : List (S62))).bind fun y164 => (if y164.length + x159001.length < 5864062014805 then ((some (y164 ++ x159001 : List (S62))).bind fun y167 => ((some (([(⟨x1, (x159000.size : Int)⟩ : S62)] : List (S62)) : List (S62))).bind fun y170 => (if y167.length + y170.length < 5864062014805 then (if 0 < (x1.size : Int) then (if 0 ≤ (wrap64 (1 + (wrap64 (bt x1 0)))) then (if (wrap64 (1 + (wrap64 (bt x1 0)))) ≤ (x1.size : Int) then (if x159000.size + (x1.extract 0 ((wrap64 (1 + (wrap64 (bt x1 0)))) : Int).toNat).size ≤ 9223372036854775807 then (beadrollref09_Packer_Name.l0 k (x1.extract ((wrap64 (1 + (wrap64 (bt x1 0)))) : Int).toNat x1.size) x2 (x159000 ++ (x1.extract 0 ((wrap64 (1 + (wrap64 (bt x1 0)))) : Int).toNat)) (y167 ++ y170)) else (none)) else (none)) else (none)) else (none)) else (none)))) else (none))) else (if 0 < (x1.size : Int) then (if 0 ≤ (wrap64 (1 + (wrap64 (bt x1 0)))) then (if (wrap64 (1 + (wrap64 (bt x1 0)))) ≤ (x1.size : Int) then (if x159000.size + (x1.extract 0 ((wrap64 (1 + (wrap64 (bt x1 0)))) : Int).toNat).size ≤ 9223372036854775807 then (beadrollref09_Packer_Name.l0 k (x1.extract ((wrap64 (1 + (wrap64 (bt x1 0)))) : Int).toNat x1.size) x2 (x159000 ++ (x1.extract 0 ((wrap64 (1 + (wrap64 (bt x1 0)))) : Int).toNat)) x159001) else (none)) else (none)) else (none)) else (none))) else (if 0 < (x1.size : Int) then (if 0 ≤ (wrap64 (1 + (wrap64 (bt x1 0)))) then (if (wrap64 (1 + (wrap64 (bt x1 0)))) ≤ (x1.size : Int) then (if x159000.size + (x1.extract 0 ((wrap64 (1 + (wrap64 (bt x1 0)))) : Int).toNat).size ≤ 9223372036854775807 then (beadrollref09_Packer_Name.l0 k (x1.extract ((wrap64 (1 + (wrap64 (bt x1 0)))) : Int).toNat x1.size) x2 (x159000 ++ (x1.extract 0 ((wrap64 (1 + (wrap64 (bt x1 0)))) : Int).toNat)) x159001) else (none)) else (none)) else (none)) else (none)))
end
def beadrollref09_Packer_Name.f (k : Nat) (a0_0 : ByteArray) (l0_1 : List (S62)) (a1 : ByteArray) (a2 : Bool) : Option (ByteArray × (List (S62))) := beadrollref09_Packer_Name.l0 k a1 a2 a0_0 l0_1
theorem beadrollref09_Packer_Name.mono_l : ∀ k, (∀ y0 y1 y2 y3, LeO (beadrollref09_Packer_Name.l0 k y0 y1 y2 y3) (beadrollref09_Packer_Name.l0 (k + 1) y0 y1 y2 y3)) ∧ (∀ y0 y1 y2 y3 y4 y5, LeO (beadrollref09_Packer_Name.j1 k y0 y1 y2 y3 y4 y5) (beadrollref09_Packer_Name.j1 (k + 1) y0 y1 y2 y3 y4 y5))
  | 0 => ⟨fun _ _ _ _ r h => by simp [beadrollref09_Packer_Name.l0] at h, fun _ _ _ _ _ _ r h => by simp [beadrollref09_Packer_Name.j1] at h⟩
  | k + 1 => by
    obtain ⟨ih0, ih1⟩ := beadrollref09_Packer_Name.mono_l k
    refine ⟨?_, ?_⟩
    · intro y0 y1 y2 y3
      unfold beadrollref09_Packer_Name.l0
      repeat' first
      | (with_reducible exact ih0 _ _ _ _)
      | (with_reducible exact ih1 _ _ _ _ _ _)
      | (with_reducible exact beadrollref09_Packer_find.mono _ _ _ _)
      | (with_reducible exact LeO.refl _)
      | (with_reducible exact LeO.none _)
      | (with_reducible refine LeO.ite ?_ ?_)
      | (with_reducible refine LeO.bind ?_ (fun _ => ?_))
      | exact ih0 _ _ _ _
      | exact ih1 _ _ _ _ _ _
      | exact beadrollref09_Packer_find.mono _ _ _ _
      | exact LeO.none _
      | refine LeO.ite ?_ ?_
      | refine LeO.bind ?_ (fun _ => ?_)
    · intro y0 y1 y2 y3 y4 y5
      unfold beadrollref09_Packer_Name.j1
      repeat' first
      | (with_reducible exact ih0 _ _ _ _)
      | (with_reducible exact ih1 _ _ _ _ _ _)
      | (with_reducible exact beadrollref09_Packer_find.mono _ _ _ _)
      | (with_reducible exact LeO.refl _)
      | (with_reducible exact LeO.none _)
      | (with_reducible refine LeO.ite ?_ ?_)
      | (with_reducible refine LeO.bind ?_ (fun _ => ?_))
      | exact ih0 _ _ _ _
      | exact ih1 _ _ _ _ _ _
      | exact beadrollref09_Packer_find.mono _ _ _ _
      | exact LeO.none _
      | refine LeO.ite ?_ ?_
      | refine LeO.bind ?_ (fun _ => ?_)
theorem beadrollref09_Packer_Name.mono : ∀ a0 a1 a2 a3 k, LeO (beadrollref09_Packer_Name.f k a0 a1 a2 a3) (beadrollref09_Packer_Name.f (k + 1) a0 a1 a2 a3) := by
  intro a0 a1 a2 a3 k
  obtain ⟨ih0, ih1⟩ := beadrollref09_Packer_Name.mono_l k
  unfold beadrollref09_Packer_Name.f
  repeat' first
      | (with_reducible exact ih0 _ _ _ _)
      | (with_reducible exact ih1 _ _ _ _ _ _)
      | (with_reducible exact beadrollref09_Packer_find.mono _ _ _ _)
      | (with_reducible exact LeO.refl _)
      | (with_reducible exact LeO.none _)
      | (with_reducible refine LeO.ite ?_ ?_)
      | (with_reducible refine LeO.bind ?_ (fun _ => ?_))
      | exact ih0 _ _ _ _
      | exact ih1 _ _ _ _ _ _
      | exact beadrollref09_Packer_find.mono _ _ _ _
      | exact LeO.none _
      | refine LeO.ite ?_ ?_
      | refine LeO.bind ?_ (fun _ => ?_)
def beadrollref09_Packer_Name.T7 : Bool × List (List Nat × List Nat) := (true, [([], []), ([], []), ([1], [1]), ([0, 2], [0, 2]), ([], []), ([], []), ([5], [5]), ([6], [6]), ([4, 7], [4, 7]), ([8], [8]), ([3, 9, 3], [3, 9]), ([0, 1, 2, 3, 4, 5, 6, 7, 8, 9, 10], []), ([11, 10, 10, 0, 1, 2, 3, 4, 5, 6, 7, 8, 9, 10], [10, 11])])
def beadrollref09_Packer_Name.B7 : List Nat := [0, 0, 2, 7, 0, 0, 32, 96, 240, 496, 1023, 2047, 4095]
theorem beadrollref09_Packer_Name.tab7 : rtab .any (opsOf Try.f14 7) = beadrollref09_Packer_Name.T7 := by kernel_rfl
theorem beadrollref09_Packer_Name.bits7 : waitsOk beadrollref09_Packer_Name.T7.2 beadrollref09_Packer_Name.B7 = true := by kernel_rfl
def beadrollref09_Packer_Name.T9 : Bool × List (List Nat × List Nat) := (true, [([], []), ([0], [0]), ([], []), ([], []), ([2, 3], [2, 3]), ([1, 4], [1, 4]), ([0, 1, 2, 3, 4, 5], []), ([6, 5, 0, 1, 2, 3, 4, 5], [5, 6])])
def beadrollref09_Packer_Name.B9 : List Nat := [0, 1, 0, 0, 12, 31, 63, 127]
theorem beadrollref09_Packer_Name.tab9 : rtab .any (opsOf Try.f14 9) = beadrollref09_Packer_Name.T9 := by kernel_rfl
theorem beadrollref09_Packer_Name.bits9 : waitsOk beadrollref09_Packer_Name.T9.2 beadrollref09_Packer_Name.B9 = true := by kernel_rfl
set_option maxHeartbeats 8000000 in
set_option maxRecDepth 100000 in
theorem beadrollref09_Packer_Name.calls (k : Nat) (a0_0 : ByteArray) (P0_1_ : Nat → Prop) (A0_1 : Option Addr) (c0_1 : Nat) (l0_1 : List (S62)) (a1 : ByteArray) (a2 : Bool) (r1 : ByteArray) (r2 : List (S62)) (w : World) (hs0_1 : Kd.V k62 62 w w.heap.size (fun k_ => P0_1_ k_) (.slice A0_1 l0_1.length c0_1) l0_1) (h : beadrollref09_Packer_Name.f k a0_0 l0_1 a1 a2 = some (r1, r2)) :
    Calls Try.prog 14 #[.agg #[.string a0_0, .slice A0_1 l0_1.length c0_1], .string a1, .bool a2] w fun e w' => ∃ v1_ : Value, e = .returned (.agg #[.string r1, v1_]) ∧ Kd.V k62 62 w' w.heap.size (fun k_ => (P0_1_ k_ ∨ w.heap.size ≤ k_)) v1_ r2 ∧ Below w.heap.size w w' := by
  have hu29 := Try.underlying29
  have hu62 := Try.underlying62
  have HO0_1 := Aside0.mk (show Kd.V k62 62 w w.heap.size (fun k_ => (P0_1_ k_ ∨ w.heap.size ≤ k_)) (.slice A0_1 l0_1.length c0_1) l0_1 from Kd.V_mono hs0_1 (fun k_ hk => .inl hk))
  have HB := Aside0.mk (Below.refl w.heap.size w)
  have H : (beadrollref09_Packer_Name.l0 k a1 a2 a0_0 l0_1) = some (r1, r2) := h
  clear h
  have H' := Aside0.mk H
  clear H
  go_enter Try.func14, Try.ntmps14
  go_wp2_with (first | ((with_reducible refine gate_dst (N := 3) rfl ?_); (try (refine gate_guard (by rfl) ?_; dsimp only)); refine box_event ?hg (N := 3) ?hd (cs := #[.string a0_0, .slice A0_1 l0_1.length c0_1]) (t := 29) ?hr ?_; (case hd => rfl); (case hg => rfl); (case hr => first | (go_simp; done) | (go_simp; rfl)); intro gb158 hg w4 hbox hb; have n0_ := Aside0.mk (Kd.V_below (Kd.V_elderB (by (with_reducible repeat (first | apply Kd.V_alloc | apply Kd.V_drewN | apply Kd.V_drew)); exact HO0_1.out) gb158 (Nat.le_of_eq hg.symm)) hb); have n1_ := Aside0.mk (below_step (by repeat (first | (with_reducible first | exact HB.out | apply below_alloc | apply pw_below_drewN | apply below_drew1) | exact HB.out)) hb); have n2_ := Aside0.mk (hbox); have n3_ := Aside0.mk ((by rw [hg]; exact (below_size (by repeat (first | (with_reducible first | exact HB.out | apply below_alloc | apply pw_below_drewN | apply below_drew1) | exact HB.out))) : w.heap.size ≤ gb158)); have n4_ := Aside0.mk ((by rw [hg]; exact (below_size (by repeat (first | (with_reducible first | exact HB.out | apply below_alloc | apply pw_below_drewN | apply below_drew1) | exact HB.out))) : w.heap.size ≤ gb158)); clear HO0_1; clear HB; have HO0_1 := n0_; have HB := n1_; have BK158 := n2_; have GW158 := n3_; have GE158 := n4_; clear n0_ n1_ n2_ n3_ n4_; clear hb hbox hg) | ((with_reducible refine gate_dst (N := 6) rfl ?_); (try (refine gate_guard (by rfl) ?_; dsimp only)); refine box_event ?hg (N := 6) ?hd (cs := #[.string (⟨#[]⟩ : ByteArray), .slice none 0 0]) (t := 29) ?hr ?_; (case hd => rfl); (case hg => rfl); (case hr => first | (go_simp; done) | (go_simp; rfl)); intro gb159 hg w5 hbox hb; have n0_ := Aside0.mk (Kd.V_below (Kd.V_elderB (by (with_reducible repeat (first | apply Kd.V_alloc | apply Kd.V_drewN | apply Kd.V_drew)); exact HO0_1.out) gb159 (Nat.le_of_eq hg.symm)) hb); have n1_ := Aside0.mk (blk_below (g := gb158) (o := .cells #[.string a0_0, .slice A0_1 l0_1.length c0_1] 29 (0, 0)) (by (with_reducible repeat (first | refine blk_drewN ?_ _ | refine blk_drew ?_ | refine blk_alloc ?_ _)); exact BK158.out) hb); have n2_ := Aside0.mk (below_step (by repeat (first | (with_reducible first | exact HB.out | apply below_alloc | apply pw_below_drewN | apply below_drew1 | refine below_set ?_ GE158.out) | exact HB.out)) hb); have n3_ := Aside0.mk (hbox); have n4_ := Aside0.mk ((by rw [hg]; exact (below_size (by repeat (first | (with_reducible first | exact HB.out | apply below_alloc | apply pw_below_drewN | apply below_drew1 | refine below_set ?_ GE158.out) | exact HB.out))) : w.heap.size ≤ gb159)); have n5_ := Aside0.mk ((by rw [hg]; exact (below_size (by repeat (first | (with_reducible first | exact HB.out | apply below_alloc | apply pw_below_drewN | apply below_drew1 | refine below_set ?_ GE158.out) | exact HB.out))) : w.heap.size ≤ gb159)); have n6_ := Aside0.mk ((by rw [hg]; exact Nat.ne_of_lt (blk_lt (g := gb158) (o := .cells #[.string a0_0, .slice A0_1 l0_1.length c0_1] 29 (0, 0)) (by (with_reducible repeat (first | refine blk_drewN ?_ _ | refine blk_drew ?_ | refine blk_alloc ?_ _)); exact BK158.out)) : gb158 ≠ gb159)); have n7_ := Aside0.mk ((by rw [hg]; exact Nat.ne_of_gt (blk_lt (g := gb158) (o := .cells #[.string a0_0, .slice A0_1 l0_1.length c0_1] 29 (0, 0)) (by (with_reducible repeat (first | refine blk_drewN ?_ _ | refine blk_drew ?_ | refine blk_alloc ?_ _)); exact BK158.out)) : gb159 ≠ gb158)); clear HO0_1; clear BK158; clear HB; have HO0_1 := n0_; have BK158 := n1_; have HB := n2_; have BK159 := n3_; have GW159 := n4_; have GE159 := n5_; have NB158_159 := n6_; have NB159_158 := n7_; clear n0_ n1_ n2_ n3_ n4_ n5_ n6_ n7_; clear hb hbox hg))
  (try go_simp)
  go_loopg [1] k (fun kq v1 w' => ∃ (x1_1 : ByteArray) (x159000_1 : ByteArray) (x159001_1 : List (S62)) (x160000_1 : ByteArray) (u159001 : Value), v1 = .string x1_1 ∧ Aside0 (beadrollref09_Packer_Name.l0 kq x1_1 a2 x159000_1 x159001_1 = some (r1, r2)) ∧ Aside0 (kq ≤ k) ∧ Aside0 (Kd.V k62 62 w' w.heap.size (fun k_ => (P0_1_ k_ ∨ w.heap.size ≤ k_) ∧ k_ ≠ gb158 ∧ k_ ≠ gb159) u159001 x159001_1) ∧ Aside0 (w'.heap[gb158]? = some (.cells #[.string x159000_1, u159001] 29 (0, 0))) ∧ Aside0 (w'.heap[gb159]? = some (.cells #[.string x160000_1, (.slice none 0 0)] 29 (0, 0))) ∧ Aside0 (Below w.heap.size w w'))
  case atStart => exact ⟨(a1), (a0_0), (l0_1), ((⟨#[]⟩ : ByteArray)), (.slice A0_1 l0_1.length c0_1), (by first | rfl | (simp; done) | (simp [*]; done)), H', ⟨Nat.le_refl _⟩, ⟨by (with_reducible repeat (first | apply Kd.V_alloc | apply Kd.V_drewN | apply Kd.V_drew)); exact Kd.V_mono HO0_1.out (fun _ hk => ⟨hk.1.1, ⟨hk.1.2, hk.2⟩⟩)⟩, ⟨by (with_reducible repeat (first | refine blk_drewN ?_ _ | refine blk_drew ?_ | refine blk_alloc ?_ _)); exact BK158.out⟩, ⟨by (with_reducible repeat (first | refine blk_drewN ?_ _ | refine blk_drew ?_ | refine blk_alloc ?_ _)); exact BK159.out⟩, ⟨by repeat (first | (with_reducible first | exact HB.out | apply below_alloc | apply pw_below_drewN | apply below_drew1 | refine below_set ?_ GE158.out | refine below_set ?_ GE159.out) | exact HB.out)⟩⟩
  case round =>
    clear H'
    try clear c1
    try clear p2
    obtain ⟨x1_1, x159000_1, x159001_1, x160000_1, u159001, rfl, HA, HK1, HO_159001, BK158, BK159, HB⟩ := hrel
    cases gk with
    | zero => exact absurd HA.out (by simp [beadrollref09_Packer_Name.l0])
    | succ k1 =>
      have H := HA.out
      clear HA
      simp only [beadrollref09_Packer_Name.l0] at H
      by_cases c6 : x1_1.toList = ([0] : List UInt8)
      · rw [if_pos c6] at H
        have c6b0 : (x1_1.toList == ([0] : List UInt8)) = true := beq_iff_eq.mpr c6
        have c6b1 : (x1_1.toList != ([0] : List UInt8)) = false := bne_eq_false_iff_eq.mpr c6
        clear c6
        by_cases c7 : x159000_1.size + 1 ≤ 9223372036854775807
        · rw [if_pos c7] at H
          have c7b0 := eq_true c7
          have c7b1 : decide (x159000_1.size + 1 ≤ 9223372036854775807) = true := decide_eq_true c7
          try have c7b2 : (9223372036854775807 < x159000_1.size + 1) = False := eq_false (Nat.not_lt.2 c7)
          simp only [Option.some.injEq, Prod.mk.injEq] at H
          obtain ⟨rfl, rfl⟩ := H
          have hnb8 := NB158_159.out
          have hnc8 := NB159_158.out
          have hcz9_0 : wr.cell? ⟨gb158, 0, none⟩ = some (.string x159000_1) := (blk_cell BK158.out 0).trans rfl
          have hcz9_1 : wr.cell? ⟨gb158, 1, none⟩ = some (u159001) := (blk_cell BK158.out 1).trans rfl
          have hfz9_0 := blk_frozen BK158.out 0
          have hfz9_1 := blk_frozen BK158.out 1
          have hcz10_0 : wr.cell? ⟨gb159, 0, none⟩ = some (.string x160000_1) := (blk_cell BK159.out 0).trans rfl
          have hcz10_1 : wr.cell? ⟨gb159, 1, none⟩ = some (.slice none 0 0) := (blk_cell BK159.out 1).trans rfl
          have hfz10_0 := blk_frozen BK159.out 0
          have hfz10_1 := blk_frozen BK159.out 1
          obtain ⟨Ao11, co11, eo11⟩ := Kd.V_slice HO_159001.out
          subst eo11
          go_wp2
          refine bodyPost_ret (results_cell_row rfl _ _ gb159 29 #[.string (x159000_1 ++ (⟨#[0]⟩ : ByteArray)), .slice Ao11 x159001_1.length co11] (0, 0) _ rfl (by (with_reducible repeat (first | refine blk_drewN ?_ _ | refine blk_drew ?_ | refine blk_alloc ?_ _)); refine blk_put (cs := #[.string (x159000_1 ++ (⟨#[0]⟩ : ByteArray)), .slice none 0 0]) ?_ 1 _ rfl; (with_reducible repeat (first | refine blk_drewN ?_ _ | refine blk_drew ?_ | refine blk_alloc ?_ _)); refine blk_put (cs := #[.string x160000_1, .slice none 0 0]) ?_ 0 _ rfl; (with_reducible repeat (first | refine blk_drewN ?_ _ | refine blk_drew ?_ | refine blk_alloc ?_ _)); refine blk_far ?_ NB159_158.out _; (with_reducible repeat (first | refine blk_drewN ?_ _ | refine blk_drew ?_ | refine blk_alloc ?_ _)); exact BK159.out) Try.underlying29 rfl (by kernel_rfl)) rfl ?_
          exact ⟨_, by first | rfl | (simp [errW_none, errW_some] <;> rfl) | (simp [*, errW_none, errW_some] <;> rfl), by (with_reducible repeat (first | apply Kd.V_alloc | apply Kd.V_drewN | apply Kd.V_drew)); exact Kd.V_mono (Kd.V_far (p := ⟨gb159, 1, none⟩) (Kd.V_far (p := ⟨gb159, 0, none⟩) (Kd.V_far (p := ⟨gb158, 0, none⟩) (Kd.V_mono (Kd.V_mono HO_159001.out (fun k_ hk => (⟨hk, hk.2.1⟩ : _ ∧ k_ ≠ gb158))) (fun k_ hk => (⟨hk, hk.1.2.2⟩ : _ ∧ k_ ≠ gb159))) (fun _ hk => hk.1.2) (.string (x159000_1 ++ (⟨#[0]⟩ : ByteArray)))) (fun _ hk => hk.2) (.string (x159000_1 ++ (⟨#[0]⟩ : ByteArray)))) (fun _ hk => hk.2) (.slice Ao11 x159001_1.length co11)) (fun _ hk => hk.1.1.1), by repeat (first | (with_reducible first | exact HB.out | apply below_alloc | apply pw_below_drewN | apply below_drew1 | refine below_set ?_ GE158.out | refine below_set ?_ GE159.out) | exact HB.out)⟩
        · rw [if_neg c7] at H
          exact absurd H (by simp)
      · rw [if_neg c6] at H
        have c6b0 : (x1_1.toList == ([0] : List UInt8)) = false := beq_eq_false_iff_ne.mpr c6
        have c6b1 : (x1_1.toList != ([0] : List UInt8)) = true := bne_iff_ne.mpr c6
        replace H := Option.bind_eq_some_iff.mp H
        obtain ⟨t160, A120, H⟩ := H
        replace H : (if t160 ≥ 0 then (beadrollref09_Packer_Name.j1 k1 x1_1 a2 t160 a2 x159000_1 x159001_1) else (beadrollref09_Packer_Name.j1 k1 x1_1 a2 t160 false x159000_1 x159001_1)) = some (r1, r2) := H
        have A12 := Aside0.mk A120
        clear A120
        have HC13 := Aside0.mk H
        clear H
        have hnb14 := NB158_159.out
        have hnc14 := NB159_158.out
        have hcz15_0 : wr.cell? ⟨gb158, 0, none⟩ = some (.string x159000_1) := (blk_cell BK158.out 0).trans rfl
        have hcz15_1 : wr.cell? ⟨gb158, 1, none⟩ = some (u159001) := (blk_cell BK158.out 1).trans rfl
        have hfz15_0 := blk_frozen BK158.out 0
        have hfz15_1 := blk_frozen BK158.out 1
        obtain ⟨Ao16, co16, eo16⟩ := Kd.V_slice HO_159001.out
        subst eo16
        go_upto_region 3 with (first | ((with_reducible refine gate_callee (f := 23) rfl ?_); refine goesL_ (some 13) rfl rfl Try.func23 (by kernel_rfl) rfl #[.agg #[.string x159000_1, .slice Ao16 x159001_1.length co16], .string x1_1] rfl (by (try simp only [List.map_toArray, List.map_cons, List.map_nil]); first | done | rfl | (simp only [List.length_drop, List.length_take]; rfl)) ?_; (with_reducible refine (beadrollref09_Packer_find.calls k1 x159000_1 _ _ x159001_1 x1_1 t160 _ ?side1 ?side2 A12.out).mono ?_); (case side1 => repeat (first | exact (Kd.V_reads' HO_159001.out).2.2 | (with_reducible refine Kd.C_alloc ?_ _) | (with_reducible refine Kd.C_drewN ?_ _) | (with_reducible refine Kd.C_drew ?_))); (case side2 => exact (Kd.V_reads' HO_159001.out).2.1); rintro e w17 ⟨rfl, hb⟩; refine ⟨_, rfl, ?_⟩; have n0_ := Aside0.mk (Kd.V_below (by (with_reducible repeat (first | apply Kd.V_alloc | apply Kd.V_drewN | apply Kd.V_drew)); exact HO_159001.out) hb); have n1_ := Aside0.mk (blk_below (g := gb158) (o := .cells #[.string x159000_1, .slice Ao16 x159001_1.length co16] 29 (0, 0)) (by (with_reducible repeat (first | refine blk_drewN ?_ _ | refine blk_drew ?_ | refine blk_alloc ?_ _)); exact BK158.out) hb); have n2_ := Aside0.mk (blk_below (g := gb159) (o := .cells #[.string x160000_1, .slice none 0 0] 29 (0, 0)) (by (with_reducible repeat (first | refine blk_drewN ?_ _ | refine blk_drew ?_ | refine blk_alloc ?_ _)); exact BK159.out) hb); have n3_ := Aside0.mk (below_step (by repeat (first | (with_reducible first | exact HB.out | apply below_alloc | apply pw_below_drewN | apply below_drew1 | refine below_set ?_ GE158.out | refine below_set ?_ GE159.out) | exact HB.out)) hb); clear HO_159001; clear BK158; clear BK159; clear HB; have HO_159001 := n0_; have BK158 := n1_; have BK159 := n2_; have HB := n3_; clear n0_ n1_ n2_ n3_; (try clear hb); (try clear hb2); (try clear hk); (try clear hi)))
        (try simp only [Act.put, List.setIfInBounds_toArray, List.set_cons_zero, List.set_cons_succ])
        go_cut [18] (fun v18 wc => ∃ (kq : Nat) (x18_12 : Bool), v18 = .bool x18_12 ∧ Aside0 (beadrollref09_Packer_Name.j1 kq x1_1 a2 t160 x18_12 x159000_1 x159001_1 = some (r1, r2)) ∧ Aside0 (kq ≤ k1) ∧ Aside0 (Kd.V k62 62 wc w.heap.size (fun k_ => (P0_1_ k_ ∨ w.heap.size ≤ k_) ∧ k_ ≠ gb158 ∧ k_ ≠ gb159) (.slice Ao16 x159001_1.length co16) x159001_1) ∧ Aside0 (wc.heap[gb158]? = some (.cells #[.string x159000_1, (.slice Ao16 x159001_1.length co16)] 29 (0, 0))) ∧ Aside0 (wc.heap[gb159]? = some (.cells #[.string x160000_1, (.slice none 0 0)] 29 (0, 0))) ∧ Aside0 (Below w.heap.size w wc))
        case first =>
          have H := HC13.out
          clear HC13
          by_cases c18 : t160 ≥ 0
          · rw [if_pos c18] at H
            have c18b0 : decide (0 ≤ t160) = true := decide_eq_true c18
            clear c18
            (first | rw [c18b0] | (simp only [i64_w, i32_w]; rw [c18b0]) | skip)
            have H' := Aside0.mk H
            clear H
            go_wp2
            go_meet
            case rel => exact ⟨_, (a2), (by first | rfl | (simp; done) | (simp [*]; done)), H', ⟨by have := HK1.out; first | omega | exact Nat.le_refl _⟩, ⟨by (with_reducible repeat (first | apply Kd.V_alloc | apply Kd.V_drewN | apply Kd.V_drew)); exact HO_159001.out⟩, ⟨by (with_reducible repeat (first | refine blk_drewN ?_ _ | refine blk_drew ?_ | refine blk_alloc ?_ _)); exact BK158.out⟩, ⟨by (with_reducible repeat (first | refine blk_drewN ?_ _ | refine blk_drew ?_ | refine blk_alloc ?_ _)); exact BK159.out⟩, ⟨by repeat (first | (with_reducible first | exact HB.out | apply below_alloc | apply pw_below_drewN | apply below_drew1 | refine below_set ?_ GE158.out | refine below_set ?_ GE159.out) | exact HB.out)⟩⟩
          · rw [if_neg c18] at H
            have c18b0 : decide (0 ≤ t160) = false := decide_eq_false c18
            clear c18
            (first | rw [c18b0] | (simp only [i64_w, i32_w]; rw [c18b0]) | skip)
            have H' := Aside0.mk H
            clear H
            go_wp2
            go_meet
            case rel => exact ⟨_, (false), (by first | rfl | (simp; done) | (simp [*]; done)), H', ⟨by have := HK1.out; first | omega | exact Nat.le_refl _⟩, ⟨by (with_reducible repeat (first | apply Kd.V_alloc | apply Kd.V_drewN | apply Kd.V_drew)); exact HO_159001.out⟩, ⟨by (with_reducible repeat (first | refine blk_drewN ?_ _ | refine blk_drew ?_ | refine blk_alloc ?_ _)); exact BK158.out⟩, ⟨by (with_reducible repeat (first | refine blk_drewN ?_ _ | refine blk_drew ?_ | refine blk_alloc ?_ _)); exact BK159.out⟩, ⟨by repeat (first | (with_reducible first | exact HB.out | apply below_alloc | apply pw_below_drewN | apply below_drew1 | refine below_set ?_ GE158.out | refine below_set ?_ GE159.out) | exact HB.out)⟩⟩
        case rest =>
          clear HC13
          try clear c1
          try clear c2
          try clear p2
          try clear c6
          try clear c6b0
          try clear c6b1
          try clear c7
          try clear c7b0
          try clear c7b1
          try clear c7b2
          try clear c8
          try clear c14
          try clear c18
          try clear c18b0
          try clear hcz10_0
          try clear hcz10_1
          try clear hcz15_0
          try clear hcz15_1
          try clear hcz9_0
          try clear hcz9_1
          try clear hfz10_0
          try clear hfz10_1
          try clear hfz15_0
          try clear hfz15_1
          try clear hfz9_0
          try clear hfz9_1
          try clear p2
          obtain ⟨kq, x18_12, rfl, HA, HJ12, HO_159001, BK158, BK159, HB⟩ := hcut
          cases kq with
          | zero => exact absurd HA.out (by simp [beadrollref09_Packer_Name.j1])
          | succ kj12 =>
            have H := HA.out
            clear HA
            simp only [beadrollref09_Packer_Name.j1] at H
            by_cases c19 : x18_12 = true
            · subst c19
              have H1 : ((some (([(wrap64 (192 + (wrap64 (Int.tdiv t160 256)))) % 256, (Int.tmod t160 256) % 256] : List Int) : List Int)).bind fun y161 => (if x159000_1.size + (strOfNums y161).size ≤ 9223372036854775807 then (some (x159000_1 ++ (strOfNums y161), x159001_1)) else (none))) = some (r1, r2) := by rw [if_pos rfl] at H; exact H
              clear H
              have H := H1
              clear H1
              obtain ⟨y161, hy161⟩ : ∃ y_ : List Int, y_ = (([(wrap64 (192 + (wrap64 (Int.tdiv t160 256)))) % 256, (Int.tmod t160 256) % 256] : List Int)) := ⟨_, rfl⟩
              replace H : (if x159000_1.size + (strOfNums y161).size ≤ 9223372036854775807 then (some (x159000_1 ++ (strOfNums y161), x159001_1)) else (none)) = some (r1, r2) := by first | (rw [hy161]; with_reducible exact H) | (have H2_ := (Option.bind_some _ _).symm.trans H; rw [hy161]; with_reducible exact H2_) | (have H2_ := (Option.bind_some _ _).symm.trans H; with_reducible exact H2_) | with_reducible exact H | (rw [hy161]; exact H) | exact H
              have Ny161 := Aside0.mk hy161
              clear hy161
              by_cases c20 : x159000_1.size + (strOfNums y161).size ≤ 9223372036854775807
              · rw [if_pos c20] at H
                have c20b0 := eq_true c20
                have c20b1 : decide (x159000_1.size + (strOfNums y161).size ≤ 9223372036854775807) = true := decide_eq_true c20
                try have c20b2 : (9223372036854775807 < x159000_1.size + (strOfNums y161).size) = False := eq_false (Nat.not_lt.2 c20)
                simp only [Option.some.injEq, Prod.mk.injEq] at H
                obtain ⟨rfl, rfl⟩ := H
                have hnb21 := NB158_159.out
                have hnc21 := NB159_158.out
                have hcz22_0 : wc.cell? ⟨gb158, 0, none⟩ = some (.string x159000_1) := (blk_cell BK158.out 0).trans rfl
                have hcz22_1 : wc.cell? ⟨gb158, 1, none⟩ = some (.slice Ao16 x159001_1.length co16) := (blk_cell BK158.out 1).trans rfl
                have hfz22_0 := blk_frozen BK158.out 0
                have hfz22_1 := blk_frozen BK158.out 1
                go_wp2_with (first | ((with_reducible refine gate_dst (N := 28) rfl ?_); (try (refine gate_guard (by rfl) ?_; dsimp only)); refine Kd.R_lit (Kd.int .u8) _ 5 ?hg (N := 28) ?hd (xs := ([(wrap64 (192 + (wrap64 (Int.tdiv t160 256)))) % 256, (Int.tmod t160 256) % 256] : List Int)) (inner := [.int .u8 ((wrap64 (192 + (wrap64 (Int.tdiv t160 256)))) % 256), .int .u8 ((Int.tmod t160 256) % 256)]) (ok := fun _ => True) (okp := fun _ => True) ?hr ?hp (fun _ hk => hk) trivial (Below.refl _ _) (Nat.le_refl _) (by simp) ?_; (case hd => rfl); (case hg => rfl); (case hr => first | (go_simp; done) | (go_simp; rfl)); (case hp => exact (Reps.one (show Kd.M (Kd.int .u8) _ _ _ ((wrap64 (192 + (wrap64 (Int.tdiv t160 256)))) % 256) [.int .u8 ((wrap64 (192 + (wrap64 (Int.tdiv t160 256)))) % 256)] from rfl) (Reps.one (show Kd.M (Kd.int .u8) _ _ _ ((Int.tmod t160 256) % 256) [.int .u8 ((Int.tmod t160 256) % 256)] from rfl) (Reps.none _ _)))); intro v162 w23 ho24 hb hg_ hnew_; clear hg_ hnew_; (first | rw [← Ny161.out] at ho24 | (simp only [Int.reduceToNat] at ho24; rw [← Ny161.out] at ho24)); have n0_ := Aside0.mk (Kd.V_elder' (by (with_reducible repeat (first | apply Kd.V_alloc | apply Kd.V_drewN | apply Kd.V_drew)); exact HO_159001.out) (Kd.R_base ho24) hb); have n1_ := Aside0.mk (Kd.R_lower (Kd.R_newM (M := fun k_ => (w.heap.size ≤ k_)) ho24 (below_size (by repeat (first | (with_reducible first | exact HB.out | apply below_alloc | apply pw_below_drewN | apply below_drew1 | refine below_set ?_ GE158.out | refine below_set ?_ GE159.out) | exact HB.out))) (fun k_ h_ => h_)) (below_size (by repeat (first | (with_reducible first | exact HB.out | apply below_alloc | apply pw_below_drewN | apply below_drew1 | refine below_set ?_ GE158.out | refine below_set ?_ GE159.out) | exact HB.out)))); have n2_ := Aside0.mk (blk_below (g := gb158) (o := .cells #[.string x159000_1, .slice Ao16 x159001_1.length co16] 29 (0, 0)) (by (with_reducible repeat (first | refine blk_drewN ?_ _ | refine blk_drew ?_ | refine blk_alloc ?_ _)); exact BK158.out) hb); have n3_ := Aside0.mk (blk_below (g := gb159) (o := .cells #[.string x160000_1, .slice none 0 0] 29 (0, 0)) (by (with_reducible repeat (first | refine blk_drewN ?_ _ | refine blk_drew ?_ | refine blk_alloc ?_ _)); exact BK159.out) hb); have n4_ := Aside0.mk (below_step (by repeat (first | (with_reducible first | exact HB.out | apply below_alloc | apply pw_below_drewN | apply below_drew1 | refine below_set ?_ GE158.out | refine below_set ?_ GE159.out) | exact HB.out)) hb); clear HO_159001; clear BK158; clear BK159; clear HB; have HO_159001 := n0_; have HO163 := n1_; have BK158 := n2_; have BK159 := n3_; have HB := n4_; clear n0_ n1_ n2_ n3_ n4_; clear hb ho24; have hcv25 := own_string (P := Try.prog) Try.underlying44 Try.underlying5 Try.underlying9 (Kd.own_of_R HO163.out); have hcz26_0 : w23.cell? ⟨gb158, 0, none⟩ = some (.string x159000_1) := (blk_cell BK158.out 0).trans rfl; have hcz26_1 : w23.cell? ⟨gb158, 1, none⟩ = some (.slice Ao16 x159001_1.length co16) := (blk_cell BK158.out 1).trans rfl; have hfz26_0 := blk_frozen BK158.out 0; have hfz26_1 := blk_frozen BK158.out 1; have hcz27_0 : w23.cell? ⟨gb159, 0, none⟩ = some (.string x160000_1) := (blk_cell BK159.out 0).trans rfl; have hcz27_1 : w23.cell? ⟨gb159, 1, none⟩ = some (.slice none 0 0) := (blk_cell BK159.out 1).trans rfl; have hfz27_0 := blk_frozen BK159.out 0; have hfz27_1 := blk_frozen BK159.out 1))
                refine bodyPost_ret (results_cell_row rfl _ _ gb159 29 #[.string (x159000_1 ++ (strOfNums y161)), .slice Ao16 x159001_1.length co16] (0, 0) _ rfl (by (with_reducible repeat (first | refine blk_drewN ?_ _ | refine blk_drew ?_ | refine blk_alloc ?_ _)); refine blk_put (cs := #[.string (x159000_1 ++ (strOfNums y161)), .slice none 0 0]) ?_ 1 _ rfl; (with_reducible repeat (first | refine blk_drewN ?_ _ | refine blk_drew ?_ | refine blk_alloc ?_ _)); refine blk_put (cs := #[.string x160000_1, .slice none 0 0]) ?_ 0 _ rfl; (with_reducible repeat (first | refine blk_drewN ?_ _ | refine blk_drew ?_ | refine blk_alloc ?_ _)); refine blk_far ?_ NB159_158.out _; (with_reducible repeat (first | refine blk_drewN ?_ _ | refine blk_drew ?_ | refine blk_alloc ?_ _)); exact BK159.out) Try.underlying29 rfl (by kernel_rfl)) rfl ?_
                exact ⟨_, by first | rfl | (simp [errW_none, errW_some] <;> rfl) | (simp [*, errW_none, errW_some] <;> rfl), by (with_reducible repeat (first | apply Kd.V_alloc | apply Kd.V_drewN | apply Kd.V_drew)); exact Kd.V_mono (Kd.V_far (p := ⟨gb159, 1, none⟩) (Kd.V_far (p := ⟨gb159, 0, none⟩) (Kd.V_far (p := ⟨gb158, 0, none⟩) (Kd.V_mono (Kd.V_mono HO_159001.out (fun k_ hk => (⟨hk, hk.1.2.1⟩ : _ ∧ k_ ≠ gb158))) (fun k_ hk => (⟨hk, hk.1.1.2.2⟩ : _ ∧ k_ ≠ gb159))) (fun _ hk => hk.1.2) (.string (x159000_1 ++ (strOfNums y161)))) (fun _ hk => hk.2) (.string (x159000_1 ++ (strOfNums y161)))) (fun _ hk => hk.2) (.slice Ao16 x159001_1.length co16)) (fun _ hk => hk.1.1.1.1), by repeat (first | (with_reducible first | exact HB.out | apply below_alloc | apply pw_below_drewN | apply below_drew1 | refine below_set ?_ GE158.out | refine below_set ?_ GE159.out) | exact HB.out)⟩
              · rw [if_neg c20] at H
                exact absurd H (by simp)
            · replace c19 := Bool.eq_false_iff.mpr c19
              subst c19
              have H1 : (if t160 < 0 then (if (x159000_1.size : Int) < 16384 then ((some (([] : List (S62)) : List (S62))).bind fun y164 => (if y164.length + x159001_1.length < 5864062014805 then ((some (y164 ++ x159001_1 : List (S62))).bind fun y167 => ((some (([(⟨x1_1, (x159000_1.size : Int)⟩ : S62)] : List (S62)) : List (S62))).bind fun y170 => (if y167.length + y170.length < 5864062014805 then (if 0 < (x1_1.size : Int) then (if 0 ≤ (wrap64 (1 + (wrap64 (bt x1_1 0)))) then (if (wrap64 (1 + (wrap64 (bt x1_1 0)))) ≤ (x1_1.size : Int) then (if x159000_1.size + (x1_1.extract 0 ((wrap64 (1 + (wrap64 (bt x1_1 0)))) : Int).toNat).size ≤ 9223372036854775807 then (beadrollref09_Packer_Name.l0 kj12 (x1_1.extract ((wrap64 (1 + (wrap64 (bt x1_1 0)))) : Int).toNat x1_1.size) a2 (x159000_1 ++ (x1_1.extract 0 ((wrap64 (1 + (wrap64 (bt x1_1 0)))) : Int).toNat)) (y167 ++ y170)) else (none)) else (none)) else (none)) else (none)) else (none)))) else (none))) else (if 0 < (x1_1.size : Int) then (if 0 ≤ (wrap64 (1 + (wrap64 (bt x1_1 0)))) then (if (wrap64 (1 + (wrap64 (bt x1_1 0)))) ≤ (x1_1.size : Int) then (if x159000_1.size + (x1_1.extract 0 ((wrap64 (1 + (wrap64 (bt x1_1 0)))) : Int).toNat).size ≤ 9223372036854775807 then (beadrollref09_Packer_Name.l0 kj12 (x1_1.extract ((wrap64 (1 + (wrap64 (bt x1_1 0)))) : Int).toNat x1_1.size) a2 (x159000_1 ++ (x1_1.extract 0 ((wrap64 (1 + (wrap64 (bt x1_1 0)))) : Int).toNat)) x159001_1) else (none)) else (none)) else (none)) else (none))) else (if 0 < (x1_1.size : Int) then (if 0 ≤ (wrap64 (1 + (wrap64 (bt x1_1 0)))) then (if (wrap64 (1 + (wrap64 (bt x1_1 0)))) ≤ (x1_1.size : Int) then (if x159000_1.size + (x1_1.extract 0 ((wrap64 (1 + (wrap64 (bt x1_1 0)))) : Int).toNat).size ≤ 9223372036854775807 then (beadrollref09_Packer_Name.l0 kj12 (x1_1.extract ((wrap64 (1 + (wrap64 (bt x1_1 0)))) : Int).toNat x1_1.size) a2 (x159000_1 ++ (x1_1.extract 0 ((wrap64 (1 + (wrap64 (bt x1_1 0)))) : Int).toNat)) x159001_1) else (none)) else (none)) else (none)) else (none))) = some (r1, r2) := by rw [if_neg (show ¬ (false = true) by decide)] at H; exact H
              clear H
              have H := H1
              clear H1
              by_cases c28 : t160 < 0
              · rw [if_pos c28] at H
                have c28b0 : decide (t160 < 0) = true := decide_eq_true c28
                clear c28
                by_cases c29 : (x159000_1.size : Int) < 16384
                · rw [if_pos c29] at H
                  have c29b0 : decide ((x159000_1.size : Int) < 16384) = true := decide_eq_true c29
                  have c29b1 : decide (x159000_1.size < 16384) = true := decide_eq_true (by omega)
                  clear c29
                  obtain ⟨y164, hy164⟩ : ∃ y_ : List (S62), y_ = (([] : List (S62))) := ⟨_, rfl⟩
                  replace H : (if y164.length + x159001_1.length < 5864062014805 then ((some (y164 ++ x159001_1 : List (S62))).bind fun y167 => ((some (([(⟨x1_1, (x159000_1.size : Int)⟩ : S62)] : List (S62)) : List (S62))).bind fun y170 => (if y167.length + y170.length < 5864062014805 then (if 0 < (x1_1.size : Int) then (if 0 ≤ (wrap64 (1 + (wrap64 (bt x1_1 0)))) then (if (wrap64 (1 + (wrap64 (bt x1_1 0)))) ≤ (x1_1.size : Int) then (if x159000_1.size + (x1_1.extract 0 ((wrap64 (1 + (wrap64 (bt x1_1 0)))) : Int).toNat).size ≤ 9223372036854775807 then (beadrollref09_Packer_Name.l0 kj12 (x1_1.extract ((wrap64 (1 + (wrap64 (bt x1_1 0)))) : Int).toNat x1_1.size) a2 (x159000_1 ++ (x1_1.extract 0 ((wrap64 (1 + (wrap64 (bt x1_1 0)))) : Int).toNat)) (y167 ++ y170)) else (none)) else (none)) else (none)) else (none)) else (none)))) else (none)) = some (r1, r2) := by first | (rw [hy164]; with_reducible exact H) | (have H2_ := (Option.bind_some _ _).symm.trans H; rw [hy164]; with_reducible exact H2_) | (have H2_ := (Option.bind_some _ _).symm.trans H; with_reducible exact H2_) | with_reducible exact H | (rw [hy164]; exact H) | exact H
                  have Ny164 := Aside0.mk hy164
                  clear hy164
                  by_cases c30 : y164.length + x159001_1.length < 5864062014805
                  · rw [if_pos c30] at H
                    have LMc30 := Aside0.mk c30
                    clear c30
                    obtain ⟨y167, hy167⟩ : ∃ y_ : List (S62), y_ = (y164 ++ x159001_1) := ⟨_, rfl⟩
                    replace H : ((some (([(⟨x1_1, (x159000_1.size : Int)⟩ : S62)] : List (S62)) : List (S62))).bind fun y170 => (if y167.length + y170.length < 5864062014805 then (if 0 < (x1_1.size : Int) then (if 0 ≤ (wrap64 (1 + (wrap64 (bt x1_1 0)))) then (if (wrap64 (1 + (wrap64 (bt x1_1 0)))) ≤ (x1_1.size : Int) then (if x159000_1.size + (x1_1.extract 0 ((wrap64 (1 + (wrap64 (bt x1_1 0)))) : Int).toNat).size ≤ 9223372036854775807 then (beadrollref09_Packer_Name.l0 kj12 (x1_1.extract ((wrap64 (1 + (wrap64 (bt x1_1 0)))) : Int).toNat x1_1.size) a2 (x159000_1 ++ (x1_1.extract 0 ((wrap64 (1 + (wrap64 (bt x1_1 0)))) : Int).toNat)) (y167 ++ y170)) else (none)) else (none)) else (none)) else (none)) else (none))) = some (r1, r2) := by first | (rw [hy167]; with_reducible exact H) | (have H2_ := (Option.bind_some _ _).symm.trans H; rw [hy167]; with_reducible exact H2_) | (have H2_ := (Option.bind_some _ _).symm.trans H; with_reducible exact H2_) | with_reducible exact H | (rw [hy167]; exact H) | exact H
                    have Ny167 := Aside0.mk hy167
                    clear hy167
                    obtain ⟨y170, hy170⟩ : ∃ y_ : List (S62), y_ = (([(⟨x1_1, (x159000_1.size : Int)⟩ : S62)] : List (S62))) := ⟨_, rfl⟩
                    replace H : (if y167.length + y170.length < 5864062014805 then (if 0 < (x1_1.size : Int) then (if 0 ≤ (wrap64 (1 + (wrap64 (bt x1_1 0)))) then (if (wrap64 (1 + (wrap64 (bt x1_1 0)))) ≤ (x1_1.size : Int) then (if x159000_1.size + (x1_1.extract 0 ((wrap64 (1 + (wrap64 (bt x1_1 0)))) : Int).toNat).size ≤ 9223372036854775807 then (beadrollref09_Packer_Name.l0 kj12 (x1_1.extract ((wrap64 (1 + (wrap64 (bt x1_1 0)))) : Int).toNat x1_1.size) a2 (x159000_1 ++ (x1_1.extract 0 ((wrap64 (1 + (wrap64 (bt x1_1 0)))) : Int).toNat)) (y167 ++ y170)) else (none)) else (none)) else (none)) else (none)) else (none)) = some (r1, r2) := by first | (rw [hy170]; with_reducible exact H) | (have H2_ := (Option.bind_some _ _).symm.trans H; rw [hy170]; with_reducible exact H2_) | (have H2_ := (Option.bind_some _ _).symm.trans H; with_reducible exact H2_) | with_reducible exact H | (rw [hy170]; exact H) | exact H
                    have Ny170 := Aside0.mk hy170
                    clear hy170
                    by_cases c31 : y167.length + y170.length < 5864062014805
                    · rw [if_pos c31] at H
                      have LMc31 := Aside0.mk c31
                      clear c31
                      obtain ⟨y173, hy173⟩ : ∃ y_ : List (S62), y_ = (y167 ++ y170) := ⟨_, rfl⟩
                      replace H : (if 0 < (x1_1.size : Int) then (if 0 ≤ (wrap64 (1 + (wrap64 (bt x1_1 0)))) then (if (wrap64 (1 + (wrap64 (bt x1_1 0)))) ≤ (x1_1.size : Int) then (if x159000_1.size + (x1_1.extract 0 ((wrap64 (1 + (wrap64 (bt x1_1 0)))) : Int).toNat).size ≤ 9223372036854775807 then (beadrollref09_Packer_Name.l0 kj12 (x1_1.extract ((wrap64 (1 + (wrap64 (bt x1_1 0)))) : Int).toNat x1_1.size) a2 (x159000_1 ++ (x1_1.extract 0 ((wrap64 (1 + (wrap64 (bt x1_1 0)))) : Int).toNat)) y173) else (none)) else (none)) else (none)) else (none)) = some (r1, r2) := by first | (rw [hy173]; with_reducible exact H) | (have H2_ := (Option.bind_some _ _).symm.trans H; rw [hy173]; with_reducible exact H2_) | (have H2_ := (Option.bind_some _ _).symm.trans H; with_reducible exact H2_) | with_reducible exact H | (rw [hy173]; exact H) | exact H
                      have Ny173 := Aside0.mk hy173
                      clear hy173
                      by_cases c32 : 0 < (x1_1.size : Int)
                      · rw [if_pos c32] at H
                        have c32b0 : decide (0 < (x1_1.size : Int)) = true := decide_eq_true c32
                        have c32b1 : decide (0 < x1_1.size) = true := decide_eq_true (by omega)
                        clear c32
                        obtain ⟨ji34, hji34⟩ : ∃ j_ : Int, (wrap64 (1 + (wrap64 (bt x1_1 0)))) = j_ := ⟨_, rfl⟩
                        replace H : (if 0 ≤ (ji34) then (if (ji34) ≤ (x1_1.size : Int) then (if x159000_1.size + (x1_1.extract 0 ((ji34) : Int).toNat).size ≤ 9223372036854775807 then (beadrollref09_Packer_Name.l0 kj12 (x1_1.extract ((ji34) : Int).toNat x1_1.size) a2 (x159000_1 ++ (x1_1.extract 0 ((ji34) : Int).toNat)) y173) else (none)) else (none)) else (none)) = some (r1, r2) := by first | (rw [hji34] at H; exact H) | (simp only [hji34] at H ⊢; exact H)
                        have hji34w : (IntKind.i64.wrap (1 + (wrap64 (bt x1_1 0)))) = ji34 := (i64_w _).trans hji34
                        by_cases c35 : 0 ≤ (ji34)
                        · rw [if_pos c35] at H
                          have c35b0 := eq_true c35
                          have c35b1 : decide (0 ≤ (ji34)) = true := decide_eq_true c35
                          clear c35
                          by_cases c36 : (ji34) ≤ (x1_1.size : Int)
                          · rw [if_pos c36] at H
                            have c36b0 := eq_true c36
                            have c36b1 : decide ((ji34) ≤ (x1_1.size : Int)) = true := decide_eq_true c36
                            clear c36
                            by_cases c37 : x159000_1.size + (x1_1.extract 0 ((ji34) : Int).toNat).size ≤ 9223372036854775807
                            · rw [if_pos c37] at H
                              have c37b0 := eq_true c37
                              have c37b1 : decide (x159000_1.size + (x1_1.extract 0 ((ji34) : Int).toNat).size ≤ 9223372036854775807) = true := decide_eq_true c37
                              try have c37b2 : (9223372036854775807 < x159000_1.size + (x1_1.extract 0 ((ji34) : Int).toNat).size) = False := eq_false (Nat.not_lt.2 c37)
                              try have c37b7 : (9223372036854775807 < x159000_1.size + ji34.toNat) = False := eq_false (by have h_ := c37; have h2_ : ji34 ≤ (x1_1.size : Int) := (by first | omega | (apply of_eq_true; assumption)); simp only [ByteArray.size_extract] at h_; omega)
                              have c38b0 := eq_true (of_decide_eq_true (by first | (with_reducible assumption) | assumption) : 0 ≤ (ji34))
                              have c39b0 := eq_true (of_decide_eq_true (by first | (with_reducible assumption) | assumption) : (ji34) ≤ (x1_1.size : Int))
                              have H' := Aside0.mk H
                              clear H
                              have hnb40 := NB158_159.out
                              have hnc40 := NB159_158.out
                              have hcz41_0 : wc.cell? ⟨gb158, 0, none⟩ = some (.string x159000_1) := (blk_cell BK158.out 0).trans rfl
                              have hcz41_1 : wc.cell? ⟨gb158, 1, none⟩ = some (.slice Ao16 x159001_1.length co16) := (blk_cell BK158.out 1).trans rfl
                              have hfz41_0 := blk_frozen BK158.out 0
                              have hfz41_1 := blk_frozen BK158.out 1
                              try go_wp2
                              have n0_ := Aside0.mk (Kd.V_drew HO_159001.out)
                              have n1_ := Aside0.mk (blk_drew BK158.out)
                              have n2_ := Aside0.mk (blk_drew BK159.out)
                              have n3_ := Aside0.mk (below_drew1 HB.out)
                              clear HO_159001
                              clear BK158
                              clear BK159
                              clear HB
                              have HO_159001 := n0_
                              have BK158 := n1_
                              have BK159 := n2_
                              have HB := n3_
                              clear n0_ n1_ n2_ n3_
                              refine start_ (n := 13) (S := fun w' => w'.cell? ⟨gb158, 0, none⟩ = some (.string x159000_1) ∧ w'.cell? ⟨gb158, 1, none⟩ = some (.slice Ao16 x159001_1.length co16)) (ds := [12]) #[false, false, false, false, false, false, false, false, false, false, false, false, false] (by kernel_rfl) rfl rfl ⟨(blk_cell BK158.out 0).trans rfl, (blk_cell BK158.out 1).trans rfl⟩ (fun hHeld => ?_); refine with_tabW beadrollref09_Packer_Name.tab7 beadrollref09_Packer_Name.bits7 (fun HT_ HW_ => ?_)
                              generalize wc.drew = w42 at HO_159001 BK158 BK159 HB hHeld ⊢
                              refine pure_ (i := 1) (N := some 42) (v := ?_) (a' := ?_) #[false, true, false, false, false, false, false, false, false, false, false, false, false] rfl rfl (any_of HT_.out (by kernel_rfl)) (fun _ _ _ h => h) (Or.inl ⟨by rfl, ?_⟩) ?_ ?_
                              rotate_left
                              · intro w'
                                go_simp
                                with_reducible rfl
                              rotate_left
                              · simp only [Act.put, List.setIfInBounds_toArray, List.set_cons_zero, List.set_cons_succ, i64_w, i32_w]
                                rfl
                              refine pure_ (i := 4) (N := some 45) (v := ?_) (a' := ?_) #[false, true, false, false, true, false, false, false, false, false, false, false, false] rfl rfl (any_of HT_.out (by kernel_rfl)) (fun _ _ _ h => h) (Or.inl ⟨by rfl, ?_⟩) ?_ ?_
                              rotate_left
                              · intro w'
                                go_simp
                                with_reducible rfl
                              rotate_left
                              · simp only [Act.put, List.setIfInBounds_toArray, List.set_cons_zero, List.set_cons_succ, i64_w, i32_w]
                                rfl
                              refine pure_ (i := 5) (N := some 46) (v := ?_) (a' := ?_) #[false, true, false, false, true, true, false, false, false, false, false, false, false] rfl rfl (any_of HT_.out (by kernel_rfl)) (fun _ _ _ h => h) (Or.inl ⟨by rfl, ?_⟩) ?_ ?_
                              rotate_left
                              · intro w'
                                go_simp
                                with_reducible rfl
                              rotate_left
                              · simp only [Act.put, List.setIfInBounds_toArray, List.set_cons_zero, List.set_cons_succ, i64_w, i32_w]
                                rfl
                              refine take_ (i := 2) (N := some 43) (v := ?_) (a' := ?_) #[false, true, true, false, true, true, false, false, false, false, false, false, false] rfl rfl (take_ofW HT_.out HW_.out (by kernel_rfl)) (fun _ _ _ h => h) (Or.inl ⟨by rfl, ?_⟩) hHeld ?_ ?_
                              rotate_left
                              · rintro w' ⟨s0, s1⟩
                                go_simp
                                with_reducible rfl
                              rotate_left
                              · simp only [Act.put, List.setIfInBounds_toArray, List.set_cons_zero, List.set_cons_succ, i64_w, i32_w]
                                rfl
                              refine take_ (i := 6) (N := some 47) (v := ?_) (a' := ?_) #[false, true, true, false, true, true, true, false, false, false, false, false, false] rfl rfl (take_ofW HT_.out HW_.out (by kernel_rfl)) (fun _ _ _ h => h) (Or.inl ⟨by rfl, ?_⟩) hHeld ?_ ?_
                              rotate_left
                              · rintro w' ⟨s0, s1⟩
                                go_simp
                                with_reducible rfl
                              rotate_left
                              · simp only [Act.put, List.setIfInBounds_toArray, List.set_cons_zero, List.set_cons_succ, i64_w, i32_w]
                                rfl
                              refine pure_ (i := 7) (N := some 48) (v := ?_) (a' := ?_) #[false, true, true, false, true, true, true, true, false, false, false, false, false] rfl rfl (any_of HT_.out (by kernel_rfl)) (fun _ _ _ h => h) (Or.inl ⟨by rfl, ?_⟩) ?_ ?_
                              rotate_left
                              · intro w'
                                go_simp
                                with_reducible rfl
                              rotate_left
                              · simp only [Act.put, List.setIfInBounds_toArray, List.set_cons_zero, List.set_cons_succ, i64_w, i32_w]
                                rfl
                              refine pure_ (i := 8) (N := some 49) (v := ?_) (a' := ?_) #[false, true, true, false, true, true, true, true, true, false, false, false, false] rfl rfl (any_of HT_.out (by kernel_rfl)) (fun _ _ _ h => h) (Or.inl ⟨by rfl, ?_⟩) ?_ ?_
                              rotate_left
                              · intro w'
                                go_simp
                                with_reducible rfl
                              rotate_left
                              · simp only [Act.put, List.setIfInBounds_toArray, List.set_cons_zero, List.set_cons_succ, i64_w, i32_w]
                                rfl
                              refine join_ (σ := Value × Value × Value) 3 #[true, true, true, true, true, true, true, true, true, true, false, false, false] (fun s_ => [(41, s_.1), (44, s_.2.1), (50, s_.2.2)]) (fun s_ w' => (w'.cell? ⟨gb158, 0, none⟩ = some (.string x159000_1) ∧ w'.cell? ⟨gb158, 1, none⟩ = some (.slice Ao16 x159001_1.length co16)) ∧ (Kd.R k62 62 w' w.heap.size (fun k_ => (w.heap.size ≤ k_) ∧ some k_ ≠ (s_.2.2 : Value).ownBlock) s_.2.1 y167) ∧ (Kd.R k62 62 w' w.heap.size (fun k_ => (w.heap.size ≤ k_) ∧ some k_ ≠ (s_.2.1 : Value).ownBlock) s_.2.2 y170) ∧ (Kd.V k62 62 w' w.heap.size (fun k_ => (P0_1_ k_ ∨ w.heap.size ≤ k_) ∧ some k_ ≠ (s_.2.1 : Value).ownBlock ∧ some k_ ≠ (s_.2.2 : Value).ownBlock ∧ k_ ≠ gb158 ∧ k_ ≠ gb159) (.slice Ao16 x159001_1.length co16) x159001_1) ∧ (w'.heap[gb158]? = some (.cells #[.string x159000_1, .slice Ao16 x159001_1.length co16] 29 (0, 0))) ∧ (w'.heap[gb159]? = some (.cells #[.string x160000_1, .slice none 0 0] 29 (0, 0))) ∧ (Below w.heap.size w w')) ?_ ?_
                              rotate_left
                              · intro hCont
                                refine two_ (i := 0) (j := 9) (Ni := some 41) (Nj := some 50) #[true, true, true, false, true, true, true, true, true, false, false, false, false] #[false, true, true, false, true, true, true, true, true, true, false, false, false] rfl rfl rfl rfl (two_of HT_.out (by kernel_rfl)) (by decide) (by decide) (fun K hK => ?_) (fun K hK => ?_)
                                · skip
                                  refine Kd.R_lit_step k62 _ 62 ?hg (N := 41) ?hd (xs := ([] : List (S62))) (inner := []) (ok := fun _ => True) (okp := fun _ => True) ?hr ?hp (fun _ hk => hk) trivial (Below.refl _ _) (Nat.le_refl _) (by simp) ?_; (case hd => rfl); (case hg => rfl); (case hr => first | (go_simp; done) | (go_simp; rfl)); (case hp => exact (Reps.none _ _))
                                  intro v165 w43 ho44 hb hg_ hnew_
                                  clear hg_ hnew_
                                  (first | rw [← Ny164.out] at ho44 | (simp only [Int.reduceToNat] at ho44; rw [← Ny164.out] at ho44))
                                  have n0_ := Aside0.mk (Kd.V_elder' (by (with_reducible repeat (first | apply Kd.V_alloc | apply Kd.V_drewN | apply Kd.V_drew)); exact HO_159001.out) (Kd.R_base ho44) hb)
                                  have n1_ := Aside0.mk (Kd.R_lower (Kd.R_newM (M := fun k_ => (w.heap.size ≤ k_)) ho44 (below_size (by repeat (first | (with_reducible first | exact HB.out | apply below_alloc | apply pw_below_drewN | apply below_drew1 | refine below_set ?_ GE158.out | refine below_set ?_ GE159.out) | exact HB.out))) (fun k_ h_ => h_)) (below_size (by repeat (first | (with_reducible first | exact HB.out | apply below_alloc | apply pw_below_drewN | apply below_drew1 | refine below_set ?_ GE158.out | refine below_set ?_ GE159.out) | exact HB.out))))
                                  have n2_ := Aside0.mk (blk_below (g := gb158) (o := .cells #[.string x159000_1, .slice Ao16 x159001_1.length co16] 29 (0, 0)) (by (with_reducible repeat (first | refine blk_drewN ?_ _ | refine blk_drew ?_ | refine blk_alloc ?_ _)); exact BK158.out) hb)
                                  have n3_ := Aside0.mk (blk_below (g := gb159) (o := .cells #[.string x160000_1, .slice none 0 0] 29 (0, 0)) (by (with_reducible repeat (first | refine blk_drewN ?_ _ | refine blk_drew ?_ | refine blk_alloc ?_ _)); exact BK159.out) hb)
                                  have n4_ := Aside0.mk (below_step (by repeat (first | (with_reducible first | exact HB.out | apply below_alloc | apply pw_below_drewN | apply below_drew1 | refine below_set ?_ GE158.out | refine below_set ?_ GE159.out) | exact HB.out)) hb)
                                  clear HO_159001
                                  clear BK158
                                  clear BK159
                                  clear HB
                                  have HO_159001 := n0_
                                  have HO166 := n1_
                                  have BK158 := n2_
                                  have BK159 := n3_
                                  have HB := n4_
                                  clear n0_ n1_ n2_ n3_ n4_
                                  clear hb ho44
                                  refine hK.out _ _ ⟨(blk_cell BK158.out 0).trans rfl, (blk_cell BK158.out 1).trans rfl⟩ (fun hHeld => ?_)
                                  clear hK K
                                  refine norm_ (a' := ?_) ?_ ?_
                                  rotate_left
                                  · show Act.put _ (some 41) _ = _
                                    simp only [Act.put, List.setIfInBounds_toArray, List.set_cons_zero, List.set_cons_succ, i64_w, i32_w]
                                    rfl
                                  refine two_ (i := 3) (j := 9) (Ni := some 44) (Nj := some 50) #[true, true, true, true, true, true, true, true, true, false, false, false, false] #[true, true, true, false, true, true, true, true, true, true, false, false, false] rfl rfl rfl rfl (two_of HT_.out (by kernel_rfl)) (by decide) (by decide) (fun K hK => ?_) (fun K hK => ?_)
                                  · skip
                                    refine Kd.R_append_rows_step k62 (w0 := w) w.heap.size (by rfl) (.tmp 41) (.tmp 43) 27 62 (.agg #[(.string ⟨#[]⟩), (.int .i64 0)]) 24 rfl Try.underlying27 info62 rfl (by decide) (by omega) v165 y164 x159001_1 _ _ _ (fun k_ => (w.heap.size ≤ k_)) (fun _ => False) rfl rfl ?aO ?aR (fun _ _ h => h) (fun _ h => h.elim) ?aF ?aB ?aS ?aL ?_
                                    (case aR => repeat (first | exact (Kd.V_reads' HO_159001.out).2.2 | (with_reducible refine Kd.C_alloc ?_ _) | (with_reducible refine Kd.C_drewN ?_ _) | (with_reducible refine Kd.C_drew ?_)))
                                    (case aB => exact (by repeat (first | (with_reducible first | exact HB.out | apply below_alloc | apply pw_below_drewN | apply below_drew1 | refine below_set ?_ GE158.out | refine below_set ?_ GE159.out) | exact HB.out)))
                                    (case aF => exact (fun k_ hk => (Nat.le_trans (below_size (by repeat (first | (with_reducible first | exact HB.out | apply below_alloc | apply pw_below_drewN | apply below_drew1 | refine below_set ?_ GE158.out | refine below_set ?_ GE159.out) | exact HB.out))) hk)))
                                    (case aO => exact (by (with_reducible repeat (first | apply Kd.R_alloc | apply Kd.R_drewN | apply Kd.R_drew)); exact Kd.R_mono HO166.out (fun _ hk => hk.1)))
                                    (case aS => exact (below_size (by repeat (first | (with_reducible first | exact HB.out | apply below_alloc | apply pw_below_drewN | apply below_drew1 | refine below_set ?_ GE158.out | refine below_set ?_ GE159.out) | exact HB.out))))
                                    (case aL => have := LMc30.out; omega)
                                    intro v168 w45 ho hb hg hat
                                    rw [← Ny167.out] at ho
                                    have n0_ := Aside0.mk (Kd.V_afterv (ok := (fun k_ => (P0_1_ k_ ∨ w.heap.size ≤ k_) ∧ k_ ≠ gb158 ∧ k_ ≠ gb159)) (by (with_reducible repeat (first | apply Kd.V_alloc | apply Kd.V_drewN | apply Kd.V_drew)); exact HO_159001.out) hg hat)
                                    have n1_ := Aside0.mk (blk_grown (g := gb158) (o := .cells #[.string x159000_1, .slice Ao16 x159001_1.length co16] 29 (0, 0)) (by (with_reducible repeat (first | refine blk_drewN ?_ _ | refine blk_drew ?_ | refine blk_alloc ?_ _)); exact BK158.out) hg (Kd.R_ne HO166.out BK158.out (by decide)))
                                    have n2_ := Aside0.mk (blk_grown (g := gb159) (o := .cells #[.string x160000_1, .slice none 0 0] 29 (0, 0)) (by (with_reducible repeat (first | refine blk_drewN ?_ _ | refine blk_drew ?_ | refine blk_alloc ?_ _)); exact BK159.out) hg (Kd.R_ne HO166.out BK159.out (by decide)))
                                    have n3_ := Aside0.mk (hb)
                                    have n4_ := Aside0.mk (ho)
                                    clear HO_159001
                                    clear BK158
                                    clear BK159
                                    clear HB
                                    clear HO166
                                    have HO_159001 := n0_
                                    have BK158 := n1_
                                    have BK159 := n2_
                                    have HB := n3_
                                    have HO169 := n4_
                                    clear n0_ n1_ n2_ n3_ n4_
                                    clear ho hb hg hat
                                    refine hK.out _ _ ⟨(blk_cell BK158.out 0).trans rfl, (blk_cell BK158.out 1).trans rfl⟩ (fun hHeld => ?_)
                                    clear hK K
                                    refine norm_ (a' := ?_) ?_ ?_
                                    rotate_left
                                    · show Act.put _ (some 44) _ = _
                                      simp only [Act.put, List.setIfInBounds_toArray, List.set_cons_zero, List.set_cons_succ, i64_w, i32_w]
                                      rfl
                                    refine one_ (i := 9) (N := some 50) #[true, true, true, true, true, true, true, true, true, true, false, false, false] rfl rfl (one_of HT_.out (by kernel_rfl)) (by decide) (fun K hK => ?_)
                                    refine Kd.R_lit_step k62 _ 62 ?hg (N := 50) ?hd (xs := ([(⟨x1_1, (x159000_1.size : Int)⟩ : S62)] : List (S62))) (inner := [.string x1_1, .int .i64 (x159000_1.size : Int)]) (ok := fun _ => True) (okp := fun _ => True) ?hr ?hp (fun _ hk => hk) trivial (Below.refl _ _) (Nat.le_refl _) (by simp) ?_; (case hd => rfl); (case hg => rfl); (case hr => first | (go_simp; done) | (go_simp; rfl)); (case hp => exact (Reps.c2 (show Kd.M k62 _ _ _ (⟨x1_1, (x159000_1.size : Int)⟩ : S62) [.string x1_1, .int .i64 (x159000_1.size : Int)] from (k62_mkM _ _ _ (⟨x1_1, (x159000_1.size : Int)⟩ : S62) )) (Reps.none _ _)))
                                    intro v171 w46 ho47 hb hg_ hnew_
                                    clear hg_ hnew_
                                    (first | rw [← Ny170.out] at ho47 | (simp only [Int.reduceToNat] at ho47; rw [← Ny170.out] at ho47))
                                    have n0_ := Aside0.mk (Kd.V_elder' (by (with_reducible repeat (first | apply Kd.V_alloc | apply Kd.V_drewN | apply Kd.V_drew)); exact HO_159001.out) (Kd.R_base ho47) hb)
                                    have n1_ := Aside0.mk (Kd.R_elder' (by (with_reducible repeat (first | apply Kd.R_alloc | apply Kd.R_drewN | apply Kd.R_drew)); exact HO169.out) (Kd.R_base ho47) hb)
                                    have n2_ := Aside0.mk (Kd.R_lower (Kd.R_new' (Kd.R_newM (M := fun k_ => (w.heap.size ≤ k_)) ho47 (below_size (by repeat (first | (with_reducible first | exact HB.out | apply below_alloc | apply pw_below_drewN | apply below_drew1 | refine below_set ?_ GE158.out | refine below_set ?_ GE159.out) | exact HB.out))) (fun k_ h_ => h_)) (Kd.R_lt (by (with_reducible repeat (first | apply Kd.R_alloc | apply Kd.R_drewN | apply Kd.R_drew)); exact HO169.out))) (below_size (by repeat (first | (with_reducible first | exact HB.out | apply below_alloc | apply pw_below_drewN | apply below_drew1 | refine below_set ?_ GE158.out | refine below_set ?_ GE159.out) | exact HB.out))))
                                    have n3_ := Aside0.mk (blk_below (g := gb158) (o := .cells #[.string x159000_1, .slice Ao16 x159001_1.length co16] 29 (0, 0)) (by (with_reducible repeat (first | refine blk_drewN ?_ _ | refine blk_drew ?_ | refine blk_alloc ?_ _)); exact BK158.out) hb)
                                    have n4_ := Aside0.mk (blk_below (g := gb159) (o := .cells #[.string x160000_1, .slice none 0 0] 29 (0, 0)) (by (with_reducible repeat (first | refine blk_drewN ?_ _ | refine blk_drew ?_ | refine blk_alloc ?_ _)); exact BK159.out) hb)
                                    have n5_ := Aside0.mk (below_step (by repeat (first | (with_reducible first | exact HB.out | apply below_alloc | apply pw_below_drewN | apply below_drew1 | refine below_set ?_ GE158.out | refine below_set ?_ GE159.out) | exact HB.out)) hb)
                                    clear HO_159001
                                    clear HO169
                                    clear BK158
                                    clear BK159
                                    clear HB
                                    have HO_159001 := n0_
                                    have HO169 := n1_
                                    have HO172 := n2_
                                    have BK158 := n3_
                                    have BK159 := n4_
                                    have HB := n5_
                                    clear n0_ n1_ n2_ n3_ n4_ n5_
                                    clear hb ho47
                                    refine hK.out _ _ ⟨(blk_cell BK158.out 0).trans rfl, (blk_cell BK158.out 1).trans rfl⟩ (fun hHeld => ?_)
                                    clear hK K
                                    refine norm_ (a' := ?_) ?_ ?_
                                    rotate_left
                                    · show Act.put _ (some 50) _ = _
                                      simp only [Act.put, List.setIfInBounds_toArray, List.set_cons_zero, List.set_cons_succ, i64_w, i32_w]
                                      rfl
                                    exact norm_ (by simp only [putAll, Act.put, List.setIfInBounds_toArray, List.set_cons_zero, List.set_cons_succ]) (hCont (v165, v168, v171) _ ⟨hHeld, (by (with_reducible repeat (first | apply Kd.R_alloc | apply Kd.R_drewN | apply Kd.R_drew)); exact HO169.out), (by (with_reducible repeat (first | apply Kd.R_alloc | apply Kd.R_drewN | apply Kd.R_drew)); exact Kd.R_mono HO172.out (fun _ hk => ⟨hk.1.1, hk.2⟩)), (by (with_reducible repeat (first | apply Kd.V_alloc | apply Kd.V_drewN | apply Kd.V_drew)); exact Kd.V_mono HO_159001.out (fun _ hk => ⟨hk.1.1.1, ⟨hk.1.2, ⟨hk.2, ⟨hk.1.1.2.1, hk.1.1.2.2⟩⟩⟩⟩)), (by (with_reducible repeat (first | refine blk_drewN ?_ _ | refine blk_drew ?_ | refine blk_alloc ?_ _)); exact BK158.out), (by (with_reducible repeat (first | refine blk_drewN ?_ _ | refine blk_drew ?_ | refine blk_alloc ?_ _)); exact BK159.out), (by repeat (first | (with_reducible first | exact HB.out | apply below_alloc | apply pw_below_drewN | apply below_drew1 | refine below_set ?_ GE158.out | refine below_set ?_ GE159.out) | exact HB.out))⟩)
                                  · skip
                                    refine Kd.R_lit_step k62 _ 62 ?hg (N := 50) ?hd (xs := ([(⟨x1_1, (x159000_1.size : Int)⟩ : S62)] : List (S62))) (inner := [.string x1_1, .int .i64 (x159000_1.size : Int)]) (ok := fun _ => True) (okp := fun _ => True) ?hr ?hp (fun _ hk => hk) trivial (Below.refl _ _) (Nat.le_refl _) (by simp) ?_; (case hd => rfl); (case hg => rfl); (case hr => first | (go_simp; done) | (go_simp; rfl)); (case hp => exact (Reps.c2 (show Kd.M k62 _ _ _ (⟨x1_1, (x159000_1.size : Int)⟩ : S62) [.string x1_1, .int .i64 (x159000_1.size : Int)] from (k62_mkM _ _ _ (⟨x1_1, (x159000_1.size : Int)⟩ : S62) )) (Reps.none _ _)))
                                    intro v171 w45 ho46 hb hg_ hnew_
                                    clear hg_ hnew_
                                    (first | rw [← Ny170.out] at ho46 | (simp only [Int.reduceToNat] at ho46; rw [← Ny170.out] at ho46))
                                    have n0_ := Aside0.mk (Kd.V_elder' (by (with_reducible repeat (first | apply Kd.V_alloc | apply Kd.V_drewN | apply Kd.V_drew)); exact HO_159001.out) (Kd.R_base ho46) hb)
                                    have n1_ := Aside0.mk (Kd.R_elder' (by (with_reducible repeat (first | apply Kd.R_alloc | apply Kd.R_drewN | apply Kd.R_drew)); exact HO166.out) (Kd.R_base ho46) hb)
                                    have n2_ := Aside0.mk (Kd.R_lower (Kd.R_new' (Kd.R_newM (M := fun k_ => (w.heap.size ≤ k_)) ho46 (below_size (by repeat (first | (with_reducible first | exact HB.out | apply below_alloc | apply pw_below_drewN | apply below_drew1 | refine below_set ?_ GE158.out | refine below_set ?_ GE159.out) | exact HB.out))) (fun k_ h_ => h_)) (Kd.R_lt (by (with_reducible repeat (first | apply Kd.R_alloc | apply Kd.R_drewN | apply Kd.R_drew)); exact HO166.out))) (below_size (by repeat (first | (with_reducible first | exact HB.out | apply below_alloc | apply pw_below_drewN | apply below_drew1 | refine below_set ?_ GE158.out | refine below_set ?_ GE159.out) | exact HB.out))))
                                    have n3_ := Aside0.mk (blk_below (g := gb158) (o := .cells #[.string x159000_1, .slice Ao16 x159001_1.length co16] 29 (0, 0)) (by (with_reducible repeat (first | refine blk_drewN ?_ _ | refine blk_drew ?_ | refine blk_alloc ?_ _)); exact BK158.out) hb)
                                    have n4_ := Aside0.mk (blk_below (g := gb159) (o := .cells #[.string x160000_1, .slice none 0 0] 29 (0, 0)) (by (with_reducible repeat (first | refine blk_drewN ?_ _ | refine blk_drew ?_ | refine blk_alloc ?_ _)); exact BK159.out) hb)
                                    have n5_ := Aside0.mk (below_step (by repeat (first | (with_reducible first | exact HB.out | apply below_alloc | apply pw_below_drewN | apply below_drew1 | refine below_set ?_ GE158.out | refine below_set ?_ GE159.out) | exact HB.out)) hb)
                                    clear HO_159001
                                    clear HO166
                                    clear BK158
                                    clear BK159
                                    clear HB
                                    have HO_159001 := n0_
                                    have HO166 := n1_
                                    have HO172 := n2_
                                    have BK158 := n3_
                                    have BK159 := n4_
                                    have HB := n5_
                                    clear n0_ n1_ n2_ n3_ n4_ n5_
                                    clear hb ho46
                                    refine hK.out _ _ ⟨(blk_cell BK158.out 0).trans rfl, (blk_cell BK158.out 1).trans rfl⟩ (fun hHeld => ?_)
                                    clear hK K
                                    refine norm_ (a' := ?_) ?_ ?_
                                    rotate_left
                                    · show Act.put _ (some 50) _ = _
                                      simp only [Act.put, List.setIfInBounds_toArray, List.set_cons_zero, List.set_cons_succ, i64_w, i32_w]
                                      rfl
                                    refine one_ (i := 3) (N := some 44) #[true, true, true, true, true, true, true, true, true, true, false, false, false] rfl rfl (one_of HT_.out (by kernel_rfl)) (by decide) (fun K hK => ?_)
                                    refine Kd.R_append_rows_step k62 (w0 := w) w.heap.size (by rfl) (.tmp 41) (.tmp 43) 27 62 (.agg #[(.string ⟨#[]⟩), (.int .i64 0)]) 24 rfl Try.underlying27 info62 rfl (by decide) (by omega) v165 y164 x159001_1 _ _ _ (fun k_ => (w.heap.size ≤ k_) ∧ some k_ ≠ (v171 : Value).ownBlock) (fun _ => False) rfl rfl ?aO ?aR (fun _ _ h => h) (fun _ h => h.elim) ?aF ?aB ?aS ?aL ?_
                                    (case aR => repeat (first | exact (Kd.V_reads' HO_159001.out).2.2 | (with_reducible refine Kd.C_alloc ?_ _) | (with_reducible refine Kd.C_drewN ?_ _) | (with_reducible refine Kd.C_drew ?_)))
                                    (case aB => exact (by repeat (first | (with_reducible first | exact HB.out | apply below_alloc | apply pw_below_drewN | apply below_drew1 | refine below_set ?_ GE158.out | refine below_set ?_ GE159.out) | exact HB.out)))
                                    (case aF => exact (fun k_ hk => ⟨(Nat.le_trans (below_size (by repeat (first | (with_reducible first | exact HB.out | apply below_alloc | apply pw_below_drewN | apply below_drew1 | refine below_set ?_ GE158.out | refine below_set ?_ GE159.out) | exact HB.out))) hk), Kd.fresh' (Kd.R_lt (by (with_reducible repeat (first | apply Kd.R_alloc | apply Kd.R_drewN | apply Kd.R_drew)); exact HO172.out)) k_ hk⟩))
                                    (case aO => exact (by (with_reducible repeat (first | apply Kd.R_alloc | apply Kd.R_drewN | apply Kd.R_drew)); exact Kd.R_mono HO166.out (fun _ hk => ⟨hk.1.1, hk.2⟩)))
                                    (case aS => exact (below_size (by repeat (first | (with_reducible first | exact HB.out | apply below_alloc | apply pw_below_drewN | apply below_drew1 | refine below_set ?_ GE158.out | refine below_set ?_ GE159.out) | exact HB.out))))
                                    (case aL => have := LMc30.out; omega)
                                    intro v168 w47 ho hb hg hat
                                    rw [← Ny167.out] at ho
                                    have n0_ := Aside0.mk (Kd.V_afterv (ok := (fun k_ => (P0_1_ k_ ∨ w.heap.size ≤ k_) ∧ some k_ ≠ (v171 : Value).ownBlock ∧ k_ ≠ gb158 ∧ k_ ≠ gb159)) (by (with_reducible repeat (first | apply Kd.V_alloc | apply Kd.V_drewN | apply Kd.V_drew)); exact Kd.V_mono HO_159001.out (fun _ hk => ⟨⟨hk.1.1.1, ⟨hk.2, ⟨hk.1.1.2.1, hk.1.1.2.2⟩⟩⟩, hk.1.2⟩)) hg hat)
                                    have n1_ := Aside0.mk (blk_grown (g := gb158) (o := .cells #[.string x159000_1, .slice Ao16 x159001_1.length co16] 29 (0, 0)) (by (with_reducible repeat (first | refine blk_drewN ?_ _ | refine blk_drew ?_ | refine blk_alloc ?_ _)); exact BK158.out) hg (Kd.R_ne HO166.out BK158.out (by decide)))
                                    have n2_ := Aside0.mk (blk_grown (g := gb159) (o := .cells #[.string x160000_1, .slice none 0 0] 29 (0, 0)) (by (with_reducible repeat (first | refine blk_drewN ?_ _ | refine blk_drew ?_ | refine blk_alloc ?_ _)); exact BK159.out) hg (Kd.R_ne HO166.out BK159.out (by decide)))
                                    have n3_ := Aside0.mk (Kd.R_after (ok := (fun k_ => (w.heap.size ≤ k_))) (by (with_reducible repeat (first | apply Kd.R_alloc | apply Kd.R_drewN | apply Kd.R_drew)); exact Kd.R_mono HO172.out (fun _ hk => ⟨hk.1.1, hk.2⟩)) hg hat)
                                    have n4_ := Aside0.mk (hb)
                                    have n5_ := Aside0.mk (ho)
                                    clear HO_159001
                                    clear BK158
                                    clear BK159
                                    clear HO172
                                    clear HB
                                    clear HO166
                                    have HO_159001 := n0_
                                    have BK158 := n1_
                                    have BK159 := n2_
                                    have HO172 := n3_
                                    have HB := n4_
                                    have HO169 := n5_
                                    clear n0_ n1_ n2_ n3_ n4_ n5_
                                    clear ho hb hg hat
                                    refine hK.out _ _ ⟨(blk_cell BK158.out 0).trans rfl, (blk_cell BK158.out 1).trans rfl⟩ (fun hHeld => ?_)
                                    clear hK K
                                    refine norm_ (a' := ?_) ?_ ?_
                                    rotate_left
                                    · show Act.put _ (some 44) _ = _
                                      simp only [Act.put, List.setIfInBounds_toArray, List.set_cons_zero, List.set_cons_succ, i64_w, i32_w]
                                      rfl
                                    exact norm_ (by simp only [putAll, Act.put, List.setIfInBounds_toArray, List.set_cons_zero, List.set_cons_succ]) (hCont (v165, v168, v171) _ ⟨hHeld, (by (with_reducible repeat (first | apply Kd.R_alloc | apply Kd.R_drewN | apply Kd.R_drew)); exact HO169.out), (by (with_reducible repeat (first | apply Kd.R_alloc | apply Kd.R_drewN | apply Kd.R_drew)); exact HO172.out), (by (with_reducible repeat (first | apply Kd.V_alloc | apply Kd.V_drewN | apply Kd.V_drew)); exact Kd.V_mono HO_159001.out (fun _ hk => ⟨hk.1.1, ⟨hk.2, ⟨hk.1.2.1, ⟨hk.1.2.2.1, hk.1.2.2.2⟩⟩⟩⟩)), (by (with_reducible repeat (first | refine blk_drewN ?_ _ | refine blk_drew ?_ | refine blk_alloc ?_ _)); exact BK158.out), (by (with_reducible repeat (first | refine blk_drewN ?_ _ | refine blk_drew ?_ | refine blk_alloc ?_ _)); exact BK159.out), (by repeat (first | (with_reducible first | exact HB.out | apply below_alloc | apply pw_below_drewN | apply below_drew1 | refine below_set ?_ GE158.out | refine below_set ?_ GE159.out) | exact HB.out))⟩)
                                · skip
                                  refine Kd.R_lit_step k62 _ 62 ?hg (N := 50) ?hd (xs := ([(⟨x1_1, (x159000_1.size : Int)⟩ : S62)] : List (S62))) (inner := [.string x1_1, .int .i64 (x159000_1.size : Int)]) (ok := fun _ => True) (okp := fun _ => True) ?hr ?hp (fun _ hk => hk) trivial (Below.refl _ _) (Nat.le_refl _) (by simp) ?_; (case hd => rfl); (case hg => rfl); (case hr => first | (go_simp; done) | (go_simp; rfl)); (case hp => exact (Reps.c2 (show Kd.M k62 _ _ _ (⟨x1_1, (x159000_1.size : Int)⟩ : S62) [.string x1_1, .int .i64 (x159000_1.size : Int)] from (k62_mkM _ _ _ (⟨x1_1, (x159000_1.size : Int)⟩ : S62) )) (Reps.none _ _)))
                                  intro v171 w43 ho44 hb hg_ hnew_
                                  clear hg_ hnew_
                                  (first | rw [← Ny170.out] at ho44 | (simp only [Int.reduceToNat] at ho44; rw [← Ny170.out] at ho44))
                                  have n0_ := Aside0.mk (Kd.V_elder' (by (with_reducible repeat (first | apply Kd.V_alloc | apply Kd.V_drewN | apply Kd.V_drew)); exact HO_159001.out) (Kd.R_base ho44) hb)
                                  have n1_ := Aside0.mk (Kd.R_lower (Kd.R_newM (M := fun k_ => (w.heap.size ≤ k_)) ho44 (below_size (by repeat (first | (with_reducible first | exact HB.out | apply below_alloc | apply pw_below_drewN | apply below_drew1 | refine below_set ?_ GE158.out | refine below_set ?_ GE159.out) | exact HB.out))) (fun k_ h_ => h_)) (below_size (by repeat (first | (with_reducible first | exact HB.out | apply below_alloc | apply pw_below_drewN | apply below_drew1 | refine below_set ?_ GE158.out | refine below_set ?_ GE159.out) | exact HB.out))))
                                  have n2_ := Aside0.mk (blk_below (g := gb158) (o := .cells #[.string x159000_1, .slice Ao16 x159001_1.length co16] 29 (0, 0)) (by (with_reducible repeat (first | refine blk_drewN ?_ _ | refine blk_drew ?_ | refine blk_alloc ?_ _)); exact BK158.out) hb)
                                  have n3_ := Aside0.mk (blk_below (g := gb159) (o := .cells #[.string x160000_1, .slice none 0 0] 29 (0, 0)) (by (with_reducible repeat (first | refine blk_drewN ?_ _ | refine blk_drew ?_ | refine blk_alloc ?_ _)); exact BK159.out) hb)
                                  have n4_ := Aside0.mk (below_step (by repeat (first | (with_reducible first | exact HB.out | apply below_alloc | apply pw_below_drewN | apply below_drew1 | refine below_set ?_ GE158.out | refine below_set ?_ GE159.out) | exact HB.out)) hb)
                                  clear HO_159001
                                  clear BK158
                                  clear BK159
                                  clear HB
                                  have HO_159001 := n0_
                                  have HO172 := n1_
                                  have BK158 := n2_
                                  have BK159 := n3_
                                  have HB := n4_
                                  clear n0_ n1_ n2_ n3_ n4_
                                  clear hb ho44
                                  refine hK.out _ _ ⟨(blk_cell BK158.out 0).trans rfl, (blk_cell BK158.out 1).trans rfl⟩ (fun hHeld => ?_)
                                  clear hK K
                                  refine norm_ (a' := ?_) ?_ ?_
                                  rotate_left
                                  · show Act.put _ (some 50) _ = _
                                    simp only [Act.put, List.setIfInBounds_toArray, List.set_cons_zero, List.set_cons_succ, i64_w, i32_w]
                                    rfl
                                  refine one_ (i := 0) (N := some 41) #[true, true, true, false, true, true, true, true, true, true, false, false, false] rfl rfl (one_of HT_.out (by kernel_rfl)) (by decide) (fun K hK => ?_)
                                  refine Kd.R_lit_step k62 _ 62 ?hg (N := 41) ?hd (xs := ([] : List (S62))) (inner := []) (ok := fun _ => True) (okp := fun _ => True) ?hr ?hp (fun _ hk => hk) trivial (Below.refl _ _) (Nat.le_refl _) (by simp) ?_; (case hd => rfl); (case hg => rfl); (case hr => first | (go_simp; done) | (go_simp; rfl)); (case hp => exact (Reps.none _ _))
                                  intro v165 w45 ho46 hb hg_ hnew_
                                  clear hg_ hnew_
                                  (first | rw [← Ny164.out] at ho46 | (simp only [Int.reduceToNat] at ho46; rw [← Ny164.out] at ho46))
                                  have n0_ := Aside0.mk (Kd.V_elder' (by (with_reducible repeat (first | apply Kd.V_alloc | apply Kd.V_drewN | apply Kd.V_drew)); exact HO_159001.out) (Kd.R_base ho46) hb)
                                  have n1_ := Aside0.mk (Kd.R_elder' (by (with_reducible repeat (first | apply Kd.R_alloc | apply Kd.R_drewN | apply Kd.R_drew)); exact HO172.out) (Kd.R_base ho46) hb)
                                  have n2_ := Aside0.mk (Kd.R_lower (Kd.R_new' (Kd.R_newM (M := fun k_ => (w.heap.size ≤ k_)) ho46 (below_size (by repeat (first | (with_reducible first | exact HB.out | apply below_alloc | apply pw_below_drewN | apply below_drew1 | refine below_set ?_ GE158.out | refine below_set ?_ GE159.out) | exact HB.out))) (fun k_ h_ => h_)) (Kd.R_lt (by (with_reducible repeat (first | apply Kd.R_alloc | apply Kd.R_drewN | apply Kd.R_drew)); exact HO172.out))) (below_size (by repeat (first | (with_reducible first | exact HB.out | apply below_alloc | apply pw_below_drewN | apply below_drew1 | refine below_set ?_ GE158.out | refine below_set ?_ GE159.out) | exact HB.out))))
                                  have n3_ := Aside0.mk (blk_below (g := gb158) (o := .cells #[.string x159000_1, .slice Ao16 x159001_1.length co16] 29 (0, 0)) (by (with_reducible repeat (first | refine blk_drewN ?_ _ | refine blk_drew ?_ | refine blk_alloc ?_ _)); exact BK158.out) hb)
                                  have n4_ := Aside0.mk (blk_below (g := gb159) (o := .cells #[.string x160000_1, .slice none 0 0] 29 (0, 0)) (by (with_reducible repeat (first | refine blk_drewN ?_ _ | refine blk_drew ?_ | refine blk_alloc ?_ _)); exact BK159.out) hb)
                                  have n5_ := Aside0.mk (below_step (by repeat (first | (with_reducible first | exact HB.out | apply below_alloc | apply pw_below_drewN | apply below_drew1 | refine below_set ?_ GE158.out | refine below_set ?_ GE159.out) | exact HB.out)) hb)
                                  clear HO_159001
                                  clear HO172
                                  clear BK158
                                  clear BK159
                                  clear HB
                                  have HO_159001 := n0_
                                  have HO172 := n1_
                                  have HO166 := n2_
                                  have BK158 := n3_
                                  have BK159 := n4_
                                  have HB := n5_
                                  clear n0_ n1_ n2_ n3_ n4_ n5_
                                  clear hb ho46
                                  refine hK.out _ _ ⟨(blk_cell BK158.out 0).trans rfl, (blk_cell BK158.out 1).trans rfl⟩ (fun hHeld => ?_)
                                  clear hK K
                                  refine norm_ (a' := ?_) ?_ ?_
                                  rotate_left
                                  · show Act.put _ (some 41) _ = _
                                    simp only [Act.put, List.setIfInBounds_toArray, List.set_cons_zero, List.set_cons_succ, i64_w, i32_w]
                                    rfl
                                  refine one_ (i := 3) (N := some 44) #[true, true, true, true, true, true, true, true, true, true, false, false, false] rfl rfl (one_of HT_.out (by kernel_rfl)) (by decide) (fun K hK => ?_)
                                  refine Kd.R_append_rows_step k62 (w0 := w) w.heap.size (by rfl) (.tmp 41) (.tmp 43) 27 62 (.agg #[(.string ⟨#[]⟩), (.int .i64 0)]) 24 rfl Try.underlying27 info62 rfl (by decide) (by omega) v165 y164 x159001_1 _ _ _ (fun k_ => (w.heap.size ≤ k_) ∧ some k_ ≠ (v171 : Value).ownBlock) (fun _ => False) rfl rfl ?aO ?aR (fun _ _ h => h) (fun _ h => h.elim) ?aF ?aB ?aS ?aL ?_
                                  (case aR => repeat (first | exact (Kd.V_reads' HO_159001.out).2.2 | (with_reducible refine Kd.C_alloc ?_ _) | (with_reducible refine Kd.C_drewN ?_ _) | (with_reducible refine Kd.C_drew ?_)))
                                  (case aB => exact (by repeat (first | (with_reducible first | exact HB.out | apply below_alloc | apply pw_below_drewN | apply below_drew1 | refine below_set ?_ GE158.out | refine below_set ?_ GE159.out) | exact HB.out)))
                                  (case aF => exact (fun k_ hk => ⟨(Nat.le_trans (below_size (by repeat (first | (with_reducible first | exact HB.out | apply below_alloc | apply pw_below_drewN | apply below_drew1 | refine below_set ?_ GE158.out | refine below_set ?_ GE159.out) | exact HB.out))) hk), Kd.fresh' (Kd.R_lt (by (with_reducible repeat (first | apply Kd.R_alloc | apply Kd.R_drewN | apply Kd.R_drew)); exact HO172.out)) k_ hk⟩))
                                  (case aO => exact (by (with_reducible repeat (first | apply Kd.R_alloc | apply Kd.R_drewN | apply Kd.R_drew)); exact Kd.R_mono HO166.out (fun _ hk => ⟨hk.1.1, hk.2⟩)))
                                  (case aS => exact (below_size (by repeat (first | (with_reducible first | exact HB.out | apply below_alloc | apply pw_below_drewN | apply below_drew1 | refine below_set ?_ GE158.out | refine below_set ?_ GE159.out) | exact HB.out))))
                                  (case aL => have := LMc30.out; omega)
                                  intro v168 w47 ho hb hg hat
                                  rw [← Ny167.out] at ho
                                  have n0_ := Aside0.mk (Kd.V_afterv (ok := (fun k_ => (P0_1_ k_ ∨ w.heap.size ≤ k_) ∧ some k_ ≠ (v171 : Value).ownBlock ∧ k_ ≠ gb158 ∧ k_ ≠ gb159)) (by (with_reducible repeat (first | apply Kd.V_alloc | apply Kd.V_drewN | apply Kd.V_drew)); exact Kd.V_mono HO_159001.out (fun _ hk => ⟨⟨hk.1.1.1, ⟨hk.1.2, ⟨hk.1.1.2.1, hk.1.1.2.2⟩⟩⟩, hk.2⟩)) hg hat)
                                  have n1_ := Aside0.mk (blk_grown (g := gb158) (o := .cells #[.string x159000_1, .slice Ao16 x159001_1.length co16] 29 (0, 0)) (by (with_reducible repeat (first | refine blk_drewN ?_ _ | refine blk_drew ?_ | refine blk_alloc ?_ _)); exact BK158.out) hg (Kd.R_ne HO166.out BK158.out (by decide)))
                                  have n2_ := Aside0.mk (blk_grown (g := gb159) (o := .cells #[.string x160000_1, .slice none 0 0] 29 (0, 0)) (by (with_reducible repeat (first | refine blk_drewN ?_ _ | refine blk_drew ?_ | refine blk_alloc ?_ _)); exact BK159.out) hg (Kd.R_ne HO166.out BK159.out (by decide)))
                                  have n3_ := Aside0.mk (Kd.R_after (ok := (fun k_ => (w.heap.size ≤ k_))) (by (with_reducible repeat (first | apply Kd.R_alloc | apply Kd.R_drewN | apply Kd.R_drew)); exact Kd.R_mono HO172.out (fun _ hk => ⟨hk.1.1, hk.2⟩)) hg hat)
                                  have n4_ := Aside0.mk (hb)
                                  have n5_ := Aside0.mk (ho)
                                  clear HO_159001
                                  clear BK158
                                  clear BK159
                                  clear HO172
                                  clear HB
                                  clear HO166
                                  have HO_159001 := n0_
                                  have BK158 := n1_
                                  have BK159 := n2_
                                  have HO172 := n3_
                                  have HB := n4_
                                  have HO169 := n5_
                                  clear n0_ n1_ n2_ n3_ n4_ n5_
                                  clear ho hb hg hat
                                  refine hK.out _ _ ⟨(blk_cell BK158.out 0).trans rfl, (blk_cell BK158.out 1).trans rfl⟩ (fun hHeld => ?_)
                                  clear hK K
                                  refine norm_ (a' := ?_) ?_ ?_
                                  rotate_left
                                  · show Act.put _ (some 44) _ = _
                                    simp only [Act.put, List.setIfInBounds_toArray, List.set_cons_zero, List.set_cons_succ, i64_w, i32_w]
                                    rfl
                                  exact norm_ (by simp only [putAll, Act.put, List.setIfInBounds_toArray, List.set_cons_zero, List.set_cons_succ]) (hCont (v165, v168, v171) _ ⟨hHeld, (by (with_reducible repeat (first | apply Kd.R_alloc | apply Kd.R_drewN | apply Kd.R_drew)); exact HO169.out), (by (with_reducible repeat (first | apply Kd.R_alloc | apply Kd.R_drewN | apply Kd.R_drew)); exact HO172.out), (by (with_reducible repeat (first | apply Kd.V_alloc | apply Kd.V_drewN | apply Kd.V_drew)); exact Kd.V_mono HO_159001.out (fun _ hk => ⟨hk.1.1, ⟨hk.2, ⟨hk.1.2.1, ⟨hk.1.2.2.1, hk.1.2.2.2⟩⟩⟩⟩)), (by (with_reducible repeat (first | refine blk_drewN ?_ _ | refine blk_drew ?_ | refine blk_alloc ?_ _)); exact BK158.out), (by (with_reducible repeat (first | refine blk_drewN ?_ _ | refine blk_drew ?_ | refine blk_alloc ?_ _)); exact BK159.out), (by repeat (first | (with_reducible first | exact HB.out | apply below_alloc | apply pw_below_drewN | apply below_drew1 | refine below_set ?_ GE158.out | refine below_set ?_ GE159.out) | exact HB.out))⟩)
                              rintro ⟨v165, v168, v171⟩ w48 ⟨hS_, h0_, h1_, h2_, h3_, h4_, h5_⟩
                              have n0_ : Aside0 (Kd.R k62 62 w48 w.heap.size (fun k_ => (w.heap.size ≤ k_) ∧ some k_ ≠ (v171 : Value).ownBlock) v168 y167) := ⟨h0_⟩
                              have n1_ : Aside0 (Kd.R k62 62 w48 w.heap.size (fun k_ => (w.heap.size ≤ k_) ∧ some k_ ≠ (v168 : Value).ownBlock) v171 y170) := ⟨h1_⟩
                              have n2_ : Aside0 (Kd.V k62 62 w48 w.heap.size (fun k_ => (P0_1_ k_ ∨ w.heap.size ≤ k_) ∧ some k_ ≠ (v168 : Value).ownBlock ∧ some k_ ≠ (v171 : Value).ownBlock ∧ k_ ≠ gb158 ∧ k_ ≠ gb159) (.slice Ao16 x159001_1.length co16) x159001_1) := ⟨h2_⟩
                              have n3_ : Aside0 (w48.heap[gb158]? = some (.cells #[.string x159000_1, .slice Ao16 x159001_1.length co16] 29 (0, 0))) := ⟨h3_⟩
                              have n4_ : Aside0 (w48.heap[gb159]? = some (.cells #[.string x160000_1, .slice none 0 0] 29 (0, 0))) := ⟨h4_⟩
                              have n5_ : Aside0 (Below w.heap.size w w48) := ⟨h5_⟩
                              clear HO_159001
                              clear BK158
                              clear BK159
                              clear HB
                              clear h0_ h1_ h2_ h3_ h4_ h5_
                              have HO169 := n0_
                              have HO172 := n1_
                              have HO_159001 := n2_
                              have BK158 := n3_
                              have BK159 := n4_
                              have HB := n5_
                              clear n0_ n1_ n2_ n3_ n4_ n5_
                              have hHeld : w48.cell? ⟨gb158, 0, none⟩ = some (.string x159000_1) ∧ w48.cell? ⟨gb158, 1, none⟩ = some (.slice Ao16 x159001_1.length co16) := hS_
                              obtain ⟨Ao50, co50, eo50⟩ := Kd.R_slice HO172.out
                              (first | subst eo50 | (injection eo50 with f1_ f2_ f3_; have f4_ := f1_.symm; have f5_ := f3_.symm; clear f1_ f2_ f3_; subst f4_; subst f5_))
                              refine norm_ (a' := ?_) ?_ ?_
                              rotate_left
                              · simp only [putAll, Act.put, List.setIfInBounds_toArray, List.set_cons_zero, List.set_cons_succ]
                                rfl
                              refine one_ (i := 10) (N := some 51) #[true, true, true, true, true, true, true, true, true, true, true, false, false] rfl rfl (one_of HT_.out (by kernel_rfl)) (by decide) (fun K hK => ?_)
                              refine Kd.R_append_rows_step k62 (w0 := w) w.heap.size (by rfl) (.tmp 44) (.tmp 50) 27 62 (.agg #[(.string ⟨#[]⟩), (.int .i64 0)]) 24 rfl Try.underlying27 info62 rfl (by decide) (by omega) v168 y167 y170 _ _ _ (fun k_ => (w.heap.size ≤ k_) ∧ some k_ ≠ (.slice Ao50 y170.length co50 : Value).ownBlock) (fun _ => False) rfl rfl ?aO ?aR (fun _ _ h => h) (fun _ h => h.elim) ?aF ?aB ?aS ?aL ?_
                              (case aR => repeat (first | exact (Kd.R_reads' HO172.out).2.2 | (with_reducible refine Kd.C_alloc ?_ _) | (with_reducible refine Kd.C_drewN ?_ _) | (with_reducible refine Kd.C_drew ?_)))
                              (case aB => exact (by repeat (first | (with_reducible first | exact HB.out | apply below_alloc | apply pw_below_drewN | apply below_drew1 | refine below_set ?_ GE158.out | refine below_set ?_ GE159.out) | exact HB.out)))
                              (case aF => exact (fun k_ hk => ⟨(Nat.le_trans (below_size (by repeat (first | (with_reducible first | exact HB.out | apply below_alloc | apply pw_below_drewN | apply below_drew1 | refine below_set ?_ GE158.out | refine below_set ?_ GE159.out) | exact HB.out))) hk), Kd.fresh' (Kd.R_lt (by (with_reducible repeat (first | apply Kd.R_alloc | apply Kd.R_drewN | apply Kd.R_drew)); exact HO172.out)) k_ hk⟩))
                              (case aO => exact (by (with_reducible repeat (first | apply Kd.R_alloc | apply Kd.R_drewN | apply Kd.R_drew)); exact HO169.out))
                              (case aS => exact (below_size (by repeat (first | (with_reducible first | exact HB.out | apply below_alloc | apply pw_below_drewN | apply below_drew1 | refine below_set ?_ GE158.out | refine below_set ?_ GE159.out) | exact HB.out))))
                              (case aL => have := LMc31.out; omega)
                              intro v174 w49 ho hb hg hat
                              rw [← Ny173.out] at ho
                              have n0_ := Aside0.mk (Kd.V_afterv (ok := (fun k_ => (P0_1_ k_ ∨ w.heap.size ≤ k_) ∧ some k_ ≠ (.slice Ao50 y170.length co50 : Value).ownBlock ∧ k_ ≠ gb158 ∧ k_ ≠ gb159)) (by (with_reducible repeat (first | apply Kd.V_alloc | apply Kd.V_drewN | apply Kd.V_drew)); exact Kd.V_mono HO_159001.out (fun _ hk => ⟨⟨hk.1, ⟨hk.2.2.1, ⟨hk.2.2.2.1, hk.2.2.2.2⟩⟩⟩, hk.2.1⟩)) hg hat)
                              have n1_ := Aside0.mk (blk_grown (g := gb158) (o := .cells #[.string x159000_1, .slice Ao16 x159001_1.length co16] 29 (0, 0)) (by (with_reducible repeat (first | refine blk_drewN ?_ _ | refine blk_drew ?_ | refine blk_alloc ?_ _)); exact BK158.out) hg (Kd.R_ne HO169.out BK158.out (by decide)))
                              have n2_ := Aside0.mk (blk_grown (g := gb159) (o := .cells #[.string x160000_1, .slice none 0 0] 29 (0, 0)) (by (with_reducible repeat (first | refine blk_drewN ?_ _ | refine blk_drew ?_ | refine blk_alloc ?_ _)); exact BK159.out) hg (Kd.R_ne HO169.out BK159.out (by decide)))
                              have n3_ := Aside0.mk (Kd.R_after (ok := (fun k_ => (w.heap.size ≤ k_))) (by (with_reducible repeat (first | apply Kd.R_alloc | apply Kd.R_drewN | apply Kd.R_drew)); exact HO172.out) hg hat)
                              have n4_ := Aside0.mk (hb)
                              have n5_ := Aside0.mk (ho)
                              clear HO_159001
                              clear BK158
                              clear BK159
                              clear HO172
                              clear HB
                              clear HO169
                              have HO_159001 := n0_
                              have BK158 := n1_
                              have BK159 := n2_
                              have HO172 := n3_
                              have HB := n4_
                              have HO175 := n5_
                              clear n0_ n1_ n2_ n3_ n4_ n5_
                              clear ho hb hg hat
                              obtain ⟨Ao51, co51, eo51⟩ := Kd.R_slice HO175.out
                              (first | subst eo51 | (injection eo51 with f1_ f2_ f3_; have f4_ := f1_.symm; have f5_ := f3_.symm; clear f1_ f2_ f3_; subst f4_; subst f5_))
                              refine hK.out _ _ ⟨(blk_cell BK158.out 0).trans rfl, (blk_cell BK158.out 1).trans rfl⟩ (fun hHeld => ?_)
                              clear hK K
                              refine norm_ (a' := ?_) ?_ ?_
                              rotate_left
                              · show Act.put _ (some 51) _ = _
                                simp only [Act.put, List.setIfInBounds_toArray, List.set_cons_zero, List.set_cons_succ, i64_w, i32_w]
                                rfl
                              refine pure_ (i := 11) (N := some 52) (v := ?_) (a' := ?_) #[true, true, true, true, true, true, true, true, true, true, true, true, false] rfl rfl (any_of HT_.out (by kernel_rfl)) (fun _ _ _ h => h) (Or.inl ⟨by rfl, ?_⟩) ?_ ?_
                              rotate_left
                              · intro w'
                                go_simp
                                with_reducible rfl
                              rotate_left
                              · simp only [Act.put, List.setIfInBounds_toArray, List.set_cons_zero, List.set_cons_succ, i64_w, i32_w]
                                rfl
                              refine last_ (i := 12) (N := none) #[true, true, true, true, true, true, true, true, true, true, true, true, true] rfl rfl (one_of HT_.out (by kernel_rfl)) (by decide) (fun K hK => ?_)
                              have hs52 : w49.cell? ⟨gb158, 1, none⟩ = some (.slice Ao16 x159001_1.length co16) := (blk_cell BK158.out 1).trans rfl
                              have hfs52 := blk_frozen BK158.out 1
                              have hns52_1 := NB159_158.out
                              have hms52_1 := NB158_159.out
                              refine skip_ (w1 := ?_) (by rfl) rfl ?_ ?_
                              rotate_left
                              · go_simp
                                rfl
                              refine hK.out _ _ ?_
                              clear hK K
                              refine done_ (done_of HT_.out (by kernel_rfl)) ?_
                              have p33 : 0 ≤ (0 : Int) := (by omega)
                              have q33 : 0 < x1_1.size := (by have : (0 : Int) < (x1_1.size : Int) := of_decide_eq_true (by first | (with_reducible assumption) | assumption); omega)
                              have hx33 : ∀ h : 0 < x1_1.size, ((x1_1[0]'h).toNat : Int) = bt x1_1 0 := bt_at x1_1 0
                              clear p33
                              have qi33 : (0 < (x1_1.size : Int)) = True := eq_true (of_decide_eq_true (by first | (with_reducible assumption) | assumption))
                              replace q33 := eq_true q33
                              try go_wp2
                              have n0_ : Aside0 (Kd.V k62 62 (w49.setCell ⟨gb158, 1, none⟩ (.slice Ao51 y173.length co51)) w.heap.size (fun k_ => (P0_1_ k_ ∨ w.heap.size ≤ k_) ∧ some k_ ≠ (.slice Ao50 y170.length co50 : Value).ownBlock ∧ some k_ ≠ (.slice Ao51 y173.length co51 : Value).ownBlock ∧ k_ ≠ gb158 ∧ k_ ≠ gb159) (.slice Ao16 x159001_1.length co16) x159001_1) := ⟨by (with_reducible repeat (first | apply Kd.V_alloc | apply Kd.V_drewN | apply Kd.V_drew)); exact Kd.V_mono (Kd.V_far (p := ⟨gb158, 1, none⟩) (Kd.V_mono HO_159001.out (fun k_ hk => (⟨hk, hk.1.2.2.1⟩ : _ ∧ k_ ≠ gb158))) (fun _ hk => hk.2) (.slice Ao51 y173.length co51)) (fun _ hk => ⟨hk.1.1.1, ⟨hk.1.1.2.1, ⟨hk.1.2, ⟨hk.1.1.2.2.1, hk.1.1.2.2.2⟩⟩⟩⟩)⟩
                              have n1_ : Aside0 (Kd.R k62 62 (w49.setCell ⟨gb158, 1, none⟩ (.slice Ao51 y173.length co51)) w.heap.size (fun k_ => (w.heap.size ≤ k_) ∧ some k_ ≠ (.slice Ao51 y173.length co51 : Value).ownBlock) (.slice Ao50 y170.length co50) y170) := ⟨by (with_reducible repeat (first | apply Kd.R_alloc | apply Kd.R_drewN | apply Kd.R_drew)); exact Kd.R_mono (Kd.R_far (p := ⟨gb158, 1, none⟩) (Kd.R_types HO172.out BK158.out (by decide)) (fun _ hk => hk.2) (.slice Ao51 y173.length co51)) (fun _ hk => ⟨hk.1.1, hk.1.2⟩)⟩
                              have n2_ : Aside0 (Kd.R k62 62 (w49.setCell ⟨gb158, 1, none⟩ (.slice Ao51 y173.length co51)) w.heap.size (fun k_ => (w.heap.size ≤ k_) ∧ some k_ ≠ (.slice Ao50 y170.length co50 : Value).ownBlock) (.slice Ao51 y173.length co51) y173) := ⟨by (with_reducible repeat (first | apply Kd.R_alloc | apply Kd.R_drewN | apply Kd.R_drew)); exact Kd.R_mono (Kd.R_far (p := ⟨gb158, 1, none⟩) (Kd.R_types HO175.out BK158.out (by decide)) (fun _ hk => hk.2) (.slice Ao51 y173.length co51)) (fun _ hk => ⟨hk.1.1, hk.1.2⟩)⟩
                              have n3_ : Aside0 ((w49.setCell ⟨gb158, 1, none⟩ (.slice Ao51 y173.length co51)).heap[gb158]? = some (.cells #[.string x159000_1, .slice Ao51 y173.length co51] 29 (0, 0))) := ⟨by (with_reducible repeat (first | refine blk_drewN ?_ _ | refine blk_drew ?_ | refine blk_alloc ?_ _)); refine blk_put (cs := #[.string x159000_1, .slice Ao16 x159001_1.length co16]) ?_ 1 _ rfl; (with_reducible repeat (first | refine blk_drewN ?_ _ | refine blk_drew ?_ | refine blk_alloc ?_ _)); exact BK158.out⟩
                              have n4_ : Aside0 ((w49.setCell ⟨gb158, 1, none⟩ (.slice Ao51 y173.length co51)).heap[gb159]? = some (.cells #[.string x160000_1, .slice none 0 0] 29 (0, 0))) := ⟨by (with_reducible repeat (first | refine blk_drewN ?_ _ | refine blk_drew ?_ | refine blk_alloc ?_ _)); refine blk_far ?_ NB159_158.out _; (with_reducible repeat (first | refine blk_drewN ?_ _ | refine blk_drew ?_ | refine blk_alloc ?_ _)); exact BK159.out⟩
                              have n5_ : Aside0 (Below w.heap.size w (w49.setCell ⟨gb158, 1, none⟩ (.slice Ao51 y173.length co51))) := ⟨by repeat (first | (with_reducible first | exact HB.out | apply below_alloc | apply pw_below_drewN | apply below_drew1 | refine below_set ?_ GE158.out | refine below_set ?_ GE159.out) | exact HB.out)⟩
                              (try clear HO_159001)
                              (try clear HO172)
                              (try clear HO175)
                              (try clear BK158)
                              (try clear BK159)
                              (try clear HB)
                              generalize (w49.setCell ⟨gb158, 1, none⟩ (.slice Ao51 y173.length co51)) = w53 at n0_ n1_ n2_ n3_ n4_ n5_ ⊢
                              have HO_159001 := n0_
                              have HO172 := n1_
                              have HO175 := n2_
                              have BK158 := n3_
                              have BK159 := n4_
                              have HB := n5_
                              clear n0_ n1_ n2_ n3_ n4_ n5_
                              have n0_ := Aside0.mk (Kd.V_drew HO_159001.out)
                              have n1_ := Aside0.mk (Kd.R_drew HO172.out)
                              have n2_ := Aside0.mk (Kd.R_drew HO175.out)
                              have n3_ := Aside0.mk (blk_drew BK158.out)
                              have n4_ := Aside0.mk (blk_drew BK159.out)
                              have n5_ := Aside0.mk (below_drew1 HB.out)
                              clear HO_159001
                              clear HO172
                              clear HO175
                              clear BK158
                              clear BK159
                              clear HB
                              have HO_159001 := n0_
                              have HO172 := n1_
                              have HO175 := n2_
                              have BK158 := n3_
                              have BK159 := n4_
                              have HB := n5_
                              clear n0_ n1_ n2_ n3_ n4_ n5_
                              refine start_ (n := 8) (S := fun w' => w'.cell? ⟨gb158, 0, none⟩ = some (.string x159000_1) ∧ w'.cell? ⟨gb158, 1, none⟩ = some (.slice Ao51 y173.length co51)) (ds := [7]) #[false, false, false, false, false, false, false, false] (by kernel_rfl) rfl rfl ⟨(blk_cell BK158.out 0).trans rfl, (blk_cell BK158.out 1).trans rfl⟩ (fun hHeld => ?_); refine with_tabW beadrollref09_Packer_Name.tab9 beadrollref09_Packer_Name.bits9 (fun HT_ HW_ => ?_)
                              generalize w53.drew = w54 at HO_159001 HO172 HO175 BK158 BK159 HB hHeld ⊢
                              refine pure_ (i := 0) (N := some 57) (v := ?_) (a' := ?_) #[true, false, false, false, false, false, false, false] rfl rfl (any_of HT_.out (by kernel_rfl)) (fun _ _ _ h => h) (Or.inl ⟨by rfl, ?_⟩) ?_ ?_
                              rotate_left
                              · intro w'
                                go_simp
                                with_reducible rfl
                              rotate_left
                              · simp only [Act.put, List.setIfInBounds_toArray, List.set_cons_zero, List.set_cons_succ, i64_w, i32_w]
                                rfl
                              refine pure_ (i := 2) (N := some 59) (v := ?_) (a' := ?_) #[true, false, true, false, false, false, false, false] rfl rfl (any_of HT_.out (by kernel_rfl)) (fun _ _ _ h => h) (Or.inl ⟨by rfl, ?_⟩) ?_ ?_
                              rotate_left
                              · intro w'
                                go_simp
                                with_reducible rfl
                              rotate_left
                              · simp only [Act.put, List.setIfInBounds_toArray, List.set_cons_zero, List.set_cons_succ, i64_w, i32_w]
                                rfl
                              refine pure_ (i := 3) (N := some 60) (v := ?_) (a' := ?_) #[true, false, true, true, false, false, false, false] rfl rfl (any_of HT_.out (by kernel_rfl)) (fun _ _ _ h => h) (Or.inl ⟨by rfl, ?_⟩) ?_ ?_
                              rotate_left
                              · intro w'
                                go_simp
                                with_reducible rfl
                              rotate_left
                              · simp only [Act.put, List.setIfInBounds_toArray, List.set_cons_zero, List.set_cons_succ, i64_w, i32_w]
                                rfl
                              refine pure_ (i := 4) (N := some 61) (v := ?_) (a' := ?_) #[true, false, true, true, true, false, false, false] rfl rfl (any_of HT_.out (by kernel_rfl)) (fun _ _ _ h => h) (Or.inl ⟨by rfl, ?_⟩) ?_ ?_
                              rotate_left
                              · intro w'
                                go_simp
                                with_reducible rfl
                              rotate_left
                              · simp only [Act.put, List.setIfInBounds_toArray, List.set_cons_zero, List.set_cons_succ, i64_w, i32_w]
                                rfl
                              refine take_ (i := 1) (N := some 58) (v := ?_) (a' := ?_) #[true, true, true, true, true, false, false, false] rfl rfl (take_ofW HT_.out HW_.out (by kernel_rfl)) (fun _ _ _ h => h) (Or.inl ⟨by rfl, ?_⟩) hHeld ?_ ?_
                              rotate_left
                              · rintro w' ⟨s0, s1⟩
                                go_simp
                                with_reducible rfl
                              rotate_left
                              · simp only [Act.put, List.setIfInBounds_toArray, List.set_cons_zero, List.set_cons_succ, i64_w, i32_w]
                                rfl
                              refine pure_ (i := 5) (N := some 62) (v := ?_) (a' := ?_) #[true, true, true, true, true, true, false, false] rfl rfl (any_of HT_.out (by kernel_rfl)) (fun _ _ _ h => h) (Or.inl ⟨by rfl, ?_⟩) ?_ ?_
                              rotate_left
                              · intro w'
                                go_simp
                                with_reducible rfl
                              rotate_left
                              · simp only [Act.put, List.setIfInBounds_toArray, List.set_cons_zero, List.set_cons_succ, i64_w, i32_w]
                                rfl
                              refine pure_ (i := 6) (N := some 63) (v := ?_) (a' := ?_) #[true, true, true, true, true, true, true, false] rfl rfl (any_of HT_.out (by kernel_rfl)) (fun _ _ _ h => h) (Or.inl ⟨by rfl, ?_⟩) ?_ ?_
                              rotate_left
                              · intro w'
                                go_simp
                                with_reducible rfl
                              rotate_left
                              · simp only [Act.put, List.setIfInBounds_toArray, List.set_cons_zero, List.set_cons_succ, i64_w, i32_w]
                                rfl
                              refine last_ (i := 7) (N := none) #[true, true, true, true, true, true, true, true] rfl rfl (one_of HT_.out (by kernel_rfl)) (by decide) (fun K hK => ?_)
                              have hs55 : w54.cell? ⟨gb158, 0, none⟩ = some (.string x159000_1) := (blk_cell BK158.out 0).trans rfl
                              have hfs55 := blk_frozen BK158.out 0
                              have hns55_1 := NB159_158.out
                              have hms55_1 := NB158_159.out
                              refine skip_ (w1 := ?_) (by rfl) rfl ?_ ?_
                              rotate_left
                              · go_simp
                                rfl
                              refine hK.out _ _ ?_
                              clear hK K
                              refine done_ (done_of HT_.out (by kernel_rfl)) ?_
                              try go_wp2
                              go_roundg kj12
                              case measure => have := HK1.out; have := HJ12.out; omega
                              case rel => exact ⟨(x1_1.extract ((ji34) : Int).toNat x1_1.size), (x159000_1 ++ (x1_1.extract 0 ((ji34) : Int).toNat)), (y173), (x160000_1), (.slice Ao51 y173.length co51), (by first | rfl | (simp; done) | (simp only [← hji34] <;> (first | rfl | simp)) | (simp [*]; done)), H', ⟨by have := HK1.out; have := HJ12.out; omega⟩, ⟨Kd.V_mono (Kd.R_V (by (with_reducible repeat (first | apply Kd.R_alloc | apply Kd.R_drewN | apply Kd.R_drew)); exact Kd.R_mono (ok' := fun k_ => w.heap.size ≤ k_ ∧ k_ ≠ gb158 ∧ k_ ≠ gb159) (Kd.R_far (p := ⟨gb158, 0, none⟩) (Kd.R_types (Kd.R_types (Kd.R_types HO175.out BK158.out (by decide)) BK159.out (by decide)) BK158.out (by decide)) (fun _ hk => hk.2) (.string (x159000_1 ++ (x1_1.extract 0 ((ji34) : Int).toNat)))) (fun _ hk => ⟨hk.1.1.1.1, ⟨hk.1.1.2, hk.1.2⟩⟩))) (fun k_ hk => by first | exact ⟨(.inr (hk.1)), hk.2⟩ | exact (.inr (hk)))⟩, ⟨by (with_reducible repeat (first | refine blk_drewN ?_ _ | refine blk_drew ?_ | refine blk_alloc ?_ _)); refine blk_put (cs := #[.string x159000_1, .slice Ao51 y173.length co51]) ?_ 0 _ rfl; (with_reducible repeat (first | refine blk_drewN ?_ _ | refine blk_drew ?_ | refine blk_alloc ?_ _)); exact BK158.out⟩, ⟨by (with_reducible repeat (first | refine blk_drewN ?_ _ | refine blk_drew ?_ | refine blk_alloc ?_ _)); refine blk_far ?_ NB159_158.out _; (with_reducible repeat (first | refine blk_drewN ?_ _ | refine blk_drew ?_ | refine blk_alloc ?_ _)); exact BK159.out⟩, ⟨by repeat (first | (with_reducible first | exact HB.out | apply below_alloc | apply pw_below_drewN | apply below_drew1 | refine below_set ?_ GE158.out | refine below_set ?_ GE159.out) | exact HB.out)⟩⟩
                            · rw [if_neg c37] at H
                              exact absurd H (by simp)
                          · rw [if_neg c36] at H
                            exact absurd H (by simp)
                        · rw [if_neg c35] at H
                          exact absurd H (by simp)
                      · rw [if_neg c32] at H
                        exact absurd H (by simp)
                    · rw [if_neg c31] at H
                      exact absurd H (by simp)
                  · rw [if_neg c30] at H
                    exact absurd H (by simp)
                · rw [if_neg c29] at H
                  have c29b0 : decide ((x159000_1.size : Int) < 16384) = false := decide_eq_false c29
                  have c29b1 : decide (x159000_1.size < 16384) = false := decide_eq_false (by omega)
                  clear c29
                  by_cases c56 : 0 < (x1_1.size : Int)
                  · rw [if_pos c56] at H
                    have c56b0 : decide (0 < (x1_1.size : Int)) = true := decide_eq_true c56
                    have c56b1 : decide (0 < x1_1.size) = true := decide_eq_true (by omega)
                    clear c56
                    obtain ⟨ji58, hji58⟩ : ∃ j_ : Int, (wrap64 (1 + (wrap64 (bt x1_1 0)))) = j_ := ⟨_, rfl⟩
                    replace H : (if 0 ≤ (ji58) then (if (ji58) ≤ (x1_1.size : Int) then (if x159000_1.size + (x1_1.extract 0 ((ji58) : Int).toNat).size ≤ 9223372036854775807 then (beadrollref09_Packer_Name.l0 kj12 (x1_1.extract ((ji58) : Int).toNat x1_1.size) a2 (x159000_1 ++ (x1_1.extract 0 ((ji58) : Int).toNat)) x159001_1) else (none)) else (none)) else (none)) = some (r1, r2) := by first | (rw [hji58] at H; exact H) | (simp only [hji58] at H ⊢; exact H)
                    have hji58w : (IntKind.i64.wrap (1 + (wrap64 (bt x1_1 0)))) = ji58 := (i64_w _).trans hji58
                    by_cases c59 : 0 ≤ (ji58)
                    · rw [if_pos c59] at H
                      have c59b0 := eq_true c59
                      have c59b1 : decide (0 ≤ (ji58)) = true := decide_eq_true c59
                      clear c59
                      by_cases c60 : (ji58) ≤ (x1_1.size : Int)
                      · rw [if_pos c60] at H
                        have c60b0 := eq_true c60
                        have c60b1 : decide ((ji58) ≤ (x1_1.size : Int)) = true := decide_eq_true c60
                        clear c60
                        by_cases c61 : x159000_1.size + (x1_1.extract 0 ((ji58) : Int).toNat).size ≤ 9223372036854775807
                        · rw [if_pos c61] at H
                          have c61b0 := eq_true c61
                          have c61b1 : decide (x159000_1.size + (x1_1.extract 0 ((ji58) : Int).toNat).size ≤ 9223372036854775807) = true := decide_eq_true c61
                          try have c61b2 : (9223372036854775807 < x159000_1.size + (x1_1.extract 0 ((ji58) : Int).toNat).size) = False := eq_false (Nat.not_lt.2 c61)
                          try have c61b7 : (9223372036854775807 < x159000_1.size + ji58.toNat) = False := eq_false (by have h_ := c61; have h2_ : ji58 ≤ (x1_1.size : Int) := (by first | omega | (apply of_eq_true; assumption)); simp only [ByteArray.size_extract] at h_; omega)
                          have c62b0 := eq_true (of_decide_eq_true (by first | (with_reducible assumption) | assumption) : 0 ≤ (ji58))
                          have c63b0 := eq_true (of_decide_eq_true (by first | (with_reducible assumption) | assumption) : (ji58) ≤ (x1_1.size : Int))
                          have H' := Aside0.mk H
                          clear H
                          have hnb64 := NB158_159.out
                          have hnc64 := NB159_158.out
                          have hcz65_0 : wc.cell? ⟨gb158, 0, none⟩ = some (.string x159000_1) := (blk_cell BK158.out 0).trans rfl
                          have hcz65_1 : wc.cell? ⟨gb158, 1, none⟩ = some (.slice Ao16 x159001_1.length co16) := (blk_cell BK158.out 1).trans rfl
                          have hfz65_0 := blk_frozen BK158.out 0
                          have hfz65_1 := blk_frozen BK158.out 1
                          have p57 : 0 ≤ (0 : Int) := (by omega)
                          have q57 : 0 < x1_1.size := (by have : (0 : Int) < (x1_1.size : Int) := of_decide_eq_true (by first | (with_reducible assumption) | assumption); omega)
                          have hx57 : ∀ h : 0 < x1_1.size, ((x1_1[0]'h).toNat : Int) = bt x1_1 0 := bt_at x1_1 0
                          clear p57
                          have qi57 : (0 < (x1_1.size : Int)) = True := eq_true (of_decide_eq_true (by first | (with_reducible assumption) | assumption))
                          replace q57 := eq_true q57
                          try go_wp2
                          have n0_ := Aside0.mk (Kd.V_drew HO_159001.out)
                          have n1_ := Aside0.mk (blk_drew BK158.out)
                          have n2_ := Aside0.mk (blk_drew BK159.out)
                          have n3_ := Aside0.mk (below_drew1 HB.out)
                          clear HO_159001
                          clear BK158
                          clear BK159
                          clear HB
                          have HO_159001 := n0_
                          have BK158 := n1_
                          have BK159 := n2_
                          have HB := n3_
                          clear n0_ n1_ n2_ n3_
                          refine start_ (n := 8) (S := fun w' => w'.cell? ⟨gb158, 0, none⟩ = some (.string x159000_1) ∧ w'.cell? ⟨gb158, 1, none⟩ = some (.slice Ao16 x159001_1.length co16)) (ds := [7]) #[false, false, false, false, false, false, false, false] (by kernel_rfl) rfl rfl ⟨(blk_cell BK158.out 0).trans rfl, (blk_cell BK158.out 1).trans rfl⟩ (fun hHeld => ?_); refine with_tabW beadrollref09_Packer_Name.tab9 beadrollref09_Packer_Name.bits9 (fun HT_ HW_ => ?_)
                          generalize wc.drew = w66 at HO_159001 BK158 BK159 HB hHeld ⊢
                          refine pure_ (i := 0) (N := some 57) (v := ?_) (a' := ?_) #[true, false, false, false, false, false, false, false] rfl rfl (any_of HT_.out (by kernel_rfl)) (fun _ _ _ h => h) (Or.inl ⟨by rfl, ?_⟩) ?_ ?_
                          rotate_left
                          · intro w'
                            go_simp
                            with_reducible rfl
                          rotate_left
                          · simp only [Act.put, List.setIfInBounds_toArray, List.set_cons_zero, List.set_cons_succ, i64_w, i32_w]
                            rfl
                          refine pure_ (i := 2) (N := some 59) (v := ?_) (a' := ?_) #[true, false, true, false, false, false, false, false] rfl rfl (any_of HT_.out (by kernel_rfl)) (fun _ _ _ h => h) (Or.inl ⟨by rfl, ?_⟩) ?_ ?_
                          rotate_left
                          · intro w'
                            go_simp
                            with_reducible rfl
                          rotate_left
                          · simp only [Act.put, List.setIfInBounds_toArray, List.set_cons_zero, List.set_cons_succ, i64_w, i32_w]
                            rfl
                          refine pure_ (i := 3) (N := some 60) (v := ?_) (a' := ?_) #[true, false, true, true, false, false, false, false] rfl rfl (any_of HT_.out (by kernel_rfl)) (fun _ _ _ h => h) (Or.inl ⟨by rfl, ?_⟩) ?_ ?_
                          rotate_left
                          · intro w'
                            go_simp
                            with_reducible rfl
                          rotate_left
                          · simp only [Act.put, List.setIfInBounds_toArray, List.set_cons_zero, List.set_cons_succ, i64_w, i32_w]
                            rfl
                          refine pure_ (i := 4) (N := some 61) (v := ?_) (a' := ?_) #[true, false, true, true, true, false, false, false] rfl rfl (any_of HT_.out (by kernel_rfl)) (fun _ _ _ h => h) (Or.inl ⟨by rfl, ?_⟩) ?_ ?_
                          rotate_left
                          · intro w'
                            go_simp
                            with_reducible rfl
                          rotate_left
                          · simp only [Act.put, List.setIfInBounds_toArray, List.set_cons_zero, List.set_cons_succ, i64_w, i32_w]
                            rfl
                          refine take_ (i := 1) (N := some 58) (v := ?_) (a' := ?_) #[true, true, true, true, true, false, false, false] rfl rfl (take_ofW HT_.out HW_.out (by kernel_rfl)) (fun _ _ _ h => h) (Or.inl ⟨by rfl, ?_⟩) hHeld ?_ ?_
                          rotate_left
                          · rintro w' ⟨s0, s1⟩
                            go_simp
                            with_reducible rfl
                          rotate_left
                          · simp only [Act.put, List.setIfInBounds_toArray, List.set_cons_zero, List.set_cons_succ, i64_w, i32_w]
                            rfl
                          refine pure_ (i := 5) (N := some 62) (v := ?_) (a' := ?_) #[true, true, true, true, true, true, false, false] rfl rfl (any_of HT_.out (by kernel_rfl)) (fun _ _ _ h => h) (Or.inl ⟨by rfl, ?_⟩) ?_ ?_
                          rotate_left
                          · intro w'
                            go_simp
                            with_reducible rfl
                          rotate_left
                          · simp only [Act.put, List.setIfInBounds_toArray, List.set_cons_zero, List.set_cons_succ, i64_w, i32_w]
                            rfl
                          refine pure_ (i := 6) (N := some 63) (v := ?_) (a' := ?_) #[true, true, true, true, true, true, true, false] rfl rfl (any_of HT_.out (by kernel_rfl)) (fun _ _ _ h => h) (Or.inl ⟨by rfl, ?_⟩) ?_ ?_
                          rotate_left
                          · intro w'
                            go_simp
                            with_reducible rfl
                          rotate_left
                          · simp only [Act.put, List.setIfInBounds_toArray, List.set_cons_zero, List.set_cons_succ, i64_w, i32_w]
                            rfl
                          refine last_ (i := 7) (N := none) #[true, true, true, true, true, true, true, true] rfl rfl (one_of HT_.out (by kernel_rfl)) (by decide) (fun K hK => ?_)
                          have hs67 : w66.cell? ⟨gb158, 0, none⟩ = some (.string x159000_1) := (blk_cell BK158.out 0).trans rfl
                          have hfs67 := blk_frozen BK158.out 0
                          have hns67_1 := NB159_158.out
                          have hms67_1 := NB158_159.out
                          refine skip_ (w1 := ?_) (by rfl) rfl ?_ ?_
                          rotate_left
                          · go_simp
                            rfl
                          refine hK.out _ _ ?_
                          clear hK K
                          refine done_ (done_of HT_.out (by kernel_rfl)) ?_
                          try go_wp2
                          go_roundg kj12
                          case measure => have := HK1.out; have := HJ12.out; omega
                          case rel => exact ⟨(x1_1.extract ((ji58) : Int).toNat x1_1.size), (x159000_1 ++ (x1_1.extract 0 ((ji58) : Int).toNat)), (x159001_1), (x160000_1), (.slice Ao16 x159001_1.length co16), (by first | rfl | (simp; done) | (simp only [← hji58] <;> (first | rfl | simp)) | (simp [*]; done)), H', ⟨by have := HK1.out; have := HJ12.out; omega⟩, ⟨by (with_reducible repeat (first | apply Kd.V_alloc | apply Kd.V_drewN | apply Kd.V_drew)); exact Kd.V_mono (Kd.V_far (p := ⟨gb158, 0, none⟩) (Kd.V_mono HO_159001.out (fun k_ hk => (⟨hk, hk.2.1⟩ : _ ∧ k_ ≠ gb158))) (fun _ hk => hk.2) (.string (x159000_1 ++ (x1_1.extract 0 ((ji58) : Int).toNat)))) (fun _ hk => ⟨hk.1.1, ⟨hk.1.2.1, hk.1.2.2⟩⟩)⟩, ⟨by (with_reducible repeat (first | refine blk_drewN ?_ _ | refine blk_drew ?_ | refine blk_alloc ?_ _)); refine blk_put (cs := #[.string x159000_1, .slice Ao16 x159001_1.length co16]) ?_ 0 _ rfl; (with_reducible repeat (first | refine blk_drewN ?_ _ | refine blk_drew ?_ | refine blk_alloc ?_ _)); exact BK158.out⟩, ⟨by (with_reducible repeat (first | refine blk_drewN ?_ _ | refine blk_drew ?_ | refine blk_alloc ?_ _)); refine blk_far ?_ NB159_158.out _; (with_reducible repeat (first | refine blk_drewN ?_ _ | refine blk_drew ?_ | refine blk_alloc ?_ _)); exact BK159.out⟩, ⟨by repeat (first | (with_reducible first | exact HB.out | apply below_alloc | apply pw_below_drewN | apply below_drew1 | refine below_set ?_ GE158.out | refine below_set ?_ GE159.out) | exact HB.out)⟩⟩
                        · rw [if_neg c61] at H
                          exact absurd H (by simp)
                      · rw [if_neg c60] at H
                        exact absurd H (by simp)
                    · rw [if_neg c59] at H
                      exact absurd H (by simp)
                  · rw [if_neg c56] at H
                    exact absurd H (by simp)
              · rw [if_neg c28] at H
                have c28b0 : decide (t160 < 0) = false := decide_eq_false c28
                clear c28
                by_cases c68 : 0 < (x1_1.size : Int)
                · rw [if_pos c68] at H
                  have c68b0 : decide (0 < (x1_1.size : Int)) = true := decide_eq_true c68
                  have c68b1 : decide (0 < x1_1.size) = true := decide_eq_true (by omega)
                  clear c68
                  obtain ⟨ji70, hji70⟩ : ∃ j_ : Int, (wrap64 (1 + (wrap64 (bt x1_1 0)))) = j_ := ⟨_, rfl⟩
                  replace H : (if 0 ≤ (ji70) then (if (ji70) ≤ (x1_1.size : Int) then (if x159000_1.size + (x1_1.extract 0 ((ji70) : Int).toNat).size ≤ 9223372036854775807 then (beadrollref09_Packer_Name.l0 kj12 (x1_1.extract ((ji70) : Int).toNat x1_1.size) a2 (x159000_1 ++ (x1_1.extract 0 ((ji70) : Int).toNat)) x159001_1) else (none)) else (none)) else (none)) = some (r1, r2) := by first | (rw [hji70] at H; exact H) | (simp only [hji70] at H ⊢; exact H)
                  have hji70w : (IntKind.i64.wrap (1 + (wrap64 (bt x1_1 0)))) = ji70 := (i64_w _).trans hji70
                  by_cases c71 : 0 ≤ (ji70)
                  · rw [if_pos c71] at H
                    have c71b0 := eq_true c71
                    have c71b1 : decide (0 ≤ (ji70)) = true := decide_eq_true c71
                    clear c71
                    by_cases c72 : (ji70) ≤ (x1_1.size : Int)
                    · rw [if_pos c72] at H
                      have c72b0 := eq_true c72
                      have c72b1 : decide ((ji70) ≤ (x1_1.size : Int)) = true := decide_eq_true c72
                      clear c72
                      by_cases c73 : x159000_1.size + (x1_1.extract 0 ((ji70) : Int).toNat).size ≤ 9223372036854775807
                      · rw [if_pos c73] at H
                        have c73b0 := eq_true c73
                        have c73b1 : decide (x159000_1.size + (x1_1.extract 0 ((ji70) : Int).toNat).size ≤ 9223372036854775807) = true := decide_eq_true c73
                        try have c73b2 : (9223372036854775807 < x159000_1.size + (x1_1.extract 0 ((ji70) : Int).toNat).size) = False := eq_false (Nat.not_lt.2 c73)
                        try have c73b7 : (9223372036854775807 < x159000_1.size + ji70.toNat) = False := eq_false (by have h_ := c73; have h2_ : ji70 ≤ (x1_1.size : Int) := (by first | omega | (apply of_eq_true; assumption)); simp only [ByteArray.size_extract] at h_; omega)
                        have c74b0 := eq_true (of_decide_eq_true (by first | (with_reducible assumption) | assumption) : 0 ≤ (ji70))
                        have c75b0 := eq_true (of_decide_eq_true (by first | (with_reducible assumption) | assumption) : (ji70) ≤ (x1_1.size : Int))
                        have H' := Aside0.mk H
                        clear H
                        have p69 : 0 ≤ (0 : Int) := (by omega)
                        have q69 : 0 < x1_1.size := (by have : (0 : Int) < (x1_1.size : Int) := of_decide_eq_true (by first | (with_reducible assumption) | assumption); omega)
                        have hx69 : ∀ h : 0 < x1_1.size, ((x1_1[0]'h).toNat : Int) = bt x1_1 0 := bt_at x1_1 0
                        clear p69
                        have qi69 : (0 < (x1_1.size : Int)) = True := eq_true (of_decide_eq_true (by first | (with_reducible assumption) | assumption))
                        replace q69 := eq_true q69
                        try go_wp2
                        have n0_ := Aside0.mk (Kd.V_drew HO_159001.out)
                        have n1_ := Aside0.mk (blk_drew BK158.out)
                        have n2_ := Aside0.mk (blk_drew BK159.out)
                        have n3_ := Aside0.mk (below_drew1 HB.out)
                        clear HO_159001
                        clear BK158
                        clear BK159
                        clear HB
                        have HO_159001 := n0_
                        have BK158 := n1_
                        have BK159 := n2_
                        have HB := n3_
                        clear n0_ n1_ n2_ n3_
                        refine start_ (n := 8) (S := fun w' => w'.cell? ⟨gb158, 0, none⟩ = some (.string x159000_1) ∧ w'.cell? ⟨gb158, 1, none⟩ = some (.slice Ao16 x159001_1.length co16)) (ds := [7]) #[false, false, false, false, false, false, false, false] (by kernel_rfl) rfl rfl ⟨(blk_cell BK158.out 0).trans rfl, (blk_cell BK158.out 1).trans rfl⟩ (fun hHeld => ?_); refine with_tabW beadrollref09_Packer_Name.tab9 beadrollref09_Packer_Name.bits9 (fun HT_ HW_ => ?_)
                        generalize wc.drew = w76 at HO_159001 BK158 BK159 HB hHeld ⊢
                        refine pure_ (i := 0) (N := some 57) (v := ?_) (a' := ?_) #[true, false, false, false, false, false, false, false] rfl rfl (any_of HT_.out (by kernel_rfl)) (fun _ _ _ h => h) (Or.inl ⟨by rfl, ?_⟩) ?_ ?_
                        rotate_left
                        · intro w'
                          go_simp
                          with_reducible rfl
                        rotate_left
                        · simp only [Act.put, List.setIfInBounds_toArray, List.set_cons_zero, List.set_cons_succ, i64_w, i32_w]
                          rfl
                        refine pure_ (i := 2) (N := some 59) (v := ?_) (a' := ?_) #[true, false, true, false, false, false, false, false] rfl rfl (any_of HT_.out (by kernel_rfl)) (fun _ _ _ h => h) (Or.inl ⟨by rfl, ?_⟩) ?_ ?_
                        rotate_left
                        · intro w'
                          go_simp
                          with_reducible rfl
                        rotate_left
                        · simp only [Act.put, List.setIfInBounds_toArray, List.set_cons_zero, List.set_cons_succ, i64_w, i32_w]
                          rfl
                        refine pure_ (i := 3) (N := some 60) (v := ?_) (a' := ?_) #[true, false, true, true, false, false, false, false] rfl rfl (any_of HT_.out (by kernel_rfl)) (fun _ _ _ h => h) (Or.inl ⟨by rfl, ?_⟩) ?_ ?_
                        rotate_left
                        · intro w'
                          go_simp
                          with_reducible rfl
                        rotate_left
                        · simp only [Act.put, List.setIfInBounds_toArray, List.set_cons_zero, List.set_cons_succ, i64_w, i32_w]
                          rfl
                        refine pure_ (i := 4) (N := some 61) (v := ?_) (a' := ?_) #[true, false, true, true, true, false, false, false] rfl rfl (any_of HT_.out (by kernel_rfl)) (fun _ _ _ h => h) (Or.inl ⟨by rfl, ?_⟩) ?_ ?_
                        rotate_left
                        · intro w'
                          go_simp
                          with_reducible rfl
                        rotate_left
                        · simp only [Act.put, List.setIfInBounds_toArray, List.set_cons_zero, List.set_cons_succ, i64_w, i32_w]
                          rfl
                        refine take_ (i := 1) (N := some 58) (v := ?_) (a' := ?_) #[true, true, true, true, true, false, false, false] rfl rfl (take_ofW HT_.out HW_.out (by kernel_rfl)) (fun _ _ _ h => h) (Or.inl ⟨by rfl, ?_⟩) hHeld ?_ ?_
                        rotate_left
                        · rintro w' ⟨s0, s1⟩
                          go_simp
                          with_reducible rfl
                        rotate_left
                        · simp only [Act.put, List.setIfInBounds_toArray, List.set_cons_zero, List.set_cons_succ, i64_w, i32_w]
                          rfl
                        refine pure_ (i := 5) (N := some 62) (v := ?_) (a' := ?_) #[true, true, true, true, true, true, false, false] rfl rfl (any_of HT_.out (by kernel_rfl)) (fun _ _ _ h => h) (Or.inl ⟨by rfl, ?_⟩) ?_ ?_
                        rotate_left
                        · intro w'
                          go_simp
                          with_reducible rfl
                        rotate_left
                        · simp only [Act.put, List.setIfInBounds_toArray, List.set_cons_zero, List.set_cons_succ, i64_w, i32_w]
                          rfl
                        refine pure_ (i := 6) (N := some 63) (v := ?_) (a' := ?_) #[true, true, true, true, true, true, true, false] rfl rfl (any_of HT_.out (by kernel_rfl)) (fun _ _ _ h => h) (Or.inl ⟨by rfl, ?_⟩) ?_ ?_
                        rotate_left
                        · intro w'
                          go_simp
                          with_reducible rfl
                        rotate_left
                        · simp only [Act.put, List.setIfInBounds_toArray, List.set_cons_zero, List.set_cons_succ, i64_w, i32_w]
                          rfl
                        refine last_ (i := 7) (N := none) #[true, true, true, true, true, true, true, true] rfl rfl (one_of HT_.out (by kernel_rfl)) (by decide) (fun K hK => ?_)
                        have hs77 : w76.cell? ⟨gb158, 0, none⟩ = some (.string x159000_1) := (blk_cell BK158.out 0).trans rfl
                        have hfs77 := blk_frozen BK158.out 0
                        have hns77_1 := NB159_158.out
                        have hms77_1 := NB158_159.out
                        refine skip_ (w1 := ?_) (by rfl) rfl ?_ ?_
                        rotate_left
                        · go_simp
                          rfl
                        refine hK.out _ _ ?_
                        clear hK K
                        refine done_ (done_of HT_.out (by kernel_rfl)) ?_
                        try go_wp2
                        go_roundg kj12
                        case measure => have := HK1.out; have := HJ12.out; omega
                        case rel => exact ⟨(x1_1.extract ((ji70) : Int).toNat x1_1.size), (x159000_1 ++ (x1_1.extract 0 ((ji70) : Int).toNat)), (x159001_1), (x160000_1), (.slice Ao16 x159001_1.length co16), (by first | rfl | (simp; done) | (simp only [← hji70] <;> (first | rfl | simp)) | (simp [*]; done)), H', ⟨by have := HK1.out; have := HJ12.out; omega⟩, ⟨by (with_reducible repeat (first | apply Kd.V_alloc | apply Kd.V_drewN | apply Kd.V_drew)); exact Kd.V_mono (Kd.V_far (p := ⟨gb158, 0, none⟩) (Kd.V_mono HO_159001.out (fun k_ hk => (⟨hk, hk.2.1⟩ : _ ∧ k_ ≠ gb158))) (fun _ hk => hk.2) (.string (x159000_1 ++ (x1_1.extract 0 ((ji70) : Int).toNat)))) (fun _ hk => ⟨hk.1.1, ⟨hk.1.2.1, hk.1.2.2⟩⟩)⟩, ⟨by (with_reducible repeat (first | refine blk_drewN ?_ _ | refine blk_drew ?_ | refine blk_alloc ?_ _)); refine blk_put (cs := #[.string x159000_1, .slice Ao16 x159001_1.length co16]) ?_ 0 _ rfl; (with_reducible repeat (first | refine blk_drewN ?_ _ | refine blk_drew ?_ | refine blk_alloc ?_ _)); exact BK158.out⟩, ⟨by (with_reducible repeat (first | refine blk_drewN ?_ _ | refine blk_drew ?_ | refine blk_alloc ?_ _)); refine blk_far ?_ NB159_158.out _; (with_reducible repeat (first | refine blk_drewN ?_ _ | refine blk_drew ?_ | refine blk_alloc ?_ _)); exact BK159.out⟩, ⟨by repeat (first | (with_reducible first | exact HB.out | apply below_alloc | apply pw_below_drewN | apply below_drew1 | refine below_set ?_ GE158.out | refine below_set ?_ GE159.out) | exact HB.out)⟩⟩
                      · rw [if_neg c73] at H
                        exact absurd H (by simp)
                    · rw [if_neg c72] at H
                      exact absurd H (by simp)
                  · rw [if_neg c71] at H
                    exact absurd H (by simp)
                · rw [if_neg c68] at H
                  exact absurd H (by simp)

end Go.Proofs.Ytekbecpcbfhdmaa.PPak
/- The reference's packer, in plain words: it puts what the program's puts. -/
namespace Go.Proofs.Ytekbecpcbfhdmaa.Pack
open Go.RowKit Go.Proofs.YtekbecpcbfhdmaaW.PrintWords Go.Proofs.Ytekbecpcbfhdmaa.Oct Go.Proofs.Ytekbecpcbfhdmaa.Name Go.Proofs.Ytekbecpcbfhdmaa.PPak Go.Proofs.Ytekbecpcbfhdmaa.PackFacts
set_option linter.unusedVariables false
abbrev Kn := S62
def findV : List Kn → ByteArray → Int
  | [], _ => -1
  | x :: L, n => if x.f0 = n then x.f1 else findV L n
theorem findV_snoc : ∀ (L : List Kn) (x : Kn) (m : ByteArray), (∀ y ∈ L, 0 ≤ y.f1) → findV (L ++ [x]) m = if findV L m = -1 then (if x.f0 = m then x.f1 else -1) else findV L m := by
  intro L
  induction L with
  | nil => intro x m _; simp [findV]
  | cons y L ih =>
    intro x m h
    rw [List.cons_append, findV, findV]
    split
    · rw [if_neg (by have := h y (List.mem_cons_self ..); omega)]
    · exact ih x m fun z hz => h z (List.mem_cons_of_mem _ hz)
theorem rd_known (L : List Kn) (i : Nat) (h : i < L.length) : rd_T62 L (i : Int) = L[i] := by
  unfold rd_T62; rw [Int.toNat_natCast, List.getD_eq_getElem?_getD, List.getElem?_eq_getElem h]; rfl
theorem list_eq_iff {a b : ByteArray} : a.toList = b.toList ↔ a = b := by
  rw [ByteArray.toList_eq, ByteArray.toList_eq]
  exact ⟨fun h => list_inj h, fun h => by rw [h]⟩
theorem find_f (n B : ByteArray) (L : List Kn) (hL : L.length ≤ 1000000) : ∀ (d i k : Nat), i + d = L.length → d < k → beadrollref09_Packer_find.l0 k n (i : Int) B L = some (findV (L.drop i) n) := by
  intro d
  induction d with
  | zero =>
    intro i k hd hk
    obtain ⟨k, rfl⟩ : ∃ j, k = j + 1 := ⟨k - 1, by omega⟩
    rw [beadrollref09_Packer_find.l0, if_neg (by omega), List.drop_of_length_le (by omega)]; rfl
  | succ d ih =>
    intro i k hd hk
    obtain ⟨k, rfl⟩ : ∃ j, k = j + 1 := ⟨k - 1, by omega⟩
    have hlt : i < L.length := by omega
    rw [beadrollref09_Packer_find.l0, if_pos (by omega), if_pos (by omega), rd_known L i hlt, List.drop_eq_getElem_cons hlt, findV]
    by_cases h : L[i].f0 = n
    · rw [if_pos h, if_pos (by rw [h])]
    · rw [if_neg h, if_neg (fun e => h (list_eq_iff.mp e)), w64_id (by omega) (by omega), show (i : Int) + 1 = ((i + 1 : Nat) : Int) by omega]
      exact ih (i + 1) k (by omega) (by omega)
/-- The reference's packer holds what the program's holds. -/
structure Rel (S : St) (B : ByteArray) (L : List Kn) : Prop where
  bytes : B.data.toList = S.1
  known : ∀ m, findV L m = match look S.2 m with | some q => (q : Int) | none => -1
  pos : ∀ y ∈ L, 0 ≤ y.f1
  len : L.length = S.2.length
theorem rel_nil : Rel ([], []) (⟨#[]⟩ : ByteArray) [] := ⟨rfl, fun m => rfl, by simp, rfl⟩
theorem Rel.add {S : St} {B : ByteArray} {L : List Kn} (h : Rel S B L) {n : ByteArray} (hn : look S.2 n = none) (E : ByteArray) : Rel (S.1 ++ E.data.toList, (n, S.1.length) :: S.2) (B ++ E) (L ++ [⟨n, (B.size : Int)⟩]) := by
  have hs : B.size = S.1.length := by rw [← size_list, h.bytes]
  refine ⟨by rw [app_data, h.bytes], fun m => ?_, fun y hy => ?_, by rw [List.length_append, h.len]; rfl⟩
  · rw [findV_snoc _ _ _ h.pos, h.known m]
    simp only [look]
    by_cases hm : m = n
    · subst hm
      rw [hn]; simp [hs]
    · rw [if_neg hm]
      cases hl : look S.2 m with
      | none => simp [Ne.symm hm]
      | some q => simp only; rw [if_neg (by omega)]
  · rcases List.mem_append.mp hy with hy | hy
    · exact h.pos y hy
    · rw [List.mem_singleton.mp hy]; exact Int.natCast_nonneg _
theorem Rel.more {S : St} {B : ByteArray} {L : List Kn} (h : Rel S B L) (E : ByteArray) : Rel (S.1 ++ E.data.toList, S.2) (B ++ E) L := ⟨by rw [app_data, h.bytes], h.known, h.pos, h.len⟩
theorem head_num {n : ByteArray} (h : rightB n = true) (hn : ¬ n = rootB) : 0 < n.size ∧ wrap64 (1 + wrap64 (bt n 0)) = ((head n).size : Int) ∧ (head n).size ≤ n.size ∧ n.extract 0 (head n).size = head n ∧ n.extract (head n).size n.size = par n := by
  obtain ⟨x, l, hx, hxl, hl0, hl1⟩ := head_bytes h hn
  have hp := head_par h hn
  have hpos := right_pos h
  have hh := head_size n
  have hpz := par_size h hn
  have hsz : (head n).size = 1 + x.toNat := by rw [← size_list, hx, List.length_cons]; omega
  have hbt : bt n 0 = (x.toNat : Int) := by
    have := bt_list n 0 hpos
    rw [show ((0 : Nat) : Int) = 0 from rfl] at this
    have e : n.data.toList[0]'(by rw [size_list]; exact hpos) = x := by
      have h1 : n.data.toList[0]? = some x := by rw [← hp, hx]; rfl
      rw [List.getElem?_eq_getElem (by rw [size_list]; exact hpos)] at h1
      exact Option.some.inj h1
    rw [this, e]
  have hlt := UInt8.toNat_lt x
  refine ⟨hpos, by rw [hbt, w64_id (x := (x.toNat : Int)) (by omega) (by omega), w64_id (by omega) (by omega), hsz]; omega, by omega, by rw [hh]; rfl, ?_⟩
  apply list_inj
  rw [drop_list, ← hp, List.drop_left' (size_list _)]
theorem ptr_nums (q : Nat) (hq : q < 16384) : (strOfNums ([(wrap64 (192 + (wrap64 (Int.tdiv (q : Int) 256)))) % 256, (Int.tmod (q : Int) 256) % 256] : List Int)).data.toList = beB 2 (49152 + q) := by
  rw [strOfNums_data, show beB 2 (49152 + q) = [UInt8.ofNat ((49152 + q) / 256 % 256), UInt8.ofNat ((49152 + q) % 256)] from two _]
  rw [Int.tdiv_eq_ediv_of_nonneg (by omega), Int.tmod_eq_emod_of_nonneg (by omega), w64_id (x := (q : Int) / 256) (by omega) (by omega), w64_id (by omega) (by omega)]
  have e1 : ((192 + (q : Int) / 256) % 256).toNat = (49152 + q) / 256 % 256 := by omega
  have e2 : (((q : Int) % 256) % 256).toNat = (49152 + q) % 256 := by omega
  simp only [List.map_cons, List.map_nil, e1, e2]
theorem rname_f (may : Bool) : ∀ (d : Nat) (n B : ByteArray) (L : List Kn) (S : St) (k b : Nat), n.size ≤ d → rightB n = true → Rel S B L → Small S.2 → S.1.length + n.size ≤ b → S.2.length + n.size ≤ b → b ≤ 900000 → 2 * d + b + 10 ≤ k →
    ∃ B' L', beadrollref09_Packer_Name.l0 k n may B L = some (B', L') ∧ Rel (putName n may S) B' L' := by
  intro d
  induction d with
  | zero => intro n B L S k b hd h; have := right_pos h; omega
  | succ d ih =>
    intro n B L S k b hd h hR hs hb1 hb2 hb hk
    obtain ⟨k, rfl⟩ : ∃ j, k = j + 2 := ⟨k - 2, by omega⟩
    have hBs : B.size = S.1.length := by rw [← size_list, hR.bytes]
    by_cases hn : n = rootB
    · subst hn
      rw [beadrollref09_Packer_Name.l0, if_pos (by rw [ByteArray.toList_eq]; rfl), if_pos (by omega), putName_root]
      exact ⟨_, _, rfl, hR.more rootB⟩
    · have hp := par_size h hn
      have hpr := par_right h hn
      obtain ⟨hpos, hnum, hle, hx1, hx2⟩ := head_num h hn
      have hhs := head_size n
      rw [beadrollref09_Packer_Name.l0, if_neg (fun e => hn (by apply list_inj; rw [← ByteArray.toList_eq, e]; rfl))]
      unfold beadrollref09_Packer_find.f
      rw [show (0 : Int) = ((0 : Nat) : Int) from rfl, find_f n B L (by rw [hR.len]; omega) L.length 0 (k + 1) (by omega) (by rw [hR.len]; omega), List.drop_zero, hR.known n, Option.bind_some]
      rw [putName_step may S h hn]
      have go : ∀ (K1 : List (ByteArray × Nat)) (L1 : List Kn), Rel (S.1 ++ (head n).data.toList, K1) (B ++ head n) L1 → Small K1 → K1.length ≤ S.2.length + 1 → (S.2.length + n.size ≤ b) → ∃ B' L', beadrollref09_Packer_Name.l0 k (par n) may (B ++ head n) L1 = some (B', L') ∧ Rel (putName (par n) may (S.1 ++ (head n).data.toList, K1)) B' L' := fun K1 L1 h1 h2 h3 h4 =>
        ih (par n) (B ++ head n) L1 (S.1 ++ (head n).data.toList, K1) k b (by omega) hpr h1 h2 (by show (S.1 ++ (head n).data.toList).length + _ ≤ _; rw [List.length_append, size_list]; omega) (by show K1.length + _ ≤ _; omega) hb (by omega)
      have fin : ∀ (L1 : List Kn) (X : ByteArray × List Kn), beadrollref09_Packer_Name.l0 k (par n) may (B ++ head n) L1 = some X → (if 0 < (n.size : Int) then (if 0 ≤ (wrap64 (1 + (wrap64 (bt n 0)))) then (if (wrap64 (1 + (wrap64 (bt n 0)))) ≤ (n.size : Int) then (if B.size + (n.extract 0 ((wrap64 (1 + (wrap64 (bt n 0)))) : Int).toNat).size ≤ 9223372036854775807 then (beadrollref09_Packer_Name.l0 k (n.extract ((wrap64 (1 + (wrap64 (bt n 0)))) : Int).toNat n.size) may (B ++ (n.extract 0 ((wrap64 (1 + (wrap64 (bt n 0)))) : Int).toNat)) L1) else (none)) else (none)) else (none)) else (none)) = some X := fun L1 X hX => by
        rw [hnum, if_pos (by omega), if_pos (by omega), if_pos (by omega), Int.toNat_natCast, hx1, hx2, if_pos (by omega), hX]
      cases hlk : look S.2 n with
      | some q =>
        have hq := hs n q hlk
        simp only
        rw [if_pos (by omega)]
        cases may with
        | true =>
          rw [beadrollref09_Packer_Name.j1, if_pos rfl, Option.bind_some]
          have hpn := ptr_nums q hq
          generalize strOfNums ([(wrap64 (192 + (wrap64 (Int.tdiv (q : Int) 256)))) % 256, (Int.tmod (q : Int) 256) % 256] : List Int) = E at hpn ⊢
          have hE : E.size = 2 := by rw [← size_list, hpn, beB_len]
          rw [if_pos (by omega), if_pos rfl, ← hpn]
          exact ⟨_, _, rfl, hR.more E⟩
        | false =>
          rw [beadrollref09_Packer_Name.j1, if_neg (by decide), if_neg (by omega)]
          obtain ⟨B', L', e1, e2⟩ := go S.2 L (hR.more (head n)) hs (by omega) hb2
          exact ⟨B', L', fin L _ e1, e2⟩
      | none =>
        simp only
        rw [if_neg (by omega), beadrollref09_Packer_Name.j1, if_neg (by decide), if_pos (by omega)]
        by_cases h16 : S.1.length < 16384
        · rw [if_pos (by omega), Option.bind_some, if_pos (by simp; rw [hR.len]; omega), Option.bind_some, Option.bind_some, if_pos (by simp; rw [hR.len]; omega), if_pos h16]
          obtain ⟨B', L', e1, e2⟩ := go ((n, S.1.length) :: S.2) (L ++ [⟨n, (B.size : Int)⟩]) (hR.add hlk (head n)) (hs.put h16) (by simp) hb2
          exact ⟨B', L', by rw [List.nil_append]; exact fin _ _ e1, e2⟩
        · rw [if_neg (by omega), if_neg h16]
          obtain ⟨B', L', e1, e2⟩ := go S.2 L (hR.more (head n)) hs (by omega) hb2
          exact ⟨B', L', fin L _ e1, e2⟩
end Go.Proofs.Ytekbecpcbfhdmaa.Pack
/- The walk of the law PackPlain. -/
namespace Go.Proofs.Ytekbecpcbfhdmaa.Pack
open Go.RowKit Go.Proofs.YtekbecpcbfhdmaaW.PrintWords Go.Proofs.Ytekbecpcbfhdmaa.Oct Go.Proofs.Ytekbecpcbfhdmaa.Name Go.Proofs.Ytekbecpcbfhdmaa.PPak Go.Proofs.Ytekbecpcbfhdmaa.PackFacts Go.Proofs.Ytekbecpcbfhdmaa.Given
set_option linter.unusedVariables false
set_option linter.unusedSimpArgs false
theorem rd_item (l : List It) (i : Nat) (h : i < l.length) : rd_T31 l (i : Int) = l[i] := by
  unfold rd_T31; rw [Int.toNat_natCast, List.getD_eq_getElem?_getD, List.getElem?_eq_getElem h]; rfl
theorem few_calls (A0 : Option Addr) (c0 : Nat) (l : List It) (w : World) (hr : Kd.C k31 w A0 l.length l) (hc : l.length ≤ c0) (hl : l.length ≤ 9223372036854775807) :
    Calls Try.prog 9 #[.slice A0 l.length c0] w fun e w' => e = .returned (.bool (fewB l)) ∧ Below w.heap.size w w' := by
  obtain ⟨k, hk⟩ := few_big l hl 0
  exact (beadrolllaw09_few.calls k A0 c0 l _ w hr hc hk).mono fun e w' ⟨he, hd⟩ => ⟨he, hd.below⟩
theorem right_calls (n : ByteArray) (w : World) :
    Calls Try.prog 13 #[.string n] w fun e w' => e = .returned (.bool (rightB n)) ∧ Below w.heap.size w w' :=
  beadrollref07_Right.calls 600 n (rightB n) w (rright_f n 600 (by omega))
theorem cells_item {A0 : Option Addr} {l : List It} {w : World} (hr : Kd.C k31 w A0 l.length l) (i : Nat) (hlt : i < l.length) : ∃ ad, A0 = some ad ∧ ∀ W, Below w.heap.size w W →
    W.cell? (ad.add (i * 3)) = some (.bool l[i].f0) ∧ W.cell? ⟨(ad.add (i * 3)).block, (ad.add (i * 3)).off + 1, none⟩ = some (.string l[i].f1) ∧ W.cell? ⟨(ad.add (i * 3)).block, (ad.add (i * 3)).off + 2, none⟩ = some (.bool l[i].f2) := by
  obtain ⟨ad, rfl, _⟩ := at_T31 hr (i : Int) (by omega) (by omega)
  refine ⟨ad, rfl, fun W hW => ?_⟩
  obtain ⟨ad', h0, h1, h2, h3⟩ := at_T31 (Kd.C_below hr hW) (i : Int) (by omega) (by omega)
  obtain rfl := Option.some.inj h0
  rw [rd_item l i hlt] at h1 h2 h3
  exact ⟨h1, h2, h3⟩
set_option maxHeartbeats 4000000 in
set_option maxRecDepth 100000 in
theorem plain_walk (A0 : Option Addr) (c0 : Nat) (l : List It) (n : ByteArray) (w : World) (hr : Kd.C k31 w A0 l.length l) (hc : l.length ≤ c0) (hl : l.length ≤ 9223372036854775807) :
    Calls Try.prog 4 #[.slice A0 l.length c0, .string n] w fun e w' => e = .returned (.bool true) ∧ Below w.heap.size w w' := by
  have HR := Lib.hid hr
  clear hr
  have early : ∀ W, Below w.heap.size w W → Calls Try.prog 8 #[] W fun e w' => e = .returned (.bool true) ∧ Below w.heap.size w w' := fun W hW => (awake_any W).mono fun e w' ⟨he, hb⟩ => ⟨he, below_then hW hW.size hb⟩
  have EARLY := Lib.hid early
  clear early
  go_enter Try.func4, Try.ntmps4
  go_wp2_with fail
  refine (EARLY.out _ (Below.refl _ _)).mono ?_
  rintro e w1 ⟨rfl, b1⟩
  have B1 := Lib.hid b1
  clear b1
  go_wp2_with fail
  refine (few_calls A0 c0 l _ (Kd.C_below HR.out B1.out) hc hl).mono ?_
  rintro e w2 ⟨rfl, b2⟩
  have B2 := Lib.hid (below_then B1.out B1.out.size b2)
  clear b2
  cases hf : fewB l with
  | false =>
    clear hf
    go_wp2_with fail
    refine (EARLY.out _ B2.out).mono ?_
    rintro e w3 ⟨rfl, b3⟩
    go_wp2_with fail
    go_ret
    exact ⟨rfl, b3⟩
  | true =>
    have HF := Lib.hid hf
    clear hf
    by_cases h20 : l.length ≤ 20
    · have t0 : decide (20 < (l.length : Int)) = false := decide_eq_false (by omega)
      have t1 : decide (20 < l.length) = false := decide_eq_false (by omega)
      go_wp2_with fail
      refine (right_calls n _).mono ?_
      rintro e w3 ⟨rfl, b3⟩
      have B3 := Lib.hid (below_then B2.out B2.out.size b3)
      clear b3
      cases hn : rightB n with
      | false =>
        clear hn
        go_wp2_with fail
        refine (EARLY.out _ B3.out).mono ?_
        rintro e w4 ⟨rfl, b4⟩
        go_wp2_with fail
        go_ret
        exact ⟨rfl, b4⟩
      | true =>
        have HN := Lib.hid hn
        clear hn
        go_wp2_with fail
        refine (New w.heap.size w3 B3.out.size).mono ?_
        rintro e w4 ⟨p, mb, rfl, hpk, hp, hm, b4⟩
        have O4 := Lib.hid (show One w p mb ([], []) w4 from ⟨⟨none, hpk⟩, below_then B3.out B3.out.size b4⟩)
        clear hpk hp hm b4
        go_wp2_with fail
        refine (New w.heap.size w4 O4.out.lo).mono ?_
        rintro e w5 ⟨q, mc, rfl, hpk, hp, hm, b5⟩
        have O5 := Lib.hid (O4.out.second hpk hp hm b5)
        clear hpk hp hm b5
        go_wp2_with fail
        go_loopw [7] (fun v7 wr => ∃ i : Nat, i ≤ l.length ∧ v7 = .int .i64 i ∧ Hid (Two w p mb q mc (runI (l.take i) ([], [])) (runI (l.take i) ([], [])) wr)) (fun v _ => l.length - (intOf v).toNat)
        case atStart => exact ⟨0, Nat.zero_le _, rfl, O5⟩
        case round =>
          clear O5 O4 B3 B2 B1
          obtain ⟨i, hi, rfl, HT⟩ := hrel
          have hfit : Fit (runI (l.take i) ([], [])) (17000 * i) := by
            have := run_fit (l.take i) ([], []) 0 (fun x hx => of_decide_eq_true (List.all_eq_true.mp (Bool.and_eq_true_iff.mp HF.out).1 x (List.mem_of_mem_take hx))) (fit_nil 0)
            rw [List.length_take, Nat.min_eq_left hi, Nat.zero_add] at this; exact this
          by_cases hlt : i < l.length
          · have t2 : decide ((i : Int) < (l.length : Int)) = true := decide_eq_true (by omega)
            have hsn : runI (l.take (i + 1)) ([], []) = itemStep l[i] (runI (l.take i) ([], [])) := by rw [List.take_succ_eq_append_getElem hlt, runI_snoc]
            have hx17 : l[i].f1.size ≤ 17000 := of_decide_eq_true (List.all_eq_true.mp (Bool.and_eq_true_iff.mp HF.out).1 _ (List.getElem_mem hlt))
            obtain ⟨ad, rfl, hcell⟩ := cells_item HR.out i hlt
            obtain ⟨x, hx⟩ : ∃ x, l[i] = x := ⟨_, rfl⟩
            rw [hx] at hsn hx17 hcell
            obtain ⟨S, hS⟩ : ∃ S, runI (l.take i) ([], []) = S := ⟨_, rfl⟩
            rw [hS] at hfit HT hsn
            have HSN := Lib.hid hsn
            have HFIT := Lib.hid hfit
            clear hsn hfit hS hx
            obtain ⟨raw, s, may⟩ := x
            simp only at hcell hx17
            have HC := Lib.hid hcell
            obtain ⟨hc0, hc1, hc2⟩ := hcell _ HT.out.below
            clear hcell
            have hlen : S.1.length + s.size ≤ 1000000 := by have := HFIT.out.bytes; omega
            cases raw with
            | true =>
              go_wp2_with fail
              refine (HT.out.Raw s hlen).mono ?_
              rintro e w6 ⟨rfl, h6⟩
              have H6 := Lib.hid h6.flip
              clear h6 hc0 hc1 hc2 HT
              obtain ⟨hc0, hc1, hc2⟩ := HC.out _ H6.out.below
              go_wp2_with fail
              refine (H6.out.Raw s hlen).mono ?_
              rintro e w7 ⟨rfl, h7⟩
              have H7 := Lib.hid h7.flip
              clear h7 hc0 hc1 hc2
              go_wp2_with fail
              refine ⟨⟨i + 1, by omega, by simp, Lib.hid ?_⟩, by simp [intOf]; omega⟩
              rw [HSN.out]; exact H7.out
            | false =>
              go_wp2_with fail
              go_still_tail 11, (by kernel_rfl)
              change wpList _ _ _ _ _ wr.drew
              have hd : Below wr.heap.size wr wr.drew := (Below.refl _ wr).drew
              have HD := Lib.hid (HT.out.rest hd)
              clear hd hc0 hc1 hc2 HT
              generalize wr.drew = wd at HD
              go_wp2_with fail
              refine (HD.out.Name s may _ HFIT.out (by omega)).mono ?_
              rintro e w6 ⟨rfl, h6⟩
              have H6 := Lib.hid h6.flip
              clear h6 HD
              obtain ⟨hc0, hc1, hc2⟩ := HC.out _ H6.out.below
              go_wp2_with fail
              go_still_tail 11, (by kernel_rfl)
              change wpList _ _ _ _ _ w6.drew
              have hd : Below w6.heap.size w6 w6.drew := (Below.refl _ w6).drew
              have HD := Lib.hid (H6.out.rest hd)
              clear hd hc0 hc1 hc2 H6
              generalize w6.drew = wd at HD
              go_wp2_with fail
              refine (HD.out.Name s may _ HFIT.out (by omega)).mono ?_
              rintro e w7 ⟨rfl, h7⟩
              have H7 := Lib.hid h7.flip
              clear h7 HD
              go_wp2_with fail
              refine ⟨⟨i + 1, by omega, by simp, Lib.hid ?_⟩, by simp [intOf]; omega⟩
              rw [HSN.out]; exact H7.out
          · obtain rfl : i = l.length := by omega
            have t2 : decide ((l.length : Int) < (l.length : Int)) = false := decide_eq_false (by omega)
            rw [List.take_of_length_le (Nat.le_refl _)] at HT hfit
            obtain ⟨S, hS⟩ : ∃ S, runI l ([], []) = S := ⟨_, rfl⟩
            rw [hS] at hfit HT
            have HFIT := Lib.hid hfit
            clear hfit hS hlt hi
            have hnr := HN.out
            have hnz := right_size hnr
            have hcode : codeOf n = 0 := by unfold codeOf; rw [if_pos hnr]
            have hst : ∀ m, nameStep n m S = putName n m S := fun m => by unfold nameStep; rw [if_pos hnr]
            have hfull := put_full n.size n S (Nat.le_refl _) hnr
            have hless := put_less n.size n S (Nat.le_refl _) hnr
            have hbig := HFIT.out.bytes
            obtain ⟨P, hP⟩ : ∃ P, putName n false S = P := ⟨_, rfl⟩
            obtain ⟨Q, hQ⟩ : ∃ Q, putName n true S = Q := ⟨_, rfl⟩
            rw [hP] at hfull
            rw [hQ] at hless
            have HFULL := Lib.hid hfull
            have hPl : P.1.length = S.1.length + n.size := by rw [hfull, List.length_append, size_list]
            have HPL := Lib.hid hPl
            have HCODE := Lib.hid hcode
            have HST := Lib.hid hst
            have HP := Lib.hid hP
            have HQ := Lib.hid hQ
            obtain ⟨hq1, hq2⟩ := hless
            obtain ⟨u, hu⟩ : ∃ u, S.1.length = u := ⟨_, rfl⟩
            obtain ⟨v, hv⟩ : ∃ v, P.1.length = v := ⟨_, rfl⟩
            obtain ⟨z, hz⟩ : ∃ z, Q.1.length = z := ⟨_, rfl⟩
            rw [hu] at hq1 hq2 hPl hbig
            rw [hv] at hPl
            rw [hz] at hq1 hq2
            have HU := Lib.hid hu
            have HV := Lib.hid hv
            have HZ := Lib.hid hz
            have huv : u ≤ v := by omega
            have hvb : v ≤ 341000 := by omega
            have hzv : z ≤ v := by omega
            clear hPl HPL hq1
            clear hu hv hz hP hQ hst hcode hfull
            go_wp2_with fail
            refine (HT.out.one.Len).mono ?_
            rintro e w6 ⟨rfl, rfl⟩
            rw [HU.out]
            go_wp2_with fail
            refine (HT.out.flip.one.Len).mono ?_
            rintro e w6 ⟨rfl, rfl⟩
            rw [HU.out]
            go_wp2_with fail
            refine (HT.out.Name n false _ HFIT.out (by omega)).mono ?_
            rintro e w6 ⟨rfl, h6⟩
            rw [HST.out, HP.out] at h6
            rw [HCODE.out]
            have H6 := Lib.hid h6.flip
            clear h6
            go_wp2_with fail
            refine (H6.out.Name n true _ HFIT.out (by omega)).mono ?_
            rintro e w7 ⟨rfl, h7⟩
            rw [HST.out, HQ.out] at h7
            rw [HCODE.out]
            have H7 := Lib.hid h7.flip
            clear h7 H6 HT
            obtain ⟨str, hstr⟩ : ∃ str, Oct.arr P.1 = str := ⟨_, rfl⟩
            have hsz : str.size = v := by rw [← hstr, arr_size]; exact HV.out
            have hdl : str.data.toList = P.1 := by rw [← hstr]; exact arr_list _
            have HSTR := Lib.hid hstr
            have HSZ := Lib.hid hsz
            have HDL := Lib.hid hdl
            clear hstr hsz hdl
            have t3 : decide ((v : Int) < (u : Int)) = false := decide_eq_false (by omega)
            have t3' : decide (v < u) = false := decide_eq_false (by omega)
            have t4 : ((str.size : Int) != (v : Int)) = false := by rw [HSZ.out]; simp
            have t5 : decide ((z : Int) ≤ (v : Int)) = true := decide_eq_true (by omega)
            have t5' : decide (z ≤ v) = true := decide_eq_true (by omega)
            have t6 : decide ((z : Int) ≥ (u : Int) + 1) = true := decide_eq_true (by omega)
            have t6' : decide ((u : Int) + 1 ≤ (z : Int)) = true := decide_eq_true (by omega)
            have hext : str.extract u str.size = n := by
              apply list_inj
              rw [drop_list, HDL.out, HFULL.out, ← HU.out, List.drop_left]
            have hex2 : ((str.extract u str.size).toList = n.toList) = True := by rw [hext]; simp
            have hext' : ((str.extract u str.size).toList == n.toList) = true := by rw [hext]; simp
            have hus : (u ≤ str.size) = True := by rw [HSZ.out]; exact eq_true huv
            clear hext
            go_wp2_with fail
            refine (H7.out.one.Len).mono ?_
            rintro e w8 ⟨rfl, rfl⟩
            rw [HV.out]
            go_wp2_with fail
            refine (H7.out.one.Bytes (by have := HV.out; omega)).mono ?_
            rintro e w8 ⟨rfl, rfl⟩
            rw [HSTR.out]
            go_wp2_with fail
            refine (H7.out.one.Len).mono ?_
            rintro e w8 ⟨rfl, rfl⟩
            rw [HV.out]
            go_wp2_with fail
            refine (H7.out.one.Bytes (by have := HV.out; omega)).mono ?_
            rintro e w8 ⟨rfl, rfl⟩
            rw [HSTR.out]
            go_wp2_with fail
            refine (H7.out.flip.one.Len).mono ?_
            rintro e w8 ⟨rfl, rfl⟩
            rw [HZ.out]
            go_wp2_with fail
            refine (H7.out.one.Len).mono ?_
            rintro e w8 ⟨rfl, rfl⟩
            rw [HV.out]
            go_wp2_with fail
            refine (H7.out.flip.one.Len).mono ?_
            rintro e w8 ⟨rfl, rfl⟩
            rw [HZ.out]
            go_wp2_with fail
            go_ret
            exact ⟨rfl, H7.out.below⟩
    · have t0 : decide (20 < (l.length : Int)) = true := decide_eq_true (by omega)
      have t1 : decide (20 < l.length) = true := decide_eq_true (by omega)
      go_wp2_with fail
      refine (EARLY.out _ B2.out).mono ?_
      rintro e w3 ⟨rfl, b3⟩
      go_wp2_with fail
      go_ret
      exact ⟨rfl, b3⟩
theorem PackPlain_walk (A0 : Option Addr) (c0 : Nat) (l : List It) (n : ByteArray) (w : World) (hr : Kd.C k31 w A0 l.length l) (hc : l.length ≤ c0) (hm : l.length ≤ maxLen) (hs : ∀ s ∈ l, True) (hn : n.size ≤ 140737488351232) :
    Calls Try.prog 4 #[.slice A0 l.length c0, .string n] w fun e w' => e = .returned (.bool true) ∧ Below w.heap.size w w' := plain_walk A0 c0 l n w hr hc (by unfold maxLen at hm; omega)
end Go.Proofs.Ytekbecpcbfhdmaa.Pack
/- The walk of the law PackMakes. -/
namespace Go.Proofs.Ytekbecpcbfhdmaa.Pack
open Go.RowKit Go.Proofs.YtekbecpcbfhdmaaW.PrintWords Go.Proofs.YtekbecpcbfhdmaaW.PrintMore Go.Proofs.Ytekbecpcbfhdmaa.Oct Go.Proofs.Ytekbecpcbfhdmaa.Name Go.Proofs.Ytekbecpcbfhdmaa.PPak Go.Proofs.Ytekbecpcbfhdmaa.PackFacts Go.Proofs.Ytekbecpcbfhdmaa.Given
set_option linter.unusedVariables false
set_option linter.unusedSimpArgs false
abbrev kKn := k62
/-- A packer, and beside it the reference's, in a box. -/
structure Mk (w0 : World) (p mb gb : Nat) (S : St) (B : ByteArray) (A : Option Addr) (c : Nat) (L : List Kn) (w : World) : Prop where
  pk : ∃ g, Pk w0.heap.size p mb g S.1 S.2 w ∧ Kd.V kKn 62 w w0.heap.size (fun k => k < w.heap.size ∧ k ≠ gb ∧ ¬ Own p mb g k) (.slice A L.length c) L ∧ ¬ Own p mb g gb
  box : w.heap[gb]? = some (.cells #[.string B, .slice A L.length c] 29 (0, 0))
  lo : w0.heap.size ≤ gb
  below : Below w0.heap.size w0 w
section
variable {w0 : World} {p mb gb : Nat} {S S' : St} {B : ByteArray} {A : Option Addr} {c : Nat} {L : List Kn} {w w' : World}
theorem Mk.one (h : Mk w0 p mb gb S B A c L w) : One w0 p mb S w := by
  obtain ⟨g, hp, _⟩ := h.pk
  exact ⟨⟨g, hp⟩, h.below⟩
theorem Mk.size (h : Mk w0 p mb gb S B A c L w) : w0.heap.size ≤ w.heap.size := h.below.size
theorem Mk.rest (h : Mk w0 p mb gb S B A c L w) (hb : Below w.heap.size w w') : Mk w0 p mb gb S B A c L w' := by
  obtain ⟨g, hp, hv, hn⟩ := h.pk
  exact ⟨⟨g, hp.below hb, Kd.V_mono (Kd.V_below hv hb) fun k hk => ⟨Nat.lt_of_lt_of_le hk.1 hb.size, hk.2⟩, hn⟩, (hb.block gb (blk_lt h.box)).trans h.box, h.lo, below_then h.below h.size hb⟩
theorem Mk.step {g : Option Nat} (h : Mk w0 p mb gb S B A c L w) (hp : Pk w0.heap.size p mb g S.1 S.2 w) (hv : Kd.V kKn 62 w w0.heap.size (fun k => k < w.heap.size ∧ k ≠ gb ∧ ¬ Own p mb g k) (.slice A L.length c) L) (hn : ¬ Own p mb g gb)
    (hs : Stepped w0.heap.size p mb g S'.1 S'.2 w w') : Mk w0 p mb gb S' B A c L w' := by
  obtain ⟨⟨g2, hp', hg2⟩, ht⟩ := hs
  have hown : ∀ k, k < w.heap.size → Own p mb g2 k → Own p mb g k := fun k hk ho => by
    rcases ho with e | e | e
    · exact .inl e
    · exact .inr (.inl e)
    · rcases hg2 k e with e' | e'
      · exact .inr (.inr e')
      · omega
  refine ⟨⟨g2, hp', Kd.V_mono (Kd.V_step hv fun k hk hlt => ht.block k hlt hk.2.2) fun k hk => ⟨Nat.lt_of_lt_of_le hk.1 ht.size, hk.2.1, fun ho => hk.2.2 (hown k hk.1 ho)⟩, fun ho => hn (hown gb (blk_lt h.box) ho)⟩, (ht.block gb (blk_lt h.box) hn).trans h.box, h.lo, h.below.trans (ht.below h.size fun k hk => hp.own_lo k hk)⟩
theorem Mk.Raw (h : Mk w0 p mb gb S B A c L w) (s : ByteArray) (hl : S.1.length + s.size ≤ 1000000) :
    Calls Try.prog 11 #[.pointer (some ⟨p, 0, none⟩), .string s] w fun e w' => e = .returned (.tuple #[]) ∧ Mk w0 p mb gb (S.1 ++ s.data.toList, S.2) B A c L w' := by
  obtain ⟨g, h1, h2, h3⟩ := h.pk
  exact (Pack.Raw w0.heap.size p mb g S.2 S.1 s w h1 hl h.size).mono fun e w' ⟨he, hs⟩ => ⟨he, h.step (S' := (S.1 ++ s.data.toList, S.2)) h1 h2 h3 hs⟩
theorem Mk.Name (h : Mk w0 p mb gb S B A c L w) (n : ByteArray) (may : Bool) (b : Nat) (hf : Fit S b) (hb : b ≤ 900000) :
    Calls Try.prog 12 #[.pointer (some ⟨p, 0, none⟩), .string n, .bool may] w fun e w' => e = .returned (.int .i64 (codeOf n)) ∧ Mk w0 p mb gb (nameStep n may S) B A c L w' := by
  obtain ⟨g, h1, h2, h3⟩ := h.pk
  unfold codeOf nameStep
  by_cases hr : rightB n = true
  · have hz := right_size hr
    rw [if_pos hr, if_pos hr]
    exact (Pack.Name w0.heap.size p mb g S.2 S.1 n may w h1 hr hf.small (by have := hf.bytes; omega) (by have := hf.known; omega) h.size).mono fun e w' ⟨he, hs⟩ => ⟨he, h.step (S' := putName n may S) h1 h2 h3 hs⟩
  · rw [if_neg hr, if_neg hr]
    exact (Name_no p n may w (by simpa using hr)).mono fun e w' ⟨he, hs⟩ => ⟨he, h.rest hs⟩
theorem Mk.start (hpk : Pk w0.heap.size p mb none [] [] w) (hb : Below w0.heap.size w0 w) : Mk w0 p mb w.heap.size ([], []) ⟨#[]⟩ none 0 [] (w.alloc (.cells #[.string ⟨#[]⟩, .slice none 0 0] 29)) := by
  have hb1 : Below w.heap.size w (w.alloc (.cells #[.string ⟨#[]⟩, .slice none 0 0] 29)) := (Below.refl _ _).alloc (Nat.le_refl _) _
  refine ⟨⟨none, hpk.below hb1, Kd.V_nil _ _ _ _ _, fun ho => ?_⟩, heap_alloc_new w _, hb.size, below_then hb hb.size hb1⟩
  have := hpk.own_lt _ ho
  omega
/-- The box is written: its bytes. -/
theorem Mk.bytes (h : Mk w0 p mb gb S B A c L w) (B' : ByteArray) : Mk w0 p mb gb S B' A c L (w.setCell ⟨gb, 0, none⟩ (.string B')) := by
  obtain ⟨g, h1, h2, h3⟩ := h.pk
  have ht : Touch (fun k => k = gb) w (w.setCell ⟨gb, 0, none⟩ (.string B')) := Touch.setCell (p := ⟨gb, 0, none⟩) (S := fun k => k = gb) rfl _
  refine ⟨⟨g, h1.kept ht fun k hk e => h3 (e ▸ hk), Kd.V_mono (Kd.V_far h2 (p := ⟨gb, 0, none⟩) (fun k hk => hk.2.1) _) fun k hk => ⟨Nat.lt_of_lt_of_le hk.1 ht.size, hk.2⟩, h3⟩, blk_put h.box 0 _ rfl, h.lo, h.below.trans (ht.below h.size fun k hk => by rw [hk]; exact h.lo)⟩
/-- The box is written: its bytes and its list, out of a world behind. -/
theorem Mk.both {A' : Option Addr} {c' : Nat} {L' : List Kn} (h : Mk w0 p mb gb S B A c L w) {g : Option Nat} (h1 : Pk w0.heap.size p mb g S.1 S.2 w) (h3 : ¬ Own p mb g gb) (hb : Below w.heap.size w w') (B' : ByteArray)
    (hv : Kd.V kKn 62 w' w.heap.size (fun k => (k < w.heap.size ∧ k ≠ gb ∧ ¬ Own p mb g k) ∨ w.heap.size ≤ k) (.slice A' L'.length c') L') :
    Mk w0 p mb gb S B' A' c' L' ((w'.setCell ⟨gb, 0, none⟩ (.string B')).setCell ⟨gb, 1, none⟩ (.slice A' L'.length c')) := by
  have hlt := blk_lt h.box
  have ht1 : Touch (fun k => k = gb) w' (w'.setCell ⟨gb, 0, none⟩ (.string B')) := Touch.setCell (p := ⟨gb, 0, none⟩) (S := fun k => k = gb) rfl _
  have ht2 : Touch (fun k => k = gb) (w'.setCell ⟨gb, 0, none⟩ (.string B')) ((w'.setCell ⟨gb, 0, none⟩ (.string B')).setCell ⟨gb, 1, none⟩ (.slice A' L'.length c')) := Touch.setCell (p := ⟨gb, 1, none⟩) (S := fun k => k = gb) rfl _
  have ht := ht1.trans ht2 fun _ _ h => h
  have hbox : w'.heap[gb]? = some (.cells #[.string B, .slice A L.length c] 29 (0, 0)) := (hb.block gb hlt).trans h.box
  refine ⟨⟨g, (h1.below hb).kept ht fun k hk e => h3 (e ▸ hk), ?_, h3⟩, blk_put (blk_put hbox 0 _ rfl) 1 _ rfl, h.lo, (below_then h.below h.size hb).trans (ht.below (Nat.le_trans h.size hb.size) fun k hk => by rw [hk]; exact h.lo)⟩
  have hne : ∀ k, (k < w.heap.size ∧ k ≠ gb ∧ ¬ Own p mb g k) ∨ w.heap.size ≤ k → k ≠ gb := fun k hk => by
    rcases hk with e | e
    · exact e.2.1
    · omega
  have hv1 := Kd.V_bound (Kd.V_far (Kd.V_far (Kd.V_lower hv (base' := w0.heap.size) h.size) (p := ⟨gb, 0, none⟩) hne (.string B')) (p := ⟨gb, 1, none⟩) hne (.slice A' L'.length c'))
  refine Kd.V_mono hv1 fun k hk => ⟨hk.2, hne k hk.1, fun ho => ?_⟩
  rcases hk.1 with e | e
  · exact e.2.2 ho
  · have := h1.own_lt k ho; omega
end
set_option maxHeartbeats 8000000 in
set_option maxRecDepth 100000 in
theorem makes_walk (A0 : Option Addr) (c0 : Nat) (l : List It) (w : World) (hr : Kd.C k31 w A0 l.length l) (hc : l.length ≤ c0) (hl : l.length ≤ 9223372036854775807) :
    Calls Try.prog 3 #[.slice A0 l.length c0] w fun e w' => e = .returned (.bool true) ∧ Below w.heap.size w w' := by
  have HR := Lib.hid hr
  clear hr
  have early : ∀ W, Below w.heap.size w W → Calls Try.prog 8 #[] W fun e w' => e = .returned (.bool true) ∧ Below w.heap.size w w' := fun W hW => (awake_any W).mono fun e w' ⟨he, hb⟩ => ⟨he, below_then hW hW.size hb⟩
  have EARLY := Lib.hid early
  clear early
  go_enter Try.func3, Try.ntmps3
  go_wp2_with fail
  refine (EARLY.out _ (Below.refl _ _)).mono ?_
  rintro e w1 ⟨rfl, b1⟩
  have B1 := Lib.hid b1
  clear b1
  go_wp2_with fail
  refine (few_calls A0 c0 l _ (Kd.C_below HR.out B1.out) hc hl).mono ?_
  rintro e w2 ⟨rfl, b2⟩
  have B2 := Lib.hid (below_then B1.out B1.out.size b2)
  clear b2
  cases hf : fewB l with
  | false =>
    clear hf
    go_wp2_with fail
    refine (EARLY.out _ B2.out).mono ?_
    rintro e w3 ⟨rfl, b3⟩
    go_wp2_with fail
    go_ret
    exact ⟨rfl, b3⟩
  | true =>
    have HF := Lib.hid hf
    have h40 : l.length ≤ 40 := of_decide_eq_true (Bool.and_eq_true_iff.mp hf).2
    have HX := Lib.hid (show ∀ x ∈ l, x.f1.size ≤ 17000 from fun x hx => of_decide_eq_true (List.all_eq_true.mp (Bool.and_eq_true_iff.mp hf).1 x hx))
    clear hf
    go_wp2_with fail
    refine (New w.heap.size w2 B2.out.size).mono ?_
    rintro e w4 ⟨p, mb, rfl, hpk, hp, hm, b4⟩
    have M4 := Lib.hid (Mk.start hpk (below_then B2.out B2.out.size b4))
    clear hpk hp hm b4
    go_wp2_with fail
    obtain ⟨gb, hgb⟩ : ∃ gb, w4.heap.size = gb := ⟨_, rfl⟩
    rw [hgb] at M4 ⊢
    have HGB := Lib.hid hgb
    clear hgb
    go_loopw [5] (fun v5 wr => ∃ (i : Nat) (S : St) (B : ByteArray) (A : Option Addr) (c : Nat) (L : List Kn), i ≤ l.length ∧ v5 = .int .i64 i ∧ Hid (S = runI (l.take i) ([], [])) ∧ Hid (Mk w p mb gb S B A c L wr) ∧ Hid (Rel S B L)) (fun v _ => l.length - (intOf v).toNat)
    case atStart => exact ⟨0, _, _, _, _, _, Nat.zero_le _, rfl, Lib.hid rfl, M4, Lib.hid rel_nil⟩
    case round =>
      clear M4 B2 B1
      obtain ⟨i, S, B, A, c, L, hi, rfl, HS, HM, HRel⟩ := hrel
      have hfit : Fit S (17000 * i) := by
        have := run_fit (l.take i) ([], []) 0 (fun x hx => HX.out x (List.mem_of_mem_take hx)) (fit_nil 0)
        rw [List.length_take, Nat.min_eq_left hi, Nat.zero_add, ← HS.out] at this; exact this
      have hBS : B.size = S.1.length := by rw [← size_list, HRel.out.bytes]
      have HFIT := Lib.hid hfit
      have HBS := Lib.hid hBS
      clear hfit hBS
      by_cases hlt : i < l.length
      · have t2 : decide ((i : Int) < (l.length : Int)) = true := decide_eq_true (by omega)
        have hsn : runI (l.take (i + 1)) ([], []) = itemStep l[i] S := by rw [List.take_succ_eq_append_getElem hlt, runI_snoc, HS.out]
        have hx17 : l[i].f1.size ≤ 17000 := HX.out _ (List.getElem_mem hlt)
        obtain ⟨ad, rfl, hcell⟩ := cells_item HR.out i hlt
        obtain ⟨x, hx⟩ : ∃ x, l[i] = x := ⟨_, rfl⟩
        rw [hx] at hsn hx17 hcell
        have HSN := Lib.hid hsn
        clear hsn hx
        obtain ⟨raw, s, may⟩ := x
        simp only at hcell hx17
        have HC := Lib.hid hcell
        clear hcell
        obtain ⟨hc0, hc1, hc2⟩ := HC.out _ HM.out.below
        have hlen : S.1.length + s.size ≤ 1000000 := by have := HFIT.out.bytes; omega
        cases raw with
        | true =>
          go_wp2_with fail
          refine (HM.out.Raw s hlen).mono ?_
          rintro e w6 ⟨rfl, h6⟩
          have H6 := Lib.hid h6
          clear h6 hc0 hc1 hc2 HM
          have hd : Below w6.heap.size w6 w6.drew := (Below.refl _ w6).drew
          have HD := Lib.hid (H6.out.rest hd)
          have hcc := (HC.out _ H6.out.below).2.1
          have hbb := blk_cell H6.out.box 0
          have hbb0 : w6.cell? ⟨gb, 0, none⟩ = some (.string B) := hbb
          have hff0 := blk_frozen HD.out.box 0
          have hsum : B.size + s.size ≤ 9223372036854775807 := by have := HBS.out; omega
          clear hd hbb
          go_wp2_with fail
          go_still_tail 7, (by kernel_rfl)
          change wpList _ _ _ _ _ w6.drew
          have hbb1 : w6.drew.cell? ⟨gb, 0, none⟩ = some (.string B) := hbb0
          clear hcc hbb0 H6
          generalize w6.drew = wd at HD hff0 hbb1
          go_wp2_with fail
          have H7 := Lib.hid (HD.out.bytes (B ++ s))
          have R7 := Lib.hid (show Rel (itemStep ⟨true, s, may⟩ S) (B ++ s) L from by unfold itemStep; rw [if_pos rfl]; exact HRel.out.more s)
          have e7 : (S.1 ++ s.data.toList, S.2) = itemStep ⟨true, s, may⟩ S := by unfold itemStep; rw [if_pos rfl]
          rw [e7] at H7
          clear e7 HD HRel HFIT HBS hbb1 hff0 hsum hlen
          generalize wd.setCell ⟨gb, 0, none⟩ (.string (B ++ s)) = w7 at H7
          generalize B ++ s = B2 at H7 R7
          generalize itemStep ⟨true, s, may⟩ S = S2 at H7 R7 HSN
          have hz : B2.size = S2.1.length := by rw [← size_list, R7.out.bytes]
          have t5 : ((S2.1.length : Int) != (B2.size : Int)) = false := by rw [hz]; simp
          have t5' : (S2.1.length != B2.size) = false := by rw [hz]; simp
          have hb7 : w7.cell? ⟨gb, 0, none⟩ = some (.string B2) := blk_cell H7.out.box 0
          have HQ := Lib.hid (fun n => ((H7.out.rest (below_drewN (Below.refl _ w7) n)).one.Len))
          clear hz
          go_quiet ((go_at_call 15; exact (HQ.out _).mono fun _ _ h => ⟨h.1, _, h.2.symm⟩))
          go_wp2_with fail
          refine ⟨⟨i + 1, S2, B2, _, _, _, by omega, by simp, Lib.hid HSN.out.symm, Lib.hid (H7.out.rest (below_drewN (Below.refl _ w7) _)), R7⟩, by simp [intOf]; omega⟩
        | false =>
          go_wp2_with fail
          go_still_tail 11, (by kernel_rfl)
          change wpList _ _ _ _ _ wr.drew
          have hd : Below wr.heap.size wr wr.drew := (Below.refl _ wr).drew
          have HD := Lib.hid (HM.out.rest hd)
          clear hd hc0 hc1 hc2 HM
          generalize wr.drew = wd at HD
          go_wp2_with fail
          refine (HD.out.Name s may _ HFIT.out (by omega)).mono ?_
          rintro e w6 ⟨rfl, h6⟩
          have H6 := Lib.hid h6
          clear h6 HD
          obtain ⟨hc0, hc1, hc2⟩ := HC.out _ H6.out.below
          cases hrs : rightB s with
          | false =>
            have hcode : codeOf s = 2 := by unfold codeOf; rw [if_neg (by rw [hrs]; decide)]
            have e6 : nameStep s may S = itemStep ⟨false, s, may⟩ S := by unfold itemStep; rw [if_neg (show ¬ false = true by decide)]; rfl
            rw [e6] at H6
            have e7 : itemStep ⟨false, s, may⟩ S = S := by unfold itemStep; rw [if_neg (show ¬ false = true by decide), if_neg (show ¬ rightB s = true by rw [hrs]; decide)]
            have hrr := fun W => right_calls s W
            rw [hrs] at hrr
            have HRR := Lib.hid hrr
            rw [hcode]
            rw [e7] at H6 HSN
            clear hcode e6 e7 hrr hrs
            go_wp2_with fail
            refine (HRR.out _).mono ?_
            rintro e w7 ⟨rfl, b7⟩
            have H7 := Lib.hid (H6.out.rest b7)
            clear b7 H6 hc0 hc1 hc2
            have hz : B.size = S.1.length := HBS.out
            have t5 : ((S.1.length : Int) != (B.size : Int)) = false := by rw [hz]; simp
            have t5' : (S.1.length != B.size) = false := by rw [hz]; simp
            have hb7 : w7.cell? ⟨gb, 0, none⟩ = some (.string B) := blk_cell H7.out.box 0
            have HQ := Lib.hid (fun n => ((H7.out.rest (below_drewN (Below.refl _ w7) n)).one.Len))
            clear hz
            go_wp2_with fail
            go_quiet ((go_at_call 15; exact (HQ.out _).mono fun _ _ h => ⟨h.1, _, h.2.symm⟩))
            go_wp2_with fail
            refine ⟨⟨i + 1, S, B, _, _, _, by omega, by simp, Lib.hid HSN.out.symm, Lib.hid (H7.out.rest (below_drewN (Below.refl _ w7) _)), HRel⟩, by simp [intOf]; omega⟩
          | true =>
            have hcode : codeOf s = 0 := by unfold codeOf; rw [if_pos hrs]
            have e6 : nameStep s may S = itemStep ⟨false, s, may⟩ S := by unfold itemStep; rw [if_neg (show ¬ false = true by decide)]; rfl
            have e7 : itemStep ⟨false, s, may⟩ S = putName s may S := by unfold itemStep; rw [if_neg (show ¬ false = true by decide)]; exact if_pos hrs
            have hrr := fun W => right_calls s W
            rw [hrs] at hrr
            have HRR := Lib.hid hrr
            rw [hcode]
            obtain ⟨B', L', hf', hR'⟩ := rname_f may s.size s B L S (2 * s.size + 900000 + 10) 900000 (Nat.le_refl _) hrs HRel.out HFIT.out.small (by have := HFIT.out.bytes; omega) (by have := HFIT.out.known; omega) (Nat.le_refl _) (by omega)
            rw [← e7] at hR'
            rw [e6] at H6
            have HF' := Lib.hid hf'
            have HR' := Lib.hid hR'
            clear hcode e6 e7 hrr hrs hf' hR'
            go_wp2_with fail
            refine (HRR.out _).mono ?_
            rintro e w7 ⟨rfl, b7⟩
            have H7 := Lib.hid (H6.out.rest b7)
            clear b7 H6 hc0 hc1 hc2
            obtain ⟨hc0, hc1, hc2⟩ := HC.out _ H7.out.below
            have hb0 : w7.cell? ⟨gb, 0, none⟩ = some (.string B) := blk_cell H7.out.box 0
            have hb1 : w7.cell? ⟨gb, 1, none⟩ = some (.slice A L.length c) := blk_cell H7.out.box 1
            go_wp2_with fail
            go_still_tail 11, (by kernel_rfl)
            change wpList _ _ _ _ _ w7.drew
            have hd : Below w7.heap.size w7 w7.drew := (Below.refl _ w7).drew
            have HD := Lib.hid (H7.out.rest hd)
            clear hd hc0 hc1 hc2 hb0 hb1 H7
            generalize w7.drew = wd at HD
            obtain ⟨g, h1, h2, h3⟩ := HD.out.pk
            have hnm := beadrollref09_Packer_Name.calls _ B _ A c L s may B' L' wd h2 HF'.out
            have H1 := Lib.hid h1
            have H3 := Lib.hid h3
            have HNM := Lib.hid hnm
            clear h1 h2 h3 hnm
            go_wp2_with fail
            refine (HNM.out).mono ?_
            rintro e w8 ⟨v8, rfl, hv8, hb8⟩
            obtain ⟨A8, c8, rfl⟩ := Kd.V_slice hv8
            have H9 := Lib.hid (HD.out.both H1.out H3.out hb8 B' hv8)
            have hbx := (hb8.block gb (blk_lt HD.out.box)).trans HD.out.box
            have hy0 : w8.cell? ⟨gb, 0, none⟩ = some (.string B) := blk_cell hbx 0
            have hy1 : w8.cell? ⟨gb, 1, none⟩ = some (.slice A L.length c) := blk_cell hbx 1
            have hz0 : w8.frozen? ⟨gb, 0, none⟩ = false := blk_frozen hbx 0
            have hz1 : w8.frozen? ⟨gb, 1, none⟩ = false := blk_frozen hbx 1
            clear hv8 hb8 hbx HD
            go_wp2_with fail
            clear hy0 hy1 hz0 hz1
            generalize (w8.setCell ⟨gb, 0, none⟩ (.string B')).setCell ⟨gb, 1, none⟩ (.slice A8 L'.length c8) = w9 at H9
            generalize itemStep ⟨false, s, may⟩ S = S2 at H9 HR' HSN
            have hz : B'.size = S2.1.length := by rw [← size_list, HR'.out.bytes]
            have t5 : ((S2.1.length : Int) != (B'.size : Int)) = false := by rw [hz]; simp
            have t5' : (S2.1.length != B'.size) = false := by rw [hz]; simp
            have hb7 : w9.cell? ⟨gb, 0, none⟩ = some (.string B') := blk_cell H9.out.box 0
            have HQ := Lib.hid (fun n => ((H9.out.rest (below_drewN (Below.refl _ w9) n)).one.Len))
            clear hz
            go_quiet ((go_at_call 15; exact (HQ.out _).mono fun _ _ h => ⟨h.1, _, h.2.symm⟩))
            go_wp2_with fail
            refine ⟨⟨i + 1, S2, B', _, _, _, by omega, by simp, Lib.hid HSN.out.symm, Lib.hid (H9.out.rest (below_drewN (Below.refl _ w9) _)), HR'⟩, by simp [intOf]; omega⟩
      · obtain rfl : i = l.length := by omega
        have t2 : decide ((l.length : Int) < (l.length : Int)) = false := decide_eq_false (by omega)
        have hBe : Oct.arr S.1 = B := by apply list_inj; rw [arr_list, HRel.out.bytes]
        have hSl : S.1.length ≤ 1000000 := by have := HFIT.out.bytes; omega
        have hq := fun n => ((HM.out.rest (below_drewN (Below.refl _ wr) n)).one.Bytes hSl)
        rw [hBe] at hq
        have HQ := Lib.hid hq
        have hb7 : wr.cell? ⟨gb, 0, none⟩ = some (.string B) := blk_cell HM.out.box 0
        have t5 : (B.toList == B.toList) = true := by simp
        clear hq hBe
        go_wp2_with fail
        go_quiet ((go_at_call 16; exact (HQ.out _).mono fun _ _ h => ⟨h.1, _, h.2.symm⟩))
        go_wp2_with fail
        go_ret
        exact ⟨by simp, (HM.out.rest (below_drewN (Below.refl _ wr) _)).below⟩
theorem PackMakes_walk (A0 : Option Addr) (c0 : Nat) (l : List It) (w : World) (hr : Kd.C k31 w A0 l.length l) (hc : l.length ≤ c0) (hm : l.length ≤ maxLen) (hs : ∀ s ∈ l, True) :
    Calls Try.prog 3 #[.slice A0 l.length c0] w fun e w' => e = .returned (.bool true) ∧ Below w.heap.size w w' := makes_walk A0 c0 l w hr hc (by unfold maxLen at hm; omega)
end Go.Proofs.Ytekbecpcbfhdmaa.Pack
/- What a row needs of an argument that is a slice of structs of one-cell fields: the list that it holds, as the printed contracts read it. -/
namespace Go.Proofs.Ytekbecpcbfhdmaa.RowStructs
open Go.RowKit Go.ChangeShapes Go.WideShapes Go.Deep Go.Proofs.YtekbecpcbfhdmaaW.PrintWords
set_option linter.unusedVariables false
section
variable {H : Type} {enc : TypeId × Value → H} {P : Program} {W : World} {base : Nat} {spare : Nat → Bool} {held : Bool}
/-- A struct's fields, cell by cell. -/
theorem fields_of {e : TypeId} {fs : Array Field} {fuel : Nat} {cs : List Value} {x : DataW H × List MemPlace} (he : P.underlying e = some (.struct fs)) (hone : oneCellFields P fs = true) (hC : P.cellsOf e = fs.size)
    (h : DataW.trod enc P W base spare held fuel e cs = some x) : cs.length = fs.size ∧ ∃ n, ∀ (j : Nat) (f : Field), fs[j]? = some f → ∃ v y, cs[j]? = some v ∧ DataW.trod enc P W base spare held n f.type [v] = some y := by
  obtain ⟨ys, n, _, _, hl, hyl, hf⟩ := DataW.trod_struct he h
  refine ⟨hl.trans hC, n, fun j f hj => ?_⟩
  obtain ⟨ho, hk⟩ := hone_of hone j f hj
  have hjl : j < fs.size := (Array.getElem?_eq_some_iff.1 hj).1
  have hcl : j < cs.length := by omega
  have hyj : j < ys.length := by omega
  have h1 := hf j f hj
  rw [ho, hk, List.drop_eq_getElem_cons hcl, List.take_succ_cons, List.take_zero] at h1
  exact ⟨cs[j], ys[j], List.getElem?_eq_getElem hcl, h1.trans (List.getElem?_eq_getElem hyj)⟩
theorem list_of {S : Type} (n : Nat) (R : Nat → S → Prop) (h : ∀ i, i < n → ∃ s, R i s) : ∃ l : List S, l.length = n ∧ ∀ i s, l[i]? = some s → R i s := by
  induction n with
  | zero => exact ⟨[], rfl, fun i s hs => by simp at hs⟩
  | succ n ih =>
    obtain ⟨l, hl, hr⟩ := ih fun i hi => h i (by omega)
    obtain ⟨s, hs⟩ := h n (by omega)
    refine ⟨l ++ [s], by simp [hl], fun i t ht => ?_⟩
    by_cases hi : i < n
    · rw [List.getElem?_append_left (by omega)] at ht; exact hr i t ht
    · rw [List.getElem?_append_right (by omega)] at ht
      by_cases e : i = n
      · subst e; rw [hl, Nat.sub_self] at ht; simp at ht; subst ht; exact hs
      · rw [List.getElem?_eq_none (by simp; omega)] at ht; cases ht
theorem structs_of {S : Type} (k : Kd S) (good : S → Prop) {t e : TypeId} {a : Option Addr} {len cap : Nat} {d : DataW H} {ps : List MemPlace} (hu : P.underlying t = some (.slice e)) (hC : P.cellsOf e = k.sz) (hpos : 0 < k.sz)
    (open1 : ∀ fuel cs x, DataW.trod enc P W base spare held fuel e cs = some x → ∃ s, k.K W s cs ∧ good s) (h : DataW.Trod enc P W base spare held t (.slice a len cap) d ps) :
    ∃ l : List S, len = l.length ∧ Kd.C k W a l.length l ∧ l.length ≤ cap ∧ l.length ≤ maxLen ∧ ∀ s ∈ l, good s := by
  obtain ⟨fuel, hf⟩ := h
  rcases open_slice hu hf with ⟨hcs, _⟩ | ⟨x, l, c, m, n, D, Pl, hcs, _, hl, hm, hmm, _, hi⟩
  · simp [Value.cells] at hcs
    obtain ⟨rfl, rfl, rfl⟩ := hcs
    exact ⟨[], rfl, Kd.C_nil _ _, Nat.le_refl _, Nat.zero_le _, by simp⟩
  · simp [Value.cells] at hcs
    obtain ⟨rfl, rfl, rfl⟩ := hcs
    have hlm : len ≤ m := by rw [hmm]; split <;> omega
    obtain ⟨L, hL, hR⟩ := list_of len (fun i s => good s ∧ ∃ cs', k.K W s cs' ∧ cs'.length = k.sz ∧ ∀ j u, cs'[j]? = some u → W.cell? (x.add (i * k.sz + j)) = some u) (fun i hi' => by
      obtain ⟨cs', hc, ht⟩ := hi i (by omega)
      obtain ⟨s, hs, hg⟩ := open1 _ _ _ ht
      rw [hC] at hc
      obtain ⟨_, hcl, hat⟩ := World.cells?_some hc
      refine ⟨s, hg, cs', hs, hcl, fun j u hj => ?_⟩
      have hjl : j < k.sz := by rw [← hcl]; exact (List.getElem?_eq_some_iff.1 hj).1
      have := hat j hjl
      rw [← Go.Deep.add_add]; rw [this]; exact hj)
    refine ⟨L, hL.symm, ⟨rfl, by unfold maxLen at hm; omega, fun _ => ⟨x, rfl, fun j p hp => ?_⟩⟩, by omega, by omega, fun s hs => ?_⟩
    · obtain ⟨_, c, h1, h2, h3⟩ := hR j p hp
      exact ⟨c, h2, h1, h3⟩
    · obtain ⟨i, hi', he⟩ := List.getElem_of_mem hs
      exact (hR i s (by rw [List.getElem?_eq_getElem hi', he])).1
end
end Go.Proofs.Ytekbecpcbfhdmaa.RowStructs
/- The pack laws' items as arguments. -/
namespace Go.Proofs.Ytekbecpcbfhdmaa.RowStructs
open Go.RowKit Go.ChangeShapes Go.WideShapes Go.Deep Go.Proofs.YtekbecpcbfhdmaaW.PrintWords Go.Proofs.Ytekbecpcbfhdmaa.PPak
section
variable {H : Type} {enc : TypeId × Value → H} {W : World} {base : Nat} {spare : Nat → Bool} {held : Bool}
theorem item_of {fuel : Nat} {cs : List Value} {x : DataW H × List MemPlace} (h : DataW.trod enc Try.prog W base spare held fuel 31 cs = some x) : ∃ s : S31, k31.K W s cs ∧ True := by
  obtain ⟨hl, n, hf⟩ := fields_of Try.underlying31 (by kernel_rfl) (by kernel_rfl) h
  obtain ⟨v0, y0, c0, h0⟩ := hf 0 _ rfl
  obtain ⟨v1, y1, c1, h1⟩ := hf 1 _ rfl
  obtain ⟨v2, y2, c2, h2⟩ := hf 2 _ rfl
  obtain ⟨b, e0, _⟩ := DataW.trod_bool Try.underlying4 h0
  obtain ⟨s, e1, _⟩ := DataW.trod_string Try.underlying9 h1
  obtain ⟨m, e2, _⟩ := DataW.trod_bool Try.underlying4 h2
  obtain rfl : v0 = .bool b := by simpa using e0
  obtain rfl : v1 = .string s := by simpa using e1
  obtain rfl : v2 = .bool m := by simpa using e2
  have : cs = [.bool b, .string s, .bool m] := by
    match cs, hl with
    | [x, y, z], _ => simp at c0 c1 c2; rw [c0, c1, c2]
  rw [this]
  exact ⟨⟨b, s, m⟩, k31_mk W ⟨b, s, m⟩, trivial⟩
theorem of_T31 {t : TypeId} {a : Option Addr} {len cap : Nat} {d : DataW H} {ps : List MemPlace} (hu : Try.prog.underlying t = some (.slice 31)) (h : DataW.Trod enc Try.prog W base spare held t (.slice a len cap) d ps) :
    ∃ l : List S31, len = l.length ∧ Kd.C k31 W a l.length l ∧ l.length ≤ cap ∧ l.length ≤ maxLen ∧ ∀ s ∈ l, True :=
  structs_of k31 (fun _ => True) hu (by kernel_rfl) (by decide) (fun _ _ _ h => item_of h) h
end
end Go.Proofs.Ytekbecpcbfhdmaa.RowStructs
/- What a row needs of an argument that is a slice of strings: the list that it holds, as the printed contracts read it. -/
namespace Go.Proofs.Ytekbecpcbfhdmaa.RowWords
open Go.RowKit Go.ChangeShapes Go.WideShapes Go.Proofs.YtekbecpcbfhdmaaW.PrintWords

theorem strs_of {H : Type} {enc : TypeId × Value → H} {P : Program} {W : World} {base : Nat} {spare : Nat → Bool} {held : Bool} {t e : TypeId} {a : Option Addr} {len cap : Nat} {d : DataW H} {ps : List MemPlace}
    (hu : P.underlying t = some (.slice e)) (he : P.underlying e = some .string) (hc : P.cellsOf e = 1)
    (h : DataW.Trod enc P W base spare held t (.slice a len cap) d ps) :
    ∃ l : List ByteArray, len = l.length ∧ Kd.C Kd.string W a l.length l ∧ l.length ≤ cap ∧ l.length ≤ maxLen ∧ ∀ s ∈ l, s.size ≤ maxLen := by
  obtain ⟨fuel, hf⟩ := h
  rcases open_strings hu he hc hf with ⟨hcs, _⟩ | ⟨x, l, c, ss, hcs, _, hl, hm, hz, _, hcell, hs⟩
  · simp [Value.cells] at hcs
    obtain ⟨rfl, rfl, rfl⟩ := hcs
    exact ⟨[], rfl, Kd.C_nil _ _, Nat.le_refl _, Nat.zero_le _, by simp⟩
  · simp [Value.cells] at hcs
    obtain ⟨rfl, rfl, rfl⟩ := hcs
    have hlen : len ≤ ss.length := by
      rw [hz]; split
      · exact hl
      · exact Nat.le_refl _
    have hlt : (ss.take len).length = len := by rw [List.length_take]; omega
    refine ⟨ss.take len, hlt.symm, ?_, by omega, by omega, fun s hmem => hs s (List.mem_of_mem_take hmem)⟩
    refine Kd.C_of_reads (d := ByteArray.empty) (h1 := fun _ => rfl) ⟨rfl, by unfold maxLen at hm; omega, fun _ => ⟨x, rfl, fun i hi => ?_⟩⟩
    rw [hcell i (by omega)]
    simp [List.getD_eq_getElem?_getD, show i < len from by omega]

end Go.Proofs.Ytekbecpcbfhdmaa.RowWords
