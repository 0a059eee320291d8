/- The walk of the law SerialTurns over the printed contracts of Compare, Ahead and awake: the call returns true for any two serials: no condition. -/
import Derived.Test.YtfkfmnffcnfehaaPSerialTellsx1
namespace Go.Proofs.Ytfkfmnffcnfehaa.TurnsWalk
open Go.RowKit Go.Proofs.Ytfkfmnffcnfehaa.PSerialTells Go.Proofs.YtfkfmnffcnfehaaW.PrintWords Go.Proofs.YtfkfmnffcnfehaaW.PrintLast Go.Proofs.YtfkfmnffcnfehaaW.PrintMore

theorem awake_some : beadrolllaw02_awake.f = some true := by simp [beadrolllaw02_awake.f, serial_Next.f, serial_Ahead.f, wrap32]

theorem awake_calls (w : World) : Calls Try.prog 13 #[] w fun e w' => e = .returned (.bool true) ∧ Drawn0 w w' :=
  beadrolllaw02_awake.calls true w awake_some

set_option maxHeartbeats 8000000 in
set_option maxRecDepth 100000 in
theorem walk_same (a : Int) (w : World) (h1 : Aside0 (serial_Compare.f a a = some (0, true))) (h2 : Aside0 (serial_Ahead.f a a = some false)) :
    Calls Try.prog 7 #[.int .u32 a, .int .u32 a] w fun e w' => e = .returned (.bool true) ∧ Drawn0 w w' := by
  go_enter Try.func7, Try.ntmps7
  go_wp2_with fail
  refine (awake_calls _).mono ?_
  rintro e w' ⟨rfl, ⟨nd, rfl⟩⟩
  go_wp2_with fail
  refine (serial_Compare.calls a a 0 true _ h1.out).mono ?_
  rintro e w' ⟨rfl, ⟨nd, rfl⟩⟩
  go_wp2_with fail
  refine (serial_Compare.calls a a 0 true _ h1.out).mono ?_
  rintro e w' ⟨rfl, ⟨nd, rfl⟩⟩
  go_wp2_with fail
  refine (serial_Ahead.calls a a false _ h2.out).mono ?_
  rintro e w' ⟨rfl, ⟨nd, rfl⟩⟩
  go_wp2_with fail
  go_ret
  exact ⟨by first | rfl | (simp; done) | (simp [*]; done), by repeat (first | exact Drawn0.refl _ | apply Drawn0.step)⟩

set_option maxHeartbeats 8000000 in
set_option maxRecDepth 100000 in
theorem walk_apart (a b : Int) (w : World) (hne : (a == b) = false) (h1 : Aside0 (serial_Compare.f a b = some (0, false))) (h2 : Aside0 (serial_Compare.f b a = some (0, false)))
    (h3 : Aside0 (serial_Ahead.f a b = some false)) (h4 : Aside0 (serial_Ahead.f b a = some false)) :
    Calls Try.prog 7 #[.int .u32 a, .int .u32 b] w fun e w' => e = .returned (.bool true) ∧ Drawn0 w w' := by
  go_enter Try.func7, Try.ntmps7
  go_wp2_with fail
  refine (awake_calls _).mono ?_
  rintro e w' ⟨rfl, ⟨nd, rfl⟩⟩
  go_wp2_with fail
  refine (serial_Compare.calls a b 0 false _ h1.out).mono ?_
  rintro e w' ⟨rfl, ⟨nd, rfl⟩⟩
  go_wp2_with fail
  refine (serial_Compare.calls b a 0 false _ h2.out).mono ?_
  rintro e w' ⟨rfl, ⟨nd, rfl⟩⟩
  go_wp2_with fail
  refine (serial_Ahead.calls a b false _ h3.out).mono ?_
  rintro e w' ⟨rfl, ⟨nd, rfl⟩⟩
  go_wp2_with fail
  refine (serial_Ahead.calls b a false _ h4.out).mono ?_
  rintro e w' ⟨rfl, ⟨nd, rfl⟩⟩
  go_wp2_with fail
  go_ret
  exact ⟨by first | rfl | (simp; done) | (simp [*]; done), by repeat (first | exact Drawn0.refl _ | apply Drawn0.step)⟩

set_option maxHeartbeats 8000000 in
set_option maxRecDepth 100000 in
theorem walk_first (a b : Int) (w : World) (hne : (a == b) = false) (h1 : Aside0 (serial_Compare.f a b = some (-1, true))) (h2 : Aside0 (serial_Compare.f b a = some (1, true)))
    (h3 : Aside0 (serial_Ahead.f a b = some true)) (h4 : Aside0 (serial_Ahead.f b a = some false)) :
    Calls Try.prog 7 #[.int .u32 a, .int .u32 b] w fun e w' => e = .returned (.bool true) ∧ Drawn0 w w' := by
  go_enter Try.func7, Try.ntmps7
  go_wp2_with fail
  refine (awake_calls _).mono ?_
  rintro e w' ⟨rfl, ⟨nd, rfl⟩⟩
  go_wp2_with fail
  refine (serial_Compare.calls a b (-1) true _ h1.out).mono ?_
  rintro e w' ⟨rfl, ⟨nd, rfl⟩⟩
  go_wp2_with fail
  refine (serial_Compare.calls b a 1 true _ h2.out).mono ?_
  rintro e w' ⟨rfl, ⟨nd, rfl⟩⟩
  go_wp2_with fail
  refine (serial_Ahead.calls a b true _ h3.out).mono ?_
  rintro e w' ⟨rfl, ⟨nd, rfl⟩⟩
  go_wp2_with fail
  refine (serial_Ahead.calls b a false _ h4.out).mono ?_
  rintro e w' ⟨rfl, ⟨nd, rfl⟩⟩
  go_wp2_with fail
  go_ret
  exact ⟨by first | rfl | (simp; done) | (simp [*]; done), by repeat (first | exact Drawn0.refl _ | apply Drawn0.step)⟩

set_option maxHeartbeats 8000000 in
set_option maxRecDepth 100000 in
theorem walk_second (a b : Int) (w : World) (hne : (a == b) = false) (h1 : Aside0 (serial_Compare.f a b = some (1, true))) (h2 : Aside0 (serial_Compare.f b a = some (-1, true)))
    (h3 : Aside0 (serial_Ahead.f a b = some false)) (h4 : Aside0 (serial_Ahead.f b a = some true)) :
    Calls Try.prog 7 #[.int .u32 a, .int .u32 b] w fun e w' => e = .returned (.bool true) ∧ Drawn0 w w' := by
  go_enter Try.func7, Try.ntmps7
  go_wp2_with fail
  refine (awake_calls _).mono ?_
  rintro e w' ⟨rfl, ⟨nd, rfl⟩⟩
  go_wp2_with fail
  refine (serial_Compare.calls a b 1 true _ h1.out).mono ?_
  rintro e w' ⟨rfl, ⟨nd, rfl⟩⟩
  go_wp2_with fail
  refine (serial_Compare.calls b a (-1) true _ h2.out).mono ?_
  rintro e w' ⟨rfl, ⟨nd, rfl⟩⟩
  go_wp2_with fail
  refine (serial_Ahead.calls a b false _ h3.out).mono ?_
  rintro e w' ⟨rfl, ⟨nd, rfl⟩⟩
  go_wp2_with fail
  refine (serial_Ahead.calls b a true _ h4.out).mono ?_
  rintro e w' ⟨rfl, ⟨nd, rfl⟩⟩
  go_wp2_with fail
  go_ret
  exact ⟨by first | rfl | (simp; done) | (simp [*]; done), by repeat (first | exact Drawn0.refl _ | apply Drawn0.step)⟩

theorem wf32 {a : Int} (h : (Lit.int .u32 a).wf = true) : 0 ≤ a ∧ a < 4294967296 := by
  simp [Lit.wf, IntKind.min, IntKind.max, IntKind.signed, IntKind.bits] at h; omega

theorem walk (a b : Int) (w : World) (ha : (Lit.int .u32 a).wf = true) (hb : (Lit.int .u32 b).wf = true) :
    Calls Try.prog 7 #[.int .u32 a, .int .u32 b] w fun e w' => e = .returned (.bool true) ∧ Below w.heap.size w w' := by
  have ha := wf32 ha; have hb := wf32 hb
  suffices H : Calls Try.prog 7 #[.int .u32 a, .int .u32 b] w fun e w' => e = .returned (.bool true) ∧ Drawn0 w w' by
    refine H.mono ?_
    rintro e w' ⟨rfl, hd⟩
    exact ⟨rfl, hd.below⟩
  by_cases h : a = b
  · subst h
    exact walk_same a w ⟨by simp [serial_Compare.f]⟩ ⟨by simp [serial_Ahead.f, wrap32]⟩
  · have h' : ¬ b = a := fun e => h e.symm
    have hne : (a == b) = false := beq_eq_false_iff_ne.mpr h
    have hx : (b - a) % 4294967296 = 2147483648 ↔ (a - b) % 4294967296 = 2147483648 := by omega
    by_cases hp : (b - a) % 4294967296 = 2147483648
    · have hq := hx.mp hp
      exact walk_apart a b w hne ⟨by simp [serial_Compare.f, h, hp]⟩ ⟨by simp [serial_Compare.f, h', hq]⟩ ⟨by simp [serial_Ahead.f, hp, wrap32]⟩ ⟨by simp [serial_Ahead.f, hq, wrap32]⟩
    · have hq : ¬ (a - b) % 4294967296 = 2147483648 := fun e => hp (hx.mpr e)
      by_cases hA : wrap32 ((b - a) % 4294967296) > 0
      · have hB : ¬ wrap32 ((a - b) % 4294967296) > 0 := by unfold wrap32 at *; omega
        have e1 : serial_Ahead.f a b = some true := by unfold serial_Ahead.f; rw [decide_eq_true hA]
        have e2 : serial_Ahead.f b a = some false := by unfold serial_Ahead.f; rw [decide_eq_false hB]
        exact walk_first a b w hne ⟨by unfold serial_Compare.f; rw [if_neg h, if_neg hp, e1]; rfl⟩ ⟨by unfold serial_Compare.f; rw [if_neg h', if_neg hq, e2]; rfl⟩ ⟨e1⟩ ⟨e2⟩
      · have hB : wrap32 ((a - b) % 4294967296) > 0 := by unfold wrap32 at *; omega
        have e1 : serial_Ahead.f a b = some false := by unfold serial_Ahead.f; rw [decide_eq_false hA]
        have e2 : serial_Ahead.f b a = some true := by unfold serial_Ahead.f; rw [decide_eq_true hB]
        exact walk_second a b w hne ⟨by unfold serial_Compare.f; rw [if_neg h, if_neg hp, e1]; rfl⟩ ⟨by unfold serial_Compare.f; rw [if_neg h', if_neg hq, e2]; rfl⟩ ⟨e1⟩ ⟨e2⟩

end Go.Proofs.Ytfkfmnffcnfehaa.TurnsWalk
