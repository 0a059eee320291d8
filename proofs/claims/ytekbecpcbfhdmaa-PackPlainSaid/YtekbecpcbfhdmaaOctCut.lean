/- The contracts of reading over Cut's closure, and of Cut: ErrArg for what is no piece's width, ErrForm where the bytes aren't there, else the piece and what is left; no condition but sizes that a string can have. -/
import Derived.Test.YtekbecpcbfhdmaaOctCatch
namespace Go.Proofs.Ytekbecpcbfhdmaa.Oct
open Go.RowKit Go.Proofs.YtekbecpcbfhdmaaW.PrintWords Go.Proofs.Ytekbecpcbfhdmaa.UpdWords

/-! ### Cut -/
set_option maxHeartbeats 400000 in
set_option maxRecDepth 100000 in
theorem cut1_ok (g gn gs : Nat) (b s r x : ByteArray) (n : Int) (w : World) (hb : Rd w g b) (hn : w.cell? ⟨gn, 0, none⟩ = some (.int .i64 n)) (hx : w.heap[gs]? = some (.cells #[.string x] 9 (0, 0))) (hg : g ≠ gs) (h0 : 0 ≤ n) (h8 : n ≤ 4) (hs : b.size ≤ maxLen) (h : cutOf b n.toNat = some (s, r)) :
    Calls Try.prog 35 #[.pointer (some ⟨g, 0, none⟩), .pointer (some ⟨gn, 0, none⟩), .pointer (some ⟨gs, 0, none⟩)] w fun e w' => e = .returned (.tuple #[]) ∧ Rd w' g r ∧ w'.heap[gs]? = some (.cells #[.string s] 9 (0, 0)) ∧ Upd (fun k => k = g ∨ k = gs) w w' := by
  have H := Lib.hid h; clear h
  go_enter Try.func35, Try.ntmps35
  go_wp2_with fail
  refine (cut_ok g b n w s r hb h0 h8 hs H.out).mono ?_
  rintro e w1 ⟨rfl, hb1, hu1⟩
  have hx1 := hu1.heap hx (fun e => hg e.symm)
  have c1 : w1.cell? ⟨gs, 0, none⟩ = some (.string x) := blk_cell hx1 0
  have f1 := blk_frozen hx1 0
  go_wp2_with fail
  go_end0
  exact ⟨rfl, blk_far hb1 (by show g ≠ gs; exact hg) _, blk_set hx1 0 _, (hu1.mono (fun i h => .inl (.inl h))).set gs 0 _ (.inl (.inr rfl))⟩

set_option maxHeartbeats 400000 in
set_option maxRecDepth 100000 in
theorem cut1_short (g gn gs : Nat) (b : ByteArray) (n : Int) (w : World) (hb : Rd w g b) (hn : w.cell? ⟨gn, 0, none⟩ = some (.int .i64 n)) (h0 : 0 ≤ n) (h8 : n ≤ 4) (hs : b.size ≤ maxLen) (h : cutOf b n.toNat = none) :
    Calls Try.prog 35 #[.pointer (some ⟨g, 0, none⟩), .pointer (some ⟨gn, 0, none⟩), .pointer (some ⟨gs, 0, none⟩)] w fun e w' => e = .panicked short ∧ Upd (fun k => k = g ∨ k = gs) w w' := by
  have H := Lib.hid h; clear h
  go_enter Try.func35, Try.ntmps35
  go_wp2_with fail
  refine (cut_short g b n w hb h0 h8 hs H.out).mono ?_
  rintro e w1 ⟨rfl, hu1⟩
  go_wp2_with fail
  exact ⟨rfl, rfl, hu1.mono (fun i h => .inl (.inl h))⟩


set_option maxHeartbeats 400000 in
set_option maxRecDepth 100000 in
theorem reading_cut_ok (c1 c2 : Value) (b r : ByteArray) (S : Nat → Prop) (Q : World → Prop) (w : World) (hS : ∀ k, S k → k < w.heap.size) (hQ : ∀ a b, Upd (fun k => k = w.heap.size ∨ k = w.heap.size + 1) a b → Q a → Q b)
    (hcl : Hid (Calls Try.prog 35 #[.pointer (some ⟨w.heap.size + 1 + 1, 0, none⟩), c1, c2] (W3 w b) fun e w' => e = .returned (.tuple #[]) ∧ Rd w' (w.heap.size + 1 + 1) r ∧ Q w' ∧ Upd (fun k => k = w.heap.size + 1 + 1 ∨ S k) (W3 w b) w')) :
    Calls Try.prog 34 #[.string b, .func (.func 35) #[] #[c1, c2]] w fun e w' => e = .returned (.tuple #[.string r, .int .i64 0]) ∧ Q w' ∧ Upd S w w' := by
  have hmf : ∀ (fn : Fn) (first cap : Array Value) (w : World), (Instr.makeFunc fn first cap).run Try.prog w = .ok (.func fn first cap) w := fun _ _ _ _ => rfl
  have HS := Lib.hid hS; clear hS
  have HQ := Lib.hid hQ; clear hQ
  go_enter_defers Try.func34, Try.ntmps34
  go_wp2_with fail
  refine hcl.out.mono ?_
  rintro e w1 ⟨rfl, hb1, hq1, hu1⟩
  have s1 := hu1.heap (three _ _ _).1 (fun h => h.elim (fun h => by omega) (fun h => by have := HS.out _ h; omega))
  have s2 := hu1.heap (three _ _ _).2.1 (fun h => h.elim (fun h => by omega) (fun h => by have := HS.out _ h; omega))
  have c1 : w1.cell? ⟨w.heap.size + 1 + 1, 0, none⟩ = some (.string r) := hb1.cell
  have c2 : w1.cell? ⟨w.heap.size, 0, none⟩ = some (.string ⟨#[]⟩) := blk_cell s1 0
  have f2 := blk_frozen s1 0
  have s3 := blk_far s2 (p := ⟨w.heap.size, 0, none⟩) (by show w.heap.size + 1 ≠ w.heap.size; omega) (.string r)
  have c3 : (w1.setCell ⟨w.heap.size, 0, none⟩ (.string r)).cell? ⟨w.heap.size + 1, 0, none⟩ = some (.int .i64 0) := blk_cell s3 0
  have f3 := blk_frozen s2 0
  have S1 := Lib.hid s1; clear s1
  have S3 := Lib.hid s3; clear s3
  clear s2
  have HX := Lib.hid hq1; clear hq1
  have HU := Lib.hid ((W3_upd w b S).trans hu1 (fun i h => h.elim (fun h => .inr (by omega)) .inl)); clear hu1
  go_wp2_with fail
  have hr := door_ok (v0 := .string ⟨#[]⟩) (v1 := .int .i64 0) (.string r) (.int .i64 0) S1.out S3.out HX.out HQ.out HU.out
  generalize (w1.setCell ⟨w.heap.size, 0, none⟩ (.string r)).setCell ⟨w.heap.size + 1, 0, none⟩ (.int .i64 0) = W at hr
  obtain ⟨r1, r2, r3, r4⟩ := hr
  refine leaves_cons (f := 39) (args := #[.pointer (some ⟨w.heap.size, 0, none⟩), .pointer (some ⟨w.heap.size + 1, 0, none⟩)]) (by simp) (by simp [go_sem]) ?_
  refine (catch_idle _ _ _).mono ?_
  rintro e u' w'' ⟨rfl, rfl, rfl⟩
  have R3 := Lib.hid r3
  clear r3
  simp [Leaves, settle, results, Try.results34, go_sem, r1, r2]
  exact ⟨R3.out, r4⟩

set_option maxHeartbeats 400000 in
set_option maxRecDepth 100000 in
theorem reading_cut_short (c1 c2 : Value) (b : ByteArray) (S : Nat → Prop) (w : World) (hS : ∀ k, S k → k < w.heap.size)
    (hcl : Hid (Calls Try.prog 35 #[.pointer (some ⟨w.heap.size + 1 + 1, 0, none⟩), c1, c2] (W3 w b) fun e w' => e = .panicked short ∧ Upd (fun k => k = w.heap.size + 1 + 1 ∨ S k) (W3 w b) w')) :
    Calls Try.prog 34 #[.string b, .func (.func 35) #[] #[c1, c2]] w fun e w' => e = .returned (.tuple #[.string ⟨#[]⟩, .int .i64 2]) ∧ Upd S w w' := by
  have hmf : ∀ (fn : Fn) (first cap : Array Value) (w : World), (Instr.makeFunc fn first cap).run Try.prog w = .ok (.func fn first cap) w := fun _ _ _ _ => rfl
  have HS := Lib.hid hS; clear hS
  go_enter_defers Try.func34, Try.ntmps34
  go_wp2_with fail
  refine hcl.out.mono ?_
  rintro e w1 ⟨rfl, hu1⟩
  have s1 := hu1.heap (three _ _ _).1 (fun h => h.elim (fun h => by omega) (fun h => by have := HS.out _ h; omega))
  have s2 := hu1.heap (three _ _ _).2.1 (fun h => h.elim (fun h => by omega) (fun h => by have := HS.out _ h; omega))
  have S1 := Lib.hid s1; clear s1
  have S2 := Lib.hid s2; clear s2
  have HU := Lib.hid ((W3_upd w b S).trans hu1 (fun i h => h.elim (fun h => .inr (by omega)) .inl)); clear hu1
  go_wp2_with fail
  refine leaves_cons (f := 39) (args := #[.pointer (some ⟨w.heap.size, 0, none⟩), .pointer (some ⟨w.heap.size + 1, 0, none⟩)]) (by simp) (by simp [go_sem]) ?_
  refine (catch_short w.heap.size (w.heap.size + 1) ⟨#[]⟩ 0 [] w1 (by omega) S1.out S2.out).mono ?_
  rintro e u' w2 ⟨rfl, rfl, r1, r2, r4⟩
  have r1 : w2.cell? ⟨w.heap.size, 0, none⟩ = some (.string ⟨#[]⟩) := blk_cell r1 0
  have r2 : w2.cell? ⟨w.heap.size + 1, 0, none⟩ = some (.int .i64 2) := blk_cell r2 0
  have R4 := Lib.hid (HU.out.trans r4 (fun i h => .inr (by omega))); clear r4
  simp [Leaves, settle, results, Try.results34, go_sem, r1, r2]
  exact R4.out

set_option maxHeartbeats 400000 in
set_option maxRecDepth 100000 in
theorem piece_any (n : Int) (w : World) (x : Bool) (h : decide (n = 1 ∨ n = 2 ∨ n = 4) = x) : Calls Try.prog 33 #[.int .i64 n] w fun e w' => e = .returned (.bool x) ∧ w = w' := by
  subst h
  by_cases h1 : n = 1
  · subst h1; go_enter Try.func33, Try.ntmps33; go_wp2; go_ret; exact ⟨by simp, rfl⟩
  by_cases h2 : n = 2
  · subst h2; go_enter Try.func33, Try.ntmps33; go_wp2; go_ret; exact ⟨by simp, rfl⟩
  by_cases h4 : n = 4
  · subst h4; go_enter Try.func33, Try.ntmps33; go_wp2; go_ret; exact ⟨by simp, rfl⟩
  have e1 : (n == 1) = false := beq_eq_false_iff_ne.mpr h1
  have e2 : (n == 2) = false := beq_eq_false_iff_ne.mpr h2
  have e4 : (n == 4) = false := beq_eq_false_iff_ne.mpr h4
  go_enter Try.func33, Try.ntmps33
  go_wp2
  go_ret
  exact ⟨by simp [h1, h2, h4], rfl⟩

set_option maxHeartbeats 400000 in
set_option maxRecDepth 100000 in
theorem Cut_arg (b : ByteArray) (n : Int) (w : World) (h : decide (n = 1 ∨ n = 2 ∨ n = 4) = false) :
    Calls Try.prog 29 #[.string b, .int .i64 n] w fun e w' => e = .returned (.tuple #[.string ⟨#[]⟩, .string ⟨#[]⟩, .int .i64 1]) ∧ Below w.heap.size w w' := by
  have H := Lib.hid h; clear h
  go_enter Try.func29, Try.ntmps29
  go_wp2_with fail
  refine (piece_any n _ false H.out).mono ?_
  rintro e w1 ⟨rfl, rfl⟩
  go_wp2_with fail
  go_ret3
  exact ⟨rfl, below_alloc (Below.refl _ _) _⟩

set_option maxHeartbeats 400000 in
set_option maxRecDepth 100000 in
theorem Cut_short (b : ByteArray) (n : Int) (w : World) (h : decide (n = 1 ∨ n = 2 ∨ n = 4) = true) (hs : b.size ≤ maxLen) (hc : cutOf b n.toNat = none) :
    Calls Try.prog 29 #[.string b, .int .i64 n] w fun e w' => e = .returned (.tuple #[.string ⟨#[]⟩, .string ⟨#[]⟩, .int .i64 2]) ∧ Below w.heap.size w w' := by
  have hmf : ∀ (fn : Fn) (first cap : Array Value) (w : World), (Instr.makeFunc fn first cap).run Try.prog w = .ok (.func fn first cap) w := fun _ _ _ _ => rfl
  have hn : 0 ≤ n ∧ n ≤ 4 := by have := of_decide_eq_true h; omega
  obtain ⟨n0, n4⟩ := hn
  have H := Lib.hid h; clear h
  have HC := Lib.hid hc; clear hc
  go_enter Try.func29, Try.ntmps29
  go_wp2_with fail
  refine (piece_any n _ true H.out).mono ?_
  rintro e w1 ⟨rfl, rfl⟩
  go_wp2_with fail
  obtain ⟨t1, t2⟩ := two2 (w := w) (.cells #[.int .i64 n] 3 (0, 0)) (.cells #[.string ⟨#[]⟩] 9 (0, 0))
  have hcl := cut1_short ((w.heap.size + 2) + 1 + 1) w.heap.size (w.heap.size + 1) b n (W3 ((w.alloc (.cells #[.int .i64 n] 3 (0, 0))).alloc (.cells #[.string ⟨#[]⟩] 9 (0, 0))) b) (by have := W3_rd ((w.alloc (.cells #[.int .i64 n] 3 (0, 0))).alloc (.cells #[.string ⟨#[]⟩] 9 (0, 0))) b; simpa using this) (W3_cell b (blk_cell t1 0)) n0 n4 hs HC.out
  refine (reading_cut_short _ _ b (· = w.heap.size + 1) _ (fun k hk => by simp; omega) (Lib.hid (by simpa using hcl))).mono ?_
  rintro e w2 ⟨rfl, hu⟩
  have hbl : Below w.heap.size w w2 := hu.below (below_alloc (below_alloc (Below.refl _ _) _) _) (by simp; omega) (fun i h => by omega)
  go_wp2_with fail
  go_ret3
  exact ⟨rfl, hbl⟩

set_option maxHeartbeats 400000 in
set_option maxRecDepth 100000 in
theorem Cut_ok (b s r : ByteArray) (n : Int) (w : World) (h : decide (n = 1 ∨ n = 2 ∨ n = 4) = true) (hs : b.size ≤ maxLen) (hc : cutOf b n.toNat = some (s, r)) :
    Calls Try.prog 29 #[.string b, .int .i64 n] w fun e w' => e = .returned (.tuple #[.string s, .string r, .int .i64 0]) ∧ Below w.heap.size w w' := by
  have hmf : ∀ (fn : Fn) (first cap : Array Value) (w : World), (Instr.makeFunc fn first cap).run Try.prog w = .ok (.func fn first cap) w := fun _ _ _ _ => rfl
  have hn : 0 ≤ n ∧ n ≤ 4 := by have := of_decide_eq_true h; omega
  obtain ⟨n0, n4⟩ := hn
  have H := Lib.hid h; clear h
  have HC := Lib.hid hc; clear hc
  go_enter Try.func29, Try.ntmps29
  go_wp2_with fail
  refine (piece_any n _ true H.out).mono ?_
  rintro e w1 ⟨rfl, rfl⟩
  go_wp2_with fail
  obtain ⟨t1, t2⟩ := two2 (w := w) (.cells #[.int .i64 n] 3 (0, 0)) (.cells #[.string ⟨#[]⟩] 9 (0, 0))
  have hcl := cut1_ok ((w.heap.size + 2) + 1 + 1) w.heap.size (w.heap.size + 1) b s r ⟨#[]⟩ n (W3 ((w.alloc (.cells #[.int .i64 n] 3 (0, 0))).alloc (.cells #[.string ⟨#[]⟩] 9 (0, 0))) b) (by have := W3_rd ((w.alloc (.cells #[.int .i64 n] 3 (0, 0))).alloc (.cells #[.string ⟨#[]⟩] 9 (0, 0))) b; simpa using this) (W3_cell b (blk_cell t1 0)) (W3_heap b t2) (by omega) n0 n4 hs HC.out
  refine (reading_cut_ok _ _ b r (· = w.heap.size + 1) (fun W => W.heap[w.heap.size + 1]? = some (.cells #[.string s] 9 (0, 0))) _ (fun k hk => by simp; omega) (fun A B hab hA => hab.heap hA (by simp)) (Lib.hid (by simpa using hcl))).mono ?_
  rintro e w2 ⟨rfl, hq, hu⟩
  have hbl : Below w.heap.size w w2 := hu.below (below_alloc (below_alloc (Below.refl _ _) _) _) (by simp; omega) (fun i h => by omega)
  have cq : w2.cell? ⟨w.heap.size + 1, 0, none⟩ = some (.string s) := blk_cell hq 0
  clear hq
  go_wp2_with fail
  go_ret3
  exact ⟨rfl, hbl⟩

end Go.Proofs.Ytekbecpcbfhdmaa.Oct
namespace Go.Proofs.Ytekbecpcbfhdmaa.Given
open Go.RowKit Go.Proofs.YtekbecpcbfhdmaaW.PrintWords Go.Proofs.Ytekbecpcbfhdmaa.Oct

/-- Cut: the piece and what is left, or the error. -/
def octets_Cut.f (a0 : ByteArray) (a1 : Int) : Option (ByteArray × ByteArray × Int) :=
  if a0.size ≤ 9223372036854775807 then
    if a1 = 1 ∨ a1 = 2 ∨ a1 = 4 then
      match cutOf a0 a1.toNat with
      | some (s, r) => some (s, r, 0)
      | none => some (⟨#[]⟩, ⟨#[]⟩, 2)
    else some (⟨#[]⟩, ⟨#[]⟩, 1)
  else none
theorem octets_Cut.calls (a0 : ByteArray) (a1 : Int) (r1 r2 : ByteArray) (r3 : Int) (w : World) (h : octets_Cut.f a0 a1 = some (r1, r2, r3)) :
    Calls Try.prog 29 #[.string a0, .int .i64 a1] w fun e w' => e = .returned (.tuple #[.string r1, .string r2, .int .i64 r3]) ∧ Below w.heap.size w w' := by
  unfold octets_Cut.f at h
  by_cases hs : a0.size ≤ 9223372036854775807
  · rw [if_pos hs] at h
    by_cases hw : a1 = 1 ∨ a1 = 2 ∨ a1 = 4
    · rw [if_pos hw] at h
      cases hc : cutOf a0 a1.toNat with
      | none =>
        rw [hc] at h
        simp only [Option.some.injEq, Prod.mk.injEq] at h
        obtain ⟨rfl, rfl, rfl⟩ := h
        exact Cut_short a0 a1 w (decide_eq_true hw) hs hc
      | some x =>
        obtain ⟨s, r⟩ := x
        rw [hc] at h
        simp only [Option.some.injEq, Prod.mk.injEq] at h
        obtain ⟨rfl, rfl, rfl⟩ := h
        exact Cut_ok a0 s r a1 w (decide_eq_true hw) hs hc
    · rw [if_neg hw] at h
      simp only [Option.some.injEq, Prod.mk.injEq] at h
      obtain ⟨rfl, rfl, rfl⟩ := h
      exact Cut_arg a0 a1 w (decide_eq_false hw)
  · rw [if_neg hs] at h; cases h

end Go.Proofs.Ytekbecpcbfhdmaa.Given
