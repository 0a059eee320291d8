/- The contracts of reading over Split's closure, of whole, and of Split: ErrArg for what is no width, ErrForm where the bytes aren't there, else the numbers and what is left; no condition but sizes that a string and a slice can have. -/
import Derived.Test.YtekbecpcbfhdmaaOctSplit1
namespace Go.Proofs.Ytekbecpcbfhdmaa.Oct
open Go.RowKit Go.Proofs.YtekbecpcbfhdmaaW.PrintWords Go.Proofs.YtekbecpcbfhdmaaW.PrintLast Go.Proofs.Ytekbecpcbfhdmaa.UpdWords

set_option maxHeartbeats 400000 in
set_option maxRecDepth 100000 in
theorem reading_split_ok (c1 c2 : Value) (b r : ByteArray) (S : Nat → Prop) (Q : World → Prop) (w : World) (hS : ∀ k, S k → k < w.heap.size) (hQ : ∀ a b, Upd (fun k => k = w.heap.size ∨ k = w.heap.size + 1) a b → Q a → Q b)
    (hcl : Hid (Calls Try.prog 37 #[.pointer (some ⟨w.heap.size + 1 + 1, 0, none⟩), c1, c2] (W3 w b) fun e w' => e = .returned (.tuple #[]) ∧ Rd w' (w.heap.size + 1 + 1) r ∧ Q w' ∧ Upd (fun k => k = w.heap.size + 1 + 1 ∨ S k) (W3 w b) w')) :
    Calls Try.prog 34 #[.string b, .func (.func 37) #[] #[c1, c2]] w fun e w' => e = .returned (.tuple #[.string r, .int .i64 0]) ∧ Q w' ∧ Upd S w w' := by
  have hmf : ∀ (fn : Fn) (first cap : Array Value) (w : World), (Instr.makeFunc fn first cap).run Try.prog w = .ok (.func fn first cap) w := fun _ _ _ _ => rfl
  have HS := Lib.hid hS; clear hS
  have HQ := Lib.hid hQ; clear hQ
  go_enter_defers Try.func34, Try.ntmps34
  go_wp2_with fail
  refine hcl.out.mono ?_
  rintro e w1 ⟨rfl, hb1, hq1, hu1⟩
  have s1 := hu1.heap (three _ _ _).1 (fun h => h.elim (fun h => by omega) (fun h => by have := HS.out _ h; omega))
  have s2 := hu1.heap (three _ _ _).2.1 (fun h => h.elim (fun h => by omega) (fun h => by have := HS.out _ h; omega))
  have c1 : w1.cell? ⟨w.heap.size + 1 + 1, 0, none⟩ = some (.string r) := hb1.cell
  have c2 : w1.cell? ⟨w.heap.size, 0, none⟩ = some (.string ⟨#[]⟩) := blk_cell s1 0
  have f2 := blk_frozen s1 0
  have s3 := blk_far s2 (p := ⟨w.heap.size, 0, none⟩) (by show w.heap.size + 1 ≠ w.heap.size; omega) (.string r)
  have c3 : (w1.setCell ⟨w.heap.size, 0, none⟩ (.string r)).cell? ⟨w.heap.size + 1, 0, none⟩ = some (.int .i64 0) := blk_cell s3 0
  have f3 := blk_frozen s2 0
  have S1 := Lib.hid s1; clear s1
  have S3 := Lib.hid s3; clear s3
  clear s2
  have HX := Lib.hid hq1; clear hq1
  have HU := Lib.hid ((W3_upd w b S).trans hu1 (fun i h => h.elim (fun h => .inr (by omega)) .inl)); clear hu1
  go_wp2_with fail
  have hr := door_ok (v0 := .string ⟨#[]⟩) (v1 := .int .i64 0) (.string r) (.int .i64 0) S1.out S3.out HX.out HQ.out HU.out
  generalize (w1.setCell ⟨w.heap.size, 0, none⟩ (.string r)).setCell ⟨w.heap.size + 1, 0, none⟩ (.int .i64 0) = W at hr
  obtain ⟨r1, r2, r3, r4⟩ := hr
  refine leaves_cons (f := 39) (args := #[.pointer (some ⟨w.heap.size, 0, none⟩), .pointer (some ⟨w.heap.size + 1, 0, none⟩)]) (by simp) (by simp [go_sem]) ?_
  refine (catch_idle _ _ _).mono ?_
  rintro e u' w'' ⟨rfl, rfl, rfl⟩
  have R3 := Lib.hid r3
  clear r3
  simp [Leaves, settle, results, Try.results34, go_sem, r1, r2]
  exact ⟨R3.out, r4⟩

set_option maxHeartbeats 400000 in
set_option maxRecDepth 100000 in
theorem reading_split_short (c1 c2 : Value) (b : ByteArray) (S : Nat → Prop) (w : World) (hS : ∀ k, S k → k < w.heap.size)
    (hcl : Hid (Calls Try.prog 37 #[.pointer (some ⟨w.heap.size + 1 + 1, 0, none⟩), c1, c2] (W3 w b) fun e w' => e = .panicked short ∧ Upd (fun k => k = w.heap.size + 1 + 1 ∨ S k) (W3 w b) w')) :
    Calls Try.prog 34 #[.string b, .func (.func 37) #[] #[c1, c2]] w fun e w' => e = .returned (.tuple #[.string ⟨#[]⟩, .int .i64 2]) ∧ Upd S w w' := by
  have hmf : ∀ (fn : Fn) (first cap : Array Value) (w : World), (Instr.makeFunc fn first cap).run Try.prog w = .ok (.func fn first cap) w := fun _ _ _ _ => rfl
  have HS := Lib.hid hS; clear hS
  go_enter_defers Try.func34, Try.ntmps34
  go_wp2_with fail
  refine hcl.out.mono ?_
  rintro e w1 ⟨rfl, hu1⟩
  have s1 := hu1.heap (three _ _ _).1 (fun h => h.elim (fun h => by omega) (fun h => by have := HS.out _ h; omega))
  have s2 := hu1.heap (three _ _ _).2.1 (fun h => h.elim (fun h => by omega) (fun h => by have := HS.out _ h; omega))
  have S1 := Lib.hid s1; clear s1
  have S2 := Lib.hid s2; clear s2
  have HU := Lib.hid ((W3_upd w b S).trans hu1 (fun i h => h.elim (fun h => .inr (by omega)) .inl)); clear hu1
  go_wp2_with fail
  refine leaves_cons (f := 39) (args := #[.pointer (some ⟨w.heap.size, 0, none⟩), .pointer (some ⟨w.heap.size + 1, 0, none⟩)]) (by simp) (by simp [go_sem]) ?_
  refine (catch_short w.heap.size (w.heap.size + 1) ⟨#[]⟩ 0 [] w1 (by omega) S1.out S2.out).mono ?_
  rintro e u' w2 ⟨rfl, rfl, r1, r2, r4⟩
  have r1 : w2.cell? ⟨w.heap.size, 0, none⟩ = some (.string ⟨#[]⟩) := blk_cell r1 0
  have r2 : w2.cell? ⟨w.heap.size + 1, 0, none⟩ = some (.int .i64 2) := blk_cell r2 0
  have R4 := Lib.hid (HU.out.trans r4 (fun i h => .inr (by omega))); clear r4
  simp [Leaves, settle, results, Try.results34, go_sem, r1, r2]
  exact R4.out

def isWidth (n : Int) : Bool := decide (n = 1 ∨ n = 2 ∨ n = 4 ∨ n = 8)
set_option maxHeartbeats 400000 in
set_option maxRecDepth 100000 in
theorem width_any (n : Int) (w : World) (x : Bool) (h : isWidth n = x) : Calls Try.prog 32 #[.int .i64 n] w fun e w' => e = .returned (.bool x) ∧ w = w' := by
  unfold isWidth at h
  by_cases h1 : n = 1
  · subst h h1; go_enter Try.func32, Try.ntmps32; go_wp2; go_ret; exact ⟨by simp, rfl⟩
  by_cases h2 : n = 2
  · subst h h2; go_enter Try.func32, Try.ntmps32; go_wp2; go_ret; exact ⟨by simp, rfl⟩
  by_cases h4 : n = 4
  · subst h h4; go_enter Try.func32, Try.ntmps32; go_wp2; go_ret; exact ⟨by simp, rfl⟩
  by_cases h8 : n = 8
  · subst h h8; go_enter Try.func32, Try.ntmps32; go_wp2; go_ret; exact ⟨by simp, rfl⟩
  subst h
  have e1 : (n == 1) = false := beq_eq_false_iff_ne.mpr h1
  have e2 : (n == 2) = false := beq_eq_false_iff_ne.mpr h2
  have e4 : (n == 4) = false := beq_eq_false_iff_ne.mpr h4
  have e8 : (n == 8) = false := beq_eq_false_iff_ne.mpr h8
  go_enter Try.func32, Try.ntmps32
  go_wp2
  go_ret
  exact ⟨by simp [h1, h2, h4, h8], rfl⟩

set_option maxHeartbeats 400000 in
set_option maxRecDepth 100000 in
theorem whole_any (A : Option Addr) (c : Nat) (l : List Int) (w : World) (x : Bool) (hr : (Kd.int .i64).C w A l.length l) (h : l.all isWidth = x) :
    Calls Try.prog 26 #[.slice A l.length c] w fun e w' => e = .returned (.bool x) ∧ w = w' := by
  have hmax := Kd.C_max hr
  have H := Lib.hid h; clear h
  go_enter Try.func26, Try.ntmps26
  go_wp2_with fail
  go_loop [7] (fun i => ∃ k : Nat, k ≤ l.length ∧ i = .int .i64 k ∧ Hid ((l.take k).all isWidth = true)) (fun i => l.length - (intOf i).toNat)
  case atStart => exact ⟨0, Nat.zero_le _, rfl, Lib.hid rfl⟩
  case round =>
    obtain ⟨k, hk, rfl, H1⟩ := hrel
    by_cases hlt : k < l.length
    · obtain ⟨ad, rfl, hc0⟩ := Kd.at_int hr (k : Int) (by omega) (by omega)
      have hrd : rd l (k : Int) = l[k] := by simp [rd, hlt]
      rw [hrd] at hc0
      have hc : w.cell? (ad.add k) = some (.int .i64 l[k]) := hc0
      clear hc0 hrd
      have H2 : Hid (l.take (k + 1) = l.take k ++ [l[k]]) := Lib.hid (List.take_succ_eq_append_getElem hlt)
      have H3 : Hid (l[k] ∈ l) := Lib.hid (List.getElem_mem hlt)
      generalize l[k] = n at hc H2 H3
      cases hw : isWidth n with
      | true =>
        have HW := Lib.hid hw; clear hw
        go_wp2_with fail
        refine (width_any n _ true HW.out).mono ?_
        rintro e w' ⟨rfl, rfl⟩
        go_wp2_with fail
        exact ⟨⟨k + 1, by omega, by go_num, Lib.hid (by rw [H2.out, List.all_append, H1.out]; simp [HW.out])⟩, by simp [intOf]; omega⟩
      | false =>
        have HW := Lib.hid hw; clear hw
        have HX : Hid (x = false) := Lib.hid (by
          rw [← H.out, Bool.eq_false_iff]
          intro ha
          rw [List.all_eq_true] at ha
          rw [ha n H3.out] at HW
          exact absurd HW.out (by simp))
        go_wp2_with fail
        refine (width_any n _ false HW.out).mono ?_
        rintro e w' ⟨rfl, rfl⟩
        go_wp2_with fail
        go_ret
        exact ⟨by rw [HX.out]; rfl, rfl⟩
    · obtain rfl : k = l.length := by omega
      have HX : Hid (x = true) := Lib.hid (by rw [← H.out, ← H1.out, List.take_of_length_le (Nat.le_refl _)])
      go_wp2_with fail
      go_ret
      exact ⟨by rw [HX.out]; rfl, rfl⟩


set_option maxHeartbeats 400000 in
set_option maxRecDepth 100000 in
theorem Split_arg (b : ByteArray) (A : Option Addr) (c : Nat) (l : List Int) (w : World) (hr : (Kd.int .i64).C w A l.length l) (h : l.all isWidth = false) :
    Calls Try.prog 30 #[.string b, .slice A l.length c] w fun e w' => e = .returned (.tuple #[.slice none 0 0, .string ⟨#[]⟩, .int .i64 1]) ∧ Below w.heap.size w w' := by
  have H := Lib.hid h; clear h
  go_enter Try.func30, Try.ntmps30
  go_wp2_with fail
  refine (whole_any A c l _ false (Kd.C_alloc hr _) H.out).mono ?_
  rintro e w1 ⟨rfl, rfl⟩
  go_wp2_with fail
  go_ret3
  exact ⟨rfl, below_alloc (Below.refl _ _) _⟩

theorem widths_in {l : List Int} (h : l.all isWidth = true) : ∀ n ∈ l, 0 ≤ n ∧ n ≤ 8 := by
  intro n hn
  have := List.all_eq_true.mp h n hn
  unfold isWidth at this
  have := of_decide_eq_true this
  omega

/-- What Split's closure has to begin with. -/
theorem split1_at (b : ByteArray) (A : Option Addr) (c : Nat) (l : List Int) (w : World) (T : Option (List Int × ByteArray)) (hT : splitL b l [] = T) (hr : (Kd.int .i64).C w A l.length l) (hw : ∀ n ∈ l, 0 ≤ n ∧ n ≤ 8) (hlen : l.length < 17592186044416) (hs : b.size ≤ maxLen) :
    Calls Try.prog 37 #[.pointer (some ⟨((w.alloc (.cells #[.slice A l.length c] 43 (0, 0))).alloc (.cells #[.slice none 0 0] 54 (0, 0))).heap.size + 1 + 1, 0, none⟩), .pointer (some ⟨w.heap.size, 0, none⟩), .pointer (some ⟨w.heap.size + 1, 0, none⟩)] (W3 ((w.alloc (.cells #[.slice A l.length c] 43 (0, 0))).alloc (.cells #[.slice none 0 0] 54 (0, 0))) b) fun e w' =>
      SplitEnd w.heap.size (w.heap.size + 2 + 1 + 1) (w.heap.size + 1) w (W3 ((w.alloc (.cells #[.slice A l.length c] 43 (0, 0))).alloc (.cells #[.slice none 0 0] 54 (0, 0))) b) T e w' := by
  obtain ⟨t1, t2⟩ := two2 (w := w) (.cells #[.slice A l.length c] 43 (0, 0)) (.cells #[.slice none 0 0] 54 (0, 0))
  have hb2 : Below w.heap.size w ((w.alloc (.cells #[.slice A l.length c] 43 (0, 0))).alloc (.cells #[.slice none 0 0] 54 (0, 0))) := below_alloc (below_alloc (Below.refl _ _) _) _
  have hsz : ((w.alloc (.cells #[.slice A l.length c] 43 (0, 0))).alloc (.cells #[.slice none 0 0] 54 (0, 0))).heap.size = w.heap.size + 2 := by simp
  generalize ((w.alloc (.cells #[.slice A l.length c] 43 (0, 0))).alloc (.cells #[.slice none 0 0] 54 (0, 0))) = W at t1 t2 hb2 hsz
  have hbW : Below w.heap.size w (W3 W b) := Upd.below hb2 (W3_upd W b (fun _ => False)) (by omega) (fun _ h => h.elim)
  have hrd := W3_rd W b
  rw [hsz] at hrd ⊢
  exact split1 w.heap.size (w.heap.size + 2 + 1 + 1) w.heap.size (w.heap.size + 1) b A c l (.slice none 0 0) w (W3 W b) T hT
    ⟨hrd, W3_heap b t2, Kd.R_nil _ _ _ _ _, hbW⟩ (blk_cell (W3_heap b t1) 0) (by omega) (by omega) (by omega)
    (fun V hV => Kd.C_below hr (Upd.below hbW hV (by rw [W3_size]; omega) (fun i h => by omega))) hw hlen hs

set_option maxHeartbeats 400000 in
set_option maxRecDepth 100000 in
theorem Split_short (b : ByteArray) (A : Option Addr) (c : Nat) (l : List Int) (w : World) (hr : (Kd.int .i64).C w A l.length l) (h : l.all isWidth = true) (hlen : l.length < 17592186044416) (hs : b.size ≤ maxLen) (hT : splitL b l [] = none) :
    Calls Try.prog 30 #[.string b, .slice A l.length c] w fun e w' => e = .returned (.tuple #[.slice none 0 0, .string ⟨#[]⟩, .int .i64 2]) ∧ Below w.heap.size w w' := by
  have hmf : ∀ (fn : Fn) (first cap : Array Value) (w : World), (Instr.makeFunc fn first cap).run Try.prog w = .ok (.func fn first cap) w := fun _ _ _ _ => rfl
  have H := Lib.hid h; clear h
  have HT := Lib.hid hT; clear hT
  go_enter Try.func30, Try.ntmps30
  go_wp2_with fail
  refine (whole_any A c l _ true (Kd.C_alloc hr _) H.out).mono ?_
  rintro e w1 ⟨rfl, rfl⟩
  go_wp2_with fail
  have hcl := (split1_at b A c l w none HT.out hr (widths_in H.out) hlen hs).mono (R' := fun e w' => e = .panicked short ∧ Upd (fun k => k = ((w.alloc (.cells #[.slice A l.length c] 43 (0, 0))).alloc (.cells #[.slice none 0 0] 54 (0, 0))).heap.size + 1 + 1 ∨ k = w.heap.size + 1) (W3 ((w.alloc (.cells #[.slice A l.length c] 43 (0, 0))).alloc (.cells #[.slice none 0 0] 54 (0, 0))) b) w') (fun e w' ⟨hu, he⟩ => ⟨he, by simpa using hu⟩)
  refine (reading_split_short _ _ b (· = w.heap.size + 1) _ (fun k hk => by simp; omega) (Lib.hid hcl)).mono ?_
  rintro e w2 ⟨rfl, hu⟩
  have hbl : Below w.heap.size w w2 := hu.below (below_alloc (below_alloc (Below.refl _ _) _) _) (by simp; omega) (fun i h => by omega)
  go_wp2_with fail
  go_ret3
  exact ⟨rfl, hbl⟩

/-- What is kept of out when reading has returned. -/
def OutAt (w : World) (xs : List Int) (W : World) : Prop := ∃ v, W.heap[w.heap.size + 1]? = some (.cells #[v] 54 (0, 0)) ∧ (Kd.int .u64).R 53 W w.heap.size (fun k => w.heap.size + 5 ≤ k) v xs
theorem OutAt.keep {w : World} {xs : List Int} {a b : World} (h : Upd (fun k => k = w.heap.size + 2 ∨ k = w.heap.size + 2 + 1) a b) (ha : OutAt w xs a) : OutAt w xs b := by
  obtain ⟨v, h1, h2⟩ := ha
  exact ⟨v, h.heap h1 (by omega), R_upd h2 h (fun k hk => by omega)⟩

set_option maxHeartbeats 400000 in
set_option maxRecDepth 100000 in
theorem Split_ok (b r : ByteArray) (A : Option Addr) (c : Nat) (l xs : List Int) (w : World) (hr : (Kd.int .i64).C w A l.length l) (h : l.all isWidth = true) (hlen : l.length < 17592186044416) (hs : b.size ≤ maxLen) (hT : splitL b l [] = some (xs, r)) :
    Calls Try.prog 30 #[.string b, .slice A l.length c] w fun e w' => ∃ v : Value, e = .returned (.tuple #[v, .string r, .int .i64 0]) ∧ (Kd.int .u64).R 53 w' w.heap.size (fun _ => True) v xs ∧ Below w.heap.size w w' := by
  have hmf : ∀ (fn : Fn) (first cap : Array Value) (w : World), (Instr.makeFunc fn first cap).run Try.prog w = .ok (.func fn first cap) w := fun _ _ _ _ => rfl
  have H := Lib.hid h; clear h
  have HT := Lib.hid hT; clear hT
  go_enter Try.func30, Try.ntmps30
  go_wp2_with fail
  refine (whole_any A c l _ true (Kd.C_alloc hr _) H.out).mono ?_
  rintro e w1 ⟨rfl, rfl⟩
  go_wp2_with fail
  have hcl := (split1_at b A c l w (some (xs, r)) HT.out hr (widths_in H.out) hlen hs).mono (R' := fun e w' => e = .returned (.tuple #[]) ∧ Rd w' (((w.alloc (.cells #[.slice A l.length c] 43 (0, 0))).alloc (.cells #[.slice none 0 0] 54 (0, 0))).heap.size + 1 + 1) r ∧ OutAt w xs w' ∧ Upd (fun k => k = ((w.alloc (.cells #[.slice A l.length c] 43 (0, 0))).alloc (.cells #[.slice none 0 0] 54 (0, 0))).heap.size + 1 + 1 ∨ k = w.heap.size + 1) (W3 ((w.alloc (.cells #[.slice A l.length c] 43 (0, 0))).alloc (.cells #[.slice none 0 0] 54 (0, 0))) b) w') (fun e w' ⟨hu, he, v', hv⟩ =>
      ⟨he, by simpa using hv.rd, ⟨v', hv.out, Kd.R_mono hv.own (fun k hk => by have := hk.2.2; rw [W3_size] at this; simp at this; omega)⟩, by simpa using hu⟩)
  refine (reading_split_ok _ _ b r (· = w.heap.size + 1) (OutAt w xs) _ (fun k hk => by simp; omega) (fun x y hxy hx => OutAt.keep (by simpa using hxy) hx) (Lib.hid hcl)).mono ?_
  rintro e w2 ⟨rfl, ⟨v, hq, hv⟩, hu⟩
  have hbl : Below w.heap.size w w2 := hu.below (below_alloc (below_alloc (Below.refl _ _) _) _) (by simp; omega) (fun i h => by omega)
  have cq : w2.cell? ⟨w.heap.size + 1, 0, none⟩ = some v := blk_cell hq 0
  clear hq
  go_wp2_with fail
  go_ret3
  exact ⟨v, rfl, Kd.R_mono hv (fun _ _ => trivial), hbl⟩

end Go.Proofs.Ytekbecpcbfhdmaa.Oct
namespace Go.Proofs.Ytekbecpcbfhdmaa.Given
open Go.RowKit Go.Proofs.YtekbecpcbfhdmaaW.PrintWords Go.Proofs.Ytekbecpcbfhdmaa.Oct

/-- Split: the numbers and what is left, or the error. -/
def octets_Split.f (a0 : ByteArray) (l1 : List Int) : Option (List Int × ByteArray × Int) :=
  if a0.size ≤ 9223372036854775807 ∧ l1.length < 17592186044416 then
    if l1.all isWidth = true then
      match splitL a0 l1 [] with
      | some (xs, r) => some (xs, r, 0)
      | none => some ([], ⟨#[]⟩, 2)
    else some ([], ⟨#[]⟩, 1)
  else none
theorem octets_Split.calls (a0 : ByteArray) (A1 : Option Addr) (c1 : Nat) (l1 : List Int) (r1 : List Int) (r2 : ByteArray) (r3 : Int) (w : World) (hr1 : Kd.C (Kd.int .i64) w A1 l1.length l1) (_hc1 : l1.length ≤ c1) (h : octets_Split.f a0 l1 = some (r1, r2, r3)) :
    Calls Try.prog 30 #[.string a0, .slice A1 l1.length c1] w fun e w' => ∃ v0_ : Value, e = .returned (.tuple #[v0_, .string r2, .int .i64 r3]) ∧ Kd.R (Kd.int .u64) 53 w' w.heap.size (fun _ => True) v0_ r1 ∧ Below w.heap.size w w' := by
  unfold octets_Split.f at h
  by_cases hs : a0.size ≤ 9223372036854775807 ∧ l1.length < 17592186044416
  · rw [if_pos hs] at h
    by_cases hw : l1.all isWidth = true
    · rw [if_pos hw] at h
      cases hc : splitL a0 l1 [] with
      | none =>
        rw [hc] at h
        simp only [Option.some.injEq, Prod.mk.injEq] at h
        obtain ⟨rfl, rfl, rfl⟩ := h
        exact (Split_short a0 A1 c1 l1 w hr1 hw hs.2 hs.1 hc).mono fun e w' ⟨he, hb⟩ => ⟨_, he, Kd.R_nil _ _ _ _ _, hb⟩
      | some x =>
        obtain ⟨xs, r⟩ := x
        rw [hc] at h
        simp only [Option.some.injEq, Prod.mk.injEq] at h
        obtain ⟨rfl, rfl, rfl⟩ := h
        exact Split_ok a0 r A1 c1 l1 xs w hr1 hw hs.2 hs.1 hc
    · rw [if_neg hw] at h
      simp only [Option.some.injEq, Prod.mk.injEq] at h
      obtain ⟨rfl, rfl, rfl⟩ := h
      exact (Split_arg a0 A1 c1 l1 w hr1 (Bool.eq_false_iff.mpr hw)).mono fun e w' ⟨he, hb⟩ => ⟨_, he, Kd.R_nil _ _ _ _ _, hb⟩
  · rw [if_neg hs] at h; cases h

end Go.Proofs.Ytekbecpcbfhdmaa.Given
