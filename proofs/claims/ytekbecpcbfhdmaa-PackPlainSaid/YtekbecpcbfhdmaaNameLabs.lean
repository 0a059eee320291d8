/- The iterator over a name's labels: what it gives. -/
import Derived.Test.YtekbecpcbfhdmaaNameIter
import Derived.Test.YtekbecpcbfhdmaaOctBytes
import Derived.Test.YtekbecpcbfhdmaaOctCut
import Derived.Laws.Strings
import Derived.RangeFuncBox
namespace Go.Proofs.Ytekbecpcbfhdmaa.Name
open Go.RowKit Go.Shelf Go.Proofs.YtekbecpcbfhdmaaW.PrintWords Go.Proofs.Ytekbecpcbfhdmaa.Oct Go.Proofs.Ytekbecpcbfhdmaa.UpdWords Go.Proofs.Ytekbecpcbfhdmaa.Given Go.Proofs.Ytekbecpcbfhdmaa.Box
attribute [local go_sem] Oper.semAt_some
set_option linter.unusedVariables false

def rootB : ByteArray := ⟨#[0]⟩
/-- The labels of some bytes, each with what is left behind it; as many rounds as there are bytes suffice. -/
def labs : Nat → ByteArray → List (ByteArray × ByteArray)
  | 0, _ => []
  | k + 1, n => if n = rootB then [] else
    match cutOf n 1 with
    | some (s, r) => if s.size = 0 ∨ 63 < s.size then [] else (s, r) :: labs k r
    | none => []
theorem cut_less {n s r : ByteArray} (h : cutOf n 1 = some (s, r)) : r.size < n.size := by
  unfold cutOf at h
  split at h
  · split at h
    · simp only [Option.some.injEq, Prod.mk.injEq] at h
      obtain ⟨_, rfl⟩ := h
      rw [drop_size]; omega
    · exact absurd h (by simp)
  · exact absurd h (by simp)
theorem labs_more : ∀ (k : Nat) (n : ByteArray), n.size ≤ k → labs (k + 1) n = labs k n
  | 0, n, h => by
    rw [labs, labs]
    split
    · rfl
    · unfold cutOf; rw [if_neg (by omega)]
  | k + 1, n, h => by
    rw [labs, labs]
    split
    · rfl
    · cases hc : cutOf n 1 with
      | none => rfl
      | some x =>
        obtain ⟨s, r⟩ := x
        have := cut_less hc
        simp only []
        rw [labs_more k r (by omega)]
theorem labs_up (n : ByteArray) : ∀ j, labs (n.size + j) n = labs n.size n
  | 0 => rfl
  | j + 1 => by rw [← Nat.add_assoc, labs_more _ n (by omega), labs_up n j]
theorem labs_at (n : ByteArray) (k : Nat) (h : n.size ≤ k) : labs k n = labs n.size n := by
  have := labs_up n (k - n.size)
  rwa [show n.size + (k - n.size) = k from by omega] at this
theorem labs_cons {n s r : ByteArray} (hn : ¬ n = rootB) (hc : cutOf n 1 = some (s, r)) (hs : ¬ (s.size = 0 ∨ 63 < s.size)) : labs n.size n = (s, r) :: labs r.size r := by
  have := cut_less hc
  rw [← labs_at n (n.size - 1 + 1) (by omega), labs, if_neg hn, hc]
  simp only []
  rw [if_neg hs, labs_at r _ (by omega)]
theorem labs_root {n : ByteArray} (hn : n = rootB) : labs n.size n = [] := by
  subst hn; rfl
theorem labs_none {n : ByteArray} (hc : cutOf n 1 = none) : labs n.size n = [] := by
  rw [← labs_at n (n.size + 1) (by omega), labs]
  split
  · rfl
  · rw [hc]
theorem labs_bad {n s r : ByteArray} (hc : cutOf n 1 = some (s, r)) (hs : s.size = 0 ∨ 63 < s.size) : labs n.size n = [] := by
  rw [← labs_at n (n.size + 1) (by omega), labs]
  split
  · rfl
  · rw [hc]; simp only []; rw [if_pos hs]

theorem list_ne {n : ByteArray} {l : List UInt8} (h : ¬ n = ⟨l.toArray⟩) : (n.toList == l) = false := by
  rw [beq_eq_false_iff_ne, ByteArray.toList_eq]
  exact fun e => h (by apply list_inj; rw [e])
def boxLen (Bn : Nat) (w : World) : Nat := match w.cell? ⟨Bn, 0, none⟩ with | some (.string s) => s.size | _ => 0
theorem boxLen_eq {Bn : Nat} {w : World} {n : ByteArray} (h : w.cell? ⟨Bn, 0, none⟩ = some (.string n)) : boxLen Bn w = n.size := by unfold boxLen; rw [h]
theorem below_grown {w w' : World} (h : Below w.heap.size w w') : w.grownBy w' none := ⟨h.os, h.tape, h.output, h.size, fun k hk _ => h.block k hk⟩
theorem cut_none {n : ByteArray} (hs : n.size ≤ 9223372036854775807) (hc : cutOf n 1 = none) : octets_Cut.f n 1 = some (⟨#[]⟩, ⟨#[]⟩, 2) := by
  unfold octets_Cut.f; rw [if_pos hs, if_pos (.inl rfl)]
  show (match cutOf n 1 with | some (s, r) => some (s, r, (0 : Int)) | none => some (⟨#[]⟩, ⟨#[]⟩, 2)) = _
  rw [hc]
theorem cut_some {n s r : ByteArray} (hs : n.size ≤ 9223372036854775807) (hc : cutOf n 1 = some (s, r)) : octets_Cut.f n 1 = some (s, r, 0) := by
  unfold octets_Cut.f; rw [if_pos hs, if_pos (.inl rfl)]
  show (match cutOf n 1 with | some (s, r) => some (s, r, (0 : Int)) | none => some (⟨#[]⟩, ⟨#[]⟩, 2)) = _
  rw [hc]

set_option maxRecDepth 100000 in
set_option maxHeartbeats 1000000 in
theorem labels1 (l Bn : Nat) (n0 : ByteArray) (J Jx : List (ByteArray × ByteArray) → World → Prop)
    (hJ : ∀ s A B row, J s A → A.grownBy B row → (row = none ∨ row = some Bn) → J s B)
    (hY : ∀ pre x W1, J pre W1 → pre ++ [x] <+: labs n0.size n0 → YieldAt Fence.wide 1 Try.prog l #[.string x.1, .string x.2] W1 fun e W' =>
      (e = .returned (.bool true) ∧ J (pre ++ [x]) W' ∧ W'.heap[Bn]? = W1.heap[Bn]?) ∨ (e = .returned (.bool false) ∧ Jx (pre ++ [x]) W'))
    (W : World) (hBn : W.heap[Bn]? = some (.cells #[.string n0] 9 (0, 0))) (hs : n0.size ≤ maxLen) (h0 : J [] W) :
    CallsIn Fence.wide 2 Try.prog 31 #[.func (.yield l) #[] #[], .pointer (some ⟨Bn, 0, none⟩)] W fun e W' => (∃ v, e = .returned v) ∧
      (J (labs n0.size n0) W' ∨ ∃ pre, pre <+: labs n0.size n0 ∧ Jx pre W') := by
  refine callsIn_of_wp Try.func31 rfl trivial ?_ rfl
  simp only [Try.ntmps31, List.size_toArray, List.length_cons, List.length_nil, Nat.reduceAdd, Nat.reduceSub, Array.replicate_succ, Array.replicate_zero, List.push_toArray, List.append_toArray, List.nil_append, List.cons_append]
  gi_wp2
  gi_loopw [] (fun wr => ∃ (pre : List (ByteArray × ByteArray)) (n : ByteArray), wr.heap[Bn]? = some (.cells #[.string n] 9 (0, 0)) ∧ n.size ≤ maxLen ∧ labs n0.size n0 = pre ++ labs n.size n ∧ J pre wr)
    (fun wr => boxLen Bn wr)
  case atStart => exact ⟨[], n0, hBn, hs, rfl, h0⟩
  case round =>
    obtain ⟨pre, n, hb, hns, hL, hJs⟩ := hrel
    have hc : wr.cell? ⟨Bn, 0, none⟩ = some (.string n) := blk_cell hb 0
    have hf := blk_frozen hb 0
    by_cases hr : n = rootB
    · subst hr
      unfold rootB at hc
      gi_wp2
      go_end0
      refine ⟨⟨_, rfl⟩, .inl ?_⟩
      rw [hL, labs_root rfl, List.append_nil]; exact hJs
    · have t1 : (n.toList == [0]) = false := list_ne hr
      cases hcut : cutOf n 1 with
      | none =>
        have hq := cut_none hns hcut
        gi_wp2_with (refine ⟨trivial, ?_⟩; gi_at_call 29; refine (callsIn_wide.2 (octets_Cut.calls n 1 _ _ _ _ hq)).mono ?_; rintro e w' ⟨rfl, hb1⟩)
        refine bodyPost_ret (results_none rfl _ _ _) rfl ?_
        refine ⟨⟨_, rfl⟩, .inl ?_⟩
        rw [hL, labs_none hcut, List.append_nil]; exact hJ _ _ _ _ hJs (below_grown hb1) (.inl rfl)
      | some x =>
        obtain ⟨s, r⟩ := x
        have hq := cut_some hns hcut
        by_cases hbad : s.size = 0 ∨ 63 < s.size
        · by_cases hz : s.size = 0
          · have t2 : (s.toList == []) = true := by rw [ByteArray.toList_eq, List.length_eq_zero_iff.mp ((size_list s).trans hz)]; rfl
            gi_wp2_with (refine ⟨trivial, ?_⟩; gi_at_call 29; refine (callsIn_wide.2 (octets_Cut.calls n 1 _ _ _ _ hq)).mono ?_; rintro e w' ⟨rfl, hb1⟩)
            refine bodyPost_ret (results_none rfl _ _ _) rfl ?_
            refine ⟨⟨_, rfl⟩, .inl ?_⟩
            rw [hL, labs_bad hcut hbad, List.append_nil]; exact hJ _ _ _ _ hJs (below_grown hb1) (.inl rfl)
          · have t2 : (s.toList == []) = false := list_ne (l := []) (fun h => hz (by rw [h]; rfl))
            have t3 : decide (63 < (s.size : Int)) = true := decide_eq_true (by omega)
            have t4 : decide (63 < s.size) = true := decide_eq_true (by omega)
            gi_wp2_with (refine ⟨trivial, ?_⟩; gi_at_call 29; refine (callsIn_wide.2 (octets_Cut.calls n 1 _ _ _ _ hq)).mono ?_; rintro e w' ⟨rfl, hb1⟩)
            refine bodyPost_ret (results_none rfl _ _ _) rfl ?_
            refine ⟨⟨_, rfl⟩, .inl ?_⟩
            rw [hL, labs_bad hcut hbad, List.append_nil]; exact hJ _ _ _ _ hJs (below_grown hb1) (.inl rfl)
        · have t2 : (s.toList == []) = false := list_ne (l := []) (fun h => hbad (.inl (by rw [h]; rfl)))
          have t3 : decide (63 < (s.size : Int)) = false := decide_eq_false (by omega)
          have t4 : decide (63 < s.size) = false := decide_eq_false (by omega)
          have hl := labs_cons hr hcut hbad
          have hless := cut_less hcut
          gi_wp2_with (refine ⟨trivial, ?_⟩; gi_at_call 29; refine (callsIn_wide.2 (octets_Cut.calls n 1 _ _ _ _ hq)).mono ?_; rintro e w' ⟨rfl, hb1⟩; have hb2 := (hb1.block Bn (blk_lt hb)).trans hb; have hc2 : w'.cell? ⟨Bn, 0, none⟩ = some (.string n) := blk_cell hb2 0; have hf2 := blk_frozen hb2 0; have hb3 := blk_set hb2 0 (.string r); have hJ2 := hJ _ _ _ (some Bn) (hJ _ _ _ _ hJs (below_grown hb1) (.inl rfl)) (grownBy_setCell' w' Bn (.string r)) (.inr rfl); obtain ⟨fn, tmps, assign, body, hy, hR⟩ := hY pre (s, r) (w'.setCell ⟨Bn, 0, none⟩ (.string r)) hJ2 ⟨labs r.size r, by rw [hL, hl, List.append_assoc]; rfl⟩; dsimp only at hy; have hc3 : (w'.setCell ⟨Bn, 0, none⟩ (.string r)).cell? ⟨Bn, 0, none⟩ = some (.string r) := blk_cell hb3 0)
          refine hR.mono ?_
          rintro e W3 (⟨rfl, hJ3, hk3⟩ | ⟨rfl, hJx3⟩)
          · have hb4 := hk3.trans hb3
            gi_wp2
            go_roundw
            case rel => exact ⟨pre ++ [(s, r)], r, hb4, by omega, by rw [hL, hl, List.append_assoc]; rfl, hJ3⟩
            case measure => rw [boxLen_eq (blk_cell hb4 0), boxLen_eq hc]; exact hless
          · gi_wp2
            refine bodyPost_ret (results_none rfl _ _ _) rfl ?_
            exact ⟨⟨_, rfl⟩, .inr ⟨pre ++ [(s, r)], ⟨labs r.size r, by rw [hL, hl, List.append_assoc]; rfl⟩, hJx3⟩⟩

theorem stops (Bn : Nat) (n0 : ByteArray) (w : World) (hBn : w.heap[Bn]? = some (.cells #[.string n0] 9 (0, 0))) (hs : n0.size ≤ maxLen) :
    Stops Try.prog 2 31 #[.pointer (some ⟨Bn, 0, none⟩)] (fun x : ByteArray × ByteArray => #[.string x.1, .string x.2]) Bn (labs n0.size n0) w :=
  fun l J Jx W hW hJ hY h0 => labels1 l Bn n0 J Jx hJ hY W (hW.trans hBn) hs h0

set_option maxHeartbeats 1000000 in
theorem labels_in (n : ByteArray) (w : World) :
    CallsIn Fence.wide 2 Try.prog 25 #[.string n] w fun e w' => e = .returned (.func (.func 31) #[] #[.pointer (some ⟨w.heap.size, 0, none⟩)]) ∧ w' = w.alloc (.cells #[.string n] 9) := by
  refine callsIn_of_wp Try.func25 rfl trivial ?_ rfl
  simp only [Try.ntmps25, List.size_toArray, List.length_cons, List.length_nil, Nat.reduceAdd, Nat.reduceSub, Array.replicate_succ, Array.replicate_zero, List.push_toArray, List.append_toArray, List.nil_append, List.cons_append]
  gi_wp2
  go_ret
  exact ⟨rfl, rfl⟩

/-- What is left behind the last label. -/
def endIn (n : ByteArray) (pre : List (ByteArray × ByteArray)) : ByteArray := match pre.getLast? with | some x => x.2 | none => n
theorem endIn_snoc (n : ByteArray) (pre : List (ByteArray × ByteArray)) (x : ByteArray × ByteArray) : endIn n (pre ++ [x]) = x.2 := by unfold endIn; simp

theorem abide_box {n0 Bn g : Nat} {f : List (ByteArray × ByteArray) → Value} {t : TypeId} (hg : g ≠ Bn) : Abide n0 Bn (fun pre W => W.heap[g]? = some (.cells #[f pre] t (0, 0))) := fun s A B row hs hgr hr =>
  (hgr.block g (blk_lt hs) (fun e => by rcases hr g e.symm with h | ⟨_, o, ho, hc⟩; exact hg h; rw [hs] at ho; cases ho; cases hc)).trans hs
theorem abide_below {n0 Bn B : Nat} {w : World} (hB : B ≤ w.heap.size) (h0 : B ≤ n0) (hBn : B ≤ Bn) : Abide n0 Bn (fun (_ : List (ByteArray × ByteArray)) W => Below B w W) := fun s A _ row hs hgr hr =>
  hs.grown hgr (Nat.le_trans hB hs.size) (fun k e => by rcases hr k e with h | ⟨h, _⟩ <;> omega)
theorem abide_and {β : Type} {n0 Bn : Nat} {I I' : β → World → Prop} (h : Abide n0 Bn I) (h' : Abide n0 Bn I') : Abide n0 Bn (fun s W => I s W ∧ I' s W) := fun s A B row hs hg hr => ⟨h s A B row hs.1 hg hr, h' s A B row hs.2 hg hr⟩

set_option maxRecDepth 100000 in
set_option maxHeartbeats 2000000 in
theorem right_short (n : ByteArray) (w : World) (hs : n.size ≤ 255) (b : Bool) (hb : ((endIn n (labs n.size n)).toList == [0]) = b) :
    Calls Try.prog 19 #[.string n] w fun e w' => e = .returned (.bool b) ∧ Below w.heap.size w w' := by
  refine (callsIn_wide (n := 3)).1 ?_
  have t1 : decide (255 < (n.size : Int)) = false := decide_eq_false (by omega)
  have t2 : decide (255 < n.size) = false := decide_eq_false (by omega)
  refine callsIn_of_wp_marks Try.func19 rfl trivial ?_ rfl
  simp only [Try.ntmps19, List.size_toArray, List.length_cons, List.length_nil, Nat.reduceAdd, Nat.reduceSub, Array.replicate_succ, Array.replicate_zero, List.push_toArray, List.append_toArray, List.nil_append, List.cons_append]
  gi_wp2_with (refine ⟨trivial, ?_⟩; gi_at_call 25; refine (labels_in n _).mono ?_; rintro e w' ⟨rfl, rfl⟩)
  have hB0 : Below w.heap.size w ((w.alloc (.cells #[.string n] 9)).alloc (.cells #[.string n] 9)) := ((Below.refl _ w).alloc (Nat.le_refl _) _).alloc (by simp) _
  have b1 : ((w.alloc (.cells #[.string n] 9)).alloc (.cells #[.string n] 9)).heap[w.heap.size]? = some (.cells #[.string n] 9 (0, 0)) := blk_alloc (blk_new w _) _
  have b2 : ((w.alloc (.cells #[.string n] 9)).alloc (.cells #[.string n] 9)).heap[w.heap.size + 1]? = some (.cells #[.string n] 9 (0, 0)) := by
    have := blk_new (w.alloc (.cells #[.string n] 9)) (.cells #[.string n] 9); rwa [World.size_alloc] at this
  refine Box.rangeFunc (gf := 31) (lb := #[.pointer (some ⟨w.heap.size + 1, 0, none⟩)]) rfl (enters_of Try.func31 (by kernel_rfl) rfl) (fun _ => rfl) (Bn := w.heap.size + 1) (by simp)
    (stops (w.heap.size + 1) n _ b2 (by unfold maxLen; omega))
    (fun pre W => W.heap[w.heap.size]? = some (.cells #[.string (endIn n pre)] 9 (0, 0)) ∧ Below w.heap.size w W)
    (fun _ _ _ => False)
    (abide_and (abide_box (f := fun pre => .string (endIn n pre)) (by omega)) (abide_below (Nat.le_refl _) (by simp; omega) (by omega)))
    (fun _ _ _ _ _ hs _ _ => hs.elim)
    ⟨b1, hB0⟩
    (fun x => { tmps := #[.string n, undef, .bool false, .pointer (some ⟨w.heap.size, 0, none⟩), undef, .string x.2, .string n, .int .i64 (n.size : Int), .bool false, .string n, .string n, .func (.func 31) #[] #[.pointer (some ⟨w.heap.size + 1, 0, none⟩)], .string x.1, .string x.2, undef, undef, undef], defers := [] }) ?assign ?body ?done ?stop
  case assign =>
    intro l x W K hK
    gi_wp2
    exact hK
  case body =>
    rintro l pre x W ⟨hb1, hB⟩ hpre
    have hc : W.cell? ⟨w.heap.size, 0, none⟩ = some (.string (endIn n pre)) := blk_cell hb1 0
    have hf := blk_frozen hb1 0
    gi_wp2
    refine ⟨KeepsOthers.setCell _ _ _, Below.heap_setCell _ _ _ _ (by simp), ?_, hB.setCell (p := ⟨w.heap.size, 0, none⟩) (Nat.le_refl _) _⟩
    rw [endIn_snoc]; exact blk_set hb1 0 _
  case done =>
    rintro D W hD ⟨hb1, hB⟩ hK
    have hc : W.cell? ⟨w.heap.size, 0, none⟩ = some (.string (endIn n (labs n.size n))) := blk_cell hb1 0
    gi_wp2
    refine ⟨by simp, .inl ⟨_, _, rfl, run_takeDeferred hK, ?_⟩⟩
    exact ⟨_, results_tmp rfl _ _ _, rfl, hB.trans (belowK_b (w := w) (Nat.le_refl _) W D _ _ (by simp at hD; omega) hK rfl rfl)⟩
  case stop =>
    rintro D c pre W _ _ h _
    exact h.elim

set_option maxHeartbeats 1000000 in
theorem right_long (n : ByteArray) (w : World) (hs : 255 < n.size) : Calls Try.prog 19 #[.string n] w fun e w' => e = .returned (.bool false) ∧ w = w' := by
  have t1 : decide (255 < (n.size : Int)) = true := decide_eq_true (by omega)
  have t2 : decide (255 < n.size) = true := decide_eq_true (by omega)
  go_enter Try.func19, Try.ntmps19
  go_wp2
  go_ret
  exact ⟨rfl, rfl⟩

/-- A name? -/
def rightB (n : ByteArray) : Bool := decide (n.size ≤ 255) && ((endIn n (labs n.size n)).toList == [0])
theorem right_any (n : ByteArray) (w : World) : Calls Try.prog 19 #[.string n] w fun e w' => e = .returned (.bool (rightB n)) ∧ Below w.heap.size w w' := by
  by_cases hs : n.size ≤ 255
  · refine right_short n w hs _ ?_
    unfold rightB; rw [decide_eq_true hs, Bool.true_and]
  · refine (right_long n w (by omega)).mono fun e w' ⟨he, hw⟩ => ⟨?_, by rw [← hw]; exact Below.refl _ _⟩
    rw [he]; unfold rightB; rw [decide_eq_false hs, Bool.false_and]
end Go.Proofs.Ytekbecpcbfhdmaa.Name
