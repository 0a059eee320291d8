/- name.Labels: its contract. -/
import Derived.Test.YthhbddmokgbdkaaNameParent
import Derived.Maps.AppendAt
namespace Go.Proofs.Ythhbddmokgbdkaa.Name
open Go.RowKit Go.Shelf Go.Proofs.YthhbddmokgbdkaaW.PrintWords Go.Proofs.Ythhbddmokgbdkaa.Oct Go.Proofs.Ythhbddmokgbdkaa.UpdWords Go.Proofs.Ythhbddmokgbdkaa.Given Go.Proofs.Ythhbddmokgbdkaa.Box
attribute [local go_sem] Oper.semAt_some
set_option linter.unusedVariables false

theorem labs_len : ∀ (k : Nat) (n : ByteArray), (labs k n).length ≤ k
  | 0, n => Nat.le_refl _
  | k + 1, n => by
    rw [labs]
    split
    · simp
    · cases hc : cutOf n 1 with
      | none => simp
      | some x =>
        obtain ⟨s, r⟩ := x
        simp only []
        split
        · simp
        · have := labs_len k r
          simp only [List.length_cons]; omega
def strs (pre : List (ByteArray × ByteArray)) : List Value := pre.map fun x => .string x.1
theorem info_s : (Try.prog.info? 9).map (fun i => (i.zero, i.size, i.bytes)) = some (some (.string ⟨#[]⟩), 1, 16) := by kernel_rfl
def Held (G b : Nat) (pre : List (ByteArray × ByteArray)) (W : World) : Prop :=
  ∃ v, W.heap[G]? = some (.cells #[v] 25 (0, 0)) ∧ W.ownsRow b 9 1 v pre.length (strs pre)
theorem held_abide {n0 Bn G b : Nat} (hG : G ≠ Bn) (hb : Bn < b) : Abide n0 Bn (Held G b) := by
  rintro s A B row ⟨v, h1, h2⟩ hgr hr
  refine ⟨v, (hgr.block G (blk_lt h1) (fun e => ?_)).trans h1, h2.kept hgr ?_⟩
  · rcases hr G e.symm with h | ⟨_, o, ho, hc⟩
    · exact hG h
    · rw [h1] at ho; cases ho; cases hc
  · rcases h2.2 with ⟨rfl, _⟩ | ⟨g, cap, cur, rfl, hbg, hgb, _⟩
    · exact .inl rfl
    · refine .inr fun e => ?_
      rcases hr g (by simpa [Value.ownBlock] using e.symm) with h | ⟨_, o, ho, hc⟩
      · omega
      · rw [hgb] at ho; cases ho; cases hc
theorem own_mono {W : World} {b b' e k : Nat} {v : Value} {xs : List Value} (h : W.ownsRow b e 1 v k xs) (hb : b' ≤ b) : W.ownsRow b' e 1 v k xs := by
  refine ⟨h.1, ?_⟩
  rcases h.2 with h' | ⟨g, cap, cur, e1, e2, e3⟩
  · exact .inl h'
  · exact .inr ⟨g, cap, cur, e1, Nat.le_trans hb e2, e3⟩
theorem row_block {W : World} {b e k : Nat} {v : Value} {xs : List Value} (h : W.ownsRow b e 1 v k xs) {g : Nat} (hg : v.ownBlock = some g) : b ≤ g ∧ ∃ cur, W.heap[g]? = some (.cells cur e (0, 0)) := by
  rcases h.2 with ⟨rfl, _⟩ | ⟨g', cap, cur, rfl, hbg, hgb, _⟩
  · simp [Value.ownBlock] at hg
  · obtain rfl : g' = g := by simpa [Value.ownBlock] using hg
    exact ⟨hbg, cur, hgb⟩

set_option maxRecDepth 100000 in
set_option maxHeartbeats 2000000 in
theorem labels_no (n : ByteArray) (w : World) (hr : rightB n = false) :
    Calls Try.prog 20 #[.string n] w fun e w' => e = .returned (.tuple #[.slice none 0 0, .int .i64 2]) ∧ Below w.heap.size w w' := by
  have hq := fun W => right_any n W
  rw [hr] at hq
  go_enter Try.func20, Try.ntmps20
  go_wp2_with fail
  refine (hq _).mono ?_
  rintro e w1 ⟨rfl, hb1⟩
  go_wp2_with fail
  go_ret2
  exact ⟨rfl, hb1⟩

set_option maxRecDepth 100000 in
set_option maxHeartbeats 2000000 in
theorem labels_yes (n : ByteArray) (w : World) (hr : rightB n = true) (hs : n.size ≤ 255) :
    Calls Try.prog 20 #[.string n] w fun e w' => ∃ v, e = .returned (.tuple #[v, .int .i64 0]) ∧ w'.ownsRow w.heap.size 9 1 v (labs n.size n).length (strs (labs n.size n)) ∧ Below w.heap.size w w' := by
  have hq := fun W => right_any n W
  rw [hr] at hq
  obtain ⟨i0, hi, hz0, hz1, hz2⟩ := info_parts info_s
  refine (callsIn_wide (n := 3)).1 ?_
  refine callsIn_of_wp_marks Try.func20 rfl trivial ?_ rfl
  simp only [Try.ntmps20, List.size_toArray, List.length_cons, List.length_nil, Nat.reduceAdd, Nat.reduceSub, Array.replicate_succ, Array.replicate_zero, List.push_toArray, List.append_toArray, List.nil_append, List.cons_append]
  gi_wp2_with (first | (refine ⟨trivial, ?_⟩; gi_at_call 22; refine (callsIn_wide.2 (hq _)).mono ?_; rintro e w1 ⟨rfl, hb1⟩) | (refine ⟨trivial, ?_⟩; gi_at_call 46; refine (labels_in n _).mono ?_; rintro e w' ⟨rfl, rfl⟩))
  obtain ⟨G, hG⟩ : ∃ G, w1.heap.size = G := ⟨_, rfl⟩
  have hz : w.heap.size ≤ G := hG ▸ hb1.size
  rw [hG]
  have hB0 : Below w.heap.size w ((w1.alloc (.cells #[.slice none 0 0] 25)).alloc (.cells #[.string n] 9)) := (hb1.alloc (by omega) _).alloc (by simp; omega) _
  have c1 : ((w1.alloc (.cells #[.slice none 0 0] 25)).alloc (.cells #[.string n] 9)).heap[G]? = some (.cells #[.slice none 0 0] 25 (0, 0)) := by rw [← hG]; exact blk_alloc (blk_new w1 _) _
  have b2 : ((w1.alloc (.cells #[.slice none 0 0] 25)).alloc (.cells #[.string n] 9)).heap[G + 1]? = some (.cells #[.string n] 9 (0, 0)) := by
    have := blk_new (w1.alloc (.cells #[.slice none 0 0] 25)) (.cells #[.string n] 9); rw [World.size_alloc, hG] at this; exact this
  refine Box.rangeFunc (gf := 60) (lb := #[.pointer (some ⟨G + 1, 0, none⟩)]) rfl (enters_of Try.func60 (by kernel_rfl) rfl) (fun _ => rfl) (Bn := G + 1) (by simp; omega)
    (stops (G + 1) n _ b2 (by unfold maxLen; omega))
    (fun pre W => Held G (G + 1 + 1) pre W ∧ Below w.heap.size w W ∧ G + 1 + 1 ≤ W.heap.size)
    (fun _ _ _ => False)
    (abide_and (held_abide (by omega) (by omega)) (abide_and (abide_below (Nat.le_refl _) (by simp; omega) (by omega)) (fun _ _ _ _ h hg _ => Nat.le_trans h hg.size)))
    (fun _ _ _ _ _ hs _ _ => hs.elim)
    ⟨⟨_, c1, World.ownsRow_nil _ _ _ _⟩, hB0, by simp; omega⟩
    (fun x => { tmps := #[.string n, undef, .slice none 0 0, .int .i64 0, .pointer (some ⟨G, 0, none⟩), .string x.1, .string n, .bool true, .bool false, .string n, .func (.func 60) #[] #[.pointer (some ⟨G + 1, 0, none⟩)], .string x.1, .string x.2, undef, undef, undef, undef, undef], defers := [] }) ?assign ?body ?done ?stop
  case assign =>
    intro l x W K hK
    gi_wp2
    exact hK
  case body =>
    rintro l pre x W ⟨⟨v, hb2, hrow⟩, hB, hsz⟩ hpre
    have hc : W.cell? ⟨G, 0, none⟩ = some v := blk_cell hb2 0
    have hlen : pre.length < 256 := by
      have h1 := hpre.length_le
      have h2 := labs_len n.size n
      simp only [List.length_append, List.length_cons, List.length_nil] at h1
      omega
    gi_wp2_with (gi_at_builtin; refine wpListIn_append_own _ rfl _ _ 25 rfl (G + 1 + 1) 9 i0 (.string ⟨#[]⟩) 1 16 Try.underlying25 hi hz0 hz1 hz2 rfl (by decide) _ _ _ rfl (hrow.alloc _) ⟨W.heap.size, 0, none⟩ 1 1 [.string x.1] rfl rfl (cell_one_new _ _ _) (by simp [Value.oneCell']) (by unfold maxLen; omega) (by omega) (by simp; omega) ?_; intro v' w2 hown' hgrow _; obtain ⟨g', cap', rfl⟩ := ownsRow_succ hown'; have hb3 : w2.heap[G]? = some (.cells #[v] 25 (0, 0)) := blk_grown (blk_alloc hb2 _) hgrow (fun e => by have := (row_block hrow e.symm).1; omega); have hc3 : w2.cell? ⟨G, 0, none⟩ = some v := blk_cell hb3 0; have hf3 := blk_frozen hb3 0)
    have hbn : G + 1 < W.heap.size := by omega
    refine ⟨((KeepsOthers.alloc W _).trans (KeepsOthers.of_grownBy hgrow fun j o ej hj => ?_)).trans (KeepsOthers.setCell _ _ _), ?_, ⟨_, blk_set hb3 0 _, ?_⟩, ?_, ?_⟩
    · obtain ⟨cur, hcur⟩ := (row_block (hrow.alloc _) ej).2
      rw [hcur] at hj; cases hj; rfl
    · rw [Below.heap_setCell _ _ _ _ (by simp), hgrow.block (G + 1) (by simp; omega) (fun e => by have := (row_block hrow e.symm).1; omega)]
      exact Below.heap_alloc W _ (G + 1) hbn
    · have hk := hown'.kept (grownBy_setCell' w2 G (.slice (some ⟨g', 0, none⟩) (pre.length + 1) cap')) (.inr (fun e => by have := (row_block hown' e).1; omega))
      have e1 : strs (pre ++ [x]) = strs pre ++ [.string x.1] := by unfold strs; simp
      rw [e1, List.length_append]; exact hk
    · refine ((hB.alloc hB.size _).grown hgrow (by simp; omega) fun j ej => ?_).setCell (p := ⟨G, 0, none⟩) hz _
      have := (row_block hrow ej).1; omega
    · have := hgrow.size; simp at this ⊢; omega
  case done =>
    rintro D W hD ⟨⟨v, hb2, hrow⟩, hB, hsz⟩ hK
    have hc : W.cell? ⟨G, 0, none⟩ = some v := blk_cell hb2 0
    gi_wp2
    refine ⟨by simp, .inl ⟨_, _, rfl, run_takeDeferred hK, ?_⟩⟩
    exact ⟨_, results_tmp2 rfl _ _ _, v, rfl, own_mono (ownsRow_putObj hrow _ hK rfl) (by omega), hB.trans (belowK_b (w := w) (Nat.le_refl _) W D _ _ (by simp at hD; omega) hK rfl rfl)⟩
  case stop =>
    rintro D c pre W _ _ h _
    exact h.elim
end Go.Proofs.Ythhbddmokgbdkaa.Name
namespace Go.Proofs.Ythhbddmokgbdkaa.Given
open Go.RowKit Go.Proofs.YthhbddmokgbdkaaW.PrintWords Go.Proofs.Ythhbddmokgbdkaa.Name

def name_Right.f (a0 : ByteArray) : Option Bool := some (rightB a0)
theorem name_Right.calls (a0 : ByteArray) (r : Bool) (w : World) (h : name_Right.f a0 = some r) :
    Calls Try.prog 22 #[.string a0] w fun e w' => e = .returned (.bool r) ∧ Below w.heap.size w w' := by
  obtain rfl := Option.some.inj h
  exact right_any a0 w
def name_Parent.f (a0 : ByteArray) : Option (ByteArray × Bool) := some (parentR a0)
theorem name_Parent.calls (a0 : ByteArray) (r1 : ByteArray) (r2 : Bool) (w : World) (h : name_Parent.f a0 = some (r1, r2)) :
    Calls Try.prog 32 #[.string a0] w fun e w' => e = .returned (.tuple #[.string r1, .bool r2]) ∧ Below w.heap.size w w' := by
  have e := Option.some.inj h
  have := parent_any a0 w
  rw [e] at this
  exact this
def name_Labels.f (a0 : ByteArray) : Option (List ByteArray × Int) := some (if rightB a0 = true then ((labs a0.size a0).map (·.1), 0) else ([], 2))
theorem name_Labels.calls (a0 : ByteArray) (r1 : List ByteArray) (r2 : Int) (w : World) (h : name_Labels.f a0 = some (r1, r2)) :
    Calls Try.prog 20 #[.string a0] w fun e w' => ∃ v0_ : Value, e = .returned (.tuple #[v0_, .int .i64 r2]) ∧ Kd.R Kd.string 9 w' w.heap.size (fun _ => True) v0_ r1 ∧ Below w.heap.size w w' := by
  have e := Option.some.inj h
  by_cases hr : rightB a0 = true
  · rw [if_pos hr] at e
    obtain ⟨rfl, rfl⟩ := Prod.mk.inj e
    have hs : a0.size ≤ 255 := by
      unfold rightB at hr
      exact of_decide_eq_true (Bool.and_eq_true_iff.mp hr).1
    refine (labels_yes a0 w hr hs).mono ?_
    rintro e w' ⟨v, rfl, hv, hb⟩
    refine ⟨v, rfl, Kd.R_of_own ?_ (fun _ _ => trivial), hb⟩
    rw [List.length_map]
    have e2 : encs Value.string ((labs a0.size a0).map (·.1)) = strs (labs a0.size a0) := by unfold strs encs; rw [List.map_map]; rfl
    rw [e2]; exact hv
  · rw [if_neg hr] at e
    obtain ⟨rfl, rfl⟩ := Prod.mk.inj e
    refine (labels_no a0 w (Bool.eq_false_iff.mpr hr)).mono ?_
    rintro e w' ⟨rfl, hb⟩
    exact ⟨_, rfl, Kd.R_nil _ _ _ _ _, hb⟩
end Go.Proofs.Ythhbddmokgbdkaa.Given
