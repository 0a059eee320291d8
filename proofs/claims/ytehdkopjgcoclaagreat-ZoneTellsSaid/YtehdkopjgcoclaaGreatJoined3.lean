/- Joined out of this session's own texts: contracts and facts that the claim's row is drawn from, each with its own conditions. -/
import Derived.Test.YtehdkopjgcoclaaGreatJoined2
import Derived.Test.YtehdkopjgcoclaaGreatProg
import Derived.Below
import Derived.Deep.Draws
import Derived.Deep.AppendLies
import Derived.Maps.AppendAt
import Derived.OwnWalk
import Derived.Laws.BytesArg
import Derived.Laws.MakeOwn
import Derived.Laws.OwnMore
import Derived.Deep.OwnRows
import Derived.Tactics
import Derived.Lib.ConvBytes
import Derived.Laws.Slices
import Derived.WalkKit
import Derived.KernelRfl
import Derived.RowKit3
import Derived.Deep.LoopGhost
import Derived.Deep.QuietTactic
import Derived.BigQuiet
import Derived.WideLaws
import Derived.Deep.DeepCutAuto
import Derived.Deep.CutBlock
import Derived.Deep.RegionHeld3
import Derived.Laws.Rows
import Derived.Lib.AppendStr
import Derived.ArgAppend
import Derived.Laws.IdiomCopy
import Derived.OrdersHeld
import Derived.Laws.BitsLemmas
import Derived.RowKit
import Derived.StillTailTactics
import Derived.Lib.Hide
import Derived.Lib.SliceRun
import Derived.Shelf.Spec.SlicesInsert
import Derived.Lib.AppendZerosOnto
import Derived.Laws.CopyRow
set_option linter.unusedSimpArgs false
set_option linter.unusedVariables false
set_option maxHeartbeats 40000000
set_option maxRecDepth 100000
open Go.Proofs
namespace Go.Y.pJ
open Go.RowKit Go.V.aC Go.Y.Given Go.Y.PRd Go.Y.uh Go.Y.fQ Go.Y.Oct
def nums (d : List (Int × ByteArray)) : Int := d.foldl (fun n x => wrap64 (n + (x.2.size : Int))) 0
theorem Ej (d : List (Int × ByteArray)) (x : Int × ByteArray) : nums (d ++ [x]) = wrap64 (nums d + (x.2.size : Int)) := by unfold nums; rw [List.foldl_append]; rfl
theorem GX : ∀ (d : List (Int × ByteArray)) (n : Nat), n + tot d ≤ 1000000000 → d.foldl (fun n x => wrap64 (n + (x.2.size : Int))) (n : Int) = ((n + tot d : Nat) : Int) := by
 intro d
 induction d with
 | nil => intro n _; simp [tot]
 | cons x d ih =>
  intro n h
  rw [ug] at h ⊢
  rw [List.foldl_cons, show wrap64 ((n : Int) + (x.2.size : Int)) = ((n + x.2.size : Nat) : Int) by unfold wrap64; omega, ih _ (by omega)]
  omega
theorem Ey {d : List (Int × ByteArray)} (h : tot d ≤ 1000000000) : nums d = (tot d : Int) := by
 unfold nums; have := GX d 0 (by omega); rw [Nat.zero_add] at this; exact this
theorem Cz (kind n : Int) (s : ByteArray) (B : Nat) (W : World) (h : W.heap[B]? = some (.cells #[.int .i64 n] 3 (0, 0))) :
  Calls Tryz.prog 109 (#[.int .i64 kind, .string s] ++ #[.pointer (some ⟨B, 0, none⟩)]) W fun e w' => e = .returned (.tuple #[]) ∧ w' = W.setCell ⟨B, 0, none⟩ (.int .i64 (wrap64 (n + (s.size : Int)))) := by
 have hc := aH h 0
 have hf := bR h 0
 have hc' : W.cell? ⟨B, 0, none⟩ = some (.int .i64 n) := hc
 clear hc h
 go_enter Tryz.func109, Tryz.ntmps109
 go_wp2
 go_end0
 exact ⟨rfl, rfl⟩
def GD (B : Nat) (d : List (Int × ByteArray)) (F : Nat → Prop) (W : World) : Prop := (∀ k, F k ↔ k = B) ∧ W.heap[B]? = some (.cells #[.int .i64 (nums d)] 3 (0, 0))
theorem counts (B : Nat) : BU 109 #[.pointer (some ⟨B, 0, none⟩)] (GD B) where
 rest := fun d F W W' h hb => ⟨F, ⟨h.1, (hb.block B (gK h.2)).trans h.2⟩, fun k hk => .inl hk⟩
 lt := fun d F W k h hk => by rw [(h.1 k).mp hk]; exact gK h.2
 take := fun d F W kind s _ _ h => (Cz kind (nums d) s B W h.2).mono fun e w' ⟨he, hw⟩ => ⟨he, F, ⟨h.1, by rw [hw, Ej]; exact bH h.2 0 _ rfl⟩, by rw [hw]; exact Tch.setCell (S := F) (p := ⟨B, 0, none⟩) ((h.1 B).mpr rfl) _, fun k hk => .inl hk⟩
 enters := enters_of Tryz.func109 (by kernel_rfl) rfl
theorem EH (t : Int) (B : ByteArray) (hB : B.size ≤ 1000000) : tot (dZ B (eD t) 0).1 ≤ 1000000000 := by
 have h := og B hB (eD t) 0
 have h7 := kS t
 have : ∀ l : List (Int × ByteArray), (∀ x ∈ l, x.2.size ≤ 1000000) → tot l ≤ 1000000 * l.length := by
  intro l
  induction l with
  | nil => intro _; simp [tot]
  | cons x l ih =>
   intro hl
   rw [ug, List.length_cons]
   have := ih fun y hy => hl y (List.mem_cons_of_mem _ hy)
   have := hl x (List.mem_cons_self ..)
   omega
 have := this _ h.1
 omega
theorem iW (t : Int) (B : ByteArray) (w : World) (hs : B.size ≤ 9223372036854775807) :
  Calls Tryz.prog 75 #[.int .i64 t, .string B] w fun e w' => e = .returned (.bool (jH t B)) ∧ Below w.heap.size w w' := by
 by_cases hB : B.size ≤ 65535
 ·have t0 : decide (65535 < (B.size : Int)) = false := decide_eq_false (by omega)
  have t0' : decide (65535 < B.size) = false := decide_eq_false (by omega)
  have htot := EH t B (by omega)
  have hsz := og B (by omega) (eD t) 0
  have hnum := Ey htot
  have hw := DI B (by omega) (FU + 1) (Nat.le_succ _) (eD t) 0 (vI t) (Nat.zero_le _)
  have hrd : jH t B = ((dZ B (eD t) 0).2 && decide (tot (dZ B (eD t) 0).1 = B.size)) := by unfold jH; rw [decide_eq_true hB, Bool.true_and]
  have HR := Lib.hid (zX t (FU + 1) (Nat.succ_le_succ (Nat.zero_le _)))
  obtain ⟨⟨ps, b⟩, hp⟩ : ∃ x, dZ B (eD t) 0 = x := ⟨_, rfl⟩
  rw [hp] at hw hnum htot hrd hsz
  simp only at hrd
  rw [hrd]
  have HW := Lib.hid hw
  have HN := Lib.hid hnum
  have HL := Lib.hid (kS t)
  have HSZ := Lib.hid hsz.1
  have HL7 := Lib.hid (Nat.le_trans hsz.2 (kS t))
  clear hw hnum hrd hp hsz
  simp only at htot
  go_enter Tryz.func75, Tryz.ntmps75
  go_wp2_with fail
  refine (yL (counts w.heap.size) (FU + 1) B 0 (B.size : Int) t (eD t) HR.out [] ps b HW.out (fun k => k = w.heap.size) _ ⟨fun k => Iff.rfl, ?_⟩ (by have := HL.out; omega) HSZ.out (by have := HL7.out; simp; omega)).mono ?_
  ·first | exact bH (heap_alloc_new w _) 0 _ rfl | exact heap_alloc_new w _
  rintro e w1 ⟨rfl, F', hst, ht, _⟩
  have hbel : Below w.heap.size w w1 := by
   have hb0 : Below w.heap.size w (w.alloc (.cells #[.int .i64 0] 3)) := (Below.refl _ w).alloc (Nat.le_refl _) _
   exact hb0.trans (ht.below hb0.size fun k hk => by rw [hk]; exact Nat.le_refl _)
  have hc := aH hst.2 0
  rw [List.nil_append, HN.out] at hc
  have hc' : w1.cell? ⟨w.heap.size, 0, none⟩ = some (.int .i64 (tot ps : Int)) := hc
  have HBEL := Lib.hid hbel
  clear hc hst ht hbel
  cases b with
  | false =>
   go_wp2_with fail
   go_ret
   exact ⟨by simp, HBEL.out⟩
  | true =>
   cases he : decide (tot ps = B.size) with
   | true =>
    have h1 := of_decide_eq_true he
    have t1 : ((tot ps : Int) == (B.size : Int)) = true := beq_iff_eq.mpr (by omega)
    have t1' : (tot ps == B.size) = true := beq_iff_eq.mpr h1
    clear h1 he
    go_wp2_with fail
    go_ret
    refine ⟨?_, HBEL.out⟩
    have h2 := t1'
    simp at h2
    simp [h2]
   | false =>
    have h1 := of_decide_eq_false he
    have t1 : ((tot ps : Int) == (B.size : Int)) = false := beq_eq_false_iff_ne.mpr (by omega)
    have t1' : (tot ps == B.size) = false := beq_eq_false_iff_ne.mpr h1
    clear h1 he
    go_wp2_with fail
    go_ret
    refine ⟨?_, HBEL.out⟩
    have h2 := t1'
    simp at h2
    simp [h2]
 ·have hr : jH t B = false := by unfold jH; rw [decide_eq_false hB]; rfl
  have t0 : decide (65535 < (B.size : Int)) = true := decide_eq_true (by omega)
  have t0' : decide (65535 < B.size) = true := decide_eq_true (by omega)
  rw [hr]
  clear hr
  go_enter Tryz.func75, Tryz.ntmps75
  go_wp2_with fail
  go_ret
  exact ⟨rfl, Below.refl _ _⟩
def nH (d : List (Int × ByteArray)) : List UInt8 := (d.map fun x => (gD x).data.toList).flatten
theorem wJ (d : List (Int × ByteArray)) (x : Int × ByteArray) : nH (d ++ [x]) = nH d ++ (gD x).data.toList := by unfold nH; simp
theorem Fh (d : List (Int × ByteArray)) : (⟨(nH d).toArray⟩ : ByteArray) = cat (d.map gD) := by
 apply gT
 rw [uw, List.map_map]
 show (nH d).toArray.toList = _
 unfold nH
 simp [Function.comp_def]
abbrev BT := 135
abbrev BE := 5
theorem zu {T e : TypeId} {lo b : Nat} {p : Value} {bs : List Value} {w w' : World} (h : Lib.BuilderAtF T e lo b p bs w) (hb : Below w.heap.size w w') : Lib.BuilderAtF T e lo b p bs w' := by
 obtain ⟨h1, v, h2, h3, h4⟩ := h
 refine ⟨h1, v, (hb.block b (gK h2)).trans h2, ?_, h4⟩
 refine ⟨h3.1, ?_⟩
 rcases h3.2 with h | ⟨g, cap, cur, fz, hv, hl, hh, r⟩
 ·exact .inl h
 ·exact .inr ⟨g, cap, cur, fz, hv, hl, (hb.block g (gK hh)).trans hh, r⟩
theorem FZ {T e : TypeId} {lo b : Nat} {bs : List Value} {w w' : World} (h : Lib.IsBuilderF T e lo b bs w) (hb : Below w.heap.size w w') : Lib.IsBuilderF T e lo b bs w' := h.imp (fun h => zu h hb) (fun h => zu h hb)
theorem IY {T e : TypeId} {lo b : Nat} {bs : List Value} {w : World} (h : Lib.IsBuilderF T e lo b bs w) : lo ≤ b ∧ b < w.heap.size := by
 rcases h with ⟨h1, v, h2, _⟩ | ⟨h1, v, h2, _⟩ <;> exact ⟨h1, gK h2⟩
def foot (lo b : Nat) (W : World) (k : Nat) : Prop := lo ≤ k ∧ k < W.heap.size ∧ (k = b ∨ ∃ c fz, W.heap[k]? = some (.cells c BE fz))
def lI (lo b : Nat) (d : List (Int × ByteArray)) (F : Nat → Prop) (W : World) : Prop := (∀ k, F k ↔ foot lo b W k) ∧ Lib.IsBuilderF BT BE lo b (Lib.byteCells (nH d)) W ∧ lo ≤ W.heap.size ∧ (nH d).length ≤ d.length * 1000000
theorem DL (lo b : Nat) (d : List (Int × ByteArray)) (x : Int × ByteArray) (F : Nat → Prop) (W W' : World) (h : lI lo b d F W) (hx : (gD x).size ≤ 1000000)
  (h1 : Lib.BuilderAtF BT BE lo b (.pointer (some ⟨b, 0, none⟩)) (Lib.byteCells (nH d) ++ Lib.strCells (gD x)) W') (h2 : Below lo W W') (h3 : Lib.OthersKept BE (some b) W W') :
  ∃ F', lI lo b (d ++ [x]) F' W' ∧ Tch F W W' ∧ ∀ k, F' k → F k ∨ W.heap.size ≤ k := by
 have hcells : Lib.byteCells (nH d) ++ Lib.strCells (gD x) = Lib.byteCells (nH (d ++ [x])) := by rw [wJ]; simp [Lib.byteCells, Lib.strCells]
 rw [hcells] at h1
 have keep : ∀ k, k < W.heap.size → ¬ F k → W'.heap[k]? = W.heap[k]? := fun k hk hn => by
  by_cases hl : k < lo
  ·exact h2.block k hl
  ·obtain ⟨o, ho⟩ : ∃ o, W.heap[k]? = some o := ⟨W.heap[k], Array.getElem?_eq_getElem hk⟩
   rw [ho]
   refine h3 k o ho (fun e => hn ((h.1 k).mpr ⟨by omega, hk, .inl (Option.some.inj e)⟩)) fun c fz e => hn ((h.1 k).mpr ⟨by omega, hk, .inr ⟨c, fz, by rw [ho, e]⟩⟩)
 refine ⟨foot lo b W', ⟨fun k => Iff.rfl, .inr h1, Nat.le_trans h.2.2.1 h2.size, ?_⟩, ⟨h2.os, h2.tape, h2.output, h2.size, keep⟩, fun k hk => ?_⟩
 ·rw [wJ, List.length_append, List.length_append, dn]
  have := h.2.2.2
  simp only [List.length_cons, List.length_nil]
  omega
 ·by_cases hlt : k < W.heap.size
  ·left
   by_cases hF : F k
   ·exact hF
   ·have hke := keep k hlt hF
    refine (h.1 k).mpr ⟨hk.1, hlt, ?_⟩
    rcases hk.2.2 with e | ⟨c, fz, e⟩
    ·exact .inl e
    ·exact .inr ⟨c, fz, by rw [← hke]; exact e⟩
  ·exact .inr (by omega)
theorem wY (lo b : Nat) (d : List (Int × ByteArray)) (F : Nat → Prop) (W W' : World) (h : lI lo b d F W) (hb : Below W.heap.size W W') : ∃ F', lI lo b d F' W' ∧ ∀ k, F' k → F k ∨ W.heap.size ≤ k ∧ ∃ c fz, W'.heap[k]? = some (.cells c BE fz) := by
 refine ⟨foot lo b W', ⟨fun k => Iff.rfl, FZ h.2.1 hb, Nat.le_trans h.2.2.1 hb.size, h.2.2.2⟩, fun k hk => ?_⟩
 by_cases hlt : k < W.heap.size
 ·left
  refine (h.1 k).mpr ⟨hk.1, hlt, ?_⟩
  rcases hk.2.2 with e | ⟨c, fz, e⟩
  ·exact .inl e
  ·exact .inr ⟨c, fz, by rw [← hb.block k hlt]; exact e⟩
 ·right
  refine ⟨by omega, ?_⟩
  rcases hk.2.2 with e | e
  ·have := (IY h.2.1).2; omega
  ·exact e
theorem En (lo b : Nat) (d : List (Int × ByteArray)) (F : Nat → Prop) (W : World) (kind : Int) (s : ByteArray) (hs : s.size ≤ 1000000) (hd : d.length < 100) (h : lI lo b d F W) :
  Calls Tryz.prog 158 (#[.int .i64 kind, .string s] ++ #[.pointer (some ⟨b, 0, none⟩)]) W fun e w' => e = .returned (.tuple #[]) ∧ ∃ F', lI lo b (d ++ [(kind, s)]) F' w' ∧ Tch F W w' ∧ ∀ k, F' k → F k ∨ W.heap.size ≤ k := by
 have hx := xU (x := (kind, s)) hs
 have HX := Lib.hid hx
 have H := Lib.hid h
 have hw : ∀ (x : ByteArray) (F1 : Nat → Prop) (W1 : World), gD (kind, s) = x → lI lo b d F1 W1 → Calls Tryz.prog 125 #[.pointer (some ⟨b, 0, none⟩), .string x] W1 fun e w' => e = .returned (.tuple #[.int .i64 x.size, .nilIface]) ∧ ∃ F', lI lo b (d ++ [(kind, s)]) F' w' ∧ Tch F1 W1 w' ∧ ∀ k, F' k → F1 k ∨ W1.heap.size ≤ k := by
  intro x F1 W1 hxe h1
  have h4 := h1.2.2.2
  refine (Shelf.xR lo b _ x W1 h1.2.1 (by simp [Lib.byteCells]; rw [← hxe]; omega) h1.2.2.1).mono ?_
  rintro e w' ⟨he, hb, hbel, hoth⟩
  exact ⟨he, DL lo b d (kind, s) F1 W1 w' h1 hx (by rw [hxe]; exact hb) hbel hoth⟩
 have HW := Lib.hid hw
 clear hw hx h
 by_cases hk : kind = -1 ∨ kind = -2
 ·have hfp : gD (kind, s) = mF s := by unfold gD; rw [if_pos hk]
  have HFP := Lib.hid hfp
  clear hfp
  have hfold := fun W' => iE.calls s (mF s) W' (Ir s)
  go_enter Tryz.func158, Tryz.ntmps158
  rcases hk with rfl | rfl
  all_goals
   go_wp2_with fail
   refine (hfold _).mono ?_
   rintro e w1 ⟨rfl, hb1⟩
   obtain ⟨F1, h1, hf1⟩ := wY lo b d F W w1 H.out hb1
   have HC := Lib.hid (HW.out (mF s) F1 w1 HFP.out h1)
   have HB1 := Lib.hid hb1
   have HF1 := Lib.hid hf1
   clear h1 hb1 hf1
   go_wp2_with fail
   refine (HC.out).mono ?_
   rintro e w2 ⟨rfl, F2, h2, ht2, hf2⟩
   have hsz := HB1.out.size
   have hpost : lI lo b (d ++ [_]) F2 w2 ∧ Tch F W w2 ∧ ∀ k, F2 k → F k ∨ W.heap.size ≤ k := ⟨h2, (Tch.of_below (S := F) HB1.out).fresh ht2 fun k hk => (HF1.out k hk).imp id fun h => h.1, fun k hk => by
    rcases hf2 k hk with e | e
    ·rcases HF1.out k e with e | e
     ·exact .inl e
     ·exact .inr e.1
    ·exact .inr (by omega)⟩
   have HP := Lib.hid hpost
   clear h2 ht2 hf2 hpost
   go_wp2_with fail
   go_end0
   exact ⟨rfl, F2, HP.out⟩
 ·have hfp : gD (kind, s) = s := by unfold gD; rw [if_neg hk]
  have HFP := Lib.hid hfp
  clear hfp
  have t1 : (kind == -1) = false := beq_eq_false_iff_ne.mpr fun e => hk (.inl e)
  have t2 : (kind == -2) = false := beq_eq_false_iff_ne.mpr fun e => hk (.inr e)
  clear hk
  go_enter Tryz.func158, Tryz.ntmps158
  go_wp2_with fail
  refine (HW.out s F W HFP.out H.out).mono ?_
  rintro e w2 ⟨rfl, F2, h2, ht2, hf2⟩
  have HP := Lib.hid (And.intro h2 (And.intro ht2 hf2))
  clear h2 ht2 hf2
  go_wp2_with fail
  go_end0
  exact ⟨rfl, F2, HP.out⟩
theorem folds (lo b : Nat) : BU 158 #[.pointer (some ⟨b, 0, none⟩)] (lI lo b) where
 rest := wY lo b
 lt := fun d F W k h hk => ((h.1 k).mp hk).2.1
 take := En lo b
 enters := enters_of Tryz.func158 (by kernel_rfl) rfl
theorem xK (w : World) : lI w.heap.size w.heap.size [] (foot w.heap.size w.heap.size (w.alloc (.cells #[.pointer none, .slice none 0 0] BT))) (w.alloc (.cells #[.pointer none, .slice none 0 0] BT)) :=
 ⟨fun k => Iff.rfl, Lib.IsBuilderF.of (.inl ⟨Nat.le_refl _, .slice none 0 0, heap_alloc_new w _, ⟨rfl, .inl ⟨rfl, rfl⟩⟩, by simp [Value.ownBlock]⟩), by simp, Nat.zero_le _⟩
theorem FI (t : Int) (B : ByteArray) (w : World) (hs : B.size ≤ 9223372036854775807) :
  Calls Tryz.prog 145 #[.int .i64 t, .string B] w fun e w' => e = .returned (.string (oI t B)) ∧ Below w.heap.size w w' := by
 have hright := fun W => iW t B W hs
 cases hr : jH t B with
 | false =>
  have hf : oI t B = ⟨#[]⟩ := by unfold oI; rw [hr]; rfl
  rw [hf]
  rw [hr] at hright
  clear hf hr
  go_enter Tryz.func145, Tryz.ntmps145
  go_wp2_with fail
  refine (hright _).mono ?_
  rintro e w1 ⟨rfl, hb1⟩
  go_wp2_with fail
  go_ret
  exact ⟨rfl, hb1⟩
 | true =>
  have hB : B.size ≤ 65535 := by unfold jH at hr; simp only [Bool.and_eq_true, decide_eq_true_eq] at hr; exact hr.1.1
  have hf : oI t B = ⟨(nH (dZ B (eD t) 0).1).toArray⟩ := by unfold oI; rw [if_pos hr, Fh]
  have hsz := og B (by omega) (eD t) 0
  have hw := DI B (by omega) (FU + 1) (Nat.le_succ _) (eD t) 0 (vI t) (Nat.zero_le _)
  obtain ⟨⟨ps, b⟩, hp⟩ : ∃ x, dZ B (eD t) 0 = x := ⟨_, rfl⟩
  rw [hp] at hw hf hsz
  rw [hf]
  rw [hr] at hright
  have HR := Lib.hid (zX t (FU + 1) (Nat.succ_le_succ (Nat.zero_le _)))
  have HW := Lib.hid hw
  have HL := Lib.hid (kS t)
  have HSZ := Lib.hid hsz.1
  have HL7 := Lib.hid (Nat.le_trans hsz.2 (kS t))
  clear hw hf hsz hp hr
  go_enter Tryz.func145, Tryz.ntmps145
  go_wp2_with fail
  refine (hright _).mono ?_
  rintro e w1 ⟨rfl, hb1⟩
  have HB1 := Lib.hid hb1
  clear hb1 hright
  go_wp2_with fail
  have hst := xK w1
  refine (yL (folds w1.heap.size w1.heap.size) (FU + 1) B 0 (B.size : Int) t (eD t) HR.out [] ps b HW.out _ _ hst (by have := HL.out; omega) HSZ.out (by have := HL7.out; simp at this ⊢; omega)).mono ?_
  rintro e w2 ⟨rfl, F', hst2, ht, _⟩
  have hb2 : Below w.heap.size w w2 := by
   have h0 : Below w1.heap.size w1 (w1.alloc (.cells #[.pointer none, .slice none 0 0] BT)) := (Below.refl _ w1).alloc (Nat.le_refl _) _
   exact iI HB1.out HB1.out.size (h0.trans (ht.below h0.size fun k hk => hk.1))
  rw [List.nil_append] at hst2
  have H2 := Lib.hid hst2
  have HB2 := Lib.hid hb2
  clear hst hst2 ht hb2
  go_wp2_with fail
  refine (Shelf.Gb w1.heap.size w1.heap.size (nH ps) w2 H2.out.2.1 H2.out.2.2.1).mono ?_
  rintro e w3 ⟨rfl, _, hb3, _⟩
  have HB3 := Lib.hid (show Below w.heap.size w w3 from HB2.out.trans (hb3.mono HB1.out.size))
  clear hb3
  go_wp2_with fail
  go_ret
  exact ⟨rfl, HB3.out⟩
end Go.Y.pJ
namespace Go.Y.Given
open Go.RowKit Go.Y.fQ Go.Y.pJ
def iO.f (a0 : Int) (a1 : ByteArray) : Option Bool := if a1.size ≤ 9223372036854775807 then some (jH a0 a1) else none
theorem iO.calls (a0 : Int) (a1 : ByteArray) (r : Bool) (w : World) (h : iO.f a0 a1 = some r) :
  Calls Tryz.prog 75 #[.int .i64 a0, .string a1] w fun e w' => e = .returned (.bool r) ∧ Below w.heap.size w w' := by
 unfold iO.f at h
 split at h
 ·injection h with h; subst h; exact iW a0 a1 w (by assumption)
 ·cases h
def kV.f (a0 : Int) (a1 : ByteArray) : Option ByteArray := if a1.size ≤ 9223372036854775807 then some (oI a0 a1) else none
theorem kV.calls (a0 : Int) (a1 : ByteArray) (r : ByteArray) (w : World) (h : kV.f a0 a1 = some r) :
  Calls Tryz.prog 145 #[.int .i64 a0, .string a1] w fun e w' => e = .returned (.string r) ∧ Below w.heap.size w w' := by
 unfold kV.f at h
 split at h
 ·injection h with h; subst h; exact FI a0 a1 w (by assumption)
 ·cases h
end Go.Y.Given
namespace Go.Y.PRr
open Go.RowKit Go.V.aC Go.V.aV Go.V.aX Go.Y.Given Go.Y.PRd
attribute [local go_sem] dP dQ eu eB dD dF dR dS   -- for this text's walks alone
def kN : Option Int → Value
 | none => .nilIface
 | some c => .iface 0 (.int .i64 c)
theorem jC : kN none = .nilIface := rfl
theorem jA (c : Int) : kN (some c) = .iface 0 (.int .i64 c) := rfl
theorem nE : (Tryz.prog.info? 44).map (fun i => (i.zero, i.size, i.bytes)) = some (some (.agg #[(.string ⟨#[]⟩), (.int .i64 0), (.int .i64 0), (.int .i64 0), (.string ⟨#[]⟩)]), 5, 56) := by kernel_rfl
structure S44 where
 f0 : ByteArray
 f1 : Int
 f2 : Int
 f3 : Int
 f4 : ByteArray
def z44 : S44 := ⟨(⟨#[]⟩ : ByteArray), (0 : Int), (0 : Int), (0 : Int), (⟨#[]⟩ : ByteArray)⟩
def k44 : Kd S44 := Kd.iso (Kd.pair Kd.string (Kd.pair (Kd.int .i64) (Kd.pair (Kd.int .i64) (Kd.pair (Kd.int .i64) Kd.string)))) (fun x : S44 => (x.f0, x.f1, x.f2, x.f3, x.f4))
theorem yV {w : World} {x : S44} {cs : List Value} (h : k44.K w x cs) : cs = [.string x.f0, .int .i64 x.f1, .int .i64 x.f2, .int .i64 x.f3, .string x.f4] := by
 obtain ⟨_, _, rfl, rfl, ⟨_, _, rfl, rfl, ⟨_, _, rfl, rfl, ⟨_, _, rfl, rfl, rfl⟩⟩⟩⟩ := h
 exact rfl
theorem fV {w : World} {base : Nat} {ok : Nat → Prop} {x : S44} {cs : List Value} (h : k44.M w base ok x cs) : cs = [.string x.f0, .int .i64 x.f1, .int .i64 x.f2, .int .i64 x.f3, .string x.f4] := by
 obtain ⟨_, _, rfl, rfl, ⟨_, _, rfl, rfl, ⟨_, _, rfl, rfl, ⟨_, _, rfl, rfl, rfl⟩⟩⟩⟩ := h
 exact rfl
theorem IK (w : World) (x : S44)  : k44.K w x [.string x.f0, .int .i64 x.f1, .int .i64 x.f2, .int .i64 x.f3, .string x.f4] := ⟨[.string x.f0], [.int .i64 x.f1, .int .i64 x.f2, .int .i64 x.f3, .string x.f4], rfl, rfl, ⟨[.int .i64 x.f1], [.int .i64 x.f2, .int .i64 x.f3, .string x.f4], rfl, rfl, ⟨[.int .i64 x.f2], [.int .i64 x.f3, .string x.f4], rfl, rfl, ⟨[.int .i64 x.f3], [.string x.f4], rfl, rfl, rfl⟩⟩⟩⟩
theorem iy (w : World) (base : Nat) (ok : Nat → Prop) (x : S44)  : k44.M w base ok x [.string x.f0, .int .i64 x.f1, .int .i64 x.f2, .int .i64 x.f3, .string x.f4] := ⟨[.string x.f0], [.int .i64 x.f1, .int .i64 x.f2, .int .i64 x.f3, .string x.f4], rfl, rfl, ⟨[.int .i64 x.f1], [.int .i64 x.f2, .int .i64 x.f3, .string x.f4], rfl, rfl, ⟨[.int .i64 x.f2], [.int .i64 x.f3, .string x.f4], rfl, rfl, ⟨[.int .i64 x.f3], [.string x.f4], rfl, rfl, rfl⟩⟩⟩⟩
def aj (xs : List S44) (i : Int) : S44 := xs.getD i.toNat z44
theorem dM {w : World} {A : Option Addr} {n : Nat} {xs : List S44} (h : Kd.C k44 w A n xs) (i : Int) (h0 : 0 ≤ i) (h1 : i < n) : ∃ ad , A = some ad ∧ w.cell? (ad.add (i.toNat * 5)) = some (.string (aj xs i).f0) ∧ w.cell? ⟨(ad.add (i.toNat * 5)).block, (ad.add (i.toNat * 5)).off + 1, none⟩ = some (.int .i64 (aj xs i).f1) ∧ w.cell? ⟨(ad.add (i.toNat * 5)).block, (ad.add (i.toNat * 5)).off + 2, none⟩ = some (.int .i64 (aj xs i).f2) ∧ w.cell? ⟨(ad.add (i.toNat * 5)).block, (ad.add (i.toNat * 5)).off + 3, none⟩ = some (.int .i64 (aj xs i).f3) ∧ w.cell? ⟨(ad.add (i.toNat * 5)).block, (ad.add (i.toNat * 5)).off + 4, none⟩ = some (.string (aj xs i).f4) := by
 obtain ⟨ad, c, e, _, hK, hc0⟩ := Kd.JF h z44 i h0 h1
 have hc : ∀ j u, c[j]? = some u → w.cell? (ad.add (i.toNat * 5 + j)) = some u := hc0
 obtain rfl := yV hK
 exact ⟨ad, e, hc 0 _ rfl, by rw [← pI _ _ 1 (by omega)]; exact hc 1 _ rfl, by rw [← pI _ _ 2 (by omega)]; exact hc 2 _ rfl, by rw [← pI _ _ 3 (by omega)]; exact hc 3 _ rfl, by rw [← pI _ _ 4 (by omega)]; exact hc 4 _ rfl⟩
end Go.Y.PRr
namespace Go.Y.PRr
open Go.RowKit Go.V.aC Go.V.aV Go.V.aX Go.Y.Given Go.Y.PRd
attribute [local go_sem] dP dQ eu eB dD dF dR dS   -- for this text's walks alone
def jL.f (a0_0 : ByteArray) (a0_1 : Int) (a0_2 : Int) (a0_3 : Int) (a0_4 : ByteArray) : Option (Bool) := if a0_2 = 1 then (some true) else (if a0_2 = 254 then (some (!a0_4.toList.isEmpty)) else (some false))
theorem jL.calls (a0_0 : ByteArray) (a0_1 : Int) (a0_2 : Int) (a0_3 : Int) (a0_4 : ByteArray) (r : Bool) (w : World) (h : jL.f a0_0 a0_1 a0_2 a0_3 a0_4 = some r) :
    Calls Tryz.prog 74 #[.agg #[.string a0_0, .int .i64 a0_1, .int .i64 a0_2, .int .i64 a0_3, .string a0_4]] w fun e w' => e = .returned (.bool r) ∧ Below w.heap.size w w' := by
  have hu44 := Tryz.underlying44
  have HB := ah.mk (Below.refl w.heap.size w)
  have H : (if a0_2 = 1 then (some true) else (if a0_2 = 254 then (some (!a0_4.toList.isEmpty)) else (some false))) = some r := h
  clear h
  by_cases c2 : a0_2 = 1
  focus
   rw [if_pos c2] at H
   have c2b0 : (a0_2 == 1) = true := beq_iff_eq.mpr c2
   have c2b1 : (a0_2 != 1) = false := bne_eq_false_iff_eq.mpr c2
   clear c2
  rotate_left
  focus
   rw [if_neg c2] at H
   have c2b0 : (a0_2 == 1) = false := beq_eq_false_iff_ne.mpr c2
   have c2b1 : (a0_2 != 1) = true := bne_iff_ne.mpr c2
   by_cases c5 : a0_2 = 254
   focus
    rw [if_pos c5] at H
    have c5b0 : (a0_2 == 254) = true := beq_iff_eq.mpr c5
    have c5b1 : (a0_2 != 254) = false := bne_eq_false_iff_eq.mpr c5
    clear c5
   rotate_left
   focus
    rw [if_neg c5] at H
    have c5b0 : (a0_2 == 254) = false := beq_eq_false_iff_ne.mpr c5
    have c5b1 : (a0_2 != 254) = true := bne_iff_ne.mpr c5
   rotate_left
  rotate_left 2
  all_goals
   obtain rfl := Option.some.inj H
   go_enter Tryz.func74, Tryz.ntmps74
   go_wp2_with ((((with_reducible refine bF (N := 1) rfl ?_); refine bQ ?hg (N := 1) ?hd (cs := #[.string a0_0, .int .i64 a0_1, .int .i64 a0_2, .int .i64 a0_3, .string a0_4]) (t := 44) ?hr ?_; (case hd => rfl); (case hg => rfl); (case hr => (go_simp; done)); intro gb101 hg w3 hbox hb; have BK101 := ah.mk (hbox); have GW101 := ah.mk (ge_ hg (av HB.out)); have GE101 := ah.mk (ge_ hg (av HB.out)); replace HB := ah.mk (ak HB.out hb); clear hb hbox hg; obtain ⟨hcz4_0, hcz4_1, hcz4_2, hcz4_3, hcz4_4, hfz4_0, hfz4_1, hfz4_2, hfz4_3, hfz4_4⟩ := z5_ BK101.out)))
   go_ret
   exact ⟨by rfl, HB.out⟩
def bC.j0 : Nat → Bool → ByteArray → Int → Int → Int → ByteArray → Option (Bool)
 | 0, _, _, _, _, _, _ => none
 | k + 1, x42, x103000, x103001, x103002, x103003, x103004 => if x42 = true then (some false) else ((jL.f x103000 x103001 x103002 x103003 x103004).bind fun t104 => (if t104 = true then ((iO.f x103001 x103004).bind fun t105 => (some t105)) else (some true)))
def bC.f (k : Nat) (a0_0 : ByteArray) (a0_1 : Int) (a0_2 : Int) (a0_3 : Int) (a0_4 : ByteArray) : Option (Bool) := (dL.f a0_0).bind fun t103 => (if t103 = true then (if a0_1 < 0 then (bC.j0 k true a0_0 a0_1 a0_2 a0_3 a0_4) else (if a0_1 > 65535 then (bC.j0 k true a0_0 a0_1 a0_2 a0_3 a0_4) else (if a0_2 < 0 then (bC.j0 k true a0_0 a0_1 a0_2 a0_3 a0_4) else (if a0_2 > 65535 then (bC.j0 k true a0_0 a0_1 a0_2 a0_3 a0_4) else (if a0_3 < 0 then (bC.j0 k true a0_0 a0_1 a0_2 a0_3 a0_4) else (if a0_3 > 2147483647 then (bC.j0 k true a0_0 a0_1 a0_2 a0_3 a0_4) else (bC.j0 k (decide ((a0_4.size : Int) > 65535)) a0_0 a0_1 a0_2 a0_3 a0_4))))))) else (bC.j0 k true a0_0 a0_1 a0_2 a0_3 a0_4))
theorem bC.rY : ∀ k, (∀ y0 y1 y2 y3 y4 y5, LeO (bC.j0 k y0 y1 y2 y3 y4 y5) (bC.j0 (k + 1) y0 y1 y2 y3 y4 y5))
 | 0 => fun _ _ _ _ _ _ r h => by simp [bC.j0] at h
 | k + 1 => by
  have ih0 := bC.rY k
  ·intro y0 y1 y2 y3 y4 y5
   unfold bC.j0
   repeat' first
   | (with_reducible exact ih0 _ _ _ _ _ _)
   | (with_reducible exact LeO.refl _)
   | (with_reducible exact LeO.none _)
   | (with_reducible refine LeO.ite ?_ ?_)
   | (with_reducible refine LeO.bind ?_ (fun _ => ?_))
   | exact ih0 _ _ _ _ _ _
   | exact LeO.none _
   | refine LeO.ite ?_ ?_
   | refine LeO.bind ?_ (fun _ => ?_)
theorem bC.mono : ∀ a0 a1 a2 a3 a4 k, LeO (bC.f k a0 a1 a2 a3 a4) (bC.f (k + 1) a0 a1 a2 a3 a4) := by
 intro a0 a1 a2 a3 a4 k
 have ih0 := bC.rY k
 unfold bC.f
 repeat' first
   | (with_reducible exact ih0 _ _ _ _ _ _)
   | (with_reducible exact LeO.refl _)
   | (with_reducible exact LeO.none _)
   | (with_reducible refine LeO.ite ?_ ?_)
   | (with_reducible refine LeO.bind ?_ (fun _ => ?_))
   | exact ih0 _ _ _ _ _ _
   | exact LeO.none _
   | refine LeO.ite ?_ ?_
   | refine LeO.bind ?_ (fun _ => ?_)
theorem bC.calls (k : Nat) (a0_0 : ByteArray) (a0_1 : Int) (a0_2 : Int) (a0_3 : Int) (a0_4 : ByteArray) (r : Bool) (w : World) (h : bC.f k a0_0 a0_1 a0_2 a0_3 a0_4 = some r) :
    Calls Tryz.prog 39 #[.agg #[.string a0_0, .int .i64 a0_1, .int .i64 a0_2, .int .i64 a0_3, .string a0_4]] w fun e w' => e = .returned (.bool r) ∧ Below w.heap.size w w' := by
  have hu44 := Tryz.underlying44
  have HB := ah.mk (Below.refl w.heap.size w)
  have H : ((dL.f a0_0).bind fun t103 => (if t103 = true then (if a0_1 < 0 then (bC.j0 k true a0_0 a0_1 a0_2 a0_3 a0_4) else (if a0_1 > 65535 then (bC.j0 k true a0_0 a0_1 a0_2 a0_3 a0_4) else (if a0_2 < 0 then (bC.j0 k true a0_0 a0_1 a0_2 a0_3 a0_4) else (if a0_2 > 65535 then (bC.j0 k true a0_0 a0_1 a0_2 a0_3 a0_4) else (if a0_3 < 0 then (bC.j0 k true a0_0 a0_1 a0_2 a0_3 a0_4) else (if a0_3 > 2147483647 then (bC.j0 k true a0_0 a0_1 a0_2 a0_3 a0_4) else (bC.j0 k (decide ((a0_4.size : Int) > 65535)) a0_0 a0_1 a0_2 a0_3 a0_4))))))) else (bC.j0 k true a0_0 a0_1 a0_2 a0_3 a0_4))) = some r := h
  clear h
  have HC2 := ah.mk H
  clear H
  go_enter Tryz.func39, Tryz.ntmps39
  go_upto_region 1 with ((((with_reducible refine bF (N := 1) rfl ?_); (try (refine fA (by rfl) ?_; dsimp only)); refine bQ ?hg (N := 1) ?hd (cs := #[.string a0_0, .int .i64 a0_1, .int .i64 a0_2, .int .i64 a0_3, .string a0_4]) (t := 44) ?hr ?_; (case hd => rfl); (case hg => rfl); (case hr => (go_simp; done)); intro gb102 hg w3 hbox hb; have BK102 := ah.mk (hbox); have GW102 := ah.mk (ge_ hg (av HB.out)); have GE102 := ah.mk (ge_ hg (av HB.out)); replace HB := ah.mk (ak HB.out hb); clear hb hbox hg)))
  go_cut [42] (fun v42 wc => ∃ (kq : Nat) (x42_1 : Bool), v42 = .bool x42_1 ∧ ah (bC.j0 kq x42_1 a0_0 a0_1 a0_2 a0_3 a0_4 = some r) ∧ ah (kq ≤ k) ∧ ah (wc.heap[gb102]? = some (.cells #[.string a0_0, .int .i64 a0_1, .int .i64 a0_2, .int .i64 a0_3, .string a0_4] 44 (0, 0))) ∧ ah (Below w.heap.size w wc))
  case first =>
   have H := HC2.out
   clear HC2
   obtain ⟨t103, A4, H⟩ := bP H
   by_cases c5 : t103 = true
   focus
    subst c5
    rw [if_pos rfl] at H
    by_cases c6 : a0_1 < 0
    focus
     rw [if_pos c6] at H
     have c6b0 : decide (a0_1 < 0) = true := decide_eq_true c6
    rotate_left
    focus
     rw [if_neg c6] at H
     have c6b0 : decide (a0_1 < 0) = false := decide_eq_false c6
    rotate_left
    all_goals
     clear c6
     (skip)
    rotate_left
    focus
     by_cases c10 : a0_1 > 65535
     focus
      rw [if_pos c10] at H
      have c10b0 : decide (65535 < a0_1) = true := decide_eq_true c10
      clear c10
     rotate_left
     focus
      rw [if_neg c10] at H
      have c10b0 : decide (65535 < a0_1) = false := decide_eq_false c10
      clear c10
      by_cases c14 : a0_2 < 0
      focus
       rw [if_pos c14] at H
       have c14b0 : decide (a0_2 < 0) = true := decide_eq_true c14
       clear c14
      rotate_left
      focus
       rw [if_neg c14] at H
       have c14b0 : decide (a0_2 < 0) = false := decide_eq_false c14
       clear c14
       by_cases c18 : a0_2 > 65535
       focus
        rw [if_pos c18] at H
        have c18b0 : decide (65535 < a0_2) = true := decide_eq_true c18
        clear c18
       rotate_left
       focus
        rw [if_neg c18] at H
        have c18b0 : decide (65535 < a0_2) = false := decide_eq_false c18
        clear c18
        by_cases c22 : a0_3 < 0
        focus
         rw [if_pos c22] at H
         have c22b0 : decide (a0_3 < 0) = true := decide_eq_true c22
         clear c22
        rotate_left
        focus
         rw [if_neg c22] at H
         have c22b0 : decide (a0_3 < 0) = false := decide_eq_false c22
         clear c22
         by_cases c26 : a0_3 > 2147483647
         focus
          rw [if_pos c26] at H
          have c26b0 : decide (2147483647 < a0_3) = true := decide_eq_true c26
         rotate_left
         focus
          rw [if_neg c26] at H
          have c26b0 : decide (2147483647 < a0_3) = false := decide_eq_false c26
         rotate_left
         all_goals
          clear c26
        rotate_left 2
       rotate_left 3
      rotate_left 4
     rotate_left 5
    rotate_left 6
   rotate_left 7
   focus
    replace c5 := Bool.eq_false_iff.mpr c5
    subst c5
    rw [if_neg ff_] at H
   rotate_left
   all_goals
    have H' := ah.mk H
    clear H
    obtain ⟨hcz7_0, hcz7_1, hcz7_2, hcz7_3, hcz7_4, hfz7_0, hfz7_1, hfz7_2, hfz7_3, hfz7_4⟩ := z5_ BK102.out
   iterate 7
    focus
     go_wp2_with (((refine gl_ (some 5) Tryz.func36 #[.string a0_0] ?_; (with_reducible refine (dL.calls a0_0 _ _ A4.out).mono ?_); rintro e w8 ⟨rfl, hb⟩; refine ⟨_, rfl, ?_⟩; replace BK102 := ah.mk (aD (by ((exact BK102.out))) hb); replace HB := ah.mk (ak HB.out hb); (try clear hb); obtain ⟨hcz9_0, hcz9_1, hcz9_2, hcz9_3, hcz9_4, hfz9_0, hfz9_1, hfz9_2, hfz9_3, hfz9_4⟩ := z5_ BK102.out)))
     go_meet
    rotate_left
   rotate_left
   ·case rel => exact ⟨_, (true), (by rfl), H', ⟨by omega⟩, ⟨by (with_reducible repeat ((refine aA ?_ _))); exact BK102.out⟩, ⟨HB.out⟩⟩
   ·case rel => exact ⟨_, (true), (by rfl), H', ⟨by omega⟩, ⟨by (with_reducible repeat ((refine aA ?_ _))); exact BK102.out⟩, ⟨HB.out⟩⟩
   ·case rel => exact ⟨_, (true), (by rfl), H', ⟨by omega⟩, ⟨by (with_reducible repeat ((refine aA ?_ _))); exact BK102.out⟩, ⟨HB.out⟩⟩
   ·case rel => exact ⟨_, (true), (by rfl), H', ⟨by omega⟩, ⟨by (with_reducible repeat ((refine aA ?_ _))); exact BK102.out⟩, ⟨HB.out⟩⟩
   ·case rel => exact ⟨_, (true), (by rfl), H', ⟨by omega⟩, ⟨by (with_reducible repeat ((refine aA ?_ _))); exact BK102.out⟩, ⟨HB.out⟩⟩
   ·case rel => exact ⟨_, (true), (by rfl), H', ⟨by omega⟩, ⟨by (with_reducible repeat ((refine aA ?_ _))); exact BK102.out⟩, ⟨HB.out⟩⟩
   ·case rel => exact ⟨_, (decide ((a0_4.size : Int) > 65535)), (by rfl), H', ⟨by omega⟩, ⟨by (with_reducible repeat ((refine aA ?_ _))); exact BK102.out⟩, ⟨HB.out⟩⟩
   ·go_wp2_with (((refine gl_ (some 5) Tryz.func36 #[.string a0_0] ?_; (with_reducible refine (dL.calls a0_0 _ _ A4.out).mono ?_); rintro e w34 ⟨rfl, hb⟩; refine ⟨_, rfl, ?_⟩; replace BK102 := ah.mk (aD (by ((exact BK102.out))) hb); replace HB := ah.mk (ak HB.out hb); (try clear hb))))
    go_meet
    case rel => exact ⟨_, (true), (by rfl), H', ⟨by omega⟩, ⟨by (with_reducible repeat ((refine aA ?_ _))); exact BK102.out⟩, ⟨HB.out⟩⟩
  case rest =>
   clear HC2
   obtain ⟨kq, x42_1, rfl, HA, HJ1, BK102, HB⟩ := hcut
   cases kq with
   | zero => exact absurd HA.out (by simp [bC.j0])
   | succ kj1 =>
    have H := HA.out
    clear HA
    simp only [bC.j0] at H
    by_cases c35 : x42_1 = true
    focus
     subst c35
     rw [if_pos rfl] at H
     obtain rfl := Option.some.inj H
     go_wp2
    rotate_left
    focus
     replace c35 := Bool.eq_false_iff.mpr c35
     subst c35
     rw [if_neg ff_] at H
     obtain ⟨t104, A36, H⟩ := bP H
     by_cases c37 : t104 = true
     focus
      subst c37
      rw [if_pos rfl] at H
      obtain ⟨t105, A38, H⟩ := bP H
     rotate_left
     focus
      replace c37 := Bool.eq_false_iff.mpr c37
      subst c37
      rw [if_neg ff_] at H
     rotate_left
     all_goals
      obtain rfl := Option.some.inj H
      obtain ⟨hcz39_0, hcz39_1, hcz39_2, hcz39_3, hcz39_4, hfz39_0, hfz39_1, hfz39_2, hfz39_3, hfz39_4⟩ := z5_ BK102.out
     focus
      go_wp2_with (first | (refine gl_ (some 44) Tryz.func74 #[.agg #[.string a0_0, .int .i64 a0_1, .int .i64 a0_2, .int .i64 a0_3, .string a0_4]] ?_; (with_reducible refine (jL.calls a0_0 a0_1 a0_2 a0_3 a0_4 _ _ A36.out).mono ?_); rintro e w40 ⟨rfl, hb⟩; refine ⟨_, rfl, ?_⟩; replace BK102 := ah.mk (aD (by ((exact BK102.out))) hb); replace HB := ah.mk (ak HB.out hb); (try clear hb); obtain ⟨hcz41_0, hcz41_1, hcz41_2, hcz41_3, hcz41_4, hfz41_0, hfz41_1, hfz41_2, hfz41_3, hfz41_4⟩ := z5_ BK102.out) | (go_at_call 75; (with_reducible refine (iO.calls a0_1 a0_4 t105 _ A38.out).mono ?_); rintro e w42 ⟨rfl, hb⟩; replace BK102 := ah.mk (aD (by ((exact BK102.out))) hb); replace HB := ah.mk (ak HB.out hb); (try clear hb)))
     rotate_left
     focus
      go_wp2_with (((refine gl_ (some 44) Tryz.func74 #[.agg #[.string a0_0, .int .i64 a0_1, .int .i64 a0_2, .int .i64 a0_3, .string a0_4]] ?_; (with_reducible refine (jL.calls a0_0 a0_1 a0_2 a0_3 a0_4 _ _ A36.out).mono ?_); rintro e w44 ⟨rfl, hb⟩; refine ⟨_, rfl, ?_⟩; replace BK102 := ah.mk (aD (by ((exact BK102.out))) hb); replace HB := ah.mk (ak HB.out hb); (try clear hb))))
     rotate_left
    rotate_left 2
    all_goals
     go_ret
     exact ⟨by rfl, HB.out⟩
def gP.l0 : Nat → Int → List Int → Int → Int → Option (Int)
 | 0, _, _, _, _ => none
 | k + 1, x3, x6, x7, x8 => if x8 < x7 then (if 0 ≤ x8 then (if x8 < (x6.length : Int) then (if (rd x6 x8) = x3 then (gP.l0 k x3 x6 x7 (wrap64 (x8 + 1))) else (some (rd x6 x8))) else (none)) else (none)) else (some x3)
def gP.f (k : Nat) (l0 : List Int) : Option (Int) := gP.l0 k 0 l0 (l0.length : Int) 0
theorem gP.calls (k : Nat) (A0 : Option Addr) (c0 : Nat) (l0 : List Int) (r : Int) (w : World) (hr0 : Kd.C (Kd.int .i64) w A0 l0.length l0) (hc0 : l0.length ≤ c0) (h : gP.f k l0 = some r) :
    Calls Tryz.prog 111 #[.slice A0 l0.length c0] w fun e w' => e = .returned (.int .i64 r) ∧ aY w w' := by
  have HR0 := ah.mk hr0
  have HC0 := ah.mk hc0
  clear hr0 hc0
  have H : (gP.l0 k 0 l0 (l0.length : Int) 0) = some r := h
  clear h
  have H' := ah.mk H
  clear H
  go_enter Tryz.func111, Tryz.ntmps111
  go_wp2
  go_loopg [8] k (fun kq v8 w' => ∃ (x8_1 : Int), v8 = .int .i64 x8_1 ∧ ah (gP.l0 kq 0 l0 (l0.length : Int) x8_1 = some r) ∧ ah (kq ≤ k) ∧ aY w w')
  case atStart => exact ⟨(0), (by rfl), H', ⟨Nat.le_refl _⟩, by repeat ((exact aY.refl _))⟩
  case round =>
   clear H'
   obtain ⟨x8_1, rfl, HA, HK1, ⟨m1, rfl⟩⟩ := hrel
   cases gk with
   | zero => exact absurd HA.out (by simp [gP.l0])
   | succ k1 =>
    have H := HA.out
    clear HA
    simp only [gP.l0] at H
    by_cases c2 : x8_1 < (l0.length : Int)
    ·rw [if_pos c2] at H
     have c2b0 : decide (x8_1 < (l0.length : Int)) = true := decide_eq_true c2
     clear c2
     obtain ⟨c3b0, H⟩ := dU H
     obtain ⟨c4b0, H⟩ := dU H
     by_cases c5 : (rd l0 x8_1) = 0
     focus
      rw [if_pos c5] at H
      have c5b0 : ((rd l0 x8_1) == 0) = true := beq_iff_eq.mpr c5
      have c5b1 : ((rd l0 x8_1) != 0) = false := bne_eq_false_iff_eq.mpr c5
      clear c5
      have H' := ah.mk H
      clear H
     rotate_left
     focus
      rw [if_neg c5] at H
      have c5b0 : ((rd l0 x8_1) == 0) = false := beq_eq_false_iff_ne.mpr c5
      have c5b1 : ((rd l0 x8_1) != 0) = true := bne_iff_ne.mpr c5
      obtain rfl := Option.some.inj H
     rotate_left
     all_goals
      have p106 : 0 ≤ (x8_1 : Int) := of_decide_eq_true (by assumption)
      have q106 : x8_1 < (l0.length : Int) := of_decide_eq_true (by assumption)
      obtain ⟨ad106, e106, hx106_0⟩ := Kd.pq HR0.out x8_1 p106 q106
      cases e106
      replace p106 := eq_true p106
      replace q106 := eq_true q106
      go_wp2
     ·go_roundg k1
      case measure => have := HK1.out; omega
      case rel => exact ⟨(wrap64 (x8_1 + 1)), (by rfl), H', ⟨by have := HK1.out; omega⟩, by repeat (first | exact aY.refl _ | apply aY.step)⟩
     ·go_ret
      exact ⟨by rfl, by repeat (first | exact aY.refl _ | apply aY.step)⟩
    ·rw [if_neg c2] at H
     have c2b0 : decide (x8_1 < (l0.length : Int)) = false := decide_eq_false c2
     clear c2
     obtain rfl := Option.some.inj H
     go_wp2
     go_ret
     exact ⟨by rfl, by repeat (first | exact aY.refl _ | apply aY.step)⟩
def cmp_isNaN_int.f (a0 : Int) : Option (Bool) := some (a0 != a0)
theorem cmp_isNaN_int.calls (a0 : Int) (r : Bool) (w : World) (h : cmp_isNaN_int.f a0 = some r) :
  Calls Tryz.prog 143 #[.int .i64 a0] w fun e w' => e = .returned (.bool r) ∧ aY w w' := by
 have H : (some (a0 != a0)) = some r := h
 clear h
 obtain rfl := Option.some.inj H
 go_enter Tryz.func143, Tryz.ntmps143
 go_wp2
 go_ret
 exact ⟨by rfl, by repeat ((exact aY.refl _))⟩
def cmp_Compare_int.f (a0 : Int) (a1 : Int) : Option (Int) := (cmp_isNaN_int.f a0).bind fun t107 => ((cmp_isNaN_int.f a1).bind fun t108 => (if t107 = true then (if t108 = true then (some 0) else (some (-1))) else (if t108 = true then (some 1) else (if a0 < a1 then (some (-1)) else (if a0 > a1 then (some 1) else (some 0))))))
theorem cmp_Compare_int.calls (a0 : Int) (a1 : Int) (r : Int) (w : World) (h : cmp_Compare_int.f a0 a1 = some r) :
    Calls Tryz.prog 113 #[.int .i64 a0, .int .i64 a1] w fun e w' => e = .returned (.int .i64 r) ∧ aY w w' := by
  have H : ((cmp_isNaN_int.f a0).bind fun t107 => ((cmp_isNaN_int.f a1).bind fun t108 => (if t107 = true then (if t108 = true then (some 0) else (some (-1))) else (if t108 = true then (some 1) else (if a0 < a1 then (some (-1)) else (if a0 > a1 then (some 1) else (some 0))))))) = some r := h
  clear h
  obtain ⟨t107, A3, H⟩ := bP H
  obtain ⟨t108, A4, H⟩ := bP H
  by_cases c5 : t107 = true
  focus
   subst c5
   rw [if_pos rfl] at H
   by_cases c6 : t108 = true
   focus
    subst c6
    rw [if_pos rfl] at H
   rotate_left
   focus
    replace c6 := Bool.eq_false_iff.mpr c6
    subst c6
    rw [if_neg ff_] at H
   rotate_left
  rotate_left 2
  focus
   replace c5 := Bool.eq_false_iff.mpr c5
   subst c5
   rw [if_neg ff_] at H
   by_cases c7 : t108 = true
   focus
    subst c7
    rw [if_pos rfl] at H
   rotate_left
   focus
    replace c7 := Bool.eq_false_iff.mpr c7
    subst c7
    rw [if_neg ff_] at H
    by_cases c8 : a0 < a1
    focus
     rw [if_pos c8] at H
     have c8b0 : decide (a0 < a1) = true := decide_eq_true c8
     clear c8
    rotate_left
    focus
     rw [if_neg c8] at H
     have c8b0 : decide (a0 < a1) = false := decide_eq_false c8
     clear c8
     by_cases c9 : a0 > a1
     focus
      rw [if_pos c9] at H
      have c9b0 : decide (a1 < a0) = true := decide_eq_true c9
     rotate_left
     focus
      rw [if_neg c9] at H
      have c9b0 : decide (a1 < a0) = false := decide_eq_false c9
     rotate_left
     all_goals
      clear c9
    rotate_left 2
   rotate_left 3
  rotate_left 4
  all_goals
   obtain rfl := Option.some.inj H
   go_enter Tryz.func113, Tryz.ntmps113
   go_wp2_with (first | (refine gl_ (some 8) Tryz.func143 #[.int .i64 a0] ?_; (with_reducible refine (cmp_isNaN_int.calls a0 _ _ A3.out).mono ?_); rintro e w' ⟨rfl, ⟨nd, rfl⟩⟩; refine ⟨_, rfl, ?_⟩) | (refine gl_ (some 10) Tryz.func143 #[.int .i64 a1] ?_; (with_reducible refine (cmp_isNaN_int.calls a1 _ _ A4.out).mono ?_); rintro e w' ⟨rfl, ⟨nd, rfl⟩⟩; refine ⟨_, rfl, ?_⟩))
   go_ret
   exact ⟨by rfl, by repeat (first | exact aY.refl _ | apply aY.step)⟩
def jl.f (a0_0 : ByteArray) (a0_1 : Int) (a0_2 : Int) (a0_3 : Int) (a0_4 : ByteArray) : Option (ByteArray) := (iO.f a0_1 a0_4).bind fun t110 => (if t110 = true then ((kV.f a0_1 a0_4).bind fun t111 => (some t111)) else (some a0_4))
theorem jl.calls (a0_0 : ByteArray) (a0_1 : Int) (a0_2 : Int) (a0_3 : Int) (a0_4 : ByteArray) (r : ByteArray) (w : World) (h : jl.f a0_0 a0_1 a0_2 a0_3 a0_4 = some r) :
    Calls Tryz.prog 115 #[.agg #[.string a0_0, .int .i64 a0_1, .int .i64 a0_2, .int .i64 a0_3, .string a0_4]] w fun e w' => e = .returned (.string r) ∧ Below w.heap.size w w' := by
  have hu44 := Tryz.underlying44
  have HB := ah.mk (Below.refl w.heap.size w)
  have H : ((iO.f a0_1 a0_4).bind fun t110 => (if t110 = true then ((kV.f a0_1 a0_4).bind fun t111 => (some t111)) else (some a0_4))) = some r := h
  clear h
  obtain ⟨t110, A2, H⟩ := bP H
  by_cases c3 : t110 = true
  focus
   subst c3
   rw [if_pos rfl] at H
   obtain ⟨t111, A4, H⟩ := bP H
  rotate_left
  focus
   replace c3 := Bool.eq_false_iff.mpr c3
   subst c3
   rw [if_neg ff_] at H
  rotate_left
  all_goals
   obtain rfl := Option.some.inj H
   go_enter Tryz.func115, Tryz.ntmps115
  focus
   go_wp2_with (first | ((with_reducible refine bF (N := 1) rfl ?_); refine bQ ?hg (N := 1) ?hd (cs := #[.string a0_0, .int .i64 a0_1, .int .i64 a0_2, .int .i64 a0_3, .string a0_4]) (t := 44) ?hr ?_; (case hd => rfl); (case hg => rfl); (case hr => (go_simp; done)); intro gb109 hg w5 hbox hb; have BK109 := ah.mk (hbox); have GW109 := ah.mk (ge_ hg (av HB.out)); have GE109 := ah.mk (ge_ hg (av HB.out)); replace HB := ah.mk (ak HB.out hb); clear hb hbox hg; obtain ⟨hcz6_0, hcz6_1, hcz6_2, hcz6_3, hcz6_4, hfz6_0, hfz6_1, hfz6_2, hfz6_3, hfz6_4⟩ := z5_ BK109.out) | (refine gl_ (some 7) Tryz.func75 #[.int .i64 a0_1, .string a0_4] ?_; (with_reducible refine (iO.calls a0_1 a0_4 _ _ A2.out).mono ?_); rintro e w7 ⟨rfl, hb⟩; refine ⟨_, rfl, ?_⟩; replace BK109 := ah.mk (aD (by ((exact BK109.out))) hb); replace HB := ah.mk (ak HB.out hb); (try clear hb); obtain ⟨hcz8_0, hcz8_1, hcz8_2, hcz8_3, hcz8_4, hfz8_0, hfz8_1, hfz8_2, hfz8_3, hfz8_4⟩ := z5_ BK109.out) | (refine gl_ (some 15) Tryz.func145 #[.int .i64 a0_1, .string a0_4] ?_; (with_reducible refine (kV.calls a0_1 a0_4 t111 _ A4.out).mono ?_); rintro e w9 ⟨rfl, hb⟩; refine ⟨_, rfl, ?_⟩; replace BK109 := ah.mk (aD (by ((exact BK109.out))) hb); replace HB := ah.mk (ak HB.out hb); (try clear hb)))
  rotate_left
  focus
   go_wp2_with (first | ((with_reducible refine bF (N := 1) rfl ?_); refine bQ ?hg (N := 1) ?hd (cs := #[.string a0_0, .int .i64 a0_1, .int .i64 a0_2, .int .i64 a0_3, .string a0_4]) (t := 44) ?hr ?_; (case hd => rfl); (case hg => rfl); (case hr => (go_simp; done)); intro gb109 hg w10 hbox hb; have BK109 := ah.mk (hbox); have GW109 := ah.mk (ge_ hg (av HB.out)); have GE109 := ah.mk (ge_ hg (av HB.out)); replace HB := ah.mk (ak HB.out hb); clear hb hbox hg; obtain ⟨hcz11_0, hcz11_1, hcz11_2, hcz11_3, hcz11_4, hfz11_0, hfz11_1, hfz11_2, hfz11_3, hfz11_4⟩ := z5_ BK109.out) | (refine gl_ (some 7) Tryz.func75 #[.int .i64 a0_1, .string a0_4] ?_; (with_reducible refine (iO.calls a0_1 a0_4 _ _ A2.out).mono ?_); rintro e w12 ⟨rfl, hb⟩; refine ⟨_, rfl, ?_⟩; replace BK109 := ah.mk (aD (by ((exact BK109.out))) hb); replace HB := ah.mk (ak HB.out hb); (try clear hb); obtain ⟨hcz13_0, hcz13_1, hcz13_2, hcz13_3, hcz13_4, hfz13_0, hfz13_1, hfz13_2, hfz13_3, hfz13_4⟩ := z5_ BK109.out))
  rotate_left
  all_goals
   go_ret
   exact ⟨by rfl, HB.out⟩
end Go.Y.PRr
namespace Go.Y.PRr
open Go.RowKit Go.V.aC Go.V.aV Go.V.aX Go.Y.Given Go.Y.PRd
attribute [local go_sem] dP dQ eu eB dD dF dR dS   -- for this text's walks alone
def dI.f (k : Nat) (a0_0 : ByteArray) (a0_1 : Int) (a0_2 : Int) (a0_3 : Int) (a0_4 : ByteArray) (a1_0 : ByteArray) (a1_1 : Int) (a1_2 : Int) (a1_3 : Int) (a1_4 : ByteArray) : Option (Int) := (eO.f k a0_0 a1_0).bind fun t114 => ((cmp_Compare_int.f a0_1 a1_1).bind fun t115 => ((cmp_Compare_int.f a0_2 a1_2).bind fun t116 => ((jl.f a0_0 a0_1 a0_2 a0_3 a0_4).bind fun t117 => ((jl.f a1_0 a1_1 a1_2 a1_3 a1_4).bind fun t118 => ((iq.f t117 t118).bind fun t119 => ((gP.f k (([t114, t115, t116, t119] : List Int))).bind fun t123 => (some t123)))))))
def dI.T1 : Bool × List (List Nat × List Nat) := (true, [([], []), ([0], [0]), ([], []), ([2], [2]), ([1, 3], [1, 3]), ([], []), ([5], [5]), ([], []), ([7], [7]), ([6, 8, 4], [6, 8]), ([], []), ([10], [10]), ([], []), ([12], [12]), ([11, 13, 9], [11, 13]), ([], []), ([15, 14], [15]), ([], []), ([17, 16], [17]), ([16, 18, 18], [16, 18]), ([4, 9, 14, 19], [4, 9, 14, 19]), ([20, 19], [20]), ([21, 21, 0, 1, 2, 3, 4, 5, 6, 7, 8, 9, 10, 11, 12, 13, 14, 15, 16, 17, 18, 19, 20, 21], [21])])
def dI.B1 : List Nat := [0, 1, 0, 4, 15, 0, 32, 0, 128, 511, 0, 1024, 0, 4096, 16383, 0, 65535, 0, 262143, 524287, 1048575, 2097151, 4194303]
theorem dI.AU : fK .any (opsOf Tryz.f78 1) = dI.T1 := by kernel_rfl
theorem dI.xW : fP dI.T1.2 dI.B1 = true := by kernel_rfl
theorem dI.calls (k : Nat) (a0_0 : ByteArray) (a0_1 : Int) (a0_2 : Int) (a0_3 : Int) (a0_4 : ByteArray) (a1_0 : ByteArray) (a1_1 : Int) (a1_2 : Int) (a1_3 : Int) (a1_4 : ByteArray) (r : Int) (w : World) (h : dI.f k a0_0 a0_1 a0_2 a0_3 a0_4 a1_0 a1_1 a1_2 a1_3 a1_4 = some r) :
  Calls Tryz.prog 78 #[.agg #[.string a0_0, .int .i64 a0_1, .int .i64 a0_2, .int .i64 a0_3, .string a0_4], .agg #[.string a1_0, .int .i64 a1_1, .int .i64 a1_2, .int .i64 a1_3, .string a1_4]] w fun e w' => e = .returned (.int .i64 r) ∧ Below w.heap.size w w' := by
 have hu44 := Tryz.underlying44
 have HB := ah.mk (Below.refl w.heap.size w)
 have H : ((eO.f k a0_0 a1_0).bind fun t114 => ((cmp_Compare_int.f a0_1 a1_1).bind fun t115 => ((cmp_Compare_int.f a0_2 a1_2).bind fun t116 => ((jl.f a0_0 a0_1 a0_2 a0_3 a0_4).bind fun t117 => ((jl.f a1_0 a1_1 a1_2 a1_3 a1_4).bind fun t118 => ((iq.f t117 t118).bind fun t119 => ((gP.f k (([t114, t115, t116, t119] : List Int))).bind fun t123 => (some t123)))))))) = some r := h
 clear h
 obtain ⟨t114, A3, H⟩ := bP H
 obtain ⟨t115, A4, H⟩ := bP H
 obtain ⟨t116, A5, H⟩ := bP H
 obtain ⟨t117, A6, H⟩ := bP H
 obtain ⟨t118, A7, H⟩ := bP H
 obtain ⟨t119, A8, H⟩ := bP H
 obtain ⟨y120, hy120⟩ : ∃ y_ : List Int, y_ = (([t114, t115, t116, t119] : List Int)) := ⟨_, rfl⟩
 replace H : ((gP.f k y120).bind fun t123 => (some t123)) = some r := by (rw [hy120]; with_reducible exact H)
 have Ny120 := ah.mk hy120
 clear hy120
 obtain ⟨t123, A9, H⟩ := bP H
 obtain rfl := Option.some.inj H
 go_enter Tryz.func78, Tryz.ntmps78
 (try go_wp2_with (first | ((with_reducible refine bF (N := 2) rfl ?_); refine bQ ?hg (N := 2) ?hd (cs := #[.string a0_0, .int .i64 a0_1, .int .i64 a0_2, .int .i64 a0_3, .string a0_4]) (t := 44) ?hr ?_; (case hd => rfl); (case hg => rfl); (case hr => (go_simp; done)); intro gb112 hg w10 hbox hb; have BK112 := ah.mk (hbox); have GW112 := ah.mk (ge_ hg (av HB.out)); have GE112 := ah.mk (ge_ hg (av HB.out)); replace HB := ah.mk (ak HB.out hb); clear hb hbox hg) | ((with_reducible refine bF (N := 3) rfl ?_); refine bQ ?hg (N := 3) ?hd (cs := #[.string a1_0, .int .i64 a1_1, .int .i64 a1_2, .int .i64 a1_3, .string a1_4]) (t := 44) ?hr ?_; (case hd => rfl); (case hg => rfl); (case hr => (go_simp; done)); intro gb113 hg w11 hbox hb; have BK113 := ah.mk (hbox); have GW113 := ah.mk (ge_ hg (av HB.out)); have GE113 := ah.mk (ge_ hg (av HB.out)); have NB112_113 := ah.mk (nl_ hg (by ((exact BK112.out)))); have NB113_112 := ah.mk (nr_ hg (by ((exact BK112.out)))); replace BK112 := ah.mk (aD (by ((exact BK112.out))) hb); replace HB := ah.mk (ak HB.out hb); clear hb hbox hg)))
 replace BK112 := ah.mk (gB BK112.out)
 replace BK113 := ah.mk (gB BK113.out)
 replace HB := ah.mk (dx HB.out)
 refine gG (n := 23) (ds := []) (ls 23 0) (by kernel_rfl) rfl rfl (c5_ BK112.out (d5_ BK113.out)) (fun hHeld => ?_); refine eX dI.AU dI.xW (fun HT_ HW_ => ?_)
 generalize w11.drew = w12 at BK112 BK113 HB hHeld ⊢
 refine td_ [(0, 5), (2, 7), (5, 10), (7, 12), (10, 15), (12, 17)] ?_
 iterate 6 (refine pm_ HT_ ?_)
 refine dn_ ?_
 refine td_ [(1, 6), (3, 8), (6, 11), (8, 13), (11, 16), (13, 18), (15, 20), (17, 22)] ?_
 iterate 8 (refine tm_ HT_ HW_ hHeld ?_)
 refine dn_ ?_
 refine jN HT_ (i := 4) (N := some 9) (ls 23 179711) (fun K hK => ?_)
 refine gs_ Tryz.func112 #[.string a0_0, .string a1_0] ?_
 with_reducible refine (eO.calls k a0_0 a1_0 t114 _ A3.out).mono ?_
 rintro e w13 ⟨rfl, hb⟩
 refine ⟨_, rfl, ?_⟩
 replace BK112 := ah.mk (aD (by ((exact BK112.out))) hb)
 replace BK113 := ah.mk (aD (by ((exact BK113.out))) hb)
 replace HB := ah.mk (ak HB.out hb)
 (try clear hb)
 refine hK.out _ _ (c5_ BK112.out (d5_ BK113.out)) (fun hHeld => ?_)
 clear hK K
 refine nm_ (N := (some 9)) ?_
 refine jN HT_ (i := 9) (N := some 14) (ls 23 180223) (fun K hK => ?_)
 refine gs_ Tryz.func113 #[.int .i64 a0_1, .int .i64 a1_1] ?_
 with_reducible refine (cmp_Compare_int.calls a0_1 a1_1 t115 _ A4.out).mono ?_
 rintro e w' ⟨rfl, ⟨nd, rfl⟩⟩
 refine ⟨_, rfl, ?_⟩
 refine hK.out _ _ (c5_ BK112.out (d5_ BK113.out)) (fun hHeld => ?_)
 clear hK K
 refine nm_ (N := (some 14)) ?_
 refine jN HT_ (i := 14) (N := some 19) (ls 23 196607) (fun K hK => ?_)
 refine gs_ Tryz.func113 #[.int .i64 a0_2, .int .i64 a1_2] ?_
 with_reducible refine (cmp_Compare_int.calls a0_2 a1_2 t116 _ A5.out).mono ?_
 rintro e w' ⟨rfl, ⟨nd, rfl⟩⟩
 refine ⟨_, rfl, ?_⟩
 refine hK.out _ _ (c5_ BK112.out (d5_ BK113.out)) (fun hHeld => ?_)
 clear hK K
 refine nm_ (N := (some 19)) ?_
 refine jN HT_ (i := 16) (N := some 21) (ls 23 262143) (fun K hK => ?_)
 refine gs_ Tryz.func115 #[.agg #[.string a0_0, .int .i64 a0_1, .int .i64 a0_2, .int .i64 a0_3, .string a0_4]] ?_
 with_reducible refine (jl.calls a0_0 a0_1 a0_2 a0_3 a0_4 t117 _ A6.out).mono ?_
 rintro e w14 ⟨rfl, hb⟩
 refine ⟨_, rfl, ?_⟩
 replace BK112 := ah.mk (aD (by ((exact BK112.out))) hb)
 replace BK113 := ah.mk (aD (by ((exact BK113.out))) hb)
 replace HB := ah.mk (ak (by repeat ((with_reducible first | exact HB.out | apply aZ))) hb)
 (try clear hb)
 refine hK.out _ _ (c5_ BK112.out (d5_ BK113.out)) (fun hHeld => ?_)
 clear hK K
 refine nm_ (N := (some 21)) ?_
 refine jN HT_ (i := 18) (N := some 23) (ls 23 524287) (fun K hK => ?_)
 refine gs_ Tryz.func115 #[.agg #[.string a1_0, .int .i64 a1_1, .int .i64 a1_2, .int .i64 a1_3, .string a1_4]] ?_
 with_reducible refine (jl.calls a1_0 a1_1 a1_2 a1_3 a1_4 t118 _ A7.out).mono ?_
 rintro e w15 ⟨rfl, hb⟩
 refine ⟨_, rfl, ?_⟩
 replace BK112 := ah.mk (aD (by ((exact BK112.out))) hb)
 replace BK113 := ah.mk (aD (by ((exact BK113.out))) hb)
 replace HB := ah.mk (ak HB.out hb)
 (try clear hb)
 refine hK.out _ _ (c5_ BK112.out (d5_ BK113.out)) (fun hHeld => ?_)
 clear hK K
 refine nm_ (N := (some 23)) ?_
 refine jN HT_ (i := 19) (N := some 24) (ls 23 1048575) (fun K hK => ?_)
 refine gs_ Tryz.func114 #[.string t117, .string t118] ?_
 with_reducible refine (iq.calls t117 t118 t119 _ A8.out).mono ?_
 rintro e w16 ⟨rfl, hb⟩
 refine ⟨_, rfl, ?_⟩
 replace BK112 := ah.mk (aD (by ((exact BK112.out))) hb)
 replace BK113 := ah.mk (aD (by ((exact BK113.out))) hb)
 replace HB := ah.mk (ak HB.out hb)
 (try clear hb)
 refine hK.out _ _ (c5_ BK112.out (d5_ BK113.out)) (fun hHeld => ?_)
 clear hK K
 refine nm_ (N := (some 24)) ?_
 refine jN HT_ (i := 20) (N := some 25) (ls 23 2097151) (fun K hK => ?_)
 refine Kd.qN (Kd.int .i64) _ 3 ?hg (N := 25) ?hd (xs := ([t114, t115, t116, t119] : List Int)) (inner := [.int .i64 t114, .int .i64 t115, .int .i64 t116, .int .i64 t119]) (ok := fun _ => True) (okp := fun _ => True) ?hr ?hp (fun _ hk => hk) trivial (Below.refl _ _) (Nat.le_refl _) (by simp) ?_; (case hd => rfl); (case hg => rfl); (case hr => (go_simp; done)); (case hp => exact (bW.one (show Kd.M (Kd.int .i64) _ _ _ t114 [.int .i64 t114] from rfl) (bW.one (show Kd.M (Kd.int .i64) _ _ _ t115 [.int .i64 t115] from rfl) (bW.one (show Kd.M (Kd.int .i64) _ _ _ t116 [.int .i64 t116] from rfl) (bW.one (show Kd.M (Kd.int .i64) _ _ _ t119 [.int .i64 t119] from rfl) (bW.none _ _))))))
 intro v121 w17 ho18 hb hg_ hnew_
 clear hg_ hnew_
 ((rw [← Ny120.out] at ho18))
 have HO122 := ah.mk (Kd.bZ ho18 (av HB.out))
 replace BK112 := ah.mk (aD (by ((exact BK112.out))) hb)
 replace BK113 := ah.mk (aD (by ((exact BK113.out))) hb)
 replace HB := ah.mk (ak HB.out hb)
 clear hb ho18
 obtain ⟨Ao19, co19, eo19⟩ := Kd.bO HO122.out
 ((subst eo19))
 refine hK.out _ _ (c5_ BK112.out (d5_ BK113.out)) (fun hHeld => ?_)
 clear hK K
 refine nm_ (N := (some 25)) ?_
 refine jN HT_ (i := 21) (N := some 26) (ls 23 4194303) (fun K hK => ?_)
 refine gs_ Tryz.func111 #[.slice Ao19 y120.length co19] ?_
 with_reducible refine (gP.calls k _ _ y120 t123 _ ?side1 ?side2 A9.out).mono ?_
 (case side1 => exact (Kd.aN HO122.out).2.2)
 (case side2 => exact (Kd.aN HO122.out).2.1)
 rintro e w' ⟨rfl, ⟨nd, rfl⟩⟩
 refine ⟨_, rfl, ?_⟩
 refine hK.out _ _ (c5_ BK112.out (d5_ BK113.out)) (fun hHeld => ?_)
 clear hK K
 refine nm_ (N := (some 26)) ?_
 refine td_ [(22, 4)] ?_
 refine pm_ HT_ ?_
 refine dn_ ?_
 refine jJ (iZ HT_.out (by kernel_rfl)) ?_
 (try go_wp2)
 go_ret
 exact ⟨by rfl, by repeat ((with_reducible first | exact HB.out | apply aZ))⟩
end Go.Y.PRr
namespace Go.Y.Given
open Go.RowKit Go.V.aC Go.V.aV Go.V.aX
section
variable {P : Program} {ops : Array Oper} {Q : Exit → Act → World → Prop}
theorem vB {oi : Oper} {N : Option Tmp} {a : Act} {w : World} {K : Act → World → Prop} {f : FuncId} {fn : Func} {t : Tmp} {as_ : Array Operand} {ts : Array TypeId} (hf : P.funcs[f]? = some fn) (hname : (fn.name == "runtime.NumGoroutine") = false) (hb : fn.body.isSome = true) (args : Array Value)
  (hw : Region.wanted oi (yielded ops a.tmps) = true) (hN : oi.dst = N) (hop : oi.op = .call { callee := .value (.tmp t), args := as_, argTypes := ts }) (hev : a.eval (.tmp t) = .func (.func f) #[] #[]) (hargs : as_.map a.eval = args)
  (h : Calls P f args w fun e w' => ∃ v, e = .returned v ∧ K (a.put N v) w') : if Region.wanted oi (yielded ops a.tmps) = true then Oper.wp P oi a w K Q else K (a.put N undef) w := by
 refine call_ f args hw hN ?_ h
 have he := ql hf hname hb args w
 unfold execOp
 simp [hop, resolve, Deferred.ofValue, invoke, hev, hargs, he]
end
end Go.Y.Given
namespace Go.Y.Rrs
open Go.RowKit Go.V.aC Go.V.aV Go.V.aX Go.Y.Given Go.Y.PRd Go.Y.PRr
abbrev RR := S44
abbrev kRR : Kd RR := k44
abbrev rdR (l : List RR) (i : Int) : RR := aj l i
abbrev RR.v (x : RR) : Value := .agg #[.string x.f0, .int .i64 x.f1, .int .i64 x.f2, .int .i64 x.f3, .string x.f4]
def qG (k : Nat) (y x : RR) : Option Int := dI.f k y.f0 y.f1 y.f2 y.f3 y.f4 x.f0 x.f1 x.f2 x.f3 x.f4
theorem eH (l : List RR) (i : Nat) (hi : i < l.length) : rdR l (i : Nat) = l[i] := by
 show aj l (i : Nat) = _
 unfold aj
 rw [Int.toNat_natCast, List.getD_eq_getElem?_getD, List.getElem?_eq_getElem hi]; rfl
def eqR (x y : RR) : Bool := x.f0.toList == y.f0.toList && (x.f1 == y.f1 && (x.f2 == y.f2 && (x.f3 == y.f3 && (x.f4.toList == y.f4.toList))))
end Go.Y.Rrs
namespace Go.Y.Rrs
open Go.RowKit Go.V.aC Go.V.aV Go.V.aX Go.Y.Given Go.Y.PRd Go.Y.PRr Go.Y.Oct Go.Y.Name Go.Y.Cmp Go.Y.gu Go.Y.fQ Go.Y.iD
def or4 (a b c d : Int) : Int := if a = 0 then if b = 0 then if c = 0 then d else c else b else a
theorem JM (a b c d : Int) (k : Nat) (hk : 5 ≤ k) : gP.f k [a, b, c, d] = some (or4 a b c d) := by
 obtain ⟨k, rfl⟩ : ∃ m, k = m + 5 := ⟨k - 5, by omega⟩
 have w1 : wrap64 (0 + 1) = 1 := by unfold wrap64; omega
 have w2 : wrap64 (1 + 1) = 2 := by unfold wrap64; omega
 have w3 : wrap64 (2 + 1) = 3 := by unfold wrap64; omega
 have w4 : wrap64 (3 + 1) = 4 := by unfold wrap64; omega
 have r0 : rd [a, b, c, d] 0 = a := rfl
 have r1 : rd [a, b, c, d] 1 = b := rfl
 have r2 : rd [a, b, c, d] 2 = c := rfl
 have r3 : rd [a, b, c, d] 3 = d := rfl
 have l4 : (([a, b, c, d] : List Int).length : Int) = 4 := rfl
 show gP.l0 (k + 5) 0 [a, b, c, d] (([a, b, c, d] : List Int).length : Int) 0 = _
 rw [l4]
 unfold or4
 simp only [gP.l0, l4, r0, r1, r2, r3, w1, w2, w3, w4, show ((0 : Int) < 4) = True by simp, show ((1 : Int) < 4) = True by simp, show ((2 : Int) < 4) = True by simp, show ((3 : Int) < 4) = True by simp, show ((4 : Int) < 4) = False by simp, show ((0 : Int) ≤ 0) = True by simp, show ((0 : Int) ≤ 1) = True by simp, show ((0 : Int) ≤ 2) = True by simp, show ((0 : Int) ≤ 3) = True by simp, if_true, if_false]
 repeat' split
 all_goals first | rfl | (simp_all; done)
theorem Dy (a b : Int) : cmp_Compare_int.f a b = some (nA a b) := by
 unfold cmp_Compare_int.f cmp_isNaN_int.f nA
 simp only [bne_self_eq_false, Option.bind_some]
 repeat' split
 all_goals first | rfl | (simp_all; done)
open Classical in
noncomputable def je (x : RR) : List ByteArray := if h : ∃ l, good l ∧ (bL l).size ≤ 255 ∧ x.f0 = bL l then ((Classical.choose h).map eG).reverse else []
def kK (x : RR) : ByteArray := if jH x.f1 x.f4 = true then oI x.f1 x.f4 else x.f4
noncomputable def aW : RR → RR → Int := kJ (fun a b => cmpL (je a) (je b)) (kJ (fun a b => nA a.f1 b.f1) (kJ (fun a b => nA a.f2 b.f2) (fun a b => kr (kK a).toList (kK b).toList)))
theorem fD : ig aW := (ig.pull oQ je).kJ ((ig.pull yK (·.f1)).kJ ((ig.pull yK (·.f2)).kJ (ig.pull nK fun x => (kK x).toList)))
theorem Ec (x : RR) (hx : x.f4.size ≤ 100000) : jl.f x.f0 x.f1 x.f2 x.f3 x.f4 = some (kK x) := by
 unfold jl.f iO.f kV.f kK
 rw [if_pos (by omega), if_pos (by omega)]
 simp only [Option.bind_some]
 split <;> rfl
theorem nL (x : RR) (hx : bG x.f0 = true) : ∃ l, good l ∧ (bL l).size ≤ 255 ∧ x.f0 = bL l ∧ je x = (l.map eG).reverse := by
 have hd : ∃ l, good l ∧ (bL l).size ≤ 255 ∧ x.f0 = bL l := by
  obtain ⟨l, h1, h2, h3⟩ := (lD x.f0).mp hx
  exact ⟨l, h1, h3, h2⟩
 have hs := Classical.choose_spec hd
 exact ⟨Classical.choose hd, hs.1, hs.2.1, hs.2.2, by unfold je; rw [dif_pos hd]⟩
theorem Aa (x y : RR) (hx : bG x.f0 = true) (hy : bG y.f0 = true) (sx : x.f4.size ≤ 100000) (sy : y.f4.size ≤ 100000) (k : Nat) (hk : 1000 ≤ k) : qG k x y = some (aW x y) := by
 obtain ⟨l, gl, sl, el, kl⟩ := nL x hx
 obtain ⟨m, gm, sm, em, km⟩ := nL y hy
 unfold qG dI.f
 rw [Ec x sx, Ec y sy, Dy, Dy, el, em, Cm l m gl gm sl sm k (by omega)]
 simp only [Option.bind_some]
 rw [show iq.f (kK x) (kK y) = some (kr (kK x).toList (kK y).toList) from rfl]
 simp only [Option.bind_some]
 rw [JM _ _ _ _ k (by omega), Option.bind_some]
 unfold or4 aW kJ
 simp only [kl, km]
 rfl
end Go.Y.Rrs
namespace Go.Y.PRr
open Go.RowKit Go.V.aC Go.V.aV Go.V.aX Go.Y.Given Go.Y.PRd
attribute [local go_sem] dP dQ eu eB dD dF dR dS   -- for this text's walks alone
def gM.f (a0 : Int) (a1 : Bool) : Option (Bool) := if a0 = 1 then (some true) else (if a0 = 254 then (some (!a1)) else (some false))
theorem gM.calls (a0 : Int) (a1 : Bool) (r : Bool) (w : World) (h : gM.f a0 a1 = some r) :
  Calls Tryz.prog 86 #[.int .i64 a0, .bool a1] w fun e w' => e = .returned (.bool r) ∧ aY w w' := by
 have H : (if a0 = 1 then (some true) else (if a0 = 254 then (some (!a1)) else (some false))) = some r := h
 clear h
 by_cases c3 : a0 = 1
 ·rw [if_pos c3] at H
  have c3b0 : (a0 == 1) = true := beq_iff_eq.mpr c3
  have c3b1 : (a0 != 1) = false := bne_eq_false_iff_eq.mpr c3
  clear c3
  obtain rfl := Option.some.inj H
  go_enter Tryz.func86, Tryz.ntmps86
  go_wp2
  go_ret
  exact ⟨by rfl, by repeat ((exact aY.refl _))⟩
 ·rw [if_neg c3] at H
  have c3b0 : (a0 == 1) = false := beq_eq_false_iff_ne.mpr c3
  have c3b1 : (a0 != 1) = true := bne_iff_ne.mpr c3
  by_cases c4 : a0 = 254
  ·rw [if_pos c4] at H
   have c4b0 : (a0 == 254) = true := beq_iff_eq.mpr c4
   have c4b1 : (a0 != 254) = false := bne_eq_false_iff_eq.mpr c4
   clear c4
   obtain rfl := Option.some.inj H
   go_enter Tryz.func86, Tryz.ntmps86
   go_wp2
   go_ret
   exact ⟨by rfl, by repeat ((exact aY.refl _))⟩
  ·rw [if_neg c4] at H
   have c4b0 : (a0 == 254) = false := beq_eq_false_iff_ne.mpr c4
   have c4b1 : (a0 != 254) = true := bne_iff_ne.mpr c4
   obtain rfl := Option.some.inj H
   go_enter Tryz.func86, Tryz.ntmps86
   go_wp2
   go_ret
   exact ⟨by rfl, by repeat ((exact aY.refl _))⟩
def bn.j0 : Nat → Bool → ByteArray → Int → Int → Int → ByteArray → Option (Bool)
 | 0, _, _, _, _, _, _ => none
 | k + 1, x42, x141000, x141001, x141002, x141003, x141004 => if x42 = true then (some false) else ((gM.f x141002 x141004.toList.isEmpty).bind fun t142 => (if t142 = true then ((dX.f k x141001 x141004).bind fun t143 => (some t143)) else (some true)))
def bn.f (k : Nat) (a0_0 : ByteArray) (a0_1 : Int) (a0_2 : Int) (a0_3 : Int) (a0_4 : ByteArray) : Option (Bool) := (bK.f k a0_0).bind fun t141 => (if t141 = true then (if a0_1 < 0 then (bn.j0 k true a0_0 a0_1 a0_2 a0_3 a0_4) else (if a0_1 > 65535 then (bn.j0 k true a0_0 a0_1 a0_2 a0_3 a0_4) else (if a0_2 < 0 then (bn.j0 k true a0_0 a0_1 a0_2 a0_3 a0_4) else (if a0_2 > 65535 then (bn.j0 k true a0_0 a0_1 a0_2 a0_3 a0_4) else (if a0_3 < 0 then (bn.j0 k true a0_0 a0_1 a0_2 a0_3 a0_4) else (if a0_3 > 2147483647 then (bn.j0 k true a0_0 a0_1 a0_2 a0_3 a0_4) else (bn.j0 k (decide ((a0_4.size : Int) > 65535)) a0_0 a0_1 a0_2 a0_3 a0_4))))))) else (bn.j0 k true a0_0 a0_1 a0_2 a0_3 a0_4))
theorem bn.calls (k : Nat) (a0_0 : ByteArray) (a0_1 : Int) (a0_2 : Int) (a0_3 : Int) (a0_4 : ByteArray) (r : Bool) (w : World) (h : bn.f k a0_0 a0_1 a0_2 a0_3 a0_4 = some r) :
    Calls Tryz.prog 48 #[.agg #[.string a0_0, .int .i64 a0_1, .int .i64 a0_2, .int .i64 a0_3, .string a0_4]] w fun e w' => e = .returned (.bool r) ∧ Below w.heap.size w w' := by
  have hu44 := Tryz.underlying44
  have HB := ah.mk (Below.refl w.heap.size w)
  have H : ((bK.f k a0_0).bind fun t141 => (if t141 = true then (if a0_1 < 0 then (bn.j0 k true a0_0 a0_1 a0_2 a0_3 a0_4) else (if a0_1 > 65535 then (bn.j0 k true a0_0 a0_1 a0_2 a0_3 a0_4) else (if a0_2 < 0 then (bn.j0 k true a0_0 a0_1 a0_2 a0_3 a0_4) else (if a0_2 > 65535 then (bn.j0 k true a0_0 a0_1 a0_2 a0_3 a0_4) else (if a0_3 < 0 then (bn.j0 k true a0_0 a0_1 a0_2 a0_3 a0_4) else (if a0_3 > 2147483647 then (bn.j0 k true a0_0 a0_1 a0_2 a0_3 a0_4) else (bn.j0 k (decide ((a0_4.size : Int) > 65535)) a0_0 a0_1 a0_2 a0_3 a0_4))))))) else (bn.j0 k true a0_0 a0_1 a0_2 a0_3 a0_4))) = some r := h
  clear h
  have HC2 := ah.mk H
  clear H
  go_enter Tryz.func48, Tryz.ntmps48
  go_upto_region 1 with ((((with_reducible refine bF (N := 1) rfl ?_); (try (refine fA (by rfl) ?_; dsimp only)); refine bQ ?hg (N := 1) ?hd (cs := #[.string a0_0, .int .i64 a0_1, .int .i64 a0_2, .int .i64 a0_3, .string a0_4]) (t := 44) ?hr ?_; (case hd => rfl); (case hg => rfl); (case hr => (go_simp; done)); intro gb140 hg w3 hbox hb; have BK140 := ah.mk (hbox); have GW140 := ah.mk (ge_ hg (av HB.out)); have GE140 := ah.mk (ge_ hg (av HB.out)); replace HB := ah.mk (ak HB.out hb); clear hb hbox hg)))
  go_cut [42] (fun v42 wc => ∃ (kq : Nat) (x42_1 : Bool), v42 = .bool x42_1 ∧ ah (bn.j0 kq x42_1 a0_0 a0_1 a0_2 a0_3 a0_4 = some r) ∧ ah (kq ≤ k) ∧ ah (wc.heap[gb140]? = some (.cells #[.string a0_0, .int .i64 a0_1, .int .i64 a0_2, .int .i64 a0_3, .string a0_4] 44 (0, 0))) ∧ ah (Below w.heap.size w wc))
  case first =>
   have H := HC2.out
   clear HC2
   obtain ⟨t141, A4, H⟩ := bP H
   by_cases c5 : t141 = true
   focus
    subst c5
    rw [if_pos rfl] at H
    by_cases c6 : a0_1 < 0
    focus
     rw [if_pos c6] at H
     have c6b0 : decide (a0_1 < 0) = true := decide_eq_true c6
    rotate_left
    focus
     rw [if_neg c6] at H
     have c6b0 : decide (a0_1 < 0) = false := decide_eq_false c6
    rotate_left
    all_goals
     clear c6
     (skip)
    rotate_left
    focus
     by_cases c10 : a0_1 > 65535
     focus
      rw [if_pos c10] at H
      have c10b0 : decide (65535 < a0_1) = true := decide_eq_true c10
      clear c10
     rotate_left
     focus
      rw [if_neg c10] at H
      have c10b0 : decide (65535 < a0_1) = false := decide_eq_false c10
      clear c10
      by_cases c14 : a0_2 < 0
      focus
       rw [if_pos c14] at H
       have c14b0 : decide (a0_2 < 0) = true := decide_eq_true c14
       clear c14
      rotate_left
      focus
       rw [if_neg c14] at H
       have c14b0 : decide (a0_2 < 0) = false := decide_eq_false c14
       clear c14
       by_cases c18 : a0_2 > 65535
       focus
        rw [if_pos c18] at H
        have c18b0 : decide (65535 < a0_2) = true := decide_eq_true c18
        clear c18
       rotate_left
       focus
        rw [if_neg c18] at H
        have c18b0 : decide (65535 < a0_2) = false := decide_eq_false c18
        clear c18
        by_cases c22 : a0_3 < 0
        focus
         rw [if_pos c22] at H
         have c22b0 : decide (a0_3 < 0) = true := decide_eq_true c22
         clear c22
        rotate_left
        focus
         rw [if_neg c22] at H
         have c22b0 : decide (a0_3 < 0) = false := decide_eq_false c22
         clear c22
         by_cases c26 : a0_3 > 2147483647
         focus
          rw [if_pos c26] at H
          have c26b0 : decide (2147483647 < a0_3) = true := decide_eq_true c26
         rotate_left
         focus
          rw [if_neg c26] at H
          have c26b0 : decide (2147483647 < a0_3) = false := decide_eq_false c26
         rotate_left
         all_goals
          clear c26
        rotate_left 2
       rotate_left 3
      rotate_left 4
     rotate_left 5
    rotate_left 6
   rotate_left 7
   focus
    replace c5 := Bool.eq_false_iff.mpr c5
    subst c5
    rw [if_neg ff_] at H
   rotate_left
   all_goals
    have H' := ah.mk H
    clear H
    obtain ⟨hcz7_0, hcz7_1, hcz7_2, hcz7_3, hcz7_4, hfz7_0, hfz7_1, hfz7_2, hfz7_3, hfz7_4⟩ := z5_ BK140.out
   iterate 7
    focus
     go_wp2_with (((refine gl_ (some 5) Tryz.func47 #[.string a0_0] ?_; (with_reducible refine (bK.calls k a0_0 _ _ A4.out).mono ?_); rintro e w8 ⟨rfl, hb⟩; refine ⟨_, rfl, ?_⟩; replace BK140 := ah.mk (aD (by ((exact BK140.out))) hb); replace HB := ah.mk (ak HB.out hb); (try clear hb); obtain ⟨hcz9_0, hcz9_1, hcz9_2, hcz9_3, hcz9_4, hfz9_0, hfz9_1, hfz9_2, hfz9_3, hfz9_4⟩ := z5_ BK140.out)))
     go_meet
    rotate_left
   rotate_left
   ·case rel => exact ⟨_, (true), (by rfl), H', ⟨by omega⟩, ⟨by (with_reducible repeat ((refine aA ?_ _))); exact BK140.out⟩, ⟨HB.out⟩⟩
   ·case rel => exact ⟨_, (true), (by rfl), H', ⟨by omega⟩, ⟨by (with_reducible repeat ((refine aA ?_ _))); exact BK140.out⟩, ⟨HB.out⟩⟩
   ·case rel => exact ⟨_, (true), (by rfl), H', ⟨by omega⟩, ⟨by (with_reducible repeat ((refine aA ?_ _))); exact BK140.out⟩, ⟨HB.out⟩⟩
   ·case rel => exact ⟨_, (true), (by rfl), H', ⟨by omega⟩, ⟨by (with_reducible repeat ((refine aA ?_ _))); exact BK140.out⟩, ⟨HB.out⟩⟩
   ·case rel => exact ⟨_, (true), (by rfl), H', ⟨by omega⟩, ⟨by (with_reducible repeat ((refine aA ?_ _))); exact BK140.out⟩, ⟨HB.out⟩⟩
   ·case rel => exact ⟨_, (true), (by rfl), H', ⟨by omega⟩, ⟨by (with_reducible repeat ((refine aA ?_ _))); exact BK140.out⟩, ⟨HB.out⟩⟩
   ·case rel => exact ⟨_, (decide ((a0_4.size : Int) > 65535)), (by rfl), H', ⟨by omega⟩, ⟨by (with_reducible repeat ((refine aA ?_ _))); exact BK140.out⟩, ⟨HB.out⟩⟩
   ·go_wp2_with (((refine gl_ (some 5) Tryz.func47 #[.string a0_0] ?_; (with_reducible refine (bK.calls k a0_0 _ _ A4.out).mono ?_); rintro e w34 ⟨rfl, hb⟩; refine ⟨_, rfl, ?_⟩; replace BK140 := ah.mk (aD (by ((exact BK140.out))) hb); replace HB := ah.mk (ak HB.out hb); (try clear hb))))
    go_meet
    case rel => exact ⟨_, (true), (by rfl), H', ⟨by omega⟩, ⟨by (with_reducible repeat ((refine aA ?_ _))); exact BK140.out⟩, ⟨HB.out⟩⟩
  case rest =>
   clear HC2
   obtain ⟨kq, x42_1, rfl, HA, HJ1, BK140, HB⟩ := hcut
   cases kq with
   | zero => exact absurd HA.out (by simp [bn.j0])
   | succ kj1 =>
    have H := HA.out
    clear HA
    simp only [bn.j0] at H
    by_cases c35 : x42_1 = true
    focus
     subst c35
     rw [if_pos rfl] at H
     obtain rfl := Option.some.inj H
     go_wp2
    rotate_left
    focus
     replace c35 := Bool.eq_false_iff.mpr c35
     subst c35
     rw [if_neg ff_] at H
     obtain ⟨t142, A36, H⟩ := bP H
     by_cases c37 : t142 = true
     focus
      subst c37
      rw [if_pos rfl] at H
      obtain ⟨t143, A38, H⟩ := bP H
     rotate_left
     focus
      replace c37 := Bool.eq_false_iff.mpr c37
      subst c37
      rw [if_neg ff_] at H
     rotate_left
     all_goals
      obtain rfl := Option.some.inj H
      obtain ⟨hcz39_0, hcz39_1, hcz39_2, hcz39_3, hcz39_4, hfz39_0, hfz39_1, hfz39_2, hfz39_3, hfz39_4⟩ := z5_ BK140.out
     focus
      go_wp2_with (first | (refine gl_ (some 48) Tryz.func86 #[.int .i64 a0_2, .bool a0_4.toList.isEmpty] ?_; (with_reducible refine (gM.calls a0_2 a0_4.toList.isEmpty _ _ A36.out).mono ?_); rintro e w' ⟨rfl, ⟨nd, rfl⟩⟩; refine ⟨_, rfl, ?_⟩) | (go_at_call 87; (with_reducible refine (dX.calls kj1 a0_1 a0_4 t143 _ A38.out).mono ?_); rintro e w40 ⟨rfl, hb⟩; replace BK140 := ah.mk (aD (by ((exact BK140.out))) hb); replace HB := ah.mk (ak (by repeat ((with_reducible first | exact HB.out | apply aZ))) hb); (try clear hb)))
     rotate_left
     focus
      go_wp2_with (((refine gl_ (some 48) Tryz.func86 #[.int .i64 a0_2, .bool a0_4.toList.isEmpty] ?_; (with_reducible refine (gM.calls a0_2 a0_4.toList.isEmpty _ _ A36.out).mono ?_); rintro e w' ⟨rfl, ⟨nd, rfl⟩⟩; refine ⟨_, rfl, ?_⟩)))
     rotate_left
    rotate_left 2
    all_goals
     go_ret
     exact ⟨by rfl, by repeat ((with_reducible first | exact HB.out | apply aZ))⟩
def gH.f (k : Nat) (a0_0 : ByteArray) (a0_1 : Int) (a0_2 : Int) (a0_3 : Int) (a0_4 : ByteArray) : Option (ByteArray) := (dX.f k a0_1 a0_4).bind fun t145 => (if t145 = true then ((bU.f k a0_1 a0_4).bind fun t146 => (some t146)) else (some a0_4))
theorem gH.calls (k : Nat) (a0_0 : ByteArray) (a0_1 : Int) (a0_2 : Int) (a0_3 : Int) (a0_4 : ByteArray) (r : ByteArray) (w : World) (h : gH.f k a0_0 a0_1 a0_2 a0_3 a0_4 = some r) :
    Calls Tryz.prog 117 #[.agg #[.string a0_0, .int .i64 a0_1, .int .i64 a0_2, .int .i64 a0_3, .string a0_4]] w fun e w' => e = .returned (.string r) ∧ Below w.heap.size w w' := by
  have hu44 := Tryz.underlying44
  have HB := ah.mk (Below.refl w.heap.size w)
  have H : ((dX.f k a0_1 a0_4).bind fun t145 => (if t145 = true then ((bU.f k a0_1 a0_4).bind fun t146 => (some t146)) else (some a0_4))) = some r := h
  clear h
  obtain ⟨t145, A2, H⟩ := bP H
  by_cases c3 : t145 = true
  focus
   subst c3
   rw [if_pos rfl] at H
   obtain ⟨t146, A4, H⟩ := bP H
  rotate_left
  focus
   replace c3 := Bool.eq_false_iff.mpr c3
   subst c3
   rw [if_neg ff_] at H
  rotate_left
  all_goals
   obtain rfl := Option.some.inj H
   go_enter Tryz.func117, Tryz.ntmps117
  focus
   go_wp2_with (first | ((with_reducible refine bF (N := 1) rfl ?_); refine bQ ?hg (N := 1) ?hd (cs := #[.string a0_0, .int .i64 a0_1, .int .i64 a0_2, .int .i64 a0_3, .string a0_4]) (t := 44) ?hr ?_; (case hd => rfl); (case hg => rfl); (case hr => (go_simp; done)); intro gb144 hg w5 hbox hb; have BK144 := ah.mk (hbox); have GW144 := ah.mk (ge_ hg (av HB.out)); have GE144 := ah.mk (ge_ hg (av HB.out)); replace HB := ah.mk (ak HB.out hb); clear hb hbox hg; obtain ⟨hcz6_0, hcz6_1, hcz6_2, hcz6_3, hcz6_4, hfz6_0, hfz6_1, hfz6_2, hfz6_3, hfz6_4⟩ := z5_ BK144.out) | (refine gl_ (some 7) Tryz.func87 #[.int .i64 a0_1, .string a0_4] ?_; (with_reducible refine (dX.calls k a0_1 a0_4 _ _ A2.out).mono ?_); rintro e w7 ⟨rfl, hb⟩; refine ⟨_, rfl, ?_⟩; replace BK144 := ah.mk (aD (by ((exact BK144.out))) hb); replace HB := ah.mk (ak HB.out hb); (try clear hb); obtain ⟨hcz8_0, hcz8_1, hcz8_2, hcz8_3, hcz8_4, hfz8_0, hfz8_1, hfz8_2, hfz8_3, hfz8_4⟩ := z5_ BK144.out) | (refine gl_ (some 15) Tryz.func147 #[.int .i64 a0_1, .string a0_4] ?_; (with_reducible refine (bU.calls k a0_1 a0_4 t146 _ A4.out).mono ?_); rintro e w9 ⟨rfl, hb⟩; refine ⟨_, rfl, ?_⟩; replace BK144 := ah.mk (aD (by ((exact BK144.out))) hb); replace HB := ah.mk (ak HB.out hb); (try clear hb)))
  rotate_left
  focus
   go_wp2_with (first | ((with_reducible refine bF (N := 1) rfl ?_); refine bQ ?hg (N := 1) ?hd (cs := #[.string a0_0, .int .i64 a0_1, .int .i64 a0_2, .int .i64 a0_3, .string a0_4]) (t := 44) ?hr ?_; (case hd => rfl); (case hg => rfl); (case hr => (go_simp; done)); intro gb144 hg w10 hbox hb; have BK144 := ah.mk (hbox); have GW144 := ah.mk (ge_ hg (av HB.out)); have GE144 := ah.mk (ge_ hg (av HB.out)); replace HB := ah.mk (ak HB.out hb); clear hb hbox hg; obtain ⟨hcz11_0, hcz11_1, hcz11_2, hcz11_3, hcz11_4, hfz11_0, hfz11_1, hfz11_2, hfz11_3, hfz11_4⟩ := z5_ BK144.out) | (refine gl_ (some 7) Tryz.func87 #[.int .i64 a0_1, .string a0_4] ?_; (with_reducible refine (dX.calls k a0_1 a0_4 _ _ A2.out).mono ?_); rintro e w12 ⟨rfl, hb⟩; refine ⟨_, rfl, ?_⟩; replace BK144 := ah.mk (aD (by ((exact BK144.out))) hb); replace HB := ah.mk (ak HB.out hb); (try clear hb); obtain ⟨hcz13_0, hcz13_1, hcz13_2, hcz13_3, hcz13_4, hfz13_0, hfz13_1, hfz13_2, hfz13_3, hfz13_4⟩ := z5_ BK144.out))
  rotate_left
  all_goals
   go_ret
   exact ⟨by rfl, HB.out⟩
def gJ.f (a0 : Int) (a1 : Int) : Option (Int) := if a0 < a1 then (some (-1)) else (if a0 > a1 then (some 1) else (some 0))
theorem gJ.calls (a0 : Int) (a1 : Int) (r : Int) (w : World) (h : gJ.f a0 a1 = some r) :
  Calls Tryz.prog 134 #[.int .i64 a0, .int .i64 a1] w fun e w' => e = .returned (.int .i64 r) ∧ aY w w' := by
 have H : (if a0 < a1 then (some (-1)) else (if a0 > a1 then (some 1) else (some 0))) = some r := h
 clear h
 by_cases c3 : a0 < a1
 ·rw [if_pos c3] at H
  have c3b0 : decide (a0 < a1) = true := decide_eq_true c3
  clear c3
  obtain rfl := Option.some.inj H
  go_enter Tryz.func134, Tryz.ntmps134
  go_wp2
  go_ret
  exact ⟨by rfl, by repeat ((exact aY.refl _))⟩
 ·rw [if_neg c3] at H
  have c3b0 : decide (a0 < a1) = false := decide_eq_false c3
  clear c3
  by_cases c4 : a0 > a1
  ·rw [if_pos c4] at H
   have c4b0 : decide (a1 < a0) = true := decide_eq_true c4
   clear c4
   obtain rfl := Option.some.inj H
   go_enter Tryz.func134, Tryz.ntmps134
   go_wp2
   go_ret
   exact ⟨by rfl, by repeat ((exact aY.refl _))⟩
  ·rw [if_neg c4] at H
   have c4b0 : decide (a1 < a0) = false := decide_eq_false c4
   clear c4
   obtain rfl := Option.some.inj H
   go_enter Tryz.func134, Tryz.ntmps134
   go_wp2
   go_ret
   exact ⟨by rfl, by repeat ((exact aY.refl _))⟩
end Go.Y.PRr
namespace Go.Y.PRr
open Go.RowKit Go.V.aC Go.V.aV Go.V.aX Go.Y.Given Go.Y.PRd
attribute [local go_sem] dP dQ eu eB dD dF dR dS   -- for this text's walks alone
mutual
def bN.j0 : Nat → Int → ByteArray → Int → Int → Int → ByteArray → ByteArray → Int → Int → Int → ByteArray → Option (Int)
 | 0, _, _, _, _, _, _, _, _, _, _, _ => none
 | k + 1, x5, x148000, x148001, x148002, x148003, x148004, x149000, x149001, x149002, x149003, x149004 => if x5 = 0 then ((gJ.f x148002 x149002).bind fun t151 => (bN.j1 k t151 x148000 x148001 x148002 x148003 x148004 x149000 x149001 x149002 x149003 x149004)) else (bN.j1 k x5 x148000 x148001 x148002 x148003 x148004 x149000 x149001 x149002 x149003 x149004)
def bN.j1 : Nat → Int → ByteArray → Int → Int → Int → ByteArray → ByteArray → Int → Int → Int → ByteArray → Option (Int)
 | 0, _, _, _, _, _, _, _, _, _, _, _ => none
 | k + 1, x5, x148000, x148001, x148002, x148003, x148004, x149000, x149001, x149002, x149003, x149004 => if x5 = 0 then ((gH.f k x148000 x148001 x148002 x148003 x148004).bind fun t152 => ((gH.f k x149000 x149001 x149002 x149003 x149004).bind fun t153 => (if (Op.bytesLess t152.toList t153.toList) = true then (some (-1)) else (if (Op.bytesLess t153.toList t152.toList) = true then (some 1) else (some 0))))) else (some x5)
end
def bN.f (k : Nat) (a0_0 : ByteArray) (a0_1 : Int) (a0_2 : Int) (a0_3 : Int) (a0_4 : ByteArray) (a1_0 : ByteArray) (a1_1 : Int) (a1_2 : Int) (a1_3 : Int) (a1_4 : ByteArray) : Option (Int) := (aT.f k a0_0 a1_0).bind fun t149 => (if t149 = 0 then ((gJ.f a0_1 a1_1).bind fun t150 => (bN.j0 k t150 a0_0 a0_1 a0_2 a0_3 a0_4 a1_0 a1_1 a1_2 a1_3 a1_4)) else (bN.j0 k t149 a0_0 a0_1 a0_2 a0_3 a0_4 a1_0 a1_1 a1_2 a1_3 a1_4))
theorem bN.calls (k : Nat) (a0_0 : ByteArray) (a0_1 : Int) (a0_2 : Int) (a0_3 : Int) (a0_4 : ByteArray) (a1_0 : ByteArray) (a1_1 : Int) (a1_2 : Int) (a1_3 : Int) (a1_4 : ByteArray) (r : Int) (w : World) (h : bN.f k a0_0 a0_1 a0_2 a0_3 a0_4 a1_0 a1_1 a1_2 a1_3 a1_4 = some r) :
    Calls Tryz.prog 106 #[.agg #[.string a0_0, .int .i64 a0_1, .int .i64 a0_2, .int .i64 a0_3, .string a0_4], .agg #[.string a1_0, .int .i64 a1_1, .int .i64 a1_2, .int .i64 a1_3, .string a1_4]] w fun e w' => e = .returned (.int .i64 r) ∧ Below w.heap.size w w' := by
  have hu44 := Tryz.underlying44
  have HB := ah.mk (Below.refl w.heap.size w)
  have H : ((aT.f k a0_0 a1_0).bind fun t149 => (if t149 = 0 then ((gJ.f a0_1 a1_1).bind fun t150 => (bN.j0 k t150 a0_0 a0_1 a0_2 a0_3 a0_4 a1_0 a1_1 a1_2 a1_3 a1_4)) else (bN.j0 k t149 a0_0 a0_1 a0_2 a0_3 a0_4 a1_0 a1_1 a1_2 a1_3 a1_4))) = some r := h
  clear h
  obtain ⟨t149, A3, H⟩ := bP H
  have HC4 := ah.mk H
  clear H
  go_enter Tryz.func106, Tryz.ntmps106
  go_upto_if 14 with (first | ((with_reducible refine bF (N := 2) rfl ?_); refine bQ ?hg (N := 2) ?hd (cs := #[.string a0_0, .int .i64 a0_1, .int .i64 a0_2, .int .i64 a0_3, .string a0_4]) (t := 44) ?hr ?_; (case hd => rfl); (case hg => rfl); (case hr => (go_simp; done)); intro gb147 hg w5 hbox hb; have BK147 := ah.mk (hbox); have GW147 := ah.mk (ge_ hg (av HB.out)); have GE147 := ah.mk (ge_ hg (av HB.out)); replace HB := ah.mk (ak HB.out hb); clear hb hbox hg) | ((with_reducible refine bF (N := 3) rfl ?_); refine bQ ?hg (N := 3) ?hd (cs := #[.string a1_0, .int .i64 a1_1, .int .i64 a1_2, .int .i64 a1_3, .string a1_4]) (t := 44) ?hr ?_; (case hd => rfl); (case hg => rfl); (case hr => (go_simp; done)); intro gb148 hg w6 hbox hb; have BK148 := ah.mk (hbox); have GW148 := ah.mk (ge_ hg (av HB.out)); have GE148 := ah.mk (ge_ hg (av HB.out)); have NB147_148 := ah.mk (nl_ hg (by ((exact BK147.out)))); have NB148_147 := ah.mk (nr_ hg (by ((exact BK147.out)))); replace BK147 := ah.mk (aD (by ((exact BK147.out))) hb); replace HB := ah.mk (ak HB.out hb); clear hb hbox hg; have hnb7 := NB147_148.out; have hnc7 := NB148_147.out; obtain ⟨hcz8_0, hcz8_1, hcz8_2, hcz8_3, hcz8_4, hfz8_0, hfz8_1, hfz8_2, hfz8_3, hfz8_4⟩ := z5_ BK147.out; obtain ⟨hcz9_0, hcz9_1, hcz9_2, hcz9_3, hcz9_4, hfz9_0, hfz9_1, hfz9_2, hfz9_3, hfz9_4⟩ := z5_ BK148.out) | (refine gl_ (some 12) Tryz.func133 #[.string a0_0, .string a1_0] ?_; (with_reducible refine (aT.calls k a0_0 a1_0 t149 _ A3.out).mono ?_); rintro e w10 ⟨rfl, hb⟩; refine ⟨_, rfl, ?_⟩; replace BK147 := ah.mk (aD (by ((exact BK147.out))) hb); replace BK148 := ah.mk (aD (by ((exact BK148.out))) hb); replace HB := ah.mk (ak HB.out hb); (try clear hb)))
  go_cut [5] (fun v5 wc => ∃ (kq : Nat) (x5_3 : Int), v5 = .int .i64 x5_3 ∧ ah (bN.j0 kq x5_3 a0_0 a0_1 a0_2 a0_3 a0_4 a1_0 a1_1 a1_2 a1_3 a1_4 = some r) ∧ ah (kq ≤ k) ∧ ah (wc.heap[gb147]? = some (.cells #[.string a0_0, .int .i64 a0_1, .int .i64 a0_2, .int .i64 a0_3, .string a0_4] 44 (0, 0))) ∧ ah (wc.heap[gb148]? = some (.cells #[.string a1_0, .int .i64 a1_1, .int .i64 a1_2, .int .i64 a1_3, .string a1_4] 44 (0, 0))) ∧ ah (Below w.heap.size w wc))
  case first =>
   have H := HC4.out
   clear HC4
   by_cases c11 : t149 = 0
   focus
    rw [if_pos c11] at H
    have c11b0 : (t149 == 0) = true := beq_iff_eq.mpr c11
    have c11b1 : (t149 != 0) = false := bne_eq_false_iff_eq.mpr c11
    clear c11
   rotate_left
   focus
    rw [if_neg c11] at H
    have c11b0 : (t149 == 0) = false := beq_eq_false_iff_ne.mpr c11
    have c11b1 : (t149 != 0) = true := bne_iff_ne.mpr c11
   rotate_left
   all_goals
    ((rw [c11b0]))
   ·obtain ⟨t150, A12, H⟩ := bP H
    have H' := ah.mk H
    clear H
    have hnb13 := NB147_148.out
    have hnc13 := NB148_147.out
    obtain ⟨hcz14_0, hcz14_1, hcz14_2, hcz14_3, hcz14_4, hfz14_0, hfz14_1, hfz14_2, hfz14_3, hfz14_4⟩ := z5_ BK147.out
    obtain ⟨hcz15_0, hcz15_1, hcz15_2, hcz15_3, hcz15_4, hfz15_0, hfz15_1, hfz15_2, hfz15_3, hfz15_4⟩ := z5_ BK148.out
    go_wp2_with (((refine gl_ (some 19) Tryz.func134 #[.int .i64 a0_1, .int .i64 a1_1] ?_; (with_reducible refine (gJ.calls a0_1 a1_1 t150 _ A12.out).mono ?_); rintro e w' ⟨rfl, ⟨nd, rfl⟩⟩; refine ⟨_, rfl, ?_⟩)))
    go_meet
    case rel => exact ⟨_, (t150), (by rfl), H', ⟨by omega⟩, ⟨by (with_reducible repeat ((refine aA ?_ _))); exact BK147.out⟩, ⟨by (with_reducible repeat ((refine aA ?_ _))); exact BK148.out⟩, ⟨by repeat ((with_reducible first | exact HB.out | apply aZ))⟩⟩
   ·have H' := ah.mk H
    clear H
    go_wp2
    go_meet
    case rel => exact ⟨_, (t149), (by rfl), H', ⟨by omega⟩, ⟨by (with_reducible repeat ((refine aA ?_ _))); exact BK147.out⟩, ⟨by (with_reducible repeat ((refine aA ?_ _))); exact BK148.out⟩, ⟨HB.out⟩⟩
  case rest =>
   clear HC4
   (try clear hcz8_0)
   (try clear hcz8_1)
   (try clear hcz8_2)
   (try clear hcz8_3)
   (try clear hcz8_4)
   (try clear hcz9_0)
   (try clear hcz9_1)
   (try clear hcz9_2)
   (try clear hcz9_3)
   (try clear hcz9_4)
   (try clear hfz8_0)
   (try clear hfz8_1)
   (try clear hfz8_2)
   (try clear hfz8_3)
   (try clear hfz8_4)
   (try clear hfz9_0)
   (try clear hfz9_1)
   (try clear hfz9_2)
   (try clear hfz9_3)
   (try clear hfz9_4)
   obtain ⟨kq, x5_3, rfl, HA, HJ3, BK147, BK148, HB⟩ := hcut
   cases kq with
   | zero => exact absurd HA.out (by simp [bN.j0])
   | succ kj3 =>
    have H := HA.out
    clear HA
    simp only [bN.j0] at H
    have HC16 := ah.mk H
    clear H
    go_upto_if 21 with (fail)
    go_cut [5] (fun v5 wc => ∃ (kq : Nat) (x5_15 : Int), v5 = .int .i64 x5_15 ∧ ah (bN.j1 kq x5_15 a0_0 a0_1 a0_2 a0_3 a0_4 a1_0 a1_1 a1_2 a1_3 a1_4 = some r) ∧ ah (kq ≤ kj3) ∧ ah (wc.heap[gb147]? = some (.cells #[.string a0_0, .int .i64 a0_1, .int .i64 a0_2, .int .i64 a0_3, .string a0_4] 44 (0, 0))) ∧ ah (wc.heap[gb148]? = some (.cells #[.string a1_0, .int .i64 a1_1, .int .i64 a1_2, .int .i64 a1_3, .string a1_4] 44 (0, 0))) ∧ ah (Below w.heap.size w wc))
    case first =>
     have H := HC16.out
     clear HC16
     by_cases c17 : x5_3 = 0
     focus
      rw [if_pos c17] at H
      have c17b0 : (x5_3 == 0) = true := beq_iff_eq.mpr c17
      have c17b1 : (x5_3 != 0) = false := bne_eq_false_iff_eq.mpr c17
      clear c17
     rotate_left
     focus
      rw [if_neg c17] at H
      have c17b0 : (x5_3 == 0) = false := beq_eq_false_iff_ne.mpr c17
      have c17b1 : (x5_3 != 0) = true := bne_iff_ne.mpr c17
     rotate_left
     all_goals
      ((rw [c17b0]))
     ·obtain ⟨t151, A18, H⟩ := bP H
      have H' := ah.mk H
      clear H
      have hnb19 := NB147_148.out
      have hnc19 := NB148_147.out
      obtain ⟨hcz20_0, hcz20_1, hcz20_2, hcz20_3, hcz20_4, hfz20_0, hfz20_1, hfz20_2, hfz20_3, hfz20_4⟩ := z5_ BK147.out
      obtain ⟨hcz21_0, hcz21_1, hcz21_2, hcz21_3, hcz21_4, hfz21_0, hfz21_1, hfz21_2, hfz21_3, hfz21_4⟩ := z5_ BK148.out
      go_wp2_with (((refine gl_ (some 26) Tryz.func134 #[.int .i64 a0_2, .int .i64 a1_2] ?_; (with_reducible refine (gJ.calls a0_2 a1_2 t151 _ A18.out).mono ?_); rintro e w' ⟨rfl, ⟨nd, rfl⟩⟩; refine ⟨_, rfl, ?_⟩)))
      go_meet
      case rel => exact ⟨_, (t151), (by rfl), H', ⟨by have := HJ3.out; omega⟩, ⟨by (with_reducible repeat ((refine aA ?_ _))); exact BK147.out⟩, ⟨by (with_reducible repeat ((refine aA ?_ _))); exact BK148.out⟩, ⟨by repeat ((with_reducible first | exact HB.out | apply aZ))⟩⟩
     ·have H' := ah.mk H
      clear H
      go_wp2
      go_meet
      case rel => exact ⟨_, (x5_3), (by rfl), H', ⟨by have := HJ3.out; omega⟩, ⟨by (with_reducible repeat ((refine aA ?_ _))); exact BK147.out⟩, ⟨by (with_reducible repeat ((refine aA ?_ _))); exact BK148.out⟩, ⟨HB.out⟩⟩
    case rest =>
     clear HC16
     obtain ⟨kq, x5_15, rfl, HA, HJ15, BK147, BK148, HB⟩ := hcut
     cases kq with
     | zero => exact absurd HA.out (by simp [bN.j1])
     | succ kj15 =>
      have H := HA.out
      clear HA
      simp only [bN.j1] at H
      by_cases c22 : x5_15 = 0
      focus
       rw [if_pos c22] at H
       have c22b0 : (x5_15 == 0) = true := beq_iff_eq.mpr c22
       have c22b1 : (x5_15 != 0) = false := bne_eq_false_iff_eq.mpr c22
       clear c22
       obtain ⟨t152, A23, H⟩ := bP H
       obtain ⟨t153, A24, H⟩ := bP H
       by_cases c25 : (Op.bytesLess t152.toList t153.toList) = true
       focus
        rw [if_pos c25] at H
        have c25b0 : (Op.bytesLess t152.toList t153.toList) = true := c25
        have c25b8 : (t153.toList == t152.toList) = false := sJ c25b0
        clear c25
       rotate_left
       focus
        rw [if_neg c25] at H
        have c25b0 : (Op.bytesLess t152.toList t153.toList) = false := by simpa using c25
        clear c25
        by_cases c29 : (Op.bytesLess t153.toList t152.toList) = true
        focus
         rw [if_pos c29] at H
         have c29b0 : (Op.bytesLess t153.toList t152.toList) = true := c29
         have c29b8 : (t152.toList == t153.toList) = false := sJ c29b0
        rotate_left
        focus
         rw [if_neg c29] at H
         have c29b0 : (Op.bytesLess t153.toList t152.toList) = false := by simpa using c29
         (try have c29b8 : (t152.toList == t153.toList) = true := wu (by assumption) c29b0)
        rotate_left
        all_goals
         clear c29
       rotate_left 2
       all_goals
        obtain rfl := Option.some.inj H
        (try go_wp2)
        replace BK147 := ah.mk (gB BK147.out)
        replace BK148 := ah.mk (gB BK148.out)
        replace HB := ah.mk (dx HB.out)
        refine gG (n := 6) (ds := []) (ls 6 0) (by kernel_rfl) rfl rfl (c5_ BK147.out (d5_ BK148.out)) (fun hHeld => ?_)
        generalize wc.drew = w26 at BK147 BK148 HB hHeld ⊢
        refine pW (i := 0) (N := some 30) (v := ?_) (a' := ?_) (ls 6 1) rfl rfl (by kernel_rfl) (fun _ _ _ h => h) (Or.inl ⟨by rfl, ?_⟩) hHeld ?_ ?_
        rotate_left
        ·rintro w' ⟨s0, s1, s2, s3, s4, s5, s6, s7, s8, s9⟩
         go_simp
         with_reducible rfl
        rotate_left
        ·simp only [Act.put, sA_, sZ_, sS_, bA, bS]
         rfl
        refine pW (i := 2) (N := some 32) (v := ?_) (a' := ?_) (ls 6 5) rfl rfl (by kernel_rfl) (fun _ _ _ h => h) (Or.inl ⟨by rfl, ?_⟩) hHeld ?_ ?_
        rotate_left
        ·rintro w' ⟨s0, s1, s2, s3, s4, s5, s6, s7, s8, s9⟩
         go_simp
         with_reducible rfl
        rotate_left
        ·simp only [Act.put, sA_, sZ_, sS_, bA, bS]
         rfl
        refine lY (i := 1) (N := some 31) (ls 6 7) rfl rfl (by kernel_rfl) (by decide) (fun K hK => ?_)
        refine gs_ Tryz.func117 #[.agg #[.string a0_0, .int .i64 a0_1, .int .i64 a0_2, .int .i64 a0_3, .string a0_4]] ?_
        with_reducible refine (gH.calls kj15 a0_0 a0_1 a0_2 a0_3 a0_4 t152 _ A23.out).mono ?_
        rintro e w27 ⟨rfl, hb⟩
        refine ⟨_, rfl, ?_⟩
        replace BK147 := ah.mk (aD (by ((exact BK147.out))) hb)
        replace BK148 := ah.mk (aD (by ((exact BK148.out))) hb)
        replace HB := ah.mk (ak HB.out hb)
        (try clear hb)
        refine hK.out _ _ (c5_ BK147.out (d5_ BK148.out)) (fun hHeld => ?_)
        clear hK K
        refine nm_ (N := (some 31)) ?_
        refine lY (i := 3) (N := some 33) (ls 6 15) rfl rfl (by kernel_rfl) (by decide) (fun K hK => ?_)
        refine gs_ Tryz.func117 #[.agg #[.string a1_0, .int .i64 a1_1, .int .i64 a1_2, .int .i64 a1_3, .string a1_4]] ?_
        with_reducible refine (gH.calls kj15 a1_0 a1_1 a1_2 a1_3 a1_4 t153 _ A24.out).mono ?_
        rintro e w28 ⟨rfl, hb⟩
        refine ⟨_, rfl, ?_⟩
        replace BK147 := ah.mk (aD (by ((exact BK147.out))) hb)
        replace BK148 := ah.mk (aD (by ((exact BK148.out))) hb)
        replace HB := ah.mk (ak HB.out hb)
        (try clear hb)
        refine hK.out _ _ (c5_ BK147.out (d5_ BK148.out)) (fun hHeld => ?_)
        clear hK K
        refine nm_ (N := (some 33)) ?_
        refine nu (i := 4) (N := some 6) (v := ?_) (a' := ?_) (ls 6 31) rfl rfl (by kernel_rfl) (fun _ _ _ h => h) (Or.inl ⟨by rfl, ?_⟩) ?_ ?_
        rotate_left
        ·intro w'
         go_simp
         with_reducible rfl
        rotate_left
        ·simp only [Act.put, sA_, sZ_, sS_, bA, bS]
         rfl
        refine nu (i := 5) (N := some 7) (v := ?_) (a' := ?_) (ls 6 63) rfl rfl (by kernel_rfl) (fun _ _ _ h => h) (Or.inl ⟨by rfl, ?_⟩) ?_ ?_
        rotate_left
        ·intro w'
         go_simp
         with_reducible rfl
        rotate_left
        ·simp only [Act.put, sA_, sZ_, sS_, bA, bS]
         rfl
        refine jJ (by kernel_rfl) ?_
        (try go_wp2)
      rotate_left 3
      focus
       rw [if_neg c22] at H
       have c22b0 : (x5_15 == 0) = false := beq_eq_false_iff_ne.mpr c22
       have c22b1 : (x5_15 != 0) = true := bne_iff_ne.mpr c22
       obtain rfl := Option.some.inj H
       go_wp2
      rotate_left
      all_goals
       go_ret
       exact ⟨by rfl, HB.out⟩
end Go.Y.PRr
namespace Go.Y.Rrs
open Go.RowKit Go.V.aC Go.V.aV Go.V.aX Go.Y.Given Go.Y.PRd Go.Y.PRr Go.Y.Oct Go.Y.Name Go.Y.Cmp Go.Y.gu Go.Y.fQ Go.Y.iD
theorem Jb (a b : Int) : gJ.f a b = some (nA a b) := by
 unfold gJ.f nA
 repeat' split
 all_goals rfl
theorem GV (x : RR) (hx : x.f4.size ≤ 100000) (k : Nat) (hk : FU + 2000 ≤ k) : gH.f k x.f0 x.f1 x.f2 x.f3 x.f4 = some (kK x) := by
 unfold gH.f kK
 rw [tZ x.f1 x.f4 (by omega) k hk, GQ x.f1 x.f4 (by omega) k hk]
 simp only [Option.bind_some]
 split <;> rfl
theorem Hr (x y : RR) (hx : bG x.f0 = true) (hy : bG y.f0 = true) (sx : x.f4.size ≤ 100000) (sy : y.f4.size ≤ 100000) (k : Nat) (hk : FU + 4000 ≤ k) : bN.f k x.f0 x.f1 x.f2 x.f3 x.f4 y.f0 y.f1 y.f2 y.f3 y.f4 = some (aW x y) := by
 obtain ⟨l, gl, sl, el, kl⟩ := nL x hx
 obtain ⟨m, gm, sm, em, km⟩ := nL y hy
 have hk2 : 4000 ≤ k := Nat.le_trans (Nat.le_add_left _ _) hk
 have hF : FU + 2000 ≤ k - 2 := Nat.le_sub_of_add_le (Nat.le_trans (Nat.add_le_add_left (show 2000 + 2 ≤ 4000 by decide) FU) hk)
 generalize hFU : FU + 2000 = F at hF
 have hs1 : ∀ z : RR, z.f4.size ≤ 100000 → gH.f (k - 2) z.f0 z.f1 z.f2 z.f3 z.f4 = some (kK z) := fun z hz => GV z hz (k - 2) (by rw [hFU]; exact hF)
 clear hF hFU hk
 obtain ⟨k, rfl⟩ : ∃ j, k = j + 2 := ⟨k - 2, by omega⟩
 rw [Nat.add_sub_cancel] at hs1
 have hx1 := hs1 x sx
 have hy1 := hs1 y sy
 unfold bN.f
 rw [el] at hx1 ⊢
 rw [em] at hy1 ⊢
 rw [yN l m gl gm sl sm _ (by omega), Option.bind_some]
 have hc : FC l m = cmpL (je x) (je y) := by rw [kl, km]; rfl
 simp only [bN.j0, bN.j1, Jb, hx1, hy1, Option.bind_some, hc]
 unfold aW kJ
 simp only []
 by_cases a0 : cmpL (je x) (je y) = 0
 ·by_cases a1 : nA x.f1 y.f1 = 0
  ·by_cases a2 : nA x.f2 y.f2 = 0
   ·simp only [a0, a1, a2, if_true]
    rcases lG (kK x).toList (kK y).toList with ⟨h, e⟩ | ⟨h, e⟩ | ⟨h, e⟩
    ·rw [e, if_pos h]
    ·rw [e, h, if_neg (by rw [Given.pO]; decide), if_neg (by rw [Given.pO]; decide)]
    ·rw [e]
     by_cases h2 : Op.bytesLess (kK x).toList (kK y).toList = true
     ·rw [vv h2] at e; exact absurd e (by decide)
     ·rw [if_neg h2, if_pos h]
   ·simp only [a0, a1, a2, if_true, if_false]
  ·simp only [a0, a1, if_true, if_false]
 ·simp only [a0, if_false]
end Go.Y.Rrs
namespace Go.Y.PRr
open Go.RowKit Go.V.aC Go.V.aV Go.V.aX Go.Y.Given Go.Y.PRd
attribute [local go_sem] dP dQ eu eB dD dF dR dS   -- for this text's walks alone
theorem Cb (d : Nat) (w : World) (x0 y0 : ByteArray) (x1 y1 : Int) (x2 y2 : Int) (x3 y3 : Int) (x4 y4 : ByteArray) :
  (Op.equalIn (d + 2) 44 (.agg #[.string x0, .int .i64 x1, .int .i64 x2, .int .i64 x3, .string x4]) (.agg #[.string y0, .int .i64 y1, .int .i64 y2, .int .i64 y3, .string y4])).run Tryz.prog w = .ok (x0.toList == y0.toList && (x1 == y1 && (x2 == y2 && (x3 == y3 && (x4.toList == y4.toList))))) w := by
 refine Dl Tryz.underlying44 (by kernel_rfl) ?_
 refine lH (by rfl) (by go_simp; rfl) (by go_simp; rfl) (by go_simp) ?_
 refine lH (by rfl) (by go_simp; rfl) (by go_simp; rfl) (by go_simp) ?_
 refine lH (by rfl) (by go_simp; rfl) (by go_simp; rfl) (by go_simp) ?_
 refine lH (by rfl) (by go_simp; rfl) (by go_simp; rfl) (by go_simp) ?_
 exact zw (by rfl) (by go_simp; rfl) (by go_simp; rfl) (by go_simp)
end Go.Y.PRr
namespace Go.Y.PRr
open Go.RowKit Go.V.aC Go.V.aV Go.V.aX Go.Y.Given Go.Y.PRd
attribute [local go_sem] dP dQ eu eB dD dF dR dS   -- for this text's walks alone
def jw.T1 : Bool × List (List Nat × List Nat) := (true, [([], []), ([0], [0]), ([], []), ([2], [2]), ([1, 3], [1, 3]), ([4, 4], [4]), ([5], [5]), ([6, 5], [5, 6]), ([5], [5]), ([8, 5], [5, 8]), ([7, 9, 5], [5, 7, 9]), ([5, 10], [5, 10]), ([11, 5], [11]), ([12], [12]), ([13, 12], [12, 13]), ([12], [12]), ([15, 12], [12, 15]), ([14, 16, 12], [12, 14, 16]), ([12, 17], [12, 17]), ([18, 12], [18]), ([19], [19]), ([20, 19, 19], [19, 20]), ([19], [19]), ([22, 21, 19], [19, 22]), ([21, 23, 19], [19, 21, 23]), ([19, 24], [19, 24]), ([25, 23, 0, 1, 2, 3, 4, 5, 6, 7, 8, 9, 10, 11, 12, 13, 14, 15, 16, 17, 18, 19, 20, 21, 22, 23, 24, 25], [25])])
def jw.B1 : List Nat := [0, 1, 0, 4, 15, 31, 63, 127, 63, 319, 1023, 2047, 4095, 8191, 16383, 8191, 40959, 131071, 262143, 524287, 1048575, 2097151, 1048575, 8388607, 16777215, 33554431, 67108863]
theorem jw.AU : fK .any (opsOf Tryz.f95 1) = jw.T1 := by kernel_rfl
theorem jw.xW : fP jw.T1.2 jw.B1 = true := by kernel_rfl
end Go.Y.PRr
namespace Go.Y.PRr
open Go.RowKit Go.V.aC Go.V.aV Go.V.aX Go.Y.Given Go.Y.PRd
attribute [local go_sem] dP dQ eu eB dD dF dR dS   -- for this text's walks alone
attribute [local go_sem high] Cb
def cK.l0 : Nat → List (S44) → List (S44) → Int → Option (Bool)
 | 0, _, _, _ => none
 | k + 1, x0, x1, x5 => if x5 < (x0.length : Int) then (if 0 ≤ x5 then (if x5 < (x1.length : Int) then (if (!((((aj x0 x5).f0).toList) == (((aj x1 x5).f0).toList)) || (!(((aj x0 x5).f1) == ((aj x1 x5).f1)) || (!(((aj x0 x5).f2) == ((aj x1 x5).f2)) || (!(((aj x0 x5).f3) == ((aj x1 x5).f3)) || (!((((aj x0 x5).f4).toList) == (((aj x1 x5).f4).toList))))))) = true then (some false) else (cK.l0 k x0 x1 (wrap64 (x5 + 1)))) else (none)) else (none)) else (some true)
def cK.f (k : Nat) (l0 : List (S44)) (l1 : List (S44)) : Option (Bool) := if (l0.length : Int) = (l1.length : Int) then (cK.l0 k l0 l1 0) else (some false)
theorem cK.calls (k : Nat) (A0 : Option Addr) (c0 : Nat) (l0 : List (S44)) (A1 : Option Addr) (c1 : Nat) (l1 : List (S44)) (r : Bool) (w : World) (hr0 : Kd.C k44 w A0 l0.length l0) (hc0 : l0.length ≤ c0) (hr1 : Kd.C k44 w A1 l1.length l1) (hc1 : l1.length ≤ c1) (h : cK.f k l0 l1 = some r) :
  Calls Tryz.prog 13 #[.slice A0 l0.length c0, .slice A1 l1.length c1] w fun e w' => e = .returned (.bool r) ∧ aY w w' := by
 have hu44 := Tryz.underlying44
 have HR0 := ah.mk hr0
 have HC0 := ah.mk hc0
 clear hr0 hc0
 have HR1 := ah.mk hr1
 have HC1 := ah.mk hc1
 clear hr1 hc1
 have H : (if (l0.length : Int) = (l1.length : Int) then (cK.l0 k l0 l1 0) else (some false)) = some r := h
 clear h
 by_cases c3 : (l0.length : Int) = (l1.length : Int)
 ·rw [if_pos c3] at H
  have c3b0 : ((l0.length : Int) == (l1.length : Int)) = true := beq_iff_eq.mpr c3
  have c3b1 : ((l0.length : Int) != (l1.length : Int)) = false := bne_eq_false_iff_eq.mpr c3
  have c3b2 : (l0.length == l1.length) = true := by (simp at c3 ⊢; omega)
  clear c3
  have H' := ah.mk H
  clear H
  go_enter Tryz.func13, Tryz.ntmps13
  go_wp2
  repeat (go_quiet (fail); try go_wp2)
  go_loopg [5] k (fun kq v5 w' => ∃ (x5_1 : Int), v5 = .int .i64 x5_1 ∧ ah (cK.l0 kq l0 l1 x5_1 = some r) ∧ ah (kq ≤ k) ∧ aY w w')
  case atStart => exact ⟨(0), (by rfl), H', ⟨Nat.le_refl _⟩, by repeat ((exact aY.refl _))⟩
  case round =>
   clear H'
   (try clear c3b0)
   (try clear c3b1)
   (try clear c3b2)
   obtain ⟨x5_1, rfl, HA, HK1, ⟨m1, rfl⟩⟩ := hrel
   cases gk with
   | zero => exact absurd HA.out (by simp [cK.l0])
   | succ k1 =>
    have H := HA.out
    clear HA
    simp only [cK.l0] at H
    by_cases c4 : x5_1 < (l0.length : Int)
    ·rw [if_pos c4] at H
     have c4b0 : decide (x5_1 < (l0.length : Int)) = true := decide_eq_true c4
     clear c4
     by_cases c5 : 0 ≤ x5_1
     ·rw [if_pos c5] at H
      have c5b0 : decide (0 ≤ x5_1) = true := decide_eq_true c5
      clear c5
      by_cases c6 : x5_1 < (l1.length : Int)
      ·rw [if_pos c6] at H
       have c6b0 : decide (x5_1 < (l1.length : Int)) = true := decide_eq_true c6
       clear c6
       by_cases c7 : (!((((aj l0 x5_1).f0).toList) == (((aj l1 x5_1).f0).toList)) || (!(((aj l0 x5_1).f1) == ((aj l1 x5_1).f1)) || (!(((aj l0 x5_1).f2) == ((aj l1 x5_1).f2)) || (!(((aj l0 x5_1).f3) == ((aj l1 x5_1).f3)) || (!((((aj l0 x5_1).f4).toList) == (((aj l1 x5_1).f4).toList))))))) = true
       ·rw [if_pos c7] at H
        have c7b0 : (!((((aj l0 x5_1).f0).toList) == (((aj l1 x5_1).f0).toList)) || (!(((aj l0 x5_1).f1) == ((aj l1 x5_1).f1)) || (!(((aj l0 x5_1).f2) == ((aj l1 x5_1).f2)) || (!(((aj l0 x5_1).f3) == ((aj l1 x5_1).f3)) || (!((((aj l0 x5_1).f4).toList) == (((aj l1 x5_1).f4).toList))))))) = true := c7
        clear c7
        obtain rfl := Option.some.inj H
        have p159 : 0 ≤ (x5_1 : Int) := of_decide_eq_true (by assumption)
        have q159 : x5_1 < (l0.length : Int) := of_decide_eq_true (by assumption)
        obtain ⟨ad159, e159, hx159_0, hx159_1, hx159_2, hx159_3, hx159_4⟩ := dM HR0.out x5_1 p159 q159
        cases e159
        replace p159 := eq_true p159
        replace q159 := eq_true q159
        have p160 : 0 ≤ (x5_1 : Int) := of_decide_eq_true (by assumption)
        have q160 : x5_1 < (l1.length : Int) := of_decide_eq_true (by assumption)
        obtain ⟨ad160, e160, hx160_0, hx160_1, hx160_2, hx160_3, hx160_4⟩ := dM HR1.out x5_1 p160 q160
        cases e160
        replace p160 := eq_true p160
        replace q160 := eq_true q160
        go_wp2
        repeat (go_quiet (fail); try go_wp2)
        go_ret
        exact ⟨by rfl, by repeat (first | exact aY.refl _ | apply aY.step)⟩
       ·rw [if_neg c7] at H
        have c7b0 : (!((((aj l0 x5_1).f0).toList) == (((aj l1 x5_1).f0).toList)) || (!(((aj l0 x5_1).f1) == ((aj l1 x5_1).f1)) || (!(((aj l0 x5_1).f2) == ((aj l1 x5_1).f2)) || (!(((aj l0 x5_1).f3) == ((aj l1 x5_1).f3)) || (!((((aj l0 x5_1).f4).toList) == (((aj l1 x5_1).f4).toList))))))) = false := by simpa using c7
        clear c7
        have H' := ah.mk H
        clear H
        have p159 : 0 ≤ (x5_1 : Int) := of_decide_eq_true (by assumption)
        have q159 : x5_1 < (l0.length : Int) := of_decide_eq_true (by assumption)
        obtain ⟨ad159, e159, hx159_0, hx159_1, hx159_2, hx159_3, hx159_4⟩ := dM HR0.out x5_1 p159 q159
        cases e159
        replace p159 := eq_true p159
        replace q159 := eq_true q159
        have p160 : 0 ≤ (x5_1 : Int) := of_decide_eq_true (by assumption)
        have q160 : x5_1 < (l1.length : Int) := of_decide_eq_true (by assumption)
        obtain ⟨ad160, e160, hx160_0, hx160_1, hx160_2, hx160_3, hx160_4⟩ := dM HR1.out x5_1 p160 q160
        cases e160
        replace p160 := eq_true p160
        replace q160 := eq_true q160
        go_wp2
        repeat (go_quiet (fail); try go_wp2)
        go_roundg k1
        case measure => have := HK1.out; omega
        case rel => exact ⟨(wrap64 (x5_1 + 1)), (by rfl), H', ⟨by have := HK1.out; omega⟩, by repeat (first | exact aY.refl _ | apply aY.step)⟩
      ·rw [if_neg c6] at H
       exact absurd H (by simp)
     ·rw [if_neg c5] at H
      exact absurd H (by simp)
    ·rw [if_neg c4] at H
     have c4b0 : decide (x5_1 < (l0.length : Int)) = false := decide_eq_false c4
     clear c4
     obtain rfl := Option.some.inj H
     go_wp2
     repeat (go_quiet (fail); try go_wp2)
     go_ret
     exact ⟨by rfl, by repeat (first | exact aY.refl _ | apply aY.step)⟩
 ·rw [if_neg c3] at H
  have c3b0 : ((l0.length : Int) == (l1.length : Int)) = false := beq_eq_false_iff_ne.mpr c3
  have c3b1 : ((l0.length : Int) != (l1.length : Int)) = true := bne_iff_ne.mpr c3
  have c3b2 : (l0.length == l1.length) = false := by (simp at c3 ⊢; omega)
  obtain rfl := Option.some.inj H
  go_enter Tryz.func13, Tryz.ntmps13
  go_wp2
  repeat (go_quiet (fail); try go_wp2)
  go_ret
  exact ⟨by rfl, by repeat ((exact aY.refl _))⟩
mutual
def aJ.l0 : Nat → List (S44) → List (S44) → Bool → Int → ByteArray → Int → Int → Int → ByteArray → Option ((List (S44)))
 | 0, _, _, _, _, _, _, _, _, _ => none
 | k + 1, x0, x5, x6, x7, x162000, x162001, x162002, x162003, x162004 => if x7 < (x0.length : Int) then (if 0 ≤ x7 then ((bN.f k x162000 x162001 x162002 x162003 x162004 ((aj x0 x7).f0) ((aj x0 x7).f1) ((aj x0 x7).f2) ((aj x0 x7).f3) ((aj x0 x7).f4)).bind fun t166 => (if t166 ≤ 0 then (aJ.j1 k x0 x5 x6 x7 t166 (!x6) x162000 x162001 x162002 x162003 x162004) else (aJ.j1 k x0 x5 x6 x7 t166 false x162000 x162001 x162002 x162003 x162004))) else (none)) else (if x6 = true then (some x5) else (if x5.length < 2513169434916 then (some (x5 ++ [(⟨x162000, x162001, x162002, x162003, x162004⟩ : S44)])) else (none)))
def aJ.j1 : Nat → List (S44) → List (S44) → Bool → Int → Int → Bool → ByteArray → Int → Int → Int → ByteArray → Option ((List (S44)))
 | 0, _, _, _, _, _, _, _, _, _, _, _ => none
 | k + 1, x0, x5, x6, x7, x8, x26, x162000, x162001, x162002, x162003, x162004 => if x26 = true then (if x5.length < 2513169434916 then ((some (x5 ++ [(⟨x162000, x162001, x162002, x162003, x162004⟩ : S44)] : List (S44))).bind fun y167 => (if x8 = 0 then (aJ.l0 k x0 y167 true (wrap64 (x7 + 1)) x162000 x162001 x162002 x162003 x162004) else (if 0 ≤ x7 then (if x7 < (x0.length : Int) then (if y167.length < 2513169434916 then (aJ.l0 k x0 (y167 ++ [(⟨(aj x0 x7).f0, (aj x0 x7).f1, (aj x0 x7).f2, (aj x0 x7).f3, (aj x0 x7).f4⟩ : S44)]) true (wrap64 (x7 + 1)) x162000 x162001 x162002 x162003 x162004) else (none)) else (none)) else (none)))) else (none)) else (if x8 = 0 then (aJ.l0 k x0 x5 x6 (wrap64 (x7 + 1)) x162000 x162001 x162002 x162003 x162004) else (if 0 ≤ x7 then (if x7 < (x0.length : Int) then (if x5.length < 2513169434916 then (aJ.l0 k x0 (x5 ++ [(⟨(aj x0 x7).f0, (aj x0 x7).f1, (aj x0 x7).f2, (aj x0 x7).f3, (aj x0 x7).f4⟩ : S44)]) x6 (wrap64 (x7 + 1)) x162000 x162001 x162002 x162003 x162004) else (none)) else (none)) else (none)))
end
def aJ.f (k : Nat) (l0 : List (S44)) (a1_0 : ByteArray) (a1_1 : Int) (a1_2 : Int) (a1_3 : Int) (a1_4 : ByteArray) : Option ((List (S44))) := aJ.l0 k l0 ([] : List (S44)) false 0 a1_0 a1_1 a1_2 a1_3 a1_4
theorem aJ.calls (k : Nat) (A0 : Option Addr) (c0 : Nat) (l0 : List (S44)) (a1_0 : ByteArray) (a1_1 : Int) (a1_2 : Int) (a1_3 : Int) (a1_4 : ByteArray) (r : List (S44)) (w : World) (hr0 : Kd.C k44 w A0 l0.length l0) (hc0 : l0.length ≤ c0) (h : aJ.f k l0 a1_0 a1_1 a1_2 a1_3 a1_4 = some r) :
  Calls Tryz.prog 71 #[.slice A0 l0.length c0, .agg #[.string a1_0, .int .i64 a1_1, .int .i64 a1_2, .int .i64 a1_3, .string a1_4]] w fun e w' => ∃ v0_ : Value, e = .returned (v0_) ∧ Kd.R k44 44 w' w.heap.size (fun _ => True) v0_ r ∧ Below w.heap.size w w' := by
 have hu44 := Tryz.underlying44
 have HR0 := ah.mk hr0
 have HC0 := ah.mk hc0
 clear hr0 hc0
 have HB := ah.mk (Below.refl w.heap.size w)
 have H : (aJ.l0 k l0 ([] : List (S44)) false 0 a1_0 a1_1 a1_2 a1_3 a1_4) = some r := h
 clear h
 have H' := ah.mk H
 clear H
 go_enter Tryz.func71, Tryz.ntmps71
 go_wp2_with ((((with_reducible refine bF (N := 3) rfl ?_); refine bQ ?hg (N := 3) ?hd (cs := #[.string a1_0, .int .i64 a1_1, .int .i64 a1_2, .int .i64 a1_3, .string a1_4]) (t := 44) ?hr ?_; (case hd => rfl); (case hg => rfl); (case hr => (go_simp; done)); intro gb161 hg w3 hbox hb; have BK161 := ah.mk (hbox); have GW161 := ah.mk ((by rw [hg]; exact (av (by repeat ((with_reducible (exact HB.out))))) : w.heap.size ≤ gb161)); have GE161 := ah.mk ((by rw [hg]; exact (av (by repeat ((with_reducible (exact HB.out))))) : w.heap.size ≤ gb161)); replace HB := ah.mk (ak (by repeat ((with_reducible (exact HB.out)))) hb); clear hb hbox hg)))
 go_loopg [5, 6, 7] k (fun kq v5 v6 v7 w' => ∃ (x5_1 : List (S44)) (x6_1 : Bool) (x7_1 : Int), v6 = .bool x6_1 ∧ v7 = .int .i64 x7_1 ∧ ah (aJ.l0 kq l0 x5_1 x6_1 x7_1 a1_0 a1_1 a1_2 a1_3 a1_4 = some r) ∧ ah (kq ≤ k) ∧ ah (Kd.R k44 44 w' w.heap.size (fun k_ => k_ ≠ gb161) v5 x5_1) ∧ ah (w'.heap[gb161]? = some (.cells #[.string a1_0, .int .i64 a1_1, .int .i64 a1_2, .int .i64 a1_3, .string a1_4] 44 (0, 0))) ∧ ah (Below w.heap.size w w'))
 case atStart => exact ⟨(([] : List (S44))), (false), (0), (by rfl), (by rfl), H', ⟨Nat.le_refl _⟩, ⟨by (exact Kd.gq _ _ _ _ _)⟩, ⟨by (with_reducible repeat ((refine aA ?_ _))); exact BK161.out⟩, ⟨by repeat ((with_reducible (exact HB.out)))⟩⟩
 case round =>
  clear H'
  obtain ⟨x5_1, x6_1, x7_1, rfl, rfl, HA, HK1, HO_5, BK161, HB⟩ := hrel
  cases gk with
  | zero => exact absurd HA.out (by simp [aJ.l0])
  | succ k1 =>
   have H := HA.out
   clear HA
   simp only [aJ.l0] at H
   by_cases c4 : x7_1 < (l0.length : Int)
   ·rw [if_pos c4] at H
    have c4b0 : decide (x7_1 < (l0.length : Int)) = true := decide_eq_true c4
    clear c4
    by_cases c5 : 0 ≤ x7_1
    ·rw [if_pos c5] at H
     have c5b0 : decide (0 ≤ x7_1) = true := decide_eq_true c5
     clear c5
     replace H := Option.bind_eq_some_iff.mp H
     obtain ⟨t166, A60, H⟩ := H
     replace H : (if t166 ≤ 0 then (aJ.j1 k1 l0 x5_1 x6_1 x7_1 t166 (!x6_1) a1_0 a1_1 a1_2 a1_3 a1_4) else (aJ.j1 k1 l0 x5_1 x6_1 x7_1 t166 false a1_0 a1_1 a1_2 a1_3 a1_4)) = some r := H
     have A6 := ah.mk A60
     clear A60
     have HC7 := ah.mk H
     clear H
     (try go_wp2)
     replace HO_5 := ah.mk (Kd.fU HO_5.out)
     replace BK161 := ah.mk (gB BK161.out)
     replace HB := ah.mk (dx HB.out)
     have p165 : 0 ≤ (x7_1 : Int) := of_decide_eq_true (by assumption)
     have q165 : x7_1 < (l0.length : Int) := of_decide_eq_true (by assumption)
     obtain ⟨ad165, e165, hx165_0, hx165_1, hx165_2, hx165_3, hx165_4⟩ := dM HR0.out x7_1 p165 q165
     have hw165_4 := hx165_4
     have hw165_3 := hx165_3
     have hw165_2 := hx165_2
     have hw165_1 := hx165_1
     have hw165_0 := hx165_0
     cases e165
     replace hx165_0 := (HB.out.cell (World.block_lt_of_cell? w _ hx165_0)).trans hx165_0
     replace hx165_1 := (HB.out.cell (World.block_lt_of_cell? w _ hx165_1)).trans hx165_1
     replace hx165_2 := (HB.out.cell (World.block_lt_of_cell? w _ hx165_2)).trans hx165_2
     replace hx165_3 := (HB.out.cell (World.block_lt_of_cell? w _ hx165_3)).trans hx165_3
     replace hx165_4 := (HB.out.cell (World.block_lt_of_cell? w _ hx165_4)).trans hx165_4
     replace p165 := eq_true p165
     replace q165 := eq_true q165
     refine gG (n := 7) (S := fun w' => w'.cell? ⟨gb161, 0, none⟩ = some (.string a1_0) ∧ w'.cell? ⟨gb161, 1, none⟩ = some (.int .i64 a1_1) ∧ w'.cell? ⟨gb161, 2, none⟩ = some (.int .i64 a1_2) ∧ w'.cell? ⟨gb161, 3, none⟩ = some (.int .i64 a1_3) ∧ w'.cell? ⟨gb161, 4, none⟩ = some (.string a1_4) ∧ w'.cell? (ad165.add ((x7_1).toNat * 5)) = some (.string ((aj l0 x7_1).f0)) ∧ w'.cell? ⟨(ad165.add ((x7_1).toNat * 5)).block, (ad165.add ((x7_1).toNat * 5)).off + 1, none⟩ = some (.int .i64 ((aj l0 x7_1).f1)) ∧ w'.cell? ⟨(ad165.add ((x7_1).toNat * 5)).block, (ad165.add ((x7_1).toNat * 5)).off + 2, none⟩ = some (.int .i64 ((aj l0 x7_1).f2)) ∧ w'.cell? ⟨(ad165.add ((x7_1).toNat * 5)).block, (ad165.add ((x7_1).toNat * 5)).off + 3, none⟩ = some (.int .i64 ((aj l0 x7_1).f3)) ∧ w'.cell? ⟨(ad165.add ((x7_1).toNat * 5)).block, (ad165.add ((x7_1).toNat * 5)).off + 4, none⟩ = some (.string ((aj l0 x7_1).f4))) (ds := []) #[false, false, false, false, false, false, false] (by kernel_rfl) rfl rfl ⟨(aH BK161.out 0).trans rfl, (aH BK161.out 1).trans rfl, (aH BK161.out 2).trans rfl, (aH BK161.out 3).trans rfl, (aH BK161.out 4).trans rfl, ((HB.out.cell (World.block_lt_of_cell? w _ hw165_0)).trans hw165_0), ((HB.out.cell (World.block_lt_of_cell? w _ hw165_1)).trans hw165_1), ((HB.out.cell (World.block_lt_of_cell? w _ hw165_2)).trans hw165_2), ((HB.out.cell (World.block_lt_of_cell? w _ hw165_3)).trans hw165_3), ((HB.out.cell (World.block_lt_of_cell? w _ hw165_4)).trans hw165_4)⟩ (fun hHeld => ?_)
     generalize wr.drew = w8 at HO_5 BK161 HB hx165_0 hx165_1 hx165_2 hx165_3 hx165_4 hHeld ⊢
     refine nu (i := 1) (N := some 16) (v := ?_) (a' := ?_) #[false, true, false, false, false, false, false] rfl rfl (by kernel_rfl) (fun _ _ _ h => h) (Or.inl ⟨by rfl, ?_⟩) ?_ ?_
     rotate_left
     ·intro w'
      go_simp
      with_reducible rfl
     rotate_left
     ·simp only [Act.put, List.setIfInBounds_toArray, List.set_cons_zero, List.set_cons_succ, bA, bS]
      rfl
     refine nu (i := 2) (N := some 17) (v := ?_) (a' := ?_) #[false, true, true, false, false, false, false] rfl rfl (by kernel_rfl) (fun _ _ _ h => h) (Or.inl ⟨by rfl, ?_⟩) ?_ ?_
     rotate_left
     ·intro w'
      go_simp
      with_reducible rfl
     rotate_left
     ·simp only [Act.put, List.setIfInBounds_toArray, List.set_cons_zero, List.set_cons_succ, bA, bS]
      rfl
     refine nu (i := 3) (N := some 18) (v := ?_) (a' := ?_) #[false, true, true, true, false, false, false] rfl rfl (by kernel_rfl) (fun _ _ _ h => h) (Or.inl ⟨by rfl, ?_⟩) ?_ ?_
     rotate_left
     ·intro w'
      go_simp
      with_reducible rfl
     rotate_left
     ·simp only [Act.put, List.setIfInBounds_toArray, List.set_cons_zero, List.set_cons_succ, bA, bS]
      rfl
     refine pW (i := 0) (N := some 15) (v := ?_) (a' := ?_) #[true, true, true, true, false, false, false] rfl rfl (by kernel_rfl) (fun _ _ _ h => h) (Or.inl ⟨by rfl, ?_⟩) hHeld ?_ ?_
     rotate_left
     ·rintro w' ⟨s0, s1, s2, s3, s4, s5, s6, s7, s8, s9⟩
      go_simp
      with_reducible rfl
     rotate_left
     ·simp only [Act.put, List.setIfInBounds_toArray, List.set_cons_zero, List.set_cons_succ, bA, bS]
      rfl
     refine pW (i := 4) (N := some 19) (v := ?_) (a' := ?_) #[true, true, true, true, true, false, false] rfl rfl (by kernel_rfl) (fun _ _ _ h => h) (Or.inl ⟨by rfl, ?_⟩) hHeld ?_ ?_
     rotate_left
     ·rintro w' ⟨s0, s1, s2, s3, s4, s5, s6, s7, s8, s9⟩
      go_simp
      with_reducible rfl
     rotate_left
     ·simp only [Act.put, List.setIfInBounds_toArray, List.set_cons_zero, List.set_cons_succ, bA, bS]
      rfl
     refine lY (i := 5) (N := some 20) #[true, true, true, true, true, true, false] rfl rfl (by kernel_rfl) (by decide) (fun K hK => ?_)
     refine mW Tryz.func106 (by kernel_rfl) rfl #[.agg #[.string a1_0, .int .i64 a1_1, .int .i64 a1_2, .int .i64 a1_3, .string a1_4], .agg #[.string ((aj l0 x7_1).f0), .int .i64 ((aj l0 x7_1).f1), .int .i64 ((aj l0 x7_1).f2), .int .i64 ((aj l0 x7_1).f3), .string ((aj l0 x7_1).f4)]] (by rfl) rfl rfl (by (try simp only [List.map_toArray, List.map_cons, List.map_nil]); rfl) ?_
     with_reducible refine (bN.calls k1 a1_0 a1_1 a1_2 a1_3 a1_4 ((aj l0 x7_1).f0) ((aj l0 x7_1).f1) ((aj l0 x7_1).f2) ((aj l0 x7_1).f3) ((aj l0 x7_1).f4) t166 _ A6.out).mono ?_
     rintro e w9 ⟨rfl, hb⟩
     refine ⟨_, rfl, ?_⟩
     replace HO_5 := ah.mk (Kd.bI (by ((exact HO_5.out))) hb)
     replace BK161 := ah.mk (aD (by ((exact BK161.out))) hb)
     replace HB := ah.mk (ak (by repeat ((with_reducible (exact HB.out)))) hb)
     (try clear hb)
     refine hK.out _ _ ⟨(aH BK161.out 0).trans rfl, (aH BK161.out 1).trans rfl, (aH BK161.out 2).trans rfl, (aH BK161.out 3).trans rfl, (aH BK161.out 4).trans rfl, ((HB.out.cell (World.block_lt_of_cell? w _ hw165_0)).trans hw165_0), ((HB.out.cell (World.block_lt_of_cell? w _ hw165_1)).trans hw165_1), ((HB.out.cell (World.block_lt_of_cell? w _ hw165_2)).trans hw165_2), ((HB.out.cell (World.block_lt_of_cell? w _ hw165_3)).trans hw165_3), ((HB.out.cell (World.block_lt_of_cell? w _ hw165_4)).trans hw165_4)⟩ (fun hHeld => ?_)
     clear hK K
     refine jE (a' := ?_) ?_ ?_
     rotate_left
     ·show Act.put _ (some 20) _ = _
      simp only [Act.put, List.setIfInBounds_toArray, List.set_cons_zero, List.set_cons_succ, bA, bS]
      rfl
     refine nu (i := 6) (N := some 8) (v := ?_) (a' := ?_) #[true, true, true, true, true, true, true] rfl rfl (by kernel_rfl) (fun _ _ _ h => h) (Or.inl ⟨by rfl, ?_⟩) ?_ ?_
     rotate_left
     ·intro w'
      go_simp
      with_reducible rfl
     rotate_left
     ·simp only [Act.put, List.setIfInBounds_toArray, List.set_cons_zero, List.set_cons_succ, bA, bS]
      rfl
     refine jJ (by kernel_rfl) ?_
     go_upto_region 7 with (fail)
     go_cut [26] (fun v26 wc => ∃ (kq : Nat) (x26_6 : Bool), v26 = .bool x26_6 ∧ ah (aJ.j1 kq l0 x5_1 x6_1 x7_1 t166 x26_6 a1_0 a1_1 a1_2 a1_3 a1_4 = some r) ∧ ah (kq ≤ k1) ∧ ah (Kd.R k44 44 wc w.heap.size (fun k_ => k_ ≠ gb161) u5 x5_1) ∧ ah (wc.heap[gb161]? = some (.cells #[.string a1_0, .int .i64 a1_1, .int .i64 a1_2, .int .i64 a1_3, .string a1_4] 44 (0, 0))) ∧ ah (Below w.heap.size w wc))
     case first =>
      have H := HC7.out
      clear HC7
      by_cases c10 : t166 ≤ 0
      ·rw [if_pos c10] at H
       have c10b0 : decide (t166 ≤ 0) = true := decide_eq_true c10
       clear c10
       (skip)
       have H' := ah.mk H
       clear H
       go_wp2
       go_meet
       case rel => exact ⟨_, (!x6_1), (by rfl), H', ⟨by have := HK1.out; omega⟩, ⟨by (with_reducible repeat ((apply Kd.aK))); exact HO_5.out⟩, ⟨by (with_reducible repeat ((refine aA ?_ _))); exact BK161.out⟩, ⟨by repeat ((with_reducible (exact HB.out)))⟩⟩
      ·rw [if_neg c10] at H
       have c10b0 : decide (t166 ≤ 0) = false := decide_eq_false c10
       clear c10
       (skip)
       have H' := ah.mk H
       clear H
       go_wp2
       go_meet
       case rel => exact ⟨_, (false), (by rfl), H', ⟨by have := HK1.out; omega⟩, ⟨by (with_reducible repeat ((apply Kd.aK))); exact HO_5.out⟩, ⟨by (with_reducible repeat ((refine aA ?_ _))); exact BK161.out⟩, ⟨by repeat ((with_reducible (exact HB.out)))⟩⟩
     case rest =>
      clear HC7
      (try clear c4b0)
      (try clear c5b0)
      (try clear hx165_0)
      (try clear hx165_1)
      (try clear hx165_2)
      (try clear hx165_3)
      (try clear hx165_4)
      (try clear p165)
      (try clear q165)
      obtain ⟨kq, x26_6, rfl, HA, HJ6, HO_5, BK161, HB⟩ := hcut
      cases kq with
      | zero => exact absurd HA.out (by simp [aJ.j1])
      | succ kj6 =>
       have H := HA.out
       clear HA
       simp only [aJ.j1] at H
       by_cases c11 : x26_6 = true
       ·subst c11
        have H1 : (if x5_1.length < 2513169434916 then ((some (x5_1 ++ [(⟨a1_0, a1_1, a1_2, a1_3, a1_4⟩ : S44)] : List (S44))).bind fun y167 => (if t166 = 0 then (aJ.l0 kj6 l0 y167 true (wrap64 (x7_1 + 1)) a1_0 a1_1 a1_2 a1_3 a1_4) else (if 0 ≤ x7_1 then (if x7_1 < (l0.length : Int) then (if y167.length < 2513169434916 then (aJ.l0 kj6 l0 (y167 ++ [(⟨(aj l0 x7_1).f0, (aj l0 x7_1).f1, (aj l0 x7_1).f2, (aj l0 x7_1).f3, (aj l0 x7_1).f4⟩ : S44)]) true (wrap64 (x7_1 + 1)) a1_0 a1_1 a1_2 a1_3 a1_4) else (none)) else (none)) else (none)))) else (none)) = some r := by rw [if_pos rfl] at H; exact H
        clear H
        have H := H1
        clear H1
        by_cases c12 : x5_1.length < 2513169434916
        ·rw [if_pos c12] at H
         have LMc12 := ah.mk c12
         clear c12
         obtain ⟨y167, hy167⟩ : ∃ y_ : List (S44), y_ = (x5_1 ++ [(⟨a1_0, a1_1, a1_2, a1_3, a1_4⟩ : S44)]) := ⟨_, rfl⟩
         replace H : (if t166 = 0 then (aJ.l0 kj6 l0 y167 true (wrap64 (x7_1 + 1)) a1_0 a1_1 a1_2 a1_3 a1_4) else (if 0 ≤ x7_1 then (if x7_1 < (l0.length : Int) then (if y167.length < 2513169434916 then (aJ.l0 kj6 l0 (y167 ++ [(⟨(aj l0 x7_1).f0, (aj l0 x7_1).f1, (aj l0 x7_1).f2, (aj l0 x7_1).f3, (aj l0 x7_1).f4⟩ : S44)]) true (wrap64 (x7_1 + 1)) a1_0 a1_1 a1_2 a1_3 a1_4) else (none)) else (none)) else (none))) = some r := by (have H2_ := (Option.bind_some _ _).symm.trans H; rw [hy167]; with_reducible exact H2_)
         have Ny167 := ah.mk hy167
         clear hy167
         by_cases c13 : t166 = 0
         ·rw [if_pos c13] at H
          have c13b0 : (t166 == 0) = true := beq_iff_eq.mpr c13
          have c13b1 : (t166 != 0) = false := bne_eq_false_iff_eq.mpr c13
          clear c13
          have H' := ah.mk H
          clear H
          obtain ⟨hcz14_0, hcz14_1, hcz14_2, hcz14_3, hcz14_4, hfz14_0, hfz14_1, hfz14_2, hfz14_3, hfz14_4⟩ := z5_ BK161.out
          go_wp2_with ((((with_reducible refine eP (b := .append) (xs := #[.tmp 27, .tmp 29]) rfl ?_); at_builtin; refine Kd.gV k44 (w0 := w) w.heap.size rfl (.tmp 27) (.tmp 29) 22 44 (.agg #[(.string ⟨#[]⟩), (.int .i64 0), (.int .i64 0), (.int .i64 0), (.string ⟨#[]⟩)]) 56 rfl Tryz.underlying22 nE rfl (by decide) (by omega) u5 x5_1 (⟨a1_0, a1_1, a1_2, a1_3, a1_4⟩ : S44) [.string a1_0, .int .i64 a1_1, .int .i64 a1_2, .int .i64 a1_3, .string a1_4] (fun k_ => k_ ≠ gb161) (fun _ => False) rfl rfl ?aP (fun _ hk => hk.elim) ?aF ?aO ?aB ?aS ?aL ?_; (case aP => exact iy _ _ _ (⟨a1_0, a1_1, a1_2, a1_3, a1_4⟩ : S44)); (case aB => exact (by repeat ((with_reducible (exact HB.out))))); (case aF => exact (fun k_ hk => Kd.rO (g := gb161) (o := .cells #[.string a1_0, .int .i64 a1_1, .int .i64 a1_2, .int .i64 a1_3, .string a1_4] 44 (0, 0)) (by ((exact BK161.out))) k_ hk)); (case aO => exact (by ((exact HO_5.out)))); (case aS => exact (av (by repeat ((with_reducible (exact HB.out)))))); (case aL => have := LMc12.out; omega); intro v168 w15 ho hb hg hat; rw [← Ny167.out] at ho; have n0_ := ah.mk (iX (g := gb161) (o := .cells #[.string a1_0, .int .i64 a1_1, .int .i64 a1_2, .int .i64 a1_3, .string a1_4] 44 (0, 0)) (by ((exact BK161.out))) hg (Kd.rH HO_5.out (fun _ hk => hk))); have n1_ := ah.mk (hb); have n2_ := ah.mk (ho); clear BK161; clear HB; clear HO_5; have BK161 := n0_; have HB := n1_; have HO169 := n2_; clear n0_ n1_ n2_; clear ho hb hg hat)))
          go_roundg kj6
          case measure => have := HK1.out; have := HJ6.out; omega
          case rel => exact ⟨(y167), (true), (wrap64 (x7_1 + 1)), (by rfl), (by rfl), H', ⟨by have := HK1.out; have := HJ6.out; omega⟩, ⟨by (with_reducible repeat ((apply Kd.aK))); exact HO169.out⟩, ⟨by (with_reducible repeat ((refine aA ?_ _))); exact BK161.out⟩, ⟨by repeat ((with_reducible (exact HB.out)))⟩⟩
         ·rw [if_neg c13] at H
          have c13b0 : (t166 == 0) = false := beq_eq_false_iff_ne.mpr c13
          have c13b1 : (t166 != 0) = true := bne_iff_ne.mpr c13
          by_cases c16 : 0 ≤ x7_1
          ·rw [if_pos c16] at H
           have c16b0 : decide (0 ≤ x7_1) = true := decide_eq_true c16
           clear c16
           by_cases c17 : x7_1 < (l0.length : Int)
           ·rw [if_pos c17] at H
            have c17b0 : decide (x7_1 < (l0.length : Int)) = true := decide_eq_true c17
            clear c17
            by_cases c18 : y167.length < 2513169434916
            ·rw [if_pos c18] at H
             have LMc18 := ah.mk c18
             clear c18
             obtain ⟨y171, hy171⟩ : ∃ y_ : List (S44), y_ = (y167 ++ [(⟨(aj l0 x7_1).f0, (aj l0 x7_1).f1, (aj l0 x7_1).f2, (aj l0 x7_1).f3, (aj l0 x7_1).f4⟩ : S44)]) := ⟨_, rfl⟩
             replace H : (aJ.l0 kj6 l0 y171 true (wrap64 (x7_1 + 1)) a1_0 a1_1 a1_2 a1_3 a1_4) = some r := by (rw [hy171]; with_reducible exact H)
             have Ny171 := ah.mk hy171
             clear hy171
             have H' := ah.mk H
             clear H
             obtain ⟨hcz19_0, hcz19_1, hcz19_2, hcz19_3, hcz19_4, hfz19_0, hfz19_1, hfz19_2, hfz19_3, hfz19_4⟩ := z5_ BK161.out
             go_wp2_with (first | ((with_reducible refine eP (b := .append) (xs := #[.tmp 27, .tmp 29]) rfl ?_); at_builtin; refine Kd.gV k44 (w0 := w) w.heap.size rfl (.tmp 27) (.tmp 29) 22 44 (.agg #[(.string ⟨#[]⟩), (.int .i64 0), (.int .i64 0), (.int .i64 0), (.string ⟨#[]⟩)]) 56 rfl Tryz.underlying22 nE rfl (by decide) (by omega) u5 x5_1 (⟨a1_0, a1_1, a1_2, a1_3, a1_4⟩ : S44) [.string a1_0, .int .i64 a1_1, .int .i64 a1_2, .int .i64 a1_3, .string a1_4] (fun k_ => k_ ≠ gb161) (fun _ => False) rfl rfl ?aP (fun _ hk => hk.elim) ?aF ?aO ?aB ?aS ?aL ?_; (case aP => exact iy _ _ _ (⟨a1_0, a1_1, a1_2, a1_3, a1_4⟩ : S44)); (case aB => exact (by repeat ((with_reducible (exact HB.out))))); (case aF => exact (fun k_ hk => Kd.rO (g := gb161) (o := .cells #[.string a1_0, .int .i64 a1_1, .int .i64 a1_2, .int .i64 a1_3, .string a1_4] 44 (0, 0)) (by ((exact BK161.out))) k_ hk)); (case aO => exact (by ((exact HO_5.out)))); (case aS => exact (av (by repeat ((with_reducible (exact HB.out)))))); (case aL => have := LMc12.out; omega); intro v168 w20 ho hb hg hat; rw [← Ny167.out] at ho; have n0_ := ah.mk (iX (g := gb161) (o := .cells #[.string a1_0, .int .i64 a1_1, .int .i64 a1_2, .int .i64 a1_3, .string a1_4] 44 (0, 0)) (by ((exact BK161.out))) hg (Kd.rH HO_5.out (fun _ hk => hk))); have n1_ := ah.mk (hb); have n2_ := ah.mk (ho); clear BK161; clear HB; clear HO_5; have BK161 := n0_; have HB := n1_; have HO169 := n2_; clear n0_ n1_ n2_; clear ho hb hg hat; have p170 : 0 ≤ (x7_1 : Int) := of_decide_eq_true (by assumption); have q170 : x7_1 < (l0.length : Int) := of_decide_eq_true (by assumption); obtain ⟨ad170, e170, hx170_0, hx170_1, hx170_2, hx170_3, hx170_4⟩ := dM HR0.out x7_1 p170 q170; obtain rfl : ad165 = ad170 := (by injection e170); replace hx170_0 := (HB.out.cell (World.block_lt_of_cell? w _ hx170_0)).trans hx170_0; replace hx170_1 := (HB.out.cell (World.block_lt_of_cell? w _ hx170_1)).trans hx170_1; replace hx170_2 := (HB.out.cell (World.block_lt_of_cell? w _ hx170_2)).trans hx170_2; replace hx170_3 := (HB.out.cell (World.block_lt_of_cell? w _ hx170_3)).trans hx170_3; replace hx170_4 := (HB.out.cell (World.block_lt_of_cell? w _ hx170_4)).trans hx170_4; replace p170 := eq_true p170; replace q170 := eq_true q170) | ((with_reducible refine eP (b := .append) (xs := #[.tmp 33, .tmp 38]) rfl ?_); at_builtin; refine Kd.gV k44 (w0 := w) w.heap.size rfl (.tmp 33) (.tmp 38) 22 44 (.agg #[(.string ⟨#[]⟩), (.int .i64 0), (.int .i64 0), (.int .i64 0), (.string ⟨#[]⟩)]) 56 rfl Tryz.underlying22 nE rfl (by decide) (by omega) v168 y167 (⟨(aj l0 x7_1).f0, (aj l0 x7_1).f1, (aj l0 x7_1).f2, (aj l0 x7_1).f3, (aj l0 x7_1).f4⟩ : S44) [.string ((aj l0 x7_1).f0), .int .i64 ((aj l0 x7_1).f1), .int .i64 ((aj l0 x7_1).f2), .int .i64 ((aj l0 x7_1).f3), .string ((aj l0 x7_1).f4)] (fun k_ => k_ ≠ gb161) (fun _ => False) rfl rfl ?aP (fun _ hk => hk.elim) ?aF ?aO ?aB ?aS ?aL ?_; (case aP => exact iy _ _ _ (⟨(aj l0 x7_1).f0, (aj l0 x7_1).f1, (aj l0 x7_1).f2, (aj l0 x7_1).f3, (aj l0 x7_1).f4⟩ : S44)); (case aB => exact (by repeat ((with_reducible (exact HB.out))))); (case aF => exact (fun k_ hk => Kd.rO (g := gb161) (o := .cells #[.string a1_0, .int .i64 a1_1, .int .i64 a1_2, .int .i64 a1_3, .string a1_4] 44 (0, 0)) (by ((exact BK161.out))) k_ hk)); (case aO => exact (by ((exact HO169.out)))); (case aS => exact (av (by repeat ((with_reducible (exact HB.out)))))); (case aL => have := LMc18.out; omega); intro v172 w21 ho hb hg hat; rw [← Ny171.out] at ho; have n0_ := ah.mk (iX (g := gb161) (o := .cells #[.string a1_0, .int .i64 a1_1, .int .i64 a1_2, .int .i64 a1_3, .string a1_4] 44 (0, 0)) (by ((exact BK161.out))) hg (Kd.rH HO169.out (fun _ hk => hk))); have n1_ := ah.mk (hb); have n2_ := ah.mk (ho); clear BK161; clear HB; clear HO169; have BK161 := n0_; have HB := n1_; have HO173 := n2_; clear n0_ n1_ n2_; clear ho hb hg hat))
             go_roundg kj6
             case measure => have := HK1.out; have := HJ6.out; omega
             case rel => exact ⟨(y171), (true), (wrap64 (x7_1 + 1)), (by rfl), (by rfl), H', ⟨by have := HK1.out; have := HJ6.out; omega⟩, ⟨by (with_reducible repeat ((apply Kd.aK))); exact HO173.out⟩, ⟨by (with_reducible repeat ((refine aA ?_ _))); exact BK161.out⟩, ⟨by repeat ((with_reducible (exact HB.out)))⟩⟩
            ·rw [if_neg c18] at H
             exact absurd H (by simp)
           ·rw [if_neg c17] at H
            exact absurd H (by simp)
          ·rw [if_neg c16] at H
           exact absurd H (by simp)
        ·rw [if_neg c12] at H
         exact absurd H (by simp)
       ·replace c11 := Bool.eq_false_iff.mpr c11
        subst c11
        have H1 : (if t166 = 0 then (aJ.l0 kj6 l0 x5_1 x6_1 (wrap64 (x7_1 + 1)) a1_0 a1_1 a1_2 a1_3 a1_4) else (if 0 ≤ x7_1 then (if x7_1 < (l0.length : Int) then (if x5_1.length < 2513169434916 then (aJ.l0 kj6 l0 (x5_1 ++ [(⟨(aj l0 x7_1).f0, (aj l0 x7_1).f1, (aj l0 x7_1).f2, (aj l0 x7_1).f3, (aj l0 x7_1).f4⟩ : S44)]) x6_1 (wrap64 (x7_1 + 1)) a1_0 a1_1 a1_2 a1_3 a1_4) else (none)) else (none)) else (none))) = some r := by rw [if_neg (show ¬ (false = true) by decide)] at H; exact H
        clear H
        have H := H1
        clear H1
        by_cases c22 : t166 = 0
        ·rw [if_pos c22] at H
         have c22b0 : (t166 == 0) = true := beq_iff_eq.mpr c22
         have c22b1 : (t166 != 0) = false := bne_eq_false_iff_eq.mpr c22
         clear c22
         have H' := ah.mk H
         clear H
         go_wp2
         go_roundg kj6
         case measure => have := HK1.out; have := HJ6.out; omega
         case rel => exact ⟨(x5_1), (x6_1), (wrap64 (x7_1 + 1)), (by rfl), (by rfl), H', ⟨by have := HK1.out; have := HJ6.out; omega⟩, ⟨by (with_reducible repeat ((apply Kd.aK))); exact HO_5.out⟩, ⟨by (with_reducible repeat ((refine aA ?_ _))); exact BK161.out⟩, ⟨by repeat ((with_reducible (exact HB.out)))⟩⟩
        ·rw [if_neg c22] at H
         have c22b0 : (t166 == 0) = false := beq_eq_false_iff_ne.mpr c22
         have c22b1 : (t166 != 0) = true := bne_iff_ne.mpr c22
         by_cases c23 : 0 ≤ x7_1
         ·rw [if_pos c23] at H
          have c23b0 : decide (0 ≤ x7_1) = true := decide_eq_true c23
          clear c23
          by_cases c24 : x7_1 < (l0.length : Int)
          ·rw [if_pos c24] at H
           have c24b0 : decide (x7_1 < (l0.length : Int)) = true := decide_eq_true c24
           clear c24
           by_cases c25 : x5_1.length < 2513169434916
           ·rw [if_pos c25] at H
            have LMc25 := ah.mk c25
            clear c25
            obtain ⟨y175, hy175⟩ : ∃ y_ : List (S44), y_ = (x5_1 ++ [(⟨(aj l0 x7_1).f0, (aj l0 x7_1).f1, (aj l0 x7_1).f2, (aj l0 x7_1).f3, (aj l0 x7_1).f4⟩ : S44)]) := ⟨_, rfl⟩
            replace H : (aJ.l0 kj6 l0 y175 x6_1 (wrap64 (x7_1 + 1)) a1_0 a1_1 a1_2 a1_3 a1_4) = some r := by (rw [hy175]; with_reducible exact H)
            have Ny175 := ah.mk hy175
            clear hy175
            have H' := ah.mk H
            clear H
            have p174 : 0 ≤ (x7_1 : Int) := of_decide_eq_true (by assumption)
            have q174 : x7_1 < (l0.length : Int) := of_decide_eq_true (by assumption)
            obtain ⟨ad174, e174, hx174_0, hx174_1, hx174_2, hx174_3, hx174_4⟩ := dM HR0.out x7_1 p174 q174
            obtain rfl : ad165 = ad174 := (by injection e174)
            replace hx174_0 := (HB.out.cell (World.block_lt_of_cell? w _ hx174_0)).trans hx174_0
            replace hx174_1 := (HB.out.cell (World.block_lt_of_cell? w _ hx174_1)).trans hx174_1
            replace hx174_2 := (HB.out.cell (World.block_lt_of_cell? w _ hx174_2)).trans hx174_2
            replace hx174_3 := (HB.out.cell (World.block_lt_of_cell? w _ hx174_3)).trans hx174_3
            replace hx174_4 := (HB.out.cell (World.block_lt_of_cell? w _ hx174_4)).trans hx174_4
            replace p174 := eq_true p174
            replace q174 := eq_true q174
            go_wp2_with ((((with_reducible refine eP (b := .append) (xs := #[.tmp 33, .tmp 38]) rfl ?_); at_builtin; refine Kd.gV k44 (w0 := w) w.heap.size rfl (.tmp 33) (.tmp 38) 22 44 (.agg #[(.string ⟨#[]⟩), (.int .i64 0), (.int .i64 0), (.int .i64 0), (.string ⟨#[]⟩)]) 56 rfl Tryz.underlying22 nE rfl (by decide) (by omega) u5 x5_1 (⟨(aj l0 x7_1).f0, (aj l0 x7_1).f1, (aj l0 x7_1).f2, (aj l0 x7_1).f3, (aj l0 x7_1).f4⟩ : S44) [.string ((aj l0 x7_1).f0), .int .i64 ((aj l0 x7_1).f1), .int .i64 ((aj l0 x7_1).f2), .int .i64 ((aj l0 x7_1).f3), .string ((aj l0 x7_1).f4)] (fun k_ => k_ ≠ gb161) (fun _ => False) rfl rfl ?aP (fun _ hk => hk.elim) ?aF ?aO ?aB ?aS ?aL ?_; (case aP => exact iy _ _ _ (⟨(aj l0 x7_1).f0, (aj l0 x7_1).f1, (aj l0 x7_1).f2, (aj l0 x7_1).f3, (aj l0 x7_1).f4⟩ : S44)); (case aB => exact (by repeat ((with_reducible (exact HB.out))))); (case aF => exact (fun k_ hk => Kd.rO (g := gb161) (o := .cells #[.string a1_0, .int .i64 a1_1, .int .i64 a1_2, .int .i64 a1_3, .string a1_4] 44 (0, 0)) (by ((exact BK161.out))) k_ hk)); (case aO => exact (by ((exact HO_5.out)))); (case aS => exact (av (by repeat ((with_reducible (exact HB.out)))))); (case aL => have := LMc25.out; omega); intro v176 w26 ho hb hg hat; rw [← Ny175.out] at ho; have n0_ := ah.mk (iX (g := gb161) (o := .cells #[.string a1_0, .int .i64 a1_1, .int .i64 a1_2, .int .i64 a1_3, .string a1_4] 44 (0, 0)) (by ((exact BK161.out))) hg (Kd.rH HO_5.out (fun _ hk => hk))); have n1_ := ah.mk (hb); have n2_ := ah.mk (ho); clear BK161; clear HB; clear HO_5; have BK161 := n0_; have HB := n1_; have HO177 := n2_; clear n0_ n1_ n2_; clear ho hb hg hat)))
            go_roundg kj6
            case measure => have := HK1.out; have := HJ6.out; omega
            case rel => exact ⟨(y175), (x6_1), (wrap64 (x7_1 + 1)), (by rfl), (by rfl), H', ⟨by have := HK1.out; have := HJ6.out; omega⟩, ⟨by (with_reducible repeat ((apply Kd.aK))); exact HO177.out⟩, ⟨by (with_reducible repeat ((refine aA ?_ _))); exact BK161.out⟩, ⟨by repeat ((with_reducible (exact HB.out)))⟩⟩
           ·rw [if_neg c25] at H
            exact absurd H (by simp)
          ·rw [if_neg c24] at H
           exact absurd H (by simp)
         ·rw [if_neg c23] at H
          exact absurd H (by simp)
    ·rw [if_neg c5] at H
     exact absurd H (by simp)
   ·rw [if_neg c4] at H
    have c4b0 : decide (x7_1 < (l0.length : Int)) = false := decide_eq_false c4
    clear c4
    by_cases c27 : x6_1 = true
    ·subst c27
     have H1 : (some x5_1) = some r := by rw [if_pos rfl] at H; exact H
     clear H
     have H := H1
     clear H1
     obtain rfl := Option.some.inj H
     go_wp2
     go_ret
     exact ⟨_, by rfl, by (with_reducible repeat ((apply Kd.aK))); exact Kd.dH HO_5.out (fun _ hk => trivial), by repeat ((with_reducible (exact HB.out)))⟩
    ·replace c27 := Bool.eq_false_iff.mpr c27
     subst c27
     have H1 : (if x5_1.length < 2513169434916 then (some (x5_1 ++ [(⟨a1_0, a1_1, a1_2, a1_3, a1_4⟩ : S44)])) else (none)) = some r := by rw [if_neg (show ¬ (false = true) by decide)] at H; exact H
     clear H
     have H := H1
     clear H1
     by_cases c28 : x5_1.length < 2513169434916
     ·rw [if_pos c28] at H
      have LMc28 := ah.mk c28
      clear c28
      obtain ⟨y162, hy162⟩ : ∃ y_ : List (S44), y_ = (x5_1 ++ [(⟨a1_0, a1_1, a1_2, a1_3, a1_4⟩ : S44)]) := ⟨_, rfl⟩
      replace H : (some y162) = some r := by (rw [hy162]; with_reducible exact H)
      have Ny162 := ah.mk hy162
      clear hy162
      obtain rfl := Option.some.inj H
      obtain ⟨hcz29_0, hcz29_1, hcz29_2, hcz29_3, hcz29_4, hfz29_0, hfz29_1, hfz29_2, hfz29_3, hfz29_4⟩ := z5_ BK161.out
      go_wp2_with ((((with_reducible refine eP (b := .append) (xs := #[.tmp 42, .tmp 44]) rfl ?_); at_builtin; refine Kd.gV k44 (w0 := w) w.heap.size rfl (.tmp 42) (.tmp 44) 22 44 (.agg #[(.string ⟨#[]⟩), (.int .i64 0), (.int .i64 0), (.int .i64 0), (.string ⟨#[]⟩)]) 56 rfl Tryz.underlying22 nE rfl (by decide) (by omega) u5 x5_1 (⟨a1_0, a1_1, a1_2, a1_3, a1_4⟩ : S44) [.string a1_0, .int .i64 a1_1, .int .i64 a1_2, .int .i64 a1_3, .string a1_4] (fun k_ => k_ ≠ gb161) (fun _ => False) rfl rfl ?aP (fun _ hk => hk.elim) ?aF ?aO ?aB ?aS ?aL ?_; (case aP => exact iy _ _ _ (⟨a1_0, a1_1, a1_2, a1_3, a1_4⟩ : S44)); (case aB => exact (by repeat ((with_reducible (exact HB.out))))); (case aF => exact (fun k_ hk => Kd.rO (g := gb161) (o := .cells #[.string a1_0, .int .i64 a1_1, .int .i64 a1_2, .int .i64 a1_3, .string a1_4] 44 (0, 0)) (by ((exact BK161.out))) k_ hk)); (case aO => exact (by ((exact HO_5.out)))); (case aS => exact (av (by repeat ((with_reducible (exact HB.out)))))); (case aL => have := LMc28.out; omega); intro v163 w30 ho hb hg hat; rw [← Ny162.out] at ho; have n0_ := ah.mk (iX (g := gb161) (o := .cells #[.string a1_0, .int .i64 a1_1, .int .i64 a1_2, .int .i64 a1_3, .string a1_4] 44 (0, 0)) (by ((exact BK161.out))) hg (Kd.rH HO_5.out (fun _ hk => hk))); have n1_ := ah.mk (hb); have n2_ := ah.mk (ho); clear BK161; clear HB; clear HO_5; have BK161 := n0_; have HB := n1_; have HO164 := n2_; clear n0_ n1_ n2_; clear ho hb hg hat)))
      go_ret
      exact ⟨_, by rfl, by (with_reducible repeat ((apply Kd.aK))); exact Kd.dH HO164.out (fun _ hk => trivial), by repeat ((with_reducible (exact HB.out)))⟩
     ·rw [if_neg c28] at H
      exact absurd H (by simp)
end Go.Y.PRr
namespace Go.Y.Rrs
open Go.RowKit Go.V.aC Go.V.aV Go.V.aX Go.Y.Given Go.Y.PRd Go.Y.PRr Go.Y.Oct Go.Y.Name Go.Y.Cmp Go.Y.gu Go.Y.fQ Go.Y.iD
def fine (x : RR) : Prop := bG x.f0 = true ∧ x.f4.size ≤ 100000
theorem yZ (x y : RR) (hx : fine x) (hy : fine y) : Ev (fun k => qG k x y) (aW x y) := ⟨1000, fun k hk => Aa x y hx.1 hy.1 hx.2 hy.2 k hk⟩
theorem Ev.unique {α : Type} {g : Nat → Option α} {a b : α} (h : Ev g a) (h' : Ev g b) : a = b := by
 obtain ⟨K, h⟩ := h
 obtain ⟨K', h'⟩ := h'
 have h1 := h (max K K') (Nat.le_max_left _ _)
 rw [h' (max K K') (Nat.le_max_right _ _)] at h1
 exact (Option.some.inj h1).symm
theorem Ev.const {α : Type} {o : Option α} {r : α} (h : o = some r) : Ev (fun _ => o) r := ⟨0, fun _ _ => h⟩
def ng (c : Int) (d : ByteArray) : Bool := if c = 1 then true else if c = 254 then !d.toList.isEmpty else false
def gU (x : RR) : Bool := bG x.f0 && (decide (0 ≤ x.f1) && (decide (x.f1 ≤ 65535) && (decide (0 ≤ x.f2) && (decide (x.f2 ≤ 65535) && (decide (0 ≤ x.f3) && (decide (x.f3 ≤ 2147483647) && (decide (x.f4.size ≤ 65535) && (!ng x.f2 x.f4 || jH x.f1 x.f4))))))))
theorem pE {x : RR} (h : gU x = true) : fine x := by
 unfold gU at h
 simp only [Bool.and_eq_true, decide_eq_true_eq] at h
 exact ⟨h.1, by omega⟩
theorem FJ {α : Type} (l : List α) (i : Nat) (h : i + 1 < l.length) : l.drop i = l[i] :: l[i + 1] :: l.drop (i + 2) := by
 rw [List.drop_eq_getElem_cons (by omega), List.drop_eq_getElem_cons (by omega)]
theorem Af (x y : RR) : eqR x y = true ↔ x = y := by
 obtain ⟨a0, a1, a2, a3, a4⟩ := x
 obtain ⟨b0, b1, b2, b3, b4⟩ := y
 unfold eqR
 simp only [Bool.and_eq_true, beq_iff_eq, toList_inj]
 constructor
 ·rintro ⟨rfl, rfl, rfl, rfl, rfl⟩; rfl
 ·intro h; injection h with h0 h1 h2 h3 h4; exact ⟨h0, h1, h2, h3, h4⟩
theorem Jh (x y : RR) : (!(x.f0.toList == y.f0.toList) || (!(x.f1 == y.f1) || (!(x.f2 == y.f2) || (!(x.f3 == y.f3) || (!(x.f4.toList == y.f4.toList)))))) = !eqR x y := by
 unfold eqR
 simp only [Bool.not_and]
theorem CS (l m : List RR) (hlm : l.length = m.length) (hn : l.length ≤ 9223372036854775807) : ∀ (d i : Nat), l.length ≤ i + d → i ≤ l.length → ∃ b, Ev (fun k => cK.l0 k l m (i : Int)) b ∧ (b = true ↔ l.drop i = m.drop i) := by
 have hend : ∀ i : Nat, l.length ≤ i → ∃ b, Ev (fun k => cK.l0 k l m (i : Int)) b ∧ (b = true ↔ l.drop i = m.drop i) := by
  intro i hd
  refine ⟨true, Ev.step (f := fun _ => some true) (fun k => by simp only [cK.l0]; rw [if_neg (by omega)]) (Ev.now _), ?_⟩
  rw [List.drop_of_length_le (by omega), List.drop_of_length_le (by omega)]
  simp
 intro d
 induction d with
 | zero => exact fun i hd _ => hend i (by omega)
 | succ d ih =>
  intro i hd hi0
  by_cases hi : i < l.length
  ·have him : i < m.length := by omega
   have e1 : wrap64 ((i : Int) + 1) = ((i + 1 : Nat) : Int) := by unfold wrap64; omega
   have hs : ∀ k, cK.l0 (k + 1) l m (i : Int) = if (!eqR l[i] m[i]) = true then some false else cK.l0 k l m ((i + 1 : Nat) : Int) := fun k => by
    simp only [cK.l0, e1]
    rw [if_pos (by omega), if_pos (by omega), if_pos (by omega)]
    have hq := Jh (rdR l (i : Nat)) (rdR m (i : Nat))
    rw [show (!((rdR l (i : Nat)).f0.toList == (rdR m (i : Nat)).f0.toList) || _) = _ from hq, eH l i hi, eH m i him]
   obtain ⟨b, hb, hiff⟩ := ih (i + 1) (by omega) (by omega)
   rw [List.drop_eq_getElem_cons hi, List.drop_eq_getElem_cons him]
   cases he : eqR l[i] m[i]
   ·refine ⟨false, Ev.step hs ?_, ?_⟩
    ·simp only [he, Bool.not_false, if_true]
     exact Ev.now _
    ·have : ¬ l[i] = m[i] := fun e => by rw [(Af _ _).mpr e] at he; cases he
     exact ⟨fun e => Bool.noConfusion e, fun e => absurd (List.cons.inj e).1 this⟩
   ·refine ⟨b, Ev.step hs ?_, ?_⟩
    ·simp only [he, Bool.not_true, Bool.false_eq_true, if_false]
     exact hb
    ·rw [(Af _ _).mp he, hiff]
     exact ⟨fun e => by rw [e], fun e => (List.cons.inj e).2⟩
  ·exact hend i (by omega)
open Classical in
theorem Im (l m : List RR) (hn : l.length ≤ 9223372036854775807) : Ev (fun k => cK.f k l m) (decide (l = m)) := by
 unfold cK.f
 by_cases h : l.length = m.length
 ·obtain ⟨b, hb, hiff⟩ := CS l m h hn l.length 0 (by omega) (by omega)
  have e : b = decide (l = m) := by
   rw [List.drop_zero, List.drop_zero] at hiff
   by_cases hlm : l = m
   ·rw [decide_eq_true hlm]; exact hiff.mpr hlm
   ·rw [decide_eq_false hlm]; cases b; rfl; exact absurd (hiff.mp rfl) hlm
  rw [← e]
  simp only [show ((l.length : Int) = (m.length : Int)) from by omega, if_true]
  exact hb
 ·have hlm : ¬ l = m := fun e => h (by rw [e])
  rw [decide_eq_false hlm]
  simp only [show ¬ ((l.length : Int) = (m.length : Int)) from by omega, if_false]
  exact Ev.now _
end Go.Y.Rrs
namespace Go.Y.PRr
open Go.RowKit Go.V.aC Go.V.aV Go.V.aX Go.Y.Given Go.Y.PRd
attribute [local go_sem] dP dQ eu eB dD dF dR dS   -- for this text's walks alone
def lM.T1 : Bool × List (List Nat × List Nat) := (true, [([], []), ([0], [0]), ([], []), ([2], [2]), ([1, 3], [1, 3]), ([4, 4], [4]), ([5], [5]), ([6, 5], [5, 6]), ([5], [5]), ([8, 5], [5, 8]), ([7, 9, 5], [5, 7, 9]), ([5, 10], [5, 10]), ([11, 5], [11]), ([12], [12]), ([13, 12], [12, 13]), ([12], [12]), ([15, 12], [12, 15]), ([14, 16, 12], [12, 14, 16]), ([12, 17], [12, 17]), ([18, 12], [18]), ([19], [19]), ([20, 19, 19], [19, 20]), ([19], [19]), ([22, 21, 19], [19, 22]), ([21, 23, 19], [19, 21, 23]), ([19, 24], [19, 24]), ([25, 23, 0, 1, 2, 3, 4, 5, 6, 7, 8, 9, 10, 11, 12, 13, 14, 15, 16, 17, 18, 19, 20, 21, 22, 23, 24, 25], [25])])
def lM.B1 : List Nat := [0, 1, 0, 4, 15, 31, 63, 127, 63, 319, 1023, 2047, 4095, 8191, 16383, 8191, 40959, 131071, 262143, 524287, 1048575, 2097151, 1048575, 8388607, 16777215, 33554431, 67108863]
theorem lM.AU : fK .any (opsOf Tryz.f94 1) = lM.T1 := by kernel_rfl
theorem lM.xW : fP lM.T1.2 lM.B1 = true := by kernel_rfl
end Go.Y.PRr
namespace Go.Y.PRr
open Go.RowKit Go.V.aC Go.V.aV Go.V.aX Go.Y.Given Go.Y.PRd
attribute [local go_sem] dP dQ eu eB dD dF dR dS   -- for this text's walks alone
def iM.f (a0 : Int) : Option (Bool) := if a0 ≥ 1 then (if a0 ≤ 65535 then (if a0 = 41 then (some false) else (if a0 < 128 then (some true) else (some (decide (a0 > 255))))) else (some false)) else (some false)
theorem iM.calls (a0 : Int) (r : Bool) (w : World) (h : iM.f a0 = some r) :
    Calls Tryz.prog 83 #[.int .i64 a0] w fun e w' => e = .returned (.bool r) ∧ aY w w' := by
  have H : (if a0 ≥ 1 then (if a0 ≤ 65535 then (if a0 = 41 then (some false) else (if a0 < 128 then (some true) else (some (decide (a0 > 255))))) else (some false)) else (some false)) = some r := h
  clear h
  by_cases c2 : a0 ≥ 1
  focus
   rw [if_pos c2] at H
   have c2b0 : decide (1 ≤ a0) = true := decide_eq_true c2
   clear c2
   by_cases c3 : a0 ≤ 65535
   focus
    rw [if_pos c3] at H
    have c3b0 : decide (a0 ≤ 65535) = true := decide_eq_true c3
    clear c3
    by_cases c4 : a0 = 41
    focus
     rw [if_pos c4] at H
     have c4b0 : (a0 == 41) = true := beq_iff_eq.mpr c4
     have c4b1 : (a0 != 41) = false := bne_eq_false_iff_eq.mpr c4
     clear c4
    rotate_left
    focus
     rw [if_neg c4] at H
     have c4b0 : (a0 == 41) = false := beq_eq_false_iff_ne.mpr c4
     have c4b1 : (a0 != 41) = true := bne_iff_ne.mpr c4
     by_cases c5 : a0 < 128
     focus
      rw [if_pos c5] at H
      have c5b0 : decide (a0 < 128) = true := decide_eq_true c5
     rotate_left
     focus
      rw [if_neg c5] at H
      have c5b0 : decide (a0 < 128) = false := decide_eq_false c5
     rotate_left
     all_goals
      clear c5
    rotate_left 2
   rotate_left 3
   focus
    rw [if_neg c3] at H
    have c3b0 : decide (a0 ≤ 65535) = false := decide_eq_false c3
    clear c3
   rotate_left
  rotate_left 4
  focus
   rw [if_neg c2] at H
   have c2b0 : decide (1 ≤ a0) = false := decide_eq_false c2
   clear c2
  rotate_left
  all_goals
   obtain rfl := Option.some.inj H
   go_enter Tryz.func83, Tryz.ntmps83
   go_wp2
   go_ret
   exact ⟨by rfl, by repeat ((exact aY.refl _))⟩
def gL.f (k : Nat) (a0 : ByteArray) (a1_0 : ByteArray) (a1_1 : Int) (a1_2 : Int) (a1_3 : Int) (a1_4 : ByteArray) : Option (Bool) := if a1_2 = 1 then ((iM.f a1_1).bind fun t130 => (if t130 = true then ((bq.f k a1_0 a0).bind fun t131 => (some t131)) else (some false))) else (some false)
theorem gL.mono : ∀ a0 a1 a2 a3 a4 a5 k, LeO (gL.f k a0 a1 a2 a3 a4 a5) (gL.f (k + 1) a0 a1 a2 a3 a4 a5) := by
 intro a0 a1 a2 a3 a4 a5 k
 unfold gL.f
 repeat' first
   | (with_reducible exact bq.mono _ _ _)
   | (with_reducible exact LeO.refl _)
   | (with_reducible exact LeO.none _)
   | (with_reducible refine LeO.ite ?_ ?_)
   | (with_reducible refine LeO.bind ?_ (fun _ => ?_))
   | exact bq.mono _ _ _
   | exact LeO.none _
   | refine LeO.ite ?_ ?_
   | refine LeO.bind ?_ (fun _ => ?_)
theorem gL.calls (k : Nat) (a0 : ByteArray) (a1_0 : ByteArray) (a1_1 : Int) (a1_2 : Int) (a1_3 : Int) (a1_4 : ByteArray) (r : Bool) (w : World) (h : gL.f k a0 a1_0 a1_1 a1_2 a1_3 a1_4 = some r) :
    Calls Tryz.prog 43 #[.string a0, .agg #[.string a1_0, .int .i64 a1_1, .int .i64 a1_2, .int .i64 a1_3, .string a1_4]] w fun e w' => e = .returned (.bool r) ∧ Below w.heap.size w w' := by
  have hu44 := Tryz.underlying44
  have HB := ah.mk (Below.refl w.heap.size w)
  have H : (if a1_2 = 1 then ((iM.f a1_1).bind fun t130 => (if t130 = true then ((bq.f k a1_0 a0).bind fun t131 => (some t131)) else (some false))) else (some false)) = some r := h
  clear h
  by_cases c3 : a1_2 = 1
  focus
   rw [if_pos c3] at H
   have c3b0 : (a1_2 == 1) = true := beq_iff_eq.mpr c3
   have c3b1 : (a1_2 != 1) = false := bne_eq_false_iff_eq.mpr c3
   clear c3
   obtain ⟨t130, A4, H⟩ := bP H
   by_cases c5 : t130 = true
   focus
    subst c5
    rw [if_pos rfl] at H
    obtain ⟨t131, A6, H⟩ := bP H
   rotate_left
   focus
    replace c5 := Bool.eq_false_iff.mpr c5
    subst c5
    rw [if_neg ff_] at H
   rotate_left
  rotate_left 2
  focus
   rw [if_neg c3] at H
   have c3b0 : (a1_2 == 1) = false := beq_eq_false_iff_ne.mpr c3
   have c3b1 : (a1_2 != 1) = true := bne_iff_ne.mpr c3
  rotate_left
  all_goals
   obtain rfl := Option.some.inj H
   go_enter Tryz.func43, Tryz.ntmps43
  focus
   go_wp2_with (first | ((with_reducible refine bF (N := 3) rfl ?_); refine bQ ?hg (N := 3) ?hd (cs := #[.string a1_0, .int .i64 a1_1, .int .i64 a1_2, .int .i64 a1_3, .string a1_4]) (t := 44) ?hr ?_; (case hd => rfl); (case hg => rfl); (case hr => (go_simp; done)); intro gb129 hg w7 hbox hb; have BK129 := ah.mk (hbox); have GW129 := ah.mk (ge_ hg (av HB.out)); have GE129 := ah.mk (ge_ hg (av HB.out)); replace HB := ah.mk (ak HB.out hb); clear hb hbox hg; obtain ⟨hcz8_0, hcz8_1, hcz8_2, hcz8_3, hcz8_4, hfz8_0, hfz8_1, hfz8_2, hfz8_3, hfz8_4⟩ := z5_ BK129.out) | (go_at_call 83; (with_reducible refine (iM.calls a1_1 _ _ A4.out).mono ?_); rintro e w' ⟨rfl, ⟨nd, rfl⟩⟩) | (go_at_call 56; (with_reducible refine (bq.calls k a1_0 a0 t131 _ A6.out).mono ?_); rintro e w9 ⟨rfl, hb⟩; replace BK129 := ah.mk (aD (by ((exact BK129.out))) hb); replace HB := ah.mk (ak (by repeat ((with_reducible first | exact HB.out | apply aZ))) hb); (try clear hb)))
  rotate_left
  focus
   go_wp2_with (first | ((with_reducible refine bF (N := 3) rfl ?_); refine bQ ?hg (N := 3) ?hd (cs := #[.string a1_0, .int .i64 a1_1, .int .i64 a1_2, .int .i64 a1_3, .string a1_4]) (t := 44) ?hr ?_; (case hd => rfl); (case hg => rfl); (case hr => (go_simp; done)); intro gb129 hg w10 hbox hb; have BK129 := ah.mk (hbox); have GW129 := ah.mk (ge_ hg (av HB.out)); have GE129 := ah.mk (ge_ hg (av HB.out)); replace HB := ah.mk (ak HB.out hb); clear hb hbox hg; obtain ⟨hcz11_0, hcz11_1, hcz11_2, hcz11_3, hcz11_4, hfz11_0, hfz11_1, hfz11_2, hfz11_3, hfz11_4⟩ := z5_ BK129.out) | (go_at_call 83; (with_reducible refine (iM.calls a1_1 _ _ A4.out).mono ?_); rintro e w' ⟨rfl, ⟨nd, rfl⟩⟩))
  rotate_left
  focus
   go_wp2_with ((((with_reducible refine bF (N := 3) rfl ?_); refine bQ ?hg (N := 3) ?hd (cs := #[.string a1_0, .int .i64 a1_1, .int .i64 a1_2, .int .i64 a1_3, .string a1_4]) (t := 44) ?hr ?_; (case hd => rfl); (case hg => rfl); (case hr => (go_simp; done)); intro gb129 hg w12 hbox hb; have BK129 := ah.mk (hbox); have GW129 := ah.mk (ge_ hg (av HB.out)); have GE129 := ah.mk (ge_ hg (av HB.out)); replace HB := ah.mk (ak HB.out hb); clear hb hbox hg; obtain ⟨hcz13_0, hcz13_1, hcz13_2, hcz13_3, hcz13_4, hfz13_0, hfz13_1, hfz13_2, hfz13_3, hfz13_4⟩ := z5_ BK129.out)))
  rotate_left
  all_goals
   go_ret
   exact ⟨by rfl, by repeat ((with_reducible first | exact HB.out | apply aZ))⟩
end Go.Y.PRr
namespace Go.Y.PRr
open Go.RowKit Go.V.aC Go.V.aV Go.V.aX Go.Y.Given Go.Y.PRd
attribute [local go_sem] dP dQ eu eB dD dF dR dS   -- for this text's walks alone
def bY.l0 : Nat → List (S44) → List (S44) → Int → Int → Option (Bool)
 | 0, _, _, _, _ => none
 | k + 1, x0, x5, x6, x7 => if x7 < x6 then (if 0 ≤ x7 then (if x7 < (x5.length : Int) then (if ((aj x5 x7).f1) = 5 then (if x7 > 0 then (if 0 ≤ (wrap64 (x7 - 1)) then (if (wrap64 (x7 - 1)) < (x0.length : Int) then ((dG.f ((aj x0 (wrap64 (x7 - 1))).f0) ((aj x5 x7).f0)).bind fun t135 => (if t135 = true then (some false) else (if (wrap64 (x7 + 1)) < (x0.length : Int) then (if 0 ≤ (wrap64 (x7 + 1)) then ((dG.f ((aj x0 (wrap64 (x7 + 1))).f0) ((aj x5 x7).f0)).bind fun t137 => (if t137 = true then (some false) else (bY.l0 k x0 x5 x6 (wrap64 (x7 + 1))))) else (none)) else (bY.l0 k x0 x5 x6 (wrap64 (x7 + 1)))))) else (none)) else (none)) else (if (wrap64 (x7 + 1)) < (x0.length : Int) then (if 0 ≤ (wrap64 (x7 + 1)) then ((dG.f ((aj x0 (wrap64 (x7 + 1))).f0) ((aj x5 x7).f0)).bind fun t139 => (if t139 = true then (some false) else (bY.l0 k x0 x5 x6 (wrap64 (x7 + 1))))) else (none)) else (bY.l0 k x0 x5 x6 (wrap64 (x7 + 1))))) else (bY.l0 k x0 x5 x6 (wrap64 (x7 + 1)))) else (none)) else (none)) else (some true)
def bY.f (k : Nat) (l0 : List (S44)) : Option (Bool) := bY.l0 k l0 l0 (l0.length : Int) 0
def bY.T5 : Bool × List (List Nat × List Nat) := (true, [([], []), ([0], [0]), ([1], [1]), ([2], [2]), ([2], [2]), ([4, 2], [2, 4]), ([3, 5, 2], [2, 3, 5]), ([6, 2], [2, 6]), ([7, 2], [2, 7]), ([2], [2]), ([9, 2], [2, 9]), ([8, 10, 2, 2], [2, 8, 10]), ([2, 11], [2, 11]), ([12, 11], [12]), ([13], [13]), ([14, 13], [13, 14]), ([13], [13]), ([16, 13], [13, 16]), ([15, 17, 13], [13, 15, 17]), ([18, 13, 13], [13, 18]), ([19], [19]), ([19], [19]), ([21, 19], [19, 21]), ([20, 22, 19], [19, 20, 22]), ([23, 19], [19, 23]), ([24, 19], [19, 24]), ([19], [19]), ([26, 19], [19, 26]), ([25, 27, 19, 19], [19, 25, 27]), ([19, 28, 13], [13, 19, 28]), ([13, 29], [13, 29])])
def bY.B5 : List Nat := [0, 1, 3, 7, 7, 23, 63, 127, 255, 7, 519, 2047, 4095, 8191, 16383, 32767, 16383, 81919, 262143, 524287, 1048575, 1048575, 3145727, 8388607, 16777215, 33554431, 1048575, 68157439, 268435455, 536870911, 1073741823]
theorem bY.uf : fK .any (opsOf Tryz.f45 5) = bY.T5 := by kernel_rfl
theorem bY.qL : fP bY.T5.2 bY.B5 = true := by kernel_rfl
theorem bY.calls (k : Nat) (A0 : Option Addr) (c0 : Nat) (l0 : List (S44)) (r : Bool) (w : World) (hr0 : Kd.C k44 w A0 l0.length l0) (hc0 : l0.length ≤ c0) (h : bY.f k l0 = some r) :
    Calls Tryz.prog 45 #[.slice A0 l0.length c0] w fun e w' => e = .returned (.bool r) ∧ Below w.heap.size w w' := by
  have hu44 := Tryz.underlying44
  have HR0 := ah.mk hr0
  have HC0 := ah.mk hc0
  clear hr0 hc0
  have HB := ah.mk (Below.refl w.heap.size w)
  have H : (bY.l0 k l0 l0 (l0.length : Int) 0) = some r := h
  clear h
  have H' := ah.mk H
  clear H
  go_enter Tryz.func45, Tryz.ntmps45
  go_wp2
  go_loopg [7] k (fun kq v7 w' => ∃ (x7_1 : Int), v7 = .int .i64 x7_1 ∧ ah (bY.l0 kq l0 l0 (l0.length : Int) x7_1 = some r) ∧ ah (kq ≤ k) ∧ ah (Below w.heap.size w w'))
  case atStart => exact ⟨(0), (by rfl), H', ⟨Nat.le_refl _⟩, ⟨HB.out⟩⟩
  case round =>
   clear H'
   obtain ⟨x7_1, rfl, HA, HK1, HB⟩ := hrel
   cases gk with
   | zero => exact absurd HA.out (by simp [bY.l0])
   | succ k1 =>
    have H := HA.out
    clear HA
    simp only [bY.l0] at H
    by_cases c2 : x7_1 < (l0.length : Int)
    ·rw [if_pos c2] at H
     have c2b0 : decide (x7_1 < (l0.length : Int)) = true := decide_eq_true c2
     clear c2
     obtain ⟨c3b0, H⟩ := dU H
     obtain ⟨c4b0, H⟩ := dU H
     by_cases c5 : ((aj l0 x7_1).f1) = 5
     focus
      rw [if_pos c5] at H
      have c5b0 : (((aj l0 x7_1).f1) == 5) = true := beq_iff_eq.mpr c5
      have c5b1 : (((aj l0 x7_1).f1) != 5) = false := bne_eq_false_iff_eq.mpr c5
      clear c5
      by_cases c6 : x7_1 > 0
      focus
       rw [if_pos c6] at H
       have c6b0 : decide (0 < x7_1) = true := decide_eq_true c6
       clear c6
       obtain ⟨ji7, hji7⟩ : ∃ j_ : Int, (wrap64 (x7_1 - 1)) = j_ := ⟨_, rfl⟩
       rw [hji7] at H
       have hji7w : (IntKind.i64.wrap (x7_1 - 1)) = ji7 := (bA _).trans hji7
       obtain ⟨c8b0, H⟩ := dU H
       obtain ⟨c9b0, H⟩ := dU H
       obtain ⟨t135, A10, H⟩ := bP H
       by_cases c11 : t135 = true
       focus
        subst c11
        rw [if_pos rfl] at H
        obtain rfl := Option.some.inj H
       rotate_left
       focus
        replace c11 := Bool.eq_false_iff.mpr c11
        subst c11
        rw [if_neg ff_] at H
        by_cases c17 : (wrap64 (x7_1 + 1)) < (l0.length : Int)
        focus
         rw [if_pos c17] at H
         have c17b0 : decide ((wrap64 (x7_1 + 1)) < (l0.length : Int)) = true := decide_eq_true c17
         clear c17
         obtain ⟨ji18, hji18⟩ : ∃ j_ : Int, (wrap64 (x7_1 + 1)) = j_ := ⟨_, rfl⟩
         rw [hji18] at H
         (try rw [hji18] at c17b0)
         have hji18w : (IntKind.i64.wrap (x7_1 + 1)) = ji18 := (bA _).trans hji18
         obtain ⟨c19b0, H⟩ := dU H
         obtain ⟨t137, A20, H⟩ := bP H
         by_cases c21 : t137 = true
         focus
          subst c21
          rw [if_pos rfl] at H
          obtain rfl := Option.some.inj H
         rotate_left
         focus
          replace c21 := Bool.eq_false_iff.mpr c21
          subst c21
          rw [if_neg ff_] at H
          have H' := ah.mk H
          clear H
         rotate_left
        rotate_left 2
        focus
         rw [if_neg c17] at H
         have c17b0 : decide ((wrap64 (x7_1 + 1)) < (l0.length : Int)) = false := decide_eq_false c17
         clear c17
         have H' := ah.mk H
         clear H
        rotate_left
       rotate_left 3
      rotate_left 4
      focus
       rw [if_neg c6] at H
       have c6b0 : decide (0 < x7_1) = false := decide_eq_false c6
       clear c6
       by_cases c39 : (wrap64 (x7_1 + 1)) < (l0.length : Int)
       focus
        rw [if_pos c39] at H
        have c39b0 : decide ((wrap64 (x7_1 + 1)) < (l0.length : Int)) = true := decide_eq_true c39
        clear c39
        obtain ⟨ji40, hji40⟩ : ∃ j_ : Int, (wrap64 (x7_1 + 1)) = j_ := ⟨_, rfl⟩
        rw [hji40] at H
        (try rw [hji40] at c39b0)
        have hji40w : (IntKind.i64.wrap (x7_1 + 1)) = ji40 := (bA _).trans hji40
        obtain ⟨c41b0, H⟩ := dU H
        obtain ⟨t139, A42, H⟩ := bP H
        by_cases c43 : t139 = true
        focus
         subst c43
         rw [if_pos rfl] at H
         obtain rfl := Option.some.inj H
        rotate_left
        focus
         replace c43 := Bool.eq_false_iff.mpr c43
         subst c43
         rw [if_neg ff_] at H
         have H' := ah.mk H
         clear H
        rotate_left
       rotate_left 2
       focus
        rw [if_neg c39] at H
        have c39b0 : decide ((wrap64 (x7_1 + 1)) < (l0.length : Int)) = false := decide_eq_false c39
        clear c39
        have H' := ah.mk H
        clear H
       rotate_left
      rotate_left 3
     rotate_left 7
     focus
      rw [if_neg c5] at H
      have c5b0 : (((aj l0 x7_1).f1) == 5) = false := beq_eq_false_iff_ne.mpr c5
      have c5b1 : (((aj l0 x7_1).f1) != 5) = true := bne_iff_ne.mpr c5
      have H' := ah.mk H
      clear H
     rotate_left
     all_goals
      have p132 : 0 ≤ (x7_1 : Int) := of_decide_eq_true (by assumption)
      have q132 : x7_1 < (l0.length : Int) := of_decide_eq_true (by assumption)
      obtain ⟨ad132, e132, hx132_0, hx132_1, hx132_2, hx132_3, hx132_4⟩ := dM HR0.out x7_1 p132 q132
      cases e132
      replace hx132_0 := kp_ HB.out hx132_0
      replace hx132_1 := kp_ HB.out hx132_1
      replace hx132_2 := kp_ HB.out hx132_2
      replace hx132_3 := kp_ HB.out hx132_3
      replace hx132_4 := kp_ HB.out hx132_4
      replace p132 := eq_true p132
      replace q132 := eq_true q132
     iterate 7
      focus
       (try go_wp2_with ((((with_reducible refine bF (N := 4) rfl ?_); (try (refine fA (by rfl) ?_; dsimp only)); refine bQ ?hg (N := 4) ?hd (cs := #[.string (⟨#[]⟩ : ByteArray), .int .i64 0, .int .i64 0, .int .i64 0, .string (⟨#[]⟩ : ByteArray)]) (t := 44) ?hr ?_; (case hd => rfl); (case hg => rfl); (case hr => (go_simp; done)); intro gb133 hg w12 hbox hb; have BK133 := ah.mk (hbox); have GW133 := ah.mk (ge_ hg (av HB.out)); have GE133 := ah.mk (ge_ hg (av HB.out)); replace HB := ah.mk (ak HB.out hb); clear hb hbox hg; obtain ⟨hcz13_0, hcz13_1, hcz13_2, hcz13_3, hcz13_4, hfz13_0, hfz13_1, hfz13_2, hfz13_3, hfz13_4⟩ := z5_ BK133.out))))
       have n0_ : ah ((((((w12.setCell ⟨gb133, 0, none⟩ (.string ((aj l0 x7_1).f0))).setCell ⟨gb133, 1, none⟩ (.int .i64 ((aj l0 x7_1).f1))).setCell ⟨gb133, 2, none⟩ (.int .i64 ((aj l0 x7_1).f2))).setCell ⟨gb133, 3, none⟩ (.int .i64 ((aj l0 x7_1).f3))).setCell ⟨gb133, 4, none⟩ (.string ((aj l0 x7_1).f4))).heap[gb133]? = some (.cells #[.string ((aj l0 x7_1).f0), .int .i64 ((aj l0 x7_1).f1), .int .i64 ((aj l0 x7_1).f2), .int .i64 ((aj l0 x7_1).f3), .string ((aj l0 x7_1).f4)] 44 (0, 0))) := ⟨by (with_reducible repeat ((refine aA ?_ _))); refine bH (cs := #[.string ((aj l0 x7_1).f0), .int .i64 ((aj l0 x7_1).f1), .int .i64 ((aj l0 x7_1).f2), .int .i64 ((aj l0 x7_1).f3), .string (⟨#[]⟩ : ByteArray)]) ?_ 4 _ rfl; (with_reducible repeat ((refine aA ?_ _))); refine bH (cs := #[.string ((aj l0 x7_1).f0), .int .i64 ((aj l0 x7_1).f1), .int .i64 ((aj l0 x7_1).f2), .int .i64 0, .string (⟨#[]⟩ : ByteArray)]) ?_ 3 _ rfl; (with_reducible repeat ((refine aA ?_ _))); refine bH (cs := #[.string ((aj l0 x7_1).f0), .int .i64 ((aj l0 x7_1).f1), .int .i64 0, .int .i64 0, .string (⟨#[]⟩ : ByteArray)]) ?_ 2 _ rfl; (with_reducible repeat ((refine aA ?_ _))); refine bH (cs := #[.string ((aj l0 x7_1).f0), .int .i64 0, .int .i64 0, .int .i64 0, .string (⟨#[]⟩ : ByteArray)]) ?_ 1 _ rfl; (with_reducible repeat ((refine aA ?_ _))); refine bH (cs := #[.string (⟨#[]⟩ : ByteArray), .int .i64 0, .int .i64 0, .int .i64 0, .string (⟨#[]⟩ : ByteArray)]) ?_ 0 _ rfl; (with_reducible repeat ((refine aA ?_ _))); exact BK133.out⟩
       have n1_ : ah (Below w.heap.size w (((((w12.setCell ⟨gb133, 0, none⟩ (.string ((aj l0 x7_1).f0))).setCell ⟨gb133, 1, none⟩ (.int .i64 ((aj l0 x7_1).f1))).setCell ⟨gb133, 2, none⟩ (.int .i64 ((aj l0 x7_1).f2))).setCell ⟨gb133, 3, none⟩ (.int .i64 ((aj l0 x7_1).f3))).setCell ⟨gb133, 4, none⟩ (.string ((aj l0 x7_1).f4)))) := ⟨by repeat ((with_reducible first | exact HB.out | refine dN ?_ GE133.out))⟩
       (try clear BK133)
       (try clear HB)
       generalize (((((w12.setCell ⟨gb133, 0, none⟩ (.string ((aj l0 x7_1).f0))).setCell ⟨gb133, 1, none⟩ (.int .i64 ((aj l0 x7_1).f1))).setCell ⟨gb133, 2, none⟩ (.int .i64 ((aj l0 x7_1).f2))).setCell ⟨gb133, 3, none⟩ (.int .i64 ((aj l0 x7_1).f3))).setCell ⟨gb133, 4, none⟩ (.string ((aj l0 x7_1).f4))) = w14 at n0_ n1_ ⊢
       have BK133 := n0_
       have HB := n1_
       clear n0_ n1_
       replace BK133 := ah.mk (gB BK133.out)
       replace HB := ah.mk (dx HB.out)
      rotate_left
     rotate_left
     iterate 4
      focus
       have p134 : 0 ≤ ((ji7) : Int) := of_decide_eq_true (by assumption)
       have q134 : (ji7) < (l0.length : Int) := of_decide_eq_true (by assumption)
       obtain ⟨ad134, e134, hx134_0, hx134_1, hx134_2, hx134_3, hx134_4⟩ := dM HR0.out (ji7) p134 q134
       have hw134_4 := hx134_4
       have hw134_3 := hx134_3
       have hw134_2 := hx134_2
       have hw134_1 := hx134_1
       have hw134_0 := hx134_0
       obtain rfl : ad132 = ad134 := (by injection e134)
       replace hx134_0 := kp_ HB.out hx134_0
       replace hx134_1 := kp_ HB.out hx134_1
       replace hx134_2 := kp_ HB.out hx134_2
       replace hx134_3 := kp_ HB.out hx134_3
       replace hx134_4 := kp_ HB.out hx134_4
       replace p134 := eq_true p134
       replace q134 := eq_true q134
      rotate_left
     rotate_left 4
     focus
      refine gG (n := 31) (ds := []) (ls 31 0) (by kernel_rfl) rfl rfl (c5_ BK133.out (ec_ (kp_ HB.out hw134_0) (ec_ (kp_ HB.out hw134_1) (ec_ (kp_ HB.out hw134_2) (ec_ (kp_ HB.out hw134_3) (ed_ (kp_ HB.out hw134_4))))))) (fun hHeld => ?_); refine eX bY.uf bY.qL (fun HT_ HW_ => ?_)
      generalize w14.drew = w15 at BK133 HB hx134_0 hx134_1 hx134_2 hx134_3 hx134_4 hHeld ⊢
     rotate_left
     iterate 2
      focus
       have p136 : 0 ≤ ((ji18) : Int) := of_decide_eq_true (by assumption)
       have q136 : (ji18) < (l0.length : Int) := of_decide_eq_true (by assumption)
       obtain ⟨ad136, e136, hx136_0, hx136_1, hx136_2, hx136_3, hx136_4⟩ := dM HR0.out (ji18) p136 q136
       have hw136_4 := hx136_4
       have hw136_3 := hx136_3
       have hw136_2 := hx136_2
       have hw136_1 := hx136_1
       have hw136_0 := hx136_0
       obtain rfl : ad132 = ad136 := (by injection e136)
       replace hx136_0 := kp_ HB.out hx136_0
       replace hx136_1 := kp_ HB.out hx136_1
       replace hx136_2 := kp_ HB.out hx136_2
       replace hx136_3 := kp_ HB.out hx136_3
       replace hx136_4 := kp_ HB.out hx136_4
       replace p136 := eq_true p136
       replace q136 := eq_true q136
       refine gG (n := 31) (ds := []) (ls 31 0) (by kernel_rfl) rfl rfl (c5_ BK133.out (ec_ (kp_ HB.out hw134_0) (ec_ (kp_ HB.out hw134_1) (ec_ (kp_ HB.out hw134_2) (ec_ (kp_ HB.out hw134_3) (ec_ (kp_ HB.out hw134_4) (ec_ (kp_ HB.out hw136_0) (ec_ (kp_ HB.out hw136_1) (ec_ (kp_ HB.out hw136_2) (ec_ (kp_ HB.out hw136_3) (ed_ (kp_ HB.out hw136_4)))))))))))) (fun hHeld => ?_); refine eX bY.uf bY.qL (fun HT_ HW_ => ?_)
       generalize w14.drew = w25 at BK133 HB hx134_0 hx134_1 hx134_2 hx134_3 hx134_4 hx136_0 hx136_1 hx136_2 hx136_3 hx136_4 hHeld ⊢
      rotate_left
     focus
      refine gG (n := 31) (ds := []) (ls 31 0) (by kernel_rfl) rfl rfl (c5_ BK133.out (ec_ (kp_ HB.out hw134_0) (ec_ (kp_ HB.out hw134_1) (ec_ (kp_ HB.out hw134_2) (ec_ (kp_ HB.out hw134_3) (ed_ (kp_ HB.out hw134_4))))))) (fun hHeld => ?_); refine eX bY.uf bY.qL (fun HT_ HW_ => ?_)
      generalize w14.drew = w37 at BK133 HB hx134_0 hx134_1 hx134_2 hx134_3 hx134_4 hHeld ⊢
     rotate_left
     rotate_left 4
     iterate 4
      focus
       refine td_ [(0, 15), (1, 16), (2, 17), (3, 18), (4, 19), (5, 20), (6, 21), (7, 22), (9, 24)] ?_
       iterate 9 (refine pm_ HT_ ?_)
       refine dn_ ?_
       refine td_ [(8, 23), (10, 25)] ?_
      rotate_left
     rotate_left 4
     focus
      iterate 2 (refine tm_ HT_ HW_ hHeld ?_)
     rotate_left
     iterate 2
      focus
       iterate 2 (refine tm_ HT_ HW_ hHeld ?_)
      rotate_left
     focus
      iterate 2 (refine tm_ HT_ HW_ hHeld ?_)
     rotate_left
     rotate_left 4
     iterate 4
      focus
       refine dn_ ?_
       refine jN HT_ (i := 11) (N := some 26) (ls 31 4095) (fun K hK => ?_)
       refine gs_ Tryz.func44 #[.string ((aj l0 (ji7)).f0), .string ((aj l0 x7_1).f0)] ?_
       with_reducible refine (dG.calls ((aj l0 (ji7)).f0) ((aj l0 x7_1).f0) _ _ A10.out).mono ?_
       rintro e w16 ⟨rfl, hb⟩
       refine ⟨_, rfl, ?_⟩
       replace BK133 := ah.mk (aD (by ((exact BK133.out))) hb)
       replace HB := ah.mk (ak HB.out hb)
       (try clear hb)
      rotate_left
     rotate_left 4
     focus
      refine hK.out _ _ (c5_ BK133.out (ec_ (kp_ HB.out hw134_0) (ec_ (kp_ HB.out hw134_1) (ec_ (kp_ HB.out hw134_2) (ec_ (kp_ HB.out hw134_3) (ed_ (kp_ HB.out hw134_4))))))) (fun hHeld => ?_)
     rotate_left
     iterate 2
      focus
       refine hK.out _ _ (c5_ BK133.out (ec_ (kp_ HB.out hw134_0) (ec_ (kp_ HB.out hw134_1) (ec_ (kp_ HB.out hw134_2) (ec_ (kp_ HB.out hw134_3) (ec_ (kp_ HB.out hw134_4) (ec_ (kp_ HB.out hw136_0) (ec_ (kp_ HB.out hw136_1) (ec_ (kp_ HB.out hw136_2) (ec_ (kp_ HB.out hw136_3) (ed_ (kp_ HB.out hw136_4)))))))))))) (fun hHeld => ?_)
      rotate_left
     focus
      refine hK.out _ _ (c5_ BK133.out (ec_ (kp_ HB.out hw134_0) (ec_ (kp_ HB.out hw134_1) (ec_ (kp_ HB.out hw134_2) (ec_ (kp_ HB.out hw134_3) (ed_ (kp_ HB.out hw134_4))))))) (fun hHeld => ?_)
     rotate_left
     rotate_left 4
     iterate 4
      focus
       clear hK K
       refine nm_ (N := (some 26)) ?_
      rotate_left
     rotate_left 4
     focus
      refine td_ [(12, 27), (13, 28)] ?_
     rotate_left
     iterate 2
      focus
       refine td_ [(12, 27), (13, 28), (14, 29), (15, 30), (16, 31), (17, 32), (18, 33), (19, 34), (20, 35), (21, 36), (22, 37), (23, 38), (24, 39), (26, 41)] ?_
       iterate 14 (refine pm_ HT_ ?_)
       refine dn_ ?_
       refine td_ [(25, 40), (27, 42)] ?_
       iterate 2 (refine tm_ HT_ HW_ hHeld ?_)
       refine dn_ ?_
       refine jN HT_ (i := 28) (N := some 43) (ls 31 536870911) (fun K hK => ?_)
       refine gs_ Tryz.func44 #[.string ((aj l0 (ji18)).f0), .string ((aj l0 x7_1).f0)] ?_
       with_reducible refine (dG.calls ((aj l0 (ji18)).f0) ((aj l0 x7_1).f0) _ _ A20.out).mono ?_
       rintro e w27 ⟨rfl, hb⟩
       refine ⟨_, rfl, ?_⟩
       replace BK133 := ah.mk (aD (by ((exact BK133.out))) hb)
       replace HB := ah.mk (ak HB.out hb)
       (try clear hb)
       refine hK.out _ _ (c5_ BK133.out (ec_ (kp_ HB.out hw134_0) (ec_ (kp_ HB.out hw134_1) (ec_ (kp_ HB.out hw134_2) (ec_ (kp_ HB.out hw134_3) (ec_ (kp_ HB.out hw134_4) (ec_ (kp_ HB.out hw136_0) (ec_ (kp_ HB.out hw136_1) (ec_ (kp_ HB.out hw136_2) (ec_ (kp_ HB.out hw136_3) (ed_ (kp_ HB.out hw136_4)))))))))))) (fun hHeld => ?_)
       clear hK K
       refine nm_ (N := (some 43)) ?_
      rotate_left
     focus
      refine td_ [(12, 27), (13, 28), (14, 29), (15, 30), (16, 31), (17, 32), (18, 33), (19, 34)] ?_
      iterate 8 (refine pm_ HT_ ?_)
      refine dn_ ?_
      refine td_ [(20, 35), (21, 36), (22, 37), (23, 38), (24, 39), (25, 40), (26, 41), (27, 42), (28, 43)] ?_
      iterate 9 (refine om_ HT_ ?_)
      refine dn_ ?_
     rotate_left
     rotate_left 5
     iterate 3
      focus
       refine td_ [(29, 44), (30, 45)] ?_
      rotate_left
     iterate 2
      focus
       have p138 : 0 ≤ ((ji40) : Int) := of_decide_eq_true (by assumption)
       have q138 : (ji40) < (l0.length : Int) := of_decide_eq_true (by assumption)
       obtain ⟨ad138, e138, hx138_0, hx138_1, hx138_2, hx138_3, hx138_4⟩ := dM HR0.out (ji40) p138 q138
       have hw138_4 := hx138_4
       have hw138_3 := hx138_3
       have hw138_2 := hx138_2
       have hw138_1 := hx138_1
       have hw138_0 := hx138_0
       obtain rfl : ad132 = ad138 := (by injection e138)
       replace hx138_0 := kp_ HB.out hx138_0
       replace hx138_1 := kp_ HB.out hx138_1
       replace hx138_2 := kp_ HB.out hx138_2
       replace hx138_3 := kp_ HB.out hx138_3
       replace hx138_4 := kp_ HB.out hx138_4
       replace p138 := eq_true p138
       replace q138 := eq_true q138
       refine gG (n := 31) (ds := []) (ls 31 0) (by kernel_rfl) rfl rfl (c5_ BK133.out (ec_ (kp_ HB.out hw138_0) (ec_ (kp_ HB.out hw138_1) (ec_ (kp_ HB.out hw138_2) (ec_ (kp_ HB.out hw138_3) (ed_ (kp_ HB.out hw138_4))))))) (fun hHeld => ?_); refine eX bY.uf bY.qL (fun HT_ HW_ => ?_)
       generalize w14.drew = w47 at BK133 HB hx138_0 hx138_1 hx138_2 hx138_3 hx138_4 hHeld ⊢
      rotate_left
     focus
      refine gG (n := 31) (S := fun w' => True) (ds := []) (ls 31 0) (by kernel_rfl) rfl rfl trivial (fun hHeld => ?_); refine eX bY.uf bY.qL (fun HT_ HW_ => ?_)
      generalize w14.drew = w57 at BK133 HB hHeld ⊢
     rotate_left
     rotate_left 5
     iterate 3
      focus
       refine td_ [(0, 15), (1, 16), (2, 17)] ?_
       iterate 3 (refine pm_ HT_ ?_)
       refine dn_ ?_
       refine td_ [(3, 18), (4, 19), (5, 20), (6, 21), (7, 22), (8, 23), (9, 24), (10, 25), (11, 26)] ?_
       iterate 9 (refine om_ HT_ ?_)
       refine dn_ ?_
      rotate_left
     rotate_left 5
     iterate 2
      focus
       refine td_ [(12, 27), (13, 28), (14, 29), (15, 30), (16, 31), (17, 32), (18, 33), (19, 34), (20, 35), (21, 36), (22, 37), (23, 38), (24, 39), (26, 41)] ?_
       iterate 14 (refine pm_ HT_ ?_)
       refine dn_ ?_
       refine td_ [(25, 40), (27, 42)] ?_
       iterate 2 (refine tm_ HT_ HW_ hHeld ?_)
       refine dn_ ?_
       refine jN HT_ (i := 28) (N := some 43) (ls 31 536870911) (fun K hK => ?_)
       refine gs_ Tryz.func44 #[.string ((aj l0 (ji40)).f0), .string ((aj l0 x7_1).f0)] ?_
       with_reducible refine (dG.calls ((aj l0 (ji40)).f0) ((aj l0 x7_1).f0) _ _ A42.out).mono ?_
       rintro e w48 ⟨rfl, hb⟩
       refine ⟨_, rfl, ?_⟩
       replace BK133 := ah.mk (aD (by ((exact BK133.out))) hb)
       replace HB := ah.mk (ak HB.out hb)
       (try clear hb)
       refine hK.out _ _ ⟨(aH BK133.out 0).trans rfl, (aH BK133.out 1).trans rfl, (aH BK133.out 2).trans rfl, (aH BK133.out 3).trans rfl, (aH BK133.out 4).trans rfl, (kp_ HB.out hw138_0), (kp_ HB.out hw138_1), (kp_ HB.out hw138_2), (kp_ HB.out hw138_3), (kp_ HB.out hw138_4)⟩ (fun hHeld => ?_)
       clear hK K
       refine nm_ (N := (some 43)) ?_
      rotate_left
     focus
      refine td_ [(12, 27), (13, 28), (14, 29), (15, 30), (16, 31), (17, 32), (18, 33), (19, 34)] ?_
      iterate 8 (refine pm_ HT_ ?_)
      refine dn_ ?_
      refine td_ [(20, 35), (21, 36), (22, 37), (23, 38), (24, 39), (25, 40), (26, 41), (27, 42), (28, 43)] ?_
      iterate 9 (refine om_ HT_ ?_)
      refine dn_ ?_
     rotate_left
     rotate_left 5
     iterate 3
      focus
       refine td_ [(29, 44), (30, 45)] ?_
      rotate_left
     rotate_left
     iterate 7
      focus
       iterate 2 (refine pm_ HT_ ?_)
       refine dn_ ?_
      rotate_left
     rotate_left
     focus
      refine td_ [(14, 29), (15, 30), (16, 31), (17, 32), (18, 33), (19, 34), (20, 35), (21, 36), (22, 37), (23, 38), (24, 39), (25, 40), (26, 41), (27, 42), (28, 43), (29, 44)] ?_
      iterate 16 (refine om_ HT_ ?_)
      refine dn_ ?_
      refine td_ [(30, 45)] ?_
      refine pm_ HT_ ?_
      refine dn_ ?_
     rotate_left
     rotate_left 3
     rotate_left 3
     rotate_left
     iterate 7
      focus
       refine jJ (iZ HT_.out (by kernel_rfl)) ?_
       (try go_wp2)
      rotate_left
     rotate_left
     ·go_ret
      exact ⟨by rfl, HB.out⟩
     ·go_ret
      exact ⟨by rfl, HB.out⟩
     ·go_roundg k1
      case measure => have := HK1.out; omega
      case rel => exact ⟨(ji18), (by rfl), H', ⟨by have := HK1.out; omega⟩, ⟨HB.out⟩⟩
     ·go_roundg k1
      case measure => have := HK1.out; omega
      case rel => exact ⟨(wrap64 (x7_1 + 1)), (by rfl), H', ⟨by have := HK1.out; omega⟩, ⟨HB.out⟩⟩
     ·go_ret
      exact ⟨by rfl, HB.out⟩
     ·go_roundg k1
      case measure => have := HK1.out; omega
      case rel => exact ⟨(ji40), (by rfl), H', ⟨by have := HK1.out; omega⟩, ⟨HB.out⟩⟩
     ·go_roundg k1
      case measure => have := HK1.out; omega
      case rel => exact ⟨(wrap64 (x7_1 + 1)), (by rfl), H', ⟨by have := HK1.out; omega⟩, ⟨HB.out⟩⟩
     ·go_wp2_with ((((with_reducible refine bF (N := 4) rfl ?_); (try (refine fA (by rfl) ?_; dsimp only)); refine bQ ?hg (N := 4) ?hd (cs := #[.string (⟨#[]⟩ : ByteArray), .int .i64 0, .int .i64 0, .int .i64 0, .string (⟨#[]⟩ : ByteArray)]) (t := 44) ?hr ?_; (case hd => rfl); (case hg => rfl); (case hr => (go_simp; done)); intro gb133 hg w58 hbox hb; have BK133 := ah.mk (hbox); have GW133 := ah.mk (ge_ hg (av HB.out)); have GE133 := ah.mk (ge_ hg (av HB.out)); replace HB := ah.mk (ak HB.out hb); clear hb hbox hg; obtain ⟨hcz59_0, hcz59_1, hcz59_2, hcz59_3, hcz59_4, hfz59_0, hfz59_1, hfz59_2, hfz59_3, hfz59_4⟩ := z5_ BK133.out)))
      go_roundg k1
      case measure => have := HK1.out; omega
      case rel => exact ⟨(wrap64 (x7_1 + 1)), (by rfl), H', ⟨by have := HK1.out; omega⟩, ⟨by repeat ((with_reducible first | exact HB.out | refine dN ?_ GE133.out))⟩⟩
    ·rw [if_neg c2] at H
     have c2b0 : decide (x7_1 < (l0.length : Int)) = false := decide_eq_false c2
     clear c2
     obtain rfl := Option.some.inj H
     go_wp2
     go_ret
     exact ⟨by rfl, HB.out⟩
end Go.Y.PRr
namespace Go.Y.PRr
open Go.RowKit Go.V.aC Go.V.aV Go.V.aX Go.Y.Given Go.Y.PRd
attribute [local go_sem] dP dQ eu eB dD dF dR dS   -- for this text's walks alone
def dY.l0 : Nat → List (S44) → List (S44) → Int → Option ((List (S44)))
 | 0, _, _, _ => none
 | k + 1, x0, x3, x4 => if x4 < (x0.length : Int) then (if 0 ≤ x4 then ((aJ.f k x3 ((aj x0 x4).f0) ((aj x0 x4).f1) ((aj x0 x4).f2) ((aj x0 x4).f3) ((aj x0 x4).f4)).bind fun t201 => (dY.l0 k x0 t201 (wrap64 (x4 + 1)))) else (none)) else (some x3)
def dY.f (k : Nat) (l0 : List (S44)) : Option ((List (S44))) := dY.l0 k l0 ([] : List (S44)) 0
theorem dY.calls (k : Nat) (A0 : Option Addr) (c0 : Nat) (l0 : List (S44)) (r : List (S44)) (w : World) (hr0 : Kd.C k44 w A0 l0.length l0) (hc0 : l0.length ≤ c0) (h : dY.f k l0 = some r) :
    Calls Tryz.prog 49 #[.slice A0 l0.length c0] w fun e w' => ∃ v0_ : Value, e = .returned (v0_) ∧ Kd.R k44 44 w' w.heap.size (fun _ => True) v0_ r ∧ Below w.heap.size w w' := by
  have hu44 := Tryz.underlying44
  have HR0 := ah.mk hr0
  have HC0 := ah.mk hc0
  clear hr0 hc0
  have HB := ah.mk (Below.refl w.heap.size w)
  have H : (dY.l0 k l0 ([] : List (S44)) 0) = some r := h
  clear h
  have H' := ah.mk H
  clear H
  go_enter Tryz.func49, Tryz.ntmps49
  go_wp2
  go_loopg [3, 4] k (fun kq v3 v4 w' => ∃ (x3_1 : List (S44)) (x4_1 : Int), v4 = .int .i64 x4_1 ∧ ah (dY.l0 kq l0 x3_1 x4_1 = some r) ∧ ah (kq ≤ k) ∧ ah (Kd.R k44 44 w' w.heap.size (fun _ => True) v3 x3_1) ∧ ah (Below w.heap.size w w'))
  case atStart => exact ⟨(([] : List (S44))), (0), (by rfl), H', ⟨Nat.le_refl _⟩, ⟨by (exact Kd.gq _ _ _ _ _)⟩, ⟨HB.out⟩⟩
  case round =>
   clear H'
   obtain ⟨x3_1, x4_1, rfl, HA, HK1, HO_3, HB⟩ := hrel
   cases gk with
   | zero => exact absurd HA.out (by simp [dY.l0])
   | succ k1 =>
    have H := HA.out
    clear HA
    simp only [dY.l0] at H
    by_cases c2 : x4_1 < (l0.length : Int)
    ·rw [if_pos c2] at H
     have c2b0 : decide (x4_1 < (l0.length : Int)) = true := decide_eq_true c2
     clear c2
     obtain ⟨c3b0, H⟩ := dU H
     obtain ⟨t201, A4, H⟩ := bP H
     have H' := ah.mk H
     clear H
     have p200 : 0 ≤ (x4_1 : Int) := of_decide_eq_true (by assumption)
     have q200 : x4_1 < (l0.length : Int) := of_decide_eq_true (by assumption)
     obtain ⟨ad200, e200, hx200_0, hx200_1, hx200_2, hx200_3, hx200_4⟩ := dM HR0.out x4_1 p200 q200
     cases e200
     replace hx200_0 := kp_ HB.out hx200_0
     replace hx200_1 := kp_ HB.out hx200_1
     replace hx200_2 := kp_ HB.out hx200_2
     replace hx200_3 := kp_ HB.out hx200_3
     replace hx200_4 := kp_ HB.out hx200_4
     replace p200 := eq_true p200
     replace q200 := eq_true q200
     obtain ⟨Ao5, co5, eo5⟩ := Kd.bO HO_3.out
     subst eo5
     go_wp2_with (((refine gl_ (some 16) Tryz.func71 #[.slice Ao5 x3_1.length co5, .agg #[.string ((aj l0 x4_1).f0), .int .i64 ((aj l0 x4_1).f1), .int .i64 ((aj l0 x4_1).f2), .int .i64 ((aj l0 x4_1).f3), .string ((aj l0 x4_1).f4)]] ?_; (with_reducible refine (aJ.calls k1 _ _ x3_1 ((aj l0 x4_1).f0) ((aj l0 x4_1).f1) ((aj l0 x4_1).f2) ((aj l0 x4_1).f3) ((aj l0 x4_1).f4) t201 _ ?side1 ?side2 A4.out).mono ?_); (case side1 => exact (Kd.aN HO_3.out).2.2); (case side2 => exact (Kd.aN HO_3.out).2.1); rintro e w6 ⟨v202, rfl, ho0, hb⟩; refine ⟨_, rfl, ?_⟩; have HO203 := ah.mk (Kd.bZ (Kd.iB ho0 (Kd.jO (by ((exact HO_3.out))))) (av HB.out)); replace HO_3 := ah.mk (Kd.fI (by ((exact HO_3.out))) (Kd.iC ho0) hb); replace HB := ah.mk (ak HB.out hb); (try clear hb); (try clear ho0))))
     go_roundg k1
     case measure => have := HK1.out; omega
     case rel => exact ⟨(t201), (wrap64 (x4_1 + 1)), (by rfl), H', ⟨by have := HK1.out; omega⟩, ⟨by (with_reducible repeat ((apply Kd.aK))); exact Kd.dH HO203.out (fun _ hk => trivial)⟩, ⟨HB.out⟩⟩
    ·rw [if_neg c2] at H
     have c2b0 : decide (x4_1 < (l0.length : Int)) = false := decide_eq_false c2
     clear c2
     obtain rfl := Option.some.inj H
     go_wp2
     go_ret
     exact ⟨_, by rfl, by (with_reducible repeat ((apply Kd.aK))); exact HO_3.out, HB.out⟩
def bD.l0 : Nat → List (S44) → ByteArray → List (S44) → Int → Option ((List (S44)))
 | 0, _, _, _, _ => none
 | k + 1, x0, x1, x5, x6 => if x6 < (x0.length : Int) then (if 0 ≤ x6 then ((dJ.f k ((aj x0 x6).f0) x1).bind fun t205 => (if t205 = true then (if x5.length < 2513169434916 then (bD.l0 k x0 x1 (x5 ++ [(⟨(aj x0 x6).f0, (aj x0 x6).f1, (aj x0 x6).f2, (aj x0 x6).f3, (aj x0 x6).f4⟩ : S44)]) (wrap64 (x6 + 1))) else (none)) else (bD.l0 k x0 x1 x5 (wrap64 (x6 + 1))))) else (none)) else (some x5)
def bD.f (k : Nat) (l0 : List (S44)) (a1 : ByteArray) : Option ((List (S44))) := bD.l0 k l0 a1 ([] : List (S44)) 0
theorem bD.calls (k : Nat) (A0 : Option Addr) (c0 : Nat) (l0 : List (S44)) (a1 : ByteArray) (r : List (S44)) (w : World) (hr0 : Kd.C k44 w A0 l0.length l0) (hc0 : l0.length ≤ c0) (h : bD.f k l0 a1 = some r) :
    Calls Tryz.prog 17 #[.slice A0 l0.length c0, .string a1] w fun e w' => ∃ v0_ : Value, e = .returned (v0_) ∧ Kd.R k44 44 w' w.heap.size (fun _ => True) v0_ r ∧ Below w.heap.size w w' := by
  have hu44 := Tryz.underlying44
  have HR0 := ah.mk hr0
  have HC0 := ah.mk hc0
  clear hr0 hc0
  have HB := ah.mk (Below.refl w.heap.size w)
  have H : (bD.l0 k l0 a1 ([] : List (S44)) 0) = some r := h
  clear h
  have H' := ah.mk H
  clear H
  go_enter Tryz.func17, Tryz.ntmps17
  go_wp2
  go_loopg [5, 6] k (fun kq v5 v6 w' => ∃ (x5_1 : List (S44)) (x6_1 : Int), v6 = .int .i64 x6_1 ∧ ah (bD.l0 kq l0 a1 x5_1 x6_1 = some r) ∧ ah (kq ≤ k) ∧ ah (Kd.R k44 44 w' w.heap.size (fun _ => True) v5 x5_1) ∧ ah (Below w.heap.size w w'))
  case atStart => exact ⟨(([] : List (S44))), (0), (by rfl), H', ⟨Nat.le_refl _⟩, ⟨by (exact Kd.gq _ _ _ _ _)⟩, ⟨HB.out⟩⟩
  case round =>
   clear H'
   obtain ⟨x5_1, x6_1, rfl, HA, HK1, HO_5, HB⟩ := hrel
   cases gk with
   | zero => exact absurd HA.out (by simp [bD.l0])
   | succ k1 =>
    have H := HA.out
    clear HA
    simp only [bD.l0] at H
    by_cases c3 : x6_1 < (l0.length : Int)
    ·rw [if_pos c3] at H
     have c3b0 : decide (x6_1 < (l0.length : Int)) = true := decide_eq_true c3
     clear c3
     obtain ⟨c4b0, H⟩ := dU H
     obtain ⟨t205, A5, H⟩ := bP H
     by_cases c6 : t205 = true
     focus
      subst c6
      rw [if_pos rfl] at H
      obtain ⟨c7, H⟩ := gd_ H
      have LMc7 := ah.mk c7
      clear c7
      obtain ⟨y207, hy207⟩ : ∃ y_ : List (S44), y_ = (x5_1 ++ [(⟨(aj l0 x6_1).f0, (aj l0 x6_1).f1, (aj l0 x6_1).f2, (aj l0 x6_1).f3, (aj l0 x6_1).f4⟩ : S44)]) := ⟨_, rfl⟩
      replace H : (bD.l0 k1 l0 a1 y207 (wrap64 (x6_1 + 1))) = some r := by (rw [hy207]; with_reducible exact H)
      have Ny207 := ah.mk hy207
      clear hy207
     rotate_left
     focus
      replace c6 := Bool.eq_false_iff.mpr c6
      subst c6
      rw [if_neg ff_] at H
     rotate_left
     all_goals
      have H' := ah.mk H
      clear H
      have p204 : 0 ≤ (x6_1 : Int) := of_decide_eq_true (by assumption)
      have q204 : x6_1 < (l0.length : Int) := of_decide_eq_true (by assumption)
      obtain ⟨ad204, e204, hx204_0, hx204_1, hx204_2, hx204_3, hx204_4⟩ := dM HR0.out x6_1 p204 q204
      cases e204
      replace hx204_0 := kp_ HB.out hx204_0
      replace hx204_1 := kp_ HB.out hx204_1
      replace hx204_2 := kp_ HB.out hx204_2
      replace hx204_3 := kp_ HB.out hx204_3
      replace hx204_4 := kp_ HB.out hx204_4
      replace p204 := eq_true p204
      replace q204 := eq_true q204
     ·go_wp2_with (first | (refine gl_ (some 19) Tryz.func53 #[.string ((aj l0 x6_1).f0), .string a1] ?_; (with_reducible refine (dJ.calls k1 ((aj l0 x6_1).f0) a1 _ _ A5.out).mono ?_); rintro e w8 ⟨rfl, hb⟩; refine ⟨_, rfl, ?_⟩; replace HO_5 := ah.mk (Kd.bI (by ((exact HO_5.out))) hb); replace HB := ah.mk (ak HB.out hb); (try clear hb); have p206 : 0 ≤ (x6_1 : Int) := of_decide_eq_true (by assumption); have q206 : x6_1 < (l0.length : Int) := of_decide_eq_true (by assumption); obtain ⟨ad206, e206, hx206_0, hx206_1, hx206_2, hx206_3, hx206_4⟩ := dM HR0.out x6_1 p206 q206; obtain rfl : ad204 = ad206 := (by injection e206); replace hx206_0 := kp_ HB.out hx206_0; replace hx206_1 := kp_ HB.out hx206_1; replace hx206_2 := kp_ HB.out hx206_2; replace hx206_3 := kp_ HB.out hx206_3; replace hx206_4 := kp_ HB.out hx206_4; replace p206 := eq_true p206; replace q206 := eq_true q206) | ((with_reducible refine eP (b := .append) (xs := #[.tmp 20, .tmp 25]) rfl ?_); at_builtin; refine Kd.gV k44 (w0 := w) w.heap.size rfl (.tmp 20) (.tmp 25) 22 44 (.agg #[(.string ⟨#[]⟩), (.int .i64 0), (.int .i64 0), (.int .i64 0), (.string ⟨#[]⟩)]) 56 rfl Tryz.underlying22 nE rfl (by decide) (by omega) u5 x5_1 (⟨(aj l0 x6_1).f0, (aj l0 x6_1).f1, (aj l0 x6_1).f2, (aj l0 x6_1).f3, (aj l0 x6_1).f4⟩ : S44) [.string ((aj l0 x6_1).f0), .int .i64 ((aj l0 x6_1).f1), .int .i64 ((aj l0 x6_1).f2), .int .i64 ((aj l0 x6_1).f3), .string ((aj l0 x6_1).f4)] (fun _ => True) (fun _ => False) rfl rfl ?aP (fun _ hk => hk.elim) ?aF ?aO ?aB ?aS ?aL ?_; (case aP => exact iy _ _ _ (⟨(aj l0 x6_1).f0, (aj l0 x6_1).f1, (aj l0 x6_1).f2, (aj l0 x6_1).f3, (aj l0 x6_1).f4⟩ : S44)); (case aB => exact HB.out); (case aF => exact (fun _ _ => trivial)); (case aO => exact (by ((exact HO_5.out)))); (case aS => exact (av HB.out)); (case aL => have := LMc7.out; omega); intro v208 w9 ho hb hg hat; rw [← Ny207.out] at ho; have n0_ := ah.mk (hb); have n1_ := ah.mk (ho); clear HB; clear HO_5; have HB := n0_; have HO209 := n1_; clear n0_ n1_; clear ho hb hg hat))
      go_roundg k1
      case measure => have := HK1.out; omega
      case rel => exact ⟨(y207), (wrap64 (x6_1 + 1)), (by rfl), H', ⟨by have := HK1.out; omega⟩, ⟨by (with_reducible repeat ((apply Kd.aK))); exact HO209.out⟩, ⟨HB.out⟩⟩
     ·go_wp2_with (((refine gl_ (some 19) Tryz.func53 #[.string ((aj l0 x6_1).f0), .string a1] ?_; (with_reducible refine (dJ.calls k1 ((aj l0 x6_1).f0) a1 _ _ A5.out).mono ?_); rintro e w10 ⟨rfl, hb⟩; refine ⟨_, rfl, ?_⟩; replace HO_5 := ah.mk (Kd.bI (by ((exact HO_5.out))) hb); replace HB := ah.mk (ak HB.out hb); (try clear hb))))
      go_roundg k1
      case measure => have := HK1.out; omega
      case rel => exact ⟨(x5_1), (wrap64 (x6_1 + 1)), (by rfl), H', ⟨by have := HK1.out; omega⟩, ⟨by (with_reducible repeat ((apply Kd.aK))); exact HO_5.out⟩, ⟨HB.out⟩⟩
    ·rw [if_neg c3] at H
     have c3b0 : decide (x6_1 < (l0.length : Int)) = false := decide_eq_false c3
     clear c3
     obtain rfl := Option.some.inj H
     go_wp2
     go_ret
     exact ⟨_, by rfl, by (with_reducible repeat ((apply Kd.aK))); exact HO_5.out, HB.out⟩
def bJ.l0 : Nat → List (S44) → Int → List (S44) → Int → Option ((List (S44)))
 | 0, _, _, _, _ => none
 | k + 1, x0, x1, x5, x6 => if x6 < (x0.length : Int) then (if 0 ≤ x6 then (if ((aj x0 x6).f1) = x1 then (if x5.length < 2513169434916 then (bJ.l0 k x0 x1 (x5 ++ [(⟨(aj x0 x6).f0, (aj x0 x6).f1, (aj x0 x6).f2, (aj x0 x6).f3, (aj x0 x6).f4⟩ : S44)]) (wrap64 (x6 + 1))) else (none)) else (bJ.l0 k x0 x1 x5 (wrap64 (x6 + 1)))) else (none)) else (some x5)
def bJ.f (k : Nat) (l0 : List (S44)) (a1 : Int) : Option ((List (S44))) := bJ.l0 k l0 a1 ([] : List (S44)) 0
theorem bJ.calls (k : Nat) (A0 : Option Addr) (c0 : Nat) (l0 : List (S44)) (a1 : Int) (r : List (S44)) (w : World) (hr0 : Kd.C k44 w A0 l0.length l0) (hc0 : l0.length ≤ c0) (h : bJ.f k l0 a1 = some r) :
    Calls Tryz.prog 51 #[.slice A0 l0.length c0, .int .i64 a1] w fun e w' => ∃ v0_ : Value, e = .returned (v0_) ∧ Kd.R k44 44 w' w.heap.size (fun _ => True) v0_ r ∧ Below w.heap.size w w' := by
  have hu44 := Tryz.underlying44
  have HR0 := ah.mk hr0
  have HC0 := ah.mk hc0
  clear hr0 hc0
  have HB := ah.mk (Below.refl w.heap.size w)
  have H : (bJ.l0 k l0 a1 ([] : List (S44)) 0) = some r := h
  clear h
  have H' := ah.mk H
  clear H
  go_enter Tryz.func51, Tryz.ntmps51
  go_wp2
  go_loopg [5, 6] k (fun kq v5 v6 w' => ∃ (x5_1 : List (S44)) (x6_1 : Int), v6 = .int .i64 x6_1 ∧ ah (bJ.l0 kq l0 a1 x5_1 x6_1 = some r) ∧ ah (kq ≤ k) ∧ ah (Kd.R k44 44 w' w.heap.size (fun _ => True) v5 x5_1) ∧ ah (Below w.heap.size w w'))
  case atStart => exact ⟨(([] : List (S44))), (0), (by rfl), H', ⟨Nat.le_refl _⟩, ⟨by (exact Kd.gq _ _ _ _ _)⟩, ⟨HB.out⟩⟩
  case round =>
   clear H'
   obtain ⟨x5_1, x6_1, rfl, HA, HK1, HO_5, HB⟩ := hrel
   cases gk with
   | zero => exact absurd HA.out (by simp [bJ.l0])
   | succ k1 =>
    have H := HA.out
    clear HA
    simp only [bJ.l0] at H
    by_cases c3 : x6_1 < (l0.length : Int)
    ·rw [if_pos c3] at H
     have c3b0 : decide (x6_1 < (l0.length : Int)) = true := decide_eq_true c3
     clear c3
     obtain ⟨c4b0, H⟩ := dU H
     by_cases c5 : ((aj l0 x6_1).f1) = a1
     focus
      rw [if_pos c5] at H
      have c5b0 : (((aj l0 x6_1).f1) == a1) = true := beq_iff_eq.mpr c5
      have c5b1 : (((aj l0 x6_1).f1) != a1) = false := bne_eq_false_iff_eq.mpr c5
      clear c5
      obtain ⟨c6, H⟩ := gd_ H
      have LMc6 := ah.mk c6
      clear c6
      obtain ⟨y212, hy212⟩ : ∃ y_ : List (S44), y_ = (x5_1 ++ [(⟨(aj l0 x6_1).f0, (aj l0 x6_1).f1, (aj l0 x6_1).f2, (aj l0 x6_1).f3, (aj l0 x6_1).f4⟩ : S44)]) := ⟨_, rfl⟩
      replace H : (bJ.l0 k1 l0 a1 y212 (wrap64 (x6_1 + 1))) = some r := by (rw [hy212]; with_reducible exact H)
      have Ny212 := ah.mk hy212
      clear hy212
     rotate_left
     focus
      rw [if_neg c5] at H
      have c5b0 : (((aj l0 x6_1).f1) == a1) = false := beq_eq_false_iff_ne.mpr c5
      have c5b1 : (((aj l0 x6_1).f1) != a1) = true := bne_iff_ne.mpr c5
     rotate_left
     all_goals
      have H' := ah.mk H
      clear H
      have p210 : 0 ≤ (x6_1 : Int) := of_decide_eq_true (by assumption)
      have q210 : x6_1 < (l0.length : Int) := of_decide_eq_true (by assumption)
      obtain ⟨ad210, e210, hx210_0, hx210_1, hx210_2, hx210_3, hx210_4⟩ := dM HR0.out x6_1 p210 q210
      cases e210
      replace hx210_0 := kp_ HB.out hx210_0
      replace hx210_1 := kp_ HB.out hx210_1
      replace hx210_2 := kp_ HB.out hx210_2
      replace hx210_3 := kp_ HB.out hx210_3
      replace hx210_4 := kp_ HB.out hx210_4
      replace p210 := eq_true p210
      replace q210 := eq_true q210
     ·have p211 : 0 ≤ (x6_1 : Int) := of_decide_eq_true (by assumption)
      have q211 : x6_1 < (l0.length : Int) := of_decide_eq_true (by assumption)
      obtain ⟨ad211, e211, hx211_0, hx211_1, hx211_2, hx211_3, hx211_4⟩ := dM HR0.out x6_1 p211 q211
      obtain rfl : ad210 = ad211 := (by injection e211)
      replace hx211_0 := kp_ HB.out hx211_0
      replace hx211_1 := kp_ HB.out hx211_1
      replace hx211_2 := kp_ HB.out hx211_2
      replace hx211_3 := kp_ HB.out hx211_3
      replace hx211_4 := kp_ HB.out hx211_4
      replace p211 := eq_true p211
      replace q211 := eq_true q211
      go_wp2_with ((((with_reducible refine eP (b := .append) (xs := #[.tmp 20, .tmp 25]) rfl ?_); at_builtin; refine Kd.gV k44 (w0 := w) w.heap.size rfl (.tmp 20) (.tmp 25) 22 44 (.agg #[(.string ⟨#[]⟩), (.int .i64 0), (.int .i64 0), (.int .i64 0), (.string ⟨#[]⟩)]) 56 rfl Tryz.underlying22 nE rfl (by decide) (by omega) u5 x5_1 (⟨(aj l0 x6_1).f0, (aj l0 x6_1).f1, (aj l0 x6_1).f2, (aj l0 x6_1).f3, (aj l0 x6_1).f4⟩ : S44) [.string ((aj l0 x6_1).f0), .int .i64 ((aj l0 x6_1).f1), .int .i64 ((aj l0 x6_1).f2), .int .i64 ((aj l0 x6_1).f3), .string ((aj l0 x6_1).f4)] (fun _ => True) (fun _ => False) rfl rfl ?aP (fun _ hk => hk.elim) ?aF ?aO ?aB ?aS ?aL ?_; (case aP => exact iy _ _ _ (⟨(aj l0 x6_1).f0, (aj l0 x6_1).f1, (aj l0 x6_1).f2, (aj l0 x6_1).f3, (aj l0 x6_1).f4⟩ : S44)); (case aB => exact HB.out); (case aF => exact (fun _ _ => trivial)); (case aO => exact (by ((exact HO_5.out)))); (case aS => exact (av HB.out)); (case aL => have := LMc6.out; omega); intro v213 w7 ho hb hg hat; rw [← Ny212.out] at ho; have n0_ := ah.mk (hb); have n1_ := ah.mk (ho); clear HB; clear HO_5; have HB := n0_; have HO214 := n1_; clear n0_ n1_; clear ho hb hg hat)))
      go_roundg k1
      case measure => have := HK1.out; omega
      case rel => exact ⟨(y212), (wrap64 (x6_1 + 1)), (by rfl), H', ⟨by have := HK1.out; omega⟩, ⟨by (with_reducible repeat ((apply Kd.aK))); exact HO214.out⟩, ⟨HB.out⟩⟩
     ·go_wp2
      go_roundg k1
      case measure => have := HK1.out; omega
      case rel => exact ⟨(x5_1), (wrap64 (x6_1 + 1)), (by rfl), H', ⟨by have := HK1.out; omega⟩, ⟨by (with_reducible repeat ((apply Kd.aK))); exact HO_5.out⟩, ⟨HB.out⟩⟩
    ·rw [if_neg c3] at H
     have c3b0 : decide (x6_1 < (l0.length : Int)) = false := decide_eq_false c3
     clear c3
     obtain rfl := Option.some.inj H
     go_wp2
     go_ret
     exact ⟨_, by rfl, by (with_reducible repeat ((apply Kd.aK))); exact HO_5.out, HB.out⟩
end Go.Y.PRr
namespace Go.Y.Rrs
open Go.RowKit Go.V.aC Go.V.aV Go.V.aX Go.Y.Given Go.Y.PRd Go.Y.PRr Go.Y.Oct Go.Y.Name Go.Y.Cmp Go.Y.gu Go.Y.fQ Go.Y.iD
def rcO (k : Nat) (x y : RR) : Option Int := bN.f k x.f0 x.f1 x.f2 x.f3 x.f4 y.f0 y.f1 y.f2 y.f3 y.f4
theorem Aw (x y : RR) (hx : fine x) (hy : fine y) : Ev (fun k => rcO k x y) (aW x y) := ⟨FU + 4000, fun k hk => Hr x y hx.1 hy.1 hx.2 hy.2 k hk⟩
theorem Gn (c : Int) (d : ByteArray) : gM.f c d.toList.isEmpty = some (ng c d) := by
 unfold gM.f ng
 repeat' split
 all_goals rfl
theorem AJ (t : Int) (d : ByteArray) (h : d.size ≤ 1000000) : Ev (fun k => dX.f k t d) (jH t d) := ⟨FU + 2000, fun k hk => tZ t d h k hk⟩
theorem uV (n : ByteArray) : Ev (fun k => bK.f k n) (bG n) := ⟨600, fun k hk => nJ n k hk⟩
theorem zM (b : Bool) (x : RR) (h : b = false → x.f4.size ≤ 1000000) : Ev (fun k => bn.j0 k b x.f0 x.f1 x.f2 x.f3 x.f4) (!b && (!ng x.f2 x.f4 || jH x.f1 x.f4)) := by
 have hs : ∀ k, bn.j0 (k + 1) b x.f0 x.f1 x.f2 x.f3 x.f4 = if b = true then some false else (gM.f x.f2 x.f4.toList.isEmpty).bind fun t => if t = true then (dX.f k x.f1 x.f4).bind fun u => some u else some true := fun k => by
  simp only [bn.j0]
 refine Ev.step hs ?_
 cases b
 ·simp only [Gn, Option.bind_some, Bool.false_eq_true, if_false]
  cases ht : ng x.f2 x.f4
  ·simp only [Bool.false_eq_true, if_false]
   exact Ev.now _
  ·simp only [if_true]
   refine Ev.bind (AJ _ _ (h rfl)) ?_
   exact Ev.now _
 ·simp only [if_true]
  exact Ev.now _
theorem Dh (x : RR) : Ev (fun k => bn.f k x.f0 x.f1 x.f2 x.f3 x.f4) (gU x) := by
 have hs : ∀ k, bn.f k x.f0 x.f1 x.f2 x.f3 x.f4 = (bK.f k x.f0).bind fun t => bn.j0 k (!(t && (decide (0 ≤ x.f1) && (decide (x.f1 ≤ 65535) && (decide (0 ≤ x.f2) && (decide (x.f2 ≤ 65535) && (decide (0 ≤ x.f3) && (decide (x.f3 ≤ 2147483647) && decide (x.f4.size ≤ 65535))))))))) x.f0 x.f1 x.f2 x.f3 x.f4 := fun k => by
  unfold bn.f
  congr 1
  funext t
  by_cases h1 : x.f1 < 0
  ·simp [h1, show ¬ (0 ≤ x.f1) by omega]
  by_cases h2 : x.f1 > 65535
  ·simp [h1, h2, show ¬ (x.f1 ≤ 65535) by omega]
  by_cases h3 : x.f2 < 0
  ·simp [h1, h2, h3, show ¬ (0 ≤ x.f2) by omega]
  by_cases h4 : x.f2 > 65535
  ·simp [h1, h2, h3, h4, show ¬ (x.f2 ≤ 65535) by omega]
  by_cases h5 : x.f3 < 0
  ·simp [h1, h2, h3, h4, h5, show ¬ (0 ≤ x.f3) by omega]
  by_cases h6 : x.f3 > 2147483647
  ·simp [h1, h2, h3, h4, h5, h6, show ¬ (x.f3 ≤ 2147483647) by omega]
  have e7 : decide ((x.f4.size : Int) > 65535) = !decide (x.f4.size ≤ 65535) := by
   by_cases h7 : x.f4.size ≤ 65535
   ·rw [decide_eq_true h7, decide_eq_false (by omega)]; rfl
   ·rw [decide_eq_false h7, decide_eq_true (by omega)]; rfl
  rw [if_neg h1, if_neg h2, if_neg h3, if_neg h4, if_neg h5, if_neg h6, e7]
  cases t
  ·simp
  ·simp [show 0 ≤ x.f1 by omega, show x.f1 ≤ 65535 by omega, show 0 ≤ x.f2 by omega, show x.f2 ≤ 65535 by omega, show 0 ≤ x.f3 by omega, show x.f3 ≤ 2147483647 by omega]
 refine Ev.congr hs (Ev.bind (uV x.f0) ?_)
 refine (?_ : (!(!(bG x.f0 && _)) && _) = gU x) ▸ zM _ x ?_
 ·unfold gU
  simp only [Bool.not_not, Bool.and_assoc]
 ·intro h
  simp only [Bool.not_eq_false', Bool.and_eq_true, decide_eq_true_eq] at h
  omega
end Go.Y.Rrs
namespace Go.Y.Rrs
open Go.RowKit Go.V.aC Go.V.aV Go.V.aX Go.Y.Given Go.Y.PRd Go.Y.PRr Go.Y.Oct Go.Y.Name Go.Y.Cmp Go.Y.gu Go.Y.fQ Go.Y.iD
structure lg (l : List RR) : Prop where
 all : ∀ y ∈ l, fine y
 len : l.length ≤ 1000000
 set : jm aW l
theorem yY (l : List RR) (x : RR) (hl : ∀ y ∈ l, fine y) (hx : fine x) (hn : l.length ≤ 1000000) : ∀ (d i : Nat) (out : List RR), l.length ≤ i + d → out.length ≤ i + 1 → (∀ y ∈ l.drop i, aW x y < 0) → Ev (fun k => aJ.l0 k l out true (i : Int) x.f0 x.f1 x.f2 x.f3 x.f4) (out ++ l.drop i) := by
 intro d
 induction d with
 | zero =>
  intro i out hd _ _
  refine Ev.step (f := fun _ => some out) (fun k => by rw [aJ.l0]; rw [if_neg (by omega), if_pos rfl]) ?_
  rw [List.drop_of_length_le (by omega), List.append_nil]
  exact Ev.now _
 | succ d ih =>
  intro i out hd ho hlt
  by_cases hi : i < l.length
  ·have e1 : wrap64 ((i : Int) + 1) = ((i + 1 : Nat) : Int) := by unfold wrap64; omega
   have hr := eH l i hi
   have h0 : aW x l[i] < 0 := hlt _ (by rw [List.drop_eq_getElem_cons hi]; exact List.mem_cons_self ..)
   have hs : ∀ k, aJ.l0 (k + 1) l out true (i : Int) x.f0 x.f1 x.f2 x.f3 x.f4 = (rcO k x (rdR l (i : Int))).bind fun t => if t ≤ 0 then aJ.j1 k l out true (i : Int) t false x.f0 x.f1 x.f2 x.f3 x.f4 else aJ.j1 k l out true (i : Int) t false x.f0 x.f1 x.f2 x.f3 x.f4 := fun k => by
    rw [aJ.l0]
    rw [if_pos (by omega), if_pos (by omega)]
    all_goals rfl
   rw [hr] at hs
   refine Ev.step hs (Ev.bind (Aw _ _ hx (hl _ (List.getElem_mem _))) ?_)
   simp only [show aW x l[i] ≤ 0 from by omega, if_true]
   have hj : ∀ k, aJ.j1 (k + 1) l out true (i : Int) (aW x l[i]) false x.f0 x.f1 x.f2 x.f3 x.f4 = aJ.l0 k l (out ++ [rdR l (i : Int)]) true ((i + 1 : Nat) : Int) x.f0 x.f1 x.f2 x.f3 x.f4 := fun k => by
    rw [aJ.j1, e1]
    rw [if_neg (by decide), if_neg (by omega), if_pos (by omega), if_pos (by omega), if_pos (by omega)]
    all_goals rfl
   rw [hr] at hj
   refine Ev.step hj ?_
   rw [List.drop_eq_getElem_cons hi, show out ++ l[i] :: l.drop (i + 1) = (out ++ [l[i]]) ++ l.drop (i + 1) from by simp]
   refine ih (i + 1) _ (by omega) (by rw [List.length_append, List.length_singleton]; omega) (fun y hy => hlt y ?_)
   rw [List.drop_eq_getElem_cons hi]; exact List.mem_cons_of_mem _ hy
  ·refine Ev.step (f := fun _ => some out) (fun k => by rw [aJ.l0]; rw [if_neg (by omega), if_pos rfl]) ?_
   rw [List.drop_of_length_le (by omega), List.append_nil]
   exact Ev.now _
theorem EB (l : List RR) (x : RR) (h : lg l) (hx : fine x) : ∀ (d i : Nat) (out : List RR), l.length ≤ i + d → i ≤ l.length → out.length ≤ i → Ev (fun k => aJ.l0 k l out false (i : Int) x.f0 x.f1 x.f2 x.f3 x.f4) (out ++ put aW (l.drop i) x) := by
 have hn := h.len
 have hend : ∀ (i : Nat) (out : List RR), l.length ≤ i → out.length ≤ 1000001 → Ev (fun k => aJ.l0 k l out false (i : Int) x.f0 x.f1 x.f2 x.f3 x.f4) (out ++ put aW (l.drop i) x) := by
  intro i out hd ho
  refine Ev.step (f := fun _ => some (out ++ [x])) (fun k => by rw [aJ.l0]; rw [if_neg (by omega), if_neg (by decide), if_pos (by omega)]) ?_
  rw [List.drop_of_length_le hd, put]
  exact Ev.now _
 intro d
 induction d with
 | zero => exact fun i out hd hi0 ho => hend i out (by omega) (by omega)
 | succ d ih =>
  intro i out hd hi0 ho
  by_cases hi : i < l.length
  ·have e1 : wrap64 ((i : Int) + 1) = ((i + 1 : Nat) : Int) := by unfold wrap64; omega
   have hr := eH l i hi
   have hset : jm aW (l[i] :: l.drop (i + 1)) := by rw [← List.drop_eq_getElem_cons hi]; exact h.set.sublist (List.drop_sublist _ _)
   have hab := (List.pairwise_cons.mp hset).1
   have hs : ∀ k, aJ.l0 (k + 1) l out false (i : Int) x.f0 x.f1 x.f2 x.f3 x.f4 = (rcO k x (rdR l (i : Int))).bind fun t => if t ≤ 0 then aJ.j1 k l out false (i : Int) t true x.f0 x.f1 x.f2 x.f3 x.f4 else aJ.j1 k l out false (i : Int) t false x.f0 x.f1 x.f2 x.f3 x.f4 := fun k => by
    rw [aJ.l0]
    rw [if_pos (by omega), if_pos (by omega)]
    all_goals rfl
   rw [hr] at hs
   refine Ev.step hs (Ev.bind (Aw _ _ hx (h.all _ (List.getElem_mem _))) ?_)
   rw [List.drop_eq_getElem_cons hi, put]
   by_cases hlt : aW x l[i] < 0
   ·rw [if_pos hlt]
    simp only [show aW x l[i] ≤ 0 from by omega, if_true]
    have hj : ∀ k, aJ.j1 (k + 1) l out false (i : Int) (aW x l[i]) true x.f0 x.f1 x.f2 x.f3 x.f4 = aJ.l0 k l ((out ++ [x]) ++ [rdR l (i : Int)]) true ((i + 1 : Nat) : Int) x.f0 x.f1 x.f2 x.f3 x.f4 := fun k => by
     rw [aJ.j1, e1]
     rw [if_pos rfl, if_pos (by omega), Option.bind_some, if_neg (by omega), if_pos (by omega), if_pos (by omega), if_pos (by rw [List.length_append, List.length_singleton]; omega)]
     all_goals rfl
    rw [hr] at hj
    refine Ev.step hj ?_
    rw [show out ++ x :: l[i] :: l.drop (i + 1) = (out ++ [x] ++ [l[i]]) ++ l.drop (i + 1) from by simp]
    exact yY l x h.all hx hn d (i + 1) _ (by omega) (by simp only [List.length_append, List.length_singleton]; omega) (fun y hy => fD.trans x _ y hlt (hab y hy))
   ·rw [if_neg hlt]
    by_cases h0 : aW x l[i] = 0
    ·rw [if_pos h0]
     simp only [show aW x l[i] ≤ 0 from by omega, if_true]
     have hj : ∀ k, aJ.j1 (k + 1) l out false (i : Int) (aW x l[i]) true x.f0 x.f1 x.f2 x.f3 x.f4 = aJ.l0 k l (out ++ [x]) true ((i + 1 : Nat) : Int) x.f0 x.f1 x.f2 x.f3 x.f4 := fun k => by
      rw [aJ.j1, e1]
      rw [if_pos rfl, if_pos (by omega), Option.bind_some, if_pos h0]
     refine Ev.step hj ?_
     rw [show out ++ x :: l.drop (i + 1) = (out ++ [x]) ++ l.drop (i + 1) from by simp]
     exact yY l x h.all hx hn d (i + 1) _ (by omega) (by simp only [List.length_append, List.length_singleton]; omega) (fun y hy => fD.lt_of_eq_of_lt h0 (hab y hy))
    ·rw [if_neg h0]
     simp only [show ¬ aW x l[i] ≤ 0 from by omega, if_false]
     have hj : ∀ k, aJ.j1 (k + 1) l out false (i : Int) (aW x l[i]) false x.f0 x.f1 x.f2 x.f3 x.f4 = aJ.l0 k l (out ++ [rdR l (i : Int)]) false ((i + 1 : Nat) : Int) x.f0 x.f1 x.f2 x.f3 x.f4 := fun k => by
      rw [aJ.j1, e1]
      rw [if_neg (by decide), if_neg h0, if_pos (by omega), if_pos (by omega), if_pos (by omega)]
      all_goals rfl
     rw [hr] at hj
     refine Ev.step hj ?_
     rw [show out ++ l[i] :: put aW (l.drop (i + 1)) x = (out ++ [l[i]]) ++ put aW (l.drop (i + 1)) x from by simp]
     exact ih (i + 1) _ (by omega) (by omega) (by simp only [List.length_append, List.length_singleton]; omega)
  ·exact hend i out (by omega) (by omega)
theorem Iu (l : List RR) (x : RR) (h : lg l) (hx : fine x) : Ev (fun k => aJ.f k l x.f0 x.f1 x.f2 x.f3 x.f4) (put aW l x) := by
 have := EB l x h hx l.length 0 [] (by omega) (Nat.zero_le _) (Nat.le_refl _)
 rw [List.drop_zero, List.nil_append] at this
 exact this
theorem lg.put {l : List RR} {x : RR} (h : lg l) (hx : fine x) (hn : l.length < 1000000) : lg (iD.put aW l x) where
 all y hy := by
  rcases vX hy with rfl | hy
  ·exact hx
  ·exact h.all y hy
 len := by
  have h1 := vH fD h.set x
  have h2 : (drop aW l x).length ≤ l.length := by unfold drop; exact List.length_filter_le _ _
  omega
 set := sW fD h.set x
theorem Am (l : List RR) (x : RR) (h : jm aW l) : (put aW l x).length ≤ l.length + 1 := by
 have h1 := vH fD h x
 have h2 : (drop aW l x).length ≤ l.length := by unfold drop; exact List.length_filter_le _ _
 omega
theorem Gs (l : List RR) (hl : ∀ y ∈ l, fine y) (hn : l.length ≤ 100000) : ∀ (d i : Nat) (out : List RR), l.length ≤ i + d → i ≤ l.length → out.length ≤ i → lg out → Ev (fun k => dY.l0 k l out (i : Int)) ((l.drop i).foldl (put aW) out) := by
 intro d
 induction d with
 | zero =>
  intro i out hd hi0 _ _
  refine Ev.step (f := fun _ => some out) (fun k => by rw [dY.l0]; rw [if_neg (by omega)]) ?_
  rw [List.drop_of_length_le (by omega), List.foldl_nil]
  exact Ev.now _
 | succ d ih =>
  intro i out hd hi0 ho hs
  by_cases hi : i < l.length
  ·have e1 : wrap64 ((i : Int) + 1) = ((i + 1 : Nat) : Int) := by unfold wrap64; omega
   have hr := eH l i hi
   have hst : ∀ k, dY.l0 (k + 1) l out (i : Int) = (aJ.f k out (rdR l (i : Int)).f0 (rdR l (i : Int)).f1 (rdR l (i : Int)).f2 (rdR l (i : Int)).f3 (rdR l (i : Int)).f4).bind fun t => dY.l0 k l t ((i + 1 : Nat) : Int) := fun k => by
    rw [dY.l0, e1]
    rw [if_pos (by omega), if_pos (by omega)]
   rw [hr] at hst
   have hf := hl _ (List.getElem_mem hi)
   refine Ev.step hst (Ev.bind (Iu out l[i] hs hf) ?_)
   rw [List.drop_eq_getElem_cons hi, List.foldl_cons]
   have := Am out l[i] hs.set
   exact ih (i + 1) _ (by omega) (by omega) (by omega) (hs.put hf (by omega))
  ·refine Ev.step (f := fun _ => some out) (fun k => by rw [dY.l0]; rw [if_neg (by omega)]) ?_
   rw [List.drop_of_length_le (by omega), List.foldl_nil]
   exact Ev.now _
theorem Jz (l : List RR) (hl : ∀ y ∈ l, fine y) (hn : l.length ≤ 100000) : Ev (fun k => dY.f k l) (ofL aW l) := by
 have := Gs l hl hn l.length 0 [] (by omega) (Nat.zero_le _) (Nat.le_refl _) ⟨fun y hy => (by cases hy), Nat.zero_le _, List.Pairwise.nil⟩
 rw [List.drop_zero] at this
 exact this
theorem Aq : ∀ (l s : List RR) {y : RR}, y ∈ l.foldl (put aW) s → y ∈ s ∨ y ∈ l := by
 intro l
 induction l with
 | nil => intro s y h; exact .inl h
 | cons a l ih =>
  intro s y h
  rcases ih _ h with h | h
  ·rcases vX h with rfl | h
   ·exact .inr (List.mem_cons_self ..)
   ·exact .inl h
  ·exact .inr (List.mem_cons_of_mem _ h)
theorem wH : ∀ (l s : List RR), jm aW s → (l.foldl (put aW) s).length ≤ s.length + l.length := by
 intro l
 induction l with
 | nil => intro s _; exact Nat.le_refl _
 | cons a l ih =>
  intro s h
  have h1 := ih (put aW s a) (sW fD h a)
  have h2 := Am s a h
  rw [List.foldl_cons, List.length_cons]; omega
theorem uG {l : List RR} (hl : ∀ y ∈ l, fine y) (hn : l.length ≤ 100000) : lg (ofL aW l) where
 all y hy := by
  rcases Aq l [] hy with h | h
  ·cases h
  ·exact hl y h
 len := by have := wH l [] List.Pairwise.nil; unfold ofL; simp only [List.length_nil] at this; omega
 set := AA fD l
end Go.Y.Rrs
namespace Go.Y.Given
open Go.RowKit Go.V.aC Go.V.aV Go.V.aX Go.Y.PRd Go.Y.PRr Go.Y.Rrs
def slices_Clone.f (l0 : List (S44)) : Option (List (S44)) := if l0.length ≤ 1000000 then some l0 else none
theorem AV {α : Type} (d : Kd α) {w : World} {g : Nat} {t : TypeId} {base : Nat} {ok : Nat → Prop} (hg : base ≤ g) (ho : ok g) (h : w.heap[g]? = some (.cells #[] t (0, 0))) : Kd.R d t w base ok (.slice (some ⟨g, 0, none⟩) 0 0) [] :=
 ⟨fun k hk => by simp [Value.ownBlock] at hk; subst hk; exact ho, [], ⟨by simp, .inr ⟨g, 0, #[], rfl, hg, h, Nat.le_refl _, Nat.zero_le _, by simp, by simp⟩⟩, bW.none _ _⟩
theorem slices_Clone.calls (A0 : Option Addr) (c0 : Nat) (l0 : List (S44)) (r : List (S44)) (w : World) (hr0 : Kd.C k44 w A0 l0.length l0) (hc0 : l0.length ≤ c0) (h : slices_Clone.f l0 = some r) :
  Calls Tryz.prog 64 #[.slice A0 l0.length c0] w fun e w' => ∃ v0_ : Value, e = .returned (v0_) ∧ Kd.R k44 44 w' w.heap.size (fun _ => True) v0_ r ∧ Below w.heap.size w w' := by
 unfold slices_Clone.f at h
 have hn : l0.length ≤ 1000000 := Classical.byContradiction fun hn => by rw [if_neg hn] at h; cases h
 rw [if_pos hn] at h
 injection h with h
 subst h
 have HR := Lib.hid hr0
 have hu41 := Tryz.underlying44
 have hu22 := Tryz.underlying22
 have q22 : ∀ (w : World) (a : Option Addr) (n c n' c' : Nat), (binOp .eql 22 (.slice a n c) (.slice none n' c')).run Tryz.prog w = .ok (.bool a.isNone) w := fun w a n c n' c' => Lib.run_eql_slice_nil w _ _ a n c n' c' hu22
 cases A0 with
 | none =>
  have hl : l0 = [] := List.eq_nil_of_length_eq_zero (Nat.eq_zero_of_not_pos fun hp => by
   obtain ⟨ad, h, _⟩ := hr0.2.2 hp
   cases h)
  subst hl
  clear hr0
  go_enter Tryz.func64, Tryz.ntmps64
  go_wp2_with fail
  go_ret
  exact ⟨_, rfl, Kd.gq _ _ _ _ _, Below.refl _ _⟩
 | some ad =>
  clear hr0
  have hB0 : Below w.heap.size w (w.alloc (.cells #[] 44)) := bV (Below.refl _ _) _
  have hM : Kd.R k44 44 (w.alloc (.cells #[] 44)) w.heap.size (fun _ => True) (.slice (some ⟨w.heap.size, 0, none⟩) 0 0) [] := AV _ (Nat.le_refl _) trivial (by show (w.heap.push _)[w.heap.size]? = _; simp)
  have hC1 := Kd.fM HR.out hB0
  have HM := Lib.hid hM
  have HB0 := Lib.hid hB0
  have HC1 := Lib.hid hC1
  clear hB0 hM hC1
  go_enter Tryz.func64, Tryz.ntmps64
  go_wp2_with (at_builtin; go_loud (refine Kd.xM (w0 := w) k44 w.heap.size rfl _ _ 22 44 _ 56 rfl hu22 nE rfl (by decide) (by decide) _ [] l0 (some ad) l0.length c0 (fun _ => True) (fun _ => False) rfl rfl HM.out HC1.out (fun x cs h => by rw [yV h]; exact iy _ _ _ x) (fun k h => h.elim) (fun _ _ => trivial) HB0.out HB0.out.size (by simp; omega) ?_); intro v1 w1 hR1 hB1 hg1 hat1)
  go_ret
  exact ⟨_, rfl, hR1, hB1⟩
end Go.Y.Given
namespace Go.Y.Rrs
open Go.RowKit Go.V.aC Go.V.aV Go.V.aX Go.Y.Given Go.Y.PRd Go.Y.PRr
abbrev tRR : Nat := 44
def mE (x : RR) : List Value := [.string x.f0, .int .i64 x.f1, .int .i64 x.f2, .int .i64 x.f3, .string x.f4]
def flat : List RR → List Value
 | [] => []
 | x :: l => mE x ++ flat l
theorem oz (x : RR) : (mE x).length = 5 := rfl
theorem iN : ∀ l, (flat l).length = l.length * 5
 | [] => rfl
 | x :: l => by rw [flat, List.length_append, iN l, oz, List.length_cons]; omega
theorem qb : ∀ a b, flat (a ++ b) = flat a ++ flat b
 | [], b => rfl
 | x :: a, b => by rw [List.cons_append, flat, flat, qb a b, List.append_assoc]
theorem Dr (l : List RR) (i : Nat) (hi : i ≤ l.length) : (flat l).take (i * 5) = flat (l.take i) := by
 conv => lhs; rw [← List.take_append_drop i l, qb]
 rw [List.take_append_of_le_length (by rw [iN, List.length_take]; omega), List.take_of_length_le (by rw [iN, List.length_take]; omega)]
theorem DF (l : List RR) (i : Nat) (hi : i ≤ l.length) : (flat l).drop (i * 5) = flat (l.drop i) := by
 conv => lhs; rw [← List.take_append_drop i l, qb]
 rw [List.drop_append_of_le_length (by rw [iN, List.length_take]; omega), List.drop_of_length_le (by rw [iN, List.length_take]; omega), List.nil_append]
theorem yX : ∀ (l : List RR), ∀ v ∈ flat l, v.oneCell' = true
 | [], v, h => by cases h
 | x :: l, v, h => by
  rcases List.mem_append.1 h with h | h
  ·simp only [mE, List.mem_cons, List.not_mem_nil, or_false] at h
   rcases h with rfl | rfl | rfl | rfl | rfl <;> rfl
  ·exact yX l v h
theorem rW {R : RR → List Value → Prop} (hR : ∀ x cs, R x cs → cs = mE x) : ∀ (l : List RR) (inner : List Value), bW R 5 l inner → inner = flat l
 | [], inner, h => List.eq_nil_of_length_eq_zero (by simpa using h.1)
 | x :: l, inner, h => by
  have h0 := hR _ _ (h.2 0 x rfl)
  simp only [Nat.zero_mul, List.drop_zero] at h0
  have h1 : bW R 5 l (inner.drop 5) := ⟨by rw [List.length_drop, h.1, List.length_cons]; omega, fun j p hj => by
   rw [List.drop_drop, show 5 + j * 5 = (j + 1) * 5 by omega]; exact h.2 (j + 1) p (by simpa using hj)⟩
  rw [flat, ← h0, ← rW hR l _ h1, List.take_append_drop]
theorem DJ {R : RR → List Value → Prop} (hR : ∀ x, R x (mE x)) (l : List RR) : bW R 5 l (flat l) := by
 refine ⟨iN l, fun j p hj => ?_⟩
 obtain ⟨hl, e⟩ := List.getElem?_eq_some_iff.1 hj
 rw [DF l j (by omega), List.drop_eq_getElem_cons hl, e, flat, List.take_append_of_le_length (by rw [oz]; exact Nat.le_refl 5), List.take_of_length_le (by rw [oz]; exact Nat.le_refl 5)]
 exact hR p
structure Row (w : World) (base g cap : Nat) (l : List RR) (rest : List Value) : Prop where
 blk : w.heap[g]? = some (.cells (flat l ++ rest).toArray tRR (0, 0))
 lo : base ≤ g
 fits : cap ≤ maxLen
 len : l.length * 5 + rest.length = cap * 5
theorem Row.JK {w : World} {base : Nat} {ok : Nat → Prop} {v : Value} {l : List RR} (h : Kd.R kRR tRR w base ok v l) : (v = .slice none 0 0 ∧ l = []) ∨ ∃ g cap rest, v = .slice (some ⟨g, 0, none⟩) l.length cap ∧ ok g ∧ Row w base g cap l rest := by
 obtain ⟨h0, inner, ⟨h1, h2⟩, hr⟩ := h
 obtain rfl := rW (fun x cs h => fV h) l inner hr
 rcases h2 with ⟨rfl, h2⟩ | ⟨g, cap, cur, rfl, hg, hb, hn, hc, hs, ht⟩
 ·exact .inl ⟨rfl, List.eq_nil_of_length_eq_zero h2⟩
 ·have hs' : cur.size = cap * 5 := hs
  have hn' : l.length ≤ cap := hn
  have ht' : cur.toList.take (l.length * 5) = flat l := ht
  refine .inr ⟨g, cap, cur.toList.drop (l.length * 5), rfl, h0 g (by simp [Value.ownBlock]), ⟨?_, hg, hc, ?_⟩⟩
  ·rw [← ht', List.take_append_drop, Array.toArray_toList]; exact hb
  ·have e : cur.toList.length = cap * 5 := by simpa using hs'
   rw [List.length_drop, e]; clear h1 hr h0 hb hs ht hn ht'; omega
theorem Row.R {w : World} {base g cap : Nat} {l : List RR} {rest : List Value} {ok : Nat → Prop} (h : Row w base g cap l rest) (hg : ok g) : Kd.R kRR tRR w base ok (.slice (some ⟨g, 0, none⟩) l.length cap) l := by
 have hl := h.len
 refine ⟨fun k hk => by simp [Value.ownBlock] at hk; subst hk; exact hg, flat l, ⟨iN l, .inr ⟨g, cap, _, rfl, h.lo, h.blk, by omega, h.fits, ?_, ?_⟩⟩, DJ (fun x => iy _ _ _ x) l⟩
 ·show (flat l ++ rest).toArray.size = cap * 5
  simp [iN]; omega
 ·show (flat l ++ rest).toArray.toList.take (l.length * 5) = flat l
  rw [List.toList_toArray, List.take_append_of_le_length (by rw [iN]; exact Nat.le_refl _), List.take_of_length_le (by rw [iN]; exact Nat.le_refl _)]
theorem Row.cell {w : World} {base g cap : Nat} {l : List RR} {rest : List Value} (h : Row w base g cap l rest) (j : Nat) (u : Value) (hj : (flat l)[j]? = some u) : w.cell? ⟨g, j, none⟩ = some u := by
 rw [aH h.blk j]
 have hl := (List.getElem?_eq_some_iff.1 hj).1
 show (flat l ++ rest).toArray[j]? = some u
 rw [List.getElem?_toArray, List.getElem?_append_left hl]; exact hj
theorem Hq : (Tryz.prog.info? 44).map (fun i => (i.zero, i.size, i.bytes)) = some (some (.agg #[.string ⟨#[]⟩, .int .i64 0, .int .i64 0, .int .i64 0, .string ⟨#[]⟩]), 5, 56) := by kernel_rfl
theorem xS : ∃ i0, Tryz.prog.info? 44 = some i0 ∧ i0.zero = some (.agg #[.string ⟨#[]⟩, .int .i64 0, .int .i64 0, .int .i64 0, .string ⟨#[]⟩]) ∧ i0.size = 5 ∧ i0.bytes = 56 := by
 obtain ⟨i0, hi, h⟩ := Option.map_eq_some_iff.1 Hq
 simp only [Prod.mk.injEq] at h
 exact ⟨i0, hi, h.1, h.2.1, h.2.2⟩
abbrev zRR : Value := .agg #[.string ⟨#[]⟩, .int .i64 0, .int .i64 0, .int .i64 0, .string ⟨#[]⟩]
theorem oq {w : World} {g : Nat} {cur : List Value} (h : w.heap[g]? = some (.cells cur.toArray tRR (0, 0))) (k : Nat) (v : Value) : (w.setCell ⟨g, k, none⟩ v).heap[g]? = some (.cells (cur.set k v).toArray tRR (0, 0)) := by
 rw [setCell_eq_setRow w g k cur.toArray tRR (0, 0) v h, setRow_heap w g _ _ _ _ h]
 simp
theorem zC (a0 a1 a2 a3 a4 : Value) (x : RR) (hx : mE x = [a0, a1, a2, a3, a4]) : ∀ (l : List RR) (rest : List Value) (p : Nat), p < l.length →
  (((((flat l ++ rest).set (p * 5) a0).set (p * 5 + 1) a1).set (p * 5 + 2) a2).set (p * 5 + 3) a3).set (p * 5 + 4) a4 = flat (l.set p x) ++ rest
 | [], _, p, h => by simp at h
 | y :: l, rest, 0, _ => by
  show _ = mE x ++ flat l ++ rest
  rw [hx]
  rfl
 | y :: l, rest, p + 1, h => by
  have ih := zC a0 a1 a2 a3 a4 x hx l rest p (by simpa using h)
  show _ = mE y ++ flat (l.set p x) ++ rest
  rw [List.append_assoc, ← ih]
  have e : (p + 1) * 5 = p * 5 + 5 := by omega
  rw [e]
  rfl
theorem Row.put {w : World} {base g cap : Nat} {l : List RR} {rest : List Value} (h : Row w base g cap l rest) (x : RR) (p : Nat) (hp : p < l.length) (a0 a1 a2 a3 a4 : Value) (hx : mE x = [a0, a1, a2, a3, a4]) :
  Row (((((w.setCell ⟨g, p * 5, none⟩ a0).setCell ⟨g, p * 5 + 1, none⟩ a1).setCell ⟨g, p * 5 + 2, none⟩ a2).setCell ⟨g, p * 5 + 3, none⟩ a3).setCell ⟨g, p * 5 + 4, none⟩ a4) base g cap (l.set p x) rest := by
 have hb := oq (oq (oq (oq (oq h.blk (p * 5) a0) (p * 5 + 1) a1) (p * 5 + 2) a2) (p * 5 + 3) a3) (p * 5 + 4) a4
 rw [zC a0 a1 a2 a3 a4 x hx l rest p hp] at hb
 exact ⟨hb, h.lo, h.fits, by rw [List.length_set]; exact h.len⟩
end Go.Y.Rrs
namespace Go.Y.Rrs
open Go.RowKit Go.V.aC Go.V.aV Go.V.aX Go.Y.Given Go.Y.PRd Go.Y.PRr
theorem xE (l : List RR) (pr : RR → Bool) (hn : l.length ≤ 1000000) (F : FuncId) (fn : Func) (cb : Array Value) (hf : Tryz.prog.funcs[F]? = some fn) (hname : (fn.name == "runtime.NumGoroutine") = false) (hb : fn.body.isSome = true) (A0 : Option Addr) (c0 : Nat) (w : World) (hC : Kd.C kRR w A0 l.length l)
  (hstep : ∀ x ∈ l, ∀ W, Below w.heap.size w W → Calls Tryz.prog F (#[x.v] ++ cb) W fun e w' => e = .returned (.bool (pr x)) ∧ Below W.heap.size W w') :
  Calls Tryz.prog 81 #[.slice A0 l.length c0, .func (.func F) #[] cb] w fun e w' => ∃ v0_ : Value, e = .returned v0_ ∧ Kd.R kRR 44 w' w.heap.size (fun _ => True) v0_ (l.filter pr) ∧ Below w.heap.size w w' := by
 have hu41 := Tryz.underlying44
 have HF := Lib.hid hf
 have HNM := Lib.hid hname
 have HBD := Lib.hid hb
 have HR := Lib.hid hC
 have HST := Lib.hid hstep
 obtain ⟨n, hnn⟩ : ∃ n, l.length = n := ⟨_, rfl⟩
 have HN := Lib.hid hnn
 rw [hnn] at hn ⊢
 have HB := Lib.hid (Below.refl w.heap.size w)
 clear hf hname hb hC hstep hnn
 go_enter Tryz.func81, Tryz.ntmps81
 go_wp2_with fail
 go_loopg [5, 10] n (fun kx s5 s10 wr => ∃ i : Nat, s10 = .int .i64 (i : Int) ∧ i ≤ n ∧ n - i ≤ kx ∧ Hid (Kd.R kRR 44 wr w.heap.size (fun _ => True) s5 ((l.take i).filter pr)) ∧ Hid (Below w.heap.size w wr))
 case atStart => exact ⟨0, rfl, by omega, by omega, Lib.hid (Kd.gq _ _ _ _ _), Lib.hid HB.out⟩
 case round =>
  clear HB
  obtain ⟨i, rfl, hin, hik, HO, HB⟩ := hrel
  by_cases hlt : i < n
  ·have p1 : (0 : Int) ≤ (i : Int) := by omega
   have q1 : (i : Int) < (l.length : Int) := by rw [HN.out]; omega
   obtain ⟨ad, e1, hx0, hx1, hx2, hx3, hx4⟩ := dM HR.out (i : Int) p1 q1
   cases e1
   rw [Int.toNat_natCast] at hx0 hx1 hx2 hx3 hx4
   replace hx0 := (HB.out.cell (World.block_lt_of_cell? w _ hx0)).trans hx0
   replace hx1 := (HB.out.cell (World.block_lt_of_cell? w _ hx1)).trans hx1
   replace hx2 := (HB.out.cell (World.block_lt_of_cell? w _ hx2)).trans hx2
   replace hx3 := (HB.out.cell (World.block_lt_of_cell? w _ hx3)).trans hx3
   replace hx4 := (HB.out.cell (World.block_lt_of_cell? w _ hx4)).trans hx4
   have q2 : (i : Int) < (n : Int) := by omega
   obtain ⟨x, hx⟩ : ∃ x, rdR l (i : Nat) = x := ⟨_, rfl⟩
   rw [show aj l (i : Int) = x from hx] at hx0 hx1 hx2 hx3 hx4
   have hxl : x = l[i]'(by rw [HN.out]; exact hlt) := by rw [← hx, eH l i (by rw [HN.out]; exact hlt)]
   have hxm : x ∈ l := by rw [hxl]; exact List.getElem_mem _
   have HX := Lib.hid hxl
   have HXM := Lib.hid hxm
   have hw1 : IntKind.i64.wrap ((i : Int) + 1) = (i : Int) + 1 := by rw [IntKind.wrap_i64]; omega
   clear hxm hxl hx q1
   go_wp2_with fail
   rw [ql HF.out HNM.out HBD.out, Oper.upon_enter]
   have hB1 : Below w.heap.size w (wr.alloc (.cells #[.string x.f0, .int .i64 x.f1, .int .i64 x.f2, .int .i64 x.f3, .string x.f4] 44)) := bV HB.out _
   have hO1 := Kd.aK HO.out (.cells #[.string x.f0, .int .i64 x.f1, .int .i64 x.f2, .int .i64 x.f3, .string x.f4] 44)
   have hk : (wr.alloc (.cells #[.string x.f0, .int .i64 x.f1, .int .i64 x.f2, .int .i64 x.f3, .string x.f4] 44)).heap[wr.heap.size]? = some (.cells #[.string x.f0, .int .i64 x.f1, .int .i64 x.f2, .int .i64 x.f3, .string x.f4] 44 (0, 0)) := by show (wr.heap.push _)[wr.heap.size]? = _; simp
   have hgz : wr.heap.size < (wr.alloc (.cells #[.string x.f0, .int .i64 x.f1, .int .i64 x.f2, .int .i64 x.f3, .string x.f4] 44)).heap.size := by show _ < (wr.heap.push _).size; simp
   generalize wr.alloc (.cells #[.string x.f0, .int .i64 x.f1, .int .i64 x.f2, .int .i64 x.f3, .string x.f4] 44) = w1 at hB1 hO1 hk hgz ⊢
   generalize wr.heap.size = gb at hk hgz ⊢
   have hcall := HST.out x HXM.out w1 hB1
   refine hcall.mono ?_
   rintro e w4 ⟨rfl, hb4⟩
   have hk4 : w4.heap[gb]? = _ := (hb4.block gb hgz).trans hk
   have HB4 := Lib.hid (iI hB1 hB1.size hb4)
   have HO4 := Lib.hid (Kd.bI hO1 hb4)
   clear hb4 HB HO hB1 hO1 hk hgz hcall hx0 hx1 hx2 hx3 hx4
   have hx0 : w4.cell? ⟨gb, 0, none⟩ = some (.string x.f0) := by simp [World.cell?, hk4]
   have hx1 : w4.cell? ⟨gb, 1, none⟩ = some (.int .i64 x.f1) := by simp [World.cell?, hk4]
   have hx2 : w4.cell? ⟨gb, 2, none⟩ = some (.int .i64 x.f2) := by simp [World.cell?, hk4]
   have hx3 : w4.cell? ⟨gb, 3, none⟩ = some (.int .i64 x.f3) := by simp [World.cell?, hk4]
   have hx4 : w4.cell? ⟨gb, 4, none⟩ = some (.string x.f4) := by simp [World.cell?, hk4]
   have HSTEP := Lib.hid (show (l.take (i + 1)).filter pr = (l.take i).filter pr ++ (if pr x = true then [x] else []) by
    rw [List.take_add_one, List.getElem?_eq_getElem (by rw [HN.out]; exact hlt), List.filter_append]
    congr 1
    rw [HX.out]
    simp only [Option.toList_some, List.filter_cons, List.filter_nil])
   clear hk4
   generalize hd : pr x = d at HSTEP
   clear hd
   cases d with
   | true =>
    go_wp2_with (first | ((with_reducible refine eP (b := .append) (xs := #[.tmp 17, .tmp 19]) rfl ?_); at_builtin; refine Kd.gV k44 (w0 := w) w.heap.size rfl (.tmp 17) (.tmp 19) 22 44 (.agg #[(.string ⟨#[]⟩), (.int .i64 0), (.int .i64 0), (.int .i64 0), (.string ⟨#[]⟩)]) 56 rfl Tryz.underlying22 nE rfl (by decide) (by omega) u5 ((l.take i).filter pr) x [.string x.f0, .int .i64 x.f1, .int .i64 x.f2, .int .i64 x.f3, .string x.f4] (fun _ => True) (fun _ => False) rfl rfl ?aP (fun _ hk => hk.elim) ?aF ?aO ?aB ?aS ?aL ?_; (case aP => exact iy _ _ _ x); (case aB => exact (by repeat (first | (with_reducible first | exact HB4.out | apply bV | apply aZ | apply dx) | exact HB4.out))); (case aF => exact (fun _ _ => trivial)); (case aO => exact (by (with_reducible repeat (first | apply Kd.aK | apply Kd.iT | apply Kd.fU)); exact HO4.out)); (case aS => exact (av (by repeat (first | (with_reducible first | exact HB4.out | apply bV | apply aZ | apply dx) | exact HB4.out)))); (case aL => have h1 := List.length_filter_le pr (l.take i); have h2 := HN.out; rw [List.length_take] at h1; omega); intro v7 w7 ho hb hg hat; have n0_ := Lib.hid hb; have n1_ := Lib.hid ho; clear HB4 HO4; have HB4 := n0_; have HO4 := n1_; clear n0_ n1_ ho hb hg hat))
    go_roundg (n - (i + 1))
    case measure => omega
    case rel => exact ⟨i + 1, by rw [show ((i + 1 : Nat) : Int) = (i : Int) + 1 by omega], by omega, Nat.le_refl _, Lib.hid (by rw [HSTEP.out]; simpa using HO4.out), HB4⟩
   | false =>
    go_wp2_with fail
    go_roundg (n - (i + 1))
    case measure => omega
    case rel => exact ⟨i + 1, by rw [show ((i + 1 : Nat) : Int) = (i : Int) + 1 by omega], by omega, Nat.le_refl _, Lib.hid (by rw [HSTEP.out]; simpa using HO4.out), HB4⟩
  ·obtain rfl : i = n := by omega
   have b1 : ¬ ((i : Int) < (i : Int)) := by omega
   go_wp2_with fail
   go_ret
   refine ⟨_, rfl, ?_, HB.out⟩
   have := HO.out
   rw [List.take_of_length_le (by rw [HN.out]; exact Nat.le_refl _)] at this
   exact this
end Go.Y.Rrs
namespace Go.Y.Rrs
open Go.RowKit Go.V.aC Go.V.aV Go.V.aX Go.Y.Given Go.Y.PRd Go.Y.PRr
theorem BP (x : RR) (t : Int) (g : Nat) (w : World) (hc : w.cell? ⟨g, 0, none⟩ = some (.int .i64 t)) :
  Calls Tryz.prog 82 (#[x.v] ++ #[.pointer (some ⟨g, 0, none⟩)]) w fun e w' => e = .returned (.bool (x.f1 == t)) ∧ Below w.heap.size w w' := by
 have hu41 := Tryz.underlying44
 have HB := ah.mk (Below.refl w.heap.size w)
 have HC := Lib.hid hc
 clear hc
 show Calls Tryz.prog 82 #[.agg #[.string x.f0, .int .i64 x.f1, .int .i64 x.f2, .int .i64 x.f3, .string x.f4], .pointer (some ⟨g, 0, none⟩)] w _
 go_enter Tryz.func82, Tryz.ntmps82
 go_wp2_with (first | ((with_reducible refine bF (N := 2) rfl ?_); refine bQ ?hg (N := 2) ?hd (cs := #[.string x.f0, .int .i64 x.f1, .int .i64 x.f2, .int .i64 x.f3, .string x.f4]) (t := 44) ?hr ?_; (case hd => rfl); (case hg => rfl); (case hr => first | (go_simp; done) | (go_simp; rfl)); intro gb hg w3 hbox hb; have n0_ := ah.mk (ak (HB.out) hb); have n1_ := ah.mk (hbox); clear HB; have HB := n0_; have BK := n1_; have hc3 : w3.cell? ⟨g, 0, none⟩ = some (.int .i64 t) := (HB.out.cell (World.block_lt_of_cell? w _ HC.out)).trans HC.out; clear n0_ n1_; clear hb hbox hg; have hcz1 : w3.cell? ⟨gb, 1, none⟩ = some (.int .i64 x.f1) := (aH BK.out 1).trans rfl))
 go_ret
 exact ⟨rfl, HB.out⟩
theorem Gy (x : RR) (n : ByteArray) (b : Bool) (g : Nat) (w : World) (hc : w.cell? ⟨g, 0, none⟩ = some (.string n)) (h : dG.f x.f0 n = some b) :
  Calls Tryz.prog 89 (#[x.v] ++ #[.pointer (some ⟨g, 0, none⟩)]) w fun e w' => e = .returned (.bool b) ∧ Below w.heap.size w w' := by
 have hu41 := Tryz.underlying44
 have HB := ah.mk (Below.refl w.heap.size w)
 have HC := Lib.hid hc
 have HA := Lib.hid h
 clear hc h
 show Calls Tryz.prog 89 #[.agg #[.string x.f0, .int .i64 x.f1, .int .i64 x.f2, .int .i64 x.f3, .string x.f4], .pointer (some ⟨g, 0, none⟩)] w _
 go_enter Tryz.func89, Tryz.ntmps89
 go_wp2_with (first | ((with_reducible refine bF (N := 2) rfl ?_); refine bQ ?hg (N := 2) ?hd (cs := #[.string x.f0, .int .i64 x.f1, .int .i64 x.f2, .int .i64 x.f3, .string x.f4]) (t := 44) ?hr ?_; (case hd => rfl); (case hg => rfl); (case hr => first | (go_simp; done) | (go_simp; rfl)); intro gb hg w3 hbox hb; have n0_ := ah.mk (ak (HB.out) hb); have n1_ := ah.mk (hbox); clear HB; have HB := n0_; have BK := n1_; have hc3 : w3.cell? ⟨g, 0, none⟩ = some (.string n) := (HB.out.cell (World.block_lt_of_cell? w _ HC.out)).trans HC.out; clear n0_ n1_; clear hb hbox hg; have hcz0 : w3.cell? ⟨gb, 0, none⟩ = some (.string x.f0) := (aH BK.out 0).trans rfl))
 refine (dG.calls x.f0 n b w3 HA.out).mono ?_
 rintro e w4 ⟨rfl, hb4⟩
 have HB4 := Lib.hid (iI HB.out HB.out.size hb4)
 clear hb4 HB
 go_wp2_with fail
 go_ret
 exact ⟨rfl, HB4.out⟩
end Go.Y.Rrs
namespace Go.Y.Given
open Go.RowKit Go.V.aC Go.V.aV Go.V.aX Go.Y.PRd Go.Y.PRr Go.Y.Rrs
def jk.f (l0 : List (S44)) (a1 : Int) : Option (List (S44)) := if l0.length ≤ 1000000 then some (l0.filter fun x => x.f1 == a1) else none
theorem jk.calls (A0 : Option Addr) (c0 : Nat) (l0 : List (S44)) (a1 : Int) (r : List (S44)) (w : World) (hr0 : Kd.C k44 w A0 l0.length l0) (hc0 : l0.length ≤ c0) (h : jk.f l0 a1 = some r) :
  Calls Tryz.prog 41 #[.slice A0 l0.length c0, .int .i64 a1] w fun e w' => ∃ v0_ : Value, e = .returned (v0_) ∧ Kd.R k44 44 w' w.heap.size (fun _ => True) v0_ r ∧ Below w.heap.size w w' := by
 unfold jk.f at h
 have hn : l0.length ≤ 1000000 := Classical.byContradiction fun hn => by rw [if_neg hn] at h; cases h
 rw [if_pos hn] at h
 injection h with h
 subst h
 have HR := Lib.hid hr0
 have HB := ah.mk (Below.refl w.heap.size w)
 clear hr0 hc0
 go_enter Tryz.func41, Tryz.ntmps41
 go_wp2_with (first | ((with_reducible refine bF (N := 3) rfl ?_); refine bQ ?hg (N := 3) ?hd (cs := #[.int .i64 a1]) (t := 3) ?hr ?_; (case hd => rfl); (case hg => rfl); (case hr => first | (go_simp; done) | (go_simp; rfl)); intro gb hg w3 hbox hb; have n0_ := ah.mk (ak (HB.out) hb); have n1_ := ah.mk (hbox); clear HB; have HB := n0_; have BK := n1_; clear n0_ n1_; clear hb hbox hg; have hcz1 : w3.cell? ⟨gb, 0, none⟩ = some (.int .i64 a1) := (aH BK.out 0).trans rfl))
 have HC3 := Lib.hid hcz1
 refine (xE l0 (fun x => x.f1 == a1) hn 82 Tryz.f82 _ Tryz.func82 (by kernel_rfl) rfl A0 c0 w3 (Kd.fM HR.out HB.out) (fun x _ W hW => BP x a1 gb W ((hW.cell (World.block_lt_of_cell? w3 _ HC3.out)).trans HC3.out))).mono ?_
 rintro e w4 ⟨v, rfl, hv, hb4⟩
 have HV := Lib.hid hv
 have HB4 := Lib.hid (iI HB.out HB.out.size hb4)
 have HS := Lib.hid HB.out.size
 clear hb4 HB hv
 go_wp2_with fail
 go_ret
 exact ⟨_, rfl, Kd.bZ HV.out HS.out, HB4.out⟩
open Classical in
noncomputable def lq.f (l0 : List (S44)) (a1 : ByteArray) : Option (List (S44)) := if l0.length ≤ 1000000 ∧ ∀ x ∈ l0, (dG.f x.f0 a1).isSome = true then some (l0.filter fun x => (dG.f x.f0 a1).getD false) else none
theorem lq.calls (A0 : Option Addr) (c0 : Nat) (l0 : List (S44)) (a1 : ByteArray) (r : List (S44)) (w : World) (hr0 : Kd.C k44 w A0 l0.length l0) (hc0 : l0.length ≤ c0) (h : lq.f l0 a1 = some r) :
  Calls Tryz.prog 52 #[.slice A0 l0.length c0, .string a1] w fun e w' => ∃ v0_ : Value, e = .returned (v0_) ∧ Kd.R k44 44 w' w.heap.size (fun _ => True) v0_ r ∧ Below w.heap.size w w' := by
 unfold lq.f at h
 have hn : l0.length ≤ 1000000 ∧ ∀ x ∈ l0, (dG.f x.f0 a1).isSome = true := Classical.byContradiction fun hn => by rw [if_neg hn] at h; cases h
 rw [if_pos hn] at h
 injection h with h
 subst h
 have HR := Lib.hid hr0
 have HA := Lib.hid hn.2
 replace hn := hn.1
 have HB := ah.mk (Below.refl w.heap.size w)
 clear hr0 hc0
 go_enter Tryz.func52, Tryz.ntmps52
 go_wp2_with (first | ((with_reducible refine bF (N := 3) rfl ?_); refine bQ ?hg (N := 3) ?hd (cs := #[.string a1]) (t := 9) ?hr ?_; (case hd => rfl); (case hg => rfl); (case hr => first | (go_simp; done) | (go_simp; rfl)); intro gb hg w3 hbox hb; have n0_ := ah.mk (ak (HB.out) hb); have n1_ := ah.mk (hbox); clear HB; have HB := n0_; have BK := n1_; clear n0_ n1_; clear hb hbox hg; have hcz1 : w3.cell? ⟨gb, 0, none⟩ = some (.string a1) := (aH BK.out 0).trans rfl))
 have HC3 := Lib.hid hcz1
 refine (xE l0 (fun x => (dG.f x.f0 a1).getD false) hn 89 Tryz.f89 _ Tryz.func89 (by kernel_rfl) rfl A0 c0 w3 (Kd.fM HR.out HB.out) (fun x hx W hW => Gy x a1 _ gb W ((hW.cell (World.block_lt_of_cell? w3 _ HC3.out)).trans HC3.out) (by
  obtain ⟨b, hb⟩ := Option.isSome_iff_exists.mp (HA.out x hx)
  rw [hb]; rfl))).mono ?_
 rintro e w4 ⟨v, rfl, hv, hb4⟩
 have HV := Lib.hid hv
 have HB4 := Lib.hid (iI HB.out HB.out.size hb4)
 have HS := Lib.hid HB.out.size
 clear hb4 HB hv
 go_wp2_with fail
 go_ret
 exact ⟨_, rfl, Kd.bZ HV.out HS.out, HB4.out⟩
end Go.Y.Given
namespace Go.Y.Rrs
open Go.RowKit Go.V.aC Go.V.aV Go.V.aX Go.Y.Given Go.Y.PRd Go.Y.PRr Go.Y.Oct Go.Y.Name Go.Y.Cmp Go.Y.gu Go.Y.fQ Go.Y.iD
def fG (a b : ByteArray) : Bool := (dG.f a b).getD false
def kE (a b : ByteArray) : Bool := (bq.f 300 a b).getD false
theorem oH (a b : ByteArray) : (∃ l m, good l ∧ good m ∧ (bL l).size ≤ 255 ∧ (bL m).size ≤ 255 ∧ a = bL l ∧ b = bL m) ∨ (bG a = false ∨ bG b = false) := by
 cases ha : bG a
 ·exact .inr (.inl rfl)
 cases hb : bG b
 ·exact .inr (.inr rfl)
 obtain ⟨l, h1, h2, h3⟩ := (lD a).mp ha
 obtain ⟨m, k1, k2, k3⟩ := (lD b).mp hb
 exact .inl ⟨l, m, h1, k1, h3, k3, h2, k2⟩
theorem mK (a b : ByteArray) : dG.f a b = some (fG a b) := by
 unfold fG
 rcases oH a b with ⟨l, m, gl, gm, sl, sm, rfl, rfl⟩ | h
 ·rw [sU l m gl gm sl sm]; rfl
 ·rw [yg a b h]; rfl
theorem tO {l m : List ByteArray} (gl : good l) (gm : good m) (sl : (bL l).size ≤ 255) (sm : (bL m).size ≤ 255) : fG (bL l) (bL m) = decide (l.map eG = m.map eG) := by
 unfold fG; rw [sU l m gl gm sl sm]; rfl
theorem Dv {a b : ByteArray} (h : bG a = false ∨ bG b = false) : fG a b = false := by
 unfold fG; rw [yg a b h]; rfl
theorem zh (a b : ByteArray) (k : Nat) (hk : 300 ≤ k) : bq.f k a b = some (kE a b) := by
 unfold kE
 rcases oH a b with ⟨l, m, gl, gm, sl, sm, rfl, rfl⟩ | h
 ·rw [vZ l m gl gm sl sm k hk, vZ l m gl gm sl sm 300 (Nat.le_refl _)]; rfl
 ·rw [uH a b h k (by omega), uH a b h 300 (by omega)]; rfl
theorem zJ {l m : List ByteArray} (gl : good l) (gm : good m) (sl : (bL l).size ≤ 255) (sm : (bL m).size ≤ 255) : kE (bL l) (bL m) = mh m l := by
 unfold kE; rw [vZ l m gl gm sl sm 300 (Nat.le_refl _)]; rfl
theorem Dt {a b : ByteArray} (h : bG a = false ∨ bG b = false) : kE a b = false := by
 unfold kE; rw [uH a b h 300 (by omega)]; rfl
theorem wQ (a b : ByteArray) : Ev (fun k => dJ.f k a b) (fG a b) := ⟨700, fun k hk => by
 rcases oH a b with ⟨l, m, gl, gm, sl, sm, rfl, rfl⟩ | h
 ·show dJ.f k _ _ = _
  rw [BF l m gl gm sl sm k hk, tO gl gm sl sm]
 ·show dJ.f k _ _ = _
  rw [Dk a b h k hk, Dv h]⟩
theorem wO (a b : ByteArray) : Ev (fun k => aQ.f k a b) (kE a b) := ⟨1000, fun k hk => by
 rcases oH a b with ⟨l, m, gl, gm, sl, sm, rfl, rfl⟩ | h
 ·show aQ.f k _ _ = _
  rw [Bd l m gl gm sl sm k hk, zJ gl gm sl sm]
 ·show aQ.f k _ _ = _
  rw [Ee a b h k hk, Dt h]⟩
theorem wM {x y : RR} (hx : bG x.f0 = true) (hy : bG y.f0 = true) : fG x.f0 y.f0 = true ↔ je x = je y := by
 obtain ⟨l, gl, sl, el, kl⟩ := nL x hx
 obtain ⟨m, gm, sm, em, km⟩ := nL y hy
 rw [kl, km, el, em, tO gl gm sl sm, decide_eq_true_eq, List.reverse_inj]
theorem uL {a : ByteArray} (ha : bG a = true) : fG a a = true := (wM (x := ⟨a, 0, 0, 0, a⟩) (y := ⟨a, 0, 0, 0, a⟩) ha ha).mpr rfl
theorem Fp (x : RR) : jL.f x.f0 x.f1 x.f2 x.f3 x.f4 = some (ng x.f2 x.f4) := by
 unfold jL.f ng
 repeat' split
 all_goals rfl
theorem Bv (b : Bool) (x : RR) (h : b = false → x.f4.size ≤ 1000000) : Ev (fun k => bC.j0 k b x.f0 x.f1 x.f2 x.f3 x.f4) (!b && (!ng x.f2 x.f4 || jH x.f1 x.f4)) := by
 have hs : ∀ k, bC.j0 (k + 1) b x.f0 x.f1 x.f2 x.f3 x.f4 = if b = true then some false else (jL.f x.f0 x.f1 x.f2 x.f3 x.f4).bind fun t => if t = true then (iO.f x.f1 x.f4).bind fun u => some u else some true := fun k => by
  simp only [bC.j0]
 refine Ev.step hs ?_
 cases b
 ·simp only [Fp, Option.bind_some, Bool.false_eq_true, if_false]
  cases ht : ng x.f2 x.f4
  ·simp only [Bool.false_eq_true, if_false]
   exact Ev.now _
  ·simp only [if_true]
   refine Ev.const ?_
   have := h rfl
   unfold iO.f
   rw [if_pos (by omega)]
   rfl
 ·simp only [if_true]
  exact Ev.now _
theorem uD (x : RR) : Ev (fun k => bC.f k x.f0 x.f1 x.f2 x.f3 x.f4) (gU x) := by
 have hs : ∀ k, bC.f k x.f0 x.f1 x.f2 x.f3 x.f4 = bC.j0 k (!(bG x.f0 && (decide (0 ≤ x.f1) && (decide (x.f1 ≤ 65535) && (decide (0 ≤ x.f2) && (decide (x.f2 ≤ 65535) && (decide (0 ≤ x.f3) && (decide (x.f3 ≤ 2147483647) && decide (x.f4.size ≤ 65535))))))))) x.f0 x.f1 x.f2 x.f3 x.f4 := fun k => by
  unfold bC.f
  rw [ku, Option.bind_some]
  by_cases h1 : x.f1 < 0
  ·simp [h1, show ¬ (0 ≤ x.f1) by omega]
  by_cases h2 : x.f1 > 65535
  ·simp [h1, h2, show ¬ (x.f1 ≤ 65535) by omega]
  by_cases h3 : x.f2 < 0
  ·simp [h1, h2, h3, show ¬ (0 ≤ x.f2) by omega]
  by_cases h4 : x.f2 > 65535
  ·simp [h1, h2, h3, h4, show ¬ (x.f2 ≤ 65535) by omega]
  by_cases h5 : x.f3 < 0
  ·simp [h1, h2, h3, h4, h5, show ¬ (0 ≤ x.f3) by omega]
  by_cases h6 : x.f3 > 2147483647
  ·simp [h1, h2, h3, h4, h5, h6, show ¬ (x.f3 ≤ 2147483647) by omega]
  have e7 : decide ((x.f4.size : Int) > 65535) = !decide (x.f4.size ≤ 65535) := by
   by_cases h7 : x.f4.size ≤ 65535
   ·rw [decide_eq_true h7, decide_eq_false (by omega)]; rfl
   ·rw [decide_eq_false h7, decide_eq_true (by omega)]; rfl
  rw [if_neg h1, if_neg h2, if_neg h3, if_neg h4, if_neg h5, if_neg h6, e7]
  cases bG x.f0
  ·simp
  ·simp [show 0 ≤ x.f1 by omega, show x.f1 ≤ 65535 by omega, show 0 ≤ x.f2 by omega, show x.f2 ≤ 65535 by omega, show 0 ≤ x.f3 by omega, show x.f3 ≤ 2147483647 by omega]
 refine Ev.congr hs ?_
 refine (?_ : (!(!(bG x.f0 && _)) && _) = gU x) ▸ Bv _ x ?_
 ·unfold gU
  simp only [Bool.not_not, Bool.and_assoc]
 ·intro h
  simp only [Bool.not_eq_false', Bool.and_eq_true, decide_eq_true_eq] at h
  omega
def qD (t : Int) : Bool := (iM.f t).getD false
theorem Hy (t : Int) : iM.f t = some (qD t) := by
 unfold qD iM.f
 repeat' split
 all_goals rfl
def lU (a : ByteArray) (x : RR) : Bool := decide (x.f2 = 1) && (qD x.f1 && kE x.f0 a)
theorem uz (a : ByteArray) (x : RR) (k : Nat) (hk : 300 ≤ k) : gL.f k a x.f0 x.f1 x.f2 x.f3 x.f4 = some (lU a x) := by
 unfold gL.f lU
 rw [Hy, zh _ _ k hk]
 by_cases h : x.f2 = 1
 ·rw [if_pos h, decide_eq_true h, Option.bind_some]
  cases qD x.f1 <;> rfl
 ·rw [if_neg h, decide_eq_false h]; rfl
def atL (l : List RR) (n : ByteArray) : List RR := l.filter fun x => fG x.f0 n
def fE (l : List RR) (t : Int) : List RR := l.filter fun x => x.f1 == t
def mI (l : List RR) (n : ByteArray) (t : Int) : List RR := fE (atL l n) t
theorem Gf (l : List RR) (n : ByteArray) (h : l.length ≤ 1000000) : lq.f l n = some (atL l n) := by
 unfold lq.f
 rw [if_pos ⟨h, fun x _ => by rw [mK]; rfl⟩]
 rfl
theorem yh (l : List RR) (t : Int) (h : l.length ≤ 1000000) : jk.f l t = some (fE l t) := by
 unfold jk.f
 rw [if_pos h]; rfl
theorem sO (l : List RR) (n : ByteArray) : (atL l n).length ≤ l.length := List.length_filter_le _ _
theorem BO (l : List RR) (t : Int) : (fE l t).length ≤ l.length := List.length_filter_le _ _
theorem ER (l : List RR) (n : ByteArray) (hn : l.length ≤ 1000000) : ∀ (d i : Nat) (out : List RR), l.length ≤ i + d → i ≤ l.length → out.length ≤ i → Ev (fun k => bD.l0 k l n out (i : Int)) (out ++ atL (l.drop i) n) := by
 have hend : ∀ (i : Nat) (out : List RR), l.length ≤ i → Ev (fun k => bD.l0 k l n out (i : Int)) (out ++ atL (l.drop i) n) := by
  intro i out hd
  refine Ev.step (f := fun _ => some out) (fun k => by rw [bD.l0]; rw [if_neg (by omega)]) ?_
  rw [List.drop_of_length_le hd]
  show Ev _ (out ++ [])
  rw [List.append_nil]
  exact Ev.now _
 intro d
 induction d with
 | zero => exact fun i out hd hi0 ho => hend i out (by omega)
 | succ d ih =>
  intro i out hd hi0 ho
  by_cases hi : i < l.length
  ·have e1 : wrap64 ((i : Int) + 1) = ((i + 1 : Nat) : Int) := by unfold wrap64; omega
   have hr := eH l i hi
   have hs : ∀ k, bD.l0 (k + 1) l n out (i : Int) = (dJ.f k (rdR l (i : Int)).f0 n).bind fun t => if t = true then bD.l0 k l n (out ++ [rdR l (i : Int)]) ((i + 1 : Nat) : Int) else bD.l0 k l n out ((i + 1 : Nat) : Int) := fun k => by
    rw [bD.l0, e1]
    rw [if_pos (by omega), if_pos (by omega)]
    congr 1
    funext t
    rw [if_pos (show out.length < _ by omega)]
   rw [hr] at hs
   refine Ev.step hs (Ev.bind (wQ _ _) ?_)
   rw [List.drop_eq_getElem_cons hi]
   unfold atL
   rw [List.filter_cons]
   cases fG l[i].f0 n
   ·simp only [Bool.false_eq_true, if_false]
    exact ih (i + 1) out (by omega) (by omega) (by omega)
   ·simp only [if_true]
    have := ih (i + 1) (out ++ [l[i]]) (by omega) (by omega) (by rw [List.length_append, List.length_singleton]; omega)
    rw [List.append_assoc, List.singleton_append] at this
    exact this
  ·exact hend i out (by omega)
theorem uX (l : List RR) (n : ByteArray) (hn : l.length ≤ 1000000) : Ev (fun k => bD.f k l n) (atL l n) := by
 have := ER l n hn l.length 0 [] (by omega) (Nat.zero_le _) (Nat.le_refl _)
 rw [List.drop_zero, List.nil_append] at this
 exact this
theorem EZ (l : List RR) (t : Int) (hn : l.length ≤ 1000000) : ∀ (d i : Nat) (out : List RR), l.length ≤ i + d → i ≤ l.length → out.length ≤ i → Ev (fun k => bJ.l0 k l t out (i : Int)) (out ++ fE (l.drop i) t) := by
 have hend : ∀ (i : Nat) (out : List RR), l.length ≤ i → Ev (fun k => bJ.l0 k l t out (i : Int)) (out ++ fE (l.drop i) t) := by
  intro i out hd
  refine Ev.step (f := fun _ => some out) (fun k => by rw [bJ.l0]; rw [if_neg (by omega)]) ?_
  rw [List.drop_of_length_le hd]
  show Ev _ (out ++ [])
  rw [List.append_nil]
  exact Ev.now _
 intro d
 induction d with
 | zero => exact fun i out hd hi0 ho => hend i out (by omega)
 | succ d ih =>
  intro i out hd hi0 ho
  by_cases hi : i < l.length
  ·have e1 : wrap64 ((i : Int) + 1) = ((i + 1 : Nat) : Int) := by unfold wrap64; omega
   have hr := eH l i hi
   have hs : ∀ k, bJ.l0 (k + 1) l t out (i : Int) = if (rdR l (i : Int)).f1 = t then bJ.l0 k l t (out ++ [rdR l (i : Int)]) ((i + 1 : Nat) : Int) else bJ.l0 k l t out ((i + 1 : Nat) : Int) := fun k => by
    rw [bJ.l0, e1]
    rw [if_pos (by omega), if_pos (by omega), if_pos (show out.length < _ by omega)]
   rw [hr] at hs
   refine Ev.step hs ?_
   rw [List.drop_eq_getElem_cons hi]
   unfold fE
   rw [List.filter_cons]
   by_cases h : l[i].f1 = t
   ·simp only [h, beq_self_eq_true, if_true]
    have := ih (i + 1) (out ++ [l[i]]) (by omega) (by omega) (by rw [List.length_append, List.length_singleton]; omega)
    rw [List.append_assoc, List.singleton_append] at this
    exact this
   ·simp only [h, beq_eq_false_iff_ne.mpr h, Bool.false_eq_true, if_false]
    exact ih (i + 1) out (by omega) (by omega) (by omega)
  ·exact hend i out (by omega)
theorem xk (l : List RR) (t : Int) (hn : l.length ≤ 1000000) : Ev (fun k => bJ.f k l t) (fE l t) := by
 have := EZ l t hn l.length 0 [] (by omega) (Nat.zero_le _) (Nat.le_refl _)
 rw [List.drop_zero, List.nil_append] at this
 exact this
def mQ (l : List RR) (i : Nat) : Bool := !((rdR l (i : Int)).f1 == 5 && ((decide (0 < i) && fG (rdR l ((i - 1 : Nat) : Int)).f0 (rdR l (i : Int)).f0) || (decide (i + 1 < l.length) && fG (rdR l ((i + 1 : Nat) : Int)).f0 (rdR l (i : Int)).f0)))
def kQ (l : List RR) : Nat → Nat → Bool
 | 0, _ => true
 | d + 1, i => if i < l.length then mQ l i && kQ l d (i + 1) else true
def pz (l : List RR) : Bool := kQ l l.length 0
theorem Ba (l : List RR) (hn : l.length ≤ 1000000) : ∀ (d i : Nat), l.length ≤ i + d → i ≤ l.length → Ev (fun k => bY.l0 k l l (l.length : Int) (i : Int)) (kQ l d i) := by
 intro d
 induction d with
 | zero =>
  intro i hd hi0
  exact Ev.step (f := fun _ => some true) (fun k => by rw [bY.l0]; rw [if_neg (by omega)]) (Ev.now _)
 | succ d ih =>
  intro i hd hi0
  by_cases hi : i < l.length
  ·rw [kQ, if_pos hi]
   have e1 : wrap64 ((i : Int) + 1) = ((i + 1 : Nat) : Int) := by unfold wrap64; omega
   have ihn := ih (i + 1) (by omega) (by omega)
   have hnext : Ev (fun k => if ((i + 1 : Nat) : Int) < (l.length : Int) then (if 0 ≤ ((i + 1 : Nat) : Int) then ((dG.f (rdR l ((i + 1 : Nat) : Int)).f0 (rdR l (i : Int)).f0).bind fun t => if t = true then some false else bY.l0 k l l (l.length : Int) ((i + 1 : Nat) : Int)) else none) else bY.l0 k l l (l.length : Int) ((i + 1 : Nat) : Int))
     (!(decide (i + 1 < l.length) && fG (rdR l ((i + 1 : Nat) : Int)).f0 (rdR l (i : Int)).f0) && kQ l d (i + 1)) := by
    by_cases h : i + 1 < l.length
    ·simp only [show (((i + 1 : Nat) : Int) < (l.length : Int)) = True from eq_true (by omega), show (0 ≤ ((i + 1 : Nat) : Int)) = True from eq_true (by omega), if_true, mK, Option.bind_some, decide_eq_true h, Bool.true_and]
     cases fG (rdR l ((i + 1 : Nat) : Int)).f0 (rdR l (i : Int)).f0
     ·simp only [Bool.false_eq_true, if_false, Bool.not_false, Bool.true_and]; exact ihn
     ·simp only [if_true, Bool.not_true, Bool.false_and]; exact Ev.now _
    ·simp only [show (((i + 1 : Nat) : Int) < (l.length : Int)) = False from eq_false (by omega), if_false, decide_eq_false h, Bool.false_and, Bool.not_false, Bool.true_and]
     exact ihn
   have hs : ∀ k, bY.l0 (k + 1) l l (l.length : Int) (i : Int) = if (rdR l (i : Int)).f1 = 5 then (if (i : Int) > 0 then (if 0 ≤ wrap64 ((i : Int) - 1) then (if wrap64 ((i : Int) - 1) < (l.length : Int) then ((dG.f (rdR l (wrap64 ((i : Int) - 1))).f0 (rdR l (i : Int)).f0).bind fun t => if t = true then some false else if ((i + 1 : Nat) : Int) < (l.length : Int) then (if 0 ≤ ((i + 1 : Nat) : Int) then ((dG.f (rdR l ((i + 1 : Nat) : Int)).f0 (rdR l (i : Int)).f0).bind fun t => if t = true then some false else bY.l0 k l l (l.length : Int) ((i + 1 : Nat) : Int)) else none) else bY.l0 k l l (l.length : Int) ((i + 1 : Nat) : Int)) else none) else none)
     else if ((i + 1 : Nat) : Int) < (l.length : Int) then (if 0 ≤ ((i + 1 : Nat) : Int) then ((dG.f (rdR l ((i + 1 : Nat) : Int)).f0 (rdR l (i : Int)).f0).bind fun t => if t = true then some false else bY.l0 k l l (l.length : Int) ((i + 1 : Nat) : Int)) else none) else bY.l0 k l l (l.length : Int) ((i + 1 : Nat) : Int)) else bY.l0 k l l (l.length : Int) ((i + 1 : Nat) : Int) := fun k => by
    rw [bY.l0, e1]; rw [if_pos (by omega), if_pos (by omega), if_pos (by omega)]
   refine Ev.step hs ?_
   unfold mQ
   by_cases h5 : (rdR l (i : Int)).f1 = 5
   ·simp only [h5, if_true, beq_self_eq_true, Bool.true_and]
    by_cases h0 : 0 < i
    ·have e2 : wrap64 ((i : Int) - 1) = ((i - 1 : Nat) : Int) := by unfold wrap64; omega
     simp only [e2, show ((i : Int) > 0) = True from eq_true (by omega), show (0 ≤ ((i - 1 : Nat) : Int)) = True from eq_true (by omega), show (((i - 1 : Nat) : Int) < (l.length : Int)) = True from eq_true (by omega), if_true, mK, Option.bind_some, decide_eq_true h0, Bool.true_and]
     simp only [mK, Option.bind_some] at hnext
     cases fG (rdR l ((i - 1 : Nat) : Int)).f0 (rdR l (i : Int)).f0
     ·simp only [Bool.false_eq_true, if_false, Bool.false_or]; exact hnext
     ·simp only [if_true, Bool.true_or, Bool.not_true, Bool.false_and]; exact Ev.now _
    ·simp only [show ((i : Int) > 0) = False from eq_false (by omega), if_false, decide_eq_false h0, Bool.false_and, Bool.false_or]
     exact hnext
   ·have h5' : ((rdR l (i : Int)).f1 == 5) = false := beq_eq_false_iff_ne.mpr h5
    simp only [h5, if_false, h5', Bool.false_and, Bool.not_false, Bool.true_and]
    exact ihn
  ·rw [kQ, if_neg hi]
   exact Ev.step (f := fun _ => some true) (fun k => by rw [bY.l0]; rw [if_neg (by omega)]) (Ev.now _)
theorem FH (l : List RR) (hn : l.length ≤ 1000000) : Ev (fun k => bY.f k l) (pz l) := Ba l hn l.length 0 (by omega) (Nat.zero_le _)
theorem xV (l : List RR) : ∀ (d i : Nat), l.length ≤ i + d → (kQ l d i = true ↔ ∀ j, i ≤ j → j < l.length → mQ l j = true) := by
 intro d
 induction d with
 | zero => intro i hd; exact ⟨fun _ j h1 h2 => by omega, fun _ => rfl⟩
 | succ d ih =>
  intro i hd
  rw [kQ]
  split
  ·rename_i hi
   rw [Bool.and_eq_true, ih (i + 1) (by omega)]
   constructor
   ·rintro ⟨h1, h2⟩ j hj hl
    by_cases e : j = i
    ·rw [e]; exact h1
    ·exact h2 j (by omega) hl
   ·exact fun h => ⟨h i (Nat.le_refl _) hi, fun j hj hl => h j (by omega) hl⟩
  ·rename_i hi
   exact ⟨fun _ j h1 h2 => by omega, fun _ => rfl⟩
theorem vM (l : List RR) : pz l = true ↔ ∀ j, j < l.length → mQ l j = true := by
 unfold pz
 rw [xV l _ 0 (by omega)]
 exact ⟨fun h j hj => h j (Nat.zero_le _) hj, fun h j _ hj => h j hj⟩
end Go.Y.Rrs
namespace Go.Y.iD
variable {α : Type} {c : α → α → Int}
theorem uE (O : ig c) (a b : List α) (h : ∀ x ∈ a, ∀ y ∈ b, ¬ c x y = 0) (z : α) : cls c (a ++ b) z = cls c (b ++ a) z := by
 rw [eT, eT]
 by_cases ha : ∃ x ∈ a, c z x = 0
 ·obtain ⟨x, hx, h0⟩ := ha
  have : cls c b z = [] := mJ fun y hy h1 => h x hx y hy (by rw [← O.cong z x y h0]; exact h1)
  rw [this]; simp
 ·have : cls c a z = [] := mJ fun y hy h1 => ha ⟨y, hy, h1⟩
  rw [this]; simp
theorem fu.sK {l : List α} (h : Sorted c l) : fu c l l := ⟨h, fun _ => rfl⟩
theorem fu.mem (O : ig c) {l m : List α} (h : fu c l m) {y : α} (hy : y ∈ m) : y ∈ l := lQ O h.2 hy
theorem oF {l m : List α} (hl : Sorted c l) (hm : Sorted c m) (h : ∀ x ∈ l, ∀ y ∈ m, c x y ≤ 0) : Sorted c (l ++ m) := List.pairwise_append.mpr ⟨hl, hm, h⟩
theorem mD {l m : List α} (h : Sorted c (l ++ m)) : Sorted c l := (List.pairwise_append.mp h).1
theorem mY {l m : List α} (h : Sorted c (l ++ m)) : Sorted c m := (List.pairwise_append.mp h).2.1
theorem kP {l m : List α} (h : Sorted c (l ++ m)) : ∀ x ∈ l, ∀ y ∈ m, c x y ≤ 0 := (List.pairwise_append.mp h).2.2
theorem oD (O : ig c) {l1 l2 : List α} {x : α} (hs : Sorted c (l1 ++ l2)) (h1 : ∀ y ∈ l1, c y x ≤ 0) (h2 : ∀ y ∈ l2, c x y < 0) : fu c (l1 ++ l2 ++ [x]) (l1 ++ x :: l2) := by
 refine ⟨?_, fun z => ?_⟩
 ·refine oF (mD hs) (List.pairwise_cons.mpr ⟨fun y hy => by have := h2 y hy; omega, mY hs⟩) fun a ha b hb => ?_
  rcases List.mem_cons.mp hb with rfl | hb
  ·exact h1 a ha
  ·exact kP hs a ha b hb
 ·have e := uE O [x] l2 (fun a ha b hb => by
   rw [List.mem_singleton] at ha
   subst ha
   have := h2 b hb
   omega) z
  rw [eT, show x :: l2 = [x] ++ l2 from rfl, e, List.append_assoc, eT c l1]
theorem zo (O : ig c) {r1 r2 : List α} {x : α} (hs : Sorted c (r1 ++ r2)) (h1 : ∀ y ∈ r1, c y x < 0) (h2 : ∀ y ∈ r2, 0 ≤ c y x) : fu c ([x] ++ (r1 ++ r2)) (r1 ++ x :: r2) := by
 refine ⟨?_, fun z => ?_⟩
 ·refine oF (mD hs) (List.pairwise_cons.mpr ⟨fun y hy => by have := h2 y hy; have := O.flip y x; omega, mY hs⟩) fun a ha b hb => ?_
  rcases List.mem_cons.mp hb with rfl | hb
  ·have := h1 a ha; omega
  ·exact kP hs a ha b hb
 ·have e := uE O r1 [x] (fun a ha b hb => by
   rw [List.mem_singleton] at hb
   subst hb
   have := h1 a ha
   omega) z
  rw [show r1 ++ x :: r2 = r1 ++ [x] ++ r2 by simp, eT, e, ← eT, List.append_assoc]
theorem xO (O : ig c) {l1 l2 r1 r2 m1 m2 : List α} (hl : Sorted c (l1 ++ l2)) (hr : Sorted c (r1 ++ r2)) (h1 : ∀ x ∈ l1, ∀ y ∈ r2, c x y ≤ 0) (h2 : ∀ y ∈ r1, ∀ x ∈ l2, c y x < 0)
  (s1 : fu c (l1 ++ r1) m1) (s2 : fu c (l2 ++ r2) m2) : fu c ((l1 ++ l2) ++ (r1 ++ r2)) (m1 ++ m2) := by
 refine ⟨oF s1.1 s2.1 fun x hx y hy => ?_, fun z => ?_⟩
 ·have hx' := s1.mem O hx
  have hy' := s2.mem O hy
  rcases List.mem_append.mp hx' with hx' | hx' <;> rcases List.mem_append.mp hy' with hy' | hy'
  ·exact kP hl x hx' y hy'
  ·exact h1 x hx' y hy'
  ·have := h2 x hx' y hy'; omega
  ·exact kP hr x hx' y hy'
 ·have e := uE O r1 l2 (fun a ha b hb => by have := h2 a ha b hb; omega) z
  rw [eT, s1.2, s2.2, ← eT, show l1 ++ r1 ++ (l2 ++ r2) = l1 ++ (r1 ++ l2) ++ r2 by simp, eT, eT c l1, e, ← eT, ← eT]
  simp
def Blocks (c : α → α → Int) (s : Nat) (l : List α) : Prop := ∀ k, Sorted c ((l.drop (k * s)).take s)
theorem uW (s : Nat) : Blocks c s [] := fun k => by simp [Sorted]
theorem mo {s t : Nat} {p q : List α} (hp : Blocks c s p) (ht : p.length = t * s) (hq : Sorted c q) (hs : q.length ≤ s) : Blocks c s (p ++ q) := by
 intro k
 rw [List.drop_append]
 by_cases h : k < t
 ·have h1 : (k + 1) * s ≤ t * s := Nat.mul_le_mul_right s h
  rw [Nat.add_mul, Nat.one_mul] at h1
  rw [Nat.sub_eq_zero_of_le (show k * s ≤ p.length by omega), List.drop_zero, List.take_append_of_le_length (by rw [List.length_drop]; omega)]
  exact hp k
 ·have h1 : t * s ≤ k * s := Nat.mul_le_mul_right s (by omega)
  rw [List.drop_of_length_le (by omega), List.nil_append]
  exact (hq.sublist (List.drop_sublist _ _)).sublist (List.take_sublist _ _)
theorem uJ {s : Nat} {l : List α} (h : Blocks c s l) (hs : l.length ≤ s) : Sorted c l := by
 have := h 0
 rw [Nat.zero_mul, List.drop_zero, List.take_of_length_le hs] at this
 exact this
theorem uY (p s : List α) (x y : α) : (p ++ x :: s).set p.length y = p ++ y :: s := by
 rw [List.set_append_right _ _ (Nat.le_refl _), Nat.sub_self, List.set_cons_zero]
theorem Ed (p s : List α) (x y : α) (i : Nat) (hi : i = p.length) : ((p ++ x :: y :: s).set (i + 1) x).set i y = p ++ y :: x :: s := by
 subst hi
 rw [show p ++ x :: y :: s = (p ++ [x]) ++ y :: s by simp, show p.length + 1 = (p ++ [x]).length by simp, uY, show p ++ [x] ++ x :: s = p ++ x :: (x :: s) by simp, uY]
theorem Gu (p s : List α) (x y : α) (i : Nat) (hi : i = p.length) : ((p ++ x :: y :: s).set i y).set (i + 1) x = p ++ y :: x :: s := by
 subst hi
 rw [uY, show p ++ y :: y :: s = (p ++ [y]) ++ y :: s by simp, show p.length + 1 = (p ++ [y]).length by simp, uY]
 simp
def sw (l : List α) (i j : Nat) : List α := match l[i]?, l[j]? with
 | some x, some y => (l.set i y).set j x
 | _, _ => l
theorem wS (l : List α) (i j : Nat) : (sw l i j).length = l.length := by unfold sw; split <;> simp
theorem CZ (l : List α) (i j : Nat) (hi : i < l.length) (hj : j < l.length) (t : Nat) : (sw l i j)[t]? = if t = j then l[i]? else if t = i then l[j]? else l[t]? := by
 unfold sw
 rw [List.getElem?_eq_getElem hi, List.getElem?_eq_getElem hj]
 simp only [List.getElem?_set, List.length_set]
 by_cases h1 : t = j
 ·subst h1
  simp [hj]
 ·rw [if_neg (fun e => h1 e.symm), if_neg h1]
  by_cases h2 : t = i
  ·subst h2
   simp [hi]
  ·rw [if_neg (fun e => h2 e.symm), if_neg h2]
def swR (l : List α) (a b : Nat) : Nat → List α
 | 0 => l
 | n + 1 => sw (swR l a b n) (a + n) (b + n)
theorem jK (l : List α) (a b n : Nat) : (swR l a b n).length = l.length := by
 induction n with
 | zero => rfl
 | succ n ih => rw [swR, wS, ih]
theorem vU (l : List α) (a b : Nat) : ∀ n, a + n ≤ b → b + n ≤ l.length → ∀ t, (swR l a b n)[t]? = if a ≤ t ∧ t < a + n then l[t + (b - a)]? else if b ≤ t ∧ t < b + n then l[t - (b - a)]? else l[t]? := by
 intro n
 induction n with
 | zero =>
  intro h1 h2 t
  rw [swR, if_neg (by omega), if_neg (by omega)]
 | succ n ih =>
  intro h1 h2 t
  have ih' := ih (by omega) (by omega)
  rw [swR, CZ _ _ _ (by rw [jK]; omega) (by rw [jK]; omega), ih', ih', ih']
  by_cases e1 : t = b + n
  ·subst e1
   rw [if_pos rfl, if_neg (by omega), if_neg (by omega), if_neg (by omega), if_pos (by omega)]
   congr 1; omega
  ·rw [if_neg e1]
   by_cases e2 : t = a + n
   ·subst e2
    rw [if_pos rfl, if_neg (by omega), if_neg (by omega), if_pos (by omega)]
    congr 1; omega
   ·rw [if_neg e2]
    by_cases e3 : a ≤ t ∧ t < a + n
    ·rw [if_pos e3, if_pos (by omega)]
    ·rw [if_neg e3, if_neg (show ¬ (a ≤ t ∧ t < a + (n + 1)) by omega)]
     by_cases e4 : b ≤ t ∧ t < b + n
     ·rw [if_pos e4, if_pos (by omega)]
     ·rw [if_neg e4, if_neg (by omega)]
def Rot (l l' : List α) (m i j : Nat) : Prop := l'.length = l.length ∧ ∀ t, l'[t]? = if m - i ≤ t ∧ t < m - i + j then l[t + i]? else if m - i + j ≤ t ∧ t < m + j then l[t - j]? else l[t]?
theorem EO (l : List α) (m i : Nat) (hi : i ≤ m) (hm : m + i ≤ l.length) : Rot l (swR l (m - i) m i) m i i := by
 refine ⟨jK _ _ _ _, fun t => ?_⟩
 rw [vU l (m - i) m i (by omega) (by omega)]
 have e : m - (m - i) = i := by omega
 rw [e]
 by_cases h1 : m - i ≤ t ∧ t < m - i + i
 ·rw [if_pos h1, if_pos h1]
 ·rw [if_neg h1, if_neg h1]
  by_cases h2 : m ≤ t ∧ t < m + i
  ·rw [if_pos h2, if_pos (by omega)]
  ·rw [if_neg h2, if_neg (by omega)]
theorem FR {l l' : List α} {m i j : Nat} (hj : j < i) (hi : i ≤ m) (hm : m + j ≤ l.length) (h : Rot (swR l (m - i) m j) l' m (i - j) j) : Rot l l' m i j := by
 refine ⟨h.1.trans (jK _ _ _ _), fun t => ?_⟩
 have g := vU l (m - i) m j (by omega) (by omega)
 rw [h.2 t]
 simp only [g]
 repeat' split
 all_goals first | rfl | (exfalso; omega) | (refine congrArg (fun k => l[k]?) ?_; omega)
theorem Cq {l l' : List α} {m i j : Nat} (hj : i < j) (hi : i ≤ m) (hm : m + j ≤ l.length) (h : Rot (swR l (m - i) (m + j - i) i) l' m i (j - i)) : Rot l l' m i j := by
 refine ⟨h.1.trans (jK _ _ _ _), fun t => ?_⟩
 have g := vU l (m - i) (m + j - i) i (by omega) (by omega)
 rw [h.2 t]
 simp only [g]
 repeat' split
 all_goals first | rfl | (exfalso; omega) | (refine congrArg (fun k => l[k]?) ?_; omega)
theorem Eb {p u v s l' : List α} (h : Rot (p ++ (u ++ (v ++ s))) l' (p.length + u.length) u.length v.length) : l' = p ++ (v ++ (u ++ s)) := by
 refine List.ext_getElem? fun t => ?_
 rw [h.2 t]
 have e : p.length + u.length - u.length = p.length := by omega
 rw [e]
 by_cases h1 : p.length ≤ t ∧ t < p.length + v.length
 ·rw [if_pos h1]
  rw [List.getElem?_append_right (by omega), List.getElem?_append_right (by omega), List.getElem?_append_left (by omega), List.getElem?_append_right (by omega), List.getElem?_append_left (by omega)]
  congr 1; omega
 ·rw [if_neg h1]
  by_cases h2 : p.length + v.length ≤ t ∧ t < p.length + u.length + v.length
  ·rw [if_pos h2]
   rw [List.getElem?_append_right (by omega), List.getElem?_append_left (by omega), List.getElem?_append_right (by omega), List.getElem?_append_right (by omega), List.getElem?_append_left (by omega)]
   congr 1; omega
  ·rw [if_neg h2]
   by_cases h3 : t < p.length
   ·rw [List.getElem?_append_left h3, List.getElem?_append_left h3]
   ·rw [List.getElem?_append_right (by omega), List.getElem?_append_right (by omega), List.getElem?_append_right (by omega), List.getElem?_append_right (by omega), List.getElem?_append_right (by omega), List.getElem?_append_right (by omega)]
    congr 1; omega
end Go.Y.iD
namespace Go.Y.PSo
open Go.RowKit Go.V.aC Go.V.aV Go.V.aX Go.Y.Given Go.Y.PRd Go.Y.PRr
attribute [local go_sem] dP dQ eu eB dD dF dR dS   -- for this text's walks alone
def kN : Option Int → Value
 | none => .nilIface
 | some c => .iface 0 (.int .i64 c)
theorem jC : kN none = .nilIface := rfl
theorem jA (c : Int) : kN (some c) = .iface 0 (.int .i64 c) := rfl
end Go.Y.PSo
namespace Go.Y.PSo
open Go.RowKit Go.V.aC Go.V.aV Go.V.aX Go.Y.Given Go.Y.PRd Go.Y.PRr
attribute [local go_sem] dP dQ eu eB dD dF dR dS   -- for this text's walks alone
def eY.l0 : Nat → List (S44) → Int → Int → Option ((List (S44)))
 | 0, _, _, _ => none
 | k + 1, x0, x2, x3 => if x2 < x3 then (if 0 ≤ x3 then (if x3 < (x0.length : Int) then (if 0 ≤ x2 then (if x2 < (x0.length : Int) then (eY.l0 k ((x0.set (x2 : Int).toNat (⟨(aj x0 x3).f0, (aj x0 x3).f1, (aj x0 x3).f2, (aj x0 x3).f3, (aj x0 x3).f4⟩ : S44)).set (x3 : Int).toNat (⟨(aj x0 x2).f0, (aj x0 x2).f1, (aj x0 x2).f2, (aj x0 x2).f3, (aj x0 x2).f4⟩ : S44)) (wrap64 (x2 + 1)) (wrap64 (x3 - 1))) else (none)) else (none)) else (none)) else (none)) else (some x0)
def eY.f (k : Nat) (l0 : List (S44)) : Option ((List (S44))) := eY.l0 k l0 0 (wrap64 ((l0.length : Int) - 1))
def eY.T3 : Bool × List (List Nat × List Nat) := (true, [([], []), ([], []), ([], []), ([], []), ([], []), ([], []), ([4, 5], [4, 5]), ([6], [6]), ([], []), ([], []), ([8, 9], [8, 9]), ([10], [10]), ([0, 1, 0, 1, 4, 5, 6, 7, 11], [0, 1]), ([12, 7, 0, 1, 4, 5, 6, 7, 11], [7, 12]), ([2, 3, 0, 1, 2, 3, 4, 5, 6, 7, 8, 9, 10, 11, 12, 13], [2, 3]), ([14, 11, 13, 0, 1, 2, 3, 4, 5, 6, 7, 8, 9, 10, 11, 12, 13], [11, 14])])
def eY.B3 : List Nat := [0, 0, 0, 0, 0, 0, 48, 112, 0, 0, 768, 1792, 4083, 8179, 16383, 32767]
theorem eY.yu : fK .any (opsOf Tryz.f76 3) = eY.T3 := by kernel_rfl
theorem eY.vw : fP eY.T3.2 eY.B3 = true := by kernel_rfl
theorem eY.calls (k : Nat) (P0_ : Nat → Prop) (u9000_ : Value) (l0 : List (S44)) (r : List (S44)) (w0 w : World) (hB : Below w0.heap.size w0 w) (ho0 : Kd.R k44 44 w w0.heap.size P0_ u9000_ l0) (h : eY.f k l0 = some r) :
    Calls Tryz.prog 76 #[u9000_] w fun e w' => e = .returned (.tuple #[]) ∧ Kd.R k44 44 w' w0.heap.size (fun k_ => (P0_ k_ ∨ w.heap.size ≤ k_)) u9000_ r ∧ Below w0.heap.size w0 w' ∧ Kept w w' (fun k_ => P0_ k_) := by
  have hu44 := Tryz.underlying44
  have HO0 := ah.mk (show Kd.R k44 44 w w0.heap.size (fun k_ => (P0_ k_ ∨ w.heap.size ≤ k_)) u9000_ l0 from Kd.dH ho0 (fun k_ hk => (.inl hk)))
  have HK := ah.mk (Kept.refl w (fun k_ => P0_ k_))
  have HW0 := ah.mk hB.size
  have HB := ah.mk hB
  clear hB
  have H : (eY.l0 k l0 0 (wrap64 ((l0.length : Int) - 1))) = some r := h
  clear h
  have H' := ah.mk H
  clear H
  obtain ⟨Ao2, co2, eo2⟩ := Kd.bO HO0.out
  subst eo2
  go_enter Tryz.func76, Tryz.ntmps76
  go_wp2
  go_loopg [2, 3] k (fun kq v2 v3 w' => ∃ (x0_1 : List (S44)) (x2_1 : Int) (x3_1 : Int), v2 = .int .i64 x2_1 ∧ v3 = .int .i64 x3_1 ∧ ah (eY.l0 kq x0_1 x2_1 x3_1 = some r) ∧ ah (kq ≤ k) ∧ ah (Kd.R k44 44 w' w0.heap.size (fun k_ => (P0_ k_ ∨ w.heap.size ≤ k_)) (.slice Ao2 l0.length co2) x0_1) ∧ ah (Kept w w' (fun k_ => P0_ k_)) ∧ ah (Below w0.heap.size w0 w'))
  case atStart => exact ⟨(l0), (0), (wrap64 ((l0.length : Int) - 1)), (by rfl), (by rfl), H', ⟨Nat.le_refl _⟩, ⟨by (with_reducible repeat ((apply Kd.aK))); exact HO0.out⟩, ⟨HK.out⟩, ⟨HB.out⟩⟩
  case round =>
   clear H'
   obtain ⟨x0_1, x2_1, x3_1, rfl, rfl, HA, HK1, HO_0, HK, HB⟩ := hrel
   have hl0_1 := (Kd.aN HO_0.out).1
   rw [hl0_1] at HO_0
   (try simp only [hl0_1])
   cases gk with
   | zero => exact absurd HA.out (by simp [eY.l0])
   | succ k1 =>
    have H := HA.out
    clear HA
    simp only [eY.l0] at H
    by_cases c3 : x2_1 < x3_1
    ·rw [if_pos c3] at H
     have c3b0 : decide (x2_1 < x3_1) = true := decide_eq_true c3
     clear c3
     obtain ⟨c4b0, H⟩ := dU H
     obtain ⟨c5b0, H⟩ := dU H
     obtain ⟨c6b0, H⟩ := dU H
     obtain ⟨c7b0, H⟩ := dU H
     obtain ⟨y103, hy103⟩ : ∃ y_ : List (S44), y_ = (x0_1.set (x2_1 : Int).toNat (⟨(aj x0_1 x3_1).f0, (aj x0_1 x3_1).f1, (aj x0_1 x3_1).f2, (aj x0_1 x3_1).f3, (aj x0_1 x3_1).f4⟩ : S44)) := ⟨_, rfl⟩
     replace H : (eY.l0 k1 (y103.set (x3_1 : Int).toNat (⟨(aj x0_1 x2_1).f0, (aj x0_1 x2_1).f1, (aj x0_1 x2_1).f2, (aj x0_1 x2_1).f3, (aj x0_1 x2_1).f4⟩ : S44)) (wrap64 (x2_1 + 1)) (wrap64 (x3_1 - 1))) = some r := by (rw [hy103]; with_reducible exact H)
     have Ny103 := ah.mk hy103
     clear hy103
     obtain ⟨y104, hy104⟩ : ∃ y_ : List (S44), y_ = (y103.set (x3_1 : Int).toNat (⟨(aj x0_1 x2_1).f0, (aj x0_1 x2_1).f1, (aj x0_1 x2_1).f2, (aj x0_1 x2_1).f3, (aj x0_1 x2_1).f4⟩ : S44)) := ⟨_, rfl⟩
     replace H : (eY.l0 k1 y104 (wrap64 (x2_1 + 1)) (wrap64 (x3_1 - 1))) = some r := by (rw [hy104]; with_reducible exact H)
     have Ny104 := ah.mk hy104
     clear hy104
     have H' := ah.mk H
     clear H
     (try go_wp2)
     replace HO_0 := ah.mk (Kd.fU HO_0.out)
     replace HK := ah.mk (Kept.drew HK.out)
     replace HB := ah.mk (dx HB.out)
     have p101 : 0 ≤ (x3_1 : Int) := of_decide_eq_true (by (with_reducible assumption))
     have q101 : x3_1 < (x0_1.length : Int) := of_decide_eq_true (by (with_reducible assumption))
     obtain ⟨ad101, e101, hx101_0, hx101_1, hx101_2, hx101_3, hx101_4⟩ := dM (Kd.aN HO_0.out).2.2 x3_1 p101 q101
     cases e101
     replace p101 := eq_true p101
     replace q101 := eq_true q101
     have p102 : 0 ≤ (x2_1 : Int) := of_decide_eq_true (by (with_reducible assumption))
     have q102 : x2_1 < (x0_1.length : Int) := of_decide_eq_true (by (with_reducible assumption))
     obtain ⟨ad102, e102, hx102_0, hx102_1, hx102_2, hx102_3, hx102_4⟩ := dM (Kd.aN HO_0.out).2.2 x2_1 p102 q102
     obtain rfl : ad101 = ad102 := (by injection e102)
     replace p102 := eq_true p102
     replace q102 := eq_true q102
     have p8 : 0 ≤ (x2_1 : Int) := of_decide_eq_true (by (with_reducible assumption))
     have q8 : (x2_1 : Int) < ((x0_1.length : Int) : Int) := of_decide_eq_true (by (with_reducible assumption))
     obtain ⟨go8, co8, eo8, gb8, gl8, cl8, HG8⟩ := Kd.qg HO_0.out (by omega)
     ((cases eo8))
     have GB8 := ah.mk gb8
     have GG8 := ah.mk HG8
     clear gb8 gl8 HG8
     have HMgo8 := ah.mk (show (P0_ go8 ∨ w.heap.size ≤ go8) from (HO_0.out.1 _ rfl))
     ((simp only [add_plain] at hx101_0))
     ((simp only [add_plain] at hx101_1))
     ((simp only [add_plain] at hx101_2))
     ((simp only [add_plain] at hx101_3))
     ((simp only [add_plain] at hx101_4))
     ((simp only [add_plain] at hx102_0))
     ((simp only [add_plain] at hx102_1))
     ((simp only [add_plain] at hx102_2))
     ((simp only [add_plain] at hx102_3))
     ((simp only [add_plain] at hx102_4))
     obtain ⟨ce8, hcl8, hM8, hcc8, hfr8⟩ := Kd.jf HO_0.out z44 (x2_1 : Int) p8 q8
     obtain rfl := fV hM8
     have hx8_0 : World.cell? _ ⟨go8, (x2_1 : Int).toNat * 5, none⟩ = some (.string ((aj x0_1 x2_1).f0)) := hcc8 0 _ rfl
     have hx8_1 : World.cell? _ ⟨go8, (x2_1 : Int).toNat * 5 + 1, none⟩ = some (.int .i64 ((aj x0_1 x2_1).f1)) := hcc8 1 _ rfl
     have hx8_2 : World.cell? _ ⟨go8, (x2_1 : Int).toNat * 5 + 2, none⟩ = some (.int .i64 ((aj x0_1 x2_1).f2)) := hcc8 2 _ rfl
     have hx8_3 : World.cell? _ ⟨go8, (x2_1 : Int).toNat * 5 + 3, none⟩ = some (.int .i64 ((aj x0_1 x2_1).f3)) := hcc8 3 _ rfl
     have hx8_4 : World.cell? _ ⟨go8, (x2_1 : Int).toNat * 5 + 4, none⟩ = some (.string ((aj x0_1 x2_1).f4)) := hcc8 4 _ rfl
     have hf8_0 : World.frozen? _ ⟨go8, (x2_1 : Int).toNat * 5, none⟩ = false := hfr8 0
     have hf8_1 : World.frozen? _ ⟨go8, (x2_1 : Int).toNat * 5 + 1, none⟩ = false := hfr8 1
     have hf8_2 : World.frozen? _ ⟨go8, (x2_1 : Int).toNat * 5 + 2, none⟩ = false := hfr8 2
     have hf8_3 : World.frozen? _ ⟨go8, (x2_1 : Int).toNat * 5 + 3, none⟩ = false := hfr8 3
     have hf8_4 : World.frozen? _ ⟨go8, (x2_1 : Int).toNat * 5 + 4, none⟩ = false := hfr8 4
     clear hcl8 hcc8 hfr8 hM8
     replace p8 := eq_true p8
     replace q8 := eq_true q8
     obtain ⟨ce11, hcl11, hM11, hcc11, hfr11⟩ := Kd.jf HO_0.out z44 (x2_1 : Int) (of_decide_eq_true (by (with_reducible assumption))) (by have h_ : (x2_1 : Int) < ((x0_1.length : Int) : Int) := of_decide_eq_true (by (with_reducible assumption)); (exact h_))
     obtain rfl := fV hM11
     have HP11 := (Kd.nQ HO_0.out (x2_1 : Int) (of_decide_eq_true (by (with_reducible assumption))) (by have h_ : (x2_1 : Int) < ((x0_1.length : Int) : Int) := of_decide_eq_true (by (with_reducible assumption)); (exact h_)) (seg := [.string ((aj x0_1 x3_1).f0), .int .i64 ((aj x0_1 x3_1).f1), .int .i64 ((aj x0_1 x3_1).f2), .int .i64 ((aj x0_1 x3_1).f3), .string ((aj x0_1 x3_1).f4)]) (j := 0) hcl11 hcc11 (show 5 ≤ 5 from by decide) (x' := (⟨(aj x0_1 x3_1).f0, (aj x0_1 x3_1).f1, (aj x0_1 x3_1).f2, (aj x0_1 x3_1).f3, (aj x0_1 x3_1).f4⟩ : S44)) (iy _ _ _ (⟨(aj x0_1 x3_1).f0, (aj x0_1 x3_1).f1, (aj x0_1 x3_1).f2, (aj x0_1 x3_1).f3, (aj x0_1 x3_1).f4⟩ : S44) ) (fun _ hk => hk)).1
     rw [← Ny103.out] at HP11
     have HQ11 := ah.mk HP11
     clear hcl11 hcc11 hfr11 hM11 HP11
     have p9 : 0 ≤ (x3_1 : Int) := of_decide_eq_true (by (with_reducible assumption))
     have q9 : (x3_1 : Int) < ((x0_1.length : Int) : Int) := of_decide_eq_true (by (with_reducible assumption))
     obtain ⟨ce9, hcl9, hM9, hcc9, hfr9⟩ := Kd.jf HQ11.out z44 (x3_1 : Int) p9 q9
     obtain rfl := fV hM9
     have hx9_0 : World.cell? _ ⟨go8, (x3_1 : Int).toNat * 5, none⟩ = some (.string ((aj y103 x3_1).f0)) := hcc9 0 _ rfl
     have hx9_1 : World.cell? _ ⟨go8, (x3_1 : Int).toNat * 5 + 1, none⟩ = some (.int .i64 ((aj y103 x3_1).f1)) := hcc9 1 _ rfl
     have hx9_2 : World.cell? _ ⟨go8, (x3_1 : Int).toNat * 5 + 2, none⟩ = some (.int .i64 ((aj y103 x3_1).f2)) := hcc9 2 _ rfl
     have hx9_3 : World.cell? _ ⟨go8, (x3_1 : Int).toNat * 5 + 3, none⟩ = some (.int .i64 ((aj y103 x3_1).f3)) := hcc9 3 _ rfl
     have hx9_4 : World.cell? _ ⟨go8, (x3_1 : Int).toNat * 5 + 4, none⟩ = some (.string ((aj y103 x3_1).f4)) := hcc9 4 _ rfl
     have hf9_0 : World.frozen? _ ⟨go8, (x3_1 : Int).toNat * 5, none⟩ = false := hfr9 0
     have hf9_1 : World.frozen? _ ⟨go8, (x3_1 : Int).toNat * 5 + 1, none⟩ = false := hfr9 1
     have hf9_2 : World.frozen? _ ⟨go8, (x3_1 : Int).toNat * 5 + 2, none⟩ = false := hfr9 2
     have hf9_3 : World.frozen? _ ⟨go8, (x3_1 : Int).toNat * 5 + 3, none⟩ = false := hfr9 3
     have hf9_4 : World.frozen? _ ⟨go8, (x3_1 : Int).toNat * 5 + 4, none⟩ = false := hfr9 4
     clear hcl9 hcc9 hfr9 hM9
     replace p9 := eq_true p9
     replace q9 := eq_true q9
     obtain ⟨ce12, hcl12, hM12, hcc12, hfr12⟩ := Kd.jf HQ11.out z44 (x3_1 : Int) (of_decide_eq_true (by (with_reducible assumption))) (by have h_ : (x3_1 : Int) < ((x0_1.length : Int) : Int) := of_decide_eq_true (by (with_reducible assumption)); (exact h_))
     obtain rfl := fV hM12
     have HP12 := (Kd.nQ HQ11.out (x3_1 : Int) (of_decide_eq_true (by (with_reducible assumption))) (by have h_ : (x3_1 : Int) < ((x0_1.length : Int) : Int) := of_decide_eq_true (by (with_reducible assumption)); (exact h_)) (seg := [.string ((aj x0_1 x2_1).f0), .int .i64 ((aj x0_1 x2_1).f1), .int .i64 ((aj x0_1 x2_1).f2), .int .i64 ((aj x0_1 x2_1).f3), .string ((aj x0_1 x2_1).f4)]) (j := 0) hcl12 hcc12 (show 5 ≤ 5 from by decide) (x' := (⟨(aj x0_1 x2_1).f0, (aj x0_1 x2_1).f1, (aj x0_1 x2_1).f2, (aj x0_1 x2_1).f3, (aj x0_1 x2_1).f4⟩ : S44)) (iy _ _ _ (⟨(aj x0_1 x2_1).f0, (aj x0_1 x2_1).f1, (aj x0_1 x2_1).f2, (aj x0_1 x2_1).f3, (aj x0_1 x2_1).f4⟩ : S44) ) (fun _ hk => hk)).1
     rw [← Ny104.out] at HP12
     have HQ12 := ah.mk HP12
     clear hcl12 hcc12 hfr12 hM12 HP12
     refine gG (n := 16) (S := fun w' => w'.cell? ⟨go8, ((x3_1).toNat * 5), none⟩ = some (.string ((aj x0_1 x3_1).f0)) ∧ w'.cell? ⟨go8, ((x3_1).toNat * 5) + 1, none⟩ = some (.int .i64 ((aj x0_1 x3_1).f1)) ∧ w'.cell? ⟨go8, ((x3_1).toNat * 5) + 2, none⟩ = some (.int .i64 ((aj x0_1 x3_1).f2)) ∧ w'.cell? ⟨go8, ((x3_1).toNat * 5) + 3, none⟩ = some (.int .i64 ((aj x0_1 x3_1).f3)) ∧ w'.cell? ⟨go8, ((x3_1).toNat * 5) + 4, none⟩ = some (.string ((aj x0_1 x3_1).f4)) ∧ w'.cell? ⟨go8, ((x2_1).toNat * 5), none⟩ = some (.string ((aj x0_1 x2_1).f0)) ∧ w'.cell? ⟨go8, ((x2_1).toNat * 5) + 1, none⟩ = some (.int .i64 ((aj x0_1 x2_1).f1)) ∧ w'.cell? ⟨go8, ((x2_1).toNat * 5) + 2, none⟩ = some (.int .i64 ((aj x0_1 x2_1).f2)) ∧ w'.cell? ⟨go8, ((x2_1).toNat * 5) + 3, none⟩ = some (.int .i64 ((aj x0_1 x2_1).f3)) ∧ w'.cell? ⟨go8, ((x2_1).toNat * 5) + 4, none⟩ = some (.string ((aj x0_1 x2_1).f4))) (ds := [13, 15]) (ls 16 0) (by kernel_rfl) rfl rfl ⟨hx101_0, hx101_1, hx101_2, hx101_3, hx101_4, hx102_0, hx102_1, hx102_2, hx102_3, hx102_4⟩ (fun hHeld => ?_); refine eX eY.yu eY.vw (fun HT_ HW_ => ?_)
     generalize wr.drew = w10 at HO_0 HK HB GG8 HQ11 HQ12 hf8_0 hf8_1 hf8_2 hf8_3 hf8_4 hf9_0 hf9_1 hf9_2 hf9_3 hf9_4 hx101_0 hx101_1 hx101_2 hx101_3 hx101_4 hx102_0 hx102_1 hx102_2 hx102_3 hx102_4 hx8_0 hx8_1 hx8_2 hx8_3 hx8_4 hx9_0 hx9_1 hx9_2 hx9_3 hx9_4 hHeld ⊢
     (try simp [go_sem, World.setCells, (show k44.sz = 5 from rfl)] at hf9_0 hf9_1 hf9_2 hf9_3 hf9_4 hx9_0 hx9_1 hx9_2 hx9_3 hx9_4)
     refine td_ [(0, 14), (1, 15), (2, 16), (3, 17), (4, 18), (5, 19), (6, 20), (8, 22), (9, 23), (10, 24)] ?_
     iterate 10 (refine pn_ (v := ?_) (a' := ?_) HT_ rfl rfl (by kernel_rfl) rfl (fun _ _ _ h => h) (fun w' => ?_) ?_ ?_; rotate_left 2; (focus go_simp; with_reducible rfl); (focus simp only [Act.put, sA_, sZ_, sS_, bA, bS]; rfl))
     refine dn_ ?_
     refine td_ [(7, 21), (11, 25)] ?_
     iterate 2 (refine tn_ (v := ?_) (a' := ?_) HT_ HW_ rfl rfl (by kernel_rfl) rfl (fun _ _ _ h => h) hHeld ?_ ?_ ?_; rotate_left 2; (focus rintro w' ⟨s0, s1, s2, s3, s4, s5, s6, s7, s8, s9⟩; go_simp; with_reducible rfl); (focus simp only [Act.put, sA_, sZ_, sS_, bA, bS]; rfl))
     refine dn_ ?_
     refine td_ [(12, 26)] ?_
     iterate 1 (refine pn_ (v := ?_) (a' := ?_) HT_ rfl rfl (by kernel_rfl) rfl (fun _ _ _ h => h) (fun w' => ?_) ?_ ?_; rotate_left 2; (focus go_simp; with_reducible rfl); (focus simp only [Act.put, sA_, sZ_, sS_, bA, bS]; rfl))
     refine dn_ ?_
     refine lN (i := 13) (N := none) (ls 16 16383) rfl rfl (iK HT_.out (by kernel_rfl)) (by decide) (fun K hK => ?_)
     refine kZ (w1 := ?_) (by rfl) rfl ?_ ?_
     rotate_left
     ·go_simp
      rfl
     refine hK.out _ _ ?_
     clear hK K
     refine td_ [(14, 27)] ?_
     iterate 1 (refine pn_ (v := ?_) (a' := ?_) HT_ rfl rfl (by kernel_rfl) rfl (fun _ _ _ h => h) (fun w' => ?_) ?_ ?_; rotate_left 2; (focus go_simp; with_reducible rfl); (focus simp only [Act.put, sA_, sZ_, sS_, bA, bS]; rfl))
     refine dn_ ?_
     refine lN (i := 15) (N := none) (ls 16 65535) rfl rfl (iK HT_.out (by kernel_rfl)) (by decide) (fun K hK => ?_)
     refine kZ (w1 := ?_) (by rfl) rfl ?_ ?_
     rotate_left
     ·go_simp
      rfl
     refine hK.out _ _ ?_
     clear hK K
     refine jJ (iZ HT_.out (by kernel_rfl)) ?_
     (try go_wp2)
     (try simp only [← hl0_1])
     go_roundg k1
     case measure => have := HK1.out; omega
     case rel => exact ⟨(y104), (wrap64 (x2_1 + 1)), (wrap64 (x3_1 - 1)), (by rfl), (by rfl), H', ⟨by have := HK1.out; omega⟩, ⟨by (try simp only [hl0_1]); (with_reducible repeat ((apply Kd.aK))); exact HQ12.out⟩, ⟨by repeat ((with_reducible first | exact HK.out | refine Kept.setCell ?_ HMgo8.out _))⟩, ⟨by repeat ((with_reducible first | exact HB.out | refine dN ?_ GB8.out))⟩⟩
    ·rw [if_neg c3] at H
     have c3b0 : decide (x2_1 < x3_1) = false := decide_eq_false c3
     clear c3
     obtain rfl := Option.some.inj H
     go_wp2
     go_end0
     exact ⟨by rfl, (by (exact (by ((exact HO_0.out))))), HB.out, HK.out⟩
end Go.Y.PSo
